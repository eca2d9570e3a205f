import Derived.Test.YthekpjhffciakaaDoorProg
import Derived.KernelRfl
import Derived.Test.YthekpjhffciakaaDoorQ17
import Derived.Test.YthekpjhffciakaaDoorP4
import Derived.Test.YthekpjhffciakaaDoorQ10
namespace Go.Proofs.YthekpjhffciakaaDoor
open Go PG Go.Proofs
set_option linter.unusedSimpArgs false
set_option linter.unusedVariables false
set_option maxHeartbeats 4000000
set_option maxRecDepth 100000
variable {G : Globs}
def stripZ (l : List UInt8) : List UInt8 := (l.reverse.dropWhile (fun b => b == 48)).reverse
theorem stripZ_snoc (l : List UInt8) (b : UInt8) : stripZ (l ++ [b]) = if b = 48 then stripZ l else l ++ [b] := by
  unfold stripZ
  rw [List.reverse_append]
  by_cases h : b = 48
  · subst h; simp
  · rw [if_neg h]; simp [h]
def numT (n : Nat) : List UInt8 := if n % 1000000 / 100 = 0 then digT (n / 1000000) else (digT (n / 1000000) ++ [46]) ++ stripZ ((digT (10000 + n % 1000000 / 100)).drop 1)
theorem digT_len : ∀ (k n : Nat), n < 10 ^ (k + 1) → (digT n).length ≤ k + 1
  | 0, n, h => by rw [digT, if_pos (by omega)]; simp
  | k + 1, n, h => by
    rw [digT]
    split
    · simp
    · have := digT_len k (n / 10) (by rw [Nat.pow_succ] at h; omega)
      simp; omega
theorem dig5 (r : Nat) (h : r ≤ 9999) : digT (10000 + r) = [UInt8.ofNat (48 + 1), UInt8.ofNat (48 + r / 1000), UInt8.ofNat (48 + r / 100 % 10), UInt8.ofNat (48 + r / 10 % 10), UInt8.ofNat (48 + r % 10)] := by
  rw [digT, if_neg (by omega), digT, if_neg (by omega), digT, if_neg (by omega), digT, if_neg (by omega), digT, if_pos (by omega)]
  have e1 : (10000 + r) / 10 / 10 / 10 / 10 = 1 := by omega
  have e2 : (10000 + r) / 10 / 10 / 10 % 10 = r / 1000 := by omega
  have e3 : (10000 + r) / 10 / 10 % 10 = r / 100 % 10 := by omega
  have e4 : (10000 + r) / 10 % 10 = r / 10 % 10 := by omega
  have e5 : (10000 + r) % 10 = r % 10 := by omega
  rw [e1, e2, e3, e4, e5]
  rfl
theorem ofNat48 {d : Nat} (h : d ≤ 9) : (UInt8.ofNat (48 + d)).toNat = 48 + d := by
  simp [UInt8.toNat_ofNat]; omega
theorem v57 (n : Nat) (hn : n ≤ 1000000000000000000) : VCalls Tryd.prog G 57 [.int .i64 n] (.str (numT n)) := by
  refine VCalls.of_PW Tryd.func57 k57 mix (by simp [c57]) ?_
  simp only [c57, L57, CC, argE]
  have q1 : (n : Int).tdiv 1000000 = ((n / 1000000 : Nat) : Int) := by rw [Int.tdiv_eq_ediv_of_nonneg (by omega)]; simp
  have q2 : (n : Int).tmod 1000000 = ((n % 1000000 : Nat) : Int) := by rw [Int.tmod_eq_emod_of_nonneg (by omega)]; simp
  have q3 : ((n % 1000000 : Nat) : Int).tdiv 100 = ((n % 1000000 / 100 : Nat) : Int) := by rw [Int.tdiv_eq_ediv_of_nonneg (by omega)]; simp
  have h1 := v86 (G := G) (n / 1000000) (by omega)
  have h2 := v86 (G := G) (10000 + n % 1000000 / 100) (by omega)
  have hl1 := digT_len 18 (n / 1000000) (by have : (10 : Nat) ^ 19 = 10000000000000000000 := rfl; omega)
  have hr : n % 1000000 / 100 ≤ 9999 := by omega
  have h5 := dig5 _ hr
  unfold numT
  generalize n % 1000000 / 100 = r at *
  have w1 : IntKind.i64.wrap ((n / 1000000 : Nat) : Int) = ((n / 1000000 : Nat) : Int) := IntWalk.i64_in _ (by omega)
  have w2 : IntKind.i64.wrap ((n % 1000000 : Nat) : Int) = ((n % 1000000 : Nat) : Int) := IntWalk.i64_in _ (by omega)
  have w3 : IntKind.i64.wrap (r : Int) = (r : Int) := IntWalk.i64_in _ (by omega)
  have w4 : IntKind.i64.wrap (10000 + (r : Int)) = ((10000 + r : Nat) : Int) := by rw [IntWalk.i64_in _ (by omega)]; simp
  generalize digT (n / 1000000) = S at *
  by_cases hz : r = 0
  · have d1 : decide ((r : Int) = 0) = true := by simp only [decide_eq_true_eq]; omega
    repeat' (first | exact True.intro | (refine PW.seqK ?_; intro K hK) | refine pwB ?_ | refine pwS ?_ | refine pwL ?_ | refine pwE ?_ | refine pwR ?_ | refine pwK ?_ | refine seqK_n ‹_› ?_ | refine seqK_r ‹_› ?_ | refine seqK_e ‹_› ?_ | refine PW.regionA ?_ | exact schedW_stop_i | refine schK_n ‹_› ?_ | (refine schedW_alt_k ?_ ?_; focus (intro K hK; simp only [PV.bin, PV.binOk, binI, q1, q2, q3, w1, w2, w3, d1, SA, Nat.reduceAdd, reduceIte, Nat.reduceEqDiff, Nat.reduceBEq, reduceCtorEq]; (try go_unwrap; try simp only [PV.bin, PV.binOk, binI, q1, q2, q3, w1, w2, w3, d1, RR, reduceCtorEq]))) | (refine PW.cond rfl ?_ ?_ <;> intro hcond <;> (try contradiction) <;> try simp only [DD] at hcond) | (refine gd_i ?_; intro hg; try simp only [hg]) | refine goCall_W e86 (h1) ?_ ?_ ?_ ?_ | ((first | show (_ : Nat) ≤ _ | show (_ : Nat) < _ | show (_ : Int) ≤ _ | show (_ : Int) < _ | show (_ : Nat) = _ | show (_ : Int) = _ | show (_ : Bool) = _ | show _ ∨ _ | show ¬ _); first | omega | (simp only [DD, LL] <;> omega) | (go_unwrap; omega)) | ((first | refine PW.region ?_ | refine PW.regionQ ?_ | refine schedW_done_i ?_ | show (_ : Post) _ _ _ | show @Eq (List PV) _ _ | show @Eq Bool _ _ | show opsW _ _ _ _ _ _ _ _ | show okAll _ | show @Eq Bool _ _ ∨ _); focus (simp only [PV.bin, PV.binOk, binI, q1, q2, q3, w1, w2, w3, d1, SA, Nat.reduceAdd, reduceIte, Nat.reduceEqDiff, Nat.reduceBEq, reduceCtorEq]; (try go_unwrap; try simp only [PV.bin, PV.binOk, binI, q1, q2, q3, w1, w2, w3, d1, RR, reduceCtorEq]))) | refine And.intro ?_ ?_ | exact Or.inr ⟨rfl, Nat.le_refl _⟩ | exact (fun h => Bool.noConfusion h))
    all_goals rw [if_pos hz]
  · have d1 : decide ((r : Int) = 0) = false := by simp only [decide_eq_false_iff_not]; omega
    rw [if_neg hz]
    have hL : ((digT (10000 + r)).length : Nat) = 5 := by rw [h5]; rfl
    have hNZ : ∃ c ∈ (digT (10000 + r)).drop (Int.toNat 1), c ≠ 48 := by
      rw [h5]
      have key : ∀ d, d ≤ 9 → d ≠ 0 → UInt8.ofNat (48 + d) ≠ 48 := fun d hd hd0 e => by
        have := congrArg UInt8.toNat e
        rw [ofNat48 hd] at this
        have : (48 : UInt8).toNat = 48 := rfl
        omega
      by_cases c1 : r / 1000 = 0
      · by_cases c2 : r / 100 % 10 = 0
        · by_cases c3 : r / 10 % 10 = 0
          · exact ⟨_, by simp, key (r % 10) (by omega) (by omega)⟩
          · exact ⟨_, by simp, key (r / 10 % 10) (by omega) c3⟩
        · exact ⟨_, by simp, key (r / 100 % 10) (by omega) c2⟩
      · exact ⟨_, by simp, key (r / 1000) (by omega) c1⟩
    have hdr : (digT (10000 + r)).drop 1 = (digT (10000 + r)).drop (Int.toNat 1) := rfl
    rw [hdr]
    have hdl : ((digT (10000 + r)).drop (Int.toNat 1)).length ≤ 4 := by rw [List.length_drop, hL]; decide
    clear h5 hdr
    repeat' (first | exact True.intro | (refine PW.seqK ?_; intro K hK) | refine pwB ?_ | refine pwS ?_ | refine pwL ?_ | refine pwE ?_ | refine pwR ?_ | refine pwK ?_ | refine seqK_n ‹_› ?_ | refine seqK_r ‹_› ?_ | refine seqK_e ‹_› ?_ | refine PW.regionA ?_ | exact schedW_stop_i | refine schK_n ‹_› ?_ | (refine schedW_alt_k ?_ ?_; focus (intro K hK; simp only [PV.bin, PV.binOk, binI, q1, q2, q3, w1, w2, w3, w4, d1, hL, SA, Nat.reduceAdd, reduceIte, Nat.reduceEqDiff, Nat.reduceBEq, reduceCtorEq]; (try go_unwrap; try simp only [PV.bin, PV.binOk, binI, q1, q2, q3, w1, w2, w3, w4, d1, hL, RR, reduceCtorEq]))) | (refine PW.cond rfl ?_ ?_ <;> intro hcond <;> (try contradiction) <;> try simp only [DD] at hcond) | (apply goCall_V e86; (case hV => (simp only [PV.bin, PV.binOk, binI, q1, q2, q3, w1, w2, w3, w4, d1, hL, SA, Nat.reduceAdd, reduceIte, Nat.reduceEqDiff, Nat.reduceBEq, reduceCtorEq]; (try go_unwrap; try simp only [PV.bin, PV.binOk, binI, q1, q2, q3, w1, w2, w3, w4, d1, hL, RR, reduceCtorEq]); exact h1)); (try (case hs => rfl)); (try (case hf => first | exact Or.inl rfl | exact Or.inr ⟨rfl, rfl⟩ | (refine Or.inl ?_; simp only [PV.bin, PV.binOk, binI, q1, q2, q3, w1, w2, w3, w4, d1, hL, SA, Nat.reduceAdd, reduceIte, Nat.reduceEqDiff, Nat.reduceBEq, reduceCtorEq]; done) | (refine Or.inr ⟨rfl, ?_⟩; simp only [PV.bin, PV.binOk, binI, q1, q2, q3, w1, w2, w3, w4, d1, hL, SA, Nat.reduceAdd, reduceIte, Nat.reduceEqDiff, Nat.reduceBEq, reduceCtorEq]; done))); all_goals (first | (simp only [PV.bin, PV.binOk, binI, q1, q2, q3, w1, w2, w3, w4, d1, hL, SA, Nat.reduceAdd, reduceIte, Nat.reduceEqDiff, Nat.reduceBEq, reduceCtorEq]; (try go_unwrap; try simp only [PV.bin, PV.binOk, binI, q1, q2, q3, w1, w2, w3, w4, d1, hL, RR, reduceCtorEq])) | (show Env; skip) | (show Mem; skip))) | (apply goCall_V e86; (case hV => (simp only [PV.bin, PV.binOk, binI, q1, q2, q3, w1, w2, w3, w4, d1, hL, SA, Nat.reduceAdd, reduceIte, Nat.reduceEqDiff, Nat.reduceBEq, reduceCtorEq]; (try go_unwrap; try simp only [PV.bin, PV.binOk, binI, q1, q2, q3, w1, w2, w3, w4, d1, hL, RR, reduceCtorEq]); exact h2)); (try (case hs => rfl)); (try (case hf => first | exact Or.inl rfl | exact Or.inr ⟨rfl, rfl⟩ | (refine Or.inl ?_; simp only [PV.bin, PV.binOk, binI, q1, q2, q3, w1, w2, w3, w4, d1, hL, SA, Nat.reduceAdd, reduceIte, Nat.reduceEqDiff, Nat.reduceBEq, reduceCtorEq]; done) | (refine Or.inr ⟨rfl, ?_⟩; simp only [PV.bin, PV.binOk, binI, q1, q2, q3, w1, w2, w3, w4, d1, hL, SA, Nat.reduceAdd, reduceIte, Nat.reduceEqDiff, Nat.reduceBEq, reduceCtorEq]; done))); all_goals (first | (simp only [PV.bin, PV.binOk, binI, q1, q2, q3, w1, w2, w3, w4, d1, hL, SA, Nat.reduceAdd, reduceIte, Nat.reduceEqDiff, Nat.reduceBEq, reduceCtorEq]; (try go_unwrap; try simp only [PV.bin, PV.binOk, binI, q1, q2, q3, w1, w2, w3, w4, d1, hL, RR, reduceCtorEq])) | (show Env; skip) | (show Mem; skip))) | (refine gd_i ?_; intro hg; try simp only [hg]) | ((first | show (_ : Nat) ≤ _ | show (_ : Nat) < _ | show (_ : Int) ≤ _ | show (_ : Int) < _ | show (_ : Nat) = _ | show (_ : Int) = _ | show (_ : Bool) = _ | show _ ∨ _ | show ¬ _); first | omega | (simp only [DD, LL] <;> omega) | (go_unwrap; omega)) | ((first | refine PW.region ?_ | refine PW.regionQ ?_ | refine schedW_done_i ?_ | show (_ : Post) _ _ _ | show @Eq (List PV) _ _ | show @Eq Bool _ _ | show opsW _ _ _ _ _ _ _ _ | show okAll _ | show @Eq Bool _ _ ∨ _); focus (simp only [PV.bin, PV.binOk, binI, q1, q2, q3, w1, w2, w3, w4, d1, hL, SA, Nat.reduceAdd, reduceIte, Nat.reduceEqDiff, Nat.reduceBEq, reduceCtorEq]; (try go_unwrap; try simp only [PV.bin, PV.binOk, binI, q1, q2, q3, w1, w2, w3, w4, d1, hL, RR, reduceCtorEq]))) | refine And.intro ?_ ?_ | exact Or.inr ⟨rfl, Nat.le_refl _⟩ | exact (fun h => Bool.noConfusion h))
    generalize (digT (10000 + r)).drop (Int.toNat 1) = b0 at *
    refine PW.loop (σ := List UInt8) [3, 5] (fun b => [.str S, .str b]) (fun _ => []) (fun b => stripZ b0 = stripZ b ∧ (∃ c ∈ b, c ≠ 48) ∧ b.length ≤ 4) (fun b => b.length) b0 ?_ rfl ⟨rfl, hNZ, hdl⟩ ?_
    · simp only [SA, Nat.reduceAdd, reduceIte, Nat.reduceEqDiff, Nat.reduceBEq, reduceCtorEq]; rfl
    rintro b ⟨hb1, hb2, hb3⟩
    simp only [List.zip_cons_cons, List.zip_nil_left]
    rcases List.eq_nil_or_concat b with rfl | ⟨b', c, rfl⟩
    · obtain ⟨c, hc, -⟩ := hb2; simp at hc
    rw [List.concat_eq_append] at *
    have hlen : ((b' ++ [c]).length : Nat) = b'.length + 1 := by simp
    have hg : (b' ++ [c]).getD b'.length 0 = c := by simp [List.getD]
    have hti : (((b'.length + 1 : Nat) : Int) - 1).toNat = b'.length := by omega
    have htk : (b' ++ [c]).take b'.length = b' := by simp
    rw [stripZ_snoc] at hb1
    by_cases h48 : c = 48
    · subst h48
      rw [if_pos rfl] at hb1
      have d2 : decide (((48 : UInt8).toNat : Int) = 48) = true := rfl
      repeat' (first | exact True.intro | (refine PW.seqK ?_; intro K hK) | refine pwB ?_ | refine pwS ?_ | refine pwL ?_ | refine pwE ?_ | refine pwR ?_ | refine pwK ?_ | refine seqK_n ‹_› ?_ | refine seqK_r ‹_› ?_ | refine seqK_e ‹_› ?_ | refine PW.regionA ?_ | exact schedW_stop_i | refine schK_n ‹_› ?_ | (refine schedW_alt_k ?_ ?_; focus (intro K hK; simp only [PV.bin, PV.binOk, binI, hlen, hti, hg, htk, d2, SA, Nat.reduceAdd, reduceIte, Nat.reduceEqDiff, Nat.reduceBEq, reduceCtorEq]; (try go_unwrap; try simp only [PV.bin, PV.binOk, binI, hlen, hti, hg, htk, d2, RR, reduceCtorEq]))) | (refine PW.cond rfl ?_ ?_ <;> intro hcond <;> (try contradiction) <;> try simp only [DD] at hcond) | (refine gd_i ?_; intro hg; try simp only [hg]) | ((first | show (_ : Nat) ≤ _ | show (_ : Nat) < _ | show (_ : Int) ≤ _ | show (_ : Int) < _ | show (_ : Nat) = _ | show (_ : Int) = _ | show (_ : Bool) = _ | show _ ∨ _ | show ¬ _); first | omega | (simp only [DD, LL] <;> omega) | (go_unwrap; omega)) | ((first | refine PW.region ?_ | refine PW.regionQ ?_ | refine schedW_done_i ?_ | show (_ : Post) _ _ _ | show @Eq (List PV) _ _ | show @Eq Bool _ _ | show opsW _ _ _ _ _ _ _ _ | show okAll _ | show @Eq Bool _ _ ∨ _); focus (simp only [PV.bin, PV.binOk, binI, hlen, hti, hg, htk, d2, SA, Nat.reduceAdd, reduceIte, Nat.reduceEqDiff, Nat.reduceBEq, reduceCtorEq]; (try go_unwrap; try simp only [PV.bin, PV.binOk, binI, hlen, hti, hg, htk, d2, RR, reduceCtorEq]))) | refine And.intro ?_ ?_ | exact Or.inr ⟨rfl, Nat.le_refl _⟩ | exact (fun h => Bool.noConfusion h))
      all_goals first | exact ⟨b', rfl, ⟨hb1, by
        obtain ⟨x, hx, hx2⟩ := hb2
        rcases List.mem_append.1 hx with hx | hx
        · exact ⟨x, hx, hx2⟩
        · simp at hx; exact absurd hx hx2, by simp at hb3; omega⟩, by simp⟩ | omega
    · rw [if_neg h48] at hb1
      have d2 : decide ((c.toNat : Int) = 48) = false := by
        rw [decide_eq_false_iff_not]; exact fun h => h48 (UInt8.toNat_inj.1 (Int.ofNat.inj h))
      have hl2 : (b' ++ [c]).length ≤ 4 := hb3
      repeat' (first | exact True.intro | (refine PW.seqK ?_; intro K hK) | refine pwB ?_ | refine pwS ?_ | refine pwL ?_ | refine pwE ?_ | refine pwR ?_ | refine pwK ?_ | refine seqK_n ‹_› ?_ | refine seqK_r ‹_› ?_ | refine seqK_e ‹_› ?_ | refine PW.regionA ?_ | exact schedW_stop_i | refine schK_n ‹_› ?_ | (refine schedW_alt_k ?_ ?_; focus (intro K hK; simp only [PV.bin, PV.binOk, binI, hlen, hti, hg, htk, d2, SA, Nat.reduceAdd, reduceIte, Nat.reduceEqDiff, Nat.reduceBEq, reduceCtorEq]; (try go_unwrap; try simp only [PV.bin, PV.binOk, binI, hlen, hti, hg, htk, d2, RR, reduceCtorEq]))) | (refine PW.cond rfl ?_ ?_ <;> intro hcond <;> (try contradiction) <;> try simp only [DD] at hcond) | (refine gd_i ?_; intro hg; try simp only [hg]) | ((first | show (_ : Nat) ≤ _ | show (_ : Nat) < _ | show (_ : Int) ≤ _ | show (_ : Int) < _ | show (_ : Nat) = _ | show (_ : Int) = _ | show (_ : Bool) = _ | show _ ∨ _ | show ¬ _); first | omega | (simp only [DD, LL] <;> omega) | (go_unwrap; omega)) | ((first | refine PW.region ?_ | refine PW.regionQ ?_ | refine schedW_done_i ?_ | show (_ : Post) _ _ _ | show @Eq (List PV) _ _ | show @Eq Bool _ _ | show opsW _ _ _ _ _ _ _ _ | show okAll _ | show @Eq Bool _ _ ∨ _); focus (simp only [PV.bin, PV.binOk, binI, hlen, hti, hg, htk, d2, SA, Nat.reduceAdd, reduceIte, Nat.reduceEqDiff, Nat.reduceBEq, reduceCtorEq]; (try go_unwrap; try simp only [PV.bin, PV.binOk, binI, hlen, hti, hg, htk, d2, RR, reduceCtorEq]))) | refine And.intro ?_ ?_ | exact Or.inr ⟨rfl, Nat.le_refl _⟩ | exact (fun h => Bool.noConfusion h))
      all_goals first | (rw [hb1]; done) | (simp at hb3 ⊢; omega)
end Go.Proofs.YthekpjhffciakaaDoor

namespace Go.Proofs.YthekpjhffciakaaDoor
open PG Go.Proofs
-- (wagebook/expr.Tree).Text$1
def L55d : List Nat := [0, 1, 2, 3, 6, 7, 8, 9, 10, 11, 24, 31, 37, 43, 44, 45, 46, 51, 82]
def c55d : CF := ⟨87,
  .seq (.region false [⟨some 6, none, .rd .mov [.pv (.str [])]⟩] L55d)
  (.seq (.region false [oF 0 12 2,
     oL 13 12,
     oM 14 0,
     ⟨some 15, none, .rd (.idxAddr (some 4)) [.tmp 13, .tmp 14]⟩,
     ⟨some 16, none, .rd (.load (some 4)) [.tmp 15]⟩,
     ⟨some 7, none, .eff (.alloc (some 4) (.agg [(.int .i64 0), (.int .i64 0), (.str []), .nilSl])) []⟩,
     ⟨none, none, .eff (.store (some 4)) [.tmp 7, .tmp 16]⟩] L55d)
  (.seq (.region false [oF 0 17 7,
     oL 18 17,
     ⟨some 19, none, .call (.pv (.fn 56 [] [])) [.tmp 18]⟩,
     oM 8 19] L55d)
  (.seq (.region false [oF 0 20 7,
     oL 21 20,
     ⟨some 22, none, .rd (.idxAddrA 10 none) [.glob 0, .tmp 21]⟩,
     oL 23 22,
     oM 9 23] L55d)
  (.seq (.block 0
    (.seq (.region false [oF 0 25 7,
        oL 26 25,
        ⟨some 27, none, .rd (.bin .eql) [.tmp 26, .pv (.int .i64 0)]⟩,
        oM 24 27] L55d)
     (.cond (.tmp 24)
      (.seq (.region false [oF 1 28 7,
          oL 29 28,
          ⟨some 30, none, .call (.pv (.fn 57 [] [])) [.tmp 29]⟩,
          oM 6 30] L55d)
       (.ret))
      (.seq (.region false [oF 0 32 7,
          oL 33 32,
          ⟨some 34, none, .rd (.bin .eql) [.tmp 33, .pv (.int .i64 1)]⟩,
          oM 31 34] L55d)
       (.cond (.tmp 31)
        (.seq (.region false [oF 2 35 7,
            oL 36 35,
            oM 6 36] L55d)
         (.ret))
        (.seq (.region false [oM 38 8,
            ⟨some 39, none, .rd (.bin .eql) [.tmp 38, .pv (.int .i64 3)]⟩,
            oM 37 39] L55d)
         (.cond (.tmp 37)
          (.seq (.region false [oM 40 9,
              ⟨some 41, none, .rd (.bin .add) [.tmp 40, .pv (.str [40])]⟩,
              oM 9 41] L55d)
           (.seq (.seq (.region false [oF 3 42 7,
               oL 43 42,
               ⟨some 44, none, .rd .lenL [.tmp 43]⟩,
               ⟨some 45, none, .rd .mov [.pv (.int .i64 0)]⟩] L55d)
            (.block 1
             (.loop
               (.seq (.region false [⟨some 46, none, .rd (.bin .lss) [.tmp 45, .tmp 44]⟩] L55d)
                (.seq (.cond (.tmp 46)
                  (.skip)
                  (.exit 1))
                (.seq (.block 2
                  (.seq (.region false [oM 47 45,
                      ⟨some 48, none, .rd (.idxAddr none) [.tmp 43, .tmp 45]⟩,
                      oL 49 48,
                      oM 10 47,
                      oM 11 49] L55d)
                   (.seq (.seq (.region false [oM 50 10,
                       ⟨some 51, none, .rd (.bin .gtr) [.tmp 50, .pv (.int .i64 0)]⟩] L55d)
                    (.cond (.tmp 51)
                     (.region false [oM 52 9,
                        ⟨some 53, none, .rd (.bin .add) [.tmp 52, .pv (.str [44])]⟩,
                        oM 9 53] L55d)
                     (.skip)))
                   (.region false [oM 54 9,
                     oL 55 3,
                     oM 56 11,
                     ⟨some 57, none, .call (.tmp 55) [.tmp 56, .pv (.int .i64 0)]⟩,
                     ⟨some 58, none, .rd (.bin .add) [.tmp 54, .tmp 57]⟩,
                     oM 9 58] L55d))))
                (.region false [⟨some 59, none, .rd (.bin .add) [.tmp 45, .pv (.int .i64 1)]⟩,
                  oM 45 59] L55d)))))))
           (.seq (.region false [oM 60 9,
              ⟨some 61, none, .rd (.bin .add) [.tmp 60, .pv (.str [41])]⟩,
              oM 6 61] L55d)
           (.ret))))
          (.skip))))))))
  (.seq (.regionA (.alt [oF 3 63 7,
      ⟨some 64, none, .rd .loadC [.tmp 63]⟩,
      ⟨some 65, none, .rd (.idxAddr none) [.tmp 64, .pv (.int .i64 0)]⟩,
      ⟨some 66, none, .rd .loadC [.tmp 65]⟩,
      oM 67 8,
      oM 69 9,
      oF 3 72 7,
      ⟨some 73, none, .rd .loadC [.tmp 72]⟩,
      ⟨some 74, none, .rd (.idxAddr none) [.tmp 73, .pv (.int .i64 1)]⟩,
      ⟨some 75, none, .rd .loadC [.tmp 74]⟩,
      oM 76 8,
      ⟨some 77, none, .rd (.bin .add) [.tmp 76, .pv (.int .i64 1)]⟩]
     (.alt [oL 62 3]
      (.alt [⟨some 68, none, .call (.tmp 62) [.tmp 66, .tmp 67]⟩,
        ⟨some 70, none, .rd (.bin .add) [.tmp 68, .tmp 69]⟩,
        oL 71 3,
        ⟨some 78, none, .call (.tmp 71) [.tmp 75, .tmp 77]⟩,
        ⟨some 79, none, .rd (.bin .add) [.tmp 70, .tmp 78]⟩,
        oM 9 79]
       .done
       (.alt [oL 71 3,
         ⟨some 68, none, .call (.tmp 62) [.tmp 66, .tmp 67]⟩,
         ⟨some 70, none, .rd (.bin .add) [.tmp 68, .tmp 69]⟩,
         ⟨some 78, none, .call (.tmp 71) [.tmp 75, .tmp 77]⟩,
         ⟨some 79, none, .rd (.bin .add) [.tmp 70, .tmp 78]⟩,
         oM 9 79]
        .done
        .stop))
      (.alt [oL 71 3,
        oL 62 3,
        ⟨some 68, none, .call (.tmp 62) [.tmp 66, .tmp 67]⟩,
        ⟨some 70, none, .rd (.bin .add) [.tmp 68, .tmp 69]⟩,
        ⟨some 78, none, .call (.tmp 71) [.tmp 75, .tmp 77]⟩,
        ⟨some 79, none, .rd (.bin .add) [.tmp 70, .tmp 78]⟩,
        oM 9 79]
       .done
       .stop))
     .stop) L55d)
  (.seq (.seq (.region false [oM 80 8,
      oM 81 1,
      ⟨some 82, none, .rd (.bin .lss) [.tmp 80, .tmp 81]⟩] L55d)
   (.cond (.tmp 82)
    (.seq (.region false [oM 83 9,
        ⟨some 84, none, .rd (.bin .add) [.pv (.str [40]), .tmp 83]⟩,
        ⟨some 85, none, .rd (.bin .add) [.tmp 84, .pv (.str [41])]⟩,
        oM 6 85] L55d)
     (.ret))
    (.skip)))
  (.seq (.region false [oM 86 9,
     oM 6 86] L55d)
  (.ret)))))))),
  [.tmp 6]⟩
theorem k55d : compileF Tryd.prog [999999, 888888, 100062, 100071] L55d Tryd.f55 = some c55d := by kernel_rfl
end Go.Proofs.YthekpjhffciakaaDoor

namespace Go.Proofs.YthekpjhffciakaaDoor
open Go PG Go.Proofs
set_option linter.unusedSimpArgs false
set_option linter.unusedVariables false
set_option maxHeartbeats 4000000
set_option maxRecDepth 100000
/-! The program's text of a tree -/
theorem e55 : Ent Tryd.prog 55 := ⟨Tryd.f55, Tryd.func55, by kernel_rfl, by kernel_rfl⟩
def wordsL : List (List UInt8) := [[], [], [43], [45], [42], [108, 101, 97, 115, 116], [109, 111, 115, 116], [105, 102], [108, 101, 115, 115], [101, 113, 117, 97, 108]]
def wordM (op : Int) : List UInt8 := wordsL.getD op.toNat []
def joinL (f : Int → List UInt8) : List Int → Nat → List UInt8 → List UInt8
  | [], _, s => s
  | k :: ks, i, s => joinL f ks (i + 1) ((if 0 < i then s ++ [44] else s) ++ f k)
def textM (l : List Nd) : Nat → Int → Int → List UInt8
  | 0, _, _ => []
  | k + 1, i, least =>
    if (l.getD i.toNat default).op = 0 then numT (l.getD i.toNat default).num.toNat
    else if (l.getD i.toNat default).op = 1 then (l.getD i.toNat default).name
    else if strongM (l.getD i.toNat default).op = 3 then joinL (fun c => textM l k c 0) (l.getD i.toNat default).kids 0 (wordM (l.getD i.toNat default).op ++ [40]) ++ [41]
    else if strongM (l.getD i.toNat default).op < least then ([40] ++ ((textM l k ((l.getD i.toNat default).kids.getD 0 0) (strongM (l.getD i.toNat default).op) ++ wordM (l.getD i.toNat default).op) ++ textM l k ((l.getD i.toNat default).kids.getD 1 0) (strongM (l.getD i.toNat default).op + 1))) ++ [41]
    else (textM l k ((l.getD i.toNat default).kids.getD 0 0) (strongM (l.getD i.toNat default).op) ++ wordM (l.getD i.toNat default).op) ++ textM l k ((l.getD i.toNat default).kids.getD 1 0) (strongM (l.getD i.toNat default).op + 1)
/-- A node that is right by itself. -/
structure NdOk (n : Nd) : Prop where
  op0 : 0 ≤ n.op
  op9 : n.op ≤ 9
  num : n.op = 0 → 0 ≤ n.num ∧ n.num ≤ 1000000000000000000
  name : n.name.length ≤ 100
  kids : n.kids.length ≤ 3
  two : 2 ≤ n.op → n.op ≤ 4 → n.kids.length = 2
/-- A node whose tree is no deeper than told. -/
def fitsD (l : List Nd) : Nat → Int → Prop
  | 0, _ => False
  | k + 1, i => 0 ≤ i ∧ i.toNat < l.length ∧ NdOk (l.getD i.toNat default) ∧ ∀ c ∈ (l.getD i.toNat default).kids, fitsD l k c
theorem word_le (op : Int) : (wordM op).length ≤ 5 := by
  unfold wordM
  rw [List.getD_eq_getElem?_getD]
  cases h : wordsL[op.toNat]? with
  | none => simp
  | some w =>
    have : ∀ w ∈ wordsL, w.length ≤ 5 := by decide
    exact this w (List.mem_of_getElem? h)
theorem strip_le (l : List UInt8) : (stripZ l).length ≤ l.length := by
  unfold stripZ
  rw [List.length_reverse]
  exact Nat.le_trans (List.dropWhile_suffix _).length_le (by simp)
theorem numT_le {n : Nat} (h : n ≤ 1000000000000000000) : (numT n).length ≤ 30 := by
  have hl1 := digT_len 18 (n / 1000000) (by have : (10 : Nat) ^ 19 = 10000000000000000000 := rfl; omega)
  unfold numT
  split
  · omega
  · have h5 := dig5 (n % 1000000 / 100) (by omega)
    have := strip_le ((digT (10000 + n % 1000000 / 100)).drop 1)
    have hd : ((digT (10000 + n % 1000000 / 100)).drop 1).length = 4 := by rw [h5]; rfl
    simp only [List.length_append, List.length_cons, List.length_nil]
    omega
theorem join_le {f : Int → List UInt8} {B : Nat} : ∀ (ks : List Int) (i : Nat) (s : List UInt8), (∀ c ∈ ks, (f c).length ≤ B) → (joinL f ks i s).length ≤ s.length + ks.length * (B + 1)
  | [], _, s, _ => by simp [joinL]
  | k :: ks, i, s, h => by
    have h1 := h k (by simp)
    have h2 := join_le ks (i + 1) ((if 0 < i then s ++ [44] else s) ++ f k) (fun c hc => h c (by simp [hc]))
    have h3 : ((if 0 < i then s ++ [44] else s) ++ f k).length ≤ s.length + 1 + B := by
      split <;> simp <;> omega
    simp only [joinL, List.length_cons, Nat.add_mul, Nat.one_mul] at h2 ⊢
    omega
theorem text_le (l : List Nd) : ∀ (k : Nat) (i least : Int), fitsD l k i → (textM l k i least).length ≤ 100 * 4 ^ k
  | 0, i, least, h => h.elim
  | k + 1, i, least, h => by
    obtain ⟨h1, h2, h3, h4⟩ := h
    have hp : 0 < 4 ^ k := Nat.pow_pos (by omega)
    have hpp : 4 ^ (k + 1) = 4 * 4 ^ k := by rw [Nat.pow_succ]; omega
    rw [hpp]
    unfold textM
    generalize l.getD i.toNat default = n at *
    have hw := word_le n.op
    split
    · rename_i h0
      have := numT_le (n := n.num.toNat) (by have := h3.num h0; omega)
      omega
    · split
      · have := h3.name; omega
      · have hkl := h3.kids
        split
        · have := join_le (f := fun c => textM l k c 0) (B := 100 * 4 ^ k) n.kids 0 (wordM n.op ++ [40]) (fun c hc => text_le l k c 0 (h4 c hc))
          simp only [List.length_append, List.length_cons, List.length_nil] at this ⊢
          have h5 : n.kids.length * (100 * 4 ^ k + 1) ≤ 3 * (100 * 4 ^ k + 1) := Nat.mul_le_mul_right _ hkl
          omega
        · rename_i hs
          have h24 : 2 ≤ n.op ∧ n.op ≤ 4 := by
            have := h3.op0; have := h3.op9
            unfold strongM at hs
            by_cases a : n.op = 2 ∨ n.op = 3
            · omega
            · rw [if_neg a] at hs
              by_cases b : n.op = 4
              · omega
              · rw [if_neg b] at hs; exact absurd rfl hs
          have hk2 := h3.two h24.1 h24.2
          obtain ⟨a, b, hab⟩ : ∃ a b, n.kids = [a, b] := by
            match n.kids, hk2 with
            | [a, b], _ => exact ⟨a, b, rfl⟩
          rw [hab] at h4 ⊢
          have ha := fun z => text_le l k a z (h4 a (by simp))
          have hb := fun z => text_le l k b z (h4 b (by simp))
          have ha := ha (strongM n.op)
          have hb := hb (strongM n.op + 1)
          simp only [List.getD_cons_zero, List.getD_cons_succ]
          split <;> simp only [List.length_append, List.length_cons, List.length_nil] <;> omega
end Go.Proofs.YthekpjhffciakaaDoor

namespace Go.Proofs.YthekpjhffciakaaDoor
open Go PG Go.Proofs
set_option linter.unusedSimpArgs false
set_option linter.unusedVariables false
set_option maxRecDepth 100000
/-! The examples -/
def sA : List UInt8 := [97, 43, 50, 42, 40, 98, 45, 99, 41]
def sB : List UInt8 := [97, 45, 40, 98, 43, 99, 41]
def sC : List UInt8 := [40, 97, 45, 98, 41, 43, 99]
def sC' : List UInt8 := [97, 45, 98, 43, 99]
def tA : List Nd := [⟨1, 0, [97], []⟩, ⟨0, 2000000, [], []⟩, ⟨1, 0, [98], []⟩, ⟨1, 0, [99], []⟩, ⟨3, 0, [], [2, 3]⟩, ⟨4, 0, [], [1, 4]⟩, ⟨2, 0, [], [0, 5]⟩]
def tB : List Nd := [⟨1, 0, [97], []⟩, ⟨1, 0, [98], []⟩, ⟨1, 0, [99], []⟩, ⟨2, 0, [], [1, 2]⟩, ⟨3, 0, [], [0, 3]⟩]
def tC : List Nd := [⟨1, 0, [97], []⟩, ⟨1, 0, [98], []⟩, ⟨3, 0, [], [0, 1]⟩, ⟨1, 0, [99], []⟩, ⟨2, 0, [], [2, 3]⟩]
def lA : List Tok := [(1, [97], 0), (3, [43], 1), (2, [50], 2), (3, [42], 3), (3, [40], 4), (1, [98], 5), (3, [45], 6), (1, [99], 7), (3, [41], 8), (0, [], 9)]
def lB : List Tok := [(1, [97], 0), (3, [45], 1), (3, [40], 2), (1, [98], 3), (3, [43], 4), (1, [99], 5), (3, [41], 6), (0, [], 7)]
def lC : List Tok := [(3, [40], 0), (1, [97], 1), (3, [45], 2), (1, [98], 3), (3, [41], 4), (3, [43], 5), (1, [99], 6), (0, [], 7)]
theorem allA : allE sA = .ok lA := by
  unfold allE sA
  rw [if_neg (by decide)]
  rw [scanA, if_neg (by decide), show tokE 0 [97, 43, 50, 42, 40, 98, 45, 99, 41] = .ok (1, 1) from rfl]
  simp only [List.drop_succ_cons, List.drop_zero, Nat.add_one_sub_one, Nat.reduceSub, List.take_succ_cons, List.take_zero, Nat.zero_add, Nat.reduceAdd, List.nil_append]
  rw [scanA, if_neg (by decide), show tokE 1 [43, 50, 42, 40, 98, 45, 99, 41] = .ok (3, 1) from rfl]
  simp only [List.drop_succ_cons, List.drop_zero, Nat.add_one_sub_one, Nat.reduceSub, List.take_succ_cons, List.take_zero, Nat.zero_add, Nat.reduceAdd, List.nil_append]
  rw [scanA, if_neg (by decide), show tokE 2 [50, 42, 40, 98, 45, 99, 41] = .ok (2, 1) from rfl]
  simp only [List.drop_succ_cons, List.drop_zero, Nat.add_one_sub_one, Nat.reduceSub, List.take_succ_cons, List.take_zero, Nat.zero_add, Nat.reduceAdd, List.nil_append]
  rw [scanA, if_neg (by decide), show tokE 3 [42, 40, 98, 45, 99, 41] = .ok (3, 1) from rfl]
  simp only [List.drop_succ_cons, List.drop_zero, Nat.add_one_sub_one, Nat.reduceSub, List.take_succ_cons, List.take_zero, Nat.zero_add, Nat.reduceAdd, List.nil_append]
  rw [scanA, if_neg (by decide), show tokE 4 [40, 98, 45, 99, 41] = .ok (3, 1) from rfl]
  simp only [List.drop_succ_cons, List.drop_zero, Nat.add_one_sub_one, Nat.reduceSub, List.take_succ_cons, List.take_zero, Nat.zero_add, Nat.reduceAdd, List.nil_append]
  rw [scanA, if_neg (by decide), show tokE 5 [98, 45, 99, 41] = .ok (1, 1) from rfl]
  simp only [List.drop_succ_cons, List.drop_zero, Nat.add_one_sub_one, Nat.reduceSub, List.take_succ_cons, List.take_zero, Nat.zero_add, Nat.reduceAdd, List.nil_append]
  rw [scanA, if_neg (by decide), show tokE 6 [45, 99, 41] = .ok (3, 1) from rfl]
  simp only [List.drop_succ_cons, List.drop_zero, Nat.add_one_sub_one, Nat.reduceSub, List.take_succ_cons, List.take_zero, Nat.zero_add, Nat.reduceAdd, List.nil_append]
  rw [scanA, if_neg (by decide), show tokE 7 [99, 41] = .ok (1, 1) from rfl]
  simp only [List.drop_succ_cons, List.drop_zero, Nat.add_one_sub_one, Nat.reduceSub, List.take_succ_cons, List.take_zero, Nat.zero_add, Nat.reduceAdd, List.nil_append]
  rw [scanA, if_neg (by decide), show tokE 8 [41] = .ok (3, 1) from rfl]
  simp only [List.drop_succ_cons, List.drop_zero, Nat.add_one_sub_one, Nat.reduceSub, List.take_succ_cons, List.take_zero, Nat.zero_add, Nat.reduceAdd, List.nil_append]
  rw [scanA]
  rfl
theorem allB : allE sB = .ok lB := by
  unfold allE sB
  rw [if_neg (by decide)]
  rw [scanA, if_neg (by decide), show tokE 0 [97, 45, 40, 98, 43, 99, 41] = .ok (1, 1) from rfl]
  simp only [List.drop_succ_cons, List.drop_zero, Nat.add_one_sub_one, Nat.reduceSub, List.take_succ_cons, List.take_zero, Nat.zero_add, Nat.reduceAdd, List.nil_append]
  rw [scanA, if_neg (by decide), show tokE 1 [45, 40, 98, 43, 99, 41] = .ok (3, 1) from rfl]
  simp only [List.drop_succ_cons, List.drop_zero, Nat.add_one_sub_one, Nat.reduceSub, List.take_succ_cons, List.take_zero, Nat.zero_add, Nat.reduceAdd, List.nil_append]
  rw [scanA, if_neg (by decide), show tokE 2 [40, 98, 43, 99, 41] = .ok (3, 1) from rfl]
  simp only [List.drop_succ_cons, List.drop_zero, Nat.add_one_sub_one, Nat.reduceSub, List.take_succ_cons, List.take_zero, Nat.zero_add, Nat.reduceAdd, List.nil_append]
  rw [scanA, if_neg (by decide), show tokE 3 [98, 43, 99, 41] = .ok (1, 1) from rfl]
  simp only [List.drop_succ_cons, List.drop_zero, Nat.add_one_sub_one, Nat.reduceSub, List.take_succ_cons, List.take_zero, Nat.zero_add, Nat.reduceAdd, List.nil_append]
  rw [scanA, if_neg (by decide), show tokE 4 [43, 99, 41] = .ok (3, 1) from rfl]
  simp only [List.drop_succ_cons, List.drop_zero, Nat.add_one_sub_one, Nat.reduceSub, List.take_succ_cons, List.take_zero, Nat.zero_add, Nat.reduceAdd, List.nil_append]
  rw [scanA, if_neg (by decide), show tokE 5 [99, 41] = .ok (1, 1) from rfl]
  simp only [List.drop_succ_cons, List.drop_zero, Nat.add_one_sub_one, Nat.reduceSub, List.take_succ_cons, List.take_zero, Nat.zero_add, Nat.reduceAdd, List.nil_append]
  rw [scanA, if_neg (by decide), show tokE 6 [41] = .ok (3, 1) from rfl]
  simp only [List.drop_succ_cons, List.drop_zero, Nat.add_one_sub_one, Nat.reduceSub, List.take_succ_cons, List.take_zero, Nat.zero_add, Nat.reduceAdd, List.nil_append]
  rw [scanA]
  rfl
theorem allC : allE sC = .ok lC := by
  unfold allE sC
  rw [if_neg (by decide)]
  rw [scanA, if_neg (by decide), show tokE 0 [40, 97, 45, 98, 41, 43, 99] = .ok (3, 1) from rfl]
  simp only [List.drop_succ_cons, List.drop_zero, Nat.add_one_sub_one, Nat.reduceSub, List.take_succ_cons, List.take_zero, Nat.zero_add, Nat.reduceAdd, List.nil_append]
  rw [scanA, if_neg (by decide), show tokE 1 [97, 45, 98, 41, 43, 99] = .ok (1, 1) from rfl]
  simp only [List.drop_succ_cons, List.drop_zero, Nat.add_one_sub_one, Nat.reduceSub, List.take_succ_cons, List.take_zero, Nat.zero_add, Nat.reduceAdd, List.nil_append]
  rw [scanA, if_neg (by decide), show tokE 2 [45, 98, 41, 43, 99] = .ok (3, 1) from rfl]
  simp only [List.drop_succ_cons, List.drop_zero, Nat.add_one_sub_one, Nat.reduceSub, List.take_succ_cons, List.take_zero, Nat.zero_add, Nat.reduceAdd, List.nil_append]
  rw [scanA, if_neg (by decide), show tokE 3 [98, 41, 43, 99] = .ok (1, 1) from rfl]
  simp only [List.drop_succ_cons, List.drop_zero, Nat.add_one_sub_one, Nat.reduceSub, List.take_succ_cons, List.take_zero, Nat.zero_add, Nat.reduceAdd, List.nil_append]
  rw [scanA, if_neg (by decide), show tokE 4 [41, 43, 99] = .ok (3, 1) from rfl]
  simp only [List.drop_succ_cons, List.drop_zero, Nat.add_one_sub_one, Nat.reduceSub, List.take_succ_cons, List.take_zero, Nat.zero_add, Nat.reduceAdd, List.nil_append]
  rw [scanA, if_neg (by decide), show tokE 5 [43, 99] = .ok (3, 1) from rfl]
  simp only [List.drop_succ_cons, List.drop_zero, Nat.add_one_sub_one, Nat.reduceSub, List.take_succ_cons, List.take_zero, Nat.zero_add, Nat.reduceAdd, List.nil_append]
  rw [scanA, if_neg (by decide), show tokE 6 [99] = .ok (1, 1) from rfl]
  simp only [List.drop_succ_cons, List.drop_zero, Nat.add_one_sub_one, Nat.reduceSub, List.take_succ_cons, List.take_zero, Nat.zero_add, Nat.reduceAdd, List.nil_append]
  rw [scanA]
  rfl
theorem pA : parseS sA = .ok tA := by
  unfold parseS; rw [allA]; rfl
theorem pB : parseS sB = .ok tB := by
  unfold parseS; rw [allB]; rfl
theorem pC : parseS sC = .ok tC := by
  unfold parseS; rw [allC]; rfl
end Go.Proofs.YthekpjhffciakaaDoor

namespace Go.Proofs.YthekpjhffciakaaDoor
open Go PG Go.Proofs
set_option linter.unusedSimpArgs false
set_option linter.unusedVariables false
set_option maxHeartbeats 4000000
set_option maxRecDepth 100000
theorem gW2 : G0 0 = some (some 10, wordsP) := rfl
abbrev trO (l : List Nd) : MObj := .var (some 1) (.agg [.list (some 4) (l.map ndP)])
abbrev txO : MObj := .var none (.fn 55 [] [.ref 0 0, .ref 1 0])
/-- A text, as a contract: the tree and the closure stay as they are. -/
def TxC (l : List Nd) (i least : Int) (ν : Mem) (r : List UInt8) : Prop :=
  PCalls Tryd.prog G0 55 [.int .i64 i, .int .i64 least, .ref 0 0, .ref 1 0] (some (trO l) :: some txO :: ν) (fun _ => false) (fun p μ' => p = .str r ∧ μ' = some (trO l) :: some txO :: ν)
theorem TxC.frame {l : List Nd} {i least : Int} {r : List UInt8} (h : TxC l i least [] r) (ν : Mem) (hν : ν.map (Option.map (MObj.kill fun _ => false)) = ν) : TxC l i least ν r := by
  have := PCalls.frame h ν (by rintro p μ' ⟨-, rfl⟩; rfl) (by simp [PV.kill]) (by simp [MObj.kill, PV.kill]) hν
  intro w κ vs hS hG hr
  refine (this w κ vs hS hG hr).mono ?_
  rintro e w' ⟨v, p, μ', κ', rfl, ⟨μ1, ⟨rfl, rfl⟩, rfl⟩, hS', hv, hg⟩
  exact ⟨v, _, _, κ', rfl, ⟨rfl, rfl⟩, hS', hv, hg⟩
theorem word_at (j : Nat) (h : j ≤ 9) : cut (some 10) none wordsP (0 + j * 1) = .str (wordM j) := by
  have : j = 0 ∨ j = 1 ∨ j = 2 ∨ j = 3 ∨ j = 4 ∨ j = 5 ∨ j = 6 ∨ j = 7 ∨ j = 8 ∨ j = 9 := by omega
  rcases this with rfl | rfl | rfl | rfl | rfl | rfl | rfl | rfl | rfl | rfl <;> rfl
theorem v55 (l : List Nd) (hl : l.length ≤ 256) : ∀ (k : Nat), k ≤ 16 → ∀ (i least : Int), fitsD l k i → TxC l i least [] (textM l k i least)
  | 0, _, i, least, h => h.elim
  | k + 1, hk16, i, least, h => by
    have ih : ∀ i least, fitsD l k i → TxC l i least [] (textM l k i least) := fun i least h => v55 l hl k (by omega) i least h
    have hle := text_le l k
    have hB : 100 * 4 ^ k ≤ 429496729600 := by
      have : 4 ^ k ≤ 4 ^ 16 := Nat.pow_le_pow_right (by omega) (by omega)
      have e : (4 : Nat) ^ 16 = 4294967296 := rfl
      omega
    generalize 100 * 4 ^ k = B at hle hB
    obtain ⟨h1, h2, h3, h4⟩ := h
    refine PCalls.moves (mv := fun t => decide (2 ≤ t)) (fun t ht h => ?_) ?_
    · simp only [List.length_cons, List.length_nil] at ht
      simp only [decide_eq_true_eq] at h; omega
    refine PCalls.of_PW Tryd.func55 k55d mix (by simp [c55d]) ?_
    simp only [c55d, L55d, CC, argE, trO, txO]
    obtain ⟨i, rfl⟩ : ∃ m : Nat, i = m := ⟨i.toNat, by omega⟩
    have hit : ((i : Int)).toNat = i := by omega
    rw [hit] at h2 h3 h4
    have hll : ((l.map ndP).length : Nat) = l.length := by simp
    have hgn : (l.map ndP).getD i .junk = .agg [.int .i64 (l.getD i default).op, .int .i64 (l.getD i default).num, .str (l.getD i default).name, .list none ((l.getD i default).kids.map (PV.int .i64))] := by simp [List.getD, h2, ndP, ndC, kidsP]
    unfold textM
    rw [hit]
    generalize l.getD i default = n at *
    obtain ⟨n0, n9, nnum, nname, nkids, ntwo⟩ := h3
    obtain ⟨op, hop⟩ : ∃ m : Nat, n.op = m := ⟨n.op.toNat, by omega⟩
    rw [hop] at n0 n9 nnum ntwo ⊢
    rw [hop] at hgn
    have hsc : ∀ (a b : Int) (t : List UInt8) (ks : List PV), ∀ x ∈ [PV.int IntKind.i64 a, PV.int IntKind.i64 b, PV.str t, PV.list none ks], x.scalar = true := by
      intro a b t ks x hc; simp at hc; rcases hc with rfl | rfl | rfl | rfl <;> rfl
    have hwa := word_at op (by omega)
    have hwl := word_le op
    have h56 := v56 (G := G0) op
    have hot : ((op : Int)).toNat = op := by omega
    have hkl : ((n.kids.map (PV.int .i64)).length : Nat) = n.kids.length := by simp
    have bw : 0 + op * 1 + 1 ≤ wordsP.cells.length := by
      have : wordsP.cells.length = 10 := rfl
      omega
    repeat' (first | exact True.intro | exact hsc _ _ _ _ | exact (rfl : (some 4 : Sh) = some 4) | (exact Or.inr ⟨rfl, by decide⟩) | (refine PW.stop (x := .seq (.region false (⟨some 17, none, .rd (.fldAddr 0) [.tmp 7]⟩ :: _) _) _) ?_) | (refine PW.seqK ?_; intro K hK) | refine pwB ?_ | refine pwS ?_ | refine pwL ?_ | refine pwE ?_ | refine pwR ?_ | refine pwK ?_ | refine seqK_n ‹_› ?_ | refine seqK_r ‹_› ?_ | refine seqK_e ‹_› ?_ | refine PW.regionA ?_ | exact schedW_stop_i | refine schK_n ‹_› ?_ | (refine schedW_alt_k ?_ ?_; focus (intro K hK; simp only [hll, hgn, SA, Nat.reduceAdd, reduceIte, Nat.reduceEqDiff, Nat.reduceBEq, reduceCtorEq]; (try go_unwrap; try simp only [hll, hgn, RR, reduceCtorEq]))) | (refine PW.cond rfl ?_ ?_ <;> intro hcond <;> (try contradiction) <;> try simp only [DD] at hcond) | (refine gd_i ?_; intro hg; try simp only [hg]) | ((first | show (_ : Nat) ≤ _ | show (_ : Nat) < _ | show (_ : Int) ≤ _ | show (_ : Int) < _ | show (_ : Nat) = _ | show (_ : Int) = _ | show (_ : Bool) = _ | show _ ∨ _ | show ¬ _); first | omega | (simp only [DD, LL] <;> omega) | (go_unwrap; omega)) | ((first | refine PW.region ?_ | refine PW.regionQ ?_ | refine schedW_done_i ?_ | show (_ : Post) _ _ _ | show @Eq (List PV) _ _ | show @Eq Bool _ _ | show opsW _ _ _ _ _ _ _ _ | show okAll _ | show @Eq Bool _ _ ∨ _); focus (simp only [hll, hgn, SA, Nat.reduceAdd, reduceIte, Nat.reduceEqDiff, Nat.reduceBEq, reduceCtorEq]; (try go_unwrap; try simp only [hll, hgn, RR, reduceCtorEq]))) | refine And.intro ?_ ?_ | exact Or.inr ⟨rfl, Nat.le_refl _⟩ | exact (fun h => Bool.noConfusion h))
    refine ⟨?_⟩
    refine PW.frzV 7 2 (some 4) _ rfl rfl ⟨_, rfl, rfl, hsc _ _ _ _⟩ (by intro c hc; simp only [PV.cells, List.mem_cons, List.not_mem_nil, or_false] at hc; rcases hc with rfl | rfl | rfl | rfl <;> simp [PV.noOwn]) rfl ?_
    simp only [frzE, frzMem, List.map_cons, List.map_nil, PV.frz, MObj.frz, frzM, frzSl, SA, Nat.reduceAdd, reduceIte, Nat.reduceEqDiff, Nat.reduceBEq, reduceCtorEq]
    refine PW.trim 2 (fun t h => by simp [h]) ?_
    simp only [trimE, trimM, List.take_succ_cons, List.take_zero, List.map_cons, List.map_nil, Option.map_some, Option.map_none, MObj.kill, PV.kill, Nat.reduceLeDiff, decide_true, decide_false, dec_true, dec_false, Bool.false_eq_true, if_false, if_true, reduceIte]
    by_cases o0 : op = 0
    · subst o0
      obtain ⟨m1, m2⟩ := nnum rfl
      have h57 := v57 (G := G0) n.num.toNat (by omega)
      have hnn : ((n.num.toNat : Nat) : Int) = n.num := by omega
      rw [hnn] at h57
      repeat' (first | exact True.intro | (exact Or.inr bw) | (exact Or.inr (by decide)) | (refine PW.seqK ?_; intro K hK) | refine pwB ?_ | refine pwS ?_ | refine pwL ?_ | refine pwE ?_ | refine pwR ?_ | refine pwK ?_ | refine seqK_n ‹_› ?_ | refine seqK_r ‹_› ?_ | refine seqK_e ‹_› ?_ | refine PW.regionA ?_ | exact schedW_stop_i | refine schK_n ‹_› ?_ | (refine schedW_alt_k ?_ ?_; focus (intro K hK; simp only [gW2, evalO, hot, hwa, SA, Nat.reduceAdd, reduceIte, Nat.reduceEqDiff, Nat.reduceBEq, reduceCtorEq]; (try go_unwrap; try simp only [gW2, evalO, hot, hwa, RR, reduceCtorEq]))) | (refine PW.cond rfl ?_ ?_ <;> intro hcond <;> (try contradiction) <;> try simp only [DD] at hcond) | (refine gd_i ?_; intro hg; try simp only [hg]) | refine goCall_W e56 (h56) ?_ ?_ ?_ ?_ | refine goCall_W e57 (h57) ?_ ?_ ?_ ?_ | ((first | show (_ : Nat) ≤ _ | show (_ : Nat) < _ | show (_ : Int) ≤ _ | show (_ : Int) < _ | show (_ : Nat) = _ | show (_ : Int) = _ | show (_ : Bool) = _ | show _ ∨ _ | show ¬ _); first | omega | (simp only [DD, LL] <;> omega) | (go_unwrap; omega)) | ((first | refine PW.region ?_ | refine PW.regionQ ?_ | refine schedW_done_i ?_ | show (_ : Post) _ _ _ | show @Eq (List PV) _ _ | show @Eq Bool _ _ | show opsW _ _ _ _ _ _ _ _ | show okAll _ | show @Eq Bool _ _ ∨ _); focus (simp only [gW2, evalO, hot, hwa, SA, Nat.reduceAdd, reduceIte, Nat.reduceEqDiff, Nat.reduceBEq, reduceCtorEq]; (try go_unwrap; try simp only [gW2, evalO, hot, hwa, RR, reduceCtorEq]))) | refine And.intro ?_ ?_ | exact Or.inr ⟨rfl, Nat.le_refl _⟩ | exact (fun h => Bool.noConfusion h))
      all_goals simp
    by_cases o1 : op = 1
    · subst o1
      repeat' (first | exact True.intro | (exact Or.inr bw) | (exact Or.inr (by decide)) | (refine PW.seqK ?_; intro K hK) | refine pwB ?_ | refine pwS ?_ | refine pwL ?_ | refine pwE ?_ | refine pwR ?_ | refine pwK ?_ | refine seqK_n ‹_› ?_ | refine seqK_r ‹_› ?_ | refine seqK_e ‹_› ?_ | refine PW.regionA ?_ | exact schedW_stop_i | refine schK_n ‹_› ?_ | (refine schedW_alt_k ?_ ?_; focus (intro K hK; simp only [gW2, evalO, hot, hwa, SA, Nat.reduceAdd, reduceIte, Nat.reduceEqDiff, Nat.reduceBEq, reduceCtorEq]; (try go_unwrap; try simp only [gW2, evalO, hot, hwa, RR, reduceCtorEq]))) | (refine PW.cond rfl ?_ ?_ <;> intro hcond <;> (try contradiction) <;> try simp only [DD] at hcond) | (refine gd_i ?_; intro hg; try simp only [hg]) | refine goCall_W e56 (h56) ?_ ?_ ?_ ?_ | ((first | show (_ : Nat) ≤ _ | show (_ : Nat) < _ | show (_ : Int) ≤ _ | show (_ : Int) < _ | show (_ : Nat) = _ | show (_ : Int) = _ | show (_ : Bool) = _ | show _ ∨ _ | show ¬ _); first | omega | (simp only [DD, LL] <;> omega) | (go_unwrap; omega)) | ((first | refine PW.region ?_ | refine PW.regionQ ?_ | refine schedW_done_i ?_ | show (_ : Post) _ _ _ | show @Eq (List PV) _ _ | show @Eq Bool _ _ | show opsW _ _ _ _ _ _ _ _ | show okAll _ | show @Eq Bool _ _ ∨ _); focus (simp only [gW2, evalO, hot, hwa, SA, Nat.reduceAdd, reduceIte, Nat.reduceEqDiff, Nat.reduceBEq, reduceCtorEq]; (try go_unwrap; try simp only [gW2, evalO, hot, hwa, RR, reduceCtorEq]))) | refine And.intro ?_ ?_ | exact Or.inr ⟨rfl, Nat.le_refl _⟩ | exact (fun h => Bool.noConfusion h))
      all_goals simp
    have q0 : decide ((op : Int) = 0) = false := by simp only [decide_eq_false_iff_not]; omega
    have q1 : decide ((op : Int) = 1) = false := by simp only [decide_eq_false_iff_not]; omega
    have z0 : ¬ ((op : Int) = 0) := by omega
    have z1 : ¬ ((op : Int) = 1) := by omega
    rw [if_neg z0, if_neg z1]
    by_cases o5 : 5 ≤ op
    · have hs3 : strongM op = 3 := by unfold strongM; rw [if_neg (by omega), if_neg (by omega)]
      rw [hs3] at h56
      rw [if_pos hs3]
      repeat' (first | exact True.intro | (exact Or.inr bw) | (exact Or.inr (by decide)) | (refine PW.seqK ?_; intro K hK) | refine pwB ?_ | refine pwS ?_ | refine pwL ?_ | refine pwE ?_ | refine pwR ?_ | refine pwK ?_ | refine seqK_n ‹_› ?_ | refine seqK_r ‹_› ?_ | refine seqK_e ‹_› ?_ | refine PW.regionA ?_ | exact schedW_stop_i | refine schK_n ‹_› ?_ | (refine schedW_alt_k ?_ ?_; focus (intro K hK; simp only [gW2, evalO, hot, hwa, hkl, q0, q1, SA, Nat.reduceAdd, reduceIte, Nat.reduceEqDiff, Nat.reduceBEq, reduceCtorEq]; (try go_unwrap; try simp only [gW2, evalO, hot, hwa, hkl, q0, q1, RR, reduceCtorEq]))) | (refine PW.cond rfl ?_ ?_ <;> intro hcond <;> (try contradiction) <;> try simp only [DD] at hcond) | (refine gd_i ?_; intro hg; try simp only [hg]) | refine goCall_W e56 (h56) ?_ ?_ ?_ ?_ | ((first | show (_ : Nat) ≤ _ | show (_ : Nat) < _ | show (_ : Int) ≤ _ | show (_ : Int) < _ | show (_ : Nat) = _ | show (_ : Int) = _ | show (_ : Bool) = _ | show _ ∨ _ | show ¬ _); first | omega | (simp only [DD, LL] <;> omega) | (go_unwrap; omega)) | ((first | refine PW.region ?_ | refine PW.regionQ ?_ | refine schedW_done_i ?_ | show (_ : Post) _ _ _ | show @Eq (List PV) _ _ | show @Eq Bool _ _ | show opsW _ _ _ _ _ _ _ _ | show okAll _ | show @Eq Bool _ _ ∨ _); focus (simp only [gW2, evalO, hot, hwa, hkl, q0, q1, SA, Nat.reduceAdd, reduceIte, Nat.reduceEqDiff, Nat.reduceBEq, reduceCtorEq]; (try go_unwrap; try simp only [gW2, evalO, hot, hwa, hkl, q0, q1, RR, reduceCtorEq]))) | refine And.intro ?_ ?_ | exact Or.inr ⟨rfl, Nat.le_refl _⟩ | exact (fun h => Bool.noConfusion h))
      refine PW.loop (σ := Nat × List UInt8) [2, 3, 9, 43, 44, 45] (fun q => [.ref 0 0, .ref 1 0, .str q.2, .list none (n.kids.map (PV.int .i64)), .int .i64 n.kids.length, .int .i64 q.1]) (fun _ => [some (.var (some 1) (.agg [.list (some 4) (l.map ndP)])), some (.var none (.fn 55 [] [.ref 0 0, .ref 1 0]))])
        (fun q => q.1 ≤ n.kids.length ∧ q.2.length ≤ 6 + q.1 * (B + 1) ∧ joinL (fun c => textM l k c 0) n.kids 0 (wordM op ++ [40]) = joinL (fun c => textM l k c 0) (n.kids.drop q.1) q.1 q.2) (fun q => n.kids.length - q.1) (0, wordM op ++ [40]) ?_ ?_ ⟨by simp, by simp; omega, by simp⟩ ?_
      · simp only [SA, Nat.reduceAdd, reduceIte, Nat.reduceEqDiff, Nat.reduceBEq, reduceCtorEq]; rfl
      · rfl
      rintro ⟨j, s⟩ ⟨hj, hsl, hjn⟩
      simp only at hj hsl hjn
      simp only [List.zip_cons_cons, List.zip_nil_left]
      rcases Nat.lt_or_ge j n.kids.length with h | h
      · obtain ⟨c, hd, hc, hg⟩ := drop_at h
        have hfc := h4 c (List.mem_of_getElem? hc)
        have htx := ih c 0 hfc
        have htl := hle c 0 hfc
        simp only [TxC, trO, txO] at htx
        have hgc := (hg (PV.int .i64)).1
        have dj : decide ((j : Int) < n.kids.length) = true := by simp only [decide_eq_true_eq]; omega
        rw [hd, joinL] at hjn
        generalize hT : textM l k c 0 = T at *
        have hmul : (j + 1) * (B + 1) = j * (B + 1) + (B + 1) := by rw [Nat.add_mul, Nat.one_mul]
        have hjb : j * (B + 1) ≤ 3 * (B + 1) := Nat.mul_le_mul_right _ (by omega)
        by_cases hj0 : 0 < j
        · have d0 : decide ((0 : Int) < j) = true := by simp only [decide_eq_true_eq]; omega
          rw [if_pos hj0] at hjn
          repeat' (first | exact True.intro | (refine PW.seqK ?_; intro K hK) | refine pwB ?_ | refine pwS ?_ | refine pwL ?_ | refine pwE ?_ | refine pwR ?_ | refine pwK ?_ | refine seqK_n ‹_› ?_ | refine seqK_r ‹_› ?_ | refine seqK_e ‹_› ?_ | refine PW.regionA ?_ | exact schedW_stop_i | refine schK_n ‹_› ?_ | (refine schedW_alt_k ?_ ?_; focus (intro K hK; simp only [hkl, hgc, dj, d0, SA, Nat.reduceAdd, reduceIte, Nat.reduceEqDiff, Nat.reduceBEq, reduceCtorEq]; (try go_unwrap; try simp only [hkl, hgc, dj, d0, RR, reduceCtorEq]))) | (refine PW.cond rfl ?_ ?_ <;> intro hcond <;> (try contradiction) <;> try simp only [DD] at hcond) | (refine goCall_P e55 htx ?_; rintro p μ' ⟨rfl, rfl⟩; simp only [hkl, hgc, dj, d0, SA, Nat.reduceAdd, reduceIte, Nat.reduceEqDiff, Nat.reduceBEq, reduceCtorEq]) | (refine gd_i ?_; intro hg; try simp only [hg]) | ((first | show (_ : Nat) ≤ _ | show (_ : Nat) < _ | show (_ : Int) ≤ _ | show (_ : Int) < _ | show (_ : Nat) = _ | show (_ : Int) = _ | show (_ : Bool) = _ | show _ ∨ _ | show ¬ _); first | omega | (simp only [DD, LL] <;> omega) | (go_unwrap; omega)) | ((first | refine PW.region ?_ | refine PW.regionQ ?_ | refine schedW_done_i ?_ | show (_ : Post) _ _ _ | show @Eq (List PV) _ _ | show @Eq Bool _ _ | show opsW _ _ _ _ _ _ _ _ | show okAll _ | show @Eq Bool _ _ ∨ _); focus (simp only [hkl, hgc, dj, d0, SA, Nat.reduceAdd, reduceIte, Nat.reduceEqDiff, Nat.reduceBEq, reduceCtorEq]; (try go_unwrap; try simp only [hkl, hgc, dj, d0, RR, reduceCtorEq]))) | refine And.intro ?_ ?_ | exact Or.inr ⟨rfl, Nat.le_refl _⟩ | exact (fun h => Bool.noConfusion h))
          all_goals first | exact ⟨(j + 1, (s ++ [44]) ++ T), rfl, ⟨by simp only; omega, by simp; omega, hjn⟩, by simp only; omega⟩ | (simp; omega)
        · have d0 : decide ((0 : Int) < j) = false := by simp only [decide_eq_false_iff_not]; omega
          rw [if_neg hj0] at hjn
          repeat' (first | exact True.intro | (refine PW.seqK ?_; intro K hK) | refine pwB ?_ | refine pwS ?_ | refine pwL ?_ | refine pwE ?_ | refine pwR ?_ | refine pwK ?_ | refine seqK_n ‹_› ?_ | refine seqK_r ‹_› ?_ | refine seqK_e ‹_› ?_ | refine PW.regionA ?_ | exact schedW_stop_i | refine schK_n ‹_› ?_ | (refine schedW_alt_k ?_ ?_; focus (intro K hK; simp only [hkl, hgc, dj, d0, SA, Nat.reduceAdd, reduceIte, Nat.reduceEqDiff, Nat.reduceBEq, reduceCtorEq]; (try go_unwrap; try simp only [hkl, hgc, dj, d0, RR, reduceCtorEq]))) | (refine PW.cond rfl ?_ ?_ <;> intro hcond <;> (try contradiction) <;> try simp only [DD] at hcond) | (refine goCall_P e55 htx ?_; rintro p μ' ⟨rfl, rfl⟩; simp only [hkl, hgc, dj, d0, SA, Nat.reduceAdd, reduceIte, Nat.reduceEqDiff, Nat.reduceBEq, reduceCtorEq]) | (refine gd_i ?_; intro hg; try simp only [hg]) | ((first | show (_ : Nat) ≤ _ | show (_ : Nat) < _ | show (_ : Int) ≤ _ | show (_ : Int) < _ | show (_ : Nat) = _ | show (_ : Int) = _ | show (_ : Bool) = _ | show _ ∨ _ | show ¬ _); first | omega | (simp only [DD, LL] <;> omega) | (go_unwrap; omega)) | ((first | refine PW.region ?_ | refine PW.regionQ ?_ | refine schedW_done_i ?_ | show (_ : Post) _ _ _ | show @Eq (List PV) _ _ | show @Eq Bool _ _ | show opsW _ _ _ _ _ _ _ _ | show okAll _ | show @Eq Bool _ _ ∨ _); focus (simp only [hkl, hgc, dj, d0, SA, Nat.reduceAdd, reduceIte, Nat.reduceEqDiff, Nat.reduceBEq, reduceCtorEq]; (try go_unwrap; try simp only [hkl, hgc, dj, d0, RR, reduceCtorEq]))) | refine And.intro ?_ ?_ | exact Or.inr ⟨rfl, Nat.le_refl _⟩ | exact (fun h => Bool.noConfusion h))
          all_goals first | exact ⟨(j + 1, s ++ T), rfl, ⟨by simp only; omega, by simp; omega, hjn⟩, by simp only; omega⟩ | (simp; omega)
      · have dj : decide ((j : Int) < n.kids.length) = false := by simp only [decide_eq_false_iff_not]; omega
        rw [List.drop_eq_nil_of_le h, joinL] at hjn
        have hjb : j * (B + 1) ≤ 3 * (B + 1) := Nat.mul_le_mul_right _ (by omega)
        repeat' (first | exact True.intro | (refine PW.seqK ?_; intro K hK) | refine pwB ?_ | refine pwS ?_ | refine pwL ?_ | refine pwE ?_ | refine pwR ?_ | refine pwK ?_ | refine seqK_n ‹_› ?_ | refine seqK_r ‹_› ?_ | refine seqK_e ‹_› ?_ | refine PW.regionA ?_ | exact schedW_stop_i | refine schK_n ‹_› ?_ | (refine schedW_alt_k ?_ ?_; focus (intro K hK; simp only [hkl, dj, SA, Nat.reduceAdd, reduceIte, Nat.reduceEqDiff, Nat.reduceBEq, reduceCtorEq]; (try go_unwrap; try simp only [hkl, dj, RR, reduceCtorEq]))) | (refine PW.cond rfl ?_ ?_ <;> intro hcond <;> (try contradiction) <;> try simp only [DD] at hcond) | (refine gd_i ?_; intro hg; try simp only [hg]) | ((first | show (_ : Nat) ≤ _ | show (_ : Nat) < _ | show (_ : Int) ≤ _ | show (_ : Int) < _ | show (_ : Nat) = _ | show (_ : Int) = _ | show (_ : Bool) = _ | show _ ∨ _ | show ¬ _); first | omega | (simp only [DD, LL] <;> omega) | (go_unwrap; omega)) | ((first | refine PW.region ?_ | refine PW.regionQ ?_ | refine schedW_done_i ?_ | show (_ : Post) _ _ _ | show @Eq (List PV) _ _ | show @Eq Bool _ _ | show opsW _ _ _ _ _ _ _ _ | show okAll _ | show @Eq Bool _ _ ∨ _); focus (simp only [hkl, dj, SA, Nat.reduceAdd, reduceIte, Nat.reduceEqDiff, Nat.reduceBEq, reduceCtorEq]; (try go_unwrap; try simp only [hkl, dj, RR, reduceCtorEq]))) | refine And.intro ?_ ?_ | exact Or.inr ⟨rfl, Nat.le_refl _⟩ | exact (fun h => Bool.noConfusion h))
        all_goals first | (rw [hjn]; done) | rfl | (simp; omega)
    have hst : 1 ≤ strongM op ∧ strongM op ≤ 2 := by
      unfold strongM
      by_cases a : (op : Int) = 2 ∨ (op : Int) = 3
      · rw [if_pos a]; omega
      · rw [if_neg a, if_pos (by omega)]; omega
    have hs3 : ¬ strongM op = 3 := by omega
    rw [if_neg hs3]
    have k2 := ntwo (by omega) (by omega)
    obtain ⟨a, b, hab⟩ : ∃ a b, n.kids = [a, b] := by
      match n.kids, k2 with
      | [a, b], _ => exact ⟨a, b, rfl⟩
    rw [hab] at h4 ⊢
    simp only [List.map_cons, List.map_nil, List.getD_cons_zero, List.getD_cons_succ]
    have hfa := h4 a (by simp)
    have hfb := h4 b (by simp)
    have hta := ih a (strongM op) hfa
    have htb := ih b (strongM op + 1) hfb
    have hla := hle a (strongM op) hfa
    have hlb := hle b (strongM op + 1) hfb
    simp only [TxC, trO, txO] at hta htb
    generalize textM l k a (strongM op) = Ta at *
    generalize textM l k b (strongM op + 1) = Tb at *
    have q3 : decide (strongM op = 3) = false := by simp only [decide_eq_false_iff_not]; exact hs3
    have wp : IntKind.i64.wrap (strongM op + 1) = strongM op + 1 := IntWalk.i64_in _ (by omega)
    generalize strongM op = st at *
    generalize wordM op = W at *
    by_cases hlt : st < least
    · rw [if_pos hlt]
      repeat' (first | exact True.intro | (refine PW.seqA (E := ?_) (M := ?_) ?_ ?_; rotate_left 2) | exact mergeQ_mk _ _ | (exact Or.inr bw) | (exact Or.inr (by decide)) | (refine PW.seqK ?_; intro K hK) | refine pwB ?_ | refine pwS ?_ | refine pwL ?_ | refine pwE ?_ | refine pwR ?_ | refine pwK ?_ | refine seqK_n ‹_› ?_ | refine seqK_r ‹_› ?_ | refine seqK_e ‹_› ?_ | refine PW.regionA ?_ | exact schedW_stop_i | refine schK_n ‹_› ?_ | (refine schedW_alt_k ?_ ?_; focus (intro K hK; simp only [PV.bin, PV.binOk, binI, gW2, evalO, hot, hwa, hkl, q0, q1, q3, wp, decide_eq_true hlt, SA, Nat.reduceAdd, reduceIte, Nat.reduceEqDiff, Nat.reduceBEq, reduceCtorEq]; (try go_unwrap; try simp only [PV.bin, PV.binOk, binI, gW2, evalO, hot, hwa, hkl, q0, q1, q3, wp, decide_eq_true hlt, RR, reduceCtorEq]))) | (refine PW.cond rfl ?_ ?_ <;> intro hcond <;> (try contradiction) <;> try simp only [DD] at hcond) | (refine goCall_P e55 hta ?_; rintro p μ' ⟨rfl, rfl⟩; simp only [PV.bin, PV.binOk, binI, gW2, evalO, hot, hwa, hkl, q0, q1, q3, wp, decide_eq_true hlt, SA, Nat.reduceAdd, reduceIte, Nat.reduceEqDiff, Nat.reduceBEq, reduceCtorEq]) | (refine goCall_P e55 htb ?_; rintro p μ' ⟨rfl, rfl⟩; simp only [PV.bin, PV.binOk, binI, gW2, evalO, hot, hwa, hkl, q0, q1, q3, wp, decide_eq_true hlt, SA, Nat.reduceAdd, reduceIte, Nat.reduceEqDiff, Nat.reduceBEq, reduceCtorEq]) | (refine gd_i ?_; intro hg; try simp only [hg]) | refine goCall_W e56 (h56) ?_ ?_ ?_ ?_ | ((first | show (_ : Nat) ≤ _ | show (_ : Nat) < _ | show (_ : Int) ≤ _ | show (_ : Int) < _ | show (_ : Nat) = _ | show (_ : Int) = _ | show (_ : Bool) = _ | show _ ∨ _ | show ¬ _); first | omega | (simp only [DD, LL] <;> omega) | (go_unwrap; omega)) | ((first | refine PW.region ?_ | refine PW.regionQ ?_ | refine schedW_done_i ?_ | show (_ : Post) _ _ _ | show @Eq (List PV) _ _ | show @Eq Bool _ _ | show opsW _ _ _ _ _ _ _ _ | show okAll _ | show @Eq Bool _ _ ∨ _); focus (simp only [PV.bin, PV.binOk, binI, gW2, evalO, hot, hwa, hkl, q0, q1, q3, wp, decide_eq_true hlt, SA, Nat.reduceAdd, reduceIte, Nat.reduceEqDiff, Nat.reduceBEq, reduceCtorEq]; (try go_unwrap; try simp only [PV.bin, PV.binOk, binI, gW2, evalO, hot, hwa, hkl, q0, q1, q3, wp, decide_eq_true hlt, RR, reduceCtorEq]))) | refine And.intro ?_ ?_ | exact Or.inr ⟨rfl, Nat.le_refl _⟩ | exact (fun h => Bool.noConfusion h))
      all_goals first | rfl | (simp; omega)
    · rw [if_neg hlt]
      repeat' (first | exact True.intro | (refine PW.seqA (E := ?_) (M := ?_) ?_ ?_; rotate_left 2) | exact mergeQ_mk _ _ | (exact Or.inr bw) | (exact Or.inr (by decide)) | (refine PW.seqK ?_; intro K hK) | refine pwB ?_ | refine pwS ?_ | refine pwL ?_ | refine pwE ?_ | refine pwR ?_ | refine pwK ?_ | refine seqK_n ‹_› ?_ | refine seqK_r ‹_› ?_ | refine seqK_e ‹_› ?_ | refine PW.regionA ?_ | exact schedW_stop_i | refine schK_n ‹_› ?_ | (refine schedW_alt_k ?_ ?_; focus (intro K hK; simp only [PV.bin, PV.binOk, binI, gW2, evalO, hot, hwa, hkl, q0, q1, q3, wp, decide_eq_false hlt, SA, Nat.reduceAdd, reduceIte, Nat.reduceEqDiff, Nat.reduceBEq, reduceCtorEq]; (try go_unwrap; try simp only [PV.bin, PV.binOk, binI, gW2, evalO, hot, hwa, hkl, q0, q1, q3, wp, decide_eq_false hlt, RR, reduceCtorEq]))) | (refine PW.cond rfl ?_ ?_ <;> intro hcond <;> (try contradiction) <;> try simp only [DD] at hcond) | (refine goCall_P e55 hta ?_; rintro p μ' ⟨rfl, rfl⟩; simp only [PV.bin, PV.binOk, binI, gW2, evalO, hot, hwa, hkl, q0, q1, q3, wp, decide_eq_false hlt, SA, Nat.reduceAdd, reduceIte, Nat.reduceEqDiff, Nat.reduceBEq, reduceCtorEq]) | (refine goCall_P e55 htb ?_; rintro p μ' ⟨rfl, rfl⟩; simp only [PV.bin, PV.binOk, binI, gW2, evalO, hot, hwa, hkl, q0, q1, q3, wp, decide_eq_false hlt, SA, Nat.reduceAdd, reduceIte, Nat.reduceEqDiff, Nat.reduceBEq, reduceCtorEq]) | (refine gd_i ?_; intro hg; try simp only [hg]) | refine goCall_W e56 (h56) ?_ ?_ ?_ ?_ | ((first | show (_ : Nat) ≤ _ | show (_ : Nat) < _ | show (_ : Int) ≤ _ | show (_ : Int) < _ | show (_ : Nat) = _ | show (_ : Int) = _ | show (_ : Bool) = _ | show _ ∨ _ | show ¬ _); first | omega | (simp only [DD, LL] <;> omega) | (go_unwrap; omega)) | ((first | refine PW.region ?_ | refine PW.regionQ ?_ | refine schedW_done_i ?_ | show (_ : Post) _ _ _ | show @Eq (List PV) _ _ | show @Eq Bool _ _ | show opsW _ _ _ _ _ _ _ _ | show okAll _ | show @Eq Bool _ _ ∨ _); focus (simp only [PV.bin, PV.binOk, binI, gW2, evalO, hot, hwa, hkl, q0, q1, q3, wp, decide_eq_false hlt, SA, Nat.reduceAdd, reduceIte, Nat.reduceEqDiff, Nat.reduceBEq, reduceCtorEq]; (try go_unwrap; try simp only [PV.bin, PV.binOk, binI, gW2, evalO, hot, hwa, hkl, q0, q1, q3, wp, decide_eq_false hlt, RR, reduceCtorEq]))) | refine And.intro ?_ ?_ | exact Or.inr ⟨rfl, Nat.le_refl _⟩ | exact (fun h => Bool.noConfusion h))
      all_goals first | rfl | (simp; omega)
end Go.Proofs.YthekpjhffciakaaDoor

