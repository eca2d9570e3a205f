import Derived.Test.YthjkmhfiffojeaaGreatDoorQ11
namespace Go.Proofs.YthjkmhfiffojeaaGreatDoor
open Go PG Go.Proofs
open Nat (reduceAdd reduceEqDiff)
set_option linter.unusedSimpArgs false
set_option linter.unusedVariables false
set_option maxHeartbeats 4000000
set_option maxRecDepth 100000
def jFX : PV := .agg [.str [], .str [], .str [43], .str [45], .str [42], .str [108, 101, 97, 115, 116], .str [109, 111, 115, 116], .str [105, 102], .str [108, 101, 115, 115], .str [101, 113, 117, 97, 108]]
abbrev G0 : jA3 := fun g => if g = 0 then some (some 10, jFX) else if g = 1 then some (some 10, jAS) else none
theorem E16 : Ent Tryz.prog 16 := ⟨Tryz.f16, Tryz.func16, by kernel_rfl, by kernel_rfl⟩
theorem E17 : Ent Tryz.prog 17 := ⟨Tryz.f17, Tryz.func17, by kernel_rfl, by kernel_rfl⟩
theorem E46 : Ent Tryz.prog 46 := ⟨Tryz.f46, Tryz.func46, by kernel_rfl, by kernel_rfl⟩
theorem E47 : Ent Tryz.prog 47 := ⟨Tryz.f47, Tryz.func47, by kernel_rfl, by kernel_rfl⟩
theorem E48 : Ent Tryz.prog 48 := ⟨Tryz.f48, Tryz.func48, by kernel_rfl, by kernel_rfl⟩
theorem E69 : Ent Tryz.prog 69 := ⟨Tryz.f69, Tryz.func69, by kernel_rfl, by kernel_rfl⟩
theorem E70 : Ent Tryz.prog 70 := ⟨Tryz.f70, Tryz.func70, by kernel_rfl, by kernel_rfl⟩
theorem E72 : Ent Tryz.prog 72 := ⟨Tryz.f72, Tryz.func72, by kernel_rfl, by kernel_rfl⟩
theorem E98 : Ent Tryz.prog 98 := ⟨Tryz.f98, Tryz.func98, by kernel_rfl, by kernel_rfl⟩
abbrev kPX (l : List Tok) : PV := .list (some 3) (l.map jZE)
def rdP (l : List Tok) (s : PS) : jAF := .var (some 4) (.agg [kPX l, .sl (some 4) 1 s.out.length, .int .i64 s.at_, .int .i64 s.e])
def jEC (s : PS) : jAF := .row (some 4) (s.out.map ndP)
def RdC (l : List Tok) (f : Nat) (as_ : List PV) (ν : Mem) (s : PS) (r : Int × PS) : Prop :=
 jA2 Tryz.prog G0 f as_ (some (rdP l s) :: some (jEC s) :: ν) (jAR 1) (fun p μ' => p = .int .i64 r.1 ∧ μ' = some (rdP l r.2) :: some (jEC r.2) :: ν)
theorem RdC.frame {l : List Tok} {f : Nat} {as_ : List PV} {s : PS} {r : Int × PS} (h : RdC l f as_ [] s r) (ν : Mem) (hν : ν.map (Option.map (jAF.kill (jAR 1))) = ν) (ha : as_.map (PV.kill fun t => decide (2 <= t)) = as_) : RdC l f as_ ν s r := by
 have := jA2.frame h ν (by rintro p μ' ⟨-, rfl⟩; rfl) ha (by simp [rdP, jEC, jAF.kill, PV.kill]) hν
 intro w κ vs hS hG hr
 refine (this w κ vs hS hG hr).mono ?_
 rintro e w' ⟨v, p, μ', κ', rfl, ⟨μ1, ⟨rfl, rfl⟩, rfl⟩, hS', hv, hg⟩
 exact ⟨v, _, _, κ', rfl, ⟨rfl, rfl⟩, hS', hv, hg⟩
theorem jP8 (l : List Tok) (j : Nat) (h : j < l.length) : (l.map jZE).getD j .junk = .agg [.int .i64 (jB8 l j).1, .str (jB8 l j).2.1, .int .i64 (jB8 l j).2.2] := by
 simp [List.getD, jB8, h, jZE]
theorem jOJ (l : List Tok) : ((l.map jZE).length : Nat) = l.length := by simp
theorem kG0 (l : List Nd) : ((l.map ndP).length : Nat) = l.length := by simp
theorem q1 (a b c d : PV) (sh : Sh) (t n : Nat) : jBZ (some 4) none (.agg [a, b, c, d]) 1 (.sl sh t n) = .agg [a, .sl sh t n, c, d] := rfl
theorem q2 (a b c d : PV) (k : IntKind) (v : Int) : jBZ (some 4) none (.agg [a, b, c, d]) 2 (.int k v) = .agg [a, b, .int k v, d] := rfl
theorem q3 (a b c d : PV) (k : IntKind) (v : Int) : jBZ (some 4) none (.agg [a, b, c, d]) 3 (.int k v) = .agg [a, b, c, .int k v] := rfl
theorem V69 (l : List Tok) (s : PS) (x : List UInt8) (hlt : s.at_ < l.length) (hl : l.length <= 100000) :
  jAB Tryz.prog G0 69 [.jC2 (some 4) (.agg [kPX l, .list (some 4) (s.out.map ndP), .int .i64 s.at_, .int .i64 s.e]) 0, .str x] (.bool (sgn l s x)) := by
 refine jAB.jAT Tryz.func69 k69 mix (by simp [c69]) ?_
 simp only [c69, L69, CC, jBW]
 have hg := jP8 l s.at_ hlt
 have hlen := jOJ l
 have hk : decide (((jB8 l s.at_).1 : Int) = 3) = decide ((jB8 l s.at_).1 = 3) := by rw [Bool.eq_iff_iff, decide_eq_true_eq, decide_eq_true_eq]; omega
 repeat' (first | exact clo | (refine sqI ?_; intros) | refine stp ?_ | (refine cnd rfl ?_ ?_ <;> intro hcond <;> (try contradiction) <;> try simp only [DD] at hcond) | (refine jAG ?_; intro hg; try simp only [hg]) | (refine saI ?_ ?_; intros) | (refine ari ?_; first | omega | (simp only [DD, LL] <;> omega) | (go_unwrap; omega) | (simp only [DD] at hg; omega)) | (refine stq ?_; focus (simp only [hg, hlen, SA, reduceAdd, reduceIte, reduceEqDiff, Nat.reduceBEq, reduceCtorEq]; (try go_unwrap; try simp only [hg, hlen, RR, reduceCtorEq]))) | refine And.intro ?_ ?_)
 simp only [sgn, hk]
theorem V17 (l : List Tok) (s : PS) (e : Int) : RdC l 17 [.ref 0 0, .int .i64 e] [] s (jEI s e) := by
 refine jA2.moves (mv := fun t => t == 1 || decide (2 <= t)) (fun t ht h => ?_) ?_
 ·simp only [List.length_cons, List.length_nil] at ht
  simp only [Bool.or_eq_true, beq_iff_eq, decide_eq_true_eq] at h
  simp only [jAR, beq_iff_eq]; omega
 refine jA2.jAT Tryz.func17 k17 mix (by simp [c17]) ?_
 simp only [c17, L17, CC, jBW, rdP, jEC]
 repeat' (first | exact clo | (refine sqI ?_; intros) | refine stp ?_ | (refine cnd rfl ?_ ?_ <;> intro hcond <;> (try contradiction) <;> try simp only [DD] at hcond) | (refine jAG ?_; intro hg; try simp only [hg]) | (refine saI ?_ ?_; intros) | (refine ari ?_; first | omega | (simp only [DD, LL] <;> omega) | (go_unwrap; omega) | (simp only [DD] at hg; omega)) | (refine stq ?_; focus (simp only [q3, SA, reduceAdd, reduceIte, reduceEqDiff, Nat.reduceBEq, reduceCtorEq]; (try go_unwrap; try simp only [q3, RR, reduceCtorEq]))) | refine And.intro ?_ ?_)
 ·rfl
 ·simp only [jEI, if_pos hcond]
 ·rfl
 ·simp only [jEI, if_neg hcond]
theorem V70 (l : List Tok) (s : PS) (n : Nd) (hs : s.out.length <= 100000) : RdC l 70 [.ref 0 0, ndP n] [] s (jEE s n) := by
 refine jA2.moves (mv := fun t => t == 1 || decide (2 <= t)) (fun t ht h => ?_) ?_
 ·simp only [List.length_cons, List.length_nil] at ht
  simp only [Bool.or_eq_true, beq_iff_eq, decide_eq_true_eq] at h
  simp only [jAR, beq_iff_eq]; omega
 refine jA2.jAT Tryz.func70 k70 mix (by simp [c70]) ?_
 simp only [c70, L70, CC, jBW, rdP, jEC]
 have hlen := kG0 s.out
 have htk : (s.out.map ndP).take s.out.length = s.out.map ndP := List.take_of_length_le (by simp)
 have b1 : (s.out.length + 1) * 56 <= 140737488355328 := by omega
 rw [kG1]
 repeat' (first | exact clo | (refine PW.jP0 (E := ?_) (M := ?_) ?_ ?_; rotate_left 2) | exact jBH _ _ | (exact Or.inr ⟨rfl, by decide⟩) | (refine PW.stop (x := .ret) ?_) | (refine sqI ?_; intros) | refine stp ?_ | (refine cnd rfl ?_ ?_ <;> intro hcond <;> (try contradiction) <;> try simp only [DD] at hcond) | (refine jAG ?_; intro hg; try simp only [hg]) | (refine saI ?_ ?_; intros) | (refine ari ?_; first | omega | (simp only [DD, LL] <;> omega) | (go_unwrap; omega) | (simp only [DD] at hg; omega)) | (refine stq ?_; focus (simp only [hlen, htk, q1, List.length_cons, List.length_nil, Nat.zero_add, SA, reduceAdd, reduceIte, reduceEqDiff, Nat.reduceBEq, reduceCtorEq]; (try go_unwrap; try simp only [hlen, htk, q1, List.length_cons, List.length_nil, Nat.zero_add, RR, reduceCtorEq]))) | refine And.intro ?_ ?_)
 refine ⟨?_⟩
 refine PW.trim 2 (fun t h => by simp [h]) ?_
 simp only [TT, jAF.kill, PV.kill, Nat.reduceLeDiff, reduceIte]
 repeat' (first | exact clo | (refine sqI ?_; intros) | refine stp ?_ | (refine cnd rfl ?_ ?_ <;> intro hcond <;> (try contradiction) <;> try simp only [DD] at hcond) | (refine jAG ?_; intro hg; try simp only [hg]) | (refine saI ?_ ?_; intros) | (refine ari ?_; first | omega | (simp only [DD, LL] <;> omega) | (go_unwrap; omega) | (simp only [DD] at hg; omega)) | (refine stq ?_; focus (simp only [SA, reduceAdd, reduceIte, reduceEqDiff, Nat.reduceBEq, reduceCtorEq]; (try go_unwrap; try simp only [RR, reduceCtorEq]))) | refine And.intro ?_ ?_)
 ·simp [jEE]
 ·simp [jEE, ndP, ndC, jG1]
theorem cw2 : cut (some 10) none jFX (0 + Int.toNat 2 * 1) = .str [43] := rfl
theorem cw3 : cut (some 10) none jFX (0 + Int.toNat 3 * 1) = .str [45] := rfl
theorem cw4 : cut (some 10) none jFX (0 + Int.toNat 4 * 1) = .str [42] := rfl
theorem gW : G0 0 = some (some 10, jFX) := rfl
theorem kRY (l : List Tok) (hl : l.length <= 100000) (f : Nat) (first caps : List PV) (hE : Ent Tryz.prog f) (part : PS -> Int × PS) (m : Nat) (ν : Mem) (hν : ν.map (Option.map (jAF.kill (jAR 1))) = ν)
  (hpart : ∀ s, Inv l s -> l.length - s.at_ <= m -> RdC l f (first ++ [] ++ caps) ν s (part s)) (hgood : jG2 l part m) (hno : (PV.fn f first caps).kill (jAR 1) = .fn f first caps) (s0 : PS) (hI : Inv l s0) (hm : l.length - s0.at_ <= m) :
  RdC l 47 [.ref 0 0, .fn f first caps, .list none [.int .i64 2, .int .i64 3]] ν s0 (rowP l part jMI s0) := by
 refine jA2.jAT Tryz.func47 k47 mix (by simp [c47]) ?_
 simp only [c47, L47, CC, jBW]
 have hp := hpart s0 hI hm
 have hg0 := hgood s0 hI hm
 have h0 := hI.kPK
 have hr := jHT (ops := jMI) hgood h0 s0 hI.le hm
 unfold rowP
 have hkk : ∃ k, l.length - (part s0).2.at_ <= k ∧ jG4 l part jMI (l.length - (part s0).2.at_) (part s0).1 (part s0).2 = jG4 l part jMI k (part s0).1 (part s0).2 := ⟨_, Nat.le_refl _, rfl⟩
 generalize jG4 l part jMI (l.length - (part s0).2.at_) (part s0).1 (part s0).2 = R at hkk
 generalize part s0 = r0 at hp hg0 hkk
 obtain ⟨n0, s1⟩ := r0
 repeat' (first | exact clo | (refine sqI ?_; intros) | refine stp ?_ | (refine cnd rfl ?_ ?_ <;> intro hcond <;> (try contradiction) <;> try simp only [DD] at hcond) | (refine jAQ 1 hE hp rfl ?_; rintro p μ' ⟨rfl, rfl⟩; simp only [hno, SA, reduceAdd, reduceIte, reduceEqDiff, Nat.reduceBEq, reduceCtorEq]) | (refine jAG ?_; intro hg; try simp only [hg]) | (refine saI ?_ ?_; intros) | (refine ari ?_; first | omega | (simp only [DD, LL] <;> omega) | (go_unwrap; omega) | (simp only [DD] at hg; omega)) | (refine stq ?_; focus (simp only [SA, reduceAdd, reduceIte, reduceEqDiff, Nat.reduceBEq, reduceCtorEq]; (try go_unwrap; try simp only [RR, reduceCtorEq]))) | refine And.intro ?_ ?_)
 refine PW.loop (σ := Int × PS) [0, 1, 2, 7] (fun q => [.ref 0 0, .fn f first caps, .list none [.int .i64 2, .int .i64 3], .int .i64 q.1]) (fun q => some (rdP l q.2) :: some (jEC q.2) :: ν)
  (fun q => Good l s0 q ∧ ∃ k, l.length - q.2.at_ <= k ∧ R = jG4 l part jMI k q.1 q.2) (fun q => l.length - q.2.at_) (n0, s1) ?_ rfl ⟨hg0, hkk⟩ ?_
 ·simp only [SA, reduceAdd, reduceIte, reduceEqDiff, Nat.reduceBEq, reduceCtorEq]; rfl
 clear hp hkk hg0
 rintro ⟨n, s⟩ ⟨hg, k, hk, hR⟩
 simp only at hk hR
 simp only [List.zip_cons_cons, List.zip_nil_left]
 simp only [rdP, jEC]
 by_cases he : s.e = 0
 case neg =>
  have d1 : decide (s.e = 0) = false := by simp only [decide_eq_false_iff_not]; exact he
  have hRR : R = (n, s) := by rw [hR]; cases k <;> simp [jG4, he]
  subst hRR
  repeat' (first | exact clo | (refine sqI ?_; intros) | refine stp ?_ | (refine cnd rfl ?_ ?_ <;> intro hcond <;> (try contradiction) <;> try simp only [DD] at hcond) | (refine jAG ?_; intro hg; try simp only [hg]) | (refine saI ?_ ?_; intros) | (refine ari ?_; first | omega | (simp only [DD, LL] <;> omega) | (go_unwrap; omega) | (simp only [DD] at hg; omega)) | (refine stq ?_; focus (simp only [d1, SA, reduceAdd, reduceIte, reduceEqDiff, Nat.reduceBEq, reduceCtorEq]; (try go_unwrap; try simp only [d1, RR, reduceCtorEq]))) | refine And.intro ?_ ?_)
  all_goals rfl
 have d1 : decide (s.e = 0) = true := by simp only [decide_eq_true_eq]; exact he
 have hg' := hg
 obtain ⟨hlt, hle, hout, hn0, hn1, hgo, -⟩ := hg
 simp only at hlt hle hout hn0 hn1 hgo
 have htk : (s.out.map ndP).take s.out.length = s.out.map ndP := List.take_of_length_le (by simp)
 have kNZ : s.at_ + 1 < l.length -> Inv l (adv s 1) := fun h => ⟨by simpa [adv] using h, by have := hI.le; simp [adv]; omega, he, h0⟩
 obtain ⟨k', rfl⟩ : ∃ k', k = k' + 1 := ⟨k - 1, by omega⟩
 have wa : IntKind.i64.wrap ((s.at_ : Int) + 1) = ((s.at_ + 1 : Nat) : Int) := by rw [IntWalk.i64_in _ (by omega)]; simp
 repeat' (first | exact clo | (refine sqI ?_; intros) | refine stp ?_ | (refine cnd rfl ?_ ?_ <;> intro hcond <;> (try contradiction) <;> try simp only [DD] at hcond) | (refine jAG ?_; intro hg; try simp only [hg]) | (refine saI ?_ ?_; intros) | (refine ari ?_; first | omega | (simp only [DD, LL] <;> omega) | (go_unwrap; omega) | (simp only [DD] at hg; omega)) | (refine stq ?_; focus (simp only [d1, SA, reduceAdd, reduceIte, reduceEqDiff, Nat.reduceBEq, reduceCtorEq]; (try go_unwrap; try simp only [d1, RR, reduceCtorEq]))) | refine And.intro ?_ ?_)
 refine PW.loop (σ := Nat) [0, 1, 2, 7, 17, 18, 19] (fun j => [.ref 0 0, .fn f first caps, .list none [.int .i64 2, .int .i64 3], .int .i64 n, .list none [.int .i64 2, .int .i64 3], .int .i64 2, .int .i64 j]) (fun _ => some (rdP l s) :: some (jEC s) :: ν)
  (fun j => j <= 2 ∧ (0 < j -> sgn l s [43] = false) ∧ (1 < j -> sgn l s [45] = false)) (fun j => 2 - j) 0 ?_ rfl ⟨by omega, by omega, by omega⟩ ?_
 ·simp only [SA, reduceAdd, reduceIte, reduceEqDiff, Nat.reduceBEq, reduceCtorEq]; rfl
 rintro j ⟨hj, hsn⟩
 simp only [List.zip_cons_cons, List.zip_nil_left]
 simp only [rdP, jEC]
 rcases j with _ | _ | j
 ·have hv := V69 l s [43] hlt hl
  by_cases hs : sgn l s [43] = true
  ·rw [hs] at hv
   have h1 := jE3 h0 hlt hs
   have hIa := kNZ h1
   have hpa := hpart (adv s 1) hIa (by simp [adv]; omega)
   have hga := hgood (adv s 1) hIa (by simp [adv]; omega)
   have hRn : R = jG4 l part jMI k' (jEE (part (adv s 1)).2 ⟨2, 0, [], [n, (part (adv s 1)).1]⟩).1 (jEE (part (adv s 1)).2 ⟨2, 0, [], [n, (part (adv s 1)).1]⟩).2 := by
    rw [hR]; simp [jG4, he, jMI, hs]
   have hle2 : s.at_ + 1 <= (part (adv s 1)).2.at_ := hga.le
   have hoo : (part (adv s 1)).2.out.length + (s.at_ + 1) <= s.out.length + (part (adv s 1)).2.at_ := hga.out
   generalize part (adv s 1) = r at hpa hga hRn hle2 hoo
   obtain ⟨rn, rs⟩ := r
   simp only at hRn hle2 hoo
   have kLV := hga.lt
   simp only at kLV
   have jLN : Good l s0 (jEE rs ⟨2, 0, [], [n, rn]⟩) := jFT (s := s0) hga.lt (by omega) (by omega) hI.le hga.er
   have hpt := (V70 l rs ⟨2, 0, [], [n, rn]⟩ (by have := hI.le; omega)).frame ν hν (by simp [PV.kill, ndP, ndC, jG1])
   simp only [ndP, ndC, jG1, List.map_cons, List.map_nil] at hpt
   simp only [RdC, rdP, jEC, adv] at hpa hpt
   repeat' (first | exact clo | (exact Or.inr (by decide)) | (exact Or.inr ⟨rfl, by decide⟩) | (refine sqI ?_; intros) | refine stp ?_ | (refine cnd rfl ?_ ?_ <;> intro hcond <;> (try contradiction) <;> try simp only [DD] at hcond) | (refine jAQ 1 hE hpa rfl ?_; rintro p μ' ⟨rfl, rfl⟩; simp only [hno, gW, jAM, cw2, cw3, cw4, q2, wa, List.length_cons, List.length_nil, SA, reduceAdd, reduceIte, reduceEqDiff, Nat.reduceBEq, reduceCtorEq]) | (refine jAQ 1 E70 hpt rfl ?_; rintro p μ' ⟨rfl, rfl⟩; simp only [hno, gW, jAM, cw2, cw3, cw4, q2, wa, List.length_cons, List.length_nil, SA, reduceAdd, reduceIte, reduceEqDiff, Nat.reduceBEq, reduceCtorEq]) | (refine jAG ?_; intro hg; try simp only [hg]) | refine jBB 1 E69 hv (by simp [PV.lend, PV.view, Mem.get, htk]) (by simp [PV.jBU, PV.lend, PV.view, PV.seen, jHH, PV.scalar, Mem.get, Sh.size, htk]) (by simp [PV.flat]) ?_ | (refine saI ?_ ?_; intros) | (refine ari ?_; first | omega | (simp only [DD, LL] <;> omega) | (go_unwrap; omega) | (simp only [DD] at hg; omega)) | (refine stq ?_; focus (simp only [gW, jAM, cw2, cw3, cw4, q2, wa, List.length_cons, List.length_nil, SA, reduceAdd, reduceIte, reduceEqDiff, Nat.reduceBEq, reduceCtorEq]; (try go_unwrap; try simp only [gW, jAM, cw2, cw3, cw4, q2, wa, List.length_cons, List.length_nil, RR, reduceCtorEq]))) | refine And.intro ?_ ?_)
   all_goals exact ⟨jEE rs ⟨2, 0, [], [n, rn]⟩, rfl, rfl, ⟨jLN, k', by simp [jEE]; omega, hRn⟩, by simp [jEE]; omega⟩
  ·have hs' : sgn l s [43] = false := by simpa using hs
   rw [hs'] at hv
   repeat' (first | exact clo | (exact Or.inr (by decide)) | (refine sqI ?_; intros) | refine stp ?_ | (refine cnd rfl ?_ ?_ <;> intro hcond <;> (try contradiction) <;> try simp only [DD] at hcond) | (refine jAG ?_; intro hg; try simp only [hg]) | refine jBB 1 E69 hv (by simp [PV.lend, PV.view, Mem.get, htk]) (by simp [PV.jBU, PV.lend, PV.view, PV.seen, jHH, PV.scalar, Mem.get, Sh.size, htk]) (by simp [PV.flat]) ?_ | (refine saI ?_ ?_; intros) | (refine ari ?_; first | omega | (simp only [DD, LL] <;> omega) | (go_unwrap; omega) | (simp only [DD] at hg; omega)) | (refine stq ?_; focus (simp only [gW, jAM, cw2, cw3, cw4, List.length_cons, List.length_nil, SA, reduceAdd, reduceIte, reduceEqDiff, Nat.reduceBEq, reduceCtorEq]; (try go_unwrap; try simp only [gW, jAM, cw2, cw3, cw4, List.length_cons, List.length_nil, RR, reduceCtorEq]))) | refine And.intro ?_ ?_)
   all_goals exact ⟨1, rfl, ⟨by omega, fun _ => hs', fun h => absurd h (by omega)⟩, by omega⟩
 ·have n0 : sgn l s [43] = false := hsn.1 (by omega)
  have hv := V69 l s [45] hlt hl
  by_cases hs : sgn l s [45] = true
  ·rw [hs] at hv
   have h1 := jE3 h0 hlt hs
   have hIa := kNZ h1
   have hpa := hpart (adv s 1) hIa (by simp [adv]; omega)
   have hga := hgood (adv s 1) hIa (by simp [adv]; omega)
   have hRn : R = jG4 l part jMI k' (jEE (part (adv s 1)).2 ⟨3, 0, [], [n, (part (adv s 1)).1]⟩).1 (jEE (part (adv s 1)).2 ⟨3, 0, [], [n, (part (adv s 1)).1]⟩).2 := by
    rw [hR]; simp [jG4, he, jMI, hs, n0]
   have hle2 : s.at_ + 1 <= (part (adv s 1)).2.at_ := hga.le
   have hoo : (part (adv s 1)).2.out.length + (s.at_ + 1) <= s.out.length + (part (adv s 1)).2.at_ := hga.out
   generalize part (adv s 1) = r at hpa hga hRn hle2 hoo
   obtain ⟨rn, rs⟩ := r
   simp only at hRn hle2 hoo
   have kLV := hga.lt
   simp only at kLV
   have jLN : Good l s0 (jEE rs ⟨3, 0, [], [n, rn]⟩) := jFT (s := s0) hga.lt (by omega) (by omega) hI.le hga.er
   have hpt := (V70 l rs ⟨3, 0, [], [n, rn]⟩ (by have := hI.le; omega)).frame ν hν (by simp [PV.kill, ndP, ndC, jG1])
   simp only [ndP, ndC, jG1, List.map_cons, List.map_nil] at hpt
   simp only [RdC, rdP, jEC, adv] at hpa hpt
   repeat' (first | exact clo | (exact Or.inr (by decide)) | (exact Or.inr ⟨rfl, by decide⟩) | (refine sqI ?_; intros) | refine stp ?_ | (refine cnd rfl ?_ ?_ <;> intro hcond <;> (try contradiction) <;> try simp only [DD] at hcond) | (refine jAQ 1 hE hpa rfl ?_; rintro p μ' ⟨rfl, rfl⟩; simp only [hno, gW, jAM, cw2, cw3, cw4, q2, wa, List.length_cons, List.length_nil, SA, reduceAdd, reduceIte, reduceEqDiff, Nat.reduceBEq, reduceCtorEq]) | (refine jAQ 1 E70 hpt rfl ?_; rintro p μ' ⟨rfl, rfl⟩; simp only [hno, gW, jAM, cw2, cw3, cw4, q2, wa, List.length_cons, List.length_nil, SA, reduceAdd, reduceIte, reduceEqDiff, Nat.reduceBEq, reduceCtorEq]) | (refine jAG ?_; intro hg; try simp only [hg]) | refine jBB 1 E69 hv (by simp [PV.lend, PV.view, Mem.get, htk]) (by simp [PV.jBU, PV.lend, PV.view, PV.seen, jHH, PV.scalar, Mem.get, Sh.size, htk]) (by simp [PV.flat]) ?_ | (refine saI ?_ ?_; intros) | (refine ari ?_; first | omega | (simp only [DD, LL] <;> omega) | (go_unwrap; omega) | (simp only [DD] at hg; omega)) | (refine stq ?_; focus (simp only [gW, jAM, cw2, cw3, cw4, q2, wa, List.length_cons, List.length_nil, SA, reduceAdd, reduceIte, reduceEqDiff, Nat.reduceBEq, reduceCtorEq]; (try go_unwrap; try simp only [gW, jAM, cw2, cw3, cw4, q2, wa, List.length_cons, List.length_nil, RR, reduceCtorEq]))) | refine And.intro ?_ ?_)
   all_goals exact ⟨jEE rs ⟨3, 0, [], [n, rn]⟩, rfl, rfl, ⟨jLN, k', by simp [jEE]; omega, hRn⟩, by simp [jEE]; omega⟩
  ·have hs' : sgn l s [45] = false := by simpa using hs
   rw [hs'] at hv
   repeat' (first | exact clo | (exact Or.inr (by decide)) | (refine sqI ?_; intros) | refine stp ?_ | (refine cnd rfl ?_ ?_ <;> intro hcond <;> (try contradiction) <;> try simp only [DD] at hcond) | (refine jAG ?_; intro hg; try simp only [hg]) | refine jBB 1 E69 hv (by simp [PV.lend, PV.view, Mem.get, htk]) (by simp [PV.jBU, PV.lend, PV.view, PV.seen, jHH, PV.scalar, Mem.get, Sh.size, htk]) (by simp [PV.flat]) ?_ | (refine saI ?_ ?_; intros) | (refine ari ?_; first | omega | (simp only [DD, LL] <;> omega) | (go_unwrap; omega) | (simp only [DD] at hg; omega)) | (refine stq ?_; focus (simp only [gW, jAM, cw2, cw3, cw4, List.length_cons, List.length_nil, SA, reduceAdd, reduceIte, reduceEqDiff, Nat.reduceBEq, reduceCtorEq]; (try go_unwrap; try simp only [gW, jAM, cw2, cw3, cw4, List.length_cons, List.length_nil, RR, reduceCtorEq]))) | refine And.intro ?_ ?_)
   all_goals exact ⟨2, rfl, ⟨by omega, fun _ => n0, fun _ => hs'⟩, by omega⟩
 ·have hj0 : j = 0 := by omega
  subst hj0
  have n0 : sgn l s [43] = false := hsn.1 (by omega)
  have n1 : sgn l s [45] = false := hsn.2 (by omega)
  have hRR : R = (n, s) := by rw [hR]; simp [jG4, he, jMI, n0, n1]
  subst hRR
  repeat' (first | exact clo | (refine sqI ?_; intros) | refine stp ?_ | (refine cnd rfl ?_ ?_ <;> intro hcond <;> (try contradiction) <;> try simp only [DD] at hcond) | (refine jAG ?_; intro hg; try simp only [hg]) | (refine saI ?_ ?_; intros) | (refine ari ?_; first | omega | (simp only [DD, LL] <;> omega) | (go_unwrap; omega) | (simp only [DD] at hg; omega)) | (refine stq ?_; focus (simp only [List.length_cons, List.length_nil, SA, reduceAdd, reduceIte, reduceEqDiff, Nat.reduceBEq, reduceCtorEq]; (try go_unwrap; try simp only [List.length_cons, List.length_nil, RR, reduceCtorEq]))) | refine And.intro ?_ ?_)
  all_goals rfl
theorem kRX (l : List Tok) (hl : l.length <= 100000) (f : Nat) (first caps : List PV) (hE : Ent Tryz.prog f) (part : PS -> Int × PS) (m : Nat) (ν : Mem) (hν : ν.map (Option.map (jAF.kill (jAR 1))) = ν)
  (hpart : ∀ s, Inv l s -> l.length - s.at_ <= m -> RdC l f (first ++ [] ++ caps) ν s (part s)) (hgood : jG2 l part m) (hno : (PV.fn f first caps).kill (jAR 1) = .fn f first caps) (s0 : PS) (hI : Inv l s0) (hm : l.length - s0.at_ <= m) :
  RdC l 47 [.ref 0 0, .fn f first caps, .list none [.int .i64 4]] ν s0 (rowP l part jNL s0) := by
 refine jA2.jAT Tryz.func47 k47 mix (by simp [c47]) ?_
 simp only [c47, L47, CC, jBW]
 have hp := hpart s0 hI hm
 have hg0 := hgood s0 hI hm
 have h0 := hI.kPK
 have hr := jHT (ops := jNL) hgood h0 s0 hI.le hm
 unfold rowP
 have hkk : ∃ k, l.length - (part s0).2.at_ <= k ∧ jG4 l part jNL (l.length - (part s0).2.at_) (part s0).1 (part s0).2 = jG4 l part jNL k (part s0).1 (part s0).2 := ⟨_, Nat.le_refl _, rfl⟩
 generalize jG4 l part jNL (l.length - (part s0).2.at_) (part s0).1 (part s0).2 = R at hkk
 generalize part s0 = r0 at hp hg0 hkk
 obtain ⟨n0, s1⟩ := r0
 repeat' (first | exact clo | (refine sqI ?_; intros) | refine stp ?_ | (refine cnd rfl ?_ ?_ <;> intro hcond <;> (try contradiction) <;> try simp only [DD] at hcond) | (refine jAQ 1 hE hp rfl ?_; rintro p μ' ⟨rfl, rfl⟩; simp only [hno, SA, reduceAdd, reduceIte, reduceEqDiff, Nat.reduceBEq, reduceCtorEq]) | (refine jAG ?_; intro hg; try simp only [hg]) | (refine saI ?_ ?_; intros) | (refine ari ?_; first | omega | (simp only [DD, LL] <;> omega) | (go_unwrap; omega) | (simp only [DD] at hg; omega)) | (refine stq ?_; focus (simp only [SA, reduceAdd, reduceIte, reduceEqDiff, Nat.reduceBEq, reduceCtorEq]; (try go_unwrap; try simp only [RR, reduceCtorEq]))) | refine And.intro ?_ ?_)
 refine PW.loop (σ := Int × PS) [0, 1, 2, 7] (fun q => [.ref 0 0, .fn f first caps, .list none [.int .i64 4], .int .i64 q.1]) (fun q => some (rdP l q.2) :: some (jEC q.2) :: ν)
  (fun q => Good l s0 q ∧ ∃ k, l.length - q.2.at_ <= k ∧ R = jG4 l part jNL k q.1 q.2) (fun q => l.length - q.2.at_) (n0, s1) ?_ rfl ⟨hg0, hkk⟩ ?_
 ·simp only [SA, reduceAdd, reduceIte, reduceEqDiff, Nat.reduceBEq, reduceCtorEq]; rfl
 clear hp hkk hg0
 rintro ⟨n, s⟩ ⟨hg, k, hk, hR⟩
 simp only at hk hR
 simp only [List.zip_cons_cons, List.zip_nil_left]
 simp only [rdP, jEC]
 by_cases he : s.e = 0
 case neg =>
  have d1 : decide (s.e = 0) = false := by simp only [decide_eq_false_iff_not]; exact he
  have hRR : R = (n, s) := by rw [hR]; cases k <;> simp [jG4, he]
  subst hRR
  repeat' (first | exact clo | (refine sqI ?_; intros) | refine stp ?_ | (refine cnd rfl ?_ ?_ <;> intro hcond <;> (try contradiction) <;> try simp only [DD] at hcond) | (refine jAG ?_; intro hg; try simp only [hg]) | (refine saI ?_ ?_; intros) | (refine ari ?_; first | omega | (simp only [DD, LL] <;> omega) | (go_unwrap; omega) | (simp only [DD] at hg; omega)) | (refine stq ?_; focus (simp only [d1, SA, reduceAdd, reduceIte, reduceEqDiff, Nat.reduceBEq, reduceCtorEq]; (try go_unwrap; try simp only [d1, RR, reduceCtorEq]))) | refine And.intro ?_ ?_)
  all_goals rfl
 have d1 : decide (s.e = 0) = true := by simp only [decide_eq_true_eq]; exact he
 have hg' := hg
 obtain ⟨hlt, hle, hout, hn0, hn1, hgo, -⟩ := hg
 simp only at hlt hle hout hn0 hn1 hgo
 have htk : (s.out.map ndP).take s.out.length = s.out.map ndP := List.take_of_length_le (by simp)
 have kNZ : s.at_ + 1 < l.length -> Inv l (adv s 1) := fun h => ⟨by simpa [adv] using h, by have := hI.le; simp [adv]; omega, he, h0⟩
 obtain ⟨k', rfl⟩ : ∃ k', k = k' + 1 := ⟨k - 1, by omega⟩
 have wa : IntKind.i64.wrap ((s.at_ : Int) + 1) = ((s.at_ + 1 : Nat) : Int) := by rw [IntWalk.i64_in _ (by omega)]; simp
 repeat' (first | exact clo | (refine sqI ?_; intros) | refine stp ?_ | (refine cnd rfl ?_ ?_ <;> intro hcond <;> (try contradiction) <;> try simp only [DD] at hcond) | (refine jAG ?_; intro hg; try simp only [hg]) | (refine saI ?_ ?_; intros) | (refine ari ?_; first | omega | (simp only [DD, LL] <;> omega) | (go_unwrap; omega) | (simp only [DD] at hg; omega)) | (refine stq ?_; focus (simp only [d1, SA, reduceAdd, reduceIte, reduceEqDiff, Nat.reduceBEq, reduceCtorEq]; (try go_unwrap; try simp only [d1, RR, reduceCtorEq]))) | refine And.intro ?_ ?_)
 refine PW.loop (σ := Nat) [0, 1, 2, 7, 17, 18, 19] (fun j => [.ref 0 0, .fn f first caps, .list none [.int .i64 4], .int .i64 n, .list none [.int .i64 4], .int .i64 1, .int .i64 j]) (fun _ => some (rdP l s) :: some (jEC s) :: ν)
  (fun j => j <= 1 ∧ (0 < j -> sgn l s [42] = false)) (fun j => 1 - j) 0 ?_ rfl ⟨by omega, by omega⟩ ?_
 ·simp only [SA, reduceAdd, reduceIte, reduceEqDiff, Nat.reduceBEq, reduceCtorEq]; rfl
 rintro j ⟨hj, hsn⟩
 simp only [List.zip_cons_cons, List.zip_nil_left]
 simp only [rdP, jEC]
 rcases j with _ | j
 ·have hv := V69 l s [42] hlt hl
  by_cases hs : sgn l s [42] = true
  ·rw [hs] at hv
   have h1 := jE3 h0 hlt hs
   have hIa := kNZ h1
   have hpa := hpart (adv s 1) hIa (by simp [adv]; omega)
   have hga := hgood (adv s 1) hIa (by simp [adv]; omega)
   have hRn : R = jG4 l part jNL k' (jEE (part (adv s 1)).2 ⟨4, 0, [], [n, (part (adv s 1)).1]⟩).1 (jEE (part (adv s 1)).2 ⟨4, 0, [], [n, (part (adv s 1)).1]⟩).2 := by
    rw [hR]; simp [jG4, he, jNL, hs]
   have hle2 : s.at_ + 1 <= (part (adv s 1)).2.at_ := hga.le
   have hoo : (part (adv s 1)).2.out.length + (s.at_ + 1) <= s.out.length + (part (adv s 1)).2.at_ := hga.out
   generalize part (adv s 1) = r at hpa hga hRn hle2 hoo
   obtain ⟨rn, rs⟩ := r
   simp only at hRn hle2 hoo
   have kLV := hga.lt
   simp only at kLV
   have jLN : Good l s0 (jEE rs ⟨4, 0, [], [n, rn]⟩) := jFT (s := s0) hga.lt (by omega) (by omega) hI.le hga.er
   have hpt := (V70 l rs ⟨4, 0, [], [n, rn]⟩ (by have := hI.le; omega)).frame ν hν (by simp [PV.kill, ndP, ndC, jG1])
   simp only [ndP, ndC, jG1, List.map_cons, List.map_nil] at hpt
   simp only [RdC, rdP, jEC, adv] at hpa hpt
   repeat' (first | exact clo | (exact Or.inr (by decide)) | (exact Or.inr ⟨rfl, by decide⟩) | (refine sqI ?_; intros) | refine stp ?_ | (refine cnd rfl ?_ ?_ <;> intro hcond <;> (try contradiction) <;> try simp only [DD] at hcond) | (refine jAQ 1 hE hpa rfl ?_; rintro p μ' ⟨rfl, rfl⟩; simp only [hno, gW, jAM, cw2, cw3, cw4, q2, wa, List.length_cons, List.length_nil, SA, reduceAdd, reduceIte, reduceEqDiff, Nat.reduceBEq, reduceCtorEq]) | (refine jAQ 1 E70 hpt rfl ?_; rintro p μ' ⟨rfl, rfl⟩; simp only [hno, gW, jAM, cw2, cw3, cw4, q2, wa, List.length_cons, List.length_nil, SA, reduceAdd, reduceIte, reduceEqDiff, Nat.reduceBEq, reduceCtorEq]) | (refine jAG ?_; intro hg; try simp only [hg]) | refine jBB 1 E69 hv (by simp [PV.lend, PV.view, Mem.get, htk]) (by simp [PV.jBU, PV.lend, PV.view, PV.seen, jHH, PV.scalar, Mem.get, Sh.size, htk]) (by simp [PV.flat]) ?_ | (refine saI ?_ ?_; intros) | (refine ari ?_; first | omega | (simp only [DD, LL] <;> omega) | (go_unwrap; omega) | (simp only [DD] at hg; omega)) | (refine stq ?_; focus (simp only [gW, jAM, cw2, cw3, cw4, q2, wa, List.length_cons, List.length_nil, SA, reduceAdd, reduceIte, reduceEqDiff, Nat.reduceBEq, reduceCtorEq]; (try go_unwrap; try simp only [gW, jAM, cw2, cw3, cw4, q2, wa, List.length_cons, List.length_nil, RR, reduceCtorEq]))) | refine And.intro ?_ ?_)
   all_goals exact ⟨jEE rs ⟨4, 0, [], [n, rn]⟩, rfl, rfl, ⟨jLN, k', by simp [jEE]; omega, hRn⟩, by simp [jEE]; omega⟩
  ·have hs' : sgn l s [42] = false := by simpa using hs
   rw [hs'] at hv
   repeat' (first | exact clo | (exact Or.inr (by decide)) | (refine sqI ?_; intros) | refine stp ?_ | (refine cnd rfl ?_ ?_ <;> intro hcond <;> (try contradiction) <;> try simp only [DD] at hcond) | (refine jAG ?_; intro hg; try simp only [hg]) | refine jBB 1 E69 hv (by simp [PV.lend, PV.view, Mem.get, htk]) (by simp [PV.jBU, PV.lend, PV.view, PV.seen, jHH, PV.scalar, Mem.get, Sh.size, htk]) (by simp [PV.flat]) ?_ | (refine saI ?_ ?_; intros) | (refine ari ?_; first | omega | (simp only [DD, LL] <;> omega) | (go_unwrap; omega) | (simp only [DD] at hg; omega)) | (refine stq ?_; focus (simp only [gW, jAM, cw2, cw3, cw4, List.length_cons, List.length_nil, SA, reduceAdd, reduceIte, reduceEqDiff, Nat.reduceBEq, reduceCtorEq]; (try go_unwrap; try simp only [gW, jAM, cw2, cw3, cw4, List.length_cons, List.length_nil, RR, reduceCtorEq]))) | refine And.intro ?_ ?_)
   all_goals exact ⟨1, rfl, ⟨by omega, fun _ => hs'⟩, by omega⟩
 ·have hj0 : j = 0 := by omega
  subst hj0
  have n0 : sgn l s [42] = false := hsn (by omega)
  have hRR : R = (n, s) := by rw [hR]; simp [jG4, he, jNL, n0]
  subst hRR
  repeat' (first | exact clo | (refine sqI ?_; intros) | refine stp ?_ | (refine cnd rfl ?_ ?_ <;> intro hcond <;> (try contradiction) <;> try simp only [DD] at hcond) | (refine jAG ?_; intro hg; try simp only [hg]) | (refine saI ?_ ?_; intros) | (refine ari ?_; first | omega | (simp only [DD, LL] <;> omega) | (go_unwrap; omega) | (simp only [DD] at hg; omega)) | (refine stq ?_; focus (simp only [List.length_cons, List.length_nil, SA, reduceAdd, reduceIte, reduceEqDiff, Nat.reduceBEq, reduceCtorEq]; (try go_unwrap; try simp only [List.length_cons, List.length_nil, RR, reduceCtorEq]))) | refine And.intro ?_ ?_)
  all_goals rfl
abbrev jZL : Mem := [some (.var none (.ref 0 0))]
theorem V46 (l : List Tok) (hl : l.length <= 100000) (fac : PS -> Int × PS) (m : Nat) (kOQ : ∀ s, Inv l s -> l.length - s.at_ <= m -> RdC l 48 [.ref 0 0] jZL s (fac s)) (hgood : jG2 l fac m) (s : PS) (hI : Inv l s) (hm : l.length - s.at_ <= m) :
  RdC l 46 [.ref 2 0] jZL s (rowP l fac jNL s) := by
 refine jA2.jAT Tryz.func46 k46 mix (by simp [c46]) ?_
 simp only [c46, L46, CC, jBW]
 have h72 := kRX l hl 48 [.ref 0 0] [] E48 fac m jZL (by simp [jZL, jAF.kill, PV.kill, jAR]) kOQ hgood (by simp [PV.kill, jAR]) s hI hm
 simp only [RdC, jZL] at h72 ⊢
 repeat' (first | exact clo | (refine sqI ?_; intros) | refine stp ?_ | (refine cnd rfl ?_ ?_ <;> intro hcond <;> (try contradiction) <;> try simp only [DD] at hcond) | (refine jAQ 1 E47 h72 rfl ?_; rintro p μ' ⟨rfl, rfl⟩; simp only [SA, reduceAdd, reduceIte, reduceEqDiff, Nat.reduceBEq, reduceCtorEq]) | (refine jAG ?_; intro hg; try simp only [hg]) | (refine saI ?_ ?_; intros) | (refine ari ?_; first | omega | (simp only [DD, LL] <;> omega) | (go_unwrap; omega) | (simp only [DD] at hg; omega)) | (refine stq ?_; focus (simp only [SA, reduceAdd, reduceIte, reduceEqDiff, Nat.reduceBEq, reduceCtorEq]; (try go_unwrap; try simp only [RR, reduceCtorEq]))) | refine And.intro ?_ ?_)
 all_goals rfl
theorem V16 (l : List Tok) (hl : l.length <= 100000) (fac : PS -> Int × PS) (m : Nat) (kOQ : ∀ s, Inv l s -> l.length - s.at_ <= m -> RdC l 48 [.ref 0 0] jZL s (fac s)) (hgood : jG2 l fac m) (s : PS) (hI : Inv l s) (hm : l.length - s.at_ <= m) :
  RdC l 16 [.ref 0 0] [] s (rowP l (rowP l fac jNL) jMI s) := by
 have h72 := kRY l hl 46 [] [.ref 2 0] E46 (rowP l fac jNL) m jZL (by simp [jZL, jAF.kill, PV.kill, jAR]) (fun s hI hm => V46 l hl fac m kOQ hgood s hI hm) (jKV hgood) (by simp [PV.kill, jAR]) s hI hm
 generalize rowP l (rowP l fac jNL) jMI s = r at h72
 refine jA2.moves (mv := fun t => t == 1 || decide (2 <= t)) (fun t ht h => ?_) ?_
 ·simp only [List.length_cons, List.length_nil] at ht
  simp only [Bool.or_eq_true, beq_iff_eq, decide_eq_true_eq] at h
  simp only [jAR, beq_iff_eq]; omega
 refine jA2.jAT Tryz.func16 k16 mix (by simp [c16]) ?_
 simp only [c16, L16, CC, jBW]
 simp only [RdC, jZL] at h72
 repeat' (first | exact clo | exact (rfl : (jBK (PV.ref 0 0) none).isSome = true) | (refine PW.stop (x := .ret) ?_) | (refine sqI ?_; intros) | refine stp ?_ | (refine cnd rfl ?_ ?_ <;> intro hcond <;> (try contradiction) <;> try simp only [DD] at hcond) | (refine jAQ 1 E47 h72 rfl ?_; rintro p μ' ⟨rfl, rfl⟩; simp only [SA, reduceAdd, reduceIte, reduceEqDiff, Nat.reduceBEq, reduceCtorEq]) | (refine jAG ?_; intro hg; try simp only [hg]) | (refine saI ?_ ?_; intros) | (refine ari ?_; first | omega | (simp only [DD, LL] <;> omega) | (go_unwrap; omega) | (simp only [DD] at hg; omega)) | (refine stq ?_; focus (simp only [SA, reduceAdd, reduceIte, reduceEqDiff, Nat.reduceBEq, reduceCtorEq]; (try go_unwrap; try simp only [RR, reduceCtorEq]))) | refine And.intro ?_ ?_)
 refine ⟨?_⟩
 refine PW.trim 2 (fun t h => by simp [h]) ?_
 simp only [rdP, jEC, TT, jAF.kill, PV.kill, Nat.reduceLeDiff, reduceIte]
 repeat' (first | exact clo | (refine sqI ?_; intros) | refine stp ?_ | (refine cnd rfl ?_ ?_ <;> intro hcond <;> (try contradiction) <;> try simp only [DD] at hcond) | (refine jAG ?_; intro hg; try simp only [hg]) | (refine saI ?_ ?_; intros) | (refine ari ?_; first | omega | (simp only [DD, LL] <;> omega) | (go_unwrap; omega) | (simp only [DD] at hg; omega)) | (refine stq ?_; focus (simp only [SA, reduceAdd, reduceIte, reduceEqDiff, Nat.reduceBEq, reduceCtorEq]; (try go_unwrap; try simp only [RR, reduceCtorEq]))) | refine And.intro ?_ ?_)
 all_goals rfl
def kG9 (v : List UInt8) : List (List UInt8) -> Int -> Int
 | [], _ => -1
 | b :: l, i => if v = b then i else kG9 v l (i + 1)
theorem V98 (l : List (List UInt8)) (v : List UInt8) (hl : l.length <= 9223372036854775806) : jAB Tryz.prog G0 98 [.list none (l.map PV.str), .str v] (.int .i64 (kG9 v l 0)) := by
 refine jAB.jAT Tryz.func98 k98 mix (by simp [c98]) ?_
 simp only [c98, L98, CC, jBW]
 repeat' (first | exact clo | (refine sqI ?_; intros) | refine stp ?_ | (refine cnd rfl ?_ ?_ <;> intro hcond <;> (try contradiction) <;> try simp only [DD] at hcond) | (refine jAG ?_; intro hg; try simp only [hg]) | (refine saI ?_ ?_; intros) | (refine ari ?_; first | omega | (simp only [DD, LL] <;> omega) | (go_unwrap; omega) | (simp only [DD] at hg; omega)) | (refine stq ?_; focus (simp only [SA, reduceAdd, reduceIte, reduceEqDiff, Nat.reduceBEq, reduceCtorEq]; (try go_unwrap; try simp only [RR, reduceCtorEq]))) | refine And.intro ?_ ?_)
 refine PW.loop (σ := Nat) [0, 1, 7, 8] (fun j => [.list none (l.map PV.str), .str v, .int .i64 l.length, .int .i64 j]) (fun _ => []) (fun j => j <= l.length ∧ kG9 v l 0 = kG9 v (l.drop j) j) (fun j => l.length - j) 0 ?_ rfl ⟨by omega, by simp⟩ ?_
 ·simp only [SA, reduceAdd, reduceIte, reduceEqDiff, Nat.reduceBEq, reduceCtorEq, List.length_map]; rfl
 rintro j ⟨hj, hr⟩
 simp only [List.zip_cons_cons, List.zip_nil_left]
 rcases Nat.lt_or_ge j l.length with h | h
 ·obtain ⟨b, hd, -, hg⟩ := drop_at h
  rw [hd, kG9] at hr
  have hd' : decide ((j : Int) < l.length) = true := by simp only [decide_eq_true_eq]; omega
  repeat' (first | exact clo | (refine sqI ?_; intros) | refine stp ?_ | (refine cnd rfl ?_ ?_ <;> intro hcond <;> (try contradiction) <;> try simp only [DD] at hcond) | (refine jAG ?_; intro hg; try simp only [hg]) | (refine saI ?_ ?_; intros) | (refine ari ?_; first | omega | (simp only [DD, LL] <;> omega) | (go_unwrap; omega) | (simp only [DD] at hg; omega)) | (refine stq ?_; focus (simp only [hd', (hg PV.str).1, List.length_map, SA, reduceAdd, reduceIte, reduceEqDiff, Nat.reduceBEq, reduceCtorEq]; (try go_unwrap; try simp only [hd', (hg PV.str).1, List.length_map, RR, reduceCtorEq]))) | refine And.intro ?_ ?_)
  ·rw [hr, if_pos hcond]
  ·rw [if_neg hcond] at hr
   exact ⟨j + 1, rfl, ⟨h, hr⟩, by omega⟩
 ·have hd' : decide ((j : Int) < l.length) = false := by simp only [decide_eq_false_iff_not]; omega
  rw [List.drop_eq_nil_of_le h, kG9] at hr
  repeat' (first | exact clo | (refine sqI ?_; intros) | refine stp ?_ | (refine cnd rfl ?_ ?_ <;> intro hcond <;> (try contradiction) <;> try simp only [DD] at hcond) | (refine jAG ?_; intro hg; try simp only [hg]) | (refine saI ?_ ?_; intros) | (refine ari ?_; first | omega | (simp only [DD, LL] <;> omega) | (go_unwrap; omega) | (simp only [DD] at hg; omega)) | (refine stq ?_; focus (simp only [hd', SA, reduceAdd, reduceIte, reduceEqDiff, Nat.reduceBEq, reduceCtorEq]; (try go_unwrap; try simp only [hd', RR, reduceCtorEq]))) | refine And.intro ?_ ?_)
  rw [hr]
theorem kE5 (x : List UInt8) : kG9 x jGE 0 = match jGF x with | none => -1 | some i => (i : Int) := by
 unfold jGF jGE
 simp only [kG9, List.idxOf?, List.findIdx?_cons, List.findIdx?_nil, beq_iff_eq]
 by_cases h0 : x = [108, 101, 97, 115, 116]
 ·subst h0; rfl
 by_cases h1 : x = [109, 111, 115, 116]
 ·subst h1; rfl
 by_cases h2 : x = [105, 102]
 ·subst h2; rfl
 by_cases h3 : x = [108, 101, 115, 115]
 ·subst h3; rfl
 by_cases h4 : x = [101, 113, 117, 97, 108]
 ·subst h4; rfl
 rw [if_neg h0, if_neg h1, if_neg h2, if_neg h3, if_neg h4, if_neg (fun h => h0 h.symm), if_neg (fun h => h1 h.symm), if_neg (fun h => h2 h.symm), if_neg (fun h => h3 h.symm), if_neg (fun h => h4 h.symm)]
 rfl
theorem kDQ {x : List UInt8} {i : Nat} (h : jGF x = some i) : i < 5 := by
 unfold jGF at h
 have := (List.idxOf?_eq_some_iff.1 h).1
 exact this
end Go.Proofs.YthjkmhfiffojeaaGreatDoor
