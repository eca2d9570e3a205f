import Derived.Shelf.SortM.Plain
import Derived.Shelf.SortM.SortNone
import Derived.Shelf.SlicesG.CompactS
import Derived.Lib.RowBridge
import Derived.Test.YthjkmhfiffojeaaGreatDoorQ16
namespace Go.Proofs.YthjkmhfiffojeaaGreatDoor
open Go PG Go.Proofs
open Nat (reduceAdd reduceEqDiff)
set_option linter.unusedSimpArgs false
set_option linter.unusedVariables false
set_option maxHeartbeats 4000000
set_option maxRecDepth 100000
section
variable {G : jA3}
def jY4 (m : Nat) (A B C : List UInt8) : List UInt8 :=
 if m = 0 then A ++ [43] ++ B ++ [45] ++ C
 else if m = 1 then A ++ [42, 48, 46, 53, 42] ++ B
 else if m = 2 then [108, 101, 97, 115, 116, 40] ++ A ++ [44] ++ B ++ [45, 40] ++ C ++ [45, 49, 41, 41]
 else if m = 3 then [109, 111, 115, 116, 40] ++ A ++ [44] ++ B ++ [41, 43] ++ C
 else if m = 4 then [105, 102, 40, 108, 101, 115, 115, 40] ++ A ++ [44] ++ B ++ [41, 44] ++ C ++ [44] ++ A ++ [41]
 else if m = 5 then [40] ++ A ++ [45] ++ B ++ [41, 42, 40] ++ C ++ [43, 50, 41]
 else [101, 113, 117, 97, 108, 40] ++ A ++ [44] ++ B ++ [41]
structure Fr where
 o : Nat
 a : Nat
 b : Nat
 c : Nat
 deriving Inhabited
def frP (r : Fr) : PV := .agg [.int .u8 r.o, .int .u8 r.a, .int .u8 r.b, .int .u8 r.c]
structure kNB (r : Fr) : Prop where
 o : r.o < 256
 a : r.a < 256
 b : r.b < 256
 c : r.c < 256
def textF (r : Fr) (i : Nat) : List UInt8 := jY4 (r.o % 7) (jJU r.a i) (jJU r.b i) (jJU r.c i)
theorem jDZ (k i : Nat) : (jJU k i).length <= 5 := by
 unfold jJU
 have h1 := jFR (k % 7)
 have h2 := jFR (k % (i + 3))
 split
 ·simp
 ·split
  ·simp
  ·split
   ·simp; omega
   ·simp; omega
theorem V5 {r : Fr} (hr : kNB r) (i : Nat) (hi : i <= 12) : jAB Tryz.prog G 5 [frP r, .int .i64 i] (.str (textF r i)) := by
 refine jAB.jAT Tryz.func5 k5 mix (by simp [c5]) ?_
 simp only [c5, L5, CC, jBW, frP]
 have ha := V19 (G := G) r.a i hr.a hi
 have hb := V19 (G := G) r.b i hr.b hi
 have hc := V19 (G := G) r.c i hr.c hi
 have s0 : ∀ a b c d : PV, sub none [a, b, c, d] 0 = a := fun _ _ _ _ => rfl
 have s1 : ∀ a b c d : PV, sub none [a, b, c, d] 1 = b := fun _ _ _ _ => rfl
 have s2 : ∀ a b c d : PV, sub none [a, b, c, d] 2 = c := fun _ _ _ _ => rfl
 have s3 : ∀ a b c d : PV, sub none [a, b, c, d] 3 = d := fun _ _ _ _ => rfl
 have lA := jDZ r.a i
 have lB := jDZ r.b i
 have lC := jDZ r.c i
 unfold textF
 generalize jJU r.a i = A at *
 generalize jJU r.b i = B at *
 generalize jJU r.c i = C at *
 have r1 : (r.o : Int).tmod 7 = ((r.o % 7 : Nat) : Int) := by rw [Int.tmod_eq_emod_of_nonneg (by omega)]; omega
 have hm := Nat.mod_lt r.o (show 0 < 7 by omega)
 have ho := hr.o
 have z2 : ¬ (7 : Int) = 0 := by decide
 generalize r.o % 7 = m at *
 have w1 : IntKind.u8.wrap (m : Int) = m := by simp [IntKind.wrap, IntKind.bits, IntKind.signed]; omega
 have d0 : decide ((m : Int) = 0) = decide (m = 0) := by rw [Bool.eq_iff_iff, decide_eq_true_eq, decide_eq_true_eq]; omega
 have d1 : decide ((m : Int) = 1) = decide (m = 1) := by rw [Bool.eq_iff_iff, decide_eq_true_eq, decide_eq_true_eq]; omega
 have d2 : decide ((m : Int) = 2) = decide (m = 2) := by rw [Bool.eq_iff_iff, decide_eq_true_eq, decide_eq_true_eq]; omega
 have d3 : decide ((m : Int) = 3) = decide (m = 3) := by rw [Bool.eq_iff_iff, decide_eq_true_eq, decide_eq_true_eq]; omega
 have d4 : decide ((m : Int) = 4) = decide (m = 4) := by rw [Bool.eq_iff_iff, decide_eq_true_eq, decide_eq_true_eq]; omega
 have d5 : decide ((m : Int) = 5) = decide (m = 5) := by rw [Bool.eq_iff_iff, decide_eq_true_eq, decide_eq_true_eq]; omega
 have hl : ∀ l : List UInt8, l.length = l.length := fun _ => rfl
 repeat' (first | exact clo | exact not_false | (exact Or.inr ⟨rfl, by decide⟩) | (refine sqI ?_; intros) | refine stp ?_ | (refine cnd rfl ?_ ?_ <;> intro hcond <;> (try contradiction) <;> try simp only [DD] at hcond) | (apply jAO E19; (case hV => (simp only [PV.bin, PV.jAI, jBC, jE1, s0, s1, s2, s3, r1, z2, w1, d0, d1, d2, d3, d4, d5, SA, reduceAdd, reduceIte, reduceEqDiff, Nat.reduceBEq, reduceCtorEq]; (try go_unwrap; try simp only [PV.bin, PV.jAI, jBC, jE1, s0, s1, s2, s3, r1, z2, w1, d0, d1, d2, d3, d4, d5, RR, reduceCtorEq]); exact ha)); (try (case hs => rfl)); (try (case hf => first | exact Or.inl rfl | exact Or.inr ⟨rfl, rfl⟩ | (refine Or.inl ?_; simp only [PV.bin, PV.jAI, jBC, jE1, s0, s1, s2, s3, r1, z2, w1, d0, d1, d2, d3, d4, d5, SA, reduceAdd, reduceIte, reduceEqDiff, Nat.reduceBEq, reduceCtorEq]; done) | (refine Or.inr ⟨rfl, ?_⟩; simp only [PV.bin, PV.jAI, jBC, jE1, s0, s1, s2, s3, r1, z2, w1, d0, d1, d2, d3, d4, d5, SA, reduceAdd, reduceIte, reduceEqDiff, Nat.reduceBEq, reduceCtorEq]; done))); all_goals (first | (simp only [PV.bin, PV.jAI, jBC, jE1, s0, s1, s2, s3, r1, z2, w1, d0, d1, d2, d3, d4, d5, SA, reduceAdd, reduceIte, reduceEqDiff, Nat.reduceBEq, reduceCtorEq]; (try go_unwrap; try simp only [PV.bin, PV.jAI, jBC, jE1, s0, s1, s2, s3, r1, z2, w1, d0, d1, d2, d3, d4, d5, RR, reduceCtorEq])) | (show Env; skip) | (show Mem; skip))) | (apply jAO E19; (case hV => (simp only [PV.bin, PV.jAI, jBC, jE1, s0, s1, s2, s3, r1, z2, w1, d0, d1, d2, d3, d4, d5, SA, reduceAdd, reduceIte, reduceEqDiff, Nat.reduceBEq, reduceCtorEq]; (try go_unwrap; try simp only [PV.bin, PV.jAI, jBC, jE1, s0, s1, s2, s3, r1, z2, w1, d0, d1, d2, d3, d4, d5, RR, reduceCtorEq]); exact hb)); (try (case hs => rfl)); (try (case hf => first | exact Or.inl rfl | exact Or.inr ⟨rfl, rfl⟩ | (refine Or.inl ?_; simp only [PV.bin, PV.jAI, jBC, jE1, s0, s1, s2, s3, r1, z2, w1, d0, d1, d2, d3, d4, d5, SA, reduceAdd, reduceIte, reduceEqDiff, Nat.reduceBEq, reduceCtorEq]; done) | (refine Or.inr ⟨rfl, ?_⟩; simp only [PV.bin, PV.jAI, jBC, jE1, s0, s1, s2, s3, r1, z2, w1, d0, d1, d2, d3, d4, d5, SA, reduceAdd, reduceIte, reduceEqDiff, Nat.reduceBEq, reduceCtorEq]; done))); all_goals (first | (simp only [PV.bin, PV.jAI, jBC, jE1, s0, s1, s2, s3, r1, z2, w1, d0, d1, d2, d3, d4, d5, SA, reduceAdd, reduceIte, reduceEqDiff, Nat.reduceBEq, reduceCtorEq]; (try go_unwrap; try simp only [PV.bin, PV.jAI, jBC, jE1, s0, s1, s2, s3, r1, z2, w1, d0, d1, d2, d3, d4, d5, RR, reduceCtorEq])) | (show Env; skip) | (show Mem; skip))) | (apply jAO E19; (case hV => (simp only [PV.bin, PV.jAI, jBC, jE1, s0, s1, s2, s3, r1, z2, w1, d0, d1, d2, d3, d4, d5, SA, reduceAdd, reduceIte, reduceEqDiff, Nat.reduceBEq, reduceCtorEq]; (try go_unwrap; try simp only [PV.bin, PV.jAI, jBC, jE1, s0, s1, s2, s3, r1, z2, w1, d0, d1, d2, d3, d4, d5, RR, reduceCtorEq]); exact hc)); (try (case hs => rfl)); (try (case hf => first | exact Or.inl rfl | exact Or.inr ⟨rfl, rfl⟩ | (refine Or.inl ?_; simp only [PV.bin, PV.jAI, jBC, jE1, s0, s1, s2, s3, r1, z2, w1, d0, d1, d2, d3, d4, d5, SA, reduceAdd, reduceIte, reduceEqDiff, Nat.reduceBEq, reduceCtorEq]; done) | (refine Or.inr ⟨rfl, ?_⟩; simp only [PV.bin, PV.jAI, jBC, jE1, s0, s1, s2, s3, r1, z2, w1, d0, d1, d2, d3, d4, d5, SA, reduceAdd, reduceIte, reduceEqDiff, Nat.reduceBEq, reduceCtorEq]; done))); all_goals (first | (simp only [PV.bin, PV.jAI, jBC, jE1, s0, s1, s2, s3, r1, z2, w1, d0, d1, d2, d3, d4, d5, SA, reduceAdd, reduceIte, reduceEqDiff, Nat.reduceBEq, reduceCtorEq]; (try go_unwrap; try simp only [PV.bin, PV.jAI, jBC, jE1, s0, s1, s2, s3, r1, z2, w1, d0, d1, d2, d3, d4, d5, RR, reduceCtorEq])) | (show Env; skip) | (show Mem; skip))) | (refine jAG ?_; intro hg; try simp only [hg]) | (refine saI ?_ ?_; intros) | (refine ari ?_; first | omega | (simp only [DD, LL] <;> omega) | (go_unwrap; omega) | (simp only [DD] at hg; omega)) | (refine stq ?_; focus (simp only [PV.bin, PV.jAI, jBC, jE1, s0, s1, s2, s3, r1, z2, w1, d0, d1, d2, d3, d4, d5, SA, reduceAdd, reduceIte, reduceEqDiff, Nat.reduceBEq, reduceCtorEq]; (try go_unwrap; try simp only [PV.bin, PV.jAI, jBC, jE1, s0, s1, s2, s3, r1, z2, w1, d0, d1, d2, d3, d4, d5, RR, reduceCtorEq]))) | refine And.intro ?_ ?_)
 all_goals first | (simp only [List.length_append, List.length_cons, List.length_nil]; omega) | (simp_all [jY4]; done)
end
theorem gW2 : G0 0 = some (some 10, jFX) := rfl
abbrev trO (l : List Nd) : jAF := .var (some 1) (.agg [.list (some 4) (l.map ndP)])
abbrev txO : jAF := .var none (.fn 21 [] [.ref 0 0, .ref 1 0])
def TxC (l : List Nd) (i least : Int) (ν : Mem) (r : List UInt8) : Prop :=
 jA2 Tryz.prog G0 21 [.int .i64 i, .int .i64 least, .ref 0 0, .ref 1 0] (some (trO l) :: some txO :: ν) (fun _ => false) (fun p μ' => p = .str r ∧ μ' = some (trO l) :: some txO :: ν)
theorem TxC.frame {l : List Nd} {i least : Int} {r : List UInt8} (h : TxC l i least [] r) (ν : Mem) (hν : ν.map (Option.map (jAF.kill fun _ => false)) = ν) : TxC l i least ν r := by
 have := jA2.frame h ν (by rintro p μ' ⟨-, rfl⟩; rfl) (by simp [PV.kill]) (by simp [jAF.kill, PV.kill]) hν
 intro w κ vs hS hG hr
 refine (this w κ vs hS hG hr).mono ?_
 rintro e w' ⟨v, p, μ', κ', rfl, ⟨μ1, ⟨rfl, rfl⟩, rfl⟩, hS', hv, hg⟩
 exact ⟨v, _, _, κ', rfl, ⟨rfl, rfl⟩, hS', hv, hg⟩
theorem kHU (j : Nat) (h : j <= 9) : cut (some 10) none jFX (0 + j * 1) = .str (jCX j) := by
 have : j = 0 ∨ j = 1 ∨ j = 2 ∨ j = 3 ∨ j = 4 ∨ j = 5 ∨ j = 6 ∨ j = 7 ∨ j = 8 ∨ j = 9 := by omega
 rcases this with rfl | rfl | rfl | rfl | rfl | rfl | rfl | rfl | rfl | rfl <;> rfl
theorem V21 (l : List Nd) (hl : l.length <= 256) : ∀ (k : Nat), k <= 16 -> ∀ (i least : Int), jHG l k i -> TxC l i least [] (jDU l k i least)
 | 0, _, i, least, h => h.elim
 | k + 1, kSI, i, least, h => by
  have ih : ∀ i least, jHG l k i -> TxC l i least [] (jDU l k i least) := fun i least h => V21 l hl k (by omega) i least h
  have hle := jOK l k
  have hB : 100 * 4 ^ k <= 429496729600 := by
   have : 4 ^ k <= 4 ^ 16 := Nat.pow_le_pow_right (by omega) (by omega)
   have e : (4 : Nat) ^ 16 = 4294967296 := rfl
   omega
  generalize 100 * 4 ^ k = B at hle hB
  obtain ⟨h1, h2, h3, h4⟩ := h
  refine jA2.moves (mv := fun t => decide (2 <= t)) (fun t ht h => ?_) ?_
  ·simp only [List.length_cons, List.length_nil] at ht
   simp only [decide_eq_true_eq] at h; omega
  refine jA2.jAT Tryz.func21 kRB mix (by simp [kPN]) ?_
  simp only [kPN, jKF, CC, jBW, trO, txO]
  obtain ⟨i, rfl⟩ : ∃ m : Nat, i = m := ⟨i.toNat, by omega⟩
  have hit : ((i : Int)).toNat = i := by omega
  rw [hit] at h2 h3 h4
  have hll : ((l.map ndP).length : Nat) = l.length := by simp
  have hgn : (l.map ndP).getD i .junk = .agg [.int .i64 (l.getD i default).op, .int .i64 (l.getD i default).num, .str (l.getD i default).name, .list none ((l.getD i default).kids.map (PV.int .i64))] := by simp [List.getD, h2, ndP, ndC, jG1]
  unfold jDU
  rw [hit]
  generalize l.getD i default = n at *
  obtain ⟨n0, n9, kP2, kQ8, kQ9, kP1⟩ := h3
  obtain ⟨op, hop⟩ : ∃ m : Nat, n.op = m := ⟨n.op.toNat, by omega⟩
  rw [hop] at n0 n9 kP2 kP1 ⊢
  rw [hop] at hgn
  have hsc : ∀ (a b : Int) (t : List UInt8) (ks : List PV), ∀ x ∈ [PV.int IntKind.i64 a, PV.int IntKind.i64 b, PV.str t, PV.list none ks], x.scalar = true := by
   intro a b t ks x hc; simp at hc; rcases hc with rfl | rfl | rfl | rfl <;> rfl
  have hwa := kHU op (by omega)
  have hwl := jZI op
  have h56 := V22 (G := G0) op
  have hot : ((op : Int)).toNat = op := by omega
  have hkl : ((n.kids.map (PV.int .i64)).length : Nat) = n.kids.length := by simp
  have bw : 0 + op * 1 + 1 <= jFX.cells.length := by
   have : jFX.cells.length = 10 := rfl
   omega
  repeat' (first | exact clo | exact hsc _ _ _ _ | exact (rfl : (some 4 : Sh) = some 4) | (exact Or.inr ⟨rfl, by decide⟩) | (refine PW.stop (x := .seq (.region false (⟨some 17, none, .rd (.jDW 0) [.tmp 7]⟩ :: _) _) _) ?_) | (refine sqI ?_; intros) | refine stp ?_ | (refine cnd rfl ?_ ?_ <;> intro hcond <;> (try contradiction) <;> try simp only [DD] at hcond) | (refine jAG ?_; intro hg; try simp only [hg]) | (refine saI ?_ ?_; intros) | (refine ari ?_; first | omega | (simp only [DD, LL] <;> omega) | (go_unwrap; omega) | (simp only [DD] at hg; omega)) | (refine stq ?_; focus (simp only [hll, hgn, SA, reduceAdd, reduceIte, reduceEqDiff, Nat.reduceBEq, reduceCtorEq]; (try go_unwrap; try simp only [hll, hgn, RR, reduceCtorEq]))) | refine And.intro ?_ ?_)
  refine ⟨?_⟩
  refine PW.kQX 7 2 (some 4) _ rfl rfl ⟨_, rfl, rfl, hsc _ _ _ _⟩ (by intro c hc; simp only [PV.cells, List.mem_cons, List.not_mem_nil, or_false] at hc; rcases hc with rfl | rfl | rfl | rfl <;> simp [PV.jA5]) rfl ?_
  simp only [kHH, jJP, List.map_cons, List.map_nil, PV.frz, jAF.frz, jPF, jFC, SA, reduceAdd, reduceIte, reduceEqDiff, Nat.reduceBEq, reduceCtorEq]
  refine PW.trim 2 (fun t h => by simp [h]) ?_
  simp only [TT, jAF.kill, PV.kill, Nat.reduceLeDiff, reduceIte]
  by_cases o0 : op = 0
  ·subst o0
   obtain ⟨m1, m2⟩ := kP2 rfl
   have h57 := V23 (G := G0) n.num.toNat (by omega)
   have hnn : ((n.num.toNat : Nat) : Int) = n.num := by omega
   rw [hnn] at h57
   repeat' (first | exact clo | (exact Or.inr bw) | (exact Or.inr (by decide)) | (refine sqI ?_; intros) | refine stp ?_ | (refine cnd rfl ?_ ?_ <;> intro hcond <;> (try contradiction) <;> try simp only [DD] at hcond) | (refine jAG ?_; intro hg; try simp only [hg]) | refine jAA E22 (h56) ?_ ?_ ?_ ?_ | refine jAA E23 (h57) ?_ ?_ ?_ ?_ | (refine saI ?_ ?_; intros) | (refine ari ?_; first | omega | (simp only [DD, LL] <;> omega) | (go_unwrap; omega) | (simp only [DD] at hg; omega)) | (refine stq ?_; focus (simp only [gW2, jAM, hot, hwa, SA, reduceAdd, reduceIte, reduceEqDiff, Nat.reduceBEq, reduceCtorEq]; (try go_unwrap; try simp only [gW2, jAM, hot, hwa, RR, reduceCtorEq]))) | refine And.intro ?_ ?_)
   all_goals simp
  by_cases o1 : op = 1
  ·subst o1
   repeat' (first | exact clo | (exact Or.inr bw) | (exact Or.inr (by decide)) | (refine sqI ?_; intros) | refine stp ?_ | (refine cnd rfl ?_ ?_ <;> intro hcond <;> (try contradiction) <;> try simp only [DD] at hcond) | (refine jAG ?_; intro hg; try simp only [hg]) | refine jAA E22 (h56) ?_ ?_ ?_ ?_ | (refine saI ?_ ?_; intros) | (refine ari ?_; first | omega | (simp only [DD, LL] <;> omega) | (go_unwrap; omega) | (simp only [DD] at hg; omega)) | (refine stq ?_; focus (simp only [gW2, jAM, hot, hwa, SA, reduceAdd, reduceIte, reduceEqDiff, Nat.reduceBEq, reduceCtorEq]; (try go_unwrap; try simp only [gW2, jAM, hot, hwa, RR, reduceCtorEq]))) | refine And.intro ?_ ?_)
   all_goals simp
  have q0 : decide ((op : Int) = 0) = false := by simp only [decide_eq_false_iff_not]; omega
  have q1 : decide ((op : Int) = 1) = false := by simp only [decide_eq_false_iff_not]; omega
  have z0 : ¬ ((op : Int) = 0) := by omega
  have z1 : ¬ ((op : Int) = 1) := by omega
  rw [if_neg z0, if_neg z1]
  by_cases o5 : 5 <= op
  ·have hs3 : jAJ op = 3 := by unfold jAJ; rw [if_neg (by omega), if_neg (by omega)]
   rw [hs3] at h56
   rw [if_pos hs3]
   repeat' (first | exact clo | (exact Or.inr bw) | (exact Or.inr (by decide)) | (refine sqI ?_; intros) | refine stp ?_ | (refine cnd rfl ?_ ?_ <;> intro hcond <;> (try contradiction) <;> try simp only [DD] at hcond) | (refine jAG ?_; intro hg; try simp only [hg]) | refine jAA E22 (h56) ?_ ?_ ?_ ?_ | (refine saI ?_ ?_; intros) | (refine ari ?_; first | omega | (simp only [DD, LL] <;> omega) | (go_unwrap; omega) | (simp only [DD] at hg; omega)) | (refine stq ?_; focus (simp only [gW2, jAM, hot, hwa, hkl, q0, q1, SA, reduceAdd, reduceIte, reduceEqDiff, Nat.reduceBEq, reduceCtorEq]; (try go_unwrap; try simp only [gW2, jAM, hot, hwa, hkl, q0, q1, RR, reduceCtorEq]))) | refine And.intro ?_ ?_)
   refine PW.loop (σ := Nat × List UInt8) [2, 3, 9, 43, 44, 45] (fun q => [.ref 0 0, .ref 1 0, .str q.2, .list none (n.kids.map (PV.int .i64)), .int .i64 n.kids.length, .int .i64 q.1]) (fun _ => [some (.var (some 1) (.agg [.list (some 4) (l.map ndP)])), some (.var none (.fn 21 [] [.ref 0 0, .ref 1 0]))])
    (fun q => q.1 <= n.kids.length ∧ q.2.length <= 6 + q.1 * (B + 1) ∧ joinL (fun c => jDU l k c 0) n.kids 0 (jCX op ++ [40]) = joinL (fun c => jDU l k c 0) (n.kids.drop q.1) q.1 q.2) (fun q => n.kids.length - q.1) (0, jCX op ++ [40]) ?_ ?_ ⟨by simp, by simp; omega, by simp⟩ ?_
   ·simp only [SA, reduceAdd, reduceIte, reduceEqDiff, Nat.reduceBEq, reduceCtorEq]; rfl
   ·rfl
   rintro ⟨j, s⟩ ⟨hj, hsl, hjn⟩
   simp only at hj hsl hjn
   simp only [List.zip_cons_cons, List.zip_nil_left]
   rcases Nat.lt_or_ge j n.kids.length with h | h
   ·obtain ⟨c, hd, hc, hg⟩ := drop_at h
    have hfc := h4 c (List.mem_of_getElem? hc)
    have htx := ih c 0 hfc
    have htl := hle c 0 hfc
    simp only [TxC, trO, txO] at htx
    have hgc := (hg (PV.int .i64)).1
    have dj : decide ((j : Int) < n.kids.length) = true := by simp only [decide_eq_true_eq]; omega
    rw [hd, joinL] at hjn
    generalize hT : jDU l k c 0 = T at *
    have hmul : (j + 1) * (B + 1) = j * (B + 1) + (B + 1) := by rw [Nat.add_mul, Nat.one_mul]
    have hjb : j * (B + 1) <= 3 * (B + 1) := Nat.mul_le_mul_right _ (by omega)
    by_cases hj0 : 0 < j
    ·have d0 : decide ((0 : Int) < j) = true := by simp only [decide_eq_true_eq]; omega
     rw [if_pos hj0] at hjn
     repeat' (first | exact clo | (refine sqI ?_; intros) | refine stp ?_ | (refine cnd rfl ?_ ?_ <;> intro hcond <;> (try contradiction) <;> try simp only [DD] at hcond) | (refine jCS E21 htx ?_; rintro p μ' ⟨rfl, rfl⟩; simp only [hkl, hgc, dj, d0, SA, reduceAdd, reduceIte, reduceEqDiff, Nat.reduceBEq, reduceCtorEq]) | (refine jAG ?_; intro hg; try simp only [hg]) | (refine saI ?_ ?_; intros) | (refine ari ?_; first | omega | (simp only [DD, LL] <;> omega) | (go_unwrap; omega) | (simp only [DD] at hg; omega)) | (refine stq ?_; focus (simp only [hkl, hgc, dj, d0, SA, reduceAdd, reduceIte, reduceEqDiff, Nat.reduceBEq, reduceCtorEq]; (try go_unwrap; try simp only [hkl, hgc, dj, d0, RR, reduceCtorEq]))) | refine And.intro ?_ ?_)
     all_goals first | exact ⟨(j + 1, (s ++ [44]) ++ T), rfl, ⟨by simp only; omega, by simp; omega, hjn⟩, by simp only; omega⟩ | (simp; omega)
    ·have d0 : decide ((0 : Int) < j) = false := by simp only [decide_eq_false_iff_not]; omega
     rw [if_neg hj0] at hjn
     repeat' (first | exact clo | (refine sqI ?_; intros) | refine stp ?_ | (refine cnd rfl ?_ ?_ <;> intro hcond <;> (try contradiction) <;> try simp only [DD] at hcond) | (refine jCS E21 htx ?_; rintro p μ' ⟨rfl, rfl⟩; simp only [hkl, hgc, dj, d0, SA, reduceAdd, reduceIte, reduceEqDiff, Nat.reduceBEq, reduceCtorEq]) | (refine jAG ?_; intro hg; try simp only [hg]) | (refine saI ?_ ?_; intros) | (refine ari ?_; first | omega | (simp only [DD, LL] <;> omega) | (go_unwrap; omega) | (simp only [DD] at hg; omega)) | (refine stq ?_; focus (simp only [hkl, hgc, dj, d0, SA, reduceAdd, reduceIte, reduceEqDiff, Nat.reduceBEq, reduceCtorEq]; (try go_unwrap; try simp only [hkl, hgc, dj, d0, RR, reduceCtorEq]))) | refine And.intro ?_ ?_)
     all_goals first | exact ⟨(j + 1, s ++ T), rfl, ⟨by simp only; omega, by simp; omega, hjn⟩, by simp only; omega⟩ | (simp; omega)
   ·have dj : decide ((j : Int) < n.kids.length) = false := by simp only [decide_eq_false_iff_not]; omega
    rw [List.drop_eq_nil_of_le h, joinL] at hjn
    have hjb : j * (B + 1) <= 3 * (B + 1) := Nat.mul_le_mul_right _ (by omega)
    repeat' (first | exact clo | (refine sqI ?_; intros) | refine stp ?_ | (refine cnd rfl ?_ ?_ <;> intro hcond <;> (try contradiction) <;> try simp only [DD] at hcond) | (refine jAG ?_; intro hg; try simp only [hg]) | (refine saI ?_ ?_; intros) | (refine ari ?_; first | omega | (simp only [DD, LL] <;> omega) | (go_unwrap; omega) | (simp only [DD] at hg; omega)) | (refine stq ?_; focus (simp only [hkl, dj, SA, reduceAdd, reduceIte, reduceEqDiff, Nat.reduceBEq, reduceCtorEq]; (try go_unwrap; try simp only [hkl, dj, RR, reduceCtorEq]))) | refine And.intro ?_ ?_)
    all_goals first | (rw [hjn]; done) | rfl | (simp; omega)
  have hst : 1 <= jAJ op ∧ jAJ op <= 2 := by
   unfold jAJ
   by_cases a : (op : Int) = 2 ∨ (op : Int) = 3
   ·rw [if_pos a]; omega
   ·rw [if_neg a, if_pos (by omega)]; omega
  have hs3 : ¬ jAJ op = 3 := by omega
  rw [if_neg hs3]
  have k2 := kP1 (by omega) (by omega)
  obtain ⟨a, b, hab⟩ : ∃ a b, n.kids = [a, b] := by
   match n.kids, k2 with
   | [a, b], _ => exact ⟨a, b, rfl⟩
  rw [hab] at h4 ⊢
  simp only [List.map_cons, List.map_nil, List.getD_cons_zero, List.getD_cons_succ]
  have hfa := h4 a (by simp)
  have hfb := h4 b (by simp)
  have hta := ih a (jAJ op) hfa
  have htb := ih b (jAJ op + 1) hfb
  have hla := hle a (jAJ op) hfa
  have hlb := hle b (jAJ op + 1) hfb
  simp only [TxC, trO, txO] at hta htb
  generalize jDU l k a (jAJ op) = Ta at *
  generalize jDU l k b (jAJ op + 1) = Tb at *
  have q3 : decide (jAJ op = 3) = false := by simp only [decide_eq_false_iff_not]; exact hs3
  have wp : IntKind.i64.wrap (jAJ op + 1) = jAJ op + 1 := IntWalk.i64_in _ (by omega)
  generalize jAJ op = st at *
  generalize jCX op = W at *
  by_cases hlt : st < least
  ·rw [if_pos hlt]
   repeat' (first | exact clo | (refine PW.jP0 (E := ?_) (M := ?_) ?_ ?_; rotate_left 2) | exact jBH _ _ | (exact Or.inr bw) | (exact Or.inr (by decide)) | (refine sqI ?_; intros) | refine stp ?_ | (refine cnd rfl ?_ ?_ <;> intro hcond <;> (try contradiction) <;> try simp only [DD] at hcond) | (refine jCS E21 hta ?_; rintro p μ' ⟨rfl, rfl⟩; simp only [PV.bin, PV.jAI, jBC, gW2, jAM, hot, hwa, hkl, q0, q1, q3, wp, decide_eq_true hlt, SA, reduceAdd, reduceIte, reduceEqDiff, Nat.reduceBEq, reduceCtorEq]) | (refine jCS E21 htb ?_; rintro p μ' ⟨rfl, rfl⟩; simp only [PV.bin, PV.jAI, jBC, gW2, jAM, hot, hwa, hkl, q0, q1, q3, wp, decide_eq_true hlt, SA, reduceAdd, reduceIte, reduceEqDiff, Nat.reduceBEq, reduceCtorEq]) | (refine jAG ?_; intro hg; try simp only [hg]) | refine jAA E22 (h56) ?_ ?_ ?_ ?_ | (refine saI ?_ ?_; intros) | (refine ari ?_; first | omega | (simp only [DD, LL] <;> omega) | (go_unwrap; omega) | (simp only [DD] at hg; omega)) | (refine stq ?_; focus (simp only [PV.bin, PV.jAI, jBC, gW2, jAM, hot, hwa, hkl, q0, q1, q3, wp, decide_eq_true hlt, SA, reduceAdd, reduceIte, reduceEqDiff, Nat.reduceBEq, reduceCtorEq]; (try go_unwrap; try simp only [PV.bin, PV.jAI, jBC, gW2, jAM, hot, hwa, hkl, q0, q1, q3, wp, decide_eq_true hlt, RR, reduceCtorEq]))) | refine And.intro ?_ ?_)
   all_goals first | rfl | (simp; omega)
  ·rw [if_neg hlt]
   repeat' (first | exact clo | (refine PW.jP0 (E := ?_) (M := ?_) ?_ ?_; rotate_left 2) | exact jBH _ _ | (exact Or.inr bw) | (exact Or.inr (by decide)) | (refine sqI ?_; intros) | refine stp ?_ | (refine cnd rfl ?_ ?_ <;> intro hcond <;> (try contradiction) <;> try simp only [DD] at hcond) | (refine jCS E21 hta ?_; rintro p μ' ⟨rfl, rfl⟩; simp only [PV.bin, PV.jAI, jBC, gW2, jAM, hot, hwa, hkl, q0, q1, q3, wp, decide_eq_false hlt, SA, reduceAdd, reduceIte, reduceEqDiff, Nat.reduceBEq, reduceCtorEq]) | (refine jCS E21 htb ?_; rintro p μ' ⟨rfl, rfl⟩; simp only [PV.bin, PV.jAI, jBC, gW2, jAM, hot, hwa, hkl, q0, q1, q3, wp, decide_eq_false hlt, SA, reduceAdd, reduceIte, reduceEqDiff, Nat.reduceBEq, reduceCtorEq]) | (refine jAG ?_; intro hg; try simp only [hg]) | refine jAA E22 (h56) ?_ ?_ ?_ ?_ | (refine saI ?_ ?_; intros) | (refine ari ?_; first | omega | (simp only [DD, LL] <;> omega) | (go_unwrap; omega) | (simp only [DD] at hg; omega)) | (refine stq ?_; focus (simp only [PV.bin, PV.jAI, jBC, gW2, jAM, hot, hwa, hkl, q0, q1, q3, wp, decide_eq_false hlt, SA, reduceAdd, reduceIte, reduceEqDiff, Nat.reduceBEq, reduceCtorEq]; (try go_unwrap; try simp only [PV.bin, PV.jAI, jBC, gW2, jAM, hot, hwa, hkl, q0, q1, q3, wp, decide_eq_false hlt, RR, reduceCtorEq]))) | refine And.intro ?_ ?_)
   all_goals first | rfl | (simp; omega)
theorem E6 : Ent Tryz.prog 6 := ⟨Tryz.f6, Tryz.func6, by kernel_rfl, by kernel_rfl⟩
theorem kOR : jJD G0 := rfl
theorem V6 (l : List Nd) (hl : l.length <= 256) (hs : ∀ n ∈ l, n.name.length <= 9223372036854775807 ∧ n.kids.length <= 9223372036854775807) (hc : jBP l = 0) (hf : jHG l 16 ((l.length : Int) - 1)) : jAB Tryz.prog G0 6 [jFL l] (.str (jDU l 16 ((l.length : Int) - 1) 0)) := by
 refine jAB.jAT Tryz.func6 k6 mix (by simp [c6]) ?_
 simp only [c6, L6, CC, jBW]
 have h29 := V20 kOR l (by omega) hs
 rw [hc] at h29
 have htx := V21 l hl 16 (Nat.le_refl _) _ 0 hf
 simp only [TxC, trO, txO] at htx
 simp only [jFL] at h29 ⊢
 have hll : ((l.map ndP).length : Nat) = l.length := by simp
 have q0 : decide ((0 : Int) = 0) = true := rfl
 repeat' (first | exact clo | (exact Or.inr ⟨rfl, by decide⟩) | (refine sqI ?_; intros) | refine stp ?_ | (refine cnd rfl ?_ ?_ <;> intro hcond <;> (try contradiction) <;> try simp only [DD] at hcond) | (refine jCS E21 htx ?_; rintro p μ' ⟨rfl, rfl⟩; simp only [hll, q0, SA, reduceAdd, reduceIte, reduceEqDiff, Nat.reduceBEq, reduceCtorEq]) | (refine jAG ?_; intro hg; try simp only [hg]) | refine jAA E20 (h29) ?_ ?_ ?_ ?_ | (refine saI ?_ ?_; intros) | (refine ari ?_; first | omega | (simp only [DD, LL] <;> omega) | (go_unwrap; omega) | (simp only [DD] at hg; omega)) | (refine stq ?_; focus (simp only [hll, q0, SA, reduceAdd, reduceIte, reduceEqDiff, Nat.reduceBEq, reduceCtorEq]; (try go_unwrap; try simp only [hll, q0, RR, reduceCtorEq]))) | refine And.intro ?_ ?_)
theorem kIS : jJD G0 := rfl
section
open Go PG Go.Proofs Go.Shelf
def Tryz.sortS_ren : Go.Shelf.Ren := ⟨fun | 6 => 25 | 8 => 54 | 9 => 53 | 19 => 87 | 20 => 88 | 21 => 78 | 22 => 79 | 23 => 80 | 24 => 81 | 25 => 82 | 26 => 83 | 27 => 84 | 28 => 85 | 29 => 86 | 36 => 103 | 31 => 104 | 32 => 105 | 37 => 106 | 38 => 107 | 39 => 108 | 41 => 119 | n => n, fun | 27 => 38 | 29 => 9 | 3 => 3 | 32 => 110 | 26 => 38 | 0 => 0 | 44 => 137 | 46 => 123 | 4 => 4 | 36 => 130 | 35 => 129 | 41 => 97 | 5 => 5 | 9 => 9 | 53 => 149 | 57 => 153 | 63 => 162 | 64 => 163 | n => n, fun | n => n⟩
theorem Tryz.sortS : Go.Proofs.SlLaysM.n6 Tryz.prog Tryz.sortS_ren := {
 mixed := by kernel_rfl
 f6 := ⟨Tryz.f25.name, by decide, Tryz.func25.trans (congrArg some (by kernel_rfl))⟩
 f8 := Tryz.func54.trans (congrArg some (by kernel_rfl))
 f9 := ⟨Tryz.f53.name, by decide, Tryz.func53.trans (congrArg some (by kernel_rfl))⟩
 f19 := Tryz.func87.trans (congrArg some (by kernel_rfl))
 f20 := Tryz.func88.trans (congrArg some (by kernel_rfl))
 f21 := ⟨Tryz.f78.name, by decide, Tryz.func78.trans (congrArg some (by kernel_rfl))⟩
 f22 := ⟨Tryz.f79.name, by decide, Tryz.func79.trans (congrArg some (by kernel_rfl))⟩
 f23 := ⟨Tryz.f80.name, by decide, Tryz.func80.trans (congrArg some (by kernel_rfl))⟩
 f24 := ⟨Tryz.f81.name, by decide, Tryz.func81.trans (congrArg some (by kernel_rfl))⟩
 f25 := ⟨Tryz.f82.name, by decide, Tryz.func82.trans (congrArg some (by kernel_rfl))⟩
 f26 := ⟨Tryz.f83.name, by decide, Tryz.func83.trans (congrArg some (by kernel_rfl))⟩
 f27 := ⟨Tryz.f84.name, by decide, Tryz.func84.trans (congrArg some (by kernel_rfl))⟩
 f28 := ⟨Tryz.f85.name, by decide, Tryz.func85.trans (congrArg some (by kernel_rfl))⟩
 f29 := ⟨Tryz.f86.name, by decide, Tryz.func86.trans (congrArg some (by kernel_rfl))⟩
 f31 := Tryz.func104.trans (congrArg some (by kernel_rfl))
 f32 := Tryz.func105.trans (congrArg some (by kernel_rfl))
 f36 := ⟨Tryz.f103.name, by decide, Tryz.func103.trans (congrArg some (by kernel_rfl))⟩
 f37 := ⟨Tryz.f106.name, by decide, Tryz.func106.trans (congrArg some (by kernel_rfl))⟩
 f38 := ⟨Tryz.f107.name, by decide, Tryz.func107.trans (congrArg some (by kernel_rfl))⟩
 f39 := ⟨Tryz.f108.name, by decide, Tryz.func108.trans (congrArg some (by kernel_rfl))⟩
 f41 := ⟨Tryz.f119.name, by decide, Tryz.func119.trans (congrArg some (by kernel_rfl))⟩
 t0 := Tryz.underlying0
 a0 := Tryz.isAgg0
 z0 := Tryz.sizeOf0
 v0 := Tryz.zeroValue0
 t3 := Tryz.underlying3
 a3 := Tryz.isAgg3
 z3 := Tryz.sizeOf3
 v3 := Tryz.zeroValue3
 t4 := Tryz.underlying4
 a4 := Tryz.isAgg4
 z4 := Tryz.sizeOf4
 v4 := Tryz.zeroValue4
 t5 := Tryz.underlying5
 a5 := Tryz.isAgg5
 z5 := Tryz.sizeOf5
 v5 := Tryz.zeroValue5
 t9 := Tryz.underlying9
 a9 := Tryz.isAgg9
 z9 := Tryz.sizeOf9
 v9 := Tryz.zeroValue9
 t26 := Tryz.underlying38
 a26 := Tryz.isAgg38
 z26 := Tryz.sizeOf38
 v26 := Tryz.zeroValue38
 t27 := Tryz.underlying38
 a27 := Tryz.isAgg38
 z27 := Tryz.sizeOf38
 v27 := Tryz.zeroValue38
 t29 := Tryz.underlying9
 a29 := Tryz.isAgg9
 z29 := Tryz.sizeOf9
 v29 := Tryz.zeroValue9
 t32 := Tryz.underlying110
 a32 := Tryz.isAgg110
 z32 := Tryz.sizeOf110
 v32 := Tryz.zeroValue110
 t35 := Tryz.underlying129
 a35 := Tryz.isAgg129
 z35 := Tryz.sizeOf129
 v35 := Tryz.zeroValue129
 t36 := Tryz.underlying130
 a36 := Tryz.isAgg130
 z36 := Tryz.sizeOf130
 v36 := Tryz.zeroValue130
 t41 := Tryz.underlying97
 a41 := Tryz.isAgg97
 z41 := Tryz.sizeOf97
 v41 := Tryz.zeroValue97
 t44 := Tryz.underlying137
 a44 := Tryz.isAgg137
 z44 := Tryz.sizeOf137
 v44 := Tryz.zeroValue137
 t46 := Tryz.underlying123
 a46 := Tryz.isAgg123
 z46 := Tryz.sizeOf123
 v46 := Tryz.zeroValue123
 t53 := Tryz.underlying149
 a53 := Tryz.isAgg149
 z53 := Tryz.sizeOf149
 v53 := Tryz.zeroValue149
 t57 := Tryz.underlying153
 a57 := Tryz.isAgg153
 z57 := Tryz.sizeOf153
 v57 := Tryz.zeroValue153
 t63 := Tryz.underlying162
 a63 := Tryz.isAgg162
 z63 := Tryz.sizeOf162
 v63 := Tryz.zeroValue162
 t64 := Tryz.underlying163
 a64 := Tryz.isAgg163
 z64 := Tryz.sizeOf163
 v64 := Tryz.zeroValue163 }
def Tryz.cmpS_ren : Go.Shelf.Ren := ⟨fun | 44 => 26 | n => n, fun | 25 => 38 | 26 => 9 | 3 => 3 | 4 => 4 | 0 => 0 | n => n, fun | n => n⟩
theorem Tryz.cmpS : Go.Proofs.SlLaysN.n44 Tryz.prog Tryz.cmpS_ren := {
 mixed := by kernel_rfl
 f44 := ⟨Tryz.f26.name, by decide, Tryz.func26.trans (congrArg some (by kernel_rfl))⟩
 t0 := Tryz.underlying0
 a0 := Tryz.isAgg0
 z0 := Tryz.sizeOf0
 v0 := Tryz.zeroValue0
 t3 := Tryz.underlying3
 a3 := Tryz.isAgg3
 z3 := Tryz.sizeOf3
 v3 := Tryz.zeroValue3
 t4 := Tryz.underlying4
 a4 := Tryz.isAgg4
 z4 := Tryz.sizeOf4
 v4 := Tryz.zeroValue4
 t25 := Tryz.underlying38
 a25 := Tryz.isAgg38
 z25 := Tryz.sizeOf38
 v25 := Tryz.zeroValue38
 t26 := Tryz.underlying9
 a26 := Tryz.isAgg9
 z26 := Tryz.sizeOf9
 v26 := Tryz.zeroValue9
 i26 := by kernel_rfl }
theorem jN4 (w : World) (ex : Nat -> Prop) (a : List UInt8) : jAW w ex (Value.string ⟨a.toArray⟩) (.str a) := jAW.str (w := w) (ex := ex) ⟨a.toArray⟩
theorem E25 : Ent Tryz.prog 25 := ⟨Tryz.f25, Tryz.func25, by kernel_rfl, by kernel_rfl⟩
theorem E26 : Ent Tryz.prog 26 := ⟨Tryz.f26, Tryz.func26, by kernel_rfl, by kernel_rfl⟩
abbrev jD0 (ds : List (List UInt8)) : List (List UInt8) := ds.mergeSort fun x y => decide (x <= y)
theorem V25 {μ : Mem} {t : Nat} (ds : List (List UInt8)) (hl : ds.length <= 4000000000) (hm : μ.get t = some (.row none (ds.map PV.str))) :
  jA2 Tryz.prog G0 25 [.sl none t ds.length] μ (fun _ => false) (fun p μ' => p = .tup [] ∧ μ' = μ.set t (some (.row none ((jD0 ds).map PV.str)))) := by
 refine jA2.row (enc := fun (l : List UInt8) => Value.string ⟨l.toArray⟩) (pv := PV.str) jN4 (fun a => ⟨by simp [PV.flat], rfl⟩) (d := ds) (d' := jD0 ds) (List.length_mergeSort _) hm (rv := fun _ _ => .tuple #[]) ?_ ?_ (fun w κ a cap _ => .closed (.tup _ _ rfl (fun i v p a b => by simp at a)))
 ·intro blk off cap w hH hblk hcap
  exact AnyM.slices_Sort_string Tryz.sortS blk off cap ds w hH hblk (by omega)
 ·intro h w
  exact AnyM.slices_Sort_string_none Tryz.sortS none 0 w
theorem jC7 (ds : List (List UInt8)) : (Lib.compact ds).length <= ds.length := Lib.compact_length_le ds
def kKL (ds : List (List UInt8)) : List (List UInt8) := Lib.compact ds ++ List.replicate (ds.length - (Lib.compact ds).length) []
theorem jPU (ds : List (List UInt8)) : (kKL ds).length = ds.length := by
 have := jC7 ds
 simp [kKL]; omega
theorem V26 {μ : Mem} {t : Nat} (ds : List (List UInt8)) (hl : ds.length <= 4000000000) (hm : μ.get t = some (.row none (ds.map PV.str))) :
  jA2 Tryz.prog G0 26 [.sl none t ds.length] μ (fun _ => false) (fun p μ' => p = .sl none t (Lib.compact ds).length ∧ μ' = μ.set t (some (.row none ((kKL ds).map PV.str)))) := by
 have hle := jC7 ds
 refine jA2.row (enc := fun (l : List UInt8) => Value.string ⟨l.toArray⟩) (pv := PV.str) jN4 (fun a => ⟨by simp [PV.flat], rfl⟩) (d := ds) (d' := kKL ds) (jPU ds) hm (rv := fun a cap => .slice a (Lib.compact ds).length cap) ?_ ?_ ?_
 ·intro blk off cap w hH hblk hcap
  refine (AnyG.slices_Compact_string Tryz.cmpS blk off cap ds w hH (by omega) hcap).mono ?_
  rintro e w' ⟨rfl, q, rfl⟩
  refine ⟨rfl, q, #[], ?_⟩
  have hg : ∀ w : World, Sort.grow w #[] = w := fun w => by cases w; simp [Sort.grow]
  rw [hg]; rfl
 ·intro h w
  subst h
  exact AnyG.slices_Compact_string_empty Tryz.cmpS none 0 w
 ·intro w κ a cap h
  generalize hn : ds.length = n at h hle
  cases h with
  | closed h => cases h
  | sl _ _ _ b _ hb hs hl' hm' => exact .sl _ _ _ _ _ hb hs (by omega) hm'
  | slnil _ _ hb =>
   rw [show (Lib.compact ds).length = 0 by omega]
   exact .slnil _ _ hb
theorem E8 : Ent Tryz.prog 8 := ⟨Tryz.f8, Tryz.func8, by kernel_rfl, by kernel_rfl⟩
def jBL (l : List Nd) : List (List UInt8) := (l.filter fun n => decide (n.op = 1)).map (·.name)
def jG0 (l : List Nd) : List (List UInt8) := Lib.compact (jD0 (jBL l))
theorem jTQ (l : List Nd) (n : Nd) : jBL (l ++ [n]) = jBL l ++ (if n.op = 1 then [n.name] else []) := by
 unfold jBL
 rw [List.filter_append, List.map_append]
 by_cases h : n.op = 1
 ·simp [h]
 ·simp [h]
theorem jGT (l : List Nd) : (jBL l).length <= l.length := by
 unfold jBL; rw [List.length_map]; exact List.length_filter_le _ _
theorem V8 (l : List Nd) (hs : ∀ n ∈ l, n.name.length <= 9223372036854775807 ∧ n.kids.length <= 9223372036854775807) (hl : l.length <= 256) (hc : jBP l = 0) : jAB Tryz.prog G0 8 [jFL l] (.list none ((jG0 l).map PV.str)) := by
 refine jAB.jAT Tryz.func8 k8 mix (by simp [c8]) ?_
 simp only [c8, L8, CC, jBW]
 have h29 := V20 kIS l (by omega) hs
 rw [hc] at h29
 simp only [jFL] at h29 ⊢
 have q0 : decide ((0 : Int) = 0) = true := rfl
 have hll : ((l.map ndP).length : Nat) = l.length := by simp
 repeat' (first | exact clo | (exact Or.inr ⟨rfl, by decide⟩) | (refine sqI ?_; intros) | refine stp ?_ | (refine cnd rfl ?_ ?_ <;> intro hcond <;> (try contradiction) <;> try simp only [DD] at hcond) | (refine jAG ?_; intro hg; try simp only [hg]) | refine jAA E20 (h29) ?_ ?_ ?_ ?_ | (refine saI ?_ ?_; intros) | (refine ari ?_; first | omega | (simp only [DD, LL] <;> omega) | (go_unwrap; omega) | (simp only [DD] at hg; omega)) | (refine stq ?_; focus (simp only [q0, hll, SA, reduceAdd, reduceIte, reduceEqDiff, Nat.reduceBEq, reduceCtorEq]; (try go_unwrap; try simp only [q0, hll, RR, reduceCtorEq]))) | refine And.intro ?_ ?_)
 refine PW.own none 3 rfl ?_
 refine PW.jDV (σ := Nat) 2 (fun _ _ => rfl) [1, 2, 3, 10, 11, 12] (fun i => [.ref 0 0, .jAH, .sl none 1 (jBL (l.take i)).length, .list (some 4) (l.map ndP), .int .i64 l.length, .int .i64 i])
  (fun i => [some (.var (some 1) (.agg [.list (some 4) (l.map ndP)])), some (.row none ((jBL (l.take i)).map PV.str))]) (fun i => i <= l.length) (fun i => l.length - i) 0 ?_ (by simp [jBL]) (by omega) ?_
 ·simp only [SA, reduceAdd, reduceIte, reduceEqDiff, Nat.reduceBEq, reduceCtorEq]; rfl
 intro i hi
 simp only [List.zip_cons_cons, List.zip_nil_left]
 rcases Nat.lt_or_ge i l.length with h | h
 ·have hd : decide ((i : Int) < l.length) = true := by simp only [decide_eq_true_eq]; omega
  obtain ⟨n, -, hn, hg⟩ := drop_at h
  have hgn := ((hg ndP).1).trans (kG1 n)
  have hst : jBL (l.take (i + 1)) = jBL (l.take i) ++ (if n.op = 1 then [n.name] else []) := by
   rw [List.take_succ_eq_append_getElem h, jTQ]
   have : l[i] = n := by rw [List.getElem?_eq_getElem h] at hn; exact Option.some.inj hn
   rw [this]
  have hrl := jGT (l.take i)
  have htl : (l.take i).length <= l.length := by simp; omega
  generalize jBL (l.take i) = R at hst hrl
  have hRl : ((R.map PV.str).length : Nat) = R.length := by simp
  have hRt : (R.map PV.str).take R.length = R.map PV.str := List.take_of_length_le (by simp)
  have b1 : (R.length + 1) * 16 <= 281474976710656 := by omega
  by_cases ho : n.op = 1
  ·rw [if_pos ho] at hst
   have d1 : decide (n.op = 1) = true := decide_eq_true ho
   repeat' (first | exact clo | (refine sqI ?_; intros) | refine stp ?_ | (refine cnd rfl ?_ ?_ <;> intro hcond <;> (try contradiction) <;> try simp only [DD] at hcond) | (refine jAG ?_; intro hg; try simp only [hg]) | (refine saI ?_ ?_; intros) | (refine ari ?_; first | omega | (simp only [DD, LL] <;> omega) | (go_unwrap; omega) | (simp only [DD] at hg; omega)) | (refine stq ?_; focus (simp only [hd, hgn, d1, hll, hRl, hRt, SA, reduceAdd, reduceIte, reduceEqDiff, Nat.reduceBEq, reduceCtorEq]; (try go_unwrap; try simp only [hd, hgn, d1, hll, hRl, hRt, RR, reduceCtorEq]))) | refine And.intro ?_ ?_)
   all_goals exact ⟨i + 1, (by rw [hst, List.length_append]; exact (by first | rfl | (simp only [TT, jAF.kill, PV.kill, Nat.reduceLeDiff, reduceIte, Nat.le_refl, Nat.zero_le, Nat.not_le, Nat.lt_irrefl]; done) | (simp [jBE, jAZ, jAF.kill, PV.kill]; done))), (by rw [hst, List.map_append]; exact (by first | rfl | (simp only [TT, jAF.kill, PV.kill, Nat.reduceLeDiff, reduceIte, Nat.le_refl, Nat.zero_le, Nat.not_le, Nat.lt_irrefl]; done) | (simp [jBE, jAZ, jAF.kill, PV.kill]; done))), by omega, by omega⟩
  ·rw [if_neg ho, List.append_nil] at hst
   have d1 : decide (n.op = 1) = false := decide_eq_false ho
   repeat' (first | exact clo | (refine sqI ?_; intros) | refine stp ?_ | (refine cnd rfl ?_ ?_ <;> intro hcond <;> (try contradiction) <;> try simp only [DD] at hcond) | (refine jAG ?_; intro hg; try simp only [hg]) | (refine saI ?_ ?_; intros) | (refine ari ?_; first | omega | (simp only [DD, LL] <;> omega) | (go_unwrap; omega) | (simp only [DD] at hg; omega)) | (refine stq ?_; focus (simp only [hd, hgn, d1, hll, hRl, SA, reduceAdd, reduceIte, reduceEqDiff, Nat.reduceBEq, reduceCtorEq]; (try go_unwrap; try simp only [hd, hgn, d1, hll, hRl, RR, reduceCtorEq]))) | refine And.intro ?_ ?_)
   all_goals exact ⟨i + 1, (by rw [hst]; exact (by first | rfl | (simp only [TT, jAF.kill, PV.kill, Nat.reduceLeDiff, reduceIte, Nat.le_refl, Nat.zero_le, Nat.not_le, Nat.lt_irrefl]; done) | (simp [jBE, jAZ, jAF.kill, PV.kill]; done))), (by rw [hst]; exact (by first | rfl | (simp only [TT, jAF.kill, PV.kill, Nat.reduceLeDiff, reduceIte, Nat.le_refl, Nat.zero_le, Nat.not_le, Nat.lt_irrefl]; done) | (simp [jBE, jAZ, jAF.kill, PV.kill]; done))), by omega, by omega⟩
 ·have hd : decide ((i : Int) < l.length) = false := by simp only [decide_eq_false_iff_not]; omega
  have hi' : i = l.length := by omega
  subst hi'
  simp only [List.take_length]
  have hun : jG0 l = Lib.compact (jD0 (jBL l)) := rfl
  have hrl := jGT l
  generalize jBL l = R at hun hrl
  have hsl : (jD0 R).length = R.length := List.length_mergeSort _
  have h64 : ∀ (μ : Mem), μ.get 1 = some (.row none ((jD0 R).map PV.str)) -> jA2 Tryz.prog G0 26 [.sl none 1 R.length] μ (fun _ => false) (fun p μ' => p = .sl none 1 (Lib.compact (jD0 R)).length ∧ μ' = μ.set 1 (some (.row none ((kKL (jD0 R)).map PV.str)))) := fun μ hm => by
   have := V26 (μ := μ) (t := 1) (jD0 R) (by omega) hm
   rw [hsl] at this; exact this
  repeat' (first | exact clo | (refine sqI ?_; intros) | refine stp ?_ | (refine cnd rfl ?_ ?_ <;> intro hcond <;> (try contradiction) <;> try simp only [DD] at hcond) | (refine jCS E25 (V25 R (by omega) rfl) ?_; rintro p μ' ⟨rfl, rfl⟩; simp only [hd, hll, SA, reduceAdd, reduceIte, reduceEqDiff, Nat.reduceBEq, reduceCtorEq]) | (refine jCS E26 (h64 _ rfl) ?_; rintro p μ' ⟨rfl, rfl⟩; simp only [hd, hll, SA, reduceAdd, reduceIte, reduceEqDiff, Nat.reduceBEq, reduceCtorEq]) | (refine jAG ?_; intro hg; try simp only [hg]) | (refine saI ?_ ?_; intros) | (refine ari ?_; first | omega | (simp only [DD, LL] <;> omega) | (go_unwrap; omega) | (simp only [DD] at hg; omega)) | (refine stq ?_; focus (simp only [hd, hll, SA, reduceAdd, reduceIte, reduceEqDiff, Nat.reduceBEq, reduceCtorEq]; (try go_unwrap; try simp only [hd, hll, RR, reduceCtorEq]))) | refine And.intro ?_ ?_)
  ·simp only [decide_eq_true_eq, List.length_map, jPU]; exact jC7 _
  ·rw [if_pos (by simp only [List.length_map, jPU]; exact jC7 _), hun]
   congr 1
   rw [<- List.map_take]
   congr 1
   simp [kKL]
end
theorem kN8 (a b c : List UInt8) : decide (a <= b) = true -> decide (b <= c) = true -> decide (a <= c) = true := by
 simp only [decide_eq_true_eq]; exact List.le_trans
theorem kN7 (a b : List UInt8) : (decide (a <= b) || decide (b <= a)) = true := by
 simp only [Bool.or_eq_true, decide_eq_true_eq]; exact List.le_total a b
abbrev Str (L : List (List UInt8)) : Prop := L.Pairwise (· < ·)
theorem not_lt {a b : List UInt8} (h : ¬ a < b) : b <= a := h
theorem kOF {a b : List UInt8} (h : a <= b) (hn : a ≠ b) : a < b := by
 by_cases h1 : a < b
 ·exact h1
 ·exact absurd (List.le_antisymm h h1) hn
theorem Str.nodup {L : List (List UInt8)} (h : Str L) : L.Nodup := h.imp fun h e => by subst e; exact List.lt_irrefl _ h
theorem kEO {L : List (List UInt8)} {x : List UInt8} : x ∈ jD0 L ↔ x ∈ L := (List.mergeSort_perm L _).mem_iff
theorem jN7 (d : Array (List UInt8)) (hs : ∀ i j, i <= j -> j < d.size -> d[i]! <= d[j]!) : ∀ m, m <= d.size -> Str (Lib.compactUpTo d m) ∧ ∀ x, x ∈ Lib.compactUpTo d m ↔ ∃ j, j < m ∧ d[j]! = x
 | 0, _ => by simp [Lib.compactUpTo, Str]
 | m + 1, hm => by
  obtain ⟨h1, h2⟩ := jN7 d hs m (by omega)
  rw [Lib.compactUpTo_succ]
  by_cases hk : Lib.keeps d m = true
  ·rw [if_pos hk]
   have hlt : ∀ x ∈ Lib.compactUpTo d m, x < d[m]! := by
    intro x hx
    obtain ⟨j, hj, rfl⟩ := (h2 x).1 hx
    have h3 := hs j (m - 1) (by omega) (by omega)
    have h4 := hs (m - 1) m (by omega) (by omega)
    have h5 : d[m]! ≠ d[m - 1]! := by
     unfold Lib.keeps at hk
     simp only [decide_eq_true_eq] at hk
     rcases hk with h | h
     ·omega
     ·exact h
    refine kOF (List.le_trans h3 h4) fun e => ?_
    rw [e] at h3
    exact h5 (List.le_antisymm h3 h4)
   refine ⟨?_, fun x => ?_⟩
   ·refine List.pairwise_append.2 ⟨h1, by simp, fun x hx y hy => by simp at hy; subst hy; exact hlt x hx⟩
   ·rw [List.mem_append, h2 x]
    simp only [List.mem_singleton]
    constructor
    ·rintro (⟨j, hj, e⟩ | rfl)
     ·exact ⟨j, by omega, e⟩
     ·exact ⟨m, by omega, rfl⟩
    ·rintro ⟨j, hj, e⟩
     rcases Nat.lt_or_ge j m with h | h
     ·exact .inl ⟨j, h, e⟩
     ·have : j = m := by omega
      subst this; exact .inr e.symm
  ·rw [if_neg hk, List.append_nil]
   have hk' : m ≠ 0 ∧ d[m]! = d[m - 1]! := by
    unfold Lib.keeps at hk
    simp only [decide_eq_true_eq] at hk
    exact ⟨fun h => hk (.inl h), Classical.byContradiction fun h => hk (.inr h)⟩
   refine ⟨h1, fun x => ?_⟩
   rw [h2 x]
   constructor
   ·rintro ⟨j, hj, e⟩; exact ⟨j, by omega, e⟩
   ·rintro ⟨j, hj, e⟩
    rcases Nat.lt_or_ge j m with h | h
    ·exact ⟨j, h, e⟩
    ·have : j = m := by omega
     subst this
     exact ⟨j - 1, by omega, by rw [<- hk'.2]; exact e⟩
theorem kDM (R : List (List UInt8)) : Str (Lib.compact (jD0 R)) ∧ ∀ x, x ∈ Lib.compact (jD0 R) ↔ x ∈ R := by
 have hp := List.pairwise_mergeSort kN8 kN7 R
 have hs : ∀ i j, i <= j -> j < (jD0 R).toArray.size -> (jD0 R).toArray[i]! <= (jD0 R).toArray[j]! := by
  intro i j hij hj
  have hj' : j < (jD0 R).length := by rw [List.size_toArray] at hj; exact hj
  have hi' : i < (jD0 R).length := by omega
  rw [getElem!_pos _ i (by rw [List.size_toArray]; exact hi'), getElem!_pos _ j (by rw [List.size_toArray]; exact hj')]
  rcases Nat.lt_or_ge i j with h | h
  ·have := List.pairwise_iff_getElem.1 hp i j hi' hj' h
   simpa using this
  ·have : i = j := by omega
   subst this; exact List.le_refl _
 obtain ⟨h1, h2⟩ := jN7 (jD0 R).toArray hs (jD0 R).length (by simp)
 refine ⟨h1, fun x => ?_⟩
 rw [<- kEO (L := R)]
 show x ∈ Lib.compactUpTo (jD0 R).toArray (jD0 R).length ↔ _
 rw [h2 x]
 constructor
 ·rintro ⟨j, hj, rfl⟩
  rw [getElem!_pos _ j (by rw [List.size_toArray]; exact hj)]
  simp
 ·intro h
  obtain ⟨j, hj, rfl⟩ := List.getElem_of_mem h
  exact ⟨j, hj, by rw [getElem!_pos _ j (by rw [List.size_toArray]; exact hj)]; simp⟩
theorem jKI (l : List Nd) : Str (jG0 l) ∧ ∀ x, x ∈ jG0 l ↔ x ∈ jBL l := kDM (jBL l)
theorem kBW {l : List Nd} {x : List UInt8} : x ∈ jBL l ↔ ∃ n ∈ l, n.op = 1 ∧ n.name = x := by
 unfold jBL
 simp [and_assoc]
end Go.Proofs.YthjkmhfiffojeaaGreatDoor
