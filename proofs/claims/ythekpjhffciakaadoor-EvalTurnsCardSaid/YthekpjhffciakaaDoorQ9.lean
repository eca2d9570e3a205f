import Derived.Lib.Mul64
import Derived.Test.YthekpjhffciakaaDoorQ6
import Derived.Test.YthekpjhffciakaaDoorQ8
import Derived.Test.YthekpjhffciakaaDoorQ7
import Derived.Test.YthekpjhffciakaaDoorP4
namespace Go.Proofs.YthekpjhffciakaaDoor
open Go PG Go.Proofs
set_option linter.unusedSimpArgs false
set_option linter.unusedVariables false
set_option maxHeartbeats 4000000
set_option maxRecDepth 100000
variable {G : Globs}
theorem err_ne : ∀ (ns : List Nd) (i : Nat) (t : List Bool) (e : Int), checkNodes ns i t = .error e → e ≠ 0 := by
  intro ns
  induction ns with
  | nil => intro i t e h; cases h
  | cons n ns ih =>
    intro i t e h
    unfold checkNodes at h
    split at h
    · cases h; assumption
    · split at h
      · cases h; decide
      · split at h
        · cases h; assumption
        · exact ih _ _ _ h
/-- What a right list of nodes is by itself. -/
theorem checkM_ok {l : List Nd} (h : checkM l = 0) : l.length ≤ 256 ∧ l ≠ [] ∧ wfK l 0 ∧ (∀ n ∈ l, formE n = 0 ∧ restE n = 0) ∧ depthM l ≤ 16 := by
  unfold checkM at h
  split at h
  · cases h
  · split at h
    · cases h
    · split at h
      · rename_i hc
        exfalso
        exact err_ne _ _ _ _ hc h
      · rename_i hc
        obtain ⟨-, h2, h3⟩ := checkNodes_ok hc
        split at h
        · cases h
        · split at h
          · cases h
          · exact ⟨by omega, fun h => by simp_all, h2, h3, by omega⟩
end Go.Proofs.YthekpjhffciakaaDoor

namespace Go.Proofs.YthekpjhffciakaaDoor
open Go PG Go.Proofs
set_option linter.unusedSimpArgs false
set_option linter.unusedVariables false
set_option maxHeartbeats 4000000
set_option maxRecDepth 100000
/-! What rules read -/
structure Rl where
  name : List UInt8
  tree : List Nd
  deriving Inhabited
def rlP (r : Rl) : PV := .agg [.str r.name, .list (some 4) (r.tree.map ndP)]
abbrev rlsP (rs : List Rl) : PV := .list (some 2) (rs.map rlP)
theorem cutR (a b : PV) : cut (some 2) (some 1) (.agg [a, b]) 1 = .agg [b] := rfl
structure RlOk (r : Rl) : Prop where
  len : r.tree.length ≤ 1048576
  sz : ∀ n ∈ r.tree, n.name.length ≤ 9223372036854775807 ∧ n.kids.length ≤ 9223372036854775807
  nm : r.name.length ≤ 9223372036854775807
end Go.Proofs.YthekpjhffciakaaDoor

namespace Go.Proofs.YthekpjhffciakaaDoor
open Go PG Go.Proofs
set_option linter.unusedSimpArgs false
set_option linter.unusedVariables false
set_option maxHeartbeats 4000000
set_option maxRecDepth 100000
theorem e38 : Ent Tryd.prog 38 := ⟨Tryd.f38, Tryd.func38, by kernel_rfl, by kernel_rfl⟩
theorem e39 : Ent Tryd.prog 39 := ⟨Tryd.f39, Tryd.func39, by kernel_rfl, by kernel_rfl⟩
theorem e69 : Ent Tryd.prog 69 := ⟨Tryd.f69, Tryd.func69, by kernel_rfl, by kernel_rfl⟩
theorem e70 : Ent Tryd.prog 70 := ⟨Tryd.f70, Tryd.func70, by kernel_rfl, by kernel_rfl⟩
theorem e95 : Ent Tryd.prog 95 := ⟨Tryd.f95, Tryd.func95, by kernel_rfl, by kernel_rfl⟩
theorem e96 : Ent Tryd.prog 96 := ⟨Tryd.f96, Tryd.func96, by kernel_rfl, by kernel_rfl⟩
theorem e97 : Ent Tryd.prog 97 := ⟨Tryd.f97, Tryd.func97, by kernel_rfl, by kernel_rfl⟩
theorem e117 : Ent Tryd.prog 117 := ⟨Tryd.f117, Tryd.func117, by kernel_rfl, by kernel_rfl⟩
theorem e125 : Ent Tryd.prog 125 := ⟨Tryd.f125, Tryd.func125, by kernel_rfl, by kernel_rfl⟩
variable {G : Globs}
theorem v70 (b : Bool) : VCalls Tryd.prog G 70 [.bool b] (.int .i64 (if b = true then 1000000 else 0)) := by
  refine VCalls.of_PW Tryd.func70 k70 mix (by simp [c70]) ?_
  simp only [c70, L70, CC, argE]
  cases b
  · repeat' (first | exact True.intro | (refine PW.seqK ?_; intro K hK) | refine stp ?_ | refine seqK_n ‹_› ?_ | refine seqK_r ‹_› ?_ | refine seqK_e ‹_› ?_ | exact schedW_stop_i | refine schK_n ‹_› ?_ | (refine PW.cond rfl ?_ ?_ <;> intro hcond <;> (try contradiction) <;> try simp only [DD] at hcond) | (refine gd_i ?_; intro hg; try simp only [hg]) | (refine ari ?_; first | omega | (simp only [DD, LL] <;> omega) | (go_unwrap; omega)) | ((first | refine stq ?_ | show (_ : Post) _ _ _ | (refine schedW_alt_k ?_ ?_; intro K hK)); focus (simp only [SA, Nat.reduceAdd, reduceIte, Nat.reduceEqDiff, Nat.reduceBEq, reduceCtorEq]; (try go_unwrap; try simp only [RR, reduceCtorEq]))) | refine And.intro ?_ ?_ | exact Or.inr ⟨rfl, Nat.le_refl _⟩ | exact (fun h => Bool.noConfusion h))
  · repeat' (first | exact True.intro | (refine PW.seqK ?_; intro K hK) | refine stp ?_ | refine seqK_n ‹_› ?_ | refine seqK_r ‹_› ?_ | refine seqK_e ‹_› ?_ | exact schedW_stop_i | refine schK_n ‹_› ?_ | (refine PW.cond rfl ?_ ?_ <;> intro hcond <;> (try contradiction) <;> try simp only [DD] at hcond) | (refine gd_i ?_; intro hg; try simp only [hg]) | (refine ari ?_; first | omega | (simp only [DD, LL] <;> omega) | (go_unwrap; omega)) | ((first | refine stq ?_ | show (_ : Post) _ _ _ | (refine schedW_alt_k ?_ ?_; intro K hK)); focus (simp only [SA, Nat.reduceAdd, reduceIte, Nat.reduceEqDiff, Nat.reduceBEq, reduceCtorEq]; (try go_unwrap; try simp only [RR, reduceCtorEq]))) | refine And.intro ?_ ?_ | exact Or.inr ⟨rfl, Nat.le_refl _⟩ | exact (fun h => Bool.noConfusion h))
def fitsB (v : Int) : Bool := decide (-1000000000000000000 ≤ v) && decide (v ≤ 1000000000000000000)
theorem v39 (v : Int) : VCalls Tryd.prog G 39 [.int .i64 v] (.bool (fitsB v)) := by
  refine VCalls.of_PW Tryd.func39 k39 mix (by simp [c39]) ?_
  simp only [c39, L39, CC, argE]
  repeat' (first | exact True.intro | (refine PW.seqK ?_; intro K hK) | refine stp ?_ | refine seqK_n ‹_› ?_ | refine seqK_r ‹_› ?_ | refine seqK_e ‹_› ?_ | exact schedW_stop_i | refine schK_n ‹_› ?_ | (refine PW.cond rfl ?_ ?_ <;> intro hcond <;> (try contradiction) <;> try simp only [DD] at hcond) | (refine gd_i ?_; intro hg; try simp only [hg]) | (refine ari ?_; first | omega | (simp only [DD, LL] <;> omega) | (go_unwrap; omega)) | ((first | refine stq ?_ | show (_ : Post) _ _ _ | (refine schedW_alt_k ?_ ?_; intro K hK)); focus (simp only [SA, Nat.reduceAdd, reduceIte, Nat.reduceEqDiff, Nat.reduceBEq, reduceCtorEq]; (try go_unwrap; try simp only [RR, reduceCtorEq]))) | refine And.intro ?_ ?_ | exact Or.inr ⟨rfl, Nat.le_refl _⟩ | exact (fun h => Bool.noConfusion h))
  simp [fitsB]
theorem v96 (v : Int) (h1 : -9223372036854775808 ≤ v) (h2 : v ≤ 9223372036854775807) : VCalls Tryd.prog G 96 [.int .i64 v] (.int .u64 (v.natAbs : Int)) := by
  refine VCalls.of_PW Tryd.func96 k96 mix (by simp [c96]) ?_
  simp only [c96, L96, CC, argE]
  repeat' (first | exact True.intro | (refine PW.seqK ?_; intro K hK) | refine stp ?_ | refine seqK_n ‹_› ?_ | refine seqK_r ‹_› ?_ | refine seqK_e ‹_› ?_ | exact schedW_stop_i | refine schK_n ‹_› ?_ | (refine PW.cond rfl ?_ ?_ <;> intro hcond <;> (try contradiction) <;> try simp only [DD] at hcond) | (refine gd_i ?_; intro hg; try simp only [hg]) | (refine ari ?_; first | omega | (simp only [DD, LL] <;> omega) | (go_unwrap; omega)) | ((first | refine stq ?_ | show (_ : Post) _ _ _ | (refine schedW_alt_k ?_ ?_; intro K hK)); focus (simp only [SA, Nat.reduceAdd, reduceIte, Nat.reduceEqDiff, Nat.reduceBEq, reduceCtorEq]; (try go_unwrap; try simp only [RR, reduceCtorEq]))) | refine And.intro ?_ ?_ | exact Or.inr ⟨rfl, Nat.le_refl _⟩ | exact (fun h => Bool.noConfusion h))
  all_goals (first | (congr 1; omega) | (simp only [IntKind.wrap_u64, IntKind.wrap_i64]; congr 1; omega))
theorem shr32 (a : Nat) : (a : Int).fdiv (2 ^ min (Int.toNat 32) IntKind.u64.bits) = ((a / 4294967296 : Nat) : Int) := by
  rw [show min (Int.toNat 32) IntKind.u64.bits = 32 from rfl, show (2 : Int) ^ 32 = 4294967296 from rfl, Int.fdiv_eq_ediv_of_nonneg _ (by omega)]
  omega
theorem wrapN {a : Nat} (ha : a < 18446744073709551616) : IntKind.u64.wrap (a : Int) = (a : Int) := by rw [IntKind.wrap_u64]; omega
theorem wrapM (a : Nat) : IntKind.u64.wrap (a : Int) = ((a % 18446744073709551616 : Nat) : Int) := by rw [IntKind.wrap_u64]; omega
theorem mask32 {a : Nat} (ha : a < 18446744073709551616) : IntKind.u64.wrap ((BitVec.ofInt IntKind.u64.bits (a : Int) &&& BitVec.ofInt IntKind.u64.bits 4294967295).toNat : Int) = ((a % 4294967296 : Nat) : Int) := by
  have h1 : (BitVec.ofInt IntKind.u64.bits (a : Int) &&& BitVec.ofInt IntKind.u64.bits 4294967295).toNat = a % 4294967296 := by
    show (BitVec.ofInt 64 (a : Int) &&& BitVec.ofNat 64 4294967295).toNat = _
    rw [BitVec.ofInt_natCast, BitVec.toNat_and, BitVec.toNat_ofNat, BitVec.toNat_ofNat]
    rw [Nat.mod_eq_of_lt (show a < 2 ^ 64 by omega), Nat.mod_eq_of_lt (show 4294967295 < 2 ^ 64 by omega)]
    have := Nat.and_two_pow_sub_one_eq_mod a 32
    simpa using this
  rw [h1, wrapN (by omega)]
theorem mulN (a b : Nat) : (a : Int) * (b : Int) = ((a * b : Nat) : Int) := (Int.natCast_mul a b).symm
theorem addN (a b : Nat) : (a : Int) + (b : Int) = ((a + b : Nat) : Int) := (Int.natCast_add a b).symm
theorem v95 (x y : Nat) (hx : x < 18446744073709551616) (hy : y < 18446744073709551616) : VCalls Tryd.prog G 95 [.int .u64 x, .int .u64 y] (.tup [.int .u64 ((x * y / 18446744073709551616 : Nat) : Int), .int .u64 ((x * y % 18446744073709551616 : Nat) : Int)]) := by
  refine VCalls.of_PW Tryd.func95 k95 mix (by simp [c95]) ?_
  simp only [c95, L95, CC, argE]
  obtain ⟨bd, bt, bw, hhi⟩ := Lib.mul64_hi x y hx hy
  have ba := Lib.half_mul_le (a := x / 4294967296) (b := y / 4294967296) (by omega) (by omega)
  have bb := Lib.half_mul_le (a := x / 4294967296) (b := y % 4294967296) (by omega) (by omega)
  have bc := Lib.half_mul_le (a := x % 4294967296) (b := y / 4294967296) (by omega) (by omega)
  have ba' : x / 4294967296 * (y / 4294967296) < 18446744073709551616 := by omega
  have bb' : x / 4294967296 * (y % 4294967296) < 18446744073709551616 := by omega
  have bc' : x % 4294967296 * (y / 4294967296) < 18446744073709551616 := by omega
  have bh1 : x / 4294967296 * (y / 4294967296) + (x / 4294967296 * (y % 4294967296) + x % 4294967296 * (y % 4294967296) / 4294967296) / 4294967296 < 18446744073709551616 := by omega
  have bh : x / 4294967296 * (y / 4294967296) + (x / 4294967296 * (y % 4294967296) + x % 4294967296 * (y % 4294967296) / 4294967296) / 4294967296 + ((x / 4294967296 * (y % 4294967296) + x % 4294967296 * (y % 4294967296) / 4294967296) % 4294967296 + x % 4294967296 * (y / 4294967296)) / 4294967296 < 18446744073709551616 := by omega
  repeat' (first | exact True.intro | (refine PW.seqK ?_; intro K hK) | refine stp ?_ | refine seqK_n ‹_› ?_ | refine seqK_r ‹_› ?_ | refine seqK_e ‹_› ?_ | exact schedW_stop_i | refine schK_n ‹_› ?_ | (refine PW.cond rfl ?_ ?_ <;> intro hcond <;> (try contradiction) <;> try simp only [DD] at hcond) | (refine gd_i ?_; intro hg; try simp only [hg]) | (refine ari ?_; first | omega | (simp only [DD, LL] <;> omega) | (go_unwrap; omega)) | ((first | refine stq ?_ | show (_ : Post) _ _ _ | (refine schedW_alt_k ?_ ?_; intro K hK)); focus (simp only [SA, Nat.reduceAdd, reduceIte, Nat.reduceEqDiff, Nat.reduceBEq, reduceCtorEq]; (try go_unwrap; try simp only [RR, reduceCtorEq]))) | refine And.intro ?_ ?_ | exact Or.inr ⟨rfl, Nat.le_refl _⟩ | exact (fun h => Bool.noConfusion h))
  simp only [mask32 hx, mask32 hy, shr32, mulN, addN, wrapN bd, wrapN bb', wrapN bt, mask32 bt, wrapN bc', wrapN bw, wrapN ba', wrapN bh1, wrapN bh, wrapM (x * y)]
  rw [hhi]
theorem v117 : VCalls Tryd.prog G 117 [.int .u64 1000000] (.int .i64 20) := by
  refine VCalls.of_PW Tryd.func117 k117 mix (by simp [c117]) ?_
  have hw : IntKind.u8.wrap (Int.fdiv 1000000 (2 ^ min (Int.toNat 16) IntKind.u64.bits)) = 15 := by decide
  simp only [c117, L117, CC, argE]
  repeat' (first | exact True.intro | (refine PW.seqK ?_; intro K hK) | refine stp ?_ | refine seqK_n ‹_› ?_ | refine seqK_r ‹_› ?_ | refine seqK_e ‹_› ?_ | exact schedW_stop_i | refine schK_n ‹_› ?_ | (refine PW.cond rfl ?_ ?_ <;> intro hcond <;> (try contradiction) <;> try simp only [DD] at hcond) | (refine gd_i ?_; intro hg; try simp only [hg]) | (refine ari ?_; first | omega | (simp only [DD, LL] <;> omega) | (go_unwrap; omega)) | ((first | refine stq ?_ | show (_ : Post) _ _ _ | (refine schedW_alt_k ?_ ?_; intro K hK)); focus (simp only [Int.reduceLE, Int.reduceLT, decide_true, decide_false, hw, SA, Nat.reduceAdd, reduceIte, Nat.reduceEqDiff, Nat.reduceBEq, reduceCtorEq]; (try go_unwrap; try simp only [Int.reduceLE, Int.reduceLT, decide_true, decide_false, hw, RR, reduceCtorEq]))) | refine And.intro ?_ ?_ | exact Or.inr ⟨rfl, Nat.le_refl _⟩ | exact (fun h => Bool.noConfusion h))
  rfl
theorem v125 : VCalls Tryd.prog G 125 [.int .u64 1000000] (.int .i64 44) := by
  refine VCalls.of_PW Tryd.func125 k125 mix (by simp [c125]) ?_
  simp only [c125, L125, CC, argE]
  repeat' (first | exact True.intro | (refine PW.seqK ?_; intro K hK) | refine stp ?_ | refine seqK_n ‹_› ?_ | refine seqK_r ‹_› ?_ | refine seqK_e ‹_› ?_ | exact schedW_stop_i | refine schK_n ‹_› ?_ | (refine PW.cond rfl ?_ ?_ <;> intro hcond <;> (try contradiction) <;> try simp only [DD] at hcond) | (refine gd_i ?_; intro hg; try simp only [hg]) | refine goCall_W e117 (v117) ?_ ?_ ?_ ?_ | (refine ari ?_; first | omega | (simp only [DD, LL] <;> omega) | (go_unwrap; omega)) | ((first | refine stq ?_ | show (_ : Post) _ _ _ | (refine schedW_alt_k ?_ ?_; intro K hK)); focus (simp only [SA, Nat.reduceAdd, reduceIte, Nat.reduceEqDiff, Nat.reduceBEq, reduceCtorEq]; (try go_unwrap; try simp only [RR, reduceCtorEq]))) | refine And.intro ?_ ?_ | exact Or.inr ⟨rfl, Nat.le_refl _⟩ | exact (fun h => Bool.noConfusion h))
  rfl
end Go.Proofs.YthekpjhffciakaaDoor

namespace Go.Proofs.YthekpjhffciakaaDoor
open Go PG Go.Proofs
set_option linter.unusedSimpArgs false
set_option linter.unusedVariables false
set_option maxHeartbeats 4000000
variable {G : Globs}
theorem or_disj (h l : Nat) (hl : l < 17592186044416) (hh : h < 1000000) : IntKind.u64.wrap ((BitVec.ofInt IntKind.u64.bits ((h * 17592186044416 : Nat) : Int) ||| BitVec.ofInt IntKind.u64.bits ((l : Nat) : Int)).toNat : Int) = ((h * 17592186044416 + l : Nat) : Int) := by
  have h1 : (BitVec.ofInt IntKind.u64.bits ((h * 17592186044416 : Nat) : Int) ||| BitVec.ofInt IntKind.u64.bits ((l : Nat) : Int)).toNat = h * 17592186044416 + l := by
    show (BitVec.ofInt 64 ((h * 17592186044416 : Nat) : Int) ||| BitVec.ofInt 64 ((l : Nat) : Int)).toNat = _
    rw [BitVec.ofInt_natCast, BitVec.ofInt_natCast, BitVec.toNat_or, BitVec.toNat_ofNat, BitVec.toNat_ofNat, Nat.mod_eq_of_lt (show h * 17592186044416 < 2 ^ 64 by omega), Nat.mod_eq_of_lt (show l < 2 ^ 64 by omega)]
    have := Nat.two_pow_add_eq_or_of_lt (i := 44) (show l < 2 ^ 44 by omega) h
    rw [Nat.mul_comm] at this
    exact this.symm
  rw [h1, wrapN (by omega)]
theorem divS (U : Nat) (hU1 : U < 17592186044416000000) : ∃ q1 r1 : Nat, q1 * 4096000000 + r1 = U ∧ r1 < 4096000000 ∧ q1 < 4294967296 ∧ IntKind.u64.wrap ((U : Int).tdiv 4096000000) = (q1 : Int) ∧ IntKind.u64.wrap ((U : Int) - IntKind.u64.wrap ((q1 : Int) * 4096000000)) = (r1 : Int) := by
  have hqr : U / 4096000000 * 4096000000 + U % 4096000000 = U := Nat.div_add_mod' U 4096000000
  have hr : U % 4096000000 < 4096000000 := Nat.mod_lt _ (by omega)
  refine ⟨U / 4096000000, U % 4096000000, hqr, hr, by omega, ?_, ?_⟩
  · rw [Int.tdiv_eq_ediv_of_nonneg (Int.natCast_nonneg _)]
    have : (U : Int) / 4096000000 = ((U / 4096000000 : Nat) : Int) := by omega
    rw [this]
    exact wrapN (by omega)
  · generalize U / 4096000000 = q at *
    generalize U % 4096000000 = r at *
    have e1 : ((q : Int) * 4096000000) = ((q * 4096000000 : Nat) : Int) := by omega
    rw [e1, wrapN (a := q * 4096000000) (by omega)]
    have e2 : (U : Int) - ((q * 4096000000 : Nat) : Int) = (r : Int) := by omega
    rw [e2]
    exact wrapN (by omega)
theorem divT' (U v q1 r1 : Nat) (hq : q1 * 4096000000 + r1 = U) (hr : r1 < 4096000000) (hv : v < 4294967296) :
    IntKind.u64.wrap (IntKind.u64.wrap (IntKind.u64.wrap ((U : Int) * 4294967296) + (v : Int)) - IntKind.u64.wrap ((q1 : Int) * 17592186044416000000)) = ((r1 * 4294967296 + v : Nat) : Int) := by
  subst hq
  simp only [IntKind.wrap_u64]
  omega
theorem divE (hi lo q1 r1 q0 r0 : Nat) (hh : hi < 1000000) (hl : lo < 18446744073709551616)
    (h1 : q1 * 4096000000 + r1 = hi * 17592186044416 + lo / 1048576) (h1' : r1 < 4096000000)
    (h2 : q0 * 4096000000 + r0 = r1 * 4294967296 + (lo % 1048576 * 17592186044416) / 4294967296) (h2' : r0 < 4096000000) :
    (hi * 18446744073709551616 + lo) / 1000000 = q1 * 4294967296 + q0 ∧ (hi * 18446744073709551616 + lo) % 1000000 = (r0 * 4294967296 + (lo % 1048576 * 17592186044416) % 4294967296) / 17592186044416 := by
  have e1 : (lo % 1048576 * 17592186044416) / 4294967296 = lo % 1048576 * 4096 := by omega
  have e2 : (lo % 1048576 * 17592186044416) % 4294967296 = 0 := by omega
  rw [e1] at h2
  rw [e2]
  generalize hm : lo % 1048576 = m at *
  generalize hd : lo / 1048576 = d at *
  have hlo : lo = d * 1048576 + m := by rw [← hm, ← hd]; exact (Nat.div_add_mod' lo 1048576).symm
  clear e1 e2 hm hd
  have hz : ∃ z : Int, (r0 : Int) * 4294967296 = z * 17592186044416 ∧ (hi : Int) * 18446744073709551616 + lo = ((q1 : Int) * 4294967296 + q0) * 1000000 + z := by
    refine ⟨(hi : Int) * 18446744073709551616 + lo - ((q1 : Int) * 4294967296 + q0) * 1000000, ?_, by omega⟩
    have a1 : (q1 : Int) * 4096000000 + r1 = hi * 17592186044416 + d := by omega
    have a2 : (q0 : Int) * 4096000000 + r0 = r1 * 4294967296 + m * 4096 := by omega
    have a3 : (lo : Int) = d * 1048576 + m := by omega
    rw [a3]
    omega
  obtain ⟨z, hz1, hz2⟩ := hz
  have hr : (r0 : Int) = z * 4096 := by omega
  obtain ⟨w, rfl⟩ : ∃ w : Nat, z = w := ⟨z.toNat, by omega⟩
  have hr' : r0 = w * 4096 := by omega
  obtain ⟨N, hN⟩ : ∃ N : Nat, hi * 18446744073709551616 + lo = N := ⟨_, rfl⟩
  have hNz : (N : Int) = ((q1 : Int) * 4294967296 + q0) * 1000000 + w := by rw [← hz2, ← hN]; omega
  rw [hN, hr']
  clear hN hz1 hz2 h1 h2 hlo hr
  have hw : w < 1000000 := by omega
  have hq : N = (q1 * 4294967296 + q0) * 1000000 + w := by omega
  rw [hq]
  obtain ⟨Q, hQ⟩ : ∃ Q : Nat, q1 * 4294967296 + q0 = Q := ⟨_, rfl⟩
  rw [hQ]
  refine ⟨?_, ?_⟩
  · omega
  · have : (w * 4096 * 4294967296 + 0) / 17592186044416 = w := by
      rw [Nat.add_zero, Nat.mul_assoc]
      exact Nat.mul_div_cancel w (by omega)
    rw [this]; omega
theorem g0L (hi : Nat) (hh : hi < 1000000) : IntKind.u64.wrap ((hi : Int) * 2 ^ min (Int.toNat 44) IntKind.u64.bits) = ((hi * 17592186044416 : Nat) : Int) := by
  have hb : min (Int.toNat 44) IntKind.u64.bits = 44 := rfl
  rw [hb, IntKind.wrap_u64]; omega
theorem g0M (lo : Nat) : (lo : Int).fdiv (2 ^ min ((64 : Int) - 44).toNat IntKind.u64.bits) = ((lo / 1048576 : Nat) : Int) := by
  have hb2 : min ((64 : Int) - 44).toNat IntKind.u64.bits = 20 := rfl
  rw [hb2, show (2 : Int) ^ 20 = 1048576 from rfl, Int.fdiv_eq_ediv_of_nonneg _ (by omega)]; omega
theorem g2L (lo : Nat) (hl : lo < 18446744073709551616) : IntKind.u64.wrap ((lo : Int) * 2 ^ min (Int.toNat 44) IntKind.u64.bits) = ((lo % 1048576 * 17592186044416 : Nat) : Int) := by
  have hb : min (Int.toNat 44) IntKind.u64.bits = 44 := rfl
  rw [hb, IntKind.wrap_u64]; omega
theorem k8L (x : Nat) : ((x : Nat) : Int).fdiv (2 ^ min (Int.toNat 44) IntKind.u64.bits) = ((x / 17592186044416 : Nat) : Int) := by
  have s44 : min (Int.toNat 44) IntKind.u64.bits = 44 := rfl
  rw [s44, show (2 : Int) ^ 44 = 17592186044416 from rfl, Int.fdiv_eq_ediv_of_nonneg _ (by decide)]
  omega
theorem k9L (q1 q0 : Nat) (h1 : q1 < 4294967296) (h0 : q0 < 4294967296) : IntKind.u64.wrap (IntKind.u64.wrap ((q1 : Int) * 4294967296) + (q0 : Int)) = ((q1 * 4294967296 + q0 : Nat) : Int) := by
  simp only [IntKind.wrap_u64]; omega
/-- All that a division by a million reckons. -/
theorem divFacts (hi lo : Nat) (hh : hi < 1000000) (hl : lo < 18446744073709551616) : ∃ U V v1 v0 q1 r1 U2 q0 r0 : Nat,
    IntKind.u64.wrap ↑(BitVec.ofInt IntKind.u64.bits (IntKind.u64.wrap ((hi : Int) * 2 ^ min (Int.toNat 44) IntKind.u64.bits)) ||| BitVec.ofInt IntKind.u64.bits ((lo : Int).fdiv (2 ^ min ((64 : Int) - 44).toNat IntKind.u64.bits))).toNat = (U : Int) ∧
    IntKind.u64.wrap ((lo : Int) * 2 ^ min (Int.toNat 44) IntKind.u64.bits) = (V : Int) ∧
    (V : Int).fdiv (2 ^ min (Int.toNat 32) IntKind.u64.bits) = (v1 : Int) ∧
    IntKind.u64.wrap ((BitVec.ofInt IntKind.u64.bits (V : Int) &&& BitVec.ofInt IntKind.u64.bits 4294967295).toNat : Int) = (v0 : Int) ∧
    IntKind.u64.wrap ((U : Int).tdiv 4096000000) = (q1 : Int) ∧ IntKind.u64.wrap ((U : Int) - IntKind.u64.wrap ((q1 : Int) * 4096000000)) = (r1 : Int) ∧
    IntKind.u64.wrap (IntKind.u64.wrap (IntKind.u64.wrap ((U : Int) * 4294967296) + (v1 : Int)) - IntKind.u64.wrap ((q1 : Int) * 17592186044416000000)) = (U2 : Int) ∧
    IntKind.u64.wrap ((U2 : Int).tdiv 4096000000) = (q0 : Int) ∧ IntKind.u64.wrap ((U2 : Int) - IntKind.u64.wrap ((q0 : Int) * 4096000000)) = (r0 : Int) ∧
    (IntKind.u64.wrap (IntKind.u64.wrap (IntKind.u64.wrap ((U2 : Int) * 4294967296) + (v0 : Int)) - IntKind.u64.wrap ((q0 : Int) * 17592186044416000000))).fdiv (2 ^ min (Int.toNat 44) IntKind.u64.bits) = (((hi * 18446744073709551616 + lo) % 1000000 : Nat) : Int) ∧
    IntKind.u64.wrap (IntKind.u64.wrap ((q1 : Int) * 4294967296) + (q0 : Int)) = (((hi * 18446744073709551616 + lo) / 1000000 : Nat) : Int) ∧
    decide ((4294967296 : Int) ≤ (q1 : Int)) = false ∧ decide ((4294967296 : Int) ≤ (q0 : Int)) = false := by
  have hlo : lo / 1048576 < 17592186044416 := by omega
  have hU1 : hi * 17592186044416 + lo / 1048576 < 17592186044416000000 :=
    Nat.lt_of_lt_of_le (Nat.add_lt_add_of_le_of_lt (Nat.mul_le_mul_right 17592186044416 (show hi ≤ 999999 by omega)) hlo) (Nat.le_of_ble_eq_true rfl)
  have hV1 : lo % 1048576 * 17592186044416 < 18446744073709551616 :=
    Nat.lt_of_le_of_lt (Nat.mul_le_mul_right 17592186044416 (show lo % 1048576 ≤ 1048575 from Nat.le_of_lt_succ (Nat.mod_lt _ (by omega)))) (Nat.lt_of_succ_le (Nat.le_of_ble_eq_true rfl))
  have hv1 : (lo % 1048576 * 17592186044416) / 4294967296 < 4294967296 := by omega
  have hv0 : (lo % 1048576 * 17592186044416) % 4294967296 < 4294967296 := by omega
  obtain ⟨q1, r1, hqr, hr1', hq1', g5, g6⟩ := divS _ hU1
  have hU2 : r1 * 4294967296 + (lo % 1048576 * 17592186044416) / 4294967296 < 17592186044416000000 :=
    Nat.lt_of_lt_of_le (Nat.add_lt_add_of_le_of_lt (Nat.mul_le_mul_right 4294967296 (show r1 ≤ 4095999999 from Nat.le_of_lt_succ hr1')) hv1) (Nat.le_of_ble_eq_true rfl)
  obtain ⟨q0, r0, hqr0, hr0', hq0', k5, k6⟩ := divS _ hU2
  have hfin := divE hi lo q1 r1 q0 r0 hh hl hqr hr1' hqr0 hr0'
  have d3 : decide ((4294967296 : Int) ≤ (q1 : Int)) = false := by clear g5 g6 k5 k6 hfin; simp only [decide_eq_false_iff_not]; omega
  have d4 : decide ((4294967296 : Int) ≤ (q0 : Int)) = false := by clear g5 g6 k5 k6 hfin; simp only [decide_eq_false_iff_not]; omega
  refine ⟨_, _, _, _, q1, r1, _, q0, r0, ?_, g2L lo hl, shr32 _, mask32 hV1, g5, g6, divT' _ _ q1 r1 hqr hr1' hv1, k5, k6, ?_, ?_, d3, d4⟩
  · rw [g0L hi hh, g0M lo]; exact or_disj hi _ hlo hh
  · rw [divT' _ _ q0 r0 hqr0 hr0' hv0, hfin.2]; exact k8L _
  · rw [hfin.1]; exact k9L q1 q0 hq1' hq0'
set_option maxRecDepth 100000
theorem v97 (hi lo : Nat) (hh : hi < 1000000) (hl : lo < 18446744073709551616) : VCalls Tryd.prog G 97 [.int .u64 hi, .int .u64 lo, .int .u64 1000000]
    (.tup [.int .u64 (((hi * 18446744073709551616 + lo) / 1000000 : Nat) : Int), .int .u64 (((hi * 18446744073709551616 + lo) % 1000000 : Nat) : Int)]) := by
  refine VCalls.of_PW Tryd.func97 k97 mix (by simp [c97]) ?_
  simp only [c97, L97, CC, argE]
  have d0 : decide ((1000000 : Int) = 0) = false := by decide
  have d1 : decide ((1000000 : Int) ≤ (hi : Int)) = false := by simp only [decide_eq_false_iff_not]; omega
  have f2 : IntKind.u64.wrap (1000000 * 2 ^ min (Int.toNat 44) IntKind.u64.bits) = 17592186044416000000 := by decide
  have f3 : Int.fdiv 17592186044416000000 (2 ^ min (Int.toNat 32) IntKind.u64.bits) = 4096000000 := by decide
  have f4 : IntKind.u64.wrap ↑(BitVec.ofInt IntKind.u64.bits 17592186044416000000 &&& BitVec.ofInt IntKind.u64.bits 4294967295).toNat = 0 := by decide
  by_cases h0 : hi = 0
  · have d2 : decide ((hi : Int) = 0) = true := by simp only [decide_eq_true_eq]; omega
    have t1 : IntKind.u64.wrap ((lo : Int).tdiv 1000000) = ((lo / 1000000 : Nat) : Int) := by
      rw [Int.tdiv_eq_ediv_of_nonneg (by omega), IntKind.wrap_u64]; omega
    have t2 : Int.tmod (lo : Int) 1000000 = ((lo % 1000000 : Nat) : Int) := by
      rw [Int.tmod_eq_emod_of_nonneg (by omega)]; omega
    repeat' (first | exact True.intro | (refine PW.seqK ?_; intro K hK) | refine stp ?_ | refine seqK_n ‹_› ?_ | refine seqK_r ‹_› ?_ | refine seqK_e ‹_› ?_ | exact schedW_stop_i | refine schK_n ‹_› ?_ | (refine PW.cond rfl ?_ ?_ <;> intro hcond <;> (try contradiction) <;> try simp only [DD] at hcond) | (refine gd_i ?_; intro hg; try simp only [hg]) | (refine ari ?_; first | omega | (simp only [DD, LL] <;> omega) | (go_unwrap; omega)) | ((first | refine stq ?_ | show (_ : Post) _ _ _ | (refine schedW_alt_k ?_ ?_; intro K hK)); focus (simp only [d0, d1, d2, t1, t2, SA, Nat.reduceAdd, reduceIte, Nat.reduceEqDiff, Nat.reduceBEq, reduceCtorEq]; (try go_unwrap; try simp only [d0, d1, d2, t1, t2, RR, reduceCtorEq]))) | refine And.intro ?_ ?_ | exact Or.inr ⟨rfl, Nat.le_refl _⟩ | exact (fun h => Bool.noConfusion h))
    all_goals (first | exact absurd hcond (by decide) | (subst h0; simp only [Nat.zero_mul, Nat.zero_add]; done))
  · have d2 : decide ((hi : Int) = 0) = false := by simp only [decide_eq_false_iff_not]; omega
    obtain ⟨U, V, v1, v0, q1, r1, U2, q0, r0, g1, g2, g3, g4, g5, g6, g7, k5, k6, k7, k9, d3, d4⟩ := divFacts hi lo hh hl
    clear hh hl
    have w1 : ∀ x : Int, decide (IntKind.u64.wrap x < 0) = false := fun x => by simp only [decide_eq_false_iff_not, IntKind.wrap_u64]; omega
    have w0 : IntKind.u64.wrap 0 = 0 := by decide
    repeat' (first | exact True.intro | (refine PW.seqK ?_; intro K hK) | refine stp ?_ | refine seqK_n ‹_› ?_ | refine seqK_r ‹_› ?_ | refine seqK_e ‹_› ?_ | exact schedW_stop_i | refine schK_n ‹_› ?_ | (refine PW.cond rfl ?_ ?_ <;> intro hcond <;> (try contradiction) <;> try simp only [DD] at hcond) | (refine gd_i ?_; intro hg; try simp only [hg]) | refine goCall_W e125 (v125) ?_ ?_ ?_ ?_ | (refine ari ?_; first | omega | (simp only [DD, LL] <;> omega) | (go_unwrap; omega)) | ((first | refine stq ?_ | show (_ : Post) _ _ _ | (refine schedW_alt_k ?_ ?_; intro K hK)); focus (simp only [d0, d1, d2, f2, f3, f4, g1, g2, g3, g4, g5, g6, SA, Nat.reduceAdd, reduceIte, Nat.reduceEqDiff, Nat.reduceBEq, reduceCtorEq]; (try go_unwrap; try simp only [d0, d1, d2, f2, f3, f4, g1, g2, g3, g4, g5, g6, RR, reduceCtorEq]))) | refine And.intro ?_ ?_ | exact Or.inr ⟨rfl, Nat.le_refl _⟩ | exact (fun h => Bool.noConfusion h))
    refine PW.loop (σ := Unit) [2, 8, 9, 10, 11, 13, 14, 15, 16] (fun _ => [.int .u64 17592186044416000000, .int .u64 44, .int .u64 4096000000, .int .u64 0, .int .u64 U, .int .u64 v1, .int .u64 v0, .int .u64 q1, .int .u64 r1]) (fun _ => []) (fun _ => True) (fun _ => 0) () ?_ rfl trivial ?_
    · simp only [SA, Nat.reduceAdd, reduceIte, Nat.reduceEqDiff, Nat.reduceBEq, reduceCtorEq]; rfl
    rintro - -
    simp only [List.zip_cons_cons, List.zip_nil_left]
    repeat' (first | exact True.intro | (refine PW.seqK ?_; intro K hK) | refine stp ?_ | refine seqK_n ‹_› ?_ | refine seqK_r ‹_› ?_ | refine seqK_e ‹_› ?_ | exact schedW_stop_i | refine schK_n ‹_› ?_ | (refine PW.cond rfl ?_ ?_ <;> intro hcond <;> (try contradiction) <;> try simp only [DD] at hcond) | (refine gd_i ?_; intro hg; try simp only [hg]) | (refine ari ?_; first | omega | (simp only [DD, LL] <;> omega) | (go_unwrap; omega)) | ((first | refine stq ?_ | show (_ : Post) _ _ _ | (refine schedW_alt_k ?_ ?_; intro K hK)); focus (simp only [d3, w1, w0, Int.mul_zero, g7, k5, k6, SA, Nat.reduceAdd, reduceIte, Nat.reduceEqDiff, Nat.reduceBEq, reduceCtorEq]; (try go_unwrap; try simp only [d3, w1, w0, Int.mul_zero, g7, k5, k6, RR, reduceCtorEq]))) | refine And.intro ?_ ?_ | exact Or.inr ⟨rfl, Nat.le_refl _⟩ | exact (fun h => Bool.noConfusion h))
    refine PW.loop (σ := Unit) [2, 8, 9, 10, 14, 15, 16, 17, 18] (fun _ => [.int .u64 17592186044416000000, .int .u64 44, .int .u64 4096000000, .int .u64 0, .int .u64 v0, .int .u64 q1, .int .u64 r0, .int .u64 U2, .int .u64 q0]) (fun _ => []) (fun _ => True) (fun _ => 0) () ?_ rfl trivial ?_
    · simp only [SA, Nat.reduceAdd, reduceIte, Nat.reduceEqDiff, Nat.reduceBEq, reduceCtorEq]; rfl
    rintro - -
    simp only [List.zip_cons_cons, List.zip_nil_left]
    repeat' (first | exact True.intro | (refine PW.seqK ?_; intro K hK) | refine stp ?_ | refine seqK_n ‹_› ?_ | refine seqK_r ‹_› ?_ | refine seqK_e ‹_› ?_ | exact schedW_stop_i | refine schK_n ‹_› ?_ | (refine PW.cond rfl ?_ ?_ <;> intro hcond <;> (try contradiction) <;> try simp only [DD] at hcond) | (refine gd_i ?_; intro hg; try simp only [hg]) | (refine ari ?_; first | omega | (simp only [DD, LL] <;> omega) | (go_unwrap; omega)) | ((first | refine stq ?_ | show (_ : Post) _ _ _ | (refine schedW_alt_k ?_ ?_; intro K hK)); focus (simp only [d4, w1, w0, Int.mul_zero, k7, k9, SA, Nat.reduceAdd, reduceIte, Nat.reduceEqDiff, Nat.reduceBEq, reduceCtorEq]; (try go_unwrap; try simp only [d4, w1, w0, Int.mul_zero, k7, k9, RR, reduceCtorEq]))) | refine And.intro ?_ ?_ | exact Or.inr ⟨rfl, Nat.le_refl _⟩ | exact (fun h => Bool.noConfusion h))
end Go.Proofs.YthekpjhffciakaaDoor

namespace Go.Proofs.YthekpjhffciakaaDoor
open Go PG Go.Proofs
set_option linter.unusedSimpArgs false
set_option linter.unusedVariables false
set_option maxHeartbeats 4000000
set_option maxRecDepth 100000
variable {G : Globs}
def timesQ (p : Nat) : Nat := (p / 1000000 + (if 1000000 ≤ 2 * (p % 1000000) then 1 else 0)) % 18446744073709551616
def timesM (a b : Int) : Int × Bool :=
  if 1000000 ≤ a.natAbs * b.natAbs / 18446744073709551616 then (0, false)
  else if 1000000000000000000 < timesQ (a.natAbs * b.natAbs) then (0, false)
  else (if decide (a < 0) = decide (b < 0) then (timesQ (a.natAbs * b.natAbs) : Int) else -(timesQ (a.natAbs * b.natAbs) : Int), true)
theorem v69 (a b : Int) (ha : -9223372036854775808 ≤ a ∧ a ≤ 9223372036854775807) (hb : -9223372036854775808 ≤ b ∧ b ≤ 9223372036854775807) : VCalls Tryd.prog G 69 [.int .i64 a, .int .i64 b] (.tup [.int .i64 (timesM a b).1, .bool (timesM a b).2]) := by
  refine VCalls.of_PW Tryd.func69 k69 mix (by simp [c69]) ?_
  have h95 := v95 (G := G) a.natAbs b.natAbs (by omega) (by omega)
  have h1 := v96 (G := G) a ha.1 ha.2
  have h2 := v96 (G := G) b hb.1 hb.2
  obtain ⟨p, hp⟩ : ∃ p, a.natAbs * b.natAbs = p := ⟨_, rfl⟩
  rw [hp] at h95
  have hT : timesM a b = if 1000000 ≤ p / 18446744073709551616 then (0, false)
    else if 1000000000000000000 < timesQ p then (0, false)
    else (if decide (a < 0) = decide (b < 0) then (timesQ p : Int) else -(timesQ p : Int), true) := by rw [timesM, hp]
  simp only [c69, L69, CC, argE]
  by_cases hh : 1000000 ≤ p / 18446744073709551616
  · have d1 : decide ((1000000 : Int) ≤ ((p / 18446744073709551616 : Nat) : Int)) = true := by
      generalize p / 18446744073709551616 = x at *
      simp only [decide_eq_true_eq]; omega
    rw [hT, if_pos hh]
    repeat' (first | exact True.intro | (refine PW.seqK ?_; intro K hK) | refine stp ?_ | refine seqK_n ‹_› ?_ | refine seqK_r ‹_› ?_ | refine seqK_e ‹_› ?_ | exact schedW_stop_i | refine schK_n ‹_› ?_ | (refine PW.cond rfl ?_ ?_ <;> intro hcond <;> (try contradiction) <;> try simp only [DD] at hcond) | (apply goCall_V e96; (case hV => (simp only [d1, SA, Nat.reduceAdd, reduceIte, Nat.reduceEqDiff, Nat.reduceBEq, reduceCtorEq]; (try go_unwrap; try simp only [d1, RR, reduceCtorEq]); exact h1)); (try (case hs => rfl)); (try (case hf => first | exact Or.inl rfl | exact Or.inr ⟨rfl, rfl⟩ | (refine Or.inl ?_; simp only [d1, SA, Nat.reduceAdd, reduceIte, Nat.reduceEqDiff, Nat.reduceBEq, reduceCtorEq]; done) | (refine Or.inr ⟨rfl, ?_⟩; simp only [d1, SA, Nat.reduceAdd, reduceIte, Nat.reduceEqDiff, Nat.reduceBEq, reduceCtorEq]; done))); all_goals (first | (simp only [d1, SA, Nat.reduceAdd, reduceIte, Nat.reduceEqDiff, Nat.reduceBEq, reduceCtorEq]; (try go_unwrap; try simp only [d1, RR, reduceCtorEq])) | (show Env; skip) | (show Mem; skip))) | (apply goCall_V e96; (case hV => (simp only [d1, SA, Nat.reduceAdd, reduceIte, Nat.reduceEqDiff, Nat.reduceBEq, reduceCtorEq]; (try go_unwrap; try simp only [d1, RR, reduceCtorEq]); exact h2)); (try (case hs => rfl)); (try (case hf => first | exact Or.inl rfl | exact Or.inr ⟨rfl, rfl⟩ | (refine Or.inl ?_; simp only [d1, SA, Nat.reduceAdd, reduceIte, Nat.reduceEqDiff, Nat.reduceBEq, reduceCtorEq]; done) | (refine Or.inr ⟨rfl, ?_⟩; simp only [d1, SA, Nat.reduceAdd, reduceIte, Nat.reduceEqDiff, Nat.reduceBEq, reduceCtorEq]; done))); all_goals (first | (simp only [d1, SA, Nat.reduceAdd, reduceIte, Nat.reduceEqDiff, Nat.reduceBEq, reduceCtorEq]; (try go_unwrap; try simp only [d1, RR, reduceCtorEq])) | (show Env; skip) | (show Mem; skip))) | (refine gd_i ?_; intro hg; try simp only [hg]) | refine goCall_W e95 (h95) ?_ ?_ ?_ ?_ | (refine ari ?_; first | omega | (simp only [DD, LL] <;> omega) | (go_unwrap; omega)) | ((first | refine stq ?_ | show (_ : Post) _ _ _ | (refine schedW_alt_k ?_ ?_; intro K hK)); focus (simp only [d1, SA, Nat.reduceAdd, reduceIte, Nat.reduceEqDiff, Nat.reduceBEq, reduceCtorEq]; (try go_unwrap; try simp only [d1, RR, reduceCtorEq]))) | refine And.intro ?_ ?_ | exact Or.inr ⟨rfl, Nat.le_refl _⟩ | exact (fun h => Bool.noConfusion h))
  · have d1 : decide ((1000000 : Int) ≤ ((p / 18446744073709551616 : Nat) : Int)) = false := by
      generalize p / 18446744073709551616 = x at *
      simp only [decide_eq_false_iff_not]; omega
    have h97 := v97 (G := G) (p / 18446744073709551616) (p % 18446744073709551616) (Nat.lt_of_not_le hh) (Nat.mod_lt _ (Nat.lt_of_succ_le (Nat.le_of_ble_eq_true rfl)))
    rw [Nat.div_add_mod'] at h97
    rw [hT, if_neg hh]
    have t2 : IntKind.u64.wrap (2 * ((p % 1000000 : Nat) : Int)) = ((2 * (p % 1000000) : Nat) : Int) := by
      have : p % 1000000 < 1000000 := Nat.mod_lt _ (by omega)
      generalize p % 1000000 = x at *
      rw [show (2 * (x : Int)) = ((2 * x : Nat) : Int) by omega]
      exact wrapN (by omega)
    have hp1 : p < 1000000 * 18446744073709551616 := (Nat.div_lt_iff_lt_mul (Nat.lt_of_succ_le (Nat.le_of_ble_eq_true rfl))).1 (Nat.lt_of_not_le hh)
    have hp2 : p / 1000000 < 18446744073709551616 := (Nat.div_lt_iff_lt_mul (by omega)).2 (by rw [Nat.mul_comm]; exact hp1)
    have t3 : IntKind.u64.wrap (((p / 1000000 : Nat) : Int) + 1) = (((p / 1000000 + 1) % 18446744073709551616 : Nat) : Int) := by
      generalize p / 1000000 = x at *
      rw [show ((x : Int) + 1) = ((x + 1 : Nat) : Int) by omega]
      exact wrapM _
    have hQ1 : 1000000 ≤ 2 * (p % 1000000) → (p / 1000000 + 1) % 18446744073709551616 = timesQ p := fun h => by rw [timesQ, if_pos h]
    have hQ2 : ¬ 1000000 ≤ 2 * (p % 1000000) → p / 1000000 = timesQ p := fun h => by rw [timesQ, if_neg h, Nat.add_zero, Nat.mod_eq_of_lt hp2]
    have hQ3 : timesQ p < 18446744073709551616 := Nat.mod_lt _ (Nat.lt_of_succ_le (Nat.le_of_ble_eq_true rfl))
    obtain ⟨Q, hQ⟩ : ∃ Q, timesQ p = Q := ⟨_, rfl⟩
    rw [hQ] at hQ1 hQ2 hQ3
    rw [hQ]
    clear hQ hp1 hp2 hT hh
    have ha' : decide (a < 0) = decide (a < 0) := rfl
    have fin : ∀ c : Bool, True := fun _ => trivial
    by_cases hQm : 1000000000000000000 < Q
    · have d4 : decide ((1000000000000000000 : Int) < (Q : Int)) = true := by simp only [decide_eq_true_eq]; omega
      rw [if_pos hQm]
      by_cases hr : 1000000 ≤ 2 * (p % 1000000)
      · have d3 : decide ((1000000 : Int) ≤ ((2 * (p % 1000000) : Nat) : Int)) = true := by
          generalize 2 * (p % 1000000) = x at *
          simp only [decide_eq_true_eq]; omega
        rw [hQ1 hr] at t3
        repeat' (first | exact True.intro | (refine PW.seqK ?_; intro K hK) | refine stp ?_ | refine seqK_n ‹_› ?_ | refine seqK_r ‹_› ?_ | refine seqK_e ‹_› ?_ | exact schedW_stop_i | refine schK_n ‹_› ?_ | (refine PW.cond rfl ?_ ?_ <;> intro hcond <;> (try contradiction) <;> try simp only [DD] at hcond) | (apply goCall_V e96; (case hV => (simp only [d1, t2, d3, t3, d4, SA, Nat.reduceAdd, reduceIte, Nat.reduceEqDiff, Nat.reduceBEq, reduceCtorEq]; (try go_unwrap; try simp only [d1, t2, d3, t3, d4, RR, reduceCtorEq]); exact h1)); (try (case hs => rfl)); (try (case hf => first | exact Or.inl rfl | exact Or.inr ⟨rfl, rfl⟩ | (refine Or.inl ?_; simp only [d1, t2, d3, t3, d4, SA, Nat.reduceAdd, reduceIte, Nat.reduceEqDiff, Nat.reduceBEq, reduceCtorEq]; done) | (refine Or.inr ⟨rfl, ?_⟩; simp only [d1, t2, d3, t3, d4, SA, Nat.reduceAdd, reduceIte, Nat.reduceEqDiff, Nat.reduceBEq, reduceCtorEq]; done))); all_goals (first | (simp only [d1, t2, d3, t3, d4, SA, Nat.reduceAdd, reduceIte, Nat.reduceEqDiff, Nat.reduceBEq, reduceCtorEq]; (try go_unwrap; try simp only [d1, t2, d3, t3, d4, RR, reduceCtorEq])) | (show Env; skip) | (show Mem; skip))) | (apply goCall_V e96; (case hV => (simp only [d1, t2, d3, t3, d4, SA, Nat.reduceAdd, reduceIte, Nat.reduceEqDiff, Nat.reduceBEq, reduceCtorEq]; (try go_unwrap; try simp only [d1, t2, d3, t3, d4, RR, reduceCtorEq]); exact h2)); (try (case hs => rfl)); (try (case hf => first | exact Or.inl rfl | exact Or.inr ⟨rfl, rfl⟩ | (refine Or.inl ?_; simp only [d1, t2, d3, t3, d4, SA, Nat.reduceAdd, reduceIte, Nat.reduceEqDiff, Nat.reduceBEq, reduceCtorEq]; done) | (refine Or.inr ⟨rfl, ?_⟩; simp only [d1, t2, d3, t3, d4, SA, Nat.reduceAdd, reduceIte, Nat.reduceEqDiff, Nat.reduceBEq, reduceCtorEq]; done))); all_goals (first | (simp only [d1, t2, d3, t3, d4, SA, Nat.reduceAdd, reduceIte, Nat.reduceEqDiff, Nat.reduceBEq, reduceCtorEq]; (try go_unwrap; try simp only [d1, t2, d3, t3, d4, RR, reduceCtorEq])) | (show Env; skip) | (show Mem; skip))) | (refine gd_i ?_; intro hg; try simp only [hg]) | refine goCall_W e95 (h95) ?_ ?_ ?_ ?_ | refine goCall_W e97 (h97) ?_ ?_ ?_ ?_ | (refine ari ?_; first | omega | (simp only [DD, LL] <;> omega) | (go_unwrap; omega)) | ((first | refine stq ?_ | show (_ : Post) _ _ _ | (refine schedW_alt_k ?_ ?_; intro K hK)); focus (simp only [d1, t2, d3, t3, d4, SA, Nat.reduceAdd, reduceIte, Nat.reduceEqDiff, Nat.reduceBEq, reduceCtorEq]; (try go_unwrap; try simp only [d1, t2, d3, t3, d4, RR, reduceCtorEq]))) | refine And.intro ?_ ?_ | exact Or.inr ⟨rfl, Nat.le_refl _⟩ | exact (fun h => Bool.noConfusion h))
      · have d3 : decide ((1000000 : Int) ≤ ((2 * (p % 1000000) : Nat) : Int)) = false := by
          generalize 2 * (p % 1000000) = x at *
          simp only [decide_eq_false_iff_not]; omega
        rw [hQ2 hr] at h97
        repeat' (first | exact True.intro | (refine PW.seqK ?_; intro K hK) | refine stp ?_ | refine seqK_n ‹_› ?_ | refine seqK_r ‹_› ?_ | refine seqK_e ‹_› ?_ | exact schedW_stop_i | refine schK_n ‹_› ?_ | (refine PW.cond rfl ?_ ?_ <;> intro hcond <;> (try contradiction) <;> try simp only [DD] at hcond) | (apply goCall_V e96; (case hV => (simp only [d1, t2, d3, d4, SA, Nat.reduceAdd, reduceIte, Nat.reduceEqDiff, Nat.reduceBEq, reduceCtorEq]; (try go_unwrap; try simp only [d1, t2, d3, d4, RR, reduceCtorEq]); exact h1)); (try (case hs => rfl)); (try (case hf => first | exact Or.inl rfl | exact Or.inr ⟨rfl, rfl⟩ | (refine Or.inl ?_; simp only [d1, t2, d3, d4, SA, Nat.reduceAdd, reduceIte, Nat.reduceEqDiff, Nat.reduceBEq, reduceCtorEq]; done) | (refine Or.inr ⟨rfl, ?_⟩; simp only [d1, t2, d3, d4, SA, Nat.reduceAdd, reduceIte, Nat.reduceEqDiff, Nat.reduceBEq, reduceCtorEq]; done))); all_goals (first | (simp only [d1, t2, d3, d4, SA, Nat.reduceAdd, reduceIte, Nat.reduceEqDiff, Nat.reduceBEq, reduceCtorEq]; (try go_unwrap; try simp only [d1, t2, d3, d4, RR, reduceCtorEq])) | (show Env; skip) | (show Mem; skip))) | (apply goCall_V e96; (case hV => (simp only [d1, t2, d3, d4, SA, Nat.reduceAdd, reduceIte, Nat.reduceEqDiff, Nat.reduceBEq, reduceCtorEq]; (try go_unwrap; try simp only [d1, t2, d3, d4, RR, reduceCtorEq]); exact h2)); (try (case hs => rfl)); (try (case hf => first | exact Or.inl rfl | exact Or.inr ⟨rfl, rfl⟩ | (refine Or.inl ?_; simp only [d1, t2, d3, d4, SA, Nat.reduceAdd, reduceIte, Nat.reduceEqDiff, Nat.reduceBEq, reduceCtorEq]; done) | (refine Or.inr ⟨rfl, ?_⟩; simp only [d1, t2, d3, d4, SA, Nat.reduceAdd, reduceIte, Nat.reduceEqDiff, Nat.reduceBEq, reduceCtorEq]; done))); all_goals (first | (simp only [d1, t2, d3, d4, SA, Nat.reduceAdd, reduceIte, Nat.reduceEqDiff, Nat.reduceBEq, reduceCtorEq]; (try go_unwrap; try simp only [d1, t2, d3, d4, RR, reduceCtorEq])) | (show Env; skip) | (show Mem; skip))) | (refine gd_i ?_; intro hg; try simp only [hg]) | refine goCall_W e95 (h95) ?_ ?_ ?_ ?_ | refine goCall_W e97 (h97) ?_ ?_ ?_ ?_ | (refine ari ?_; first | omega | (simp only [DD, LL] <;> omega) | (go_unwrap; omega)) | ((first | refine stq ?_ | show (_ : Post) _ _ _ | (refine schedW_alt_k ?_ ?_; intro K hK)); focus (simp only [d1, t2, d3, d4, SA, Nat.reduceAdd, reduceIte, Nat.reduceEqDiff, Nat.reduceBEq, reduceCtorEq]; (try go_unwrap; try simp only [d1, t2, d3, d4, RR, reduceCtorEq]))) | refine And.intro ?_ ?_ | exact Or.inr ⟨rfl, Nat.le_refl _⟩ | exact (fun h => Bool.noConfusion h))
    · have d4 : decide ((1000000000000000000 : Int) < (Q : Int)) = false := by simp only [decide_eq_false_iff_not]; omega
      rw [if_neg hQm]
      have t5 : IntKind.i64.wrap (Q : Int) = (Q : Int) := IntWalk.i64_in _ (by omega)
      have t6 : IntKind.i64.wrap (0 - (Q : Int)) = -(Q : Int) := by rw [IntWalk.i64_in _ (by omega)]; omega
      by_cases hr : 1000000 ≤ 2 * (p % 1000000)
      · have d3 : decide ((1000000 : Int) ≤ ((2 * (p % 1000000) : Nat) : Int)) = true := by
          generalize 2 * (p % 1000000) = x at *
          simp only [decide_eq_true_eq]; omega
        rw [hQ1 hr] at t3
        repeat' (first | exact True.intro | (refine PW.seqK ?_; intro K hK) | refine stp ?_ | refine seqK_n ‹_› ?_ | refine seqK_r ‹_› ?_ | refine seqK_e ‹_› ?_ | exact schedW_stop_i | refine schK_n ‹_› ?_ | (refine PW.cond rfl ?_ ?_ <;> intro hcond <;> (try contradiction) <;> try simp only [DD] at hcond) | (apply goCall_V e96; (case hV => (simp only [d1, t2, d3, t3, d4, t5, t6, SA, Nat.reduceAdd, reduceIte, Nat.reduceEqDiff, Nat.reduceBEq, reduceCtorEq]; (try go_unwrap; try simp only [d1, t2, d3, t3, d4, t5, t6, RR, reduceCtorEq]); exact h1)); (try (case hs => rfl)); (try (case hf => first | exact Or.inl rfl | exact Or.inr ⟨rfl, rfl⟩ | (refine Or.inl ?_; simp only [d1, t2, d3, t3, d4, t5, t6, SA, Nat.reduceAdd, reduceIte, Nat.reduceEqDiff, Nat.reduceBEq, reduceCtorEq]; done) | (refine Or.inr ⟨rfl, ?_⟩; simp only [d1, t2, d3, t3, d4, t5, t6, SA, Nat.reduceAdd, reduceIte, Nat.reduceEqDiff, Nat.reduceBEq, reduceCtorEq]; done))); all_goals (first | (simp only [d1, t2, d3, t3, d4, t5, t6, SA, Nat.reduceAdd, reduceIte, Nat.reduceEqDiff, Nat.reduceBEq, reduceCtorEq]; (try go_unwrap; try simp only [d1, t2, d3, t3, d4, t5, t6, RR, reduceCtorEq])) | (show Env; skip) | (show Mem; skip))) | (apply goCall_V e96; (case hV => (simp only [d1, t2, d3, t3, d4, t5, t6, SA, Nat.reduceAdd, reduceIte, Nat.reduceEqDiff, Nat.reduceBEq, reduceCtorEq]; (try go_unwrap; try simp only [d1, t2, d3, t3, d4, t5, t6, RR, reduceCtorEq]); exact h2)); (try (case hs => rfl)); (try (case hf => first | exact Or.inl rfl | exact Or.inr ⟨rfl, rfl⟩ | (refine Or.inl ?_; simp only [d1, t2, d3, t3, d4, t5, t6, SA, Nat.reduceAdd, reduceIte, Nat.reduceEqDiff, Nat.reduceBEq, reduceCtorEq]; done) | (refine Or.inr ⟨rfl, ?_⟩; simp only [d1, t2, d3, t3, d4, t5, t6, SA, Nat.reduceAdd, reduceIte, Nat.reduceEqDiff, Nat.reduceBEq, reduceCtorEq]; done))); all_goals (first | (simp only [d1, t2, d3, t3, d4, t5, t6, SA, Nat.reduceAdd, reduceIte, Nat.reduceEqDiff, Nat.reduceBEq, reduceCtorEq]; (try go_unwrap; try simp only [d1, t2, d3, t3, d4, t5, t6, RR, reduceCtorEq])) | (show Env; skip) | (show Mem; skip))) | (refine gd_i ?_; intro hg; try simp only [hg]) | refine goCall_W e95 (h95) ?_ ?_ ?_ ?_ | refine goCall_W e97 (h97) ?_ ?_ ?_ ?_ | (refine ari ?_; first | omega | (simp only [DD, LL] <;> omega) | (go_unwrap; omega)) | ((first | refine stq ?_ | show (_ : Post) _ _ _ | (refine schedW_alt_k ?_ ?_; intro K hK)); focus (simp only [d1, t2, d3, t3, d4, t5, t6, SA, Nat.reduceAdd, reduceIte, Nat.reduceEqDiff, Nat.reduceBEq, reduceCtorEq]; (try go_unwrap; try simp only [d1, t2, d3, t3, d4, t5, t6, RR, reduceCtorEq]))) | refine And.intro ?_ ?_ | exact Or.inr ⟨rfl, Nat.le_refl _⟩ | exact (fun h => Bool.noConfusion h))
        all_goals (first | (rw [if_pos (by simpa using hcond)]; done) | (rw [if_neg (by simpa using hcond)]; done))
      · have d3 : decide ((1000000 : Int) ≤ ((2 * (p % 1000000) : Nat) : Int)) = false := by
          generalize 2 * (p % 1000000) = x at *
          simp only [decide_eq_false_iff_not]; omega
        rw [hQ2 hr] at h97
        repeat' (first | exact True.intro | (refine PW.seqK ?_; intro K hK) | refine stp ?_ | refine seqK_n ‹_› ?_ | refine seqK_r ‹_› ?_ | refine seqK_e ‹_› ?_ | exact schedW_stop_i | refine schK_n ‹_› ?_ | (refine PW.cond rfl ?_ ?_ <;> intro hcond <;> (try contradiction) <;> try simp only [DD] at hcond) | (apply goCall_V e96; (case hV => (simp only [d1, t2, d3, d4, t5, t6, SA, Nat.reduceAdd, reduceIte, Nat.reduceEqDiff, Nat.reduceBEq, reduceCtorEq]; (try go_unwrap; try simp only [d1, t2, d3, d4, t5, t6, RR, reduceCtorEq]); exact h1)); (try (case hs => rfl)); (try (case hf => first | exact Or.inl rfl | exact Or.inr ⟨rfl, rfl⟩ | (refine Or.inl ?_; simp only [d1, t2, d3, d4, t5, t6, SA, Nat.reduceAdd, reduceIte, Nat.reduceEqDiff, Nat.reduceBEq, reduceCtorEq]; done) | (refine Or.inr ⟨rfl, ?_⟩; simp only [d1, t2, d3, d4, t5, t6, SA, Nat.reduceAdd, reduceIte, Nat.reduceEqDiff, Nat.reduceBEq, reduceCtorEq]; done))); all_goals (first | (simp only [d1, t2, d3, d4, t5, t6, SA, Nat.reduceAdd, reduceIte, Nat.reduceEqDiff, Nat.reduceBEq, reduceCtorEq]; (try go_unwrap; try simp only [d1, t2, d3, d4, t5, t6, RR, reduceCtorEq])) | (show Env; skip) | (show Mem; skip))) | (apply goCall_V e96; (case hV => (simp only [d1, t2, d3, d4, t5, t6, SA, Nat.reduceAdd, reduceIte, Nat.reduceEqDiff, Nat.reduceBEq, reduceCtorEq]; (try go_unwrap; try simp only [d1, t2, d3, d4, t5, t6, RR, reduceCtorEq]); exact h2)); (try (case hs => rfl)); (try (case hf => first | exact Or.inl rfl | exact Or.inr ⟨rfl, rfl⟩ | (refine Or.inl ?_; simp only [d1, t2, d3, d4, t5, t6, SA, Nat.reduceAdd, reduceIte, Nat.reduceEqDiff, Nat.reduceBEq, reduceCtorEq]; done) | (refine Or.inr ⟨rfl, ?_⟩; simp only [d1, t2, d3, d4, t5, t6, SA, Nat.reduceAdd, reduceIte, Nat.reduceEqDiff, Nat.reduceBEq, reduceCtorEq]; done))); all_goals (first | (simp only [d1, t2, d3, d4, t5, t6, SA, Nat.reduceAdd, reduceIte, Nat.reduceEqDiff, Nat.reduceBEq, reduceCtorEq]; (try go_unwrap; try simp only [d1, t2, d3, d4, t5, t6, RR, reduceCtorEq])) | (show Env; skip) | (show Mem; skip))) | (refine gd_i ?_; intro hg; try simp only [hg]) | refine goCall_W e95 (h95) ?_ ?_ ?_ ?_ | refine goCall_W e97 (h97) ?_ ?_ ?_ ?_ | (refine ari ?_; first | omega | (simp only [DD, LL] <;> omega) | (go_unwrap; omega)) | ((first | refine stq ?_ | show (_ : Post) _ _ _ | (refine schedW_alt_k ?_ ?_; intro K hK)); focus (simp only [d1, t2, d3, d4, t5, t6, SA, Nat.reduceAdd, reduceIte, Nat.reduceEqDiff, Nat.reduceBEq, reduceCtorEq]; (try go_unwrap; try simp only [d1, t2, d3, d4, t5, t6, RR, reduceCtorEq]))) | refine And.intro ?_ ?_ | exact Or.inr ⟨rfl, Nat.le_refl _⟩ | exact (fun h => Bool.noConfusion h))
        all_goals (first | (rw [if_pos (by simpa using hcond)]; done) | (rw [if_neg (by simpa using hcond)]; done))
end Go.Proofs.YthekpjhffciakaaDoor

