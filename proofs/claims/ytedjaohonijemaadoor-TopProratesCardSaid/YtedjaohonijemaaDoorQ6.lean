import Derived.Lib.Mul64
import Derived.Handy
import Derived.Lib.EndianBits
import Derived.Test.YtedjaohonijemaaDoorQ5
import Derived.Test.YtedjaohonijemaaDoorP4
namespace Go.Proofs.YtedjaohonijemaaDoor
open Go PG Go.Proofs
set_option linter.unusedSimpArgs false
set_option linter.unusedVariables false
set_option maxHeartbeats 4000000
set_option maxRecDepth 100000
theorem mix : Tryd.prog.follows .mixedOrders = true := by kernel_rfl
theorem e12 : Ent Tryd.prog 12 := ⟨Tryd.f12, Tryd.func12, by kernel_rfl, by kernel_rfl⟩
theorem e13 : Ent Tryd.prog 13 := ⟨Tryd.f13, Tryd.func13, by kernel_rfl, by kernel_rfl⟩
theorem e14 : Ent Tryd.prog 14 := ⟨Tryd.f14, Tryd.func14, by kernel_rfl, by kernel_rfl⟩
theorem e17 : Ent Tryd.prog 17 := ⟨Tryd.f17, Tryd.func17, by kernel_rfl, by kernel_rfl⟩
theorem e18 : Ent Tryd.prog 18 := ⟨Tryd.f18, Tryd.func18, by kernel_rfl, by kernel_rfl⟩
theorem e30 : Ent Tryd.prog 30 := ⟨Tryd.f30, Tryd.func30, by kernel_rfl, by kernel_rfl⟩
theorem e32 : Ent Tryd.prog 32 := ⟨Tryd.f32, Tryd.func32, by kernel_rfl, by kernel_rfl⟩
theorem e33 : Ent Tryd.prog 33 := ⟨Tryd.f33, Tryd.func33, by kernel_rfl, by kernel_rfl⟩
theorem e34 : Ent Tryd.prog 34 := ⟨Tryd.f34, Tryd.func34, by kernel_rfl, by kernel_rfl⟩
theorem e35 : Ent Tryd.prog 35 := ⟨Tryd.f35, Tryd.func35, by kernel_rfl, by kernel_rfl⟩
theorem e45 : Ent Tryd.prog 45 := ⟨Tryd.f45, Tryd.func45, by kernel_rfl, by kernel_rfl⟩
theorem e46 : Ent Tryd.prog 46 := ⟨Tryd.f46, Tryd.func46, by kernel_rfl, by kernel_rfl⟩
theorem e47 : Ent Tryd.prog 47 := ⟨Tryd.f47, Tryd.func47, by kernel_rfl, by kernel_rfl⟩
theorem e48 : Ent Tryd.prog 48 := ⟨Tryd.f48, Tryd.func48, by kernel_rfl, by kernel_rfl⟩
theorem e49 : Ent Tryd.prog 49 := ⟨Tryd.f49, Tryd.func49, by kernel_rfl, by kernel_rfl⟩
theorem e50 : Ent Tryd.prog 50 := ⟨Tryd.f50, Tryd.func50, by kernel_rfl, by kernel_rfl⟩
theorem e51 : Ent Tryd.prog 51 := ⟨Tryd.f51, Tryd.func51, by kernel_rfl, by kernel_rfl⟩
theorem e52 : Ent Tryd.prog 52 := ⟨Tryd.f52, Tryd.func52, by kernel_rfl, by kernel_rfl⟩
theorem e69 : Ent Tryd.prog 69 := ⟨Tryd.f69, Tryd.func69, by kernel_rfl, by kernel_rfl⟩
theorem e70 : Ent Tryd.prog 70 := ⟨Tryd.f70, Tryd.func70, by kernel_rfl, by kernel_rfl⟩
theorem e71 : Ent Tryd.prog 71 := ⟨Tryd.f71, Tryd.func71, by kernel_rfl, by kernel_rfl⟩
theorem e86 : Ent Tryd.prog 86 := ⟨Tryd.f86, Tryd.func86, by kernel_rfl, by kernel_rfl⟩
theorem e87 : Ent Tryd.prog 87 := ⟨Tryd.f87, Tryd.func87, by kernel_rfl, by kernel_rfl⟩
theorem e6 : Ent Tryd.prog 6 := ⟨Tryd.f6, Tryd.func6, by kernel_rfl, by kernel_rfl⟩
theorem e16 : Ent Tryd.prog 16 := ⟨Tryd.f16, Tryd.func16, by kernel_rfl, by kernel_rfl⟩
variable {G : Globs}
/-! Shares -/
theorem shr32 (a : Nat) : (a : Int).fdiv (2 ^ min (Int.toNat 32) IntKind.u64.bits) = ((a / 4294967296 : Nat) : Int) := by
  rw [show min (Int.toNat 32) IntKind.u64.bits = 32 from rfl, show (2 : Int) ^ 32 = 4294967296 from rfl, Int.fdiv_eq_ediv_of_nonneg _ (by omega)]
  omega
theorem wrapN {a : Nat} (ha : a < 18446744073709551616) : IntKind.u64.wrap (a : Int) = (a : Int) := by rw [IntKind.wrap_u64]; omega
theorem wrapM (a : Nat) : IntKind.u64.wrap (a : Int) = ((a % 18446744073709551616 : Nat) : Int) := by rw [IntKind.wrap_u64]; omega
theorem mask32 {a : Nat} (ha : a < 18446744073709551616) : IntKind.u64.wrap ((BitVec.ofInt IntKind.u64.bits (a : Int) &&& BitVec.ofInt IntKind.u64.bits 4294967295).toNat : Int) = ((a % 4294967296 : Nat) : Int) := by
  have h1 : (BitVec.ofInt IntKind.u64.bits (a : Int) &&& BitVec.ofInt IntKind.u64.bits 4294967295).toNat = a % 4294967296 := by
    show (BitVec.ofInt 64 (a : Int) &&& BitVec.ofNat 64 4294967295).toNat = _
    rw [BitVec.ofInt_natCast, BitVec.toNat_and, BitVec.toNat_ofNat, BitVec.toNat_ofNat]
    rw [Nat.mod_eq_of_lt (show a < 2 ^ 64 by omega), Nat.mod_eq_of_lt (show 4294967295 < 2 ^ 64 by omega)]
    have := Nat.and_two_pow_sub_one_eq_mod a 32
    simpa using this
  rw [h1, wrapN (by omega)]
theorem mulN (a b : Nat) : (a : Int) * (b : Int) = ((a * b : Nat) : Int) := (Int.natCast_mul a b).symm
theorem addN (a b : Nat) : (a : Int) + (b : Int) = ((a + b : Nat) : Int) := (Int.natCast_add a b).symm
theorem v70 (x y : Nat) (hx : x < 18446744073709551616) (hy : y < 18446744073709551616) : VCalls Tryd.prog G 70 [.int .u64 x, .int .u64 y] (.tup [.int .u64 ((x * y / 18446744073709551616 : Nat) : Int), .int .u64 ((x * y % 18446744073709551616 : Nat) : Int)]) := by
  refine VCalls.of_PW Tryd.func70 k70 mix (by simp [c70]) ?_
  simp only [c70, L70, CC, argE]
  obtain ⟨bd, bt, bw, hhi⟩ := Lib.mul64_hi x y hx hy
  have ba := Lib.half_mul_le (a := x / 4294967296) (b := y / 4294967296) (by omega) (by omega)
  have bb := Lib.half_mul_le (a := x / 4294967296) (b := y % 4294967296) (by omega) (by omega)
  have bc := Lib.half_mul_le (a := x % 4294967296) (b := y / 4294967296) (by omega) (by omega)
  have ba' : x / 4294967296 * (y / 4294967296) < 18446744073709551616 := by omega
  have bb' : x / 4294967296 * (y % 4294967296) < 18446744073709551616 := by omega
  have bc' : x % 4294967296 * (y / 4294967296) < 18446744073709551616 := by omega
  have bh1 : x / 4294967296 * (y / 4294967296) + (x / 4294967296 * (y % 4294967296) + x % 4294967296 * (y % 4294967296) / 4294967296) / 4294967296 < 18446744073709551616 := by omega
  have bh : x / 4294967296 * (y / 4294967296) + (x / 4294967296 * (y % 4294967296) + x % 4294967296 * (y % 4294967296) / 4294967296) / 4294967296 + ((x / 4294967296 * (y % 4294967296) + x % 4294967296 * (y % 4294967296) / 4294967296) % 4294967296 + x % 4294967296 * (y / 4294967296)) / 4294967296 < 18446744073709551616 := by omega
  repeat' (first | exact True.intro | (refine PW.seqK ?_; intro K hK) | refine stp ?_ | refine seqK_n ‹_› ?_ | refine seqK_r ‹_› ?_ | refine seqK_e ‹_› ?_ | exact schedW_stop_i | refine schK_n ‹_› ?_ | (refine PW.cond rfl ?_ ?_ <;> intro hcond <;> (try contradiction) <;> try simp only [DD] at hcond) | (refine gd_i ?_; intro hg; try simp only [hg]) | (refine ari ?_; first | omega | (simp only [DD, LL] <;> omega) | (go_unwrap; omega)) | ((first | refine stq ?_ | show (_ : Post) _ _ _ | (refine schedW_alt_k ?_ ?_; intro K hK)); focus (simp only [SA, Nat.reduceAdd, reduceIte, Nat.reduceEqDiff, Nat.reduceBEq, reduceCtorEq]; (try go_unwrap; try simp only [RR, reduceCtorEq]))) | refine And.intro ?_ ?_ | exact Or.inr ⟨rfl, Nat.le_refl _⟩ | exact (fun h => Bool.noConfusion h))
  simp only [mask32 hx, mask32 hy, shr32, mulN, addN, wrapN bd, wrapN bb', wrapN bt, mask32 bt, wrapN bc', wrapN bw, wrapN ba', wrapN bh1, wrapN bh, wrapM (x * y)]
  rw [hhi]
theorem v71 (lo y : Nat) (hl : lo < 18446744073709551616) (hy : 0 < y) (hy2 : y < 18446744073709551616) : VCalls Tryd.prog G 71 [.int .u64 0, .int .u64 lo, .int .u64 y] (.tup [.int .u64 ((lo / y : Nat) : Int), .int .u64 ((lo % y : Nat) : Int)]) := by
  refine VCalls.of_PW Tryd.func71 k71 mix (by simp [c71]) ?_
  simp only [c71, L71, CC, argE]
  have d1 : decide ((y : Int) = 0) = false := by simp only [decide_eq_false_iff_not]; omega
  have d2 : decide ((y : Int) ≤ 0) = false := by simp only [decide_eq_false_iff_not]; omega
  have z0 : ¬ (y : Int) = 0 := by omega
  have q1 : (lo : Int).tdiv y = ((lo / y : Nat) : Int) := by rw [Int.tdiv_eq_ediv_of_nonneg (by omega)]; rfl
  have q2 : (lo : Int).tmod y = ((lo % y : Nat) : Int) := by rw [Int.tmod_eq_emod_of_nonneg (by omega)]; rfl
  have b1 : lo / y ≤ lo := Nat.div_le_self _ _
  have b2 : lo % y ≤ lo := Nat.mod_le _ _
  have w1 : IntKind.u64.wrap ((lo / y : Nat) : Int) = ((lo / y : Nat) : Int) := wrapN (by omega)
  have w2 : IntKind.u64.wrap ((lo % y : Nat) : Int) = ((lo % y : Nat) : Int) := wrapN (by omega)
  repeat' (first | exact True.intro | (refine PW.seqK ?_; intro K hK) | refine stp ?_ | refine seqK_n ‹_› ?_ | refine seqK_r ‹_› ?_ | refine seqK_e ‹_› ?_ | exact schedW_stop_i | refine schK_n ‹_› ?_ | (refine PW.cond rfl ?_ ?_ <;> intro hcond <;> (try contradiction) <;> try simp only [DD] at hcond) | (refine gd_i ?_; intro hg; try simp only [hg]) | (refine ari ?_; first | omega | (simp only [DD, LL] <;> omega) | (go_unwrap; omega)) | ((first | refine stq ?_ | show (_ : Post) _ _ _ | (refine schedW_alt_k ?_ ?_; intro K hK)); focus (simp only [PV.bin, PV.binOk, binI, d1, d2, z0, q1, q2, w1, w2, SA, Nat.reduceAdd, reduceIte, Nat.reduceEqDiff, Nat.reduceBEq, reduceCtorEq]; (try go_unwrap; try simp only [PV.bin, PV.binOk, binI, d1, d2, z0, q1, q2, w1, w2, RR, reduceCtorEq]))) | refine And.intro ?_ ?_ | exact Or.inr ⟨rfl, Nat.le_refl _⟩ | exact (fun h => Bool.noConfusion h))
theorem v52 (c a o : Nat) (hc : c < 18446744073709551616) (ha : a < 18446744073709551616) (hca : c * a < 18446744073709551616) (ho : 0 < o) (ho2 : o < 18446744073709551616) :
    VCalls Tryd.prog G 52 [.int .u64 c, .int .u64 a, .int .u64 o] (.tup [.int .u64 ((c * a / o : Nat) : Int), .int .u64 ((c * a % o : Nat) : Int)]) := by
  refine VCalls.of_PW Tryd.func52 k52 mix (by simp [c52]) ?_
  simp only [c52, L52, CC, argE]
  have h70 := v70 (G := G) c a hc ha
  have h71 := v71 (G := G) (c * a) o hca ho ho2
  rw [Nat.div_eq_of_lt hca, Nat.mod_eq_of_lt hca, show ((0 : Nat) : Int) = 0 from rfl] at h70
  repeat' (first | exact True.intro | (refine PW.seqK ?_; intro K hK) | refine stp ?_ | refine seqK_n ‹_› ?_ | refine seqK_r ‹_› ?_ | refine seqK_e ‹_› ?_ | exact schedW_stop_i | refine schK_n ‹_› ?_ | (refine PW.cond rfl ?_ ?_ <;> intro hcond <;> (try contradiction) <;> try simp only [DD] at hcond) | (refine gd_i ?_; intro hg; try simp only [hg]) | refine goCall_W e70 (h70) ?_ ?_ ?_ ?_ | refine goCall_W e71 (h71) ?_ ?_ ?_ ?_ | (refine ari ?_; first | omega | (simp only [DD, LL] <;> omega) | (go_unwrap; omega)) | ((first | refine stq ?_ | show (_ : Post) _ _ _ | (refine schedW_alt_k ?_ ?_; intro K hK)); focus (simp only [SA, Nat.reduceAdd, reduceIte, Nat.reduceEqDiff, Nat.reduceBEq, reduceCtorEq]; (try go_unwrap; try simp only [RR, reduceCtorEq]))) | refine And.intro ?_ ?_ | exact Or.inr ⟨rfl, Nat.le_refl _⟩ | exact (fun h => Bool.noConfusion h))
/-- How much of so many cents lies up to a part: rounded, halves up. -/
def upM (c a o : Nat) : Nat := c * a / o + if o ≤ 2 * (c * a % o) then 1 else 0
theorem upM_eq (c a : Nat) {o : Nat} (ho : 0 < o) : upM c a o = (2 * (c * a) + o) / (2 * o) := by
  unfold upM
  have h := Nat.div_add_mod (c * a) o
  have hm := Nat.mod_lt (c * a) ho
  generalize c * a / o = q at *
  generalize c * a % o = r at *
  symm
  rw [← h]
  split
  · rename_i h2
    rw [Nat.div_eq_iff (by omega)]
    constructor
    · rw [Nat.add_mul, Nat.one_mul, Nat.mul_comm q, Nat.mul_assoc]; omega
    · rw [Nat.add_mul, Nat.one_mul, Nat.mul_comm q, Nat.mul_assoc]; omega
  · rename_i h2
    rw [Nat.div_eq_iff (by omega)]
    constructor
    · rw [Nat.add_zero, Nat.mul_comm q, Nat.mul_assoc]; omega
    · rw [Nat.add_zero, Nat.mul_comm q, Nat.mul_assoc]; omega
theorem upM_mono (c : Nat) {a b o : Nat} (ho : 0 < o) (h : a ≤ b) : upM c a o ≤ upM c b o := by
  rw [upM_eq c a ho, upM_eq c b ho]
  exact Nat.div_le_div_right (Nat.add_le_add_right (Nat.mul_le_mul_left 2 (Nat.mul_le_mul_left c h)) o)
theorem upM_all (c : Nat) {o : Nat} (ho : 0 < o) : upM c o o = c := by
  unfold upM
  rw [Nat.mul_div_cancel _ ho, Nat.mul_mod_left, if_neg (by omega)]; rfl
theorem upM_none (c : Nat) {o : Nat} (ho : 0 < o) : upM c 0 o = 0 := by
  unfold upM
  rw [Nat.mul_zero, Nat.zero_div, Nat.zero_mod, if_neg (by omega)]
theorem upM_le (c : Nat) {a o : Nat} (ho : 0 < o) (h : a ≤ o) : upM c a o ≤ c := by
  have := upM_mono c ho h; rwa [upM_all c ho] at this
structure Shr (c a o : Nat) : Prop where
  hc : c ≤ 4294967295
  ha : a ≤ o
  ho : 0 < o
  ho2 : o ≤ 1000000
theorem Shr.prod {c a o : Nat} (h : Shr c a o) : c * a ≤ 4294967295000000 := by
  have := Nat.mul_le_mul h.hc (Nat.le_trans h.ha h.ho2); omega
theorem v51 {c a o : Nat} (h : Shr c a o) : VCalls Tryd.prog G 51 [.int .u64 c, .cptr none (.int .i64 a) 0, .cptr none (.int .i64 o) 0] (.int .i64 (upM c a o)) := by
  refine VCalls.of_PW Tryd.func51 k51 mix (by simp [c51]) ?_
  simp only [c51, L51, CC, argE]
  have hp := h.prod
  obtain ⟨h1, h2, h3, h4⟩ := h
  have h52 := v52 (G := G) c a o (by omega) (by omega) (by omega) h3 (by omega)
  have hq : c * a / o ≤ 4294967295000000 := Nat.le_trans (Nat.div_le_self _ _) hp
  have hr := Nat.mod_lt (c * a) h3
  have hu : upM c a o = c * a / o + if o ≤ 2 * (c * a % o) then 1 else 0 := rfl
  generalize upM c a o = u at *
  generalize c * a / o = q at *
  generalize c * a % o = r at *
  by_cases h5 : o ≤ 2 * r
  · rw [if_pos h5] at hu
    subst hu
    have d1 : decide ((o : Int) ≤ 2 * (r : Int)) = true := by simp only [decide_eq_true_eq]; omega
    repeat' (first | exact True.intro | (refine PW.seqK ?_; intro K hK) | refine stp ?_ | refine seqK_n ‹_› ?_ | refine seqK_r ‹_› ?_ | refine seqK_e ‹_› ?_ | exact schedW_stop_i | refine schK_n ‹_› ?_ | (refine PW.cond rfl ?_ ?_ <;> intro hcond <;> (try contradiction) <;> try simp only [DD] at hcond) | (refine gd_i ?_; intro hg; try simp only [hg]) | refine goCall_W e52 (h52) ?_ ?_ ?_ ?_ | (refine ari ?_; first | omega | (simp only [DD, LL] <;> omega) | (go_unwrap; omega)) | ((first | refine stq ?_ | show (_ : Post) _ _ _ | (refine schedW_alt_k ?_ ?_; intro K hK)); focus (simp only [d1, cut, SA, Nat.reduceAdd, reduceIte, Nat.reduceEqDiff, Nat.reduceBEq, reduceCtorEq]; (try go_unwrap; try simp only [d1, cut, RR, reduceCtorEq]))) | refine And.intro ?_ ?_ | exact Or.inr ⟨rfl, Nat.le_refl _⟩ | exact (fun h => Bool.noConfusion h))
    all_goals rfl
  · rw [if_neg h5] at hu
    subst hu
    have d1 : decide ((o : Int) ≤ 2 * (r : Int)) = false := by simp only [decide_eq_false_iff_not]; omega
    repeat' (first | exact True.intro | (refine PW.seqK ?_; intro K hK) | refine stp ?_ | refine seqK_n ‹_› ?_ | refine seqK_r ‹_› ?_ | refine seqK_e ‹_› ?_ | exact schedW_stop_i | refine schK_n ‹_› ?_ | (refine PW.cond rfl ?_ ?_ <;> intro hcond <;> (try contradiction) <;> try simp only [DD] at hcond) | (refine gd_i ?_; intro hg; try simp only [hg]) | refine goCall_W e52 (h52) ?_ ?_ ?_ ?_ | (refine ari ?_; first | omega | (simp only [DD, LL] <;> omega) | (go_unwrap; omega)) | ((first | refine stq ?_ | show (_ : Post) _ _ _ | (refine schedW_alt_k ?_ ?_; intro K hK)); focus (simp only [d1, cut, Nat.add_zero, SA, Nat.reduceAdd, reduceIte, Nat.reduceEqDiff, Nat.reduceBEq, reduceCtorEq]; (try go_unwrap; try simp only [d1, cut, Nat.add_zero, RR, reduceCtorEq]))) | refine And.intro ?_ ?_ | exact Or.inr ⟨rfl, Nat.le_refl _⟩ | exact (fun h => Bool.noConfusion h))
theorem v50 {c a o : Nat} (h : Shr c a o) : VCalls Tryd.prog G 50 [.int .i64 c, .fn 51 [] [.cptr none (.int .i64 a) 0, .cptr none (.int .i64 o) 0]] (.int .i64 (upM c a o)) := by
  refine VCalls.of_PW Tryd.func50 k50 mix (by simp [c50]) ?_
  simp only [c50, L50, CC, argE]
  have h51 := v51 (G := G) h
  obtain ⟨h1, h2, h3, h4⟩ := h
  have d1 : decide ((c : Int) < 0) = false := by simp only [decide_eq_false_iff_not]; omega
  repeat' (first | exact True.intro | (refine PW.seqK ?_; intro K hK) | refine stp ?_ | refine seqK_n ‹_› ?_ | refine seqK_r ‹_› ?_ | refine seqK_e ‹_› ?_ | exact schedW_stop_i | refine schK_n ‹_› ?_ | (refine PW.cond rfl ?_ ?_ <;> intro hcond <;> (try contradiction) <;> try simp only [DD] at hcond) | (refine gd_i ?_; intro hg; try simp only [hg]) | refine goCall_W e51 (h51) ?_ ?_ ?_ ?_ | (refine ari ?_; first | omega | (simp only [DD, LL] <;> omega) | (go_unwrap; omega)) | ((first | refine stq ?_ | show (_ : Post) _ _ _ | (refine schedW_alt_k ?_ ?_; intro K hK)); focus (simp only [d1, List.nil_append, List.cons_append, List.all_cons, SA, Nat.reduceAdd, reduceIte, Nat.reduceEqDiff, Nat.reduceBEq, reduceCtorEq]; (try go_unwrap; try simp only [d1, List.nil_append, List.cons_append, List.all_cons, RR, reduceCtorEq]))) | refine And.intro ?_ ?_ | exact Or.inr ⟨rfl, Nat.le_refl _⟩ | exact (fun h => Bool.noConfusion h))
theorem v35 {c a o : Nat} (h : Shr c a o) : VCalls Tryd.prog G 35 [.int .i64 c, .int .i64 a, .int .i64 o] (.int .i64 (upM c a o)) := by
  refine VCalls.of_PW Tryd.func35 k35 mix (by simp [c35]) ?_
  simp only [c35, L35, CC, argE]
  have h50 := v50 (G := G) h
  repeat' (first | exact True.intro | (refine PW.seqK ?_; intro K hK) | refine stp ?_ | refine seqK_n ‹_› ?_ | refine seqK_r ‹_› ?_ | refine seqK_e ‹_› ?_ | exact schedW_stop_i | refine schK_n ‹_› ?_ | (refine PW.cond rfl ?_ ?_ <;> intro hcond <;> (try contradiction) <;> try simp only [DD] at hcond) | (refine gd_i ?_; intro hg; try simp only [hg]) | refine goCall_L 6 e50 h50 (by simp [PV.lend, PV.view, Mem.get]) (by simp [PV.lends, PV.lend, PV.view, PV.seen, fitB, PV.scalar, Mem.get, Sh.size]) (by simp [PV.flat]) ?_ | (refine ari ?_; first | omega | (simp only [DD, LL] <;> omega) | (go_unwrap; omega)) | ((first | refine stq ?_ | show (_ : Post) _ _ _ | (refine schedW_alt_k ?_ ?_; intro K hK)); focus (simp only [List.nil_append, List.cons_append, SA, Nat.reduceAdd, reduceIte, Nat.reduceEqDiff, Nat.reduceBEq, reduceCtorEq]; (try go_unwrap; try simp only [List.nil_append, List.cons_append, RR, reduceCtorEq]))) | refine And.intro ?_ ?_ | exact Or.inr ⟨rfl, Nat.le_refl _⟩ | exact (fun h => Bool.noConfusion h))
theorem v49 (c : Nat) (h : c ≤ 4294967295) : VCalls Tryd.prog G 49 [.int .i64 c] (.bool true) := by
  refine VCalls.of_PW Tryd.func49 k49 mix (by simp [c49]) ?_
  simp only [c49, L49, CC, argE]
  have d1 : decide (-1125899906842624 ≤ (c : Int)) = true := by simp only [decide_eq_true_eq]; omega
  have d2 : decide ((c : Int) ≤ 1125899906842624) = true := by simp only [decide_eq_true_eq]; omega
  repeat' (first | exact True.intro | (refine PW.seqK ?_; intro K hK) | refine stp ?_ | refine seqK_n ‹_› ?_ | refine seqK_r ‹_› ?_ | refine seqK_e ‹_› ?_ | exact schedW_stop_i | refine schK_n ‹_› ?_ | (refine PW.cond rfl ?_ ?_ <;> intro hcond <;> (try contradiction) <;> try simp only [DD] at hcond) | (refine gd_i ?_; intro hg; try simp only [hg]) | (refine ari ?_; first | omega | (simp only [DD, LL] <;> omega) | (go_unwrap; omega)) | ((first | refine stq ?_ | show (_ : Post) _ _ _ | (refine schedW_alt_k ?_ ?_; intro K hK)); focus (simp only [d1, d2, SA, Nat.reduceAdd, reduceIte, Nat.reduceEqDiff, Nat.reduceBEq, reduceCtorEq]; (try go_unwrap; try simp only [d1, d2, RR, reduceCtorEq]))) | refine And.intro ?_ ?_ | exact Or.inr ⟨rfl, Nat.le_refl _⟩ | exact (fun h => Bool.noConfusion h))
theorem v34 (c o : Nat) (h : c ≤ 4294967295) (ho : 0 < o) (ho2 : o ≤ 1000000) : VCalls Tryd.prog G 34 [.int .i64 c, .int .i64 o] (.int .i64 0) := by
  refine VCalls.of_PW Tryd.func34 k34 mix (by simp [c34]) ?_
  simp only [c34, L34, CC, argE]
  have h49 := v49 (G := G) c h
  have d1 : decide ((o : Int) = 0) = false := by simp only [decide_eq_false_iff_not]; omega
  have d2 : decide ((o : Int) < 0) = false := by simp only [decide_eq_false_iff_not]; omega
  have d3 : decide ((1125899906842624 : Int) < o) = false := by simp only [decide_eq_false_iff_not]; omega
  repeat' (first | exact True.intro | (refine PW.seqK ?_; intro K hK) | refine stp ?_ | refine seqK_n ‹_› ?_ | refine seqK_r ‹_› ?_ | refine seqK_e ‹_› ?_ | exact schedW_stop_i | refine schK_n ‹_› ?_ | (refine PW.cond rfl ?_ ?_ <;> intro hcond <;> (try contradiction) <;> try simp only [DD] at hcond) | (refine gd_i ?_; intro hg; try simp only [hg]) | refine goCall_W e49 (h49) ?_ ?_ ?_ ?_ | (refine ari ?_; first | omega | (simp only [DD, LL] <;> omega) | (go_unwrap; omega)) | ((first | refine stq ?_ | show (_ : Post) _ _ _ | (refine schedW_alt_k ?_ ?_; intro K hK)); focus (simp only [d1, d2, d3, SA, Nat.reduceAdd, reduceIte, Nat.reduceEqDiff, Nat.reduceBEq, reduceCtorEq]; (try go_unwrap; try simp only [d1, d2, d3, RR, reduceCtorEq]))) | refine And.intro ?_ ?_ | exact Or.inr ⟨rfl, Nat.le_refl _⟩ | exact (fun h => Bool.noConfusion h))
theorem v18 (c a b o : Nat) (h : c ≤ 4294967295) (hab : a ≤ b) (hbo : b ≤ o) (ho : 0 < o) (ho2 : o ≤ 1000000) : VCalls Tryd.prog G 18 [.int .i64 c, .int .i64 a, .int .i64 b, .int .i64 o] (.tup [.int .i64 ((upM c b o : Nat) - (upM c a o : Nat) : Int), .int .i64 0]) := by
  refine VCalls.of_PW Tryd.func18 k18 mix (by simp [c18]) ?_
  simp only [c18, L18, CC, argE]
  have h34 := v34 (G := G) c o h ho ho2
  have ha := v35 (G := G) (c := c) (a := a) (o := o) ⟨h, by omega, ho, ho2⟩
  have hb := v35 (G := G) (c := c) (a := b) (o := o) ⟨h, hbo, ho, ho2⟩
  have u1 := upM_le c ho (show a ≤ o by omega)
  have u2 := upM_le c ho hbo
  generalize upM c a o = ua at *
  generalize upM c b o = ub at *
  have d1 : decide ((a : Int) < 0) = false := by simp only [decide_eq_false_iff_not]; omega
  have d2 : decide ((o : Int) < a) = false := by simp only [decide_eq_false_iff_not]; omega
  have d3 : decide ((b : Int) < 0) = false := by simp only [decide_eq_false_iff_not]; omega
  have d4 : decide ((o : Int) < b) = false := by simp only [decide_eq_false_iff_not]; omega
  have d5 : decide ((b : Int) < a) = false := by simp only [decide_eq_false_iff_not]; omega
  repeat' (first | exact True.intro | (refine PW.seqK ?_; intro K hK) | refine stp ?_ | refine seqK_n ‹_› ?_ | refine seqK_r ‹_› ?_ | refine seqK_e ‹_› ?_ | exact schedW_stop_i | refine schK_n ‹_› ?_ | (refine PW.cond rfl ?_ ?_ <;> intro hcond <;> (try contradiction) <;> try simp only [DD] at hcond) | (apply goCall_V e35; (case hV => (simp only [d1, d2, d3, d4, d5, SA, Nat.reduceAdd, reduceIte, Nat.reduceEqDiff, Nat.reduceBEq, reduceCtorEq]; (try go_unwrap; try simp only [d1, d2, d3, d4, d5, RR, reduceCtorEq]); exact hb)); (try (case hs => rfl)); (try (case hf => first | exact Or.inl rfl | exact Or.inr ⟨rfl, rfl⟩ | (refine Or.inl ?_; simp only [d1, d2, d3, d4, d5, SA, Nat.reduceAdd, reduceIte, Nat.reduceEqDiff, Nat.reduceBEq, reduceCtorEq]; done) | (refine Or.inr ⟨rfl, ?_⟩; simp only [d1, d2, d3, d4, d5, SA, Nat.reduceAdd, reduceIte, Nat.reduceEqDiff, Nat.reduceBEq, reduceCtorEq]; done))); all_goals (first | (simp only [d1, d2, d3, d4, d5, SA, Nat.reduceAdd, reduceIte, Nat.reduceEqDiff, Nat.reduceBEq, reduceCtorEq]; (try go_unwrap; try simp only [d1, d2, d3, d4, d5, RR, reduceCtorEq])) | (show Env; skip) | (show Mem; skip))) | (apply goCall_V e35; (case hV => (simp only [d1, d2, d3, d4, d5, SA, Nat.reduceAdd, reduceIte, Nat.reduceEqDiff, Nat.reduceBEq, reduceCtorEq]; (try go_unwrap; try simp only [d1, d2, d3, d4, d5, RR, reduceCtorEq]); exact ha)); (try (case hs => rfl)); (try (case hf => first | exact Or.inl rfl | exact Or.inr ⟨rfl, rfl⟩ | (refine Or.inl ?_; simp only [d1, d2, d3, d4, d5, SA, Nat.reduceAdd, reduceIte, Nat.reduceEqDiff, Nat.reduceBEq, reduceCtorEq]; done) | (refine Or.inr ⟨rfl, ?_⟩; simp only [d1, d2, d3, d4, d5, SA, Nat.reduceAdd, reduceIte, Nat.reduceEqDiff, Nat.reduceBEq, reduceCtorEq]; done))); all_goals (first | (simp only [d1, d2, d3, d4, d5, SA, Nat.reduceAdd, reduceIte, Nat.reduceEqDiff, Nat.reduceBEq, reduceCtorEq]; (try go_unwrap; try simp only [d1, d2, d3, d4, d5, RR, reduceCtorEq])) | (show Env; skip) | (show Mem; skip))) | (refine gd_i ?_; intro hg; try simp only [hg]) | refine goCall_W e34 (h34) ?_ ?_ ?_ ?_ | (refine ari ?_; first | omega | (simp only [DD, LL] <;> omega) | (go_unwrap; omega)) | ((first | refine stq ?_ | show (_ : Post) _ _ _ | (refine schedW_alt_k ?_ ?_; intro K hK)); focus (simp only [d1, d2, d3, d4, d5, SA, Nat.reduceAdd, reduceIte, Nat.reduceEqDiff, Nat.reduceBEq, reduceCtorEq]; (try go_unwrap; try simp only [d1, d2, d3, d4, d5, RR, reduceCtorEq]))) | refine And.intro ?_ ?_ | exact Or.inr ⟨rfl, Nat.le_refl _⟩ | exact (fun h => Bool.noConfusion h))
end Go.Proofs.YtedjaohonijemaaDoor

namespace Go.Proofs.YtedjaohonijemaaDoor
open Go PG Go.Proofs
set_option linter.unusedSimpArgs false
set_option linter.unusedVariables false
set_option maxHeartbeats 4000000
set_option maxRecDepth 100000
variable {G : Globs}
/-! Rates, sums, spans -/
theorem v86 (c : Nat) (h : c ≤ 4294967295) : VCalls Tryd.prog G 86 [.int .i64 c] (.int .u64 c) := by
  refine VCalls.of_PW Tryd.func86 k86 mix (by simp [c86]) ?_
  simp only [c86, L86, CC, argE]
  have d1 : decide ((c : Int) < 0) = false := by simp only [decide_eq_false_iff_not]; omega
  repeat' (first | exact True.intro | (refine PW.seqK ?_; intro K hK) | refine stp ?_ | refine seqK_n ‹_› ?_ | refine seqK_r ‹_› ?_ | refine seqK_e ‹_› ?_ | exact schedW_stop_i | refine schK_n ‹_› ?_ | (refine PW.cond rfl ?_ ?_ <;> intro hcond <;> (try contradiction) <;> try simp only [DD] at hcond) | (refine gd_i ?_; intro hg; try simp only [hg]) | (refine ari ?_; first | omega | (simp only [DD, LL] <;> omega) | (go_unwrap; omega)) | ((first | refine stq ?_ | show (_ : Post) _ _ _ | (refine schedW_alt_k ?_ ?_; intro K hK)); focus (simp only [d1, SA, Nat.reduceAdd, reduceIte, Nat.reduceEqDiff, Nat.reduceBEq, reduceCtorEq]; (try go_unwrap; try simp only [d1, RR, reduceCtorEq]))) | refine And.intro ?_ ?_ | exact Or.inr ⟨rfl, Nat.le_refl _⟩ | exact (fun h => Bool.noConfusion h))
theorem v87 (q : Nat) : VCalls Tryd.prog G 87 [.bool false, .int .u64 q, .int .u64 0, .int .u64 1000000, .int .i64 1] (.bool false) := by
  refine VCalls.of_PW Tryd.func87 k87 mix (by simp [c87]) ?_
  simp only [c87, L87, CC, argE]
  have f1 : decide ((1 : Int) = 4) = false := rfl
  have f2 : decide ((1 : Int) = 3) = false := rfl
  have f3 : decide ((1 : Int) = 2) = false := rfl
  have f4 : decide ((1 : Int) = 1) = true := rfl
  have f5 : decide ((1000000 : Int) ≤ 0) = false := rfl
  have w1 : IntKind.u64.wrap (1000000 - 0) = 1000000 := rfl
  repeat' (first | exact True.intro | (refine PW.seqK ?_; intro K hK) | refine stp ?_ | refine seqK_n ‹_› ?_ | refine seqK_r ‹_› ?_ | refine seqK_e ‹_› ?_ | exact schedW_stop_i | refine schK_n ‹_› ?_ | (refine PW.cond rfl ?_ ?_ <;> intro hcond <;> (try contradiction) <;> try simp only [DD] at hcond) | (refine gd_i ?_; intro hg; try simp only [hg]) | (refine ari ?_; first | omega | (simp only [DD, LL] <;> omega) | (go_unwrap; omega)) | ((first | refine stq ?_ | show (_ : Post) _ _ _ | (refine schedW_alt_k ?_ ?_; intro K hK)); focus (simp only [f1, f2, f3, f4, f5, w1, Int.sub_zero, SA, Nat.reduceAdd, reduceIte, Nat.reduceEqDiff, Nat.reduceBEq, reduceCtorEq]; (try go_unwrap; try simp only [f1, f2, f3, f4, f5, w1, Int.sub_zero, RR, reduceCtorEq]))) | refine And.intro ?_ ?_ | exact Or.inr ⟨rfl, Nat.le_refl _⟩ | exact (fun h => Bool.noConfusion h))
theorem v69 (c : Nat) (h : c ≤ 4294967295) : VCalls Tryd.prog G 69 [.int .i64 c, .int .i64 1000000, .int .u64 1000000, .int .u64 1125899906842624, .int .i64 1] (.tup [.int .i64 c, .bool true]) := by
  refine VCalls.of_PW Tryd.func69 k69 mix (by simp [c69]) ?_
  simp only [c69, L69, CC, argE]
  have ha := v86 (G := G) c h
  have hb : VCalls Tryd.prog G 86 [.int .i64 1000000] (.int .u64 1000000) := v86 (G := G) 1000000 (by decide)
  have hp : c * 1000000 < 18446744073709551616 := by omega
  have h70 : VCalls Tryd.prog G 70 [.int .u64 c, .int .u64 1000000] _ := v70 (G := G) c 1000000 (by omega) (by omega)
  rw [Nat.div_eq_of_lt hp, Nat.mod_eq_of_lt hp, show ((0 : Nat) : Int) = 0 from rfl] at h70
  have h71 : VCalls Tryd.prog G 71 [.int .u64 0, .int .u64 ((c * 1000000 : Nat) : Int), .int .u64 1000000] _ := v71 (G := G) (c * 1000000) 1000000 hp (by omega) (by omega)
  rw [Nat.mul_div_cancel _ (by omega), Nat.mul_mod_left, show ((0 : Nat) : Int) = 0 from rfl] at h71
  have h87 := v87 (G := G) c
  generalize c * 1000000 = p at *
  have d1 : decide ((c : Int) < 0) = false := by simp only [decide_eq_false_iff_not]; omega
  have d2 : decide ((1000000 : Int) < 0) = false := rfl
  have d3 : decide ((1000000 : Int) ≤ 0) = false := rfl
  have d4 : decide ((1125899906842624 : Int) < c) = false := by simp only [decide_eq_false_iff_not]; omega
  repeat' (first | exact True.intro | (refine PW.seqK ?_; intro K hK) | refine stp ?_ | refine seqK_n ‹_› ?_ | refine seqK_r ‹_› ?_ | refine seqK_e ‹_› ?_ | exact schedW_stop_i | refine schK_n ‹_› ?_ | (refine PW.cond rfl ?_ ?_ <;> intro hcond <;> (try contradiction) <;> try simp only [DD] at hcond) | (apply goCall_V e86; (case hV => (simp only [d1, d2, d3, d4, SA, Nat.reduceAdd, reduceIte, Nat.reduceEqDiff, Nat.reduceBEq, reduceCtorEq]; (try go_unwrap; try simp only [d1, d2, d3, d4, RR, reduceCtorEq]); exact ha)); (try (case hs => rfl)); (try (case hf => first | exact Or.inl rfl | exact Or.inr ⟨rfl, rfl⟩ | (refine Or.inl ?_; simp only [d1, d2, d3, d4, SA, Nat.reduceAdd, reduceIte, Nat.reduceEqDiff, Nat.reduceBEq, reduceCtorEq]; done) | (refine Or.inr ⟨rfl, ?_⟩; simp only [d1, d2, d3, d4, SA, Nat.reduceAdd, reduceIte, Nat.reduceEqDiff, Nat.reduceBEq, reduceCtorEq]; done))); all_goals (first | (simp only [d1, d2, d3, d4, SA, Nat.reduceAdd, reduceIte, Nat.reduceEqDiff, Nat.reduceBEq, reduceCtorEq]; (try go_unwrap; try simp only [d1, d2, d3, d4, RR, reduceCtorEq])) | (show Env; skip) | (show Mem; skip))) | (apply goCall_V e86; (case hV => (simp only [d1, d2, d3, d4, SA, Nat.reduceAdd, reduceIte, Nat.reduceEqDiff, Nat.reduceBEq, reduceCtorEq]; (try go_unwrap; try simp only [d1, d2, d3, d4, RR, reduceCtorEq]); exact hb)); (try (case hs => rfl)); (try (case hf => first | exact Or.inl rfl | exact Or.inr ⟨rfl, rfl⟩ | (refine Or.inl ?_; simp only [d1, d2, d3, d4, SA, Nat.reduceAdd, reduceIte, Nat.reduceEqDiff, Nat.reduceBEq, reduceCtorEq]; done) | (refine Or.inr ⟨rfl, ?_⟩; simp only [d1, d2, d3, d4, SA, Nat.reduceAdd, reduceIte, Nat.reduceEqDiff, Nat.reduceBEq, reduceCtorEq]; done))); all_goals (first | (simp only [d1, d2, d3, d4, SA, Nat.reduceAdd, reduceIte, Nat.reduceEqDiff, Nat.reduceBEq, reduceCtorEq]; (try go_unwrap; try simp only [d1, d2, d3, d4, RR, reduceCtorEq])) | (show Env; skip) | (show Mem; skip))) | (refine gd_i ?_; intro hg; try simp only [hg]) | refine goCall_W e70 (h70) ?_ ?_ ?_ ?_ | refine goCall_W e71 (h71) ?_ ?_ ?_ ?_ | refine goCall_W e87 (h87) ?_ ?_ ?_ ?_ | (refine ari ?_; first | omega | (simp only [DD, LL] <;> omega) | (go_unwrap; omega)) | ((first | refine stq ?_ | show (_ : Post) _ _ _ | (refine schedW_alt_k ?_ ?_; intro K hK)); focus (simp only [d1, d2, d3, d4, SA, Nat.reduceAdd, reduceIte, Nat.reduceEqDiff, Nat.reduceBEq, reduceCtorEq]; (try go_unwrap; try simp only [d1, d2, d3, d4, RR, reduceCtorEq]))) | refine And.intro ?_ ?_ | exact Or.inr ⟨rfl, Nat.le_refl _⟩ | exact (fun h => Bool.noConfusion h))
theorem v45 (c : Nat) (h : c ≤ 4294967295) : VCalls Tryd.prog G 45 [.int .i64 c] (.bool true) := by
  refine VCalls.of_PW Tryd.func45 k45 mix (by simp [c45]) ?_
  simp only [c45, L45, CC, argE]
  have d1 : decide (-1125899906842624 ≤ (c : Int)) = true := by simp only [decide_eq_true_eq]; omega
  have d2 : decide ((c : Int) ≤ 1125899906842624) = true := by simp only [decide_eq_true_eq]; omega
  repeat' (first | exact True.intro | (refine PW.seqK ?_; intro K hK) | refine stp ?_ | refine seqK_n ‹_› ?_ | refine seqK_r ‹_› ?_ | refine seqK_e ‹_› ?_ | exact schedW_stop_i | refine schK_n ‹_› ?_ | (refine PW.cond rfl ?_ ?_ <;> intro hcond <;> (try contradiction) <;> try simp only [DD] at hcond) | (refine gd_i ?_; intro hg; try simp only [hg]) | (refine ari ?_; first | omega | (simp only [DD, LL] <;> omega) | (go_unwrap; omega)) | ((first | refine stq ?_ | show (_ : Post) _ _ _ | (refine schedW_alt_k ?_ ?_; intro K hK)); focus (simp only [d1, d2, SA, Nat.reduceAdd, reduceIte, Nat.reduceEqDiff, Nat.reduceBEq, reduceCtorEq]; (try go_unwrap; try simp only [d1, d2, RR, reduceCtorEq]))) | refine And.intro ?_ ?_ | exact Or.inr ⟨rfl, Nat.le_refl _⟩ | exact (fun h => Bool.noConfusion h))
theorem v46 : VCalls Tryd.prog G 46 [.int .i64 1000000] (.bool true) := by
  refine VCalls.of_PW Tryd.func46 k46 mix (by simp [c46]) ?_
  simp only [c46, L46, CC, argE]
  have d1 : decide ((-1000000000 : Int) ≤ 1000000) = true := rfl
  have d2 : decide ((1000000 : Int) ≤ 1000000000) = true := rfl
  repeat' (first | exact True.intro | (refine PW.seqK ?_; intro K hK) | refine stp ?_ | refine seqK_n ‹_› ?_ | refine seqK_r ‹_› ?_ | refine seqK_e ‹_› ?_ | exact schedW_stop_i | refine schK_n ‹_› ?_ | (refine PW.cond rfl ?_ ?_ <;> intro hcond <;> (try contradiction) <;> try simp only [DD] at hcond) | (refine gd_i ?_; intro hg; try simp only [hg]) | (refine ari ?_; first | omega | (simp only [DD, LL] <;> omega) | (go_unwrap; omega)) | ((first | refine stq ?_ | show (_ : Post) _ _ _ | (refine schedW_alt_k ?_ ?_; intro K hK)); focus (simp only [d1, d2, SA, Nat.reduceAdd, reduceIte, Nat.reduceEqDiff, Nat.reduceBEq, reduceCtorEq]; (try go_unwrap; try simp only [d1, d2, RR, reduceCtorEq]))) | refine And.intro ?_ ?_ | exact Or.inr ⟨rfl, Nat.le_refl _⟩ | exact (fun h => Bool.noConfusion h))
theorem v47 (c : Nat) (h : c ≤ 4294967295) : VCalls Tryd.prog G 47 [.int .i64 c, .int .i64 1000000, .int .i64 1000000, .int .i64 1] (.tup [.int .i64 c, .int .i64 0]) := by
  refine VCalls.of_PW Tryd.func47 k47 mix (by simp [c47]) ?_
  simp only [c47, L47, CC, argE]
  have h45 := v45 (G := G) c h
  have h69 := v69 (G := G) c h
  have f1 : decide ((1000000 : Int) = 0) = false := rfl
  have f2 : decide ((1000000 : Int) < 0) = false := rfl
  have f3 : decide ((1 : Int) < 0) = false := rfl
  have f4 : decide ((4 : Int) < 1) = false := rfl
  have w1 : IntKind.u64.wrap 1000000 = 1000000 := rfl
  repeat' (first | exact True.intro | (refine PW.seqK ?_; intro K hK) | refine stp ?_ | refine seqK_n ‹_› ?_ | refine seqK_r ‹_› ?_ | refine seqK_e ‹_› ?_ | exact schedW_stop_i | refine schK_n ‹_› ?_ | (refine PW.cond rfl ?_ ?_ <;> intro hcond <;> (try contradiction) <;> try simp only [DD] at hcond) | (refine gd_i ?_; intro hg; try simp only [hg]) | refine goCall_W e45 (h45) ?_ ?_ ?_ ?_ | refine goCall_W e69 (h69) ?_ ?_ ?_ ?_ | (refine ari ?_; first | omega | (simp only [DD, LL] <;> omega) | (go_unwrap; omega)) | ((first | refine stq ?_ | show (_ : Post) _ _ _ | (refine schedW_alt_k ?_ ?_; intro K hK)); focus (simp only [f1, f2, f3, f4, w1, SA, Nat.reduceAdd, reduceIte, Nat.reduceEqDiff, Nat.reduceBEq, reduceCtorEq]; (try go_unwrap; try simp only [f1, f2, f3, f4, w1, RR, reduceCtorEq]))) | refine And.intro ?_ ?_ | exact Or.inr ⟨rfl, Nat.le_refl _⟩ | exact (fun h => Bool.noConfusion h))
theorem v32 (c : Nat) (h : c ≤ 4294967295) : VCalls Tryd.prog G 32 [.int .i64 c, .int .i64 1000000, .int .i64 1] (.tup [.int .i64 c, .int .i64 0]) := by
  refine VCalls.of_PW Tryd.func32 k32 mix (by simp [c32]) ?_
  simp only [c32, L32, CC, argE]
  have h45 := v45 (G := G) c h
  have h46 := v46 (G := G)
  have h47 := v47 (G := G) c h
  repeat' (first | exact True.intro | (refine PW.seqK ?_; intro K hK) | refine stp ?_ | refine seqK_n ‹_› ?_ | refine seqK_r ‹_› ?_ | refine seqK_e ‹_› ?_ | exact schedW_stop_i | refine schK_n ‹_› ?_ | (refine PW.cond rfl ?_ ?_ <;> intro hcond <;> (try contradiction) <;> try simp only [DD] at hcond) | (refine gd_i ?_; intro hg; try simp only [hg]) | refine goCall_W e45 (h45) ?_ ?_ ?_ ?_ | refine goCallG_W e46 (h46) ?_ ?_ ?_ ?_ ?_ | refine goCall_W e47 (h47) ?_ ?_ ?_ ?_ | (refine ari ?_; first | omega | (simp only [DD, LL] <;> omega) | (go_unwrap; omega)) | ((first | refine stq ?_ | show (_ : Post) _ _ _ | (refine schedW_alt_k ?_ ?_; intro K hK)); focus (simp only [SA, Nat.reduceAdd, reduceIte, Nat.reduceEqDiff, Nat.reduceBEq, reduceCtorEq]; (try go_unwrap; try simp only [RR, reduceCtorEq]))) | refine And.intro ?_ ?_ | exact Or.inr ⟨rfl, Nat.le_refl _⟩ | exact (fun h => Bool.noConfusion h))
theorem v48 (c : Nat) (h : c ≤ 4294967295) : VCalls Tryd.prog G 48 [.int .i64 c] (.bool true) := by
  refine VCalls.of_PW Tryd.func48 k48 mix (by simp [c48]) ?_
  simp only [c48, L48, CC, argE]
  have d1 : decide (-1125899906842624 ≤ (c : Int)) = true := by simp only [decide_eq_true_eq]; omega
  have d2 : decide ((c : Int) ≤ 1125899906842624) = true := by simp only [decide_eq_true_eq]; omega
  repeat' (first | exact True.intro | (refine PW.seqK ?_; intro K hK) | refine stp ?_ | refine seqK_n ‹_› ?_ | refine seqK_r ‹_› ?_ | refine seqK_e ‹_› ?_ | exact schedW_stop_i | refine schK_n ‹_› ?_ | (refine PW.cond rfl ?_ ?_ <;> intro hcond <;> (try contradiction) <;> try simp only [DD] at hcond) | (refine gd_i ?_; intro hg; try simp only [hg]) | (refine ari ?_; first | omega | (simp only [DD, LL] <;> omega) | (go_unwrap; omega)) | ((first | refine stq ?_ | show (_ : Post) _ _ _ | (refine schedW_alt_k ?_ ?_; intro K hK)); focus (simp only [d1, d2, SA, Nat.reduceAdd, reduceIte, Nat.reduceEqDiff, Nat.reduceBEq, reduceCtorEq]; (try go_unwrap; try simp only [d1, d2, RR, reduceCtorEq]))) | refine And.intro ?_ ?_ | exact Or.inr ⟨rfl, Nat.le_refl _⟩ | exact (fun h => Bool.noConfusion h))
theorem v33 (a b c : Nat) (ha : a ≤ 4294967295) (hb : b ≤ 4294967295) (hc : c ≤ 4294967295) : VCalls Tryd.prog G 33 [.int .i64 a, .int .i64 b, .int .i64 c] (.tup [.int .i64 c, .int .i64 0]) := by
  refine VCalls.of_PW Tryd.func33 k33 mix (by simp [c33]) ?_
  simp only [c33, L33, CC, argE]
  have h1 := v48 (G := G) a ha
  have h2 := v48 (G := G) b hb
  have h3 := v48 (G := G) c hc
  repeat' (first | exact True.intro | (refine PW.seqK ?_; intro K hK) | refine stp ?_ | refine seqK_n ‹_› ?_ | refine seqK_r ‹_› ?_ | refine seqK_e ‹_› ?_ | exact schedW_stop_i | refine schK_n ‹_› ?_ | (refine PW.cond rfl ?_ ?_ <;> intro hcond <;> (try contradiction) <;> try simp only [DD] at hcond) | (apply goCall_V e48; (case hV => (simp only [SA, Nat.reduceAdd, reduceIte, Nat.reduceEqDiff, Nat.reduceBEq, reduceCtorEq]; (try go_unwrap; try simp only [RR, reduceCtorEq]); exact h1)); (try (case hs => rfl)); (try (case hf => first | exact Or.inl rfl | exact Or.inr ⟨rfl, rfl⟩ | (refine Or.inl ?_; simp only [SA, Nat.reduceAdd, reduceIte, Nat.reduceEqDiff, Nat.reduceBEq, reduceCtorEq]; done) | (refine Or.inr ⟨rfl, ?_⟩; simp only [SA, Nat.reduceAdd, reduceIte, Nat.reduceEqDiff, Nat.reduceBEq, reduceCtorEq]; done))); all_goals (first | (simp only [SA, Nat.reduceAdd, reduceIte, Nat.reduceEqDiff, Nat.reduceBEq, reduceCtorEq]; (try go_unwrap; try simp only [RR, reduceCtorEq])) | (show Env; skip) | (show Mem; skip))) | (apply goCall_V e48; (case hV => (simp only [SA, Nat.reduceAdd, reduceIte, Nat.reduceEqDiff, Nat.reduceBEq, reduceCtorEq]; (try go_unwrap; try simp only [RR, reduceCtorEq]); exact h2)); (try (case hs => rfl)); (try (case hf => first | exact Or.inl rfl | exact Or.inr ⟨rfl, rfl⟩ | (refine Or.inl ?_; simp only [SA, Nat.reduceAdd, reduceIte, Nat.reduceEqDiff, Nat.reduceBEq, reduceCtorEq]; done) | (refine Or.inr ⟨rfl, ?_⟩; simp only [SA, Nat.reduceAdd, reduceIte, Nat.reduceEqDiff, Nat.reduceBEq, reduceCtorEq]; done))); all_goals (first | (simp only [SA, Nat.reduceAdd, reduceIte, Nat.reduceEqDiff, Nat.reduceBEq, reduceCtorEq]; (try go_unwrap; try simp only [RR, reduceCtorEq])) | (show Env; skip) | (show Mem; skip))) | (apply goCall_V e48; (case hV => (simp only [SA, Nat.reduceAdd, reduceIte, Nat.reduceEqDiff, Nat.reduceBEq, reduceCtorEq]; (try go_unwrap; try simp only [RR, reduceCtorEq]); exact h3)); (try (case hs => rfl)); (try (case hf => first | exact Or.inl rfl | exact Or.inr ⟨rfl, rfl⟩ | (refine Or.inl ?_; simp only [SA, Nat.reduceAdd, reduceIte, Nat.reduceEqDiff, Nat.reduceBEq, reduceCtorEq]; done) | (refine Or.inr ⟨rfl, ?_⟩; simp only [SA, Nat.reduceAdd, reduceIte, Nat.reduceEqDiff, Nat.reduceBEq, reduceCtorEq]; done))); all_goals (first | (simp only [SA, Nat.reduceAdd, reduceIte, Nat.reduceEqDiff, Nat.reduceBEq, reduceCtorEq]; (try go_unwrap; try simp only [RR, reduceCtorEq])) | (show Env; skip) | (show Mem; skip))) | (refine gd_i ?_; intro hg; try simp only [hg]) | (refine ari ?_; first | omega | (simp only [DD, LL] <;> omega) | (go_unwrap; omega)) | ((first | refine stq ?_ | show (_ : Post) _ _ _ | (refine schedW_alt_k ?_ ?_; intro K hK)); focus (simp only [SA, Nat.reduceAdd, reduceIte, Nat.reduceEqDiff, Nat.reduceBEq, reduceCtorEq]; (try go_unwrap; try simp only [RR, reduceCtorEq]))) | refine And.intro ?_ ?_ | exact Or.inr ⟨rfl, Nat.le_refl _⟩ | exact (fun h => Bool.noConfusion h))
theorem v17 (a b : Nat) (h : a + b ≤ 4294967295) : VCalls Tryd.prog G 17 [.int .i64 a, .int .i64 b] (.tup [.int .i64 ((a + b : Nat) : Int), .int .i64 0]) := by
  refine VCalls.of_PW Tryd.func17 k17 mix (by simp [c17]) ?_
  simp only [c17, L17, CC, argE]
  have h33 := v33 (G := G) a b (a + b) (by omega) (by omega) h
  rw [Int.natCast_add] at h33
  repeat' (first | exact True.intro | (refine PW.seqK ?_; intro K hK) | refine stp ?_ | refine seqK_n ‹_› ?_ | refine seqK_r ‹_› ?_ | refine seqK_e ‹_› ?_ | exact schedW_stop_i | refine schK_n ‹_› ?_ | (refine PW.cond rfl ?_ ?_ <;> intro hcond <;> (try contradiction) <;> try simp only [DD] at hcond) | (refine gd_i ?_; intro hg; try simp only [hg]) | refine goCall_W e33 (h33) ?_ ?_ ?_ ?_ | (refine ari ?_; first | omega | (simp only [DD, LL] <;> omega) | (go_unwrap; omega)) | ((first | refine stq ?_ | show (_ : Post) _ _ _ | (refine schedW_alt_k ?_ ?_; intro K hK)); focus (simp only [SA, Nat.reduceAdd, reduceIte, Nat.reduceEqDiff, Nat.reduceBEq, reduceCtorEq]; (try go_unwrap; try simp only [RR, reduceCtorEq]))) | refine And.intro ?_ ?_ | exact Or.inr ⟨rfl, Nat.le_refl _⟩ | exact (fun h => Bool.noConfusion h))
  all_goals rfl
/-- Days that a walk may reckon with. -/
def DayOk (d : Int) : Prop := -1000000 ≤ d ∧ d ≤ 1000000
def lenM (f t : Int) : Int := if t ≤ f then 0 else t - f
theorem v30 (f t : Int) : VCalls Tryd.prog G 30 [.agg [.int .i64 f, .int .i64 t]] (.bool (decide (t ≤ f))) := by
  refine VCalls.of_PW Tryd.func30 k30 mix (by simp [c30]) ?_
  simp only [c30, L30, CC, argE]
  have hs0 : ∀ a b : PV, sub none [a, b] 0 = a := fun _ _ => rfl
  have hs1 : ∀ a b : PV, sub none [a, b] 1 = b := fun _ _ => rfl
  repeat' (first | exact True.intro | (exact Or.inr ⟨rfl, by decide⟩) | (refine PW.seqK ?_; intro K hK) | refine stp ?_ | refine seqK_n ‹_› ?_ | refine seqK_r ‹_› ?_ | refine seqK_e ‹_› ?_ | exact schedW_stop_i | refine schK_n ‹_› ?_ | (refine PW.cond rfl ?_ ?_ <;> intro hcond <;> (try contradiction) <;> try simp only [DD] at hcond) | (refine gd_i ?_; intro hg; try simp only [hg]) | (refine ari ?_; first | omega | (simp only [DD, LL] <;> omega) | (go_unwrap; omega)) | ((first | refine stq ?_ | show (_ : Post) _ _ _ | (refine schedW_alt_k ?_ ?_; intro K hK)); focus (simp only [cut, hs0, hs1, SA, Nat.reduceAdd, reduceIte, Nat.reduceEqDiff, Nat.reduceBEq, reduceCtorEq]; (try go_unwrap; try simp only [cut, hs0, hs1, RR, reduceCtorEq]))) | refine And.intro ?_ ?_ | exact Or.inr ⟨rfl, Nat.le_refl _⟩ | exact (fun h => Bool.noConfusion h))
theorem v12 (f t : Int) (hf : DayOk f) (ht : DayOk t) : VCalls Tryd.prog G 12 [.agg [.int .i64 f, .int .i64 t]] (.int .i64 (lenM f t)) := by
  refine VCalls.of_PW Tryd.func12 k12 mix (by simp [c12]) ?_
  simp only [c12, L12, CC, argE]
  obtain ⟨f1, f2⟩ := hf
  obtain ⟨t1, t2⟩ := ht
  have h30 := v30 (G := G) f t
  have hs0 : ∀ a b : PV, sub none [a, b] 0 = a := fun _ _ => rfl
  have hs1 : ∀ a b : PV, sub none [a, b] 1 = b := fun _ _ => rfl
  unfold lenM
  by_cases h : t ≤ f
  · rw [decide_eq_true h] at h30
    rw [if_pos h]
    repeat' (first | exact True.intro | (exact Or.inr ⟨rfl, by decide⟩) | (refine PW.seqK ?_; intro K hK) | refine stp ?_ | refine seqK_n ‹_› ?_ | refine seqK_r ‹_› ?_ | refine seqK_e ‹_› ?_ | exact schedW_stop_i | refine schK_n ‹_› ?_ | (refine PW.cond rfl ?_ ?_ <;> intro hcond <;> (try contradiction) <;> try simp only [DD] at hcond) | (refine gd_i ?_; intro hg; try simp only [hg]) | refine goCall_W e30 (h30) ?_ ?_ ?_ ?_ | (refine ari ?_; first | omega | (simp only [DD, LL] <;> omega) | (go_unwrap; omega)) | ((first | refine stq ?_ | show (_ : Post) _ _ _ | (refine schedW_alt_k ?_ ?_; intro K hK)); focus (simp only [cut, hs0, hs1, SA, Nat.reduceAdd, reduceIte, Nat.reduceEqDiff, Nat.reduceBEq, reduceCtorEq]; (try go_unwrap; try simp only [cut, hs0, hs1, RR, reduceCtorEq]))) | refine And.intro ?_ ?_ | exact Or.inr ⟨rfl, Nat.le_refl _⟩ | exact (fun h => Bool.noConfusion h))
  · rw [decide_eq_false h] at h30
    rw [if_neg h]
    have w1 : IntKind.u64.wrap (IntKind.u64.wrap t - IntKind.u64.wrap f) = t - f := by simp only [IntKind.wrap_u64]; omega
    have m1 : min (t - f) 4611686018427387904 = t - f := by omega
    repeat' (first | exact True.intro | (exact Or.inr ⟨rfl, by decide⟩) | (refine PW.seqK ?_; intro K hK) | refine stp ?_ | refine seqK_n ‹_› ?_ | refine seqK_r ‹_› ?_ | refine seqK_e ‹_› ?_ | exact schedW_stop_i | refine schK_n ‹_› ?_ | (refine PW.cond rfl ?_ ?_ <;> intro hcond <;> (try contradiction) <;> try simp only [DD] at hcond) | (refine gd_i ?_; intro hg; try simp only [hg]) | refine goCall_W e30 (h30) ?_ ?_ ?_ ?_ | (refine ari ?_; first | omega | (simp only [DD, LL] <;> omega) | (go_unwrap; omega)) | ((first | refine stq ?_ | show (_ : Post) _ _ _ | (refine schedW_alt_k ?_ ?_; intro K hK)); focus (simp only [cut, hs0, hs1, w1, m1, SA, Nat.reduceAdd, reduceIte, Nat.reduceEqDiff, Nat.reduceBEq, reduceCtorEq]; (try go_unwrap; try simp only [cut, hs0, hs1, w1, m1, RR, reduceCtorEq]))) | refine And.intro ?_ ?_ | exact Or.inr ⟨rfl, Nat.le_refl _⟩ | exact (fun h => Bool.noConfusion h))
end Go.Proofs.YtedjaohonijemaaDoor

