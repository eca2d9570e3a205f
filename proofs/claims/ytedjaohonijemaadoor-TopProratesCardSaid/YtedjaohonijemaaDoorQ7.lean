import Derived.Test.YtedjaohonijemaaDoorProg
import Derived.KernelRfl
import Derived.Test.YtedjaohonijemaaDoorQ6
import Derived.Test.YtedjaohonijemaaDoorP4
namespace Go.Proofs.YtedjaohonijemaaDoor
open Go PG Go.Proofs
set_option linter.unusedSimpArgs false
set_option linter.unusedVariables false
set_option maxHeartbeats 4000000
set_option maxRecDepth 100000
variable {G : Globs}
/-! A period's share, and a piece's -/
structure Per where
  y : Int
  i : Nat
  o : Nat
  f : Int
  L : Nat
  pay : Int
  deriving Inhabited
def perP (p : Per) : PV := .agg [.int .i64 p.y, .int .i64 p.i, .int .i64 p.o, .int .i64 p.f, .int .i64 (p.f + p.L), .int .i64 p.pay]
structure PerOk (p : Per) : Prop where
  i1 : 1 ≤ p.i
  io : p.i ≤ p.o
  o2 : p.o ≤ 1000000
  f : -100000 ≤ p.f ∧ p.f ≤ 100000
  l0 : 0 < p.L
  l2 : p.L ≤ 366
def cM (c : Nat) (p : Per) : Nat := upM c p.i p.o - upM c (p.i - 1) p.o
theorem cM_le {c : Nat} {p : Per} (h : PerOk p) : cM c p ≤ c := by
  have := upM_le c (show 0 < p.o by have := h.i1; have := h.io; omega) h.io
  unfold cM; omega
theorem v18n (c a b o : Nat) (h : c ≤ 4294967295) (hab : a ≤ b) (hbo : b ≤ o) (ho : 0 < o) (ho2 : o ≤ 1000000) : VCalls Tryd.prog G 18 [.int .i64 c, .int .i64 a, .int .i64 b, .int .i64 o] (.tup [.int .i64 ((upM c b o - upM c a o : Nat) : Int), .int .i64 0]) := by
  have h18 := v18 (G := G) c a b o h hab hbo ho ho2
  have := upM_mono c ho hab
  rwa [show ((upM c b o : Nat) : Int) - (upM c a o : Nat) = ((upM c b o - upM c a o : Nat) : Int) by omega] at h18
theorem cut63 (a b c d e f : PV) : cut (some 6) (some 2) (.agg [a, b, c, d, e, f]) 3 = .agg [d, e] := rfl
theorem v6 {p : Per} (hp : PerOk p) (c : Nat) (hc : c ≤ 4294967295) : VCalls Tryd.prog G 6 [perP p, .int .i64 c] (.tup [.int .i64 (cM c p), .int .i64 0]) := by
  refine VCalls.of_PW Tryd.func6 k6 mix (by simp [c6]) ?_
  simp only [c6, L6, CC, argE, perP]
  obtain ⟨h1, h2, h3, ⟨h4, h5⟩, h6, h7⟩ := hp
  have h18 := v18n (G := G) c (p.i - 1) p.i p.o hc (by omega) h2 (by omega) h3
  have e1 : ((p.i - 1 : Nat) : Int) = (p.i : Int) - 1 := by omega
  rw [e1] at h18
  unfold cM
  generalize upM c p.i p.o - upM c (p.i - 1) p.o = r at *
  have s1 : ∀ a b c d e f : PV, sub none [a, b, c, d, e, f] 1 = b := fun _ _ _ _ _ _ => rfl
  have s2 : ∀ a b c d e f : PV, sub none [a, b, c, d, e, f] 2 = c := fun _ _ _ _ _ _ => rfl
  repeat' (first | exact True.intro | (exact Or.inr ⟨rfl, by decide⟩) | (refine PW.seqK ?_; intro K hK) | refine stp ?_ | refine seqK_n ‹_› ?_ | refine seqK_r ‹_› ?_ | refine seqK_e ‹_› ?_ | exact schedW_stop_i | refine schK_n ‹_› ?_ | (refine PW.cond rfl ?_ ?_ <;> intro hcond <;> (try contradiction) <;> try simp only [DD] at hcond) | (refine gd_i ?_; intro hg; try simp only [hg]) | refine goCall_W e18 (h18) ?_ ?_ ?_ ?_ | (refine ari ?_; first | omega | (simp only [DD, LL] <;> omega) | (go_unwrap; omega)) | ((first | refine stq ?_ | show (_ : Post) _ _ _ | (refine schedW_alt_k ?_ ?_; intro K hK)); focus (simp only [s1, s2, SA, Nat.reduceAdd, reduceIte, Nat.reduceEqDiff, Nat.reduceBEq, reduceCtorEq]; (try go_unwrap; try simp only [s1, s2, RR, reduceCtorEq]))) | refine And.intro ?_ ?_ | exact Or.inr ⟨rfl, Nat.le_refl _⟩ | exact (fun h => Bool.noConfusion h))
/-- A piece of a period: from a day on, up to one, both counted from the period's first. -/
def pieP (f : Int) (a b c : Nat) : PV := .agg [.int .i64 (f + a), .int .i64 (f + b), .int .i64 c, .int .i64 1000000]
theorem v16 {p : Per} (hp : PerOk p) (a b c : Nat) (hc : c ≤ 4294967295) (hab : a ≤ b) (hb : b ≤ p.L) : VCalls Tryd.prog G 16 [perP p, pieP p.f a b c] (.tup [.int .i64 ((upM (cM c p) b p.L - upM (cM c p) a p.L : Nat) : Int), .int .i64 0]) := by
  refine VCalls.of_PW Tryd.func16 k16 mix (by simp [c16]) ?_
  have h6 := v6 (G := G) hp c hc
  have hcm := cM_le (c := c) hp
  simp only [c16, L16, CC, argE, perP, pieP] at h6 ⊢
  obtain ⟨h1, h2, h3, ⟨h4, h5⟩, h7, h8⟩ := hp
  have h32 := v32 (G := G) c hc
  have h12 := v12 (G := G) p.f (p.f + p.L) ⟨by omega, by omega⟩ ⟨by omega, by omega⟩
  have el : lenM p.f (p.f + p.L) = p.L := by unfold lenM; rw [if_neg (by omega)]; omega
  rw [el] at h12
  generalize cM c p = k at *
  have h18 := v18n (G := G) k a b p.L (by omega) hab hb h7 (by omega)
  generalize upM k b p.L - upM k a p.L = r at *
  have s0 : ∀ a b : PV, sub none [a, b] 0 = a := fun _ _ => rfl
  have s1 : ∀ a b : PV, sub none [a, b] 1 = b := fun _ _ => rfl
  have t0 : ∀ a b c d : PV, sub none [a, b, c, d] 0 = a := fun _ _ _ _ => rfl
  have t1 : ∀ a b c d : PV, sub none [a, b, c, d] 1 = b := fun _ _ _ _ => rfl
  have t2 : ∀ a b c d : PV, sub none [a, b, c, d] 2 = c := fun _ _ _ _ => rfl
  have t3 : ∀ a b c d : PV, sub none [a, b, c, d] 3 = d := fun _ _ _ _ => rfl
  have u3 : ∀ a b c d e f : PV, sub none [a, b, c, d, e, f] 3 = d := fun _ _ _ _ _ _ => rfl
  have w1 : p.f + (a : Int) - p.f = a := by omega
  have w2 : p.f + (b : Int) - p.f = b := by omega
  have w3 : IntKind.i64.wrap (p.f + (a : Int) - p.f) = a := (IntWalk.i64_in _ (by omega)).trans (by omega)
  have w4 : IntKind.i64.wrap (p.f + (b : Int) - p.f) = b := (IntWalk.i64_in _ (by omega)).trans (by omega)
  repeat' (first | exact True.intro | (exact Or.inr ⟨rfl, by decide⟩) | (refine PW.seqK ?_; intro K hK) | refine stp ?_ | refine seqK_n ‹_› ?_ | refine seqK_r ‹_› ?_ | refine seqK_e ‹_› ?_ | exact schedW_stop_i | refine schK_n ‹_› ?_ | (refine PW.cond rfl ?_ ?_ <;> intro hcond <;> (try contradiction) <;> try simp only [DD] at hcond) | (refine gd_i ?_; intro hg; try simp only [hg]) | refine goCall_W e32 (h32) ?_ ?_ ?_ ?_ | refine goCall_W e6 (h6) ?_ ?_ ?_ ?_ | refine goCall_W e12 (h12) ?_ ?_ ?_ ?_ | refine goCall_W e18 (h18) ?_ ?_ ?_ ?_ | (refine ari ?_; first | omega | (simp only [DD, LL] <;> omega) | (go_unwrap; omega)) | ((first | refine stq ?_ | show (_ : Post) _ _ _ | (refine schedW_alt_k ?_ ?_; intro K hK)); focus (simp only [s0, s1, t0, t1, t2, t3, u3, cut63, w1, w2, w3, w4, SA, Nat.reduceAdd, reduceIte, Nat.reduceEqDiff, Nat.reduceBEq, reduceCtorEq]; (try go_unwrap; try simp only [s0, s1, t0, t1, t2, t3, u3, cut63, w1, w2, w3, w4, RR, reduceCtorEq]))) | refine And.intro ?_ ?_ | exact Or.inr ⟨rfl, Nat.le_refl _⟩ | exact (fun h => Bool.noConfusion h))
theorem v13 (f t F T : Int) (h1 : F ≤ f) (h2 : f < t) (h3 : t ≤ T) : VCalls Tryd.prog G 13 [.agg [.int .i64 f, .int .i64 t], .agg [.int .i64 F, .int .i64 T]] (.agg [.int .i64 f, .int .i64 t]) := by
  refine VCalls.of_PW Tryd.func13 k13 mix (by simp [c13]) ?_
  simp only [c13, L13, CC, argE]
  have h30 := v30 (G := G) f t
  rw [decide_eq_false (by omega)] at h30
  have m1 : max f F = f := by omega
  have m2 : min t T = t := by omega
  have s0 : ∀ a b : PV, sub none [a, b] 0 = a := fun _ _ => rfl
  have s1 : ∀ a b : PV, sub none [a, b] 1 = b := fun _ _ => rfl
  repeat' (first | exact True.intro | (exact Or.inr ⟨rfl, by decide⟩) | (refine PW.seqK ?_; intro K hK) | refine stp ?_ | refine seqK_n ‹_› ?_ | refine seqK_r ‹_› ?_ | refine seqK_e ‹_› ?_ | exact schedW_stop_i | refine schK_n ‹_› ?_ | (refine PW.cond rfl ?_ ?_ <;> intro hcond <;> (try contradiction) <;> try simp only [DD] at hcond) | (refine gd_i ?_; intro hg; try simp only [hg]) | refine goCall_W e30 (h30) ?_ ?_ ?_ ?_ | (refine ari ?_; first | omega | (simp only [DD, LL] <;> omega) | (go_unwrap; omega)) | ((first | refine stq ?_ | show (_ : Post) _ _ _ | (refine schedW_alt_k ?_ ?_; intro K hK)); focus (simp only [s0, s1, m1, m2, cut, SA, Nat.reduceAdd, reduceIte, Nat.reduceEqDiff, Nat.reduceBEq, reduceCtorEq]; (try go_unwrap; try simp only [s0, s1, m1, m2, cut, RR, reduceCtorEq]))) | refine And.intro ?_ ?_ | exact Or.inr ⟨rfl, Nat.le_refl _⟩ | exact (fun h => Bool.noConfusion h))
theorem v14 : VCalls Tryd.prog G 14 [.agg [.list (some 2) []]] (.int .i64 0) := by
  refine VCalls.of_PW Tryd.func14 k14 mix (by simp [c14]) ?_
  simp only [c14, L14, CC, argE]
  have s0 : ∀ a : PV, sub none [a] 0 = a := fun _ => rfl
  repeat' (first | exact True.intro | (exact Or.inr ⟨rfl, by decide⟩) | (refine PW.seqK ?_; intro K hK) | refine stp ?_ | refine seqK_n ‹_› ?_ | refine seqK_r ‹_› ?_ | refine seqK_e ‹_› ?_ | exact schedW_stop_i | refine schK_n ‹_› ?_ | (refine PW.cond rfl ?_ ?_ <;> intro hcond <;> (try contradiction) <;> try simp only [DD] at hcond) | (refine gd_i ?_; intro hg; try simp only [hg]) | (refine ari ?_; first | omega | (simp only [DD, LL] <;> omega) | (go_unwrap; omega)) | ((first | refine stq ?_ | show (_ : Post) _ _ _ | (refine schedW_alt_k ?_ ?_; intro K hK)); focus (simp only [s0, SA, Nat.reduceAdd, reduceIte, Nat.reduceEqDiff, Nat.reduceBEq, reduceCtorEq]; (try go_unwrap; try simp only [s0, RR, reduceCtorEq]))) | refine And.intro ?_ ?_ | exact Or.inr ⟨rfl, Nat.le_refl _⟩ | exact (fun h => Bool.noConfusion h))
  refine PW.loop (σ := Unit) [3, 8, 9] (fun _ => [.int .i64 0, .int .i64 0, .int .i64 0]) (fun _ => [some (.var (some 1) (.agg [.list (some 2) []]))]) (fun _ => True) (fun _ => 0) () ?_ rfl trivial ?_
  · simp only [SA, Nat.reduceAdd, reduceIte, Nat.reduceEqDiff, Nat.reduceBEq, reduceCtorEq]; rfl
  rintro - -
  simp only [List.zip_cons_cons, List.zip_nil_left]
  have hd : decide ((0 : Int) < 0) = false := rfl
  repeat' (first | exact True.intro | (refine PW.seqK ?_; intro K hK) | refine stp ?_ | refine seqK_n ‹_› ?_ | refine seqK_r ‹_› ?_ | refine seqK_e ‹_› ?_ | exact schedW_stop_i | refine schK_n ‹_› ?_ | (refine PW.cond rfl ?_ ?_ <;> intro hcond <;> (try contradiction) <;> try simp only [DD] at hcond) | (refine gd_i ?_; intro hg; try simp only [hg]) | (refine ari ?_; first | omega | (simp only [DD, LL] <;> omega) | (go_unwrap; omega)) | ((first | refine stq ?_ | show (_ : Post) _ _ _ | (refine schedW_alt_k ?_ ?_; intro K hK)); focus (simp only [hd, SA, Nat.reduceAdd, reduceIte, Nat.reduceEqDiff, Nat.reduceBEq, reduceCtorEq]; (try go_unwrap; try simp only [hd, RR, reduceCtorEq]))) | refine And.intro ?_ ?_ | exact Or.inr ⟨rfl, Nat.le_refl _⟩ | exact (fun h => Bool.noConfusion h))
end Go.Proofs.YtedjaohonijemaaDoor

namespace Go.Proofs.YtedjaohonijemaaDoor
open PG Go.Proofs
def tab8 : List UInt8 := [0, 1, 2, 2, 3, 3, 3, 3, 4, 4, 4, 4, 4, 4, 4, 4, 5, 5, 5, 5, 5, 5, 5, 5, 5, 5, 5, 5, 5, 5, 5, 5, 6, 6, 6, 6, 6, 6, 6, 6, 6, 6, 6, 6, 6, 6, 6, 6, 6, 6, 6, 6, 6, 6, 6, 6, 6, 6, 6, 6, 6, 6, 6, 6, 7, 7, 7, 7, 7, 7, 7, 7, 7, 7, 7, 7, 7, 7, 7, 7, 7, 7, 7, 7, 7, 7, 7, 7, 7, 7, 7, 7, 7, 7, 7, 7, 7, 7, 7, 7, 7, 7, 7, 7, 7, 7, 7, 7, 7, 7, 7, 7, 7, 7, 7, 7, 7, 7, 7, 7, 7, 7, 7, 7, 7, 7, 7, 7, 8, 8, 8, 8, 8, 8, 8, 8, 8, 8, 8, 8, 8, 8, 8, 8, 8, 8, 8, 8, 8, 8, 8, 8, 8, 8, 8, 8, 8, 8, 8, 8, 8, 8, 8, 8, 8, 8, 8, 8, 8, 8, 8, 8, 8, 8, 8, 8, 8, 8, 8, 8, 8, 8, 8, 8, 8, 8, 8, 8, 8, 8, 8, 8, 8, 8, 8, 8, 8, 8, 8, 8, 8, 8, 8, 8, 8, 8, 8, 8, 8, 8, 8, 8, 8, 8, 8, 8, 8, 8, 8, 8, 8, 8, 8, 8, 8, 8, 8, 8, 8, 8, 8, 8, 8, 8, 8, 8, 8, 8, 8, 8, 8, 8, 8, 8, 8, 8, 8, 8, 8, 8, 8, 8, 8, 8, 8, 8]
-- wagebook/span.Of
def L10 : List Nat := [0, 2, 3, 4, 6, 11, 12, 13, 14]
def c10 : CF := ⟨23,
 .seq (.region false [⟨some 2, none, .eff (.alloc (some 1) (.agg [.nilSl])) []⟩] L10)
 (.seq (.region false [oM 7 0,
 ⟨some 8, none, .call (.pv (.fn 23 [] [])) [.tmp 7]⟩,
 oM 3 8] L10)
 (.seq (.region false [oM 9 3,
 ⟨some 10, none, .call (.pv (.fn 24 [] [])) [.tmp 9, .pv (.fn 25 [] [])]⟩] L10)
 (.seq (.region false [⟨some 4, none, .rd .mov [.pv .nilSl]⟩] L10)
 (.seq (.seq (.region false [oM 11 3,
 ⟨some 12, none, .rd .lenL [.tmp 11]⟩,
 ⟨some 13, none, .rd .mov [.pv (.int .i64 0)]⟩] L10)
 (.block 0
 (.loop
 (.seq (.region false [⟨some 14, none, .rd (.bin .lss) [.tmp 13, .tmp 12]⟩] L10)
 (.seq (.cond (.tmp 14)
 (.skip)
 (.exit 0))
 (.seq (.block 1
 (.seq (.region false [⟨some 15, none, .rd (.idxAddr (some 2)) [.tmp 11, .tmp 13]⟩,
 ⟨some 16, none, .rd (.load (some 2)) [.tmp 15]⟩,
 ⟨some 6, none, .eff (.alloc (some 2) (.agg [(.int .i64 0), (.int .i64 0)])) []⟩,
 ⟨none, none, .eff (.store (some 2)) [.tmp 6, .tmp 16]⟩] L10)
 (.region false [oM 17 4,
 ⟨some 18, none, .rd (.load (some 2)) [.tmp 6]⟩,
 ⟨some 19, none, .call (.pv (.fn 27 [] [])) [.tmp 17, .tmp 18]⟩,
 oM 4 19] L10)))
 (.region false [⟨some 20, none, .rd (.bin .add) [.tmp 13, .pv (.int .i64 1)]⟩,
 oM 13 20] L10)))))))
 (.seq (.region false [oM 21 4,
 ⟨some 22, none, .rd (.build [.nilSl] [(0, 1)]) [.tmp 21]⟩,
 ⟨none, none, .eff (.store (some 1)) [.tmp 2, .tmp 22]⟩] L10)
 (.ret)))))),
 [.cell 2 (some 1)]⟩

-- (wagebook/span.Set).Meet
def L11 : List Nat := [0, 1, 2, 3, 4]
def c11 : CF := ⟨8,
 .seq (.region false [⟨some 2, none, .eff (.box (some 1)) [.tmp 0]⟩,
 ⟨some 3, none, .eff (.box (some 1)) [.tmp 1]⟩,
 ⟨some 4, none, .eff (.alloc (some 1) (.agg [.nilSl])) []⟩] L11)
 (.seq (.region false [⟨some 5, none, .rd (.load (some 1)) [.tmp 2]⟩,
 ⟨some 6, none, .rd (.load (some 1)) [.tmp 3]⟩,
 ⟨some 7, none, .call (.pv (.fn 28 [] [])) [.tmp 5, .tmp 6, .pv (.fn 29 [] [])]⟩,
 ⟨none, none, .eff (.store (some 1)) [.tmp 4, .tmp 7]⟩] L11)
 (.ret)),
 [.cell 4 (some 1)]⟩

-- (wagebook/span.Set).Union
def L15 : List Nat := [0, 1, 2, 3, 4]
def c15 : CF := ⟨8,
 .seq (.region false [⟨some 2, none, .eff (.box (some 1)) [.tmp 0]⟩,
 ⟨some 3, none, .eff (.box (some 1)) [.tmp 1]⟩,
 ⟨some 4, none, .eff (.alloc (some 1) (.agg [.nilSl])) []⟩] L15)
 (.seq (.region false [⟨some 5, none, .rd (.load (some 1)) [.tmp 2]⟩,
 ⟨some 6, none, .rd (.load (some 1)) [.tmp 3]⟩,
 ⟨some 7, none, .call (.pv (.fn 28 [] [])) [.tmp 5, .tmp 6, .pv (.fn 31 [] [])]⟩,
 ⟨none, none, .eff (.store (some 1)) [.tmp 4, .tmp 7]⟩] L15)
 (.ret)),
 [.cell 4 (some 1)]⟩

-- slices.Clone[[]wagebook/api.Span,wagebook/api.Span]
def L23 : List Nat := [0, 2, 4]
def c23 : CF := ⟨8,
 .seq (.region false [⟨some 2, none, .rd .mov [.pv .nilSl]⟩] L23)
 (.seq (.seq (.region false [oM 3 0,
 ⟨some 4, none, .rd (.nilEq false 0) [.tmp 3, .pv .nilSl]⟩] L23)
 (.cond (.tmp 4)
 (.seq (.region false [⟨some 2, none, .rd .mov [.pv .nilSl]⟩] L23)
 (.ret))
 (.skip)))
 (.seq (.region false [⟨some 5, none, .eff (.lit (some 2) true) []⟩,
 oM 6 0,
 ⟨some 7, none, .eff (.append (some 2) 16) [.tmp 5, .tmp 6]⟩,
 oM 2 7] L23)
 (.ret))),
 [.tmp 2]⟩

-- slices.SortFunc[[]wagebook/api.Span,wagebook/api.Span]
def L24 : List Nat := [0, 1, 4]
def c24 : CF := ⟨14,
 .seq (.region false [oM 5 0,
 ⟨some 6, none, .rd .lenL [.tmp 5]⟩,
 oM 4 6] L24)
 (.region false [oM 7 0,
 oM 8 4,
 oM 9 4,
 ⟨some 10, none, .rd (.conv .u64) [.tmp 9]⟩,
 ⟨some 11, none, .call (.pv (.fn 40 [] [])) [.tmp 10]⟩,
 oM 12 1,
 ⟨some 13, none, .call (.pv (.fn 39 [] [])) [.tmp 7, .pv (.int .i64 0), .tmp 8, .tmp 11, .tmp 12]⟩] L24),
 []⟩

-- wagebook/span.Of$1
def L26 : List Nat := [0, 1, 4, 5, 6, 11, 12, 13, 16, 19]
def c26 : CF := ⟨20,
 .seq (.region false [⟨some 4, none, .rd .mov [.pv (.int .i64 0)]⟩] L26)
 (.seq (.region false [oM 7 0,
 ⟨some 8, none, .call (.pv (.fn 41 [] [])) [.tmp 7]⟩,
 oM 5 8] L26)
 (.seq (.region false [oM 9 1,
 ⟨some 10, none, .call (.pv (.fn 41 [] [])) [.tmp 9]⟩,
 oM 6 10] L26)
 (.seq (.seq (.region false [oM 11 5] L26)
 (.cond (.tmp 11)
 (.seq (.seq (.region false [oM 12 6] L26)
 (.cond (.tmp 12)
 (.seq (.region false [⟨some 4, none, .rd .mov [.pv (.int .i64 0)]⟩] L26)
 (.ret))
 (.skip)))
 (.seq (.region false [⟨some 4, none, .rd .mov [.pv (.int .i64 (-1))]⟩] L26)
 (.ret)))
 (.skip)))
 (.seq (.seq (.region false [oM 13 6] L26)
 (.cond (.tmp 13)
 (.seq (.region false [⟨some 4, none, .rd .mov [.pv (.int .i64 1)]⟩] L26)
 (.ret))
 (.skip)))
 (.seq (.seq (.region false [oM 14 0,
 oM 15 1,
 ⟨some 16, none, .rd (.bin .lss) [.tmp 14, .tmp 15]⟩] L26)
 (.cond (.tmp 16)
 (.seq (.region false [⟨some 4, none, .rd .mov [.pv (.int .i64 (-1))]⟩] L26)
 (.ret))
 (.skip)))
 (.seq (.seq (.region false [oM 17 0,
 oM 18 1,
 ⟨some 19, none, .rd (.bin .gtr) [.tmp 17, .tmp 18]⟩] L26)
 (.cond (.tmp 19)
 (.seq (.region false [⟨some 4, none, .rd .mov [.pv (.int .i64 1)]⟩] L26)
 (.ret))
 (.skip)))
 (.seq (.region false [⟨some 4, none, .rd .mov [.pv (.int .i64 0)]⟩] L26)
 (.ret)))))))),
 [.tmp 4]⟩

-- wagebook/span.join
def L27 : List Nat := [0, 1, 3, 4, 5, 9, 13]
def c27 : CF := ⟨43,
 .seq (.region false [⟨some 3, none, .eff (.box (some 2)) [.tmp 1]⟩,
 ⟨some 4, none, .rd .mov [.pv .nilSl]⟩] L27)
 (.seq (.region false [oM 6 0,
 ⟨some 7, none, .rd .lenL [.tmp 6]⟩,
 ⟨some 8, none, .rd (.bin .sub) [.tmp 7, .pv (.int .i64 1)]⟩,
 oM 5 8] L27)
 (.seq (.block 0
 (.seq (.region false [⟨some 10, none, .rd (.load (some 2)) [.tmp 3]⟩,
 ⟨some 11, none, .call (.pv (.fn 30 [] [])) [.tmp 10]⟩,
 oM 9 11] L27)
 (.cond (.tmp 9)
 (.seq (.region false [oM 12 0,
 oM 4 12] L27)
 (.ret))
 (.seq (.region true [oM 14 5,
 ⟨some 15, none, .rd (.bin .geq) [.tmp 14, .pv (.int .i64 0)]⟩,
 oM 16 15,
 qF 0 16 true 17 3,
 qL 16 true 18 17,
 qM 16 true 19 0,
 qM 16 true 20 5,
 ⟨some 21, some (16, true), .rd (.idxAddr (some 2)) [.tmp 19, .tmp 20]⟩,
 qF 1 16 true 22 21,
 qL 16 true 23 22,
 ⟨some 24, some (16, true), .rd (.bin .leq) [.tmp 18, .tmp 23]⟩,
 ⟨some 25, none, .rd .pick [.tmp 16, .tmp 24, .pv (.bool false)]⟩,
 oM 13 25] L27)
 (.cond (.tmp 13)
 (.seq (.regionA (.alt [oM 26 0,
 oM 27 5,
 oM 28 0,
 oM 29 5,
 ⟨some 30, none, .rd (.idxAddr (some 2)) [.tmp 28, .tmp 29]⟩,
 oF 1 31 30,
 oF 1 33 3]
 (.alt [oL 32 31,
 oL 34 33,
 ⟨some 35, none, .rd .max [.tmp 32, .tmp 34]⟩,
 ⟨some 36, none, .rd (.idxAddr (some 2)) [.tmp 26, .tmp 27]⟩,
 oF 1 37 36,
 ⟨none, none, .eff (.store none) [.tmp 37, .tmp 35]⟩]
 .done
 (.alt [oL 34 33,
 oL 32 31,
 ⟨some 35, none, .rd .max [.tmp 32, .tmp 34]⟩,
 ⟨some 36, none, .rd (.idxAddr (some 2)) [.tmp 26, .tmp 27]⟩,
 oF 1 37 36,
 ⟨none, none, .eff (.store none) [.tmp 37, .tmp 35]⟩]
 .done
 .stop))
 .stop) L27)
 (.seq (.region false [oM 38 0,
 oM 4 38] L27)
 (.ret)))
 (.skip))))))
 (.seq (.region false [oM 39 0,
 ⟨some 40, none, .rd (.load (some 2)) [.tmp 3]⟩,
 ⟨some 41, none, .eff (.lit (some 2) false) [.tmp 40]⟩,
 ⟨some 42, none, .eff (.append (some 2) 16) [.tmp 39, .tmp 41]⟩,
 oM 4 42] L27)
 (.ret)))),
 [.tmp 4]⟩

-- wagebook/span.walk
def L28 : List Nat := [0, 1, 2, 3, 4, 6, 7, 9, 11, 12, 13, 18, 19, 20, 21, 24, 25, 26, 27, 46, 47, 48, 63]
def c28 : CF := ⟨79,
 .seq (.region false [⟨some 3, none, .eff (.box (some 1)) [.tmp 0]⟩,
 ⟨some 4, none, .eff (.box (some 1)) [.tmp 1]⟩,
 ⟨some 6, none, .eff (.alloc (some 1) (.agg [.nilSl])) []⟩] L28)
 (.seq (.region false [⟨some 7, none, .rd .mov [.pv .nilSl]⟩] L28)
 (.seq (.seq (.region false [oF 0 14 3,
 oL 15 14,
 oF 0 16 4,
 oL 17 16,
 ⟨some 18, none, .eff (.lit none false) [.tmp 15, .tmp 17]⟩,
 ⟨some 19, none, .rd .lenL [.tmp 18]⟩,
 ⟨some 20, none, .rd .mov [.pv (.int .i64 0)]⟩] L28)
 (.block 0
 (.loop
 (.seq (.region false [⟨some 21, none, .rd (.bin .lss) [.tmp 20, .tmp 19]⟩] L28)
 (.seq (.cond (.tmp 21)
 (.skip)
 (.exit 0))
 (.seq (.block 1
 (.seq (.region false [⟨some 22, none, .rd (.idxAddr none) [.tmp 18, .tmp 20]⟩,
 oL 23 22,
 oM 9 23] L28)
 (.seq (.region false [oM 24 9,
 ⟨some 25, none, .rd .lenL [.tmp 24]⟩,
 ⟨some 26, none, .rd .mov [.pv (.int .i64 0)]⟩] L28)
 (.block 2
 (.loop
 (.seq (.region false [⟨some 27, none, .rd (.bin .lss) [.tmp 26, .tmp 25]⟩] L28)
 (.seq (.cond (.tmp 27)
 (.skip)
 (.exit 2))
 (.seq (.block 3
 (.seq (.region false [⟨some 28, none, .rd (.idxAddr (some 2)) [.tmp 24, .tmp 26]⟩,
 ⟨some 29, none, .rd (.load (some 2)) [.tmp 28]⟩,
 ⟨some 11, none, .eff (.alloc (some 2) (.agg [(.int .i64 0), (.int .i64 0)])) []⟩,
 ⟨none, none, .eff (.store (some 2)) [.tmp 11, .tmp 29]⟩] L28)
 (.region false [oM 30 7,
 oF 0 31 11,
 oL 32 31,
 oF 1 33 11,
 oL 34 33,
 ⟨some 35, none, .eff (.lit none false) [.tmp 32, .tmp 34]⟩,
 ⟨some 36, none, .eff (.append none 8) [.tmp 30, .tmp 35]⟩,
 oM 7 36] L28)))
 (.region false [⟨some 37, none, .rd (.bin .add) [.tmp 26, .pv (.int .i64 1)]⟩,
 oM 26 37] L28)))))))))
 (.region false [⟨some 38, none, .rd (.bin .add) [.tmp 20, .pv (.int .i64 1)]⟩,
 oM 20 38] L28)))))))
 (.seq (.region false [oM 39 7,
 ⟨some 40, none, .call (.pv (.fn 42 [] [])) [.tmp 39]⟩] L28)
 (.seq (.region false [oM 41 7,
 ⟨some 42, none, .call (.pv (.fn 43 [] [])) [.tmp 41]⟩,
 oM 7 42] L28)
 (.seq (.region false [⟨some 12, none, .rd .mov [.pv .nilSl]⟩] L28)
 (.seq (.seq (.region false [oM 43 7,
 ⟨some 44, none, .rd .lenL [.tmp 43]⟩,
 ⟨some 45, none, .rd (.bin .sub) [.tmp 44, .pv (.int .i64 1)]⟩,
 ⟨some 46, none, .rd .max [.tmp 45, .pv (.int .i64 0)]⟩,
 ⟨some 47, none, .rd .mov [.pv (.int .i64 0)]⟩] L28)
 (.block 4
 (.loop
 (.seq (.region false [⟨some 48, none, .rd (.bin .lss) [.tmp 47, .tmp 46]⟩] L28)
 (.seq (.cond (.tmp 48)
 (.skip)
 (.exit 4))
 (.seq (.block 5
 (.seq (.region false [oM 49 47,
 oM 13 49] L28)
 (.seq (.region true [oM 50 2,
 ⟨some 51, none, .rd (.load (some 1)) [.tmp 3]⟩,
 oM 52 7,
 oM 53 13,
 ⟨some 54, none, .rd (.idxAddr none) [.tmp 52, .tmp 53]⟩,
 oL 55 54,
 ⟨some 56, none, .call (.pv (.fn 44 [] [])) [.tmp 51, .tmp 55]⟩,
 ⟨some 57, none, .rd (.load (some 1)) [.tmp 4]⟩,
 oM 58 7,
 oM 59 13,
 ⟨some 60, none, .rd (.idxAddr none) [.tmp 58, .tmp 59]⟩,
 oL 61 60,
 ⟨some 62, none, .call (.pv (.fn 44 [] [])) [.tmp 57, .tmp 61]⟩,
 ⟨some 63, none, .call (.tmp 50) [.tmp 56, .tmp 62]⟩] L28)
 (.cond (.tmp 63)
 (.regionA (.alt [oM 64 12,
 oM 65 7,
 oM 66 13,
 ⟨some 67, none, .rd (.idxAddr none) [.tmp 65, .tmp 66]⟩,
 oM 69 7,
 oM 70 13,
 ⟨some 71, none, .rd (.bin .add) [.tmp 70, .pv (.int .i64 1)]⟩,
 ⟨some 72, none, .rd (.idxAddr none) [.tmp 69, .tmp 71]⟩]
 (.alt [oL 68 67,
 oL 73 72,
 ⟨some 74, none, .rd (.build [(.int .i64 0), (.int .i64 0)] [(0, 1), (1, 1)]) [.tmp 68, .tmp 73]⟩,
 ⟨some 75, none, .call (.pv (.fn 27 [] [])) [.tmp 64, .tmp 74]⟩,
 oM 12 75]
 .done
 (.alt [oL 73 72,
 oL 68 67,
 ⟨some 74, none, .rd (.build [(.int .i64 0), (.int .i64 0)] [(0, 1), (1, 1)]) [.tmp 68, .tmp 73]⟩,
 ⟨some 75, none, .call (.pv (.fn 27 [] [])) [.tmp 64, .tmp 74]⟩,
 oM 12 75]
 .done
 .stop))
 .stop) L28)
 (.skip)))))
 (.region false [⟨some 76, none, .rd (.bin .add) [.tmp 47, .pv (.int .i64 1)]⟩,
 oM 47 76] L28)))))))
 (.seq (.region false [oM 77 12,
 ⟨some 78, none, .rd (.build [.nilSl] [(0, 1)]) [.tmp 77]⟩,
 ⟨none, none, .eff (.store (some 1)) [.tmp 6, .tmp 78]⟩] L28)
 (.ret)))))))),
 [.cell 6 (some 1)]⟩

-- (wagebook/span.Set).Meet$1
def L29 : List Nat := [0, 1, 4]
def c29 : CF := ⟨9,
 .seq (.region false [⟨some 4, none, .rd .mov [.pv (.bool false)]⟩] L29)
 (.seq (.region false [oM 5 0,
 oM 6 5,
 qM 6 true 7 1,
 ⟨some 8, none, .rd .pick [.tmp 6, .tmp 7, .pv (.bool false)]⟩,
 oM 4 8] L29)
 (.ret)),
 [.tmp 4]⟩

-- (wagebook/span.Set).Union$1
def L31 : List Nat := [0, 1, 4]
def c31 : CF := ⟨9,
 .seq (.region false [⟨some 4, none, .rd .mov [.pv (.bool false)]⟩] L31)
 (.seq (.region false [oM 5 0,
 oM 6 5,
 qM 6 false 7 1,
 ⟨some 8, none, .rd .pick [.tmp 6, .pv (.bool true), .tmp 7]⟩,
 oM 4 8] L31)
 (.ret)),
 [.tmp 4]⟩

-- slices.pdqsortCmpFunc[wagebook/api.Span]
def L39 : List Nat := [0, 1, 2, 3, 4, 10, 11, 12, 13, 14, 15, 16, 17, 18, 19, 20, 25, 32, 39, 56, 75, 80, 97, 125]
def c39 : CF := ⟨148,
 .seq (.region false [⟨some 10, none, .rd .mov [.pv (.bool true)]⟩] L39)
 (.seq (.region false [⟨some 11, none, .rd .mov [.pv (.bool true)]⟩] L39)
 (.block 0
 (.loop
 (.block 1
 (.seq (.region false [oM 21 2,
 oM 22 1,
 ⟨some 23, none, .rd (.bin .sub) [.tmp 21, .tmp 22]⟩,
 oM 12 23] L39)
 (.seq (.seq (.region false [oM 24 12,
 ⟨some 25, none, .rd (.bin .leq) [.tmp 24, .pv (.int .i64 12)]⟩] L39)
 (.cond (.tmp 25)
 (.seq (.region false [oM 26 0,
 oM 27 1,
 oM 28 2,
 oM 29 4,
 ⟨some 30, none, .call (.pv (.fn 56 [] [])) [.tmp 26, .tmp 27, .tmp 28, .tmp 29]⟩] L39)
 (.ret))
 (.skip)))
 (.seq (.seq (.region false [oM 31 3,
 ⟨some 32, none, .rd (.bin .eql) [.tmp 31, .pv (.int .i64 0)]⟩] L39)
 (.cond (.tmp 32)
 (.seq (.region false [oM 33 0,
 oM 34 1,
 oM 35 2,
 oM 36 4,
 ⟨some 37, none, .call (.pv (.fn 57 [] [])) [.tmp 33, .tmp 34, .tmp 35, .tmp 36]⟩] L39)
 (.ret))
 (.skip)))
 (.seq (.seq (.region false [oM 38 10,
 ⟨some 39, none, .rd (.un .not) [.tmp 38]⟩] L39)
 (.cond (.tmp 39)
 (.seq (.region false [oM 40 0,
 oM 41 1,
 oM 42 2,
 oM 43 4,
 ⟨some 44, none, .call (.pv (.fn 58 [] [])) [.tmp 40, .tmp 41, .tmp 42, .tmp 43]⟩] L39)
 (.region false [oM 45 3,
 ⟨some 46, none, .rd (.bin .sub) [.tmp 45, .pv (.int .i64 1)]⟩,
 oM 3 46] L39))
 (.skip)))
 (.seq (.region false [oM 48 0,
 oM 49 1,
 oM 50 2,
 oM 51 4,
 ⟨some 52, none, .call (.pv (.fn 59 [] [])) [.tmp 48, .tmp 49, .tmp 50, .tmp 51]⟩,
 oM 47 52,
 ⟨some 53, none, .rd (.ext 0) [.tmp 47]⟩,
 ⟨some 54, none, .rd (.ext 1) [.tmp 47]⟩,
 oM 13 53,
 oM 14 54] L39)
 (.seq (.seq (.region false [oM 55 14,
 ⟨some 56, none, .rd (.bin .eql) [.tmp 55, .pv (.int .i64 2)]⟩] L39)
 (.cond (.tmp 56)
 (.seq (.region false [oM 57 0,
 oM 58 1,
 oM 59 2,
 oM 60 4,
 ⟨some 61, none, .call (.pv (.fn 60 [] [])) [.tmp 57, .tmp 58, .tmp 59, .tmp 60]⟩] L39)
 (.seq (.region false [oM 62 2,
 ⟨some 63, none, .rd (.bin .sub) [.tmp 62, .pv (.int .i64 1)]⟩,
 oM 64 13,
 oM 65 1,
 ⟨some 66, none, .rd (.bin .sub) [.tmp 64, .tmp 65]⟩,
 ⟨some 67, none, .rd (.bin .sub) [.tmp 63, .tmp 66]⟩,
 oM 13 67] L39)
 (.region false [⟨some 14, none, .rd .mov [.pv (.int .i64 1)]⟩] L39)))
 (.skip)))
 (.seq (.seq (.region false [oM 68 10,
 oM 69 68,
 qM 69 true 70 11,
 ⟨some 71, none, .rd .pick [.tmp 69, .tmp 70, .pv (.bool false)]⟩,
 oM 72 71,
 qM 72 true 73 14,
 ⟨some 74, some (72, true), .rd (.bin .eql) [.tmp 73, .pv (.int .i64 1)]⟩,
 ⟨some 75, none, .rd .pick [.tmp 72, .tmp 74, .pv (.bool false)]⟩] L39)
 (.cond (.tmp 75)
 (.seq (.region false [oM 76 0,
 oM 77 1,
 oM 78 2,
 oM 79 4,
 ⟨some 80, none, .call (.pv (.fn 61 [] [])) [.tmp 76, .tmp 77, .tmp 78, .tmp 79]⟩] L39)
 (.cond (.tmp 80)
 (.ret)
 (.skip)))
 (.skip)))
 (.seq (.seq (.region true [oM 81 1,
 ⟨some 82, none, .rd (.bin .gtr) [.tmp 81, .pv (.int .i64 0)]⟩,
 oM 83 82,
 qM 83 true 84 4,
 qM 83 true 85 0,
 qM 83 true 86 1,
 ⟨some 87, some (83, true), .rd (.bin .sub) [.tmp 86, .pv (.int .i64 1)]⟩,
 ⟨some 88, some (83, true), .rd (.idxAddr (some 2)) [.tmp 85, .tmp 87]⟩,
 ⟨some 89, some (83, true), .rd (.load (some 2)) [.tmp 88]⟩,
 qM 83 true 90 0,
 qM 83 true 91 13,
 ⟨some 92, some (83, true), .rd (.idxAddr (some 2)) [.tmp 90, .tmp 91]⟩,
 ⟨some 93, some (83, true), .rd (.load (some 2)) [.tmp 92]⟩,
 ⟨some 94, some (83, true), .call (.tmp 84) [.tmp 89, .tmp 93]⟩,
 ⟨some 95, some (83, true), .rd (.bin .lss) [.tmp 94, .pv (.int .i64 0)]⟩,
 ⟨some 96, some (83, true), .rd (.un .not) [.tmp 95]⟩,
 ⟨some 97, none, .rd .pick [.tmp 83, .tmp 96, .pv (.bool false)]⟩] L39)
 (.cond (.tmp 97)
 (.seq (.region false [oM 98 0,
 oM 99 1,
 oM 100 2,
 oM 101 13,
 oM 102 4,
 ⟨some 103, none, .call (.pv (.fn 62 [] [])) [.tmp 98, .tmp 99, .tmp 100, .tmp 101, .tmp 102]⟩,
 oM 15 103] L39)
 (.seq (.region false [oM 104 15,
 oM 1 104] L39)
 (.exit 1)))
 (.skip)))
 (.seq (.region false [oM 106 0,
 oM 107 1,
 oM 108 2,
 oM 109 13,
 oM 110 4,
 ⟨some 111, none, .call (.pv (.fn 63 [] [])) [.tmp 106, .tmp 107, .tmp 108, .tmp 109, .tmp 110]⟩,
 oM 105 111,
 ⟨some 112, none, .rd (.ext 0) [.tmp 105]⟩,
 ⟨some 113, none, .rd (.ext 1) [.tmp 105]⟩,
 oM 16 112,
 oM 17 113] L39)
 (.seq (.region false [oM 114 17,
 oM 11 114] L39)
 (.seq (.region false [oM 115 16,
 oM 116 1,
 ⟨some 117, none, .rd (.bin .sub) [.tmp 115, .tmp 116]⟩,
 oM 118 2,
 oM 119 16,
 ⟨some 120, none, .rd (.bin .sub) [.tmp 118, .tmp 119]⟩,
 oM 18 117,
 oM 19 120] L39)
 (.seq (.region false [oM 121 12,
 ⟨some 122, none, .rd (.bin .quo) [.tmp 121, .pv (.int .i64 8)]⟩,
 oM 20 122] L39)
 (.seq (.region false [oM 123 18,
 oM 124 19,
 ⟨some 125, none, .rd (.bin .lss) [.tmp 123, .tmp 124]⟩] L39)
 (.cond (.tmp 125)
 (.seq (.region false [oM 126 18,
 oM 127 20,
 ⟨some 128, none, .rd (.bin .geq) [.tmp 126, .tmp 127]⟩,
 oM 10 128] L39)
 (.seq (.region false [oM 129 0,
 oM 130 1,
 oM 131 16,
 oM 132 3,
 oM 133 4,
 ⟨some 134, none, .call (.pv (.fn 39 [] [])) [.tmp 129, .tmp 130, .tmp 131, .tmp 132, .tmp 133]⟩] L39)
 (.region false [oM 135 16,
 ⟨some 136, none, .rd (.bin .add) [.tmp 135, .pv (.int .i64 1)]⟩,
 oM 1 136] L39)))
 (.seq (.region false [oM 137 19,
 oM 138 20,
 ⟨some 139, none, .rd (.bin .geq) [.tmp 137, .tmp 138]⟩,
 oM 10 139] L39)
 (.seq (.region false [oM 140 0,
 oM 141 16,
 ⟨some 142, none, .rd (.bin .add) [.tmp 141, .pv (.int .i64 1)]⟩,
 oM 143 2,
 oM 144 3,
 oM 145 4,
 ⟨some 146, none, .call (.pv (.fn 39 [] [])) [.tmp 140, .tmp 142, .tmp 143, .tmp 144, .tmp 145]⟩] L39)
 (.region false [oM 147 16,
 oM 2 147] L39))))))))))))))))))))),
 []⟩

-- math/bits.Len
def L40 : List Nat := [0, 2]
def c40 : CF := ⟨8,
 .seq (.region false [⟨some 2, none, .rd .mov [.pv (.int .i64 0)]⟩] L40)
 (.seq (.cond (.pv (.bool false))
 (.seq (.region false [oM 3 0,
 ⟨some 4, none, .rd (.conv .u32) [.tmp 3]⟩,
 ⟨some 5, none, .call (.pv (.fn 64 [] [])) [.tmp 4]⟩,
 oM 2 5] L40)
 (.ret))
 (.skip))
 (.seq (.region false [oM 6 0,
 ⟨some 7, none, .call (.pv (.fn 65 [] [])) [.tmp 6]⟩,
 oM 2 7] L40)
 (.ret))),
 [.tmp 2]⟩

-- cmp.isNaN[wagebook/api.Day]
def L41 : List Nat := [0, 2]
def c41 : CF := ⟨6,
 .seq (.region false [⟨some 2, none, .rd .mov [.pv (.bool false)]⟩] L41)
 (.seq (.region false [oM 3 0,
 oM 4 0,
 ⟨some 5, none, .rd (.bin .neq) [.tmp 3, .tmp 4]⟩,
 oM 2 5] L41)
 (.ret)),
 [.tmp 2]⟩

-- slices.Sort[[]wagebook/api.Day,wagebook/api.Day]
def L42 : List Nat := [0, 2]
def c42 : CF := ⟨11,
 .seq (.region false [oM 3 0,
 ⟨some 4, none, .rd .lenL [.tmp 3]⟩,
 oM 2 4] L42)
 (.region false [oM 5 0,
 oM 6 2,
 oM 7 2,
 ⟨some 8, none, .rd (.conv .u64) [.tmp 7]⟩,
 ⟨some 9, none, .call (.pv (.fn 40 [] [])) [.tmp 8]⟩,
 ⟨some 10, none, .call (.pv (.fn 66 [] [])) [.tmp 5, .pv (.int .i64 0), .tmp 6, .tmp 9]⟩] L42),
 []⟩

-- (wagebook/span.Set).Has
def L44 : List Nat := [0, 1, 2, 4, 5, 6]
def c44 : CF := ⟨30,
 .seq (.region false [⟨some 2, none, .eff (.box (some 1)) [.tmp 0]⟩,
 ⟨some 4, none, .rd .mov [.pv (.bool false)]⟩] L44)
 (.seq (.region false [oF 0 8 2,
 oL 9 8,
 oM 10 1,
 ⟨some 11, none, .call (.pv (.fn 67 [] [])) [.tmp 9, .tmp 10, .pv (.fn 68 [] [])]⟩,
 oM 7 11,
 ⟨some 12, none, .rd (.ext 0) [.tmp 7]⟩,
 ⟨some 13, none, .rd (.ext 1) [.tmp 7]⟩,
 oM 5 12,
 oM 6 13] L44)
 (.seq (.region false [oM 14 6,
 oM 15 14,
 qM 15 false 16 5,
 ⟨some 17, some (15, false), .rd (.bin .gtr) [.tmp 16, .pv (.int .i64 0)]⟩,
 qM 15 false 18 17,
 qM 18 true 19 1,
 qF 0 18 true 20 2,
 qL 18 true 21 20,
 qM 18 true 22 5,
 ⟨some 23, some (18, true), .rd (.bin .sub) [.tmp 22, .pv (.int .i64 1)]⟩,
 ⟨some 24, some (18, true), .rd (.idxAddr (some 2)) [.tmp 21, .tmp 23]⟩,
 qF 1 18 true 25 24,
 qL 18 true 26 25,
 ⟨some 27, some (18, true), .rd (.bin .lss) [.tmp 19, .tmp 26]⟩,
 ⟨some 28, some (15, false), .rd .pick [.tmp 18, .tmp 27, .pv (.bool false)]⟩,
 ⟨some 29, none, .rd .pick [.tmp 15, .pv (.bool true), .tmp 28]⟩,
 oM 4 29] L44)
 (.ret))),
 [.tmp 4]⟩

-- slices.insertionSortCmpFunc[wagebook/api.Span]
def L56 : List Nat := [0, 1, 2, 3, 8, 9, 14, 34]
def c56 : CF := ⟨53,
 .seq (.region false [oM 10 1,
 ⟨some 11, none, .rd (.bin .add) [.tmp 10, .pv (.int .i64 1)]⟩,
 oM 8 11] L56)
 (.block 0
 (.loop
 (.seq (.seq (.region false [oM 12 8,
 oM 13 2,
 ⟨some 14, none, .rd (.bin .lss) [.tmp 12, .tmp 13]⟩] L56)
 (.cond (.tmp 14)
 (.skip)
 (.exit 0)))
 (.seq (.block 1
 (.seq (.region false [oM 17 8,
 oM 9 17] L56)
 (.block 2
 (.loop
 (.seq (.seq (.region true [oM 18 9,
 oM 19 1,
 ⟨some 20, none, .rd (.bin .gtr) [.tmp 18, .tmp 19]⟩,
 oM 21 20,
 qM 21 true 22 3,
 qM 21 true 23 0,
 qM 21 true 24 9,
 ⟨some 25, some (21, true), .rd (.idxAddr (some 2)) [.tmp 23, .tmp 24]⟩,
 ⟨some 26, some (21, true), .rd (.load (some 2)) [.tmp 25]⟩,
 qM 21 true 27 0,
 qM 21 true 28 9,
 ⟨some 29, some (21, true), .rd (.bin .sub) [.tmp 28, .pv (.int .i64 1)]⟩,
 ⟨some 30, some (21, true), .rd (.idxAddr (some 2)) [.tmp 27, .tmp 29]⟩,
 ⟨some 31, some (21, true), .rd (.load (some 2)) [.tmp 30]⟩,
 ⟨some 32, some (21, true), .call (.tmp 22) [.tmp 26, .tmp 31]⟩,
 ⟨some 33, some (21, true), .rd (.bin .lss) [.tmp 32, .pv (.int .i64 0)]⟩,
 ⟨some 34, none, .rd .pick [.tmp 21, .tmp 33, .pv (.bool false)]⟩] L56)
 (.cond (.tmp 34)
 (.skip)
 (.exit 2)))
 (.seq (.block 3
 (.regionA (.alt [oM 37 0,
 oM 38 9,
 oM 39 0,
 oM 40 9,
 ⟨some 41, none, .rd (.bin .sub) [.tmp 40, .pv (.int .i64 1)]⟩,
 oM 42 0,
 oM 43 9,
 ⟨some 44, none, .rd (.bin .sub) [.tmp 43, .pv (.int .i64 1)]⟩,
 ⟨some 45, none, .rd (.idxAddr (some 2)) [.tmp 42, .tmp 44]⟩,
 oM 47 0,
 oM 48 9,
 ⟨some 49, none, .rd (.idxAddr (some 2)) [.tmp 47, .tmp 48]⟩]
 (.alt [⟨some 46, none, .rd (.load (some 2)) [.tmp 45]⟩,
 ⟨some 50, none, .rd (.load (some 2)) [.tmp 49]⟩,
 ⟨some 51, none, .rd (.idxAddr (some 2)) [.tmp 37, .tmp 38]⟩,
 ⟨none, none, .eff (.store (some 2)) [.tmp 51, .tmp 46]⟩,
 ⟨some 52, none, .rd (.idxAddr (some 2)) [.tmp 39, .tmp 41]⟩,
 ⟨none, none, .eff (.store (some 2)) [.tmp 52, .tmp 50]⟩]
 .done
 (.alt [⟨some 50, none, .rd (.load (some 2)) [.tmp 49]⟩,
 ⟨some 46, none, .rd (.load (some 2)) [.tmp 45]⟩,
 ⟨some 51, none, .rd (.idxAddr (some 2)) [.tmp 37, .tmp 38]⟩,
 ⟨none, none, .eff (.store (some 2)) [.tmp 51, .tmp 46]⟩,
 ⟨some 52, none, .rd (.idxAddr (some 2)) [.tmp 39, .tmp 41]⟩,
 ⟨none, none, .eff (.store (some 2)) [.tmp 52, .tmp 50]⟩]
 .done
 .stop))
 .stop) L56))
 (.region false [oM 35 9,
 ⟨some 36, none, .rd (.bin .sub) [.tmp 35, .pv (.int .i64 1)]⟩,
 oM 9 36] L56)))))))
 (.region false [oM 15 8,
 ⟨some 16, none, .rd (.bin .add) [.tmp 15, .pv (.int .i64 1)]⟩,
 oM 8 16] L56))))),
 []⟩

-- math/bits.Len32
def L65 : List Nat := [0, 2, 4, 8, 14]
def c65 : CF := ⟨25,
 .seq (.region false [⟨some 2, none, .rd .mov [.pv (.int .i64 0)]⟩] L65)
 (.seq (.seq (.region false [oM 3 0,
 ⟨some 4, none, .rd (.bin .geq) [.tmp 3, .pv (.int .u64 4294967296)]⟩] L65)
 (.cond (.tmp 4)
 (.seq (.region false [oM 5 0,
 ⟨some 6, none, .rd (.bin .shr) [.tmp 5, .pv (.int .u64 32)]⟩,
 oM 0 6] L65)
 (.region false [⟨some 2, none, .rd .mov [.pv (.int .i64 32)]⟩] L65))
 (.skip)))
 (.seq (.seq (.region false [oM 7 0,
 ⟨some 8, none, .rd (.bin .geq) [.tmp 7, .pv (.int .u64 65536)]⟩] L65)
 (.cond (.tmp 8)
 (.seq (.region false [oM 9 0,
 ⟨some 10, none, .rd (.bin .shr) [.tmp 9, .pv (.int .u64 16)]⟩,
 oM 0 10] L65)
 (.region false [oM 11 2,
 ⟨some 12, none, .rd (.bin .add) [.tmp 11, .pv (.int .i64 16)]⟩,
 oM 2 12] L65))
 (.skip)))
 (.seq (.seq (.region false [oM 13 0,
 ⟨some 14, none, .rd (.bin .geq) [.tmp 13, .pv (.int .u64 256)]⟩] L65)
 (.cond (.tmp 14)
 (.seq (.region false [oM 15 0,
 ⟨some 16, none, .rd (.bin .shr) [.tmp 15, .pv (.int .u64 8)]⟩,
 oM 0 16] L65)
 (.region false [oM 17 2,
 ⟨some 18, none, .rd (.bin .add) [.tmp 17, .pv (.int .i64 8)]⟩,
 oM 2 18] L65))
 (.skip)))
 (.seq (.region false [oM 19 2,
 oM 20 0,
 ⟨some 21, none, .rd (.conv .u8) [.tmp 20]⟩,
 ⟨some 22, none, .rd .idxS [.pv (.str tab8), .tmp 21]⟩,
 ⟨some 23, none, .rd (.conv .i64) [.tmp 22]⟩,
 ⟨some 24, none, .rd (.bin .add) [.tmp 19, .tmp 23]⟩,
 oM 2 24] L65)
 (.ret))))),
 [.tmp 2]⟩

-- slices.pdqsortOrdered[wagebook/api.Day]
def L66 : List Nat := [0, 1, 2, 3, 8, 9, 10, 11, 12, 13, 14, 15, 16, 17, 18, 23, 29, 35, 50, 68, 72, 87, 113]
def c66 : CF := ⟨134,
 .seq (.region false [⟨some 8, none, .rd .mov [.pv (.bool true)]⟩] L66)
 (.seq (.region false [⟨some 9, none, .rd .mov [.pv (.bool true)]⟩] L66)
 (.block 0
 (.loop
 (.block 1
 (.seq (.region false [oM 19 2,
 oM 20 1,
 ⟨some 21, none, .rd (.bin .sub) [.tmp 19, .tmp 20]⟩,
 oM 10 21] L66)
 (.seq (.seq (.region false [oM 22 10,
 ⟨some 23, none, .rd (.bin .leq) [.tmp 22, .pv (.int .i64 12)]⟩] L66)
 (.cond (.tmp 23)
 (.seq (.region false [oM 24 0,
 oM 25 1,
 oM 26 2,
 ⟨some 27, none, .call (.pv (.fn 77 [] [])) [.tmp 24, .tmp 25, .tmp 26]⟩] L66)
 (.ret))
 (.skip)))
 (.seq (.seq (.region false [oM 28 3,
 ⟨some 29, none, .rd (.bin .eql) [.tmp 28, .pv (.int .i64 0)]⟩] L66)
 (.cond (.tmp 29)
 (.seq (.region false [oM 30 0,
 oM 31 1,
 oM 32 2,
 ⟨some 33, none, .call (.pv (.fn 78 [] [])) [.tmp 30, .tmp 31, .tmp 32]⟩] L66)
 (.ret))
 (.skip)))
 (.seq (.seq (.region false [oM 34 8,
 ⟨some 35, none, .rd (.un .not) [.tmp 34]⟩] L66)
 (.cond (.tmp 35)
 (.seq (.region false [oM 36 0,
 oM 37 1,
 oM 38 2,
 ⟨some 39, none, .call (.pv (.fn 79 [] [])) [.tmp 36, .tmp 37, .tmp 38]⟩] L66)
 (.region false [oM 40 3,
 ⟨some 41, none, .rd (.bin .sub) [.tmp 40, .pv (.int .i64 1)]⟩,
 oM 3 41] L66))
 (.skip)))
 (.seq (.region false [oM 43 0,
 oM 44 1,
 oM 45 2,
 ⟨some 46, none, .call (.pv (.fn 80 [] [])) [.tmp 43, .tmp 44, .tmp 45]⟩,
 oM 42 46,
 ⟨some 47, none, .rd (.ext 0) [.tmp 42]⟩,
 ⟨some 48, none, .rd (.ext 1) [.tmp 42]⟩,
 oM 11 47,
 oM 12 48] L66)
 (.seq (.seq (.region false [oM 49 12,
 ⟨some 50, none, .rd (.bin .eql) [.tmp 49, .pv (.int .i64 2)]⟩] L66)
 (.cond (.tmp 50)
 (.seq (.region false [oM 51 0,
 oM 52 1,
 oM 53 2,
 ⟨some 54, none, .call (.pv (.fn 81 [] [])) [.tmp 51, .tmp 52, .tmp 53]⟩] L66)
 (.seq (.region false [oM 55 2,
 ⟨some 56, none, .rd (.bin .sub) [.tmp 55, .pv (.int .i64 1)]⟩,
 oM 57 11,
 oM 58 1,
 ⟨some 59, none, .rd (.bin .sub) [.tmp 57, .tmp 58]⟩,
 ⟨some 60, none, .rd (.bin .sub) [.tmp 56, .tmp 59]⟩,
 oM 11 60] L66)
 (.region false [⟨some 12, none, .rd .mov [.pv (.int .i64 1)]⟩] L66)))
 (.skip)))
 (.seq (.seq (.region false [oM 61 8,
 oM 62 61,
 qM 62 true 63 9,
 ⟨some 64, none, .rd .pick [.tmp 62, .tmp 63, .pv (.bool false)]⟩,
 oM 65 64,
 qM 65 true 66 12,
 ⟨some 67, some (65, true), .rd (.bin .eql) [.tmp 66, .pv (.int .i64 1)]⟩,
 ⟨some 68, none, .rd .pick [.tmp 65, .tmp 67, .pv (.bool false)]⟩] L66)
 (.cond (.tmp 68)
 (.seq (.region false [oM 69 0,
 oM 70 1,
 oM 71 2,
 ⟨some 72, none, .call (.pv (.fn 82 [] [])) [.tmp 69, .tmp 70, .tmp 71]⟩] L66)
 (.cond (.tmp 72)
 (.ret)
 (.skip)))
 (.skip)))
 (.seq (.seq (.region true [oM 73 1,
 ⟨some 74, none, .rd (.bin .gtr) [.tmp 73, .pv (.int .i64 0)]⟩,
 oM 75 74,
 qM 75 true 76 0,
 qM 75 true 77 1,
 ⟨some 78, some (75, true), .rd (.bin .sub) [.tmp 77, .pv (.int .i64 1)]⟩,
 ⟨some 79, some (75, true), .rd (.idxAddr none) [.tmp 76, .tmp 78]⟩,
 qL 75 true 80 79,
 qM 75 true 81 0,
 qM 75 true 82 11,
 ⟨some 83, some (75, true), .rd (.idxAddr none) [.tmp 81, .tmp 82]⟩,
 qL 75 true 84 83,
 ⟨some 85, some (75, true), .call (.pv (.fn 83 [] [])) [.tmp 80, .tmp 84]⟩,
 ⟨some 86, some (75, true), .rd (.un .not) [.tmp 85]⟩,
 ⟨some 87, none, .rd .pick [.tmp 75, .tmp 86, .pv (.bool false)]⟩] L66)
 (.cond (.tmp 87)
 (.seq (.region false [oM 88 0,
 oM 89 1,
 oM 90 2,
 oM 91 11,
 ⟨some 92, none, .call (.pv (.fn 84 [] [])) [.tmp 88, .tmp 89, .tmp 90, .tmp 91]⟩,
 oM 13 92] L66)
 (.seq (.region false [oM 93 13,
 oM 1 93] L66)
 (.exit 1)))
 (.skip)))
 (.seq (.region false [oM 95 0,
 oM 96 1,
 oM 97 2,
 oM 98 11,
 ⟨some 99, none, .call (.pv (.fn 85 [] [])) [.tmp 95, .tmp 96, .tmp 97, .tmp 98]⟩,
 oM 94 99,
 ⟨some 100, none, .rd (.ext 0) [.tmp 94]⟩,
 ⟨some 101, none, .rd (.ext 1) [.tmp 94]⟩,
 oM 14 100,
 oM 15 101] L66)
 (.seq (.region false [oM 102 15,
 oM 9 102] L66)
 (.seq (.region false [oM 103 14,
 oM 104 1,
 ⟨some 105, none, .rd (.bin .sub) [.tmp 103, .tmp 104]⟩,
 oM 106 2,
 oM 107 14,
 ⟨some 108, none, .rd (.bin .sub) [.tmp 106, .tmp 107]⟩,
 oM 16 105,
 oM 17 108] L66)
 (.seq (.region false [oM 109 10,
 ⟨some 110, none, .rd (.bin .quo) [.tmp 109, .pv (.int .i64 8)]⟩,
 oM 18 110] L66)
 (.seq (.region false [oM 111 16,
 oM 112 17,
 ⟨some 113, none, .rd (.bin .lss) [.tmp 111, .tmp 112]⟩] L66)
 (.cond (.tmp 113)
 (.seq (.region false [oM 114 16,
 oM 115 18,
 ⟨some 116, none, .rd (.bin .geq) [.tmp 114, .tmp 115]⟩,
 oM 8 116] L66)
 (.seq (.region false [oM 117 0,
 oM 118 1,
 oM 119 14,
 oM 120 3,
 ⟨some 121, none, .call (.pv (.fn 66 [] [])) [.tmp 117, .tmp 118, .tmp 119, .tmp 120]⟩] L66)
 (.region false [oM 122 14,
 ⟨some 123, none, .rd (.bin .add) [.tmp 122, .pv (.int .i64 1)]⟩,
 oM 1 123] L66)))
 (.seq (.region false [oM 124 17,
 oM 125 18,
 ⟨some 126, none, .rd (.bin .geq) [.tmp 124, .tmp 125]⟩,
 oM 8 126] L66)
 (.seq (.region false [oM 127 0,
 oM 128 14,
 ⟨some 129, none, .rd (.bin .add) [.tmp 128, .pv (.int .i64 1)]⟩,
 oM 130 2,
 oM 131 3,
 ⟨some 132, none, .call (.pv (.fn 66 [] [])) [.tmp 127, .tmp 129, .tmp 130, .tmp 131]⟩] L66)
 (.region false [oM 133 14,
 oM 2 133] L66))))))))))))))))))))),
 []⟩

-- slices.BinarySearchFunc[[]wagebook/api.Span,wagebook/api.Span,wagebook/api.Day]
def L67 : List Nat := [0, 1, 2, 6, 7, 8, 9, 10, 11, 17, 31]
def c67 : CF := ⟨49,
 .seq (.region false [⟨some 6, none, .rd .mov [.pv (.int .i64 0)]⟩,
 ⟨some 7, none, .rd .mov [.pv (.bool false)]⟩] L67)
 (.seq (.region false [oM 12 0,
 ⟨some 13, none, .rd .lenL [.tmp 12]⟩,
 oM 8 13] L67)
 (.seq (.region false [oM 14 8,
 ⟨some 9, none, .rd .mov [.pv (.int .i64 0)]⟩,
 oM 10 14] L67)
 (.seq (.block 0
 (.loop
 (.seq (.seq (.region false [oM 15 9,
 oM 16 10,
 ⟨some 17, none, .rd (.bin .lss) [.tmp 15, .tmp 16]⟩] L67)
 (.cond (.tmp 17)
 (.skip)
 (.exit 0)))
 (.block 1
 (.seq (.region false [oM 18 9,
 oM 19 10,
 ⟨some 20, none, .rd (.bin .add) [.tmp 18, .tmp 19]⟩,
 ⟨some 21, none, .rd (.conv .u64) [.tmp 20]⟩,
 ⟨some 22, none, .rd (.bin .shr) [.tmp 21, .pv (.int .u64 1)]⟩,
 ⟨some 23, none, .rd (.conv .i64) [.tmp 22]⟩,
 oM 11 23] L67)
 (.seq (.region false [oM 24 2,
 oM 25 0,
 oM 26 11,
 ⟨some 27, none, .rd (.idxAddr (some 2)) [.tmp 25, .tmp 26]⟩,
 ⟨some 28, none, .rd (.load (some 2)) [.tmp 27]⟩,
 oM 29 1,
 ⟨some 30, none, .call (.tmp 24) [.tmp 28, .tmp 29]⟩,
 ⟨some 31, none, .rd (.bin .lss) [.tmp 30, .pv (.int .i64 0)]⟩] L67)
 (.cond (.tmp 31)
 (.region false [oM 32 11,
 ⟨some 33, none, .rd (.bin .add) [.tmp 32, .pv (.int .i64 1)]⟩,
 oM 9 33] L67)
 (.region false [oM 34 11,
 oM 10 34] L67))))))))
 (.seq (.region false [oM 35 9,
 oM 36 9,
 oM 37 8,
 ⟨some 38, none, .rd (.bin .lss) [.tmp 36, .tmp 37]⟩,
 oM 39 38,
 qM 39 true 40 2,
 qM 39 true 41 0,
 qM 39 true 42 9,
 ⟨some 43, some (39, true), .rd (.idxAddr (some 2)) [.tmp 41, .tmp 42]⟩,
 ⟨some 44, some (39, true), .rd (.load (some 2)) [.tmp 43]⟩,
 qM 39 true 45 1,
 ⟨some 46, some (39, true), .call (.tmp 40) [.tmp 44, .tmp 45]⟩,
 ⟨some 47, some (39, true), .rd (.bin .eql) [.tmp 46, .pv (.int .i64 0)]⟩,
 ⟨some 48, none, .rd .pick [.tmp 39, .tmp 47, .pv (.bool false)]⟩,
 oM 6 35,
 oM 7 48] L67)
 (.ret))))),
 [.tmp 6, .tmp 7]⟩

-- (wagebook/span.Set).Has$1
def L68 : List Nat := [0, 1, 2, 4]
def c68 : CF := ⟨9,
 .seq (.region false [⟨some 2, none, .eff (.box (some 2)) [.tmp 0]⟩,
 ⟨some 4, none, .rd .mov [.pv (.int .i64 0)]⟩] L68)
 (.seq (.region false [oF 0 5 2,
 oL 6 5,
 oM 7 1,
 ⟨some 8, none, .call (.pv (.fn 26 [] [])) [.tmp 6, .tmp 7]⟩,
 oM 4 8] L68)
 (.ret)),
 [.tmp 4]⟩

-- slices.insertionSortOrdered[wagebook/api.Day]
def L77 : List Nat := [0, 1, 2, 6, 7, 12, 30]
def c77 : CF := ⟨49,
 .seq (.region false [oM 8 1,
 ⟨some 9, none, .rd (.bin .add) [.tmp 8, .pv (.int .i64 1)]⟩,
 oM 6 9] L77)
 (.block 0
 (.loop
 (.seq (.seq (.region false [oM 10 6,
 oM 11 2,
 ⟨some 12, none, .rd (.bin .lss) [.tmp 10, .tmp 11]⟩] L77)
 (.cond (.tmp 12)
 (.skip)
 (.exit 0)))
 (.seq (.block 1
 (.seq (.region false [oM 15 6,
 oM 7 15] L77)
 (.block 2
 (.loop
 (.seq (.seq (.region true [oM 16 7,
 oM 17 1,
 ⟨some 18, none, .rd (.bin .gtr) [.tmp 16, .tmp 17]⟩,
 oM 19 18,
 qM 19 true 20 0,
 qM 19 true 21 7,
 ⟨some 22, some (19, true), .rd (.idxAddr none) [.tmp 20, .tmp 21]⟩,
 qL 19 true 23 22,
 qM 19 true 24 0,
 qM 19 true 25 7,
 ⟨some 26, some (19, true), .rd (.bin .sub) [.tmp 25, .pv (.int .i64 1)]⟩,
 ⟨some 27, some (19, true), .rd (.idxAddr none) [.tmp 24, .tmp 26]⟩,
 qL 19 true 28 27,
 ⟨some 29, some (19, true), .call (.pv (.fn 83 [] [])) [.tmp 23, .tmp 28]⟩,
 ⟨some 30, none, .rd .pick [.tmp 19, .tmp 29, .pv (.bool false)]⟩] L77)
 (.cond (.tmp 30)
 (.skip)
 (.exit 2)))
 (.seq (.block 3
 (.regionA (.alt [oM 33 0,
 oM 34 7,
 oM 35 0,
 oM 36 7,
 ⟨some 37, none, .rd (.bin .sub) [.tmp 36, .pv (.int .i64 1)]⟩,
 oM 38 0,
 oM 39 7,
 ⟨some 40, none, .rd (.bin .sub) [.tmp 39, .pv (.int .i64 1)]⟩,
 ⟨some 41, none, .rd (.idxAddr none) [.tmp 38, .tmp 40]⟩,
 oM 43 0,
 oM 44 7,
 ⟨some 45, none, .rd (.idxAddr none) [.tmp 43, .tmp 44]⟩]
 (.alt [oL 42 41,
 oL 46 45,
 ⟨some 47, none, .rd (.idxAddr none) [.tmp 33, .tmp 34]⟩,
 ⟨none, none, .eff (.store none) [.tmp 47, .tmp 42]⟩,
 ⟨some 48, none, .rd (.idxAddr none) [.tmp 35, .tmp 37]⟩,
 ⟨none, none, .eff (.store none) [.tmp 48, .tmp 46]⟩]
 .done
 (.alt [oL 46 45,
 oL 42 41,
 ⟨some 47, none, .rd (.idxAddr none) [.tmp 33, .tmp 34]⟩,
 ⟨none, none, .eff (.store none) [.tmp 47, .tmp 42]⟩,
 ⟨some 48, none, .rd (.idxAddr none) [.tmp 35, .tmp 37]⟩,
 ⟨none, none, .eff (.store none) [.tmp 48, .tmp 46]⟩]
 .done
 .stop))
 .stop) L77))
 (.region false [oM 31 7,
 ⟨some 32, none, .rd (.bin .sub) [.tmp 31, .pv (.int .i64 1)]⟩,
 oM 7 32] L77)))))))
 (.region false [oM 13 6,
 ⟨some 14, none, .rd (.bin .add) [.tmp 13, .pv (.int .i64 1)]⟩,
 oM 6 14] L77))))),
 []⟩

-- cmp.Less[wagebook/api.Day]
def L83 : List Nat := [0, 1, 4]
def c83 : CF := ⟨17,
 .seq (.region false [⟨some 4, none, .rd .mov [.pv (.bool false)]⟩] L83)
 (.seq (.region false [oM 5 0,
 ⟨some 6, none, .call (.pv (.fn 41 [] [])) [.tmp 5]⟩,
 oM 7 6,
 qM 7 true 8 1,
 ⟨some 9, some (7, true), .call (.pv (.fn 41 [] [])) [.tmp 8]⟩,
 ⟨some 10, some (7, true), .rd (.un .not) [.tmp 9]⟩,
 ⟨some 11, none, .rd .pick [.tmp 7, .tmp 10, .pv (.bool false)]⟩,
 oM 12 11,
 qM 12 false 13 0,
 qM 12 false 14 1,
 ⟨some 15, some (12, false), .rd (.bin .lss) [.tmp 13, .tmp 14]⟩,
 ⟨some 16, none, .rd .pick [.tmp 12, .pv (.bool true), .tmp 15]⟩,
 oM 4 16] L83)
 (.ret)),
 [.tmp 4]⟩
theorem k10 : compileF Tryd.prog [] L10 Tryd.f10 = some c10 := by kernel_rfl
theorem k11 : compileF Tryd.prog [] L11 Tryd.f11 = some c11 := by kernel_rfl
theorem k15 : compileF Tryd.prog [] L15 Tryd.f15 = some c15 := by kernel_rfl
theorem k23 : compileF Tryd.prog [] L23 Tryd.f23 = some c23 := by kernel_rfl
theorem k24 : compileF Tryd.prog [] L24 Tryd.f24 = some c24 := by kernel_rfl
theorem k26 : compileF Tryd.prog [] L26 Tryd.f26 = some c26 := by kernel_rfl
theorem k27 : compileF Tryd.prog [] L27 Tryd.f27 = some c27 := by kernel_rfl
theorem k28 : compileF Tryd.prog [700012] L28 Tryd.f28 = some c28 := by kernel_rfl
theorem k29 : compileF Tryd.prog [] L29 Tryd.f29 = some c29 := by kernel_rfl
theorem k31 : compileF Tryd.prog [] L31 Tryd.f31 = some c31 := by kernel_rfl
theorem k39 : compileF Tryd.prog [] L39 Tryd.f39 = some c39 := by kernel_rfl
theorem k40 : compileF Tryd.prog [] L40 Tryd.f40 = some c40 := by kernel_rfl
theorem k41 : compileF Tryd.prog [] L41 Tryd.f41 = some c41 := by kernel_rfl
theorem k42 : compileF Tryd.prog [] L42 Tryd.f42 = some c42 := by kernel_rfl
theorem k44 : compileF Tryd.prog [] L44 Tryd.f44 = some c44 := by kernel_rfl
theorem k56 : compileF Tryd.prog [] L56 Tryd.f56 = some c56 := by kernel_rfl
theorem k65 : compileF Tryd.prog [] L65 Tryd.f65 = some c65 := by kernel_rfl
theorem k66 : compileF Tryd.prog [] L66 Tryd.f66 = some c66 := by kernel_rfl
theorem k67 : compileF Tryd.prog [] L67 Tryd.f67 = some c67 := by kernel_rfl
theorem k68 : compileF Tryd.prog [] L68 Tryd.f68 = some c68 := by kernel_rfl
theorem k77 : compileF Tryd.prog [] L77 Tryd.f77 = some c77 := by kernel_rfl
theorem k83 : compileF Tryd.prog [] L83 Tryd.f83 = some c83 := by kernel_rfl
end Go.Proofs.YtedjaohonijemaaDoor

