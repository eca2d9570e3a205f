import Derived.Test.YtedjaohonijemaaDoorRows
import Derived.LaidMore
import Derived.Stop.Joined
import Derived.Test.YtedjaohonijemaaDoorQ12
import Derived.Test.YtedjaohonijemaaDoorQ11
namespace Go.Proofs.YtedjaohonijemaaDoor
open Go PG Go.Proofs
set_option linter.unusedSimpArgs false
set_option linter.unusedVariables false
set_option maxHeartbeats 4000000
set_option maxRecDepth 100000
variable {G : Globs}
/-! TopProrates -/
theorem v5all {p : Per} (hp : PerOk p) (c : Nat) (hc : c ≤ 4294967295) : VCalls Tryd.prog G 5 [perP p, .list (some 4) [.agg [.int .i64 p.f, .int .i64 (p.f + p.L), .int .i64 c, .int .i64 1000000]]] (.tup [.int .i64 (cM c p), .int .i64 0]) := by
  have h := v5 (G := G) hp c hc [(0, p.L)] (by simp) ⟨rfl, hp.l0, trivial⟩ (by simp)
  have e : endC 0 [(0, p.L)] = p.L := rfl
  rw [e, upM_all _ hp.l0] at h
  simp only [piesP, pieP, List.map_cons, List.map_nil] at h
  rw [show p.f + ((0 : Nat) : Int) = p.f by omega] at h
  exact h
theorem sumC_app (c : Nat) (a b : List Per) : sumC c (a ++ b) = sumC c a + sumC c b := by simp [sumC]
theorem u8w {a : Nat} (ha : a < 256) : IntKind.u8.wrap (a : Int) = a := by simp [IntKind.wrap, IntKind.bits, IntKind.signed]; omega
theorem pers_L {c : Cal} {y : Int} {l : List Sp} (hl : LsOk l) : ∀ p ∈ persM c y l, p.L ≤ 31 := by
  intro p hp
  obtain ⟨i, hi, rfl⟩ := List.mem_map.1 hp
  have hi := List.mem_range.1 hi
  have hm : l.getD i (0, 0) = l[i] := by simp [List.getD, hi]
  obtain ⟨s1, s2, s3, s4⟩ := hl.sp l[i] (List.getElem_mem hi)
  rw [hm]
  unfold perAt
  simp only; omega
abbrev boolL (l : List Bool) : List PV := l.map PV.bool
theorem v3 (kind lag first y c idx : Nat) (ks : List Nat) (hkind : kind < 256) (hlag : lag < 256) (hfirst : first < 65536) (hy : y < 256) (hc : c ≤ 4294967295) (hidx : idx < 256) (hks : ∀ k ∈ ks, k < 256) (hkl : ks.length ≤ 9223372036854775807) :
    VCalls Tryd.prog GW 3 [.int .u8 kind, .int .u8 lag, .int .u16 first, .int .u8 y, .int .u32 c, .int .u8 idx, .list none (ks.map fun (k : Nat) => .int .u8 (k : Int))] (.bool true) := by
  refine VCalls.of_PW Tryd.func3 k3 mix (by simp [c3]) ?_
  simp only [c3, L3, CC, argE]
  have hkm : ((ks.map fun (k : Nat) => PV.int .u8 (k : Int)).length : Nat) = ks.length := by simp
  by_cases h30 : 30 < ks.length
  · have d1 : decide ((30 : Int) < ks.length) = true := by simp only [decide_eq_true_eq]; omega
    repeat' (first | exact True.intro | (refine PW.seqK ?_; intro K hK) | refine stp ?_ | refine seqK_n ‹_› ?_ | refine seqK_r ‹_› ?_ | refine seqK_e ‹_› ?_ | exact schedW_stop_i | refine schK_n ‹_› ?_ | (refine PW.cond rfl ?_ ?_ <;> intro hcond <;> (try contradiction) <;> try simp only [DD] at hcond) | (refine gd_i ?_; intro hg; try simp only [hg]) | (refine ari ?_; first | omega | (simp only [DD, LL] <;> omega) | (go_unwrap; omega)) | ((first | refine stq ?_ | show (_ : Post) _ _ _ | (refine schedW_alt_k ?_ ?_; intro K hK)); focus (simp only [hkm, d1, SA, Nat.reduceAdd, reduceIte, Nat.reduceEqDiff, Nat.reduceBEq, reduceCtorEq]; (try go_unwrap; try simp only [hkm, d1, RR, reduceCtorEq]))) | refine And.intro ?_ ?_ | exact Or.inr ⟨rfl, Nat.le_refl _⟩ | exact (fun h => Bool.noConfusion h))
  have d1 : decide ((30 : Int) < ks.length) = false := by simp only [decide_eq_false_iff_not]; omega
  have r1 : (kind : Int).tmod 3 = ((kind % 3 : Nat) : Int) := by rw [Int.tmod_eq_emod_of_nonneg (by omega)]; omega
  have r2 : (lag : Int).tmod 61 = ((lag % 61 : Nat) : Int) := by rw [Int.tmod_eq_emod_of_nonneg (by omega)]; omega
  have r3 : (y : Int).tmod 100 = ((y % 100 : Nat) : Int) := by rw [Int.tmod_eq_emod_of_nonneg (by omega)]; omega
  have m1 : kind % 3 < 3 := Nat.mod_lt _ (by omega)
  have m2 : lag % 61 < 61 := Nat.mod_lt _ (by omega)
  have m3 : y % 100 < 100 := Nat.mod_lt _ (by omega)
  have u1 := u8w (a := kind % 3) (by omega)
  have u2 := u8w (a := lag % 61) (by omega)
  have u3 := u8w (a := y % 100) (by omega)
  have z1 : ¬ (3 : Int) = 0 := by decide
  have z2 : ¬ (61 : Int) = 0 := by decide
  have z3 : ¬ (100 : Int) = 0 := by decide
  generalize kind % 3 = kk at *
  generalize lag % 61 = gg at *
  generalize y % 100 = yy at *
  have hcal : CalOk ⟨kk, first, gg⟩ := ⟨⟨by simp only; omega, by simp only; omega⟩, ⟨by simp only; omega, by simp only; omega⟩, ⟨by simp only; omega, by simp only; omega⟩⟩
  obtain ⟨l, hl, hlo⟩ := cal_ok hcal m3
  have hl0 : 0 < l.length := List.length_pos_iff.2 hlo.ne
  have hl4 := hlo.len
  have h4 := v4 (G := GW) rfl rfl hcal (y := 2000 + (yy : Int)) (by omega) (okY_at (by omega)) (by have := okY_at (y := yy + 1) (by omega); rwa [show (2000 : Int) + ((yy + 1 : Nat) : Int) = 2000 + (yy : Int) + 1 by omega] at this) hl hl4 (fun s hs => by
    obtain ⟨a1, a2, a3, a4⟩ := hlo.sp s hs
    exact ⟨by omega, by omega, by omega⟩)
  have hpo := pers_ok (c := ⟨kk, first, gg⟩) (y := 2000 + (yy : Int)) hlo
  have hpL := pers_L (c := ⟨kk, first, gg⟩) (y := 2000 + (yy : Int)) hlo
  have hsum := sumC_all ⟨kk, first, gg⟩ (2000 + (yy : Int)) l c hlo.ne
  have hpl : (persM ⟨kk, first, gg⟩ (2000 + (yy : Int)) l).length = l.length := by simp [persM]
  have hsb : ∀ i, sumC c ((persM ⟨kk, first, gg⟩ (2000 + (yy : Int)) l).take i) ≤ c := fun i => by
    have h := List.take_append_drop i (persM ⟨kk, first, gg⟩ (2000 + (yy : Int)) l)
    have h2 := sumC_app c ((persM ⟨kk, first, gg⟩ (2000 + (yy : Int)) l).take i) ((persM ⟨kk, first, gg⟩ (2000 + (yy : Int)) l).drop i)
    rw [h, hsum] at h2
    omega
  have x1 : IntKind.i64.wrap (kk : Int) = kk := IntWalk.i64_in _ (by omega)
  have x2 : IntKind.i64.wrap (gg : Int) = gg := IntWalk.i64_in _ (by omega)
  have x3 : IntKind.i64.wrap (yy : Int) = yy := IntWalk.i64_in _ (by omega)
  have x4 : IntKind.i64.wrap (2000 + (yy : Int)) = 2000 + (yy : Int) := IntWalk.i64_in _ (by omega)
  simp only [calP] at h4
  generalize persM ⟨kk, first, gg⟩ (2000 + (yy : Int)) l = ps at *
  have hpm : ((ps.map perP).length : Nat) = l.length := by simpa using hpl
  have d2 : decide ((l.length : Int) = 0) = false := by simp only [decide_eq_false_iff_not]; omega
  have sa3 : ∀ a b c : Int, setAll (setAll (setAll [PV.int .i64 0, .int .i64 0, .int .i64 0] 0 [PV.int .i64 a]) 1 [PV.int .i64 b]) 2 [PV.int .i64 c] = [PV.int .i64 a, .int .i64 b, .int .i64 c] := fun _ _ _ => rfl
  repeat' (first | exact True.intro | (exact Or.inr ⟨rfl, by decide⟩) | (refine PW.seqK ?_; intro K hK) | refine stp ?_ | refine seqK_n ‹_› ?_ | refine seqK_r ‹_› ?_ | refine seqK_e ‹_› ?_ | exact schedW_stop_i | refine schK_n ‹_› ?_ | (refine PW.cond rfl ?_ ?_ <;> intro hcond <;> (try contradiction) <;> try simp only [DD] at hcond) | (refine gd_i ?_; intro hg; try simp only [hg]) | refine goCall_W e4 (h4) ?_ ?_ ?_ ?_ | (refine ari ?_; first | omega | (simp only [DD, LL] <;> omega) | (go_unwrap; omega)) | ((first | refine stq ?_ | show (_ : Post) _ _ _ | (refine schedW_alt_k ?_ ?_; intro K hK)); focus (simp only [PV.bin, PV.binOk, binI, hkm, d1, r1, r2, r3, u1, u2, u3, x1, x2, x3, x4, z1, z2, z3, d2, hpm, SA, Nat.reduceAdd, reduceIte, Nat.reduceEqDiff, Nat.reduceBEq, reduceCtorEq]; (try go_unwrap; try simp only [PV.bin, PV.binOk, binI, hkm, d1, r1, r2, r3, u1, u2, u3, x1, x2, x3, x4, z1, z2, z3, d2, hpm, RR, reduceCtorEq]))) | refine And.intro ?_ ?_ | exact Or.inr ⟨rfl, Nat.le_refl _⟩ | exact (fun h => Bool.noConfusion h))
  have cw : IntKind.i64.wrap (c : Int) = c := IntWalk.i64_in _ (by omega)
  have sa4 : ∀ (a b : Int), setAll (setAll (setAll [PV.int .i64 0, .int .i64 0, .int .i64 0, .int .i64 0] 0 [PV.int .i64 a, .int .i64 b]) 2 [PV.int .i64 (c : Int)]) 3 [PV.int .i64 1000000] = [PV.int .i64 a, .int .i64 b, .int .i64 c, .int .i64 1000000] := fun _ _ => rfl
  have hsc4 : ∀ (a b e d : Int), ∀ x ∈ [PV.int .i64 a, PV.int .i64 b, PV.int .i64 e, PV.int .i64 d], x.scalar = true := by
    intro a b e d x hx; simp at hx; rcases hx with rfl | rfl | rfl | rfl <;> rfl
  refine PW.trim 0 (fun _ _ => rfl) ?_
  simp only [TT, MObj.kill, PV.kill, Nat.reduceLeDiff, reduceIte]
  refine PW.loopG (σ := Nat) 0 (fun _ _ => rfl) [4, 5, 6, 16, 18, 65, 66, 67] (fun i => [.int .u32 c, .int .u8 idx, .list none (ks.map fun (k : Nat) => .int .u8 (k : Int)), .list (some 6) (ps.map perP), .int .i64 (sumC c (ps.take i)), .list (some 6) (ps.map perP), .int .i64 l.length, .int .i64 i])
    (fun i => []) (fun i => i ≤ l.length) (fun i => l.length - i) 0 ?_ (by first | rfl | simp) (by omega) ?_
  · simp only [SA, Nat.reduceAdd, reduceIte, Nat.reduceEqDiff, Nat.reduceBEq, reduceCtorEq, List.take_zero]; rfl
  intro i hi
  simp only [List.zip_cons_cons, List.zip_nil_left]
  rcases Nat.lt_or_ge i l.length with h | h
  · have hd : decide ((i : Int) < l.length) = true := by simp only [decide_eq_true_eq]; omega
    have hip : i < ps.length := by omega
    have hgp : (ps.map perP).getD i .junk = perP ps[i] := by simp [List.getD, hip]
    have hok := hpo ps[i] (List.getElem_mem hip)
    have hst : sumC c (ps.take (i + 1)) = sumC c (ps.take i) + cM c ps[i] := by rw [List.take_succ_eq_append_getElem hip, sumC_snoc]
    have hb := hsb (i + 1)
    rw [hst] at hb
    have h5 := v5all (G := GW) hok c hc
    have h6 := v6 (G := GW) hok c hc
    generalize ps[i] = p at *
    have hpp : perP p = .agg [.int .i64 p.y, .int .i64 p.i, .int .i64 p.o, .int .i64 p.f, .int .i64 (p.f + p.L), .int .i64 p.pay] := rfl
    rw [hpp] at hgp h5 h6
    generalize sumC c (ps.take i) = s at *
    generalize cM c p = q at *
    have e1 : decide ((q : Int) = q) = true := by simp
    repeat' (first | exact True.intro | exact hsc6 _ _ _ _ _ _ | exact hsc4 _ _ _ _ | (exact Or.inr ⟨rfl, by decide⟩) | (refine PW.seqK ?_; intro K hK) | refine stp ?_ | refine seqK_n ‹_› ?_ | refine seqK_r ‹_› ?_ | refine seqK_e ‹_› ?_ | exact schedW_stop_i | refine schK_n ‹_› ?_ | (refine PW.cond rfl ?_ ?_ <;> intro hcond <;> (try contradiction) <;> try simp only [DD] at hcond) | (refine gd_i ?_; intro hg; try simp only [hg]) | refine goCall_W e5 (h5) ?_ ?_ ?_ ?_ | refine goCall_W e6 (h6) ?_ ?_ ?_ ?_ | (refine ari ?_; first | omega | (simp only [DD, LL] <;> omega) | (go_unwrap; omega)) | ((first | refine stq ?_ | show (_ : Post) _ _ _ | (refine schedW_alt_k ?_ ?_; intro K hK)); focus (simp only [hd, hgp, hpm, cut63, cw, part2, Option.isSome_some, Option.getD_some, sa4, e1, SA, Nat.reduceAdd, reduceIte, Nat.reduceEqDiff, Nat.reduceBEq, reduceCtorEq]; (try go_unwrap; try simp only [hd, hgp, hpm, cut63, cw, part2, Option.isSome_some, Option.getD_some, sa4, e1, RR, reduceCtorEq]))) | refine And.intro ?_ ?_ | exact Or.inr ⟨rfl, Nat.le_refl _⟩ | exact (fun h => Bool.noConfusion h))
    all_goals exact ⟨i + 1, (by rw [hst, Int.natCast_add]; exact (by first | rfl | (simp only [TT, MObj.kill, PV.kill, Nat.reduceLeDiff, reduceIte, Nat.le_refl, Nat.zero_le, Nat.not_le, Nat.lt_irrefl]; done) | (simp [trimE, trimM, MObj.kill, PV.kill]; done))), (by first | rfl | (simp only [TT, MObj.kill, PV.kill, Nat.reduceLeDiff, reduceIte, Nat.le_refl, Nat.zero_le, Nat.not_le, Nat.lt_irrefl]; done) | (simp [trimE, trimM, MObj.kill, PV.kill]; done)), by omega, by omega⟩
  have hd : decide ((i : Int) < l.length) = false := by simp only [decide_eq_false_iff_not]; omega
  rw [List.take_of_length_le (by omega), hsum]
  have hm : idx % l.length < l.length := Nat.mod_lt _ hl0
  have r4 : (idx : Int).tmod l.length = ((idx % l.length : Nat) : Int) := by rw [Int.tmod_eq_emod_of_nonneg (by omega)]; rfl
  have iw : IntKind.i64.wrap (idx : Int) = idx := IntWalk.i64_in _ (by omega)
  have zl : ¬ (l.length : Int) = 0 := by omega
  generalize hj : idx % l.length = j at *
  have x5 : IntKind.i64.wrap (j : Int) = j := IntWalk.i64_in _ (by omega)
  have hjp : j < ps.length := by omega
  have hgp : (ps.map perP).getD j .junk = perP ps[j] := by simp [List.getD, hjp]
  have hok := hpo ps[j] (List.getElem_mem hjp)
  have hpL := hpL ps[j] (List.getElem_mem hjp)
  have h6 := v6 (G := GW) hok c hc
  have h5 := fun A hA1 hA2 hA3 => v5 (G := GW) hok c hc A hA1 hA2 hA3
  generalize ps[j] = p at *
  have hpp : perP p = .agg [.int .i64 p.y, .int .i64 p.i, .int .i64 p.o, .int .i64 p.f, .int .i64 (p.f + p.L), .int .i64 p.pay] := rfl
  rw [hpp] at hgp h6
  simp only [hpp] at h5
  have hL := hok.l0
  have hL2 := hok.l2
  have hf := hok.f
  have hfl : IntKind.i64.wrap (p.f + (p.L : Int) - p.f) = p.L := (IntWalk.i64_in _ (by omega)).trans (by omega)
  have hT : ∀ a b e d f g : PV, sub none [a, b, e, d, f, g] 3 = d := fun _ _ _ _ _ _ => rfl
  have hT2 : ∀ a b e d f g : PV, sub none [a, b, e, d, f, g] 4 = f := fun _ _ _ _ _ _ => rfl
  clear h4 hpo hsum hsb r1 r2 r3 u1 u2 u3 x1 x2 x3 x4 hcal hl hlo
  repeat' (first | exact True.intro | exact hsc6 _ _ _ _ _ _ | (exact Or.inr ⟨rfl, by decide⟩) | (refine PW.seqK ?_; intro K hK) | refine stp ?_ | refine seqK_n ‹_› ?_ | refine seqK_r ‹_› ?_ | refine seqK_e ‹_› ?_ | exact schedW_stop_i | refine schK_n ‹_› ?_ | (refine PW.cond rfl ?_ ?_ <;> intro hcond <;> (try contradiction) <;> try simp only [DD] at hcond) | (refine gd_i ?_; intro hg; try simp only [hg]) | (refine ari ?_; first | omega | (simp only [DD, LL] <;> omega) | (go_unwrap; omega)) | ((first | refine stq ?_ | show (_ : Post) _ _ _ | (refine schedW_alt_k ?_ ?_; intro K hK)); focus (simp only [PV.bin, PV.binOk, binI, hd, hpm, iw, r4, zl, x5, hgp, hT, hT2, hfl, SA, Nat.reduceAdd, reduceIte, Nat.reduceEqDiff, Nat.reduceBEq, reduceCtorEq]; (try go_unwrap; try simp only [PV.bin, PV.binOk, binI, hd, hpm, iw, r4, zl, x5, hgp, hT, hT2, hfl, RR, reduceCtorEq]))) | refine And.intro ?_ ?_ | exact Or.inr ⟨rfl, Nat.le_refl _⟩ | exact (fun h => Bool.noConfusion h))
  refine PW.own none 26 rfl ?_
  refine PW.loopG (σ := Nat) 2 (fun _ _ => rfl) [4, 6, 18, 25, 26, 118, 119] (fun i => [.int .u32 c, .list none (ks.map fun (k : Nat) => .int .u8 (k : Int)), .int .i64 c, .ref 0 0, .sl none 1 i, .int .i64 p.L, .int .i64 i])
    (fun i => [some (.var (some 6) (.agg [.int .i64 p.y, .int .i64 p.i, .int .i64 p.o, .int .i64 p.f, .int .i64 (p.f + p.L), .int .i64 p.pay])), some (.row none (boolL (List.replicate i false)))]) (fun i => i ≤ p.L) (fun i => p.L - i) 0 ?_ (by first | rfl | simp) (by omega) ?_
  · simp only [SA, Nat.reduceAdd, reduceIte, Nat.reduceEqDiff, Nat.reduceBEq, reduceCtorEq]; rfl
  clear hi hd h
  intro i hi
  simp only [List.zip_cons_cons, List.zip_nil_left]
  rcases Nat.lt_or_ge i p.L with h | h
  · have hd : decide ((i : Int) < p.L) = true := by simp only [decide_eq_true_eq]; omega
    have hRl : ((boolL (List.replicate i false)).length : Nat) = i := by simp
    have hRt : (boolL (List.replicate i false)).take i = boolL (List.replicate i false) := List.take_of_length_le (by simp)
    have hst : boolL (List.replicate (i + 1) false) = boolL (List.replicate i false) ++ [.bool false] := by rw [List.replicate_succ']; simp
    have b1 : (i + 1) * 1 ≤ 281474976710656 := by omega
    generalize boolL (List.replicate i false) = R at *
    repeat' (first | exact True.intro | (exact Or.inr ⟨rfl, by decide⟩) | (refine PW.seqK ?_; intro K hK) | refine stp ?_ | refine seqK_n ‹_› ?_ | refine seqK_r ‹_› ?_ | refine seqK_e ‹_› ?_ | exact schedW_stop_i | refine schK_n ‹_› ?_ | (refine PW.cond rfl ?_ ?_ <;> intro hcond <;> (try contradiction) <;> try simp only [DD] at hcond) | (refine gd_i ?_; intro hg; try simp only [hg]) | (refine ari ?_; first | omega | (simp only [DD, LL] <;> omega) | (go_unwrap; omega)) | ((first | refine stq ?_ | show (_ : Post) _ _ _ | (refine schedW_alt_k ?_ ?_; intro K hK)); focus (simp only [hd, hRl, hRt, List.length_cons, List.length_nil, Nat.zero_add, SA, Nat.reduceAdd, reduceIte, Nat.reduceEqDiff, Nat.reduceBEq, reduceCtorEq]; (try go_unwrap; try simp only [hd, hRl, hRt, List.length_cons, List.length_nil, Nat.zero_add, RR, reduceCtorEq]))) | refine And.intro ?_ ?_ | exact Or.inr ⟨rfl, Nat.le_refl _⟩ | exact (fun h => Bool.noConfusion h))
    all_goals exact ⟨i + 1, (by first | rfl | (simp only [TT, MObj.kill, PV.kill, Nat.reduceLeDiff, reduceIte, Nat.le_refl, Nat.zero_le, Nat.not_le, Nat.lt_irrefl]; done) | (simp [trimE, trimM, MObj.kill, PV.kill]; done)), (by rw [hst]; exact (by first | rfl | (simp only [TT, MObj.kill, PV.kill, Nat.reduceLeDiff, reduceIte, Nat.le_refl, Nat.zero_le, Nat.not_le, Nat.lt_irrefl]; done) | (simp [trimE, trimM, MObj.kill, PV.kill]; done))), by omega, by omega⟩
  have hd : decide ((i : Int) < p.L) = false := by simp only [decide_eq_false_iff_not]; omega
  obtain rfl : i = p.L := by omega
  have dL : decide ((p.L : Int) = 0) = false := by simp only [decide_eq_false_iff_not]; omega
  have hrl : ((boolL (List.replicate p.L false)).length : Nat) = p.L := by simp
  repeat' (first | exact True.intro | (refine PW.seqK ?_; intro K hK) | refine stp ?_ | refine seqK_n ‹_› ?_ | refine seqK_r ‹_› ?_ | refine seqK_e ‹_› ?_ | exact schedW_stop_i | refine schK_n ‹_› ?_ | (refine PW.cond rfl ?_ ?_ <;> intro hcond <;> (try contradiction) <;> try simp only [DD] at hcond) | (refine gd_i ?_; intro hg; try simp only [hg]) | (refine ari ?_; first | omega | (simp only [DD, LL] <;> omega) | (go_unwrap; omega)) | ((first | refine stq ?_ | show (_ : Post) _ _ _ | (refine schedW_alt_k ?_ ?_; intro K hK)); focus (simp only [hd, dL, hrl, hkm, SA, Nat.reduceAdd, reduceIte, Nat.reduceEqDiff, Nat.reduceBEq, reduceCtorEq]; (try go_unwrap; try simp only [hd, dL, hrl, hkm, RR, reduceCtorEq]))) | refine And.intro ?_ ?_ | exact Or.inr ⟨rfl, Nat.le_refl _⟩ | exact (fun h => Bool.noConfusion h))
  refine PW.loopG (σ := Nat × List Bool) 2 (fun _ _ => rfl) [4, 18, 25, 26, 128, 129, 130] (fun s => [.int .u32 c, .int .i64 c, .ref 0 0, .sl none 1 p.L, .list none (ks.map fun (k : Nat) => .int .u8 (k : Int)), .int .i64 ks.length, .int .i64 s.1])
    (fun s => [some (.var (some 6) (.agg [.int .i64 p.y, .int .i64 p.i, .int .i64 p.o, .int .i64 p.f, .int .i64 (p.f + p.L), .int .i64 p.pay])), some (.row none (boolL s.2))]) (fun s => s.1 ≤ ks.length ∧ s.2.length = p.L) (fun s => ks.length - s.1) (0, List.replicate p.L false) ?_ (by first | rfl | simp) ⟨by simp, by simp⟩ ?_
  · simp only [SA, Nat.reduceAdd, reduceIte, Nat.reduceEqDiff, Nat.reduceBEq, reduceCtorEq]; rfl
  clear hi hd h hrl
  rintro ⟨i, A⟩ ⟨hi, hA⟩
  simp only at hi hA
  simp only [List.zip_cons_cons, List.zip_nil_left]
  have hAl : ((boolL A).length : Nat) = p.L := by simpa using hA
  have hAt : (boolL A).take p.L = boolL A := List.take_of_length_le (by omega)
  rcases Nat.lt_or_ge i ks.length with h | h
  · have hd : decide ((i : Int) < ks.length) = true := by simp only [decide_eq_true_eq]; omega
    obtain ⟨k, -, hn, hg⟩ := drop_at h
    have hgk := (hg fun (k : Nat) => PV.int .u8 (k : Int)).1
    have hk := hks k (List.mem_of_getElem? hn)
    have rk : (k : Int).tmod p.L = ((k % p.L : Nat) : Int) := by rw [Int.tmod_eq_emod_of_nonneg (by omega)]; rfl
    have kw : IntKind.i64.wrap (k : Int) = k := IntWalk.i64_in _ (by omega)
    have km : k % p.L < p.L := Nat.mod_lt _ hL
    have zk : ¬ (p.L : Int) = 0 := by omega
    generalize k % p.L = m at *
    have mw : IntKind.i64.wrap (m : Int) = m := IntWalk.i64_in _ (by omega)
    have hst : (boolL A).set m (.bool true) = boolL (A.set m true) := by simp [List.map_set]
    repeat' (first | exact True.intro | (exact Or.inr ⟨rfl, by decide⟩) | (refine PW.seqK ?_; intro K hK) | refine stp ?_ | refine seqK_n ‹_› ?_ | refine seqK_r ‹_› ?_ | refine seqK_e ‹_› ?_ | exact schedW_stop_i | refine schK_n ‹_› ?_ | (refine PW.cond rfl ?_ ?_ <;> intro hcond <;> (try contradiction) <;> try simp only [DD] at hcond) | (refine gd_i ?_; intro hg; try simp only [hg]) | (refine ari ?_; first | omega | (simp only [DD, LL] <;> omega) | (go_unwrap; omega)) | ((first | refine stq ?_ | show (_ : Post) _ _ _ | (refine schedW_alt_k ?_ ?_; intro K hK)); focus (simp only [PV.bin, PV.binOk, binI, hd, hgk, hAl, hkm, rk, kw, zk, mw, hst, SA, Nat.reduceAdd, reduceIte, Nat.reduceEqDiff, Nat.reduceBEq, reduceCtorEq]; (try go_unwrap; try simp only [PV.bin, PV.binOk, binI, hd, hgk, hAl, hkm, rk, kw, zk, mw, hst, RR, reduceCtorEq]))) | refine And.intro ?_ ?_ | exact Or.inr ⟨rfl, Nat.le_refl _⟩ | exact (fun h => Bool.noConfusion h))
    all_goals exact ⟨(i + 1, A.set m true), (by first | rfl | (simp only [TT, MObj.kill, PV.kill, Nat.reduceLeDiff, reduceIte, Nat.le_refl, Nat.zero_le, Nat.not_le, Nat.lt_irrefl]; done) | (simp [trimE, trimM, MObj.kill, PV.kill]; done)), (by first | rfl | (simp only [TT, MObj.kill, PV.kill, Nat.reduceLeDiff, reduceIte, Nat.le_refl, Nat.zero_le, Nat.not_le, Nat.lt_irrefl]; done) | (simp [trimE, trimM, MObj.kill, PV.kill]; done)), ⟨h, by simp [hA]⟩, by simp only; omega⟩
  have hd : decide ((i : Int) < ks.length) = false := by simp only [decide_eq_false_iff_not]; omega
  repeat' (first | exact True.intro | (refine PW.stop (x := .seq (.region false (⟨some 29, none, .rd .mov [.pv .nilSl]⟩ :: _) _) _) ?_) | (refine PW.seqK ?_; intro K hK) | refine stp ?_ | refine seqK_n ‹_› ?_ | refine seqK_r ‹_› ?_ | refine seqK_e ‹_› ?_ | exact schedW_stop_i | refine schK_n ‹_› ?_ | (refine PW.cond rfl ?_ ?_ <;> intro hcond <;> (try contradiction) <;> try simp only [DD] at hcond) | (refine gd_i ?_; intro hg; try simp only [hg]) | (refine ari ?_; first | omega | (simp only [DD, LL] <;> omega) | (go_unwrap; omega)) | ((first | refine stq ?_ | show (_ : Post) _ _ _ | (refine schedW_alt_k ?_ ?_; intro K hK)); focus (simp only [hd, SA, Nat.reduceAdd, reduceIte, Nat.reduceEqDiff, Nat.reduceBEq, reduceCtorEq]; (try go_unwrap; try simp only [hd, RR, reduceCtorEq]))) | refine And.intro ?_ ?_ | exact Or.inr ⟨rfl, Nat.le_refl _⟩ | exact (fun h => Bool.noConfusion h))
  refine ⟨?_⟩
  refine PW.frz 1 (.row none (boolL A)) ?_ ?_ ?_
  · rfl
  · rfl
  simp only [SA, Nat.reduceAdd, reduceIte, Nat.reduceEqDiff, Nat.reduceBEq, reduceCtorEq, PV.frz, MObj.frz, frzM, frzSl, hAl, hAt, Nat.le_refl, and_self, if_true]
  repeat' (first | exact True.intro | (exact Or.inr ⟨rfl, by decide⟩) | (refine PW.seqK ?_; intro K hK) | refine stp ?_ | refine seqK_n ‹_› ?_ | refine seqK_r ‹_› ?_ | refine seqK_e ‹_› ?_ | exact schedW_stop_i | refine schK_n ‹_› ?_ | (refine PW.cond rfl ?_ ?_ <;> intro hcond <;> (try contradiction) <;> try simp only [DD] at hcond) | (refine gd_i ?_; intro hg; try simp only [hg]) | (refine ari ?_; first | omega | (simp only [DD, LL] <;> omega) | (go_unwrap; omega)) | ((first | refine stq ?_ | show (_ : Post) _ _ _ | (refine schedW_alt_k ?_ ?_; intro K hK)); focus (simp only [hT, hAl, SA, Nat.reduceAdd, reduceIte, Nat.reduceEqDiff, Nat.reduceBEq, reduceCtorEq]; (try go_unwrap; try simp only [hT, hAl, RR, reduceCtorEq]))) | refine And.intro ?_ ?_ | exact Or.inr ⟨rfl, Nat.le_refl _⟩ | exact (fun h => Bool.noConfusion h))
  have sa42 : ∀ (a b : Int), setAll [PV.int .i64 a, .int .i64 0] 1 [PV.int .i64 b] = [PV.int .i64 a, .int .i64 b] := fun _ _ => rfl
  have hpf : ∀ x : Nat × Nat, pieP p.f x.1 x.2 c = .agg [.int .i64 (p.f + (x.1 : Int)), .int .i64 (p.f + (x.2 : Int)), .int .i64 c, .int .i64 1000000] := fun _ => rfl
  have hpo5 := pieces_ok A (by omega)
  have hpm5 : piecesM A = (cutM A p.L).2 ++ [((cutM A p.L).1, p.L)] := by unfold piecesM; rw [hA]
  have hcl := fun i => (cutM_ok A i)
  refine PW.own (some 4) 29 rfl ?_
  refine PW.loopG (σ := Nat) 3 (fun _ _ => rfl) [4, 18, 25, 26, 29, 30, 146, 147] (fun i => [.int .u32 c, .int .i64 c, .ref 0 0, .list none (boolL A), .sl (some 4) 2 (cutM A i).2.length, .int .i64 (p.f + ((cutM A i).1 : Int)), .int .i64 p.L, .int .i64 i])
    (fun i => [some (.var (some 6) (.agg [.int .i64 p.y, .int .i64 p.i, .int .i64 p.o, .int .i64 p.f, .int .i64 (p.f + p.L), .int .i64 p.pay])), none, some (.row (some 4) ((cutM A i).2.map fun x => pieP p.f x.1 x.2 c))]) (fun i => i ≤ p.L) (fun i => p.L - i) 0 ?_ (by first | rfl | simp [cutM]) (by omega) ?_
  · simp only [SA, Nat.reduceAdd, reduceIte, Nat.reduceEqDiff, Nat.reduceBEq, reduceCtorEq, cutM, Int.natCast_zero, Int.add_zero]; rfl
  clear hi hd h
  intro i hi
  simp only [List.zip_cons_cons, List.zip_nil_left]
  obtain ⟨-, -, hc3, hc4, hc5, -⟩ := hcl i
  have hst : cutM A (i + 1) = cutStep A (cutM A i) i := rfl
  rcases Nat.lt_or_ge i p.L with h | h
  · have hd : decide ((i : Int) < p.L) = true := by simp only [decide_eq_true_eq]; omega
    have hga : (boolL A).getD i .junk = .bool (A.getD i false) := by simp [List.getD, show i < A.length by omega]
    unfold cutStep at hst
    generalize hC : cutM A i = C at *
    obtain ⟨u, B⟩ := C
    simp only at hc3 hc4 hc5 hst ⊢
    have hBl : ((B.map fun x => pieP p.f x.1 x.2 c).length : Nat) = B.length := by simp
    have hBt : (B.map fun x => pieP p.f x.1 x.2 c).take B.length = B.map fun x => pieP p.f x.1 x.2 c := List.take_of_length_le (by simp)
    have wd : IntKind.i64.wrap (p.f + (i : Int)) = p.f + i := IntWalk.i64_in _ (by omega)
    generalize A.getD i false = b at *
    by_cases hh : b = true ∧ u < i
    · rw [if_pos hh] at hst
      obtain ⟨rfl, hu⟩ := hh
      have d5 : decide (p.f + (u : Int) < p.f + (i : Int)) = true := by simp only [decide_eq_true_eq]; omega
      have hmp : (B ++ [(u, i)]).map (fun x => pieP p.f x.1 x.2 c) = B.map (fun x => pieP p.f x.1 x.2 c) ++ [.agg [.int .i64 (p.f + (u : Int)), .int .i64 (p.f + (i : Int)), .int .i64 c, .int .i64 1000000]] := by simp [pieP]
      generalize B.map (fun x => pieP p.f x.1 x.2 c) = R at *
      have b1 : (B.length + 1) * 32 ≤ 281474976710656 := by omega
      repeat' (first | exact True.intro | exact hsc4 _ _ _ _ | (exact Or.inr ⟨rfl, by decide⟩) | (refine PW.seqK ?_; intro K hK) | refine stp ?_ | refine seqK_n ‹_› ?_ | refine seqK_r ‹_› ?_ | refine seqK_e ‹_› ?_ | exact schedW_stop_i | refine schK_n ‹_› ?_ | (refine PW.cond rfl ?_ ?_ <;> intro hcond <;> (try contradiction) <;> try simp only [DD] at hcond) | (refine gd_i ?_; intro hg; try simp only [hg]) | (refine ari ?_; first | omega | (simp only [DD, LL] <;> omega) | (go_unwrap; omega)) | ((first | refine stq ?_ | show (_ : Post) _ _ _ | (refine schedW_alt_k ?_ ?_; intro K hK)); focus (simp only [hd, hga, hAl, hT, wd, d5, cw, hBl, hBt, sa42, part2, Option.isSome_some, Option.getD_some, sa4, List.length_cons, List.length_nil, Nat.zero_add, SA, Nat.reduceAdd, reduceIte, Nat.reduceEqDiff, Nat.reduceBEq, reduceCtorEq]; (try go_unwrap; try simp only [hd, hga, hAl, hT, wd, d5, cw, hBl, hBt, sa42, part2, Option.isSome_some, Option.getD_some, sa4, List.length_cons, List.length_nil, Nat.zero_add, RR, reduceCtorEq]))) | refine And.intro ?_ ?_ | exact Or.inr ⟨rfl, Nat.le_refl _⟩ | exact (fun h => Bool.noConfusion h))
      all_goals exact ⟨i + 1, (by rw [hst]; simp only [List.length_append, List.length_cons, List.length_nil]; exact (by first | rfl | (simp only [TT, MObj.kill, PV.kill, Nat.reduceLeDiff, reduceIte, Nat.le_refl, Nat.zero_le, Nat.not_le, Nat.lt_irrefl]; done) | (simp [trimE, trimM, MObj.kill, PV.kill]; done))), (by rw [hst]; simp only [hmp]; exact (by first | rfl | (simp only [TT, MObj.kill, PV.kill, Nat.reduceLeDiff, reduceIte, Nat.le_refl, Nat.zero_le, Nat.not_le, Nat.lt_irrefl]; done) | (simp [trimE, trimM, MObj.kill, PV.kill]; done))), by omega, by omega⟩
    · rw [if_neg hh] at hst
      have d5 : (b && decide (p.f + (u : Int) < p.f + (i : Int))) = false := by
        rw [Bool.and_eq_false_iff, decide_eq_false_iff_not]
        cases b
        · exact .inl rfl
        · exact .inr (by simp only [true_and] at hh; omega)
      generalize hR : B.map (fun x => pieP p.f x.1 x.2 c) = R at *
      repeat' (first | exact True.intro | (exact Or.inr ⟨rfl, by decide⟩) | (refine PW.seqK ?_; intro K hK) | refine stp ?_ | refine seqK_n ‹_› ?_ | refine seqK_r ‹_› ?_ | refine seqK_e ‹_› ?_ | exact schedW_stop_i | refine schK_n ‹_› ?_ | (refine PW.cond rfl ?_ ?_ <;> intro hcond <;> (try contradiction) <;> try simp only [DD] at hcond) | (refine gd_i ?_; intro hg; try simp only [hg]) | (refine ari ?_; first | omega | (simp only [DD, LL] <;> omega) | (go_unwrap; omega)) | ((first | refine stq ?_ | show (_ : Post) _ _ _ | (refine schedW_alt_k ?_ ?_; intro K hK)); focus (simp only [hd, hga, hAl, hT, wd, d5, SA, Nat.reduceAdd, reduceIte, Nat.reduceEqDiff, Nat.reduceBEq, reduceCtorEq]; (try go_unwrap; try simp only [hd, hga, hAl, hT, wd, d5, RR, reduceCtorEq]))) | refine And.intro ?_ ?_ | exact Or.inr ⟨rfl, Nat.le_refl _⟩ | exact (fun h => Bool.noConfusion h))
      all_goals exact ⟨i + 1, (by rw [hst]; exact (by first | rfl | (simp only [TT, MObj.kill, PV.kill, Nat.reduceLeDiff, reduceIte, Nat.le_refl, Nat.zero_le, Nat.not_le, Nat.lt_irrefl]; done) | (simp [trimE, trimM, MObj.kill, PV.kill]; done))), (by rw [hst]; simp only [hR]; exact (by first | rfl | (simp only [TT, MObj.kill, PV.kill, Nat.reduceLeDiff, reduceIte, Nat.le_refl, Nat.zero_le, Nat.not_le, Nat.lt_irrefl]; done) | (simp [trimE, trimM, MObj.kill, PV.kill]; done))), by omega, by omega⟩
  have hd : decide ((i : Int) < p.L) = false := by simp only [decide_eq_false_iff_not]; omega
  obtain rfl : i = p.L := by omega
  have hc4 := hc4 hL
  have h5 := h5 (piecesM A) (by have := hpo5.2.2.1; omega) hpo5.1 (by rw [← hA]; exact hpo5.2.2.2)
  rw [hpo5.2.1, hA, upM_all _ hL] at h5
  rw [hpm5] at h5
  clear hst hpo5 hpm5 hcl
  generalize hC : cutM A p.L = C at *
  obtain ⟨u, B⟩ := C
  simp only at hc3 hc4 hc5 h5 ⊢
  have hBl : ((B.map fun x => pieP p.f x.1 x.2 c).length : Nat) = B.length := by simp
  have hBt : (B.map fun x => pieP p.f x.1 x.2 c).take B.length = B.map fun x => pieP p.f x.1 x.2 c := List.take_of_length_le (by simp)
  have hmp : (B ++ [(u, p.L)]).map (fun x => pieP p.f x.1 x.2 c) = B.map (fun x => pieP p.f x.1 x.2 c) ++ [.agg [.int .i64 (p.f + (u : Int)), .int .i64 (p.f + (p.L : Int)), .int .i64 c, .int .i64 1000000]] := by simp [pieP]
  simp only [piesP] at h5
  rw [hmp] at h5
  generalize B.map (fun x => pieP p.f x.1 x.2 c) = R at *
  have b1 : (B.length + 1) * 32 ≤ 281474976710656 := by omega
  repeat' (first | exact True.intro | exact hsc4 _ _ _ _ | (exact Or.inr ⟨rfl, by decide⟩) | (refine PW.stop (x := .seq (.region false (⟨some 187, none, .rd (.load (some 6)) [.tmp 25]⟩ :: _) _) _) ?_) | (refine PW.seqK ?_; intro K hK) | refine stp ?_ | refine seqK_n ‹_› ?_ | refine seqK_r ‹_› ?_ | refine seqK_e ‹_› ?_ | exact schedW_stop_i | refine schK_n ‹_› ?_ | (refine PW.cond rfl ?_ ?_ <;> intro hcond <;> (try contradiction) <;> try simp only [DD] at hcond) | (refine gd_i ?_; intro hg; try simp only [hg]) | (refine ari ?_; first | omega | (simp only [DD, LL] <;> omega) | (go_unwrap; omega)) | ((first | refine stq ?_ | show (_ : Post) _ _ _ | (refine schedW_alt_k ?_ ?_; intro K hK)); focus (simp only [hd, hT, hT2, cw, hBl, hBt, sa42, part2, Option.isSome_some, Option.getD_some, sa4, List.length_cons, List.length_nil, Nat.zero_add, SA, Nat.reduceAdd, reduceIte, Nat.reduceEqDiff, Nat.reduceBEq, reduceCtorEq]; (try go_unwrap; try simp only [hd, hT, hT2, cw, hBl, hBt, sa42, part2, Option.isSome_some, Option.getD_some, sa4, List.length_cons, List.length_nil, Nat.zero_add, RR, reduceCtorEq]))) | refine And.intro ?_ ?_ | exact Or.inr ⟨rfl, Nat.le_refl _⟩ | exact (fun h => Bool.noConfusion h))
  refine ⟨?_⟩
  have hQl : ((R ++ [.agg [.int .i64 (p.f + (u : Int)), .int .i64 (p.f + (p.L : Int)), .int .i64 c, .int .i64 1000000]] : List PV).length : Nat) = B.length + 1 := by simp [hBl]
  generalize (R ++ [.agg [.int .i64 (p.f + (u : Int)), .int .i64 (p.f + (p.L : Int)), .int .i64 c, .int .i64 1000000]] : List PV) = Q at *
  have hQt : Q.take (B.length + 1) = Q := List.take_of_length_le (by omega)
  refine PW.frz 2 (.row (some 4) Q) ?_ ?_ ?_
  · rfl
  · rfl
  simp only [SA, Nat.reduceAdd, reduceIte, Nat.reduceEqDiff, Nat.reduceBEq, reduceCtorEq, PV.frz, MObj.frz, frzM, frzSl, hQl, hQt, Nat.le_refl, and_self, if_true]
  have e1 : decide ((c : Int) = c) = true := by simp
  generalize cM c p = q at *
  have e2 : decide ((q : Int) = q) = true := by simp
  repeat' (first | exact True.intro | (exact Or.inr ⟨rfl, by decide⟩) | (refine PW.seqK ?_; intro K hK) | refine stp ?_ | refine seqK_n ‹_› ?_ | refine seqK_r ‹_› ?_ | refine seqK_e ‹_› ?_ | exact schedW_stop_i | refine schK_n ‹_› ?_ | (refine PW.cond rfl ?_ ?_ <;> intro hcond <;> (try contradiction) <;> try simp only [DD] at hcond) | (refine gd_i ?_; intro hg; try simp only [hg]) | refine goCall_W e5 (h5) ?_ ?_ ?_ ?_ | refine goCall_W e6 (h6) ?_ ?_ ?_ ?_ | (refine ari ?_; first | omega | (simp only [DD, LL] <;> omega) | (go_unwrap; omega)) | ((first | refine stq ?_ | show (_ : Post) _ _ _ | (refine schedW_alt_k ?_ ?_; intro K hK)); focus (simp only [cw, e1, e2, SA, Nat.reduceAdd, reduceIte, Nat.reduceEqDiff, Nat.reduceBEq, reduceCtorEq]; (try go_unwrap; try simp only [cw, e1, e2, RR, reduceCtorEq]))) | refine And.intro ?_ ?_ | exact Or.inr ⟨rfl, Nat.le_refl _⟩ | exact (fun h => Bool.noConfusion h))
end Go.Proofs.YtedjaohonijemaaDoor

namespace Go.Proofs.YtedjaohonijemaaDoor
open Go PG Go.Proofs
set_option linter.unusedSimpArgs false
set_option linter.unusedVariables false
set_option maxRecDepth 100000
theorem own : ownKnob Tryd.prog.godebug = none := by kernel_rfl
theorem laidOut : laidOutB Tryd.prog = true := by kernel_rfl
theorem gMon : Tryd.prog.globalNamed "wagebook/civil.lengths" = some 1 := by kernel_rfl
theorem gPer : Tryd.prog.globalNamed "wagebook/period.lengths" = some 0 := by kernel_rfl
abbrev laid1 : List (String × DataW Unit) := [("wagebook/civil.lengths", Rows.laid_wagebook_civil_lengths), ("wagebook/period.lengths", Rows.laid_wagebook_period_lengths)]
theorem globs0 {W : World} (h : laidMetH Tryd.prog laid1 W) : GlobsIn W (fun _ => False) GW := by
  rw [MakeChecks.laidMetH_plain _ _ _ (by kernel_rfl)] at h
  obtain ⟨ps, h, _, _⟩ := h
  have h0 : (Rows.laid_wagebook_civil_lengths : DataW Unit) = .agg ((monTab.map (PV.int .i64)).map datOf) := rfl
  have h1 : (Rows.laid_wagebook_period_lengths : DataW Unit) = .agg ((perTab.map (PV.int .i64)).map datOf) := rfl
  unfold laid1 at h
  have hk := h
  rw [h0] at hk
  have hK := tab_rep gMon (t := 99) (e := 3) (n := 12) (by kernel_rfl) (by kernel_rfl) (.inl ⟨.i64, Tryd.underlying3⟩) (by kernel_rfl) (by kernel_rfl) (by decide) (by decide) hk
  obtain ⟨g', t', cs, fuel, p, q, hg', ht', hvar, hd, hrest, hrest2⟩ := h
  have hw : ∃ qs, DataW.LaidVars Tryd.prog W [("wagebook/period.lengths", Rows.laid_wagebook_period_lengths)] qs := ⟨_, by first | exact hrest | exact hrest2 | exact hrest.1 | exact hrest2.1⟩
  obtain ⟨qs, hw⟩ := hw
  rw [h1] at hw
  have hW := tab_rep gPer (t := 82) (e := 25) (n := 3) (by kernel_rfl) (by kernel_rfl) (.inl ⟨.i64, Tryd.underlying25⟩) (by kernel_rfl) (by kernel_rfl) (by decide) (by decide) hw
  intro g sh x hg
  unfold GW at hg
  split at hg
  · rename_i e
    subst e
    simp only [Option.some.injEq, Prod.mk.injEq] at hg
    obtain ⟨rfl, rfl⟩ := hg
    exact hW
  · split at hg
    · rename_i e
      subst e
      simp only [Option.some.injEq, Prod.mk.injEq] at hg
      obtain ⟨rfl, rfl⟩ := hg
      exact hK
    · cases hg
theorem door_met1 (os : Os) (args : Array Value) : laidMetH Tryd.prog laid1 ((World.doorLaid Tryd.prog 400 os).forCall (fun _ _ => 0) ⟨#[], args, []⟩).memory :=
  laidMetH_of_parts3 (fuel := 8) (laidMet_of_run' 8 (by kernel_rfl) (by kernel_rfl)) (by kernel_rfl) (by kernel_rfl)
theorem read_u8 {n : Nat} {p : PV} (h : ShA Tryd.prog (n + 1) 5 p) : ∃ x : Nat, p = .int .u8 x ∧ x < 256 := by
  obtain ⟨m, e1, h1, h2⟩ := shC_int (P := Tryd.prog) (n := n) (k := .u8) Tryd.underlying5 (by unfold ShA at h; rw [Tryd.underlying5] at h; exact h)
  cases e1
  have h1 : 0 ≤ m := h1
  have h2 : m ≤ 255 := h2
  exact ⟨m.toNat, by rw [Int.toNat_of_nonneg h1], by omega⟩
theorem read_u16 {n : Nat} {p : PV} (h : ShA Tryd.prog (n + 1) 22 p) : ∃ x : Nat, p = .int .u16 x ∧ x < 65536 := by
  obtain ⟨m, e1, h1, h2⟩ := shC_int (P := Tryd.prog) (n := n) (k := .u16) Tryd.underlying22 (by unfold ShA at h; rw [Tryd.underlying22] at h; exact h)
  cases e1
  have h1 : 0 ≤ m := h1
  have h2 : m ≤ 65535 := h2
  exact ⟨m.toNat, by rw [Int.toNat_of_nonneg h1], by omega⟩
theorem read_u32 {n : Nat} {p : PV} (h : ShA Tryd.prog (n + 1) 23 p) : ∃ x : Nat, p = .int .u32 x ∧ x ≤ 4294967295 := by
  obtain ⟨m, e1, h1, h2⟩ := shC_int (P := Tryd.prog) (n := n) (k := .u32) Tryd.underlying23 (by unfold ShA at h; rw [Tryd.underlying23] at h; exact h)
  cases e1
  have h1 : 0 ≤ m := h1
  have h2 : m ≤ 4294967295 := h2
  exact ⟨m.toNat, by rw [Int.toNat_of_nonneg h1], by omega⟩
theorem read_bytes {n : Nat} {p : PV} (h : ShA Tryd.prog (n + 2) 24 p) : ∃ l : List Nat, p = .list none (l.map fun (k : Nat) => .int .u8 (k : Int)) ∧ (∀ k ∈ l, k < 256) ∧ l.length ≤ 9223372036854775807 := by
  obtain ⟨sh, xs, hs, rfl, b, hx⟩ := shA_slice Tryd.underlying24 h
  have hsh : shOf Tryd.prog 5 = some none := by kernel_rfl
  obtain rfl := Option.some.inj (hsh.symm.trans hs)
  obtain ⟨l, rfl, hl⟩ := list_of (fun k : Nat => PV.int .u8 (k : Int)) (fun k => k < 256) (xs := xs) (fun x hx' => by
    obtain ⟨f1, f2⟩ := hx x hx'
    rw [fits_cells f1] at f2
    obtain ⟨m, e1, h1, h2⟩ := shC_int (k := .u8) Tryd.underlying5 f2
    cases e1
    have h1 : 0 ≤ m := h1
    have h2 : m ≤ 255 := h2
    exact ⟨m.toNat, by rw [Int.toNat_of_nonneg h1], by omega⟩)
  exact ⟨l, rfl, hl, by simpa using b⟩
end Go.Proofs.YtedjaohonijemaaDoor

