import Derived.Test.YthjkmhfiffojeaaGreatDoorRows
import Derived.LaidMore
import Derived.Stop.Joined
import Derived.Test.YthjkmhfiffojeaaGreatDoorQ24
namespace Go.Proofs.YthjkmhfiffojeaaGreatDoor
open Go PG Go.Proofs
open Nat (reduceAdd reduceEqDiff)
set_option linter.unusedSimpArgs false
set_option linter.unusedVariables false
set_option maxHeartbeats 4000000
set_option maxRecDepth 100000
theorem jFA {P : Program} {G : jA3} {mv : Nat -> Bool} {env : Env} {μ : Mem} {d : Option Nat} {rest : List CO} {K : Env -> Mem -> Prop} {f : Nat} {ps qs xs xs' : List PV} {R : PV -> Mem -> Prop} (hE : Ent P f) (hV : jEW P G f xs' R) (ha : ps ++ xs ++ qs = xs') (hs : (xs'.map PV.jA5).all id = true)
  (h : ∀ p ν, R p ν -> jDG P G false mv rest (jGR env d (p.shift μ.length)) (μ ++ ν.map (Option.map (jAF.shift μ.length))) K) : jG6 P G false mv d rest env K μ (.fn f ps qs) xs := by
 subst ha
 refine .inr ⟨rfl, hE, .inl ⟨_, hV.lift hs, ?_⟩⟩
 rintro p μ' ⟨p', ν', hR, rfl, rfl⟩
 exact ⟨trivial, h _ _ hR⟩
theorem E11 : Ent Tryz.prog 11 := ⟨Tryz.f11, Tryz.func11, by kernel_rfl, by kernel_rfl⟩
theorem E13 : Ent Tryz.prog 13 := ⟨Tryz.f13, Tryz.func13, by kernel_rfl, by kernel_rfl⟩
theorem E14 : Ent Tryz.prog 14 := ⟨Tryz.f14, Tryz.func14, by kernel_rfl, by kernel_rfl⟩
abbrev u8L (ts : List Nat) : PV := .list none (ts.map fun (k : Nat) => .int .u8 (k : Int))
theorem V3 (l : List Fr) (hl : ∀ r ∈ l, kNB r) (hll : l.length <= 9223372036854775807) (x y z : Int) (hx : -2147483648 <= x ∧ x <= 2147483647) (hy : -2147483648 <= y ∧ y <= 2147483647) (hz : -2147483648 <= z ∧ z <= 2147483647) (ts : List Nat) (hts : ∀ k ∈ ts, k < 256) (htl : ts.length <= 9223372036854775807) (wh : Nat) (hwh : wh < 256) :
  jAB Tryz.prog G0 3 [.list (some 4) (l.map frP), .int .i32 x, .int .i32 y, .int .i32 z, u8L ts, .int .u8 wh] (.bool true) := by
 refine jAB.jAT Tryz.func3 k3 mix (by simp [c3]) ?_
 simp only [c3, L3, CC, jBW]
 have hlm : ((l.map frP).length : Nat) = l.length := by simp
 have htm : ((ts.map fun (k : Nat) => PV.int .u8 (k : Int)).length : Nat) = ts.length := by simp
 repeat' (first | exact clo | (refine PW.stop (x := .seq (.region false (⟨some 13, none, .rd .mov [.pv .jAH]⟩ :: _) _) _) ?_) | (refine sqI ?_; intros) | refine stp ?_ | (refine cnd rfl ?_ ?_ <;> intro hcond <;> (try contradiction) <;> try simp only [DD] at hcond) | (refine jAG ?_; intro hg; try simp only [hg]) | (refine saI ?_ ?_; intros) | (refine ari ?_; first | omega | (simp only [DD, LL] <;> omega) | (go_unwrap; omega) | (simp only [DD] at hg; omega)) | (refine stq ?_; focus (simp only [hlm, htm, SA, reduceAdd, reduceIte, reduceEqDiff, Nat.reduceBEq, reduceCtorEq]; (try go_unwrap; try simp only [hlm, htm, RR, reduceCtorEq]))) | refine And.intro ?_ ?_)
 refine ⟨?_⟩
 simp only [Bool.or_eq_false_iff, decide_eq_false_iff_not] at hcond
 obtain ⟨⟨g1, g2⟩, g3⟩ := hcond
 have hl12 : l.length <= 12 := by omega
 have hl0 : 0 < l.length := by omega
 have kSC : ts.length <= 30 := by omega
 clear g1 g2 g3
 repeat' (first | exact clo | (refine sqI ?_; intros) | refine stp ?_ | (refine cnd rfl ?_ ?_ <;> intro hcond <;> (try contradiction) <;> try simp only [DD] at hcond) | (refine jAG ?_; intro hg; try simp only [hg]) | (refine saI ?_ ?_; intros) | (refine ari ?_; first | omega | (simp only [DD, LL] <;> omega) | (go_unwrap; omega) | (simp only [DD] at hg; omega)) | (refine stq ?_; focus (simp only [hlm, SA, reduceAdd, reduceIte, reduceEqDiff, Nat.reduceBEq, reduceCtorEq]; (try go_unwrap; try simp only [hlm, RR, reduceCtorEq]))) | refine And.intro ?_ ?_)
 refine PW.own (some 2) 13 rfl ?_
 refine PW.own (some 2) 14 rfl ?_
 refine PW.jDV (σ := Nat) 2 (fun _ _ => rfl) [0, 1, 2, 3, 4, 5, 13, 14, 55, 56, 57] (fun i => [.list (some 4) (l.map frP), .int .i32 x, .int .i32 y, .int .i32 z, u8L ts, .int .u8 wh, .sl (some 2) 0 i, .sl (some 2) 1 i, .list (some 4) (l.map frP), .int .i64 l.length, .int .i64 i])
  (fun i => [some (.row (some 2) ((jBJ l i).map rlP)), some (.row (some 2) ((edF l i).map edP))]) (fun i => i <= l.length) (fun i => l.length - i) 0 ?_ (by first | rfl | simp) (by omega) ?_
 ·simp only [SA, reduceAdd, reduceIte, reduceEqDiff, Nat.reduceBEq, reduceCtorEq]; rfl
 intro i hi
 simp only [List.zip_cons_cons, List.zip_nil_left]
 have hRl : (((jBJ l i).map rlP).length : Nat) = i := by rw [List.length_map, jE4]
 have hEl : (((edF l i).map edP).length : Nat) = i := by rw [List.length_map, List.length_map, jE4]
 rcases Nat.lt_or_ge i l.length with h | h
 ·have hd : decide ((i : Int) < l.length) = true := by simp only [decide_eq_true_eq]; omega
  have hRt : ((jBJ l i).map rlP).take i = (jBJ l i).map rlP := List.take_of_length_le (by rw [hRl]; exact Nat.le_refl _)
  have hEt : ((edF l i).map edP).take i = (edF l i).map edP := List.take_of_length_le (by rw [hEl]; exact Nat.le_refl _)
  have hst : (jBJ l (i + 1)).map rlP = (jBJ l i).map rlP ++ [rlP (jEB l i)] := by rw [jM8, List.map_append]; rfl
  have hse : (edF l (i + 1)).map edP = (edF l i).map edP ++ [edP (edR (jEB l i))] := by unfold edF; rw [jM8, List.map_append, List.map_append]; rfl
  have hg : (l.map frP).getD i .junk = frP l[i] := by simp [List.getD, h]
  have hln : l.getD i default = l[i] := by simp [List.getD, h]
  have hT := kGH l[i] i (by omega)
  have h5 := V5 (G := G0) (hl l[i] (List.getElem_mem h)) i (by omega)
  have hrf : jEB l i = ⟨rn i, (exF l[i] i).nds 0⟩ := by unfold jEB; rw [hln]
  have hbd : (textF l[i] i).length <= 4096 := by
   have lA := jDZ l[i].a i
   have lB := jDZ l[i].b i
   have lC := jDZ l[i].c i
   unfold textF jY4
   repeat' split
   all_goals simp only [List.length_append, List.length_cons, List.length_nil]; omega
  rw [hrf] at hst hse
  have hrp : ∀ (s : List UInt8) (t : List Nd), rlP ⟨s, t⟩ = .agg [.str s, .list (some 4) (t.map ndP)] := fun _ _ => rfl
  have hep : ∀ (s : List UInt8) (t : List Nd), edP (edR ⟨s, t⟩) = .agg [.str s, .list none ((jG0 t).map PV.str)] := fun _ _ => rfl
  rw [hrp] at hst
  rw [hep] at hse
  have hfp : ∀ r : Fr, frP r = .agg [.int .u8 r.o, .int .u8 r.a, .int .u8 r.b, .int .u8 r.c] := fun _ => rfl
  rw [hfp] at hg h5
  have h7 := V7 (G := G0) i (by omega)
  have hrn : [114] ++ jIB i = rn i := rfl
  have hil := jFR i
  obtain ⟨o1, o2, o3, o4, o5, o6⟩ := hT
  clear hrf hln hrp hep hfp
  generalize (exF l[i] i).nds 0 = nd at *
  generalize textE (exF l[i] i) 0 = t at *
  generalize textF l[i] i = s at *
  generalize l[i] = r at *
  have hnl := o3.len.1
  have hsm := o3.small
  have hck := o3.check
  have h4a := V4 s (by omega)
  have h4b := V4 t (by omega)
  rw [o1] at h4a
  rw [o2] at h4b
  have hsz : ∀ n ∈ nd, n.name.length <= 9223372036854775807 ∧ n.kids.length <= 9223372036854775807 := fun n hn => by have := hsm n hn; omega
  have h6 := V6 nd hnl hsz hck o5
  rw [o4] at h6
  have h8 := V8 nd hsz hnl hck
  simp only [jFL, kBI] at h4a h4b h6 h8
  have b1 : (i + 1) * 40 <= 281474976710656 := by omega
  have hsc : ∀ (t : List UInt8) (s : Sh) (ks : List PV), ∀ x ∈ [PV.str t, PV.list s ks], x.scalar = true := by
   intro t s ks x hc; simp at hc; rcases hc with rfl | rfl <;> rfl
  have e1 : decide (t = t) = true := by simp
  have e2 : decide ((nd.length : Int) = nd.length) = true := by simp
  have kNY : ((nd.map ndP).length : Nat) = nd.length := by simp
  generalize (jBJ l i).map rlP = R at *
  generalize (edF l i).map edP = E at *
  have pt : ∀ ks, partOf (.agg [PV.list (some 4) ks]) 1 = some [PV.list (some 4) ks] := fun _ => rfl
  have sa : ∀ (s : St) (k : PV), jCZ [PV.str s, PV.jAH] 1 [k] = [PV.str s, k] := fun _ _ => rfl
  repeat' (first | exact clo | exact hsc _ _ _ | exact (rfl : (some 2 : Sh) = some 2) | (exact Or.inr ⟨rfl, by decide⟩) | (refine sqI ?_; intros) | refine stp ?_ | (refine cnd rfl ?_ ?_ <;> intro hcond <;> (try contradiction) <;> try simp only [DD] at hcond) | (refine jAG ?_; intro hg; try simp only [hg]) | (first | (refine jAA E4 h4a ?_ ?_ ?_ ?_; (focus (simp only [PV.bin, PV.jAI, jBC, hlm, hd, hg, hRl, hRt, hEl, hEt, jS7, hrn, e1, e2, kNY, pt, sa, Option.getD_some, Option.isSome_some, List.length_cons, List.length_nil, Nat.zero_add, SA, reduceAdd, reduceIte, reduceEqDiff, Nat.reduceBEq, reduceCtorEq]; done))) | (refine jAA E4 h4b ?_ ?_ ?_ ?_; (focus (simp only [PV.bin, PV.jAI, jBC, hlm, hd, hg, hRl, hRt, hEl, hEt, jS7, hrn, e1, e2, kNY, pt, sa, Option.getD_some, Option.isSome_some, List.length_cons, List.length_nil, Nat.zero_add, SA, reduceAdd, reduceIte, reduceEqDiff, Nat.reduceBEq, reduceCtorEq]; done)))) | refine jAA E5 (h5) ?_ ?_ ?_ ?_ | refine jAA E6 h6 ?_ ?_ ?_ ?_ | refine jAY E6 h6 ?_ ?_ ?_ ?_ ?_ | refine jAA E7 (h7) ?_ ?_ ?_ ?_ | refine jAA E8 (h8) ?_ ?_ ?_ ?_ | (refine saI ?_ ?_; intros) | (refine ari ?_; first | omega | (simp only [DD, LL] <;> omega) | (go_unwrap; omega) | (simp only [DD] at hg; omega)) | (refine stq ?_; focus (simp only [PV.bin, PV.jAI, jBC, hlm, hd, hg, hRl, hRt, hEl, hEt, jS7, hrn, e1, e2, kNY, pt, sa, Option.getD_some, Option.isSome_some, List.length_cons, List.length_nil, Nat.zero_add, SA, reduceAdd, reduceIte, reduceEqDiff, Nat.reduceBEq, reduceCtorEq]; (try go_unwrap; try simp only [PV.bin, PV.jAI, jBC, hlm, hd, hg, hRl, hRt, hEl, hEt, jS7, hrn, e1, e2, kNY, pt, sa, Option.getD_some, Option.isSome_some, List.length_cons, List.length_nil, Nat.zero_add, RR, reduceCtorEq]))) | refine And.intro ?_ ?_)
  all_goals first | rfl | exact ⟨_, rfl, rfl, hsc _ _ _⟩ | exact ⟨i + 1, (by first | rfl | (simp only [TT, jAF.kill, PV.kill, Nat.reduceLeDiff, reduceIte, Nat.le_refl, Nat.zero_le, Nat.not_le, Nat.lt_irrefl]; done) | (simp [jBE, jAZ, jAF.kill, PV.kill]; done)), (by rw [hst, hse]; exact (by first | rfl | (simp only [TT, jAF.kill, PV.kill, Nat.reduceLeDiff, reduceIte, Nat.le_refl, Nat.zero_le, Nat.not_le, Nat.lt_irrefl]; done) | (simp [jBE, jAZ, jAF.kill, PV.kill]; done))), by omega, by omega⟩
 have hd : decide ((i : Int) < l.length) = false := by simp only [decide_eq_false_iff_not]; omega
 have hi' : i = l.length := by omega
 subst hi'
 have hok : ∀ r ∈ jBJ l l.length, RlF r := fun r hr => by
  obtain ⟨i, hi, rfl⟩ := jC0.1 hr
  exact kLE l (by omega)
 have hRp : ∀ rs : List Rl, rs.Perm (jBJ l l.length) -> rs.length = l.length ∧ (∀ r ∈ rs, RlF r) ∧ ∀ x y, allM (jI7 x y) rs = allM (jI7 x y) (jBJ l l.length) := fun rs hp => ⟨by rw [hp.length_eq, jE4], fun r hr => hok r (hp.mem_iff.1 hr), fun x y => jX1 l hl12 x y hp⟩
 have hRt : ((jBJ l l.length).map rlP).take l.length = (jBJ l l.length).map rlP := List.take_of_length_le (by rw [hRl]; exact Nat.le_refl _)
 have hEt : ((edF l l.length).map edP).take l.length = (edF l l.length).map edP := List.take_of_length_le (by rw [hEl]; exact Nat.le_refl _)
 repeat' (first | exact clo | (refine PW.stop (x := .seq (.region false (⟨some 114, none, .eff (.lit (some 2) true) []⟩ :: _) _) _) ?_) | (refine sqI ?_; intros) | refine stp ?_ | (refine cnd rfl ?_ ?_ <;> intro hcond <;> (try contradiction) <;> try simp only [DD] at hcond) | (refine jAG ?_; intro hg; try simp only [hg]) | (refine saI ?_ ?_; intros) | (refine ari ?_; first | omega | (simp only [DD, LL] <;> omega) | (go_unwrap; omega) | (simp only [DD] at hg; omega)) | (refine stq ?_; focus (simp only [hlm, hd, SA, reduceAdd, reduceIte, reduceEqDiff, Nat.reduceBEq, reduceCtorEq]; (try go_unwrap; try simp only [hlm, hd, RR, reduceCtorEq]))) | refine And.intro ?_ ?_)
 refine ⟨?_⟩
 refine PW.frz 0 (.row (some 2) ((jBJ l l.length).map rlP)) ?_ ?_ ?_
 ·rfl
 ·rfl
 simp only [SA, reduceAdd, reduceIte, reduceEqDiff, Nat.reduceBEq, reduceCtorEq, PV.frz, jAF.frz, jPF, jFC, hRl, hEl, hRt, hEt, Option.map_none, Nat.le_refl, and_self, if_true]
 refine PW.frz 1 (.row (some 2) ((edF l l.length).map edP)) ?_ ?_ ?_
 ·rfl
 ·rfl
 simp only [SA, reduceAdd, reduceIte, reduceEqDiff, Nat.reduceBEq, reduceCtorEq, PV.frz, jAF.frz, jPF, jFC, hRl, hEl, hRt, hEt, Option.map_none, Nat.le_refl, and_self, if_true]
 have b0 : l.length * 40 <= 281474976710656 := by omega
 have hsc : ∀ (t : List UInt8) (s : Sh) (ks : List PV), ∀ x ∈ [PV.str t, PV.list s ks], x.scalar = true := by
  intro t s ks x hc; simp at hc; rcases hc with rfl | rfl <;> rfl
 generalize hRS : (jBJ l l.length).map rlP = RS at *
 generalize hES : (edF l l.length).map edP = ES at *
 repeat' (first | exact clo | exact (rfl : (some 2 : Sh) = some 2) | (exact Or.inr ⟨rfl, by decide⟩) | (refine sqI ?_; intros) | refine stp ?_ | (refine cnd rfl ?_ ?_ <;> intro hcond <;> (try contradiction) <;> try simp only [DD] at hcond) | (refine jAG ?_; intro hg; try simp only [hg]) | (refine saI ?_ ?_; intros) | (refine ari ?_; first | omega | (simp only [DD, LL] <;> omega) | (go_unwrap; omega) | (simp only [DD] at hg; omega)) | (refine stq ?_; focus (simp only [hlm, hRl, hRt, List.nil_append, List.length_nil, Nat.zero_add, SA, reduceAdd, reduceIte, reduceEqDiff, Nat.reduceBEq, reduceCtorEq]; (try go_unwrap; try simp only [hlm, hRl, hRt, List.nil_append, List.length_nil, Nat.zero_add, RR, reduceCtorEq]))) | refine And.intro ?_ ?_)
 refine PW.jDV (σ := Nat × List Rl) 3 (fun _ _ => rfl) [0, 1, 2, 3, 5, 13, 14, 24, 117, 118, 119] (fun s => [.list (some 4) (l.map frP), .int .i32 x, .int .i32 y, .int .i32 z, .int .u8 wh, .list (some 2) RS, .list (some 2) ES, .sl (some 2) 2 l.length, u8L ts, .int .i64 ts.length, .int .i64 s.1])
  (fun s => [none, none, some (.row (some 2) (s.2.map rlP))]) (fun s => s.1 <= ts.length ∧ s.2.Perm (jBJ l l.length)) (fun s => ts.length - s.1) (0, jBJ l l.length) ?_ (by simp [hRS]) ⟨by simp, .refl _⟩ ?_
 ·simp only [SA, reduceAdd, reduceIte, reduceEqDiff, Nat.reduceBEq, reduceCtorEq, htm]; rfl
 clear hi hd hRl hEl hRt hEt b0
 rintro ⟨i, L⟩ ⟨hi, hp⟩
 simp only at hi hp
 simp only [List.zip_cons_cons, List.zip_nil_left]
 have hLl : L.length = l.length := (hRp L hp).1
 have hLm : ((L.map rlP).length : Nat) = l.length := by rw [List.length_map, hLl]
 have hLt : (L.map rlP).take l.length = L.map rlP := List.take_of_length_le (by rw [hLm]; exact Nat.le_refl _)
 rcases Nat.lt_or_ge i ts.length with h | h
 ·have hd : decide ((i : Int) < ts.length) = true := by simp only [decide_eq_true_eq]; omega
  have hg : (ts.map fun (k : Nat) => PV.int .u8 (k : Int)).getD i .junk = .int .u8 (ts[i] : Int) := by simp [List.getD, h]
  have hk := hts ts[i] (List.getElem_mem h)
  generalize ts[i] = k at *
  have hb : k % l.length < l.length := Nat.mod_lt _ hl0
  have ha : i % l.length < l.length := Nat.mod_lt _ hl0
  have w0 : IntKind.i64.wrap (k : Int) = k := IntWalk.i64_in _ (by omega)
  have w1 : (i : Int).tmod l.length = ((i % l.length : Nat) : Int) := by rw [Int.tmod_eq_emod_of_nonneg (by omega)]; rfl
  have w2 : (k : Int).tmod l.length = ((k % l.length : Nat) : Int) := by rw [Int.tmod_eq_emod_of_nonneg (by omega)]; rfl
  have z0 : ¬ (l.length : Int) = 0 := by omega
  generalize i % l.length = a at *
  generalize k % l.length = b at *
  have hsp := (swap_perm L (hLl ▸ ha) (hLl ▸ hb)).trans hp
  have hga : (L.map rlP)[a]? = some (rlP (L.getD a default)) := by simp [List.getD, hLl, ha]
  have hgb : (L.map rlP)[b]? = some (rlP (L.getD b default)) := by simp [List.getD, hLl, hb]
  have hst : (jZY L a b).map rlP = ((L.map rlP).set a (rlP (L.getD b default))).set b (rlP (L.getD a default)) := by unfold jZY; rw [List.map_set, List.map_set]
  have hrp : ∀ r : Rl, rlP r = .agg [.str r.name, .list (some 4) (r.tree.map ndP)] := fun _ => rfl
  rw [hrp, hrp] at hst
  rw [hrp] at hga hgb
  have ha' : (a : Int) < l.length := by omega
  have hb' : (b : Int) < l.length := by omega
  generalize L.getD a default = p at *
  generalize L.getD b default = q at *
  have kQC : ∀ v, ((L.map rlP).set a v).length = l.length := fun v => by rw [List.length_set, hLm]
  generalize hM : L.map rlP = M at *
  repeat' (first | exact clo | exact hsc _ _ _ | exact (rfl : (some 2 : Sh) = some 2) | (exact Or.inr ⟨rfl, by decide⟩) | (refine sqI ?_; intros) | refine stp ?_ | (refine cnd rfl ?_ ?_ <;> intro hcond <;> (try contradiction) <;> try simp only [DD] at hcond) | (refine jAG ?_; intro hg; try simp only [hg]) | (refine saI ?_ ?_; intros) | (refine ari ?_; first | omega | (simp only [DD, LL] <;> omega) | (go_unwrap; omega) | (simp only [DD] at hg; omega)) | (refine stq ?_; focus (simp only [PV.bin, PV.jAI, jBC, htm, hd, hg, hLm, hLt, w0, w1, w2, z0, hga, hgb, kQC, jS7, List.length_set, SA, reduceAdd, reduceIte, reduceEqDiff, Nat.reduceBEq, reduceCtorEq]; (try go_unwrap; try simp only [PV.bin, PV.jAI, jBC, htm, hd, hg, hLm, hLt, w0, w1, w2, z0, hga, hgb, kQC, jS7, List.length_set, RR, reduceCtorEq]))) | refine And.intro ?_ ?_)
  all_goals exact ⟨(i + 1, jZY L a b), (by first | rfl | (simp only [TT, jAF.kill, PV.kill, Nat.reduceLeDiff, reduceIte, Nat.le_refl, Nat.zero_le, Nat.not_le, Nat.lt_irrefl]; done) | (simp [jBE, jAZ, jAF.kill, PV.kill]; done)), (by simp only; rw [hst]; exact (by first | rfl | (simp only [TT, jAF.kill, PV.kill, Nat.reduceLeDiff, reduceIte, Nat.le_refl, Nat.zero_le, Nat.not_le, Nat.lt_irrefl]; done) | (simp [jBE, jAZ, jAF.kill, PV.kill]; done))), ⟨by simp only; omega, hsp⟩, by simp only; omega⟩
 have hd : decide ((i : Int) < ts.length) = false := by simp only [decide_eq_false_iff_not]; omega
 obtain ⟨-, kOT, kIU⟩ := hRp L hp
 have xw : IntKind.i64.wrap x = x := IntWalk.i64_in _ (by omega)
 have yw : IntKind.i64.wrap y = y := IntWalk.i64_in _ (by omega)
 have zw : IntKind.i64.wrap z = z := IntWalk.i64_in _ (by omega)
 have hmu : ∀ a b : Int, jF7 (jF7 [] (.str [120]) (.int .i64 a)) (.str [121]) (.int .i64 b) = jB4 jJM (kJ2 a b) := fun _ _ => rfl
 have kSF : ∀ a : Int, jF7 [] (.str [120]) (.int .i64 a) = [(.str [120], .int .i64 a)] := fun _ => rfl
 repeat' (first | exact clo | (refine PW.stop (x := .seq (.region false (⟨some 155, none, .rd .mov [.tmp 29]⟩ :: _) _) _) ?_) | exact (rfl : KK.str = KK.str) | (exact Or.inr ⟨rfl, by decide⟩) | (refine sqI ?_; intros) | refine stp ?_ | (refine cnd rfl ?_ ?_ <;> intro hcond <;> (try contradiction) <;> try simp only [DD] at hcond) | (refine jAG ?_; intro hg; try simp only [hg]) | (refine saI ?_ ?_; intros) | (refine ari ?_; first | omega | (simp only [DD, LL] <;> omega) | (go_unwrap; omega) | (simp only [DD] at hg; omega)) | (refine stq ?_; focus (simp only [hd, htm, xw, yw, hmu, SA, reduceAdd, reduceIte, reduceEqDiff, Nat.reduceBEq, reduceCtorEq]; (try go_unwrap; try simp only [hd, htm, xw, yw, hmu, RR, reduceCtorEq]))) | refine And.intro ?_ ?_)
 refine ⟨?_⟩
 simp only [hmu]
 refine PW.frz 3 (.mp .str (jB4 jJM (kJ2 x y))) ?_ ?_ ?_
 ·rfl
 ·rfl
 simp only [SA, reduceAdd, reduceIte, reduceEqDiff, Nat.reduceBEq, reduceCtorEq, PV.frz, jAF.frz, jPF, jFC]
 refine PW.frz 2 (.row (some 2) (L.map rlP)) ?_ ?_ ?_
 ·rfl
 ·rfl
 simp only [SA, reduceAdd, reduceIte, reduceEqDiff, Nat.reduceBEq, reduceCtorEq, PV.frz, jAF.frz, jPF, jFC, hLm, hLt, Option.map_none, Nat.le_refl, and_self, if_true]
 have hnd : ∀ a b : Int, ((kJ2 a b).map (·.1)).Nodup := fun a b => (show ([[120], [121]] : List (List UInt8)).Nodup by decide)
 have h9a := f33 (jI7 x y) (kJ2 x y) (hnd x y) (fun _ => rfl) (jBJ l l.length) hok
 have h9b := f33 (jI7 x y) (kJ2 x y) (hnd x y) (fun _ => rfl) L kOT
 have h9c := f33 (jI7 x z) (kJ2 x z) (hnd x z) (fun _ => rfl) (jBJ l l.length) hok
 rw [kIU] at h9b
 have raE : ∀ e, kPV (.error e) = fun p ν => p = .tup [.jA0, .int .i64 e] ∧ ν = [] := fun _ => rfl
 have raO : ∀ F, kPV (.ok F) = fun p ν => p = .tup [.mref 0, .int .i64 0] ∧ ∃ es : List Pr, (es.map (·.1)).Nodup ∧ (∀ s, jCA es s = F s) ∧ ν = [some (.mp .str (jB4 jJM es))] := fun _ => rfl
 simp only [jU6, hRS] at h9a h9b h9c
 have jYZ := @jX2 l l.length hl12 x y z
 obtain ⟨A, hA⟩ : ∃ A, allM (jI7 x y) (jBJ l l.length) = A := ⟨_, rfl⟩
 obtain ⟨C, hC⟩ : ∃ C, allM (jI7 x z) (jBJ l l.length) = C := ⟨_, rfl⟩
 rw [hA] at h9a h9b jYZ
 rw [hC] at h9c jYZ
 cases A with
 | error e =>
  have ne := kDX hA
  have q1 : decide (e = 0) = false := decide_eq_false ne
  have q2 : decide (e = e) = true := decide_eq_true rfl
  rw [raE] at h9a h9b
  clear hA hC jYZ h9c kIU hp kOT hok hRp
  repeat' (first | exact clo | (refine sqI ?_; intros) | refine stp ?_ | (refine cnd rfl ?_ ?_ <;> intro hcond <;> (try contradiction) <;> try simp only [DD] at hcond) | (refine jFA E9 h9a rfl (by simp [PV.jA5]) ?_; rintro p ν ⟨rfl, rfl⟩; simp only [q1, q2, SA, reduceAdd, reduceIte, reduceEqDiff, Nat.reduceBEq, reduceCtorEq]) | (refine jFA E9 h9b rfl (by simp [PV.jA5]) ?_; rintro p ν ⟨rfl, rfl⟩; simp only [q1, q2, SA, reduceAdd, reduceIte, reduceEqDiff, Nat.reduceBEq, reduceCtorEq]) | (refine jCL rfl ?_; simp only [q1, q2, SA, reduceAdd, reduceIte, reduceEqDiff, Nat.reduceBEq, reduceCtorEq]; (try go_unwrap; try simp only [q1, q2, RR, reduceCtorEq])) | (refine jAG ?_; intro hg; try simp only [hg]) | (refine saI ?_ ?_; intros) | (refine ari ?_; first | omega | (simp only [DD, LL] <;> omega) | (go_unwrap; omega) | (simp only [DD] at hg; omega)) | (refine stq ?_; focus (simp only [q1, q2, SA, reduceAdd, reduceIte, reduceEqDiff, Nat.reduceBEq, reduceCtorEq]; (try go_unwrap; try simp only [q1, q2, RR, reduceCtorEq]))) | refine And.intro ?_ ?_)
 | ok F =>
  rw [raO] at h9a h9b
  repeat' (first | exact clo | (refine PW.stop (x := .seq (.region false (⟨some 166, none, .rd .mov [.tmp 31]⟩ :: _) _) _) ?_) | (refine sqI ?_; intros) | refine stp ?_ | (refine cnd rfl ?_ ?_ <;> intro hcond <;> (try contradiction) <;> try simp only [DD] at hcond) | (refine jFA E9 h9a rfl (by simp [PV.jA5]) ?_; rintro p ν ⟨rfl, ya, ny, gy, rfl⟩; simp only [SA, reduceAdd, reduceIte, reduceEqDiff, Nat.reduceBEq, reduceCtorEq]) | (refine jFA E9 h9b rfl (by simp [PV.jA5]) ?_; rintro p ν ⟨rfl, za, nz, gz, rfl⟩; simp only [SA, reduceAdd, reduceIte, reduceEqDiff, Nat.reduceBEq, reduceCtorEq]) | (refine jAG ?_; intro hg; try simp only [hg]) | (refine saI ?_ ?_; intros) | (refine ari ?_; first | omega | (simp only [DD, LL] <;> omega) | (go_unwrap; omega) | (simp only [DD] at hg; omega)) | (refine stq ?_; focus (simp only [SA, reduceAdd, reduceIte, reduceEqDiff, Nat.reduceBEq, reduceCtorEq]; (try go_unwrap; try simp only [RR, reduceCtorEq]))) | refine And.intro ?_ ?_)
  refine ⟨?_⟩
  have h10 := V10 (G := G0) ya za ny nz fun s => by rw [gy, gz]
  have hwm : wh % l.length < l.length := Nat.mod_lt _ hl0
  have ww : IntKind.i64.wrap (wh : Int) = wh := IntWalk.i64_in _ (by omega)
  have w1 : (wh : Int).tmod l.length = ((wh % l.length : Nat) : Int) := by rw [Int.tmod_eq_emod_of_nonneg (by omega)]; rfl
  have z0 : ¬ (l.length : Int) = 0 := by omega
  generalize wh % l.length = j at *
  have h7 := V7 (G := G0) j (by omega)
  have hrn : [114] ++ jIB j = rn j := rfl
  have hil := jFR j
  have hEL : (edF l l.length).length = l.length := by rw [List.length_map, jE4]
  have hEn : ∀ e ∈ edF l l.length, e.needs.length <= 9223372036854775807 := fun e he => by
   have := (jBX.1 (jEK l hl12)).2.2 e he
   omega
  have h11 := V11 (edF l l.length) (by omega) hEn (rn j)
  have h12 := V12 (edF l l.length) (by omega) hEn
  obtain ⟨k1, k2⟩ := jTG l hl12
  have h13 := V13 (edF l l.length) (by omega) hEn (jAV (edF l l.length)).1 (by rw [(jF2 (jJ9 l hl12)).2.2.length_eq, jVP, hEL]; omega)
  have h14 := V14 (edF l l.length) (by omega) hEn (jEK l hl12) k2
  rw [k1] at h13
  rw [jJ9 l hl12] at h12
  simp only [edL, hES] at h11 h12 h13 h14
  generalize (jAV (edF l l.length)).1 = SO at *
  have jYZ := fun F' h => jYZ (F := F) (F' := F') rfl h j hwm
  have hFj : ∃ v, F (rn j) = some v := by
   obtain ⟨v, -, hv⟩ := (jKC hA).1 _ (jC0.2 ⟨j, hwm, rfl⟩)
   exact ⟨v, hv⟩
  have hCj : ∀ F', C = .ok F' -> ∃ v, F' (rn j) = some v := fun F' h => by
   rw [h] at hC
   obtain ⟨v, -, hv⟩ := (jKC hC).1 _ (jC0.2 ⟨j, hwm, rfl⟩)
   exact ⟨v, hv⟩
  have kSK : (jEM (edF l l.length) (rn j)).length <= 4096 := by
   have h1 := jE6 (jZA (l := edF l l.length) (rn j)).nodup (b := jOC (edF l l.length)) fun y hy => kIB jLC ((jIM (jEK l hl12) _ y).1 hy)
   have h2 := jXI (jEK l hl12)
   omega
  generalize jEM (edF l l.length) (rn j) = B at *
  clear hok hRp hp kOT kIU k2
  have hBl : ((B.map PV.str).length : Nat) = B.length := by simp
  repeat' (first | exact clo | (refine sqI ?_; intros) | refine stp ?_ | (refine cnd rfl ?_ ?_ <;> intro hcond <;> (try contradiction) <;> try simp only [DD] at hcond) | (refine jAG ?_; intro hg; try simp only [hg]) | refine jAY E10 h10 ?_ ?_ ?_ ?_ ?_ | refine jAA E7 (h7) ?_ ?_ ?_ ?_ | refine jAA E11 (h11) ?_ ?_ ?_ ?_ | (refine saI ?_ ?_; intros) | (refine ari ?_; first | omega | (simp only [DD, LL] <;> omega) | (go_unwrap; omega) | (simp only [DD] at hg; omega)) | (refine stq ?_; focus (simp only [PV.bin, PV.jAI, jBC, hlm, ww, w1, z0, hrn, hBl, SA, reduceAdd, reduceIte, reduceEqDiff, Nat.reduceBEq, reduceCtorEq]; (try go_unwrap; try simp only [PV.bin, PV.jAI, jBC, hlm, ww, w1, z0, hrn, hBl, RR, reduceCtorEq]))) | refine And.intro ?_ ?_)
  clear h9a h9b h10 h11 hil hrn hd
  refine PW.jDV (σ := Nat) 6 (fun _ _ => rfl) [1, 3, 13, 14, 30, 34, 35, 190, 191, 192] (fun i => [.int .i32 x, .int .i32 z, .list (some 2) RS, .list (some 2) ES, .mref 4, .str (rn j), .bool ((B.take i).any fun s => decide (s = [121])), txL B, .int .i64 B.length, .int .i64 i])
   (fun _ => [none, none, none, none, some (.mp .str (jB4 jJM ya)), some (.mp .str (jB4 jJM za))]) (fun i => i <= B.length) (fun i => B.length - i) 0 ?_ (by first | rfl | simp) (by omega) ?_
  ·simp only [SA, reduceAdd, reduceIte, reduceEqDiff, Nat.reduceBEq, reduceCtorEq]; rfl
  clear hi
  intro i hi
  simp only [List.zip_cons_cons, List.zip_nil_left]
  rcases Nat.lt_or_ge i B.length with h | h
  ·have hd : decide ((i : Int) < B.length) = true := by simp only [decide_eq_true_eq]; omega
   have hg := jD9 B i h
   have hst : (B.take (i + 1)).any (fun s => decide (s = [121])) = ((B.take i).any (fun s => decide (s = [121])) || decide (B[i] = [121])) := by rw [List.take_succ_eq_append_getElem h, List.any_append]; simp
   generalize B[i] = s at *
   generalize (B.take i).any (fun s => decide (s = [121])) = v at *
   cases v
   all_goals
    repeat' (first | exact clo | (refine sqI ?_; intros) | refine stp ?_ | (refine cnd rfl ?_ ?_ <;> intro hcond <;> (try contradiction) <;> try simp only [DD] at hcond) | (refine jAG ?_; intro hg; try simp only [hg]) | (refine saI ?_ ?_; intros) | (refine ari ?_; first | omega | (simp only [DD, LL] <;> omega) | (go_unwrap; omega) | (simp only [DD] at hg; omega)) | (refine stq ?_; focus (simp only [hd, hg, hBl, SA, reduceAdd, reduceIte, reduceEqDiff, Nat.reduceBEq, reduceCtorEq]; (try go_unwrap; try simp only [hd, hg, hBl, RR, reduceCtorEq]))) | refine And.intro ?_ ?_)
    all_goals exact ⟨i + 1, (by rw [hst]; exact (by first | rfl | (simp only [TT, jAF.kill, PV.kill, Nat.reduceLeDiff, reduceIte, Nat.le_refl, Nat.zero_le, Nat.not_le, Nat.lt_irrefl]; done) | (simp [jBE, jAZ, jAF.kill, PV.kill]; done))), (by first | rfl | (simp only [TT, jAF.kill, PV.kill, Nat.reduceLeDiff, reduceIte, Nat.le_refl, Nat.zero_le, Nat.not_le, Nat.lt_irrefl]; done) | (simp [jBE, jAZ, jAF.kill, PV.kill]; done)), by omega, by omega⟩
  have hd : decide ((i : Int) < B.length) = false := by simp only [decide_eq_false_iff_not]; omega
  obtain rfl : i = B.length := by omega
  rw [List.take_length]
  have hmy : ∀ v, F (rn j) = some v -> jFK (jB4 jJM ya) (.str (rn j)) = some (.int .i64 v) := fun v h => by rw [jCR, gy, h]; rfl
  have hv : B.any (fun s => decide (s = [121])) = false -> ∀ F', C = .ok F' -> F (rn j) = F' (rn j) := fun hv F' h => jYZ F' h fun hb => by
   rw [List.any_eq_false] at hv
   exact hv _ hb (by simp)
  generalize B.any (fun s => decide (s = [121])) = v at *
  cases C with
  | error e =>
   have ne := kDX hC
   have q1 : decide (e = 0) = false := decide_eq_false ne
   rw [raE] at h9c
   repeat' (first | exact clo | (refine PW.stop (x := .seq (.region false (⟨some 229, none, .rd .mov [.tmp 14]⟩ :: _) _) _) ?_) | (refine PW.regionF (cs := ⟨some 203, none, .eff (.mmk .str) []⟩ :: _) 7 6 ?_; simp only [List.take_succ_cons, List.take_zero, List.drop_succ_cons, List.drop_zero, hd, q1, xw, zw, hmu, SA, reduceAdd, reduceIte, reduceEqDiff, Nat.reduceBEq, reduceCtorEq]; (try go_unwrap; try simp only [hd, q1, xw, zw, hmu, RR, reduceCtorEq])) | (refine kMV.mk rfl rfl ?_; simp only [kHH, jJP, List.map_cons, List.map_nil, PV.frz, jAF.frz, jPF, jFC, Nat.le_refl, hd, q1, xw, zw, hmu, SA, reduceAdd, reduceIte, reduceEqDiff, Nat.reduceBEq, reduceCtorEq]; (try go_unwrap; try simp only [hd, q1, xw, zw, hmu, RR, reduceCtorEq])) | exact (rfl : KK.str = KK.str) | (refine sqI ?_; intros) | refine stp ?_ | (refine cnd rfl ?_ ?_ <;> intro hcond <;> (try contradiction) <;> try simp only [DD] at hcond) | (refine jFA E9 h9c rfl (by simp [PV.jA5]) ?_; rintro p ν ⟨rfl, rfl⟩; simp only [hd, q1, xw, zw, hmu, SA, reduceAdd, reduceIte, reduceEqDiff, Nat.reduceBEq, reduceCtorEq]) | (refine jAG ?_; intro hg; try simp only [hg]) | (refine saI ?_ ?_; intros) | (refine ari ?_; first | omega | (simp only [DD, LL] <;> omega) | (go_unwrap; omega) | (simp only [DD] at hg; omega)) | (refine stq ?_; focus (simp only [hd, q1, xw, zw, hmu, SA, reduceAdd, reduceIte, reduceEqDiff, Nat.reduceBEq, reduceCtorEq]; (try go_unwrap; try simp only [hd, q1, xw, zw, hmu, RR, reduceCtorEq]))) | refine And.intro ?_ ?_)
   all_goals
    refine ⟨?_⟩
    repeat' (first | exact clo | (refine sqI ?_; intros) | refine stp ?_ | (refine cnd rfl ?_ ?_ <;> intro hcond <;> (try contradiction) <;> try simp only [DD] at hcond) | (refine jAG ?_; intro hg; try simp only [hg]) | refine jAA E12 (h12) ?_ ?_ ?_ ?_ | refine jAY E13 (h13) ?_ ?_ ?_ ?_ ?_ | refine jAY E14 (h14) ?_ ?_ ?_ ?_ ?_ | (refine saI ?_ ?_; intros) | (refine ari ?_; first | omega | (simp only [DD, LL] <;> omega) | (go_unwrap; omega) | (simp only [DD] at hg; omega)) | (refine stq ?_; focus (simp only [SA, reduceAdd, reduceIte, reduceEqDiff, Nat.reduceBEq, reduceCtorEq]; (try go_unwrap; try simp only [RR, reduceCtorEq]))) | refine And.intro ?_ ?_)
  | ok F' =>
   obtain ⟨u, hu⟩ := hCj F' rfl
   obtain ⟨t, ht⟩ := hFj
   have m1 := hmy t ht
   rw [raO] at h9c
   have hvt : v = false -> u = t := fun h => by
    have := hv h F' rfl
    rw [ht, hu] at this
    exact (Option.some.inj this).symm
   repeat' (first | exact clo | (refine PW.stop (x := .seq (.region false (⟨some 213, none, .rd .mov [.tmp 39]⟩ :: _) _) _) ?_) | (refine PW.regionF (cs := ⟨some 203, none, .eff (.mmk .str) []⟩ :: _) 7 6 ?_; simp only [List.take_succ_cons, List.take_zero, List.drop_succ_cons, List.drop_zero, hd, xw, zw, hmu, SA, reduceAdd, reduceIte, reduceEqDiff, Nat.reduceBEq, reduceCtorEq]; (try go_unwrap; try simp only [hd, xw, zw, hmu, RR, reduceCtorEq])) | (refine kMV.mk rfl rfl ?_; simp only [kHH, jJP, List.map_cons, List.map_nil, PV.frz, jAF.frz, jPF, jFC, Nat.le_refl, hd, xw, zw, hmu, SA, reduceAdd, reduceIte, reduceEqDiff, Nat.reduceBEq, reduceCtorEq]; (try go_unwrap; try simp only [hd, xw, zw, hmu, RR, reduceCtorEq])) | exact (rfl : KK.str = KK.str) | (refine sqI ?_; intros) | refine stp ?_ | (refine cnd rfl ?_ ?_ <;> intro hcond <;> (try contradiction) <;> try simp only [DD] at hcond) | (refine jFA E9 h9c rfl (by simp [PV.jA5]) ?_; rintro p ν ⟨rfl, wa, nw, gw, rfl⟩; simp only [hd, xw, zw, hmu, SA, reduceAdd, reduceIte, reduceEqDiff, Nat.reduceBEq, reduceCtorEq]) | (refine jAG ?_; intro hg; try simp only [hg]) | (refine saI ?_ ?_; intros) | (refine ari ?_; first | omega | (simp only [DD, LL] <;> omega) | (go_unwrap; omega) | (simp only [DD] at hg; omega)) | (refine stq ?_; focus (simp only [hd, xw, zw, hmu, SA, reduceAdd, reduceIte, reduceEqDiff, Nat.reduceBEq, reduceCtorEq]; (try go_unwrap; try simp only [hd, xw, zw, hmu, RR, reduceCtorEq]))) | refine And.intro ?_ ?_)
   refine ⟨?_⟩
   have m2 : jFK (jB4 jJM wa) (.str (rn j)) = some (.int .i64 u) := by rw [jCR, gw, hu]; rfl
   clear h9c
   cases v with
   | false =>
    have e1 : decide (t = t) = true := decide_eq_true rfl
    obtain rfl := hvt rfl
    repeat' (first | exact clo | (refine PW.stop (x := .seq (.region false (⟨some 229, none, .rd .mov [.tmp 14]⟩ :: _) _) _) ?_) | (refine sqI ?_; intros) | refine stp ?_ | (refine cnd rfl ?_ ?_ <;> intro hcond <;> (try contradiction) <;> try simp only [DD] at hcond) | (refine jAG ?_; intro hg; try simp only [hg]) | (refine saI ?_ ?_; intros) | (refine ari ?_; first | omega | (simp only [DD, LL] <;> omega) | (go_unwrap; omega) | (simp only [DD] at hg; omega)) | (refine stq ?_; focus (simp only [m1, m2, Option.getD_some, e1, SA, reduceAdd, reduceIte, reduceEqDiff, Nat.reduceBEq, reduceCtorEq]; (try go_unwrap; try simp only [m1, m2, Option.getD_some, e1, RR, reduceCtorEq]))) | refine And.intro ?_ ?_)
    all_goals
     refine ⟨?_⟩
     repeat' (first | exact clo | (refine sqI ?_; intros) | refine stp ?_ | (refine cnd rfl ?_ ?_ <;> intro hcond <;> (try contradiction) <;> try simp only [DD] at hcond) | (refine jAG ?_; intro hg; try simp only [hg]) | refine jAA E12 (h12) ?_ ?_ ?_ ?_ | refine jAY E13 (h13) ?_ ?_ ?_ ?_ ?_ | refine jAY E14 (h14) ?_ ?_ ?_ ?_ ?_ | (refine saI ?_ ?_; intros) | (refine ari ?_; first | omega | (simp only [DD, LL] <;> omega) | (go_unwrap; omega) | (simp only [DD] at hg; omega)) | (refine stq ?_; focus (simp only [SA, reduceAdd, reduceIte, reduceEqDiff, Nat.reduceBEq, reduceCtorEq]; (try go_unwrap; try simp only [RR, reduceCtorEq]))) | refine And.intro ?_ ?_)
   | true =>
    repeat' (first | exact clo | (refine PW.stop (x := .seq (.region false (⟨some 229, none, .rd .mov [.tmp 14]⟩ :: _) _) _) ?_) | (refine sqI ?_; intros) | refine stp ?_ | (refine cnd rfl ?_ ?_ <;> intro hcond <;> (try contradiction) <;> try simp only [DD] at hcond) | (refine jAG ?_; intro hg; try simp only [hg]) | (refine saI ?_ ?_; intros) | (refine ari ?_; first | omega | (simp only [DD, LL] <;> omega) | (go_unwrap; omega) | (simp only [DD] at hg; omega)) | (refine stq ?_; focus (simp only [m1, m2, Option.getD_some, SA, reduceAdd, reduceIte, reduceEqDiff, Nat.reduceBEq, reduceCtorEq]; (try go_unwrap; try simp only [m1, m2, Option.getD_some, RR, reduceCtorEq]))) | refine And.intro ?_ ?_)
    all_goals
     refine ⟨?_⟩
     repeat' (first | exact clo | (refine sqI ?_; intros) | refine stp ?_ | (refine cnd rfl ?_ ?_ <;> intro hcond <;> (try contradiction) <;> try simp only [DD] at hcond) | (refine jAG ?_; intro hg; try simp only [hg]) | refine jAA E12 (h12) ?_ ?_ ?_ ?_ | refine jAY E13 (h13) ?_ ?_ ?_ ?_ ?_ | refine jAY E14 (h14) ?_ ?_ ?_ ?_ ?_ | (refine saI ?_ ?_; intros) | (refine ari ?_; first | omega | (simp only [DD, LL] <;> omega) | (go_unwrap; omega) | (simp only [DD] at hg; omega)) | (refine stq ?_; focus (simp only [SA, reduceAdd, reduceIte, reduceEqDiff, Nat.reduceBEq, reduceCtorEq]; (try go_unwrap; try simp only [RR, reduceCtorEq]))) | refine And.intro ?_ ?_)
theorem own : ownKnob Tryz.prog.godebug = none := by kernel_rfl
theorem laidOut : laidOutB Tryz.prog = true := by kernel_rfl
theorem kOV : Tryz.prog.globalNamed "wagebook/expr.kidsOf" = some 1 := by kernel_rfl
theorem kL3 : Tryz.prog.globalNamed "wagebook/expr.words" = some 0 := by kernel_rfl
abbrev laid1 : List (String × DataW Unit) := [("math/bits.deBruijn32tab", Rows.laid_math_bits_deBruijn32tab), ("math/bits.deBruijn64tab", Rows.laid_math_bits_deBruijn64tab), ("internal/strconv.uint64pow10", Rows.laid_internal_strconv_uint64pow10), ("wagebook/expr.kidsOf", Rows.laid_wagebook_expr_kidsOf), ("wagebook/expr.words", Rows.laid_wagebook_expr_words)]
theorem jH9 {P : Program} {W : World} {n : String} {d : DataW Unit} {r : List (String × DataW Unit)} {ps} (h : DataW.LaidVars P W ((n, d) :: r) ps) : ∃ qs, DataW.LaidVars P W r qs := by
 obtain ⟨g', t', cs, fuel, p, q, hg', ht', hvar, hd, hrest, kHC⟩ := h
 exact ⟨_, by first | exact hrest | exact kHC | exact hrest.1 | exact kHC.1⟩
theorem kLW {W : World} (h : laidMetH Tryz.prog laid1 W) : jDF W (fun _ => False) G0 := by
 rw [MakeChecks.laidMetH_plain _ _ _ (by kernel_rfl)] at h
 obtain ⟨ps, h, _, _⟩ := h
 have h0 : (Rows.laid_wagebook_expr_kidsOf : DataW Unit) = .agg ((jA1.map (PV.int .i64)).map jT7) := rfl
 have h1 : (Rows.laid_wagebook_expr_words : DataW Unit) = .agg (jFX.cells.map jT7) := rfl
 unfold laid1 at h
 obtain ⟨_, h⟩ := jH9 h
 obtain ⟨_, h⟩ := jH9 h
 obtain ⟨_, h⟩ := jH9 h
 obtain ⟨_, hw⟩ := jH9 h
 rw [h0] at h
 have hK := jZU kOV (t := 120) (e := 3) (n := 10) (by kernel_rfl) (by kernel_rfl) (.inl ⟨.i64, Tryz.underlying3⟩) (by kernel_rfl) (by kernel_rfl) (by decide) (by decide) h
 rw [h1] at hw
 have hW := jZU kL3 (t := 70) (e := 9) (n := 10) (by kernel_rfl) (by kernel_rfl) (.inr Tryz.underlying9) (by kernel_rfl) (by kernel_rfl) (by decide) (by decide) hw
 intro g sh x hg
 unfold G0 at hg
 split at hg
 ·rename_i e
  subst e
  simp only [Option.some.injEq, Prod.mk.injEq] at hg
  obtain ⟨rfl, rfl⟩ := hg
  exact hW
 ·split at hg
  ·rename_i e
   subst e
   simp only [Option.some.injEq, Prod.mk.injEq] at hg
   obtain ⟨rfl, rfl⟩ := hg
   exact hK
  ·cases hg
noncomputable def kM0 (os : Os) : World := World.doorLaid Tryz.prog 400 os
theorem kDG (os : Os) (args : Array Value) : laidMetH Tryz.prog laid1 ((kM0 os).forCall (fun _ _ => 0) ⟨#[], args, []⟩).memory :=
 laidMetH_of_parts3 (fuel := 8) (laidMet_of_run' 8 (by kernel_rfl) (by kernel_rfl)) (by kernel_rfl) (by kernel_rfl)
theorem kIA {n : Nat} {p : PV} (h : ShA Tryz.prog (n + 1) 5 p) : ∃ x : Nat, p = .int .u8 x ∧ x < 256 := by
 obtain ⟨m, e1, h1, h2⟩ := jHB (P := Tryz.prog) (n := n) (k := .u8) Tryz.underlying5 (by unfold ShA at h; rw [Tryz.underlying5] at h; exact h)
 cases e1
 have h1 : 0 <= m := h1
 have h2 : m <= 255 := h2
 exact ⟨m.toNat, by rw [Int.toNat_of_nonneg h1], by omega⟩
theorem jO2 {n : Nat} {p : PV} (h : ShA Tryz.prog (n + 1) 21 p) : ∃ x : Int, p = .int .i32 x ∧ -2147483648 <= x ∧ x <= 2147483647 := by
 obtain ⟨m, e1, h1, h2⟩ := jHB (P := Tryz.prog) (n := n) (k := .i32) Tryz.underlying21 (by unfold ShA at h; rw [Tryz.underlying21] at h; exact h)
 cases e1
 exact ⟨m, rfl, h1, h2⟩
theorem jX9 {n : Nat} {p : PV} (h : ShA Tryz.prog (n + 2) 23 p) : ∃ l : List Nat, p = .list none (l.map fun (k : Nat) => .int .u8 (k : Int)) ∧ (∀ k ∈ l, k < 256) ∧ l.length <= 9223372036854775807 := by
 obtain ⟨sh, xs, hs, rfl, b, hx⟩ := jQI Tryz.underlying23 h
 have hsh : jEZ Tryz.prog 5 = some none := by kernel_rfl
 obtain rfl := Option.some.inj (hsh.symm.trans hs)
 obtain ⟨l, rfl, hl⟩ := jTY (fun k : Nat => PV.int .u8 (k : Int)) (fun k => k < 256) (xs := xs) (fun x hx' => by
  obtain ⟨f1, f2⟩ := hx x hx'
  rw [jN0 f1] at f2
  obtain ⟨m, e1, h1, h2⟩ := jHB (k := .u8) Tryz.underlying5 f2
  cases e1
  have h1 : 0 <= m := h1
  have h2 : m <= 255 := h2
  exact ⟨m.toNat, by rw [Int.toNat_of_nonneg h1], by omega⟩)
 exact ⟨l, rfl, hl, by simpa using b⟩
theorem kFE {n : Nat} {cs : List PV} (h : ShC Tryz.prog (n + 2) 27 cs) : ∃ x : Fr, .agg cs = frP x ∧ kNB x := by
 obtain ⟨hl, hf⟩ := jXY Tryz.underlying27 h
 have c27 : Tryz.prog.cellsOf 27 = 4 := by kernel_rfl
 have c5 : Tryz.prog.cellsOf 5 = 1 := by kernel_rfl
 rw [c27] at hl
 simp only [List.mem_cons, List.not_mem_nil, or_false, forall_eq_or_imp, forall_eq, c5] at hf
 match cs, hl with
 | [a, b, c, d], _ =>
  obtain ⟨h1, h2, h3, h4⟩ := hf
  obtain ⟨m1, e1, a1, b1⟩ := jHB (k := .u8) Tryz.underlying5 h1
  obtain ⟨m2, e2, a2, b2⟩ := jHB (k := .u8) Tryz.underlying5 h2
  obtain ⟨m3, e3, a3, b3⟩ := jHB (k := .u8) Tryz.underlying5 h3
  obtain ⟨m4, e4, a4, b4⟩ := jHB (k := .u8) Tryz.underlying5 h4
  have a1 : 0 <= m1 := a1
  have a2 : 0 <= m2 := a2
  have a3 : 0 <= m3 := a3
  have a4 : 0 <= m4 := a4
  have b1 : m1 <= 255 := b1
  have b2 : m2 <= 255 := b2
  have b3 : m3 <= 255 := b3
  have b4 : m4 <= 255 := b4
  simp at e1 e2 e3 e4
  subst e1 e2 e3 e4
  refine ⟨⟨m1.toNat, m2.toNat, m3.toNat, m4.toNat⟩, ?_, ⟨by show m1.toNat < _; omega, by show m2.toNat < _; omega, by show m3.toNat < _; omega, by show m4.toNat < _; omega⟩⟩
  unfold frP
  simp only [Int.toNat_of_nonneg a1, Int.toNat_of_nonneg a2, Int.toNat_of_nonneg a3, Int.toNat_of_nonneg a4]
theorem kET {n : Nat} {p : PV} (h : ShA Tryz.prog (n + 3) 22 p) : ∃ l : List Fr, p = .list (some 4) (l.map frP) ∧ (∀ x ∈ l, kNB x) ∧ l.length <= 9223372036854775807 := by
 obtain ⟨sh, xs, hs, rfl, b, hx⟩ := jQI Tryz.underlying22 h
 have hsh : jEZ Tryz.prog 27 = some (some 4) := by kernel_rfl
 obtain rfl := Option.some.inj (hsh.symm.trans hs)
 obtain ⟨l, rfl, hl⟩ := jTY frP kNB (xs := xs) (fun x hx' => by
  obtain ⟨f1, f2⟩ := hx x hx'
  obtain ⟨cs, rfl, e, -⟩ := jN0 f1
  exact kFE f2)
 exact ⟨l, rfl, hl, by simpa using b⟩
theorem kQ4 {P : Program} {n : Nat} {a b c d e f : TypeId} {ps : List PV} (h : kN2 P n [a, b, c, d, e, f] ps) : ∃ p1 p2 p3 p4 p5 p6, ps = [p1, p2, p3, p4, p5, p6] ∧ ShA P n a p1 ∧ ShA P n b p2 ∧ ShA P n c p3 ∧ ShA P n d p4 ∧ ShA P n e p5 ∧ ShA P n f p6 := by
 match ps, h with
 | [p1, p2, p3, p4, p5, p6], ⟨h1, h2, h3, h4, h5, h6, _⟩ => exact ⟨p1, p2, p3, p4, p5, p6, rfl, h1, h2, h3, h4, h5, h6⟩
end Go.Proofs.YthjkmhfiffojeaaGreatDoor
