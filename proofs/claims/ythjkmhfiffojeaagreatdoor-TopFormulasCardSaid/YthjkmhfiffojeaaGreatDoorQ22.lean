import Derived.Test.YthjkmhfiffojeaaGreatDoorQ21
namespace Go.Proofs.YthjkmhfiffojeaaGreatDoor
open Go PG Go.Proofs
open Nat (reduceAdd reduceEqDiff)
set_option linter.unusedSimpArgs false
set_option linter.unusedVariables false
set_option maxHeartbeats 4000000
set_option maxRecDepth 100000
theorem E9 : Ent Tryz.prog 9 := ⟨Tryz.f9, Tryz.func9, by kernel_rfl, by kernel_rfl⟩
theorem kCC {s : St} {rs : List Rl} {r : Rl} (h : rs.find? (fun r => decide (r.name = s)) = some r) : ∃ j, ∃ h : j < rs.length, kHA s rs = j ∧ rs[j] = r ∧ r.name = s := by
 obtain ⟨hp, as', bs, e, hall⟩ := List.find?_eq_some_iff_append.1 h
 subst e
 refine ⟨as'.length, by simp, ?_, by simp, by simpa using hp⟩
 refine kCD (by simp) (by simpa using hp) fun j hj hlt => ?_
 rw [List.getElem_append_left hlt]
 have := hall as'[j] (List.getElem_mem hlt)
 simpa using this
theorem kE6 {s : St} {rs : List Rl} (h : rs.find? (fun r => decide (r.name = s)) = none) : kHA s rs = -1 :=
 jR5 fun j hj => by have := List.find?_eq_none.1 h rs[j] (List.getElem_mem hj); simpa using this
def upd (f : jHO) (s : St) (v : Int) : jHO := fun x => if x = s then some v else f x
def goA (rs : List Rl) : List St -> jHO -> Except Int jHO
 | [], f => .ok f
 | s :: ss, f => match rs.find? (fun r => decide (r.name = s)) with
   | none => goA rs ss f
   | some r => if (jFF f r.tree).2 ≠ 0 then .error (jFF f r.tree).2 else goA rs ss (upd f s (jFF f r.tree).1)
def allM (env : jHO) (rs : List Rl) : Except Int jHO :=
 if jEQ env rs ≠ 0 then .error (jEQ env rs) else
 if (jAV (rs.map edR)).2 ≠ 0 then .error (jAV (rs.map edR)).2 else goA rs (jAV (rs.map edR)).1 env
theorem jUZ {env : jHO} : ∀ {rs : List Rl}, jG3 env rs = 0 ↔ ∀ r ∈ rs, isName r.name = true ∧ env r.name = none ∧ jBP r.tree = 0
 | [] => by simp [jG3]
 | r :: rs => by
  rw [jKT]
  have ih := jUZ (env := env) (rs := rs)
  constructor
  ·intro h
   split at h
   ·cases h
   ·split at h
    ·cases h
    ·split at h
     ·contradiction
     ·rename_i h1 h2 h3
      intro q hq
      rcases List.mem_cons.1 hq with rfl | hq
      ·exact ⟨by simpa using h1, by simpa using h2, by simpa using h3⟩
      ·exact ih.1 h q hq
  ·intro h
   obtain ⟨h1, h2, h3⟩ := h r (by simp)
   rw [if_neg (by simp [h1]), if_neg (by simp [h2]), if_neg (by simp [h3])]
   exact ih.2 fun q hq => h q (by simp [hq])
theorem jJ0 {env : jHO} {rs : List Rl} : jEQ env rs = 0 ↔ rs.length <= 64 ∧ ∀ r ∈ rs, isName r.name = true ∧ env r.name = none ∧ jBP r.tree = 0 := by
 unfold jEQ
 split
 ·constructor
  ·intro h; cases h
  ·intro h; omega
 ·rw [jUZ]
  exact ⟨fun h => ⟨by omega, h⟩, fun h => h.2⟩
def kPV : Except Int jHO -> PV -> Mem -> Prop
 | .error e, p, ν => p = .tup [.jA0, .int .i64 e] ∧ ν = []
 | .ok f, p, ν => p = .tup [.mref 0, .int .i64 0] ∧ ∃ es : List Pr, (es.map (·.1)).Nodup ∧ (∀ s, jCA es s = f s) ∧ ν = [some (.mp .str (jB4 jJM es))]
theorem f33 (env : jHO) (es0 : List Pr) (hnd : (es0.map (·.1)).Nodup) (hes : ∀ s, jCA es0 s = env s) (rs : List Rl) (hr : ∀ r ∈ rs, RlF r) : jEW Tryz.prog G0 9 [.jC9 .str (jB4 jJM es0), jU6 rs] (kPV (allM env rs)) := by
 refine jEW.jAT Tryz.func9 k9 mix (by simp [c9]) ?_
 simp only [c9, L9, CC, jBW, jU6]
 have hes' : ∀ s, jFK (jB4 jJM es0) (.str s) = (env s).map (PV.int .i64) := fun s => by rw [jCR, hes]
 have h65 := V27 env _ hes' rs hr
 obtain ⟨X, hX⟩ : ∃ X, allM env rs = X := ⟨_, rfl⟩
 rw [hX]
 unfold allM at hX
 by_cases hE : jEQ env rs = 0
 case neg =>
  have d1 : decide (jEQ env rs = 0) = false := decide_eq_false hE
  rw [if_pos hE] at hX
  subst hX
  generalize jEQ env rs = e at *
  repeat' (first | exact clo | (refine sqI ?_; intros) | refine stp ?_ | (refine cnd rfl ?_ ?_ <;> intro hcond <;> (try contradiction) <;> try simp only [DD] at hcond) | (refine jAG ?_; intro hg; try simp only [hg]) | refine jAA E27 (h65) ?_ ?_ ?_ ?_ | (refine saI ?_ ?_; intros) | (refine ari ?_; first | omega | (simp only [DD, LL] <;> omega) | (go_unwrap; omega) | (simp only [DD] at hg; omega)) | (refine stq ?_; focus (simp only [d1, SA, reduceAdd, reduceIte, reduceEqDiff, Nat.reduceBEq, reduceCtorEq]; (try go_unwrap; try simp only [d1, RR, reduceCtorEq]))) | refine And.intro ?_ ?_)
  all_goals first | rfl | exact ⟨rfl, rfl⟩
 obtain ⟨kQB, hall⟩ := jJ0.1 hE
 rw [if_neg (by simp [hE])] at hX
 rw [hE] at h65
 have h66 := V28 rs kQB (fun r h => ⟨hr r h, (hall r h).2.2⟩)
 obtain ⟨⟨ns, e⟩, hS⟩ : ∃ S, jAV (rs.map edR) = S := ⟨_, rfl⟩
 have hns : (jAV (rs.map edR)).2 = 0 -> (jAV (rs.map edR)).1.length <= 64 := fun h => by
  rw [(jF2 h).2.2.length_eq, jVP]; simpa using kQB
 rw [hS] at hX h66 hns
 simp only at hX h66 hns
 by_cases he : e = 0
 case neg =>
  have d1 : decide (e = 0) = false := decide_eq_false he
  rw [if_pos he] at hX
  subst hX
  repeat' (first | exact clo | (refine sqI ?_; intros) | refine stp ?_ | (refine cnd rfl ?_ ?_ <;> intro hcond <;> (try contradiction) <;> try simp only [DD] at hcond) | (refine jAG ?_; intro hg; try simp only [hg]) | refine jAA E27 (h65) ?_ ?_ ?_ ?_ | refine jAA E28 (h66) ?_ ?_ ?_ ?_ | (refine saI ?_ ?_; intros) | (refine ari ?_; first | omega | (simp only [DD, LL] <;> omega) | (go_unwrap; omega) | (simp only [DD] at hg; omega)) | (refine stq ?_; focus (simp only [d1, SA, reduceAdd, reduceIte, reduceEqDiff, Nat.reduceBEq, reduceCtorEq]; (try go_unwrap; try simp only [d1, RR, reduceCtorEq]))) | refine And.intro ?_ ?_)
  all_goals first | rfl | exact ⟨rfl, rfl⟩
 subst he
 rw [if_neg (by simp)] at hX
 have hns := hns rfl
 repeat' (first | exact clo | (refine sqI ?_; intros) | refine stp ?_ | (refine cnd rfl ?_ ?_ <;> intro hcond <;> (try contradiction) <;> try simp only [DD] at hcond) | (refine jAG ?_; intro hg; try simp only [hg]) | refine jAA E27 (h65) ?_ ?_ ?_ ?_ | refine jAA E28 (h66) ?_ ?_ ?_ ?_ | (refine saI ?_ ?_; intros) | (refine ari ?_; first | omega | (simp only [DD, LL] <;> omega) | (go_unwrap; omega) | (simp only [DD] at hg; omega)) | (refine stq ?_; focus (simp only [SA, reduceAdd, reduceIte, reduceEqDiff, Nat.reduceBEq, reduceCtorEq]; (try go_unwrap; try simp only [RR, reduceCtorEq]))) | refine And.intro ?_ ?_)
 refine PW.jDV (σ := List Nat × List Pr) 2 (fun _ _ => rfl) [1, 7, 9, 33] (fun _ => [jU6 rs, txL ns, .mref 0, .ref 1 0])
  (fun s => [some (.mp .str (jB4 jJM s.2)), some (.iter .str (jB4 jJM es0) s.1)])
  (fun s => (s.2.map (·.1)).Nodup ∧ (∀ s' v, jCA s.2 s' = some v -> jCA es0 s' = some v) ∧ (∀ i ∈ s.1, ∀ k v, es0[i]? = some (k, v) -> jCA s.2 k = some v)) (fun s => jYT es0.length s.1) ([], []) ?_ rfl ⟨by simp, by simp [jCA], by simp⟩ ?_
 ·simp only [SA, reduceAdd, reduceIte, reduceEqDiff, Nat.reduceBEq, reduceCtorEq]; rfl
 rintro ⟨seen, ys⟩ ⟨hi0, hi1, hi2⟩
 simp only at hi0 hi1 hi2
 simp only [List.zip_cons_cons, List.zip_nil_left]
 repeat' (first | exact clo | (refine sqI ?_; intros) | refine stp ?_ | (refine cnd rfl ?_ ?_ <;> intro hcond <;> (try contradiction) <;> try simp only [DD] at hcond) | (refine jAG ?_; intro hg; try simp only [hg]) | (refine saI ?_ ?_; intros) | (refine ari ?_; first | omega | (simp only [DD, LL] <;> omega) | (go_unwrap; omega) | (simp only [DD] at hg; omega)) | (refine stq ?_; focus (simp only [jC3, SA, reduceAdd, reduceIte, reduceEqDiff, Nat.reduceBEq, reduceCtorEq]; (try go_unwrap; try simp only [jC3, RR, reduceCtorEq]))) | refine And.intro ?_ ?_)
 ·intro k hk hks
  refine ⟨by simp, ?_⟩
  obtain ⟨s', v', hx, hmem, he1, he2⟩ := jT5 PV.str jJM es0 hk
  have hms := jD2 jJM ys s' v'
  have hag : jCA es0 s' = some v' := jKE hnd hmem
  repeat' (first | exact clo | exact (rfl : KK.str = KK.str) | (refine sqI ?_; intros) | refine stp ?_ | (refine cnd rfl ?_ ?_ <;> intro hcond <;> (try contradiction) <;> try simp only [DD] at hcond) | (refine jAG ?_; intro hg; try simp only [hg]) | (refine saI ?_ ?_; intros) | (refine ari ?_; first | omega | (simp only [DD, LL] <;> omega) | (go_unwrap; omega) | (simp only [DD] at hg; omega)) | (refine stq ?_; focus (simp only [he1, he2, hms, jC3, hk, SA, reduceAdd, reduceIte, reduceEqDiff, Nat.reduceBEq, reduceCtorEq]; (try go_unwrap; try simp only [he1, he2, hms, jC3, hk, RR, reduceCtorEq]))) | refine And.intro ?_ ?_)
  all_goals
   refine ⟨(seen ++ [k], jIN ys s' v'), (by first | rfl | (simp only [TT, jAF.kill, PV.kill, Nat.reduceLeDiff, reduceIte, Nat.le_refl, Nat.zero_le, Nat.not_le, Nat.lt_irrefl]; done) | (simp [jBE, jAZ, jAF.kill, PV.kill]; done)), (by first | (rw [hms]; exact (by first | rfl | (simp only [TT, jAF.kill, PV.kill, Nat.reduceLeDiff, reduceIte, Nat.le_refl, Nat.zero_le, Nat.not_le, Nat.lt_irrefl]; done) | (simp [jBE, jAZ, jAF.kill, PV.kill]; done))) | exact (by first | rfl | (simp only [TT, jAF.kill, PV.kill, Nat.reduceLeDiff, reduceIte, Nat.le_refl, Nat.zero_le, Nat.not_le, Nat.lt_irrefl]; done) | (simp [jBE, jAZ, jAF.kill, PV.kill]; done))), ⟨jJC hi0 s' v', fun s v h => ?_, fun j hj q v h => ?_⟩, jJ5 hk hks⟩
   ·simp only [jDT] at h
    split at h
    ·rename_i e; cases h; rw [e]; exact hag
    ·exact hi1 s v h
   ·simp only [jDT]
    rcases List.mem_append.1 hj with hj | hj
    ·have := hi2 j hj q v h
     split
     ·rename_i e; subst e; rw [hi1 _ _ this] at hag; exact hag.symm
     ·exact this
    ·simp at hj; subst hj
     rw [hx] at h; cases h; simp
 intro kLS
 refine ⟨by simp, ?_⟩
 have hys : ∀ s', jCA ys s' = env s' := by
  intro s'
  rw [<- hes]
  cases hx : jCA es0 s' with
  | some v =>
   obtain ⟨j, hj, hje⟩ := List.getElem_of_mem (jHF hx)
   exact hi2 j (kLS j hj) s' v (by rw [List.getElem?_eq_getElem hj, hje])
  | none =>
   cases hy : jCA ys s' with
   | none => rfl
   | some v => rw [hi1 _ _ hy] at hx; cases hx
 clear hi1 hi2 kLS
 have hnl : ((ns.map PV.str).length : Nat) = ns.length := by simp
 have hlen : ((rs.map rlP).length : Nat) = rs.length := by simp
 have hrp : ∀ r : Rl, rlP r = .agg [.str r.name, .list (some 4) (r.tree.map ndP)] := fun _ => rfl
 repeat' (first | exact clo | (refine sqI ?_; intros) | refine stp ?_ | (refine cnd rfl ?_ ?_ <;> intro hcond <;> (try contradiction) <;> try simp only [DD] at hcond) | (refine jAG ?_; intro hg; try simp only [hg]) | (refine saI ?_ ?_; intros) | (refine ari ?_; first | omega | (simp only [DD, LL] <;> omega) | (go_unwrap; omega) | (simp only [DD] at hg; omega)) | (refine stq ?_; focus (simp only [hnl, SA, reduceAdd, reduceIte, reduceEqDiff, Nat.reduceBEq, reduceCtorEq]; (try go_unwrap; try simp only [hnl, RR, reduceCtorEq]))) | refine And.intro ?_ ?_)
 refine PW.trim 1 (fun _ _ => rfl) ?_
 simp only [TT, jAF.kill, PV.kill, Nat.reduceLeDiff, reduceIte]
 refine PW.jDV (σ := Nat × jHO × List Pr) 1 (fun _ _ => rfl) [1, 9, 42, 43, 44] (fun s => [jU6 rs, .mref 0, txL ns, .int .i64 ns.length, .int .i64 s.1])
  (fun s => [some (.mp .str (jB4 jJM s.2.2))])
  (fun s => s.1 <= ns.length ∧ (s.2.2.map (·.1)).Nodup ∧ (∀ x, jCA s.2.2 x = s.2.1 x) ∧ goA rs (ns.drop s.1) s.2.1 = X) (fun s => ns.length - s.1) (0, env, ys) ?_ rfl ⟨by simp, hi0, hys, hX⟩ ?_
 ·simp only [SA, reduceAdd, reduceIte, reduceEqDiff, Nat.reduceBEq, reduceCtorEq]; rfl
 clear hys hi0 hX
 rintro ⟨i, f, m⟩ ⟨hi, hi0, hf, hX⟩
 simp only at hi hi0 hf hX
 simp only [List.zip_cons_cons, List.zip_nil_left]
 rcases Nat.lt_or_ge i ns.length with h | h
 case inr =>
  have hd : decide ((i : Int) < ns.length) = false := by simp only [decide_eq_false_iff_not]; omega
  rw [List.drop_eq_nil_of_le h] at hX
  have hX : X = .ok f := hX.symm
  subst hX
  repeat' (first | exact clo | (refine sqI ?_; intros) | refine stp ?_ | (refine cnd rfl ?_ ?_ <;> intro hcond <;> (try contradiction) <;> try simp only [DD] at hcond) | (refine jAG ?_; intro hg; try simp only [hg]) | (refine saI ?_ ?_; intros) | (refine ari ?_; first | omega | (simp only [DD, LL] <;> omega) | (go_unwrap; omega) | (simp only [DD] at hg; omega)) | (refine stq ?_; focus (simp only [hd, SA, reduceAdd, reduceIte, reduceEqDiff, Nat.reduceBEq, reduceCtorEq]; (try go_unwrap; try simp only [hd, RR, reduceCtorEq]))) | refine And.intro ?_ ?_)
  all_goals first | rfl | exact ⟨m, hi0, hf, rfl⟩ | exact ⟨rfl, m, hi0, hf, rfl⟩
 have hd : decide ((i : Int) < ns.length) = true := by simp only [decide_eq_true_eq]; omega
 have hgs := jD9 ns i h
 rw [List.drop_eq_getElem_cons h, goA] at hX
 generalize ns[i] = s at *
 have h67 := V29 rs s (by omega)
 cases hfd : rs.find? (fun r => decide (r.name = s)) with
 | none =>
  rw [hfd] at hX
  rw [kE6 hfd] at h67
  have dn : decide ((-1 : Int) < 0) = true := rfl
  repeat' (first | exact clo | (exact Or.inr ⟨rfl, by decide⟩) | (refine sqI ?_; intros) | refine stp ?_ | (refine cnd rfl ?_ ?_ <;> intro hcond <;> (try contradiction) <;> try simp only [DD] at hcond) | (refine jAG ?_; intro hg; try simp only [hg]) | refine jBB 6 E29 h67 (by simp [PV.lend, PV.view, Mem.get]) (by simp [PV.jBU, PV.lend, PV.view, PV.seen, jHH, PV.scalar, Mem.get, Sh.size]) (by simp [PV.flat]) ?_ | (refine saI ?_ ?_; intros) | (refine ari ?_; first | omega | (simp only [DD, LL] <;> omega) | (go_unwrap; omega) | (simp only [DD] at hg; omega)) | (refine stq ?_; focus (simp only [hd, hnl, hgs, dn, List.cons_append, List.nil_append, SA, reduceAdd, reduceIte, reduceEqDiff, Nat.reduceBEq, reduceCtorEq]; (try go_unwrap; try simp only [hd, hnl, hgs, dn, List.cons_append, List.nil_append, RR, reduceCtorEq]))) | refine And.intro ?_ ?_)
  all_goals exact ⟨(i + 1, f, m), (by first | rfl | (simp only [TT, jAF.kill, PV.kill, Nat.reduceLeDiff, reduceIte, Nat.le_refl, Nat.zero_le, Nat.not_le, Nat.lt_irrefl]; done) | (simp [jBE, jAZ, jAF.kill, PV.kill]; done)), (by first | rfl | (simp only [TT, jAF.kill, PV.kill, Nat.reduceLeDiff, reduceIte, Nat.le_refl, Nat.zero_le, Nat.not_le, Nat.lt_irrefl]; done) | (simp [jBE, jAZ, jAF.kill, PV.kill]; done)), ⟨h, hi0, hf, hX⟩, by simp only; omega⟩
 | some r =>
  rw [hfd] at hX
  simp only at hX
  obtain ⟨j, hj, hjx, hrj, hnm⟩ := kCC hfd
  rw [hjx] at h67
  have dn : decide ((j : Int) < 0) = false := by simp only [decide_eq_false_iff_not]; omega
  have hgr : (rs.map rlP).getD j .junk = .agg [.str r.name, .list (some 4) (r.tree.map ndP)] := by rw [<- hrp, <- hrj]; simp [List.getD, hj]
  have hok := hr r (List.mem_of_find?_eq_some hfd)
  have h16 := V31 kIS f (jB4 jJM m) (fun s => by rw [jCR, hf]) r.tree hok.len hok.sz
  simp only [jFL] at h16
  generalize jFF f r.tree = q at *
  obtain ⟨v, e⟩ := q
  simp only at hX h16
  by_cases he : e = 0
  ·subst he
   rw [if_neg (by simp)] at hX
   have hms := jD2 jJM m s v
   repeat' (first | exact clo | exact (rfl : KK.str = KK.str) | (exact Or.inr ⟨rfl, by decide⟩) | (refine sqI ?_; intros) | refine stp ?_ | (refine cnd rfl ?_ ?_ <;> intro hcond <;> (try contradiction) <;> try simp only [DD] at hcond) | (refine jAG ?_; intro hg; try simp only [hg]) | refine jBB 6 E29 h67 (by simp [PV.lend, PV.view, Mem.get]) (by simp [PV.jBU, PV.lend, PV.view, PV.seen, jHH, PV.scalar, Mem.get, Sh.size]) (by simp [PV.flat]) ?_ | refine jAA E31 (h16) ?_ ?_ ?_ ?_ | (refine saI ?_ ?_; intros) | (refine ari ?_; first | omega | (simp only [DD, LL] <;> omega) | (go_unwrap; omega) | (simp only [DD] at hg; omega)) | (refine stq ?_; focus (simp only [hd, hnl, hlen, hgs, dn, hgr, jS7, hms, List.cons_append, List.nil_append, SA, reduceAdd, reduceIte, reduceEqDiff, Nat.reduceBEq, reduceCtorEq]; (try go_unwrap; try simp only [hd, hnl, hlen, hgs, dn, hgr, jS7, hms, List.cons_append, List.nil_append, RR, reduceCtorEq]))) | refine And.intro ?_ ?_)
   all_goals exact ⟨(i + 1, upd f s v, jIN m s v), (by first | rfl | (simp only [TT, jAF.kill, PV.kill, Nat.reduceLeDiff, reduceIte, Nat.le_refl, Nat.zero_le, Nat.not_le, Nat.lt_irrefl]; done) | (simp [jBE, jAZ, jAF.kill, PV.kill]; done)), (by first | rfl | (simp only [TT, jAF.kill, PV.kill, Nat.reduceLeDiff, reduceIte, Nat.le_refl, Nat.zero_le, Nat.not_le, Nat.lt_irrefl]; done) | (simp [jBE, jAZ, jAF.kill, PV.kill]; done)), ⟨h, jJC hi0 s v, fun x => by simp only [jDT, upd]; split <;> simp_all, hX⟩, by simp only; omega⟩
  ·rw [if_pos he] at hX
   subst hX
   have d1 : decide (e = 0) = false := decide_eq_false he
   repeat' (first | exact clo | (exact Or.inr ⟨rfl, by decide⟩) | (refine PW.stop (x := .ret) ?_) | (refine sqI ?_; intros) | refine stp ?_ | (refine cnd rfl ?_ ?_ <;> intro hcond <;> (try contradiction) <;> try simp only [DD] at hcond) | (refine jAG ?_; intro hg; try simp only [hg]) | refine jBB 6 E29 h67 (by simp [PV.lend, PV.view, Mem.get]) (by simp [PV.jBU, PV.lend, PV.view, PV.seen, jHH, PV.scalar, Mem.get, Sh.size]) (by simp [PV.flat]) ?_ | refine jAA E31 (h16) ?_ ?_ ?_ ?_ | (refine saI ?_ ?_; intros) | (refine ari ?_; first | omega | (simp only [DD, LL] <;> omega) | (go_unwrap; omega) | (simp only [DD] at hg; omega)) | (refine stq ?_; focus (simp only [hd, hnl, hlen, hgs, dn, hgr, jS7, d1, List.cons_append, List.nil_append, SA, reduceAdd, reduceIte, reduceEqDiff, Nat.reduceBEq, reduceCtorEq]; (try go_unwrap; try simp only [hd, hnl, hlen, hgs, dn, hgr, jS7, d1, List.cons_append, List.nil_append, RR, reduceCtorEq]))) | refine And.intro ?_ ?_)
   all_goals
    refine ⟨?_⟩
    refine PW.trim 0 (fun _ _ => rfl) ?_
    simp only [TT, jAF.kill, PV.kill, Nat.reduceLeDiff, reduceIte]
    repeat' (first | exact clo | (refine sqI ?_; intros) | refine stp ?_ | (refine cnd rfl ?_ ?_ <;> intro hcond <;> (try contradiction) <;> try simp only [DD] at hcond) | (refine jAG ?_; intro hg; try simp only [hg]) | (refine saI ?_ ?_; intros) | (refine ari ?_; first | omega | (simp only [DD, LL] <;> omega) | (go_unwrap; omega) | (simp only [DD] at hg; omega)) | (refine stq ?_; focus (simp only [SA, reduceAdd, reduceIte, reduceEqDiff, Nat.reduceBEq, reduceCtorEq]; (try go_unwrap; try simp only [RR, reduceCtorEq]))) | refine And.intro ?_ ?_)
    all_goals first | rfl | exact ⟨rfl, rfl⟩
theorem jMR {f g : jHO} {n : Nd} (acc : List Int) (h : n.op = 1 -> f n.name = g n.name) : jB9 f n acc = jB9 g n acc := by
 unfold jB9
 by_cases ho : n.op = 1
 ·rw [if_pos ho, if_pos ho, h ho]
 ·rw [if_neg ho, if_neg ho]
theorem jJQ {f g : jHO} : ∀ (l : List Nd) (acc : List Int), (∀ n ∈ l, n.op = 1 -> f n.name = g n.name) -> jFG f l acc = jFG g l acc
 | [], acc, _ => rfl
 | n :: l, acc, h => by
  rw [jFG, jFG, jMR acc (h n (by simp))]
  cases jB9 g n acc with
  | error e => rfl
  | ok v => exact jJQ l _ fun m hm => h m (by simp [hm])
theorem jLV {f g : jHO} {l : List Nd} (h : ∀ s ∈ jBL l, f s = g s) : jFF f l = jFF g l := by
 unfold jFF
 rw [jJQ l [] fun n hn ho => h n.name (kBW.2 ⟨n, hn, ho, rfl⟩)]
abbrev kCR (rs : List Rl) (s : St) : Option Rl := rs.find? (fun r => decide (r.name = s))
theorem jLQ {rs rs' : List Rl} (h : ∀ s, kCR rs s = kCR rs' s) : ∀ (ns : List St) (f : jHO), goA rs ns f = goA rs' ns f
 | [], f => rfl
 | s :: ss, f => by
  rw [goA, goA, show rs.find? (fun r => decide (r.name = s)) = rs'.find? (fun r => decide (r.name = s)) from h s]
  cases rs'.find? (fun r => decide (r.name = s)) with
  | none => exact jLQ h ss f
  | some r =>
   simp only
   split
   ·rfl
   ·exact jLQ h ss _
theorem jT1 {rs : List Rl} : ∀ (ns : List St) (f : jHO) {e : Int}, goA rs ns f = .error e -> e ≠ 0
 | [], f, e, h => by cases h
 | s :: ss, f, e, h => by
  rw [goA] at h
  split at h
  ·exact jT1 ss f h
  ·split at h
   ·cases h; assumption
   ·exact jT1 ss _ h
theorem kDX {env : jHO} {rs : List Rl} {e : Int} (h : allM env rs = .error e) : e ≠ 0 := by
 unfold allM at h
 split at h
 ·cases h; assumption
 ·split at h
  ·cases h; assumption
  ·exact jT1 _ _ h
theorem kCK {rs : List Rl} : ∀ (ns : List St) (f F : jHO), goA rs ns f = .ok F -> ns.Nodup -> (∀ a s b, ns = a ++ s :: b -> ∀ r, kCR rs s = some r -> ∀ x ∈ jBL r.tree, x ∉ s :: b) ->
  (∀ x, x ∉ ns -> F x = f x) ∧ ∀ s ∈ ns, ∀ r, kCR rs s = some r -> ∃ v, jFF F r.tree = (v, 0) ∧ F s = some v
 | [], f, F, h, _, _ => by cases h; exact ⟨fun _ _ => rfl, fun _ h => by cases h⟩
 | s :: ss, f, F, h, hn, hc => by
  obtain ⟨hs, hn'⟩ := List.nodup_cons.1 hn
  have hc' : ∀ a t b, ss = a ++ t :: b -> ∀ r, kCR rs t = some r -> ∀ x ∈ jBL r.tree, x ∉ t :: b := fun a t b he => hc (s :: a) t b (by rw [he]; rfl)
  rw [goA] at h
  cases hf : rs.find? (fun r => decide (r.name = s)) with
  | none =>
   rw [hf] at h
   obtain ⟨i1, i2⟩ := kCK ss f F h hn' hc'
   refine ⟨fun x hx => i1 x fun hh => hx (List.mem_cons_of_mem _ hh), fun t ht r hr => ?_⟩
   rcases List.mem_cons.1 ht with rfl | ht
   ·have hr : rs.find? (fun r => decide (r.name = t)) = some r := hr
    rw [hf] at hr; cases hr
   ·exact i2 t ht r hr
  | some r =>
   rw [hf] at h
   simp only at h
   split at h
   ·cases h
   ·rename_i he
    have he : (jFF f r.tree).2 = 0 := Decidable.not_not.1 he
    obtain ⟨i1, i2⟩ := kCK ss _ F h hn' hc'
    refine ⟨fun x hx => ?_, fun t ht q hq => ?_⟩
    ·rw [i1 x fun hh => hx (List.mem_cons_of_mem _ hh)]
     unfold upd
     rw [if_neg fun e => hx (by rw [e]; exact List.mem_cons_self)]
    ·rcases List.mem_cons.1 ht with rfl | ht
     ·have hq : rs.find? (fun r => decide (r.name = t)) = some q := hq
      rw [hf] at hq
      cases hq
      refine ⟨(jFF f r.tree).1, ?_, ?_⟩
      ·have hcg : jFF F r.tree = jFF f r.tree := jLV fun x hx => by
        have hx' := hc [] t ss rfl r hf x hx
        rw [i1 x fun hh => hx' (List.mem_cons_of_mem _ hh)]
        unfold upd
        rw [if_neg fun e => hx' (by rw [e]; exact List.mem_cons_self)]
       rw [hcg, <- he]
      ·rw [i1 t hs]; unfold upd; rw [if_pos rfl]
     ·exact i2 t ht q hq
theorem kCQ {rs : List Rl} (hn : (rs.map (·.name)).Nodup) {r : Rl} (hr : r ∈ rs) : kCR rs r.name = some r := by
 induction rs with
 | nil => cases hr
 | cons q l ih =>
  simp only [List.map_cons, List.nodup_cons] at hn
  unfold kCR
  rw [List.find?_cons]
  rcases List.mem_cons.1 hr with rfl | hr
  ·simp
  ·have : q.name ≠ r.name := fun e => hn.1 (by rw [e]; exact List.mem_map_of_mem hr)
   rw [decide_eq_false this]
   exact ih hn.2 hr
theorem kFJ {rs rs' : List Rl} (hp : rs'.Perm rs) (hn : (rs.map (·.name)).Nodup) (s : St) : kCR rs s = kCR rs' s := by
 have hn' : (rs'.map (·.name)).Nodup := (hp.map _).nodup_iff.2 hn
 cases hf : kCR rs s with
 | some r =>
  have h1 := List.mem_of_find?_eq_some hf
  have h2 := List.find?_some hf
  simp only [decide_eq_true_eq] at h2
  rw [<- h2, kCQ hn' (hp.mem_iff.2 h1)]
 | none =>
  cases hf' : kCR rs' s with
  | none => rfl
  | some r =>
   have h1 := List.mem_of_find?_eq_some hf'
   have h2 := List.find?_some hf'
   simp only [decide_eq_true_eq] at h2
   rw [<- h2, kCQ hn (hp.mem_iff.1 h1)] at hf
   cases hf
theorem jPM (rs : List Rl) : (rs.map edR).map (·.name) = rs.map (·.name) := by rw [List.map_map]; rfl
theorem kJ4 {l l' : List Ed} (hp : l'.Perm l) : kM9 l l' := by
 have hpn : (l.map (·.name)).Perm (l'.map (·.name)) := (hp.map _).symm
 have hw : jAN l = 0 ↔ jAN l' = 0 := jZG hp.length_eq.symm hpn ⟨fun h e he => h e (hp.mem_iff.1 he), fun h e he => h e (hp.mem_iff.2 he)⟩
 have hns : nsM l = nsM l' := by
  have key : ∀ {A B : List St}, A.Perm B -> jBY A = jBY B := by
   intro A B h
   exact List.Perm.eq_of_pairwise (le := fun x y : St => x <= y) (fun a b _ _ h1 h2 => List.le_antisymm h1 h2)
    ((List.pairwise_mergeSort kDZ kDY A).imp (by simp)) ((List.pairwise_mergeSort kDZ kDY B).imp (by simp)) ((List.mergeSort_perm _ _).trans (h.trans (List.mergeSort_perm _ _).symm))
  exact key hpn
 refine ⟨hw, hns, fun h0 s x => ?_⟩
 have n1 := (jBX.1 h0).2.1
 have n2 := (jBX.1 (hw.1 h0)).2.1
 constructor
 ·intro hx0
  obtain ⟨-, e, he, rfl, hx⟩ := kBP hx0
  rw [jYF n2 (hp.mem_iff.2 he)]; exact hx
 ·intro hx0
  obtain ⟨-, e, he, rfl, hx⟩ := kBP hx0
  rw [jYF n1 (hp.mem_iff.1 he)]; exact hx
theorem jKC {env F : jHO} {rs : List Rl} (h : allM env rs = .ok F) : (∀ r ∈ rs, ∃ v, jFF F r.tree = (v, 0) ∧ F r.name = some v) ∧ ∀ s v, env s = some v -> F s = some v := by
 unfold allM at h
 split at h
 ·cases h
 rename_i h1
 have h1 : jEQ env rs = 0 := Decidable.not_not.1 h1
 split at h
 ·cases h
 rename_i h2
 have h2 : (jAV (rs.map edR)).2 = 0 := Decidable.not_not.1 h2
 obtain ⟨hw, ho, hp⟩ := jF2 h2
 have hne := (jBX.1 hw).2.1
 have hn : (rs.map (·.name)).Nodup := by rw [<- jPM]; exact hne
 have hnn : (jAV (rs.map edR)).1.Nodup := hp.nodup_iff.2 (jI0 hw).nodup
 generalize (jAV (rs.map edR)).1 = ns at *
 obtain ⟨g1, g2⟩ := kCK ns env F h hnn (fun a s b he r hr x hx => by
  have hm := List.mem_of_find?_eq_some hr
  have hs := List.find?_some hr
  simp only [decide_eq_true_eq] at hs
  have hxv : x ∈ ndM (rs.map edR) s := by
   rw [<- hs]
   have := jYF hne (List.mem_map_of_mem (f := edR) hm)
   have e : ndM (rs.map edR) r.name = jG0 r.tree := this
   rw [e]
   exact ((jKI _).2 x).2 hx
  intro hh
  have hxn : x ∈ ns := by rw [he]; exact List.mem_append_right _ hh
  have hxa := ho a s b he x hxv (hp.mem_iff.1 hxn)
  rw [he] at hnn
  exact (List.nodup_append.1 hnn).2.2 x hxa x hh rfl)
 refine ⟨fun r hr => ?_, fun s v hv => ?_⟩
 ·exact g2 r.name (hp.mem_iff.2 (jH0.2 ⟨edR r, List.mem_map_of_mem hr, rfl⟩)) r (kCQ hn hr)
 ·rw [g1 s fun hs => ?_]
  ·exact hv
  ·obtain ⟨e, he, rfl⟩ := jH0.1 (hp.mem_iff.1 hs)
   obtain ⟨r, hr, rfl⟩ := List.mem_map.1 he
   have : env r.name = none := ((jJ0.1 h1).2 r hr).2.1
   have hv : env r.name = some v := hv
   rw [this] at hv; cases hv
def jEB (l : List Fr) (i : Nat) : Rl := ⟨rn i, (exF (l.getD i default) i).nds 0⟩
def jBJ (l : List Fr) (n : Nat) : List Rl := (List.range n).map (jEB l)
theorem jM8 (l : List Fr) (n : Nat) : jBJ l (n + 1) = jBJ l n ++ [jEB l n] := by simp [jBJ, List.range_succ]
theorem jC0 {l : List Fr} {n : Nat} {r : Rl} : r ∈ jBJ l n ↔ ∃ i, i < n ∧ jEB l i = r := by simp [jBJ]
theorem jE4 (l : List Fr) (n : Nat) : (jBJ l n).length = n := by simp [jBJ]
theorem kA5 (l : List Fr) {i : Nat} (hi : i < 12) : jMH (jEB l i).tree := (kGH (l.getD i default) i (by omega)).ok
theorem jM9 (l : List Fr) {i : Nat} (hi : i < 12) : (jEB l i).tree.length <= 7 := by
 have := (jWU (l.getD i default) i).1
 unfold jEB
 simp only [Ex.jB7]; omega
theorem kLE (l : List Fr) {i : Nat} (hi : i < 12) : RlF (jEB l i) := by
 have h1 := jM9 l hi
 have h2 := (kA5 l hi).small
 have h3 := jFR i
 refine ⟨by omega, fun n hn => ?_, ?_⟩
 ·have := h2 n hn; omega
 ·simp only [jEB, rn, List.length_append, List.length_cons, List.length_nil]; omega
theorem kA6 (l : List Fr) {i : Nat} (hi : i < 12) {s : St} (h : s ∈ jBL (jEB l i).tree) : NmI i s := by
 obtain ⟨w, -, -, hok⟩ : Fm 2 (textF (l.getD i default) i) (exF (l.getD i default) i) := kCP (jIP _ _ (by omega)) (jIP _ _ (by omega)) (jIP _ _ (by omega))
 unfold jEB at h
 rw [jE8 _ _ hok] at h
 exact kPE _ _ s h
theorem kIH {i : Nat} (hi : i < 12) {s : St} (h : NmI i s) : isName s = true := by
 rcases h with rfl | rfl | ⟨j, hj, rfl⟩
 ·decide
 ·decide
 ·exact kEQ j (by omega)
theorem kBR {s : St} (h : isName s = true) : jH1 s = true := by
 unfold isName at h
 simp only [Bool.and_eq_true, decide_eq_true_eq] at h
 unfold jH1
 simp [h.1.1.1, h.1.1.2]
theorem jQO (l : List Fr) {i : Nat} (hi : i < 12) {s : St} (h : s ∈ jG0 (jEB l i).tree) : NmI i s := kA6 l hi (((jKI _).2 s).1 h)
theorem kKR (l : List Fr) {i : Nat} (hi : i < 12) : (jG0 (jEB l i).tree).length <= 7 := by
 have h1 := jC7 (jD0 (jBL (jEB l i).tree))
 have h2 := jGT (jEB l i).tree
 have h3 := jM9 l hi
 rw [List.length_mergeSort] at h1
 unfold jG0
 omega
abbrev edF (l : List Fr) (n : Nat) : List Ed := (jBJ l n).map edR
theorem kHK (l : List Fr) {n : Nat} (hn : n <= 12) : ((edF l n).map (·.name)).Nodup := by
 rw [jPM]
 unfold jBJ
 rw [List.map_map]
 refine List.pairwise_map.2 ((List.nodup_range (n := n)).imp_of_mem ?_)
 intro a b ha hb hab he
 exact hab (kLG a (by have := List.mem_range.1 ha; omega) b (by have := List.mem_range.1 hb; omega) he)
theorem jEK (l : List Fr) {n : Nat} (hn : n <= 12) : jAN (edF l n) = 0 := by
 refine jBX.2 ⟨by rw [List.length_map, jE4]; omega, kHK l hn, fun e he => ?_⟩
 obtain ⟨r, hr, rfl⟩ := List.mem_map.1 he
 obtain ⟨i, hi, rfl⟩ := jC0.1 hr
 have hi : i < 12 := by omega
 refine ⟨kBR (kEQ i (by omega)), by have := kKR l hi; simp only [edR]; omega, ?_⟩
 rw [List.all_eq_true]
 exact fun s hs => kBR (kIH hi (jQO l hi hs))
theorem kHL (l : List Fr) {n i : Nat} (hn : n <= 12) (hi : i < n) : ndM (edF l n) (rn i) = jG0 (jEB l i).tree :=
 jYF (kHK l hn) (e := edR (jEB l i)) (List.mem_map_of_mem (jC0.2 ⟨i, hi, rfl⟩))
theorem kDE (l : List Fr) {n : Nat} {s : St} : s ∈ nsM (edF l n) ↔ ∃ i, i < n ∧ rn i = s := by
 rw [jH0]
 constructor
 ·rintro ⟨e, he, rfl⟩
  obtain ⟨r, hr, rfl⟩ := List.mem_map.1 he
  obtain ⟨i, hi, rfl⟩ := jC0.1 hr
  exact ⟨i, hi, rfl⟩
 ·rintro ⟨i, hi, rfl⟩
  exact ⟨_, List.mem_map_of_mem (jC0.2 ⟨i, hi, rfl⟩), rfl⟩
theorem jJ9 (l : List Fr) {n : Nat} (hn : n <= 12) : (jAV (edF l n)).2 = 0 := by
 have hw := jEK l hn
 rcases kEN (edF l n) with h | h | h
 ·exact h
 ·exfalso
  obtain ⟨-, hs, -⟩ := jZ6 h
  obtain ⟨out, h1, h2, h3, h4⟩ := jM4 hs
  have key : ∀ i, i < n -> rn i ∈ out := by
   intro i
   induction i using Nat.strongRecOn with
   | ind i ih =>
    intro hi
    refine Classical.byContradiction fun hno => ?_
    obtain ⟨x, hx, hxN, hxo⟩ := h4 _ (kDE l |>.2 ⟨i, hi, rfl⟩) hno
    rw [kHL l hn hi] at hx
    obtain ⟨j, hj, rfl⟩ := (kDE l).1 hxN
    have hxy := kLF j (by omega)
    rcases jQO l (by omega) hx with h | h | ⟨k, hk, h⟩
    ·exact hxy.1 h
    ·exact hxy.2 h
    ·rw [h] at hxo
     exact hxo (ih k hk (by omega))
  have hle := jE6 (jI0 hw).nodup fun x hx => by
   obtain ⟨i, hi, rfl⟩ := (kDE l).1 hx
   exact key i hi
  simp at h2
  omega
 ·exact absurd hw h.1
abbrev kJ2 (x y : Int) : List Pr := [([120], x), ([121], y)]
abbrev jI7 (x y : Int) : jHO := fun s => jCA (kJ2 x y) s
theorem kMX (x y : Int) {i : Nat} (hi : i < 12) : jI7 x y (rn i) = none := by
 obtain ⟨h1, h2⟩ := kLF i (by omega)
 simp [jCA, Ne.symm h1, Ne.symm h2]
theorem kH4 (l : List Fr) {n : Nat} (hn : n <= 12) (x y : Int) : jEQ (jI7 x y) (jBJ l n) = 0 := by
 refine jJ0.2 ⟨by rw [jE4]; omega, fun r hr => ?_⟩
 obtain ⟨i, hi, rfl⟩ := jC0.1 hr
 exact ⟨kEQ i (by omega), kMX x y (by omega), (kA5 l (by omega)).check⟩
theorem all_eq {env : jHO} {rs rs' : List Rl} (hp : rs'.Perm rs) (h1 : jEQ env rs = 0) (h2 : (jAV (rs.map edR)).2 = 0) : allM env rs' = allM env rs := by
 have h1' : jEQ env rs' = 0 := by
  rw [jJ0] at h1 ⊢
  rw [hp.length_eq]
  exact ⟨h1.1, fun r hr => h1.2 r (hp.mem_iff.1 hr)⟩
 obtain ⟨s1, s2, -⟩ := kAZ (kJ4 (hp.map edR))
 have h2' := s2.1 h2
 have hn : (rs.map (·.name)).Nodup := by rw [<- jPM]; exact (jBX.1 (jF2 h2).1).2.1
 have e1 : allM env rs = goA rs (jAV (rs.map edR)).1 env := by unfold allM; rw [if_neg (fun h => h h1), if_neg (fun h => h h2)]
 have e2 : allM env rs' = goA rs' (jAV (rs.map edR)).1 env := by unfold allM; rw [if_neg (fun h => h h1'), if_neg (fun h => h h2'), <- s1]
 rw [e1, e2]
 exact (jLQ (fun s => kFJ hp hn s) _ _).symm
theorem jX1 (l : List Fr) {n : Nat} (hn : n <= 12) (x y : Int) {rs' : List Rl} (hp : rs'.Perm (jBJ l n)) : allM (jI7 x y) rs' = allM (jI7 x y) (jBJ l n) :=
 all_eq hp (kH4 l hn x y) (jJ9 l hn)
theorem jX2 (l : List Fr) {n : Nat} (hn : n <= 12) {x y z : Int} {F F' : jHO} (h : allM (jI7 x y) (jBJ l n) = .ok F) (h' : allM (jI7 x z) (jBJ l n) = .ok F') : ∀ i, i < n -> [121] ∉ jEM (edF l n) (rn i) -> F (rn i) = F' (rn i) := by
 have hw := jEK l hn
 obtain ⟨s1, s2⟩ := jKC h
 obtain ⟨t1, t2⟩ := jKC h'
 have e1 := s2 [120] x (by simp [jCA])
 have e2 := t2 [120] x (by simp [jCA])
 intro i
 induction i using Nat.strongRecOn with
 | ind i ih =>
  intro hi hy
  have hat := kHL l hn hi
  obtain ⟨v, v1, v2⟩ := s1 _ (jC0.2 ⟨i, hi, rfl⟩)
  obtain ⟨u, u1, u2⟩ := t1 _ (jC0.2 ⟨i, hi, rfl⟩)
  have hE : jFF F (jEB l i).tree = jFF F' (jEB l i).tree := jLV fun s hs => by
   have hsv := ((jKI (jEB l i).tree).2 s).2 hs
   rw [<- hat] at hsv
   rcases kA6 l (by omega) hs with rfl | rfl | ⟨j, hj, rfl⟩
   ·rw [e1, e2]
   ·exact absurd ((jIM hw _ _).2 (.one _ _ hsv)) hy
   ·exact ih j hj (by omega) fun hb => hy ((jIM hw _ _).2 (.more _ _ _ hsv ((jIM hw _ _).1 hb)))
  rw [hE, u1] at v1
  obtain ⟨rfl, -⟩ := Prod.mk.inj v1
  exact v2.trans u2.symm
theorem jTG (l : List Fr) {n : Nat} (hn : n <= 12) : jE5 (edF l n) (jAV (edF l n)).1 = true ∧ ∀ s ∈ nsM (edF l n), jC8 (nsM (edF l n)) (ndM (edF l n)) s (nsM (edF l n)).length s = 0 := by
 obtain ⟨h1, h2⟩ := kEM (jJ9 l hn)
 exact ⟨h2, (jQQ (jEK l hn)).2 h1⟩
def jZY (L : List Rl) (a b : Nat) : List Rl := (L.set a (L.getD b default)).set b (L.getD a default)
theorem swap_perm (L : List Rl) {a b : Nat} (ha : a < L.length) (hb : b < L.length) : (jZY L a b).Perm L := by
 have := List.set_set_perm ha hb
 unfold jZY
 simp only [List.getD, List.getElem?_eq_getElem ha, List.getElem?_eq_getElem hb, Option.getD_some]
 exact this
theorem E34 : Ent Tryz.prog 34 := ⟨Tryz.f34, Tryz.func34, by kernel_rfl, by kernel_rfl⟩
def jUK (T : List (St × List St)) (out : List St) : Mem :=
 [some (.var none (.jC9 .str (jB4 jH7 T))), some (.mp .str (jB4 jJB (jEO out))), some (.var none (.mref 1)), some (.var none (.sl none 4 out.length)), some (.row none (out.map PV.str)),
  some (.var none (.fn 34 [] [.ref 0 0, .ref 2 0, .ref 3 0, .ref 5 0]))]
theorem kIB {nd : St -> List St} {U : List St} (hU : ∀ s x, x ∈ nd s -> x ∈ U) {s y : St} (h : Rch nd s y) : y ∈ U := by
 induction h with
 | one s y h => exact hU s y h
 | more s x y h hr ih => exact ih
theorem kDJ (nd : St -> List St) (n : Nat) (x : St) (xs out : List St) : jP2 nd n (x :: xs) out = if x ∈ out then jP2 nd n xs out else jP2 nd n xs (dfs nd n x (out ++ [x])) := by rw [jP2]
theorem jXS {o : List St} {x : St} (h : o.Nodup) (hx : x ∉ o) : (o ++ [x]).Nodup := by
 rw [List.nodup_append]
 refine ⟨h, by simp, fun y hy z hz e => ?_⟩
 simp at hz; subst hz; subst e; exact hx hy
theorem V34 (T : List (St × List St)) (nd : St -> List St) (U : List St) (hU : ∀ s x, x ∈ nd s -> x ∈ U) (hUl : U.length <= 1000000) (hT : ∀ s, (jCA T s).getD [] = nd s) (hb : ∀ s, (nd s).length <= 1000000) : ∀ (n : Nat) (s : St) (out : List St), jPT U out < n -> out.Nodup -> (∀ x ∈ out, x ∈ U) ->
  jA2 Tryz.prog G0 34 [.str s, .ref 0 0, .ref 2 0, .ref 3 0, .ref 5 0] (jUK T out) (jAR 4) (fun p μ' => p = .tup [] ∧ μ' = jUK T (dfs nd n s out)) := by
 intro n
 induction n with
 | zero => intro s out h; omega
 | succ n ih =>
  intro s out hc hn hin
  have hlk := jJ4 T s
  have hTs := hT s
  have hxs : ∀ x ∈ nd s, x ∈ U := fun x hx => hU s x hx
  have hbs := hb s
  unfold dfs
  generalize nd s = xs at hTs hxs hbs
  have hE : Sub ((jFK (jB4 jH7 T) (.str s)).getD .jAH) (txL xs) := by rw [<- hTs]; exact jZ3 T s
  refine jA2.moves (mv := fun t => t == 4 || decide (6 <= t)) (fun t ht h => ?_) ?_
  ·simp only [jUK, List.length_cons, List.length_nil] at ht
   simp only [Bool.or_eq_true, beq_iff_eq, decide_eq_true_eq] at h
   simp only [jAR, beq_iff_eq]; omega
  refine jA2.jAT Tryz.func34 k34 mix (by simp [c34]) ?_
  simp only [c34, L34, CC, jBW, jUK]
  have hmv : ∀ t, 6 <= t -> (t == 4 || decide (6 <= t)) = true := fun t h => by simp [h]
  rcases hq : jCA T s with _ | ns
  ·rw [hq] at hTs hlk
   have hx0 : xs = [] := hTs.symm
   subst hx0
   simp only at hlk
   have hd0 : jP2 nd n [] out = out := by unfold jP2; rfl
   repeat' (first | exact clo | (refine sqI ?_; intros) | refine stp ?_ | (refine cnd rfl ?_ ?_ <;> intro hcond <;> (try contradiction) <;> try simp only [DD] at hcond) | (refine jAG ?_; intro hg; try simp only [hg]) | (refine saI ?_ ?_; intros) | (refine ari ?_; first | omega | (simp only [DD, LL] <;> omega) | (go_unwrap; omega) | (simp only [DD] at hg; omega)) | (refine stq ?_; focus (simp only [hlk, jBQ, cut, SA, reduceAdd, reduceIte, reduceEqDiff, Nat.reduceBEq, reduceCtorEq]; (try go_unwrap; try simp only [hlk, jBQ, cut, RR, reduceCtorEq]))) | refine And.intro ?_ ?_)
   refine PW.jDV (σ := Unit) 6 hmv [0, 1, 2, 3, 4, 10, 11, 12] (fun _ => [.str s, .ref 0 0, .ref 2 0, .ref 3 0, .ref 5 0, .jAH, .int .i64 0, .int .i64 0]) (fun _ => jUK T out) (fun _ => True) (fun _ => 0) () ?_ rfl trivial ?_
   ·simp only [SA, reduceAdd, reduceIte, reduceEqDiff, Nat.reduceBEq, reduceCtorEq]; rfl
   rintro ⟨⟩ -
   simp only [List.zip_cons_cons, List.zip_nil_left]
   repeat' (first | exact clo | (refine sqI ?_; intros) | refine stp ?_ | (refine cnd rfl ?_ ?_ <;> intro hcond <;> (try contradiction) <;> try simp only [DD] at hcond) | (refine jAG ?_; intro hg; try simp only [hg]) | (refine saI ?_ ?_; intros) | (refine ari ?_; first | omega | (simp only [DD, LL] <;> omega) | (go_unwrap; omega) | (simp only [DD] at hg; omega)) | (refine stq ?_; focus (simp only [SA, reduceAdd, reduceIte, reduceEqDiff, Nat.reduceBEq, reduceCtorEq]; (try go_unwrap; try simp only [RR, reduceCtorEq]))) | refine And.intro ?_ ?_)
   all_goals first | rfl | (rw [hd0]; rfl)
  rw [hq] at hTs hlk
  have hx0 : ns = xs := hTs
  subst hx0
  simp only at hlk
  have hlen : ((ns.map PV.str).length : Nat) = ns.length := by simp
  repeat' (first | exact clo | (refine sqI ?_; intros) | refine stp ?_ | (refine cnd rfl ?_ ?_ <;> intro hcond <;> (try contradiction) <;> try simp only [DD] at hcond) | (refine jAG ?_; intro hg; try simp only [hg]) | (refine saI ?_ ?_; intros) | (refine ari ?_; first | omega | (simp only [DD, LL] <;> omega) | (go_unwrap; omega) | (simp only [DD] at hg; omega)) | (refine stq ?_; focus (simp only [hlk, hlen, jBQ, cut, SA, reduceAdd, reduceIte, reduceEqDiff, Nat.reduceBEq, reduceCtorEq]; (try go_unwrap; try simp only [hlk, hlen, jBQ, cut, RR, reduceCtorEq]))) | refine And.intro ?_ ?_)
  refine PW.jDV (σ := Nat × List St) 6 hmv [0, 1, 2, 3, 4, 10, 11, 12] (fun s' => [.str s, .ref 0 0, .ref 2 0, .ref 3 0, .ref 5 0, txL ns, .int .i64 ns.length, .int .i64 s'.1]) (fun s' => jUK T s'.2)
   (fun s' => s'.1 <= ns.length ∧ s'.2.Nodup ∧ (∀ x ∈ s'.2, x ∈ U) ∧ jPT U s'.2 <= n ∧ jP2 nd n ns out = jP2 nd n (ns.drop s'.1) s'.2) (fun s' => ns.length - s'.1) (0, out) ?_ rfl ⟨by simp, hn, hin, by simp only; omega, rfl⟩ ?_
  ·simp only [SA, reduceAdd, reduceIte, reduceEqDiff, Nat.reduceBEq, reduceCtorEq]; rfl
  rintro ⟨i, o⟩ ⟨hi, hon, hoU, hoc, hod⟩
  simp only at hi hon hoU hoc hod
  simp only [List.zip_cons_cons, List.zip_nil_left, jUK]
  rcases Nat.lt_or_ge i ns.length with h | h
  case inr =>
   have hd : decide ((i : Int) < ns.length) = false := by simp only [decide_eq_false_iff_not]; omega
   have hR : jP2 nd n ns out = o := by rw [hod, List.drop_of_length_le h]; unfold jP2; rfl
   repeat' (first | exact clo | (refine sqI ?_; intros) | refine stp ?_ | (refine cnd rfl ?_ ?_ <;> intro hcond <;> (try contradiction) <;> try simp only [DD] at hcond) | (refine jAG ?_; intro hg; try simp only [hg]) | (refine saI ?_ ?_; intros) | (refine ari ?_; first | omega | (simp only [DD, LL] <;> omega) | (go_unwrap; omega) | (simp only [DD] at hg; omega)) | (refine stq ?_; focus (simp only [hd, hlen, SA, reduceAdd, reduceIte, reduceEqDiff, Nat.reduceBEq, reduceCtorEq]; (try go_unwrap; try simp only [hd, hlen, RR, reduceCtorEq]))) | refine And.intro ?_ ?_)
   all_goals first | (rw [hR]; done) | (rw [hR]; rfl)
  have hd : decide ((i : Int) < ns.length) = true := by simp only [decide_eq_true_eq]; omega
  have hg := jD9 ns i h
  have hxU := hxs ns[i] (List.getElem_mem h)
  rw [List.drop_eq_getElem_cons h] at hod
  generalize ns[i] = x at hg hxU hod
  have hl1 : (jFK (jB4 jJB (jEO o)) (.str x)).getD (.bool false) = .bool (decide (x ∈ o)) := by rw [jLG, jK8]
  rw [kDJ] at hod
  by_cases hx : x ∈ o
  ·rw [if_pos hx] at hod
   rw [decide_eq_true hx] at hl1
   repeat' (first | exact clo | (refine sqI ?_; intros) | refine stp ?_ | (refine cnd rfl ?_ ?_ <;> intro hcond <;> (try contradiction) <;> try simp only [DD] at hcond) | (refine jAG ?_; intro hg; try simp only [hg]) | (refine saI ?_ ?_; intros) | (refine ari ?_; first | omega | (simp only [DD, LL] <;> omega) | (go_unwrap; omega) | (simp only [DD] at hg; omega)) | (refine stq ?_; focus (simp only [hd, hg, hlen, hl1, jBQ, cut, SA, reduceAdd, reduceIte, reduceEqDiff, Nat.reduceBEq, reduceCtorEq]; (try go_unwrap; try simp only [hd, hg, hlen, hl1, jBQ, cut, RR, reduceCtorEq]))) | refine And.intro ?_ ?_)
   all_goals exact ⟨(i + 1, o), (by first | rfl | (simp only [TT, jAF.kill, PV.kill, Nat.reduceLeDiff, reduceIte, Nat.le_refl, Nat.zero_le, Nat.not_le, Nat.lt_irrefl]; done) | (simp [jBE, jAZ, jAF.kill, PV.kill]; done)), (by simp [jUK, jAZ, jAF.kill, PV.kill]), ⟨by simp only; omega, hon, hoU, hoc, hod⟩, by simp only; omega⟩
  ·rw [if_neg hx] at hod
   rw [decide_eq_false hx] at hl1
   have hlt := cnt_lt hxU hx
   have kP8 := jXS hon hx
   have kQA : ∀ y ∈ o ++ [x], y ∈ U := fun y hy => by
    rcases List.mem_append.1 hy with hy | hy
    ·exact hoU y hy
    ·simp at hy; subst hy; exact hxU
   have hih := ih x (o ++ [x]) (by omega) kP8 kQA
   obtain ⟨a, b, -, -, e⟩ := (jPP hU n).1 x (o ++ [x]) (by omega) kP8
   have hsz := jE6 hon hoU
   have s1 : jF7 (jB4 jJB (jEO o)) (.str x) (.bool true) = jB4 jJB (jEO (o ++ [x])) := by rw [<- jRG hx]; exact jD2 jJB _ _ _
   have ht : o.map PV.str ++ [.str x] = (o ++ [x]).map PV.str := by simp
   have hoL : ((o.map PV.str).length : Nat) = o.length := by simp
   have htk : (o.map PV.str).take o.length = o.map PV.str := List.take_of_length_le (by simp)
   have b1 : (o.length + 1) * 16 <= 140737488355328 := by omega
   have kRN : (o ++ [x]).length = o.length + 1 := by simp
   have hm4 : ((4 : Nat) == 4 || decide (6 <= 4)) = true := rfl
   simp only [jUK, kRN] at hih
   repeat' (first | exact clo | (refine sqI ?_; intros) | refine stp ?_ | (refine cnd rfl ?_ ?_ <;> intro hcond <;> (try contradiction) <;> try simp only [DD] at hcond) | (refine jAQ 4 E34 hih rfl ?_; rintro p μ' ⟨rfl, rfl⟩; simp only [hd, hg, hlen, hl1, s1, hoL, htk, ht, jBQ, cut, List.length_cons, List.length_nil, Nat.zero_add, SA, reduceAdd, reduceIte, reduceEqDiff, Nat.reduceBEq, reduceCtorEq]) | (refine jAG ?_; intro hg; try simp only [hg]) | (refine saI ?_ ?_; intros) | (refine ari ?_; first | omega | (simp only [DD, LL] <;> omega) | (go_unwrap; omega) | (simp only [DD] at hg; omega)) | (refine stq ?_; focus (simp only [hd, hg, hlen, hl1, s1, hoL, htk, ht, jBQ, cut, List.length_cons, List.length_nil, Nat.zero_add, SA, reduceAdd, reduceIte, reduceEqDiff, Nat.reduceBEq, reduceCtorEq]; (try go_unwrap; try simp only [hd, hg, hlen, hl1, s1, hoL, htk, ht, jBQ, cut, List.length_cons, List.length_nil, Nat.zero_add, RR, reduceCtorEq]))) | refine And.intro ?_ ?_)
   all_goals first | rfl | exact ⟨(i + 1, dfs nd n x (o ++ [x])), (by first | rfl | (simp only [TT, jAF.kill, PV.kill, Nat.reduceLeDiff, reduceIte, Nat.le_refl, Nat.zero_le, Nat.not_le, Nat.lt_irrefl]; done) | (simp [jBE, jAZ, jAF.kill, PV.kill]; done)), (by simp [jUK, jAZ, jAF.kill, PV.kill]), ⟨by simp only; omega, b, (fun y hy => by
    by_cases hy' : y ∈ o ++ [x]
    ·exact kQA y hy'
    ·exact kIB hU (e y hy hy')), Nat.le_trans (jUE (fun y hy => a y (by simp [hy]))) hoc, hod⟩, by simp only; omega⟩
end Go.Proofs.YthjkmhfiffojeaaGreatDoor
