import Derived.Test.YthekpjhffciakaaDoorProg
import Derived.KernelRfl
import Derived.Test.YthekpjhffciakaaDoorRows
import Derived.LaidMore
import Derived.Stop.Joined
import Derived.Test.YthekpjhffciakaaDoorQ13
import Derived.Test.YthekpjhffciakaaDoorQ7
import Derived.Test.YthekpjhffciakaaDoorP4
import Derived.Test.YthekpjhffciakaaDoorQ6
namespace Go.Proofs.YthekpjhffciakaaDoor
open Go PG Go.Proofs
set_option linter.unusedSimpArgs false
set_option linter.unusedVariables false
/-! What All comes to: whatever the rules' order; and each name's value is its formula's -/
theorem evalStep_congr {f g : EnvM} {n : Nd} (acc : List Int) (h : n.op = 1 → f n.name = g n.name) : evalStep f n acc = evalStep g n acc := by
  unfold evalStep
  by_cases ho : n.op = 1
  · rw [if_pos ho, if_pos ho, h ho]
  · rw [if_neg ho, if_neg ho]
theorem evalGo_congr {f g : EnvM} : ∀ (l : List Nd) (acc : List Int), (∀ n ∈ l, n.op = 1 → f n.name = g n.name) → evalGo f l acc = evalGo g l acc
  | [], acc, _ => rfl
  | n :: l, acc, h => by
    rw [evalGo, evalGo, evalStep_congr acc (h n (by simp))]
    cases evalStep g n acc with
    | error e => rfl
    | ok v => exact evalGo_congr l _ fun m hm => h m (by simp [hm])
theorem evalM_congr {f g : EnvM} {l : List Nd} (h : ∀ s ∈ namesV l, f s = g s) : evalM f l = evalM g l := by
  unfold evalM
  rw [evalGo_congr l [] fun n hn ho => h n.name (mem_names.2 ⟨n, hn, ho, rfl⟩)]
abbrev fndR (rs : List Rl) (s : St) : Option Rl := rs.find? (fun r => decide (r.name = s))
theorem goA_congr {rs rs' : List Rl} (h : ∀ s, fndR rs s = fndR rs' s) : ∀ (ns : List St) (f : EnvM), goA rs ns f = goA rs' ns f
  | [], f => rfl
  | s :: ss, f => by
    rw [goA, goA, show rs.find? (fun r => decide (r.name = s)) = rs'.find? (fun r => decide (r.name = s)) from h s]
    cases rs'.find? (fun r => decide (r.name = s)) with
    | none => exact goA_congr h ss f
    | some r =>
      simp only
      split
      · rfl
      · exact goA_congr h ss _
theorem goA_err {rs : List Rl} : ∀ (ns : List St) (f : EnvM) {e : Int}, goA rs ns f = .error e → e ≠ 0
  | [], f, e, h => by cases h
  | s :: ss, f, e, h => by
    rw [goA] at h
    split at h
    · exact goA_err ss f h
    · split at h
      · cases h; assumption
      · exact goA_err ss _ h
theorem all_err {env : EnvM} {rs : List Rl} {e : Int} (h : allM env rs = .error e) : e ≠ 0 := by
  unfold allM at h
  split at h
  · cases h; assumption
  · split at h
    · cases h; assumption
    · exact goA_err _ _ h
theorem goA_ok {rs : List Rl} : ∀ (ns : List St) (f F : EnvM), goA rs ns f = .ok F → ns.Nodup → (∀ a s b, ns = a ++ s :: b → ∀ r, fndR rs s = some r → ∀ x ∈ namesV r.tree, x ∉ s :: b) →
    (∀ x, x ∉ ns → F x = f x) ∧ ∀ s ∈ ns, ∀ r, fndR rs s = some r → ∃ v, evalM F r.tree = (v, 0) ∧ F s = some v
  | [], f, F, h, _, _ => by cases h; exact ⟨fun _ _ => rfl, fun _ h => by cases h⟩
  | s :: ss, f, F, h, hn, hc => by
    obtain ⟨hs, hn'⟩ := List.nodup_cons.1 hn
    have hc' : ∀ a t b, ss = a ++ t :: b → ∀ r, fndR rs t = some r → ∀ x ∈ namesV r.tree, x ∉ t :: b := fun a t b he => hc (s :: a) t b (by rw [he]; rfl)
    rw [goA] at h
    cases hf : rs.find? (fun r => decide (r.name = s)) with
    | none =>
      rw [hf] at h
      obtain ⟨i1, i2⟩ := goA_ok ss f F h hn' hc'
      refine ⟨fun x hx => i1 x fun hh => hx (List.mem_cons_of_mem _ hh), fun t ht r hr => ?_⟩
      rcases List.mem_cons.1 ht with rfl | ht
      · have hr : rs.find? (fun r => decide (r.name = t)) = some r := hr
        rw [hf] at hr; cases hr
      · exact i2 t ht r hr
    | some r =>
      rw [hf] at h
      simp only at h
      split at h
      · cases h
      · rename_i he
        have he : (evalM f r.tree).2 = 0 := Decidable.not_not.1 he
        obtain ⟨i1, i2⟩ := goA_ok ss _ F h hn' hc'
        refine ⟨fun x hx => ?_, fun t ht q hq => ?_⟩
        · rw [i1 x fun hh => hx (List.mem_cons_of_mem _ hh)]
          unfold upd
          rw [if_neg fun e => hx (by rw [e]; exact List.mem_cons_self)]
        · rcases List.mem_cons.1 ht with rfl | ht
          · have hq : rs.find? (fun r => decide (r.name = t)) = some q := hq
            rw [hf] at hq
            cases hq
            refine ⟨(evalM f r.tree).1, ?_, ?_⟩
            · have hcg : evalM F r.tree = evalM f r.tree := evalM_congr fun x hx => by
                have hx' := hc [] t ss rfl r hf x hx
                rw [i1 x fun hh => hx' (List.mem_cons_of_mem _ hh)]
                unfold upd
                rw [if_neg fun e => hx' (by rw [e]; exact List.mem_cons_self)]
              rw [hcg, ← he]
            · rw [i1 t hs]; unfold upd; rw [if_pos rfl]
          · exact i2 t ht q hq
theorem fnd_at {rs : List Rl} (hn : (rs.map (·.name)).Nodup) {r : Rl} (hr : r ∈ rs) : fndR rs r.name = some r := by
  induction rs with
  | nil => cases hr
  | cons q l ih =>
    simp only [List.map_cons, List.nodup_cons] at hn
    unfold fndR
    rw [List.find?_cons]
    rcases List.mem_cons.1 hr with rfl | hr
    · simp
    · have : q.name ≠ r.name := fun e => hn.1 (by rw [e]; exact List.mem_map_of_mem hr)
      rw [decide_eq_false this]
      exact ih hn.2 hr
theorem fnd_perm {rs rs' : List Rl} (hp : rs'.Perm rs) (hn : (rs.map (·.name)).Nodup) (s : St) : fndR rs s = fndR rs' s := by
  have hn' : (rs'.map (·.name)).Nodup := (hp.map _).nodup_iff.2 hn
  cases hf : fndR rs s with
  | some r =>
    have h1 := List.mem_of_find?_eq_some hf
    have h2 := List.find?_some hf
    simp only [decide_eq_true_eq] at h2
    rw [← h2, fnd_at hn' (hp.mem_iff.2 h1)]
  | none =>
    cases hf' : fndR rs' s with
    | none => rfl
    | some r =>
      have h1 := List.mem_of_find?_eq_some hf'
      have h2 := List.find?_some hf'
      simp only [decide_eq_true_eq] at h2
      rw [← h2, fnd_at hn (hp.mem_iff.1 h1)] at hf
      cases hf
theorem ed_names (rs : List Rl) : (rs.map edR).map (·.name) = rs.map (·.name) := by rw [List.map_map]; rfl
theorem ed_perm {l l' : List Ed} (hp : l'.Perm l) : SameE l l' := by
  have hpn : (l.map (·.name)).Perm (l'.map (·.name)) := (hp.map _).symm
  have hw : wrongM l = 0 ↔ wrongM l' = 0 := wrong_all hp.length_eq.symm hpn ⟨fun h e he => h e (hp.mem_iff.1 he), fun h e he => h e (hp.mem_iff.2 he)⟩
  have hns : nsM l = nsM l' := by
    have key : ∀ {A B : List St}, A.Perm B → OsortT A = OsortT B := by
      intro A B h
      exact List.Perm.eq_of_pairwise (le := fun x y : St => x ≤ y) (fun a b _ _ h1 h2 => List.le_antisymm h1 h2)
        ((List.pairwise_mergeSort Otx_tr Otx_tt A).imp (by simp)) ((List.pairwise_mergeSort Otx_tr Otx_tt B).imp (by simp)) ((List.mergeSort_perm _ _).trans (h.trans (List.mergeSort_perm _ _).symm))
    exact key hpn
  refine ⟨hw, hns, fun h0 s x => ?_⟩
  have n1 := (wrongM_0.1 h0).2.1
  have n2 := (wrongM_0.1 (hw.1 h0)).2.1
  constructor
  · intro hx0
    obtain ⟨-, e, he, rfl, hx⟩ := nd_in hx0
    rw [nd_at n2 (hp.mem_iff.2 he)]; exact hx
  · intro hx0
    obtain ⟨-, e, he, rfl, hx⟩ := nd_in hx0
    rw [nd_at n1 (hp.mem_iff.1 he)]; exact hx
theorem all_turn {env : EnvM} {rs rs' : List Rl} (hp : rs'.Perm rs) : (∃ e e', allM env rs = .error e ∧ allM env rs' = .error e') ∨ ∃ F, allM env rs = .ok F ∧ allM env rs' = .ok F := by
  have hE : rulesE env rs = 0 ↔ rulesE env rs' = 0 := by
    rw [rulesE_0, rulesE_0, hp.length_eq]
    exact ⟨fun h => ⟨h.1, fun r hr => h.2 r (hp.mem_iff.1 hr)⟩, fun h => ⟨h.1, fun r hr => h.2 r (hp.mem_iff.2 hr)⟩⟩
  by_cases h1 : rulesE env rs = 0
  case neg => exact .inl ⟨_, _, by unfold allM; rw [if_pos h1], by unfold allM; rw [if_pos (fun h => h1 (hE.2 h))]⟩
  have h1' := hE.1 h1
  obtain ⟨s1, s2, -⟩ := same_sort (ed_perm (hp.map edR))
  by_cases h2 : (OsortM (rs.map edR)).2 = 0
  case neg =>
    refine .inl ⟨(OsortM (rs.map edR)).2, (OsortM (rs'.map edR)).2, ?_, ?_⟩
    · unfold allM; rw [if_neg (by simp [h1]), if_pos h2]
    · unfold allM; rw [if_neg (by simp [h1']), if_pos (fun h => h2 (s2.2 h))]
  have h2' := s2.1 h2
  have e1 : allM env rs = goA rs (OsortM (rs.map edR)).1 env := by unfold allM; rw [if_neg (by simp [h1]), if_neg (by simp [h2])]
  have e2 : allM env rs' = goA rs (OsortM (rs.map edR)).1 env := by
    unfold allM; rw [if_neg (by simp [h1']), if_neg (by simp [h2']), ← s1]
    have hn : (rs.map (·.name)).Nodup := by rw [← ed_names]; exact (wrongM_0.1 (sort_spec h2).1).2.1
    exact (goA_congr (fun s => fnd_perm hp hn s) _ _).symm
  rw [e1, e2]
  cases goA rs (OsortM (rs.map edR)).1 env with
  | error e => exact .inl ⟨e, e, rfl, rfl⟩
  | ok F => exact .inr ⟨F, rfl, rfl⟩
theorem all_spec {env F : EnvM} {rs : List Rl} (h : allM env rs = .ok F) : (∀ r ∈ rs, ∃ v, evalM F r.tree = (v, 0) ∧ F r.name = some v) ∧ ∀ s v, env s = some v → F s = some v := by
  unfold allM at h
  split at h
  · cases h
  rename_i h1
  have h1 : rulesE env rs = 0 := Decidable.not_not.1 h1
  split at h
  · cases h
  rename_i h2
  have h2 : (OsortM (rs.map edR)).2 = 0 := Decidable.not_not.1 h2
  obtain ⟨hw, ho, hp⟩ := sort_spec h2
  have hne := (wrongM_0.1 hw).2.1
  have hn : (rs.map (·.name)).Nodup := by rw [← ed_names]; exact hne
  have hnn : (OsortM (rs.map edR)).1.Nodup := hp.nodup_iff.2 (ns_rise hw).nodup
  generalize (OsortM (rs.map edR)).1 = ns at *
  obtain ⟨g1, g2⟩ := goA_ok ns env F h hnn (fun a s b he r hr x hx => by
    have hm := List.mem_of_find?_eq_some hr
    have hs := List.find?_some hr
    simp only [decide_eq_true_eq] at hs
    have hxv : x ∈ ndM (rs.map edR) s := by
      rw [← hs]
      have := nd_at hne (List.mem_map_of_mem (f := edR) hm)
      have e : ndM (rs.map edR) r.name = varsM r.tree := this
      rw [e]
      exact ((vars_spec _).2 x).2 hx
    intro hh
    have hxn : x ∈ ns := by rw [he]; exact List.mem_append_right _ hh
    have hxa := ho a s b he x hxv (hp.mem_iff.1 hxn)
    rw [he] at hnn
    exact (List.nodup_append.1 hnn).2.2 x hxa x hh rfl)
  refine ⟨fun r hr => ?_, fun s v hv => ?_⟩
  · exact g2 r.name (hp.mem_iff.2 (ns_mem.2 ⟨edR r, List.mem_map_of_mem hr, rfl⟩)) r (fnd_at hn hr)
  · rw [g1 s fun hs => ?_]
    · exact hv
    · obtain ⟨e, he, rfl⟩ := ns_mem.1 (hp.mem_iff.1 hs)
      obtain ⟨r, hr, rfl⟩ := List.mem_map.1 he
      have : env r.name = none := ((rulesE_0.1 h1).2 r hr).2.1
      have hv : env r.name = some v := hv
      rw [this] at hv; cases hv
/-- A list turned. -/
def turnM (rs : List Rl) (t : Nat) : List Rl := (List.range rs.length).map fun i => rs.getD ((i + t) % rs.length) default
theorem turn_eq (rs : List Rl) (t : Nat) (h0 : rs ≠ []) : turnM rs t = rs.drop (t % rs.length) ++ rs.take (t % rs.length) := by
  have hl : 0 < rs.length := List.length_pos_iff.2 h0
  have hk : t % rs.length < rs.length := Nat.mod_lt _ hl
  have hm : ∀ i, i < rs.length → (i + t) % rs.length = if i < rs.length - t % rs.length then i + t % rs.length else i + t % rs.length - rs.length := fun i hi => by
    rw [Nat.add_mod, Nat.mod_eq_of_lt hi]
    generalize t % rs.length = k at *
    split
    · exact Nat.mod_eq_of_lt (by omega)
    · rw [Nat.mod_eq_sub_mod (by omega), Nat.mod_eq_of_lt (by omega)]
  apply List.ext_getElem
  · simp [turnM]; omega
  · intro i h1 h2
    have hi : i < rs.length := by simpa [turnM] using h1
    simp only [turnM, List.getElem_map, List.getElem_range]
    rw [hm i hi]
    generalize t % rs.length = k at *
    rw [List.getElem_append]
    split
    · rename_i h3
      rw [dif_pos (by simp; omega)]
      rw [List.getElem_drop]
      simp only [List.getD]
      rw [List.getElem?_eq_getElem (by omega)]
      simp [Nat.add_comm]
    · rename_i h3
      rw [dif_neg (by simp; omega)]
      rw [List.getElem_take]
      simp only [List.getD, List.length_drop]
      rw [List.getElem?_eq_getElem (by omega)]
      simp only [Option.getD_some]
      congr 1
      omega
theorem turn_perm (rs : List Rl) (t : Nat) : (turnM rs t).Perm rs := by
  by_cases h0 : rs = []
  · subst h0; exact .refl _
  · rw [turn_eq rs t h0]
    exact List.perm_append_comm.trans (by rw [List.take_append_drop])
theorem turn_take (rs : List Rl) (t i : Nat) (h : i < rs.length) : (turnM rs t).take (i + 1) = (turnM rs t).take i ++ [rs.getD ((i + t) % rs.length) default] := by
  have hl : (turnM rs t).length = rs.length := by simp [turnM]
  rw [List.take_succ_eq_append_getElem (by omega)]
  simp [turnM]
end Go.Proofs.YthekpjhffciakaaDoor

namespace Go.Proofs.YthekpjhffciakaaDoor
open PG Go.Proofs
-- wagebook/wagebooklaw15.EvalTurns
def L10 : List Nat := [0, 1, 2, 6, 7, 8, 9, 10, 11, 12, 13, 14, 15, 17, 18, 19, 20, 21, 43, 45, 46, 47, 48, 55, 94, 96, 103, 104, 105, 106, 133, 136, 138, 153]
def c10 : CF := ⟨155,
 .seq (.region false [⟨some 6, none, .rd .mov [.pv (.bool false)]⟩] L10)
 (.seq (.region false [oM 23 0,
 ⟨some 24, none, .call (.pv (.fn 13 [] [])) [.tmp 23]⟩,
 oM 22 24,
 ⟨some 25, none, .rd (.ext 0) [.tmp 22]⟩,
 ⟨some 26, none, .rd (.ext 1) [.tmp 22]⟩,
 oM 7 25,
 oM 8 26] L10)
 (.seq (.seq (.region false [oM 27 8,
 ⟨some 28, none, .rd (.un .not) [.tmp 27]⟩,
 oM 29 28,
 qM 29 false 30 0,
 ⟨some 31, some (29, false), .rd .lenL [.tmp 30]⟩,
 ⟨some 32, some (29, false), .rd (.bin .gtr) [.tmp 31, .pv (.int .i64 60)]⟩,
 ⟨some 33, none, .rd .pick [.tmp 29, .pv (.bool true), .tmp 32]⟩,
 oM 34 33,
 qM 34 false 35 1,
 ⟨some 36, some (34, false), .rd .lenL [.tmp 35]⟩,
 ⟨some 37, some (34, false), .rd (.bin .eql) [.tmp 36, .pv (.int .i64 0)]⟩,
 ⟨some 38, none, .rd .pick [.tmp 34, .pv (.bool true), .tmp 37]⟩,
 oM 39 38,
 qM 39 false 40 1,
 ⟨some 41, some (39, false), .rd .lenL [.tmp 40]⟩,
 ⟨some 42, some (39, false), .rd (.bin .gtr) [.tmp 41, .pv (.int .i64 20)]⟩,
 ⟨some 43, none, .rd .pick [.tmp 39, .pv (.bool true), .tmp 42]⟩] L10)
 (.cond (.tmp 43)
 (.seq (.region false [⟨some 44, none, .call (.pv (.fn 15 [] [])) []⟩,
 oM 6 44] L10)
 (.ret))
 (.skip)))
 (.seq (.region false [⟨some 9, none, .rd .mov [.pv .nilSl]⟩] L10)
 (.seq (.seq (.region false [oM 45 1,
 ⟨some 46, none, .rd .lenL [.tmp 45]⟩,
 ⟨some 47, none, .rd .mov [.pv (.int .i64 0)]⟩] L10)
 (.block 0
 (.loop
 (.seq (.region false [⟨some 48, none, .rd (.bin .lss) [.tmp 47, .tmp 46]⟩] L10)
 (.seq (.cond (.tmp 48)
 (.skip)
 (.exit 0))
 (.seq (.block 1
 (.seq (.region false [oM 49 47,
 ⟨some 50, none, .rd (.idxAddr (some 2)) [.tmp 45, .tmp 47]⟩,
 ⟨some 51, none, .rd (.load (some 2)) [.tmp 50]⟩,
 ⟨some 11, none, .eff (.alloc (some 2) (.agg [(.str []), .nilSl])) []⟩,
 oM 10 49,
 ⟨none, none, .eff (.store (some 2)) [.tmp 11, .tmp 51]⟩] L10)
 (.seq (.seq (.region false [oF 1 52 11,
 ⟨some 53, none, .rd (.load (some 1)) [.tmp 52]⟩,
 ⟨some 54, none, .call (.pv (.fn 14 [] [])) [.tmp 53]⟩,
 ⟨some 55, none, .rd (.un .not) [.tmp 54]⟩] L10)
 (.cond (.tmp 55)
 (.seq (.region false [⟨some 56, none, .call (.pv (.fn 15 [] [])) []⟩,
 oM 6 56] L10)
 (.ret))
 (.skip)))
 (.region false [oM 57 9,
 oM 58 1,
 oM 59 10,
 oM 60 2,
 ⟨some 61, none, .rd (.conv .i64) [.tmp 60]⟩,
 ⟨some 62, none, .rd (.bin .add) [.tmp 59, .tmp 61]⟩,
 oM 63 1,
 ⟨some 64, none, .rd .lenL [.tmp 63]⟩,
 ⟨some 65, none, .rd (.bin .rem) [.tmp 62, .tmp 64]⟩,
 ⟨some 66, none, .rd (.idxAddr (some 2)) [.tmp 58, .tmp 65]⟩,
 ⟨some 67, none, .rd (.load (some 2)) [.tmp 66]⟩,
 ⟨some 68, none, .eff (.lit (some 2) false) [.tmp 67]⟩,
 ⟨some 69, none, .eff (.append (some 2) 40) [.tmp 57, .tmp 68]⟩,
 oM 9 69] L10))))
 (.region false [⟨some 70, none, .rd (.bin .add) [.tmp 47, .pv (.int .i64 1)]⟩,
 oM 47 70] L10)))))))
 (.seq (.region false [oM 72 7,
 oM 73 1,
 ⟨some 74, none, .call (.pv (.fn 33 [] [])) [.tmp 72, .tmp 73]⟩,
 oM 71 74,
 ⟨some 75, none, .rd (.ext 0) [.tmp 71]⟩,
 ⟨some 76, none, .rd (.ext 1) [.tmp 71]⟩,
 oM 12 75,
 oM 13 76] L10)
 (.seq (.region false [oM 78 7,
 oM 79 9,
 ⟨some 80, none, .call (.pv (.fn 33 [] [])) [.tmp 78, .tmp 79]⟩,
 oM 77 80,
 ⟨some 81, none, .rd (.ext 0) [.tmp 77]⟩,
 ⟨some 82, none, .rd (.ext 1) [.tmp 77]⟩,
 oM 14 81,
 oM 15 82] L10)
 (.seq (.seq (.region false [oM 83 13,
 ⟨some 84, none, .rd (.bin .eql) [.tmp 83, .pv (.int .i64 0)]⟩,
 oM 85 15,
 ⟨some 86, none, .rd (.bin .eql) [.tmp 85, .pv (.int .i64 0)]⟩,
 ⟨some 87, none, .rd (.eqB true) [.tmp 84, .tmp 86]⟩,
 oM 88 87,
 qM 88 false 89 12,
 ⟨some 90, some (88, false), .rd .lenM [.tmp 89]⟩,
 qM 88 false 91 14,
 ⟨some 92, some (88, false), .rd .lenM [.tmp 91]⟩,
 ⟨some 93, some (88, false), .rd (.bin .neq) [.tmp 90, .tmp 92]⟩,
 ⟨some 94, none, .rd .pick [.tmp 88, .pv (.bool true), .tmp 93]⟩] L10)
 (.cond (.tmp 94)
 (.seq (.region false [⟨some 6, none, .rd .mov [.pv (.bool false)]⟩] L10)
 (.ret))
 (.skip)))
 (.seq (.seq (.region false [oM 95 13,
 ⟨some 96, none, .rd (.bin .neq) [.tmp 95, .pv (.int .i64 0)]⟩] L10)
 (.cond (.tmp 96)
 (.seq (.region false [⟨some 97, none, .call (.pv (.fn 15 [] [])) []⟩,
 oM 98 97,
 qM 98 true 99 12,
 ⟨some 100, some (98, true), .rd .lenM [.tmp 99]⟩,
 ⟨some 101, some (98, true), .rd (.bin .eql) [.tmp 100, .pv (.int .i64 0)]⟩,
 ⟨some 102, none, .rd .pick [.tmp 98, .tmp 101, .pv (.bool false)]⟩,
 oM 6 102] L10)
 (.ret))
 (.skip)))
 (.seq (.seq (.region false [oM 103 1,
 ⟨some 104, none, .rd .lenL [.tmp 103]⟩,
 ⟨some 105, none, .rd .mov [.pv (.int .i64 0)]⟩] L10)
 (.block 2
 (.loop
 (.seq (.region false [⟨some 106, none, .rd (.bin .lss) [.tmp 105, .tmp 104]⟩] L10)
 (.seq (.cond (.tmp 106)
 (.skip)
 (.exit 2))
 (.seq (.block 3
 (.seq (.region false [⟨some 107, none, .rd (.idxAddr (some 2)) [.tmp 103, .tmp 105]⟩,
 ⟨some 108, none, .rd (.load (some 2)) [.tmp 107]⟩,
 ⟨some 17, none, .eff (.alloc (some 2) (.agg [(.str []), .nilSl])) []⟩,
 ⟨none, none, .eff (.store (some 2)) [.tmp 17, .tmp 108]⟩] L10)
 (.seq (.region false [oF 1 110 17,
 ⟨some 111, none, .rd (.load (some 1)) [.tmp 110]⟩,
 oM 112 12,
 ⟨some 113, none, .call (.pv (.fn 16 [] [])) [.tmp 111, .tmp 112]⟩,
 oM 109 113,
 ⟨some 114, none, .rd (.ext 0) [.tmp 109]⟩,
 ⟨some 115, none, .rd (.ext 1) [.tmp 109]⟩,
 oM 18 114,
 oM 19 115] L10)
 (.seq (.region false [oM 116 19,
 ⟨some 117, none, .rd (.bin .neq) [.tmp 116, .pv (.int .i64 0)]⟩,
 oM 118 117,
 qM 118 false 119 18,
 qM 118 false 120 12,
 qF 0 118 false 121 17,
 qL 118 false 122 121,
 ⟨some 123, some (118, false), .rd (.look .str false (.int .i64 0)) [.tmp 120, .tmp 122]⟩,
 ⟨some 124, some (118, false), .rd (.bin .neq) [.tmp 119, .tmp 123]⟩,
 ⟨some 125, none, .rd .pick [.tmp 118, .pv (.bool true), .tmp 124]⟩,
 oM 126 125,
 qM 126 false 127 18,
 qM 126 false 128 14,
 qF 0 126 false 129 17,
 qL 126 false 130 129,
 ⟨some 131, some (126, false), .rd (.look .str false (.int .i64 0)) [.tmp 128, .tmp 130]⟩,
 ⟨some 132, some (126, false), .rd (.bin .neq) [.tmp 127, .tmp 131]⟩,
 ⟨some 133, none, .rd .pick [.tmp 126, .pv (.bool true), .tmp 132]⟩] L10)
 (.cond (.tmp 133)
 (.seq (.region false [⟨some 6, none, .rd .mov [.pv (.bool false)]⟩] L10)
 (.ret))
 (.skip))))))
 (.region false [⟨some 134, none, .rd (.bin .add) [.tmp 105, .pv (.int .i64 1)]⟩,
 oM 105 134] L10)))))))
 (.seq (.seq (.region false [oM 135 7,
 ⟨some 136, none, .eff (.rng .str) [.tmp 135]⟩] L10)
 (.block 4
 (.loop
 (.seq (.region false [⟨some 137, none, .eff .nxt [.tmp 136]⟩,
 ⟨some 138, none, .rd (.ext 0) [.tmp 137]⟩] L10)
 (.seq (.cond (.tmp 138)
 (.skip)
 (.exit 4))
 (.block 5
 (.seq (.region false [⟨some 139, none, .eff .ent [.tmp 136]⟩,
 ⟨some 140, none, .rd (.ext 0) [.tmp 139]⟩,
 ⟨some 141, none, .rd (.ext 1) [.tmp 139]⟩,
 oM 20 140,
 oM 21 141] L10)
 (.seq (.region false [oM 142 12,
 oM 143 20,
 ⟨some 144, none, .rd (.look .str false (.int .i64 0)) [.tmp 142, .tmp 143]⟩,
 oM 145 21,
 ⟨some 146, none, .rd (.bin .neq) [.tmp 144, .tmp 145]⟩,
 oM 147 146,
 qM 147 false 148 14,
 qM 147 false 149 20,
 ⟨some 150, some (147, false), .rd (.look .str false (.int .i64 0)) [.tmp 148, .tmp 149]⟩,
 qM 147 false 151 21,
 ⟨some 152, some (147, false), .rd (.bin .neq) [.tmp 150, .tmp 151]⟩,
 ⟨some 153, none, .rd .pick [.tmp 147, .pv (.bool true), .tmp 152]⟩] L10)
 (.cond (.tmp 153)
 (.seq (.region false [⟨some 6, none, .rd .mov [.pv (.bool false)]⟩] L10)
 (.ret))
 (.skip))))))))))
 (.seq (.region false [⟨some 154, none, .call (.pv (.fn 15 [] [])) []⟩,
 oM 6 154] L10)
 (.ret)))))))))))),
 [.tmp 6]⟩
theorem k10 : compileF Tryd.prog [] L10 Tryd.f10 = some c10 := by kernel_rfl
end Go.Proofs.YthekpjhffciakaaDoor

namespace Go.Proofs.YthekpjhffciakaaDoor
open Go PG Go.Proofs
set_option linter.unusedSimpArgs false
set_option linter.unusedVariables false
set_option maxHeartbeats 4000000
set_option maxRecDepth 100000
/-! EvalTurns -/
theorem goCall_FR {P : Program} {G : Globs} {mv : Nat → Bool} {env : Env} {μ : Mem} {d : Option Nat} {rest : List CO} {K : Env → Mem → Prop} {f : Nat} {ps qs xs xs' : List PV} {R : PV → Mem → Prop} (hE : Ent P f) (hV : FCalls P G f xs' R) (ha : ps ++ xs ++ qs = xs') (hs : (xs'.map PV.noOwn).all id = true)
    (h : ∀ p ν, R p ν → opsW P G false mv rest (putE env d (p.shift μ.length)) (μ ++ ν.map (Option.map (MObj.shift μ.length))) K) : goCall P G false mv d rest env K μ (.fn f ps qs) xs := by
  subst ha
  refine .inr ⟨rfl, hE, .inl ⟨_, hV.lift hs, ?_⟩⟩
  rintro p μ' ⟨p', ν', hR, rfl, rfl⟩
  exact ⟨trivial, h _ _ hR⟩
theorem keys_len {α : Type} {xs ys : List (St × α)} (hx : (xs.map (·.1)).Nodup) (hy : (ys.map (·.1)).Nodup) (h : ∀ s, aget xs s = aget ys s) : xs.length = ys.length := by
  have hm : ∀ (l : List (St × α)), (l.map (·.1)).Nodup → ∀ s, s ∈ l.map (·.1) ↔ (aget l s).isSome = true := fun l hl s => by
    constructor
    · intro hs
      obtain ⟨⟨k, v⟩, hq, rfl⟩ := List.mem_map.1 hs
      rw [aget_mem hl hq]; rfl
    · intro hs
      obtain ⟨v, hv⟩ := Option.isSome_iff_exists.1 hs
      exact List.mem_map.2 ⟨(s, v), mem_of_aget hv, rfl⟩
  have hp : (xs.map (·.1)).Perm (ys.map (·.1)) := (List.perm_ext_iff_of_nodup hx hy).2 fun s => by rw [hm xs hx, hm ys hy, h]
  simpa using hp.length_eq
theorem v10 (l : List Pr) (hl : l.length ≤ 9223372036854775807) (rs : List Rl) (hr : ∀ r ∈ rs, RlF r) (hrl : rs.length ≤ 9223372036854775807) (t : Nat) (ht : t < 256) : VCalls Tryd.prog GK 10 [.list (some 2) (l.map prP), rlsP rs, .int .u8 t] (.bool true) := by
  refine VCalls.of_PW Tryd.func10 k10 mix (by simp [c10]) ?_
  simp only [c10, L10, CC, argE, rlsP]
  have h15 := v15 (G := GK) hasKK
  have h13 := f13 (G := GK) l hl
  have hll : ((l.map prP).length : Nat) = l.length := by simp
  have hlen : ((rs.map rlP).length : Nat) = rs.length := by simp
  have hrp : ∀ r : Rl, rlP r = .agg [.str r.name, .list (some 4) (r.tree.map ndP)] := fun _ => rfl
  have hnd := envE_nodup l [] (by simp)
  generalize envE l [] = X at *
  repeat' (first | exact True.intro | (refine PW.stop (x := .seq (.region false (⟨some 9, none, .rd .mov [.pv .nilSl]⟩ :: _) _) _) ?_) | (refine PW.seqK ?_; intro K hK) | refine stp ?_ | refine seqK_n ‹_› ?_ | refine seqK_r ‹_› ?_ | refine seqK_e ‹_› ?_ | exact schedW_stop_i | refine schK_n ‹_› ?_ | (refine PW.cond rfl ?_ ?_ <;> intro hcond <;> (try contradiction) <;> try simp only [DD] at hcond) | (refine goCall_F e13 (h13) (by simp [hll, hlen, PV.noOwn]) ?_; simp only [hll, hlen, SA, Nat.reduceAdd, reduceIte, Nat.reduceEqDiff, Nat.reduceBEq, reduceCtorEq]; (try go_unwrap; try simp only [hll, hlen, RR, reduceCtorEq])) | (refine gd_i ?_; intro hg; try simp only [hg]) | refine goCall_W e15 (h15) ?_ ?_ ?_ ?_ | (refine ari ?_; first | omega | (simp only [DD, LL] <;> omega) | (go_unwrap; omega)) | ((first | refine stq ?_ | show (_ : Post) _ _ _ | (refine schedW_alt_k ?_ ?_; intro K hK)); focus (simp only [hll, hlen, SA, Nat.reduceAdd, reduceIte, Nat.reduceEqDiff, Nat.reduceBEq, reduceCtorEq]; (try go_unwrap; try simp only [hll, hlen, RR, reduceCtorEq]))) | refine And.intro ?_ ?_ | exact Or.inr ⟨rfl, Nat.le_refl _⟩ | exact (fun h => Bool.noConfusion h))
  refine ⟨?_⟩
  simp only [Bool.or_eq_false_iff, Bool.not_eq_false', decide_eq_true_eq, decide_eq_false_iff_not] at hcond
  obtain ⟨⟨⟨g1, g2⟩, g3⟩, g4⟩ := hcond
  have hr20 : rs.length ≤ 20 := by omega
  have hr0 : 0 < rs.length := by omega
  clear g1 g2 g3 g4
  repeat' (first | exact True.intro | (refine PW.seqK ?_; intro K hK) | refine stp ?_ | refine seqK_n ‹_› ?_ | refine seqK_r ‹_› ?_ | refine seqK_e ‹_› ?_ | exact schedW_stop_i | refine schK_n ‹_› ?_ | (refine PW.cond rfl ?_ ?_ <;> intro hcond <;> (try contradiction) <;> try simp only [DD] at hcond) | (refine gd_i ?_; intro hg; try simp only [hg]) | (refine ari ?_; first | omega | (simp only [DD, LL] <;> omega) | (go_unwrap; omega)) | ((first | refine stq ?_ | show (_ : Post) _ _ _ | (refine schedW_alt_k ?_ ?_; intro K hK)); focus (simp only [SA, Nat.reduceAdd, reduceIte, Nat.reduceEqDiff, Nat.reduceBEq, reduceCtorEq]; (try go_unwrap; try simp only [RR, reduceCtorEq]))) | refine And.intro ?_ ?_ | exact Or.inr ⟨rfl, Nat.le_refl _⟩ | exact (fun h => Bool.noConfusion h))
  refine PW.own (some 2) 9 rfl ?_
  refine PW.loopG (σ := Nat) 2 (fun _ _ => rfl) [1, 2, 7, 9, 45, 46, 47] (fun i => [rlsP rs, .int .u8 t, .mref 0, .sl (some 2) 1 i, rlsP rs, .int .i64 rs.length, .int .i64 i])
    (fun i => [some (.mp .str (strM intV X)), some (.row (some 2) (((turnM rs t).take i).map rlP))]) (fun i => i ≤ rs.length) (fun i => rs.length - i) 0 ?_ (by first | rfl | simp) (by omega) ?_
  · simp only [SA, Nat.reduceAdd, reduceIte, Nat.reduceEqDiff, Nat.reduceBEq, reduceCtorEq, hlen]; rfl
  intro i hi
  simp only [List.zip_cons_cons, List.zip_nil_left]
  have hTl : (turnM rs t).length = rs.length := by simp [turnM]
  have hRl : ((((turnM rs t).take i).map rlP).length : Nat) = i := by simp; omega
  have hRt : (((turnM rs t).take i).map rlP).take i = ((turnM rs t).take i).map rlP := List.take_of_length_le (by rw [hRl]; exact Nat.le_refl _)
  rcases Nat.lt_or_ge i rs.length with h | h
  · have hd : decide ((i : Int) < rs.length) = true := by simp only [decide_eq_true_eq]; omega
    obtain ⟨r, -, hn, hg⟩ := drop_at h
    have hgn := ((hg rlP).1).trans (hrp r)
    have hok := hr r (List.mem_of_getElem? hn)
    have h14 := v14 (G := GK) r.tree hok.len
    simp only [treeP] at h14
    cases hsm : smallM r.tree with
    | false =>
      rw [hsm] at h14
      repeat' (first | exact True.intro | (exact Or.inr ⟨rfl, by decide⟩) | (refine PW.seqK ?_; intro K hK) | refine stp ?_ | refine seqK_n ‹_› ?_ | refine seqK_r ‹_› ?_ | refine seqK_e ‹_› ?_ | exact schedW_stop_i | refine schK_n ‹_› ?_ | (refine PW.cond rfl ?_ ?_ <;> intro hcond <;> (try contradiction) <;> try simp only [DD] at hcond) | (refine gd_i ?_; intro hg; try simp only [hg]) | refine goCall_W e14 (h14) ?_ ?_ ?_ ?_ | refine goCall_W e15 (h15) ?_ ?_ ?_ ?_ | (refine ari ?_; first | omega | (simp only [DD, LL] <;> omega) | (go_unwrap; omega)) | ((first | refine stq ?_ | show (_ : Post) _ _ _ | (refine schedW_alt_k ?_ ?_; intro K hK)); focus (simp only [hlen, hd, hgn, cutR, SA, Nat.reduceAdd, reduceIte, Nat.reduceEqDiff, Nat.reduceBEq, reduceCtorEq]; (try go_unwrap; try simp only [hlen, hd, hgn, cutR, RR, reduceCtorEq]))) | refine And.intro ?_ ?_ | exact Or.inr ⟨rfl, Nat.le_refl _⟩ | exact (fun h => Bool.noConfusion h))
    | true =>
    rw [hsm] at h14
    have hk : (i + t) % rs.length < rs.length := Nat.mod_lt _ hr0
    have hst : (((turnM rs t).take (i + 1)).map rlP) = ((turnM rs t).take i).map rlP ++ [rlP (rs.getD ((i + t) % rs.length) default)] := by
      rw [turn_take rs t i h, List.map_append]; rfl
    have hq : (rs.map rlP).getD ((i + t) % rs.length) .junk = rlP (rs.getD ((i + t) % rs.length) default) := by simp [List.getD, hk]
    have w0 : IntKind.i64.wrap (t : Int) = t := IntWalk.i64_in _ (by omega)
    have w1 : IntKind.i64.wrap ((i : Int) + t) = ((i + t : Nat) : Int) := (IntWalk.i64_in _ (by omega)).trans (by omega)
    have w2 : ((i + t : Nat) : Int).tmod rs.length = (((i + t) % rs.length : Nat) : Int) := by rw [Int.tmod_eq_emod_of_nonneg (by omega)]; rfl
    have z0 : ¬ (rs.length : Int) = 0 := by omega
    have b1 : (i + 1) * 40 ≤ 281474976710656 := by omega
    have k1 : (((i + t) % rs.length : Nat) : Int) < rs.length := by omega
    have k0 : (0 : Int) ≤ (((i + t) % rs.length : Nat) : Int) := by omega
    generalize rs.getD ((i + t) % rs.length) default = q at hst hq
    generalize (i + t) % rs.length = k at hk hq w2 k1 k0
    rw [hrp] at hst hq
    have hsc : ∀ (t : List UInt8) (ks : List PV), ∀ x ∈ [PV.str t, PV.list (some 4) ks], x.scalar = true := by
      intro t ks x hc; simp at hc; rcases hc with rfl | rfl <;> rfl
    generalize ((turnM rs t).take i).map rlP = R at hRl hRt hst
    repeat' (first | exact True.intro | exact hsc _ _ | exact (rfl : (some 2 : Sh) = some 2) | (exact Or.inr ⟨rfl, by decide⟩) | (refine PW.seqK ?_; intro K hK) | refine stp ?_ | refine seqK_n ‹_› ?_ | refine seqK_r ‹_› ?_ | refine seqK_e ‹_› ?_ | exact schedW_stop_i | refine schK_n ‹_› ?_ | (refine PW.cond rfl ?_ ?_ <;> intro hcond <;> (try contradiction) <;> try simp only [DD] at hcond) | (refine gd_i ?_; intro hg; try simp only [hg]) | refine goCall_W e14 (h14) ?_ ?_ ?_ ?_ | (refine ari ?_; first | omega | (simp only [DD, LL] <;> omega) | (go_unwrap; omega)) | ((first | refine stq ?_ | show (_ : Post) _ _ _ | (refine schedW_alt_k ?_ ?_; intro K hK)); focus (simp only [PV.bin, PV.binOk, binI, hlen, hd, hgn, hRl, hRt, cutR, w0, w1, w2, z0, hq, List.length_cons, List.length_nil, Nat.zero_add, SA, Nat.reduceAdd, reduceIte, Nat.reduceEqDiff, Nat.reduceBEq, reduceCtorEq]; (try go_unwrap; try simp only [PV.bin, PV.binOk, binI, hlen, hd, hgn, hRl, hRt, cutR, w0, w1, w2, z0, hq, List.length_cons, List.length_nil, Nat.zero_add, RR, reduceCtorEq]))) | refine And.intro ?_ ?_ | exact Or.inr ⟨rfl, Nat.le_refl _⟩ | exact (fun h => Bool.noConfusion h))
    all_goals first | rfl | exact ⟨_, rfl, rfl, hsc _ _⟩ | exact ⟨i + 1, (by first | rfl | (simp only [TT, MObj.kill, PV.kill, Nat.reduceLeDiff, reduceIte, Nat.le_refl, Nat.zero_le, Nat.not_le, Nat.lt_irrefl]; done) | (simp [trimE, trimM, MObj.kill, PV.kill]; done)), (by rw [hst]; exact (by first | rfl | (simp only [TT, MObj.kill, PV.kill, Nat.reduceLeDiff, reduceIte, Nat.le_refl, Nat.zero_le, Nat.not_le, Nat.lt_irrefl]; done) | (simp [trimE, trimM, MObj.kill, PV.kill]; done))), by omega, by omega⟩
  have hd : decide ((i : Int) < rs.length) = false := by simp only [decide_eq_false_iff_not]; omega
  have hi' : i = rs.length := by omega
  subst hi'
  rw [show (turnM rs t).take rs.length = turnM rs t from List.take_of_length_le (by omega)] at hRl hRt ⊢
  have hp := turn_perm rs t
  have hr' : ∀ r ∈ turnM rs t, RlF r := fun r hh => hr r (hp.mem_iff.1 hh)
  have h33a := f33 (fun s => aget X s) X hnd (fun _ => rfl) rs hr
  have h33b := f33 (fun s => aget X s) X hnd (fun _ => rfl) (turnM rs t) hr'
  have hturn := all_turn (env := fun s => aget X s) hp
  repeat' (first | exact True.intro | (refine PW.stop (x := .seq (.region false (⟨some 72, none, .rd .mov [.tmp 7]⟩ :: _) _) _) ?_) | (refine PW.seqK ?_; intro K hK) | refine stp ?_ | refine seqK_n ‹_› ?_ | refine seqK_r ‹_› ?_ | refine seqK_e ‹_› ?_ | exact schedW_stop_i | refine schK_n ‹_› ?_ | (refine PW.cond rfl ?_ ?_ <;> intro hcond <;> (try contradiction) <;> try simp only [DD] at hcond) | (refine gd_i ?_; intro hg; try simp only [hg]) | (refine ari ?_; first | omega | (simp only [DD, LL] <;> omega) | (go_unwrap; omega)) | ((first | refine stq ?_ | show (_ : Post) _ _ _ | (refine schedW_alt_k ?_ ?_; intro K hK)); focus (simp only [hlen, hd, SA, Nat.reduceAdd, reduceIte, Nat.reduceEqDiff, Nat.reduceBEq, reduceCtorEq]; (try go_unwrap; try simp only [hlen, hd, RR, reduceCtorEq]))) | refine And.intro ?_ ?_ | exact Or.inr ⟨rfl, Nat.le_refl _⟩ | exact (fun h => Bool.noConfusion h))
  refine ⟨?_⟩
  refine PW.frz 0 (.mp .str (strM intV X)) ?_ ?_ ?_
  · rfl
  · rfl
  simp only [SA, Nat.reduceAdd, reduceIte, Nat.reduceEqDiff, Nat.reduceBEq, reduceCtorEq, PV.frz, MObj.frz, frzM, frzSl]
  refine PW.frz 1 (.row (some 2) ((turnM rs t).map rlP)) ?_ ?_ ?_
  · rfl
  · rfl
  simp only [SA, Nat.reduceAdd, reduceIte, Nat.reduceEqDiff, Nat.reduceBEq, reduceCtorEq, PV.frz, MObj.frz, frzM, frzSl, hRl, hRt, Nat.le_refl, and_self, if_true]
  rcases hturn with ⟨e, e', ha, hb⟩ | ⟨F, ha, hb⟩
  · have ne := all_err ha
    have ne' := all_err hb
    have q1 : decide (e = 0) = false := decide_eq_false ne
    have q2 : decide (e' = 0) = false := decide_eq_false ne'
    have ra : AllX (allM (fun s => aget X s) rs) = fun p ν => p = .tup [.nilMap, .int .i64 e] ∧ ν = [] := by rw [ha]; rfl
    have rb : AllX (allM (fun s => aget X s) (turnM rs t)) = fun p ν => p = .tup [.nilMap, .int .i64 e'] ∧ ν = [] := by rw [hb]; rfl
    rw [ra] at h33a
    rw [rb] at h33b
    clear ra rb ha hb hd hRl hRt hr' hp
    generalize turnM rs t = rs' at *
    repeat' (first | exact True.intro | (refine PW.seqK ?_; intro K hK) | refine stp ?_ | refine seqK_n ‹_› ?_ | refine seqK_r ‹_› ?_ | refine seqK_e ‹_› ?_ | exact schedW_stop_i | refine schK_n ‹_› ?_ | (refine PW.cond rfl ?_ ?_ <;> intro hcond <;> (try contradiction) <;> try simp only [DD] at hcond) | (refine goCall_FR e33 h33a rfl (by simp [PV.noOwn]) ?_; rintro p ν ⟨rfl, rfl⟩; simp only [hlen, q1, q2, SA, Nat.reduceAdd, reduceIte, Nat.reduceEqDiff, Nat.reduceBEq, reduceCtorEq]) | (refine goCall_FR e33 h33b rfl (by simp [PV.noOwn]) ?_; rintro p ν ⟨rfl, rfl⟩; simp only [hlen, q1, q2, SA, Nat.reduceAdd, reduceIte, Nat.reduceEqDiff, Nat.reduceBEq, reduceCtorEq]) | (refine gd_i ?_; intro hg; try simp only [hg]) | refine goCall_W e15 (h15) ?_ ?_ ?_ ?_ | (refine ari ?_; first | omega | (simp only [DD, LL] <;> omega) | (go_unwrap; omega)) | ((first | refine stq ?_ | show (_ : Post) _ _ _ | (refine schedW_alt_k ?_ ?_; intro K hK)); focus (simp only [hlen, q1, q2, SA, Nat.reduceAdd, reduceIte, Nat.reduceEqDiff, Nat.reduceBEq, reduceCtorEq]; (try go_unwrap; try simp only [hlen, q1, q2, RR, reduceCtorEq]))) | refine And.intro ?_ ?_ | exact Or.inr ⟨rfl, Nat.le_refl _⟩ | exact (fun h => Bool.noConfusion h))
  obtain ⟨s1, s2⟩ := all_spec ha
  have ra : AllX (allM (fun s => aget X s) rs) = fun p ν => p = .tup [.mref 0, .int .i64 0] ∧ ∃ es : List Pr, (es.map (·.1)).Nodup ∧ (∀ s, aget es s = F s) ∧ ν = [some (.mp .str (strM intV es))] := by rw [ha]; rfl
  have rb : AllX (allM (fun s => aget X s) (turnM rs t)) = fun p ν => p = .tup [.mref 0, .int .i64 0] ∧ ∃ es : List Pr, (es.map (·.1)).Nodup ∧ (∀ s, aget es s = F s) ∧ ν = [some (.mp .str (strM intV es))] := by rw [hb]; rfl
  rw [ra] at h33a
  rw [rb] at h33b
  clear ra rb ha hb hd hRl hRt hr' hp
  generalize turnM rs t = rs' at *
  repeat' (first | exact True.intro | (refine PW.stop (x := .seq (.region false (⟨some 83, none, .rd .mov [.tmp 13]⟩ :: _) _) _) ?_) | (refine PW.seqK ?_; intro K hK) | refine stp ?_ | refine seqK_n ‹_› ?_ | refine seqK_r ‹_› ?_ | refine seqK_e ‹_› ?_ | exact schedW_stop_i | refine schK_n ‹_› ?_ | (refine PW.cond rfl ?_ ?_ <;> intro hcond <;> (try contradiction) <;> try simp only [DD] at hcond) | (refine goCall_FR e33 h33a rfl (by simp [PV.noOwn]) ?_; rintro p ν ⟨rfl, ya, ny, gy, rfl⟩; simp only [hlen, SA, Nat.reduceAdd, reduceIte, Nat.reduceEqDiff, Nat.reduceBEq, reduceCtorEq]) | (refine goCall_FR e33 h33b rfl (by simp [PV.noOwn]) ?_; rintro p ν ⟨rfl, za, nz, gz, rfl⟩; simp only [hlen, SA, Nat.reduceAdd, reduceIte, Nat.reduceEqDiff, Nat.reduceBEq, reduceCtorEq]) | (refine gd_i ?_; intro hg; try simp only [hg]) | (refine ari ?_; first | omega | (simp only [DD, LL] <;> omega) | (go_unwrap; omega)) | ((first | refine stq ?_ | show (_ : Post) _ _ _ | (refine schedW_alt_k ?_ ?_; intro K hK)); focus (simp only [hlen, SA, Nat.reduceAdd, reduceIte, Nat.reduceEqDiff, Nat.reduceBEq, reduceCtorEq]; (try go_unwrap; try simp only [hlen, RR, reduceCtorEq]))) | refine And.intro ?_ ?_ | exact Or.inr ⟨rfl, Nat.le_refl _⟩ | exact (fun h => Bool.noConfusion h))
  refine ⟨?_⟩
  have hyl : ((strM intV ya).length : Nat) = ya.length := by simp [strM, mapP]
  have hzl : ((strM intV za).length : Nat) = ya.length := by rw [keys_len ny nz (fun s => by rw [gy, gz])]; simp [strM, mapP]
  have hmy : ∀ s v, F s = some v → mget (strM intV ya) (.str s) = some (.int .i64 v) := fun s v h => by rw [mget_str, gy, h]; rfl
  have hmz : ∀ s v, F s = some v → mget (strM intV za) (.str s) = some (.int .i64 v) := fun s v h => by rw [mget_str, gz, h]; rfl
  have hey : ∀ s, mget (strM intV ya) (.str s) = (F s).map (PV.int .i64) := fun s => by rw [mget_str, gy]
  have qe : decide ((ya.length : Int) = ya.length) = true := by simp
  repeat' (first | exact True.intro | (refine PW.seqK ?_; intro K hK) | refine stp ?_ | refine seqK_n ‹_› ?_ | refine seqK_r ‹_› ?_ | refine seqK_e ‹_› ?_ | exact schedW_stop_i | refine schK_n ‹_› ?_ | (refine PW.cond rfl ?_ ?_ <;> intro hcond <;> (try contradiction) <;> try simp only [DD] at hcond) | (refine gd_i ?_; intro hg; try simp only [hg]) | (refine ari ?_; first | omega | (simp only [DD, LL] <;> omega) | (go_unwrap; omega)) | ((first | refine stq ?_ | show (_ : Post) _ _ _ | (refine schedW_alt_k ?_ ?_; intro K hK)); focus (simp only [hlen, hyl, hzl, qe, SA, Nat.reduceAdd, reduceIte, Nat.reduceEqDiff, Nat.reduceBEq, reduceCtorEq]; (try go_unwrap; try simp only [hlen, hyl, hzl, qe, RR, reduceCtorEq]))) | refine And.intro ?_ ?_ | exact Or.inr ⟨rfl, Nat.le_refl _⟩ | exact (fun h => Bool.noConfusion h))
  clear h33a h33b
  refine PW.loopG (σ := Nat) 4 (fun _ _ => rfl) [1, 7, 12, 14, 103, 104, 105] (fun i => [rlsP rs, .cmap .str (strM intV X), .mref 2, .mref 3, rlsP rs, .int .i64 rs.length, .int .i64 i])
    (fun i => [none, none, some (.mp .str (strM intV ya)), some (.mp .str (strM intV za))]) (fun i => i ≤ rs.length) (fun i => rs.length - i) 0 ?_ (by first | rfl | simp) (by omega) ?_
  · simp only [SA, Nat.reduceAdd, reduceIte, Nat.reduceEqDiff, Nat.reduceBEq, reduceCtorEq]; rfl
  clear hi
  intro i hi
  simp only [List.zip_cons_cons, List.zip_nil_left]
  rcases Nat.lt_or_ge i rs.length with h | h
  · have hd : decide ((i : Int) < rs.length) = true := by simp only [decide_eq_true_eq]; omega
    obtain ⟨r, -, hn, hg⟩ := drop_at h
    have hgn := ((hg rlP).1).trans (hrp r)
    have hok := hr r (List.mem_of_getElem? hn)
    obtain ⟨v, hv1, hv2⟩ := s1 r (List.mem_of_getElem? hn)
    have h16 := v16 hasKK F (strM intV ya) hey r.tree hok.len hok.sz
    rw [hv1] at h16
    simp only [treeP] at h16
    have m1 := hmy _ _ hv2
    have m2 := hmz _ _ hv2
    repeat' (first | exact True.intro | exact (rfl : KK.str = KK.str) | (exact Or.inr ⟨rfl, by decide⟩) | (refine PW.seqK ?_; intro K hK) | refine stp ?_ | refine seqK_n ‹_› ?_ | refine seqK_r ‹_› ?_ | refine seqK_e ‹_› ?_ | exact schedW_stop_i | refine schK_n ‹_› ?_ | (refine PW.cond rfl ?_ ?_ <;> intro hcond <;> (try contradiction) <;> try simp only [DD] at hcond) | (refine gd_i ?_; intro hg; try simp only [hg]) | refine goCall_W e16 (h16) ?_ ?_ ?_ ?_ | (refine ari ?_; first | omega | (simp only [DD, LL] <;> omega) | (go_unwrap; omega)) | ((first | refine stq ?_ | show (_ : Post) _ _ _ | (refine schedW_alt_k ?_ ?_; intro K hK)); focus (simp only [hlen, hd, hgn, cutR, m1, m2, Option.getD_some, SA, Nat.reduceAdd, reduceIte, Nat.reduceEqDiff, Nat.reduceBEq, reduceCtorEq]; (try go_unwrap; try simp only [hlen, hd, hgn, cutR, m1, m2, Option.getD_some, RR, reduceCtorEq]))) | refine And.intro ?_ ?_ | exact Or.inr ⟨rfl, Nat.le_refl _⟩ | exact (fun h => Bool.noConfusion h))
    all_goals exact ⟨i + 1, (by first | rfl | (simp only [TT, MObj.kill, PV.kill, Nat.reduceLeDiff, reduceIte, Nat.le_refl, Nat.zero_le, Nat.not_le, Nat.lt_irrefl]; done) | (simp [trimE, trimM, MObj.kill, PV.kill]; done)), (by first | rfl | (simp only [TT, MObj.kill, PV.kill, Nat.reduceLeDiff, reduceIte, Nat.le_refl, Nat.zero_le, Nat.not_le, Nat.lt_irrefl]; done) | (simp [trimE, trimM, MObj.kill, PV.kill]; done)), by omega, by omega⟩
  have hd : decide ((i : Int) < rs.length) = false := by simp only [decide_eq_false_iff_not]; omega
  repeat' (first | exact True.intro | (refine PW.seqK ?_; intro K hK) | refine stp ?_ | refine seqK_n ‹_› ?_ | refine seqK_r ‹_› ?_ | refine seqK_e ‹_› ?_ | exact schedW_stop_i | refine schK_n ‹_› ?_ | (refine PW.cond rfl ?_ ?_ <;> intro hcond <;> (try contradiction) <;> try simp only [DD] at hcond) | (refine gd_i ?_; intro hg; try simp only [hg]) | (refine ari ?_; first | omega | (simp only [DD, LL] <;> omega) | (go_unwrap; omega)) | ((first | refine stq ?_ | show (_ : Post) _ _ _ | (refine schedW_alt_k ?_ ?_; intro K hK)); focus (simp only [hd, SA, Nat.reduceAdd, reduceIte, Nat.reduceEqDiff, Nat.reduceBEq, reduceCtorEq]; (try go_unwrap; try simp only [hd, RR, reduceCtorEq]))) | refine And.intro ?_ ?_ | exact Or.inr ⟨rfl, Nat.le_refl _⟩ | exact (fun h => Bool.noConfusion h))
  refine PW.loopG (σ := List Nat) 5 (fun _ _ => rfl) [7, 12, 14, 136] (fun _ => [.cmap .str (strM intV X), .mref 2, .mref 3, .ref 4 0])
    (fun s => [none, none, some (.mp .str (strM intV ya)), some (.mp .str (strM intV za)), some (.iter .str (strM intV X) s)])
    (fun s => True) (fun s => leftN X.length s) [] ?_ rfl trivial ?_
  · simp only [SA, Nat.reduceAdd, reduceIte, Nat.reduceEqDiff, Nat.reduceBEq, reduceCtorEq]; rfl
  rintro seen -
  simp only [List.zip_cons_cons, List.zip_nil_left]
  repeat' (first | exact True.intro | (refine PW.seqK ?_; intro K hK) | refine stp ?_ | refine seqK_n ‹_› ?_ | refine seqK_r ‹_› ?_ | refine seqK_e ‹_› ?_ | exact schedW_stop_i | refine schK_n ‹_› ?_ | (refine PW.cond rfl ?_ ?_ <;> intro hcond <;> (try contradiction) <;> try simp only [DD] at hcond) | (refine gd_i ?_; intro hg; try simp only [hg]) | (refine ari ?_; first | omega | (simp only [DD, LL] <;> omega) | (go_unwrap; omega)) | ((first | refine stq ?_ | show (_ : Post) _ _ _ | (refine schedW_alt_k ?_ ?_; intro K hK)); focus (simp only [mapP_len, SA, Nat.reduceAdd, reduceIte, Nat.reduceEqDiff, Nat.reduceBEq, reduceCtorEq]; (try go_unwrap; try simp only [mapP_len, RR, reduceCtorEq]))) | refine And.intro ?_ ?_ | exact Or.inr ⟨rfl, Nat.le_refl _⟩ | exact (fun h => Bool.noConfusion h))
  · intro k hk hks
    refine ⟨by simp, ?_⟩
    obtain ⟨s', v', hx, hmem, he1, he2⟩ := en_mapP PV.str intV X hk
    have hv2 := s2 s' v' (aget_mem hnd hmem)
    have m1 := hmy _ _ hv2
    have m2 := hmz _ _ hv2
    repeat' (first | exact True.intro | exact (rfl : KK.str = KK.str) | (refine PW.seqK ?_; intro K hK) | refine stp ?_ | refine seqK_n ‹_› ?_ | refine seqK_r ‹_› ?_ | refine seqK_e ‹_› ?_ | exact schedW_stop_i | refine schK_n ‹_› ?_ | (refine PW.cond rfl ?_ ?_ <;> intro hcond <;> (try contradiction) <;> try simp only [DD] at hcond) | (refine gd_i ?_; intro hg; try simp only [hg]) | (refine ari ?_; first | omega | (simp only [DD, LL] <;> omega) | (go_unwrap; omega)) | ((first | refine stq ?_ | show (_ : Post) _ _ _ | (refine schedW_alt_k ?_ ?_; intro K hK)); focus (simp only [he1, he2, mapP_len, hk, m1, m2, Option.getD_some, SA, Nat.reduceAdd, reduceIte, Nat.reduceEqDiff, Nat.reduceBEq, reduceCtorEq]; (try go_unwrap; try simp only [he1, he2, mapP_len, hk, m1, m2, Option.getD_some, RR, reduceCtorEq]))) | refine And.intro ?_ ?_ | exact Or.inr ⟨rfl, Nat.le_refl _⟩ | exact (fun h => Bool.noConfusion h))
    all_goals exact ⟨seen ++ [k], (by first | rfl | (simp only [TT, MObj.kill, PV.kill, Nat.reduceLeDiff, reduceIte, Nat.le_refl, Nat.zero_le, Nat.not_le, Nat.lt_irrefl]; done) | (simp [trimE, trimM, MObj.kill, PV.kill]; done)), (by first | rfl | (simp only [TT, MObj.kill, PV.kill, Nat.reduceLeDiff, reduceIte, Nat.le_refl, Nat.zero_le, Nat.not_le, Nat.lt_irrefl]; done) | (simp [trimE, trimM, MObj.kill, PV.kill]; done)), leftN_lt hk hks⟩
  · intro hall
    refine ⟨by simp, ?_⟩
    repeat' (first | exact True.intro | (refine PW.seqK ?_; intro K hK) | refine stp ?_ | refine seqK_n ‹_› ?_ | refine seqK_r ‹_› ?_ | refine seqK_e ‹_› ?_ | exact schedW_stop_i | refine schK_n ‹_› ?_ | (refine PW.cond rfl ?_ ?_ <;> intro hcond <;> (try contradiction) <;> try simp only [DD] at hcond) | (refine gd_i ?_; intro hg; try simp only [hg]) | refine goCall_W e15 (h15) ?_ ?_ ?_ ?_ | (refine ari ?_; first | omega | (simp only [DD, LL] <;> omega) | (go_unwrap; omega)) | ((first | refine stq ?_ | show (_ : Post) _ _ _ | (refine schedW_alt_k ?_ ?_; intro K hK)); focus (simp only [SA, Nat.reduceAdd, reduceIte, Nat.reduceEqDiff, Nat.reduceBEq, reduceCtorEq]; (try go_unwrap; try simp only [RR, reduceCtorEq]))) | refine And.intro ?_ ?_ | exact Or.inr ⟨rfl, Nat.le_refl _⟩ | exact (fun h => Bool.noConfusion h))
end Go.Proofs.YthekpjhffciakaaDoor

namespace Go.Proofs.YthekpjhffciakaaDoor
open Go PG Go.Proofs
set_option linter.unusedSimpArgs false
set_option linter.unusedVariables false
set_option maxRecDepth 100000
theorem own : ownKnob Tryd.prog.godebug = none := by kernel_rfl
theorem laidOut : laidOutB Tryd.prog = true := by kernel_rfl
theorem gKids : Tryd.prog.globalNamed "wagebook/expr.kidsOf" = some 1 := by kernel_rfl
end Go.Proofs.YthekpjhffciakaaDoor

