import Derived.Test.YthekpjhffciakaaDoorProg
import Derived.KernelRfl
import Derived.Test.YthekpjhffciakaaDoorQ6
import Derived.Test.YthekpjhffciakaaDoorQ8
import Derived.Test.YthekpjhffciakaaDoorQ7
import Derived.Test.YthekpjhffciakaaDoorP4
namespace Go.Proofs.YthekpjhffciakaaDoor
open Go PG Go.Proofs
set_option linter.unusedSimpArgs false
set_option linter.unusedVariables false
set_option maxHeartbeats 4000000
set_option maxRecDepth 100000
variable {G : Globs}
theorem err_ne : ∀ (ns : List Nd) (i : Nat) (t : List Bool) (e : Int), checkNodes ns i t = .error e → e ≠ 0 := by
  intro ns
  induction ns with
  | nil => intro i t e h; cases h
  | cons n ns ih =>
    intro i t e h
    unfold checkNodes at h
    split at h
    · cases h; assumption
    · split at h
      · cases h; decide
      · split at h
        · cases h; assumption
        · exact ih _ _ _ h
/-- What a right list of nodes is by itself. -/
theorem checkM_ok {l : List Nd} (h : checkM l = 0) : l.length ≤ 256 ∧ l ≠ [] ∧ wfK l 0 ∧ (∀ n ∈ l, formE n = 0 ∧ restE n = 0) ∧ depthM l ≤ 16 := by
  unfold checkM at h
  split at h
  · cases h
  · split at h
    · cases h
    · split at h
      · rename_i hc
        exfalso
        exact err_ne _ _ _ _ hc h
      · rename_i hc
        obtain ⟨-, h2, h3⟩ := checkNodes_ok hc
        split at h
        · cases h
        · split at h
          · cases h
          · exact ⟨by omega, fun h => by simp_all, h2, h3, by omega⟩
end Go.Proofs.YthekpjhffciakaaDoor

namespace Go.Proofs.YthekpjhffciakaaDoor
open Go PG Go.Proofs
set_option linter.unusedSimpArgs false
set_option linter.unusedVariables false
set_option maxHeartbeats 4000000
set_option maxRecDepth 100000
/-! What rules read -/
structure Rl where
  name : List UInt8
  tree : List Nd
  deriving Inhabited
def rlP (r : Rl) : PV := .agg [.str r.name, .list (some 4) (r.tree.map ndP)]
abbrev rlsP (rs : List Rl) : PV := .list (some 2) (rs.map rlP)
theorem e32 : Ent Tryd.prog 32 := ⟨Tryd.f32, Tryd.func32, by kernel_rfl, by kernel_rfl⟩
theorem cutR (a b : PV) : cut (some 2) (some 1) (.agg [a, b]) 1 = .agg [b] := rfl
/-- A tree's names; none, if it is wrong. -/
def varsT (l : List Nd) : List (List UInt8) := if checkM l = 0 then varsM l else []
structure RlOk (r : Rl) : Prop where
  len : r.tree.length ≤ 1048576
  sz : ∀ n ∈ r.tree, n.name.length ≤ 9223372036854775807 ∧ n.kids.length ≤ 9223372036854775807
  nm : r.name.length ≤ 9223372036854775807
theorem v34t {r : Rl} (h : RlOk r) : VCalls Tryd.prog GK 34 [.agg [.list (some 4) (r.tree.map ndP)]] (.list none ((varsT r.tree).map PV.str)) := by
  unfold varsT
  by_cases hc : checkM r.tree = 0
  · rw [if_pos hc]
    exact v34 r.tree h.sz (checkM_ok hc).1 hc
  · rw [if_neg hc]
    exact (v34n r.tree (by have := h.len; omega) h.sz hc).res (.nil none)
theorem varsT_len (l : List Nd) : (varsT l).length ≤ 256 := by
  unfold varsT
  split
  · rename_i hc
    have h1 := compactT_len (sortT (namesV l))
    have h2 := namesV_len l
    have h3 : (sortT (namesV l)).length = (namesV l).length := List.length_mergeSort _
    have := (checkM_ok hc).1
    unfold varsM; omega
  · simp
/-- How often a name is made. -/
def madeE (rs : List Rl) : List (List UInt8 × Int) := rs.foldl (fun es r => aset es r.name ((aget es r.name).getD 0 + 1)) []
theorem madeE_snoc (rs : List Rl) (r : Rl) : madeE (rs ++ [r]) = aset (madeE rs) r.name ((aget (madeE rs) r.name).getD 0 + 1) := by
  unfold madeE; rw [List.foldl_append]; rfl
theorem madeE_get : ∀ (n : Nat) (rs : List Rl), rs.length = n → ∀ s, 0 ≤ (aget (madeE rs) s).getD 0 ∧ (aget (madeE rs) s).getD 0 ≤ rs.length ∧ ((aget (madeE rs) s).getD 0 = 0 ↔ s ∉ rs.map (·.name))
  | 0, rs, h, s => by
    have : rs = [] := List.length_eq_zero_iff.1 h
    subst this
    simp [madeE, aget]
  | n + 1, rs, h, s => by
    rcases List.eq_nil_or_concat rs with rfl | ⟨rs', r, rfl⟩
    · simp at h
    · rw [List.concat_eq_append] at *
      have hl : rs'.length = n := by simpa using h
      have ih := madeE_get n rs' hl
      rw [madeE_snoc, aget_aset]
      have h1 := ih r.name
      have h2 := ih s
      by_cases hs : s = r.name
      · rw [if_pos hs]
        simp only [Option.getD_some, List.length_append, List.length_cons, List.length_nil, List.map_append, List.map_cons, List.map_nil]
        refine ⟨by omega, by omega, ⟨fun h => by omega, fun h => absurd (by rw [hs]; simp) h⟩⟩
      · rw [if_neg hs]
        simp only [List.length_append, List.length_cons, List.length_nil, List.map_append, List.map_cons, List.map_nil, List.mem_append, List.mem_singleton, hs, or_false]
        exact ⟨h2.1, by omega, h2.2.2⟩
def freeN (rs : List Rl) (s : List UInt8) : Bool := decide ((aget (madeE rs) s).getD 0 = 0)
def readsR (all rs : List Rl) : List (List UInt8) := rs.flatMap fun r => (varsT r.tree).filter (freeN all)
theorem readsR_snoc (all rs : List Rl) (r : Rl) : readsR all (rs ++ [r]) = readsR all rs ++ (varsT r.tree).filter (freeN all) := by
  unfold readsR; rw [List.flatMap_append]; simp
theorem readsR_len (all : List Rl) : ∀ rs : List Rl, (readsR all rs).length ≤ 256 * rs.length
  | [] => by simp [readsR]
  | r :: rs => by
    have h1 := readsR_len all rs
    have h2 := varsT_len r.tree
    have h3 := List.length_filter_le (freeN all) (varsT r.tree)
    unfold readsR at h1 ⊢
    rw [List.flatMap_cons, List.length_append, List.length_cons]
    omega
def readsM (rs : List Rl) : List (List UInt8) := Lib.compact (sortT (readsR rs rs))
theorem v32 (rs : List Rl) (hl : rs.length ≤ 1000) (hr : ∀ r ∈ rs, RlOk r) : VCalls Tryd.prog GK 32 [rlsP rs] (.list none ((readsM rs).map PV.str)) := by
  refine VCalls.of_PW Tryd.func32 k32 mix (by simp [c32]) ?_
  simp only [c32, L32, CC, argE, rlsP]
  have hll : ((rs.map rlP).length : Nat) = rs.length := by simp
  have hrp : ∀ r : Rl, rlP r = .agg [.str r.name, .list (some 4) (r.tree.map ndP)] := fun _ => rfl
  repeat' (first | exact True.intro | (refine PW.seqK ?_; intro K hK) | refine stp ?_ | refine seqK_n ‹_› ?_ | refine seqK_r ‹_› ?_ | refine seqK_e ‹_› ?_ | exact schedW_stop_i | refine schK_n ‹_› ?_ | (refine PW.cond rfl ?_ ?_ <;> intro hcond <;> (try contradiction) <;> try simp only [DD] at hcond) | (refine gd_i ?_; intro hg; try simp only [hg]) | (refine ari ?_; first | omega | (simp only [DD, LL] <;> omega) | (go_unwrap; omega)) | ((first | refine stq ?_ | show (_ : Post) _ _ _ | (refine schedW_alt_k ?_ ?_; intro K hK)); focus (simp only [hll, SA, Nat.reduceAdd, reduceIte, Nat.reduceEqDiff, Nat.reduceBEq, reduceCtorEq]; (try go_unwrap; try simp only [hll, RR, reduceCtorEq]))) | refine And.intro ?_ ?_ | exact Or.inr ⟨rfl, Nat.le_refl _⟩ | exact (fun h => Bool.noConfusion h))
  refine PW.loopG (σ := Nat) 1 (fun _ _ => rfl) [0, 3, 12, 13, 14] (fun i => [.list (some 2) (rs.map rlP), .mref 0, .list (some 2) (rs.map rlP), .int .i64 rs.length, .int .i64 i])
    (fun i => [some (.mp .str (strM (PV.int .i64) (madeE (rs.take i))))]) (fun i => i ≤ rs.length) (fun i => rs.length - i) 0 ?_ rfl (by omega) ?_
  · simp only [SA, Nat.reduceAdd, reduceIte, Nat.reduceEqDiff, Nat.reduceBEq, reduceCtorEq]; rfl
  · intro i hi
    simp only [List.zip_cons_cons, List.zip_nil_left]
    rcases Nat.lt_or_ge i rs.length with h | h
    · have hd : decide ((i : Int) < rs.length) = true := by simp only [decide_eq_true_eq]; omega
      obtain ⟨r, -, hn, hg⟩ := drop_at h
      have hgn := ((hg rlP).1).trans (hrp r)
      have hni : rs[i] = r := by rw [List.getElem?_eq_getElem h] at hn; exact Option.some.inj hn
      have hst : madeE (rs.take (i + 1)) = aset (madeE (rs.take i)) r.name ((aget (madeE (rs.take i)) r.name).getD 0 + 1) := by
        rw [List.take_succ_eq_append_getElem h, hni, madeE_snoc]
      have hcnt := madeE_get _ (rs.take i) rfl r.name
      have htl : (rs.take i).length ≤ rs.length := by simp; omega
      generalize madeE (rs.take i) = M at *
      have hmg := mget_str (PV.int .i64) M r.name
      have hms := fun v => mset_str (PV.int .i64) M r.name v
      have hgd : ((aget M r.name).map (PV.int .i64)).getD (PV.int .i64 0) = .int .i64 ((aget M r.name).getD 0) := by cases aget M r.name <;> rfl
      have w1 : IntKind.i64.wrap ((aget M r.name).getD 0 + 1) = (aget M r.name).getD 0 + 1 := IntWalk.i64_in _ (by omega)
      repeat' (first | exact True.intro | exact (rfl : KK.str = KK.str) | (refine PW.seqK ?_; intro K hK) | refine stp ?_ | refine seqK_n ‹_› ?_ | refine seqK_r ‹_› ?_ | refine seqK_e ‹_› ?_ | exact schedW_stop_i | refine schK_n ‹_› ?_ | (refine PW.cond rfl ?_ ?_ <;> intro hcond <;> (try contradiction) <;> try simp only [DD] at hcond) | (refine gd_i ?_; intro hg; try simp only [hg]) | (refine ari ?_; first | omega | (simp only [DD, LL] <;> omega) | (go_unwrap; omega)) | ((first | refine stq ?_ | show (_ : Post) _ _ _ | (refine schedW_alt_k ?_ ?_; intro K hK)); focus (simp only [hll, hd, hgn, hmg, hgd, w1, hms, SA, Nat.reduceAdd, reduceIte, Nat.reduceEqDiff, Nat.reduceBEq, reduceCtorEq]; (try go_unwrap; try simp only [hll, hd, hgn, hmg, hgd, w1, hms, RR, reduceCtorEq]))) | refine And.intro ?_ ?_ | exact Or.inr ⟨rfl, Nat.le_refl _⟩ | exact (fun h => Bool.noConfusion h))
      all_goals exact ⟨i + 1, (by first | rfl | (simp only [TT, MObj.kill, PV.kill, Nat.reduceLeDiff, reduceIte, Nat.le_refl, Nat.zero_le, Nat.not_le, Nat.lt_irrefl]; done) | (simp [trimE, trimM, MObj.kill, PV.kill]; done)), (by rw [hst]; exact (by first | rfl | (simp only [TT, MObj.kill, PV.kill, Nat.reduceLeDiff, reduceIte, Nat.le_refl, Nat.zero_le, Nat.not_le, Nat.lt_irrefl]; done) | (simp [trimE, trimM, MObj.kill, PV.kill]; done))), by omega, by omega⟩
    have hd : decide ((i : Int) < rs.length) = false := by simp only [decide_eq_false_iff_not]; omega
    have hi' : i = rs.length := by omega
    subst hi'
    rw [List.take_length]
    have hfree : ∀ s, decide ((aget (madeE rs) s).getD 0 = 0) = freeN rs s := fun _ => rfl
    have hred : readsM rs = Lib.compact (sortT (readsR rs rs)) := rfl
    have hrl0 := readsR_len rs
    have hsn := readsR_snoc rs
    generalize hM : madeE rs = M at *
    generalize hF : freeN rs = F at *
    have hmg := mget_str (PV.int .i64) M
    have hgd : ∀ s, ((aget M s).map (PV.int .i64)).getD (PV.int .i64 0) = .int .i64 ((aget M s).getD 0) := fun s => by cases aget M s <;> rfl
    repeat' (first | exact True.intro | (refine PW.seqK ?_; intro K hK) | refine stp ?_ | refine seqK_n ‹_› ?_ | refine seqK_r ‹_› ?_ | refine seqK_e ‹_› ?_ | exact schedW_stop_i | refine schK_n ‹_› ?_ | (refine PW.cond rfl ?_ ?_ <;> intro hcond <;> (try contradiction) <;> try simp only [DD] at hcond) | (refine gd_i ?_; intro hg; try simp only [hg]) | (refine ari ?_; first | omega | (simp only [DD, LL] <;> omega) | (go_unwrap; omega)) | ((first | refine stq ?_ | show (_ : Post) _ _ _ | (refine schedW_alt_k ?_ ?_; intro K hK)); focus (simp only [hll, hd, SA, Nat.reduceAdd, reduceIte, Nat.reduceEqDiff, Nat.reduceBEq, reduceCtorEq]; (try go_unwrap; try simp only [hll, hd, RR, reduceCtorEq]))) | refine And.intro ?_ ?_ | exact Or.inr ⟨rfl, Nat.le_refl _⟩ | exact (fun h => Bool.noConfusion h))
    refine PW.own none 6 rfl ?_
    simp only [List.cons_append, List.nil_append, List.length_cons, List.length_nil]
    repeat' (first | exact True.intro | (refine PW.seqK ?_; intro K hK) | refine stp ?_ | refine seqK_n ‹_› ?_ | refine seqK_r ‹_› ?_ | refine seqK_e ‹_› ?_ | exact schedW_stop_i | refine schK_n ‹_› ?_ | (refine PW.cond rfl ?_ ?_ <;> intro hcond <;> (try contradiction) <;> try simp only [DD] at hcond) | (refine gd_i ?_; intro hg; try simp only [hg]) | (refine ari ?_; first | omega | (simp only [DD, LL] <;> omega) | (go_unwrap; omega)) | ((first | refine stq ?_ | show (_ : Post) _ _ _ | (refine schedW_alt_k ?_ ?_; intro K hK)); focus (simp only [hll, SA, Nat.reduceAdd, reduceIte, Nat.reduceEqDiff, Nat.reduceBEq, reduceCtorEq]; (try go_unwrap; try simp only [hll, RR, reduceCtorEq]))) | refine And.intro ?_ ?_ | exact Or.inr ⟨rfl, Nat.le_refl _⟩ | exact (fun h => Bool.noConfusion h))
    refine PW.loopG (σ := Nat) 2 (fun _ _ => rfl) [3, 6, 24, 25, 26] (fun i => [.mref 0, .sl none 1 (readsR rs (rs.take i)).length, .list (some 2) (rs.map rlP), .int .i64 rs.length, .int .i64 i])
      (fun i => [some (.mp .str (strM (PV.int .i64) M)), some (.row none ((readsR rs (rs.take i)).map PV.str))]) (fun i => i ≤ rs.length) (fun i => rs.length - i) 0 ?_ (by simp [readsR]) (by omega) ?_
    · simp only [SA, Nat.reduceAdd, reduceIte, Nat.reduceEqDiff, Nat.reduceBEq, reduceCtorEq]; rfl
    clear hd
    intro i hi
    simp only [List.zip_cons_cons, List.zip_nil_left]
    rcases Nat.lt_or_ge i rs.length with h | h
    · have hd : decide ((i : Int) < rs.length) = true := by simp only [decide_eq_true_eq]; omega
      obtain ⟨r, -, hn, hg⟩ := drop_at h
      have hgn := ((hg rlP).1).trans (hrp r)
      have hni : rs[i] = r := by rw [List.getElem?_eq_getElem h] at hn; exact Option.some.inj hn
      have hst : readsR rs (rs.take (i + 1)) = readsR rs (rs.take i) ++ (varsT r.tree).filter F := by
        rw [List.take_succ_eq_append_getElem h, hni, hsn]
      have hol := hrl0 (rs.take i)
      have htl : (rs.take i).length ≤ rs.length := by simp; omega
      have h34 := v34t (hr r (List.mem_of_getElem? hn))
      have hvl := varsT_len r.tree
      generalize varsT r.tree = V at *
      generalize readsR rs (rs.take i) = R at *
      have hVl : ((V.map PV.str).length : Nat) = V.length := by simp
      repeat' (first | exact True.intro | (exact Or.inr ⟨rfl, by decide⟩) | (refine PW.seqK ?_; intro K hK) | refine stp ?_ | refine seqK_n ‹_› ?_ | refine seqK_r ‹_› ?_ | refine seqK_e ‹_› ?_ | exact schedW_stop_i | refine schK_n ‹_› ?_ | (refine PW.cond rfl ?_ ?_ <;> intro hcond <;> (try contradiction) <;> try simp only [DD] at hcond) | (refine gd_i ?_; intro hg; try simp only [hg]) | refine goCall_W e34 (h34) ?_ ?_ ?_ ?_ | (refine ari ?_; first | omega | (simp only [DD, LL] <;> omega) | (go_unwrap; omega)) | ((first | refine stq ?_ | show (_ : Post) _ _ _ | (refine schedW_alt_k ?_ ?_; intro K hK)); focus (simp only [hll, hd, hgn, hVl, cutR, SA, Nat.reduceAdd, reduceIte, Nat.reduceEqDiff, Nat.reduceBEq, reduceCtorEq]; (try go_unwrap; try simp only [hll, hd, hgn, hVl, cutR, RR, reduceCtorEq]))) | refine And.intro ?_ ?_ | exact Or.inr ⟨rfl, Nat.le_refl _⟩ | exact (fun h => Bool.noConfusion h))
      refine PW.loopG (σ := Nat) 3 (fun _ _ => rfl) [3, 6, 24, 25, 26, 32, 33, 34] (fun j => [.mref 0, .sl none 1 (R ++ (V.take j).filter F).length, .list (some 2) (rs.map rlP), .int .i64 rs.length, .int .i64 i, .list none (V.map PV.str), .int .i64 V.length, .int .i64 j])
        (fun j => [some (.mp .str (strM (PV.int .i64) M)), some (.row none ((R ++ (V.take j).filter F).map PV.str)), some (.var (some 2) (.agg [.str r.name, .list (some 4) (r.tree.map ndP)]))]) (fun j => j ≤ V.length) (fun j => V.length - j) 0 ?_ (by simp) (by omega) ?_
      · simp only [SA, Nat.reduceAdd, reduceIte, Nat.reduceEqDiff, Nat.reduceBEq, reduceCtorEq, List.take_zero, List.filter_nil, List.append_nil]; rfl
      intro j hj
      simp only [List.zip_cons_cons, List.zip_nil_left]
      rcases Nat.lt_or_ge j V.length with h' | h'
      · have hd2 : decide ((j : Int) < V.length) = true := by simp only [decide_eq_true_eq]; omega
        have hgv : (V.map PV.str).getD j .junk = .str V[j] := by simp [List.getD, h']
        have hst2 : R ++ (V.take (j + 1)).filter F = (R ++ (V.take j).filter F) ++ [V[j]].filter F := by
          rw [List.take_succ_eq_append_getElem h', List.filter_append, List.append_assoc]
        have hol2 : (R ++ (V.take j).filter F).length ≤ R.length + 256 := by
          rw [List.length_append]
          have h3 := List.length_filter_le F (V.take j)
          have h4 : (V.take j).length ≤ 256 := by simp; omega
          omega
        have hfr := hfree V[j]
        generalize V[j] = x at hgv hst2 hfr
        generalize R ++ (V.take j).filter F = O at hst2 hol2
        have hOl : ((O.map PV.str).length : Nat) = O.length := by simp
        have hOt : (O.map PV.str).take O.length = O.map PV.str := List.take_of_length_le (by simp)
        have b1 : (O.length + 1) * 16 ≤ 281474976710656 := by omega
        cases hFx : F x with
        | true =>
          rw [show [x].filter F = [x] by simp [hFx]] at hst2
          rw [hFx] at hfr
          repeat' (first | exact True.intro | exact (rfl : KK.str = KK.str) | (refine PW.seqK ?_; intro K hK) | refine stp ?_ | refine seqK_n ‹_› ?_ | refine seqK_r ‹_› ?_ | refine seqK_e ‹_› ?_ | exact schedW_stop_i | refine schK_n ‹_› ?_ | (refine PW.cond rfl ?_ ?_ <;> intro hcond <;> (try contradiction) <;> try simp only [DD] at hcond) | (refine gd_i ?_; intro hg; try simp only [hg]) | (refine ari ?_; first | omega | (simp only [DD, LL] <;> omega) | (go_unwrap; omega)) | ((first | refine stq ?_ | show (_ : Post) _ _ _ | (refine schedW_alt_k ?_ ?_; intro K hK)); focus (simp only [hd2, hgv, hmg, hgd, hfr, hOl, hOt, SA, Nat.reduceAdd, reduceIte, Nat.reduceEqDiff, Nat.reduceBEq, reduceCtorEq]; (try go_unwrap; try simp only [hd2, hgv, hmg, hgd, hfr, hOl, hOt, RR, reduceCtorEq]))) | refine And.intro ?_ ?_ | exact Or.inr ⟨rfl, Nat.le_refl _⟩ | exact (fun h => Bool.noConfusion h))
          all_goals exact ⟨j + 1, (by rw [hst2, List.length_append]; exact (by first | rfl | (simp only [TT, MObj.kill, PV.kill, Nat.reduceLeDiff, reduceIte, Nat.le_refl, Nat.zero_le, Nat.not_le, Nat.lt_irrefl]; done) | (simp [trimE, trimM, MObj.kill, PV.kill]; done))), (by rw [hst2, List.map_append]; exact (by first | rfl | (simp only [TT, MObj.kill, PV.kill, Nat.reduceLeDiff, reduceIte, Nat.le_refl, Nat.zero_le, Nat.not_le, Nat.lt_irrefl]; done) | (simp [trimE, trimM, MObj.kill, PV.kill]; done))), by omega, by omega⟩
        | false =>
          rw [show [x].filter F = [] by simp [hFx], List.append_nil] at hst2
          rw [hFx] at hfr
          repeat' (first | exact True.intro | exact (rfl : KK.str = KK.str) | (refine PW.seqK ?_; intro K hK) | refine stp ?_ | refine seqK_n ‹_› ?_ | refine seqK_r ‹_› ?_ | refine seqK_e ‹_› ?_ | exact schedW_stop_i | refine schK_n ‹_› ?_ | (refine PW.cond rfl ?_ ?_ <;> intro hcond <;> (try contradiction) <;> try simp only [DD] at hcond) | (refine gd_i ?_; intro hg; try simp only [hg]) | (refine ari ?_; first | omega | (simp only [DD, LL] <;> omega) | (go_unwrap; omega)) | ((first | refine stq ?_ | show (_ : Post) _ _ _ | (refine schedW_alt_k ?_ ?_; intro K hK)); focus (simp only [hd2, hgv, hmg, hgd, hfr, hOl, SA, Nat.reduceAdd, reduceIte, Nat.reduceEqDiff, Nat.reduceBEq, reduceCtorEq]; (try go_unwrap; try simp only [hd2, hgv, hmg, hgd, hfr, hOl, RR, reduceCtorEq]))) | refine And.intro ?_ ?_ | exact Or.inr ⟨rfl, Nat.le_refl _⟩ | exact (fun h => Bool.noConfusion h))
          all_goals exact ⟨j + 1, (by rw [hst2]; exact (by first | rfl | (simp only [TT, MObj.kill, PV.kill, Nat.reduceLeDiff, reduceIte, Nat.le_refl, Nat.zero_le, Nat.not_le, Nat.lt_irrefl]; done) | (simp [trimE, trimM, MObj.kill, PV.kill]; done))), (by rw [hst2]; exact (by first | rfl | (simp only [TT, MObj.kill, PV.kill, Nat.reduceLeDiff, reduceIte, Nat.le_refl, Nat.zero_le, Nat.not_le, Nat.lt_irrefl]; done) | (simp [trimE, trimM, MObj.kill, PV.kill]; done))), by omega, by omega⟩
      · have hd2 : decide ((j : Int) < V.length) = false := by simp only [decide_eq_false_iff_not]; omega
        rw [List.take_of_length_le h', ← hst]
        repeat' (first | exact True.intro | (refine PW.seqK ?_; intro K hK) | refine stp ?_ | refine seqK_n ‹_› ?_ | refine seqK_r ‹_› ?_ | refine seqK_e ‹_› ?_ | exact schedW_stop_i | refine schK_n ‹_› ?_ | (refine PW.cond rfl ?_ ?_ <;> intro hcond <;> (try contradiction) <;> try simp only [DD] at hcond) | (refine gd_i ?_; intro hg; try simp only [hg]) | (refine ari ?_; first | omega | (simp only [DD, LL] <;> omega) | (go_unwrap; omega)) | ((first | refine stq ?_ | show (_ : Post) _ _ _ | (refine schedW_alt_k ?_ ?_; intro K hK)); focus (simp only [hd2, SA, Nat.reduceAdd, reduceIte, Nat.reduceEqDiff, Nat.reduceBEq, reduceCtorEq]; (try go_unwrap; try simp only [hd2, RR, reduceCtorEq]))) | refine And.intro ?_ ?_ | exact Or.inr ⟨rfl, Nat.le_refl _⟩ | exact (fun h => Bool.noConfusion h))
        all_goals exact ⟨i + 1, (by first | rfl | (simp only [TT, MObj.kill, PV.kill, Nat.reduceLeDiff, reduceIte, Nat.le_refl, Nat.zero_le, Nat.not_le, Nat.lt_irrefl]; done) | (simp [trimE, trimM, MObj.kill, PV.kill]; done)), (by first | rfl | (simp only [TT, MObj.kill, PV.kill, Nat.reduceLeDiff, reduceIte, Nat.le_refl, Nat.zero_le, Nat.not_le, Nat.lt_irrefl]; done) | (simp [trimE, trimM, MObj.kill, PV.kill]; done)), by omega, by omega⟩
    · have hd : decide ((i : Int) < rs.length) = false := by simp only [decide_eq_false_iff_not]; omega
      have hi' : i = rs.length := by omega
      subst hi'
      rw [List.take_length]
      have hrl := hrl0 rs
      generalize readsR rs rs = R at *
      have hsl : (sortT R).length = R.length := List.length_mergeSort _
      have h64 : ∀ (μ : Mem), μ.get 1 = some (.row none ((sortT R).map PV.str)) → PCalls Tryd.prog GK 64 [.sl none 1 R.length] μ (fun _ => false) (fun p μ' => p = .sl none 1 (Lib.compact (sortT R)).length ∧ μ' = μ.set 1 (some (.row none ((cmpT (sortT R)).map PV.str)))) := fun μ hm => by
        have := v64 (μ := μ) (t := 1) (sortT R) (by omega) hm
        rw [hsl] at this; exact this
      repeat' (first | exact True.intro | (refine PW.seqK ?_; intro K hK) | refine stp ?_ | refine seqK_n ‹_› ?_ | refine seqK_r ‹_› ?_ | refine seqK_e ‹_› ?_ | exact schedW_stop_i | refine schK_n ‹_› ?_ | (refine PW.cond rfl ?_ ?_ <;> intro hcond <;> (try contradiction) <;> try simp only [DD] at hcond) | (refine goCall_P e63 (v63 R (by omega) rfl) ?_; rintro p μ' ⟨rfl, rfl⟩; simp only [hd, SA, Nat.reduceAdd, reduceIte, Nat.reduceEqDiff, Nat.reduceBEq, reduceCtorEq]) | (refine goCall_P e64 (h64 _ rfl) ?_; rintro p μ' ⟨rfl, rfl⟩; simp only [hd, SA, Nat.reduceAdd, reduceIte, Nat.reduceEqDiff, Nat.reduceBEq, reduceCtorEq]) | (refine gd_i ?_; intro hg; try simp only [hg]) | (refine ari ?_; first | omega | (simp only [DD, LL] <;> omega) | (go_unwrap; omega)) | ((first | refine stq ?_ | show (_ : Post) _ _ _ | (refine schedW_alt_k ?_ ?_; intro K hK)); focus (simp only [hd, SA, Nat.reduceAdd, reduceIte, Nat.reduceEqDiff, Nat.reduceBEq, reduceCtorEq]; (try go_unwrap; try simp only [hd, RR, reduceCtorEq]))) | refine And.intro ?_ ?_ | exact Or.inr ⟨rfl, Nat.le_refl _⟩ | exact (fun h => Bool.noConfusion h))
      · simp only [decide_eq_true_eq, List.length_map, cmpT_len]; exact compactT_len _
      · rw [if_pos (by simp only [List.length_map, cmpT_len]; exact compactT_len _), hred]
        congr 1
        rw [← List.map_take]
        congr 1
        simp [cmpT]
end Go.Proofs.YthekpjhffciakaaDoor

namespace Go.Proofs.YthekpjhffciakaaDoor
open Go PG Go.Proofs
set_option linter.unusedSimpArgs false
set_option linter.unusedVariables false
set_option maxHeartbeats 4000000
set_option maxRecDepth 100000
variable {G : Globs}
theorem v52 (l : List Nd) (hl : l.length ≤ 256) (hne : l ≠ []) (hw : wfK l 0) (hkl : ∀ n ∈ l, n.kids.length ≤ 256) : VCalls Tryd.prog G 52 [.list (some 4) (l.map ndP), .int .i64 ((l.length : Int) - 1)] (.int .i64 (depthM l)) := by
  refine VCalls.of_PW Tryd.func52 k52 mix (by simp [c52]) ?_
  simp only [c52, L52, CC, argE]
  have hl0 : 0 < l.length := List.length_pos_iff.2 hne
  have hm1 : ((8 : Nat) : Int) * (l.length : Int) ≤ 281474976710656 := by omega
  have hm2 : (l.length : Int) ≤ 9223372036854775807 := by omega
  have hm3 : 0 ≤ (l.length : Int) := by omega
  have wn : IntKind.i64.wrap ((l.length : Int) - 1 + 1) = l.length := by rw [IntWalk.i64_in _ (by omega)]; omega
  repeat' (first | exact True.intro | (refine PW.seqK ?_; intro K hK) | refine stp ?_ | refine seqK_n ‹_› ?_ | refine seqK_r ‹_› ?_ | refine seqK_e ‹_› ?_ | exact schedW_stop_i | refine schK_n ‹_› ?_ | (refine PW.cond rfl ?_ ?_ <;> intro hcond <;> (try contradiction) <;> try simp only [DD] at hcond) | (refine gd_i ?_; intro hg; try simp only [hg]) | (refine ari ?_; first | omega | (simp only [DD, LL] <;> omega) | (go_unwrap; omega)) | ((first | refine stq ?_ | show (_ : Post) _ _ _ | (refine schedW_alt_k ?_ ?_; intro K hK)); focus (simp only [List.length_map, wn, hm1, hm2, hm3, Int.le_refl, SA, Nat.reduceAdd, reduceIte, Nat.reduceEqDiff, Nat.reduceBEq, reduceCtorEq]; (try go_unwrap; try simp only [List.length_map, wn, hm1, hm2, hm3, Int.le_refl, RR, reduceCtorEq]))) | refine And.intro ?_ ?_ | exact Or.inr ⟨rfl, Nat.le_refl _⟩ | exact (fun h => Bool.noConfusion h))
  refine PW.loop (σ := Nat × List Int) [0, 1, 5, 6] (fun s => [.list (some 4) (l.map ndP), .int .i64 ((l.length : Int) - 1), .sl none 0 l.length, .int .i64 s.1])
    (fun s => [some (.row none (rowV s.2 l.length))])
    (fun s => s.1 ≤ l.length ∧ s.2.length = s.1 ∧ (∀ x ∈ s.2, 0 ≤ x ∧ x ≤ s.1) ∧ wfK (l.drop s.1) s.1 ∧ depthsM l [] = depthsM (l.drop s.1) s.2) (fun s => l.length - s.1) (0, []) ?_ ?_ ⟨by simp, by simp, by simp, by simpa using hw, by simp⟩ ?_
  · simp only [SA, Nat.reduceAdd, reduceIte, Nat.reduceEqDiff, Nat.reduceBEq, reduceCtorEq, List.length_map, Int.toNat_natCast]; rfl
  · simp [rowV]
  rintro ⟨i, acc⟩ ⟨hi, hal, hb, hwf, hr⟩
  simp only at hi hal hb hwf hr
  simp only [List.zip_cons_cons, List.zip_nil_left]
  rcases Nat.lt_or_ge i l.length with h | h
  · obtain ⟨n, hd, hn, hg⟩ := drop_at h
    rw [hd] at hr hwf
    rw [depthsM] at hr
    obtain ⟨hwk, hwf⟩ := hwf
    have hd' : decide ((i : Int) ≤ (l.length : Int) - 1) = true := by simp only [decide_eq_true_eq]; omega
    rw [rowV_M (by omega)]
    have hgn := ((hg ndP).1).trans (ndP1 n)
    have hkn := hkl n (List.mem_of_getElem? hn)
    have ha := rowM_at acc 0 l.length
    rw [hal] at ha
    have hlen := rowM_len (m := 0) (show acc.length < l.length by omega)
    have hset := rowM_set acc 0 1 l.length
    rw [hal] at hset
    repeat' (first | exact True.intro | (refine PW.seqK ?_; intro K hK) | refine stp ?_ | refine seqK_n ‹_› ?_ | refine seqK_r ‹_› ?_ | refine seqK_e ‹_› ?_ | exact schedW_stop_i | refine schK_n ‹_› ?_ | (refine PW.cond rfl ?_ ?_ <;> intro hcond <;> (try contradiction) <;> try simp only [DD] at hcond) | (refine gd_i ?_; intro hg; try simp only [hg]) | (refine ari ?_; first | omega | (simp only [DD, LL] <;> omega) | (go_unwrap; omega)) | ((first | refine stq ?_ | show (_ : Post) _ _ _ | (refine schedW_alt_k ?_ ?_; intro K hK)); focus (simp only [hd', hgn, ha, hlen, hset, List.length_map, SA, Nat.reduceAdd, reduceIte, Nat.reduceEqDiff, Nat.reduceBEq, reduceCtorEq]; (try go_unwrap; try simp only [hd', hgn, ha, hlen, hset, List.length_map, RR, reduceCtorEq]))) | refine And.intro ?_ ?_ | exact Or.inr ⟨rfl, Nat.le_refl _⟩ | exact (fun h => Bool.noConfusion h))
    refine PW.loop (σ := Nat × Int) [0, 1, 5, 6, 7] (fun s => [.list (some 4) (l.map ndP), .int .i64 ((l.length : Int) - 1), .sl none 0 l.length, .int .i64 i, .int .i64 s.1])
      (fun s => [some (.row none (rowM acc (s.2 + 1) l.length))])
      (fun s => s.1 ≤ n.kids.length ∧ 0 ≤ s.2 ∧ s.2 ≤ i ∧ kidsMax acc n.kids 0 = kidsMax acc (n.kids.drop s.1) s.2) (fun s => n.kids.length - s.1) (0, 0) ?_ (by simp) ⟨by simp, by simp, by simp, by simp⟩ ?_
    · simp only [SA, Nat.reduceAdd, reduceIte, Nat.reduceEqDiff, Nat.reduceBEq, reduceCtorEq, List.length_map]; rfl
    rintro ⟨j, m⟩ ⟨hj, hm0, hmi, hk⟩
    simp only at hj hm0 hmi hk
    simp only [List.zip_cons_cons, List.zip_nil_left]
    clear ha hlen hset
    rcases Nat.lt_or_ge j n.kids.length with h' | h'
    · obtain ⟨k, hkd, hkn', hkg⟩ := drop_at h'
      rw [hkd, kidsMax] at hk
      have hd2 : decide ((j : Int) < n.kids.length) = true := by simp only [decide_eq_true_eq]; omega
      obtain ⟨hk0, hki⟩ := hwk k (List.mem_of_getElem? hkn')
      have hkt : k.toNat < acc.length := by omega
      have ha := rowM_at acc (m + 1) l.length
      rw [hal] at ha
      have hb' := rowM_lt (m + 1) l.length hkt
      have hlen := rowM_len (m := m + 1) (show acc.length < l.length by omega)
      have hmx : max (m + 1) (1 + acc.getD k.toNat 0) = max m (acc.getD k.toNat 0) + 1 := by omega
      have hset := rowM_set acc (m + 1) (max (m + 1) (1 + acc.getD k.toNat 0)) l.length
      rw [hal, hmx] at hset
      have hgb := getD_bnd hb (by omega) k.toNat
      have wk : IntKind.i64.wrap (1 + acc.getD k.toNat 0) = 1 + acc.getD k.toNat 0 := IntWalk.i64_in _ (by omega)
      repeat' (first | exact True.intro | (refine PW.seqA (E := ?_) (M := ?_) ?_ ?_; rotate_left 2) | exact mergeQ_mk _ _ | (refine PW.seqK ?_; intro K hK) | refine stp ?_ | refine seqK_n ‹_› ?_ | refine seqK_r ‹_› ?_ | refine seqK_e ‹_› ?_ | exact schedW_stop_i | refine schK_n ‹_› ?_ | (refine PW.cond rfl ?_ ?_ <;> intro hcond <;> (try contradiction) <;> try simp only [DD] at hcond) | (refine gd_i ?_; intro hg; try simp only [hg]) | (refine ari ?_; first | omega | (simp only [DD, LL] <;> omega) | (go_unwrap; omega)) | ((first | refine stq ?_ | show (_ : Post) _ _ _ | (refine schedW_alt_k ?_ ?_; intro K hK)); focus (simp only [hd2, hgn, wk, hmx, (hkg (PV.int .i64)).1, List.length_map, ha, hb', hlen, hset, SA, Nat.reduceAdd, reduceIte, Nat.reduceEqDiff, Nat.reduceBEq, reduceCtorEq]; (try go_unwrap; try simp only [hd2, hgn, wk, hmx, (hkg (PV.int .i64)).1, List.length_map, ha, hb', hlen, hset, RR, reduceCtorEq]))) | refine And.intro ?_ ?_ | exact Or.inr ⟨rfl, Nat.le_refl _⟩ | exact (fun h => Bool.noConfusion h))
      all_goals exact ⟨(j + 1, max m (acc.getD k.toNat 0)), rfl, rfl, ⟨h', by simp only; omega, by simp only; omega, hk⟩, by simp only; omega⟩
    · have hd2 : decide ((j : Int) < n.kids.length) = false := by simp only [decide_eq_false_iff_not]; omega
      rw [List.drop_eq_nil_of_le h', kidsMax] at hk
      repeat' (first | exact True.intro | (refine PW.seqK ?_; intro K hK) | refine stp ?_ | refine seqK_n ‹_› ?_ | refine seqK_r ‹_› ?_ | refine seqK_e ‹_› ?_ | exact schedW_stop_i | refine schK_n ‹_› ?_ | (refine PW.cond rfl ?_ ?_ <;> intro hcond <;> (try contradiction) <;> try simp only [DD] at hcond) | (refine gd_i ?_; intro hg; try simp only [hg]) | (refine ari ?_; first | omega | (simp only [DD, LL] <;> omega) | (go_unwrap; omega)) | ((first | refine stq ?_ | show (_ : Post) _ _ _ | (refine schedW_alt_k ?_ ?_; intro K hK)); focus (simp only [hd2, hgn, List.length_map, SA, Nat.reduceAdd, reduceIte, Nat.reduceEqDiff, Nat.reduceBEq, reduceCtorEq]; (try go_unwrap; try simp only [hd2, hgn, List.length_map, RR, reduceCtorEq]))) | refine And.intro ?_ ?_ | exact Or.inr ⟨rfl, Nat.le_refl _⟩ | exact (fun h => Bool.noConfusion h))
      all_goals exact ⟨(i + 1, acc ++ [m + 1]), rfl, by simp only [rowM_V], ⟨h, by simp [hal], fun x hx => by
        rcases List.mem_append.1 hx with hx | hx
        · have := hb x hx; simp only; omega
        · simp at hx; subst hx; simp only; omega, hwf, by rw [hr, hk]⟩, by simp only; omega⟩
  · have hd' : decide ((i : Int) ≤ (l.length : Int) - 1) = false := by simp only [decide_eq_false_iff_not]; omega
    rw [List.drop_eq_nil_of_le h, depthsM] at hr
    have hlast : (rowV acc l.length)[l.length - 1]? = some (.int .i64 (acc.getD (l.length - 1) 0)) := rowV_lt _ (by omega)
    have hti : ((l.length : Int) - 1).toNat = l.length - 1 := by omega
    have hvl := rowV_len (acc := acc) (N := l.length) (by omega)
    repeat' (first | exact True.intro | (refine PW.seqK ?_; intro K hK) | refine stp ?_ | refine seqK_n ‹_› ?_ | refine seqK_r ‹_› ?_ | refine seqK_e ‹_› ?_ | exact schedW_stop_i | refine schK_n ‹_› ?_ | (refine PW.cond rfl ?_ ?_ <;> intro hcond <;> (try contradiction) <;> try simp only [DD] at hcond) | (refine gd_i ?_; intro hg; try simp only [hg]) | (refine ari ?_; first | omega | (simp only [DD, LL] <;> omega) | (go_unwrap; omega)) | ((first | refine stq ?_ | show (_ : Post) _ _ _ | (refine schedW_alt_k ?_ ?_; intro K hK)); focus (simp only [hd', hti, hlast, hvl, List.length_map, SA, Nat.reduceAdd, reduceIte, Nat.reduceEqDiff, Nat.reduceBEq, reduceCtorEq]; (try go_unwrap; try simp only [hd', hti, hlast, hvl, List.length_map, RR, reduceCtorEq]))) | refine And.intro ?_ ?_ | exact Or.inr ⟨rfl, Nat.le_refl _⟩ | exact (fun h => Bool.noConfusion h))
    all_goals first | exact .inl ⟨rfl, rfl⟩ | (rw [depthM, hr])
end Go.Proofs.YthekpjhffciakaaDoor

namespace PG
open Go
set_option linter.unusedSimpArgs false
set_option linter.unusedVariables false
section
variable {P : Program} {G : Globs} {N : Nat} {w : World} {κ : Kap} {env : Env} {μ : Mem} {mv : Nat → Bool} {Q : Post}
end
end PG

namespace Go.Proofs.YthekpjhffciakaaDoor
open Go PG Go.Proofs
set_option linter.unusedSimpArgs false
set_option linter.unusedVariables false
set_option maxHeartbeats 4000000
set_option maxRecDepth 100000
end Go.Proofs.YthekpjhffciakaaDoor

namespace Go.Proofs.YthekpjhffciakaaDoor
open Go PG Go.Proofs
set_option linter.unusedSimpArgs false
set_option linter.unusedVariables false
set_option maxHeartbeats 4000000
set_option maxRecDepth 100000
variable {G : Globs}
def dotB (b : UInt8) : Bool := digitB b || decide ((b.toNat : Int) = 46)
/-- What a number says: the number and the error. -/
def numOf (s : List UInt8) : Nat × Nat :=
  if s = [] then (0, 3) else if digitB (s.getD 0 0) = false then (0, 3) else
    match numL s with
    | .error (_, e) => if e = 2 ∧ runL dotB s = s.length ∧ Lib.countByte s 46 < 2 then (0, 2) else (0, 3)
    | .ok (n, v) => if n = s.length then (v, 0) else (0, 3)
end Go.Proofs.YthekpjhffciakaaDoor

namespace Go.Proofs.YthekpjhffciakaaDoor
open Go PG Go.Proofs
set_option linter.unusedSimpArgs false
set_option linter.unusedVariables false
set_option maxHeartbeats 4000000
set_option maxRecDepth 100000
variable {G : Globs}
end Go.Proofs.YthekpjhffciakaaDoor

namespace Go.Proofs.YthekpjhffciakaaDoor
open Go PG Go.Proofs
set_option linter.unusedSimpArgs false
set_option linter.unusedVariables false
set_option maxRecDepth 100000
end Go.Proofs.YthekpjhffciakaaDoor

namespace Go.Proofs.YthekpjhffciakaaDoor
open Go PG Go.Proofs
set_option linter.unusedSimpArgs false
set_option linter.unusedVariables false
set_option maxHeartbeats 4000000
set_option maxRecDepth 100000
theorem e85 : Ent Tryd.prog 85 := ⟨Tryd.f85, Tryd.func85, by kernel_rfl, by kernel_rfl⟩
abbrev nmQ (t : List UInt8) : Int := (numOf t).1
abbrev wE (d : List Tok) (n : Nat) : List Tok := d ++ [(0, [], n)]
def dtP (t : Tok) : PV := .agg [.int .i64 t.1, .str t.2.1, .int .i64 (if t.1 = 2 then nmQ t.2.1 else 0), .int .i64 t.2.2]
abbrev dtsP (d : List Tok) : PV := .list (some 4) (d.map dtP)
def badP (d : List Tok) (n : Nat) (s : PS) : Int := if s.e = 0 then 0 else (tkAt (wE d n) s.at_).2.2
def rqP (d : List Tok) (n : Nat) (s : PS) : MObj := .var (some 6) (.agg [dtsP d, .int .i64 s.at_, .int .i64 n, .sl (some 4) 1 s.out.length, .int .i64 s.e, .int .i64 (badP d n s)])
def RqC (d : List Tok) (n : Nat) (f : Nat) (as_ : List PV) (ν : Mem) (s : PS) (r : Int × PS) : Prop :=
  PCalls Tryd.prog G0 f as_ (some (rqP d n s) :: some (rowO s) :: ν) (killTag 1) (fun p μ' => p = .int .i64 r.1 ∧ μ' = some (rqP d n r.2) :: some (rowO r.2) :: ν)
theorem RqC.frame {d : List Tok} {n : Nat} {f : Nat} {as_ : List PV} {s : PS} {r : Int × PS} (h : RqC d n f as_ [] s r) (ν : Mem) (hν : ν.map (Option.map (MObj.kill (killTag 1))) = ν) (ha : as_.map (PV.kill fun t => decide (2 ≤ t)) = as_) : RqC d n f as_ ν s r := by
  have := PCalls.frame h ν (by rintro p μ' ⟨-, rfl⟩; rfl) ha (by simp [rqP, rowO, MObj.kill, PV.kill]) hν
  intro w κ vs hS hG hr
  refine (this w κ vs hS hG hr).mono ?_
  rintro e w' ⟨v, p, μ', κ', rfl, ⟨μ1, ⟨rfl, rfl⟩, rfl⟩, hS', hv, hg⟩
  exact ⟨v, _, _, κ', rfl, ⟨rfl, rfl⟩, hS', hv, hg⟩
theorem r1 (a b c d e f : PV) (k : IntKind) (v : Int) : putPart (some 6) none (.agg [a, b, c, d, e, f]) 1 (.int k v) = .agg [a, .int k v, c, d, e, f] := rfl
end Go.Proofs.YthekpjhffciakaaDoor

namespace Go.Proofs.YthekpjhffciakaaDoor
open Go PG Go.Proofs
set_option linter.unusedSimpArgs false
set_option linter.unusedVariables false
set_option maxHeartbeats 4000000
set_option maxRecDepth 100000
end Go.Proofs.YthekpjhffciakaaDoor

namespace Go.Proofs.YthekpjhffciakaaDoor
open Go PG Go.Proofs
set_option linter.unusedSimpArgs false
set_option linter.unusedVariables false
set_option maxHeartbeats 4000000
set_option maxRecDepth 100000
end Go.Proofs.YthekpjhffciakaaDoor

namespace Go.Proofs.YthekpjhffciakaaDoor
open PG Go.Proofs
-- wagebook/wagebookref13.Check
def L54 : List Nat := [0, 1, 4, 5, 6, 7, 8, 9, 10, 13, 16, 23, 33, 40, 45, 65, 92, 112, 117, 124, 130]
def c54 : CF := ⟨131,
 .seq (.region false [⟨some 4, none, .rd .mov [.pv (.int .i64 0)]⟩] L54)
 (.seq (.seq (.region false [oM 11 0,
 ⟨some 12, none, .rd .lenL [.tmp 11]⟩,
 ⟨some 13, none, .rd (.bin .eql) [.tmp 12, .pv (.int .i64 0)]⟩] L54)
 (.cond (.tmp 13)
 (.seq (.region false [⟨some 4, none, .rd .mov [.pv (.int .i64 10)]⟩] L54)
 (.ret))
 (.skip)))
 (.seq (.seq (.region false [oM 14 0,
 ⟨some 15, none, .rd .lenL [.tmp 14]⟩,
 ⟨some 16, none, .rd (.bin .gtr) [.tmp 15, .pv (.int .i64 256)]⟩] L54)
 (.cond (.tmp 16)
 (.seq (.region false [⟨some 4, none, .rd .mov [.pv (.int .i64 5)]⟩] L54)
 (.ret))
 (.skip)))
 (.seq (.region false [oM 17 0,
 ⟨some 18, none, .rd .lenL [.tmp 17]⟩,
 ⟨some 19, none, .eff (.make none (.bool false) 1) [.tmp 18, .tmp 18]⟩,
 oM 5 19] L54)
 (.seq (.seq (.region false [⟨some 6, none, .rd .mov [.pv (.int .i64 0)]⟩] L54)
 (.block 0
 (.loop
 (.seq (.seq (.region false [oM 20 6,
 oM 21 0,
 ⟨some 22, none, .rd .lenL [.tmp 21]⟩,
 ⟨some 23, none, .rd (.bin .lss) [.tmp 20, .tmp 22]⟩] L54)
 (.cond (.tmp 23)
 (.skip)
 (.exit 0)))
 (.seq (.block 1
 (.seq (.region false [oM 26 0,
 oM 27 6,
 ⟨some 28, none, .rd (.idxAddr (some 4)) [.tmp 26, .tmp 27]⟩,
 ⟨some 29, none, .rd (.load (some 4)) [.tmp 28]⟩,
 ⟨some 7, none, .eff (.alloc (some 4) (.agg [(.int .i64 0), (.int .i64 0), (.str []), .nilSl])) []⟩,
 ⟨none, none, .eff (.store (some 4)) [.tmp 7, .tmp 29]⟩] L54)
 (.seq (.seq (.region false [oF 0 30 7,
 oL 31 30,
 ⟨some 32, none, .call (.pv (.fn 85 [] [])) [.tmp 31]⟩,
 ⟨some 33, none, .rd (.bin .lss) [.tmp 32, .pv (.int .i64 0)]⟩] L54)
 (.cond (.tmp 33)
 (.seq (.region false [⟨some 4, none, .rd .mov [.pv (.int .i64 11)]⟩] L54)
 (.ret))
 (.skip)))
 (.seq (.seq (.region true [oF 3 34 7,
 oL 35 34,
 ⟨some 36, none, .rd .lenL [.tmp 35]⟩,
 oF 0 37 7,
 oL 38 37,
 ⟨some 39, none, .call (.pv (.fn 85 [] [])) [.tmp 38]⟩,
 ⟨some 40, none, .rd (.bin .neq) [.tmp 36, .tmp 39]⟩] L54)
 (.cond (.tmp 40)
 (.seq (.region false [⟨some 4, none, .rd .mov [.pv (.int .i64 3)]⟩] L54)
 (.ret))
 (.skip)))
 (.seq (.seq (.region false [⟨some 8, none, .rd .mov [.pv (.int .i64 0)]⟩] L54)
 (.block 2
 (.loop
 (.seq (.seq (.region false [oM 41 8,
 oF 3 42 7,
 oL 43 42,
 ⟨some 44, none, .rd .lenL [.tmp 43]⟩,
 ⟨some 45, none, .rd (.bin .lss) [.tmp 41, .tmp 44]⟩] L54)
 (.cond (.tmp 45)
 (.skip)
 (.exit 2)))
 (.seq (.block 3
 (.seq (.region false [oF 3 48 7,
 oL 49 48,
 oM 50 8,
 ⟨some 51, none, .rd (.idxAddr none) [.tmp 49, .tmp 50]⟩,
 oL 52 51,
 oM 9 52] L54)
 (.seq (.seq (.region false [oM 53 9,
 ⟨some 54, none, .rd (.bin .lss) [.tmp 53, .pv (.int .i64 0)]⟩,
 oM 55 54,
 qM 55 false 56 9,
 qM 55 false 57 6,
 ⟨some 58, some (55, false), .rd (.bin .geq) [.tmp 56, .tmp 57]⟩,
 ⟨some 59, none, .rd .pick [.tmp 55, .pv (.bool true), .tmp 58]⟩,
 oM 60 59,
 qM 60 false 61 5,
 qM 60 false 62 9,
 ⟨some 63, some (60, false), .rd (.idxAddr none) [.tmp 61, .tmp 62]⟩,
 qL 60 false 64 63,
 ⟨some 65, none, .rd .pick [.tmp 60, .pv (.bool true), .tmp 64]⟩] L54)
 (.cond (.tmp 65)
 (.seq (.region false [⟨some 4, none, .rd .mov [.pv (.int .i64 8)]⟩] L54)
 (.ret))
 (.skip)))
 (.region false [oM 66 5,
 oM 67 9,
 ⟨some 68, none, .rd (.idxAddr none) [.tmp 66, .tmp 67]⟩,
 ⟨none, none, .eff (.store none) [.tmp 68, .pv (.bool true)]⟩] L54))))
 (.region false [oM 46 8,
 ⟨some 47, none, .rd (.bin .add) [.tmp 46, .pv (.int .i64 1)]⟩,
 oM 8 47] L54))))))
 (.seq (.seq (.region false [oF 1 69 7,
 oL 70 69,
 ⟨some 71, none, .rd (.bin .lss) [.tmp 70, .pv (.int .i64 0)]⟩,
 oM 72 71,
 qF 1 72 false 73 7,
 qL 72 false 74 73,
 ⟨some 75, some (72, false), .rd (.bin .gtr) [.tmp 74, .pv (.int .i64 1000000000000000000)]⟩,
 ⟨some 76, none, .rd .pick [.tmp 72, .pv (.bool true), .tmp 75]⟩,
 oM 77 76,
 qF 1 77 false 78 7,
 qL 77 false 79 78,
 ⟨some 80, some (77, false), .rd (.bin .rem) [.tmp 79, .pv (.int .i64 100)]⟩,
 ⟨some 81, some (77, false), .rd (.bin .neq) [.tmp 80, .pv (.int .i64 0)]⟩,
 ⟨some 82, none, .rd .pick [.tmp 77, .pv (.bool true), .tmp 81]⟩,
 oM 83 82,
 qF 0 83 false 84 7,
 qL 83 false 85 84,
 ⟨some 86, some (83, false), .rd (.bin .neq) [.tmp 85, .pv (.int .i64 0)]⟩,
 qM 83 false 87 86,
 qF 1 87 true 88 7,
 qL 87 true 89 88,
 ⟨some 90, some (87, true), .rd (.bin .neq) [.tmp 89, .pv (.int .i64 0)]⟩,
 ⟨some 91, some (83, false), .rd .pick [.tmp 87, .tmp 90, .pv (.bool false)]⟩,
 ⟨some 92, none, .rd .pick [.tmp 83, .pv (.bool true), .tmp 91]⟩] L54)
 (.cond (.tmp 92)
 (.seq (.region false [⟨some 4, none, .rd .mov [.pv (.int .i64 2)]⟩] L54)
 (.ret))
 (.skip)))
 (.seq (.region false [oF 0 93 7,
 oL 94 93,
 ⟨some 95, none, .rd (.bin .eql) [.tmp 94, .pv (.int .i64 1)]⟩,
 oM 96 95,
 qM 96 true 97 1,
 qM 96 true 98 6,
 ⟨some 99, some (96, true), .rd (.idxAddr none) [.tmp 97, .tmp 98]⟩,
 qL 96 true 100 99,
 ⟨some 101, some (96, true), .rd (.un .not) [.tmp 100]⟩,
 ⟨some 102, none, .rd .pick [.tmp 96, .tmp 101, .pv (.bool false)]⟩,
 oM 103 102,
 qF 0 103 false 104 7,
 qL 103 false 105 104,
 ⟨some 106, some (103, false), .rd (.bin .neq) [.tmp 105, .pv (.int .i64 1)]⟩,
 qM 103 false 107 106,
 qF 2 107 true 108 7,
 qL 107 true 109 108,
 ⟨some 110, some (107, true), .rd (.bin .neq) [.tmp 109, .pv (.str [])]⟩,
 ⟨some 111, some (103, false), .rd .pick [.tmp 107, .tmp 110, .pv (.bool false)]⟩,
 ⟨some 112, none, .rd .pick [.tmp 103, .pv (.bool true), .tmp 111]⟩] L54)
 (.cond (.tmp 112)
 (.seq (.region false [⟨some 4, none, .rd .mov [.pv (.int .i64 12)]⟩] L54)
 (.ret))
 (.skip)))))))))
 (.region false [oM 24 6,
 ⟨some 25, none, .rd (.bin .add) [.tmp 24, .pv (.int .i64 1)]⟩,
 oM 6 25] L54))))))
 (.seq (.seq (.region false [⟨some 10, none, .rd .mov [.pv (.int .i64 0)]⟩] L54)
 (.block 4
 (.loop
 (.seq (.seq (.region false [oM 113 10,
 oM 114 0,
 ⟨some 115, none, .rd .lenL [.tmp 114]⟩,
 ⟨some 116, none, .rd (.bin .sub) [.tmp 115, .pv (.int .i64 1)]⟩,
 ⟨some 117, none, .rd (.bin .lss) [.tmp 113, .tmp 116]⟩] L54)
 (.cond (.tmp 117)
 (.skip)
 (.exit 4)))
 (.seq (.block 5
 (.seq (.region false [oM 120 5,
 oM 121 10,
 ⟨some 122, none, .rd (.idxAddr none) [.tmp 120, .tmp 121]⟩,
 oL 123 122,
 ⟨some 124, none, .rd (.un .not) [.tmp 123]⟩] L54)
 (.cond (.tmp 124)
 (.seq (.region false [⟨some 4, none, .rd .mov [.pv (.int .i64 3)]⟩] L54)
 (.ret))
 (.skip))))
 (.region false [oM 118 10,
 ⟨some 119, none, .rd (.bin .add) [.tmp 118, .pv (.int .i64 1)]⟩,
 oM 10 119] L54))))))
 (.seq (.seq (.region false [oM 125 0,
 oM 126 0,
 ⟨some 127, none, .rd .lenL [.tmp 126]⟩,
 ⟨some 128, none, .rd (.bin .sub) [.tmp 127, .pv (.int .i64 1)]⟩,
 ⟨some 129, none, .call (.pv (.fn 52 [] [])) [.tmp 125, .tmp 128]⟩,
 ⟨some 130, none, .rd (.bin .gtr) [.tmp 129, .pv (.int .i64 16)]⟩] L54)
 (.cond (.tmp 130)
 (.seq (.region false [⟨some 4, none, .rd .mov [.pv (.int .i64 14)]⟩] L54)
 (.ret))
 (.skip)))
 (.seq (.region false [⟨some 4, none, .rd .mov [.pv (.int .i64 0)]⟩] L54)
 (.ret)))))))),
 [.tmp 4]⟩

-- wagebook/wagebookref13.Vars
def L37 : List Nat := [0, 2, 3, 4, 5, 6, 10, 50, 57]
def c37 : CF := ⟨63,
 .seq (.region false [⟨some 2, none, .rd .mov [.pv .nilSl]⟩] L37)
 (.seq (.region false [⟨some 3, none, .rd .mov [.pv .nilSl]⟩] L37)
 (.block 0
 (.loop
 (.block 1
 (.seq (.region false [⟨some 4, none, .rd .mov [.pv (.str [])]⟩,
 ⟨some 5, none, .rd .mov [.pv (.bool false)]⟩] L37)
 (.seq (.seq (.region false [⟨some 6, none, .rd .mov [.pv (.int .i64 0)]⟩] L37)
 (.block 2
 (.loop
 (.seq (.seq (.region false [oM 7 6,
 oM 8 0,
 ⟨some 9, none, .rd .lenL [.tmp 8]⟩,
 ⟨some 10, none, .rd (.bin .lss) [.tmp 7, .tmp 9]⟩] L37)
 (.cond (.tmp 10)
 (.skip)
 (.exit 2)))
 (.seq (.block 3
 (.seq (.region true [oM 13 0,
 oM 14 6,
 ⟨some 15, none, .rd (.idxAddr (some 4)) [.tmp 13, .tmp 14]⟩,
 oF 0 16 15,
 oL 17 16,
 ⟨some 18, none, .rd (.bin .eql) [.tmp 17, .pv (.int .i64 1)]⟩,
 oM 19 18,
 qM 19 true 20 3,
 ⟨some 21, some (19, true), .rd .lenL [.tmp 20]⟩,
 ⟨some 22, some (19, true), .rd (.bin .eql) [.tmp 21, .pv (.int .i64 0)]⟩,
 qM 19 true 23 22,
 qM 23 false 24 0,
 qM 23 false 25 6,
 ⟨some 26, some (23, false), .rd (.idxAddr (some 4)) [.tmp 24, .tmp 25]⟩,
 qF 2 23 false 27 26,
 qL 23 false 28 27,
 qM 23 false 29 3,
 qM 23 false 30 3,
 ⟨some 31, some (23, false), .rd .lenL [.tmp 30]⟩,
 ⟨some 32, some (23, false), .rd (.bin .sub) [.tmp 31, .pv (.int .i64 1)]⟩,
 ⟨some 33, some (23, false), .rd (.idxAddr none) [.tmp 29, .tmp 32]⟩,
 qL 23 false 34 33,
 ⟨some 35, some (23, false), .rd (.bin .gtr) [.tmp 28, .tmp 34]⟩,
 ⟨some 36, some (19, true), .rd .pick [.tmp 23, .pv (.bool true), .tmp 35]⟩,
 ⟨some 37, none, .rd .pick [.tmp 19, .tmp 36, .pv (.bool false)]⟩,
 oM 38 37,
 qM 38 true 39 5,
 ⟨some 40, some (38, true), .rd (.un .not) [.tmp 39]⟩,
 qM 38 true 41 40,
 qM 41 false 42 0,
 qM 41 false 43 6,
 ⟨some 44, some (41, false), .rd (.idxAddr (some 4)) [.tmp 42, .tmp 43]⟩,
 qF 2 41 false 45 44,
 qL 41 false 46 45,
 qM 41 false 47 4,
 ⟨some 48, some (41, false), .rd (.bin .lss) [.tmp 46, .tmp 47]⟩,
 ⟨some 49, some (38, true), .rd .pick [.tmp 41, .pv (.bool true), .tmp 48]⟩,
 ⟨some 50, none, .rd .pick [.tmp 38, .tmp 49, .pv (.bool false)]⟩] L37)
 (.cond (.tmp 50)
 (.region false [oM 51 0,
 oM 52 6,
 ⟨some 53, none, .rd (.idxAddr (some 4)) [.tmp 51, .tmp 52]⟩,
 oF 2 54 53,
 oL 55 54,
 oM 4 55,
 ⟨some 5, none, .rd .mov [.pv (.bool true)]⟩] L37)
 (.skip))))
 (.region false [oM 11 6,
 ⟨some 12, none, .rd (.bin .add) [.tmp 11, .pv (.int .i64 1)]⟩,
 oM 6 12] L37))))))
 (.seq (.seq (.region false [oM 56 5,
 ⟨some 57, none, .rd (.un .not) [.tmp 56]⟩] L37)
 (.cond (.tmp 57)
 (.seq (.region false [oM 58 3,
 oM 2 58] L37)
 (.ret))
 (.skip)))
 (.region false [oM 59 3,
 oM 60 4,
 ⟨some 61, none, .eff (.lit none false) [.tmp 60]⟩,
 ⟨some 62, none, .eff (.append none 16) [.tmp 59, .tmp 61]⟩,
 oM 3 62] L37)))))))),
 [.tmp 2]⟩
theorem k54 : compileF Tryd.prog [] L54 Tryd.f54 = some c54 := by kernel_rfl
end Go.Proofs.YthekpjhffciakaaDoor

