import Derived.Test.YthekpjhffciakaaDoorProg
import Derived.KernelRfl
import Derived.Test.YthekpjhffciakaaDoorQ10
import Derived.Test.YthekpjhffciakaaDoorP4
namespace Go.Proofs.YthekpjhffciakaaDoor
open Go PG Go.Proofs
set_option linter.unusedSimpArgs false
set_option linter.unusedVariables false
set_option maxHeartbeats 4000000
set_option maxRecDepth 100000
/-! The program's text of a tree -/
theorem e55 : Ent Tryd.prog 55 := ⟨Tryd.f55, Tryd.func55, by kernel_rfl, by kernel_rfl⟩
def wordsL : List (List UInt8) := [[], [], [43], [45], [42], [108, 101, 97, 115, 116], [109, 111, 115, 116], [105, 102], [108, 101, 115, 115], [101, 113, 117, 97, 108]]
def wordM (op : Int) : List UInt8 := wordsL.getD op.toNat []
def joinL (f : Int → List UInt8) : List Int → Nat → List UInt8 → List UInt8
  | [], _, s => s
  | k :: ks, i, s => joinL f ks (i + 1) ((if 0 < i then s ++ [44] else s) ++ f k)
def textM (l : List Nd) : Nat → Int → Int → List UInt8
  | 0, _, _ => []
  | k + 1, i, least =>
    if (l.getD i.toNat default).op = 0 then numT (l.getD i.toNat default).num.toNat
    else if (l.getD i.toNat default).op = 1 then (l.getD i.toNat default).name
    else if strongM (l.getD i.toNat default).op = 3 then joinL (fun c => textM l k c 0) (l.getD i.toNat default).kids 0 (wordM (l.getD i.toNat default).op ++ [40]) ++ [41]
    else if strongM (l.getD i.toNat default).op < least then ([40] ++ ((textM l k ((l.getD i.toNat default).kids.getD 0 0) (strongM (l.getD i.toNat default).op) ++ wordM (l.getD i.toNat default).op) ++ textM l k ((l.getD i.toNat default).kids.getD 1 0) (strongM (l.getD i.toNat default).op + 1))) ++ [41]
    else (textM l k ((l.getD i.toNat default).kids.getD 0 0) (strongM (l.getD i.toNat default).op) ++ wordM (l.getD i.toNat default).op) ++ textM l k ((l.getD i.toNat default).kids.getD 1 0) (strongM (l.getD i.toNat default).op + 1)
/-- A node that is right by itself. -/
structure NdOk (n : Nd) : Prop where
  op0 : 0 ≤ n.op
  op9 : n.op ≤ 9
  num : n.op = 0 → 0 ≤ n.num ∧ n.num ≤ 1000000000000000000
  name : n.name.length ≤ 100
  kids : n.kids.length ≤ 3
  two : 2 ≤ n.op → n.op ≤ 4 → n.kids.length = 2
/-- A node whose tree is no deeper than told. -/
def fitsD (l : List Nd) : Nat → Int → Prop
  | 0, _ => False
  | k + 1, i => 0 ≤ i ∧ i.toNat < l.length ∧ NdOk (l.getD i.toNat default) ∧ ∀ c ∈ (l.getD i.toNat default).kids, fitsD l k c
theorem word_le (op : Int) : (wordM op).length ≤ 5 := by
  unfold wordM
  rw [List.getD_eq_getElem?_getD]
  cases h : wordsL[op.toNat]? with
  | none => simp
  | some w =>
    have : ∀ w ∈ wordsL, w.length ≤ 5 := by decide
    exact this w (List.mem_of_getElem? h)
theorem strip_le (l : List UInt8) : (stripZ l).length ≤ l.length := by
  unfold stripZ
  rw [List.length_reverse]
  exact Nat.le_trans (List.dropWhile_suffix _).length_le (by simp)
theorem numT_le {n : Nat} (h : n ≤ 1000000000000000000) : (numT n).length ≤ 30 := by
  have hl1 := digT_len 18 (n / 1000000) (by have : (10 : Nat) ^ 19 = 10000000000000000000 := rfl; omega)
  unfold numT
  split
  · omega
  · have h5 := dig5 (n % 1000000 / 100) (by omega)
    have := strip_le ((digT (10000 + n % 1000000 / 100)).drop 1)
    have hd : ((digT (10000 + n % 1000000 / 100)).drop 1).length = 4 := by rw [h5]; rfl
    simp only [List.length_append, List.length_cons, List.length_nil]
    omega
theorem join_le {f : Int → List UInt8} {B : Nat} : ∀ (ks : List Int) (i : Nat) (s : List UInt8), (∀ c ∈ ks, (f c).length ≤ B) → (joinL f ks i s).length ≤ s.length + ks.length * (B + 1)
  | [], _, s, _ => by simp [joinL]
  | k :: ks, i, s, h => by
    have h1 := h k (by simp)
    have h2 := join_le ks (i + 1) ((if 0 < i then s ++ [44] else s) ++ f k) (fun c hc => h c (by simp [hc]))
    have h3 : ((if 0 < i then s ++ [44] else s) ++ f k).length ≤ s.length + 1 + B := by
      split <;> simp <;> omega
    simp only [joinL, List.length_cons, Nat.add_mul, Nat.one_mul] at h2 ⊢
    omega
theorem text_le (l : List Nd) : ∀ (k : Nat) (i least : Int), fitsD l k i → (textM l k i least).length ≤ 100 * 4 ^ k
  | 0, i, least, h => h.elim
  | k + 1, i, least, h => by
    obtain ⟨h1, h2, h3, h4⟩ := h
    have hp : 0 < 4 ^ k := Nat.pow_pos (by omega)
    have hpp : 4 ^ (k + 1) = 4 * 4 ^ k := by rw [Nat.pow_succ]; omega
    rw [hpp]
    unfold textM
    generalize l.getD i.toNat default = n at *
    have hw := word_le n.op
    split
    · rename_i h0
      have := numT_le (n := n.num.toNat) (by have := h3.num h0; omega)
      omega
    · split
      · have := h3.name; omega
      · have hkl := h3.kids
        split
        · have := join_le (f := fun c => textM l k c 0) (B := 100 * 4 ^ k) n.kids 0 (wordM n.op ++ [40]) (fun c hc => text_le l k c 0 (h4 c hc))
          simp only [List.length_append, List.length_cons, List.length_nil] at this ⊢
          have h5 : n.kids.length * (100 * 4 ^ k + 1) ≤ 3 * (100 * 4 ^ k + 1) := Nat.mul_le_mul_right _ hkl
          omega
        · rename_i hs
          have h24 : 2 ≤ n.op ∧ n.op ≤ 4 := by
            have := h3.op0; have := h3.op9
            unfold strongM at hs
            by_cases a : n.op = 2 ∨ n.op = 3
            · omega
            · rw [if_neg a] at hs
              by_cases b : n.op = 4
              · omega
              · rw [if_neg b] at hs; exact absurd rfl hs
          have hk2 := h3.two h24.1 h24.2
          obtain ⟨a, b, hab⟩ : ∃ a b, n.kids = [a, b] := by
            match n.kids, hk2 with
            | [a, b], _ => exact ⟨a, b, rfl⟩
          rw [hab] at h4 ⊢
          have ha := fun z => text_le l k a z (h4 a (by simp))
          have hb := fun z => text_le l k b z (h4 b (by simp))
          have ha := ha (strongM n.op)
          have hb := hb (strongM n.op + 1)
          simp only [List.getD_cons_zero, List.getD_cons_succ]
          split <;> simp only [List.length_append, List.length_cons, List.length_nil] <;> omega
end Go.Proofs.YthekpjhffciakaaDoor

namespace Go.Proofs.YthekpjhffciakaaDoor
open Go PG Go.Proofs
set_option linter.unusedSimpArgs false
set_option linter.unusedVariables false
set_option maxHeartbeats 4000000
set_option maxRecDepth 100000
theorem gW2 : G0 0 = some (some 10, wordsP) := rfl
abbrev trO (l : List Nd) : MObj := .var (some 1) (.agg [.list (some 4) (l.map ndP)])
abbrev txO : MObj := .var none (.fn 55 [] [.ref 0 0, .ref 1 0])
/-- A text, as a contract: the tree and the closure stay as they are. -/
def TxC (l : List Nd) (i least : Int) (ν : Mem) (r : List UInt8) : Prop :=
  PCalls Tryd.prog G0 55 [.int .i64 i, .int .i64 least, .ref 0 0, .ref 1 0] (some (trO l) :: some txO :: ν) (fun _ => false) (fun p μ' => p = .str r ∧ μ' = some (trO l) :: some txO :: ν)
theorem TxC.frame {l : List Nd} {i least : Int} {r : List UInt8} (h : TxC l i least [] r) (ν : Mem) (hν : ν.map (Option.map (MObj.kill fun _ => false)) = ν) : TxC l i least ν r := by
  have := PCalls.frame h ν (by rintro p μ' ⟨-, rfl⟩; rfl) (by simp [PV.kill]) (by simp [MObj.kill, PV.kill]) hν
  intro w κ vs hS hG hr
  refine (this w κ vs hS hG hr).mono ?_
  rintro e w' ⟨v, p, μ', κ', rfl, ⟨μ1, ⟨rfl, rfl⟩, rfl⟩, hS', hv, hg⟩
  exact ⟨v, _, _, κ', rfl, ⟨rfl, rfl⟩, hS', hv, hg⟩
theorem word_at (j : Nat) (h : j ≤ 9) : cut (some 10) none wordsP (0 + j * 1) = .str (wordM j) := by
  have : j = 0 ∨ j = 1 ∨ j = 2 ∨ j = 3 ∨ j = 4 ∨ j = 5 ∨ j = 6 ∨ j = 7 ∨ j = 8 ∨ j = 9 := by omega
  rcases this with rfl | rfl | rfl | rfl | rfl | rfl | rfl | rfl | rfl | rfl <;> rfl
theorem v55 (l : List Nd) (hl : l.length ≤ 256) : ∀ (k : Nat), k ≤ 16 → ∀ (i least : Int), fitsD l k i → TxC l i least [] (textM l k i least)
  | 0, _, i, least, h => h.elim
  | k + 1, hk16, i, least, h => by
    have ih : ∀ i least, fitsD l k i → TxC l i least [] (textM l k i least) := fun i least h => v55 l hl k (by omega) i least h
    have hle := text_le l k
    have hB : 100 * 4 ^ k ≤ 429496729600 := by
      have : 4 ^ k ≤ 4 ^ 16 := Nat.pow_le_pow_right (by omega) (by omega)
      have e : (4 : Nat) ^ 16 = 4294967296 := rfl
      omega
    generalize 100 * 4 ^ k = B at hle hB
    obtain ⟨h1, h2, h3, h4⟩ := h
    refine PCalls.moves (mv := fun t => decide (2 ≤ t)) (fun t ht h => ?_) ?_
    · simp only [List.length_cons, List.length_nil] at ht
      simp only [decide_eq_true_eq] at h; omega
    refine PCalls.of_PW Tryd.func55 k55d mix (by simp [c55d]) ?_
    simp only [c55d, L55d, CC, argE, trO, txO]
    obtain ⟨i, rfl⟩ : ∃ m : Nat, i = m := ⟨i.toNat, by omega⟩
    have hit : ((i : Int)).toNat = i := by omega
    rw [hit] at h2 h3 h4
    have hll : ((l.map ndP).length : Nat) = l.length := by simp
    have hgn : (l.map ndP).getD i .junk = .agg [.int .i64 (l.getD i default).op, .int .i64 (l.getD i default).num, .str (l.getD i default).name, .list none ((l.getD i default).kids.map (PV.int .i64))] := by simp [List.getD, h2, ndP, ndC, kidsP]
    unfold textM
    rw [hit]
    generalize l.getD i default = n at *
    obtain ⟨n0, n9, nnum, nname, nkids, ntwo⟩ := h3
    obtain ⟨op, hop⟩ : ∃ m : Nat, n.op = m := ⟨n.op.toNat, by omega⟩
    rw [hop] at n0 n9 nnum ntwo ⊢
    rw [hop] at hgn
    have hsc : ∀ (a b : Int) (t : List UInt8) (ks : List PV), ∀ x ∈ [PV.int IntKind.i64 a, PV.int IntKind.i64 b, PV.str t, PV.list none ks], x.scalar = true := by
      intro a b t ks x hc; simp at hc; rcases hc with rfl | rfl | rfl | rfl <;> rfl
    have hwa := word_at op (by omega)
    have hwl := word_le op
    have h56 := v56 (G := G0) op
    have hot : ((op : Int)).toNat = op := by omega
    have hkl : ((n.kids.map (PV.int .i64)).length : Nat) = n.kids.length := by simp
    have bw : 0 + op * 1 + 1 ≤ wordsP.cells.length := by
      have : wordsP.cells.length = 10 := rfl
      omega
    repeat' (first | exact True.intro | exact hsc _ _ _ _ | exact (rfl : (some 4 : Sh) = some 4) | (exact Or.inr ⟨rfl, by decide⟩) | (refine PW.stop (x := .seq (.region false (⟨some 17, none, .rd (.fldAddr 0) [.tmp 7]⟩ :: _) _) _) ?_) | (refine PW.seqK ?_; intro K hK) | refine pwB ?_ | refine pwS ?_ | refine pwL ?_ | refine pwE ?_ | refine pwR ?_ | refine pwK ?_ | refine seqK_n ‹_› ?_ | refine seqK_r ‹_› ?_ | refine seqK_e ‹_› ?_ | refine PW.regionA ?_ | exact schedW_stop_i | refine schK_n ‹_› ?_ | (refine schedW_alt_k ?_ ?_; focus (intro K hK; simp only [hll, hgn, SA, Nat.reduceAdd, reduceIte, Nat.reduceEqDiff, Nat.reduceBEq, reduceCtorEq]; (try go_unwrap; try simp only [hll, hgn, RR, reduceCtorEq]))) | (refine PW.cond rfl ?_ ?_ <;> intro hcond <;> (try contradiction) <;> try simp only [DD] at hcond) | (refine gd_i ?_; intro hg; try simp only [hg]) | ((first | show (_ : Nat) ≤ _ | show (_ : Nat) < _ | show (_ : Int) ≤ _ | show (_ : Int) < _ | show (_ : Nat) = _ | show (_ : Int) = _ | show (_ : Bool) = _ | show _ ∨ _ | show ¬ _); first | omega | (simp only [DD, LL] <;> omega) | (go_unwrap; omega)) | ((first | refine PW.region ?_ | refine PW.regionQ ?_ | refine schedW_done_i ?_ | show (_ : Post) _ _ _ | show @Eq (List PV) _ _ | show @Eq Bool _ _ | show opsW _ _ _ _ _ _ _ _ | show okAll _ | show @Eq Bool _ _ ∨ _); focus (simp only [hll, hgn, SA, Nat.reduceAdd, reduceIte, Nat.reduceEqDiff, Nat.reduceBEq, reduceCtorEq]; (try go_unwrap; try simp only [hll, hgn, RR, reduceCtorEq]))) | refine And.intro ?_ ?_ | exact Or.inr ⟨rfl, Nat.le_refl _⟩ | exact (fun h => Bool.noConfusion h))
    refine ⟨?_⟩
    refine PW.frzV 7 2 (some 4) _ rfl rfl ⟨_, rfl, rfl, hsc _ _ _ _⟩ (by intro c hc; simp only [PV.cells, List.mem_cons, List.not_mem_nil, or_false] at hc; rcases hc with rfl | rfl | rfl | rfl <;> simp [PV.noOwn]) rfl ?_
    simp only [frzE, frzMem, List.map_cons, List.map_nil, PV.frz, MObj.frz, frzM, frzSl, SA, Nat.reduceAdd, reduceIte, Nat.reduceEqDiff, Nat.reduceBEq, reduceCtorEq]
    refine PW.trim 2 (fun t h => by simp [h]) ?_
    simp only [trimE, trimM, List.take_succ_cons, List.take_zero, List.map_cons, List.map_nil, Option.map_some, Option.map_none, MObj.kill, PV.kill, Nat.reduceLeDiff, decide_true, decide_false, dec_true, dec_false, Bool.false_eq_true, if_false, if_true, reduceIte]
    by_cases o0 : op = 0
    · subst o0
      obtain ⟨m1, m2⟩ := nnum rfl
      have h57 := v57 (G := G0) n.num.toNat (by omega)
      have hnn : ((n.num.toNat : Nat) : Int) = n.num := by omega
      rw [hnn] at h57
      repeat' (first | exact True.intro | (exact Or.inr bw) | (exact Or.inr (by decide)) | (refine PW.seqK ?_; intro K hK) | refine pwB ?_ | refine pwS ?_ | refine pwL ?_ | refine pwE ?_ | refine pwR ?_ | refine pwK ?_ | refine seqK_n ‹_› ?_ | refine seqK_r ‹_› ?_ | refine seqK_e ‹_› ?_ | refine PW.regionA ?_ | exact schedW_stop_i | refine schK_n ‹_› ?_ | (refine schedW_alt_k ?_ ?_; focus (intro K hK; simp only [gW2, evalO, hot, hwa, SA, Nat.reduceAdd, reduceIte, Nat.reduceEqDiff, Nat.reduceBEq, reduceCtorEq]; (try go_unwrap; try simp only [gW2, evalO, hot, hwa, RR, reduceCtorEq]))) | (refine PW.cond rfl ?_ ?_ <;> intro hcond <;> (try contradiction) <;> try simp only [DD] at hcond) | (refine gd_i ?_; intro hg; try simp only [hg]) | refine goCall_W e56 (h56) ?_ ?_ ?_ ?_ | refine goCall_W e57 (h57) ?_ ?_ ?_ ?_ | ((first | show (_ : Nat) ≤ _ | show (_ : Nat) < _ | show (_ : Int) ≤ _ | show (_ : Int) < _ | show (_ : Nat) = _ | show (_ : Int) = _ | show (_ : Bool) = _ | show _ ∨ _ | show ¬ _); first | omega | (simp only [DD, LL] <;> omega) | (go_unwrap; omega)) | ((first | refine PW.region ?_ | refine PW.regionQ ?_ | refine schedW_done_i ?_ | show (_ : Post) _ _ _ | show @Eq (List PV) _ _ | show @Eq Bool _ _ | show opsW _ _ _ _ _ _ _ _ | show okAll _ | show @Eq Bool _ _ ∨ _); focus (simp only [gW2, evalO, hot, hwa, SA, Nat.reduceAdd, reduceIte, Nat.reduceEqDiff, Nat.reduceBEq, reduceCtorEq]; (try go_unwrap; try simp only [gW2, evalO, hot, hwa, RR, reduceCtorEq]))) | refine And.intro ?_ ?_ | exact Or.inr ⟨rfl, Nat.le_refl _⟩ | exact (fun h => Bool.noConfusion h))
      all_goals simp
    by_cases o1 : op = 1
    · subst o1
      repeat' (first | exact True.intro | (exact Or.inr bw) | (exact Or.inr (by decide)) | (refine PW.seqK ?_; intro K hK) | refine pwB ?_ | refine pwS ?_ | refine pwL ?_ | refine pwE ?_ | refine pwR ?_ | refine pwK ?_ | refine seqK_n ‹_› ?_ | refine seqK_r ‹_› ?_ | refine seqK_e ‹_› ?_ | refine PW.regionA ?_ | exact schedW_stop_i | refine schK_n ‹_› ?_ | (refine schedW_alt_k ?_ ?_; focus (intro K hK; simp only [gW2, evalO, hot, hwa, SA, Nat.reduceAdd, reduceIte, Nat.reduceEqDiff, Nat.reduceBEq, reduceCtorEq]; (try go_unwrap; try simp only [gW2, evalO, hot, hwa, RR, reduceCtorEq]))) | (refine PW.cond rfl ?_ ?_ <;> intro hcond <;> (try contradiction) <;> try simp only [DD] at hcond) | (refine gd_i ?_; intro hg; try simp only [hg]) | refine goCall_W e56 (h56) ?_ ?_ ?_ ?_ | ((first | show (_ : Nat) ≤ _ | show (_ : Nat) < _ | show (_ : Int) ≤ _ | show (_ : Int) < _ | show (_ : Nat) = _ | show (_ : Int) = _ | show (_ : Bool) = _ | show _ ∨ _ | show ¬ _); first | omega | (simp only [DD, LL] <;> omega) | (go_unwrap; omega)) | ((first | refine PW.region ?_ | refine PW.regionQ ?_ | refine schedW_done_i ?_ | show (_ : Post) _ _ _ | show @Eq (List PV) _ _ | show @Eq Bool _ _ | show opsW _ _ _ _ _ _ _ _ | show okAll _ | show @Eq Bool _ _ ∨ _); focus (simp only [gW2, evalO, hot, hwa, SA, Nat.reduceAdd, reduceIte, Nat.reduceEqDiff, Nat.reduceBEq, reduceCtorEq]; (try go_unwrap; try simp only [gW2, evalO, hot, hwa, RR, reduceCtorEq]))) | refine And.intro ?_ ?_ | exact Or.inr ⟨rfl, Nat.le_refl _⟩ | exact (fun h => Bool.noConfusion h))
      all_goals simp
    have q0 : decide ((op : Int) = 0) = false := by simp only [decide_eq_false_iff_not]; omega
    have q1 : decide ((op : Int) = 1) = false := by simp only [decide_eq_false_iff_not]; omega
    have z0 : ¬ ((op : Int) = 0) := by omega
    have z1 : ¬ ((op : Int) = 1) := by omega
    rw [if_neg z0, if_neg z1]
    by_cases o5 : 5 ≤ op
    · have hs3 : strongM op = 3 := by unfold strongM; rw [if_neg (by omega), if_neg (by omega)]
      rw [hs3] at h56
      rw [if_pos hs3]
      repeat' (first | exact True.intro | (exact Or.inr bw) | (exact Or.inr (by decide)) | (refine PW.seqK ?_; intro K hK) | refine pwB ?_ | refine pwS ?_ | refine pwL ?_ | refine pwE ?_ | refine pwR ?_ | refine pwK ?_ | refine seqK_n ‹_› ?_ | refine seqK_r ‹_› ?_ | refine seqK_e ‹_› ?_ | refine PW.regionA ?_ | exact schedW_stop_i | refine schK_n ‹_› ?_ | (refine schedW_alt_k ?_ ?_; focus (intro K hK; simp only [gW2, evalO, hot, hwa, hkl, q0, q1, SA, Nat.reduceAdd, reduceIte, Nat.reduceEqDiff, Nat.reduceBEq, reduceCtorEq]; (try go_unwrap; try simp only [gW2, evalO, hot, hwa, hkl, q0, q1, RR, reduceCtorEq]))) | (refine PW.cond rfl ?_ ?_ <;> intro hcond <;> (try contradiction) <;> try simp only [DD] at hcond) | (refine gd_i ?_; intro hg; try simp only [hg]) | refine goCall_W e56 (h56) ?_ ?_ ?_ ?_ | ((first | show (_ : Nat) ≤ _ | show (_ : Nat) < _ | show (_ : Int) ≤ _ | show (_ : Int) < _ | show (_ : Nat) = _ | show (_ : Int) = _ | show (_ : Bool) = _ | show _ ∨ _ | show ¬ _); first | omega | (simp only [DD, LL] <;> omega) | (go_unwrap; omega)) | ((first | refine PW.region ?_ | refine PW.regionQ ?_ | refine schedW_done_i ?_ | show (_ : Post) _ _ _ | show @Eq (List PV) _ _ | show @Eq Bool _ _ | show opsW _ _ _ _ _ _ _ _ | show okAll _ | show @Eq Bool _ _ ∨ _); focus (simp only [gW2, evalO, hot, hwa, hkl, q0, q1, SA, Nat.reduceAdd, reduceIte, Nat.reduceEqDiff, Nat.reduceBEq, reduceCtorEq]; (try go_unwrap; try simp only [gW2, evalO, hot, hwa, hkl, q0, q1, RR, reduceCtorEq]))) | refine And.intro ?_ ?_ | exact Or.inr ⟨rfl, Nat.le_refl _⟩ | exact (fun h => Bool.noConfusion h))
      refine PW.loop (σ := Nat × List UInt8) [2, 3, 9, 43, 44, 45] (fun q => [.ref 0 0, .ref 1 0, .str q.2, .list none (n.kids.map (PV.int .i64)), .int .i64 n.kids.length, .int .i64 q.1]) (fun _ => [some (.var (some 1) (.agg [.list (some 4) (l.map ndP)])), some (.var none (.fn 55 [] [.ref 0 0, .ref 1 0]))])
        (fun q => q.1 ≤ n.kids.length ∧ q.2.length ≤ 6 + q.1 * (B + 1) ∧ joinL (fun c => textM l k c 0) n.kids 0 (wordM op ++ [40]) = joinL (fun c => textM l k c 0) (n.kids.drop q.1) q.1 q.2) (fun q => n.kids.length - q.1) (0, wordM op ++ [40]) ?_ ?_ ⟨by simp, by simp; omega, by simp⟩ ?_
      · simp only [SA, Nat.reduceAdd, reduceIte, Nat.reduceEqDiff, Nat.reduceBEq, reduceCtorEq]; rfl
      · rfl
      rintro ⟨j, s⟩ ⟨hj, hsl, hjn⟩
      simp only at hj hsl hjn
      simp only [List.zip_cons_cons, List.zip_nil_left]
      rcases Nat.lt_or_ge j n.kids.length with h | h
      · obtain ⟨c, hd, hc, hg⟩ := drop_at h
        have hfc := h4 c (List.mem_of_getElem? hc)
        have htx := ih c 0 hfc
        have htl := hle c 0 hfc
        simp only [TxC, trO, txO] at htx
        have hgc := (hg (PV.int .i64)).1
        have dj : decide ((j : Int) < n.kids.length) = true := by simp only [decide_eq_true_eq]; omega
        rw [hd, joinL] at hjn
        generalize hT : textM l k c 0 = T at *
        have hmul : (j + 1) * (B + 1) = j * (B + 1) + (B + 1) := by rw [Nat.add_mul, Nat.one_mul]
        have hjb : j * (B + 1) ≤ 3 * (B + 1) := Nat.mul_le_mul_right _ (by omega)
        by_cases hj0 : 0 < j
        · have d0 : decide ((0 : Int) < j) = true := by simp only [decide_eq_true_eq]; omega
          rw [if_pos hj0] at hjn
          repeat' (first | exact True.intro | (refine PW.seqK ?_; intro K hK) | refine pwB ?_ | refine pwS ?_ | refine pwL ?_ | refine pwE ?_ | refine pwR ?_ | refine pwK ?_ | refine seqK_n ‹_› ?_ | refine seqK_r ‹_› ?_ | refine seqK_e ‹_› ?_ | refine PW.regionA ?_ | exact schedW_stop_i | refine schK_n ‹_› ?_ | (refine schedW_alt_k ?_ ?_; focus (intro K hK; simp only [hkl, hgc, dj, d0, SA, Nat.reduceAdd, reduceIte, Nat.reduceEqDiff, Nat.reduceBEq, reduceCtorEq]; (try go_unwrap; try simp only [hkl, hgc, dj, d0, RR, reduceCtorEq]))) | (refine PW.cond rfl ?_ ?_ <;> intro hcond <;> (try contradiction) <;> try simp only [DD] at hcond) | (refine goCall_P e55 htx ?_; rintro p μ' ⟨rfl, rfl⟩; simp only [hkl, hgc, dj, d0, SA, Nat.reduceAdd, reduceIte, Nat.reduceEqDiff, Nat.reduceBEq, reduceCtorEq]) | (refine gd_i ?_; intro hg; try simp only [hg]) | ((first | show (_ : Nat) ≤ _ | show (_ : Nat) < _ | show (_ : Int) ≤ _ | show (_ : Int) < _ | show (_ : Nat) = _ | show (_ : Int) = _ | show (_ : Bool) = _ | show _ ∨ _ | show ¬ _); first | omega | (simp only [DD, LL] <;> omega) | (go_unwrap; omega)) | ((first | refine PW.region ?_ | refine PW.regionQ ?_ | refine schedW_done_i ?_ | show (_ : Post) _ _ _ | show @Eq (List PV) _ _ | show @Eq Bool _ _ | show opsW _ _ _ _ _ _ _ _ | show okAll _ | show @Eq Bool _ _ ∨ _); focus (simp only [hkl, hgc, dj, d0, SA, Nat.reduceAdd, reduceIte, Nat.reduceEqDiff, Nat.reduceBEq, reduceCtorEq]; (try go_unwrap; try simp only [hkl, hgc, dj, d0, RR, reduceCtorEq]))) | refine And.intro ?_ ?_ | exact Or.inr ⟨rfl, Nat.le_refl _⟩ | exact (fun h => Bool.noConfusion h))
          all_goals first | exact ⟨(j + 1, (s ++ [44]) ++ T), rfl, ⟨by simp only; omega, by simp; omega, hjn⟩, by simp only; omega⟩ | (simp; omega)
        · have d0 : decide ((0 : Int) < j) = false := by simp only [decide_eq_false_iff_not]; omega
          rw [if_neg hj0] at hjn
          repeat' (first | exact True.intro | (refine PW.seqK ?_; intro K hK) | refine pwB ?_ | refine pwS ?_ | refine pwL ?_ | refine pwE ?_ | refine pwR ?_ | refine pwK ?_ | refine seqK_n ‹_› ?_ | refine seqK_r ‹_› ?_ | refine seqK_e ‹_› ?_ | refine PW.regionA ?_ | exact schedW_stop_i | refine schK_n ‹_› ?_ | (refine schedW_alt_k ?_ ?_; focus (intro K hK; simp only [hkl, hgc, dj, d0, SA, Nat.reduceAdd, reduceIte, Nat.reduceEqDiff, Nat.reduceBEq, reduceCtorEq]; (try go_unwrap; try simp only [hkl, hgc, dj, d0, RR, reduceCtorEq]))) | (refine PW.cond rfl ?_ ?_ <;> intro hcond <;> (try contradiction) <;> try simp only [DD] at hcond) | (refine goCall_P e55 htx ?_; rintro p μ' ⟨rfl, rfl⟩; simp only [hkl, hgc, dj, d0, SA, Nat.reduceAdd, reduceIte, Nat.reduceEqDiff, Nat.reduceBEq, reduceCtorEq]) | (refine gd_i ?_; intro hg; try simp only [hg]) | ((first | show (_ : Nat) ≤ _ | show (_ : Nat) < _ | show (_ : Int) ≤ _ | show (_ : Int) < _ | show (_ : Nat) = _ | show (_ : Int) = _ | show (_ : Bool) = _ | show _ ∨ _ | show ¬ _); first | omega | (simp only [DD, LL] <;> omega) | (go_unwrap; omega)) | ((first | refine PW.region ?_ | refine PW.regionQ ?_ | refine schedW_done_i ?_ | show (_ : Post) _ _ _ | show @Eq (List PV) _ _ | show @Eq Bool _ _ | show opsW _ _ _ _ _ _ _ _ | show okAll _ | show @Eq Bool _ _ ∨ _); focus (simp only [hkl, hgc, dj, d0, SA, Nat.reduceAdd, reduceIte, Nat.reduceEqDiff, Nat.reduceBEq, reduceCtorEq]; (try go_unwrap; try simp only [hkl, hgc, dj, d0, RR, reduceCtorEq]))) | refine And.intro ?_ ?_ | exact Or.inr ⟨rfl, Nat.le_refl _⟩ | exact (fun h => Bool.noConfusion h))
          all_goals first | exact ⟨(j + 1, s ++ T), rfl, ⟨by simp only; omega, by simp; omega, hjn⟩, by simp only; omega⟩ | (simp; omega)
      · have dj : decide ((j : Int) < n.kids.length) = false := by simp only [decide_eq_false_iff_not]; omega
        rw [List.drop_eq_nil_of_le h, joinL] at hjn
        have hjb : j * (B + 1) ≤ 3 * (B + 1) := Nat.mul_le_mul_right _ (by omega)
        repeat' (first | exact True.intro | (refine PW.seqK ?_; intro K hK) | refine pwB ?_ | refine pwS ?_ | refine pwL ?_ | refine pwE ?_ | refine pwR ?_ | refine pwK ?_ | refine seqK_n ‹_› ?_ | refine seqK_r ‹_› ?_ | refine seqK_e ‹_› ?_ | refine PW.regionA ?_ | exact schedW_stop_i | refine schK_n ‹_› ?_ | (refine schedW_alt_k ?_ ?_; focus (intro K hK; simp only [hkl, dj, SA, Nat.reduceAdd, reduceIte, Nat.reduceEqDiff, Nat.reduceBEq, reduceCtorEq]; (try go_unwrap; try simp only [hkl, dj, RR, reduceCtorEq]))) | (refine PW.cond rfl ?_ ?_ <;> intro hcond <;> (try contradiction) <;> try simp only [DD] at hcond) | (refine gd_i ?_; intro hg; try simp only [hg]) | ((first | show (_ : Nat) ≤ _ | show (_ : Nat) < _ | show (_ : Int) ≤ _ | show (_ : Int) < _ | show (_ : Nat) = _ | show (_ : Int) = _ | show (_ : Bool) = _ | show _ ∨ _ | show ¬ _); first | omega | (simp only [DD, LL] <;> omega) | (go_unwrap; omega)) | ((first | refine PW.region ?_ | refine PW.regionQ ?_ | refine schedW_done_i ?_ | show (_ : Post) _ _ _ | show @Eq (List PV) _ _ | show @Eq Bool _ _ | show opsW _ _ _ _ _ _ _ _ | show okAll _ | show @Eq Bool _ _ ∨ _); focus (simp only [hkl, dj, SA, Nat.reduceAdd, reduceIte, Nat.reduceEqDiff, Nat.reduceBEq, reduceCtorEq]; (try go_unwrap; try simp only [hkl, dj, RR, reduceCtorEq]))) | refine And.intro ?_ ?_ | exact Or.inr ⟨rfl, Nat.le_refl _⟩ | exact (fun h => Bool.noConfusion h))
        all_goals first | (rw [hjn]; done) | rfl | (simp; omega)
    have hst : 1 ≤ strongM op ∧ strongM op ≤ 2 := by
      unfold strongM
      by_cases a : (op : Int) = 2 ∨ (op : Int) = 3
      · rw [if_pos a]; omega
      · rw [if_neg a, if_pos (by omega)]; omega
    have hs3 : ¬ strongM op = 3 := by omega
    rw [if_neg hs3]
    have k2 := ntwo (by omega) (by omega)
    obtain ⟨a, b, hab⟩ : ∃ a b, n.kids = [a, b] := by
      match n.kids, k2 with
      | [a, b], _ => exact ⟨a, b, rfl⟩
    rw [hab] at h4 ⊢
    simp only [List.map_cons, List.map_nil, List.getD_cons_zero, List.getD_cons_succ]
    have hfa := h4 a (by simp)
    have hfb := h4 b (by simp)
    have hta := ih a (strongM op) hfa
    have htb := ih b (strongM op + 1) hfb
    have hla := hle a (strongM op) hfa
    have hlb := hle b (strongM op + 1) hfb
    simp only [TxC, trO, txO] at hta htb
    generalize textM l k a (strongM op) = Ta at *
    generalize textM l k b (strongM op + 1) = Tb at *
    have q3 : decide (strongM op = 3) = false := by simp only [decide_eq_false_iff_not]; exact hs3
    have wp : IntKind.i64.wrap (strongM op + 1) = strongM op + 1 := IntWalk.i64_in _ (by omega)
    generalize strongM op = st at *
    generalize wordM op = W at *
    by_cases hlt : st < least
    · rw [if_pos hlt]
      repeat' (first | exact True.intro | (refine PW.seqA (E := ?_) (M := ?_) ?_ ?_; rotate_left 2) | exact mergeQ_mk _ _ | (exact Or.inr bw) | (exact Or.inr (by decide)) | (refine PW.seqK ?_; intro K hK) | refine pwB ?_ | refine pwS ?_ | refine pwL ?_ | refine pwE ?_ | refine pwR ?_ | refine pwK ?_ | refine seqK_n ‹_› ?_ | refine seqK_r ‹_› ?_ | refine seqK_e ‹_› ?_ | refine PW.regionA ?_ | exact schedW_stop_i | refine schK_n ‹_› ?_ | (refine schedW_alt_k ?_ ?_; focus (intro K hK; simp only [PV.bin, PV.binOk, binI, gW2, evalO, hot, hwa, hkl, q0, q1, q3, wp, decide_eq_true hlt, SA, Nat.reduceAdd, reduceIte, Nat.reduceEqDiff, Nat.reduceBEq, reduceCtorEq]; (try go_unwrap; try simp only [PV.bin, PV.binOk, binI, gW2, evalO, hot, hwa, hkl, q0, q1, q3, wp, decide_eq_true hlt, RR, reduceCtorEq]))) | (refine PW.cond rfl ?_ ?_ <;> intro hcond <;> (try contradiction) <;> try simp only [DD] at hcond) | (refine goCall_P e55 hta ?_; rintro p μ' ⟨rfl, rfl⟩; simp only [PV.bin, PV.binOk, binI, gW2, evalO, hot, hwa, hkl, q0, q1, q3, wp, decide_eq_true hlt, SA, Nat.reduceAdd, reduceIte, Nat.reduceEqDiff, Nat.reduceBEq, reduceCtorEq]) | (refine goCall_P e55 htb ?_; rintro p μ' ⟨rfl, rfl⟩; simp only [PV.bin, PV.binOk, binI, gW2, evalO, hot, hwa, hkl, q0, q1, q3, wp, decide_eq_true hlt, SA, Nat.reduceAdd, reduceIte, Nat.reduceEqDiff, Nat.reduceBEq, reduceCtorEq]) | (refine gd_i ?_; intro hg; try simp only [hg]) | refine goCall_W e56 (h56) ?_ ?_ ?_ ?_ | ((first | show (_ : Nat) ≤ _ | show (_ : Nat) < _ | show (_ : Int) ≤ _ | show (_ : Int) < _ | show (_ : Nat) = _ | show (_ : Int) = _ | show (_ : Bool) = _ | show _ ∨ _ | show ¬ _); first | omega | (simp only [DD, LL] <;> omega) | (go_unwrap; omega)) | ((first | refine PW.region ?_ | refine PW.regionQ ?_ | refine schedW_done_i ?_ | show (_ : Post) _ _ _ | show @Eq (List PV) _ _ | show @Eq Bool _ _ | show opsW _ _ _ _ _ _ _ _ | show okAll _ | show @Eq Bool _ _ ∨ _); focus (simp only [PV.bin, PV.binOk, binI, gW2, evalO, hot, hwa, hkl, q0, q1, q3, wp, decide_eq_true hlt, SA, Nat.reduceAdd, reduceIte, Nat.reduceEqDiff, Nat.reduceBEq, reduceCtorEq]; (try go_unwrap; try simp only [PV.bin, PV.binOk, binI, gW2, evalO, hot, hwa, hkl, q0, q1, q3, wp, decide_eq_true hlt, RR, reduceCtorEq]))) | refine And.intro ?_ ?_ | exact Or.inr ⟨rfl, Nat.le_refl _⟩ | exact (fun h => Bool.noConfusion h))
      all_goals first | rfl | (simp; omega)
    · rw [if_neg hlt]
      repeat' (first | exact True.intro | (refine PW.seqA (E := ?_) (M := ?_) ?_ ?_; rotate_left 2) | exact mergeQ_mk _ _ | (exact Or.inr bw) | (exact Or.inr (by decide)) | (refine PW.seqK ?_; intro K hK) | refine pwB ?_ | refine pwS ?_ | refine pwL ?_ | refine pwE ?_ | refine pwR ?_ | refine pwK ?_ | refine seqK_n ‹_› ?_ | refine seqK_r ‹_› ?_ | refine seqK_e ‹_› ?_ | refine PW.regionA ?_ | exact schedW_stop_i | refine schK_n ‹_› ?_ | (refine schedW_alt_k ?_ ?_; focus (intro K hK; simp only [PV.bin, PV.binOk, binI, gW2, evalO, hot, hwa, hkl, q0, q1, q3, wp, decide_eq_false hlt, SA, Nat.reduceAdd, reduceIte, Nat.reduceEqDiff, Nat.reduceBEq, reduceCtorEq]; (try go_unwrap; try simp only [PV.bin, PV.binOk, binI, gW2, evalO, hot, hwa, hkl, q0, q1, q3, wp, decide_eq_false hlt, RR, reduceCtorEq]))) | (refine PW.cond rfl ?_ ?_ <;> intro hcond <;> (try contradiction) <;> try simp only [DD] at hcond) | (refine goCall_P e55 hta ?_; rintro p μ' ⟨rfl, rfl⟩; simp only [PV.bin, PV.binOk, binI, gW2, evalO, hot, hwa, hkl, q0, q1, q3, wp, decide_eq_false hlt, SA, Nat.reduceAdd, reduceIte, Nat.reduceEqDiff, Nat.reduceBEq, reduceCtorEq]) | (refine goCall_P e55 htb ?_; rintro p μ' ⟨rfl, rfl⟩; simp only [PV.bin, PV.binOk, binI, gW2, evalO, hot, hwa, hkl, q0, q1, q3, wp, decide_eq_false hlt, SA, Nat.reduceAdd, reduceIte, Nat.reduceEqDiff, Nat.reduceBEq, reduceCtorEq]) | (refine gd_i ?_; intro hg; try simp only [hg]) | refine goCall_W e56 (h56) ?_ ?_ ?_ ?_ | ((first | show (_ : Nat) ≤ _ | show (_ : Nat) < _ | show (_ : Int) ≤ _ | show (_ : Int) < _ | show (_ : Nat) = _ | show (_ : Int) = _ | show (_ : Bool) = _ | show _ ∨ _ | show ¬ _); first | omega | (simp only [DD, LL] <;> omega) | (go_unwrap; omega)) | ((first | refine PW.region ?_ | refine PW.regionQ ?_ | refine schedW_done_i ?_ | show (_ : Post) _ _ _ | show @Eq (List PV) _ _ | show @Eq Bool _ _ | show opsW _ _ _ _ _ _ _ _ | show okAll _ | show @Eq Bool _ _ ∨ _); focus (simp only [PV.bin, PV.binOk, binI, gW2, evalO, hot, hwa, hkl, q0, q1, q3, wp, decide_eq_false hlt, SA, Nat.reduceAdd, reduceIte, Nat.reduceEqDiff, Nat.reduceBEq, reduceCtorEq]; (try go_unwrap; try simp only [PV.bin, PV.binOk, binI, gW2, evalO, hot, hwa, hkl, q0, q1, q3, wp, decide_eq_false hlt, RR, reduceCtorEq]))) | refine And.intro ?_ ?_ | exact Or.inr ⟨rfl, Nat.le_refl _⟩ | exact (fun h => Bool.noConfusion h))
      all_goals first | rfl | (simp; omega)
end Go.Proofs.YthekpjhffciakaaDoor

namespace Go.Proofs.YthekpjhffciakaaDoor
open Go PG Go.Proofs
set_option linter.unusedSimpArgs false
set_option linter.unusedVariables false
set_option maxHeartbeats 4000000
set_option maxRecDepth 100000
theorem e26 : Ent Tryd.prog 26 := ⟨Tryd.f26, Tryd.func26, by kernel_rfl, by kernel_rfl⟩
theorem hasK0 : HasKids G0 := rfl
theorem v26 (l : List Nd) (hl : l.length ≤ 256) (hs : ∀ n ∈ l, n.name.length ≤ 9223372036854775807 ∧ n.kids.length ≤ 9223372036854775807) (hc : checkM l = 0) (hf : fitsD l 16 ((l.length : Int) - 1)) : VCalls Tryd.prog G0 26 [treeP l] (.str (textM l 16 ((l.length : Int) - 1) 0)) := by
  refine VCalls.of_PW Tryd.func26 k26 mix (by simp [c26]) ?_
  simp only [c26, L26, CC, argE]
  have h29 := v29 hasK0 l (by omega) hs
  rw [hc] at h29
  have htx := v55 l hl 16 (Nat.le_refl _) _ 0 hf
  simp only [TxC, trO, txO] at htx
  simp only [treeP] at h29 ⊢
  have hll : ((l.map ndP).length : Nat) = l.length := by simp
  have q0 : decide ((0 : Int) = 0) = true := rfl
  repeat' (first | exact True.intro | (exact Or.inr ⟨rfl, by decide⟩) | (refine PW.seqK ?_; intro K hK) | refine pwB ?_ | refine pwS ?_ | refine pwL ?_ | refine pwE ?_ | refine pwR ?_ | refine pwK ?_ | refine seqK_n ‹_› ?_ | refine seqK_r ‹_› ?_ | refine seqK_e ‹_› ?_ | refine PW.regionA ?_ | exact schedW_stop_i | refine schK_n ‹_› ?_ | (refine schedW_alt_k ?_ ?_; focus (intro K hK; simp only [hll, q0, SA, Nat.reduceAdd, reduceIte, Nat.reduceEqDiff, Nat.reduceBEq, reduceCtorEq]; (try go_unwrap; try simp only [hll, q0, RR, reduceCtorEq]))) | (refine PW.cond rfl ?_ ?_ <;> intro hcond <;> (try contradiction) <;> try simp only [DD] at hcond) | (refine goCall_P e55 htx ?_; rintro p μ' ⟨rfl, rfl⟩; simp only [hll, q0, SA, Nat.reduceAdd, reduceIte, Nat.reduceEqDiff, Nat.reduceBEq, reduceCtorEq]) | (refine gd_i ?_; intro hg; try simp only [hg]) | refine goCall_W e29 (h29) ?_ ?_ ?_ ?_ | ((first | show (_ : Nat) ≤ _ | show (_ : Nat) < _ | show (_ : Int) ≤ _ | show (_ : Int) < _ | show (_ : Nat) = _ | show (_ : Int) = _ | show (_ : Bool) = _ | show _ ∨ _ | show ¬ _); first | omega | (simp only [DD, LL] <;> omega) | (go_unwrap; omega)) | ((first | refine PW.region ?_ | refine PW.regionQ ?_ | refine schedW_done_i ?_ | show (_ : Post) _ _ _ | show @Eq (List PV) _ _ | show @Eq Bool _ _ | show opsW _ _ _ _ _ _ _ _ | show okAll _ | show @Eq Bool _ _ ∨ _); focus (simp only [hll, q0, SA, Nat.reduceAdd, reduceIte, Nat.reduceEqDiff, Nat.reduceBEq, reduceCtorEq]; (try go_unwrap; try simp only [hll, q0, RR, reduceCtorEq]))) | refine And.intro ?_ ?_ | exact Or.inr ⟨rfl, Nat.le_refl _⟩ | exact (fun h => Bool.noConfusion h))
theorem v26n (l : List Nd) (hl : l.length ≤ 9223372036854775807) (hs : ∀ n ∈ l, n.name.length ≤ 9223372036854775807 ∧ n.kids.length ≤ 9223372036854775807) (hc : checkM l ≠ 0) : VCalls Tryd.prog G0 26 [treeP l] (.str []) := by
  refine VCalls.of_PW Tryd.func26 k26 mix (by simp [c26]) ?_
  simp only [c26, L26, CC, argE]
  have h29 := v29 hasK0 l hl hs
  simp only [treeP] at h29 ⊢
  repeat' (first | exact True.intro | (exact Or.inr ⟨rfl, by decide⟩) | (refine PW.seqK ?_; intro K hK) | refine pwB ?_ | refine pwS ?_ | refine pwL ?_ | refine pwE ?_ | refine pwR ?_ | refine pwK ?_ | refine seqK_n ‹_› ?_ | refine seqK_r ‹_› ?_ | refine seqK_e ‹_› ?_ | refine PW.regionA ?_ | exact schedW_stop_i | refine schK_n ‹_› ?_ | (refine schedW_alt_k ?_ ?_; focus (intro K hK; simp only [decide_eq_false hc, SA, Nat.reduceAdd, reduceIte, Nat.reduceEqDiff, Nat.reduceBEq, reduceCtorEq]; (try go_unwrap; try simp only [decide_eq_false hc, RR, reduceCtorEq]))) | (refine PW.cond rfl ?_ ?_ <;> intro hcond <;> (try contradiction) <;> try simp only [DD] at hcond) | (refine gd_i ?_; intro hg; try simp only [hg]) | refine goCall_W e29 (h29) ?_ ?_ ?_ ?_ | ((first | show (_ : Nat) ≤ _ | show (_ : Nat) < _ | show (_ : Int) ≤ _ | show (_ : Int) < _ | show (_ : Nat) = _ | show (_ : Int) = _ | show (_ : Bool) = _ | show _ ∨ _ | show ¬ _); first | omega | (simp only [DD, LL] <;> omega) | (go_unwrap; omega)) | ((first | refine PW.region ?_ | refine PW.regionQ ?_ | refine schedW_done_i ?_ | show (_ : Post) _ _ _ | show @Eq (List PV) _ _ | show @Eq Bool _ _ | show opsW _ _ _ _ _ _ _ _ | show okAll _ | show @Eq Bool _ _ ∨ _); focus (simp only [decide_eq_false hc, SA, Nat.reduceAdd, reduceIte, Nat.reduceEqDiff, Nat.reduceBEq, reduceCtorEq]; (try go_unwrap; try simp only [decide_eq_false hc, RR, reduceCtorEq]))) | refine And.intro ?_ ?_ | exact Or.inr ⟨rfl, Nat.le_refl _⟩ | exact (fun h => Bool.noConfusion h))
end Go.Proofs.YthekpjhffciakaaDoor

namespace Go.Proofs.YthekpjhffciakaaDoor
open PG Go.Proofs
-- (wagebook/expr.Tree).Vars
def L34 : List Nat := [0, 1, 2, 3, 5, 8, 10, 11, 12, 13, 18]
def c34 : CF := ⟨29,
 .seq (.region false [⟨some 1, none, .eff (.box (some 1)) [.tmp 0]⟩,
 ⟨some 2, none, .rd .mov [.pv .nilSl]⟩] L34)
 (.seq (.seq (.region false [⟨some 6, none, .rd (.load (some 1)) [.tmp 1]⟩,
 ⟨some 7, none, .call (.pv (.fn 29 [] [])) [.tmp 6]⟩,
 ⟨some 8, none, .rd (.bin .neq) [.tmp 7, .pv (.int .i64 0)]⟩] L34)
 (.cond (.tmp 8)
 (.seq (.region false [⟨some 2, none, .rd .mov [.pv .nilSl]⟩] L34)
 (.ret))
 (.skip)))
 (.seq (.region false [⟨some 3, none, .rd .mov [.pv .nilSl]⟩] L34)
 (.seq (.seq (.region false [oF 0 9 1,
 oL 10 9,
 ⟨some 11, none, .rd .lenL [.tmp 10]⟩,
 ⟨some 12, none, .rd .mov [.pv (.int .i64 0)]⟩] L34)
 (.block 0
 (.loop
 (.seq (.region false [⟨some 13, none, .rd (.bin .lss) [.tmp 12, .tmp 11]⟩] L34)
 (.seq (.cond (.tmp 13)
 (.skip)
 (.exit 0))
 (.seq (.block 1
 (.seq (.region false [⟨some 14, none, .rd (.idxAddr (some 4)) [.tmp 10, .tmp 12]⟩,
 ⟨some 15, none, .rd (.load (some 4)) [.tmp 14]⟩,
 ⟨some 5, none, .eff (.alloc (some 4) (.agg [(.int .i64 0), (.int .i64 0), (.str []), .nilSl])) []⟩,
 ⟨none, none, .eff (.store (some 4)) [.tmp 5, .tmp 15]⟩] L34)
 (.seq (.region false [oF 0 16 5,
 oL 17 16,
 ⟨some 18, none, .rd (.bin .eql) [.tmp 17, .pv (.int .i64 1)]⟩] L34)
 (.cond (.tmp 18)
 (.region false [oM 19 3,
 oF 2 20 5,
 oL 21 20,
 ⟨some 22, none, .eff (.lit none false) [.tmp 21]⟩,
 ⟨some 23, none, .eff (.append none 16) [.tmp 19, .tmp 22]⟩,
 oM 3 23] L34)
 (.skip)))))
 (.region false [⟨some 24, none, .rd (.bin .add) [.tmp 12, .pv (.int .i64 1)]⟩,
 oM 12 24] L34)))))))
 (.seq (.region false [oM 25 3,
 ⟨some 26, none, .call (.pv (.fn 63 [] [])) [.tmp 25]⟩] L34)
 (.seq (.region false [oM 27 3,
 ⟨some 28, none, .call (.pv (.fn 64 [] [])) [.tmp 27]⟩,
 oM 2 28] L34)
 (.ret)))))),
 [.tmp 2]⟩

-- wagebook/wagebooklaw13.same
def L36 : List Nat := [0, 1, 4, 5, 10, 14, 25]
def c36 : CF := ⟨26,
 .seq (.region false [⟨some 4, none, .rd .mov [.pv (.bool false)]⟩] L36)
 (.seq (.seq (.region false [oM 6 0,
 ⟨some 7, none, .rd .lenL [.tmp 6]⟩,
 oM 8 1,
 ⟨some 9, none, .rd .lenL [.tmp 8]⟩,
 ⟨some 10, none, .rd (.bin .neq) [.tmp 7, .tmp 9]⟩] L36)
 (.cond (.tmp 10)
 (.seq (.region false [⟨some 4, none, .rd .mov [.pv (.bool false)]⟩] L36)
 (.ret))
 (.skip)))
 (.seq (.seq (.region false [⟨some 5, none, .rd .mov [.pv (.int .i64 0)]⟩] L36)
 (.block 0
 (.loop
 (.seq (.seq (.region false [oM 11 5,
 oM 12 0,
 ⟨some 13, none, .rd .lenL [.tmp 12]⟩,
 ⟨some 14, none, .rd (.bin .lss) [.tmp 11, .tmp 13]⟩] L36)
 (.cond (.tmp 14)
 (.skip)
 (.exit 0)))
 (.seq (.block 1
 (.seq (.region true [oM 17 0,
 oM 18 5,
 ⟨some 19, none, .rd (.idxAddr none) [.tmp 17, .tmp 18]⟩,
 oL 20 19,
 oM 21 1,
 oM 22 5,
 ⟨some 23, none, .rd (.idxAddr none) [.tmp 21, .tmp 22]⟩,
 oL 24 23,
 ⟨some 25, none, .rd (.bin .neq) [.tmp 20, .tmp 24]⟩] L36)
 (.cond (.tmp 25)
 (.seq (.region false [⟨some 4, none, .rd .mov [.pv (.bool false)]⟩] L36)
 (.ret))
 (.skip))))
 (.region false [oM 15 5,
 ⟨some 16, none, .rd (.bin .add) [.tmp 15, .pv (.int .i64 1)]⟩,
 oM 5 16] L36))))))
 (.seq (.region false [⟨some 4, none, .rd .mov [.pv (.bool true)]⟩] L36)
 (.ret)))),
 [.tmp 4]⟩

-- wagebook/wagebookref13.Depth
def L35 : List Nat := [0, 2]
def c35 : CF := ⟨8,
 .seq (.region false [⟨some 2, none, .rd .mov [.pv (.int .i64 0)]⟩] L35)
 (.seq (.region false [oM 3 0,
 oM 4 0,
 ⟨some 5, none, .rd .lenL [.tmp 4]⟩,
 ⟨some 6, none, .rd (.bin .sub) [.tmp 5, .pv (.int .i64 1)]⟩,
 ⟨some 7, none, .call (.pv (.fn 52 [] [])) [.tmp 3, .tmp 6]⟩,
 oM 2 7] L35)
 (.ret)),
 [.tmp 2]⟩

-- wagebook/wagebooklaw13.great
def L24 : List Nat := [0, 1, 2, 3, 4, 16]
def c24 : CF := ⟨38,
 .seq (.region false [⟨some 1, none, .eff (.box (some 1)) [.tmp 0]⟩,
 ⟨some 2, none, .rd .mov [.pv (.bool false)]⟩] L24)
 (.seq (.region false [oF 0 5 1,
 oL 6 5,
 ⟨some 7, none, .rd .lenL [.tmp 6]⟩,
 oM 3 7] L24)
 (.seq (.seq (.region false [⟨some 4, none, .rd .mov [.pv (.int .i64 0)]⟩] L24)
 (.block 0
 (.loop
 (.seq (.seq (.region false [oM 8 4,
 oF 0 9 1,
 oL 10 9,
 ⟨some 11, none, .rd .lenL [.tmp 10]⟩,
 ⟨some 12, none, .rd (.bin .lss) [.tmp 8, .tmp 11]⟩,
 oM 13 12,
 qM 13 true 14 3,
 ⟨some 15, some (13, true), .rd (.bin .leq) [.tmp 14, .pv (.int .i64 1000)]⟩,
 ⟨some 16, none, .rd .pick [.tmp 13, .tmp 15, .pv (.bool false)]⟩] L24)
 (.cond (.tmp 16)
 (.skip)
 (.exit 0)))
 (.seq (.block 1
 (.region true [oM 19 3,
 oF 0 20 1,
 oL 21 20,
 oM 22 4,
 ⟨some 23, none, .rd (.idxAddr (some 4)) [.tmp 21, .tmp 22]⟩,
 oF 3 24 23,
 oL 25 24,
 ⟨some 26, none, .rd .lenL [.tmp 25]⟩,
 ⟨some 27, none, .rd (.bin .add) [.tmp 19, .tmp 26]⟩,
 oF 0 28 1,
 oL 29 28,
 oM 30 4,
 ⟨some 31, none, .rd (.idxAddr (some 4)) [.tmp 29, .tmp 30]⟩,
 oF 2 32 31,
 oL 33 32,
 ⟨some 34, none, .rd .lenS [.tmp 33]⟩,
 ⟨some 35, none, .rd (.bin .add) [.tmp 27, .tmp 34]⟩,
 oM 3 35] L24))
 (.region false [oM 17 4,
 ⟨some 18, none, .rd (.bin .add) [.tmp 17, .pv (.int .i64 1)]⟩,
 oM 4 18] L24))))))
 (.seq (.region false [oM 36 3,
 ⟨some 37, none, .rd (.bin .gtr) [.tmp 36, .pv (.int .i64 1000)]⟩,
 oM 2 37] L24)
 (.ret)))),
 [.tmp 2]⟩

-- wagebook/wagebooklaw13.check
def L25 : List Nat := [0, 1, 2, 3, 4, 9]
def c25 : CF := ⟨26,
 .seq (.region false [⟨some 1, none, .eff (.box (some 1)) [.tmp 0]⟩,
 ⟨some 2, none, .rd .mov [.pv (.int .i64 0)]⟩] L25)
 (.seq (.region false [⟨some 3, none, .rd .mov [.pv .nilSl]⟩] L25)
 (.seq (.seq (.region false [⟨some 4, none, .rd .mov [.pv (.int .i64 0)]⟩] L25)
 (.block 0
 (.loop
 (.seq (.seq (.region false [oM 5 4,
 oF 0 6 1,
 oL 7 6,
 ⟨some 8, none, .rd .lenL [.tmp 7]⟩,
 ⟨some 9, none, .rd (.bin .lss) [.tmp 5, .tmp 8]⟩] L25)
 (.cond (.tmp 9)
 (.skip)
 (.exit 0)))
 (.seq (.block 1
 (.region false [oM 12 3,
 oF 0 13 1,
 oL 14 13,
 oM 15 4,
 ⟨some 16, none, .rd (.idxAddr (some 4)) [.tmp 14, .tmp 15]⟩,
 oF 2 17 16,
 oL 18 17,
 ⟨some 19, none, .call (.pv (.fn 53 [] [])) [.tmp 18]⟩,
 ⟨some 20, none, .eff (.lit none false) [.tmp 19]⟩,
 ⟨some 21, none, .eff (.append none 1) [.tmp 12, .tmp 20]⟩,
 oM 3 21] L25))
 (.region false [oM 10 4,
 ⟨some 11, none, .rd (.bin .add) [.tmp 10, .pv (.int .i64 1)]⟩,
 oM 4 11] L25))))))
 (.seq (.region false [⟨some 22, none, .rd (.load (some 1)) [.tmp 1]⟩,
 ⟨some 23, none, .call (.pv (.fn 23 [] [])) [.tmp 22]⟩,
 oM 24 3,
 ⟨some 25, none, .call (.pv (.fn 54 [] [])) [.tmp 23, .tmp 24]⟩,
 oM 2 25] L25)
 (.ret)))),
 [.tmp 2]⟩

-- wagebook/wagebooklaw13.ExprChecks
def L12 : List Nat := [0, 1, 2, 3, 4, 6, 13, 15]
def c12 : CF := ⟨50,
 .seq (.region false [⟨some 1, none, .eff (.box (some 1)) [.tmp 0]⟩,
 ⟨some 2, none, .rd .mov [.pv (.bool false)]⟩] L12)
 (.seq (.seq (.region false [⟨some 5, none, .rd (.load (some 1)) [.tmp 1]⟩,
 ⟨some 6, none, .call (.pv (.fn 24 [] [])) [.tmp 5]⟩] L12)
 (.cond (.tmp 6)
 (.seq (.region false [⟨some 7, none, .call (.pv (.fn 17 [] [])) []⟩,
 oM 2 7] L12)
 (.ret))
 (.skip)))
 (.seq (.region false [⟨some 8, none, .rd (.load (some 1)) [.tmp 1]⟩,
 ⟨some 9, none, .call (.pv (.fn 25 [] [])) [.tmp 8]⟩,
 oM 3 9] L12)
 (.seq (.seq (.region false [⟨some 10, none, .rd (.load (some 1)) [.tmp 1]⟩,
 ⟨some 11, none, .call (.pv (.fn 29 [] [])) [.tmp 10]⟩,
 oM 12 3,
 ⟨some 13, none, .rd (.bin .neq) [.tmp 11, .tmp 12]⟩] L12)
 (.cond (.tmp 13)
 (.seq (.region false [⟨some 2, none, .rd .mov [.pv (.bool false)]⟩] L12)
 (.ret))
 (.skip)))
 (.seq (.seq (.region false [oM 14 3,
 ⟨some 15, none, .rd (.bin .neq) [.tmp 14, .pv (.int .i64 0)]⟩] L12)
 (.cond (.tmp 15)
 (.seq (.region false [⟨some 16, none, .rd (.load (some 1)) [.tmp 1]⟩,
 ⟨some 17, none, .call (.pv (.fn 26 [] [])) [.tmp 16]⟩,
 ⟨some 18, none, .rd (.bin .eql) [.tmp 17, .pv (.str [])]⟩,
 oM 19 18,
 ⟨some 20, some (19, true), .rd (.load (some 1)) [.tmp 1]⟩,
 ⟨some 21, some (19, true), .call (.pv (.fn 34 [] [])) [.tmp 20]⟩,
 ⟨some 22, some (19, true), .rd .lenL [.tmp 21]⟩,
 ⟨some 23, some (19, true), .rd (.bin .eql) [.tmp 22, .pv (.int .i64 0)]⟩,
 ⟨some 24, none, .rd .pick [.tmp 19, .tmp 23, .pv (.bool false)]⟩,
 oM 25 24,
 ⟨some 26, some (25, true), .rd (.load (some 1)) [.tmp 1]⟩,
 ⟨some 27, some (25, true), .call (.pv (.fn 30 [] [])) [.tmp 26]⟩,
 ⟨some 28, some (25, true), .rd (.bin .eql) [.tmp 27, .pv (.int .i64 0)]⟩,
 ⟨some 29, none, .rd .pick [.tmp 25, .tmp 28, .pv (.bool false)]⟩,
 oM 30 29,
 ⟨some 31, some (30, true), .call (.pv (.fn 17 [] [])) []⟩,
 ⟨some 32, none, .rd .pick [.tmp 30, .tmp 31, .pv (.bool false)]⟩,
 oM 2 32] L12)
 (.ret))
 (.skip)))
 (.seq (.region false [⟨some 33, none, .rd (.load (some 1)) [.tmp 1]⟩,
 ⟨some 34, none, .call (.pv (.fn 23 [] [])) [.tmp 33]⟩,
 oM 4 34] L12)
 (.seq (.region false [⟨some 35, none, .rd (.load (some 1)) [.tmp 1]⟩,
 ⟨some 36, none, .call (.pv (.fn 30 [] [])) [.tmp 35]⟩,
 oM 37 4,
 ⟨some 38, none, .call (.pv (.fn 35 [] [])) [.tmp 37]⟩,
 ⟨some 39, none, .rd (.bin .eql) [.tmp 36, .tmp 38]⟩,
 oM 40 39,
 ⟨some 41, some (40, true), .rd (.load (some 1)) [.tmp 1]⟩,
 ⟨some 42, some (40, true), .call (.pv (.fn 34 [] [])) [.tmp 41]⟩,
 qM 40 true 43 4,
 ⟨some 44, some (40, true), .call (.pv (.fn 37 [] [])) [.tmp 43]⟩,
 ⟨some 45, some (40, true), .call (.pv (.fn 36 [] [])) [.tmp 42, .tmp 44]⟩,
 ⟨some 46, none, .rd .pick [.tmp 40, .tmp 45, .pv (.bool false)]⟩,
 oM 47 46,
 ⟨some 48, some (47, true), .call (.pv (.fn 17 [] [])) []⟩,
 ⟨some 49, none, .rd .pick [.tmp 47, .tmp 48, .pv (.bool false)]⟩,
 oM 2 49] L12)
 (.ret))))))),
 [.tmp 2]⟩
theorem k34 : compileF Tryd.prog [] L34 Tryd.f34 = some c34 := by kernel_rfl
theorem k36 : compileF Tryd.prog [] L36 Tryd.f36 = some c36 := by kernel_rfl
theorem k35 : compileF Tryd.prog [] L35 Tryd.f35 = some c35 := by kernel_rfl
theorem k24 : compileF Tryd.prog [] L24 Tryd.f24 = some c24 := by kernel_rfl
theorem k25 : compileF Tryd.prog [] L25 Tryd.f25 = some c25 := by kernel_rfl
theorem k12 : compileF Tryd.prog [] L12 Tryd.f12 = some c12 := by kernel_rfl
end Go.Proofs.YthekpjhffciakaaDoor

