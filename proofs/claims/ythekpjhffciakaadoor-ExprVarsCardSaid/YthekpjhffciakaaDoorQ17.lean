import Derived.Test.YthekpjhffciakaaDoorProg
import Derived.KernelRfl
import Derived.Shelf.SortM.Plain
import Derived.Shelf.SortM.SortNone
import Derived.Shelf.SlicesG.CompactS
import Derived.Lib.RowBridge
import Derived.Test.YthekpjhffciakaaDoorQ16
import Derived.Test.YthekpjhffciakaaDoorP4
import Derived.Test.YthekpjhffciakaaDoorQ10
import Derived.Test.YthekpjhffciakaaDoorQ11
namespace Go.Proofs.YthekpjhffciakaaDoor
open Go PG Go.Proofs
set_option linter.unusedSimpArgs false
set_option linter.unusedVariables false
set_option maxRecDepth 100000
/-! Formulas in brackets -/
theorem lx_open (r : List UInt8) : lx (40 :: r) = (lx r).map ((3, [40]) :: ·) := lx_sign (by decide) (by decide) (by decide) (by decide) r
theorem lx_close (r : List UInt8) : lx (41 :: r) = (lx r).map ((3, [41]) :: ·) := lx_sign (by decide) (by decide) (by decide) (by decide) r
theorem lx_minus (r : List UInt8) : lx (45 :: r) = (lx r).map ((3, [45]) :: ·) := lx_sign (by decide) (by decide) (by decide) (by decide) r
/-- A text, and a sign behind it. -/
theorem lx_cat {b : UInt8} (hb : innerB b = false) {s r : List UInt8} {w v : List KT} (h : lx s = some w) (h2 : lx (b :: r) = some v) : lx (s ++ b :: r) = some (w ++ v) := by
  rw [lx_app hb r _ s w (Nat.le_refl _) h, h2]; rfl
theorem lx_par {s r : List UInt8} {w v : List KT} (h : lx s = some w) (h2 : lx r = some v) : lx (40 :: (s ++ 41 :: r)) = some ((3, [40]) :: (w ++ (3, [41]) :: v)) := by
  rw [lx_open, lx_cat (by decide) h (v := (3, [41]) :: v) (by rw [lx_close, h2]; rfl)]; rfl
theorem lx_nil : lx [] = some [] := by rw [lx]
theorem parse_err {s : List UInt8} {a : Nat} {e : Int} (h : parseS s = .error (a, e)) : e ≠ 0 := by
  unfold parseS at h
  cases hA : allE s with
  | error p =>
    obtain ⟨o, x⟩ := p
    rw [hA] at h
    have := (all_errs hA).2
    cases h
    omega
  | ok l =>
    rw [hA] at h
    simp only at h
    unfold parseR at h
    simp only at h
    split at h
    · rename_i he; cases h; exact he
    · split at h
      · cases h; decide
      · split at h
        · cases h; decide
        · split at h
          · cases h; decide
          · cases h
/-- What a right text's nodes are. -/
structure OkNds (nd : List Nd) : Prop where
  ex : ∃ e : Ex, e.ok ∧ nd = e.nds 0 ∧ e.size ≤ 256 ∧ e.deep ≤ 16
theorem OkNds.len {nd : List Nd} (h : OkNds nd) : nd.length ≤ 256 ∧ nd ≠ [] := by
  obtain ⟨e, h1, rfl, h2, h3⟩ := h.ex
  rw [Ex.nds_len]
  refine ⟨h2, fun h => ?_⟩
  have := congrArg List.length h
  rw [Ex.nds_len] at this
  have := e.size_pos
  simp at *; omega
theorem OkNds.check {nd : List Nd} (h : OkNds nd) : checkM nd = 0 := by
  obtain ⟨e, h1, rfl, h2, h3⟩ := h.ex
  exact check_ok h1 h2 h3
theorem OkNds.deep {nd : List Nd} (h : OkNds nd) : 1 ≤ depthM nd ∧ depthM nd ≤ 16 := by
  obtain ⟨e, h1, rfl, h2, h3⟩ := h.ex
  rw [depth_nds]
  exact ⟨e.deep_pos, h3⟩
theorem isName_le {x : List UInt8} (h : isName x = true) : x.length ≤ 32 := by
  unfold isName at h
  simp only [Bool.and_eq_true, decide_eq_true_eq] at h
  exact h.1.1.2
theorem nds_small : ∀ (e : Ex) (c : Nat), e.ok → ∀ n ∈ e.nds c, n.name.length ≤ 32 ∧ n.kids.length ≤ 3
  | .num v, c, h, n, hn => by simp [Ex.nds] at hn; subst hn; simp
  | .var x, c, h, n, hn => by simp [Ex.nds] at hn; subst hn; have := isName_le h; simp [this]
  | .two o a b, c, h, n, hn => by
    simp only [Ex.nds, List.mem_append, List.mem_singleton] at hn
    rcases hn with hn | hn | hn
    · exact nds_small a _ h.2.2.2.1 n hn
    · exact nds_small b _ h.2.2.2.2 n hn
    · subst hn; simp
  | .thr a b d, c, h, n, hn => by
    simp only [Ex.nds, List.mem_append, List.mem_singleton] at hn
    rcases hn with hn | hn | hn | hn
    · exact nds_small a _ h.1 n hn
    · exact nds_small b _ h.2.1 n hn
    · exact nds_small d _ h.2.2 n hn
    · subst hn; simp
theorem OkNds.small {nd : List Nd} (h : OkNds nd) : ∀ n ∈ nd, n.name.length ≤ 32 ∧ n.kids.length ≤ 3 := by
  obtain ⟨e, h1, rfl, h2, h3⟩ := h.ex
  exact nds_small e 0 h1
theorem parse_ok {s : List UInt8} {nd : List Nd} (h : parseS s = .ok nd) : OkNds nd := by
  obtain ⟨w, e, h1, h2, h3, h4, h5⟩ := of_parse h
  obtain ⟨rfl, h6, h7⟩ := resX_ok h4
  exact ⟨e, h5, rfl, h6, h7⟩
end Go.Proofs.YthekpjhffciakaaDoor

namespace Go.Proofs.YthekpjhffciakaaDoor
open Go PG Go.Proofs
set_option linter.unusedSimpArgs false
set_option linter.unusedVariables false
set_option maxHeartbeats 4000000
set_option maxRecDepth 100000
theorem gW2 : G0 0 = some (some 10, wordsP) := rfl
abbrev trO (l : List Nd) : MObj := .var (some 1) (.agg [.list (some 4) (l.map ndP)])
abbrev txO : MObj := .var none (.fn 55 [] [.ref 0 0, .ref 1 0])
/-- A text, as a contract: the tree and the closure stay as they are. -/
def TxC (l : List Nd) (i least : Int) (ν : Mem) (r : List UInt8) : Prop :=
  PCalls Tryd.prog G0 55 [.int .i64 i, .int .i64 least, .ref 0 0, .ref 1 0] (some (trO l) :: some txO :: ν) (fun _ => false) (fun p μ' => p = .str r ∧ μ' = some (trO l) :: some txO :: ν)
theorem TxC.frame {l : List Nd} {i least : Int} {r : List UInt8} (h : TxC l i least [] r) (ν : Mem) (hν : ν.map (Option.map (MObj.kill fun _ => false)) = ν) : TxC l i least ν r := by
  have := PCalls.frame h ν (by rintro p μ' ⟨-, rfl⟩; rfl) (by simp [PV.kill]) (by simp [MObj.kill, PV.kill]) hν
  intro w κ vs hS hG hr
  refine (this w κ vs hS hG hr).mono ?_
  rintro e w' ⟨v, p, μ', κ', rfl, ⟨μ1, ⟨rfl, rfl⟩, rfl⟩, hS', hv, hg⟩
  exact ⟨v, _, _, κ', rfl, ⟨rfl, rfl⟩, hS', hv, hg⟩
theorem word_at (j : Nat) (h : j ≤ 9) : cut (some 10) none wordsP (0 + j * 1) = .str (wordM j) := by
  have : j = 0 ∨ j = 1 ∨ j = 2 ∨ j = 3 ∨ j = 4 ∨ j = 5 ∨ j = 6 ∨ j = 7 ∨ j = 8 ∨ j = 9 := by omega
  rcases this with rfl | rfl | rfl | rfl | rfl | rfl | rfl | rfl | rfl | rfl <;> rfl
theorem v55 (l : List Nd) (hl : l.length ≤ 256) : ∀ (k : Nat), k ≤ 16 → ∀ (i least : Int), fitsD l k i → TxC l i least [] (textM l k i least)
  | 0, _, i, least, h => h.elim
  | k + 1, hk16, i, least, h => by
    have ih : ∀ i least, fitsD l k i → TxC l i least [] (textM l k i least) := fun i least h => v55 l hl k (by omega) i least h
    have hle := text_le l k
    have hB : 100 * 4 ^ k ≤ 429496729600 := by
      have : 4 ^ k ≤ 4 ^ 16 := Nat.pow_le_pow_right (by omega) (by omega)
      have e : (4 : Nat) ^ 16 = 4294967296 := rfl
      omega
    generalize 100 * 4 ^ k = B at hle hB
    obtain ⟨h1, h2, h3, h4⟩ := h
    refine PCalls.moves (mv := fun t => decide (2 ≤ t)) (fun t ht h => ?_) ?_
    · simp only [List.length_cons, List.length_nil] at ht
      simp only [decide_eq_true_eq] at h; omega
    refine PCalls.of_PW Tryd.func55 k55d mix (by simp [c55d]) ?_
    simp only [c55d, L55d, CC, argE, trO, txO]
    obtain ⟨i, rfl⟩ : ∃ m : Nat, i = m := ⟨i.toNat, by omega⟩
    have hit : ((i : Int)).toNat = i := by omega
    rw [hit] at h2 h3 h4
    have hll : ((l.map ndP).length : Nat) = l.length := by simp
    have hgn : (l.map ndP).getD i .junk = .agg [.int .i64 (l.getD i default).op, .int .i64 (l.getD i default).num, .str (l.getD i default).name, .list none ((l.getD i default).kids.map (PV.int .i64))] := by simp [List.getD, h2, ndP, ndC, kidsP]
    unfold textM
    rw [hit]
    generalize l.getD i default = n at *
    obtain ⟨n0, n9, nnum, nname, nkids, ntwo⟩ := h3
    obtain ⟨op, hop⟩ : ∃ m : Nat, n.op = m := ⟨n.op.toNat, by omega⟩
    rw [hop] at n0 n9 nnum ntwo ⊢
    rw [hop] at hgn
    have hsc : ∀ (a b : Int) (t : List UInt8) (ks : List PV), ∀ x ∈ [PV.int IntKind.i64 a, PV.int IntKind.i64 b, PV.str t, PV.list none ks], x.scalar = true := by
      intro a b t ks x hc; simp at hc; rcases hc with rfl | rfl | rfl | rfl <;> rfl
    have hwa := word_at op (by omega)
    have hwl := word_le op
    have h56 := v56 (G := G0) op
    have hot : ((op : Int)).toNat = op := by omega
    have hkl : ((n.kids.map (PV.int .i64)).length : Nat) = n.kids.length := by simp
    have bw : 0 + op * 1 + 1 ≤ wordsP.cells.length := by
      have : wordsP.cells.length = 10 := rfl
      omega
    repeat' (first | exact True.intro | exact hsc _ _ _ _ | exact (rfl : (some 4 : Sh) = some 4) | (exact Or.inr ⟨rfl, by decide⟩) | (refine PW.stop (x := .seq (.region false (⟨some 17, none, .rd (.fldAddr 0) [.tmp 7]⟩ :: _) _) _) ?_) | (refine PW.seqK ?_; intro K hK) | refine pwB ?_ | refine pwS ?_ | refine pwL ?_ | refine pwE ?_ | refine pwR ?_ | refine pwK ?_ | refine seqK_n ‹_› ?_ | refine seqK_r ‹_› ?_ | refine seqK_e ‹_› ?_ | refine PW.regionA ?_ | exact schedW_stop_i | refine schK_n ‹_› ?_ | (refine schedW_alt_k ?_ ?_; focus (intro K hK; simp only [hll, hgn, SA, Nat.reduceAdd, reduceIte, Nat.reduceEqDiff, Nat.reduceBEq, reduceCtorEq]; (try go_unwrap; try simp only [hll, hgn, RR, reduceCtorEq]))) | (refine PW.cond rfl ?_ ?_ <;> intro hcond <;> (try contradiction) <;> try simp only [DD] at hcond) | (refine gd_i ?_; intro hg; try simp only [hg]) | ((first | show (_ : Nat) ≤ _ | show (_ : Nat) < _ | show (_ : Int) ≤ _ | show (_ : Int) < _ | show (_ : Nat) = _ | show (_ : Int) = _ | show (_ : Bool) = _ | show _ ∨ _ | show ¬ _); first | omega | (simp only [DD, LL] <;> omega) | (go_unwrap; omega)) | ((first | refine PW.region ?_ | refine PW.regionQ ?_ | refine schedW_done_i ?_ | show (_ : Post) _ _ _ | show @Eq (List PV) _ _ | show @Eq Bool _ _ | show opsW _ _ _ _ _ _ _ _ | show okAll _ | show @Eq Bool _ _ ∨ _); focus (simp only [hll, hgn, SA, Nat.reduceAdd, reduceIte, Nat.reduceEqDiff, Nat.reduceBEq, reduceCtorEq]; (try go_unwrap; try simp only [hll, hgn, RR, reduceCtorEq]))) | refine And.intro ?_ ?_ | exact Or.inr ⟨rfl, Nat.le_refl _⟩ | exact (fun h => Bool.noConfusion h))
    refine ⟨?_⟩
    refine PW.frzV 7 2 (some 4) _ rfl rfl ⟨_, rfl, rfl, hsc _ _ _ _⟩ (by intro c hc; simp only [PV.cells, List.mem_cons, List.not_mem_nil, or_false] at hc; rcases hc with rfl | rfl | rfl | rfl <;> simp [PV.noOwn]) rfl ?_
    simp only [frzE, frzMem, List.map_cons, List.map_nil, PV.frz, MObj.frz, frzM, frzSl, SA, Nat.reduceAdd, reduceIte, Nat.reduceEqDiff, Nat.reduceBEq, reduceCtorEq]
    refine PW.trim 2 (fun t h => by simp [h]) ?_
    simp only [trimE, trimM, List.take_succ_cons, List.take_zero, List.map_cons, List.map_nil, Option.map_some, Option.map_none, MObj.kill, PV.kill, Nat.reduceLeDiff, decide_true, decide_false, dec_true, dec_false, Bool.false_eq_true, if_false, if_true, reduceIte]
    by_cases o0 : op = 0
    · subst o0
      obtain ⟨m1, m2⟩ := nnum rfl
      have h57 := v57 (G := G0) n.num.toNat (by omega)
      have hnn : ((n.num.toNat : Nat) : Int) = n.num := by omega
      rw [hnn] at h57
      repeat' (first | exact True.intro | (exact Or.inr bw) | (exact Or.inr (by decide)) | (refine PW.seqK ?_; intro K hK) | refine pwB ?_ | refine pwS ?_ | refine pwL ?_ | refine pwE ?_ | refine pwR ?_ | refine pwK ?_ | refine seqK_n ‹_› ?_ | refine seqK_r ‹_› ?_ | refine seqK_e ‹_› ?_ | refine PW.regionA ?_ | exact schedW_stop_i | refine schK_n ‹_› ?_ | (refine schedW_alt_k ?_ ?_; focus (intro K hK; simp only [gW2, evalO, hot, hwa, SA, Nat.reduceAdd, reduceIte, Nat.reduceEqDiff, Nat.reduceBEq, reduceCtorEq]; (try go_unwrap; try simp only [gW2, evalO, hot, hwa, RR, reduceCtorEq]))) | (refine PW.cond rfl ?_ ?_ <;> intro hcond <;> (try contradiction) <;> try simp only [DD] at hcond) | (refine gd_i ?_; intro hg; try simp only [hg]) | refine goCall_W e56 (h56) ?_ ?_ ?_ ?_ | refine goCall_W e57 (h57) ?_ ?_ ?_ ?_ | ((first | show (_ : Nat) ≤ _ | show (_ : Nat) < _ | show (_ : Int) ≤ _ | show (_ : Int) < _ | show (_ : Nat) = _ | show (_ : Int) = _ | show (_ : Bool) = _ | show _ ∨ _ | show ¬ _); first | omega | (simp only [DD, LL] <;> omega) | (go_unwrap; omega)) | ((first | refine PW.region ?_ | refine PW.regionQ ?_ | refine schedW_done_i ?_ | show (_ : Post) _ _ _ | show @Eq (List PV) _ _ | show @Eq Bool _ _ | show opsW _ _ _ _ _ _ _ _ | show okAll _ | show @Eq Bool _ _ ∨ _); focus (simp only [gW2, evalO, hot, hwa, SA, Nat.reduceAdd, reduceIte, Nat.reduceEqDiff, Nat.reduceBEq, reduceCtorEq]; (try go_unwrap; try simp only [gW2, evalO, hot, hwa, RR, reduceCtorEq]))) | refine And.intro ?_ ?_ | exact Or.inr ⟨rfl, Nat.le_refl _⟩ | exact (fun h => Bool.noConfusion h))
      all_goals simp
    by_cases o1 : op = 1
    · subst o1
      repeat' (first | exact True.intro | (exact Or.inr bw) | (exact Or.inr (by decide)) | (refine PW.seqK ?_; intro K hK) | refine pwB ?_ | refine pwS ?_ | refine pwL ?_ | refine pwE ?_ | refine pwR ?_ | refine pwK ?_ | refine seqK_n ‹_› ?_ | refine seqK_r ‹_› ?_ | refine seqK_e ‹_› ?_ | refine PW.regionA ?_ | exact schedW_stop_i | refine schK_n ‹_› ?_ | (refine schedW_alt_k ?_ ?_; focus (intro K hK; simp only [gW2, evalO, hot, hwa, SA, Nat.reduceAdd, reduceIte, Nat.reduceEqDiff, Nat.reduceBEq, reduceCtorEq]; (try go_unwrap; try simp only [gW2, evalO, hot, hwa, RR, reduceCtorEq]))) | (refine PW.cond rfl ?_ ?_ <;> intro hcond <;> (try contradiction) <;> try simp only [DD] at hcond) | (refine gd_i ?_; intro hg; try simp only [hg]) | refine goCall_W e56 (h56) ?_ ?_ ?_ ?_ | ((first | show (_ : Nat) ≤ _ | show (_ : Nat) < _ | show (_ : Int) ≤ _ | show (_ : Int) < _ | show (_ : Nat) = _ | show (_ : Int) = _ | show (_ : Bool) = _ | show _ ∨ _ | show ¬ _); first | omega | (simp only [DD, LL] <;> omega) | (go_unwrap; omega)) | ((first | refine PW.region ?_ | refine PW.regionQ ?_ | refine schedW_done_i ?_ | show (_ : Post) _ _ _ | show @Eq (List PV) _ _ | show @Eq Bool _ _ | show opsW _ _ _ _ _ _ _ _ | show okAll _ | show @Eq Bool _ _ ∨ _); focus (simp only [gW2, evalO, hot, hwa, SA, Nat.reduceAdd, reduceIte, Nat.reduceEqDiff, Nat.reduceBEq, reduceCtorEq]; (try go_unwrap; try simp only [gW2, evalO, hot, hwa, RR, reduceCtorEq]))) | refine And.intro ?_ ?_ | exact Or.inr ⟨rfl, Nat.le_refl _⟩ | exact (fun h => Bool.noConfusion h))
      all_goals simp
    have q0 : decide ((op : Int) = 0) = false := by simp only [decide_eq_false_iff_not]; omega
    have q1 : decide ((op : Int) = 1) = false := by simp only [decide_eq_false_iff_not]; omega
    have z0 : ¬ ((op : Int) = 0) := by omega
    have z1 : ¬ ((op : Int) = 1) := by omega
    rw [if_neg z0, if_neg z1]
    by_cases o5 : 5 ≤ op
    · have hs3 : strongM op = 3 := by unfold strongM; rw [if_neg (by omega), if_neg (by omega)]
      rw [hs3] at h56
      rw [if_pos hs3]
      repeat' (first | exact True.intro | (exact Or.inr bw) | (exact Or.inr (by decide)) | (refine PW.seqK ?_; intro K hK) | refine pwB ?_ | refine pwS ?_ | refine pwL ?_ | refine pwE ?_ | refine pwR ?_ | refine pwK ?_ | refine seqK_n ‹_› ?_ | refine seqK_r ‹_› ?_ | refine seqK_e ‹_› ?_ | refine PW.regionA ?_ | exact schedW_stop_i | refine schK_n ‹_› ?_ | (refine schedW_alt_k ?_ ?_; focus (intro K hK; simp only [gW2, evalO, hot, hwa, hkl, q0, q1, SA, Nat.reduceAdd, reduceIte, Nat.reduceEqDiff, Nat.reduceBEq, reduceCtorEq]; (try go_unwrap; try simp only [gW2, evalO, hot, hwa, hkl, q0, q1, RR, reduceCtorEq]))) | (refine PW.cond rfl ?_ ?_ <;> intro hcond <;> (try contradiction) <;> try simp only [DD] at hcond) | (refine gd_i ?_; intro hg; try simp only [hg]) | refine goCall_W e56 (h56) ?_ ?_ ?_ ?_ | ((first | show (_ : Nat) ≤ _ | show (_ : Nat) < _ | show (_ : Int) ≤ _ | show (_ : Int) < _ | show (_ : Nat) = _ | show (_ : Int) = _ | show (_ : Bool) = _ | show _ ∨ _ | show ¬ _); first | omega | (simp only [DD, LL] <;> omega) | (go_unwrap; omega)) | ((first | refine PW.region ?_ | refine PW.regionQ ?_ | refine schedW_done_i ?_ | show (_ : Post) _ _ _ | show @Eq (List PV) _ _ | show @Eq Bool _ _ | show opsW _ _ _ _ _ _ _ _ | show okAll _ | show @Eq Bool _ _ ∨ _); focus (simp only [gW2, evalO, hot, hwa, hkl, q0, q1, SA, Nat.reduceAdd, reduceIte, Nat.reduceEqDiff, Nat.reduceBEq, reduceCtorEq]; (try go_unwrap; try simp only [gW2, evalO, hot, hwa, hkl, q0, q1, RR, reduceCtorEq]))) | refine And.intro ?_ ?_ | exact Or.inr ⟨rfl, Nat.le_refl _⟩ | exact (fun h => Bool.noConfusion h))
      refine PW.loop (σ := Nat × List UInt8) [2, 3, 9, 43, 44, 45] (fun q => [.ref 0 0, .ref 1 0, .str q.2, .list none (n.kids.map (PV.int .i64)), .int .i64 n.kids.length, .int .i64 q.1]) (fun _ => [some (.var (some 1) (.agg [.list (some 4) (l.map ndP)])), some (.var none (.fn 55 [] [.ref 0 0, .ref 1 0]))])
        (fun q => q.1 ≤ n.kids.length ∧ q.2.length ≤ 6 + q.1 * (B + 1) ∧ joinL (fun c => textM l k c 0) n.kids 0 (wordM op ++ [40]) = joinL (fun c => textM l k c 0) (n.kids.drop q.1) q.1 q.2) (fun q => n.kids.length - q.1) (0, wordM op ++ [40]) ?_ ?_ ⟨by simp, by simp; omega, by simp⟩ ?_
      · simp only [SA, Nat.reduceAdd, reduceIte, Nat.reduceEqDiff, Nat.reduceBEq, reduceCtorEq]; rfl
      · rfl
      rintro ⟨j, s⟩ ⟨hj, hsl, hjn⟩
      simp only at hj hsl hjn
      simp only [List.zip_cons_cons, List.zip_nil_left]
      rcases Nat.lt_or_ge j n.kids.length with h | h
      · obtain ⟨c, hd, hc, hg⟩ := drop_at h
        have hfc := h4 c (List.mem_of_getElem? hc)
        have htx := ih c 0 hfc
        have htl := hle c 0 hfc
        simp only [TxC, trO, txO] at htx
        have hgc := (hg (PV.int .i64)).1
        have dj : decide ((j : Int) < n.kids.length) = true := by simp only [decide_eq_true_eq]; omega
        rw [hd, joinL] at hjn
        generalize hT : textM l k c 0 = T at *
        have hmul : (j + 1) * (B + 1) = j * (B + 1) + (B + 1) := by rw [Nat.add_mul, Nat.one_mul]
        have hjb : j * (B + 1) ≤ 3 * (B + 1) := Nat.mul_le_mul_right _ (by omega)
        by_cases hj0 : 0 < j
        · have d0 : decide ((0 : Int) < j) = true := by simp only [decide_eq_true_eq]; omega
          rw [if_pos hj0] at hjn
          repeat' (first | exact True.intro | (refine PW.seqK ?_; intro K hK) | refine pwB ?_ | refine pwS ?_ | refine pwL ?_ | refine pwE ?_ | refine pwR ?_ | refine pwK ?_ | refine seqK_n ‹_› ?_ | refine seqK_r ‹_› ?_ | refine seqK_e ‹_› ?_ | refine PW.regionA ?_ | exact schedW_stop_i | refine schK_n ‹_› ?_ | (refine schedW_alt_k ?_ ?_; focus (intro K hK; simp only [hkl, hgc, dj, d0, SA, Nat.reduceAdd, reduceIte, Nat.reduceEqDiff, Nat.reduceBEq, reduceCtorEq]; (try go_unwrap; try simp only [hkl, hgc, dj, d0, RR, reduceCtorEq]))) | (refine PW.cond rfl ?_ ?_ <;> intro hcond <;> (try contradiction) <;> try simp only [DD] at hcond) | (refine goCall_P e55 htx ?_; rintro p μ' ⟨rfl, rfl⟩; simp only [hkl, hgc, dj, d0, SA, Nat.reduceAdd, reduceIte, Nat.reduceEqDiff, Nat.reduceBEq, reduceCtorEq]) | (refine gd_i ?_; intro hg; try simp only [hg]) | ((first | show (_ : Nat) ≤ _ | show (_ : Nat) < _ | show (_ : Int) ≤ _ | show (_ : Int) < _ | show (_ : Nat) = _ | show (_ : Int) = _ | show (_ : Bool) = _ | show _ ∨ _ | show ¬ _); first | omega | (simp only [DD, LL] <;> omega) | (go_unwrap; omega)) | ((first | refine PW.region ?_ | refine PW.regionQ ?_ | refine schedW_done_i ?_ | show (_ : Post) _ _ _ | show @Eq (List PV) _ _ | show @Eq Bool _ _ | show opsW _ _ _ _ _ _ _ _ | show okAll _ | show @Eq Bool _ _ ∨ _); focus (simp only [hkl, hgc, dj, d0, SA, Nat.reduceAdd, reduceIte, Nat.reduceEqDiff, Nat.reduceBEq, reduceCtorEq]; (try go_unwrap; try simp only [hkl, hgc, dj, d0, RR, reduceCtorEq]))) | refine And.intro ?_ ?_ | exact Or.inr ⟨rfl, Nat.le_refl _⟩ | exact (fun h => Bool.noConfusion h))
          all_goals first | exact ⟨(j + 1, (s ++ [44]) ++ T), rfl, ⟨by simp only; omega, by simp; omega, hjn⟩, by simp only; omega⟩ | (simp; omega)
        · have d0 : decide ((0 : Int) < j) = false := by simp only [decide_eq_false_iff_not]; omega
          rw [if_neg hj0] at hjn
          repeat' (first | exact True.intro | (refine PW.seqK ?_; intro K hK) | refine pwB ?_ | refine pwS ?_ | refine pwL ?_ | refine pwE ?_ | refine pwR ?_ | refine pwK ?_ | refine seqK_n ‹_› ?_ | refine seqK_r ‹_› ?_ | refine seqK_e ‹_› ?_ | refine PW.regionA ?_ | exact schedW_stop_i | refine schK_n ‹_› ?_ | (refine schedW_alt_k ?_ ?_; focus (intro K hK; simp only [hkl, hgc, dj, d0, SA, Nat.reduceAdd, reduceIte, Nat.reduceEqDiff, Nat.reduceBEq, reduceCtorEq]; (try go_unwrap; try simp only [hkl, hgc, dj, d0, RR, reduceCtorEq]))) | (refine PW.cond rfl ?_ ?_ <;> intro hcond <;> (try contradiction) <;> try simp only [DD] at hcond) | (refine goCall_P e55 htx ?_; rintro p μ' ⟨rfl, rfl⟩; simp only [hkl, hgc, dj, d0, SA, Nat.reduceAdd, reduceIte, Nat.reduceEqDiff, Nat.reduceBEq, reduceCtorEq]) | (refine gd_i ?_; intro hg; try simp only [hg]) | ((first | show (_ : Nat) ≤ _ | show (_ : Nat) < _ | show (_ : Int) ≤ _ | show (_ : Int) < _ | show (_ : Nat) = _ | show (_ : Int) = _ | show (_ : Bool) = _ | show _ ∨ _ | show ¬ _); first | omega | (simp only [DD, LL] <;> omega) | (go_unwrap; omega)) | ((first | refine PW.region ?_ | refine PW.regionQ ?_ | refine schedW_done_i ?_ | show (_ : Post) _ _ _ | show @Eq (List PV) _ _ | show @Eq Bool _ _ | show opsW _ _ _ _ _ _ _ _ | show okAll _ | show @Eq Bool _ _ ∨ _); focus (simp only [hkl, hgc, dj, d0, SA, Nat.reduceAdd, reduceIte, Nat.reduceEqDiff, Nat.reduceBEq, reduceCtorEq]; (try go_unwrap; try simp only [hkl, hgc, dj, d0, RR, reduceCtorEq]))) | refine And.intro ?_ ?_ | exact Or.inr ⟨rfl, Nat.le_refl _⟩ | exact (fun h => Bool.noConfusion h))
          all_goals first | exact ⟨(j + 1, s ++ T), rfl, ⟨by simp only; omega, by simp; omega, hjn⟩, by simp only; omega⟩ | (simp; omega)
      · have dj : decide ((j : Int) < n.kids.length) = false := by simp only [decide_eq_false_iff_not]; omega
        rw [List.drop_eq_nil_of_le h, joinL] at hjn
        have hjb : j * (B + 1) ≤ 3 * (B + 1) := Nat.mul_le_mul_right _ (by omega)
        repeat' (first | exact True.intro | (refine PW.seqK ?_; intro K hK) | refine pwB ?_ | refine pwS ?_ | refine pwL ?_ | refine pwE ?_ | refine pwR ?_ | refine pwK ?_ | refine seqK_n ‹_› ?_ | refine seqK_r ‹_› ?_ | refine seqK_e ‹_› ?_ | refine PW.regionA ?_ | exact schedW_stop_i | refine schK_n ‹_› ?_ | (refine schedW_alt_k ?_ ?_; focus (intro K hK; simp only [hkl, dj, SA, Nat.reduceAdd, reduceIte, Nat.reduceEqDiff, Nat.reduceBEq, reduceCtorEq]; (try go_unwrap; try simp only [hkl, dj, RR, reduceCtorEq]))) | (refine PW.cond rfl ?_ ?_ <;> intro hcond <;> (try contradiction) <;> try simp only [DD] at hcond) | (refine gd_i ?_; intro hg; try simp only [hg]) | ((first | show (_ : Nat) ≤ _ | show (_ : Nat) < _ | show (_ : Int) ≤ _ | show (_ : Int) < _ | show (_ : Nat) = _ | show (_ : Int) = _ | show (_ : Bool) = _ | show _ ∨ _ | show ¬ _); first | omega | (simp only [DD, LL] <;> omega) | (go_unwrap; omega)) | ((first | refine PW.region ?_ | refine PW.regionQ ?_ | refine schedW_done_i ?_ | show (_ : Post) _ _ _ | show @Eq (List PV) _ _ | show @Eq Bool _ _ | show opsW _ _ _ _ _ _ _ _ | show okAll _ | show @Eq Bool _ _ ∨ _); focus (simp only [hkl, dj, SA, Nat.reduceAdd, reduceIte, Nat.reduceEqDiff, Nat.reduceBEq, reduceCtorEq]; (try go_unwrap; try simp only [hkl, dj, RR, reduceCtorEq]))) | refine And.intro ?_ ?_ | exact Or.inr ⟨rfl, Nat.le_refl _⟩ | exact (fun h => Bool.noConfusion h))
        all_goals first | (rw [hjn]; done) | rfl | (simp; omega)
    have hst : 1 ≤ strongM op ∧ strongM op ≤ 2 := by
      unfold strongM
      by_cases a : (op : Int) = 2 ∨ (op : Int) = 3
      · rw [if_pos a]; omega
      · rw [if_neg a, if_pos (by omega)]; omega
    have hs3 : ¬ strongM op = 3 := by omega
    rw [if_neg hs3]
    have k2 := ntwo (by omega) (by omega)
    obtain ⟨a, b, hab⟩ : ∃ a b, n.kids = [a, b] := by
      match n.kids, k2 with
      | [a, b], _ => exact ⟨a, b, rfl⟩
    rw [hab] at h4 ⊢
    simp only [List.map_cons, List.map_nil, List.getD_cons_zero, List.getD_cons_succ]
    have hfa := h4 a (by simp)
    have hfb := h4 b (by simp)
    have hta := ih a (strongM op) hfa
    have htb := ih b (strongM op + 1) hfb
    have hla := hle a (strongM op) hfa
    have hlb := hle b (strongM op + 1) hfb
    simp only [TxC, trO, txO] at hta htb
    generalize textM l k a (strongM op) = Ta at *
    generalize textM l k b (strongM op + 1) = Tb at *
    have q3 : decide (strongM op = 3) = false := by simp only [decide_eq_false_iff_not]; exact hs3
    have wp : IntKind.i64.wrap (strongM op + 1) = strongM op + 1 := IntWalk.i64_in _ (by omega)
    generalize strongM op = st at *
    generalize wordM op = W at *
    by_cases hlt : st < least
    · rw [if_pos hlt]
      repeat' (first | exact True.intro | (refine PW.seqA (E := ?_) (M := ?_) ?_ ?_; rotate_left 2) | exact mergeQ_mk _ _ | (exact Or.inr bw) | (exact Or.inr (by decide)) | (refine PW.seqK ?_; intro K hK) | refine pwB ?_ | refine pwS ?_ | refine pwL ?_ | refine pwE ?_ | refine pwR ?_ | refine pwK ?_ | refine seqK_n ‹_› ?_ | refine seqK_r ‹_› ?_ | refine seqK_e ‹_› ?_ | refine PW.regionA ?_ | exact schedW_stop_i | refine schK_n ‹_› ?_ | (refine schedW_alt_k ?_ ?_; focus (intro K hK; simp only [PV.bin, PV.binOk, binI, gW2, evalO, hot, hwa, hkl, q0, q1, q3, wp, decide_eq_true hlt, SA, Nat.reduceAdd, reduceIte, Nat.reduceEqDiff, Nat.reduceBEq, reduceCtorEq]; (try go_unwrap; try simp only [PV.bin, PV.binOk, binI, gW2, evalO, hot, hwa, hkl, q0, q1, q3, wp, decide_eq_true hlt, RR, reduceCtorEq]))) | (refine PW.cond rfl ?_ ?_ <;> intro hcond <;> (try contradiction) <;> try simp only [DD] at hcond) | (refine goCall_P e55 hta ?_; rintro p μ' ⟨rfl, rfl⟩; simp only [PV.bin, PV.binOk, binI, gW2, evalO, hot, hwa, hkl, q0, q1, q3, wp, decide_eq_true hlt, SA, Nat.reduceAdd, reduceIte, Nat.reduceEqDiff, Nat.reduceBEq, reduceCtorEq]) | (refine goCall_P e55 htb ?_; rintro p μ' ⟨rfl, rfl⟩; simp only [PV.bin, PV.binOk, binI, gW2, evalO, hot, hwa, hkl, q0, q1, q3, wp, decide_eq_true hlt, SA, Nat.reduceAdd, reduceIte, Nat.reduceEqDiff, Nat.reduceBEq, reduceCtorEq]) | (refine gd_i ?_; intro hg; try simp only [hg]) | refine goCall_W e56 (h56) ?_ ?_ ?_ ?_ | ((first | show (_ : Nat) ≤ _ | show (_ : Nat) < _ | show (_ : Int) ≤ _ | show (_ : Int) < _ | show (_ : Nat) = _ | show (_ : Int) = _ | show (_ : Bool) = _ | show _ ∨ _ | show ¬ _); first | omega | (simp only [DD, LL] <;> omega) | (go_unwrap; omega)) | ((first | refine PW.region ?_ | refine PW.regionQ ?_ | refine schedW_done_i ?_ | show (_ : Post) _ _ _ | show @Eq (List PV) _ _ | show @Eq Bool _ _ | show opsW _ _ _ _ _ _ _ _ | show okAll _ | show @Eq Bool _ _ ∨ _); focus (simp only [PV.bin, PV.binOk, binI, gW2, evalO, hot, hwa, hkl, q0, q1, q3, wp, decide_eq_true hlt, SA, Nat.reduceAdd, reduceIte, Nat.reduceEqDiff, Nat.reduceBEq, reduceCtorEq]; (try go_unwrap; try simp only [PV.bin, PV.binOk, binI, gW2, evalO, hot, hwa, hkl, q0, q1, q3, wp, decide_eq_true hlt, RR, reduceCtorEq]))) | refine And.intro ?_ ?_ | exact Or.inr ⟨rfl, Nat.le_refl _⟩ | exact (fun h => Bool.noConfusion h))
      all_goals first | rfl | (simp; omega)
    · rw [if_neg hlt]
      repeat' (first | exact True.intro | (refine PW.seqA (E := ?_) (M := ?_) ?_ ?_; rotate_left 2) | exact mergeQ_mk _ _ | (exact Or.inr bw) | (exact Or.inr (by decide)) | (refine PW.seqK ?_; intro K hK) | refine pwB ?_ | refine pwS ?_ | refine pwL ?_ | refine pwE ?_ | refine pwR ?_ | refine pwK ?_ | refine seqK_n ‹_› ?_ | refine seqK_r ‹_› ?_ | refine seqK_e ‹_› ?_ | refine PW.regionA ?_ | exact schedW_stop_i | refine schK_n ‹_› ?_ | (refine schedW_alt_k ?_ ?_; focus (intro K hK; simp only [PV.bin, PV.binOk, binI, gW2, evalO, hot, hwa, hkl, q0, q1, q3, wp, decide_eq_false hlt, SA, Nat.reduceAdd, reduceIte, Nat.reduceEqDiff, Nat.reduceBEq, reduceCtorEq]; (try go_unwrap; try simp only [PV.bin, PV.binOk, binI, gW2, evalO, hot, hwa, hkl, q0, q1, q3, wp, decide_eq_false hlt, RR, reduceCtorEq]))) | (refine PW.cond rfl ?_ ?_ <;> intro hcond <;> (try contradiction) <;> try simp only [DD] at hcond) | (refine goCall_P e55 hta ?_; rintro p μ' ⟨rfl, rfl⟩; simp only [PV.bin, PV.binOk, binI, gW2, evalO, hot, hwa, hkl, q0, q1, q3, wp, decide_eq_false hlt, SA, Nat.reduceAdd, reduceIte, Nat.reduceEqDiff, Nat.reduceBEq, reduceCtorEq]) | (refine goCall_P e55 htb ?_; rintro p μ' ⟨rfl, rfl⟩; simp only [PV.bin, PV.binOk, binI, gW2, evalO, hot, hwa, hkl, q0, q1, q3, wp, decide_eq_false hlt, SA, Nat.reduceAdd, reduceIte, Nat.reduceEqDiff, Nat.reduceBEq, reduceCtorEq]) | (refine gd_i ?_; intro hg; try simp only [hg]) | refine goCall_W e56 (h56) ?_ ?_ ?_ ?_ | ((first | show (_ : Nat) ≤ _ | show (_ : Nat) < _ | show (_ : Int) ≤ _ | show (_ : Int) < _ | show (_ : Nat) = _ | show (_ : Int) = _ | show (_ : Bool) = _ | show _ ∨ _ | show ¬ _); first | omega | (simp only [DD, LL] <;> omega) | (go_unwrap; omega)) | ((first | refine PW.region ?_ | refine PW.regionQ ?_ | refine schedW_done_i ?_ | show (_ : Post) _ _ _ | show @Eq (List PV) _ _ | show @Eq Bool _ _ | show opsW _ _ _ _ _ _ _ _ | show okAll _ | show @Eq Bool _ _ ∨ _); focus (simp only [PV.bin, PV.binOk, binI, gW2, evalO, hot, hwa, hkl, q0, q1, q3, wp, decide_eq_false hlt, SA, Nat.reduceAdd, reduceIte, Nat.reduceEqDiff, Nat.reduceBEq, reduceCtorEq]; (try go_unwrap; try simp only [PV.bin, PV.binOk, binI, gW2, evalO, hot, hwa, hkl, q0, q1, q3, wp, decide_eq_false hlt, RR, reduceCtorEq]))) | refine And.intro ?_ ?_ | exact Or.inr ⟨rfl, Nat.le_refl _⟩ | exact (fun h => Bool.noConfusion h))
      all_goals first | rfl | (simp; omega)
end Go.Proofs.YthekpjhffciakaaDoor

namespace Go.Proofs.YthekpjhffciakaaDoor
open Go PG Go.Proofs
set_option linter.unusedSimpArgs false
set_option linter.unusedVariables false
set_option maxHeartbeats 4000000
set_option maxRecDepth 100000
theorem e26 : Ent Tryd.prog 26 := ⟨Tryd.f26, Tryd.func26, by kernel_rfl, by kernel_rfl⟩
theorem hasK0 : HasKids G0 := rfl
theorem v26 (l : List Nd) (hl : l.length ≤ 256) (hs : ∀ n ∈ l, n.name.length ≤ 9223372036854775807 ∧ n.kids.length ≤ 9223372036854775807) (hc : checkM l = 0) (hf : fitsD l 16 ((l.length : Int) - 1)) : VCalls Tryd.prog G0 26 [treeP l] (.str (textM l 16 ((l.length : Int) - 1) 0)) := by
  refine VCalls.of_PW Tryd.func26 k26 mix (by simp [c26]) ?_
  simp only [c26, L26, CC, argE]
  have h29 := v29 hasK0 l (by omega) hs
  rw [hc] at h29
  have htx := v55 l hl 16 (Nat.le_refl _) _ 0 hf
  simp only [TxC, trO, txO] at htx
  simp only [treeP] at h29 ⊢
  have hll : ((l.map ndP).length : Nat) = l.length := by simp
  have q0 : decide ((0 : Int) = 0) = true := rfl
  repeat' (first | exact True.intro | (exact Or.inr ⟨rfl, by decide⟩) | (refine PW.seqK ?_; intro K hK) | refine pwB ?_ | refine pwS ?_ | refine pwL ?_ | refine pwE ?_ | refine pwR ?_ | refine pwK ?_ | refine seqK_n ‹_› ?_ | refine seqK_r ‹_› ?_ | refine seqK_e ‹_› ?_ | refine PW.regionA ?_ | exact schedW_stop_i | refine schK_n ‹_› ?_ | (refine schedW_alt_k ?_ ?_; focus (intro K hK; simp only [hll, q0, SA, Nat.reduceAdd, reduceIte, Nat.reduceEqDiff, Nat.reduceBEq, reduceCtorEq]; (try go_unwrap; try simp only [hll, q0, RR, reduceCtorEq]))) | (refine PW.cond rfl ?_ ?_ <;> intro hcond <;> (try contradiction) <;> try simp only [DD] at hcond) | (refine goCall_P e55 htx ?_; rintro p μ' ⟨rfl, rfl⟩; simp only [hll, q0, SA, Nat.reduceAdd, reduceIte, Nat.reduceEqDiff, Nat.reduceBEq, reduceCtorEq]) | (refine gd_i ?_; intro hg; try simp only [hg]) | refine goCall_W e29 (h29) ?_ ?_ ?_ ?_ | ((first | show (_ : Nat) ≤ _ | show (_ : Nat) < _ | show (_ : Int) ≤ _ | show (_ : Int) < _ | show (_ : Nat) = _ | show (_ : Int) = _ | show (_ : Bool) = _ | show _ ∨ _ | show ¬ _); first | omega | (simp only [DD, LL] <;> omega) | (go_unwrap; omega)) | ((first | refine PW.region ?_ | refine PW.regionQ ?_ | refine schedW_done_i ?_ | show (_ : Post) _ _ _ | show @Eq (List PV) _ _ | show @Eq Bool _ _ | show opsW _ _ _ _ _ _ _ _ | show okAll _ | show @Eq Bool _ _ ∨ _); focus (simp only [hll, q0, SA, Nat.reduceAdd, reduceIte, Nat.reduceEqDiff, Nat.reduceBEq, reduceCtorEq]; (try go_unwrap; try simp only [hll, q0, RR, reduceCtorEq]))) | refine And.intro ?_ ?_ | exact Or.inr ⟨rfl, Nat.le_refl _⟩ | exact (fun h => Bool.noConfusion h))
end Go.Proofs.YthekpjhffciakaaDoor

namespace Go.Proofs.YthekpjhffciakaaDoor
open PG Go.Proofs
-- (wagebook/expr.Tree).Vars
def L34 : List Nat := [0, 1, 2, 3, 5, 8, 10, 11, 12, 13, 18]
def c34 : CF := ⟨29,
 .seq (.region false [⟨some 1, none, .eff (.box (some 1)) [.tmp 0]⟩,
 ⟨some 2, none, .rd .mov [.pv .nilSl]⟩] L34)
 (.seq (.seq (.region false [⟨some 6, none, .rd (.load (some 1)) [.tmp 1]⟩,
 ⟨some 7, none, .call (.pv (.fn 29 [] [])) [.tmp 6]⟩,
 ⟨some 8, none, .rd (.bin .neq) [.tmp 7, .pv (.int .i64 0)]⟩] L34)
 (.cond (.tmp 8)
 (.seq (.region false [⟨some 2, none, .rd .mov [.pv .nilSl]⟩] L34)
 (.ret))
 (.skip)))
 (.seq (.region false [⟨some 3, none, .rd .mov [.pv .nilSl]⟩] L34)
 (.seq (.seq (.region false [oF 0 9 1,
 oL 10 9,
 ⟨some 11, none, .rd .lenL [.tmp 10]⟩,
 ⟨some 12, none, .rd .mov [.pv (.int .i64 0)]⟩] L34)
 (.block 0
 (.loop
 (.seq (.region false [⟨some 13, none, .rd (.bin .lss) [.tmp 12, .tmp 11]⟩] L34)
 (.seq (.cond (.tmp 13)
 (.skip)
 (.exit 0))
 (.seq (.block 1
 (.seq (.region false [⟨some 14, none, .rd (.idxAddr (some 4)) [.tmp 10, .tmp 12]⟩,
 ⟨some 15, none, .rd (.load (some 4)) [.tmp 14]⟩,
 ⟨some 5, none, .eff (.alloc (some 4) (.agg [(.int .i64 0), (.int .i64 0), (.str []), .nilSl])) []⟩,
 ⟨none, none, .eff (.store (some 4)) [.tmp 5, .tmp 15]⟩] L34)
 (.seq (.region false [oF 0 16 5,
 oL 17 16,
 ⟨some 18, none, .rd (.bin .eql) [.tmp 17, .pv (.int .i64 1)]⟩] L34)
 (.cond (.tmp 18)
 (.region false [oM 19 3,
 oF 2 20 5,
 oL 21 20,
 ⟨some 22, none, .eff (.lit none false) [.tmp 21]⟩,
 ⟨some 23, none, .eff (.append none 16) [.tmp 19, .tmp 22]⟩,
 oM 3 23] L34)
 (.skip)))))
 (.region false [⟨some 24, none, .rd (.bin .add) [.tmp 12, .pv (.int .i64 1)]⟩,
 oM 12 24] L34)))))))
 (.seq (.region false [oM 25 3,
 ⟨some 26, none, .call (.pv (.fn 63 [] [])) [.tmp 25]⟩] L34)
 (.seq (.region false [oM 27 3,
 ⟨some 28, none, .call (.pv (.fn 64 [] [])) [.tmp 27]⟩,
 oM 2 28] L34)
 (.ret)))))),
 [.tmp 2]⟩

-- wagebook/wagebooklaw13.same
theorem k34 : compileF Tryd.prog [] L34 Tryd.f34 = some c34 := by kernel_rfl
end Go.Proofs.YthekpjhffciakaaDoor

namespace Go.Proofs.YthekpjhffciakaaDoor
open Go PG Go.Proofs Go.Shelf
set_option linter.unusedSimpArgs false
set_option linter.unusedVariables false
set_option maxHeartbeats 4000000
set_option maxRecDepth 100000
def Tryd.sortS_ren : Go.Shelf.Ren := ⟨fun | 6 => 63 | 8 => 93 | 9 => 92 | 19 => 116 | 20 => 117 | 21 => 107 | 22 => 108 | 23 => 109 | 24 => 110 | 25 => 111 | 26 => 112 | 27 => 113 | 28 => 114 | 29 => 115 | 36 => 132 | 31 => 133 | 32 => 134 | 37 => 135 | 38 => 136 | 39 => 137 | 41 => 141 | n => n, fun | 27 => 76 | 29 => 9 | 3 => 3 | 32 => 140 | 26 => 76 | 0 => 0 | 44 => 160 | 46 => 145 | 4 => 4 | 36 => 153 | 35 => 152 | 41 => 157 | 5 => 5 | 9 => 9 | 53 => 172 | 57 => 176 | 63 => 180 | 64 => 181 | n => n, fun | n => n⟩
theorem Tryd.sortS : Go.Proofs.SlLaysM.n6 Tryd.prog Tryd.sortS_ren := {
  mixed := by kernel_rfl
  f6 := ⟨Tryd.f63.name, by decide, Tryd.func63.trans (congrArg some (by kernel_rfl))⟩
  f8 := Tryd.func93.trans (congrArg some (by kernel_rfl))
  f9 := ⟨Tryd.f92.name, by decide, Tryd.func92.trans (congrArg some (by kernel_rfl))⟩
  f19 := Tryd.func116.trans (congrArg some (by kernel_rfl))
  f20 := Tryd.func117.trans (congrArg some (by kernel_rfl))
  f21 := ⟨Tryd.f107.name, by decide, Tryd.func107.trans (congrArg some (by kernel_rfl))⟩
  f22 := ⟨Tryd.f108.name, by decide, Tryd.func108.trans (congrArg some (by kernel_rfl))⟩
  f23 := ⟨Tryd.f109.name, by decide, Tryd.func109.trans (congrArg some (by kernel_rfl))⟩
  f24 := ⟨Tryd.f110.name, by decide, Tryd.func110.trans (congrArg some (by kernel_rfl))⟩
  f25 := ⟨Tryd.f111.name, by decide, Tryd.func111.trans (congrArg some (by kernel_rfl))⟩
  f26 := ⟨Tryd.f112.name, by decide, Tryd.func112.trans (congrArg some (by kernel_rfl))⟩
  f27 := ⟨Tryd.f113.name, by decide, Tryd.func113.trans (congrArg some (by kernel_rfl))⟩
  f28 := ⟨Tryd.f114.name, by decide, Tryd.func114.trans (congrArg some (by kernel_rfl))⟩
  f29 := ⟨Tryd.f115.name, by decide, Tryd.func115.trans (congrArg some (by kernel_rfl))⟩
  f31 := Tryd.func133.trans (congrArg some (by kernel_rfl))
  f32 := Tryd.func134.trans (congrArg some (by kernel_rfl))
  f36 := ⟨Tryd.f132.name, by decide, Tryd.func132.trans (congrArg some (by kernel_rfl))⟩
  f37 := ⟨Tryd.f135.name, by decide, Tryd.func135.trans (congrArg some (by kernel_rfl))⟩
  f38 := ⟨Tryd.f136.name, by decide, Tryd.func136.trans (congrArg some (by kernel_rfl))⟩
  f39 := ⟨Tryd.f137.name, by decide, Tryd.func137.trans (congrArg some (by kernel_rfl))⟩
  f41 := ⟨Tryd.f141.name, by decide, Tryd.func141.trans (congrArg some (by kernel_rfl))⟩
  t0 := Tryd.underlying0
  a0 := Tryd.isAgg0
  z0 := Tryd.sizeOf0
  v0 := Tryd.zeroValue0
  t3 := Tryd.underlying3
  a3 := Tryd.isAgg3
  z3 := Tryd.sizeOf3
  v3 := Tryd.zeroValue3
  t4 := Tryd.underlying4
  a4 := Tryd.isAgg4
  z4 := Tryd.sizeOf4
  v4 := Tryd.zeroValue4
  t5 := Tryd.underlying5
  a5 := Tryd.isAgg5
  z5 := Tryd.sizeOf5
  v5 := Tryd.zeroValue5
  t9 := Tryd.underlying9
  a9 := Tryd.isAgg9
  z9 := Tryd.sizeOf9
  v9 := Tryd.zeroValue9
  t26 := Tryd.underlying76
  a26 := Tryd.isAgg76
  z26 := Tryd.sizeOf76
  v26 := Tryd.zeroValue76
  t27 := Tryd.underlying76
  a27 := Tryd.isAgg76
  z27 := Tryd.sizeOf76
  v27 := Tryd.zeroValue76
  t29 := Tryd.underlying9
  a29 := Tryd.isAgg9
  z29 := Tryd.sizeOf9
  v29 := Tryd.zeroValue9
  t32 := Tryd.underlying140
  a32 := Tryd.isAgg140
  z32 := Tryd.sizeOf140
  v32 := Tryd.zeroValue140
  t35 := Tryd.underlying152
  a35 := Tryd.isAgg152
  z35 := Tryd.sizeOf152
  v35 := Tryd.zeroValue152
  t36 := Tryd.underlying153
  a36 := Tryd.isAgg153
  z36 := Tryd.sizeOf153
  v36 := Tryd.zeroValue153
  t41 := Tryd.underlying157
  a41 := Tryd.isAgg157
  z41 := Tryd.sizeOf157
  v41 := Tryd.zeroValue157
  t44 := Tryd.underlying160
  a44 := Tryd.isAgg160
  z44 := Tryd.sizeOf160
  v44 := Tryd.zeroValue160
  t46 := Tryd.underlying145
  a46 := Tryd.isAgg145
  z46 := Tryd.sizeOf145
  v46 := Tryd.zeroValue145
  t53 := Tryd.underlying172
  a53 := Tryd.isAgg172
  z53 := Tryd.sizeOf172
  v53 := Tryd.zeroValue172
  t57 := Tryd.underlying176
  a57 := Tryd.isAgg176
  z57 := Tryd.sizeOf176
  v57 := Tryd.zeroValue176
  t63 := Tryd.underlying180
  a63 := Tryd.isAgg180
  z63 := Tryd.sizeOf180
  v63 := Tryd.zeroValue180
  t64 := Tryd.underlying181
  a64 := Tryd.isAgg181
  z64 := Tryd.sizeOf181
  v64 := Tryd.zeroValue181 }
def Tryd.cmpS_ren : Go.Shelf.Ren := ⟨fun | 44 => 64 | n => n, fun | 25 => 76 | 26 => 9 | 3 => 3 | 4 => 4 | 0 => 0 | n => n, fun | n => n⟩
theorem Tryd.cmpS : Go.Proofs.SlLaysN.n44 Tryd.prog Tryd.cmpS_ren := {
  mixed := by kernel_rfl
  f44 := ⟨Tryd.f64.name, by decide, Tryd.func64.trans (congrArg some (by kernel_rfl))⟩
  t0 := Tryd.underlying0
  a0 := Tryd.isAgg0
  z0 := Tryd.sizeOf0
  v0 := Tryd.zeroValue0
  t3 := Tryd.underlying3
  a3 := Tryd.isAgg3
  z3 := Tryd.sizeOf3
  v3 := Tryd.zeroValue3
  t4 := Tryd.underlying4
  a4 := Tryd.isAgg4
  z4 := Tryd.sizeOf4
  v4 := Tryd.zeroValue4
  t25 := Tryd.underlying76
  a25 := Tryd.isAgg76
  z25 := Tryd.sizeOf76
  v25 := Tryd.zeroValue76
  t26 := Tryd.underlying9
  a26 := Tryd.isAgg9
  z26 := Tryd.sizeOf9
  v26 := Tryd.zeroValue9
  i26 := by kernel_rfl }
/-! Sorting, and dropping doubles, of a row of texts of one's own -/
theorem encStr_rep (w : World) (ex : Nat → Prop) (a : List UInt8) : RepC w ex (Value.string ⟨a.toArray⟩) (.str a) := RepC.str (w := w) (ex := ex) ⟨a.toArray⟩
theorem e63 : Ent Tryd.prog 63 := ⟨Tryd.f63, Tryd.func63, by kernel_rfl, by kernel_rfl⟩
theorem e64 : Ent Tryd.prog 64 := ⟨Tryd.f64, Tryd.func64, by kernel_rfl, by kernel_rfl⟩
abbrev sortT (ds : List (List UInt8)) : List (List UInt8) := ds.mergeSort fun x y => decide (x ≤ y)
theorem v63 {μ : Mem} {t : Nat} (ds : List (List UInt8)) (hl : ds.length ≤ 4000000000) (hm : μ.get t = some (.row none (ds.map PV.str))) :
    PCalls Tryd.prog G0 63 [.sl none t ds.length] μ (fun _ => false) (fun p μ' => p = .tup [] ∧ μ' = μ.set t (some (.row none ((sortT ds).map PV.str)))) := by
  refine PCalls.row (enc := fun (l : List UInt8) => Value.string ⟨l.toArray⟩) (pv := PV.str) encStr_rep (fun a => ⟨by simp [PV.flat], rfl⟩) (d := ds) (d' := sortT ds) (List.length_mergeSort _) hm (rv := fun _ _ => .tuple #[]) ?_ ?_ (fun w κ a cap _ => .closed (.tup _ _ rfl (fun i v p a b => by simp at a)))
  · intro blk off cap w hH hblk hcap
    exact AnyM.slices_Sort_string Tryd.sortS blk off cap ds w hH hblk (by omega)
  · intro h w
    exact AnyM.slices_Sort_string_none Tryd.sortS none 0 w
theorem compactT_len (ds : List (List UInt8)) : (Lib.compact ds).length ≤ ds.length := Lib.compact_length_le ds
def cmpT (ds : List (List UInt8)) : List (List UInt8) := Lib.compact ds ++ List.replicate (ds.length - (Lib.compact ds).length) []
theorem cmpT_len (ds : List (List UInt8)) : (cmpT ds).length = ds.length := by
  have := compactT_len ds
  simp [cmpT]; omega
theorem v64 {μ : Mem} {t : Nat} (ds : List (List UInt8)) (hl : ds.length ≤ 4000000000) (hm : μ.get t = some (.row none (ds.map PV.str))) :
    PCalls Tryd.prog G0 64 [.sl none t ds.length] μ (fun _ => false) (fun p μ' => p = .sl none t (Lib.compact ds).length ∧ μ' = μ.set t (some (.row none ((cmpT ds).map PV.str)))) := by
  have hle := compactT_len ds
  refine PCalls.row (enc := fun (l : List UInt8) => Value.string ⟨l.toArray⟩) (pv := PV.str) encStr_rep (fun a => ⟨by simp [PV.flat], rfl⟩) (d := ds) (d' := cmpT ds) (cmpT_len ds) hm (rv := fun a cap => .slice a (Lib.compact ds).length cap) ?_ ?_ ?_
  · intro blk off cap w hH hblk hcap
    refine (AnyG.slices_Compact_string Tryd.cmpS blk off cap ds w hH (by omega) hcap).mono ?_
    rintro e w' ⟨rfl, q, rfl⟩
    refine ⟨rfl, q, #[], ?_⟩
    have hg : ∀ w : World, Sort.grow w #[] = w := fun w => by cases w; simp [Sort.grow]
    rw [hg]; rfl
  · intro h w
    subst h
    exact AnyG.slices_Compact_string_empty Tryd.cmpS none 0 w
  · intro w κ a cap h
    generalize hn : ds.length = n at h hle
    cases h with
    | closed h => cases h
    | sl _ _ _ b _ hb hs hl' hm' => exact .sl _ _ _ _ _ hb hs (by omega) hm'
    | slnil _ _ hb =>
      rw [show (Lib.compact ds).length = 0 by omega]
      exact .slnil _ _ hb
/-! The variables of a tree -/
theorem e34 : Ent Tryd.prog 34 := ⟨Tryd.f34, Tryd.func34, by kernel_rfl, by kernel_rfl⟩
def namesV (l : List Nd) : List (List UInt8) := (l.filter fun n => decide (n.op = 1)).map (·.name)
def varsM (l : List Nd) : List (List UInt8) := Lib.compact (sortT (namesV l))
theorem namesV_snoc (l : List Nd) (n : Nd) : namesV (l ++ [n]) = namesV l ++ (if n.op = 1 then [n.name] else []) := by
  unfold namesV
  rw [List.filter_append, List.map_append]
  by_cases h : n.op = 1
  · simp [h]
  · simp [h]
theorem namesV_len (l : List Nd) : (namesV l).length ≤ l.length := by
  unfold namesV; rw [List.length_map]; exact List.length_filter_le _ _
theorem v34 (l : List Nd) (hs : ∀ n ∈ l, n.name.length ≤ 9223372036854775807 ∧ n.kids.length ≤ 9223372036854775807) (hl : l.length ≤ 256) (hc : checkM l = 0) : VCalls Tryd.prog G0 34 [treeP l] (.list none ((varsM l).map PV.str)) := by
  refine VCalls.of_PW Tryd.func34 k34 mix (by simp [c34]) ?_
  simp only [c34, L34, CC, argE]
  have h29 := v29 hasK0 l (by omega) hs
  rw [hc] at h29
  simp only [treeP] at h29 ⊢
  have q0 : decide ((0 : Int) = 0) = true := rfl
  have hll : ((l.map ndP).length : Nat) = l.length := by simp
  repeat' (first | exact True.intro | (exact Or.inr ⟨rfl, by decide⟩) | (refine PW.seqK ?_; intro K hK) | refine pwB ?_ | refine pwS ?_ | refine pwL ?_ | refine pwE ?_ | refine pwR ?_ | refine pwK ?_ | refine seqK_n ‹_› ?_ | refine seqK_r ‹_› ?_ | refine seqK_e ‹_› ?_ | refine PW.regionA ?_ | exact schedW_stop_i | refine schK_n ‹_› ?_ | (refine schedW_alt_k ?_ ?_; focus (intro K hK; simp only [q0, hll, SA, Nat.reduceAdd, reduceIte, Nat.reduceEqDiff, Nat.reduceBEq, reduceCtorEq]; (try go_unwrap; try simp only [q0, hll, RR, reduceCtorEq]))) | (refine PW.cond rfl ?_ ?_ <;> intro hcond <;> (try contradiction) <;> try simp only [DD] at hcond) | (refine gd_i ?_; intro hg; try simp only [hg]) | refine goCall_W e29 (h29) ?_ ?_ ?_ ?_ | ((first | show (_ : Nat) ≤ _ | show (_ : Nat) < _ | show (_ : Int) ≤ _ | show (_ : Int) < _ | show (_ : Nat) = _ | show (_ : Int) = _ | show (_ : Bool) = _ | show _ ∨ _ | show ¬ _); first | omega | (simp only [DD, LL] <;> omega) | (go_unwrap; omega)) | ((first | refine PW.region ?_ | refine PW.regionQ ?_ | refine schedW_done_i ?_ | show (_ : Post) _ _ _ | show @Eq (List PV) _ _ | show @Eq Bool _ _ | show opsW _ _ _ _ _ _ _ _ | show okAll _ | show @Eq Bool _ _ ∨ _); focus (simp only [q0, hll, SA, Nat.reduceAdd, reduceIte, Nat.reduceEqDiff, Nat.reduceBEq, reduceCtorEq]; (try go_unwrap; try simp only [q0, hll, RR, reduceCtorEq]))) | refine And.intro ?_ ?_ | exact Or.inr ⟨rfl, Nat.le_refl _⟩ | exact (fun h => Bool.noConfusion h))
  refine PW.own none 3 rfl ?_
  refine PW.loopG (σ := Nat) 2 (fun _ _ => rfl) [1, 2, 3, 10, 11, 12] (fun i => [.ref 0 0, .nilSl, .sl none 1 (namesV (l.take i)).length, .list (some 4) (l.map ndP), .int .i64 l.length, .int .i64 i])
    (fun i => [some (.var (some 1) (.agg [.list (some 4) (l.map ndP)])), some (.row none ((namesV (l.take i)).map PV.str))]) (fun i => i ≤ l.length) (fun i => l.length - i) 0 ?_ (by simp [namesV]) (by omega) ?_
  · simp only [SA, Nat.reduceAdd, reduceIte, Nat.reduceEqDiff, Nat.reduceBEq, reduceCtorEq]; rfl
  intro i hi
  simp only [List.zip_cons_cons, List.zip_nil_left]
  rcases Nat.lt_or_ge i l.length with h | h
  · have hd : decide ((i : Int) < l.length) = true := by simp only [decide_eq_true_eq]; omega
    obtain ⟨n, -, hn, hg⟩ := drop_at h
    have hgn := ((hg ndP).1).trans (ndP1 n)
    have hst : namesV (l.take (i + 1)) = namesV (l.take i) ++ (if n.op = 1 then [n.name] else []) := by
      rw [List.take_succ_eq_append_getElem h, namesV_snoc]
      have : l[i] = n := by rw [List.getElem?_eq_getElem h] at hn; exact Option.some.inj hn
      rw [this]
    have hrl := namesV_len (l.take i)
    have htl : (l.take i).length ≤ l.length := by simp; omega
    generalize namesV (l.take i) = R at hst hrl
    have hRl : ((R.map PV.str).length : Nat) = R.length := by simp
    have hRt : (R.map PV.str).take R.length = R.map PV.str := List.take_of_length_le (by simp)
    have b1 : (R.length + 1) * 16 ≤ 281474976710656 := by omega
    by_cases ho : n.op = 1
    · rw [if_pos ho] at hst
      have d1 : decide (n.op = 1) = true := decide_eq_true ho
      repeat' (first | exact True.intro | (refine PW.seqK ?_; intro K hK) | refine pwB ?_ | refine pwS ?_ | refine pwL ?_ | refine pwE ?_ | refine pwR ?_ | refine pwK ?_ | refine seqK_n ‹_› ?_ | refine seqK_r ‹_› ?_ | refine seqK_e ‹_› ?_ | refine PW.regionA ?_ | exact schedW_stop_i | refine schK_n ‹_› ?_ | (refine schedW_alt_k ?_ ?_; focus (intro K hK; simp only [hd, hgn, d1, hll, hRl, hRt, SA, Nat.reduceAdd, reduceIte, Nat.reduceEqDiff, Nat.reduceBEq, reduceCtorEq]; (try go_unwrap; try simp only [hd, hgn, d1, hll, hRl, hRt, RR, reduceCtorEq]))) | (refine PW.cond rfl ?_ ?_ <;> intro hcond <;> (try contradiction) <;> try simp only [DD] at hcond) | (refine gd_i ?_; intro hg; try simp only [hg]) | ((first | show (_ : Nat) ≤ _ | show (_ : Nat) < _ | show (_ : Int) ≤ _ | show (_ : Int) < _ | show (_ : Nat) = _ | show (_ : Int) = _ | show (_ : Bool) = _ | show _ ∨ _ | show ¬ _); first | omega | (simp only [DD, LL] <;> omega) | (go_unwrap; omega)) | ((first | refine PW.region ?_ | refine PW.regionQ ?_ | refine schedW_done_i ?_ | show (_ : Post) _ _ _ | show @Eq (List PV) _ _ | show @Eq Bool _ _ | show opsW _ _ _ _ _ _ _ _ | show okAll _ | show @Eq Bool _ _ ∨ _); focus (simp only [hd, hgn, d1, hll, hRl, hRt, SA, Nat.reduceAdd, reduceIte, Nat.reduceEqDiff, Nat.reduceBEq, reduceCtorEq]; (try go_unwrap; try simp only [hd, hgn, d1, hll, hRl, hRt, RR, reduceCtorEq]))) | refine And.intro ?_ ?_ | exact Or.inr ⟨rfl, Nat.le_refl _⟩ | exact (fun h => Bool.noConfusion h))
      all_goals exact ⟨i + 1, (by rw [hst, List.length_append]; exact (by first | rfl | (simp only [trimE, trimM, List.take_succ_cons, List.take_zero, List.take_nil, List.map_cons, List.map_nil, Option.map_some, Option.map_none, MObj.kill, PV.kill, Nat.reduceLeDiff, decide_true, decide_false, dec_true, dec_false, Bool.false_eq_true, if_false, if_true, reduceIte, List.zip_cons_cons, List.zip_nil_left, Nat.le_refl, Nat.zero_le, Nat.not_le, Nat.lt_irrefl]; done) | (simp [trimE, trimM, MObj.kill, PV.kill]; done))), (by rw [hst, List.map_append]; exact (by first | rfl | (simp only [trimE, trimM, List.take_succ_cons, List.take_zero, List.take_nil, List.map_cons, List.map_nil, Option.map_some, Option.map_none, MObj.kill, PV.kill, Nat.reduceLeDiff, decide_true, decide_false, dec_true, dec_false, Bool.false_eq_true, if_false, if_true, reduceIte, List.zip_cons_cons, List.zip_nil_left, Nat.le_refl, Nat.zero_le, Nat.not_le, Nat.lt_irrefl]; done) | (simp [trimE, trimM, MObj.kill, PV.kill]; done))), by omega, by omega⟩
    · rw [if_neg ho, List.append_nil] at hst
      have d1 : decide (n.op = 1) = false := decide_eq_false ho
      repeat' (first | exact True.intro | (refine PW.seqK ?_; intro K hK) | refine pwB ?_ | refine pwS ?_ | refine pwL ?_ | refine pwE ?_ | refine pwR ?_ | refine pwK ?_ | refine seqK_n ‹_› ?_ | refine seqK_r ‹_› ?_ | refine seqK_e ‹_› ?_ | refine PW.regionA ?_ | exact schedW_stop_i | refine schK_n ‹_› ?_ | (refine schedW_alt_k ?_ ?_; focus (intro K hK; simp only [hd, hgn, d1, hll, hRl, SA, Nat.reduceAdd, reduceIte, Nat.reduceEqDiff, Nat.reduceBEq, reduceCtorEq]; (try go_unwrap; try simp only [hd, hgn, d1, hll, hRl, RR, reduceCtorEq]))) | (refine PW.cond rfl ?_ ?_ <;> intro hcond <;> (try contradiction) <;> try simp only [DD] at hcond) | (refine gd_i ?_; intro hg; try simp only [hg]) | ((first | show (_ : Nat) ≤ _ | show (_ : Nat) < _ | show (_ : Int) ≤ _ | show (_ : Int) < _ | show (_ : Nat) = _ | show (_ : Int) = _ | show (_ : Bool) = _ | show _ ∨ _ | show ¬ _); first | omega | (simp only [DD, LL] <;> omega) | (go_unwrap; omega)) | ((first | refine PW.region ?_ | refine PW.regionQ ?_ | refine schedW_done_i ?_ | show (_ : Post) _ _ _ | show @Eq (List PV) _ _ | show @Eq Bool _ _ | show opsW _ _ _ _ _ _ _ _ | show okAll _ | show @Eq Bool _ _ ∨ _); focus (simp only [hd, hgn, d1, hll, hRl, SA, Nat.reduceAdd, reduceIte, Nat.reduceEqDiff, Nat.reduceBEq, reduceCtorEq]; (try go_unwrap; try simp only [hd, hgn, d1, hll, hRl, RR, reduceCtorEq]))) | refine And.intro ?_ ?_ | exact Or.inr ⟨rfl, Nat.le_refl _⟩ | exact (fun h => Bool.noConfusion h))
      all_goals exact ⟨i + 1, (by rw [hst]; exact (by first | rfl | (simp only [trimE, trimM, List.take_succ_cons, List.take_zero, List.take_nil, List.map_cons, List.map_nil, Option.map_some, Option.map_none, MObj.kill, PV.kill, Nat.reduceLeDiff, decide_true, decide_false, dec_true, dec_false, Bool.false_eq_true, if_false, if_true, reduceIte, List.zip_cons_cons, List.zip_nil_left, Nat.le_refl, Nat.zero_le, Nat.not_le, Nat.lt_irrefl]; done) | (simp [trimE, trimM, MObj.kill, PV.kill]; done))), (by rw [hst]; exact (by first | rfl | (simp only [trimE, trimM, List.take_succ_cons, List.take_zero, List.take_nil, List.map_cons, List.map_nil, Option.map_some, Option.map_none, MObj.kill, PV.kill, Nat.reduceLeDiff, decide_true, decide_false, dec_true, dec_false, Bool.false_eq_true, if_false, if_true, reduceIte, List.zip_cons_cons, List.zip_nil_left, Nat.le_refl, Nat.zero_le, Nat.not_le, Nat.lt_irrefl]; done) | (simp [trimE, trimM, MObj.kill, PV.kill]; done))), by omega, by omega⟩
  · have hd : decide ((i : Int) < l.length) = false := by simp only [decide_eq_false_iff_not]; omega
    have hi' : i = l.length := by omega
    subst hi'
    simp only [List.take_length]
    have hun : varsM l = Lib.compact (sortT (namesV l)) := rfl
    have hrl := namesV_len l
    generalize namesV l = R at hun hrl
    have hsl : (sortT R).length = R.length := List.length_mergeSort _
    have h64 : ∀ (μ : Mem), μ.get 1 = some (.row none ((sortT R).map PV.str)) → PCalls Tryd.prog G0 64 [.sl none 1 R.length] μ (fun _ => false) (fun p μ' => p = .sl none 1 (Lib.compact (sortT R)).length ∧ μ' = μ.set 1 (some (.row none ((cmpT (sortT R)).map PV.str)))) := fun μ hm => by
      have := v64 (μ := μ) (t := 1) (sortT R) (by omega) hm
      rw [hsl] at this; exact this
    repeat' (first | exact True.intro | (refine PW.seqK ?_; intro K hK) | refine pwB ?_ | refine pwS ?_ | refine pwL ?_ | refine pwE ?_ | refine pwR ?_ | refine pwK ?_ | refine seqK_n ‹_› ?_ | refine seqK_r ‹_› ?_ | refine seqK_e ‹_› ?_ | refine PW.regionA ?_ | exact schedW_stop_i | refine schK_n ‹_› ?_ | (refine schedW_alt_k ?_ ?_; focus (intro K hK; simp only [hd, hll, SA, Nat.reduceAdd, reduceIte, Nat.reduceEqDiff, Nat.reduceBEq, reduceCtorEq]; (try go_unwrap; try simp only [hd, hll, RR, reduceCtorEq]))) | (refine PW.cond rfl ?_ ?_ <;> intro hcond <;> (try contradiction) <;> try simp only [DD] at hcond) | (refine goCall_P e63 (v63 R (by omega) rfl) ?_; rintro p μ' ⟨rfl, rfl⟩; simp only [hd, hll, SA, Nat.reduceAdd, reduceIte, Nat.reduceEqDiff, Nat.reduceBEq, reduceCtorEq]) | (refine goCall_P e64 (h64 _ rfl) ?_; rintro p μ' ⟨rfl, rfl⟩; simp only [hd, hll, SA, Nat.reduceAdd, reduceIte, Nat.reduceEqDiff, Nat.reduceBEq, reduceCtorEq]) | (refine gd_i ?_; intro hg; try simp only [hg]) | ((first | show (_ : Nat) ≤ _ | show (_ : Nat) < _ | show (_ : Int) ≤ _ | show (_ : Int) < _ | show (_ : Nat) = _ | show (_ : Int) = _ | show (_ : Bool) = _ | show _ ∨ _ | show ¬ _); first | omega | (simp only [DD, LL] <;> omega) | (go_unwrap; omega)) | ((first | refine PW.region ?_ | refine PW.regionQ ?_ | refine schedW_done_i ?_ | show (_ : Post) _ _ _ | show @Eq (List PV) _ _ | show @Eq Bool _ _ | show opsW _ _ _ _ _ _ _ _ | show okAll _ | show @Eq Bool _ _ ∨ _); focus (simp only [hd, hll, SA, Nat.reduceAdd, reduceIte, Nat.reduceEqDiff, Nat.reduceBEq, reduceCtorEq]; (try go_unwrap; try simp only [hd, hll, RR, reduceCtorEq]))) | refine And.intro ?_ ?_ | exact Or.inr ⟨rfl, Nat.le_refl _⟩ | exact (fun h => Bool.noConfusion h))
    · simp only [decide_eq_true_eq, List.length_map, cmpT_len]; exact compactT_len _
    · rw [if_pos (by simp only [List.length_map, cmpT_len]; exact compactT_len _), hun]
      congr 1
      rw [← List.map_take]
      congr 1
      simp [cmpT]
end Go.Proofs.YthekpjhffciakaaDoor

