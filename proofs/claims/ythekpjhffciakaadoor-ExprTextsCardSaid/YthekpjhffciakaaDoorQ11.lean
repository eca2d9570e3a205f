import Derived.Test.YthekpjhffciakaaDoorProg
import Derived.KernelRfl
import Derived.Test.YthekpjhffciakaaDoorQ7
import Derived.Test.YthekpjhffciakaaDoorQ10
import Derived.Test.YthekpjhffciakaaDoorQ8
import Derived.Test.YthekpjhffciakaaDoorP4
import Derived.Test.YthekpjhffciakaaDoorQ9
namespace Go.Proofs.YthekpjhffciakaaDoor
open Go PG Go.Proofs
set_option linter.unusedSimpArgs false
set_option linter.unusedVariables false
set_option maxHeartbeats 4000000
set_option maxRecDepth 100000
/-! The program's reader: its leaves -/
def wordsP : PV := .agg [.str [], .str [], .str [43], .str [45], .str [42], .str [108, 101, 97, 115, 116], .str [109, 111, 115, 116], .str [105, 102], .str [108, 101, 115, 115], .str [101, 113, 117, 97, 108]]
abbrev G0 : Globs := fun g => if g = 0 then some (some 10, wordsP) else if g = 1 then some (some 10, kidsTabP) else none
theorem e40 : Ent Tryd.prog 40 := ⟨Tryd.f40, Tryd.func40, by kernel_rfl, by kernel_rfl⟩
theorem e41 : Ent Tryd.prog 41 := ⟨Tryd.f41, Tryd.func41, by kernel_rfl, by kernel_rfl⟩
theorem e71 : Ent Tryd.prog 71 := ⟨Tryd.f71, Tryd.func71, by kernel_rfl, by kernel_rfl⟩
theorem e72 : Ent Tryd.prog 72 := ⟨Tryd.f72, Tryd.func72, by kernel_rfl, by kernel_rfl⟩
theorem e73 : Ent Tryd.prog 73 := ⟨Tryd.f73, Tryd.func73, by kernel_rfl, by kernel_rfl⟩
theorem e98 : Ent Tryd.prog 98 := ⟨Tryd.f98, Tryd.func98, by kernel_rfl, by kernel_rfl⟩
theorem e99 : Ent Tryd.prog 99 := ⟨Tryd.f99, Tryd.func99, by kernel_rfl, by kernel_rfl⟩
theorem e100 : Ent Tryd.prog 100 := ⟨Tryd.f100, Tryd.func100, by kernel_rfl, by kernel_rfl⟩
theorem e126 : Ent Tryd.prog 126 := ⟨Tryd.f126, Tryd.func126, by kernel_rfl, by kernel_rfl⟩
abbrev tksP (l : List Tok) : PV := .list (some 3) (l.map tokP)
def rdP (l : List Tok) (s : PS) : MObj := .var (some 4) (.agg [tksP l, .sl (some 4) 1 s.out.length, .int .i64 s.at_, .int .i64 s.e])
def rowO (s : PS) : MObj := .row (some 4) (s.out.map ndP)
/-- A reading, as a contract: the reader and its nodes, and whatever stands behind. -/
def RdC (l : List Tok) (f : Nat) (as_ : List PV) (ν : Mem) (s : PS) (r : Int × PS) : Prop :=
  PCalls Tryd.prog G0 f as_ (some (rdP l s) :: some (rowO s) :: ν) (killTag 1) (fun p μ' => p = .int .i64 r.1 ∧ μ' = some (rdP l r.2) :: some (rowO r.2) :: ν)
theorem RdC.frame {l : List Tok} {f : Nat} {as_ : List PV} {s : PS} {r : Int × PS} (h : RdC l f as_ [] s r) (ν : Mem) (hν : ν.map (Option.map (MObj.kill (killTag 1))) = ν) (ha : as_.map (PV.kill fun t => decide (2 ≤ t)) = as_) : RdC l f as_ ν s r := by
  have := PCalls.frame h ν (by rintro p μ' ⟨-, rfl⟩; rfl) ha (by simp [rdP, rowO, MObj.kill, PV.kill]) hν
  intro w κ vs hS hG hr
  refine (this w κ vs hS hG hr).mono ?_
  rintro e w' ⟨v, p, μ', κ', rfl, ⟨μ1, ⟨rfl, rfl⟩, rfl⟩, hS', hv, hg⟩
  exact ⟨v, _, _, κ', rfl, ⟨rfl, rfl⟩, hS', hv, hg⟩
theorem tk_get (l : List Tok) (j : Nat) (h : j < l.length) : (l.map tokP).getD j .junk = .agg [.int .i64 (tkAt l j).1, .str (tkAt l j).2.1, .int .i64 (tkAt l j).2.2] := by
  simp [List.getD, tkAt, h, tokP]
theorem tks_len (l : List Tok) : ((l.map tokP).length : Nat) = l.length := by simp
theorem nd_len (l : List Nd) : ((l.map ndP).length : Nat) = l.length := by simp
theorem q1 (a b c d : PV) (sh : Sh) (t n : Nat) : putPart (some 4) none (.agg [a, b, c, d]) 1 (.sl sh t n) = .agg [a, .sl sh t n, c, d] := rfl
theorem q2 (a b c d : PV) (k : IntKind) (v : Int) : putPart (some 4) none (.agg [a, b, c, d]) 2 (.int k v) = .agg [a, b, .int k v, d] := rfl
theorem q3 (a b c d : PV) (k : IntKind) (v : Int) : putPart (some 4) none (.agg [a, b, c, d]) 3 (.int k v) = .agg [a, b, c, .int k v] := rfl
theorem v98 (l : List Tok) (s : PS) (x : List UInt8) (hlt : s.at_ < l.length) (hl : l.length ≤ 100000) :
    VCalls Tryd.prog G0 98 [.cptr (some 4) (.agg [tksP l, .list (some 4) (s.out.map ndP), .int .i64 s.at_, .int .i64 s.e]) 0, .str x] (.bool (sgn l s x)) := by
  refine VCalls.of_PW Tryd.func98 k98 mix (by simp [c98]) ?_
  simp only [c98, L98, CC, argE]
  have hg := tk_get l s.at_ hlt
  have hlen := tks_len l
  have hk : decide (((tkAt l s.at_).1 : Int) = 3) = decide ((tkAt l s.at_).1 = 3) := by rw [Bool.eq_iff_iff, decide_eq_true_eq, decide_eq_true_eq]; omega
  repeat' (first | exact True.intro | (refine PW.seqK ?_; intro K hK) | refine stp ?_ | refine seqK_n ‹_› ?_ | refine seqK_r ‹_› ?_ | refine seqK_e ‹_› ?_ | exact schedW_stop_i | refine schK_n ‹_› ?_ | (refine PW.cond rfl ?_ ?_ <;> intro hcond <;> (try contradiction) <;> try simp only [DD] at hcond) | (refine gd_i ?_; intro hg; try simp only [hg]) | (refine ari ?_; first | omega | (simp only [DD, LL] <;> omega) | (go_unwrap; omega)) | ((first | refine stq ?_ | show (_ : Post) _ _ _ | (refine schedW_alt_k ?_ ?_; intro K hK)); focus (simp only [hg, hlen, SA, Nat.reduceAdd, reduceIte, Nat.reduceEqDiff, Nat.reduceBEq, reduceCtorEq]; (try go_unwrap; try simp only [hg, hlen, RR, reduceCtorEq]))) | refine And.intro ?_ ?_ | exact Or.inr ⟨rfl, Nat.le_refl _⟩ | exact (fun h => Bool.noConfusion h))
  simp only [sgn, hk]
theorem v41 (l : List Tok) (s : PS) (e : Int) : RdC l 41 [.ref 0 0, .int .i64 e] [] s (failP s e) := by
  refine PCalls.moves (mv := fun t => t == 1 || decide (2 ≤ t)) (fun t ht h => ?_) ?_
  · simp only [List.length_cons, List.length_nil] at ht
    simp only [Bool.or_eq_true, beq_iff_eq, decide_eq_true_eq] at h
    simp only [killTag, beq_iff_eq]; omega
  refine PCalls.of_PW Tryd.func41 k41 mix (by simp [c41]) ?_
  simp only [c41, L41, CC, argE, rdP, rowO]
  repeat' (first | exact True.intro | (refine PW.seqK ?_; intro K hK) | refine stp ?_ | refine seqK_n ‹_› ?_ | refine seqK_r ‹_› ?_ | refine seqK_e ‹_› ?_ | exact schedW_stop_i | refine schK_n ‹_› ?_ | (refine PW.cond rfl ?_ ?_ <;> intro hcond <;> (try contradiction) <;> try simp only [DD] at hcond) | (refine gd_i ?_; intro hg; try simp only [hg]) | (refine ari ?_; first | omega | (simp only [DD, LL] <;> omega) | (go_unwrap; omega)) | ((first | refine stq ?_ | show (_ : Post) _ _ _ | (refine schedW_alt_k ?_ ?_; intro K hK)); focus (simp only [q3, SA, Nat.reduceAdd, reduceIte, Nat.reduceEqDiff, Nat.reduceBEq, reduceCtorEq]; (try go_unwrap; try simp only [q3, RR, reduceCtorEq]))) | refine And.intro ?_ ?_ | exact Or.inr ⟨rfl, Nat.le_refl _⟩ | exact (fun h => Bool.noConfusion h))
  · rfl
  · simp only [failP, if_pos hcond]
  · rfl
  · simp only [failP, if_neg hcond]
theorem v99 (l : List Tok) (s : PS) (n : Nd) (hs : s.out.length ≤ 100000) : RdC l 99 [.ref 0 0, ndP n] [] s (putP s n) := by
  refine PCalls.moves (mv := fun t => t == 1 || decide (2 ≤ t)) (fun t ht h => ?_) ?_
  · simp only [List.length_cons, List.length_nil] at ht
    simp only [Bool.or_eq_true, beq_iff_eq, decide_eq_true_eq] at h
    simp only [killTag, beq_iff_eq]; omega
  refine PCalls.of_PW Tryd.func99 k99 mix (by simp [c99]) ?_
  simp only [c99, L99, CC, argE, rdP, rowO]
  have hlen := nd_len s.out
  have htk : (s.out.map ndP).take s.out.length = s.out.map ndP := List.take_of_length_le (by simp)
  have b1 : (s.out.length + 1) * 56 ≤ 140737488355328 := by omega
  rw [ndP1]
  repeat' (first | exact True.intro | (refine PW.seqA (E := ?_) (M := ?_) ?_ ?_; rotate_left 2) | exact mergeQ_mk _ _ | (exact Or.inr ⟨rfl, by decide⟩) | (refine PW.stop (x := .ret) ?_) | (refine PW.seqK ?_; intro K hK) | refine stp ?_ | refine seqK_n ‹_› ?_ | refine seqK_r ‹_› ?_ | refine seqK_e ‹_› ?_ | exact schedW_stop_i | refine schK_n ‹_› ?_ | (refine PW.cond rfl ?_ ?_ <;> intro hcond <;> (try contradiction) <;> try simp only [DD] at hcond) | (refine gd_i ?_; intro hg; try simp only [hg]) | (refine ari ?_; first | omega | (simp only [DD, LL] <;> omega) | (go_unwrap; omega)) | ((first | refine stq ?_ | show (_ : Post) _ _ _ | (refine schedW_alt_k ?_ ?_; intro K hK)); focus (simp only [hlen, htk, q1, List.length_cons, List.length_nil, Nat.zero_add, SA, Nat.reduceAdd, reduceIte, Nat.reduceEqDiff, Nat.reduceBEq, reduceCtorEq]; (try go_unwrap; try simp only [hlen, htk, q1, List.length_cons, List.length_nil, Nat.zero_add, RR, reduceCtorEq]))) | refine And.intro ?_ ?_ | exact Or.inr ⟨rfl, Nat.le_refl _⟩ | exact (fun h => Bool.noConfusion h))
  refine ⟨?_⟩
  refine PW.trim 2 (fun t h => by simp [h]) ?_
  simp only [TT, MObj.kill, PV.kill, Nat.reduceLeDiff, reduceIte]
  repeat' (first | exact True.intro | (refine PW.seqK ?_; intro K hK) | refine stp ?_ | refine seqK_n ‹_› ?_ | refine seqK_r ‹_› ?_ | refine seqK_e ‹_› ?_ | exact schedW_stop_i | refine schK_n ‹_› ?_ | (refine PW.cond rfl ?_ ?_ <;> intro hcond <;> (try contradiction) <;> try simp only [DD] at hcond) | (refine gd_i ?_; intro hg; try simp only [hg]) | (refine ari ?_; first | omega | (simp only [DD, LL] <;> omega) | (go_unwrap; omega)) | ((first | refine stq ?_ | show (_ : Post) _ _ _ | (refine schedW_alt_k ?_ ?_; intro K hK)); focus (simp only [SA, Nat.reduceAdd, reduceIte, Nat.reduceEqDiff, Nat.reduceBEq, reduceCtorEq]; (try go_unwrap; try simp only [RR, reduceCtorEq]))) | refine And.intro ?_ ?_ | exact Or.inr ⟨rfl, Nat.le_refl _⟩ | exact (fun h => Bool.noConfusion h))
  · simp [putP]
  · simp [putP, ndP, ndC, kidsP]
end Go.Proofs.YthekpjhffciakaaDoor

namespace Go.Proofs.YthekpjhffciakaaDoor
open Go PG Go.Proofs
set_option linter.unusedSimpArgs false
set_option linter.unusedVariables false
set_option maxHeartbeats 4000000
set_option maxRecDepth 100000
/-! The program's text of a tree -/
theorem e55 : Ent Tryd.prog 55 := ⟨Tryd.f55, Tryd.func55, by kernel_rfl, by kernel_rfl⟩
def wordsL : List (List UInt8) := [[], [], [43], [45], [42], [108, 101, 97, 115, 116], [109, 111, 115, 116], [105, 102], [108, 101, 115, 115], [101, 113, 117, 97, 108]]
def wordM (op : Int) : List UInt8 := wordsL.getD op.toNat []
def joinL (f : Int → List UInt8) : List Int → Nat → List UInt8 → List UInt8
  | [], _, s => s
  | k :: ks, i, s => joinL f ks (i + 1) ((if 0 < i then s ++ [44] else s) ++ f k)
def textM (l : List Nd) : Nat → Int → Int → List UInt8
  | 0, _, _ => []
  | k + 1, i, least =>
    if (l.getD i.toNat default).op = 0 then numT (l.getD i.toNat default).num.toNat
    else if (l.getD i.toNat default).op = 1 then (l.getD i.toNat default).name
    else if strongM (l.getD i.toNat default).op = 3 then joinL (fun c => textM l k c 0) (l.getD i.toNat default).kids 0 (wordM (l.getD i.toNat default).op ++ [40]) ++ [41]
    else if strongM (l.getD i.toNat default).op < least then ([40] ++ ((textM l k ((l.getD i.toNat default).kids.getD 0 0) (strongM (l.getD i.toNat default).op) ++ wordM (l.getD i.toNat default).op) ++ textM l k ((l.getD i.toNat default).kids.getD 1 0) (strongM (l.getD i.toNat default).op + 1))) ++ [41]
    else (textM l k ((l.getD i.toNat default).kids.getD 0 0) (strongM (l.getD i.toNat default).op) ++ wordM (l.getD i.toNat default).op) ++ textM l k ((l.getD i.toNat default).kids.getD 1 0) (strongM (l.getD i.toNat default).op + 1)
/-- A node that is right by itself. -/
structure NdOk (n : Nd) : Prop where
  op0 : 0 ≤ n.op
  op9 : n.op ≤ 9
  num : n.op = 0 → 0 ≤ n.num ∧ n.num ≤ 1000000000000000000
  name : n.name.length ≤ 100
  kids : n.kids.length ≤ 3
  two : 2 ≤ n.op → n.op ≤ 4 → n.kids.length = 2
/-- A node whose tree is no deeper than told. -/
def fitsD (l : List Nd) : Nat → Int → Prop
  | 0, _ => False
  | k + 1, i => 0 ≤ i ∧ i.toNat < l.length ∧ NdOk (l.getD i.toNat default) ∧ ∀ c ∈ (l.getD i.toNat default).kids, fitsD l k c
theorem word_le (op : Int) : (wordM op).length ≤ 5 := by
  unfold wordM
  rw [List.getD_eq_getElem?_getD]
  cases h : wordsL[op.toNat]? with
  | none => simp
  | some w =>
    have : ∀ w ∈ wordsL, w.length ≤ 5 := by decide
    exact this w (List.mem_of_getElem? h)
theorem strip_le (l : List UInt8) : (stripZ l).length ≤ l.length := by
  unfold stripZ
  rw [List.length_reverse]
  exact Nat.le_trans (List.dropWhile_suffix _).length_le (by simp)
theorem numT_le {n : Nat} (h : n ≤ 1000000000000000000) : (numT n).length ≤ 30 := by
  have hl1 := digT_len 18 (n / 1000000) (by have : (10 : Nat) ^ 19 = 10000000000000000000 := rfl; omega)
  unfold numT
  split
  · omega
  · have h5 := dig5 (n % 1000000 / 100) (by omega)
    have := strip_le ((digT (10000 + n % 1000000 / 100)).drop 1)
    have hd : ((digT (10000 + n % 1000000 / 100)).drop 1).length = 4 := by rw [h5]; rfl
    simp only [List.length_append, List.length_cons, List.length_nil]
    omega
theorem join_le {f : Int → List UInt8} {B : Nat} : ∀ (ks : List Int) (i : Nat) (s : List UInt8), (∀ c ∈ ks, (f c).length ≤ B) → (joinL f ks i s).length ≤ s.length + ks.length * (B + 1)
  | [], _, s, _ => by simp [joinL]
  | k :: ks, i, s, h => by
    have h1 := h k (by simp)
    have h2 := join_le ks (i + 1) ((if 0 < i then s ++ [44] else s) ++ f k) (fun c hc => h c (by simp [hc]))
    have h3 : ((if 0 < i then s ++ [44] else s) ++ f k).length ≤ s.length + 1 + B := by
      split <;> simp <;> omega
    simp only [joinL, List.length_cons, Nat.add_mul, Nat.one_mul] at h2 ⊢
    omega
theorem text_le (l : List Nd) : ∀ (k : Nat) (i least : Int), fitsD l k i → (textM l k i least).length ≤ 100 * 4 ^ k
  | 0, i, least, h => h.elim
  | k + 1, i, least, h => by
    obtain ⟨h1, h2, h3, h4⟩ := h
    have hp : 0 < 4 ^ k := Nat.pow_pos (by omega)
    have hpp : 4 ^ (k + 1) = 4 * 4 ^ k := by rw [Nat.pow_succ]; omega
    rw [hpp]
    unfold textM
    generalize l.getD i.toNat default = n at *
    have hw := word_le n.op
    split
    · rename_i h0
      have := numT_le (n := n.num.toNat) (by have := h3.num h0; omega)
      omega
    · split
      · have := h3.name; omega
      · have hkl := h3.kids
        split
        · have := join_le (f := fun c => textM l k c 0) (B := 100 * 4 ^ k) n.kids 0 (wordM n.op ++ [40]) (fun c hc => text_le l k c 0 (h4 c hc))
          simp only [List.length_append, List.length_cons, List.length_nil] at this ⊢
          have h5 : n.kids.length * (100 * 4 ^ k + 1) ≤ 3 * (100 * 4 ^ k + 1) := Nat.mul_le_mul_right _ hkl
          omega
        · rename_i hs
          have h24 : 2 ≤ n.op ∧ n.op ≤ 4 := by
            have := h3.op0; have := h3.op9
            unfold strongM at hs
            by_cases a : n.op = 2 ∨ n.op = 3
            · omega
            · rw [if_neg a] at hs
              by_cases b : n.op = 4
              · omega
              · rw [if_neg b] at hs; exact absurd rfl hs
          have hk2 := h3.two h24.1 h24.2
          obtain ⟨a, b, hab⟩ : ∃ a b, n.kids = [a, b] := by
            match n.kids, hk2 with
            | [a, b], _ => exact ⟨a, b, rfl⟩
          rw [hab] at h4 ⊢
          have ha := fun z => text_le l k a z (h4 a (by simp))
          have hb := fun z => text_le l k b z (h4 b (by simp))
          have ha := ha (strongM n.op)
          have hb := hb (strongM n.op + 1)
          simp only [List.getD_cons_zero, List.getD_cons_succ]
          split <;> simp only [List.length_append, List.length_cons, List.length_nil] <;> omega
end Go.Proofs.YthekpjhffciakaaDoor

namespace Go.Proofs.YthekpjhffciakaaDoor
open PG Go.Proofs
-- wagebook/wagebookref13.Text
def L27 : List Nat := [0, 2]
def c27 : CF := ⟨8,
 .seq (.region false [⟨some 2, none, .rd .mov [.pv (.str [])]⟩] L27)
 (.seq (.region false [oM 3 0,
 oM 4 0,
 ⟨some 5, none, .rd .lenL [.tmp 4]⟩,
 ⟨some 6, none, .rd (.bin .sub) [.tmp 5, .pv (.int .i64 1)]⟩,
 ⟨some 7, none, .call (.pv (.fn 58 [] [])) [.tmp 3, .tmp 6]⟩,
 oM 2 7] L27)
 (.ret)),
 [.tmp 2]⟩

-- wagebook/wagebookref13.text
def L58 : List Nat := [0, 1, 4, 5, 6, 7, 8, 9, 10, 11, 12, 19, 25, 30, 39, 43, 95, 113]
def c58 : CF := ⟨127,
 .seq (.region false [⟨some 4, none, .rd .mov [.pv (.str [])]⟩] L58)
 (.seq (.region false [oM 13 0,
 oM 14 1,
 ⟨some 15, none, .rd (.idxAddr (some 4)) [.tmp 13, .tmp 14]⟩,
 ⟨some 16, none, .rd (.load (some 4)) [.tmp 15]⟩,
 ⟨some 5, none, .eff (.alloc (some 4) (.agg [(.int .i64 0), (.int .i64 0), (.str []), .nilSl])) []⟩,
 ⟨none, none, .eff (.store (some 4)) [.tmp 5, .tmp 16]⟩] L58)
 (.seq (.seq (.region false [oF 0 17 5,
 oL 18 17,
 ⟨some 19, none, .rd (.bin .eql) [.tmp 18, .pv (.int .i64 0)]⟩] L58)
 (.cond (.tmp 19)
 (.seq (.region false [oF 1 20 5,
 oL 21 20,
 ⟨some 22, none, .call (.pv (.fn 87 [] [])) [.tmp 21]⟩,
 oM 4 22] L58)
 (.ret))
 (.skip)))
 (.seq (.seq (.region false [oF 0 23 5,
 oL 24 23,
 ⟨some 25, none, .rd (.bin .eql) [.tmp 24, .pv (.int .i64 1)]⟩] L58)
 (.cond (.tmp 25)
 (.seq (.region false [oF 2 26 5,
 oL 27 26,
 oM 4 27] L58)
 (.ret))
 (.skip)))
 (.seq (.seq (.region false [oF 0 28 5,
 oL 29 28,
 ⟨some 30, none, .rd (.bin .geq) [.tmp 29, .pv (.int .i64 5)]⟩] L58)
 (.cond (.tmp 30)
 (.seq (.region false [oF 0 31 5,
 oL 32 31,
 ⟨some 33, none, .call (.pv (.fn 88 [] [])) [.tmp 32]⟩,
 ⟨some 34, none, .rd (.bin .add) [.tmp 33, .pv (.str [40])]⟩,
 oM 6 34] L58)
 (.seq (.seq (.region false [⟨some 7, none, .rd .mov [.pv (.int .i64 0)]⟩] L58)
 (.block 0
 (.loop
 (.seq (.seq (.region false [oM 35 7,
 oF 3 36 5,
 oL 37 36,
 ⟨some 38, none, .rd .lenL [.tmp 37]⟩,
 ⟨some 39, none, .rd (.bin .lss) [.tmp 35, .tmp 38]⟩] L58)
 (.cond (.tmp 39)
 (.skip)
 (.exit 0)))
 (.seq (.block 1
 (.seq (.seq (.region false [oM 42 7,
 ⟨some 43, none, .rd (.bin .gtr) [.tmp 42, .pv (.int .i64 0)]⟩] L58)
 (.cond (.tmp 43)
 (.region false [oM 44 6,
 ⟨some 45, none, .rd (.bin .add) [.tmp 44, .pv (.str [44])]⟩,
 oM 6 45] L58)
 (.skip)))
 (.region false [oM 46 6,
 oM 47 0,
 oF 3 48 5,
 oL 49 48,
 oM 50 7,
 ⟨some 51, none, .rd (.idxAddr none) [.tmp 49, .tmp 50]⟩,
 oL 52 51,
 ⟨some 53, none, .call (.pv (.fn 58 [] [])) [.tmp 47, .tmp 52]⟩,
 ⟨some 54, none, .rd (.bin .add) [.tmp 46, .tmp 53]⟩,
 oM 6 54] L58)))
 (.region false [oM 40 7,
 ⟨some 41, none, .rd (.bin .add) [.tmp 40, .pv (.int .i64 1)]⟩,
 oM 7 41] L58))))))
 (.seq (.region false [oM 55 6,
 ⟨some 56, none, .rd (.bin .add) [.tmp 55, .pv (.str [41])]⟩,
 oM 4 56] L58)
 (.ret))))
 (.skip)))
 (.seq (.region true [oM 57 0,
 oF 3 58 5,
 oL 59 58,
 ⟨some 60, none, .rd (.idxAddr none) [.tmp 59, .pv (.int .i64 0)]⟩,
 oL 61 60,
 ⟨some 62, none, .call (.pv (.fn 58 [] [])) [.tmp 57, .tmp 61]⟩,
 oM 63 0,
 oF 3 64 5,
 oL 65 64,
 ⟨some 66, none, .rd (.idxAddr none) [.tmp 65, .pv (.int .i64 1)]⟩,
 oL 67 66,
 ⟨some 68, none, .call (.pv (.fn 58 [] [])) [.tmp 63, .tmp 67]⟩,
 oM 8 62,
 oM 9 68] L58)
 (.seq (.region true [oM 69 0,
 oF 3 70 5,
 oL 71 70,
 ⟨some 72, none, .rd (.idxAddr none) [.tmp 71, .pv (.int .i64 0)]⟩,
 oL 73 72,
 ⟨some 74, none, .rd (.idxAddr (some 4)) [.tmp 69, .tmp 73]⟩,
 oF 0 75 74,
 oL 76 75,
 oM 77 0,
 oF 3 78 5,
 oL 79 78,
 ⟨some 80, none, .rd (.idxAddr none) [.tmp 79, .pv (.int .i64 1)]⟩,
 oL 81 80,
 ⟨some 82, none, .rd (.idxAddr (some 4)) [.tmp 77, .tmp 81]⟩,
 oF 0 83 82,
 oL 84 83,
 oM 10 76,
 oM 11 84] L58)
 (.seq (.seq (.region false [oF 0 85 5,
 oL 86 85,
 ⟨some 87, none, .rd (.bin .eql) [.tmp 86, .pv (.int .i64 4)]⟩,
 oM 88 87,
 qM 88 true 89 10,
 ⟨some 90, some (88, true), .rd (.bin .eql) [.tmp 89, .pv (.int .i64 2)]⟩,
 qM 88 true 91 90,
 qM 91 false 92 10,
 ⟨some 93, some (91, false), .rd (.bin .eql) [.tmp 92, .pv (.int .i64 3)]⟩,
 ⟨some 94, some (88, true), .rd .pick [.tmp 91, .pv (.bool true), .tmp 93]⟩,
 ⟨some 95, none, .rd .pick [.tmp 88, .tmp 94, .pv (.bool false)]⟩] L58)
 (.cond (.tmp 95)
 (.region false [oM 96 8,
 ⟨some 97, none, .rd (.bin .add) [.pv (.str [40]), .tmp 96]⟩,
 ⟨some 98, none, .rd (.bin .add) [.tmp 97, .pv (.str [41])]⟩,
 oM 8 98] L58)
 (.skip)))
 (.seq (.seq (.region false [oM 99 11,
 ⟨some 100, none, .rd (.bin .eql) [.tmp 99, .pv (.int .i64 2)]⟩,
 oM 101 100,
 qM 101 false 102 11,
 ⟨some 103, some (101, false), .rd (.bin .eql) [.tmp 102, .pv (.int .i64 3)]⟩,
 ⟨some 104, none, .rd .pick [.tmp 101, .pv (.bool true), .tmp 103]⟩,
 oM 105 104,
 qM 105 false 106 11,
 ⟨some 107, some (105, false), .rd (.bin .eql) [.tmp 106, .pv (.int .i64 4)]⟩,
 qM 105 false 108 107,
 qF 0 108 true 109 5,
 qL 108 true 110 109,
 ⟨some 111, some (108, true), .rd (.bin .eql) [.tmp 110, .pv (.int .i64 4)]⟩,
 ⟨some 112, some (105, false), .rd .pick [.tmp 108, .tmp 111, .pv (.bool false)]⟩,
 ⟨some 113, none, .rd .pick [.tmp 105, .pv (.bool true), .tmp 112]⟩] L58)
 (.cond (.tmp 113)
 (.region false [oM 114 9,
 ⟨some 115, none, .rd (.bin .add) [.pv (.str [40]), .tmp 114]⟩,
 ⟨some 116, none, .rd (.bin .add) [.tmp 115, .pv (.str [41])]⟩,
 oM 9 116] L58)
 (.skip)))
 (.seq (.region false [⟨some 117, none, .eff (.lit none false) [.pv (.str []), .pv (.str []), .pv (.str [43]), .pv (.str [45]), .pv (.str [42])]⟩,
 oM 12 117] L58)
 (.seq (.region false [oM 118 8,
 oM 119 12,
 oF 0 120 5,
 oL 121 120,
 ⟨some 122, none, .rd (.idxAddr none) [.tmp 119, .tmp 121]⟩,
 oL 123 122,
 ⟨some 124, none, .rd (.bin .add) [.tmp 118, .tmp 123]⟩,
 oM 125 9,
 ⟨some 126, none, .rd (.bin .add) [.tmp 124, .tmp 125]⟩,
 oM 4 126] L58)
 (.ret))))))))))),
 [.tmp 4]⟩

-- wagebook/wagebookref13.number
def L87 : List Nat := [0, 2, 3, 4, 5, 12, 23]
def c87 : CF := ⟨33,
 .seq (.region false [⟨some 2, none, .rd .mov [.pv (.str [])]⟩] L87)
 (.seq (.region false [oM 6 0,
 ⟨some 7, none, .rd (.bin .quo) [.tmp 6, .pv (.int .i64 1000000)]⟩,
 ⟨some 8, none, .call (.pv (.fn 105 [] [])) [.tmp 7]⟩,
 oM 3 8] L87)
 (.seq (.region false [oM 9 0,
 ⟨some 10, none, .rd (.bin .rem) [.tmp 9, .pv (.int .i64 1000000)]⟩,
 oM 4 10] L87)
 (.seq (.seq (.region false [oM 11 4,
 ⟨some 12, none, .rd (.bin .eql) [.tmp 11, .pv (.int .i64 0)]⟩] L87)
 (.cond (.tmp 12)
 (.seq (.region false [oM 13 3,
 oM 2 13] L87)
 (.ret))
 (.skip)))
 (.seq (.region false [oM 14 4,
 ⟨some 15, none, .rd (.bin .add) [.pv (.int .i64 1000000), .tmp 14]⟩,
 ⟨some 16, none, .call (.pv (.fn 105 [] [])) [.tmp 15]⟩,
 ⟨some 17, none, .rd (.slcS true false) [.tmp 16, .pv (.int .i64 1)]⟩,
 oM 5 17] L87)
 (.seq (.block 0
 (.loop
 (.seq (.seq (.region false [oM 18 5,
 oM 19 5,
 ⟨some 20, none, .rd .lenS [.tmp 19]⟩,
 ⟨some 21, none, .rd (.bin .sub) [.tmp 20, .pv (.int .i64 1)]⟩,
 ⟨some 22, none, .rd .idxS [.tmp 18, .tmp 21]⟩,
 ⟨some 23, none, .rd (.bin .eql) [.tmp 22, .pv (.int .u8 48)]⟩] L87)
 (.cond (.tmp 23)
 (.skip)
 (.exit 0)))
 (.block 1
 (.region false [oM 24 5,
 oM 25 5,
 ⟨some 26, none, .rd .lenS [.tmp 25]⟩,
 ⟨some 27, none, .rd (.bin .sub) [.tmp 26, .pv (.int .i64 1)]⟩,
 ⟨some 28, none, .rd (.slcS false true) [.tmp 24, .tmp 27]⟩,
 oM 5 28] L87)))))
 (.seq (.region false [oM 29 3,
 ⟨some 30, none, .rd (.bin .add) [.tmp 29, .pv (.str [46])]⟩,
 oM 31 5,
 ⟨some 32, none, .rd (.bin .add) [.tmp 30, .tmp 31]⟩,
 oM 2 32] L87)
 (.ret))))))),
 [.tmp 2]⟩

-- wagebook/wagebookref13.word
def L88 : List Nat := [0, 2, 3]
def c88 : CF := ⟨9,
 .seq (.region false [⟨some 2, none, .rd .mov [.pv (.str [])]⟩] L88)
 (.seq (.region false [⟨some 4, none, .eff (.lit none false) [.pv (.str []), .pv (.str []), .pv (.str []), .pv (.str []), .pv (.str []), .pv (.str [108, 101, 97, 115, 116]), .pv (.str [109, 111, 115, 116]), .pv (.str [105, 102]), .pv (.str [108, 101, 115, 115]), .pv (.str [101, 113, 117, 97, 108])]⟩,
 oM 3 4] L88)
 (.seq (.region false [oM 5 3,
 oM 6 0,
 ⟨some 7, none, .rd (.idxAddr none) [.tmp 5, .tmp 6]⟩,
 oL 8 7,
 oM 2 8] L88)
 (.ret))),
 [.tmp 2]⟩

-- wagebook/wagebookref13.digits
def L105 : List Nat := [0, 2, 3, 9]
def c105 : CF := ⟨21,
 .seq (.region false [⟨some 2, none, .rd .mov [.pv (.str [])]⟩] L105)
 (.seq (.region false [⟨some 3, none, .rd .mov [.pv (.str [])]⟩] L105)
 (.seq (.block 0
 (.loop
 (.seq (.seq (.region false [oM 4 3,
 ⟨some 5, none, .rd (.bin .eql) [.tmp 4, .pv (.str [])]⟩,
 oM 6 5,
 qM 6 false 7 0,
 ⟨some 8, some (6, false), .rd (.bin .gtr) [.tmp 7, .pv (.int .i64 0)]⟩,
 ⟨some 9, none, .rd .pick [.tmp 6, .pv (.bool true), .tmp 8]⟩] L105)
 (.cond (.tmp 9)
 (.skip)
 (.exit 0)))
 (.block 1
 (.seq (.region false [oM 10 0,
 ⟨some 11, none, .rd (.bin .rem) [.tmp 10, .pv (.int .i64 10)]⟩,
 ⟨some 12, none, .rd (.bin .add) [.pv (.int .i64 48), .tmp 11]⟩,
 ⟨some 13, none, .rd (.conv .u8) [.tmp 12]⟩,
 ⟨some 14, none, .eff (.lit none false) [.tmp 13]⟩,
 ⟨some 15, none, .eff .b2s [.tmp 14]⟩,
 oM 16 3,
 ⟨some 17, none, .rd (.bin .add) [.tmp 15, .tmp 16]⟩,
 oM 3 17] L105)
 (.region false [oM 18 0,
 ⟨some 19, none, .rd (.bin .quo) [.tmp 18, .pv (.int .i64 10)]⟩,
 oM 0 19] L105))))))
 (.seq (.region false [oM 20 3,
 oM 2 20] L105)
 (.ret)))),
 [.tmp 2]⟩

-- wagebook/wagebookref13.Sorted
def L28 : List Nat := [0, 2]
def c28 : CF := ⟨8,
 .seq (.region false [⟨some 2, none, .rd .mov [.pv .nilSl]⟩] L28)
 (.seq (.region false [oM 3 0,
 oM 4 0,
 ⟨some 5, none, .rd .lenL [.tmp 4]⟩,
 ⟨some 6, none, .rd (.bin .sub) [.tmp 5, .pv (.int .i64 1)]⟩,
 ⟨some 7, none, .call (.pv (.fn 59 [] [])) [.tmp 3, .tmp 6, .pv .nilSl]⟩,
 oM 2 7] L28)
 (.ret)),
 [.tmp 2]⟩

-- wagebook/wagebookref13.sorted
def L59 : List Nat := [0, 1, 2, 6, 7, 8, 9, 18]
def c59 : CF := ⟨46,
 .seq (.region false [⟨some 6, none, .rd .mov [.pv .nilSl]⟩] L59)
 (.seq (.region false [oM 10 0,
 oM 11 1,
 ⟨some 12, none, .rd (.idxAddr (some 4)) [.tmp 10, .tmp 11]⟩,
 ⟨some 13, none, .rd (.load (some 4)) [.tmp 12]⟩,
 ⟨some 7, none, .eff (.alloc (some 4) (.agg [(.int .i64 0), (.int .i64 0), (.str []), .nilSl])) []⟩,
 ⟨none, none, .eff (.store (some 4)) [.tmp 7, .tmp 13]⟩] L59)
 (.seq (.region false [⟨some 8, none, .rd .mov [.pv .nilSl]⟩] L59)
 (.seq (.seq (.region false [⟨some 9, none, .rd .mov [.pv (.int .i64 0)]⟩] L59)
 (.block 0
 (.loop
 (.seq (.seq (.region false [oM 14 9,
 oF 3 15 7,
 oL 16 15,
 ⟨some 17, none, .rd .lenL [.tmp 16]⟩,
 ⟨some 18, none, .rd (.bin .lss) [.tmp 14, .tmp 17]⟩] L59)
 (.cond (.tmp 18)
 (.skip)
 (.exit 0)))
 (.seq (.block 1
 (.seq (.region false [oM 21 0,
 oF 3 22 7,
 oL 23 22,
 oM 24 9,
 ⟨some 25, none, .rd (.idxAddr none) [.tmp 23, .tmp 24]⟩,
 oL 26 25,
 oM 27 2,
 ⟨some 28, none, .call (.pv (.fn 59 [] [])) [.tmp 21, .tmp 26, .tmp 27]⟩,
 oM 2 28] L59)
 (.region false [oM 29 8,
 oM 30 2,
 ⟨some 31, none, .rd .lenL [.tmp 30]⟩,
 ⟨some 32, none, .rd (.bin .sub) [.tmp 31, .pv (.int .i64 1)]⟩,
 ⟨some 33, none, .eff (.lit none false) [.tmp 32]⟩,
 ⟨some 34, none, .eff (.append none 8) [.tmp 29, .tmp 33]⟩,
 oM 8 34] L59)))
 (.region false [oM 19 9,
 ⟨some 20, none, .rd (.bin .add) [.tmp 19, .pv (.int .i64 1)]⟩,
 oM 9 20] L59))))))
 (.seq (.region false [oM 35 2,
 oF 0 36 7,
 oL 37 36,
 oF 1 38 7,
 oL 39 38,
 oF 2 40 7,
 oL 41 40,
 oM 42 8,
 ⟨some 43, none, .rd (.build [(.int .i64 0), (.int .i64 0), (.str []), .nilSl] [(0, 1), (1, 1), (2, 1), (3, 1)]) [.tmp 37, .tmp 39, .tmp 41, .tmp 42]⟩,
 ⟨some 44, none, .eff (.lit (some 4) false) [.tmp 43]⟩,
 ⟨some 45, none, .eff (.append (some 4) 56) [.tmp 35, .tmp 44]⟩,
 oM 6 45] L59)
 (.ret))))),
 [.tmp 6]⟩

-- wagebook/wagebooklaw13.ExprTexts
def L6 : List Nat := [0, 1, 2, 3, 4, 5, 6, 7, 14, 23, 26]
def c6 : CF := ⟨61,
 .seq (.region false [⟨some 1, none, .eff (.box (some 1)) [.tmp 0]⟩,
 ⟨some 2, none, .rd .mov [.pv (.bool false)]⟩] L6)
 (.seq (.seq (.region false [⟨some 8, none, .rd (.load (some 1)) [.tmp 1]⟩,
 ⟨some 9, none, .call (.pv (.fn 24 [] [])) [.tmp 8]⟩,
 oM 10 9,
 ⟨some 11, some (10, false), .rd (.load (some 1)) [.tmp 1]⟩,
 ⟨some 12, some (10, false), .call (.pv (.fn 25 [] [])) [.tmp 11]⟩,
 ⟨some 13, some (10, false), .rd (.bin .neq) [.tmp 12, .pv (.int .i64 0)]⟩,
 ⟨some 14, none, .rd .pick [.tmp 10, .pv (.bool true), .tmp 13]⟩] L6)
 (.cond (.tmp 14)
 (.seq (.region false [⟨some 15, none, .call (.pv (.fn 17 [] [])) []⟩,
 oM 2 15] L6)
 (.ret))
 (.skip)))
 (.seq (.region false [⟨some 16, none, .rd (.load (some 1)) [.tmp 1]⟩,
 ⟨some 17, none, .call (.pv (.fn 23 [] [])) [.tmp 16]⟩,
 oM 3 17] L6)
 (.seq (.region false [⟨some 18, none, .rd (.load (some 1)) [.tmp 1]⟩,
 ⟨some 19, none, .call (.pv (.fn 26 [] [])) [.tmp 18]⟩,
 oM 4 19] L6)
 (.seq (.seq (.region false [oM 20 4,
 oM 21 3,
 ⟨some 22, none, .call (.pv (.fn 27 [] [])) [.tmp 21]⟩,
 ⟨some 23, none, .rd (.bin .neq) [.tmp 20, .tmp 22]⟩] L6)
 (.cond (.tmp 23)
 (.seq (.region false [⟨some 2, none, .rd .mov [.pv (.bool false)]⟩] L6)
 (.ret))
 (.skip)))
 (.seq (.seq (.region false [oM 24 4,
 ⟨some 25, none, .rd .lenS [.tmp 24]⟩,
 ⟨some 26, none, .rd (.bin .gtr) [.tmp 25, .pv (.int .i64 4000)]⟩] L6)
 (.cond (.tmp 26)
 (.seq (.region false [⟨some 27, none, .call (.pv (.fn 17 [] [])) []⟩,
 oM 2 27] L6)
 (.ret))
 (.skip)))
 (.seq (.region false [oM 29 4,
 ⟨some 30, none, .call (.pv (.fn 18 [] [])) [.tmp 29]⟩,
 oM 28 30,
 ⟨some 31, none, .rd (.ext 0) [.tmp 28]⟩,
 ⟨some 32, none, .rd (.ext 1) [.tmp 28]⟩,
 ⟨some 33, none, .rd (.ext 2) [.tmp 28]⟩,
 ⟨some 5, none, .eff (.alloc (some 1) (.agg [.nilSl])) []⟩,
 ⟨none, none, .eff (.store (some 1)) [.tmp 5, .tmp 31]⟩,
 oM 6 32,
 oM 7 33] L6)
 (.seq (.region false [oM 34 7,
 ⟨some 35, none, .rd (.bin .eql) [.tmp 34, .pv (.int .i64 0)]⟩,
 oM 36 35,
 qM 36 true 37 6,
 ⟨some 38, some (36, true), .rd (.bin .eql) [.tmp 37, .pv (.int .i64 0)]⟩,
 ⟨some 39, none, .rd .pick [.tmp 36, .tmp 38, .pv (.bool false)]⟩,
 oM 40 39,
 ⟨some 41, some (40, true), .rd (.load (some 1)) [.tmp 5]⟩,
 ⟨some 42, some (40, true), .call (.pv (.fn 23 [] [])) [.tmp 41]⟩,
 qM 40 true 43 3,
 ⟨some 44, some (40, true), .call (.pv (.fn 28 [] [])) [.tmp 43]⟩,
 ⟨some 45, some (40, true), .call (.pv (.fn 22 [] [])) [.tmp 42, .tmp 44]⟩,
 ⟨some 46, none, .rd .pick [.tmp 40, .tmp 45, .pv (.bool false)]⟩,
 oM 47 46,
 ⟨some 48, some (47, true), .rd (.load (some 1)) [.tmp 5]⟩,
 ⟨some 49, some (47, true), .call (.pv (.fn 26 [] [])) [.tmp 48]⟩,
 qM 47 true 50 4,
 ⟨some 51, some (47, true), .rd (.bin .eql) [.tmp 49, .tmp 50]⟩,
 ⟨some 52, none, .rd .pick [.tmp 47, .tmp 51, .pv (.bool false)]⟩,
 oM 53 52,
 ⟨some 54, some (53, true), .rd (.load (some 1)) [.tmp 5]⟩,
 ⟨some 55, some (53, true), .call (.pv (.fn 29 [] [])) [.tmp 54]⟩,
 ⟨some 56, some (53, true), .rd (.bin .eql) [.tmp 55, .pv (.int .i64 0)]⟩,
 ⟨some 57, none, .rd .pick [.tmp 53, .tmp 56, .pv (.bool false)]⟩,
 oM 58 57,
 ⟨some 59, some (58, true), .call (.pv (.fn 17 [] [])) []⟩,
 ⟨some 60, none, .rd .pick [.tmp 58, .tmp 59, .pv (.bool false)]⟩,
 oM 2 60] L6)
 (.ret)))))))),
 [.tmp 2]⟩
theorem k27 : compileF Tryd.prog [] L27 Tryd.f27 = some c27 := by kernel_rfl
theorem k58 : compileF Tryd.prog [] L58 Tryd.f58 = some c58 := by kernel_rfl
theorem k87 : compileF Tryd.prog [] L87 Tryd.f87 = some c87 := by kernel_rfl
theorem k88 : compileF Tryd.prog [] L88 Tryd.f88 = some c88 := by kernel_rfl
theorem k105 : compileF Tryd.prog [] L105 Tryd.f105 = some c105 := by kernel_rfl
theorem k28 : compileF Tryd.prog [] L28 Tryd.f28 = some c28 := by kernel_rfl
theorem k59 : compileF Tryd.prog [] L59 Tryd.f59 = some c59 := by kernel_rfl
theorem k6 : compileF Tryd.prog [] L6 Tryd.f6 = some c6 := by kernel_rfl
end Go.Proofs.YthekpjhffciakaaDoor

namespace Go.Proofs.YthekpjhffciakaaDoor
open Go PG Go.Proofs
set_option linter.unusedSimpArgs false
set_option linter.unusedVariables false
set_option maxHeartbeats 4000000
set_option maxRecDepth 100000
/-! The document's text of a number -/
theorem e105 : Ent Tryd.prog 105 := ⟨Tryd.f105, Tryd.func105, by kernel_rfl, by kernel_rfl⟩
theorem e87 : Ent Tryd.prog 87 := ⟨Tryd.f87, Tryd.func87, by kernel_rfl, by kernel_rfl⟩
theorem e88 : Ent Tryd.prog 88 := ⟨Tryd.f88, Tryd.func88, by kernel_rfl, by kernel_rfl⟩
theorem e58 : Ent Tryd.prog 58 := ⟨Tryd.f58, Tryd.func58, by kernel_rfl, by kernel_rfl⟩
theorem v105 (n : Nat) (hn : n ≤ 2000000000000000000) : VCalls Tryd.prog G0 105 [.int .i64 n] (.str (digT n)) := by
  refine VCalls.of_PW Tryd.func105 k105 mix (by simp [c105]) ?_
  simp only [c105, L105, CC, argE]
  repeat' (first | exact True.intro | (refine PW.seqK ?_; intro K hK) | refine stp ?_ | refine seqK_n ‹_› ?_ | refine seqK_r ‹_› ?_ | refine seqK_e ‹_› ?_ | exact schedW_stop_i | refine schK_n ‹_› ?_ | (refine PW.cond rfl ?_ ?_ <;> intro hcond <;> (try contradiction) <;> try simp only [DD] at hcond) | (refine gd_i ?_; intro hg; try simp only [hg]) | (refine ari ?_; first | omega | (simp only [DD, LL] <;> omega) | (go_unwrap; omega)) | ((first | refine stq ?_ | show (_ : Post) _ _ _ | (refine schedW_alt_k ?_ ?_; intro K hK)); focus (simp only [SA, Nat.reduceAdd, reduceIte, Nat.reduceEqDiff, Nat.reduceBEq, reduceCtorEq]; (try go_unwrap; try simp only [RR, reduceCtorEq]))) | refine And.intro ?_ ?_ | exact Or.inr ⟨rfl, Nat.le_refl _⟩ | exact (fun h => Bool.noConfusion h))
  refine PW.loop (σ := Nat × List UInt8) [0, 3] (fun q => [.int .i64 q.1, .str q.2]) (fun _ => []) (fun q => q.1 + q.2.length ≤ n + 1 ∧ (q.2 = [] → q.1 = n) ∧ (q.2 ≠ [] → digT n = if q.1 = 0 then q.2 else digT q.1 ++ q.2)) (fun q => if q.2 = [] then q.1 + 1 else q.1) (n, []) ?_ rfl ⟨by simp, by simp, by simp⟩ ?_
  · simp only [SA, Nat.reduceAdd, reduceIte, Nat.reduceEqDiff, Nat.reduceBEq, reduceCtorEq]; rfl
  rintro ⟨m, s⟩ ⟨hm, h1, h2⟩
  simp only at hm h1 h2
  simp only [List.zip_cons_cons, List.zip_nil_left]
  have q1 : (m : Int).tmod 10 = ((m % 10 : Nat) : Int) := by rw [Int.tmod_eq_emod_of_nonneg (by omega)]; simp
  have q2 : (m : Int).tdiv 10 = ((m / 10 : Nat) : Int) := by rw [Int.tdiv_eq_ediv_of_nonneg (by omega)]; simp
  by_cases hc : s = [] ∨ 0 < m
  · have d1 : (decide (s = []) || decide ((0 : Int) < m)) = true := by
      simp only [Bool.or_eq_true, decide_eq_true_eq]; rcases hc with hc | hc
      · exact .inl hc
      · exact .inr (by omega)
    have hb : List.map PG.byteOf [PV.int IntKind.u8 (48 + ((m % 10 : Nat) : Int))] = [UInt8.ofNat (48 + m % 10)] := by
      have : m % 10 = 0 ∨ m % 10 = 1 ∨ m % 10 = 2 ∨ m % 10 = 3 ∨ m % 10 = 4 ∨ m % 10 = 5 ∨ m % 10 = 6 ∨ m % 10 = 7 ∨ m % 10 = 8 ∨ m % 10 = 9 := by omega
      rcases this with h | h | h | h | h | h | h | h | h | h <;> (rw [h]; rfl)
    have hd : digT n = if m / 10 = 0 then [UInt8.ofNat (48 + m % 10)] ++ s else digT (m / 10) ++ ([UInt8.ofNat (48 + m % 10)] ++ s) := by
      have hu : digT m ++ s = if m / 10 = 0 then [UInt8.ofNat (48 + m % 10)] ++ s else digT (m / 10) ++ ([UInt8.ofNat (48 + m % 10)] ++ s) := by
        conv => lhs; rw [digT]
        by_cases h9 : m ≤ 9
        · rw [if_pos h9, if_pos (by omega), show m % 10 = m by omega]
        · rw [if_neg h9, if_neg (by omega), List.append_assoc]
      rw [← hu]
      by_cases hs : s = []
      · rw [h1 hs, hs, List.append_nil]
      · have hm0 : m ≠ 0 := by
          rcases hc with hc | hc
          · exact absurd hc hs
          · omega
        rw [h2 hs, if_neg hm0]
    have hln : 1 + s.length ≤ 9223372036854775807 := by omega
    have hm0 : m = 0 → s.length = 0 := fun e => by
      rcases hc with hc | hc
      · rw [hc]; rfl
      · omega
    have w4 : IntKind.i64.wrap ((m / 10 : Nat) : Int) = ((m / 10 : Nat) : Int) := IntWalk.i64_in _ (by omega)
    have w2 : IntKind.i64.wrap (48 + ((m % 10 : Nat) : Int)) = 48 + ((m % 10 : Nat) : Int) := IntWalk.i64_in _ (by omega)
    repeat' (first | exact True.intro | (refine PW.seqK ?_; intro K hK) | refine stp ?_ | refine seqK_n ‹_› ?_ | refine seqK_r ‹_› ?_ | refine seqK_e ‹_› ?_ | exact schedW_stop_i | refine schK_n ‹_› ?_ | (refine PW.cond rfl ?_ ?_ <;> intro hcond <;> (try contradiction) <;> try simp only [DD] at hcond) | (refine gd_i ?_; intro hg; try simp only [hg]) | (refine ari ?_; first | omega | (simp only [DD, LL] <;> omega) | (go_unwrap; omega)) | ((first | refine stq ?_ | show (_ : Post) _ _ _ | (refine schedW_alt_k ?_ ?_; intro K hK)); focus (simp only [PV.bin, PV.binOk, binI, d1, q1, q2, w2, w4, SA, Nat.reduceAdd, reduceIte, Nat.reduceEqDiff, Nat.reduceBEq, reduceCtorEq]; (try go_unwrap; try simp only [PV.bin, PV.binOk, binI, d1, q1, q2, w2, w4, RR, reduceCtorEq]))) | refine And.intro ?_ ?_ | exact Or.inr ⟨rfl, Nat.le_refl _⟩ | exact (fun h => Bool.noConfusion h))
    all_goals first
      | (refine ⟨(m / 10, [UInt8.ofNat (48 + m % 10)] ++ s), (by rw [hb]; rfl), ⟨by simp; omega, by simp, fun _ => hd⟩, ?_⟩
         simp only
         rw [if_neg (by simp)]
         split
         · omega
         · rename_i hs
           have : 0 < m := hc.resolve_left hs
           omega)
      | (simp; omega)
  · have d1 : (decide (s = []) || decide ((0 : Int) < m)) = false := by
      simp only [not_or] at hc
      simp only [Bool.or_eq_false_iff, decide_eq_false_iff_not]; exact ⟨hc.1, by omega⟩
    simp only [not_or] at hc
    have := h2 hc.1
    rw [if_pos (by omega)] at this
    repeat' (first | exact True.intro | (refine PW.seqK ?_; intro K hK) | refine stp ?_ | refine seqK_n ‹_› ?_ | refine seqK_r ‹_› ?_ | refine seqK_e ‹_› ?_ | exact schedW_stop_i | refine schK_n ‹_› ?_ | (refine PW.cond rfl ?_ ?_ <;> intro hcond <;> (try contradiction) <;> try simp only [DD] at hcond) | (refine gd_i ?_; intro hg; try simp only [hg]) | (refine ari ?_; first | omega | (simp only [DD, LL] <;> omega) | (go_unwrap; omega)) | ((first | refine stq ?_ | show (_ : Post) _ _ _ | (refine schedW_alt_k ?_ ?_; intro K hK)); focus (simp only [PV.bin, PV.binOk, binI, d1, SA, Nat.reduceAdd, reduceIte, Nat.reduceEqDiff, Nat.reduceBEq, reduceCtorEq]; (try go_unwrap; try simp only [PV.bin, PV.binOk, binI, d1, RR, reduceCtorEq]))) | refine And.intro ?_ ?_ | exact Or.inr ⟨rfl, Nat.le_refl _⟩ | exact (fun h => Bool.noConfusion h))
    all_goals rw [this]
theorem digT_100 {x : Nat} (h : 1 ≤ x) : digT (100 * x) = digT x ++ [48, 48] := by
  rw [digT, if_neg (by omega), show 100 * x / 10 = 10 * x by omega, digT, if_neg (by omega), show 10 * x / 10 = x by omega, show 100 * x % 10 = 0 by omega, show 10 * x % 10 = 0 by omega, List.append_assoc]
  rfl
theorem v87 (n : Nat) (hn : n ≤ 1000000000000000000) (h100 : n % 100 = 0) : VCalls Tryd.prog G0 87 [.int .i64 n] (.str (numT n)) := by
  refine VCalls.of_PW Tryd.func87 k87 mix (by simp [c87]) ?_
  simp only [c87, L87, CC, argE]
  have q1 : (n : Int).tdiv 1000000 = ((n / 1000000 : Nat) : Int) := by rw [Int.tdiv_eq_ediv_of_nonneg (by omega)]; simp
  have q2 : (n : Int).tmod 1000000 = ((n % 1000000 : Nat) : Int) := by rw [Int.tmod_eq_emod_of_nonneg (by omega)]; simp
  have h1 := v105 (n / 1000000) (by omega)
  have h2 := v105 (1000000 + n % 1000000) (by omega)
  have hl1 := digT_len 18 (n / 1000000) (by have : (10 : Nat) ^ 19 = 10000000000000000000 := rfl; omega)
  have hr : n % 1000000 / 100 ≤ 9999 := by omega
  have h5 := dig5 _ hr
  have hx : digT (1000000 + n % 1000000) = digT (10000 + n % 1000000 / 100) ++ [48, 48] := by
    rw [show 1000000 + n % 1000000 = 100 * (10000 + n % 1000000 / 100) by omega]; exact digT_100 (by omega)
  unfold numT
  have w1 : IntKind.i64.wrap ((n / 1000000 : Nat) : Int) = ((n / 1000000 : Nat) : Int) := IntWalk.i64_in _ (by omega)
  have w4 : IntKind.i64.wrap (1000000 + ((n % 1000000 : Nat) : Int)) = ((1000000 + n % 1000000 : Nat) : Int) := by rw [IntWalk.i64_in _ (by omega)]; simp
  have hz0 : n % 1000000 / 100 = 0 ↔ n % 1000000 = 0 := by omega
  generalize hR : n % 1000000 = R at *
  generalize digT (n / 1000000) = S at *
  by_cases hz : R = 0
  · have d1 : decide ((R : Int) = 0) = true := by simp only [decide_eq_true_eq]; omega
    repeat' (first | exact True.intro | (refine PW.seqK ?_; intro K hK) | refine stp ?_ | refine seqK_n ‹_› ?_ | refine seqK_r ‹_› ?_ | refine seqK_e ‹_› ?_ | exact schedW_stop_i | refine schK_n ‹_› ?_ | (refine PW.cond rfl ?_ ?_ <;> intro hcond <;> (try contradiction) <;> try simp only [DD] at hcond) | (refine gd_i ?_; intro hg; try simp only [hg]) | refine goCall_W e105 (h1) ?_ ?_ ?_ ?_ | (refine ari ?_; first | omega | (simp only [DD, LL] <;> omega) | (go_unwrap; omega)) | ((first | refine stq ?_ | show (_ : Post) _ _ _ | (refine schedW_alt_k ?_ ?_; intro K hK)); focus (simp only [PV.bin, PV.binOk, binI, q1, q2, w1, d1, SA, Nat.reduceAdd, reduceIte, Nat.reduceEqDiff, Nat.reduceBEq, reduceCtorEq]; (try go_unwrap; try simp only [PV.bin, PV.binOk, binI, q1, q2, w1, d1, RR, reduceCtorEq]))) | refine And.intro ?_ ?_ | exact Or.inr ⟨rfl, Nat.le_refl _⟩ | exact (fun h => Bool.noConfusion h))
    all_goals rw [if_pos (hz0.2 hz)]
  · have d1 : decide ((R : Int) = 0) = false := by simp only [decide_eq_false_iff_not]; omega
    rw [if_neg (fun e => hz (hz0.1 e))]
    have hL : ((digT (1000000 + R)).length : Nat) = 7 := by rw [hx, h5]; rfl
    have hstrip : stripZ ((digT (1000000 + R)).drop (Int.toNat 1)) = stripZ ((digT (10000 + R / 100)).drop 1) := by
      rw [hx, h5]
      simp only [show Int.toNat 1 = 1 from rfl, List.drop_succ_cons, List.drop_zero, List.cons_append, List.nil_append]
      have e1 := stripZ_snoc [UInt8.ofNat (48 + R / 100 / 1000), UInt8.ofNat (48 + R / 100 / 100 % 10), UInt8.ofNat (48 + R / 100 / 10 % 10), UInt8.ofNat (48 + R / 100 % 10), 48] 48
      have e2 := stripZ_snoc [UInt8.ofNat (48 + R / 100 / 1000), UInt8.ofNat (48 + R / 100 / 100 % 10), UInt8.ofNat (48 + R / 100 / 10 % 10), UInt8.ofNat (48 + R / 100 % 10)] 48
      rw [if_pos rfl] at e1 e2
      simp only [List.cons_append, List.nil_append] at e1 e2
      rw [e1, e2]
    have hNZ : ∃ c ∈ (digT (1000000 + R)).drop (Int.toNat 1), c ≠ 48 := by
      rw [hx, h5]
      have key : ∀ d, d ≤ 9 → d ≠ 0 → UInt8.ofNat (48 + d) ≠ 48 := fun d hd hd0 e => by
        have := congrArg UInt8.toNat e
        rw [ofNat48 hd] at this
        have : (48 : UInt8).toNat = 48 := rfl
        omega
      by_cases c1 : R / 100 / 1000 = 0
      · by_cases c2 : R / 100 / 100 % 10 = 0
        · by_cases c3 : R / 100 / 10 % 10 = 0
          · exact ⟨_, by simp, key (R / 100 % 10) (by omega) (by omega)⟩
          · exact ⟨_, by simp, key (R / 100 / 10 % 10) (by omega) c3⟩
        · exact ⟨_, by simp, key (R / 100 / 100 % 10) (by omega) c2⟩
      · exact ⟨_, by simp, key (R / 100 / 1000) (by omega) c1⟩
    have hdl : ((digT (1000000 + R)).drop (Int.toNat 1)).length ≤ 6 := by rw [List.length_drop, hL]; decide
    clear h5 hx
    rw [← hstrip]
    repeat' (first | exact True.intro | (refine PW.seqK ?_; intro K hK) | refine stp ?_ | refine seqK_n ‹_› ?_ | refine seqK_r ‹_› ?_ | refine seqK_e ‹_› ?_ | exact schedW_stop_i | refine schK_n ‹_› ?_ | (refine PW.cond rfl ?_ ?_ <;> intro hcond <;> (try contradiction) <;> try simp only [DD] at hcond) | (apply goCall_V e105; (case hV => (simp only [PV.bin, PV.binOk, binI, q1, q2, w1, w4, d1, hL, SA, Nat.reduceAdd, reduceIte, Nat.reduceEqDiff, Nat.reduceBEq, reduceCtorEq]; (try go_unwrap; try simp only [PV.bin, PV.binOk, binI, q1, q2, w1, w4, d1, hL, RR, reduceCtorEq]); exact h1)); (try (case hs => rfl)); (try (case hf => first | exact Or.inl rfl | exact Or.inr ⟨rfl, rfl⟩ | (refine Or.inl ?_; simp only [PV.bin, PV.binOk, binI, q1, q2, w1, w4, d1, hL, SA, Nat.reduceAdd, reduceIte, Nat.reduceEqDiff, Nat.reduceBEq, reduceCtorEq]; done) | (refine Or.inr ⟨rfl, ?_⟩; simp only [PV.bin, PV.binOk, binI, q1, q2, w1, w4, d1, hL, SA, Nat.reduceAdd, reduceIte, Nat.reduceEqDiff, Nat.reduceBEq, reduceCtorEq]; done))); all_goals (first | (simp only [PV.bin, PV.binOk, binI, q1, q2, w1, w4, d1, hL, SA, Nat.reduceAdd, reduceIte, Nat.reduceEqDiff, Nat.reduceBEq, reduceCtorEq]; (try go_unwrap; try simp only [PV.bin, PV.binOk, binI, q1, q2, w1, w4, d1, hL, RR, reduceCtorEq])) | (show Env; skip) | (show Mem; skip))) | (apply goCall_V e105; (case hV => (simp only [PV.bin, PV.binOk, binI, q1, q2, w1, w4, d1, hL, SA, Nat.reduceAdd, reduceIte, Nat.reduceEqDiff, Nat.reduceBEq, reduceCtorEq]; (try go_unwrap; try simp only [PV.bin, PV.binOk, binI, q1, q2, w1, w4, d1, hL, RR, reduceCtorEq]); exact h2)); (try (case hs => rfl)); (try (case hf => first | exact Or.inl rfl | exact Or.inr ⟨rfl, rfl⟩ | (refine Or.inl ?_; simp only [PV.bin, PV.binOk, binI, q1, q2, w1, w4, d1, hL, SA, Nat.reduceAdd, reduceIte, Nat.reduceEqDiff, Nat.reduceBEq, reduceCtorEq]; done) | (refine Or.inr ⟨rfl, ?_⟩; simp only [PV.bin, PV.binOk, binI, q1, q2, w1, w4, d1, hL, SA, Nat.reduceAdd, reduceIte, Nat.reduceEqDiff, Nat.reduceBEq, reduceCtorEq]; done))); all_goals (first | (simp only [PV.bin, PV.binOk, binI, q1, q2, w1, w4, d1, hL, SA, Nat.reduceAdd, reduceIte, Nat.reduceEqDiff, Nat.reduceBEq, reduceCtorEq]; (try go_unwrap; try simp only [PV.bin, PV.binOk, binI, q1, q2, w1, w4, d1, hL, RR, reduceCtorEq])) | (show Env; skip) | (show Mem; skip))) | (refine gd_i ?_; intro hg; try simp only [hg]) | (refine ari ?_; first | omega | (simp only [DD, LL] <;> omega) | (go_unwrap; omega)) | ((first | refine stq ?_ | show (_ : Post) _ _ _ | (refine schedW_alt_k ?_ ?_; intro K hK)); focus (simp only [PV.bin, PV.binOk, binI, q1, q2, w1, w4, d1, hL, SA, Nat.reduceAdd, reduceIte, Nat.reduceEqDiff, Nat.reduceBEq, reduceCtorEq]; (try go_unwrap; try simp only [PV.bin, PV.binOk, binI, q1, q2, w1, w4, d1, hL, RR, reduceCtorEq]))) | refine And.intro ?_ ?_ | exact Or.inr ⟨rfl, Nat.le_refl _⟩ | exact (fun h => Bool.noConfusion h))
    generalize (digT (1000000 + R)).drop (Int.toNat 1) = b0 at *
    refine PW.loop (σ := List UInt8) [3, 5] (fun b => [.str S, .str b]) (fun _ => []) (fun b => stripZ b0 = stripZ b ∧ (∃ c ∈ b, c ≠ 48) ∧ b.length ≤ 6) (fun b => b.length) b0 ?_ rfl ⟨rfl, hNZ, hdl⟩ ?_
    · simp only [SA, Nat.reduceAdd, reduceIte, Nat.reduceEqDiff, Nat.reduceBEq, reduceCtorEq]; rfl
    rintro b ⟨hb1, hb2, hb3⟩
    simp only [List.zip_cons_cons, List.zip_nil_left]
    rcases List.eq_nil_or_concat b with rfl | ⟨b', c, rfl⟩
    · obtain ⟨c, hc, -⟩ := hb2; simp at hc
    rw [List.concat_eq_append] at *
    have hlen : ((b' ++ [c]).length : Nat) = b'.length + 1 := by simp
    have hg : (b' ++ [c]).getD b'.length 0 = c := by simp [List.getD]
    have hti : (((b'.length + 1 : Nat) : Int) - 1).toNat = b'.length := by omega
    have htk : (b' ++ [c]).take b'.length = b' := by simp
    rw [stripZ_snoc] at hb1
    by_cases h48 : c = 48
    · subst h48
      rw [if_pos rfl] at hb1
      have d2 : decide (((48 : UInt8).toNat : Int) = 48) = true := rfl
      repeat' (first | exact True.intro | (refine PW.seqK ?_; intro K hK) | refine stp ?_ | refine seqK_n ‹_› ?_ | refine seqK_r ‹_› ?_ | refine seqK_e ‹_› ?_ | exact schedW_stop_i | refine schK_n ‹_› ?_ | (refine PW.cond rfl ?_ ?_ <;> intro hcond <;> (try contradiction) <;> try simp only [DD] at hcond) | (refine gd_i ?_; intro hg; try simp only [hg]) | (refine ari ?_; first | omega | (simp only [DD, LL] <;> omega) | (go_unwrap; omega)) | ((first | refine stq ?_ | show (_ : Post) _ _ _ | (refine schedW_alt_k ?_ ?_; intro K hK)); focus (simp only [PV.bin, PV.binOk, binI, hlen, hti, hg, htk, d2, SA, Nat.reduceAdd, reduceIte, Nat.reduceEqDiff, Nat.reduceBEq, reduceCtorEq]; (try go_unwrap; try simp only [PV.bin, PV.binOk, binI, hlen, hti, hg, htk, d2, RR, reduceCtorEq]))) | refine And.intro ?_ ?_ | exact Or.inr ⟨rfl, Nat.le_refl _⟩ | exact (fun h => Bool.noConfusion h))
      all_goals first | exact ⟨b', rfl, ⟨hb1, by
        obtain ⟨x, hx, hx2⟩ := hb2
        rcases List.mem_append.1 hx with hx | hx
        · exact ⟨x, hx, hx2⟩
        · simp at hx; exact absurd hx hx2, by simp at hb3; omega⟩, by simp⟩ | omega
    · rw [if_neg h48] at hb1
      have d2 : decide ((c.toNat : Int) = 48) = false := by
        rw [decide_eq_false_iff_not]; exact fun h => h48 (UInt8.toNat_inj.1 (Int.ofNat.inj h))
      have hl2 : (b' ++ [c]).length ≤ 6 := hb3
      repeat' (first | exact True.intro | (refine PW.seqK ?_; intro K hK) | refine stp ?_ | refine seqK_n ‹_› ?_ | refine seqK_r ‹_› ?_ | refine seqK_e ‹_› ?_ | exact schedW_stop_i | refine schK_n ‹_› ?_ | (refine PW.cond rfl ?_ ?_ <;> intro hcond <;> (try contradiction) <;> try simp only [DD] at hcond) | (refine gd_i ?_; intro hg; try simp only [hg]) | (refine ari ?_; first | omega | (simp only [DD, LL] <;> omega) | (go_unwrap; omega)) | ((first | refine stq ?_ | show (_ : Post) _ _ _ | (refine schedW_alt_k ?_ ?_; intro K hK)); focus (simp only [PV.bin, PV.binOk, binI, hlen, hti, hg, htk, d2, SA, Nat.reduceAdd, reduceIte, Nat.reduceEqDiff, Nat.reduceBEq, reduceCtorEq]; (try go_unwrap; try simp only [PV.bin, PV.binOk, binI, hlen, hti, hg, htk, d2, RR, reduceCtorEq]))) | refine And.intro ?_ ?_ | exact Or.inr ⟨rfl, Nat.le_refl _⟩ | exact (fun h => Bool.noConfusion h))
      all_goals first | (rw [hb1]; done) | (simp at hb3 ⊢; omega)
theorem v88 (o : Nat) (h5 : 5 ≤ o) (h9 : o ≤ 9) : VCalls Tryd.prog G0 88 [.int .i64 o] (.str (wordM o)) := by
  refine VCalls.of_PW Tryd.func88 k88 mix (by simp [c88]) ?_
  simp only [c88, L88, CC, argE]
  have ek : ((o : Int)).toNat = o := by omega
  have hg : ([.str [], .str [], .str [], .str [], .str [], .str [108, 101, 97, 115, 116], .str [109, 111, 115, 116], .str [105, 102], .str [108, 101, 115, 115], .str [101, 113, 117, 97, 108]] : List PV).getD o .junk = .str (wordM o) := by
    have : o = 5 ∨ o = 6 ∨ o = 7 ∨ o = 8 ∨ o = 9 := by omega
    rcases this with rfl | rfl | rfl | rfl | rfl <;> rfl
  repeat' (first | exact True.intro | (refine PW.seqK ?_; intro K hK) | refine stp ?_ | refine seqK_n ‹_› ?_ | refine seqK_r ‹_› ?_ | refine seqK_e ‹_› ?_ | exact schedW_stop_i | refine schK_n ‹_› ?_ | (refine PW.cond rfl ?_ ?_ <;> intro hcond <;> (try contradiction) <;> try simp only [DD] at hcond) | (refine gd_i ?_; intro hg; try simp only [hg]) | (refine ari ?_; first | omega | (simp only [DD, LL] <;> omega) | (go_unwrap; omega)) | ((first | refine stq ?_ | show (_ : Post) _ _ _ | (refine schedW_alt_k ?_ ?_; intro K hK)); focus (simp only [ek, hg, List.length_cons, List.length_nil, SA, Nat.reduceAdd, reduceIte, Nat.reduceEqDiff, Nat.reduceBEq, reduceCtorEq]; (try go_unwrap; try simp only [ek, hg, List.length_cons, List.length_nil, RR, reduceCtorEq]))) | refine And.intro ?_ ?_ | exact Or.inr ⟨rfl, Nat.le_refl _⟩ | exact (fun h => Bool.noConfusion h))
end Go.Proofs.YthekpjhffciakaaDoor

