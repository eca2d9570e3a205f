import Derived.Test.YthekpjhffciakaaDoorQ7
import Derived.Test.YthekpjhffciakaaDoorQ8
import Derived.Test.YthekpjhffciakaaDoorQ9
import Derived.Test.YthekpjhffciakaaDoorP4
namespace Go.Proofs.YthekpjhffciakaaDoor
open Go PG Go.Proofs
set_option linter.unusedSimpArgs false
set_option linter.unusedVariables false
set_option maxHeartbeats 4000000
set_option maxRecDepth 100000
/-! The program's reader: its leaves -/
def wordsP : PV := .agg [.str [], .str [], .str [43], .str [45], .str [42], .str [108, 101, 97, 115, 116], .str [109, 111, 115, 116], .str [105, 102], .str [108, 101, 115, 115], .str [101, 113, 117, 97, 108]]
abbrev G0 : Globs := fun g => if g = 0 then some (some 10, wordsP) else if g = 1 then some (some 10, kidsTabP) else none
theorem e40 : Ent Tryd.prog 40 := ⟨Tryd.f40, Tryd.func40, by kernel_rfl, by kernel_rfl⟩
theorem e41 : Ent Tryd.prog 41 := ⟨Tryd.f41, Tryd.func41, by kernel_rfl, by kernel_rfl⟩
theorem e71 : Ent Tryd.prog 71 := ⟨Tryd.f71, Tryd.func71, by kernel_rfl, by kernel_rfl⟩
theorem e72 : Ent Tryd.prog 72 := ⟨Tryd.f72, Tryd.func72, by kernel_rfl, by kernel_rfl⟩
theorem e73 : Ent Tryd.prog 73 := ⟨Tryd.f73, Tryd.func73, by kernel_rfl, by kernel_rfl⟩
theorem e98 : Ent Tryd.prog 98 := ⟨Tryd.f98, Tryd.func98, by kernel_rfl, by kernel_rfl⟩
theorem e99 : Ent Tryd.prog 99 := ⟨Tryd.f99, Tryd.func99, by kernel_rfl, by kernel_rfl⟩
theorem e100 : Ent Tryd.prog 100 := ⟨Tryd.f100, Tryd.func100, by kernel_rfl, by kernel_rfl⟩
theorem e126 : Ent Tryd.prog 126 := ⟨Tryd.f126, Tryd.func126, by kernel_rfl, by kernel_rfl⟩
abbrev tksP (l : List Tok) : PV := .list (some 3) (l.map tokP)
def rdP (l : List Tok) (s : PS) : MObj := .var (some 4) (.agg [tksP l, .sl (some 4) 1 s.out.length, .int .i64 s.at_, .int .i64 s.e])
def rowO (s : PS) : MObj := .row (some 4) (s.out.map ndP)
/-- A reading, as a contract: the reader and its nodes, and whatever stands behind. -/
def RdC (l : List Tok) (f : Nat) (as_ : List PV) (ν : Mem) (s : PS) (r : Int × PS) : Prop :=
  PCalls Tryd.prog G0 f as_ (some (rdP l s) :: some (rowO s) :: ν) (killTag 1) (fun p μ' => p = .int .i64 r.1 ∧ μ' = some (rdP l r.2) :: some (rowO r.2) :: ν)
theorem RdC.frame {l : List Tok} {f : Nat} {as_ : List PV} {s : PS} {r : Int × PS} (h : RdC l f as_ [] s r) (ν : Mem) (hν : ν.map (Option.map (MObj.kill (killTag 1))) = ν) (ha : as_.map (PV.kill fun t => decide (2 ≤ t)) = as_) : RdC l f as_ ν s r := by
  have := PCalls.frame h ν (by rintro p μ' ⟨-, rfl⟩; rfl) ha (by simp [rdP, rowO, MObj.kill, PV.kill]) hν
  intro w κ vs hS hG hr
  refine (this w κ vs hS hG hr).mono ?_
  rintro e w' ⟨v, p, μ', κ', rfl, ⟨μ1, ⟨rfl, rfl⟩, rfl⟩, hS', hv, hg⟩
  exact ⟨v, _, _, κ', rfl, ⟨rfl, rfl⟩, hS', hv, hg⟩
theorem tk_get (l : List Tok) (j : Nat) (h : j < l.length) : (l.map tokP).getD j .junk = .agg [.int .i64 (tkAt l j).1, .str (tkAt l j).2.1, .int .i64 (tkAt l j).2.2] := by
  simp [List.getD, tkAt, h, tokP]
theorem tks_len (l : List Tok) : ((l.map tokP).length : Nat) = l.length := by simp
theorem nd_len (l : List Nd) : ((l.map ndP).length : Nat) = l.length := by simp
theorem q1 (a b c d : PV) (sh : Sh) (t n : Nat) : putPart (some 4) none (.agg [a, b, c, d]) 1 (.sl sh t n) = .agg [a, .sl sh t n, c, d] := rfl
theorem q2 (a b c d : PV) (k : IntKind) (v : Int) : putPart (some 4) none (.agg [a, b, c, d]) 2 (.int k v) = .agg [a, b, .int k v, d] := rfl
theorem q3 (a b c d : PV) (k : IntKind) (v : Int) : putPart (some 4) none (.agg [a, b, c, d]) 3 (.int k v) = .agg [a, b, c, .int k v] := rfl
theorem v98 (l : List Tok) (s : PS) (x : List UInt8) (hlt : s.at_ < l.length) (hl : l.length ≤ 100000) :
    VCalls Tryd.prog G0 98 [.cptr (some 4) (.agg [tksP l, .list (some 4) (s.out.map ndP), .int .i64 s.at_, .int .i64 s.e]) 0, .str x] (.bool (sgn l s x)) := by
  refine VCalls.of_PW Tryd.func98 k98 mix (by simp [c98]) ?_
  simp only [c98, L98, CC, argE]
  have hg := tk_get l s.at_ hlt
  have hlen := tks_len l
  have hk : decide (((tkAt l s.at_).1 : Int) = 3) = decide ((tkAt l s.at_).1 = 3) := by rw [Bool.eq_iff_iff, decide_eq_true_eq, decide_eq_true_eq]; omega
  repeat' (first | exact True.intro | (refine PW.seqK ?_; intro K hK) | refine pwB ?_ | refine pwS ?_ | refine pwL ?_ | refine pwE ?_ | refine pwR ?_ | refine pwK ?_ | refine seqK_n ‹_› ?_ | refine seqK_r ‹_› ?_ | refine seqK_e ‹_› ?_ | refine PW.regionA ?_ | exact schedW_stop_i | refine schK_n ‹_› ?_ | (refine schedW_alt_k ?_ ?_; focus (intro K hK; simp only [hg, hlen, SA, Nat.reduceAdd, reduceIte, Nat.reduceEqDiff, Nat.reduceBEq, reduceCtorEq]; (try go_unwrap; try simp only [hg, hlen, RR, reduceCtorEq]))) | (refine PW.cond rfl ?_ ?_ <;> intro hcond <;> (try contradiction) <;> try simp only [DD] at hcond) | (refine gd_i ?_; intro hg; try simp only [hg]) | ((first | show (_ : Nat) ≤ _ | show (_ : Nat) < _ | show (_ : Int) ≤ _ | show (_ : Int) < _ | show (_ : Nat) = _ | show (_ : Int) = _ | show (_ : Bool) = _ | show _ ∨ _ | show ¬ _); first | omega | (simp only [DD, LL] <;> omega) | (go_unwrap; omega)) | ((first | refine PW.region ?_ | refine PW.regionQ ?_ | refine schedW_done_i ?_ | show (_ : Post) _ _ _ | show @Eq (List PV) _ _ | show @Eq Bool _ _ | show opsW _ _ _ _ _ _ _ _ | show okAll _ | show @Eq Bool _ _ ∨ _); focus (simp only [hg, hlen, SA, Nat.reduceAdd, reduceIte, Nat.reduceEqDiff, Nat.reduceBEq, reduceCtorEq]; (try go_unwrap; try simp only [hg, hlen, RR, reduceCtorEq]))) | refine And.intro ?_ ?_ | exact Or.inr ⟨rfl, Nat.le_refl _⟩ | exact (fun h => Bool.noConfusion h))
  simp only [sgn, hk]
theorem v41 (l : List Tok) (s : PS) (e : Int) : RdC l 41 [.ref 0 0, .int .i64 e] [] s (failP s e) := by
  refine PCalls.moves (mv := fun t => t == 1 || decide (2 ≤ t)) (fun t ht h => ?_) ?_
  · simp only [List.length_cons, List.length_nil] at ht
    simp only [Bool.or_eq_true, beq_iff_eq, decide_eq_true_eq] at h
    simp only [killTag, beq_iff_eq]; omega
  refine PCalls.of_PW Tryd.func41 k41 mix (by simp [c41]) ?_
  simp only [c41, L41, CC, argE, rdP, rowO]
  repeat' (first | exact True.intro | (refine PW.seqK ?_; intro K hK) | refine pwB ?_ | refine pwS ?_ | refine pwL ?_ | refine pwE ?_ | refine pwR ?_ | refine pwK ?_ | refine seqK_n ‹_› ?_ | refine seqK_r ‹_› ?_ | refine seqK_e ‹_› ?_ | refine PW.regionA ?_ | exact schedW_stop_i | refine schK_n ‹_› ?_ | (refine schedW_alt_k ?_ ?_; focus (intro K hK; simp only [q3, SA, Nat.reduceAdd, reduceIte, Nat.reduceEqDiff, Nat.reduceBEq, reduceCtorEq]; (try go_unwrap; try simp only [q3, RR, reduceCtorEq]))) | (refine PW.cond rfl ?_ ?_ <;> intro hcond <;> (try contradiction) <;> try simp only [DD] at hcond) | (refine gd_i ?_; intro hg; try simp only [hg]) | ((first | show (_ : Nat) ≤ _ | show (_ : Nat) < _ | show (_ : Int) ≤ _ | show (_ : Int) < _ | show (_ : Nat) = _ | show (_ : Int) = _ | show (_ : Bool) = _ | show _ ∨ _ | show ¬ _); first | omega | (simp only [DD, LL] <;> omega) | (go_unwrap; omega)) | ((first | refine PW.region ?_ | refine PW.regionQ ?_ | refine schedW_done_i ?_ | show (_ : Post) _ _ _ | show @Eq (List PV) _ _ | show @Eq Bool _ _ | show opsW _ _ _ _ _ _ _ _ | show okAll _ | show @Eq Bool _ _ ∨ _); focus (simp only [q3, SA, Nat.reduceAdd, reduceIte, Nat.reduceEqDiff, Nat.reduceBEq, reduceCtorEq]; (try go_unwrap; try simp only [q3, RR, reduceCtorEq]))) | refine And.intro ?_ ?_ | exact Or.inr ⟨rfl, Nat.le_refl _⟩ | exact (fun h => Bool.noConfusion h))
  · rfl
  · simp only [failP, if_pos hcond]
  · rfl
  · simp only [failP, if_neg hcond]
theorem v99 (l : List Tok) (s : PS) (n : Nd) (hs : s.out.length ≤ 100000) : RdC l 99 [.ref 0 0, ndP n] [] s (putP s n) := by
  refine PCalls.moves (mv := fun t => t == 1 || decide (2 ≤ t)) (fun t ht h => ?_) ?_
  · simp only [List.length_cons, List.length_nil] at ht
    simp only [Bool.or_eq_true, beq_iff_eq, decide_eq_true_eq] at h
    simp only [killTag, beq_iff_eq]; omega
  refine PCalls.of_PW Tryd.func99 k99 mix (by simp [c99]) ?_
  simp only [c99, L99, CC, argE, rdP, rowO]
  have hlen := nd_len s.out
  have htk : (s.out.map ndP).take s.out.length = s.out.map ndP := List.take_of_length_le (by simp)
  have b1 : (s.out.length + 1) * 56 ≤ 140737488355328 := by omega
  rw [ndP1]
  repeat' (first | exact True.intro | (refine PW.seqA (E := ?_) (M := ?_) ?_ ?_; rotate_left 2) | exact mergeQ_mk _ _ | (exact Or.inr ⟨rfl, by decide⟩) | (refine PW.stop (x := .ret) ?_) | (refine PW.seqK ?_; intro K hK) | refine pwB ?_ | refine pwS ?_ | refine pwL ?_ | refine pwE ?_ | refine pwR ?_ | refine pwK ?_ | refine seqK_n ‹_› ?_ | refine seqK_r ‹_› ?_ | refine seqK_e ‹_› ?_ | refine PW.regionA ?_ | exact schedW_stop_i | refine schK_n ‹_› ?_ | (refine schedW_alt_k ?_ ?_; focus (intro K hK; simp only [hlen, htk, q1, List.length_cons, List.length_nil, Nat.zero_add, SA, Nat.reduceAdd, reduceIte, Nat.reduceEqDiff, Nat.reduceBEq, reduceCtorEq]; (try go_unwrap; try simp only [hlen, htk, q1, List.length_cons, List.length_nil, Nat.zero_add, RR, reduceCtorEq]))) | (refine PW.cond rfl ?_ ?_ <;> intro hcond <;> (try contradiction) <;> try simp only [DD] at hcond) | (refine gd_i ?_; intro hg; try simp only [hg]) | ((first | show (_ : Nat) ≤ _ | show (_ : Nat) < _ | show (_ : Int) ≤ _ | show (_ : Int) < _ | show (_ : Nat) = _ | show (_ : Int) = _ | show (_ : Bool) = _ | show _ ∨ _ | show ¬ _); first | omega | (simp only [DD, LL] <;> omega) | (go_unwrap; omega)) | ((first | refine PW.region ?_ | refine PW.regionQ ?_ | refine schedW_done_i ?_ | show (_ : Post) _ _ _ | show @Eq (List PV) _ _ | show @Eq Bool _ _ | show opsW _ _ _ _ _ _ _ _ | show okAll _ | show @Eq Bool _ _ ∨ _); focus (simp only [hlen, htk, q1, List.length_cons, List.length_nil, Nat.zero_add, SA, Nat.reduceAdd, reduceIte, Nat.reduceEqDiff, Nat.reduceBEq, reduceCtorEq]; (try go_unwrap; try simp only [hlen, htk, q1, List.length_cons, List.length_nil, Nat.zero_add, RR, reduceCtorEq]))) | refine And.intro ?_ ?_ | exact Or.inr ⟨rfl, Nat.le_refl _⟩ | exact (fun h => Bool.noConfusion h))
  refine ⟨?_⟩
  refine PW.trim 2 (fun t h => by simp [h]) ?_
  simp only [trimE, trimM, List.take_succ_cons, List.take_zero, List.map_cons, List.map_nil, Option.map_some, Option.map_none, MObj.kill, PV.kill, Nat.reduceLeDiff, decide_true, decide_false, dec_true, dec_false, Bool.false_eq_true, if_false, if_true, reduceIte]
  repeat' (first | exact True.intro | (refine PW.seqK ?_; intro K hK) | refine pwB ?_ | refine pwS ?_ | refine pwL ?_ | refine pwE ?_ | refine pwR ?_ | refine pwK ?_ | refine seqK_n ‹_› ?_ | refine seqK_r ‹_› ?_ | refine seqK_e ‹_› ?_ | refine PW.regionA ?_ | exact schedW_stop_i | refine schK_n ‹_› ?_ | (refine schedW_alt_k ?_ ?_; focus (intro K hK; simp only [SA, Nat.reduceAdd, reduceIte, Nat.reduceEqDiff, Nat.reduceBEq, reduceCtorEq]; (try go_unwrap; try simp only [RR, reduceCtorEq]))) | (refine PW.cond rfl ?_ ?_ <;> intro hcond <;> (try contradiction) <;> try simp only [DD] at hcond) | (refine gd_i ?_; intro hg; try simp only [hg]) | ((first | show (_ : Nat) ≤ _ | show (_ : Nat) < _ | show (_ : Int) ≤ _ | show (_ : Int) < _ | show (_ : Nat) = _ | show (_ : Int) = _ | show (_ : Bool) = _ | show _ ∨ _ | show ¬ _); first | omega | (simp only [DD, LL] <;> omega) | (go_unwrap; omega)) | ((first | refine PW.region ?_ | refine PW.regionQ ?_ | refine schedW_done_i ?_ | show (_ : Post) _ _ _ | show @Eq (List PV) _ _ | show @Eq Bool _ _ | show opsW _ _ _ _ _ _ _ _ | show okAll _ | show @Eq Bool _ _ ∨ _); focus (simp only [SA, Nat.reduceAdd, reduceIte, Nat.reduceEqDiff, Nat.reduceBEq, reduceCtorEq]; (try go_unwrap; try simp only [RR, reduceCtorEq]))) | refine And.intro ?_ ?_ | exact Or.inr ⟨rfl, Nat.le_refl _⟩ | exact (fun h => Bool.noConfusion h))
  · simp [putP]
  · simp [putP, ndP, ndC, kidsP]
end Go.Proofs.YthekpjhffciakaaDoor

namespace PG
open Go
set_option linter.unusedSimpArgs false
set_option linter.unusedVariables false
section
variable {P : Program} {G : Globs} {N : Nat} {w : World} {κ : Kap} {env : Env} {μ : Mem} {mv : Nat → Bool} {Q : Post}
/-- A nil slice in a slot, taken over as a row of its own. -/
theorem PW.ownE {x : PCode} (i : Nat) (sh : Sh) (hi : env.get i = .nilSl) (h : PW P G N mv x ((i, .sl sh μ.length 0) :: env) (μ ++ [some (MObj.row sh [])]) Q) : PW P G N mv x env μ Q := by
  intro ow L code hc hmix C a w κ hmv hR
  obtain ⟨hG, hS'⟩ := hR.sim.nilrow sh
  refine h ow L code hc hmix C a w _ hmv ⟨hR.size, hR.defers, fun j => ?_, hS', globs_goes hR.globs hG, hR.goes.trans (hG.weak fun _ h => h.elim)⟩
  have hj := hR.regs j
  by_cases e : i = j
  · subst e
    rw [hi] at hj
    rw [get_cons, if_pos rfl, rep_nilSl hj]
    exact .slnil sh μ.length (by simp)
  · rw [get_cons, if_neg e]
    exact hj.still hG
/-- A nil slice in a field of a variable of the call's own, taken over as a row of its own. -/
theorem PW.ownF {x : PCode} (t i : Nat) (sh : Sh) (n : Nat) (cs : List PV) (hm : μ.get t = some (.var (some n) (.agg cs))) (hi : cs[i]? = some .nilSl)
    (h : PW P G N mv x env ((μ ++ [some (MObj.row sh [])]).set t (some (MObj.var (some n) (.agg (cs.set i (.sl sh μ.length 0)))))) Q) : PW P G N mv x env μ Q := by
  intro ow L code hc hmix C a w κ hmv hR
  obtain ⟨hG, hS'⟩ := hR.sim.nilrow sh
  have hlt : t < μ.length := by
    rcases Nat.lt_or_ge t μ.length with h | h
    · exact h
    · simp [Mem.get, List.getElem?_eq_none h] at hm
  have hm' : Mem.get (μ ++ [some (MObj.row sh [])]) t = some (MObj.var (some n) (.agg cs)) := by
    unfold Mem.get at hm ⊢
    rw [List.getElem?_append_left hlt]; exact hm
  have hS'' := hS'.swap hm' (o' := MObj.var (some n) (.agg (cs.set i (.sl sh μ.length 0)))) (fun c hO => by
    cases hO with
    | var b arr E _ _ hb hs hsh hr =>
      obtain ⟨cs', e, hl⟩ := hsh
      cases e
      refine .var b arr E (some n) _ hb hs ⟨_, rfl, by simpa using hl⟩ (fun j p v hj hv => ?_)
      simp only [PV.cells] at hj hr
      by_cases e : i = j
      · subst e
        have hil : i < cs.length := (List.getElem?_eq_some_iff.1 hi).1
        rw [List.getElem?_set_self hil] at hj
        cases hj
        have := hr i .nilSl v hi hv
        rw [rep_nilSl this]
        exact .slnil sh μ.length (by simp)
      · rw [List.getElem?_set_ne e] at hj
        exact hr j p v hj hv)
  exact h ow L code hc hmix C a w _ hmv ⟨hR.size, hR.defers, fun j => (hR.regs j).still hG, hS'', globs_goes hR.globs hG, hR.goes.trans (hG.weak fun _ h => h.elim)⟩
end
end PG

namespace Go.Proofs.YthekpjhffciakaaDoor
open Go PG Go.Proofs
set_option linter.unusedSimpArgs false
set_option linter.unusedVariables false
set_option maxHeartbeats 4000000
set_option maxRecDepth 100000
def idxT (v : List UInt8) : List (List UInt8) → Int → Int
  | [], _ => -1
  | b :: l, i => if v = b then i else idxT v l (i + 1)
theorem v126 (l : List (List UInt8)) (v : List UInt8) (hl : l.length ≤ 9223372036854775806) : VCalls Tryd.prog G0 126 [.list none (l.map PV.str), .str v] (.int .i64 (idxT v l 0)) := by
  refine VCalls.of_PW Tryd.func126 k126 mix (by simp [c126]) ?_
  simp only [c126, L126, CC, argE]
  repeat' (first | exact True.intro | (refine PW.seqK ?_; intro K hK) | refine pwB ?_ | refine pwS ?_ | refine pwL ?_ | refine pwE ?_ | refine pwR ?_ | refine pwK ?_ | refine seqK_n ‹_› ?_ | refine seqK_r ‹_› ?_ | refine seqK_e ‹_› ?_ | refine PW.regionA ?_ | exact schedW_stop_i | refine schK_n ‹_› ?_ | (refine schedW_alt_k ?_ ?_; focus (intro K hK; simp only [SA, Nat.reduceAdd, reduceIte, Nat.reduceEqDiff, Nat.reduceBEq, reduceCtorEq]; (try go_unwrap; try simp only [RR, reduceCtorEq]))) | (refine PW.cond rfl ?_ ?_ <;> intro hcond <;> (try contradiction) <;> try simp only [DD] at hcond) | (refine gd_i ?_; intro hg; try simp only [hg]) | ((first | show (_ : Nat) ≤ _ | show (_ : Nat) < _ | show (_ : Int) ≤ _ | show (_ : Int) < _ | show (_ : Nat) = _ | show (_ : Int) = _ | show (_ : Bool) = _ | show _ ∨ _ | show ¬ _); first | omega | (simp only [DD, LL] <;> omega) | (go_unwrap; omega)) | ((first | refine PW.region ?_ | refine PW.regionQ ?_ | refine schedW_done_i ?_ | show (_ : Post) _ _ _ | show @Eq (List PV) _ _ | show @Eq Bool _ _ | show opsW _ _ _ _ _ _ _ _ | show okAll _ | show @Eq Bool _ _ ∨ _); focus (simp only [SA, Nat.reduceAdd, reduceIte, Nat.reduceEqDiff, Nat.reduceBEq, reduceCtorEq]; (try go_unwrap; try simp only [RR, reduceCtorEq]))) | refine And.intro ?_ ?_ | exact Or.inr ⟨rfl, Nat.le_refl _⟩ | exact (fun h => Bool.noConfusion h))
  refine PW.loop (σ := Nat) [0, 1, 7, 8] (fun j => [.list none (l.map PV.str), .str v, .int .i64 l.length, .int .i64 j]) (fun _ => []) (fun j => j ≤ l.length ∧ idxT v l 0 = idxT v (l.drop j) j) (fun j => l.length - j) 0 ?_ rfl ⟨by omega, by simp⟩ ?_
  · simp only [SA, Nat.reduceAdd, reduceIte, Nat.reduceEqDiff, Nat.reduceBEq, reduceCtorEq, List.length_map]; rfl
  rintro j ⟨hj, hr⟩
  simp only [List.zip_cons_cons, List.zip_nil_left]
  rcases Nat.lt_or_ge j l.length with h | h
  · obtain ⟨b, hd, -, hg⟩ := drop_at h
    rw [hd, idxT] at hr
    have hd' : decide ((j : Int) < l.length) = true := by simp only [decide_eq_true_eq]; omega
    repeat' (first | exact True.intro | (refine PW.seqK ?_; intro K hK) | refine pwB ?_ | refine pwS ?_ | refine pwL ?_ | refine pwE ?_ | refine pwR ?_ | refine pwK ?_ | refine seqK_n ‹_› ?_ | refine seqK_r ‹_› ?_ | refine seqK_e ‹_› ?_ | refine PW.regionA ?_ | exact schedW_stop_i | refine schK_n ‹_› ?_ | (refine schedW_alt_k ?_ ?_; focus (intro K hK; simp only [hd', (hg PV.str).1, List.length_map, SA, Nat.reduceAdd, reduceIte, Nat.reduceEqDiff, Nat.reduceBEq, reduceCtorEq]; (try go_unwrap; try simp only [hd', (hg PV.str).1, List.length_map, RR, reduceCtorEq]))) | (refine PW.cond rfl ?_ ?_ <;> intro hcond <;> (try contradiction) <;> try simp only [DD] at hcond) | (refine gd_i ?_; intro hg; try simp only [hg]) | ((first | show (_ : Nat) ≤ _ | show (_ : Nat) < _ | show (_ : Int) ≤ _ | show (_ : Int) < _ | show (_ : Nat) = _ | show (_ : Int) = _ | show (_ : Bool) = _ | show _ ∨ _ | show ¬ _); first | omega | (simp only [DD, LL] <;> omega) | (go_unwrap; omega)) | ((first | refine PW.region ?_ | refine PW.regionQ ?_ | refine schedW_done_i ?_ | show (_ : Post) _ _ _ | show @Eq (List PV) _ _ | show @Eq Bool _ _ | show opsW _ _ _ _ _ _ _ _ | show okAll _ | show @Eq Bool _ _ ∨ _); focus (simp only [hd', (hg PV.str).1, List.length_map, SA, Nat.reduceAdd, reduceIte, Nat.reduceEqDiff, Nat.reduceBEq, reduceCtorEq]; (try go_unwrap; try simp only [hd', (hg PV.str).1, List.length_map, RR, reduceCtorEq]))) | refine And.intro ?_ ?_ | exact Or.inr ⟨rfl, Nat.le_refl _⟩ | exact (fun h => Bool.noConfusion h))
    · rw [hr, if_pos hcond]
    · rw [if_neg hcond] at hr
      exact ⟨j + 1, rfl, ⟨h, hr⟩, by omega⟩
  · have hd' : decide ((j : Int) < l.length) = false := by simp only [decide_eq_false_iff_not]; omega
    rw [List.drop_eq_nil_of_le h, idxT] at hr
    repeat' (first | exact True.intro | (refine PW.seqK ?_; intro K hK) | refine pwB ?_ | refine pwS ?_ | refine pwL ?_ | refine pwE ?_ | refine pwR ?_ | refine pwK ?_ | refine seqK_n ‹_› ?_ | refine seqK_r ‹_› ?_ | refine seqK_e ‹_› ?_ | refine PW.regionA ?_ | exact schedW_stop_i | refine schK_n ‹_› ?_ | (refine schedW_alt_k ?_ ?_; focus (intro K hK; simp only [hd', SA, Nat.reduceAdd, reduceIte, Nat.reduceEqDiff, Nat.reduceBEq, reduceCtorEq]; (try go_unwrap; try simp only [hd', RR, reduceCtorEq]))) | (refine PW.cond rfl ?_ ?_ <;> intro hcond <;> (try contradiction) <;> try simp only [DD] at hcond) | (refine gd_i ?_; intro hg; try simp only [hg]) | ((first | show (_ : Nat) ≤ _ | show (_ : Nat) < _ | show (_ : Int) ≤ _ | show (_ : Int) < _ | show (_ : Nat) = _ | show (_ : Int) = _ | show (_ : Bool) = _ | show _ ∨ _ | show ¬ _); first | omega | (simp only [DD, LL] <;> omega) | (go_unwrap; omega)) | ((first | refine PW.region ?_ | refine PW.regionQ ?_ | refine schedW_done_i ?_ | show (_ : Post) _ _ _ | show @Eq (List PV) _ _ | show @Eq Bool _ _ | show opsW _ _ _ _ _ _ _ _ | show okAll _ | show @Eq Bool _ _ ∨ _); focus (simp only [hd', SA, Nat.reduceAdd, reduceIte, Nat.reduceEqDiff, Nat.reduceBEq, reduceCtorEq]; (try go_unwrap; try simp only [hd', RR, reduceCtorEq]))) | refine And.intro ?_ ?_ | exact Or.inr ⟨rfl, Nat.le_refl _⟩ | exact (fun h => Bool.noConfusion h))
    rw [hr]
theorem idx_call (x : List UInt8) : idxT x callWords 0 = match callNo x with | none => -1 | some i => (i : Int) := by
  unfold callNo callWords
  simp only [idxT, List.idxOf?, List.findIdx?_cons, List.findIdx?_nil, beq_iff_eq]
  by_cases h0 : x = [108, 101, 97, 115, 116]
  · subst h0; rfl
  by_cases h1 : x = [109, 111, 115, 116]
  · subst h1; rfl
  by_cases h2 : x = [105, 102]
  · subst h2; rfl
  by_cases h3 : x = [108, 101, 115, 115]
  · subst h3; rfl
  by_cases h4 : x = [101, 113, 117, 97, 108]
  · subst h4; rfl
  rw [if_neg h0, if_neg h1, if_neg h2, if_neg h3, if_neg h4, if_neg (fun h => h0 h.symm), if_neg (fun h => h1 h.symm), if_neg (fun h => h2 h.symm), if_neg (fun h => h3 h.symm), if_neg (fun h => h4 h.symm)]
  rfl
theorem callNo_lt {x : List UInt8} {i : Nat} (h : callNo x = some i) : i < 5 := by
  unfold callNo at h
  have := (List.idxOf?_eq_some_iff.1 h).1
  exact this
end Go.Proofs.YthekpjhffciakaaDoor

namespace Go.Proofs.YthekpjhffciakaaDoor
open Go PG Go.Proofs
set_option linter.unusedSimpArgs false
set_option linter.unusedVariables false
set_option maxHeartbeats 4000000
set_option maxRecDepth 100000
variable {G : Globs}
theorem e47 : Ent Tryd.prog 47 := ⟨Tryd.f47, Tryd.func47, by kernel_rfl, by kernel_rfl⟩
theorem e20 : Ent Tryd.prog 20 := ⟨Tryd.f20, Tryd.func20, by kernel_rfl, by kernel_rfl⟩
def dotB (b : UInt8) : Bool := digitB b || decide ((b.toNat : Int) = 46)
theorem v47 (b : UInt8) : VCalls Tryd.prog G 47 [.int .u8 b.toNat] (.bool (dotB b)) := by
  refine VCalls.of_PW Tryd.func47 k47 mix (by simp [c47]) ?_
  simp only [c47, L47, CC, argE]
  repeat' (first | refine PW.seq ?_ | refine PW.block ?_ | ((first | refine PW.region ?_ | refine PW.regionQ ?_ | refine PW.exit ?_ | refine PW.ret ?_ | refine PW.skip ?_); simp only [SA, Nat.reduceAdd, reduceIte, Nat.reduceEqDiff, Nat.reduceBEq, reduceCtorEq]; (try go_unwrap; try simp only [RR, reduceCtorEq])) | refine PW.regionA ?_ | exact schedW_stop_i | ((first | refine schedW_alt_i ?_ ?_ | refine schedW_done_i ?_); focus (simp only [SA, Nat.reduceAdd, reduceIte, Nat.reduceEqDiff, Nat.reduceBEq, reduceCtorEq]; (try go_unwrap; try simp only [RR, reduceCtorEq]))) | (refine PW.cond rfl ?_ ?_ <;> intro hcond <;> (try contradiction) <;> try simp only [DD] at hcond) | (apply goCall_V e44; (case hV => (simp only [SA, Nat.reduceAdd, reduceIte, Nat.reduceEqDiff, Nat.reduceBEq, reduceCtorEq]; (try go_unwrap; try simp only [RR, reduceCtorEq]); exact v44 _)); (try (case hs => rfl)); (try (case hf => first | exact Or.inl rfl | exact Or.inr ⟨rfl, rfl⟩ | (refine Or.inl ?_; simp only [SA, Nat.reduceAdd, reduceIte, Nat.reduceEqDiff, Nat.reduceBEq, reduceCtorEq]; done) | (refine Or.inr ⟨rfl, ?_⟩; simp only [SA, Nat.reduceAdd, reduceIte, Nat.reduceEqDiff, Nat.reduceBEq, reduceCtorEq]; done))); all_goals (simp only [SA, Nat.reduceAdd, reduceIte, Nat.reduceEqDiff, Nat.reduceBEq, reduceCtorEq]; (try go_unwrap; try simp only [RR, reduceCtorEq]))) | refine And.intro ?_ ?_ | exact Or.inr ⟨rfl, Nat.le_refl _⟩ | exact (fun h => Bool.noConfusion h) | omega | (simp only [decide_eq_true_eq, decide_eq_false_iff_not, List.length_cons, List.length_nil, List.length_append, List.length_map, Sh.size] <;> omega) | (go_unwrap; omega))
  rfl
/-- What a number says: the number and the error. -/
def numOf (s : List UInt8) : Nat × Nat :=
  if s = [] then (0, 3) else if digitB (s.getD 0 0) = false then (0, 3) else
    match numL s with
    | .error (_, e) => if e = 2 ∧ runL dotB s = s.length ∧ Lib.countByte s 46 < 2 then (0, 2) else (0, 3)
    | .ok (n, v) => if n = s.length then (v, 0) else (0, 3)
theorem cut_full {s : List UInt8} {v : Nat} (h : numL s = .ok (s.length, v)) : ∃ w r b, cutS s 46 = (w, r, b) ∧ partV 100000 r ≤ 999999 ∧ milV w r = v ∧ v ≤ 1000000000000000000 := by
  have c0 := cut_run0 s
  have c1 := cut_run1 s
  have h0 : runL digitB s ≤ s.length := runL_le _ _
  unfold numL at h
  split at h
  · rename_i hp
    split at h
    · cases h
    · split at h
      · cases h
      · split at h
        · rename_i hk hv
          simp only [Except.ok.injEq, Prod.mk.injEq] at h
          obtain ⟨h1, h2⟩ := h
          have ht := take_split (k := runL digitB (s.drop (runL digitB s + 1))) hp.1 hp.2
          rw [List.take_of_length_le (by omega)] at ht
          refine ⟨_, _, _, (by have h5 := c1 ((s.drop (runL digitB s + 1)).take (runL digitB (s.drop (runL digitB s + 1)))); rw [← ht] at h5; exact h5), partV_digits _ _, h2, h2 ▸ hv⟩
        · cases h
  · split at h
    · rename_i hv
      simp only [Except.ok.injEq, Prod.mk.injEq] at h
      obtain ⟨h1, h2⟩ := h
      rw [h1, List.take_of_length_le (Nat.le_refl _)] at c0
      rw [h1, List.take_of_length_le (Nat.le_refl _)] at h2 hv
      exact ⟨_, _, _, c0, by simp [partV], h2, h2 ▸ hv⟩
    · cases h
theorem v20 (s : List UInt8) (hs : s.length ≤ 9223372036854775800) : VCalls Tryd.prog G 20 [.str s] (.tup [.int .i64 (numOf s).1, .int .i64 (numOf s).2]) := by
  refine VCalls.of_PW Tryd.func20 k20 mix (by simp [c20]) ?_
  have h20 := v45 (G := G) s 0 hs (by omega)
  have h21 := v46 (G := G) s 0 47 dotB (by omega) (by omega) e47 v47
  have h23 := v48 (G := G) s 46
  simp only [List.drop_zero] at h20 h21
  have h24 := v49 (G := G) s (by omega)
  unfold numOf
  simp only [c20, L20, CC, argE]
  by_cases h0 : s = []
  · rw [if_pos h0]
    have hd0 : decide (s = []) = true := decide_eq_true h0
    subst h0
    repeat' (first | refine PW.seq ?_ | refine PW.block ?_ | ((first | refine PW.region ?_ | refine PW.regionQ ?_ | refine PW.exit ?_ | refine PW.ret ?_ | refine PW.skip ?_); simp only [hd0, Bool.true_or, SA, Nat.reduceAdd, reduceIte, Nat.reduceEqDiff, Nat.reduceBEq, reduceCtorEq]; (try go_unwrap; try simp only [hd0, Bool.true_or, RR, reduceCtorEq])) | refine PW.regionA ?_ | exact schedW_stop_i | ((first | refine schedW_alt_i ?_ ?_ | refine schedW_done_i ?_); focus (simp only [hd0, Bool.true_or, SA, Nat.reduceAdd, reduceIte, Nat.reduceEqDiff, Nat.reduceBEq, reduceCtorEq]; (try go_unwrap; try simp only [hd0, Bool.true_or, RR, reduceCtorEq]))) | (refine PW.cond rfl ?_ ?_ <;> intro hcond <;> (try contradiction) <;> try simp only [DD] at hcond) | (apply goCallG_V e44; (case hV => (intro hg; simp only [hg, hd0, Bool.true_or, SA, Nat.reduceAdd, reduceIte, Nat.reduceEqDiff, Nat.reduceBEq, reduceCtorEq]; (try go_unwrap; try simp only [hd0, Bool.true_or, RR, reduceCtorEq]); exact v44 _)); (case hok => (intro hg; first | (simp only [hg, hd0, Bool.true_or, SA, Nat.reduceAdd, reduceIte, Nat.reduceEqDiff, Nat.reduceBEq, reduceCtorEq]; done) | (simp_all [okAll, PV.okUnder]; done))); (case hs => (intro hg; simp only [hg, hd0, Bool.true_or, SA, Nat.reduceAdd, reduceIte, Nat.reduceEqDiff, Nat.reduceBEq, reduceCtorEq])); (case hf => first | rfl | simp only [hd0, Bool.true_or, SA, Nat.reduceAdd, reduceIte, Nat.reduceEqDiff, Nat.reduceBEq, reduceCtorEq]); (simp only [hd0, Bool.true_or, SA, Nat.reduceAdd, reduceIte, Nat.reduceEqDiff, Nat.reduceBEq, reduceCtorEq]; (try go_unwrap; try simp only [hd0, Bool.true_or, RR, reduceCtorEq]))) | refine And.intro ?_ ?_ | exact Or.inr ⟨rfl, Nat.le_refl _⟩ | exact (fun h => Bool.noConfusion h) | omega | (simp only [decide_eq_true_eq, decide_eq_false_iff_not, List.length_cons, List.length_nil, List.length_append, List.length_map, Sh.size] <;> omega) | (go_unwrap; omega))
    rfl
  · rw [if_neg h0]
    have hd0 : decide (s = []) = false := decide_eq_false h0
    have hlen : 0 < s.length := List.length_pos_iff.2 h0
    have zt : (0 : Int).toNat = 0 := rfl
    cases h1 : digitB (s.getD 0 0) with
    | false =>
      rw [if_pos rfl]
      repeat' (first | refine PW.seq ?_ | refine PW.block ?_ | ((first | refine PW.region ?_ | refine PW.regionQ ?_ | refine PW.exit ?_ | refine PW.ret ?_ | refine PW.skip ?_); simp only [hd0, h1, zt, Bool.false_or, Bool.not_false, SA, Nat.reduceAdd, reduceIte, Nat.reduceEqDiff, Nat.reduceBEq, reduceCtorEq]; (try go_unwrap; try simp only [hd0, h1, zt, Bool.false_or, Bool.not_false, RR, reduceCtorEq])) | refine PW.regionA ?_ | exact schedW_stop_i | ((first | refine schedW_alt_i ?_ ?_ | refine schedW_done_i ?_); focus (simp only [hd0, h1, zt, Bool.false_or, Bool.not_false, SA, Nat.reduceAdd, reduceIte, Nat.reduceEqDiff, Nat.reduceBEq, reduceCtorEq]; (try go_unwrap; try simp only [hd0, h1, zt, Bool.false_or, Bool.not_false, RR, reduceCtorEq]))) | (refine PW.cond rfl ?_ ?_ <;> intro hcond <;> (try contradiction) <;> try simp only [DD] at hcond) | (apply goCallG_V e44; (case hV => (intro hg; simp only [hg, hd0, h1, zt, Bool.false_or, Bool.not_false, SA, Nat.reduceAdd, reduceIte, Nat.reduceEqDiff, Nat.reduceBEq, reduceCtorEq]; (try go_unwrap; try simp only [hd0, h1, zt, Bool.false_or, Bool.not_false, RR, reduceCtorEq]); exact v44 _)); (case hok => (intro hg; first | (simp only [hg, hd0, h1, zt, Bool.false_or, Bool.not_false, SA, Nat.reduceAdd, reduceIte, Nat.reduceEqDiff, Nat.reduceBEq, reduceCtorEq]; done) | (simp_all [okAll, PV.okUnder]; done))); (case hs => (intro hg; simp only [hg, hd0, h1, zt, Bool.false_or, Bool.not_false, SA, Nat.reduceAdd, reduceIte, Nat.reduceEqDiff, Nat.reduceBEq, reduceCtorEq])); (case hf => first | rfl | simp only [hd0, h1, zt, Bool.false_or, Bool.not_false, SA, Nat.reduceAdd, reduceIte, Nat.reduceEqDiff, Nat.reduceBEq, reduceCtorEq]); (simp only [hd0, h1, zt, Bool.false_or, Bool.not_false, SA, Nat.reduceAdd, reduceIte, Nat.reduceEqDiff, Nat.reduceBEq, reduceCtorEq]; (try go_unwrap; try simp only [hd0, h1, zt, Bool.false_or, Bool.not_false, RR, reduceCtorEq]))) | refine And.intro ?_ ?_ | exact Or.inr ⟨rfl, Nat.le_refl _⟩ | exact (fun h => Bool.noConfusion h) | omega | (simp only [decide_eq_true_eq, decide_eq_false_iff_not, List.length_cons, List.length_nil, List.length_append, List.length_map, Sh.size] <;> omega) | (go_unwrap; omega))
      rfl
    | true =>
      rw [if_neg (by simp)]
      cases hn : numL s with
      | error p =>
        obtain ⟨o, e⟩ := p
        obtain ⟨he, -⟩ := numL_err hn
        rw [hn] at h20
        simp only [lexNum] at h20
        have he0 : decide ((e : Int) = 0) = false := by rw [decide_eq_false_iff_not]; omega
        repeat' (first | refine PW.seq ?_ | refine PW.block ?_ | ((first | refine PW.region ?_ | refine PW.regionQ ?_ | refine PW.exit ?_ | refine PW.ret ?_ | refine PW.skip ?_); simp only [hd0, h1, zt, he0, SA, Nat.reduceAdd, reduceIte, Nat.reduceEqDiff, Nat.reduceBEq, reduceCtorEq]; (try go_unwrap; try simp only [hd0, h1, zt, he0, RR, reduceCtorEq])) | refine PW.regionA ?_ | exact schedW_stop_i | ((first | refine schedW_alt_i ?_ ?_ | refine schedW_done_i ?_); focus (simp only [hd0, h1, zt, he0, SA, Nat.reduceAdd, reduceIte, Nat.reduceEqDiff, Nat.reduceBEq, reduceCtorEq]; (try go_unwrap; try simp only [hd0, h1, zt, he0, RR, reduceCtorEq]))) | (refine PW.cond rfl ?_ ?_ <;> intro hcond <;> (try contradiction) <;> try simp only [DD] at hcond) | (apply goCallG_V e44; (case hV => (intro hg; simp only [hg, hd0, h1, zt, he0, SA, Nat.reduceAdd, reduceIte, Nat.reduceEqDiff, Nat.reduceBEq, reduceCtorEq]; (try go_unwrap; try simp only [hd0, h1, zt, he0, RR, reduceCtorEq]); exact v44 _)); (case hok => (intro hg; first | (simp only [hg, hd0, h1, zt, he0, SA, Nat.reduceAdd, reduceIte, Nat.reduceEqDiff, Nat.reduceBEq, reduceCtorEq]; done) | (simp_all [okAll, PV.okUnder]; done))); (case hs => (intro hg; simp only [hg, hd0, h1, zt, he0, SA, Nat.reduceAdd, reduceIte, Nat.reduceEqDiff, Nat.reduceBEq, reduceCtorEq])); (case hf => first | rfl | simp only [hd0, h1, zt, he0, SA, Nat.reduceAdd, reduceIte, Nat.reduceEqDiff, Nat.reduceBEq, reduceCtorEq]); (simp only [hd0, h1, zt, he0, SA, Nat.reduceAdd, reduceIte, Nat.reduceEqDiff, Nat.reduceBEq, reduceCtorEq]; (try go_unwrap; try simp only [hd0, h1, zt, he0, RR, reduceCtorEq]))) | (apply goCall_V e45; (case hV => (simp only [hd0, h1, zt, he0, SA, Nat.reduceAdd, reduceIte, Nat.reduceEqDiff, Nat.reduceBEq, reduceCtorEq]; (try go_unwrap; try simp only [hd0, h1, zt, he0, RR, reduceCtorEq]); exact h20)); (try (case hs => rfl)); (try (case hf => first | exact Or.inl rfl | exact Or.inr ⟨rfl, rfl⟩ | (refine Or.inl ?_; simp only [hd0, h1, zt, he0, SA, Nat.reduceAdd, reduceIte, Nat.reduceEqDiff, Nat.reduceBEq, reduceCtorEq]; done) | (refine Or.inr ⟨rfl, ?_⟩; simp only [hd0, h1, zt, he0, SA, Nat.reduceAdd, reduceIte, Nat.reduceEqDiff, Nat.reduceBEq, reduceCtorEq]; done))); all_goals (simp only [hd0, h1, zt, he0, SA, Nat.reduceAdd, reduceIte, Nat.reduceEqDiff, Nat.reduceBEq, reduceCtorEq]; (try go_unwrap; try simp only [hd0, h1, zt, he0, RR, reduceCtorEq]))) | (apply goCallG_V e46; (case hV => (intro hg; simp only [hg, hd0, h1, zt, he0, SA, Nat.reduceAdd, reduceIte, Nat.reduceEqDiff, Nat.reduceBEq, reduceCtorEq]; (try go_unwrap; try simp only [hd0, h1, zt, he0, RR, reduceCtorEq]); exact h21)); (case hok => (intro hg; first | (simp only [hg, hd0, h1, zt, he0, SA, Nat.reduceAdd, reduceIte, Nat.reduceEqDiff, Nat.reduceBEq, reduceCtorEq]; done) | (simp_all [okAll, PV.okUnder]; done))); (case hs => (intro hg; simp only [hg, hd0, h1, zt, he0, SA, Nat.reduceAdd, reduceIte, Nat.reduceEqDiff, Nat.reduceBEq, reduceCtorEq])); (case hf => first | rfl | simp only [hd0, h1, zt, he0, SA, Nat.reduceAdd, reduceIte, Nat.reduceEqDiff, Nat.reduceBEq, reduceCtorEq]); (simp only [hd0, h1, zt, he0, SA, Nat.reduceAdd, reduceIte, Nat.reduceEqDiff, Nat.reduceBEq, reduceCtorEq]; (try go_unwrap; try simp only [hd0, h1, zt, he0, RR, reduceCtorEq]))) | (apply goCallG_V e48; (case hV => (intro hg; simp only [hg, hd0, h1, zt, he0, SA, Nat.reduceAdd, reduceIte, Nat.reduceEqDiff, Nat.reduceBEq, reduceCtorEq]; (try go_unwrap; try simp only [hd0, h1, zt, he0, RR, reduceCtorEq]); exact h23)); (case hok => (intro hg; first | (simp only [hg, hd0, h1, zt, he0, SA, Nat.reduceAdd, reduceIte, Nat.reduceEqDiff, Nat.reduceBEq, reduceCtorEq]; done) | (simp_all [okAll, PV.okUnder]; done))); (case hs => (intro hg; simp only [hg, hd0, h1, zt, he0, SA, Nat.reduceAdd, reduceIte, Nat.reduceEqDiff, Nat.reduceBEq, reduceCtorEq])); (case hf => first | rfl | simp only [hd0, h1, zt, he0, SA, Nat.reduceAdd, reduceIte, Nat.reduceEqDiff, Nat.reduceBEq, reduceCtorEq]); (simp only [hd0, h1, zt, he0, SA, Nat.reduceAdd, reduceIte, Nat.reduceEqDiff, Nat.reduceBEq, reduceCtorEq]; (try go_unwrap; try simp only [hd0, h1, zt, he0, RR, reduceCtorEq]))) | (apply goCall_V e49; (case hV => (simp only [hd0, h1, zt, he0, SA, Nat.reduceAdd, reduceIte, Nat.reduceEqDiff, Nat.reduceBEq, reduceCtorEq]; (try go_unwrap; try simp only [hd0, h1, zt, he0, RR, reduceCtorEq]); exact h24)); (try (case hs => rfl)); (try (case hf => first | exact Or.inl rfl | exact Or.inr ⟨rfl, rfl⟩ | (refine Or.inl ?_; simp only [hd0, h1, zt, he0, SA, Nat.reduceAdd, reduceIte, Nat.reduceEqDiff, Nat.reduceBEq, reduceCtorEq]; done) | (refine Or.inr ⟨rfl, ?_⟩; simp only [hd0, h1, zt, he0, SA, Nat.reduceAdd, reduceIte, Nat.reduceEqDiff, Nat.reduceBEq, reduceCtorEq]; done))); all_goals (simp only [hd0, h1, zt, he0, SA, Nat.reduceAdd, reduceIte, Nat.reduceEqDiff, Nat.reduceBEq, reduceCtorEq]; (try go_unwrap; try simp only [hd0, h1, zt, he0, RR, reduceCtorEq]))) | refine And.intro ?_ ?_ | exact Or.inr ⟨rfl, Nat.le_refl _⟩ | exact (fun h => Bool.noConfusion h) | omega | (simp only [decide_eq_true_eq, decide_eq_false_iff_not, List.length_cons, List.length_nil, List.length_append, List.length_map, Sh.size] <;> omega) | (go_unwrap; omega))
        · simp only [Bool.and_eq_true, decide_eq_true_eq] at hcond
          rw [if_pos ⟨by omega, by omega, by omega⟩]; rfl
        · have hq : ¬(e = 2 ∧ runL dotB s = s.length ∧ Lib.countByte s 46 < 2) := by
            rintro ⟨q1, q2, q3⟩
            have z1 : decide ((e : Int) = 2) = true := by rw [decide_eq_true_eq]; omega
            have z2 : decide (((runL dotB s : Nat) : Int) = s.length) = true := by rw [decide_eq_true_eq]; omega
            have z3 : decide (((Lib.countByte s 46 : Nat) : Int) < 2) = true := by rw [decide_eq_true_eq]; omega
            simp only [z1, z2, z3] at *
            simp at *
          rw [if_neg hq]; rfl
      | ok p =>
        obtain ⟨n, v⟩ := p
        rw [hn] at h20
        simp only [lexNum] at h20
        by_cases hl : n = s.length
        · subst hl
          obtain ⟨w, r, b, hc, hp, hm, hv⟩ := cut_full hn
          obtain ⟨a, h3, h4⟩ := valV_eq hc hp
          rw [h3] at h24
          have := h4 (by omega)
          subst this
          subst hm
          have z1 : decide ((0 : Int) = 2) = false := rfl
          have z2 : decide ((0 : Int) = 0) = true := rfl
          have z3 : decide ((s.length : Int) = s.length) = true := by simp
          repeat' (first | refine PW.seq ?_ | refine PW.block ?_ | ((first | refine PW.region ?_ | refine PW.regionQ ?_ | refine PW.exit ?_ | refine PW.ret ?_ | refine PW.skip ?_); simp only [hd0, h1, zt, z1, z2, z3, SA, Nat.reduceAdd, reduceIte, Nat.reduceEqDiff, Nat.reduceBEq, reduceCtorEq]; (try go_unwrap; try simp only [hd0, h1, zt, z1, z2, z3, RR, reduceCtorEq])) | refine PW.regionA ?_ | exact schedW_stop_i | ((first | refine schedW_alt_i ?_ ?_ | refine schedW_done_i ?_); focus (simp only [hd0, h1, zt, z1, z2, z3, SA, Nat.reduceAdd, reduceIte, Nat.reduceEqDiff, Nat.reduceBEq, reduceCtorEq]; (try go_unwrap; try simp only [hd0, h1, zt, z1, z2, z3, RR, reduceCtorEq]))) | (refine PW.cond rfl ?_ ?_ <;> intro hcond <;> (try contradiction) <;> try simp only [DD] at hcond) | (apply goCallG_V e44; (case hV => (intro hg; simp only [hg, hd0, h1, zt, z1, z2, z3, SA, Nat.reduceAdd, reduceIte, Nat.reduceEqDiff, Nat.reduceBEq, reduceCtorEq]; (try go_unwrap; try simp only [hd0, h1, zt, z1, z2, z3, RR, reduceCtorEq]); exact v44 _)); (case hok => (intro hg; first | (simp only [hg, hd0, h1, zt, z1, z2, z3, SA, Nat.reduceAdd, reduceIte, Nat.reduceEqDiff, Nat.reduceBEq, reduceCtorEq]; done) | (simp_all [okAll, PV.okUnder]; done))); (case hs => (intro hg; simp only [hg, hd0, h1, zt, z1, z2, z3, SA, Nat.reduceAdd, reduceIte, Nat.reduceEqDiff, Nat.reduceBEq, reduceCtorEq])); (case hf => first | rfl | simp only [hd0, h1, zt, z1, z2, z3, SA, Nat.reduceAdd, reduceIte, Nat.reduceEqDiff, Nat.reduceBEq, reduceCtorEq]); (simp only [hd0, h1, zt, z1, z2, z3, SA, Nat.reduceAdd, reduceIte, Nat.reduceEqDiff, Nat.reduceBEq, reduceCtorEq]; (try go_unwrap; try simp only [hd0, h1, zt, z1, z2, z3, RR, reduceCtorEq]))) | (apply goCall_V e45; (case hV => (simp only [hd0, h1, zt, z1, z2, z3, SA, Nat.reduceAdd, reduceIte, Nat.reduceEqDiff, Nat.reduceBEq, reduceCtorEq]; (try go_unwrap; try simp only [hd0, h1, zt, z1, z2, z3, RR, reduceCtorEq]); exact h20)); (try (case hs => rfl)); (try (case hf => first | exact Or.inl rfl | exact Or.inr ⟨rfl, rfl⟩ | (refine Or.inl ?_; simp only [hd0, h1, zt, z1, z2, z3, SA, Nat.reduceAdd, reduceIte, Nat.reduceEqDiff, Nat.reduceBEq, reduceCtorEq]; done) | (refine Or.inr ⟨rfl, ?_⟩; simp only [hd0, h1, zt, z1, z2, z3, SA, Nat.reduceAdd, reduceIte, Nat.reduceEqDiff, Nat.reduceBEq, reduceCtorEq]; done))); all_goals (simp only [hd0, h1, zt, z1, z2, z3, SA, Nat.reduceAdd, reduceIte, Nat.reduceEqDiff, Nat.reduceBEq, reduceCtorEq]; (try go_unwrap; try simp only [hd0, h1, zt, z1, z2, z3, RR, reduceCtorEq]))) | (apply goCallG_V e46; (case hV => (intro hg; simp only [hg, hd0, h1, zt, z1, z2, z3, SA, Nat.reduceAdd, reduceIte, Nat.reduceEqDiff, Nat.reduceBEq, reduceCtorEq]; (try go_unwrap; try simp only [hd0, h1, zt, z1, z2, z3, RR, reduceCtorEq]); exact h21)); (case hok => (intro hg; first | (simp only [hg, hd0, h1, zt, z1, z2, z3, SA, Nat.reduceAdd, reduceIte, Nat.reduceEqDiff, Nat.reduceBEq, reduceCtorEq]; done) | (simp_all [okAll, PV.okUnder]; done))); (case hs => (intro hg; simp only [hg, hd0, h1, zt, z1, z2, z3, SA, Nat.reduceAdd, reduceIte, Nat.reduceEqDiff, Nat.reduceBEq, reduceCtorEq])); (case hf => first | rfl | simp only [hd0, h1, zt, z1, z2, z3, SA, Nat.reduceAdd, reduceIte, Nat.reduceEqDiff, Nat.reduceBEq, reduceCtorEq]); (simp only [hd0, h1, zt, z1, z2, z3, SA, Nat.reduceAdd, reduceIte, Nat.reduceEqDiff, Nat.reduceBEq, reduceCtorEq]; (try go_unwrap; try simp only [hd0, h1, zt, z1, z2, z3, RR, reduceCtorEq]))) | (apply goCallG_V e48; (case hV => (intro hg; simp only [hg, hd0, h1, zt, z1, z2, z3, SA, Nat.reduceAdd, reduceIte, Nat.reduceEqDiff, Nat.reduceBEq, reduceCtorEq]; (try go_unwrap; try simp only [hd0, h1, zt, z1, z2, z3, RR, reduceCtorEq]); exact h23)); (case hok => (intro hg; first | (simp only [hg, hd0, h1, zt, z1, z2, z3, SA, Nat.reduceAdd, reduceIte, Nat.reduceEqDiff, Nat.reduceBEq, reduceCtorEq]; done) | (simp_all [okAll, PV.okUnder]; done))); (case hs => (intro hg; simp only [hg, hd0, h1, zt, z1, z2, z3, SA, Nat.reduceAdd, reduceIte, Nat.reduceEqDiff, Nat.reduceBEq, reduceCtorEq])); (case hf => first | rfl | simp only [hd0, h1, zt, z1, z2, z3, SA, Nat.reduceAdd, reduceIte, Nat.reduceEqDiff, Nat.reduceBEq, reduceCtorEq]); (simp only [hd0, h1, zt, z1, z2, z3, SA, Nat.reduceAdd, reduceIte, Nat.reduceEqDiff, Nat.reduceBEq, reduceCtorEq]; (try go_unwrap; try simp only [hd0, h1, zt, z1, z2, z3, RR, reduceCtorEq]))) | (apply goCall_V e49; (case hV => (simp only [hd0, h1, zt, z1, z2, z3, SA, Nat.reduceAdd, reduceIte, Nat.reduceEqDiff, Nat.reduceBEq, reduceCtorEq]; (try go_unwrap; try simp only [hd0, h1, zt, z1, z2, z3, RR, reduceCtorEq]); exact h24)); (try (case hs => rfl)); (try (case hf => first | exact Or.inl rfl | exact Or.inr ⟨rfl, rfl⟩ | (refine Or.inl ?_; simp only [hd0, h1, zt, z1, z2, z3, SA, Nat.reduceAdd, reduceIte, Nat.reduceEqDiff, Nat.reduceBEq, reduceCtorEq]; done) | (refine Or.inr ⟨rfl, ?_⟩; simp only [hd0, h1, zt, z1, z2, z3, SA, Nat.reduceAdd, reduceIte, Nat.reduceEqDiff, Nat.reduceBEq, reduceCtorEq]; done))); all_goals (simp only [hd0, h1, zt, z1, z2, z3, SA, Nat.reduceAdd, reduceIte, Nat.reduceEqDiff, Nat.reduceBEq, reduceCtorEq]; (try go_unwrap; try simp only [hd0, h1, zt, z1, z2, z3, RR, reduceCtorEq]))) | refine And.intro ?_ ?_ | exact Or.inr ⟨rfl, Nat.le_refl _⟩ | exact (fun h => Bool.noConfusion h) | omega | (simp only [decide_eq_true_eq, decide_eq_false_iff_not, List.length_cons, List.length_nil, List.length_append, List.length_map, Sh.size] <;> omega) | (go_unwrap; omega))
          rfl
        · have z1 : decide ((0 : Int) = 2) = false := rfl
          have z2 : decide ((0 : Int) = 0) = true := rfl
          have z3 : decide ((n : Int) = s.length) = false := by rw [decide_eq_false_iff_not]; omega
          repeat' (first | refine PW.seq ?_ | refine PW.block ?_ | ((first | refine PW.region ?_ | refine PW.regionQ ?_ | refine PW.exit ?_ | refine PW.ret ?_ | refine PW.skip ?_); simp only [hd0, h1, zt, z1, z2, z3, SA, Nat.reduceAdd, reduceIte, Nat.reduceEqDiff, Nat.reduceBEq, reduceCtorEq]; (try go_unwrap; try simp only [hd0, h1, zt, z1, z2, z3, RR, reduceCtorEq])) | refine PW.regionA ?_ | exact schedW_stop_i | ((first | refine schedW_alt_i ?_ ?_ | refine schedW_done_i ?_); focus (simp only [hd0, h1, zt, z1, z2, z3, SA, Nat.reduceAdd, reduceIte, Nat.reduceEqDiff, Nat.reduceBEq, reduceCtorEq]; (try go_unwrap; try simp only [hd0, h1, zt, z1, z2, z3, RR, reduceCtorEq]))) | (refine PW.cond rfl ?_ ?_ <;> intro hcond <;> (try contradiction) <;> try simp only [DD] at hcond) | (apply goCallG_V e44; (case hV => (intro hg; simp only [hg, hd0, h1, zt, z1, z2, z3, SA, Nat.reduceAdd, reduceIte, Nat.reduceEqDiff, Nat.reduceBEq, reduceCtorEq]; (try go_unwrap; try simp only [hd0, h1, zt, z1, z2, z3, RR, reduceCtorEq]); exact v44 _)); (case hok => (intro hg; first | (simp only [hg, hd0, h1, zt, z1, z2, z3, SA, Nat.reduceAdd, reduceIte, Nat.reduceEqDiff, Nat.reduceBEq, reduceCtorEq]; done) | (simp_all [okAll, PV.okUnder]; done))); (case hs => (intro hg; simp only [hg, hd0, h1, zt, z1, z2, z3, SA, Nat.reduceAdd, reduceIte, Nat.reduceEqDiff, Nat.reduceBEq, reduceCtorEq])); (case hf => first | rfl | simp only [hd0, h1, zt, z1, z2, z3, SA, Nat.reduceAdd, reduceIte, Nat.reduceEqDiff, Nat.reduceBEq, reduceCtorEq]); (simp only [hd0, h1, zt, z1, z2, z3, SA, Nat.reduceAdd, reduceIte, Nat.reduceEqDiff, Nat.reduceBEq, reduceCtorEq]; (try go_unwrap; try simp only [hd0, h1, zt, z1, z2, z3, RR, reduceCtorEq]))) | (apply goCall_V e45; (case hV => (simp only [hd0, h1, zt, z1, z2, z3, SA, Nat.reduceAdd, reduceIte, Nat.reduceEqDiff, Nat.reduceBEq, reduceCtorEq]; (try go_unwrap; try simp only [hd0, h1, zt, z1, z2, z3, RR, reduceCtorEq]); exact h20)); (try (case hs => rfl)); (try (case hf => first | exact Or.inl rfl | exact Or.inr ⟨rfl, rfl⟩ | (refine Or.inl ?_; simp only [hd0, h1, zt, z1, z2, z3, SA, Nat.reduceAdd, reduceIte, Nat.reduceEqDiff, Nat.reduceBEq, reduceCtorEq]; done) | (refine Or.inr ⟨rfl, ?_⟩; simp only [hd0, h1, zt, z1, z2, z3, SA, Nat.reduceAdd, reduceIte, Nat.reduceEqDiff, Nat.reduceBEq, reduceCtorEq]; done))); all_goals (simp only [hd0, h1, zt, z1, z2, z3, SA, Nat.reduceAdd, reduceIte, Nat.reduceEqDiff, Nat.reduceBEq, reduceCtorEq]; (try go_unwrap; try simp only [hd0, h1, zt, z1, z2, z3, RR, reduceCtorEq]))) | (apply goCallG_V e46; (case hV => (intro hg; simp only [hg, hd0, h1, zt, z1, z2, z3, SA, Nat.reduceAdd, reduceIte, Nat.reduceEqDiff, Nat.reduceBEq, reduceCtorEq]; (try go_unwrap; try simp only [hd0, h1, zt, z1, z2, z3, RR, reduceCtorEq]); exact h21)); (case hok => (intro hg; first | (simp only [hg, hd0, h1, zt, z1, z2, z3, SA, Nat.reduceAdd, reduceIte, Nat.reduceEqDiff, Nat.reduceBEq, reduceCtorEq]; done) | (simp_all [okAll, PV.okUnder]; done))); (case hs => (intro hg; simp only [hg, hd0, h1, zt, z1, z2, z3, SA, Nat.reduceAdd, reduceIte, Nat.reduceEqDiff, Nat.reduceBEq, reduceCtorEq])); (case hf => first | rfl | simp only [hd0, h1, zt, z1, z2, z3, SA, Nat.reduceAdd, reduceIte, Nat.reduceEqDiff, Nat.reduceBEq, reduceCtorEq]); (simp only [hd0, h1, zt, z1, z2, z3, SA, Nat.reduceAdd, reduceIte, Nat.reduceEqDiff, Nat.reduceBEq, reduceCtorEq]; (try go_unwrap; try simp only [hd0, h1, zt, z1, z2, z3, RR, reduceCtorEq]))) | (apply goCallG_V e48; (case hV => (intro hg; simp only [hg, hd0, h1, zt, z1, z2, z3, SA, Nat.reduceAdd, reduceIte, Nat.reduceEqDiff, Nat.reduceBEq, reduceCtorEq]; (try go_unwrap; try simp only [hd0, h1, zt, z1, z2, z3, RR, reduceCtorEq]); exact h23)); (case hok => (intro hg; first | (simp only [hg, hd0, h1, zt, z1, z2, z3, SA, Nat.reduceAdd, reduceIte, Nat.reduceEqDiff, Nat.reduceBEq, reduceCtorEq]; done) | (simp_all [okAll, PV.okUnder]; done))); (case hs => (intro hg; simp only [hg, hd0, h1, zt, z1, z2, z3, SA, Nat.reduceAdd, reduceIte, Nat.reduceEqDiff, Nat.reduceBEq, reduceCtorEq])); (case hf => first | rfl | simp only [hd0, h1, zt, z1, z2, z3, SA, Nat.reduceAdd, reduceIte, Nat.reduceEqDiff, Nat.reduceBEq, reduceCtorEq]); (simp only [hd0, h1, zt, z1, z2, z3, SA, Nat.reduceAdd, reduceIte, Nat.reduceEqDiff, Nat.reduceBEq, reduceCtorEq]; (try go_unwrap; try simp only [hd0, h1, zt, z1, z2, z3, RR, reduceCtorEq]))) | (apply goCall_V e49; (case hV => (simp only [hd0, h1, zt, z1, z2, z3, SA, Nat.reduceAdd, reduceIte, Nat.reduceEqDiff, Nat.reduceBEq, reduceCtorEq]; (try go_unwrap; try simp only [hd0, h1, zt, z1, z2, z3, RR, reduceCtorEq]); exact h24)); (try (case hs => rfl)); (try (case hf => first | exact Or.inl rfl | exact Or.inr ⟨rfl, rfl⟩ | (refine Or.inl ?_; simp only [hd0, h1, zt, z1, z2, z3, SA, Nat.reduceAdd, reduceIte, Nat.reduceEqDiff, Nat.reduceBEq, reduceCtorEq]; done) | (refine Or.inr ⟨rfl, ?_⟩; simp only [hd0, h1, zt, z1, z2, z3, SA, Nat.reduceAdd, reduceIte, Nat.reduceEqDiff, Nat.reduceBEq, reduceCtorEq]; done))); all_goals (simp only [hd0, h1, zt, z1, z2, z3, SA, Nat.reduceAdd, reduceIte, Nat.reduceEqDiff, Nat.reduceBEq, reduceCtorEq]; (try go_unwrap; try simp only [hd0, h1, zt, z1, z2, z3, RR, reduceCtorEq]))) | refine And.intro ?_ ?_ | exact Or.inr ⟨rfl, Nat.le_refl _⟩ | exact (fun h => Bool.noConfusion h) | omega | (simp only [decide_eq_true_eq, decide_eq_false_iff_not, List.length_cons, List.length_nil, List.length_append, List.length_map, Sh.size] <;> omega) | (go_unwrap; omega))
          rw [if_neg hl]; rfl
end Go.Proofs.YthekpjhffciakaaDoor

