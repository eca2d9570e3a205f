import Derived.Test.YthekpjhffciakaaDoorRows
import Derived.LaidMore
import Derived.Stop.Joined
import Derived.Test.YthekpjhffciakaaDoorQ18
import Derived.Test.YthekpjhffciakaaDoorQ11
namespace Go.Proofs.YthekpjhffciakaaDoor
open Go PG Go.Proofs
set_option linter.unusedSimpArgs false
set_option linter.unusedVariables false
set_option maxHeartbeats 4000000
set_option maxRecDepth 100000
theorem OkNds.sizes' {nd : List Nd} (h : OkNds nd) : ∀ n ∈ nd, n.name.length ≤ 9223372036854775807 ∧ n.kids.length ≤ 9223372036854775807 := fun n hn => by
  have := h.small n hn; omega
theorem v34o {nd : List Nd} (h : OkNds nd) : VCalls Tryd.prog G0 34 [treeP nd] (.list none ((varsM nd).map PV.str)) := v34 nd h.sizes' h.len.1 h.check
theorem v11 (s r : List UInt8) (hs : s.length ≤ 9223372036854775807) (hr : r.length ≤ 9223372036854775807) : VCalls Tryd.prog G0 11 [.str s, .str r] (.bool true) := by
  refine VCalls.of_PW Tryd.func11 k11 mix (by simp [c11]) ?_
  simp only [c11, L11, CC, argE]
  have h17 := v17
  by_cases hb : s.length ≤ 300 ∧ r.length ≤ 300
  case neg =>
    have d1 : (decide ((300 : Int) < s.length) || decide ((300 : Int) < r.length)) = true := by simp only [Bool.or_eq_true, decide_eq_true_eq]; omega
    repeat' (first | exact True.intro | (refine PW.seqK ?_; intro K hK) | refine pwB ?_ | refine pwS ?_ | refine pwL ?_ | refine pwE ?_ | refine pwR ?_ | refine pwK ?_ | refine seqK_n ‹_› ?_ | refine seqK_r ‹_› ?_ | refine seqK_e ‹_› ?_ | refine PW.regionA ?_ | exact schedW_stop_i | refine schK_n ‹_› ?_ | (refine schedW_alt_k ?_ ?_; focus (intro K hK; simp only [d1, SA, Nat.reduceAdd, reduceIte, Nat.reduceEqDiff, Nat.reduceBEq, reduceCtorEq]; (try go_unwrap; try simp only [d1, RR, reduceCtorEq]))) | (refine PW.cond rfl ?_ ?_ <;> intro hcond <;> (try contradiction) <;> try simp only [DD] at hcond) | (refine gd_i ?_; intro hg; try simp only [hg]) | refine goCall_W e17 (h17) ?_ ?_ ?_ ?_ | ((first | show (_ : Nat) ≤ _ | show (_ : Nat) < _ | show (_ : Int) ≤ _ | show (_ : Int) < _ | show (_ : Nat) = _ | show (_ : Int) = _ | show (_ : Bool) = _ | show _ ∨ _ | show ¬ _); first | omega | (simp only [DD, LL] <;> omega) | (go_unwrap; omega)) | ((first | refine PW.region ?_ | refine PW.regionQ ?_ | refine schedW_done_i ?_ | show (_ : Post) _ _ _ | show @Eq (List PV) _ _ | show @Eq Bool _ _ | show opsW _ _ _ _ _ _ _ _ | show okAll _ | show @Eq Bool _ _ ∨ _); focus (simp only [d1, SA, Nat.reduceAdd, reduceIte, Nat.reduceEqDiff, Nat.reduceBEq, reduceCtorEq]; (try go_unwrap; try simp only [d1, RR, reduceCtorEq]))) | refine And.intro ?_ ?_ | exact Or.inr ⟨rfl, Nat.le_refl _⟩ | exact (fun h => Bool.noConfusion h))
  obtain ⟨hb1, hb2⟩ := hb
  have d1 : decide ((300 : Int) < s.length) = false := by simp only [decide_eq_false_iff_not]; omega
  have d2 : decide ((300 : Int) < r.length) = false := by simp only [decide_eq_false_iff_not]; omega
  have h18 := v18 s (by omega)
  have h18' := v18 r (by omega)
  have h18w := v18 ([40] ++ s ++ [41, 45, 40] ++ r ++ [41]) (by simp; omega)
  have q0 : decide ((0 : Int) = 0) = true := rfl
  have perr : ∀ {x}, (∃ nd, parseS x = .ok nd) ∨ ∃ a e, parsePV (parseS x) = .tup [.agg [.list (some 4) []], .int .i64 a, .int .i64 e] ∧ decide (e = 0) = false := fun {x} => by
    cases h : parseS x with
    | ok nd => exact .inl ⟨nd, rfl⟩
    | error p => exact .inr ⟨p.1, p.2, rfl, decide_eq_false (parse_err (a := p.1) (e := p.2) h)⟩
  by_cases hall : (∃ nd, parseS s = .ok nd) ∧ (∃ md, parseS r = .ok md) ∧ (∃ kd, parseS ([40] ++ s ++ [41, 45, 40] ++ r ++ [41]) = .ok kd)
  case neg =>
    have hbad : ∃ X Y Z a b c e f g, parsePV (parseS s) = .tup [.agg [.list (some 4) X], .int .i64 a, .int .i64 e] ∧ parsePV (parseS r) = .tup [.agg [.list (some 4) Y], .int .i64 b, .int .i64 f] ∧ parsePV (parseS ([40] ++ s ++ [41, 45, 40] ++ r ++ [41])) = .tup [.agg [.list (some 4) Z], .int .i64 c, .int .i64 g] ∧ (!decide (e = 0) || !decide (f = 0) || !decide (g = 0)) = true := by
      have form : ∀ x, ∃ X a e, parsePV (parseS x) = .tup [.agg [.list (some 4) X], .int .i64 a, .int .i64 e] ∧ (decide (e = 0) = false ∨ ∃ nd, parseS x = .ok nd) := fun x => by
        rcases perr (x := x) with ⟨nd, h⟩ | ⟨a, e, h1, h2⟩
        · rw [h]; exact ⟨_, 0, 0, rfl, .inr ⟨nd, rfl⟩⟩
        · exact ⟨[], a, e, h1, .inl h2⟩
      obtain ⟨X, a, e, p1, p2⟩ := form s
      obtain ⟨Y, b, f, p3, p4⟩ := form r
      obtain ⟨Z, c, g, p5, p6⟩ := form ([40] ++ s ++ [41, 45, 40] ++ r ++ [41])
      refine ⟨X, Y, Z, a, b, c, e, f, g, p1, p3, p5, ?_⟩
      rcases p2 with h | p2
      · rw [h]; rfl
      · rcases p4 with h | p4
        · rw [h]; simp
        · rcases p6 with h | p6
          · rw [h]; simp
          · exact absurd ⟨p2, p4, p6⟩ hall
    obtain ⟨X, Y, Z, a, b, c, e, f, g, p1, p2, p3, p4⟩ := hbad
    rw [p1] at h18
    rw [p2] at h18'
    rw [p3] at h18w
    clear perr hall p1 p2 p3
    repeat' (first | exact True.intro | (exact Or.inr ⟨rfl, by decide⟩) | (refine PW.seqK ?_; intro K hK) | refine pwB ?_ | refine pwS ?_ | refine pwL ?_ | refine pwE ?_ | refine pwR ?_ | refine pwK ?_ | refine seqK_n ‹_› ?_ | refine seqK_r ‹_› ?_ | refine seqK_e ‹_› ?_ | refine PW.regionA ?_ | exact schedW_stop_i | refine schK_n ‹_› ?_ | (refine schedW_alt_k ?_ ?_; focus (intro K hK; simp only [d1, d2, p4, SA, Nat.reduceAdd, reduceIte, Nat.reduceEqDiff, Nat.reduceBEq, reduceCtorEq]; (try go_unwrap; try simp only [d1, d2, p4, RR, reduceCtorEq]))) | (refine PW.cond rfl ?_ ?_ <;> intro hcond <;> (try contradiction) <;> try simp only [DD] at hcond) | (apply goCall_V e18; (case hV => (simp only [d1, d2, p4, SA, Nat.reduceAdd, reduceIte, Nat.reduceEqDiff, Nat.reduceBEq, reduceCtorEq]; (try go_unwrap; try simp only [d1, d2, p4, RR, reduceCtorEq]); exact h18)); (try (case hs => rfl)); (try (case hf => first | exact Or.inl rfl | exact Or.inr ⟨rfl, rfl⟩ | (refine Or.inl ?_; simp only [d1, d2, p4, SA, Nat.reduceAdd, reduceIte, Nat.reduceEqDiff, Nat.reduceBEq, reduceCtorEq]; done) | (refine Or.inr ⟨rfl, ?_⟩; simp only [d1, d2, p4, SA, Nat.reduceAdd, reduceIte, Nat.reduceEqDiff, Nat.reduceBEq, reduceCtorEq]; done))); all_goals (first | (simp only [d1, d2, p4, SA, Nat.reduceAdd, reduceIte, Nat.reduceEqDiff, Nat.reduceBEq, reduceCtorEq]; (try go_unwrap; try simp only [d1, d2, p4, RR, reduceCtorEq])) | (show Env; skip) | (show Mem; skip))) | (apply goCall_V e18; (case hV => (simp only [d1, d2, p4, SA, Nat.reduceAdd, reduceIte, Nat.reduceEqDiff, Nat.reduceBEq, reduceCtorEq]; (try go_unwrap; try simp only [d1, d2, p4, RR, reduceCtorEq]); exact h18')); (try (case hs => rfl)); (try (case hf => first | exact Or.inl rfl | exact Or.inr ⟨rfl, rfl⟩ | (refine Or.inl ?_; simp only [d1, d2, p4, SA, Nat.reduceAdd, reduceIte, Nat.reduceEqDiff, Nat.reduceBEq, reduceCtorEq]; done) | (refine Or.inr ⟨rfl, ?_⟩; simp only [d1, d2, p4, SA, Nat.reduceAdd, reduceIte, Nat.reduceEqDiff, Nat.reduceBEq, reduceCtorEq]; done))); all_goals (first | (simp only [d1, d2, p4, SA, Nat.reduceAdd, reduceIte, Nat.reduceEqDiff, Nat.reduceBEq, reduceCtorEq]; (try go_unwrap; try simp only [d1, d2, p4, RR, reduceCtorEq])) | (show Env; skip) | (show Mem; skip))) | (apply goCall_V e18; (case hV => (simp only [d1, d2, p4, SA, Nat.reduceAdd, reduceIte, Nat.reduceEqDiff, Nat.reduceBEq, reduceCtorEq]; (try go_unwrap; try simp only [d1, d2, p4, RR, reduceCtorEq]); exact h18w)); (try (case hs => rfl)); (try (case hf => first | exact Or.inl rfl | exact Or.inr ⟨rfl, rfl⟩ | (refine Or.inl ?_; simp only [d1, d2, p4, SA, Nat.reduceAdd, reduceIte, Nat.reduceEqDiff, Nat.reduceBEq, reduceCtorEq]; done) | (refine Or.inr ⟨rfl, ?_⟩; simp only [d1, d2, p4, SA, Nat.reduceAdd, reduceIte, Nat.reduceEqDiff, Nat.reduceBEq, reduceCtorEq]; done))); all_goals (first | (simp only [d1, d2, p4, SA, Nat.reduceAdd, reduceIte, Nat.reduceEqDiff, Nat.reduceBEq, reduceCtorEq]; (try go_unwrap; try simp only [d1, d2, p4, RR, reduceCtorEq])) | (show Env; skip) | (show Mem; skip))) | (refine gd_i ?_; intro hg; try simp only [hg]) | refine goCall_W e17 (h17) ?_ ?_ ?_ ?_ | ((first | show (_ : Nat) ≤ _ | show (_ : Nat) < _ | show (_ : Int) ≤ _ | show (_ : Int) < _ | show (_ : Nat) = _ | show (_ : Int) = _ | show (_ : Bool) = _ | show _ ∨ _ | show ¬ _); first | omega | (simp only [DD, LL] <;> omega) | (go_unwrap; omega)) | ((first | refine PW.region ?_ | refine PW.regionQ ?_ | refine schedW_done_i ?_ | show (_ : Post) _ _ _ | show @Eq (List PV) _ _ | show @Eq Bool _ _ | show opsW _ _ _ _ _ _ _ _ | show okAll _ | show @Eq Bool _ _ ∨ _); focus (simp only [d1, d2, p4, SA, Nat.reduceAdd, reduceIte, Nat.reduceEqDiff, Nat.reduceBEq, reduceCtorEq]; (try go_unwrap; try simp only [d1, d2, p4, RR, reduceCtorEq]))) | refine And.intro ?_ ?_ | exact Or.inr ⟨rfl, Nat.le_refl _⟩ | exact (fun h => Bool.noConfusion h))
  obtain ⟨⟨nd, hS⟩, ⟨md, hR⟩, ⟨kd, hK⟩⟩ := hall
  rw [hS] at h18
  rw [hR] at h18'
  rw [hK] at h18w
  have on := parse_ok hS
  have om := parse_ok hR
  have ok := parse_ok hK
  have hmem := parse_minus hS hR hb1 hb2 hK
  have h34 := v34o on
  have h34' := v34o om
  have h34w := v34o ok
  have hC := (vars_spec kd).1
  have hA := (vars_spec nd).1
  have hB := (vars_spec md).1
  have sA := vars_sub (nd := nd) (kd := kd) (fun x hx => (hmem x).2 (.inl hx))
  have sB := vars_sub (nd := md) (kd := kd) (fun x hx => (hmem x).2 (.inr hx))
  have sC : ∀ x ∈ varsM kd, x ∈ varsM nd ∨ x ∈ varsM md := fun x hx => by
    rcases (hmem x).1 (((vars_spec kd).2 x).1 hx) with h | h
    · exact .inl (((vars_spec nd).2 x).2 h)
    · exact .inr (((vars_spec md).2 x).2 h)
  have lA := vars_len nd
  have lB := vars_len md
  have lC := vars_len kd
  have ln := on.len.1
  have lm := om.len.1
  have lk := ok.len.1
  simp only [parsePV, treeP] at h18 h18' h18w h34 h34' h34w
  clear perr hmem on om ok hS hR hK
  generalize varsM nd = A at *
  generalize varsM md = B at *
  generalize varsM kd = C at *
  have hAl : ((A.map PV.str).length : Nat) = A.length := by simp
  have hBl : ((B.map PV.str).length : Nat) = B.length := by simp
  have hCl : ((C.map PV.str).length : Nat) = C.length := by simp
  repeat' (first | exact True.intro | (refine PW.seqA (E := ?_) (M := ?_) ?_ ?_; rotate_left 2) | exact mergeQ_mk _ _ | (exact Or.inr ⟨rfl, by decide⟩) | (refine PW.seqK ?_; intro K hK) | refine pwB ?_ | refine pwS ?_ | refine pwL ?_ | refine pwE ?_ | refine pwR ?_ | refine pwK ?_ | refine seqK_n ‹_› ?_ | refine seqK_r ‹_› ?_ | refine seqK_e ‹_› ?_ | refine PW.regionA ?_ | exact schedW_stop_i | refine schK_n ‹_› ?_ | (refine schedW_alt_k ?_ ?_; focus (intro K hK; simp only [d1, d2, q0, SA, Nat.reduceAdd, reduceIte, Nat.reduceEqDiff, Nat.reduceBEq, reduceCtorEq]; (try go_unwrap; try simp only [d1, d2, q0, RR, reduceCtorEq]))) | (refine PW.cond rfl ?_ ?_ <;> intro hcond <;> (try contradiction) <;> try simp only [DD] at hcond) | (apply goCall_V e18; (case hV => (simp only [d1, d2, q0, SA, Nat.reduceAdd, reduceIte, Nat.reduceEqDiff, Nat.reduceBEq, reduceCtorEq]; (try go_unwrap; try simp only [d1, d2, q0, RR, reduceCtorEq]); exact h18)); (try (case hs => rfl)); (try (case hf => first | exact Or.inl rfl | exact Or.inr ⟨rfl, rfl⟩ | (refine Or.inl ?_; simp only [d1, d2, q0, SA, Nat.reduceAdd, reduceIte, Nat.reduceEqDiff, Nat.reduceBEq, reduceCtorEq]; done) | (refine Or.inr ⟨rfl, ?_⟩; simp only [d1, d2, q0, SA, Nat.reduceAdd, reduceIte, Nat.reduceEqDiff, Nat.reduceBEq, reduceCtorEq]; done))); all_goals (first | (simp only [d1, d2, q0, SA, Nat.reduceAdd, reduceIte, Nat.reduceEqDiff, Nat.reduceBEq, reduceCtorEq]; (try go_unwrap; try simp only [d1, d2, q0, RR, reduceCtorEq])) | (show Env; skip) | (show Mem; skip))) | (apply goCall_V e18; (case hV => (simp only [d1, d2, q0, SA, Nat.reduceAdd, reduceIte, Nat.reduceEqDiff, Nat.reduceBEq, reduceCtorEq]; (try go_unwrap; try simp only [d1, d2, q0, RR, reduceCtorEq]); exact h18')); (try (case hs => rfl)); (try (case hf => first | exact Or.inl rfl | exact Or.inr ⟨rfl, rfl⟩ | (refine Or.inl ?_; simp only [d1, d2, q0, SA, Nat.reduceAdd, reduceIte, Nat.reduceEqDiff, Nat.reduceBEq, reduceCtorEq]; done) | (refine Or.inr ⟨rfl, ?_⟩; simp only [d1, d2, q0, SA, Nat.reduceAdd, reduceIte, Nat.reduceEqDiff, Nat.reduceBEq, reduceCtorEq]; done))); all_goals (first | (simp only [d1, d2, q0, SA, Nat.reduceAdd, reduceIte, Nat.reduceEqDiff, Nat.reduceBEq, reduceCtorEq]; (try go_unwrap; try simp only [d1, d2, q0, RR, reduceCtorEq])) | (show Env; skip) | (show Mem; skip))) | (apply goCall_V e18; (case hV => (simp only [d1, d2, q0, SA, Nat.reduceAdd, reduceIte, Nat.reduceEqDiff, Nat.reduceBEq, reduceCtorEq]; (try go_unwrap; try simp only [d1, d2, q0, RR, reduceCtorEq]); exact h18w)); (try (case hs => rfl)); (try (case hf => first | exact Or.inl rfl | exact Or.inr ⟨rfl, rfl⟩ | (refine Or.inl ?_; simp only [d1, d2, q0, SA, Nat.reduceAdd, reduceIte, Nat.reduceEqDiff, Nat.reduceBEq, reduceCtorEq]; done) | (refine Or.inr ⟨rfl, ?_⟩; simp only [d1, d2, q0, SA, Nat.reduceAdd, reduceIte, Nat.reduceEqDiff, Nat.reduceBEq, reduceCtorEq]; done))); all_goals (first | (simp only [d1, d2, q0, SA, Nat.reduceAdd, reduceIte, Nat.reduceEqDiff, Nat.reduceBEq, reduceCtorEq]; (try go_unwrap; try simp only [d1, d2, q0, RR, reduceCtorEq])) | (show Env; skip) | (show Mem; skip))) | (apply goCall_V e34; (case hV => (simp only [d1, d2, q0, SA, Nat.reduceAdd, reduceIte, Nat.reduceEqDiff, Nat.reduceBEq, reduceCtorEq]; (try go_unwrap; try simp only [d1, d2, q0, RR, reduceCtorEq]); exact h34)); (try (case hs => rfl)); (try (case hf => first | exact Or.inl rfl | exact Or.inr ⟨rfl, rfl⟩ | (refine Or.inl ?_; simp only [d1, d2, q0, SA, Nat.reduceAdd, reduceIte, Nat.reduceEqDiff, Nat.reduceBEq, reduceCtorEq]; done) | (refine Or.inr ⟨rfl, ?_⟩; simp only [d1, d2, q0, SA, Nat.reduceAdd, reduceIte, Nat.reduceEqDiff, Nat.reduceBEq, reduceCtorEq]; done))); all_goals (first | (simp only [d1, d2, q0, SA, Nat.reduceAdd, reduceIte, Nat.reduceEqDiff, Nat.reduceBEq, reduceCtorEq]; (try go_unwrap; try simp only [d1, d2, q0, RR, reduceCtorEq])) | (show Env; skip) | (show Mem; skip))) | (apply goCall_V e34; (case hV => (simp only [d1, d2, q0, SA, Nat.reduceAdd, reduceIte, Nat.reduceEqDiff, Nat.reduceBEq, reduceCtorEq]; (try go_unwrap; try simp only [d1, d2, q0, RR, reduceCtorEq]); exact h34')); (try (case hs => rfl)); (try (case hf => first | exact Or.inl rfl | exact Or.inr ⟨rfl, rfl⟩ | (refine Or.inl ?_; simp only [d1, d2, q0, SA, Nat.reduceAdd, reduceIte, Nat.reduceEqDiff, Nat.reduceBEq, reduceCtorEq]; done) | (refine Or.inr ⟨rfl, ?_⟩; simp only [d1, d2, q0, SA, Nat.reduceAdd, reduceIte, Nat.reduceEqDiff, Nat.reduceBEq, reduceCtorEq]; done))); all_goals (first | (simp only [d1, d2, q0, SA, Nat.reduceAdd, reduceIte, Nat.reduceEqDiff, Nat.reduceBEq, reduceCtorEq]; (try go_unwrap; try simp only [d1, d2, q0, RR, reduceCtorEq])) | (show Env; skip) | (show Mem; skip))) | (apply goCall_V e34; (case hV => (simp only [d1, d2, q0, SA, Nat.reduceAdd, reduceIte, Nat.reduceEqDiff, Nat.reduceBEq, reduceCtorEq]; (try go_unwrap; try simp only [d1, d2, q0, RR, reduceCtorEq]); exact h34w)); (try (case hs => rfl)); (try (case hf => first | exact Or.inl rfl | exact Or.inr ⟨rfl, rfl⟩ | (refine Or.inl ?_; simp only [d1, d2, q0, SA, Nat.reduceAdd, reduceIte, Nat.reduceEqDiff, Nat.reduceBEq, reduceCtorEq]; done) | (refine Or.inr ⟨rfl, ?_⟩; simp only [d1, d2, q0, SA, Nat.reduceAdd, reduceIte, Nat.reduceEqDiff, Nat.reduceBEq, reduceCtorEq]; done))); all_goals (first | (simp only [d1, d2, q0, SA, Nat.reduceAdd, reduceIte, Nat.reduceEqDiff, Nat.reduceBEq, reduceCtorEq]; (try go_unwrap; try simp only [d1, d2, q0, RR, reduceCtorEq])) | (show Env; skip) | (show Mem; skip))) | (refine gd_i ?_; intro hg; try simp only [hg]) | ((first | show (_ : Nat) ≤ _ | show (_ : Nat) < _ | show (_ : Int) ≤ _ | show (_ : Int) < _ | show (_ : Nat) = _ | show (_ : Int) = _ | show (_ : Bool) = _ | show _ ∨ _ | show ¬ _); first | omega | (simp only [DD, LL] <;> omega) | (go_unwrap; omega)) | ((first | refine PW.region ?_ | refine PW.regionQ ?_ | refine schedW_done_i ?_ | show (_ : Post) _ _ _ | show @Eq (List PV) _ _ | show @Eq Bool _ _ | show opsW _ _ _ _ _ _ _ _ | show okAll _ | show @Eq Bool _ _ ∨ _); focus (simp only [d1, d2, q0, SA, Nat.reduceAdd, reduceIte, Nat.reduceEqDiff, Nat.reduceBEq, reduceCtorEq]; (try go_unwrap; try simp only [d1, d2, q0, RR, reduceCtorEq]))) | refine And.intro ?_ ?_ | exact Or.inr ⟨rfl, Nat.le_refl _⟩ | exact (fun h => Bool.noConfusion h))
  refine PW.loop (σ := Nat) [14, 15, 16, 17, 18, 19] (fun n => [.list none (A.map PV.str), .list none (B.map PV.str), .list none (C.map PV.str), .int .i64 (cntA A C n), .int .i64 (cntA B C n), .int .i64 n])
    (fun _ => [some (.var (some 1) (.agg [.list (some 4) (nd.map ndP)])), some (.var (some 1) (.agg [.list (some 4) (md.map ndP)])), some (.var (some 1) (.agg [.list (some 4) (kd.map ndP)]))]) (fun n => n ≤ C.length) (fun n => C.length - n) 0 ?_ rfl (by omega) ?_
  · simp only [SA, Nat.reduceAdd, reduceIte, Nat.reduceEqDiff, Nat.reduceBEq, reduceCtorEq]; rfl
  intro n hn
  simp only [List.zip_cons_cons, List.zip_nil_left]
  have cA := cnt_le hC hA sA n
  have cB := cnt_le hC hB sB n
  rcases Nat.lt_or_ge n C.length with h | h
  · have d3 : decide ((n : Int) < C.length) = true := by simp only [decide_eq_true_eq]; omega
    have hgc : (C.map PV.str).getD n .junk = .str C[n] := by simp [List.getD, h]
    have nA := cnt_succ (A := A) h
    have nB := cnt_succ (A := B) h
    obtain ⟨a1, a2⟩ := cnt_at hC hA sA h
    obtain ⟨b1, b2⟩ := cnt_at hC hB sB h
    have hm := sC C[n] (List.getElem_mem h)
    have fA : ∃ (bA : Bool) (pA : PV), decide (((cntA A C n : Nat) : Int) < A.length) = bA ∧ (A.map PV.str).getD (cntA A C n) .junk = pA ∧ ((bA = true ∧ ∃ x, pA = .str x ∧ (x = C[n] ↔ C[n] ∈ A)) ∨ (bA = false ∧ C[n] ∉ A)) := by
      refine ⟨_, _, rfl, rfl, ?_⟩
      rcases Nat.lt_or_ge (cntA A C n) A.length with hi | hi
      · refine .inl ⟨by simp only [decide_eq_true_eq]; omega, A[cntA A C n], by simp [List.getD, hi], fun e => ?_, fun hm => (a1 hm).2⟩
        exact Classical.byContradiction fun hx => a2 hx hi e
      · exact .inr ⟨by simp only [decide_eq_false_iff_not]; omega, fun hx => by have := (a1 hx).1; omega⟩
    have fB : ∃ (bA : Bool) (pA : PV), decide (((cntA B C n : Nat) : Int) < B.length) = bA ∧ (B.map PV.str).getD (cntA B C n) .junk = pA ∧ ((bA = true ∧ ∃ x, pA = .str x ∧ (x = C[n] ↔ C[n] ∈ B)) ∨ (bA = false ∧ C[n] ∉ B)) := by
      refine ⟨_, _, rfl, rfl, ?_⟩
      rcases Nat.lt_or_ge (cntA B C n) B.length with hi | hi
      · refine .inl ⟨by simp only [decide_eq_true_eq]; omega, B[cntA B C n], by simp [List.getD, hi], fun e => ?_, fun hm => (b1 hm).2⟩
        exact Classical.byContradiction fun hx => b2 hx hi e
      · exact .inr ⟨by simp only [decide_eq_false_iff_not]; omega, fun hx => by have := (b1 hx).1; omega⟩
    clear a1 a2 b1 b2
    have wA : IntKind.i64.wrap (((cntA A C n : Nat) : Int) + 1) = ((cntA A C n : Nat) : Int) + 1 := IntWalk.i64_in _ (by omega)
    have wB : IntKind.i64.wrap (((cntA B C n : Nat) : Int) + 1) = ((cntA B C n : Nat) : Int) + 1 := IntWalk.i64_in _ (by omega)
    have wn : IntKind.i64.wrap ((n : Int) + 1) = (n : Int) + 1 := IntWalk.i64_in _ (by omega)
    obtain ⟨bA, pA, dA, gA, fA⟩ := fA
    obtain ⟨bB, pB, dB, gB, fB⟩ := fB
    generalize hcA : cntA A C n = i at *
    generalize hcB : cntA B C n = k at *
    generalize hcn : C[n] = x at *
    have key : ∀ (u v : Bool), (u = true ↔ x ∈ A) → (v = true ↔ x ∈ B) → ((cntA A C (n + 1) : Nat) : Int) = (if u = true then (i : Int) + 1 else i) ∧ ((cntA B C (n + 1) : Nat) : Int) = (if v = true then (k : Int) + 1 else k) ∧ (u || v) = true := by
      intro u v hu hv
      rw [nA, nB]
      refine ⟨?_, ?_, ?_⟩
      · by_cases hx : x ∈ A
        · rw [if_pos hx, if_pos (hu.2 hx)]; omega
        · rw [if_neg hx, if_neg (fun e => hx (hu.1 e))]; omega
      · by_cases hx : x ∈ B
        · rw [if_pos hx, if_pos (hv.2 hx)]; omega
        · rw [if_neg hx, if_neg (fun e => hx (hv.1 e))]; omega
      · rcases hm with hm | hm
        · rw [hu.2 hm]; rfl
        · rw [hv.2 hm]; simp
    clear nA nB hm
    obtain ⟨u, hu, qA⟩ : ∃ u : Bool, (u = true ↔ x ∈ A) ∧ ((bA = false ∧ u = false) ∨ (bA = true ∧ ∃ y, pA = .str y ∧ decide (y = x) = u)) := by
      rcases fA with ⟨e1, y, e2, e3⟩ | ⟨e1, e2⟩
      · exact ⟨decide (y = x), by rw [decide_eq_true_eq]; exact e3, .inr ⟨e1, y, e2, rfl⟩⟩
      · exact ⟨false, by simpa using e2, .inl ⟨e1, rfl⟩⟩
    obtain ⟨v, hv, qB⟩ : ∃ u : Bool, (u = true ↔ x ∈ B) ∧ ((bB = false ∧ u = false) ∨ (bB = true ∧ ∃ y, pB = .str y ∧ decide (y = x) = u)) := by
      rcases fB with ⟨e1, y, e2, e3⟩ | ⟨e1, e2⟩
      · exact ⟨decide (y = x), by rw [decide_eq_true_eq]; exact e3, .inr ⟨e1, y, e2, rfl⟩⟩
      · exact ⟨false, by simpa using e2, .inl ⟨e1, rfl⟩⟩
    obtain ⟨k1, k2, k3⟩ := key u v hu hv
    clear key hu hv fA fB hcA hcB hcn hA hB hC sA sB sC
    have iA : bA = true → i < A.length := fun e => by rw [e] at dA; simp only [decide_eq_true_eq] at dA; omega
    have iB : bB = true → k < B.length := fun e => by rw [e] at dB; simp only [decide_eq_true_eq] at dB; omega
    rcases qA with ⟨rfl, rfl⟩ | ⟨rfl, y, rfl, eA⟩
    all_goals rcases qB with ⟨rfl, rfl⟩ | ⟨rfl, z, rfl, eB⟩
    · cases k3
    · have iB := iB rfl
      cases v
      · cases k3
      repeat' (first | exact True.intro | (refine PW.seqK ?_; intro K hK) | refine pwB ?_ | refine pwS ?_ | refine pwL ?_ | refine pwE ?_ | refine pwR ?_ | refine pwK ?_ | refine seqK_n ‹_› ?_ | refine seqK_r ‹_› ?_ | refine seqK_e ‹_› ?_ | refine PW.regionA ?_ | exact schedW_stop_i | refine schK_n ‹_› ?_ | (refine schedW_alt_k ?_ ?_; focus (intro K hK; simp only [PV.bin, PV.binOk, binI, binS, d3, hAl, hBl, hCl, dA, dB, gA, gB, eB, hgc, wA, wB, wn, SA, Nat.reduceAdd, reduceIte, Nat.reduceEqDiff, Nat.reduceBEq, reduceCtorEq]; (try go_unwrap; try simp only [PV.bin, PV.binOk, binI, binS, d3, hAl, hBl, hCl, dA, dB, gA, gB, eB, hgc, wA, wB, wn, RR, reduceCtorEq]))) | (refine PW.cond rfl ?_ ?_ <;> intro hcond <;> (try contradiction) <;> try simp only [DD] at hcond) | (refine gd_i ?_; intro hg; try simp only [hg]) | ((first | show (_ : Nat) ≤ _ | show (_ : Nat) < _ | show (_ : Int) ≤ _ | show (_ : Int) < _ | show (_ : Nat) = _ | show (_ : Int) = _ | show (_ : Bool) = _ | show _ ∨ _ | show ¬ _); first | omega | (simp only [DD, LL] <;> omega) | (go_unwrap; omega)) | ((first | refine PW.region ?_ | refine PW.regionQ ?_ | refine schedW_done_i ?_ | show (_ : Post) _ _ _ | show @Eq (List PV) _ _ | show @Eq Bool _ _ | show opsW _ _ _ _ _ _ _ _ | show okAll _ | show @Eq Bool _ _ ∨ _); focus (simp only [PV.bin, PV.binOk, binI, binS, d3, hAl, hBl, hCl, dA, dB, gA, gB, eB, hgc, wA, wB, wn, SA, Nat.reduceAdd, reduceIte, Nat.reduceEqDiff, Nat.reduceBEq, reduceCtorEq]; (try go_unwrap; try simp only [PV.bin, PV.binOk, binI, binS, d3, hAl, hBl, hCl, dA, dB, gA, gB, eB, hgc, wA, wB, wn, RR, reduceCtorEq]))) | refine And.intro ?_ ?_ | exact Or.inr ⟨rfl, Nat.le_refl _⟩ | exact (fun h => Bool.noConfusion h))
      all_goals exact ⟨n + 1, (by rw [k1, k2]; rfl), h, by omega⟩
    · have iA := iA rfl
      cases u
      · cases k3
      repeat' (first | exact True.intro | (refine PW.seqK ?_; intro K hK) | refine pwB ?_ | refine pwS ?_ | refine pwL ?_ | refine pwE ?_ | refine pwR ?_ | refine pwK ?_ | refine seqK_n ‹_› ?_ | refine seqK_r ‹_› ?_ | refine seqK_e ‹_› ?_ | refine PW.regionA ?_ | exact schedW_stop_i | refine schK_n ‹_› ?_ | (refine schedW_alt_k ?_ ?_; focus (intro K hK; simp only [PV.bin, PV.binOk, binI, binS, d3, hAl, hBl, hCl, dA, dB, gA, gB, eA, hgc, wA, wB, wn, SA, Nat.reduceAdd, reduceIte, Nat.reduceEqDiff, Nat.reduceBEq, reduceCtorEq]; (try go_unwrap; try simp only [PV.bin, PV.binOk, binI, binS, d3, hAl, hBl, hCl, dA, dB, gA, gB, eA, hgc, wA, wB, wn, RR, reduceCtorEq]))) | (refine PW.cond rfl ?_ ?_ <;> intro hcond <;> (try contradiction) <;> try simp only [DD] at hcond) | (refine gd_i ?_; intro hg; try simp only [hg]) | ((first | show (_ : Nat) ≤ _ | show (_ : Nat) < _ | show (_ : Int) ≤ _ | show (_ : Int) < _ | show (_ : Nat) = _ | show (_ : Int) = _ | show (_ : Bool) = _ | show _ ∨ _ | show ¬ _); first | omega | (simp only [DD, LL] <;> omega) | (go_unwrap; omega)) | ((first | refine PW.region ?_ | refine PW.regionQ ?_ | refine schedW_done_i ?_ | show (_ : Post) _ _ _ | show @Eq (List PV) _ _ | show @Eq Bool _ _ | show opsW _ _ _ _ _ _ _ _ | show okAll _ | show @Eq Bool _ _ ∨ _); focus (simp only [PV.bin, PV.binOk, binI, binS, d3, hAl, hBl, hCl, dA, dB, gA, gB, eA, hgc, wA, wB, wn, SA, Nat.reduceAdd, reduceIte, Nat.reduceEqDiff, Nat.reduceBEq, reduceCtorEq]; (try go_unwrap; try simp only [PV.bin, PV.binOk, binI, binS, d3, hAl, hBl, hCl, dA, dB, gA, gB, eA, hgc, wA, wB, wn, RR, reduceCtorEq]))) | refine And.intro ?_ ?_ | exact Or.inr ⟨rfl, Nat.le_refl _⟩ | exact (fun h => Bool.noConfusion h))
      all_goals exact ⟨n + 1, (by rw [k1, k2]; rfl), h, by omega⟩
    · have iA := iA rfl
      have iB := iB rfl
      cases u <;> cases v
      · cases k3
      all_goals
        repeat' (first | exact True.intro | (refine PW.seqK ?_; intro K hK) | refine pwB ?_ | refine pwS ?_ | refine pwL ?_ | refine pwE ?_ | refine pwR ?_ | refine pwK ?_ | refine seqK_n ‹_› ?_ | refine seqK_r ‹_› ?_ | refine seqK_e ‹_› ?_ | refine PW.regionA ?_ | exact schedW_stop_i | refine schK_n ‹_› ?_ | (refine schedW_alt_k ?_ ?_; focus (intro K hK; simp only [PV.bin, PV.binOk, binI, binS, d3, hAl, hBl, hCl, dA, dB, gA, gB, eA, eB, hgc, wA, wB, wn, SA, Nat.reduceAdd, reduceIte, Nat.reduceEqDiff, Nat.reduceBEq, reduceCtorEq]; (try go_unwrap; try simp only [PV.bin, PV.binOk, binI, binS, d3, hAl, hBl, hCl, dA, dB, gA, gB, eA, eB, hgc, wA, wB, wn, RR, reduceCtorEq]))) | (refine PW.cond rfl ?_ ?_ <;> intro hcond <;> (try contradiction) <;> try simp only [DD] at hcond) | (refine gd_i ?_; intro hg; try simp only [hg]) | ((first | show (_ : Nat) ≤ _ | show (_ : Nat) < _ | show (_ : Int) ≤ _ | show (_ : Int) < _ | show (_ : Nat) = _ | show (_ : Int) = _ | show (_ : Bool) = _ | show _ ∨ _ | show ¬ _); first | omega | (simp only [DD, LL] <;> omega) | (go_unwrap; omega)) | ((first | refine PW.region ?_ | refine PW.regionQ ?_ | refine schedW_done_i ?_ | show (_ : Post) _ _ _ | show @Eq (List PV) _ _ | show @Eq Bool _ _ | show opsW _ _ _ _ _ _ _ _ | show okAll _ | show @Eq Bool _ _ ∨ _); focus (simp only [PV.bin, PV.binOk, binI, binS, d3, hAl, hBl, hCl, dA, dB, gA, gB, eA, eB, hgc, wA, wB, wn, SA, Nat.reduceAdd, reduceIte, Nat.reduceEqDiff, Nat.reduceBEq, reduceCtorEq]; (try go_unwrap; try simp only [PV.bin, PV.binOk, binI, binS, d3, hAl, hBl, hCl, dA, dB, gA, gB, eA, eB, hgc, wA, wB, wn, RR, reduceCtorEq]))) | refine And.intro ?_ ?_ | exact Or.inr ⟨rfl, Nat.le_refl _⟩ | exact (fun h => Bool.noConfusion h))
        all_goals exact ⟨n + 1, (by rw [k1, k2]; rfl), h, by omega⟩
  · have d3 : decide ((n : Int) < C.length) = false := by simp only [decide_eq_false_iff_not]; omega
    have hnC : n = C.length := by omega
    subst hnC
    have eA := cnt_all hC hA sA
    have eB := cnt_all hC hB sB
    rw [eA, eB]
    have qA : decide ((A.length : Int) = A.length) = true := by simp
    have qB : decide ((B.length : Int) = B.length) = true := by simp
    repeat' (first | exact True.intro | (refine PW.seqK ?_; intro K hK) | refine pwB ?_ | refine pwS ?_ | refine pwL ?_ | refine pwE ?_ | refine pwR ?_ | refine pwK ?_ | refine seqK_n ‹_› ?_ | refine seqK_r ‹_› ?_ | refine seqK_e ‹_› ?_ | refine PW.regionA ?_ | exact schedW_stop_i | refine schK_n ‹_› ?_ | (refine schedW_alt_k ?_ ?_; focus (intro K hK; simp only [hAl, hBl, hCl, d3, qA, qB, SA, Nat.reduceAdd, reduceIte, Nat.reduceEqDiff, Nat.reduceBEq, reduceCtorEq]; (try go_unwrap; try simp only [hAl, hBl, hCl, d3, qA, qB, RR, reduceCtorEq]))) | (refine PW.cond rfl ?_ ?_ <;> intro hcond <;> (try contradiction) <;> try simp only [DD] at hcond) | (refine gd_i ?_; intro hg; try simp only [hg]) | refine goCallG_W e17 (h17) ?_ ?_ ?_ ?_ ?_ | ((first | show (_ : Nat) ≤ _ | show (_ : Nat) < _ | show (_ : Int) ≤ _ | show (_ : Int) < _ | show (_ : Nat) = _ | show (_ : Int) = _ | show (_ : Bool) = _ | show _ ∨ _ | show ¬ _); first | omega | (simp only [DD, LL] <;> omega) | (go_unwrap; omega)) | ((first | refine PW.region ?_ | refine PW.regionQ ?_ | refine schedW_done_i ?_ | show (_ : Post) _ _ _ | show @Eq (List PV) _ _ | show @Eq Bool _ _ | show opsW _ _ _ _ _ _ _ _ | show okAll _ | show @Eq Bool _ _ ∨ _); focus (simp only [hAl, hBl, hCl, d3, qA, qB, SA, Nat.reduceAdd, reduceIte, Nat.reduceEqDiff, Nat.reduceBEq, reduceCtorEq]; (try go_unwrap; try simp only [hAl, hBl, hCl, d3, qA, qB, RR, reduceCtorEq]))) | refine And.intro ?_ ?_ | exact Or.inr ⟨rfl, Nat.le_refl _⟩ | exact (fun h => Bool.noConfusion h))
    all_goals rfl
end Go.Proofs.YthekpjhffciakaaDoor

namespace Go.Proofs.YthekpjhffciakaaDoor
open Go PG Go.Proofs
set_option linter.unusedSimpArgs false
set_option linter.unusedVariables false
set_option maxRecDepth 100000
theorem own : ownKnob Tryd.prog.godebug = none := by kernel_rfl
theorem laidOut : laidOutB Tryd.prog = true := by kernel_rfl
theorem gKids : Tryd.prog.globalNamed "wagebook/expr.kidsOf" = some 1 := by kernel_rfl
theorem gWords : Tryd.prog.globalNamed "wagebook/expr.words" = some 0 := by kernel_rfl
abbrev laid1 : List (String × DataW Unit) := [("wagebook/expr.kidsOf", Rows.laid_wagebook_expr_kidsOf), ("wagebook/expr.words", Rows.laid_wagebook_expr_words)]
theorem globs0 {W : World} (h : laidMetH Tryd.prog laid1 W) : GlobsIn W (fun _ => False) G0 := by
  rw [MakeChecks.laidMetH_plain _ _ _ (by kernel_rfl)] at h
  obtain ⟨ps, h, _, _⟩ := h
  have h0 : (Rows.laid_wagebook_expr_kidsOf : DataW Unit) = .agg ((kidsTab.map (PV.int .i64)).map datOf) := rfl
  have h1 : (Rows.laid_wagebook_expr_words : DataW Unit) = .agg (wordsP.cells.map datOf) := rfl
  unfold laid1 at h
  have hk := h
  rw [h0] at hk
  have hK := tab_rep gKids (t := 136) (e := 3) (n := 10) (by kernel_rfl) (by kernel_rfl) (.inl ⟨.i64, Tryd.underlying3⟩) (by kernel_rfl) (by kernel_rfl) (by decide) (by decide) hk
  obtain ⟨g', t', cs, fuel, p, q, hg', ht', hvar, hd, hrest, hrest2⟩ := h
  have hw : ∃ qs, DataW.LaidVars Tryd.prog W [("wagebook/expr.words", Rows.laid_wagebook_expr_words)] qs := ⟨_, by first | exact hrest | exact hrest2 | exact hrest.1 | exact hrest2.1⟩
  obtain ⟨qs, hw⟩ := hw
  rw [h1] at hw
  have hW := tab_rep gWords (t := 111) (e := 9) (n := 10) (by kernel_rfl) (by kernel_rfl) (.inr Tryd.underlying9) (by kernel_rfl) (by kernel_rfl) (by decide) (by decide) hw
  intro g sh x hg
  unfold G0 at hg
  split at hg
  · rename_i e
    subst e
    simp only [Option.some.injEq, Prod.mk.injEq] at hg
    obtain ⟨rfl, rfl⟩ := hg
    exact hW
  · split at hg
    · rename_i e
      subst e
      simp only [Option.some.injEq, Prod.mk.injEq] at hg
      obtain ⟨rfl, rfl⟩ := hg
      exact hK
    · cases hg
theorem door_met1 (os : Os) (args : Array Value) : laidMetH Tryd.prog laid1 ((World.doorLaid Tryd.prog 400 os).forCall (fun _ _ => 0) ⟨#[], args, []⟩).memory :=
  laidMetH_of_parts3 (fuel := 8) (laidMet_of_run' 8 (by kernel_rfl) (by kernel_rfl)) (by kernel_rfl) (by kernel_rfl)
theorem read_text {n : Nat} {p : PV} (h : ShA Tryd.prog (n + 1) 9 p) : ∃ s : List UInt8, p = .str s ∧ s.length ≤ 9223372036854775807 := by
  unfold ShA at h
  rw [Tryd.underlying9] at h
  obtain ⟨s, e, b⟩ := shC_str (P := Tryd.prog) (n := n) Tryd.underlying9 h
  cases e
  exact ⟨s, rfl, b⟩
end Go.Proofs.YthekpjhffciakaaDoor

