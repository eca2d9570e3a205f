import Derived.Test.YthjkmhfiffojeaaGreatDoorQ9
namespace Go.Proofs.YthjkmhfiffojeaaGreatDoor
open Go PG Go.Proofs
open Nat (reduceAdd reduceEqDiff)
set_option linter.unusedSimpArgs false
set_option linter.unusedVariables false
set_option maxHeartbeats 4000000
set_option maxRecDepth 100000
section
variable {G : jA3}
def jZE (t : Tok) : PV := .agg [.int .i64 t.1, .str t.2.1, .int .i64 t.2.2]
def tokE (a : Nat) (l : List UInt8) : Except (Nat × Nat) (Nat × Nat) :=
 if jC4 (l.getD 0 0) = true then
  if jA8 jB2 l <= 32 then .ok (1, jA8 jB2 l) else .error (a, 4)
 else if jAE (l.getD 0 0) = true then
  match jHE l with
  | .ok (n, _) => .ok (2, n)
  | .error (o, e) => .error (a + o, e)
 else if jXV (l.getD 0 0) = true then .ok (3, 1)
 else .error (a, 3)
theorem jVO {l : List UInt8} {o e : Nat} (h : jHE l = .error (o, e)) : (e = 2 ∨ e = 3) ∧ o <= l.length := by
 have h0 := jDH jAE l
 unfold jHE at h
 split at h
 ·rename_i hp
  have h1 := jDH jAE (l.drop (jA8 jAE l + 1))
  rw [List.length_drop] at h1
  split at h
  ·cases h; omega
  ·split at h
   ·cases h; omega
   ·split at h <;> cases h
    omega
 ·split at h <;> cases h
  omega
theorem kBO {l : List UInt8} {n v : Nat} (h : jHE l = .ok (n, v)) : n <= l.length ∧ jA8 jAE l <= n := by
 have h0 := jDH jAE l
 unfold jHE at h
 split at h
 ·rename_i hp
  have h1 := jDH jAE (l.drop (jA8 jAE l + 1))
  rw [List.length_drop] at h1
  split at h
  ·cases h
  ·split at h
   ·cases h
   ·split at h <;> cases h
    omega
 ·split at h <;> cases h
  omega
theorem jKJ {a : Nat} {l : List UInt8} {k n : Nat} (hl : 0 < l.length) (h : tokE a l = .ok (k, n)) : 1 <= n ∧ n <= l.length ∧ jNR a l = .tup [.int .i64 k, .int .i64 n, .int .i64 0, .int .i64 0] := by
 obtain ⟨b, r, rfl⟩ : ∃ b r, l = b :: r := by
  cases l with
  | nil => simp at hl
  | cons b r => exact ⟨b, r, rfl⟩
 unfold tokE at h
 unfold jNR
 split at h
 ·rename_i h1
  rw [if_pos h1]
  split at h
  ·rename_i h2
   cases h
   rw [if_pos h2]
   refine ⟨?_, jDH _ _, rfl⟩
   have h3 : jB2 b = true := by
    have h4 : jC4 b = true := h1
    simp [jB2, h4]
   simp only [jA8, h3, if_true]; omega
  ·cases h
 ·rename_i h1
  rw [if_neg h1]
  split at h
  ·rename_i h2
   rw [if_pos h2]
   cases hn : jHE (b :: r) with
   | error e => rw [hn] at h; cases h
   | ok p =>
    obtain ⟨m, v⟩ := p
    rw [hn] at h; cases h
    obtain ⟨h3, h4⟩ := kBO hn
    refine ⟨?_, h3, rfl⟩
    have h5 : jAE b = true := h2
    simp only [jA8, h5, if_true] at h4; omega
  ·rename_i h2
   rw [if_neg h2]
   split at h
   ·rename_i h3
    rw [if_pos h3]
    cases h
    exact ⟨by omega, by simp, rfl⟩
   ·cases h
theorem jUO {a : Nat} {l : List UInt8} {o e : Nat} (h : tokE a l = .error (o, e)) : (e = 2 ∨ e = 3 ∨ e = 4) ∧ a <= o ∧ o <= a + l.length ∧ ∃ k : Int, jNR a l = .tup [.int .i64 k, .int .i64 0, .int .i64 o, .int .i64 e] := by
 unfold tokE at h
 unfold jNR
 split at h
 ·rename_i h1
  rw [if_pos h1]
  split at h
  ·cases h
  ·rename_i h2
   cases h
   rw [if_neg h2]
   exact ⟨by omega, by omega, by omega, 1, rfl⟩
 ·rename_i h1
  rw [if_neg h1]
  split at h
  ·rename_i h2
   rw [if_pos h2]
   cases hn : jHE l with
   | error p =>
    obtain ⟨m, v⟩ := p
    rw [hn] at h; cases h
    obtain ⟨h3, h4⟩ := jVO hn
    exact ⟨by omega, by omega, by omega, 2, rfl⟩
   | ok p => rw [hn] at h; cases h
  ·rename_i h2
   rw [if_neg h2]
   split at h
   ·cases h
   ·rename_i h3
    rw [if_neg h3]
    cases h
    exact ⟨by omega, by omega, by omega, 0, rfl⟩
def jD1 (acc : List Tok) (a : Nat) : List UInt8 -> Except (Nat × Nat) (List Tok)
 | [] => .ok (acc ++ [(0, [], a)])
 | b :: r => if b = 32 then jD1 acc (a + 1) r else
  match tokE a (b :: r) with
  | .error e => .error e
  | .ok (k, n) => jD1 (acc ++ [(k, (b :: r).take n, a)]) (a + n) (r.drop (n - 1))
termination_by l => l.length
decreasing_by all_goals (simp; try omega)
def jS8 (s : List UInt8) : Except (Nat × Nat) (List Tok) := if 4096 < s.length then .error (0, 4) else jD1 [] 0 s
def kKM : Except (Nat × Nat) (List Tok) -> PV
 | .error (o, e) => .tup [.jAH, .int .i64 o, .int .i64 e]
 | .ok l => .tup [.list (some 3) (l.map jZE), .int .i64 0, .int .i64 0]
def kLJ : List Tok -> PV
 | [] => .jAH
 | x :: l => .sl (some 3) 0 (x :: l).length
def kLK : List Tok -> Mem
 | [] => []
 | x :: l => [some (.row (some 3) ((x :: l).map jZE))]
theorem jTM {l : List Tok} (h : l ≠ []) : kLJ l = .sl (some 3) 0 l.length := by cases l <;> simp_all [kLJ]
theorem jTN {l : List Tok} (h : l ≠ []) : kLK l = [some (.row (some 3) (l.map jZE))] := by cases l <;> simp_all [kLK]
theorem jHS {s : List UInt8} {a : Nat} {acc : List Tok} (h : s.length <= a) : jD1 acc a (s.drop a) = .ok (acc ++ [(0, [], a)]) := by
 rw [List.drop_eq_nil_of_le h, jD1]
theorem jIV {s : List UInt8} {a : Nat} {acc : List Tok} (h : a < s.length) (hb : s.getD a 0 = 32) : jD1 acc a (s.drop a) = jD1 acc (a + 1) (s.drop (a + 1)) := by
 rw [drop_cons h, jD1, if_pos hb]
theorem jOQ {s : List UInt8} {a : Nat} {acc : List Tok} {k n : Nat} (h : a < s.length) (hb : s.getD a 0 ≠ 32) (ht : tokE a (s.drop a) = .ok (k, n)) (hn : 1 <= n) :
  jD1 acc a (s.drop a) = jD1 (acc ++ [(k, (s.drop a).take n, a)]) (a + n) (s.drop (a + n)) := by
 rw [drop_cons h] at ht ⊢
 rw [jD1, if_neg hb, ht]
 simp only
 rw [List.drop_drop, show a + 1 + (n - 1) = a + n by omega]
theorem jOR {s : List UInt8} {a : Nat} {acc : List Tok} {e : Nat × Nat} (h : a < s.length) (hb : s.getD a 0 ≠ 32) (ht : tokE a (s.drop a) = .error e) : jD1 acc a (s.drop a) = .error e := by
 rw [drop_cons h] at ht ⊢
 rw [jD1, if_neg hb, ht]
theorem V15 (s : List UInt8) (hs : s.length <= 9223372036854775800) : jAB Tryz.prog G 15 [.str s] (kKM (jS8 s)) := by
 refine jAB.jAT Tryz.func15 k15 mix (by simp [c15]) ?_
 obtain ⟨R, hR⟩ : ∃ R, kKM (jS8 s) = R := ⟨_, rfl⟩
 rw [hR]
 unfold jS8 at hR
 simp only [c15, L15, CC, jBW]
 by_cases h4 : 4096 < s.length
 ·rw [if_pos h4] at hR
  subst hR
  have d0 : decide ((4096 : Int) < s.length) = true := by simp only [decide_eq_true_eq]; omega
  repeat' (first | exact clo | (refine sqI ?_; intros) | refine stp ?_ | (refine cnd rfl ?_ ?_ <;> intro hcond <;> (try contradiction) <;> try simp only [DD] at hcond) | (refine jAG ?_; intro hg; try simp only [hg]) | (refine saI ?_ ?_; intros) | (refine ari ?_; first | omega | (simp only [DD, LL] <;> omega) | (go_unwrap; omega) | (simp only [DD] at hg; omega)) | (refine stq ?_; focus (simp only [d0, SA, reduceAdd, reduceIte, reduceEqDiff, Nat.reduceBEq, reduceCtorEq]; (try go_unwrap; try simp only [d0, RR, reduceCtorEq]))) | refine And.intro ?_ ?_)
  all_goals rfl
 rw [if_neg h4] at hR
 have d0 : decide ((4096 : Int) < s.length) = false := by simp only [decide_eq_false_iff_not]; omega
 repeat' (first | exact clo | (refine sqI ?_; intros) | refine stp ?_ | (refine cnd rfl ?_ ?_ <;> intro hcond <;> (try contradiction) <;> try simp only [DD] at hcond) | (refine jAG ?_; intro hg; try simp only [hg]) | (refine saI ?_ ?_; intros) | (refine ari ?_; first | omega | (simp only [DD, LL] <;> omega) | (go_unwrap; omega) | (simp only [DD] at hg; omega)) | (refine stq ?_; focus (simp only [d0, SA, reduceAdd, reduceIte, reduceEqDiff, Nat.reduceBEq, reduceCtorEq]; (try go_unwrap; try simp only [d0, RR, reduceCtorEq]))) | refine And.intro ?_ ?_)
 have hs' : s.length <= 4096 := by omega
 refine PW.loop (σ := Nat × List Tok) [0, 5, 6] (fun j => [.str s, kLJ j.2, .int .i64 j.1]) (fun j => kLK j.2) (fun j => j.1 <= s.length ∧ j.2.length <= j.1 ∧ kKM (jD1 j.2 j.1 (s.drop j.1)) = R) (fun j => s.length - j.1) (0, []) ?_ rfl ⟨by simp, by simp, by simpa using hR⟩ ?_
 ·simp only [SA, reduceAdd, reduceIte, reduceEqDiff, Nat.reduceBEq, reduceCtorEq]; rfl
 rintro ⟨a, acc⟩ ⟨ha, hal, hc⟩
 simp only at ha hal hc
 simp only [List.zip_cons_cons, List.zip_nil_left]
 rcases Nat.lt_or_ge a s.length with hlt | hlt
 ·have hd : decide ((a : Int) < s.length) = true := by simp only [decide_eq_true_eq]; omega
  by_cases hb : s.getD a 0 = 32
  ·have hb' : decide (((s.getD a 0).toNat : Int) = 32) = true := by rw [hb]; rfl
   rw [jIV hlt hb] at hc
   repeat' (first | exact clo | (refine sqI ?_; intros) | refine stp ?_ | (refine cnd rfl ?_ ?_ <;> intro hcond <;> (try contradiction) <;> try simp only [DD] at hcond) | (refine jAG ?_; intro hg; try simp only [hg]) | (refine saI ?_ ?_; intros) | (refine ari ?_; first | omega | (simp only [DD, LL] <;> omega) | (go_unwrap; omega) | (simp only [DD] at hg; omega)) | (refine stq ?_; focus (simp only [hd, hb', SA, reduceAdd, reduceIte, reduceEqDiff, Nat.reduceBEq, reduceCtorEq]; (try go_unwrap; try simp only [hd, hb', RR, reduceCtorEq]))) | refine And.intro ?_ ?_)
   exact ⟨(a + 1, acc), rfl, rfl, ⟨by simp only; omega, by simp only; omega, hc⟩, by simp only; omega⟩
  ·have hb' : decide (((s.getD a 0).toNat : Int) = 32) = false := by
    rw [decide_eq_false_iff_not]; exact fun h => hb (UInt8.toNat_inj.1 (Int.ofNat.inj h))
   have h13 := V45 (G := G) s a hs hlt
   cases ht : tokE a (s.drop a) with
   | error p =>
    obtain ⟨o, e⟩ := p
    obtain ⟨h1, h2, h3, k, h4⟩ := jUO ht
    rw [h4] at h13
    rw [jOR hlt hb ht] at hc
    have he : decide ((e : Int) = 0) = false := by rw [decide_eq_false_iff_not]; omega
    repeat' (first | exact clo | (refine sqI ?_; intros) | refine stp ?_ | (refine cnd rfl ?_ ?_ <;> intro hcond <;> (try contradiction) <;> try simp only [DD] at hcond) | (refine jAG ?_; intro hg; try simp only [hg]) | refine jAA E45 (h13) ?_ ?_ ?_ ?_ | (refine saI ?_ ?_; intros) | (refine ari ?_; first | omega | (simp only [DD, LL] <;> omega) | (go_unwrap; omega) | (simp only [DD] at hg; omega)) | (refine stq ?_; focus (simp only [hd, hb', he, Bool.not_false, Bool.not_true, SA, reduceAdd, reduceIte, reduceEqDiff, Nat.reduceBEq, reduceCtorEq]; (try go_unwrap; try simp only [hd, hb', he, Bool.not_false, Bool.not_true, RR, reduceCtorEq]))) | refine And.intro ?_ ?_)
    all_goals (rw [<- hc]; rfl)
   | ok p =>
    obtain ⟨k, n⟩ := p
    obtain ⟨h1, h2, h4⟩ := jKJ (by simp; omega) ht
    rw [List.length_drop] at h2
    rw [h4] at h13
    rw [jOQ hlt hb ht h1] at hc
    have he : decide ((0 : Int) = 0) = true := rfl
    have hdt : List.drop a (List.take (a + n) s) = List.take n (List.drop a s) := by rw [List.drop_take, Nat.add_sub_cancel_left]
    by_cases hacc : acc = []
    ·subst hacc
     simp only [kLJ, kLK]
     repeat' (first | exact clo | (refine sqI ?_; intros) | refine stp ?_ | (refine cnd rfl ?_ ?_ <;> intro hcond <;> (try contradiction) <;> try simp only [DD] at hcond) | (refine jAG ?_; intro hg; try simp only [hg]) | refine jAA E45 (h13) ?_ ?_ ?_ ?_ | (refine saI ?_ ?_; intros) | (refine ari ?_; first | omega | (simp only [DD, LL] <;> omega) | (go_unwrap; omega) | (simp only [DD] at hg; omega)) | (refine stq ?_; focus (simp only [hd, hb', he, hdt, Bool.not_false, Bool.not_true, SA, reduceAdd, reduceIte, reduceEqDiff, Nat.reduceBEq, reduceCtorEq]; (try go_unwrap; try simp only [hd, hb', he, hdt, Bool.not_false, Bool.not_true, RR, reduceCtorEq]))) | refine And.intro ?_ ?_)
     exact ⟨(a + n, [(k, List.take n (List.drop a s), a)]), rfl, rfl, ⟨by simp only; omega, by simp; omega, hc⟩, by simp only; omega⟩
    ·have hne : acc ++ [(k, List.take n (List.drop a s), a)] ≠ [] := by simp
     have hov := jTM hne
     have hom := jTN hne
     rw [List.length_append] at hov
     rw [List.map_append] at hom
     rw [jTM hacc, jTN hacc]
     have htk : (acc.map jZE).take acc.length = acc.map jZE := by rw [List.take_of_length_le (by simp)]
     repeat' (first | exact clo | (refine sqI ?_; intros) | refine stp ?_ | (refine cnd rfl ?_ ?_ <;> intro hcond <;> (try contradiction) <;> try simp only [DD] at hcond) | (refine jAG ?_; intro hg; try simp only [hg]) | refine jAA E45 (h13) ?_ ?_ ?_ ?_ | (refine saI ?_ ?_; intros) | (refine ari ?_; first | omega | (simp only [DD, LL] <;> omega) | (go_unwrap; omega) | (simp only [DD] at hg; omega)) | (refine stq ?_; focus (simp only [hd, hb', he, hdt, Bool.not_false, Bool.not_true, htk, List.length_map, SA, reduceAdd, reduceIte, reduceEqDiff, Nat.reduceBEq, reduceCtorEq]; (try go_unwrap; try simp only [hd, hb', he, hdt, Bool.not_false, Bool.not_true, htk, List.length_map, RR, reduceCtorEq]))) | refine And.intro ?_ ?_)
     exact ⟨(a + n, acc ++ [(k, List.take n (List.drop a s), a)]), by simp only [hov]; rfl, by simp only [hom]; rfl, ⟨by simp only; omega, by simp; omega, hc⟩, by simp only; omega⟩
 ·have hd : decide ((a : Int) < s.length) = false := by simp only [decide_eq_false_iff_not]; omega
  rw [jHS hlt] at hc
  have hla : a = s.length := by omega
  subst hla
  by_cases hacc : acc = []
  ·subst hacc
   simp only [kLJ, kLK]
   repeat' (first | exact clo | (refine sqI ?_; intros) | refine stp ?_ | (refine cnd rfl ?_ ?_ <;> intro hcond <;> (try contradiction) <;> try simp only [DD] at hcond) | (refine jAG ?_; intro hg; try simp only [hg]) | (refine saI ?_ ?_; intros) | (refine ari ?_; first | omega | (simp only [DD, LL] <;> omega) | (go_unwrap; omega) | (simp only [DD] at hg; omega)) | (refine stq ?_; focus (simp only [hd, SA, reduceAdd, reduceIte, reduceEqDiff, Nat.reduceBEq, reduceCtorEq]; (try go_unwrap; try simp only [hd, RR, reduceCtorEq]))) | refine And.intro ?_ ?_)
   all_goals (rw [<- hc]; rfl)
  ·rw [jTM hacc, jTN hacc]
   have htk : (acc.map jZE).take acc.length = acc.map jZE := by rw [List.take_of_length_le (by simp)]
   repeat' (first | exact clo | (refine sqI ?_; intros) | refine stp ?_ | (refine cnd rfl ?_ ?_ <;> intro hcond <;> (try contradiction) <;> try simp only [DD] at hcond) | (refine jAG ?_; intro hg; try simp only [hg]) | (refine saI ?_ ?_; intros) | (refine ari ?_; first | omega | (simp only [DD, LL] <;> omega) | (go_unwrap; omega) | (simp only [DD] at hg; omega)) | (refine stq ?_; focus (simp only [hd, htk, List.length_map, SA, reduceAdd, reduceIte, reduceEqDiff, Nat.reduceBEq, reduceCtorEq]; (try go_unwrap; try simp only [hd, htk, List.length_map, RR, reduceCtorEq]))) | refine And.intro ?_ ?_)
   rw [if_pos (by simp), List.take_of_length_le (by simp), <- hc]
   simp [kKM, jZE]
end
section
variable {G : jA3}
theorem E96 : Ent Tryz.prog 96 := ⟨Tryz.f96, Tryz.func96, by kernel_rfl, by kernel_rfl⟩
theorem E71 : Ent Tryz.prog 71 := ⟨Tryz.f71, Tryz.func71, by kernel_rfl, by kernel_rfl⟩
def kMZ (b : UInt8) : Bool := jAE b || decide ((b.toNat : Int) = 46)
theorem V96 (b : UInt8) : jAB Tryz.prog G 96 [.int .u8 b.toNat] (.bool (kMZ b)) := by
 refine jAB.jAT Tryz.func96 k96 mix (by simp [c96]) ?_
 simp only [c96, L96, CC, jBW]
 repeat' (first | exact clo | (refine sqI ?_; intros) | refine stp ?_ | (refine cnd rfl ?_ ?_ <;> intro hcond <;> (try contradiction) <;> try simp only [DD] at hcond) | (apply jAO E66; (case hV => (simp only [SA, reduceAdd, reduceIte, reduceEqDiff, Nat.reduceBEq, reduceCtorEq]; (try go_unwrap; try simp only [RR, reduceCtorEq]); exact V66 _)); (try (case hs => rfl)); (try (case hf => first | exact Or.inl rfl | exact Or.inr ⟨rfl, rfl⟩ | (refine Or.inl ?_; simp only [SA, reduceAdd, reduceIte, reduceEqDiff, Nat.reduceBEq, reduceCtorEq]; done) | (refine Or.inr ⟨rfl, ?_⟩; simp only [SA, reduceAdd, reduceIte, reduceEqDiff, Nat.reduceBEq, reduceCtorEq]; done))); all_goals (first | (simp only [SA, reduceAdd, reduceIte, reduceEqDiff, Nat.reduceBEq, reduceCtorEq]; (try go_unwrap; try simp only [RR, reduceCtorEq])) | (show Env; skip) | (show Mem; skip))) | (refine jAG ?_; intro hg; try simp only [hg]) | (refine saI ?_ ?_; intros) | (refine ari ?_; first | omega | (simp only [DD, LL] <;> omega) | (go_unwrap; omega) | (simp only [DD] at hg; omega)) | (refine stq ?_; focus (simp only [SA, reduceAdd, reduceIte, reduceEqDiff, Nat.reduceBEq, reduceCtorEq]; (try go_unwrap; try simp only [RR, reduceCtorEq]))) | refine And.intro ?_ ?_)
 rfl
def numOf (s : List UInt8) : Nat × Nat :=
 if s = [] then (0, 3) else if jAE (s.getD 0 0) = false then (0, 3) else
  match jHE s with
  | .error (_, e) => if e = 2 ∧ jA8 kMZ s = s.length ∧ Lib.countByte s 46 < 2 then (0, 2) else (0, 3)
  | .ok (n, v) => if n = s.length then (v, 0) else (0, 3)
theorem kFV {s : List UInt8} {v : Nat} (h : jHE s = .ok (s.length, v)) : ∃ w r b, jJW s 46 = (w, r, b) ∧ jC1 100000 r <= 999999 ∧ jS5 w r = v ∧ v <= 1000000000000000000 := by
 have c0 := jXB s
 have c1 := jXA s
 have h0 : jA8 jAE s <= s.length := jDH _ _
 unfold jHE at h
 split at h
 ·rename_i hp
  split at h
  ·cases h
  ·split at h
   ·cases h
   ·split at h
    ·rename_i hk hv
     simp only [Except.ok.injEq, Prod.mk.injEq] at h
     obtain ⟨h1, h2⟩ := h
     have ht := take_split (k := jA8 jAE (s.drop (jA8 jAE s + 1))) hp.1 hp.2
     rw [List.take_of_length_le (by omega)] at ht
     refine ⟨_, _, _, (by have h5 := c1 ((s.drop (jA8 jAE s + 1)).take (jA8 jAE (s.drop (jA8 jAE s + 1)))); rw [<- ht] at h5; exact h5), jJI _ _, h2, h2 ▸ hv⟩
    ·cases h
 ·split at h
  ·rename_i hv
   simp only [Except.ok.injEq, Prod.mk.injEq] at h
   obtain ⟨h1, h2⟩ := h
   rw [h1, List.take_of_length_le (Nat.le_refl _)] at c0
   rw [h1, List.take_of_length_le (Nat.le_refl _)] at h2 hv
   exact ⟨_, _, _, c0, by simp [jC1], h2, h2 ▸ hv⟩
  ·cases h
theorem V71 (s : List UInt8) (hs : s.length <= 9223372036854775800) : jAB Tryz.prog G 71 [.str s] (.tup [.int .i64 (numOf s).1, .int .i64 (numOf s).2]) := by
 have c0 : ((0 : Nat) : Int) = 0 := rfl
 refine jAB.jAT Tryz.func71 k71 mix (by simp [c71]) ?_
 have h20 := V67 (G := G) s 0 hs (by omega)
 have h21 := V89 (G := G) s 0 96 kMZ (by omega) (by omega) E96 V96
 have h23 := V97 (G := G) s 46
 simp only [List.drop_zero] at h20 h21
 have h24 := V94 (G := G) s (by omega)
 unfold numOf
 simp only [c71, L71, CC, jBW]
 by_cases h0 : s = []
 ·rw [if_pos h0]
  have hd0 : decide (s = []) = true := decide_eq_true h0
  subst h0
  repeat' (first | exact clo | (refine sqI ?_; intros) | refine stp ?_ | (refine cnd rfl ?_ ?_ <;> intro hcond <;> (try contradiction) <;> try simp only [DD] at hcond) | (apply jDQ E66; (case hV => (intro hg; simp only [hg, c0, hd0, Bool.true_or, SA, reduceAdd, reduceIte, reduceEqDiff, Nat.reduceBEq, reduceCtorEq]; (try go_unwrap; try simp only [c0, hd0, Bool.true_or, RR, reduceCtorEq]); exact V66 _)); (case hok => (intro hg; first | (simp only [hg, c0, hd0, Bool.true_or, SA, reduceAdd, reduceIte, reduceEqDiff, Nat.reduceBEq, reduceCtorEq]; done) | (simp_all [jCQ, PV.jBM]; done))); (case hs => (intro hg; simp only [hg, c0, hd0, Bool.true_or, SA, reduceAdd, reduceIte, reduceEqDiff, Nat.reduceBEq, reduceCtorEq])); (case hf => first | rfl | simp only [c0, hd0, Bool.true_or, SA, reduceAdd, reduceIte, reduceEqDiff, Nat.reduceBEq, reduceCtorEq]); (simp only [c0, hd0, Bool.true_or, SA, reduceAdd, reduceIte, reduceEqDiff, Nat.reduceBEq, reduceCtorEq]; (try go_unwrap; try simp only [c0, hd0, Bool.true_or, RR, reduceCtorEq]))) | (refine jAG ?_; intro hg; try simp only [hg]) | (refine saI ?_ ?_; intros) | (refine ari ?_; first | omega | (simp only [DD, LL] <;> omega) | (go_unwrap; omega) | (simp only [DD] at hg; omega)) | (refine stq ?_; focus (simp only [c0, hd0, Bool.true_or, SA, reduceAdd, reduceIte, reduceEqDiff, Nat.reduceBEq, reduceCtorEq]; (try go_unwrap; try simp only [c0, hd0, Bool.true_or, RR, reduceCtorEq]))) | refine And.intro ?_ ?_)
  rfl
 ·rw [if_neg h0]
  have hd0 : decide (s = []) = false := decide_eq_false h0
  have hlen : 0 < s.length := List.length_pos_iff.2 h0
  have zt : (0 : Int).toNat = 0 := rfl
  cases h1 : jAE (s.getD 0 0) with
  | false =>
   rw [if_pos rfl]
   repeat' (first | exact clo | (refine sqI ?_; intros) | refine stp ?_ | (refine cnd rfl ?_ ?_ <;> intro hcond <;> (try contradiction) <;> try simp only [DD] at hcond) | (apply jDQ E66; (case hV => (intro hg; simp only [hg, c0, hd0, h1, zt, Bool.false_or, Bool.not_false, SA, reduceAdd, reduceIte, reduceEqDiff, Nat.reduceBEq, reduceCtorEq]; (try go_unwrap; try simp only [c0, hd0, h1, zt, Bool.false_or, Bool.not_false, RR, reduceCtorEq]); exact V66 _)); (case hok => (intro hg; first | (simp only [hg, c0, hd0, h1, zt, Bool.false_or, Bool.not_false, SA, reduceAdd, reduceIte, reduceEqDiff, Nat.reduceBEq, reduceCtorEq]; done) | (simp_all [jCQ, PV.jBM]; done))); (case hs => (intro hg; simp only [hg, c0, hd0, h1, zt, Bool.false_or, Bool.not_false, SA, reduceAdd, reduceIte, reduceEqDiff, Nat.reduceBEq, reduceCtorEq])); (case hf => first | rfl | simp only [c0, hd0, h1, zt, Bool.false_or, Bool.not_false, SA, reduceAdd, reduceIte, reduceEqDiff, Nat.reduceBEq, reduceCtorEq]); (simp only [c0, hd0, h1, zt, Bool.false_or, Bool.not_false, SA, reduceAdd, reduceIte, reduceEqDiff, Nat.reduceBEq, reduceCtorEq]; (try go_unwrap; try simp only [c0, hd0, h1, zt, Bool.false_or, Bool.not_false, RR, reduceCtorEq]))) | (refine jAG ?_; intro hg; try simp only [hg]) | (refine saI ?_ ?_; intros) | (refine ari ?_; first | omega | (simp only [DD, LL] <;> omega) | (go_unwrap; omega) | (simp only [DD] at hg; omega)) | (refine stq ?_; focus (simp only [c0, hd0, h1, zt, Bool.false_or, Bool.not_false, SA, reduceAdd, reduceIte, reduceEqDiff, Nat.reduceBEq, reduceCtorEq]; (try go_unwrap; try simp only [c0, hd0, h1, zt, Bool.false_or, Bool.not_false, RR, reduceCtorEq]))) | refine And.intro ?_ ?_)
   rfl
  | true =>
   rw [if_neg (by simp)]
   cases hn : jHE s with
   | error p =>
    obtain ⟨o, e⟩ := p
    obtain ⟨he, -⟩ := jVO hn
    rw [hn] at h20
    simp only [jNS] at h20
    have he0 : decide ((e : Int) = 0) = false := by rw [decide_eq_false_iff_not]; omega
    repeat' (first | exact clo | (refine sqI ?_; intros) | refine stp ?_ | (refine cnd rfl ?_ ?_ <;> intro hcond <;> (try contradiction) <;> try simp only [DD] at hcond) | (apply jDQ E66; (case hV => (intro hg; simp only [hg, c0, hd0, h1, zt, he0, SA, reduceAdd, reduceIte, reduceEqDiff, Nat.reduceBEq, reduceCtorEq]; (try go_unwrap; try simp only [c0, hd0, h1, zt, he0, RR, reduceCtorEq]); exact V66 _)); (case hok => (intro hg; first | (simp only [hg, c0, hd0, h1, zt, he0, SA, reduceAdd, reduceIte, reduceEqDiff, Nat.reduceBEq, reduceCtorEq]; done) | (simp_all [jCQ, PV.jBM]; done))); (case hs => (intro hg; simp only [hg, c0, hd0, h1, zt, he0, SA, reduceAdd, reduceIte, reduceEqDiff, Nat.reduceBEq, reduceCtorEq])); (case hf => first | rfl | simp only [c0, hd0, h1, zt, he0, SA, reduceAdd, reduceIte, reduceEqDiff, Nat.reduceBEq, reduceCtorEq]); (simp only [c0, hd0, h1, zt, he0, SA, reduceAdd, reduceIte, reduceEqDiff, Nat.reduceBEq, reduceCtorEq]; (try go_unwrap; try simp only [c0, hd0, h1, zt, he0, RR, reduceCtorEq]))) | (refine jAG ?_; intro hg; try simp only [hg]) | refine jAA E67 (h20) ?_ ?_ ?_ ?_ | refine jAY E89 (h21) ?_ ?_ ?_ ?_ ?_ | refine jAY E97 (h23) ?_ ?_ ?_ ?_ ?_ | refine jAA E94 (h24) ?_ ?_ ?_ ?_ | (refine saI ?_ ?_; intros) | (refine ari ?_; first | omega | (simp only [DD, LL] <;> omega) | (go_unwrap; omega) | (simp only [DD] at hg; omega)) | (refine stq ?_; focus (simp only [c0, hd0, h1, zt, he0, SA, reduceAdd, reduceIte, reduceEqDiff, Nat.reduceBEq, reduceCtorEq]; (try go_unwrap; try simp only [c0, hd0, h1, zt, he0, RR, reduceCtorEq]))) | refine And.intro ?_ ?_)
    ·simp only [Bool.and_eq_true, decide_eq_true_eq] at hcond
     rw [if_pos ⟨by omega, by omega, by omega⟩]; rfl
    ·have hq : ¬(e = 2 ∧ jA8 kMZ s = s.length ∧ Lib.countByte s 46 < 2) := by
      rintro ⟨q1, q2, q3⟩
      have z1 : decide ((e : Int) = 2) = true := by rw [decide_eq_true_eq]; omega
      have z2 : decide (((jA8 kMZ s : Nat) : Int) = s.length) = true := by rw [decide_eq_true_eq]; omega
      have z3 : decide (((Lib.countByte s 46 : Nat) : Int) < 2) = true := by rw [decide_eq_true_eq]; omega
      simp only [z1, z2, z3] at *
      simp at *
     rw [if_neg hq]; rfl
   | ok p =>
    obtain ⟨n, v⟩ := p
    rw [hn] at h20
    simp only [jNS] at h20
    by_cases hl : n = s.length
    ·subst hl
     obtain ⟨w, r, b, hc, hp, hm, hv⟩ := kFV hn
     obtain ⟨a, h3, h4⟩ := jZM hc hp
     rw [h3] at h24
     have := h4 (by omega)
     subst this
     subst hm
     have z1 : decide ((0 : Int) = 2) = false := rfl
     have z2 : decide ((0 : Int) = 0) = true := rfl
     have z3 : decide ((s.length : Int) = s.length) = true := by simp
     repeat' (first | exact clo | (refine sqI ?_; intros) | refine stp ?_ | (refine cnd rfl ?_ ?_ <;> intro hcond <;> (try contradiction) <;> try simp only [DD] at hcond) | (apply jDQ E66; (case hV => (intro hg; simp only [hg, c0, hd0, h1, zt, z1, z2, z3, SA, reduceAdd, reduceIte, reduceEqDiff, Nat.reduceBEq, reduceCtorEq]; (try go_unwrap; try simp only [c0, hd0, h1, zt, z1, z2, z3, RR, reduceCtorEq]); exact V66 _)); (case hok => (intro hg; first | (simp only [hg, c0, hd0, h1, zt, z1, z2, z3, SA, reduceAdd, reduceIte, reduceEqDiff, Nat.reduceBEq, reduceCtorEq]; done) | (simp_all [jCQ, PV.jBM]; done))); (case hs => (intro hg; simp only [hg, c0, hd0, h1, zt, z1, z2, z3, SA, reduceAdd, reduceIte, reduceEqDiff, Nat.reduceBEq, reduceCtorEq])); (case hf => first | rfl | simp only [c0, hd0, h1, zt, z1, z2, z3, SA, reduceAdd, reduceIte, reduceEqDiff, Nat.reduceBEq, reduceCtorEq]); (simp only [c0, hd0, h1, zt, z1, z2, z3, SA, reduceAdd, reduceIte, reduceEqDiff, Nat.reduceBEq, reduceCtorEq]; (try go_unwrap; try simp only [c0, hd0, h1, zt, z1, z2, z3, RR, reduceCtorEq]))) | (refine jAG ?_; intro hg; try simp only [hg]) | refine jAA E67 (h20) ?_ ?_ ?_ ?_ | refine jAY E89 (h21) ?_ ?_ ?_ ?_ ?_ | refine jAY E97 (h23) ?_ ?_ ?_ ?_ ?_ | refine jAA E94 (h24) ?_ ?_ ?_ ?_ | (refine saI ?_ ?_; intros) | (refine ari ?_; first | omega | (simp only [DD, LL] <;> omega) | (go_unwrap; omega) | (simp only [DD] at hg; omega)) | (refine stq ?_; focus (simp only [c0, hd0, h1, zt, z1, z2, z3, SA, reduceAdd, reduceIte, reduceEqDiff, Nat.reduceBEq, reduceCtorEq]; (try go_unwrap; try simp only [c0, hd0, h1, zt, z1, z2, z3, RR, reduceCtorEq]))) | refine And.intro ?_ ?_)
     all_goals rfl
    ·have z1 : decide ((0 : Int) = 2) = false := rfl
     have z2 : decide ((0 : Int) = 0) = true := rfl
     have z3 : decide ((n : Int) = s.length) = false := by rw [decide_eq_false_iff_not]; omega
     repeat' (first | exact clo | (refine sqI ?_; intros) | refine stp ?_ | (refine cnd rfl ?_ ?_ <;> intro hcond <;> (try contradiction) <;> try simp only [DD] at hcond) | (apply jDQ E66; (case hV => (intro hg; simp only [hg, c0, hd0, h1, zt, z1, z2, z3, SA, reduceAdd, reduceIte, reduceEqDiff, Nat.reduceBEq, reduceCtorEq]; (try go_unwrap; try simp only [c0, hd0, h1, zt, z1, z2, z3, RR, reduceCtorEq]); exact V66 _)); (case hok => (intro hg; first | (simp only [hg, c0, hd0, h1, zt, z1, z2, z3, SA, reduceAdd, reduceIte, reduceEqDiff, Nat.reduceBEq, reduceCtorEq]; done) | (simp_all [jCQ, PV.jBM]; done))); (case hs => (intro hg; simp only [hg, c0, hd0, h1, zt, z1, z2, z3, SA, reduceAdd, reduceIte, reduceEqDiff, Nat.reduceBEq, reduceCtorEq])); (case hf => first | rfl | simp only [c0, hd0, h1, zt, z1, z2, z3, SA, reduceAdd, reduceIte, reduceEqDiff, Nat.reduceBEq, reduceCtorEq]); (simp only [c0, hd0, h1, zt, z1, z2, z3, SA, reduceAdd, reduceIte, reduceEqDiff, Nat.reduceBEq, reduceCtorEq]; (try go_unwrap; try simp only [c0, hd0, h1, zt, z1, z2, z3, RR, reduceCtorEq]))) | (refine jAG ?_; intro hg; try simp only [hg]) | refine jAA E67 (h20) ?_ ?_ ?_ ?_ | refine jAY E89 (h21) ?_ ?_ ?_ ?_ ?_ | refine jAY E97 (h23) ?_ ?_ ?_ ?_ ?_ | refine jAA E94 (h24) ?_ ?_ ?_ ?_ | (refine saI ?_ ?_; intros) | (refine ari ?_; first | omega | (simp only [DD, LL] <;> omega) | (go_unwrap; omega) | (simp only [DD] at hg; omega)) | (refine stq ?_; focus (simp only [c0, hd0, h1, zt, z1, z2, z3, SA, reduceAdd, reduceIte, reduceEqDiff, Nat.reduceBEq, reduceCtorEq]; (try go_unwrap; try simp only [c0, hd0, h1, zt, z1, z2, z3, RR, reduceCtorEq]))) | refine And.intro ?_ ?_)
     rw [if_neg hl]; rfl
end
section
variable {G : jA3}
theorem kAT : ∀ (n : Nat) (l : List UInt8) (acc : List Tok) (a : Nat) (t : List Tok), l.length <= n -> jD1 acc a l = .ok t -> t.length <= acc.length + l.length + 1 := by
 intro n
 induction n with
 | zero =>
  intro l acc a t hl h
  have : l = [] := List.length_eq_zero_iff.1 (by omega)
  subst this
  rw [jD1] at h
  cases h
  simp
 | succ n ih =>
  intro l acc a t hl h
  cases l with
  | nil => rw [jD1] at h; cases h; simp
  | cons b r =>
   rw [jD1] at h
   simp only [List.length_cons] at hl ⊢
   split at h
   ·have := ih _ _ _ _ (by omega) h
    omega
   ·split at h
    ·cases h
    ·rename_i k m ht
     have := ih _ _ _ _ (by rw [List.length_drop]; omega) h
     simp only [List.length_append, List.length_cons, List.length_nil, List.length_drop] at this
     omega
theorem kF0 {s : List UInt8} {t : List Tok} (h : jS8 s = .ok t) : t.length <= s.length + 1 ∧ s.length <= 4096 := by
 unfold jS8 at h
 split at h
 ·cases h
 ·have := kAT s.length s [] 0 t (Nat.le_refl _) h
  simp only [List.length_nil] at this
  omega
theorem jF4 (p : UInt8 -> Bool) : ∀ (l : List UInt8) (j : Nat), jA8 p (l.take j) = Nat.min j (jA8 p l)
 | [], j => by simp [jA8]
 | b :: l, 0 => by simp [jA8]
 | b :: l, j + 1 => by
  simp only [List.take_succ_cons, jA8, jF4 p l j]
  split
  ·simp only [Nat.min_def]; split <;> split <;> omega
  ·simp
theorem jDA {p : UInt8 -> Bool} {b : UInt8} (hb : p b = false) (r : List UInt8) : ∀ l : List UInt8, jA8 p (l ++ b :: r) = jA8 p l
 | [] => by simp [jA8, hb]
 | c :: l => by simp only [List.cons_append, jA8, jDA hb r l]
theorem kJ5 : jAE 46 = false := by decide
theorem jJ8 {l r : List UInt8} {i : Nat} (h : i < l.length) : (l ++ r).getD i 0 = l.getD i 0 := by simp [List.getD, List.getElem?_append_left h]
theorem getD_take {l : List UInt8} {i j : Nat} (h : i < j) : (l.take j).getD i 0 = l.getD i 0 := by simp [List.getD, h]
theorem kBN {l : List UInt8} {n v : Nat} (h : jHE l = .ok (n, v)) : jHE (l.take n) = .ok (n, v) := by
 have hle := (kBO h).1
 have h2 : jA8 jAE l <= l.length := jDH _ _
 unfold jHE at h
 split at h
 ·rename_i hp
  have hq : jA8 jAE (l.drop (jA8 jAE l + 1)) <= (l.drop (jA8 jAE l + 1)).length := jDH _ _
  split at h
  ·cases h
  ·rename_i h3
   split at h
   ·cases h
   ·rename_i h4
    split at h
    ·rename_i h5
     simp only [Except.ok.injEq, Prod.mk.injEq] at h
     obtain ⟨hn, hv⟩ := h
     generalize hk : jA8 jAE (l.drop (jA8 jAE l + 1)) = k at *
     generalize hm : jA8 jAE l = m at *
     have e1 : jA8 jAE (l.take n) = m := by rw [jF4, hm]; simp only [Nat.min_def]; split <;> omega
     have e2 : (l.take n).drop (m + 1) = (l.drop (m + 1)).take k := by rw [List.drop_take]; congr 1; omega
     have e3 : jA8 jAE ((l.drop (m + 1)).take k) = k := by rw [jF4, hk]; simp [Nat.min_def]
     have e4 : (l.take n).take m = l.take m := by rw [List.take_take]; congr 1; simp only [Nat.min_def]; split <;> omega
     unfold jHE
     rw [e1, e2, e3, e4, if_pos ⟨by rw [List.length_take]; simp only [Nat.min_def]; split <;> omega, by rw [getD_take (by omega)]; exact hp.2⟩, if_neg h3, if_neg h4, List.take_take]
     simp only [Nat.min_self]
     rw [if_pos h5, hn, hv]
    ·cases h
 ·split at h
  ·rename_i hp h5
   simp only [Except.ok.injEq, Prod.mk.injEq] at h
   obtain ⟨hn, hv⟩ := h
   subst hn
   have e1 : jA8 jAE (l.take (jA8 jAE l)) = jA8 jAE l := by rw [jF4]; simp [Nat.min_def]
   unfold jHE
   rw [e1, if_neg (by rw [List.length_take]; simp only [Nat.min_def]; split <;> omega), List.take_take]
   simp only [Nat.min_self]
   rw [if_pos h5, hv]
  ·cases h
theorem jZR (a a' : Nat) {l : List UInt8} {k n : Nat} (hl : l ≠ []) (h : tokE a l = .ok (k, n)) : tokE a' (l.take n) = .ok (k, n) ∧ 1 <= n ∧ n <= l.length := by
 obtain ⟨h1, h2, -⟩ := jKJ (List.length_pos_iff.2 hl) h
 refine ⟨?_, h1, h2⟩
 have h0 : (l.take n).getD 0 0 = l.getD 0 0 := getD_take (by omega)
 unfold tokE at h ⊢
 rw [h0]
 split at h
 ·rename_i hc
  rw [if_pos hc]
  split at h
  ·rename_i h3
   simp only [Except.ok.injEq, Prod.mk.injEq] at h
   obtain ⟨rfl, rfl⟩ := h
   have e : jA8 jB2 (l.take (jA8 jB2 l)) = jA8 jB2 l := by rw [jF4]; simp [Nat.min_def]
   rw [e, if_pos h3]
  ·cases h
 ·rename_i hc
  rw [if_neg hc]
  split at h
  ·rename_i hd
   rw [if_pos hd]
   cases hn : jHE l with
   | error p => rw [hn] at h; cases h
   | ok p =>
    obtain ⟨m, v⟩ := p
    rw [hn] at h
    simp only [Except.ok.injEq, Prod.mk.injEq] at h
    obtain ⟨rfl, rfl⟩ := h
    rw [kBN hn]
  ·rename_i hd
   rw [if_neg hd]
   split at h
   ·rename_i hs
    rw [if_pos hs]; exact h
   ·cases h
theorem kAR {a k : Nat} {x : List UInt8} (hx : x ≠ []) (h : tokE a x = .ok (k, x.length)) : isName x = decide (k = 1) ∧ ((numOf x).2 = 0 ↔ k = 2) ∧ k ≠ 0 := by
 unfold tokE at h
 unfold isName numOf
 rw [if_neg hx]
 split at h
 ·rename_i hc
  split at h
  ·rename_i h3
   simp only [Except.ok.injEq, Prod.mk.injEq] at h
   obtain ⟨rfl, hn⟩ := h
   have hd : jAE (x.getD 0 0) = false := by
    unfold jC4 at hc; unfold jAE
    simp only [Bool.and_eq_true, decide_eq_true_eq] at hc
    simp only [Bool.and_eq_false_iff, decide_eq_false_iff_not]; omega
   rw [hd, hc, hn]
   simp [hx]
   omega
  ·cases h
 ·rename_i hc
  split at h
  ·rename_i hd
   cases hn : jHE x with
   | error p => rw [hn] at h; cases h
   | ok p =>
    obtain ⟨m, v⟩ := p
    rw [hn] at h
    simp only [Except.ok.injEq, Prod.mk.injEq] at h
    obtain ⟨rfl, rfl⟩ := h
    have hl0 : jC4 (x.getD 0 0) = false := by simpa using hc
    rw [hl0, hd]
    simp
  ·rename_i hd
   split at h
   ·simp only [Except.ok.injEq, Prod.mk.injEq] at h
    obtain ⟨rfl, hn⟩ := h
    have hl0 : jC4 (x.getD 0 0) = false := by simpa using hc
    have hd0 : jAE (x.getD 0 0) = false := by simpa using hd
    rw [hl0, hd0]
    simp
   ·cases h
def jPZ (s : List UInt8) : Nat -> List Tok -> Prop
 | b, [] => b = s.length
 | b, (k, x, a) :: l => b <= a ∧ a + x.length <= s.length ∧ (s.drop a).take x.length = x ∧ (∀ j, b <= j -> j < a -> s.getD j 0 = 32) ∧ (l = [] ↔ k = 0) ∧ (l = [] -> x = []) ∧ (l ≠ [] -> x ≠ [] ∧ tokE 0 x = .ok (k, x.length)) ∧ jPZ s (a + x.length) l
theorem jXZ {s : List UInt8} : ∀ (n a b : Nat) (acc l : List Tok), s.length - a <= n -> a <= s.length -> b <= a -> (∀ j, b <= j -> j < a -> s.getD j 0 = 32) -> jD1 acc a (s.drop a) = .ok l -> ∃ l', l = acc ++ l' ∧ l' ≠ [] ∧ jPZ s b l' := by
 intro n
 induction n with
 | zero =>
  intro a b acc l hn ha hb hbl h
  have : a = s.length := by omega
  subst this
  rw [jHS (Nat.le_refl _)] at h
  cases h
  exact ⟨_, rfl, by simp, hb, by simp, by simp, hbl, by simp, by simp, by simp, by simp [jPZ]⟩
 | succ n ih =>
  intro a b acc l hn ha hb hbl h
  rcases Nat.lt_or_ge a s.length with hlt | hge
  ·by_cases hc : s.getD a 0 = 32
   ·rw [jIV hlt hc] at h
    refine ih (a + 1) b acc l (by omega) hlt (by omega) (fun j h1 h2 => ?_) h
    rcases Nat.lt_or_ge j a with h3 | h3
    ·exact hbl j h1 h3
    ·rw [show j = a by omega]; exact hc
   ·cases ht : tokE a (s.drop a) with
    | error e => rw [jOR hlt hc ht] at h; cases h
    | ok p =>
     obtain ⟨k, m⟩ := p
     have hne : s.drop a ≠ [] := by
      intro h0
      have := congrArg List.length h0
      simp at this; omega
     obtain ⟨h1, h2, h3⟩ := jZR a 0 hne ht
     rw [List.length_drop] at h3
     rw [jOQ hlt hc ht h2] at h
     obtain ⟨l', e1, e2, e3⟩ := ih (a + m) (a + m) _ l (by omega) (by omega) (Nat.le_refl _) (fun j h4 h5 => absurd h4 (by omega)) h
     have hxl : ((s.drop a).take m).length = m := by simp; omega
     have hx : (s.drop a).take m ≠ [] := List.length_pos_iff.1 (by omega)
     rw [<- hxl] at h1
     have hk := (kAR (k := k) hx (by rw [hxl] at h1 ⊢; exact h1)).2.2
     refine ⟨(k, (s.drop a).take m, a) :: l', by rw [e1]; simp, by simp, hb, by rw [hxl]; omega, by rw [hxl], hbl, ⟨fun h => absurd h e2, fun h => absurd h hk⟩, fun h => absurd h e2, fun _ => ⟨hx, by rw [hxl] at h1 ⊢; exact h1⟩, by rw [hxl]; exact e3⟩
  ·have : a = s.length := by omega
   subst this
   rw [jHS (Nat.le_refl _)] at h
   cases h
   exact ⟨_, rfl, by simp, hb, by simp, by simp, hbl, by simp, by simp, by simp, by simp [jPZ]⟩
theorem kDW {s : List UInt8} {l : List Tok} (h : jS8 s = .ok l) : l ≠ [] ∧ jPZ s 0 l ∧ s.length <= 4096 := by
 unfold jS8 at h
 split at h
 ·cases h
 ·obtain ⟨l', e1, e2, e3⟩ := jXZ (s := s) s.length 0 0 [] l (by omega) (by omega) (Nat.le_refl _) (fun j _ h => absurd h (by omega)) (by simpa using h)
  simp at e1; subst e1
  exact ⟨e2, e3, by omega⟩
theorem kAS {s : List UInt8} : ∀ (n a : Nat) (acc : List Tok) (o e : Nat), s.length - a <= n -> a <= s.length -> jD1 acc a (s.drop a) = .error (o, e) -> o <= s.length ∧ e ≠ 0 := by
 intro n
 induction n with
 | zero =>
  intro a acc o e hn ha h
  rw [jHS (by omega)] at h; cases h
 | succ n ih =>
  intro a acc o e hn ha h
  rcases Nat.lt_or_ge a s.length with hlt | hge
  ·by_cases hc : s.getD a 0 = 32
   ·rw [jIV hlt hc] at h
    exact ih (a + 1) acc o e (by omega) hlt h
   ·cases ht : tokE a (s.drop a) with
    | error p =>
     obtain ⟨o', e'⟩ := p
     rw [jOR hlt hc ht] at h
     simp only [Except.error.injEq, Prod.mk.injEq] at h
     obtain ⟨rfl, rfl⟩ := h
     obtain ⟨h1, h2, h3, -⟩ := jUO ht
     rw [List.length_drop] at h3
     exact ⟨by omega, by omega⟩
    | ok p =>
     obtain ⟨k, m⟩ := p
     obtain ⟨h2, h3, -⟩ := jKJ (by simp; omega) ht
     rw [List.length_drop] at h3
     rw [jOQ hlt hc ht h2] at h
     exact ih (a + m) _ o e (by omega) (by omega) h
  ·rw [jHS hge] at h; cases h
theorem kFZ {s : List UInt8} {o e : Nat} (h : jS8 s = .error (o, e)) : o <= s.length ∧ e ≠ 0 := by
 unfold jS8 at h
 split at h
 ·simp only [Except.error.injEq, Prod.mk.injEq] at h
  obtain ⟨rfl, rfl⟩ := h
  exact ⟨by omega, by omega⟩
 ·exact kAS s.length 0 [] o e (by omega) (by omega) (by simpa using h)
end
theorem jP9 {s : List UInt8} : ∀ (l : List Tok) (b : Nat), l ≠ [] -> jPZ s b l -> ∃ l', l = l' ++ [(0, [], s.length)] ∧ ∀ t ∈ l', t.1 ≠ 0 ∧ t.2.1 ≠ [] ∧ tokE 0 t.2.1 = .ok (t.1, t.2.1.length) ∧ t.2.1.length <= s.length
 | [], _, h, _ => absurd rfl h
 | [(k, x, a)], b, _, h => by
  unfold jPZ at h
  obtain ⟨h1, h2, h3, h4, h5, h6, h7, h8⟩ := h
  have hk := h5.1 rfl
  have hx := h6 rfl
  subst hk hx
  unfold jPZ at h8
  simp at h8
  exact ⟨[], by simp [h8], by simp⟩
 | (k, x, a) :: t :: l, b, _, h => by
  unfold jPZ at h
  obtain ⟨h1, h2, h3, h4, h5, h6, h7, h8⟩ := h
  obtain ⟨l', e, h9⟩ := jP9 (t :: l) (a + x.length) (by simp) h8
  obtain ⟨h10, h11⟩ := h7 (by simp)
  refine ⟨(k, x, a) :: l', by rw [e]; rfl, fun u hu => ?_⟩
  rcases List.mem_cons.1 hu with rfl | hu
  ·exact ⟨fun h => by have := h5.2 h; simp at this, h10, h11, by simp only; omega⟩
  ·exact h9 u hu
theorem jTC {s : List UInt8} {l : List Tok} (h : jS8 s = .ok l) : ∃ l', l = l' ++ [(0, [], s.length)] ∧ l.length <= 4097 ∧ s.length <= 4096 ∧ ∀ t ∈ l', t.1 ≠ 0 ∧ t.2.1 ≠ [] ∧ tokE 0 t.2.1 = .ok (t.1, t.2.1.length) ∧ t.2.1.length <= 4096 := by
 obtain ⟨h1, h2, h3⟩ := kDW h
 obtain ⟨l', e, h4⟩ := jP9 l 0 h1 h2
 have := (kF0 h).1
 exact ⟨l', e, by omega, h3, fun t ht => ⟨(h4 t ht).1, (h4 t ht).2.1, (h4 t ht).2.2.1, by have := (h4 t ht).2.2.2; omega⟩⟩
theorem kKS (l' : List Tok) (n : Nat) : (jB8 (l' ++ [(0, [], n)]) ((l' ++ [(0, [], n)]).length - 1)).1 = 0 := by
 simp [jB8, List.getD]
theorem inv_start {s : List UInt8} {l : List Tok} (h : jS8 s = .ok l) : Inv l ⟨0, 0, []⟩ := by
 obtain ⟨l', rfl, -, -, -⟩ := jTC h
 exact ⟨by simp, by simp, rfl, kKS _ _⟩
theorem kN9 {s : List UInt8} {l : List Tok} (h : jS8 s = .ok l) (i : Nat) : (jB8 l i).2.1.length <= 100000 := by
 obtain ⟨l', rfl, -, -, h4⟩ := jTC h
 unfold jB8
 rw [List.getD_eq_getElem?_getD]
 cases hi : (l' ++ [((0 : Nat), ([] : List UInt8), s.length)])[i]? with
 | none => simp
 | some t =>
  rcases List.mem_append.1 (List.mem_of_getElem? hi) with hm | hm
  ·have := (h4 t hm).2.2.2; simp only [Option.getD_some]; omega
  ·rw [List.mem_singleton.1 hm]; simp
abbrev KT := Nat × List UInt8
def kt (l : List Tok) : List KT := l.map (fun t => (t.1, t.2.1))
def lx : List UInt8 -> Option (List KT)
 | [] => some []
 | b :: r => if b = 32 then lx r else
  match tokE 0 (b :: r) with
  | .error _ => none
  | .ok (k, n) => (lx (r.drop (n - 1))).map ((k, (b :: r).take n) :: ·)
termination_by l => l.length
decreasing_by all_goals (simp; try omega)
theorem jT0 {b : UInt8} (h : jB2 b = false) : jAE b = false ∧ b ≠ 46 := by
 unfold jB2 at h
 simp only [Bool.or_eq_false_iff, decide_eq_false_iff_not] at h
 refine ⟨h.1.1.1.2, fun e => h.1.1.2 ?_⟩
 subst e; rfl
theorem kBM {b : UInt8} (hb : jB2 b = false) (l r : List UInt8) : jHE (l ++ b :: r) = jHE l := by
 obtain ⟨hd, h46⟩ := jT0 hb
 have h1 := jDA hd r l
 have h2 : jA8 jAE l <= l.length := jDH _ _
 unfold jHE
 rw [h1]
 by_cases hp : jA8 jAE l < l.length ∧ l.getD (jA8 jAE l) 0 = 46
 ·have hp' : jA8 jAE l < (l ++ b :: r).length ∧ (l ++ b :: r).getD (jA8 jAE l) 0 = 46 := ⟨by simp; omega, by rw [jJ8 hp.1]; exact hp.2⟩
  have hd' : (l ++ b :: r).drop (jA8 jAE l + 1) = l.drop (jA8 jAE l + 1) ++ b :: r := by rw [List.drop_append_of_le_length (by omega)]
  have ht : (l ++ b :: r).take (jA8 jAE l) = l.take (jA8 jAE l) := by rw [List.take_append_of_le_length h2]
  have hq : jA8 jAE (l.drop (jA8 jAE l + 1)) <= (l.drop (jA8 jAE l + 1)).length := jDH _ _
  rw [if_pos hp, if_pos hp', hd', ht, jDA hd r, List.take_append_of_le_length hq]
 ·have hp' : ¬(jA8 jAE l < (l ++ b :: r).length ∧ (l ++ b :: r).getD (jA8 jAE l) 0 = 46) := by
   rintro ⟨h3, h4⟩
   rcases Nat.lt_or_ge (jA8 jAE l) l.length with h | h
   ·rw [jJ8 h] at h4; exact hp ⟨h, h4⟩
   ·have : jA8 jAE l = l.length := by omega
    rw [this] at h4
    simp [List.getD] at h4
    exact h46 h4
  have ht : (l ++ b :: r).take (jA8 jAE l) = l.take (jA8 jAE l) := by rw [List.take_append_of_le_length h2]
  rw [if_neg hp, if_neg hp', ht]
theorem jZQ {b : UInt8} (hb : jB2 b = false) (a : Nat) {l : List UInt8} (r : List UInt8) (hl : l ≠ []) : tokE a (l ++ b :: r) = tokE a l := by
 have h0 : (l ++ b :: r).getD 0 0 = l.getD 0 0 := jJ8 (List.length_pos_iff.2 hl)
 unfold tokE
 rw [h0, jDA hb, kBM hb]
theorem kHY (a a' : Nat) {l : List UInt8} {p : Nat × Nat} (h : tokE a l = .ok p) : tokE a' l = .ok p := by
 unfold tokE at h ⊢
 split at h
 ·rename_i hc; rw [if_pos hc]
  split at h
  ·rename_i h3; rw [if_pos h3]; exact h
  ·cases h
 ·rename_i hc; rw [if_neg hc]
  split at h
  ·rename_i hd; rw [if_pos hd]
   cases hn : jHE l with
   | error p => rw [hn] at h; cases h
   | ok p => rw [hn] at h; exact h
  ·rename_i hd; rw [if_neg hd]
   split at h
   ·rename_i hs; rw [if_pos hs]; exact h
   ·cases h
theorem kII : ∀ (n : Nat) (s : List UInt8) (w : List KT) (acc : List Tok) (a : Nat), s.length <= n -> lx s = some w -> ∃ l, kt l = w ∧ jD1 acc a s = .ok (acc ++ l ++ [(0, [], a + s.length)]) := by
 intro n
 induction n with
 | zero =>
  intro s w acc a hn h
  have : s = [] := List.length_eq_zero_iff.1 (by omega)
  subst this
  rw [lx] at h; cases h
  exact ⟨[], rfl, by rw [jD1]; simp⟩
 | succ n ih =>
  intro s w acc a hn h
  cases s with
  | nil => rw [lx] at h; cases h; exact ⟨[], rfl, by rw [jD1]; simp⟩
  | cons b r =>
   simp only [List.length_cons] at hn
   rw [lx] at h
   rw [jD1]
   by_cases hb : b = 32
   ·rw [if_pos hb] at h ⊢
    obtain ⟨l, h1, h2⟩ := ih r w acc (a + 1) (by omega) h
    exact ⟨l, h1, by rw [h2]; simp; omega⟩
   ·rw [if_neg hb] at h ⊢
    cases ht : tokE 0 (b :: r) with
    | error e => rw [ht] at h; cases h
    | ok p =>
     obtain ⟨k, m⟩ := p
     rw [ht] at h
     rw [kHY 0 a ht]
     simp only at h ⊢
     cases hr : lx (r.drop (m - 1)) with
     | none => rw [hr] at h; cases h
     | some v =>
      rw [hr] at h
      simp only [Option.map_some, Option.some.injEq] at h
      obtain ⟨h3, h4, -⟩ := jKJ (by simp) ht
      simp only [List.length_cons] at h4
      obtain ⟨l, h1, h2⟩ := ih (r.drop (m - 1)) v (acc ++ [(k, (b :: r).take m, a)]) (a + m) (by simp; omega) hr
      refine ⟨(k, (b :: r).take m, a) :: l, by rw [<- h]; simp [kt] at h1 ⊢; exact h1, ?_⟩
      rw [h2]
      simp
      omega
theorem kM8 {s : List UInt8} {w : List KT} (hs : s.length <= 4096) (h : lx s = some w) : ∃ l, kt l = w ∧ jS8 s = .ok (l ++ [(0, [], s.length)]) := by
 obtain ⟨l, h1, h2⟩ := kII s.length s w [] 0 (Nat.le_refl _) h
 exact ⟨l, h1, by unfold jS8; rw [if_neg (by omega), h2]; simp⟩
theorem kLN {b : UInt8} (hb : jB2 b = false) (r : List UInt8) : ∀ (n : Nat) (s : List UInt8) (w : List KT), s.length <= n -> lx s = some w -> lx (s ++ b :: r) = (lx (b :: r)).map (w ++ ·) := by
 intro n
 induction n with
 | zero =>
  intro s w hn h
  have : s = [] := List.length_eq_zero_iff.1 (by omega)
  subst this
  rw [lx] at h; cases h
  simp
 | succ n ih =>
  intro s w hn h
  cases s with
  | nil => rw [lx] at h; cases h; simp
  | cons c t =>
   simp only [List.length_cons] at hn
   rw [lx] at h
   rw [List.cons_append, lx]
   by_cases hc : c = 32
   ·rw [if_pos hc] at h ⊢
    exact ih t w (by omega) h
   ·rw [if_neg hc] at h ⊢
    have hst := jZQ hb 0 (l := c :: t) r (by simp)
    rw [List.cons_append] at hst
    rw [hst]
    cases ht : tokE 0 (c :: t) with
    | error e => rw [ht] at h; cases h
    | ok p =>
     obtain ⟨k, m⟩ := p
     rw [ht] at h
     simp only at h ⊢
     cases hr : lx (t.drop (m - 1)) with
     | none => rw [hr] at h; cases h
     | some v =>
      rw [hr] at h
      simp only [Option.map_some, Option.some.injEq] at h
      obtain ⟨h3, h4, -⟩ := jKJ (by simp) ht
      simp only [List.length_cons] at h4
      have e1 : (t ++ b :: r).drop (m - 1) = t.drop (m - 1) ++ b :: r := by rw [List.drop_append_of_le_length (by omega)]
      have e2 : (c :: (t ++ b :: r)).take m = (c :: t).take m := by rw [<- List.cons_append, List.take_append_of_le_length (by simp; omega)]
      rw [e1, e2, ih _ v (by simp; omega) hr, <- h]
      cases lx (b :: r) <;> simp
theorem jI4 {b : UInt8} (h32 : b ≠ 32) (hl : jC4 b = false) (hd : jAE b = false) (hs : jXV b = true) (r : List UInt8) : lx (b :: r) = (lx r).map ((3, [b]) :: ·) := by
 have ht : tokE 0 (b :: r) = .ok (3, 1) := by
  unfold tokE
  simp only [List.getD_cons_zero]
  rw [hl, hd, hs]; simp
 rw [lx, if_neg h32, ht]
 simp
theorem kG3 {x : List UInt8} {k : Nat} (hx : x ≠ []) (h32 : x.getD 0 0 ≠ 32) (h : tokE 0 x = .ok (k, x.length)) : lx x = some [(k, x)] := by
 cases x with
 | nil => exact absurd rfl hx
 | cons b r =>
  rw [lx, if_neg (by simpa using h32), h]
  simp only [List.length_cons, Nat.add_sub_cancel, List.drop_length, List.take_of_length_le (Nat.le_refl _)]
  rw [show (b :: r).take (r.length + 1) = b :: r from List.take_of_length_le (by simp), lx]
  rfl
theorem letter32 {b : UInt8} (h : jC4 b = true) : b ≠ 32 := by
 intro e; subst e; cases h
theorem kFT {b : UInt8} (h : jAE b = true) : b ≠ 32 := by
 intro e; subst e; cases h
theorem jSU {b : UInt8} (h : jAE b = true) : jC4 b = false := by
 unfold jAE at h; unfold jC4
 simp only [Bool.and_eq_true, decide_eq_true_eq] at h
 simp only [Bool.and_eq_false_iff, decide_eq_false_iff_not]; omega
theorem jO6 {x : List UInt8} (h : isName x = true) : lx x = some [(1, x)] := by
 unfold isName at h
 simp only [Bool.and_eq_true, decide_eq_true_eq] at h
 obtain ⟨⟨⟨h1, h2⟩, h3⟩, h4⟩ := h
 refine kG3 h1 (letter32 h3) ?_
 unfold tokE
 rw [h3, h4]
 simp [h2]
theorem kB4 {x : List UInt8} {v : Nat} (h0 : jAE (x.getD 0 0) = true) (h : jHE x = .ok (x.length, v)) : lx x = some [(2, x)] := by
 have hx : x ≠ [] := by intro e; subst e; cases h0
 refine kG3 hx (kFT h0) ?_
 unfold tokE
 rw [jSU h0, h0, h]
 simp
end Go.Proofs.YthjkmhfiffojeaaGreatDoor
