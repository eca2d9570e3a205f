import Derived.Shelf.Strings.Search1
import Derived.Shelf.Strings.Count
import Derived.Test.YthjkmhfiffojeaaGreatDoorQ8
namespace Go.Proofs.YthjkmhfiffojeaaGreatDoor
open Go PG Go.Proofs
open Nat (reduceAdd reduceEqDiff)
set_option linter.unusedSimpArgs false
set_option linter.unusedVariables false
set_option maxRecDepth 100000
section
variable {nm : List UInt8 -> Int} {l : List Tok}
def wfK : List Nd -> Nat -> Prop
 | [], _ => True
 | n :: ns, i => (∀ k ∈ n.kids, 0 <= k ∧ k < (i : Int)) ∧ wfK ns (i + 1)
theorem jUJ {n : Nd} : ∀ {ns : List Nd} {i : Nat}, wfK ns i -> (∀ k ∈ n.kids, 0 <= k ∧ k < ((i + ns.length : Nat) : Int)) -> wfK (ns ++ [n]) i
 | [], i, _, h => ⟨by simpa using h, trivial⟩
 | m :: ns, i, hw, h => ⟨hw.1, jUJ hw.2 (by
   intro k hk; have := h k hk; simp only [List.length_cons] at this; refine ⟨this.1, ?_⟩; have := this.2; omega)⟩
def WfR (s : PS) (r : Int × PS) : Prop := r.2.e = 0 -> wfK r.2.out 0 ∧ 0 <= r.1 ∧ r.1 < r.2.out.length ∧ s.out.length <= r.2.out.length
def WfF (f : PS -> Int × PS) : Prop := ∀ s, s.e = 0 -> wfK s.out 0 -> WfR s (f s)
theorem jUI {s0 s : PS} {n : Nd} (hw : s.e = 0 -> wfK s.out 0) (hl : s.e = 0 -> s0.out.length <= s.out.length) (hk : s.e = 0 -> ∀ k ∈ n.kids, 0 <= k ∧ k < (s.out.length : Int)) : WfR s0 (jEE s n) := by
 intro he
 have he' : s.e = 0 := he
 refine ⟨jUJ (hw he') (by simpa using hk he'), by simp [jEE], by simp [jEE]; omega, by have := hl he'; simp [jEE]; omega⟩
theorem jIQ {s0 s : PS} {e : Int} (he : s.e = 0) (h : e ≠ 0) : WfR s0 (jEI s e) := by
 intro hh; simp [jEI, he] at hh; exact absurd hh h
theorem jXE {f : PS -> Int × PS} {op : Nat} (h : WfF f) (s0 : PS) : ∀ (k : Nat) (kids : List Int) (s : PS), 0 < k -> s.e = 0 -> wfK s.out 0 -> s0.out.length <= s.out.length -> (∀ x ∈ kids, 0 <= x ∧ x < (s.out.length : Int)) -> WfR s0 (jGG l f op k kids s)
 | 0, _, _, h, _, _, _, _ => absurd h (by omega)
 | k + 1, kids, s, _, he, hw, hl, hk => by
  have hg := h s he hw
  unfold jGG
  split
  ·rename_i h1; exact fun h => absurd h h1
  ·rename_i h1
   have h1' : (f s).2.e = 0 := by simpa using h1
   obtain ⟨g1, g2, g3, g4⟩ := hg h1'
   have hk2 : ∀ x ∈ kids ++ [(f s).1], 0 <= x ∧ x < ((f s).2.out.length : Int) := fun x hx => by
    rcases List.mem_append.1 hx with hx | hx
    ·have := hk x hx; omega
    ·rw [List.mem_singleton.1 hx]; exact ⟨g2, g3⟩
   split
   ·split
    ·exact jUI (fun _ => g1) (fun _ => by simp only [adv]; omega) (fun _ => hk2)
    ·exact jIQ h1' (by omega)
   ·split
    ·exact jXE h s0 k _ _ (by omega) h1' g1 (by simp only [adv]; omega) hk2
    ·exact jIQ h1' (by omega)
theorem kCY {jk : Bool} {f : PS -> Int × PS} (h : WfF f) : WfF (jBR nm l jk f) := by
 intro s he hw
 unfold jBR
 split
 ·exact jUI (fun _ => hw) (fun _ => Nat.le_refl _) (fun _ => by simp)
 ·split
  ·split
   ·unfold jIK
    split
    ·exact jIQ he (by omega)
    ·exact jXE h s _ _ _ (by unfold jMJ; split <;> omega) he hw (Nat.le_refl _) (by simp)
   ·exact jUI (fun _ => hw) (fun _ => Nat.le_refl _) (fun _ => by simp)
  ·split
   ·exact jIQ he (by omega)
   ·have hg := h (adv s 1) he hw
    split
    ·rename_i h1; exact fun h => absurd h h1
    ·rename_i h1
     have h1' : (f (adv s 1)).2.e = 0 := by simpa using h1
     split
     ·exact fun _ => hg h1'
     ·exact jIQ h1' (by omega)
theorem kA9 {f : PS -> Int × PS} {ops : List (Nat × List UInt8)} (h : WfF f) (s0 : PS) : ∀ (k : Nat) (n : Int) (s : PS), WfR s0 (n, s) -> WfR s0 (jG4 l f ops k n s)
 | 0, n, s, hr => hr
 | k + 1, n, s, hr => by
  unfold jG4
  split
  ·exact hr
  ·rename_i he
   have he' : s.e = 0 := by simpa using he
   split
   ·exact hr
   ·rename_i o ho
    obtain ⟨g1, g2, g3, g4⟩ := hr he'
    simp only at g1 g2 g3 g4
    have hg := h (adv s 1) he' g1
    refine kA9 h s0 k _ _ (jUI (fun h1 => (hg h1).1) (fun h1 => by have : s.out.length <= (f (adv s 1)).2.out.length := (hg h1).2.2.2; omega) (fun h1 x hx => ?_))
    obtain ⟨k1, k2, k3, k4⟩ := hg h1
    have k5 : s.out.length <= (f (adv s 1)).2.out.length := k4
    simp only [List.mem_cons, List.not_mem_nil, or_false] at hx
    rcases hx with rfl | rfl
    ·exact ⟨g2, by omega⟩
    ·exact ⟨k2, k3⟩
theorem kA7 {f : PS -> Int × PS} {ops : List (Nat × List UInt8)} (h : WfF f) : WfF (rowP l f ops) := fun s he hw => kA9 h s _ _ _ (h s he hw)
theorem jZ1 {jk : Bool} : ∀ k, WfF (sumP nm l jk k)
 | 0 => fun s he hw => jIQ he (by omega)
 | k + 1 => kA7 (kA7 (kCY (jZ1 k)))
end
def jCK (acc : List Int) : List Int -> Int -> Int
 | [], m => m
 | k :: ks, m => jCK acc ks (max m (acc.getD k.toNat 0))
def jA6 : List Nd -> List Int -> List Int
 | [], acc => acc
 | n :: ns, acc => jA6 ns (acc ++ [jCK acc n.kids 0 + 1])
def jER (l : List Nd) : Int := (jA6 l []).getD (l.length - 1) 0
theorem jL5 : ∀ (l : List Nd) (acc : List Int), (jA6 l acc).length = acc.length + l.length
 | [], acc => by simp [jA6]
 | n :: ns, acc => by rw [jA6, jL5 ns]; simp; omega
def jQP (acc : List Int) (N : Nat) : List PV := acc.map (PV.int .i64) ++ List.replicate (N - acc.length) (.int .i64 0)
def jU3 (acc : List Int) (m : Int) (N : Nat) : List PV := acc.map (PV.int .i64) ++ .int .i64 m :: List.replicate (N - acc.length - 1) (.int .i64 0)
theorem kGT {acc : List Int} {N : Nat} (h : acc.length < N) : jQP acc N = jU3 acc 0 N := by
 obtain ⟨d, hd⟩ : ∃ d, N - acc.length = d + 1 := ⟨N - acc.length - 1, by omega⟩
 simp [jQP, jU3, hd, List.replicate_succ]
theorem jU2 {acc : List Int} {m : Int} {N : Nat} (h : acc.length < N) : (jU3 acc m N).length = N := by simp [jU3]; omega
theorem jU1 {acc : List Int} {N : Nat} (h : acc.length <= N) : (jQP acc N).length = N := by simp [jQP]; omega
theorem kA8 (acc : List Int) (m : Int) (N : Nat) : (jU3 acc m N)[acc.length]? = some (.int .i64 m) := by simp [jU3]
theorem kH5 {acc : List Int} (m : Int) (N : Nat) {k : Nat} (h : k < acc.length) : (jU3 acc m N)[k]? = some (.int .i64 (acc.getD k 0)) := by
 simp [jU3, List.getElem?_append_left, h, List.getD]
theorem jTH {acc : List Int} (N : Nat) {k : Nat} (h : k < acc.length) : (jQP acc N)[k]? = some (.int .i64 (acc.getD k 0)) := by
 simp [jQP, List.getElem?_append_left, h, List.getD]
theorem jOT (acc : List Int) (m m' : Int) (N : Nat) : (jU3 acc m N).set acc.length (.int .i64 m') = jU3 acc m' N := by simp [jU3]
theorem kGV {acc : List Int} {m : Int} {N : Nat} : jU3 acc m N = jQP (acc ++ [m]) N := by
 simp only [jU3, jQP, List.map_append, List.map_cons, List.map_nil, List.append_assoc, List.length_append, List.length_cons, List.length_nil]
 rw [Nat.sub_add_eq]; rfl
theorem kFC {acc : List Int} {B : Int} (hB : ∀ x ∈ acc, 0 <= x ∧ x <= B) (h0 : 0 <= B) (k : Nat) : 0 <= acc.getD k 0 ∧ acc.getD k 0 <= B := by
 rw [List.getD_eq_getElem?_getD]
 cases hk : acc[k]? with
 | none => simpa using h0
 | some x => simpa using hB x (List.mem_of_getElem? hk)
def jVJ (nm : List UInt8 -> Int) (l : List Tok) (jk : Bool) : Except (Nat × Int) (List Nd) :=
 let r := (sumP nm l jk l.length ⟨0, 0, []⟩).2
 if r.e ≠ 0 then .error ((jB8 l r.at_).2.2, r.e)
 else if (jB8 l r.at_).1 ≠ 0 then .error ((jB8 l r.at_).2.2, 3)
 else if 256 < r.out.length then .error (0, 5)
 else if 16 < jER r.out then .error (0, 14)
 else .ok r.out
set_option maxHeartbeats 4000000
section
variable {G : jA3}
theorem jAB.shelf {P : Program} {G : jA3} {f : Nat} {as_ : List PV} {res : PV} {va : Array Value} {v : Value}
 (hva : ∀ w ex vs, jUC w ex vs as_ -> vs = va) (hv : ∀ w ex, jAW w ex v res) (h : ∀ w, Calls P f va w fun e w' => e = .returned v ∧ w' = w) : jAB P G f as_ res := by
 intro w ex vs _ _ hr
 rw [hva w ex vs hr]
 refine (h w).mono ?_
 rintro e w' ⟨rfl, rfl⟩
 exact ⟨v, rfl, RowKit.Below.refl _ _, hv _ _⟩
theorem jOZ {w ex vs} {s : List UInt8} {k : IntKind} {c : Int} (h : jUC w ex vs [.str s, .int k c]) : vs = #[.string ⟨⟨s⟩⟩, .int k c] := by
 obtain ⟨hs, hr⟩ := h
 obtain ⟨l⟩ := vs
 match l, hs with
 | [x, y], _ =>
  have h0 := hr 0 x _ rfl rfl
  have h1 := hr 1 y _ rfl rfl
  cases h0; cases h1; rfl
theorem jOY {w ex vs} {s t : List UInt8} (h : jUC w ex vs [.str s, .str t]) : vs = #[.string ⟨⟨s⟩⟩, .string ⟨⟨t⟩⟩] := by
 obtain ⟨hs, hr⟩ := h
 obtain ⟨l⟩ := vs
 match l, hs with
 | [x, y], _ =>
  have h0 := hr 0 x _ rfl rfl
  have h1 := hr 1 y _ rfl rfl
  cases h0; cases h1; rfl
theorem kQ2 (s : ByteArray) (c : Int) (w : World) :
  Calls Tryz.prog 95 #[.string s, .int .u8 c] w fun e w' => e = .returned (.int .i64 (Lib.indexByte s.data.toList c.toNat.toUInt8)) ∧ w' = w := by
 go_enter Tryz.func95, Tryz.ntmps95
 go_wp2
 rw [run_callFunc_extern Tryz.func113 (by kernel_rfl) (by kernel_rfl) (by kernel_rfl) (e := Extern.BytealgIndexByte.indexByte) (by kernel_rfl), Lib.run_indexByteString]
 simp only [Result.andThen]
 rw [Oper.upon_value]
 go_wp2
 go_ret
 exact ⟨rfl, rfl⟩
theorem w48 (s : ByteArray) (c : UInt8) (w : World) :
  Calls Tryz.prog 97 #[.string s, .string ⟨#[c]⟩] w fun e w' => e = .returned (.int .i64 (Lib.countByte s.data.toList c)) ∧ w' = w := by
 go_enter Tryz.func97, Tryz.ntmps97
 go_wp2
 rw [run_callFunc_extern Tryz.func115 (by kernel_rfl) (by kernel_rfl) (by kernel_rfl) (e := Extern.BytealgCount.count) (by kernel_rfl), Lib.run_countString]
 simp only [Result.andThen]
 rw [Oper.upon_value]
 go_wp2
 go_ret
 exact ⟨rfl, rfl⟩
theorem V95 (s : List UInt8) (b : UInt8) : jAB Tryz.prog G 95 [.str s, .int .u8 b.toNat] (.int .i64 (Lib.indexByte s b)) := by
 refine jAB.shelf (fun w ex vs h => jOZ h) (fun w ex => .int _ _) (fun w => ?_)
 have h := kQ2 ⟨⟨s⟩⟩ (b.toNat : Int) w
 simpa using h
theorem V97 (s : List UInt8) (b : UInt8) : jAB Tryz.prog G 97 [.str s, .str [b]] (.int .i64 (Lib.countByte s b)) := by
 exact jAB.shelf (fun w ex vs h => jOY h) (fun w ex => .int _ _) (fun w => w48 ⟨⟨s⟩⟩ b w)
theorem E97 : Ent Tryz.prog 97 := ⟨Tryz.f97, Tryz.func97, by kernel_rfl, by kernel_rfl⟩
theorem E95 : Ent Tryz.prog 95 := ⟨Tryz.f95, Tryz.func95, by kernel_rfl, by kernel_rfl⟩
theorem kR6 : Ent Tryz.prog 122 := ⟨Tryz.f122, Tryz.func122, by kernel_rfl, by kernel_rfl⟩
theorem kR7 : Ent Tryz.prog 121 := ⟨Tryz.f121, Tryz.func121, by kernel_rfl, by kernel_rfl⟩
theorem kR9 : Ent Tryz.prog 112 := ⟨Tryz.f112, Tryz.func112, by kernel_rfl, by kernel_rfl⟩
theorem E68 : Ent Tryz.prog 68 := ⟨Tryz.f68, Tryz.func68, by kernel_rfl, by kernel_rfl⟩
theorem len1 (b : UInt8) : (([b].length : Nat) : Int) = 1 := rfl
theorem d10 : decide ((1 : Int) = 0) = false := rfl
theorem d11 : decide ((1 : Int) = 1) = true := rfl
theorem zt : (0 : Int).toNat = 0 := rfl
theorem jR9 (b : UInt8) (l : List UInt8) : (b :: l).getD 0 0 = b := rfl
theorem kRZ (s : List UInt8) (b : UInt8) : jAB Tryz.prog G 122 [.str s, .str [b]] (.int .i64 (Lib.indexByte s b)) := by
 refine jAB.jAT Tryz.func122 kRC mix (by simp [kPO]) ?_
 simp only [kPO, jFZ, CC, jBW]
 repeat' (first | exact clo | (refine sqI ?_; intros) | refine stp ?_ | (refine cnd rfl ?_ ?_ <;> intro hcond <;> (try contradiction) <;> try simp only [DD] at hcond) | (apply jAO E95; (case hV => (simp only [len1, d10, d11, zt, jR9, Bool.not_false, Bool.not_true, SA, reduceAdd, reduceIte, reduceEqDiff, Nat.reduceBEq, reduceCtorEq]; (try go_unwrap; try simp only [len1, d10, d11, zt, jR9, Bool.not_false, Bool.not_true, RR, reduceCtorEq]); exact V95 _ _)); (try (case hs => rfl)); (try (case hf => first | exact Or.inl rfl | exact Or.inr ⟨rfl, rfl⟩ | (refine Or.inl ?_; simp only [len1, d10, d11, zt, jR9, Bool.not_false, Bool.not_true, SA, reduceAdd, reduceIte, reduceEqDiff, Nat.reduceBEq, reduceCtorEq]; done) | (refine Or.inr ⟨rfl, ?_⟩; simp only [len1, d10, d11, zt, jR9, Bool.not_false, Bool.not_true, SA, reduceAdd, reduceIte, reduceEqDiff, Nat.reduceBEq, reduceCtorEq]; done))); all_goals (first | (simp only [len1, d10, d11, zt, jR9, Bool.not_false, Bool.not_true, SA, reduceAdd, reduceIte, reduceEqDiff, Nat.reduceBEq, reduceCtorEq]; (try go_unwrap; try simp only [len1, d10, d11, zt, jR9, Bool.not_false, Bool.not_true, RR, reduceCtorEq])) | (show Env; skip) | (show Mem; skip))) | (refine jAG ?_; intro hg; try simp only [hg]) | (refine saI ?_ ?_; intros) | (refine ari ?_; first | omega | (simp only [DD, LL] <;> omega) | (go_unwrap; omega) | (simp only [DD] at hg; omega)) | (refine stq ?_; focus (simp only [len1, d10, d11, zt, jR9, Bool.not_false, Bool.not_true, SA, reduceAdd, reduceIte, reduceEqDiff, Nat.reduceBEq, reduceCtorEq]; (try go_unwrap; try simp only [len1, d10, d11, zt, jR9, Bool.not_false, Bool.not_true, RR, reduceCtorEq]))) | refine And.intro ?_ ?_)
 ·try simp only [Bool.false_or, decide_eq_true_eq] at hcond
  simp [<- hcond, Lib.indexByte]
def jJW (s : List UInt8) (b : UInt8) : List UInt8 × List UInt8 × Bool :=
  if 0 <= Lib.indexByte s b then (s.take (Lib.indexByte s b).toNat, s.drop ((Lib.indexByte s b).toNat + 1), true) else (s, [], false)
theorem indexByte_lt (s : List UInt8) (b : UInt8) : Lib.indexByte s b < s.length := by
 induction s with
 | nil => simp [Lib.indexByte]
 | cons x l ih =>
  unfold Lib.indexByte
  simp only [List.length_cons]
  split
  ·omega
  ·split <;> omega
theorem kR0 (s : List UInt8) (b : UInt8) (hs : s.length <= 9223372036854775806) : jAB Tryz.prog G 121 [.str s, .str [b]] (.tup [.str (jJW s b).1, .str (jJW s b).2.1, .bool (jJW s b).2.2]) := by
 refine jAB.jAT Tryz.func121 kRD mix (by simp [kPP]) ?_
 have h1 := indexByte_lt s b
 simp only [kPP, kKB, CC, jBW]
 repeat' (first | exact clo | (refine sqI ?_; intros) | refine stp ?_ | (refine cnd rfl ?_ ?_ <;> intro hcond <;> (try contradiction) <;> try simp only [DD] at hcond) | (apply jAO kR6; (case hV => (simp only [len1, SA, reduceAdd, reduceIte, reduceEqDiff, Nat.reduceBEq, reduceCtorEq]; (try go_unwrap; try simp only [len1, RR, reduceCtorEq]); exact kRZ _ _)); (try (case hs => rfl)); (try (case hf => first | exact Or.inl rfl | exact Or.inr ⟨rfl, rfl⟩ | (refine Or.inl ?_; simp only [len1, SA, reduceAdd, reduceIte, reduceEqDiff, Nat.reduceBEq, reduceCtorEq]; done) | (refine Or.inr ⟨rfl, ?_⟩; simp only [len1, SA, reduceAdd, reduceIte, reduceEqDiff, Nat.reduceBEq, reduceCtorEq]; done))); all_goals (first | (simp only [len1, SA, reduceAdd, reduceIte, reduceEqDiff, Nat.reduceBEq, reduceCtorEq]; (try go_unwrap; try simp only [len1, RR, reduceCtorEq])) | (show Env; skip) | (show Mem; skip))) | (refine jAG ?_; intro hg; try simp only [hg]) | (refine saI ?_ ?_; intros) | (refine ari ?_; first | omega | (simp only [DD, LL] <;> omega) | (go_unwrap; omega) | (simp only [DD] at hg; omega)) | (refine stq ?_; focus (simp only [len1, SA, reduceAdd, reduceIte, reduceEqDiff, Nat.reduceBEq, reduceCtorEq]; (try go_unwrap; try simp only [len1, RR, reduceCtorEq]))) | refine And.intro ?_ ?_)
 all_goals (try simp only [decide_eq_true_eq, decide_eq_false_iff_not] at hcond)
 all_goals (try simp only [jJW, hcond, if_true, if_false])
 all_goals (try go_unwrap)
 all_goals try (go_unwrap; omega)
 rw [show (Lib.indexByte s b + 1).toNat = (Lib.indexByte s b).toNat + 1 by omega]
theorem kR2 (s : List UInt8) (b : UInt8) (hs : s.length <= 9223372036854775806) : jAB Tryz.prog G 112 [.str s, .str [b]] (.tup [.str (jJW s b).1, .str (jJW s b).2.1, .bool (jJW s b).2.2]) := by
 refine jAB.jAT Tryz.func112 kRF mix (by simp [kPR]) ?_
 simp only [kPR, kN5, CC, jBW]
 repeat' (first | exact clo | (refine sqI ?_; intros) | refine stp ?_ | (refine cnd rfl ?_ ?_ <;> intro hcond <;> (try contradiction) <;> try simp only [DD] at hcond) | (apply jAO kR7; (case hV => (simp only [SA, reduceAdd, reduceIte, reduceEqDiff, Nat.reduceBEq, reduceCtorEq]; (try go_unwrap; try simp only [RR, reduceCtorEq]); exact kR0 _ _ hs)); (try (case hs => rfl)); (try (case hf => first | exact Or.inl rfl | exact Or.inr ⟨rfl, rfl⟩ | (refine Or.inl ?_; simp only [SA, reduceAdd, reduceIte, reduceEqDiff, Nat.reduceBEq, reduceCtorEq]; done) | (refine Or.inr ⟨rfl, ?_⟩; simp only [SA, reduceAdd, reduceIte, reduceEqDiff, Nat.reduceBEq, reduceCtorEq]; done))); all_goals (first | (simp only [SA, reduceAdd, reduceIte, reduceEqDiff, Nat.reduceBEq, reduceCtorEq]; (try go_unwrap; try simp only [RR, reduceCtorEq])) | (show Env; skip) | (show Mem; skip))) | (refine jAG ?_; intro hg; try simp only [hg]) | (refine saI ?_ ?_; intros) | (refine ari ?_; first | omega | (simp only [DD, LL] <;> omega) | (go_unwrap; omega) | (simp only [DD] at hg; omega)) | (refine stq ?_; focus (simp only [SA, reduceAdd, reduceIte, reduceEqDiff, Nat.reduceBEq, reduceCtorEq]; (try go_unwrap; try simp only [RR, reduceCtorEq]))) | refine And.intro ?_ ?_)
theorem V68 (s : List UInt8) (b : UInt8) : jAB Tryz.prog G 68 [.str s, .int .u8 b.toNat] (.int .i64 (Lib.indexByte s b)) := by
 refine jAB.jAT Tryz.func68 k68 mix (by simp [c68]) ?_
 simp only [c68, L68, CC, jBW]
 repeat' (first | exact clo | (refine sqI ?_; intros) | refine stp ?_ | (refine cnd rfl ?_ ?_ <;> intro hcond <;> (try contradiction) <;> try simp only [DD] at hcond) | (apply jAO E95; (case hV => (simp only [SA, reduceAdd, reduceIte, reduceEqDiff, Nat.reduceBEq, reduceCtorEq]; (try go_unwrap; try simp only [RR, reduceCtorEq]); exact V95 _ _)); (try (case hs => rfl)); (try (case hf => first | exact Or.inl rfl | exact Or.inr ⟨rfl, rfl⟩ | (refine Or.inl ?_; simp only [SA, reduceAdd, reduceIte, reduceEqDiff, Nat.reduceBEq, reduceCtorEq]; done) | (refine Or.inr ⟨rfl, ?_⟩; simp only [SA, reduceAdd, reduceIte, reduceEqDiff, Nat.reduceBEq, reduceCtorEq]; done))); all_goals (first | (simp only [SA, reduceAdd, reduceIte, reduceEqDiff, Nat.reduceBEq, reduceCtorEq]; (try go_unwrap; try simp only [RR, reduceCtorEq])) | (show Env; skip) | (show Mem; skip))) | (refine jAG ?_; intro hg; try simp only [hg]) | (refine saI ?_ ?_; intros) | (refine ari ?_; first | omega | (simp only [DD, LL] <;> omega) | (go_unwrap; omega) | (simp only [DD] at hg; omega)) | (refine stq ?_; focus (simp only [SA, reduceAdd, reduceIte, reduceEqDiff, Nat.reduceBEq, reduceCtorEq]; (try go_unwrap; try simp only [RR, reduceCtorEq]))) | refine And.intro ?_ ?_)
def signs : List UInt8 := [43, 45, 42, 40, 41, 44, 60, 61]
def jXV (b : UInt8) : Bool := signs.contains b
end
section
variable {G : jA3}
theorem E94 : Ent Tryz.prog 94 := ⟨Tryz.f94, Tryz.func94, by kernel_rfl, by kernel_rfl⟩
def jXD : Nat -> List UInt8 -> Nat
  | n, [] => n
  | n, b :: l => if 10 * n + (b - 48).toNat > 1000000000000 then jXD 1000000000001 l else jXD (10 * n + (b - 48).toNat) l
def kD1 : Nat -> List UInt8 -> Option Nat
 | n, [] => some n
 | n, b :: l => if 10 * n + (b - 48).toNat > 1000000000000 then none else kD1 (10 * n + (b - 48).toNat) l
def jC1 : Nat -> List UInt8 -> Nat
 | _, [] => 0
 | u, b :: l => u * (b - 48).toNat + jC1 (u / 10) l
theorem kEV (u : Nat) (l : List UInt8) : jC1 u l <= 284 * u := by
 induction l generalizing u with
 | nil => simp [jC1]
 | cons b l ih =>
  have h := ih (u / 10)
  have h1 : (b - 48).toNat <= 255 := by have := (b - 48).toNat_lt; omega
  have h2 : u * (b - 48).toNat <= u * 255 := Nat.mul_le_mul_left u h1
  simp only [jC1]
  omega
theorem kDO (l : List UInt8) : jXD 1000000000001 l = 1000000000001 := by
 induction l with
 | nil => rfl
 | cons b l ih => simp only [jXD]; rw [if_pos (by omega)]; exact ih
theorem kB7 {n : Nat} {l : List UInt8} (h : n <= 1000000000000) : (kD1 n l = none ∧ jXD n l = 1000000000001) ∨ (∃ m, kD1 n l = some m ∧ jXD n l = m ∧ m <= 1000000000000) := by
 induction l generalizing n with
 | nil => exact .inr ⟨n, rfl, rfl, h⟩
 | cons b l ih =>
  simp only [kD1, jXD]
  split
  ·exact .inl ⟨rfl, kDO l⟩
  ·exact ih (by omega)
def jS5 (w r : List UInt8) : Nat := jXD 0 w * 1000000 + jC1 100000 r
def kND (s : List UInt8) : PV :=
 match kD1 0 (jJW s 46).1 with
 | none => .tup [.int .i64 0, .bool false]
 | some n => if n = 1000000000000 ∧ 0 < jC1 100000 (jJW s 46).2.1 then .tup [.int .i64 0, .bool false] else .tup [.int .i64 (n * 1000000 + jC1 100000 (jJW s 46).2.1 : Nat), .bool true]
theorem drop_cons {s : List UInt8} {i : Nat} (h : i < s.length) : s.drop i = s.getD i 0 :: s.drop (i + 1) := by
 rw [List.drop_eq_getElem_cons h]
 simp [List.getD, h]
theorem V94 (s : List UInt8) (hs : s.length <= 9223372036854775806) : jAB Tryz.prog G 94 [.str s] (kND s) := by
 refine jAB.jAT Tryz.func94 k94 mix (by simp [c94]) ?_
 have hcut : (jJW s 46).1.length <= s.length ∧ (jJW s 46).2.1.length <= s.length := by
  unfold jJW
  split
  ·simp; omega
  ·simp
 have hv : ∀ x y, (jJW s 46).1 = x -> (jJW s 46).2.1 = y -> kND s = (match kD1 0 x with
   | none => .tup [.int .i64 0, .bool false]
   | some n => if n = 1000000000000 ∧ 0 < jC1 100000 y then .tup [.int .i64 0, .bool false] else .tup [.int .i64 (n * 1000000 + jC1 100000 y : Nat), .bool true]) := by
  rintro x y rfl rfl; rfl
 have hcall := kR2 (G := G) s 46 hs
 generalize (jJW s 46).1 = w at *
 generalize (jJW s 46).2.1 = r at *
 generalize (jJW s 46).2.2 = fd at *
 rw [hv w r rfl rfl]
 simp only [c94, L94, CC, jBW]
 repeat' (first | exact clo | (refine sqI ?_; intros) | refine stp ?_ | (refine cnd rfl ?_ ?_ <;> intro hcond <;> (try contradiction) <;> try simp only [DD] at hcond) | (refine jAG ?_; intro hg; try simp only [hg]) | refine jAA kR9 (hcall) ?_ ?_ ?_ ?_ | (refine saI ?_ ?_; intros) | (refine ari ?_; first | omega | (simp only [DD, LL] <;> omega) | (go_unwrap; omega) | (simp only [DD] at hg; omega)) | (refine stq ?_; focus (simp only [SA, reduceAdd, reduceIte, reduceEqDiff, Nat.reduceBEq, reduceCtorEq]; (try go_unwrap; try simp only [RR, reduceCtorEq]))) | refine And.intro ?_ ?_)
 refine PW.loop (σ := Nat × Nat) [5, 7, 20, 21, 22] (fun j => [.str r, .int .i64 j.2, .list none (u8s w), .int .i64 w.length, .int .i64 j.1]) (fun _ => []) (fun j => j.1 <= w.length ∧ j.2 <= 1000000000000 ∧ kD1 0 w = kD1 j.2 (w.drop j.1)) (fun j => w.length - j.1) (0, 0) ?_ rfl ⟨by simp, by simp, by simp⟩ ?_
 ·simp only [SA, reduceAdd, reduceIte, reduceEqDiff, Nat.reduceBEq, reduceCtorEq]; rfl
 rintro ⟨j, n⟩ ⟨hj, hn, hc⟩
 simp only at hj hn hc
 simp only [List.zip_cons_cons, List.zip_nil_left]
 rcases Nat.lt_or_ge j w.length with hlt | hlt
 ·have hd : decide ((j : Int) < w.length) = true := by simp only [decide_eq_true_eq]; omega
  have hb : (w.getD j 0 - 48).toNat < 256 := UInt8.toNat_lt _
  have hx := kEI w j hlt
  rw [drop_cons hlt, kD1] at hc
  repeat' (first | exact clo | (refine sqI ?_; intros) | refine stp ?_ | (refine cnd rfl ?_ ?_ <;> intro hcond <;> (try contradiction) <;> try simp only [DD] at hcond) | (refine jAG ?_; intro hg; try simp only [hg]) | (refine saI ?_ ?_; intros) | (refine ari ?_; first | omega | (simp only [DD, LL] <;> omega) | (go_unwrap; omega) | (simp only [DD] at hg; omega)) | (refine stq ?_; focus (simp only [hd, hx, SA, reduceAdd, reduceIte, reduceEqDiff, Nat.reduceBEq, reduceCtorEq]; (try go_unwrap; try simp only [hd, hx, RR, reduceCtorEq]))) | refine And.intro ?_ ?_)
  ·rw [if_pos (by omega)] at hc
   rw [hc]
  ·rw [if_neg (by omega)] at hc
   exact ⟨(j + 1, 10 * n + (w.getD j 0 - 48).toNat), rfl, ⟨hlt, by simp only; omega, hc⟩, by simp only; omega⟩
 ·have hd : decide ((j : Int) < w.length) = false := by simp only [decide_eq_false_iff_not]; omega
  rw [List.drop_eq_nil_of_le hlt, kD1] at hc
  rw [hc]
  repeat' (first | exact clo | (refine sqI ?_; intros) | refine stp ?_ | (refine cnd rfl ?_ ?_ <;> intro hcond <;> (try contradiction) <;> try simp only [DD] at hcond) | (refine jAG ?_; intro hg; try simp only [hg]) | (refine saI ?_ ?_; intros) | (refine ari ?_; first | omega | (simp only [DD, LL] <;> omega) | (go_unwrap; omega) | (simp only [DD] at hg; omega)) | (refine stq ?_; focus (simp only [hd, SA, reduceAdd, reduceIte, reduceEqDiff, Nat.reduceBEq, reduceCtorEq]; (try go_unwrap; try simp only [hd, RR, reduceCtorEq]))) | refine And.intro ?_ ?_)
  have hp := kEV 100000 r
  refine PW.loop (σ := Nat × Nat × Nat) [5, 7, 10, 11, 12] (fun j => [.str r, .int .i64 n, .int .i64 j.2.1, .int .i64 j.1, .int .i64 j.2.2]) (fun _ => []) (fun j => j.1 <= r.length ∧ j.2.2 <= 100000 ∧ j.2.1 + jC1 j.2.2 (r.drop j.1) = jC1 100000 r) (fun j => r.length - j.1) (0, 0, 100000) ?_ rfl ⟨by simp, by simp, by simp⟩ ?_
  ·simp only [SA, reduceAdd, reduceIte, reduceEqDiff, Nat.reduceBEq, reduceCtorEq]; rfl
  rintro ⟨i, m, u⟩ ⟨hi, hu, hm⟩
  simp only at hi hu hm
  simp only [List.zip_cons_cons, List.zip_nil_left]
  rcases Nat.lt_or_ge i r.length with hlt' | hlt'
  ·have hd' : decide ((i : Int) < r.length) = true := by simp only [decide_eq_true_eq]; omega
   rw [drop_cons hlt', jC1] at hm
   have h0 : ((u : Int) * ((r.getD i 0 - 48).toNat : Int)) = ((u * (r.getD i 0 - 48).toNat : Nat) : Int) := by rw [Int.natCast_mul]
   have h1 : u * (r.getD i 0 - 48).toNat <= 28400000 := by omega
   generalize hz : u * (r.getD i 0 - 48).toNat = z at *
   repeat' (first | exact clo | (refine sqI ?_; intros) | refine stp ?_ | (refine cnd rfl ?_ ?_ <;> intro hcond <;> (try contradiction) <;> try simp only [DD] at hcond) | (refine jAG ?_; intro hg; try simp only [hg]) | (refine saI ?_ ?_; intros) | (refine ari ?_; first | omega | (simp only [DD, LL] <;> omega) | (go_unwrap; omega) | (simp only [DD] at hg; omega)) | (refine stq ?_; focus (simp only [hd', h0, kGK, SA, reduceAdd, reduceIte, reduceEqDiff, Nat.reduceBEq, reduceCtorEq]; (try go_unwrap; try simp only [hd', h0, kGK, RR, reduceCtorEq]))) | refine And.intro ?_ ?_)
   exact ⟨(i + 1, m + z, u / 10), rfl, ⟨hlt', by simp only; omega, by simp only; omega⟩, by simp only; omega⟩
  ·have hd' : decide ((i : Int) < r.length) = false := by simp only [decide_eq_false_iff_not]; omega
   rw [List.drop_eq_nil_of_le hlt', jC1] at hm
   repeat' (first | exact clo | (refine sqI ?_; intros) | refine stp ?_ | (refine cnd rfl ?_ ?_ <;> intro hcond <;> (try contradiction) <;> try simp only [DD] at hcond) | (refine jAG ?_; intro hg; try simp only [hg]) | (refine saI ?_ ?_; intros) | (refine ari ?_; first | omega | (simp only [DD, LL] <;> omega) | (go_unwrap; omega) | (simp only [DD] at hg; omega)) | (refine stq ?_; focus (simp only [hd', SA, reduceAdd, reduceIte, reduceEqDiff, Nat.reduceBEq, reduceCtorEq]; (try go_unwrap; try simp only [hd', RR, reduceCtorEq]))) | refine And.intro ?_ ?_)
   ·simp only [Bool.and_eq_true, decide_eq_true_eq] at hcond
    simp only [hc]
    rw [if_pos ⟨by omega, by omega⟩]
   ·simp only [Bool.and_eq_false_iff, decide_eq_false_iff_not] at hcond
    simp only [hc]
    rw [if_neg (by omega)]
    rw [<- hm]; rfl
end
section
variable {G : jA3}
theorem E67 : Ent Tryz.prog 67 := ⟨Tryz.f67, Tryz.func67, by kernel_rfl, by kernel_rfl⟩
theorem E65 : Ent Tryz.prog 65 := ⟨Tryz.f65, Tryz.func65, by kernel_rfl, by kernel_rfl⟩
theorem E45 : Ent Tryz.prog 45 := ⟨Tryz.f45, Tryz.func45, by kernel_rfl, by kernel_rfl⟩
theorem E15 : Ent Tryz.prog 15 := ⟨Tryz.f15, Tryz.func15, by kernel_rfl, by kernel_rfl⟩
theorem jJI (u : Nat) (l : List UInt8) : jC1 u (l.take (jA8 jAE l)) <= 10 * u - 1 := by
 induction l generalizing u with
 | nil => simp [jA8, jC1]
 | cons b l ih =>
  by_cases hb : jAE b = true
  ·have h := ih (u / 10)
   have h1 : (b - 48).toNat <= 9 := by
    simp only [jAE, Bool.and_eq_true, decide_eq_true_eq] at hb
    rw [UInt8.toNat_sub]
    have := b.toNat_lt
    simp; omega
   have h2 : u * (b - 48).toNat <= u * 9 := Nat.mul_le_mul_left u h1
   simp only [jA8, hb, if_true, List.take_succ_cons, jC1]
   omega
  ·simp [jA8, hb, jC1]
theorem jZM {t w r : List UInt8} {b : Bool} (h : jJW t 46 = (w, r, b)) (hp : jC1 100000 r <= 999999) :
  ∃ a : Int, kND t = .tup [.int .i64 a, .bool (decide (jS5 w r <= 1000000000000000000))] ∧ (jS5 w r <= 1000000000000000000 -> a = (jS5 w r : Int)) := by
 unfold kND jS5
 rw [h]
 rcases kB7 (n := 0) (l := w) (by omega) with ⟨h1, h2⟩ | ⟨m, h1, h2, h3⟩
 ·simp only [h1, h2]
  exact ⟨0, by rw [decide_eq_false (by omega)], fun h => by omega⟩
 ·simp only [h1, h2]
  split
  ·exact ⟨0, by rw [decide_eq_false (by omega)], fun h => by omega⟩
  ·exact ⟨_, by rw [decide_eq_true (by omega)], fun h => rfl⟩
theorem jW8 {b : UInt8} (h : jAE b = true) : (b == 46) = false := by
 rw [beq_eq_false_iff_ne]
 rintro rfl
 exact absurd h (by decide)
theorem kCB {l r : List UInt8} : Lib.indexByte (l.take (jA8 jAE l) ++ 46 :: r) 46 = jA8 jAE l := by
 induction l with
 | nil => simp [jA8, Lib.indexByte]
 | cons b l ih =>
  by_cases hb : jAE b = true
  ·have h1 := jW8 hb
   simp only [jA8, hb, if_true, List.take_succ_cons, List.cons_append, Lib.indexByte, h1, ih, Bool.false_eq_true, if_false]
   have : ((jA8 jAE l : Int) == -1) = false := by rw [beq_eq_false_iff_ne]; omega
   rw [this]; simp
  ·simp [jA8, hb, Lib.indexByte]
theorem jYW {l : List UInt8} : Lib.indexByte (l.take (jA8 jAE l)) 46 = -1 := by
 induction l with
 | nil => simp [jA8, Lib.indexByte]
 | cons b l ih =>
  by_cases hb : jAE b = true
  ·have h1 := jW8 hb
   simp only [jA8, hb, if_true, List.take_succ_cons, Lib.indexByte, h1, ih, Bool.false_eq_true, if_false]
   rfl
  ·simp [jA8, hb, Lib.indexByte]
theorem jXB (l : List UInt8) : jJW (l.take (jA8 jAE l)) 46 = (l.take (jA8 jAE l), [], false) := by
 unfold jJW; rw [jYW]; rfl
theorem jXA (l r : List UInt8) : jJW (l.take (jA8 jAE l) ++ 46 :: r) 46 = (l.take (jA8 jAE l), r, true) := by
 unfold jJW; rw [kCB]
 have h1 := jDH jAE l
 have hl : (l.take (jA8 jAE l)).length = jA8 jAE l := by rw [List.length_take]; omega
 rw [if_pos (by omega), Int.toNat_natCast]
 congr 1
 ·rw [List.take_append_of_le_length (by omega), List.take_of_length_le (by omega)]
 ·congr 1
  rw [List.drop_append]
  rw [List.drop_eq_nil_of_le (by omega), hl, Nat.add_sub_cancel_left]
  rfl
def jHE (l : List UInt8) : Except (Nat × Nat) (Nat × Nat) :=
 if jA8 jAE l < l.length ∧ l.getD (jA8 jAE l) 0 = 46 then
  if jA8 jAE (l.drop (jA8 jAE l + 1)) = 0 then .error (jA8 jAE l, 3)
  else if 4 < jA8 jAE (l.drop (jA8 jAE l + 1)) then .error (jA8 jAE l + 5, 3)
  else if jS5 (l.take (jA8 jAE l)) ((l.drop (jA8 jAE l + 1)).take (jA8 jAE (l.drop (jA8 jAE l + 1)))) <= 1000000000000000000 then
   .ok (jA8 jAE l + 1 + jA8 jAE (l.drop (jA8 jAE l + 1)), jS5 (l.take (jA8 jAE l)) ((l.drop (jA8 jAE l + 1)).take (jA8 jAE (l.drop (jA8 jAE l + 1)))))
   else .error (0, 2)
 else if jS5 (l.take (jA8 jAE l)) [] <= 1000000000000000000 then .ok (jA8 jAE l, jS5 (l.take (jA8 jAE l)) []) else .error (0, 2)
def jNS (a : Nat) : Except (Nat × Nat) (Nat × Nat) -> PV
 | .error (o, e) => .tup [.int .i64 0, .int .i64 (a + o : Nat), .int .i64 e]
 | .ok (n, _) => .tup [.int .i64 n, .int .i64 0, .int .i64 0]
theorem take_split {l : List UInt8} {n k : Nat} (h : n < l.length) (hb : l.getD n 0 = 46) : l.take (n + 1 + k) = l.take n ++ 46 :: (l.drop (n + 1)).take k := by
 rw [show n + 1 + k = n + (1 + k) by omega, List.take_add, drop_cons h, hb, show 1 + k = k + 1 by omega, List.take_succ_cons]
theorem V67 (s : List UInt8) (at_ : Nat) (hs : s.length <= 9223372036854775800) (hat : at_ <= s.length) : jAB Tryz.prog G 67 [.str s, .int .i64 at_] (jNS at_ (jHE (s.drop at_))) := by
 refine jAB.jAT Tryz.func67 k67 mix (by simp [c67]) ?_
 have h21 := V89 (G := G) s at_ 66 jAE (by omega) hat E66 V66
 have h0 : jA8 jAE (s.drop at_) <= (s.drop at_).length := jDH _ _
 have hl : (s.drop at_).length = s.length - at_ := List.length_drop
 have hg : (s.drop at_).getD (jA8 jAE (s.drop at_)) 0 = s.getD (at_ + jA8 jAE (s.drop at_)) 0 := by simp [List.getD]
 have c0 := jXB (s.drop at_)
 have c1 := jXA (s.drop at_)
 unfold jHE
 have hdd : (s.drop at_).drop (jA8 jAE (s.drop at_) + 1) = s.drop (at_ + (jA8 jAE (s.drop at_) + 1)) := by rw [List.drop_drop]
 have h24 : ∀ t w r b, jJW t 46 = (w, r, b) -> jC1 100000 r <= 999999 -> t.length <= s.length -> ∃ a : Int, ∀ t', t' = t -> jAB Tryz.prog G 94 [.str t'] (.tup [.int .i64 a, .bool (decide (jS5 w r <= 1000000000000000000))]) := by
  intro t w r b hc hr ht
  obtain ⟨a, h1, -⟩ := jZM hc hr
  exact ⟨a, by rintro _ rfl; rw [<- h1]; exact V94 _ (by omega)⟩
 generalize hn : jA8 jAE (s.drop at_) = n at *
 by_cases hp : n < (s.drop at_).length ∧ (s.drop at_).getD n 0 = 46
 ·rw [if_pos hp]
  have hd1 : decide ((at_ : Int) + n < s.length) = true := by simp only [decide_eq_true_eq]; omega
  have hd2 : decide (((s.getD (at_ + n) 0).toNat : Int) = 46) = true := by rw [<- hg, hp.2]; rfl
  have kQG := V89 (G := G) s (at_ + n + 1) 66 jAE (by omega) (by omega) E66 V66
  rw [hdd]
  rw [show at_ + n + 1 = at_ + (n + 1) by omega] at kQG
  have h3 : jA8 jAE (s.drop (at_ + (n + 1))) <= (s.drop (at_ + (n + 1))).length := jDH _ _
  rw [List.length_drop] at h3
  obtain ⟨a, kN0⟩ := h24 _ _ _ _ (c1 ((s.drop (at_ + (n + 1))).take (jA8 jAE (s.drop (at_ + (n + 1)))))) (jJI _ _) (by simp; omega)
  have ht := take_split (k := jA8 jAE (s.drop (at_ + (n + 1)))) hp.1 hp.2
  rw [hdd] at ht
  rw [<- ht] at kN0
  generalize jA8 jAE (s.drop (at_ + (n + 1))) = k at *
  generalize jS5 (List.take n (List.drop at_ s)) (List.take k (List.drop (at_ + (n + 1)) s)) = v at *
  simp only [c67, L67, CC, jBW]
  repeat' (first | exact clo | (refine sqI ?_; intros) | refine stp ?_ | (refine cnd rfl ?_ ?_ <;> intro hcond <;> (try contradiction) <;> try simp only [DD] at hcond) | (apply jAO E89; (case hV => (simp only [hd1, hd2, SA, reduceAdd, reduceIte, reduceEqDiff, Nat.reduceBEq, reduceCtorEq]; (try go_unwrap; try simp only [hd1, hd2, RR, reduceCtorEq]); exact h21)); (try (case hs => rfl)); (try (case hf => first | exact Or.inl rfl | exact Or.inr ⟨rfl, rfl⟩ | (refine Or.inl ?_; simp only [hd1, hd2, SA, reduceAdd, reduceIte, reduceEqDiff, Nat.reduceBEq, reduceCtorEq]; done) | (refine Or.inr ⟨rfl, ?_⟩; simp only [hd1, hd2, SA, reduceAdd, reduceIte, reduceEqDiff, Nat.reduceBEq, reduceCtorEq]; done))); all_goals (first | (simp only [hd1, hd2, SA, reduceAdd, reduceIte, reduceEqDiff, Nat.reduceBEq, reduceCtorEq]; (try go_unwrap; try simp only [hd1, hd2, RR, reduceCtorEq])) | (show Env; skip) | (show Mem; skip))) | (apply jAO E89; (case hV => (simp only [hd1, hd2, SA, reduceAdd, reduceIte, reduceEqDiff, Nat.reduceBEq, reduceCtorEq]; (try go_unwrap; try simp only [hd1, hd2, RR, reduceCtorEq]); exact kQG)); (try (case hs => rfl)); (try (case hf => first | exact Or.inl rfl | exact Or.inr ⟨rfl, rfl⟩ | (refine Or.inl ?_; simp only [hd1, hd2, SA, reduceAdd, reduceIte, reduceEqDiff, Nat.reduceBEq, reduceCtorEq]; done) | (refine Or.inr ⟨rfl, ?_⟩; simp only [hd1, hd2, SA, reduceAdd, reduceIte, reduceEqDiff, Nat.reduceBEq, reduceCtorEq]; done))); all_goals (first | (simp only [hd1, hd2, SA, reduceAdd, reduceIte, reduceEqDiff, Nat.reduceBEq, reduceCtorEq]; (try go_unwrap; try simp only [hd1, hd2, RR, reduceCtorEq])) | (show Env; skip) | (show Mem; skip))) | (apply jAO E94; (case hV => (simp only [hd1, hd2, SA, reduceAdd, reduceIte, reduceEqDiff, Nat.reduceBEq, reduceCtorEq]; (try go_unwrap; try simp only [hd1, hd2, RR, reduceCtorEq]); exact (kN0 _ (by rw [List.drop_take]; congr 1; omega)))); (try (case hs => rfl)); (try (case hf => first | exact Or.inl rfl | exact Or.inr ⟨rfl, rfl⟩ | (refine Or.inl ?_; simp only [hd1, hd2, SA, reduceAdd, reduceIte, reduceEqDiff, Nat.reduceBEq, reduceCtorEq]; done) | (refine Or.inr ⟨rfl, ?_⟩; simp only [hd1, hd2, SA, reduceAdd, reduceIte, reduceEqDiff, Nat.reduceBEq, reduceCtorEq]; done))); all_goals (first | (simp only [hd1, hd2, SA, reduceAdd, reduceIte, reduceEqDiff, Nat.reduceBEq, reduceCtorEq]; (try go_unwrap; try simp only [hd1, hd2, RR, reduceCtorEq])) | (show Env; skip) | (show Mem; skip))) | (refine jAG ?_; intro hg; try simp only [hg]) | (refine saI ?_ ?_; intros) | (refine ari ?_; first | omega | (simp only [DD, LL] <;> omega) | (go_unwrap; omega) | (simp only [DD] at hg; omega)) | (refine stq ?_; focus (simp only [hd1, hd2, SA, reduceAdd, reduceIte, reduceEqDiff, Nat.reduceBEq, reduceCtorEq]; (try go_unwrap; try simp only [hd1, hd2, RR, reduceCtorEq]))) | refine And.intro ?_ ?_)
  ·rw [if_pos (by omega)]; rfl
  ·rw [if_neg (by omega), if_pos (by omega)]; rfl
  ·simp only [Bool.not_eq_true', decide_eq_false_iff_not] at hcond
   rw [if_neg (by omega), if_neg (by omega), if_neg (by omega)]; rfl
  ·simp only [Bool.not_eq_false', decide_eq_true_eq] at hcond
   rw [if_neg (by omega), if_neg (by omega), if_pos (by omega)]
   simp only [jNS]
   congr 3; omega
 ·rw [if_neg hp]
  obtain ⟨a, kN0⟩ := h24 _ _ _ _ c0 (by simp [jC1]) (by simp; omega)
  generalize jS5 (List.take n (List.drop at_ s)) [] = v at *
  have hd1 : (decide ((at_ : Int) + n < s.length) && decide (((s.getD (at_ + n) 0).toNat : Int) = 46)) = false := by
   simp only [Bool.and_eq_false_iff, decide_eq_false_iff_not]
   rcases Nat.lt_or_ge n (s.drop at_).length with h | h
   ·refine .inr fun h' => hp ⟨h, ?_⟩
    rw [hg]
    exact UInt8.toNat_inj.1 (Int.ofNat.inj h')
   ·exact .inl (by omega)
  simp only [c67, L67, CC, jBW]
  repeat' (first | exact clo | (refine sqI ?_; intros) | refine stp ?_ | (refine cnd rfl ?_ ?_ <;> intro hcond <;> (try contradiction) <;> try simp only [DD] at hcond) | (apply jAO E94; (case hV => (simp only [hd1, SA, reduceAdd, reduceIte, reduceEqDiff, Nat.reduceBEq, reduceCtorEq]; (try go_unwrap; try simp only [hd1, RR, reduceCtorEq]); exact (kN0 _ (by rw [List.drop_take]; congr 1; omega)))); (try (case hs => rfl)); (try (case hf => first | exact Or.inl rfl | exact Or.inr ⟨rfl, rfl⟩ | (refine Or.inl ?_; simp only [hd1, SA, reduceAdd, reduceIte, reduceEqDiff, Nat.reduceBEq, reduceCtorEq]; done) | (refine Or.inr ⟨rfl, ?_⟩; simp only [hd1, SA, reduceAdd, reduceIte, reduceEqDiff, Nat.reduceBEq, reduceCtorEq]; done))); all_goals (first | (simp only [hd1, SA, reduceAdd, reduceIte, reduceEqDiff, Nat.reduceBEq, reduceCtorEq]; (try go_unwrap; try simp only [hd1, RR, reduceCtorEq])) | (show Env; skip) | (show Mem; skip))) | (refine jAG ?_; intro hg; try simp only [hg]) | refine jAA E89 (h21) ?_ ?_ ?_ ?_ | (refine saI ?_ ?_; intros) | (refine ari ?_; first | omega | (simp only [DD, LL] <;> omega) | (go_unwrap; omega) | (simp only [DD] at hg; omega)) | (refine stq ?_; focus (simp only [hd1, SA, reduceAdd, reduceIte, reduceEqDiff, Nat.reduceBEq, reduceCtorEq]; (try go_unwrap; try simp only [hd1, RR, reduceCtorEq]))) | refine And.intro ?_ ?_)
  ·simp only [Bool.not_eq_true', decide_eq_false_iff_not] at hcond
   rw [if_neg (by omega)]; rfl
  ·simp only [Bool.not_eq_false', decide_eq_true_eq] at hcond
   rw [if_pos (by omega)]; rfl
theorem jXU (b : UInt8) : decide (0 <= Lib.indexByte signs b) = jXV b := by
 have h : ∀ l : List UInt8, (0 <= Lib.indexByte l b ↔ l.contains b = true) := by
  intro l
  induction l with
  | nil => simp [Lib.indexByte]
  | cons x l ih =>
   have h1 := Lib.indexByte_ge l b
   rw [List.contains_cons, Lib.indexByte]
   by_cases hx : x = b
   ·subst hx; simp
   ·have hb : (x == b) = false := beq_eq_false_iff_ne.2 hx
    have hb' : (b == x) = false := beq_eq_false_iff_ne.2 (Ne.symm hx)
    rw [hb, hb', Bool.false_or, <- ih]
    simp only [Bool.false_eq_true, if_false, beq_iff_eq]
    split <;> omega
 unfold jXV
 rw [Bool.eq_iff_iff, decide_eq_true_eq]
 exact h signs
theorem V65 (s : List UInt8) (at_ : Nat) (hs : s.length <= 9223372036854775800) (hat : at_ <= s.length) : jAB Tryz.prog G 65 [.str s, .int .i64 at_]
  (if jA8 jB2 (s.drop at_) <= 32 then .tup [.int .i64 (jA8 jB2 (s.drop at_)), .int .i64 0, .int .i64 0] else .tup [.int .i64 0, .int .i64 at_, .int .i64 4]) := by
 refine jAB.jAT Tryz.func65 k65 mix (by simp [c65]) ?_
 have h21 := V89 (G := G) s at_ 90 jB2 (by omega) hat E90 V90
 generalize jA8 jB2 (s.drop at_) = n at *
 simp only [c65, L65, CC, jBW]
 repeat' (first | exact clo | (refine sqI ?_; intros) | refine stp ?_ | (refine cnd rfl ?_ ?_ <;> intro hcond <;> (try contradiction) <;> try simp only [DD] at hcond) | (refine jAG ?_; intro hg; try simp only [hg]) | refine jAA E89 (h21) ?_ ?_ ?_ ?_ | (refine saI ?_ ?_; intros) | (refine ari ?_; first | omega | (simp only [DD, LL] <;> omega) | (go_unwrap; omega) | (simp only [DD] at hg; omega)) | (refine stq ?_; focus (simp only [SA, reduceAdd, reduceIte, reduceEqDiff, Nat.reduceBEq, reduceCtorEq]; (try go_unwrap; try simp only [RR, reduceCtorEq]))) | refine And.intro ?_ ?_)
 ·rw [if_neg (by omega)]
 ·rw [if_pos (by omega)]
def jNR (a : Nat) (l : List UInt8) : PV :=
 if jC4 (l.getD 0 0) = true then
  if jA8 jB2 l <= 32 then .tup [.int .i64 1, .int .i64 (jA8 jB2 l), .int .i64 0, .int .i64 0] else .tup [.int .i64 1, .int .i64 0, .int .i64 a, .int .i64 4]
 else if jAE (l.getD 0 0) = true then
  match jHE l with
  | .ok (n, _) => .tup [.int .i64 2, .int .i64 n, .int .i64 0, .int .i64 0]
  | .error (o, e) => .tup [.int .i64 2, .int .i64 0, .int .i64 (a + o : Nat), .int .i64 e]
 else if jXV (l.getD 0 0) = true then .tup [.int .i64 3, .int .i64 1, .int .i64 0, .int .i64 0]
 else .tup [.int .i64 0, .int .i64 0, .int .i64 a, .int .i64 3]
theorem V45 (s : List UInt8) (at_ : Nat) (hs : s.length <= 9223372036854775800) (hat : at_ < s.length) : jAB Tryz.prog G 45 [.str s, .int .i64 at_] (jNR at_ (s.drop at_)) := by
 refine jAB.jAT Tryz.func45 k45 mix (by simp [c45]) ?_
 have hg : (s.drop at_).getD 0 0 = s.getD at_ 0 := by simp [List.getD]
 have h27 := V65 (G := G) s at_ hs (by omega)
 have h20 := V67 (G := G) s at_ hs (by omega)
 have hS : ([43, 45, 42, 40, 41, 44, 60, 61] : List UInt8) = signs := rfl
 have hsi := jXU (s.getD at_ 0)
 unfold jNR
 rw [hg]
 simp only [c45, L45, CC, jBW]
 cases h1 : jC4 (s.getD at_ 0) with
 | true =>
  rw [if_pos rfl]
  split at h27
  ·rw [if_pos (by assumption)]
   repeat' (first | exact clo | (refine sqI ?_; intros) | refine stp ?_ | (refine cnd rfl ?_ ?_ <;> intro hcond <;> (try contradiction) <;> try simp only [DD] at hcond) | (apply jAO E64; (case hV => (simp only [h1, SA, reduceAdd, reduceIte, reduceEqDiff, Nat.reduceBEq, reduceCtorEq]; (try go_unwrap; try simp only [h1, RR, reduceCtorEq]); exact V64 _)); (try (case hs => rfl)); (try (case hf => first | exact Or.inl rfl | exact Or.inr ⟨rfl, rfl⟩ | (refine Or.inl ?_; simp only [h1, SA, reduceAdd, reduceIte, reduceEqDiff, Nat.reduceBEq, reduceCtorEq]; done) | (refine Or.inr ⟨rfl, ?_⟩; simp only [h1, SA, reduceAdd, reduceIte, reduceEqDiff, Nat.reduceBEq, reduceCtorEq]; done))); all_goals (first | (simp only [h1, SA, reduceAdd, reduceIte, reduceEqDiff, Nat.reduceBEq, reduceCtorEq]; (try go_unwrap; try simp only [h1, RR, reduceCtorEq])) | (show Env; skip) | (show Mem; skip))) | (refine jAG ?_; intro hg; try simp only [hg]) | refine jAA E65 (h27) ?_ ?_ ?_ ?_ | (refine saI ?_ ?_; intros) | (refine ari ?_; first | omega | (simp only [DD, LL] <;> omega) | (go_unwrap; omega) | (simp only [DD] at hg; omega)) | (refine stq ?_; focus (simp only [h1, SA, reduceAdd, reduceIte, reduceEqDiff, Nat.reduceBEq, reduceCtorEq]; (try go_unwrap; try simp only [h1, RR, reduceCtorEq]))) | refine And.intro ?_ ?_)
  ·rw [if_neg (by assumption)]
   repeat' (first | exact clo | (refine sqI ?_; intros) | refine stp ?_ | (refine cnd rfl ?_ ?_ <;> intro hcond <;> (try contradiction) <;> try simp only [DD] at hcond) | (apply jAO E64; (case hV => (simp only [h1, SA, reduceAdd, reduceIte, reduceEqDiff, Nat.reduceBEq, reduceCtorEq]; (try go_unwrap; try simp only [h1, RR, reduceCtorEq]); exact V64 _)); (try (case hs => rfl)); (try (case hf => first | exact Or.inl rfl | exact Or.inr ⟨rfl, rfl⟩ | (refine Or.inl ?_; simp only [h1, SA, reduceAdd, reduceIte, reduceEqDiff, Nat.reduceBEq, reduceCtorEq]; done) | (refine Or.inr ⟨rfl, ?_⟩; simp only [h1, SA, reduceAdd, reduceIte, reduceEqDiff, Nat.reduceBEq, reduceCtorEq]; done))); all_goals (first | (simp only [h1, SA, reduceAdd, reduceIte, reduceEqDiff, Nat.reduceBEq, reduceCtorEq]; (try go_unwrap; try simp only [h1, RR, reduceCtorEq])) | (show Env; skip) | (show Mem; skip))) | (refine jAG ?_; intro hg; try simp only [hg]) | refine jAA E65 (h27) ?_ ?_ ?_ ?_ | (refine saI ?_ ?_; intros) | (refine ari ?_; first | omega | (simp only [DD, LL] <;> omega) | (go_unwrap; omega) | (simp only [DD] at hg; omega)) | (refine stq ?_; focus (simp only [h1, SA, reduceAdd, reduceIte, reduceEqDiff, Nat.reduceBEq, reduceCtorEq]; (try go_unwrap; try simp only [h1, RR, reduceCtorEq]))) | refine And.intro ?_ ?_)
 | false =>
  rw [if_neg (by simp)]
  cases h2 : jAE (s.getD at_ 0) with
  | true =>
   rw [if_pos rfl]
   generalize jHE (s.drop at_) = z at *
   rcases z with ⟨o, e⟩ | ⟨n, v⟩
   ·simp only [jNS] at h20
    repeat' (first | exact clo | (refine sqI ?_; intros) | refine stp ?_ | (refine cnd rfl ?_ ?_ <;> intro hcond <;> (try contradiction) <;> try simp only [DD] at hcond) | (apply jAO E64; (case hV => (simp only [h1, h2, SA, reduceAdd, reduceIte, reduceEqDiff, Nat.reduceBEq, reduceCtorEq]; (try go_unwrap; try simp only [h1, h2, RR, reduceCtorEq]); exact V64 _)); (try (case hs => rfl)); (try (case hf => first | exact Or.inl rfl | exact Or.inr ⟨rfl, rfl⟩ | (refine Or.inl ?_; simp only [h1, h2, SA, reduceAdd, reduceIte, reduceEqDiff, Nat.reduceBEq, reduceCtorEq]; done) | (refine Or.inr ⟨rfl, ?_⟩; simp only [h1, h2, SA, reduceAdd, reduceIte, reduceEqDiff, Nat.reduceBEq, reduceCtorEq]; done))); all_goals (first | (simp only [h1, h2, SA, reduceAdd, reduceIte, reduceEqDiff, Nat.reduceBEq, reduceCtorEq]; (try go_unwrap; try simp only [h1, h2, RR, reduceCtorEq])) | (show Env; skip) | (show Mem; skip))) | (apply jAO E66; (case hV => (simp only [h1, h2, SA, reduceAdd, reduceIte, reduceEqDiff, Nat.reduceBEq, reduceCtorEq]; (try go_unwrap; try simp only [h1, h2, RR, reduceCtorEq]); exact V66 _)); (try (case hs => rfl)); (try (case hf => first | exact Or.inl rfl | exact Or.inr ⟨rfl, rfl⟩ | (refine Or.inl ?_; simp only [h1, h2, SA, reduceAdd, reduceIte, reduceEqDiff, Nat.reduceBEq, reduceCtorEq]; done) | (refine Or.inr ⟨rfl, ?_⟩; simp only [h1, h2, SA, reduceAdd, reduceIte, reduceEqDiff, Nat.reduceBEq, reduceCtorEq]; done))); all_goals (first | (simp only [h1, h2, SA, reduceAdd, reduceIte, reduceEqDiff, Nat.reduceBEq, reduceCtorEq]; (try go_unwrap; try simp only [h1, h2, RR, reduceCtorEq])) | (show Env; skip) | (show Mem; skip))) | (refine jAG ?_; intro hg; try simp only [hg]) | refine jAA E67 (h20) ?_ ?_ ?_ ?_ | (refine saI ?_ ?_; intros) | (refine ari ?_; first | omega | (simp only [DD, LL] <;> omega) | (go_unwrap; omega) | (simp only [DD] at hg; omega)) | (refine stq ?_; focus (simp only [h1, h2, SA, reduceAdd, reduceIte, reduceEqDiff, Nat.reduceBEq, reduceCtorEq]; (try go_unwrap; try simp only [h1, h2, RR, reduceCtorEq]))) | refine And.intro ?_ ?_)
   ·simp only [jNS] at h20
    repeat' (first | exact clo | (refine sqI ?_; intros) | refine stp ?_ | (refine cnd rfl ?_ ?_ <;> intro hcond <;> (try contradiction) <;> try simp only [DD] at hcond) | (apply jAO E64; (case hV => (simp only [h1, h2, SA, reduceAdd, reduceIte, reduceEqDiff, Nat.reduceBEq, reduceCtorEq]; (try go_unwrap; try simp only [h1, h2, RR, reduceCtorEq]); exact V64 _)); (try (case hs => rfl)); (try (case hf => first | exact Or.inl rfl | exact Or.inr ⟨rfl, rfl⟩ | (refine Or.inl ?_; simp only [h1, h2, SA, reduceAdd, reduceIte, reduceEqDiff, Nat.reduceBEq, reduceCtorEq]; done) | (refine Or.inr ⟨rfl, ?_⟩; simp only [h1, h2, SA, reduceAdd, reduceIte, reduceEqDiff, Nat.reduceBEq, reduceCtorEq]; done))); all_goals (first | (simp only [h1, h2, SA, reduceAdd, reduceIte, reduceEqDiff, Nat.reduceBEq, reduceCtorEq]; (try go_unwrap; try simp only [h1, h2, RR, reduceCtorEq])) | (show Env; skip) | (show Mem; skip))) | (apply jAO E66; (case hV => (simp only [h1, h2, SA, reduceAdd, reduceIte, reduceEqDiff, Nat.reduceBEq, reduceCtorEq]; (try go_unwrap; try simp only [h1, h2, RR, reduceCtorEq]); exact V66 _)); (try (case hs => rfl)); (try (case hf => first | exact Or.inl rfl | exact Or.inr ⟨rfl, rfl⟩ | (refine Or.inl ?_; simp only [h1, h2, SA, reduceAdd, reduceIte, reduceEqDiff, Nat.reduceBEq, reduceCtorEq]; done) | (refine Or.inr ⟨rfl, ?_⟩; simp only [h1, h2, SA, reduceAdd, reduceIte, reduceEqDiff, Nat.reduceBEq, reduceCtorEq]; done))); all_goals (first | (simp only [h1, h2, SA, reduceAdd, reduceIte, reduceEqDiff, Nat.reduceBEq, reduceCtorEq]; (try go_unwrap; try simp only [h1, h2, RR, reduceCtorEq])) | (show Env; skip) | (show Mem; skip))) | (refine jAG ?_; intro hg; try simp only [hg]) | refine jAA E67 (h20) ?_ ?_ ?_ ?_ | (refine saI ?_ ?_; intros) | (refine ari ?_; first | omega | (simp only [DD, LL] <;> omega) | (go_unwrap; omega) | (simp only [DD] at hg; omega)) | (refine stq ?_; focus (simp only [h1, h2, SA, reduceAdd, reduceIte, reduceEqDiff, Nat.reduceBEq, reduceCtorEq]; (try go_unwrap; try simp only [h1, h2, RR, reduceCtorEq]))) | refine And.intro ?_ ?_)
  | false =>
   rw [if_neg (by simp)]
   cases h3 : jXV (s.getD at_ 0) with
   | true =>
    rw [h3] at hsi
    rw [if_pos rfl]
    repeat' (first | exact clo | (refine sqI ?_; intros) | refine stp ?_ | (refine cnd rfl ?_ ?_ <;> intro hcond <;> (try contradiction) <;> try simp only [DD] at hcond) | (apply jAO E64; (case hV => (simp only [h1, h2, hS, hsi, SA, reduceAdd, reduceIte, reduceEqDiff, Nat.reduceBEq, reduceCtorEq]; (try go_unwrap; try simp only [h1, h2, hS, hsi, RR, reduceCtorEq]); exact V64 _)); (try (case hs => rfl)); (try (case hf => first | exact Or.inl rfl | exact Or.inr ⟨rfl, rfl⟩ | (refine Or.inl ?_; simp only [h1, h2, hS, hsi, SA, reduceAdd, reduceIte, reduceEqDiff, Nat.reduceBEq, reduceCtorEq]; done) | (refine Or.inr ⟨rfl, ?_⟩; simp only [h1, h2, hS, hsi, SA, reduceAdd, reduceIte, reduceEqDiff, Nat.reduceBEq, reduceCtorEq]; done))); all_goals (first | (simp only [h1, h2, hS, hsi, SA, reduceAdd, reduceIte, reduceEqDiff, Nat.reduceBEq, reduceCtorEq]; (try go_unwrap; try simp only [h1, h2, hS, hsi, RR, reduceCtorEq])) | (show Env; skip) | (show Mem; skip))) | (apply jAO E66; (case hV => (simp only [h1, h2, hS, hsi, SA, reduceAdd, reduceIte, reduceEqDiff, Nat.reduceBEq, reduceCtorEq]; (try go_unwrap; try simp only [h1, h2, hS, hsi, RR, reduceCtorEq]); exact V66 _)); (try (case hs => rfl)); (try (case hf => first | exact Or.inl rfl | exact Or.inr ⟨rfl, rfl⟩ | (refine Or.inl ?_; simp only [h1, h2, hS, hsi, SA, reduceAdd, reduceIte, reduceEqDiff, Nat.reduceBEq, reduceCtorEq]; done) | (refine Or.inr ⟨rfl, ?_⟩; simp only [h1, h2, hS, hsi, SA, reduceAdd, reduceIte, reduceEqDiff, Nat.reduceBEq, reduceCtorEq]; done))); all_goals (first | (simp only [h1, h2, hS, hsi, SA, reduceAdd, reduceIte, reduceEqDiff, Nat.reduceBEq, reduceCtorEq]; (try go_unwrap; try simp only [h1, h2, hS, hsi, RR, reduceCtorEq])) | (show Env; skip) | (show Mem; skip))) | (apply jAO E68; (case hV => (simp only [h1, h2, hS, hsi, SA, reduceAdd, reduceIte, reduceEqDiff, Nat.reduceBEq, reduceCtorEq]; (try go_unwrap; try simp only [h1, h2, hS, hsi, RR, reduceCtorEq]); exact V68 _ _)); (try (case hs => rfl)); (try (case hf => first | exact Or.inl rfl | exact Or.inr ⟨rfl, rfl⟩ | (refine Or.inl ?_; simp only [h1, h2, hS, hsi, SA, reduceAdd, reduceIte, reduceEqDiff, Nat.reduceBEq, reduceCtorEq]; done) | (refine Or.inr ⟨rfl, ?_⟩; simp only [h1, h2, hS, hsi, SA, reduceAdd, reduceIte, reduceEqDiff, Nat.reduceBEq, reduceCtorEq]; done))); all_goals (first | (simp only [h1, h2, hS, hsi, SA, reduceAdd, reduceIte, reduceEqDiff, Nat.reduceBEq, reduceCtorEq]; (try go_unwrap; try simp only [h1, h2, hS, hsi, RR, reduceCtorEq])) | (show Env; skip) | (show Mem; skip))) | (refine jAG ?_; intro hg; try simp only [hg]) | (refine saI ?_ ?_; intros) | (refine ari ?_; first | omega | (simp only [DD, LL] <;> omega) | (go_unwrap; omega) | (simp only [DD] at hg; omega)) | (refine stq ?_; focus (simp only [h1, h2, hS, hsi, SA, reduceAdd, reduceIte, reduceEqDiff, Nat.reduceBEq, reduceCtorEq]; (try go_unwrap; try simp only [h1, h2, hS, hsi, RR, reduceCtorEq]))) | refine And.intro ?_ ?_)
   | false =>
    rw [h3] at hsi
    rw [if_neg (by simp)]
    repeat' (first | exact clo | (refine sqI ?_; intros) | refine stp ?_ | (refine cnd rfl ?_ ?_ <;> intro hcond <;> (try contradiction) <;> try simp only [DD] at hcond) | (apply jAO E64; (case hV => (simp only [h1, h2, hS, hsi, SA, reduceAdd, reduceIte, reduceEqDiff, Nat.reduceBEq, reduceCtorEq]; (try go_unwrap; try simp only [h1, h2, hS, hsi, RR, reduceCtorEq]); exact V64 _)); (try (case hs => rfl)); (try (case hf => first | exact Or.inl rfl | exact Or.inr ⟨rfl, rfl⟩ | (refine Or.inl ?_; simp only [h1, h2, hS, hsi, SA, reduceAdd, reduceIte, reduceEqDiff, Nat.reduceBEq, reduceCtorEq]; done) | (refine Or.inr ⟨rfl, ?_⟩; simp only [h1, h2, hS, hsi, SA, reduceAdd, reduceIte, reduceEqDiff, Nat.reduceBEq, reduceCtorEq]; done))); all_goals (first | (simp only [h1, h2, hS, hsi, SA, reduceAdd, reduceIte, reduceEqDiff, Nat.reduceBEq, reduceCtorEq]; (try go_unwrap; try simp only [h1, h2, hS, hsi, RR, reduceCtorEq])) | (show Env; skip) | (show Mem; skip))) | (apply jAO E66; (case hV => (simp only [h1, h2, hS, hsi, SA, reduceAdd, reduceIte, reduceEqDiff, Nat.reduceBEq, reduceCtorEq]; (try go_unwrap; try simp only [h1, h2, hS, hsi, RR, reduceCtorEq]); exact V66 _)); (try (case hs => rfl)); (try (case hf => first | exact Or.inl rfl | exact Or.inr ⟨rfl, rfl⟩ | (refine Or.inl ?_; simp only [h1, h2, hS, hsi, SA, reduceAdd, reduceIte, reduceEqDiff, Nat.reduceBEq, reduceCtorEq]; done) | (refine Or.inr ⟨rfl, ?_⟩; simp only [h1, h2, hS, hsi, SA, reduceAdd, reduceIte, reduceEqDiff, Nat.reduceBEq, reduceCtorEq]; done))); all_goals (first | (simp only [h1, h2, hS, hsi, SA, reduceAdd, reduceIte, reduceEqDiff, Nat.reduceBEq, reduceCtorEq]; (try go_unwrap; try simp only [h1, h2, hS, hsi, RR, reduceCtorEq])) | (show Env; skip) | (show Mem; skip))) | (apply jAO E68; (case hV => (simp only [h1, h2, hS, hsi, SA, reduceAdd, reduceIte, reduceEqDiff, Nat.reduceBEq, reduceCtorEq]; (try go_unwrap; try simp only [h1, h2, hS, hsi, RR, reduceCtorEq]); exact V68 _ _)); (try (case hs => rfl)); (try (case hf => first | exact Or.inl rfl | exact Or.inr ⟨rfl, rfl⟩ | (refine Or.inl ?_; simp only [h1, h2, hS, hsi, SA, reduceAdd, reduceIte, reduceEqDiff, Nat.reduceBEq, reduceCtorEq]; done) | (refine Or.inr ⟨rfl, ?_⟩; simp only [h1, h2, hS, hsi, SA, reduceAdd, reduceIte, reduceEqDiff, Nat.reduceBEq, reduceCtorEq]; done))); all_goals (first | (simp only [h1, h2, hS, hsi, SA, reduceAdd, reduceIte, reduceEqDiff, Nat.reduceBEq, reduceCtorEq]; (try go_unwrap; try simp only [h1, h2, hS, hsi, RR, reduceCtorEq])) | (show Env; skip) | (show Mem; skip))) | (refine jAG ?_; intro hg; try simp only [hg]) | (refine saI ?_ ?_; intros) | (refine ari ?_; first | omega | (simp only [DD, LL] <;> omega) | (go_unwrap; omega) | (simp only [DD] at hg; omega)) | (refine stq ?_; focus (simp only [h1, h2, hS, hsi, SA, reduceAdd, reduceIte, reduceEqDiff, Nat.reduceBEq, reduceCtorEq]; (try go_unwrap; try simp only [h1, h2, hS, hsi, RR, reduceCtorEq]))) | refine And.intro ?_ ?_)
end
end Go.Proofs.YthjkmhfiffojeaaGreatDoor
