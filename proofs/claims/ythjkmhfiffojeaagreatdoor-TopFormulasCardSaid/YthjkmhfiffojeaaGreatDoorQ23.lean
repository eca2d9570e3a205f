import Derived.Shelf.SlIter.Sorted
import Derived.RangeFuncBox
import Derived.RangeFuncLeaves
import Derived.Shelf.Abstract
import Derived.WalkKit
import Derived.OwnWalkIn
import Derived.TacticsInMore
import Derived.LoopNIn
import Derived.LoopIn
import Derived.Test.YthjkmhfiffojeaaGreatDoorQ22
namespace Go.Proofs.YthjkmhfiffojeaaGreatDoor
open Go PG Go.Proofs
open Nat (reduceAdd reduceEqDiff)
set_option linter.unusedSimpArgs false
set_option linter.unusedVariables false
set_option maxHeartbeats 4000000
set_option maxRecDepth 100000
theorem jXI {l : List Ed} (hw : jAN l = 0) : (jOC l).length <= 4096 := by
 obtain ⟨h1, -, h3⟩ := jBX.1 hw
 have key : ∀ l : List Ed, (∀ e ∈ l, e.needs.length <= 64) -> (jOC l).length <= 64 * l.length := by
  intro l
  induction l with
  | nil => intro _; simp [jOC]
  | cons e l ih =>
   intro h
   have a := ih (fun x hx => h x (by simp [hx]))
   have b := h e (by simp)
   simp only [jOC, List.flatMap_cons, List.length_append, List.length_cons] at a ⊢
   omega
 have := key l (fun e he => (h3 e he).2.1)
 omega
theorem jUD {l : List Ed} (hw : jAN l = 0) (s : St) : (ndM l s).length <= 1000000 := by
 by_cases h : s ∈ nsM l
 ·obtain ⟨e, he, rfl⟩ := jH0.1 h
  rw [jYF (jBX.1 hw).2.1 he]
  have := ((jBX.1 hw).2.2 e he).2.1
  omega
 ·rw [kGZ h]; simp
theorem V11 (l : List Ed) (hl : l.length <= 1000000000) (hnl : ∀ e ∈ l, e.needs.length <= 9223372036854775807) (s : St) : jAB Tryz.prog G0 11 [.str s, edL l] (txL (jEM l s)) := by
 refine jAB.jAT Tryz.func11 k11 mix (by simp [c11]) ?_
 simp only [c11, L11, CC, jBW]
 have h27 := V33 l (by omega) hnl
 have h28 := V32 l (by omega)
 have hi := jTX jH7 (jGM l) s
 obtain ⟨V, hV⟩ : ∃ V, (jFK (jB4 jH7 (jGM l)) (.str s)).getD .jAH = V := ⟨_, rfl⟩
 by_cases hw : jAN l = 0
 case neg =>
  have d1 : decide (jAN l = 0) = false := by simpa using hw
  have hB : jEM l s = [] := jGH (.inr hw)
  generalize (jCA (jGM l) s).isSome = b at hi
  cases b
  ·repeat' (first | exact clo | (refine PW.stop (x := .ret) ?_) | (refine sqI ?_; intros) | refine stp ?_ | (refine cnd rfl ?_ ?_ <;> intro hcond <;> (try contradiction) <;> try simp only [DD] at hcond) | (refine jCL rfl ?_; simp only [hi, hV, d1, jBQ, cut, SA, reduceAdd, reduceIte, reduceEqDiff, Nat.reduceBEq, reduceCtorEq]; (try go_unwrap; try simp only [hi, hV, d1, jBQ, cut, RR, reduceCtorEq])) | (refine jAG ?_; intro hg; try simp only [hg]) | refine jAA E32 (h28) ?_ ?_ ?_ ?_ | (refine saI ?_ ?_; intros) | (refine ari ?_; first | omega | (simp only [DD, LL] <;> omega) | (go_unwrap; omega) | (simp only [DD] at hg; omega)) | (refine stq ?_; focus (simp only [hi, hV, d1, jBQ, cut, SA, reduceAdd, reduceIte, reduceEqDiff, Nat.reduceBEq, reduceCtorEq]; (try go_unwrap; try simp only [hi, hV, d1, jBQ, cut, RR, reduceCtorEq]))) | refine And.intro ?_ ?_)
   all_goals
    refine ⟨?_⟩
    refine PW.kKU none 4 rfl ?_
    repeat' (first | exact clo | (refine sqI ?_; intros) | refine stp ?_ | (refine cnd rfl ?_ ?_ <;> intro hcond <;> (try contradiction) <;> try simp only [DD] at hcond) | (refine jAG ?_; intro hg; try simp only [hg]) | (refine saI ?_ ?_; intros) | (refine ari ?_; first | omega | (simp only [DD, LL] <;> omega) | (go_unwrap; omega) | (simp only [DD] at hg; omega)) | (refine stq ?_; focus (simp only [SA, reduceAdd, reduceIte, reduceEqDiff, Nat.reduceBEq, reduceCtorEq]; (try go_unwrap; try simp only [RR, reduceCtorEq]))) | refine And.intro ?_ ?_)
    rw [hB]; rfl
  ·repeat' (first | exact clo | (refine PW.stop (x := .ret) ?_) | (refine sqI ?_; intros) | refine stp ?_ | (refine cnd rfl ?_ ?_ <;> intro hcond <;> (try contradiction) <;> try simp only [DD] at hcond) | (refine jAG ?_; intro hg; try simp only [hg]) | refine jAA E32 (h28) ?_ ?_ ?_ ?_ | refine jAY E33 (h27) ?_ ?_ ?_ ?_ ?_ | (refine saI ?_ ?_; intros) | (refine ari ?_; first | omega | (simp only [DD, LL] <;> omega) | (go_unwrap; omega) | (simp only [DD] at hg; omega)) | (refine stq ?_; focus (simp only [hi, hV, d1, jBQ, cut, SA, reduceAdd, reduceIte, reduceEqDiff, Nat.reduceBEq, reduceCtorEq]; (try go_unwrap; try simp only [hi, hV, d1, jBQ, cut, RR, reduceCtorEq]))) | refine And.intro ?_ ?_)
   all_goals
    refine ⟨?_⟩
    refine PW.kKU none 4 rfl ?_
    repeat' (first | exact clo | (refine sqI ?_; intros) | refine stp ?_ | (refine cnd rfl ?_ ?_ <;> intro hcond <;> (try contradiction) <;> try simp only [DD] at hcond) | (refine jAG ?_; intro hg; try simp only [hg]) | (refine saI ?_ ?_; intros) | (refine ari ?_; first | omega | (simp only [DD, LL] <;> omega) | (go_unwrap; omega) | (simp only [DD] at hg; omega)) | (refine stq ?_; focus (simp only [SA, reduceAdd, reduceIte, reduceEqDiff, Nat.reduceBEq, reduceCtorEq]; (try go_unwrap; try simp only [RR, reduceCtorEq]))) | refine And.intro ?_ ?_)
    rw [hB]; rfl
 rw [hw] at h27
 by_cases hs : s ∈ nsM l
 case neg =>
  have hB : jEM l s = [] := jGH (.inl hs)
  rw [jKK hw, if_neg hs] at hi
  have hi : (jFK (jB4 jH7 (jGM l)) (.str s)).isSome = false := hi
  repeat' (first | exact clo | (refine PW.stop (x := .ret) ?_) | (refine sqI ?_; intros) | refine stp ?_ | (refine cnd rfl ?_ ?_ <;> intro hcond <;> (try contradiction) <;> try simp only [DD] at hcond) | (refine jCL rfl ?_; simp only [hi, hV, jBQ, cut, SA, reduceAdd, reduceIte, reduceEqDiff, Nat.reduceBEq, reduceCtorEq]; (try go_unwrap; try simp only [hi, hV, jBQ, cut, RR, reduceCtorEq])) | (refine jAG ?_; intro hg; try simp only [hg]) | refine jAA E32 (h28) ?_ ?_ ?_ ?_ | (refine saI ?_ ?_; intros) | (refine ari ?_; first | omega | (simp only [DD, LL] <;> omega) | (go_unwrap; omega) | (simp only [DD] at hg; omega)) | (refine stq ?_; focus (simp only [hi, hV, jBQ, cut, SA, reduceAdd, reduceIte, reduceEqDiff, Nat.reduceBEq, reduceCtorEq]; (try go_unwrap; try simp only [hi, hV, jBQ, cut, RR, reduceCtorEq]))) | refine And.intro ?_ ?_)
  all_goals
   refine ⟨?_⟩
   refine PW.kKU none 4 rfl ?_
   repeat' (first | exact clo | (refine sqI ?_; intros) | refine stp ?_ | (refine cnd rfl ?_ ?_ <;> intro hcond <;> (try contradiction) <;> try simp only [DD] at hcond) | (refine jAG ?_; intro hg; try simp only [hg]) | (refine saI ?_ ?_; intros) | (refine ari ?_; first | omega | (simp only [DD, LL] <;> omega) | (go_unwrap; omega) | (simp only [DD] at hg; omega)) | (refine stq ?_; focus (simp only [SA, reduceAdd, reduceIte, reduceEqDiff, Nat.reduceBEq, reduceCtorEq]; (try go_unwrap; try simp only [RR, reduceCtorEq]))) | refine And.intro ?_ ?_)
   rw [hB]; rfl
 have hi : (jFK (jB4 jH7 (jGM l)) (.str s)).isSome = true := by rw [hi, jKK hw, if_pos hs]; rfl
 have hB : jEM l s = jBY (dfs (ndM l) ((jOC l).length + 1) s []) := by unfold jEM; rw [if_neg (by simp [hs, hw])]
 have hc : jPT (jOC l) [] < (jOC l).length + 1 := by
  have := List.length_filter_le (fun x => !decide (x ∈ ([] : List St))) (jOC l)
  unfold jPT; omega
 have hal := jXI hw
 have kIT := V34 (jGM l) (ndM l) (jOC l) jLC (by omega) (jZW hw) (jUD hw) ((jOC l).length + 1) s [] hc List.nodup_nil (by simp)
 have hOl : (dfs (ndM l) ((jOC l).length + 1) s []).length <= 1000000 := by
  have := jE6 (jSV (U := jOC l) jLC hc (s := s)) (b := jOC l) (fun y hy => kIB jLC ((kDI jLC hc y).1 hy))
  omega
 generalize dfs (ndM l) ((jOC l).length + 1) s [] = O at kIT hB hOl
 generalize jGM l = T at h28 hi hV kIT
 have kIT := kIT
 simp only [jUK, jEO, List.map_nil, List.length_nil] at kIT
 have hm : jB4 jJB [] = [] := rfl
 rw [hm] at kIT
 repeat' (first | exact clo | (refine PW.stop (x := .seq (.region false (⟨some 10, none, .eff (.alloc none .nilFn) []⟩ :: _) _) _) ?_) | (refine sqI ?_; intros) | refine stp ?_ | (refine cnd rfl ?_ ?_ <;> intro hcond <;> (try contradiction) <;> try simp only [DD] at hcond) | (refine jAG ?_; intro hg; try simp only [hg]) | refine jAA E32 (h28) ?_ ?_ ?_ ?_ | refine jAY E33 (h27) ?_ ?_ ?_ ?_ ?_ | (refine saI ?_ ?_; intros) | (refine ari ?_; first | omega | (simp only [DD, LL] <;> omega) | (go_unwrap; omega) | (simp only [DD] at hg; omega)) | (refine stq ?_; focus (simp only [hi, hV, jBQ, cut, SA, reduceAdd, reduceIte, reduceEqDiff, Nat.reduceBEq, reduceCtorEq]; (try go_unwrap; try simp only [hi, hV, jBQ, cut, RR, reduceCtorEq]))) | refine And.intro ?_ ?_)
 refine ⟨?_⟩
 refine PW.kQ5 3 none rfl ?_
 simp only [SA, reduceAdd, reduceIte, reduceEqDiff, Nat.reduceBEq, reduceCtorEq]
 have h36 := kPU (μ := jUK T O) (t := 4) O (by omega) rfl
 simp only [jUK] at h36
 have hOL : ((O.map PV.str).length : Nat) = O.length := by simp
 have hsl : ((jBY O).map PV.str).length = O.length := by simp [jJZ]
 have htk : ((jBY O).map PV.str).take O.length = (jBY O).map PV.str := List.take_of_length_le (by omega)
 repeat' (first | exact clo | (refine sqI ?_; intros) | refine stp ?_ | (refine cnd rfl ?_ ?_ <;> intro hcond <;> (try contradiction) <;> try simp only [DD] at hcond) | (refine jAQ 4 E34 kIT rfl ?_; rintro p μ' ⟨rfl, rfl⟩; simp only [jUK, hsl, htk, List.take_zero, List.drop_zero, Nat.le_refl, and_self, if_true, SA, reduceAdd, reduceIte, reduceEqDiff, Nat.reduceBEq, reduceCtorEq]) | (refine jCS E25 h36 ?_; rintro p μ' ⟨rfl, rfl⟩; simp only [hsl, htk, List.take_zero, List.drop_zero, Nat.le_refl, and_self, if_true, SA, reduceAdd, reduceIte, reduceEqDiff, Nat.reduceBEq, reduceCtorEq]) | (refine jAG ?_; intro hg; try simp only [hg]) | (refine saI ?_ ?_; intros) | (refine ari ?_; first | omega | (simp only [DD, LL] <;> omega) | (go_unwrap; omega) | (simp only [DD] at hg; omega)) | (refine stq ?_; focus (simp only [hsl, htk, List.take_zero, List.drop_zero, Nat.le_refl, and_self, if_true, SA, reduceAdd, reduceIte, reduceEqDiff, Nat.reduceBEq, reduceCtorEq]; (try go_unwrap; try simp only [hsl, htk, List.take_zero, List.drop_zero, Nat.le_refl, and_self, if_true, RR, reduceCtorEq]))) | refine And.intro ?_ ?_)
 all_goals (rw [hB])
set_option maxHeartbeats 2000000
section
open Go PG Go.Proofs Go.RowKit Go.Shelf Go.Maps Go.Sort
attribute [local go_sem] Oper.semAt_some
def Tryz.apseqA_ren : Go.Shelf.Ren := ⟨fun | 11 => 93 | n => n, fun | 24 => 38 | 26 => 9 | 28 => 94 | 0 => 0 | 33 => 88 | 4 => 4 | n => n, fun | n => n⟩
theorem Tryz.apseqA : Go.Proofs.SlLaysZ.n11 Tryz.prog Tryz.apseqA_ren := {
 mixed := by kernel_rfl
 f11 := ⟨Tryz.f93.name, by decide, Tryz.func93.trans (congrArg some (by kernel_rfl))⟩
 t0 := Tryz.underlying0
 a0 := Tryz.isAgg0
 z0 := Tryz.sizeOf0
 v0 := Tryz.zeroValue0
 t24 := Tryz.underlying38
 a24 := Tryz.isAgg38
 z24 := Tryz.sizeOf38
 v24 := Tryz.zeroValue38
 t26 := Tryz.underlying9
 a26 := Tryz.isAgg9
 z26 := Tryz.sizeOf9
 v26 := Tryz.zeroValue9
 t28 := Tryz.underlying94
 a28 := Tryz.isAgg94
 z28 := Tryz.sizeOf94
 v28 := Tryz.zeroValue94
 i26 := by kernel_rfl }
def Gives (F : Fence) (n : Nat) (g : Nat) (lb : Array Value) (S : List St -> Prop) (N : Nat) (w : World) : Prop :=
 ∀ (l : Nat) (J : List St -> World -> Prop) (W : World), Below w.heap.size w W -> AbidesFrom W.heap.size J -> (∀ pre W1, J pre W1 -> Below w.heap.size w W1) ->
  (∀ pre x W1, J pre W1 -> pre.length < N -> YieldAt F (n - 1) Tryz.prog l #[encStr x] W1 fun e W' => e = .returned (.bool true) ∧ J (pre ++ [x]) W' ∧ KeepsWalks W1 W') ->
  J [] W -> CallsIn F n Tryz.prog g (#[.func (.yield l) #[] #[]] ++ lb) W fun e W' => (∃ v, e = .returned v) ∧ ∃ xs, S xs ∧ J xs W'
def upto (zs : List St) (k : Nat) : List St := (List.range k).map fun j => zs[j]?.getD []
theorem upto_succ (zs : List St) (k : Nat) : upto zs (k + 1) = upto zs k ++ [zs[k]?.getD []] := by simp [upto, List.range_succ]
theorem upto_length (zs : List St) (k : Nat) : (upto zs k).length = k := by simp [upto]
theorem upto_all (zs : List St) : upto zs zs.length = zs := by
 apply List.ext_getElem
 ·simp [upto]
 ·intro i h1 h2
  simp [upto, h2]
theorem kHV (F : Fence) (n : Nat) (h57 : F.fn 61) (hro : F.round = none) (hn : 1 <= n) (l Bs o n₀ b off len cap : Nat) (w0 : World) (zs : List St) (hreach : len <= 1000000000) (hb : b < n₀) (J : List St -> World -> Prop)
  (hJB : ∀ pre W1, J pre W1 -> Below n₀ w0 W1)
  (hY : ∀ pre x W, J pre W -> pre.length < len -> YieldAt F (n - 1) Tryz.prog l #[encStr x] W fun e W' => e = .returned (.bool true) ∧ J (pre ++ [x]) W' ∧ KeepsWalks W W')
  (W : World) (hBs : W.cell? ⟨Bs, o, none⟩ = some (.slice (some ⟨b, off, none⟩) len cap)) (hc : ∀ j, j < len -> w0.cell? ⟨b, off + j, none⟩ = some (encStr (zs[j]?.getD []))) (h0 : J [] W) :
  CallsIn F n Tryz.prog 61 #[.func (.yield l) #[] #[], .pointer (some ⟨Bs, o, none⟩)] W fun e W' => (∃ v, e = .returned v) ∧ J (upto zs len) W' := by
 refine callsIn_of_wp Tryz.func61 rfl h57 ?_ hro
 simp only [Tryz.ntmps61, List.size_toArray, List.length_cons, List.length_nil, reduceAdd, Nat.reduceSub, Array.replicate_succ, Array.replicate_zero, List.push_toArray, List.append_toArray, List.nil_append, List.cons_append]
 gi_wp2
 gi_loopw [7] (fun i wr => ∃ k : Nat, k <= len ∧ i = .int .i64 k ∧ J (upto zs k) wr)
  (fun i _ => len - (intOf i).toNat)
 case atStart => exact ⟨0, Nat.zero_le _, rfl, h0⟩
 case round =>
  obtain ⟨k, hk, rfl, hJs⟩ := hrel
  have hnx := hJB _ _ hJs
  have hcx : k < len -> wr.cell? ⟨b, off + k, none⟩ = some (encStr (zs[k]?.getD [])) := fun h => (hnx.cell (p := ⟨b, off + k, none⟩) hb).trans (hc k h)
  by_cases hlt : k < len
  ·obtain ⟨fn, tmps, assign, body, hy, hR⟩ := hY _ (zs[k]?.getD []) wr hJs (by rw [upto_length]; exact hlt)
   have hcx' := hcx hlt
   gi_wp2
   refine hR.mono ?_
   rintro e W3 ⟨rfl, hJ3, hk3⟩
   gi_wp2
   have hw : wrap64 ((k : Int) + 1) = (k : Int) + 1 := by unfold wrap64; omega
   go_roundw
   case rel => exact ⟨k + 1, by omega, by simp [hw], by rw [upto_succ]; exact hJ3⟩
   case measure => simp [intOf, hw]; omega
  ·obtain rfl : k = len := by omega
   gi_wp2
   go_end0
   exact ⟨⟨_, rfl⟩, hJs⟩
theorem jTB (F : Fence) (n : Nat) (h57 : F.fn 61) (hro : F.round = none) (l Bs o : Nat) (J : List St -> World -> Prop) (W : World) (a : Option Addr) (cap : Nat) (hBs : W.cell? ⟨Bs, o, none⟩ = some (.slice a 0 cap)) (h0 : J [] W) :
  CallsIn F n Tryz.prog 61 #[.func (.yield l) #[] #[], .pointer (some ⟨Bs, o, none⟩)] W fun e W' => (∃ v, e = .returned v) ∧ J [] W' := by
 refine callsIn_of_wp Tryz.func61 rfl h57 ?_ hro
 simp only [Tryz.ntmps61, List.size_toArray, List.length_cons, List.length_nil, reduceAdd, Nat.reduceSub, Array.replicate_succ, Array.replicate_zero, List.push_toArray, List.append_toArray, List.nil_append, List.cons_append]
 gi_wp2
 gi_loopw [7] (fun i wr => i = .int .i64 0 ∧ J [] wr) (fun _ _ => 0)
 case atStart => exact ⟨rfl, h0⟩
 case round =>
  obtain ⟨rfl, hJs⟩ := hrel
  gi_wp2
  go_end0
  exact ⟨⟨_, rfl⟩, hJs⟩
end
section
open Go PG Go.Proofs Go.RowKit Go.Shelf Go.Maps Go.Sort
attribute [local go_sem] Oper.semAt_some
theorem kJ7 {ρ : Ren} (L : SlLaysZ.n11 Tryz.prog ρ) (F : Fence) (n : Nat) (h11 : F.fn (ρ.f 11)) (hro : F.round = none) (hn : 2 <= n) (g : Nat) (lb : Array Value) (hFg : F.fn g) (eg : ∀ args w, (callFunc g args).run Tryz.prog w = .ok (.enter g args) w)
  (S : List St -> Prop) (N : Nat) (hN : N <= maxLen) (hNb : N * 16 <= 140737488355328) (w : World) (hseq : Gives F (n - 1) g lb S N w) :
  CallsIn F n Tryz.prog (ρ.f 11) #[.slice none 0 0, .func (.func g) #[] lb] w fun e w' => ∃ (v : Value) (ss : List St), e = .returned v ∧ S ss ∧ w'.ownsRow w.heap.size (ρ.t 26) 1 v ss.length (ss.map encStr) ∧ Below w.heap.size w w' := by
 have h1 : 1 <= n := by omega
 have mixed := L.mixed; have t0 := L.t0; have a0 := L.a0; have z0 := L.z0; have v0 := L.v0
 have t24 := L.t24; have a24 := L.a24; have z24 := L.z24; have v24 := L.v24
 have t26 := L.t26; have a26 := L.a26; have z26 := L.z26; have v26 := L.v26
 have t28 := L.t28; have a28 := L.a28; have z28 := L.z28; have V32 := L.v28
 have hne : ρ.t 24 ≠ ρ.t 26 := fun e => by have h := L.t24; rw [e, L.t26] at h; cases h
 have u0 := run_underlying L.t0; have u24 := run_underlying L.t24; have u26 := run_underlying L.t26; have u28 := run_underlying L.t28
 obtain ⟨_, _, FG⟩ := L.f11
 refine callsIn_of_wp_marks FG rfl h11 ?_ hro
 simp only [SlBodyZ.n11_ntmps ρ, List.size_toArray, List.length_cons, List.length_nil, reduceAdd, Nat.reduceSub, Array.replicate_succ, Array.replicate_zero, List.push_toArray, List.append_toArray, List.nil_append, List.cons_append]
 gi_wp2
 refine wpIn_rangeFunc ?_
 intro fn hfn
 rw [hro]
 obtain ⟨A, hA⟩ : ∃ A, w.alloc (.cells #[.slice none 0 0] (ρ.t 24)) = A := ⟨_, rfl⟩
 have sA : A.heap.size = w.heap.size + 1 := by rw [<- hA]; simp
 have bxA : A.heap[w.heap.size]? = some (.cells #[.slice none 0 0] (ρ.t 24) (0, 0)) := by rw [<- hA]; exact World.alloc_heap_new w _
 have lA : Below w.heap.size w A := by rw [<- hA]; exact (Below.refl _ w).alloc (Nat.le_refl _) _
 rw [hA]
 obtain ⟨B, hB⟩ : ∃ B, (A.alloc (.deferred (some []))).alloc (.loop (AnyZ.apRec ρ fn (.func (.func g) #[] lb) w.heap.size A.heap.size .ready none)) = B := ⟨_, rfl⟩
 have old : ∀ k, k < A.heap.size -> B.heap[k]? = A.heap[k]? := fun k hk => by
  rw [<- hB]; exact (Below.heap_alloc _ _ k (by simp; omega)).trans (Below.heap_alloc _ _ k hk)
 have lB : Below w.heap.size w B := by rw [<- hB]; exact (lA.alloc lA.size _).alloc (by have := lA.size; simp; omega) _
 have start : AnyZ.ApAt ρ w fn (.func (.func g) #[] lb) w.heap.size (A.heap.size + 1) A.heap.size [] B :=
  ⟨⟨_, (old w.heap.size (by omega)).trans bxA, ⟨rfl, .inl ⟨rfl, rfl⟩⟩, by simp⟩,
   by rw [<- hB]; have := World.alloc_heap_new (A.alloc (.deferred (some []))) (.loop (AnyZ.apRec ρ fn (.func (.func g) #[] lb) w.heap.size A.heap.size .ready none)); rwa [World.size_alloc] at this,
   by rw [<- hB]; exact (Below.heap_alloc _ _ _ (by simp)).trans (World.alloc_heap_new A _), lB⟩
 refine ⟨A.heap.size + 1, [{ target := .collected A.heap.size, args := #[] }], B, { target := .fn (.func g) lb, args := #[.func (.yield (A.heap.size + 1)) #[] #[]] }, B, g,
  #[.func (.yield (A.heap.size + 1)) #[] #[]] ++ lb, B, ?_, ?_, ?_, ?_, fun _ => h1, ?_⟩
 ·rw [<- hB]; exact run_enterLoop_outer _ _ _ _ _
 ·simp [resolve, go_sem]
 ·intro f' hf'; simp [Target.leads] at hf'; subst hf'; exact hFg
 ·simp [invoke, go_sem, eg]
 ·refine (hseq (A.heap.size + 1) (AnyZ.ApAt ρ w fn (.func (.func g) #[] lb) w.heap.size (A.heap.size + 1) A.heap.size) B lB (AnyZ.ap_abides ρ _ _ _ _ _ _ _ lB.size) (fun _ _ h => h.below)
   (fun pre x W hJ hl => AnyZ.apYield { L with } F (n - 1 - 1) w fn hfn _ w.heap.size (A.heap.size + 1) A.heap.size (by omega) (by omega) (by omega) (Nat.le_refl _) (by omega) N hN hNb pre x W hJ hl) start).mono ?_
  rintro e C ⟨⟨v0, rfl⟩, ss, hS, hC⟩
  obtain ⟨v, hv, hrow, hnil⟩ := hC.box
  have hend := run_endLoop (P := Tryz.prog) hC.L (by simp [AnyZ.apRec])
  obtain ⟨D, hD⟩ : ∃ D, C.putObj (A.heap.size + 1) (.loop { AnyZ.apRec ρ fn (.func (.func g) #[] lb) w.heap.size A.heap.size .ready none with state := .exhausted }) = D := ⟨_, rfl⟩
  rw [hD] at hend
  have gD : C.grownBy D (some (A.heap.size + 1)) := by rw [<- hD]; exact grownBy_putObj_a _ _ _
  have vD : D.heap[w.heap.size]? = some (.cells #[v] (ρ.t 24) (0, 0)) := by rw [<- hD]; exact (World.putObj_heap_other (by omega)).trans hv
  have kD : D.heap[A.heap.size]? = some (.deferred (some [])) := by rw [<- hD]; exact (World.putObj_heap_other (by omega)).trans hC.K
  have rD := hrow.kept gD (ownsRow_ne_a hrow hC.L (fun cur e => by first | cases e | exact hne (Obj.cells.inj e).2.1))
  have lD : Below w.heap.size w D := hC.below.grown gD hC.below.size (fun k e => by cases e; omega)
  obtain ⟨hc3, hf3⟩ := cell_of_box_a vD
  clear hD
  refine ⟨none, D, hend, ?_⟩
  gi_wp2
  rw [<- sA]
  refine ⟨by simp, .inl ⟨_, _, rfl, run_takeDeferred kD, ?_⟩⟩
  exact ⟨_, results_tmp rfl _ _ _, v, ss, rfl, hS, rD.kept (grownBy_putObj_a _ _ _) (ownsRow_ne_a rD kD (fun cur e => by first | cases e | exact hne (Obj.cells.inj e).2.1)), lD.grown (grownBy_putObj_a _ _ _) lD.size (fun k e => by cases e; omega)⟩
end
set_option maxHeartbeats 4000000
section
open Go PG Go.Proofs Go.RowKit Go.Shelf
theorem kMY {w : World} {ex : Nat -> Prop} {v : Value} {s : St} (h : jAW w ex v (.str s)) : v = encStr s := by
 generalize hp : PV.str s = p at h
 cases h <;> cases hp
 rename_i b
 simp [encStr]
theorem kIW (F : Fence) (n : Nat) (h57 : F.fn 61) (hro : F.round = none) (hn : 1 <= n) (w : World) (ex : Nat -> Prop) (Bs o : Nat) (sv : Value) (xs : List St) (hl : xs.length <= 1000000000) (hB : Bs < w.heap.size) (hc : w.cell? ⟨Bs, o, none⟩ = some sv) (hr : jAW w ex sv (txL xs)) :
  Gives F n 61 #[.pointer (some ⟨Bs, o, none⟩)] (fun ss => ss = xs) xs.length w := by
 intro l J W hW hJ hJB hY h0
 have hcW := (hW.cell (p := ⟨Bs, o, none⟩) hB).trans hc
 generalize hp : txL xs = p at hr
 cases hr <;> cases hp
 rename_i ad len cap b off val hcap hmax hlen ha hcl hvl hfit
 have hlen : len = xs.length := by simpa using hlen
 subst hlen
 rcases xs.eq_nil_or_concat with rfl | ⟨ys, y, rfl⟩
 ·refine (jTB F n h57 hro l Bs o J W _ _ hcW h0).mono ?_
  rintro e W' ⟨he, hj⟩
  exact ⟨he, [], rfl, hj⟩
 ·generalize hX : ys.concat y = xs at *
  have hne : xs ≠ [] := by rw [<- hX]; simp
  have ha := ha (by simpa using hne)
  subst ha
  have hfl : flat (xs.map PV.str) = xs.map PV.str := jGB (fun x hx => by obtain ⟨s, -, rfl⟩ := List.mem_map.1 hx; rfl)
  rw [hfl] at hcl hvl
  have hcells : ∀ j, j < xs.length -> w.cell? ⟨b, off + j, none⟩ = some (encStr (xs[j]?.getD [])) := fun j hj => by
   obtain ⟨-, h1⟩ := hcl j (by simpa using hj)
   have h2 := hvl j (.str xs[j]) (by simp [hj])
   rw [h1, kMY h2]
   simp [hj]
  have hb : b < w.heap.size := World.block_lt_of_cell? _ _ (hcells 0 (List.length_pos_iff.2 hne))
  refine (kHV F n h57 hro hn l Bs o w.heap.size b off xs.length cap w xs hl hb J hJB hY W hcW hcells h0).mono ?_
  rintro e W' ⟨he, hj⟩
  rw [upto_all] at hj
  exact ⟨he, xs, rfl, hj⟩
theorem kFR : ∀ args w, (callFunc 61 args).run Tryz.prog w = .ok (.enter 61 args) w := enters_of Tryz.func61 (by kernel_rfl) rfl
abbrev kNH (xs : List St) : PV := .fn 61 [] [.jC2 none (txL xs) 0]
open Go.Sort Go.RowKit in
theorem kH1 (w : World) (ex : Nat -> Prop) (a : St) : jAW w ex (encStr a) (.str a) := by
 have := jAW.str (w := w) (ex := ex) ⟨a.toArray⟩
 simpa [encStr] using this
theorem E93 : Ent Tryz.prog 93 := ⟨Tryz.f93, Tryz.func93, by kernel_rfl, by kernel_rfl⟩
theorem kRV (xs : List St) (hl : xs.length <= 1000000000) : jEW Tryz.prog G0 93 [.jAH, kNH xs] (fun p ν => p = .sl none 0 (xs.map PV.str).length ∧ ν = [some (.row none (xs.map PV.str))]) := by
 refine jEW.row 9 (fun x hx => by obtain ⟨s, -, rfl⟩ := List.mem_map.1 hx; exact ⟨by simp [PV.scalar], by simp [PV.flat]⟩) ?_
 intro w ex vs hex hG hr
 obtain ⟨hs, hr⟩ := hr
 obtain ⟨L⟩ := vs
 match L, hs with
 | [v0, v], _ =>
  have h0 := hr 0 v0 _ rfl rfl
  have h1 := hr 1 v _ rfl rfl
  cases h0
  cases h1 with
  | fn _ first caps _ _ g1 g2 g3 g4 =>
  obtain ⟨L1⟩ := first
  obtain ⟨L2⟩ := caps
  match L1, g1 with
  | [], _ =>
  match L2, g2 with
  | [u], _ =>
  have hu := g4 0 u _ rfl rfl
  cases hu with
  | jC2 b o _ _ _ val hfit hoff hc hrl =>
  have hc0 := (hc 0 (by simp [PV.cells])).2
  have hr0 := hrl 0 (txL xs) rfl
  have hB : b < w.heap.size := World.block_lt_of_cell? _ _ hc0
  have hg : Gives Fence.wide 1 61 #[.pointer (some ⟨b, o + 0, none⟩)] (fun ss => ss = xs) xs.length w := by
   exact kIW Fence.wide 1 trivial rfl (Nat.le_refl 1) w ex b (o + 0) (val 0) xs hl hB hc0 hr0
  have hm : xs.length <= maxLen := by unfold maxLen; omega
  have := kJ7 Tryz.apseqA Fence.wide 2 trivial rfl (by omega) 61 #[.pointer (some ⟨b, o + 0, none⟩)] trivial kFR (fun ss => ss = xs) xs.length hm (by omega) w hg
  refine (callsIn_wide (n := 2)).1 (this.mono ?_)
  rintro e w' ⟨v, ss, rfl, rfl, hrow, hB'⟩
  have hrow' : w'.ownsRow w.heap.size 9 1 v ss.length (ss.map encStr) := hrow
  refine ⟨v, _, rfl, by simpa using hrow', fun j p u hp hu => ?_, hB'⟩
  rw [List.getElem?_map] at hp hu
  cases hq : ss[j]? with
  | none => rw [hq] at hp; cases hp
  | some s =>
   rw [hq] at hp hu
   simp only [Option.map_some, Option.some.injEq] at hp hu
   subst hp; subst hu
   exact kH1 _ _ s
end
theorem E60 : Ent Tryz.prog 60 := ⟨Tryz.f60, Tryz.func60, by kernel_rfl, by kernel_rfl⟩
theorem kRW (xs : List St) (hl : xs.length <= 1000000000) : jEW Tryz.prog G0 60 [kNH xs] (fun p ν => p = .sl none 0 (xs.map PV.str).length ∧ ν = [some (.row none (xs.map PV.str))]) := by
 refine jEW.jAT Tryz.func60 k60 mix (by simp [c60]) ?_
 simp only [c60, L60, CC, jBW]
 have h69 := kRV xs hl
 repeat' (first | exact clo | (refine sqI ?_; intros) | refine stp ?_ | (refine cnd rfl ?_ ?_ <;> intro hcond <;> (try contradiction) <;> try simp only [DD] at hcond) | (refine jWO E93 (h69) (by simp [PV.jA5]) ?_; simp only [SA, reduceAdd, reduceIte, reduceEqDiff, Nat.reduceBEq, reduceCtorEq]; (try go_unwrap; try simp only [RR, reduceCtorEq])) | (refine jAG ?_; intro hg; try simp only [hg]) | (refine saI ?_ ?_; intros) | (refine ari ?_; first | omega | (simp only [DD, LL] <;> omega) | (go_unwrap; omega) | (simp only [DD] at hg; omega)) | (refine stq ?_; focus (simp only [SA, reduceAdd, reduceIte, reduceEqDiff, Nat.reduceBEq, reduceCtorEq]; (try go_unwrap; try simp only [RR, reduceCtorEq]))) | refine And.intro ?_ ?_)
 all_goals first | (simp; done) | skip
theorem V41 (xs : List St) (hl : xs.length <= 1000000000) : jAB Tryz.prog G0 41 [kNH xs] (txL (jBY xs)) := by
 refine jAB.jAT Tryz.func41 k41 mix (by simp [c41]) ?_
 simp only [c41, L41, CC, jBW]
 have h56 := kRW xs hl
 have h36 := kPU (μ := [some (.row none (xs.map PV.str))]) (t := 0) xs (by omega) rfl
 have hlen : ((xs.map PV.str).length : Nat) = xs.length := by simp
 have hsl : ((jBY xs).map PV.str).length = xs.length := by simp [jJZ]
 have htk : ((jBY xs).map PV.str).take xs.length = (jBY xs).map PV.str := List.take_of_length_le (by omega)
 rw [hlen] at h56
 repeat' (first | exact clo | (refine sqI ?_; intros) | refine stp ?_ | (refine cnd rfl ?_ ?_ <;> intro hcond <;> (try contradiction) <;> try simp only [DD] at hcond) | (refine jWO E60 (h56) (by simp [hsl, htk, Nat.le_refl, and_self, if_true, PV.jA5]) ?_; simp only [hsl, htk, Nat.le_refl, and_self, if_true, SA, reduceAdd, reduceIte, reduceEqDiff, Nat.reduceBEq, reduceCtorEq]; (try go_unwrap; try simp only [hsl, htk, Nat.le_refl, and_self, if_true, RR, reduceCtorEq])) | (refine jCS E25 h36 ?_; rintro p μ' ⟨rfl, rfl⟩; simp only [hsl, htk, Nat.le_refl, and_self, if_true, SA, reduceAdd, reduceIte, reduceEqDiff, Nat.reduceBEq, reduceCtorEq]) | (refine jAG ?_; intro hg; try simp only [hg]) | (refine saI ?_ ?_; intros) | (refine ari ?_; first | omega | (simp only [DD, LL] <;> omega) | (go_unwrap; omega) | (simp only [DD] at hg; omega)) | (refine stq ?_; focus (simp only [hsl, htk, Nat.le_refl, and_self, if_true, SA, reduceAdd, reduceIte, reduceEqDiff, Nat.reduceBEq, reduceCtorEq]; (try go_unwrap; try simp only [hsl, htk, Nat.le_refl, and_self, if_true, RR, reduceCtorEq]))) | refine And.intro ?_ ?_)
theorem V42 (xs : List St) : jAB Tryz.prog G0 42 [txL xs] (kNH xs) := by
 refine jAB.jAT Tryz.func42 k42 mix (by simp [c42]) ?_
 simp only [c42, L42, CC, jBW]
 repeat' (first | exact clo | (refine PW.stop (x := .seq (.region false (⟨some 3, none, .rd (.jTR 61 0) [.tmp 1]⟩ :: _) _) _) ?_) | (refine sqI ?_; intros) | refine stp ?_ | (refine cnd rfl ?_ ?_ <;> intro hcond <;> (try contradiction) <;> try simp only [DD] at hcond) | (refine jAG ?_; intro hg; try simp only [hg]) | (refine saI ?_ ?_; intros) | (refine ari ?_; first | omega | (simp only [DD, LL] <;> omega) | (go_unwrap; omega) | (simp only [DD] at hg; omega)) | (refine stq ?_; focus (simp only [SA, reduceAdd, reduceIte, reduceEqDiff, Nat.reduceBEq, reduceCtorEq]; (try go_unwrap; try simp only [RR, reduceCtorEq]))) | refine And.intro ?_ ?_)
 refine ⟨?_⟩
 refine PW.kQX 1 0 none _ rfl rfl (by simp [fits, PV.scalar]) (by intro c hc; simp only [PV.cells, List.mem_cons, List.not_mem_nil, or_false] at hc; subst hc; simp [PV.jA5]) rfl ?_
 simp only [kHH, jJP, List.map_cons, List.map_nil, PV.frz, jAF.frz, jPF, jFC, SA, reduceAdd, reduceIte, reduceEqDiff, Nat.reduceBEq, reduceCtorEq]
 repeat' (first | exact clo | (refine sqI ?_; intros) | refine stp ?_ | (refine cnd rfl ?_ ?_ <;> intro hcond <;> (try contradiction) <;> try simp only [DD] at hcond) | (refine jAG ?_; intro hg; try simp only [hg]) | (refine saI ?_ ?_; intros) | (refine ari ?_; first | omega | (simp only [DD, LL] <;> omega) | (go_unwrap; omega) | (simp only [DD] at hg; omega)) | (refine stq ?_; focus (simp only [List.take_zero, List.drop_zero, SA, reduceAdd, reduceIte, reduceEqDiff, Nat.reduceBEq, reduceCtorEq]; (try go_unwrap; try simp only [List.take_zero, List.drop_zero, RR, reduceCtorEq]))) | refine And.intro ?_ ?_)
 all_goals first | rfl | (simp [PV.seen, PV.view]; done)
theorem E40 : Ent Tryz.prog 40 := ⟨Tryz.f40, Tryz.func40, by kernel_rfl, by kernel_rfl⟩
theorem V40 (a b : List St) (hl : a.length <= 9223372036854775807) : jAB Tryz.prog G0 40 [txL a, txL b] (.bool (decide (a = b))) := by
 refine jAB.jAT Tryz.func40 k40 mix (by simp [c40]) ?_
 simp only [c40, L40, CC, jBW]
 have ha : ((a.map PV.str).length : Nat) = a.length := by simp
 have hb : ((b.map PV.str).length : Nat) = b.length := by simp
 by_cases hab : a.length = b.length
 case neg =>
  have d1 : decide ((a.length : Int) = b.length) = false := by simp only [decide_eq_false_iff_not]; omega
  have : decide (a = b) = false := by simp only [decide_eq_false_iff_not]; intro h; rw [h] at hab; exact hab rfl
  rw [this]
  repeat' (first | exact clo | (refine sqI ?_; intros) | refine stp ?_ | (refine cnd rfl ?_ ?_ <;> intro hcond <;> (try contradiction) <;> try simp only [DD] at hcond) | (refine jAG ?_; intro hg; try simp only [hg]) | (refine saI ?_ ?_; intros) | (refine ari ?_; first | omega | (simp only [DD, LL] <;> omega) | (go_unwrap; omega) | (simp only [DD] at hg; omega)) | (refine stq ?_; focus (simp only [ha, hb, d1, SA, reduceAdd, reduceIte, reduceEqDiff, Nat.reduceBEq, reduceCtorEq]; (try go_unwrap; try simp only [ha, hb, d1, RR, reduceCtorEq]))) | refine And.intro ?_ ?_)
 have d1 : decide ((a.length : Int) = b.length) = true := by simp only [decide_eq_true_eq]; omega
 repeat' (first | exact clo | (refine sqI ?_; intros) | refine stp ?_ | (refine cnd rfl ?_ ?_ <;> intro hcond <;> (try contradiction) <;> try simp only [DD] at hcond) | (refine jAG ?_; intro hg; try simp only [hg]) | (refine saI ?_ ?_; intros) | (refine ari ?_; first | omega | (simp only [DD, LL] <;> omega) | (go_unwrap; omega) | (simp only [DD] at hg; omega)) | (refine stq ?_; focus (simp only [ha, hb, d1, SA, reduceAdd, reduceIte, reduceEqDiff, Nat.reduceBEq, reduceCtorEq]; (try go_unwrap; try simp only [ha, hb, d1, RR, reduceCtorEq]))) | refine And.intro ?_ ?_)
 refine PW.loop (σ := Nat) [0, 1, 4, 12, 13] (fun i => [txL a, txL b, .bool false, .int .i64 a.length, .int .i64 i]) (fun _ => []) (fun i => i <= a.length ∧ ∀ j (h : j < a.length) (h' : j < b.length), j < i -> a[j] = b[j]) (fun i => a.length - i) 0 ?_ rfl ⟨by omega, fun j _ _ h => by omega⟩ ?_
 ·simp only [SA, reduceAdd, reduceIte, reduceEqDiff, Nat.reduceBEq, reduceCtorEq]; rfl
 rintro i ⟨hi, hall⟩
 simp only [List.zip_cons_cons, List.zip_nil_left]
 rcases Nat.lt_or_ge i a.length with h | h
 ·have hd : decide ((i : Int) < a.length) = true := by simp only [decide_eq_true_eq]; omega
  have hga := jD9 a i h
  have hgb := jD9 b i (by omega)
  have hno : a[i] ≠ b[i] -> decide (a = b) = false := fun hne => by
   simp only [decide_eq_false_iff_not]; intro e; subst e; exact hne rfl
  have hnx : a[i] = b[i] -> ∀ j (h : j < a.length) (h' : j < b.length), j < i + 1 -> a[j] = b[j] := fun hp j hj hj' hji => by
   rcases Nat.lt_or_ge j i with h' | h'
   ·exact hall j hj hj' h'
   ·obtain rfl : j = i := by omega
    exact hp
  generalize a[i] = x at hga hno hnx
  generalize b[i] = y at hgb hno hnx
  by_cases he : x = y
  ·have d2 : decide (x = y) = true := by simpa using he
   repeat' (first | exact clo | (refine sqI ?_; intros) | refine stp ?_ | (refine cnd rfl ?_ ?_ <;> intro hcond <;> (try contradiction) <;> try simp only [DD] at hcond) | (refine jAG ?_; intro hg; try simp only [hg]) | (refine saI ?_ ?_; intros) | (refine ari ?_; first | omega | (simp only [DD, LL] <;> omega) | (go_unwrap; omega) | (simp only [DD] at hg; omega)) | (refine stq ?_; focus (simp only [hd, hga, hgb, ha, hb, d2, SA, reduceAdd, reduceIte, reduceEqDiff, Nat.reduceBEq, reduceCtorEq]; (try go_unwrap; try simp only [hd, hga, hgb, ha, hb, d2, RR, reduceCtorEq]))) | refine And.intro ?_ ?_)
   all_goals exact ⟨i + 1, rfl, ⟨by omega, hnx he⟩, by omega⟩
  ·have d2 : decide (x = y) = false := by simpa using he
   have := hno he
   repeat' (first | exact clo | (refine sqI ?_; intros) | refine stp ?_ | (refine cnd rfl ?_ ?_ <;> intro hcond <;> (try contradiction) <;> try simp only [DD] at hcond) | (refine jAG ?_; intro hg; try simp only [hg]) | (refine saI ?_ ?_; intros) | (refine ari ?_; first | omega | (simp only [DD, LL] <;> omega) | (go_unwrap; omega) | (simp only [DD] at hg; omega)) | (refine stq ?_; focus (simp only [hd, hga, hgb, ha, hb, d2, SA, reduceAdd, reduceIte, reduceEqDiff, Nat.reduceBEq, reduceCtorEq]; (try go_unwrap; try simp only [hd, hga, hgb, ha, hb, d2, RR, reduceCtorEq]))) | refine And.intro ?_ ?_)
   all_goals (rw [this])
 ·have hd : decide ((i : Int) < a.length) = false := by simp only [decide_eq_false_iff_not]; omega
  have : decide (a = b) = true := by
   rw [decide_eq_true_eq]; exact kPF hab fun j h1 h2 => hall j h1 h2 (by omega)
  repeat' (first | exact clo | (refine sqI ?_; intros) | refine stp ?_ | (refine cnd rfl ?_ ?_ <;> intro hcond <;> (try contradiction) <;> try simp only [DD] at hcond) | (refine jAG ?_; intro hg; try simp only [hg]) | (refine saI ?_ ?_; intros) | (refine ari ?_; first | omega | (simp only [DD, LL] <;> omega) | (go_unwrap; omega) | (simp only [DD] at hg; omega)) | (refine stq ?_; focus (simp only [hd, ha, hb, SA, reduceAdd, reduceIte, reduceEqDiff, Nat.reduceBEq, reduceCtorEq]; (try go_unwrap; try simp only [hd, ha, hb, RR, reduceCtorEq]))) | refine And.intro ?_ ?_)
  all_goals (rw [this])
theorem E41 : Ent Tryz.prog 41 := ⟨Tryz.f41, Tryz.func41, by kernel_rfl, by kernel_rfl⟩
theorem E42 : Ent Tryz.prog 42 := ⟨Tryz.f42, Tryz.func42, by kernel_rfl, by kernel_rfl⟩
theorem jZV (l : List Ed) : ((jGM l).map (·.1)).Nodup := by
 have key : ∀ i, i <= l.length -> ((jGM (l.take i)).map (·.1)).Nodup := by
  intro i
  induction i with
  | zero => intro _; simp [jGM]
  | succ i ih => intro h; rw [jOL l i (by omega)]; exact jJC (ih (by omega)) _ _
 have := key l.length (Nat.le_refl _)
 rwa [List.take_length] at this
theorem jTE {l : List Ed} (hw : jAN l = 0) (s : St) (ns : List St) : (s, ns) ∈ jGM l ↔ s ∈ nsM l ∧ ns = ndM l s := by
 constructor
 ·intro h
  have := jKE (jZV l) h
  rw [jKK hw] at this
  split at this
  ·rename_i hs; cases this; exact ⟨hs, rfl⟩
  ·cases this
 ·rintro ⟨hs, rfl⟩
  exact jHF (by rw [jKK hw, if_pos hs])
def jYA (o : List St) : Nat -> List (St × Int)
 | 0 => []
 | i + 1 => jIN (jYA o i) (o.getD i []) i
theorem kBG {o : List St} (hn : o.Nodup) (s : St) : ∀ n, n <= o.length -> jCA (jYA o n) s = if s ∈ o.take n then some (o.idxOf s : Int) else none
 | 0, _ => by simp [jYA, jCA]
 | n + 1, h => by
  have h' : n < o.length := by omega
  have hg : o.getD n [] = o[n] := by simp [List.getD, h']
  rw [jYA, jDT, hg, kBG hn s n (by omega), List.take_succ_eq_append_getElem h']
  by_cases hs : s = o[n]
  ·rw [if_pos hs, if_pos (List.mem_append.2 (.inr (by rw [hs]; exact List.mem_singleton.2 rfl))), hs, kLQ hn n h']
  ·rw [if_neg hs]
   have : (s ∈ o.take n ++ [o[n]]) ↔ s ∈ o.take n := ⟨fun h => (List.mem_append.1 h).elim id (fun h => absurd (List.mem_singleton.1 h) hs), fun h => List.mem_append.2 (.inl h)⟩
   simp only [this]
def okE (o : List St) (q : St × List St) : Bool := q.2.all fun x => !decide (x ∈ o) || decide (o.idxOf x < o.idxOf q.1)
theorem kBB {l : List Ed} (hw : jAN l = 0) (o : List St) (hs : jBY o = nsM l) : jE5 l o = (jGM l).all (okE o) := by
 rw [Bool.eq_iff_iff, jQR, List.all_eq_true]
 constructor
 ·rintro ⟨-, -, h⟩ ⟨s, ns⟩ hq
  obtain ⟨h1, rfl⟩ := (jTE hw s ns).1 hq
  unfold okE
  rw [List.all_eq_true]
  intro x hx
  by_cases hm : x ∈ o
  ·simp [hm, h s h1 x hx hm]
  ·simp [hm]
 ·intro h
  refine ⟨hw, hs, fun s h1 x hx hm => ?_⟩
  have := h (s, ndM l s) ((jTE hw s _).2 ⟨h1, rfl⟩)
  unfold okE at this
  rw [List.all_eq_true] at this
  simpa [hm] using this x hx
theorem V13 (l : List Ed) (hl : l.length <= 1000000000) (hnl : ∀ e ∈ l, e.needs.length <= 9223372036854775807) (o : List St) (hol : o.length <= 1000000000) : jAB Tryz.prog G0 13 [txL o, edL l] (.bool (jE5 l o)) := by
 refine jAB.jAT Tryz.func13 k13 mix (by simp [c13]) ?_
 simp only [c13, L13, CC, jBW]
 have h27 := V33 l (by omega) hnl
 have h28 := V32 l (by omega)
 have h29 := V35 l hl
 have h46 := V42 o
 have h45 := V41 o hol
 have h44 := V40 (jBY o) (nsM l) (by rw [jJZ]; omega)
 by_cases hw : jAN l = 0
 case neg =>
  have d1 : decide (jAN l = 0) = false := by simpa using hw
  have hX : jE5 l o = false := (jXR hw).2.2 o
  repeat' (first | exact clo | (refine sqI ?_; intros) | refine stp ?_ | (refine cnd rfl ?_ ?_ <;> intro hcond <;> (try contradiction) <;> try simp only [DD] at hcond) | (refine jCL rfl ?_; simp only [d1, SA, reduceAdd, reduceIte, reduceEqDiff, Nat.reduceBEq, reduceCtorEq]; (try go_unwrap; try simp only [d1, RR, reduceCtorEq])) | (refine jAG ?_; intro hg; try simp only [hg]) | refine jAA E33 (h27) ?_ ?_ ?_ ?_ | (refine saI ?_ ?_; intros) | (refine ari ?_; first | omega | (simp only [DD, LL] <;> omega) | (go_unwrap; omega) | (simp only [DD] at hg; omega)) | (refine stq ?_; focus (simp only [d1, SA, reduceAdd, reduceIte, reduceEqDiff, Nat.reduceBEq, reduceCtorEq]; (try go_unwrap; try simp only [d1, RR, reduceCtorEq]))) | refine And.intro ?_ ?_)
  all_goals (rw [hX])
 rw [hw] at h27
 by_cases hs : jBY o = nsM l
 case neg =>
  have hX : jE5 l o = false := by unfold jE5; rw [decide_eq_false hs]; simp
  rw [decide_eq_false hs] at h44
  repeat' (first | exact clo | (refine sqI ?_; intros) | refine stp ?_ | (refine cnd rfl ?_ ?_ <;> intro hcond <;> (try contradiction) <;> try simp only [DD] at hcond) | (refine jAG ?_; intro hg; try simp only [hg]) | refine jAA E33 (h27) ?_ ?_ ?_ ?_ | refine jFB E42 (h46) ?_ ?_ ?_ ?_ ?_ | refine jFB E41 (h45) ?_ ?_ ?_ ?_ ?_ | refine jFB E35 (h29) ?_ ?_ ?_ ?_ ?_ | refine jAY E40 (h44) ?_ ?_ ?_ ?_ ?_ | (refine saI ?_ ?_; intros) | (refine ari ?_; first | omega | (simp only [DD, LL] <;> omega) | (go_unwrap; omega) | (simp only [DD] at hg; omega)) | (refine stq ?_; focus (simp only [SA, reduceAdd, reduceIte, reduceEqDiff, Nat.reduceBEq, reduceCtorEq]; (try go_unwrap; try simp only [RR, reduceCtorEq]))) | refine And.intro ?_ ?_)
  all_goals (rw [hX])
 have hX := kBB hw o hs
 rw [decide_eq_true hs] at h44
 have hon : o.Nodup := (jQY hs).nodup_iff.2 (jI0 hw).nodup
 have hTm := jTE hw
 have hNo : ∀ s, s ∈ nsM l -> s ∈ o := fun s h => (jQY hs).mem_iff.2 h
 have hbd := fun s => jUD hw s
 have hTl : ∀ s ns, (s, ns) ∈ jGM l -> s ∈ o ∧ ns.length <= 1000000 := fun s ns h => by
  obtain ⟨h1, rfl⟩ := (hTm s ns).1 h
  exact ⟨hNo s h1, hbd s⟩
 obtain ⟨R, hR⟩ : ∃ R, jE5 l o = R := ⟨_, rfl⟩
 rw [hR] at hX ⊢
 clear hTm hNo hbd hR
 generalize jGM l = T at h28 hX hTl
 have ho : ((o.map PV.str).length : Nat) = o.length := by simp
 repeat' (first | exact clo | (refine sqI ?_; intros) | refine stp ?_ | (refine cnd rfl ?_ ?_ <;> intro hcond <;> (try contradiction) <;> try simp only [DD] at hcond) | (refine jAG ?_; intro hg; try simp only [hg]) | refine jAA E33 (h27) ?_ ?_ ?_ ?_ | refine jFB E42 (h46) ?_ ?_ ?_ ?_ ?_ | refine jFB E41 (h45) ?_ ?_ ?_ ?_ ?_ | refine jFB E35 (h29) ?_ ?_ ?_ ?_ ?_ | refine jAY E40 (h44) ?_ ?_ ?_ ?_ ?_ | refine jAA E32 (h28) ?_ ?_ ?_ ?_ | (refine saI ?_ ?_; intros) | (refine ari ?_; first | omega | (simp only [DD, LL] <;> omega) | (go_unwrap; omega) | (simp only [DD] at hg; omega)) | (refine stq ?_; focus (simp only [ho, SA, reduceAdd, reduceIte, reduceEqDiff, Nat.reduceBEq, reduceCtorEq]; (try go_unwrap; try simp only [ho, RR, reduceCtorEq]))) | refine And.intro ?_ ?_)
 refine PW.jDV (σ := Nat) 1 (fun _ _ => rfl) [4, 5, 6, 30, 31, 32] (fun i => [.bool false, .jC9 .str (jB4 jH7 T), .mref 0, txL o, .int .i64 o.length, .int .i64 i])
  (fun i => [some (.mp .str (jB4 jDE (jYA o i)))]) (fun i => i <= o.length) (fun i => o.length - i) 0 ?_ rfl (by omega) ?_
 ·simp only [SA, reduceAdd, reduceIte, reduceEqDiff, Nat.reduceBEq, reduceCtorEq]; rfl
 rintro i hi
 simp only [List.zip_cons_cons, List.zip_nil_left]
 rcases Nat.lt_or_ge i o.length with h | h
 ·have hd : decide ((i : Int) < o.length) = true := by simp only [decide_eq_true_eq]; omega
  have hg := jD9 o i h
  have hp : jYA o (i + 1) = jIN (jYA o i) o[i] i := by rw [jYA]; simp [List.getD, h]
  generalize o[i] = s at hg hp
  have s1 : jF7 (jB4 jDE (jYA o i)) (.str s) (.int .i64 i) = jB4 jDE (jYA o (i + 1)) := by rw [hp]; exact jD2 jDE _ _ _
  repeat' (first | exact clo | (refine sqI ?_; intros) | refine stp ?_ | (refine cnd rfl ?_ ?_ <;> intro hcond <;> (try contradiction) <;> try simp only [DD] at hcond) | (refine jAG ?_; intro hg; try simp only [hg]) | (refine saI ?_ ?_; intros) | (refine ari ?_; first | omega | (simp only [DD, LL] <;> omega) | (go_unwrap; omega) | (simp only [DD] at hg; omega)) | (refine stq ?_; focus (simp only [hd, hg, ho, s1, SA, reduceAdd, reduceIte, reduceEqDiff, Nat.reduceBEq, reduceCtorEq]; (try go_unwrap; try simp only [hd, hg, ho, s1, RR, reduceCtorEq]))) | refine And.intro ?_ ?_)
  all_goals first | rfl | exact ⟨i + 1, (by first | rfl | (simp only [TT, jAF.kill, PV.kill, Nat.reduceLeDiff, reduceIte, Nat.le_refl, Nat.zero_le, Nat.not_le, Nat.lt_irrefl]; done) | (simp [jBE, jAZ, jAF.kill, PV.kill]; done)), (by simp [jAZ, jAF.kill]), by omega, by omega⟩
 have hd : decide ((i : Int) < o.length) = false := by simp only [decide_eq_false_iff_not]; omega
 have hi' : i = o.length := by omega
 subst hi'
 have hpl := fun s => kBG hon s o.length (Nat.le_refl _)
 simp only [List.take_length] at hpl
 have hpl2 : ∀ s, (jFK (jB4 jDE (jYA o o.length)) (.str s)).getD (.int .i64 0) = .int .i64 (if s ∈ o then (o.idxOf s : Int) else 0) := fun s => by
  rw [jCR, hpl]; by_cases h : s ∈ o <;> simp [h]
 have kNX : ∀ s, (jFK (jB4 jDE (jYA o o.length)) (.str s)).isSome = decide (s ∈ o) := fun s => by
  rw [jTX, hpl]; by_cases h : s ∈ o <;> simp [h]
 generalize jYA o o.length = M at kNX hpl2
 repeat' (first | exact clo | (refine sqI ?_; intros) | refine stp ?_ | (refine cnd rfl ?_ ?_ <;> intro hcond <;> (try contradiction) <;> try simp only [DD] at hcond) | (refine jAG ?_; intro hg; try simp only [hg]) | (refine saI ?_ ?_; intros) | (refine ari ?_; first | omega | (simp only [DD, LL] <;> omega) | (go_unwrap; omega) | (simp only [DD] at hg; omega)) | (refine stq ?_; focus (simp only [hd, ho, SA, reduceAdd, reduceIte, reduceEqDiff, Nat.reduceBEq, reduceCtorEq]; (try go_unwrap; try simp only [hd, ho, RR, reduceCtorEq]))) | refine And.intro ?_ ?_)
 refine PW.jDV (σ := List Nat) 2 (fun _ _ => rfl) [4, 6, 42] (fun _ => [.bool false, .mref 0, .ref 1 0]) (fun s => [some (.mp .str (jB4 jDE M)), some (.iter .str (jB4 jH7 T) s)])
  (fun s => s.Nodup ∧ (∀ i ∈ s, ∃ h : i < T.length, okE o T[i] = true)) (fun s => jYT T.length s) [] ?_ rfl ⟨by simp, by simp⟩ ?_
 ·simp only [SA, reduceAdd, reduceIte, reduceEqDiff, Nat.reduceBEq, reduceCtorEq]; rfl
 rintro seen ⟨hi1, hi2⟩
 simp only [List.zip_cons_cons, List.zip_nil_left]
 repeat' (first | exact clo | (refine sqI ?_; intros) | refine stp ?_ | (refine cnd rfl ?_ ?_ <;> intro hcond <;> (try contradiction) <;> try simp only [DD] at hcond) | (refine jAG ?_; intro hg; try simp only [hg]) | (refine saI ?_ ?_; intros) | (refine ari ?_; first | omega | (simp only [DD, LL] <;> omega) | (go_unwrap; omega) | (simp only [DD] at hg; omega)) | (refine stq ?_; focus (simp only [jC3, SA, reduceAdd, reduceIte, reduceEqDiff, Nat.reduceBEq, reduceCtorEq]; (try go_unwrap; try simp only [jC3, RR, reduceCtorEq]))) | refine And.intro ?_ ?_)
 ·intro k hk hks
  refine ⟨by simp, ?_⟩
  obtain ⟨s', ns, hx, hmem, he1, he2⟩ := jT5 PV.str jH7 T hk
  obtain ⟨hso, kSE⟩ := hTl s' ns hmem
  have hTk : T[k] = (s', ns) := by
   have := List.getElem?_eq_getElem hk
   rw [this] at hx; exact Option.some.inj hx
  have hgood : okE o (s', ns) = true -> ∀ i ∈ seen ++ [k], ∃ h : i < T.length, okE o T[i] = true := fun hok i hi => by
   rcases List.mem_append.1 hi with h | h
   ·exact hi2 i h
   ·simp at h; subst h; exact ⟨hk, by rw [hTk]; exact hok⟩
  have hbad : okE o (s', ns) = false -> R = false := fun hok => by
   rw [hX, List.all_eq_false]; exact ⟨(s', ns), hmem, by rw [hok]; simp⟩
  have hnd' : (seen ++ [k]).Nodup := by
   rw [List.nodup_append]
   exact ⟨hi1, by simp, fun a ha b hb => by simp at hb; subst hb; intro e; subst e; exact hks ha⟩
  have hlt := jJ5 hk hks
  have hnL : ((ns.map PV.str).length : Nat) = ns.length := by simp
  clear hTk hmem hx hX hTl hi2
  repeat' (first | exact clo | (refine sqI ?_; intros) | refine stp ?_ | (refine cnd rfl ?_ ?_ <;> intro hcond <;> (try contradiction) <;> try simp only [DD] at hcond) | (refine jAG ?_; intro hg; try simp only [hg]) | (refine saI ?_ ?_; intros) | (refine ari ?_; first | omega | (simp only [DD, LL] <;> omega) | (go_unwrap; omega) | (simp only [DD] at hg; omega)) | (refine stq ?_; focus (simp only [he1, he2, jC3, hk, hnL, SA, reduceAdd, reduceIte, reduceEqDiff, Nat.reduceBEq, reduceCtorEq]; (try go_unwrap; try simp only [he1, he2, jC3, hk, hnL, RR, reduceCtorEq]))) | refine And.intro ?_ ?_)
  refine PW.jDV (σ := Nat) 2 (fun _ _ => rfl) [4, 6, 9, 42, 48, 49, 50] (fun j => [.bool false, .mref 0, .str s', .ref 1 0, txL ns, .int .i64 ns.length, .int .i64 j]) (fun _ => [some (.mp .str (jB4 jDE M)), some (.iter .str (jB4 jH7 T) (seen ++ [k]))])
   (fun j => j <= ns.length ∧ ∀ i (h : i < ns.length), i < j -> (!decide (ns[i] ∈ o) || decide (o.idxOf ns[i] < o.idxOf s')) = true) (fun j => ns.length - j) 0 ?_ rfl ⟨by omega, fun _ _ h => by omega⟩ ?_
  ·simp only [SA, reduceAdd, reduceIte, reduceEqDiff, Nat.reduceBEq, reduceCtorEq]; rfl
  rintro j ⟨hj, hall⟩
  simp only [List.zip_cons_cons, List.zip_nil_left]
  rcases Nat.lt_or_ge j ns.length with h | h
  ·have hd : decide ((j : Int) < ns.length) = true := by simp only [decide_eq_true_eq]; omega
   have hg := jD9 ns j h
   have hnx : (!decide (ns[j] ∈ o) || decide (o.idxOf ns[j] < o.idxOf s')) = true -> ∀ i (h : i < ns.length), i < j + 1 -> (!decide (ns[i] ∈ o) || decide (o.idxOf ns[i] < o.idxOf s')) = true := fun hp i hi hij => by
    rcases Nat.lt_or_ge i j with h' | h'
    ·exact hall i hi h'
    ·obtain rfl : i = j := by omega
     exact hp
   have hno : (!decide (ns[j] ∈ o) || decide (o.idxOf ns[j] < o.idxOf s')) = false -> R = false := fun hp => hbad (by
    unfold okE; rw [List.all_eq_false]; exact ⟨ns[j], List.getElem_mem h, by rw [hp]; simp⟩)
   generalize ns[j] = x at hg hnx hno
   have q1 := kNX x
   have q2 := hpl2 x
   have q3 := hpl2 s'
   rw [if_pos hso] at q3
   by_cases hxo : x ∈ o
   ·rw [decide_eq_true hxo] at q1 hnx hno
    rw [if_pos hxo] at q2
    by_cases hlt' : o.idxOf x < o.idxOf s'
    ·have d1 : decide ((o.idxOf s' : Int) <= o.idxOf x) = false := by simp only [decide_eq_false_iff_not]; omega
     have hnx := hnx (by simp [hlt'])
     repeat' (first | exact clo | (refine sqI ?_; intros) | refine stp ?_ | (refine cnd rfl ?_ ?_ <;> intro hcond <;> (try contradiction) <;> try simp only [DD] at hcond) | (refine jAG ?_; intro hg; try simp only [hg]) | (refine saI ?_ ?_; intros) | (refine ari ?_; first | omega | (simp only [DD, LL] <;> omega) | (go_unwrap; omega) | (simp only [DD] at hg; omega)) | (refine stq ?_; focus (simp only [hd, hg, hnL, q1, q2, q3, d1, jBQ, SA, reduceAdd, reduceIte, reduceEqDiff, Nat.reduceBEq, reduceCtorEq]; (try go_unwrap; try simp only [hd, hg, hnL, q1, q2, q3, d1, jBQ, RR, reduceCtorEq]))) | refine And.intro ?_ ?_)
     all_goals exact ⟨j + 1, (by first | rfl | (simp only [TT, jAF.kill, PV.kill, Nat.reduceLeDiff, reduceIte, Nat.le_refl, Nat.zero_le, Nat.not_le, Nat.lt_irrefl]; done) | (simp [jBE, jAZ, jAF.kill, PV.kill]; done)), (by simp [jAZ, jAF.kill]), ⟨by omega, hnx⟩, by omega⟩
    ·have d1 : decide ((o.idxOf s' : Int) <= o.idxOf x) = true := by simp only [decide_eq_true_eq]; omega
     have hR := hno (by simp [hlt'])
     repeat' (first | exact clo | (refine sqI ?_; intros) | refine stp ?_ | (refine cnd rfl ?_ ?_ <;> intro hcond <;> (try contradiction) <;> try simp only [DD] at hcond) | (refine jAG ?_; intro hg; try simp only [hg]) | (refine saI ?_ ?_; intros) | (refine ari ?_; first | omega | (simp only [DD, LL] <;> omega) | (go_unwrap; omega) | (simp only [DD] at hg; omega)) | (refine stq ?_; focus (simp only [hd, hg, hnL, q1, q2, q3, d1, jBQ, SA, reduceAdd, reduceIte, reduceEqDiff, Nat.reduceBEq, reduceCtorEq]; (try go_unwrap; try simp only [hd, hg, hnL, q1, q2, q3, d1, jBQ, RR, reduceCtorEq]))) | refine And.intro ?_ ?_)
     all_goals (rw [hR])
   ·rw [decide_eq_false hxo] at q1 hnx hno
    have hnx := hnx (by simp)
    repeat' (first | exact clo | (refine sqI ?_; intros) | refine stp ?_ | (refine cnd rfl ?_ ?_ <;> intro hcond <;> (try contradiction) <;> try simp only [DD] at hcond) | (refine jAG ?_; intro hg; try simp only [hg]) | (refine saI ?_ ?_; intros) | (refine ari ?_; first | omega | (simp only [DD, LL] <;> omega) | (go_unwrap; omega) | (simp only [DD] at hg; omega)) | (refine stq ?_; focus (simp only [hd, hg, hnL, q1, q2, q3, jBQ, SA, reduceAdd, reduceIte, reduceEqDiff, Nat.reduceBEq, reduceCtorEq]; (try go_unwrap; try simp only [hd, hg, hnL, q1, q2, q3, jBQ, RR, reduceCtorEq]))) | refine And.intro ?_ ?_)
    all_goals exact ⟨j + 1, (by first | rfl | (simp only [TT, jAF.kill, PV.kill, Nat.reduceLeDiff, reduceIte, Nat.le_refl, Nat.zero_le, Nat.not_le, Nat.lt_irrefl]; done) | (simp [jBE, jAZ, jAF.kill, PV.kill]; done)), (by simp [jAZ, jAF.kill]), ⟨by omega, hnx⟩, by omega⟩
  ·have hd : decide ((j : Int) < ns.length) = false := by simp only [decide_eq_false_iff_not]; omega
   have hok : okE o (s', ns) = true := by
    unfold okE; rw [List.all_eq_true]
    intro x hx
    obtain ⟨i, hi, rfl⟩ := List.getElem_of_mem hx
    have hi : i < ns.length := hi
    exact hall i hi (by omega)
   repeat' (first | exact clo | (refine sqI ?_; intros) | refine stp ?_ | (refine cnd rfl ?_ ?_ <;> intro hcond <;> (try contradiction) <;> try simp only [DD] at hcond) | (refine jAG ?_; intro hg; try simp only [hg]) | (refine saI ?_ ?_; intros) | (refine ari ?_; first | omega | (simp only [DD, LL] <;> omega) | (go_unwrap; omega) | (simp only [DD] at hg; omega)) | (refine stq ?_; focus (simp only [hd, hnL, SA, reduceAdd, reduceIte, reduceEqDiff, Nat.reduceBEq, reduceCtorEq]; (try go_unwrap; try simp only [hd, hnL, RR, reduceCtorEq]))) | refine And.intro ?_ ?_)
   all_goals exact ⟨seen ++ [k], (by first | rfl | (simp only [TT, jAF.kill, PV.kill, Nat.reduceLeDiff, reduceIte, Nat.le_refl, Nat.zero_le, Nat.not_le, Nat.lt_irrefl]; done) | (simp [jBE, jAZ, jAF.kill, PV.kill]; done)), (by simp [jAZ, jAF.kill]), ⟨hnd', hgood hok⟩, hlt⟩
 ·intro hall
  refine ⟨by simp, ?_⟩
  have hRt : R = true := by
   rw [hX, List.all_eq_true]
   intro q hq
   obtain ⟨i, hi, rfl⟩ := List.getElem_of_mem hq
   exact (hi2 i (hall i hi)).2
  repeat' (first | exact clo | (refine sqI ?_; intros) | refine stp ?_ | (refine cnd rfl ?_ ?_ <;> intro hcond <;> (try contradiction) <;> try simp only [DD] at hcond) | (refine jAG ?_; intro hg; try simp only [hg]) | (refine saI ?_ ?_; intros) | (refine ari ?_; first | omega | (simp only [DD, LL] <;> omega) | (go_unwrap; omega) | (simp only [DD] at hg; omega)) | (refine stq ?_; focus (simp only [SA, reduceAdd, reduceIte, reduceEqDiff, Nat.reduceBEq, reduceCtorEq]; (try go_unwrap; try simp only [RR, reduceCtorEq]))) | refine And.intro ?_ ?_)
  all_goals (rw [hRt])
end Go.Proofs.YthjkmhfiffojeaaGreatDoor
