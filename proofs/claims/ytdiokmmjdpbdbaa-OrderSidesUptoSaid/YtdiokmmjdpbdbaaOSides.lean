/-
  OrderSides: what any name needs, and what needs it, by any edges, is what the document says. Condition: what is read is of bulk at most 1048576 (the second form).
-/
import Derived.KernelRfl
import Derived.Test.YtdiokmmjdpbdbaaP1
import Derived.Test.YtdiokmmjdpbdbaaP2
import Derived.Test.YtdiokmmjdpbdbaaP3
import Derived.Test.YtdiokmmjdpbdbaaP4
import Derived.Test.YtdiokmmjdpbdbaaProg
import Derived.Test.YtdiokmmjdpbdbaaQ10
import Derived.Test.YtdiokmmjdpbdbaaQ11
import Derived.Test.YtdiokmmjdpbdbaaQ12
import Derived.Test.YtdiokmmjdpbdbaaQ13
import Derived.Test.YtdiokmmjdpbdbaaQ14
import Derived.Test.YtdiokmmjdpbdbaaQ15
import Derived.Test.YtdiokmmjdpbdbaaQ16
import Derived.Test.YtdiokmmjdpbdbaaQ17
import Derived.Test.YtdiokmmjdpbdbaaQ18
import Derived.Test.YtdiokmmjdpbdbaaQ22
import Derived.Test.YtdiokmmjdpbdbaaQ5
import Derived.Test.YtdiokmmjdpbdbaaQ6
import Derived.Test.YtdiokmmjdpbdbaaQ7
import Derived.Test.YtdiokmmjdpbdbaaQ8
import Derived.Test.YtdiokmmjdpbdbaaQ9
import Derived.Test.YtdiokmmjdpbdbaaRows
namespace Go.Proofs.Ytdiokmmjdpbdbaa
open Go PG Go.Proofs
set_option linter.unusedSimpArgs false
set_option linter.unusedVariables false
set_option maxHeartbeats 4000000
set_option maxRecDepth 100000
theorem bl_not (a b : St) : Op.bytesLess a b = false ↔ ¬ a < b := by rw [Go.Proofs.bytesLess_eq]; simp
def L37 : List Nat := [0, 1, 4, 5, 9, 18]
def c37 : CF := ⟨20,
  .seq (.region false [⟨some 4, none, .rd .mov [.pv (.int .i64 0)]⟩] L37)
  (.seq (.seq (.region false [⟨some 5, none, .rd .mov [.pv (.int .i64 0)]⟩] L37)
   (.block 0
    (.loop
      (.seq (.seq (.region false [⟨some 6, none, .rd .mov [.tmp 5]⟩,
           ⟨some 7, none, .rd .mov [.tmp 0]⟩,
           ⟨some 8, none, .rd .lenL [.tmp 7]⟩,
           ⟨some 9, none, .rd (.bin .lss) [.tmp 6, .tmp 8]⟩] L37)
        (.cond (.tmp 9)
         (.skip)
         (.exit 0)))
       (.seq (.block 1
         (.seq (.region false [⟨some 12, none, .rd .mov [.tmp 0]⟩,
             ⟨some 13, none, .rd .mov [.tmp 5]⟩,
             ⟨some 14, none, .rd (.idxAddr (some 2)) [.tmp 12, .tmp 13]⟩,
             ⟨some 15, none, .rd (.fldAddr 0) [.tmp 14]⟩,
             ⟨some 16, none, .rd (.load none) [.tmp 15]⟩,
             ⟨some 17, none, .rd .mov [.tmp 1]⟩,
             ⟨some 18, none, .rd (.bin .eql) [.tmp 16, .tmp 17]⟩] L37)
          (.cond (.tmp 18)
           (.seq (.region false [⟨some 19, none, .rd .mov [.tmp 5]⟩,
               ⟨some 4, none, .rd .mov [.tmp 19]⟩] L37)
            (.ret))
           (.skip))))
       (.region false [⟨some 10, none, .rd .mov [.tmp 5]⟩,
         ⟨some 11, none, .rd (.bin .add) [.tmp 10, .pv (.int .i64 1)]⟩,
         ⟨some 5, none, .rd .mov [.tmp 11]⟩] L37))))))
  (.seq (.region false [⟨some 4, none, .rd .mov [.pv (.int .i64 (-1))]⟩] L37)
  (.ret))),
  [.tmp 4]⟩

-- wagebook/wagebookref14.put
def L38 : List Nat := [0, 1, 4, 5, 17, 31]
def c38 : CF := ⟨45,
  .seq (.region false [⟨some 4, none, .rd .mov [.pv .nilSl]⟩] L38)
  (.seq (.region false [⟨some 5, none, .rd .mov [.pv (.int .i64 0)]⟩] L38)
  (.seq (.block 0
    (.loop
      (.seq (.seq (.region false [⟨some 6, none, .rd .mov [.tmp 5]⟩,
           ⟨some 7, none, .rd .mov [.tmp 0]⟩,
           ⟨some 8, none, .rd .lenL [.tmp 7]⟩,
           ⟨some 9, none, .rd (.bin .lss) [.tmp 6, .tmp 8]⟩,
           ⟨some 10, none, .rd .mov [.tmp 9]⟩,
           ⟨some 11, some (10, true), .rd .mov [.tmp 0]⟩,
           ⟨some 12, some (10, true), .rd .mov [.tmp 5]⟩,
           ⟨some 13, some (10, true), .rd (.idxAddr none) [.tmp 11, .tmp 12]⟩,
           ⟨some 14, some (10, true), .rd (.load none) [.tmp 13]⟩,
           ⟨some 15, some (10, true), .rd .mov [.tmp 1]⟩,
           ⟨some 16, some (10, true), .rd (.bin .lss) [.tmp 14, .tmp 15]⟩,
           ⟨some 17, none, .rd .pick [.tmp 10, .tmp 16, .pv (.bool false)]⟩] L38)
        (.cond (.tmp 17)
         (.skip)
         (.exit 0)))
       (.block 1
        (.region false [⟨some 18, none, .rd .mov [.tmp 5]⟩,
           ⟨some 19, none, .rd (.bin .add) [.tmp 18, .pv (.int .i64 1)]⟩,
           ⟨some 5, none, .rd .mov [.tmp 19]⟩] L38)))))
  (.seq (.seq (.region false [⟨some 20, none, .rd .mov [.tmp 5]⟩,
      ⟨some 21, none, .rd .mov [.tmp 0]⟩,
      ⟨some 22, none, .rd .lenL [.tmp 21]⟩,
      ⟨some 23, none, .rd (.bin .lss) [.tmp 20, .tmp 22]⟩,
      ⟨some 24, none, .rd .mov [.tmp 23]⟩,
      ⟨some 25, some (24, true), .rd .mov [.tmp 0]⟩,
      ⟨some 26, some (24, true), .rd .mov [.tmp 5]⟩,
      ⟨some 27, some (24, true), .rd (.idxAddr none) [.tmp 25, .tmp 26]⟩,
      ⟨some 28, some (24, true), .rd (.load none) [.tmp 27]⟩,
      ⟨some 29, some (24, true), .rd .mov [.tmp 1]⟩,
      ⟨some 30, some (24, true), .rd (.bin .eql) [.tmp 28, .tmp 29]⟩,
      ⟨some 31, none, .rd .pick [.tmp 24, .tmp 30, .pv (.bool false)]⟩] L38)
   (.cond (.tmp 31)
    (.seq (.region false [⟨some 32, none, .rd .mov [.tmp 0]⟩,
        ⟨some 4, none, .rd .mov [.tmp 32]⟩] L38)
     (.ret))
    (.skip)))
  (.seq (.regionA (.alt [⟨some 34, none, .rd .mov [.tmp 0]⟩,
      ⟨some 35, none, .rd .mov [.tmp 5]⟩,
      ⟨some 36, none, .rd (.slc none false true false) [.tmp 34, .tmp 35]⟩,
      ⟨some 38, none, .rd .mov [.tmp 1]⟩,
      ⟨some 41, none, .rd .mov [.tmp 0]⟩,
      ⟨some 42, none, .rd .mov [.tmp 5]⟩,
      ⟨some 43, none, .rd (.slc none true false false) [.tmp 41, .tmp 42]⟩]
     (.alt [⟨some 33, none, .eff (.lit none true) []⟩]
      (.alt [⟨some 37, none, .eff (.append none 16) [.tmp 33, .tmp 36]⟩,
        ⟨some 39, none, .eff (.lit none false) [.tmp 38]⟩,
        ⟨some 40, none, .eff (.append none 16) [.tmp 37, .tmp 39]⟩,
        ⟨some 44, none, .eff (.append none 16) [.tmp 40, .tmp 43]⟩,
        ⟨some 4, none, .rd .mov [.tmp 44]⟩]
       .done
       (.alt [⟨some 39, none, .eff (.lit none false) [.tmp 38]⟩,
         ⟨some 37, none, .eff (.append none 16) [.tmp 33, .tmp 36]⟩,
         ⟨some 40, none, .eff (.append none 16) [.tmp 37, .tmp 39]⟩,
         ⟨some 44, none, .eff (.append none 16) [.tmp 40, .tmp 43]⟩,
         ⟨some 4, none, .rd .mov [.tmp 44]⟩]
        .done
        .stop))
      (.alt [⟨some 39, none, .eff (.lit none false) [.tmp 38]⟩,
        ⟨some 33, none, .eff (.lit none true) []⟩,
        ⟨some 37, none, .eff (.append none 16) [.tmp 33, .tmp 36]⟩,
        ⟨some 40, none, .eff (.append none 16) [.tmp 37, .tmp 39]⟩,
        ⟨some 44, none, .eff (.append none 16) [.tmp 40, .tmp 43]⟩,
        ⟨some 4, none, .rd .mov [.tmp 44]⟩]
       .done
       .stop))
     .stop) L38)
  (.ret))))),
  [.tmp 4]⟩

-- slices.Contains[[]string,string]
def L51 : List Nat := [0, 2]
def c51 : CF := ⟨11,
  .seq (.region false [⟨some 2, none, .rd .mov [.pv (.bool false)]⟩] L51)
  (.seq (.region false [⟨some 3, none, .rd .mov [.tmp 0]⟩,
     ⟨some 4, none, .rd .lenS [.tmp 3]⟩,
     ⟨some 5, none, .rd (.bin .gtr) [.tmp 4, .pv (.int .i64 0)]⟩,
     ⟨some 6, none, .rd .mov [.tmp 5]⟩,
     ⟨some 7, some (6, true), .rd .mov [.tmp 0]⟩,
     ⟨some 8, some (6, true), .rd .lenS [.tmp 7]⟩,
     ⟨some 9, some (6, true), .rd (.bin .lss) [.tmp 8, .pv (.int .i64 33)]⟩,
     ⟨some 10, none, .rd .pick [.tmp 6, .tmp 9, .pv (.bool false)]⟩,
     ⟨some 2, none, .rd .mov [.tmp 10]⟩] L51)
  (.ret)),
  [.tmp 2]⟩

-- wagebook/order.wrong
theorem k37 : compileF Try.prog [] L37 Try.f37 = some c37 := by kernel_rfl
theorem k38 : compileF Try.prog [] L38 Try.f38 = some c38 := by kernel_rfl
theorem k51 : compileF Try.prog [] L51 Try.f51 = some c51 := by kernel_rfl
theorem e17 : Ent Try.prog 17 := ⟨Try.f17, Try.func17, by kernel_rfl, by kernel_rfl⟩
theorem e19 : Ent Try.prog 19 := ⟨Try.f19, Try.func19, by kernel_rfl, by kernel_rfl⟩
theorem e32 : Ent Try.prog 32 := ⟨Try.f32, Try.func32, by kernel_rfl, by kernel_rfl⟩
theorem e37 : Ent Try.prog 37 := ⟨Try.f37, Try.func37, by kernel_rfl, by kernel_rfl⟩
theorem e38 : Ent Try.prog 38 := ⟨Try.f38, Try.func38, by kernel_rfl, by kernel_rfl⟩
theorem e51 : Ent Try.prog 51 := ⟨Try.f51, Try.func51, by kernel_rfl, by kernel_rfl⟩
/-! Into some that rise -/
def atP (l : List (List UInt8)) (s : List UInt8) : Nat := (l.takeWhile fun x => Op.bytesLess x s).length
def putM (l : List (List UInt8)) (s : List UInt8) : List (List UInt8) := if l[atP l s]? = some s then l else l.take (atP l s) ++ s :: l.drop (atP l s)
theorem atP_le (l : List (List UInt8)) (s : List UInt8) : atP l s ≤ l.length := (List.takeWhile_sublist _).length_le
theorem atP_lt : ∀ (l : List (List UInt8)) (s : List UInt8) (i : Nat) (h : i < l.length), i < atP l s → Op.bytesLess l[i] s = true
  | x :: l, s, i, h, hi => by
    unfold atP at hi
    rw [List.takeWhile_cons] at hi
    split at hi
    · rename_i hx
      cases i with
      | zero => exact hx
      | succ i => exact atP_lt l s i (by simpa using h) (by unfold atP; simpa using hi)
    · simp at hi
theorem atP_eq : ∀ (l : List (List UInt8)) (s : List UInt8) (h : atP l s < l.length), Op.bytesLess l[atP l s] s = false
  | x :: l, s, h => by
    have hc : atP (x :: l) s = if Op.bytesLess x s = true then atP l s + 1 else 0 := by
      unfold atP; rw [List.takeWhile_cons]; split <;> simp
    by_cases hx : Op.bytesLess x s = true
    · have e : atP (x :: l) s = atP l s + 1 := by rw [hc, if_pos hx]
      have := atP_eq l s (by simp at h; omega)
      simp only [e, List.getElem_cons_succ]
      exact this
    · have e : atP (x :: l) s = 0 := by rw [hc, if_neg hx]
      simp only [e, List.getElem_cons_zero]
      simpa using hx
theorem putM_len (l : List (List UInt8)) (s : List UInt8) : (putM l s).length ≤ l.length + 1 := by
  unfold putM; split
  · omega
  · have := atP_le l s; simp; omega
theorem putM_iff (l : List (List UInt8)) (s x : List UInt8) : x ∈ putM l s ↔ x ∈ l ∨ x = s := by
  unfold putM
  split
  · rename_i h
    have := List.mem_of_getElem? h
    exact ⟨.inl, fun h => h.elim id (fun e => by rw [e]; exact this)⟩
  · constructor
    · intro h
      rcases List.mem_append.1 h with h | h
      · exact .inl (List.mem_of_mem_take h)
      · rcases List.mem_cons.1 h with h | h
        · exact .inr h
        · exact .inl (List.mem_of_mem_drop h)
    · rintro (h | rfl)
      · rw [← List.take_append_drop (atP l s) l] at h
        rcases List.mem_append.1 h with h | h
        · exact List.mem_append.2 (.inl h)
        · exact List.mem_append.2 (.inr (List.mem_cons_of_mem _ h))
      · simp
theorem putM_rise {l : List (List UInt8)} (h : Rise l) (s : List UInt8) : Rise (putM l s) := by
  unfold putM
  split
  · exact h
  · rename_i hne
    have hlt : ∀ x ∈ l.take (atP l s), x < s := by
      intro x hx
      obtain ⟨i, hi, rfl⟩ := List.getElem_of_mem hx
      simp only [List.length_take] at hi
      rw [List.getElem_take]
      exact (bl_iff _ _).1 (atP_lt l s i (by omega) (by omega))
    have hgt : ∀ y ∈ l.drop (atP l s), s < y := by
      intro y hy
      obtain ⟨i, hi, rfl⟩ := List.getElem_of_mem hy
      simp only [List.length_drop] at hi
      have h0 : atP l s < l.length := by omega
      have h1 := (bl_not _ _).1 (atP_eq l s h0)
      have h2 : s < l[atP l s] := lt_of (not_lt h1) (fun e => hne (by rw [List.getElem?_eq_getElem h0, ← e]))
      rw [List.getElem_drop]
      rcases Nat.eq_zero_or_pos i with rfl | hp
      · exact h2
      · exact lt_tr h2 (List.pairwise_iff_getElem.1 h _ _ h0 (by omega) (by omega))
    have hs : Rise (l.take (atP l s)) := h.sublist (List.take_sublist _ _)
    have hd : Rise (l.drop (atP l s)) := h.sublist (List.drop_sublist _ _)
    refine List.pairwise_append.2 ⟨hs, List.pairwise_cons.2 ⟨hgt, hd⟩, fun a ha b hb => ?_⟩
    rcases List.mem_cons.1 hb with rfl | hb
    · exact hlt a ha
    · exact lt_tr (hlt a ha) (hgt b hb)
/-! What is below, by the document -/
structure InvB (l : List Ed) (s : St) (i : Nat) (out todo : List St) : Prop where
  rise : Rise out
  tds : ∃ T, todo = s :: T ∧ T.Nodup ∧ ∀ x, x ∈ T ↔ x ∈ out
  rch : ∀ x ∈ out, Rch (ndM l) s x
  seen : ∀ j (h : j < todo.length), j < i → ∀ y ∈ ndM l todo[j], y ∈ out
theorem invB_0 (l : List Ed) (s : St) : InvB l s 0 [] [s] :=
  ⟨List.Pairwise.nil, ⟨[], rfl, List.nodup_nil, fun x => Iff.rfl⟩, (fun x h => by cases h), fun j _ h => by omega⟩
theorem invB_put {l : List Ed} {s : St} {i : Nat} {out todo : List St} (h : InvB l s i out todo) (hi : i < todo.length) {n : St} (hn : n ∈ ndM l todo[i]) (ho : n ∉ out) : InvB l s i (putM out n) (todo ++ [n]) := by
  obtain ⟨T, e, hT, hm⟩ := h.tds
  refine ⟨putM_rise h.rise n, ⟨T ++ [n], by rw [e]; rfl, ?_, fun x => ?_⟩, fun x hx => ?_, fun j hj hji y hy => ?_⟩
  · rw [List.nodup_append]
    refine ⟨hT, by simp, fun a ha b hb e => ?_⟩
    simp at hb; subst hb; subst e; exact ho ((hm a).1 ha)
  · rw [putM_iff, List.mem_append, hm x]; simp
  · rcases (putM_iff _ _ _).1 hx with hx | rfl
    · exact h.rch x hx
    · have hs : todo[i] = s ∨ todo[i] ∈ out := by
        have := List.getElem_mem hi
        have h2 : todo[i] ∈ s :: T := by rw [← e]; exact this
        rcases List.mem_cons.1 h2 with h2 | h2
        · exact .inl h2
        · exact .inr ((hm _).1 h2)
      rcases hs with hs | hs
      · rw [hs] at hn; exact .one _ _ hn
      · exact (h.rch _ hs).trans (.one _ _ hn)
  · have hj' : j < todo.length := by omega
    rw [List.getElem_append_left hj'] at hy
    exact (putM_iff _ _ _).2 (.inl (h.seen j hj' hji y hy))
theorem invB_at {l : List Ed} {s : St} {i : Nat} {out todo : List St} (h : InvB l s i out todo) (hi : i < todo.length) (n : St) : InvB l s i (putM out n) (todo ++ [n]) → (todo ++ [n])[i]'(by simp; omega) = todo[i] := fun _ => List.getElem_append_left hi
theorem invB_next {l : List Ed} {s : St} {i : Nat} {out todo : List St} (h : InvB l s i out todo) (hi : i < todo.length) (ha : ∀ y ∈ ndM l todo[i], y ∈ out) : InvB l s (i + 1) out todo :=
  ⟨h.rise, h.tds, h.rch, fun j hj hji y hy => by
    rcases Nat.lt_or_ge j i with h1 | h1
    · exact h.seen j hj h1 y hy
    · obtain rfl : j = i := by omega
      exact ha y hy⟩
theorem invB_len {l : List Ed} {s : St} {i : Nat} {out todo : List St} (h : InvB l s i out todo) : todo.length ≤ (allN l).length + 1 ∧ out.length ≤ (allN l).length := by
  obtain ⟨T, e, hT, hm⟩ := h.tds
  have hin : ∀ x ∈ out, x ∈ allN l := fun x hx => by
    have := h.rch x hx
    clear hm e hT
    have key : ∀ a b, Rch (ndM l) a b → b ∈ allN l := by
      intro a b hr
      induction hr with
      | one s y h => exact nd_all _ _ h
      | more s x y h hr ih => exact ih
    exact key _ _ this
  have h1 := nodup_len hT (fun x hx => hin x ((hm x).1 hx))
  have h2 := nodup_len h.rise.nodup hin
  rw [e]; simp only [List.length_cons]; omega
theorem invB_end {l : List Ed} (hw : wrongM l = 0) {s : St} {i : Nat} {out todo : List St} (h : InvB l s i out todo) (hi : todo.length ≤ i) : out = belowM l s := by
  obtain ⟨T, e, hT, hm⟩ := h.tds
  have hcl : ∀ x ∈ todo, ∀ y ∈ ndM l x, y ∈ out := fun x hx y hy => by
    obtain ⟨j, hj, rfl⟩ := List.getElem_of_mem hx
    exact h.seen j hj (by omega) y hy
  refine rise_uniq h.rise (below_rise s) fun y => ?_
  rw [below_iff hw]
  refine ⟨h.rch y, fun hr => ?_⟩
  have key : ∀ a b, Rch (ndM l) a b → a ∈ todo → b ∈ out := by
    intro a b hr
    induction hr with
    | one a b h => intro ha; exact hcl a ha b h
    | more a x b h hr ih => intro ha; exact ih (by rw [e]; exact List.mem_cons_of_mem _ ((hm x).2 (hcl a ha x h)))
  exact key s y hr (by rw [e]; simp)
theorem allN_len4 {l : List Ed} (hw : wrongM l = 0) : (allN l).length ≤ 4096 := by
  obtain ⟨h1, -, h2⟩ := wrongM_0.1 hw
  have key : ∀ L : List Ed, (∀ e ∈ L, e.needs.length ≤ 64) → (allN L).length ≤ L.length * 64 := by
    intro L
    induction L with
    | nil => intro _; simp [allN]
    | cons e L ih =>
      intro h
      have := ih (fun x hx => h x (by simp [hx]))
      have h3 := h e (by simp)
      simp only [allN, List.flatMap_cons, List.length_append, List.length_cons] at this ⊢
      omega
  have := key l (fun e he => (h2 e he).2.1)
  omega
/-! What is above, by the document -/
def abvD (l : List Ed) (s : St) : Nat → List St
  | 0 => []
  | i + 1 => match l[i]? with
    | some e => if s ∈ belowM l e.name then putM (abvD l s i) e.name else abvD l s i
    | none => abvD l s i
theorem abvD_step {l : List Ed} (s : St) {i : Nat} (h : i < l.length) : abvD l s (i + 1) = if s ∈ belowM l l[i].name then putM (abvD l s i) l[i].name else abvD l s i := by
  conv => lhs; unfold abvD
  rw [List.getElem?_eq_getElem h]
theorem abvD_len (l : List Ed) (s : St) : ∀ i, (abvD l s i).length ≤ i
  | 0 => by simp [abvD]
  | i + 1 => by
    have := abvD_len l s i
    unfold abvD
    split
    · split
      · have := putM_len (abvD l s i) (by assumption : Ed).name; omega
      · omega
    · omega
theorem abvD_rise (l : List Ed) (s : St) : ∀ i, Rise (abvD l s i)
  | 0 => List.Pairwise.nil
  | i + 1 => by
    unfold abvD
    split
    · split
      · exact putM_rise (abvD_rise l s i) _
      · exact abvD_rise l s i
    · exact abvD_rise l s i
theorem abvD_mem (l : List Ed) (s y : St) : ∀ i, i ≤ l.length → (y ∈ abvD l s i ↔ ∃ j, ∃ h : j < l.length, j < i ∧ l[j].name = y ∧ s ∈ belowM l y)
  | 0, _ => by simp [abvD]
  | i + 1, hi => by
    rw [abvD_step s (by omega)]
    have ih := abvD_mem l s y i (by omega)
    split
    · rename_i hs
      rw [putM_iff, ih]
      constructor
      · rintro (⟨j, h, h1, h2, h3⟩ | rfl)
        · exact ⟨j, h, by omega, h2, h3⟩
        · exact ⟨i, by omega, by omega, rfl, hs⟩
      · rintro ⟨j, h, h1, h2, h3⟩
        rcases Nat.lt_or_ge j i with h4 | h4
        · exact .inl ⟨j, h, h4, h2, h3⟩
        · obtain rfl : j = i := by omega
          exact .inr h2.symm
    · rename_i hs
      rw [ih]
      constructor
      · rintro ⟨j, h, h1, h2, h3⟩; exact ⟨j, h, by omega, h2, h3⟩
      · rintro ⟨j, h, h1, h2, h3⟩
        rcases Nat.lt_or_ge j i with h4 | h4
        · exact ⟨j, h, h4, h2, h3⟩
        · obtain rfl : j = i := by omega
          subst h2; exact absurd h3 hs
theorem abvD_end {l : List Ed} (hw : wrongM l = 0) (s : St) : abvD l s l.length = aboveM l s := by
  refine rise_uniq (abvD_rise l s _) (above_rise s) fun y => ?_
  rw [abvD_mem l s y _ (Nat.le_refl _), ← meets_sides]
  constructor
  · rintro ⟨j, h, h1, h2, h3⟩; exact h3
  · intro h
    obtain ⟨e, he, hh⟩ := ns_mem.1 (rch_in ((below_iff hw y s).1 h))
    obtain ⟨j, hj, rfl⟩ := List.getElem_of_mem he
    exact ⟨j, hj, hj, hh, h⟩
/-! The document's place, and check -/
def plcE (l : List Ed) (s : St) : Int := match l.findIdx? (fun e => decide (e.name = s)) with
  | some i => i
  | none => -1
theorem plcE_at {l : List Ed} {s : St} {i : Nat} (h : i < l.length) (ha : l[i].name = s) (hn : ∀ j (h : j < l.length), j < i → l[j].name ≠ s) : plcE l s = i := by
  have : l.findIdx? (fun e => decide (e.name = s)) = some i := List.findIdx?_eq_some_iff_getElem.2 ⟨h, by simpa using ha, fun j hj => by simpa using hn j (by omega) hj⟩
  unfold plcE; rw [this]
theorem plcE_none {l : List Ed} {s : St} (hn : ∀ j (h : j < l.length), l[j].name ≠ s) : plcE l s = -1 := by
  have : l.findIdx? (fun e => decide (e.name = s)) = none := List.findIdx?_eq_none_iff.2 fun x hx => by
    obtain ⟨j, hj, rfl⟩ := List.getElem_of_mem hx; simpa using hn j hj
  unfold plcE; rw [this]
theorem plcE_cases (l : List Ed) (s : St) : (plcE l s = -1 ∧ ndM l s = [] ∧ s ∉ nsM l) ∨ ∃ i, ∃ h : i < l.length, plcE l s = i ∧ l[i].name = s ∧ ndM l s = l[i].needs := by
  unfold plcE
  cases hf : l.findIdx? (fun e => decide (e.name = s)) with
  | none =>
    have h1 := List.findIdx?_eq_none_iff.1 hf
    have h2 : s ∉ nsM l := fun h => by
      obtain ⟨e, he, hh⟩ := ns_mem.1 h
      have := h1 e he; simp [hh] at this
    exact .inl ⟨rfl, nd_out h2, h2⟩
  | some i =>
    obtain ⟨h, h1, h2⟩ := List.findIdx?_eq_some_iff_getElem.1 hf
    refine .inr ⟨i, h, rfl, by simpa using h1, ?_⟩
    unfold ndM
    have : l.find? (fun e => decide (e.name = s)) = some l[i] := List.find?_eq_some_iff_getElem.2 ⟨by simpa using h1, i, h, rfl, fun j hj => by simpa using h2 j hj⟩
    rw [this]
theorem wrongF_pre : ∀ (l : List Ed) (seen : List St) (i : Nat) (h : i < l.length), (∀ j (h : j < l.length), j < i → nmOk l[j].name = true ∧ l[j].needs.length ≤ 64 ∧ l[j].needs.all nmOk = true ∧ l[j].name ∉ seen ++ (l.take j).map (·.name)) →
    wrongF seen l = if nmOk l[i].name = false then 12 else if 64 < l[i].needs.length then 5 else if l[i].needs.all nmOk = false then 12 else if l[i].name ∈ seen ++ (l.take i).map (·.name) then 7 else wrongF (seen ++ (l.take (i + 1)).map (·.name)) (l.drop (i + 1))
  | e :: l, seen, 0, h, _ => by
    conv => lhs; unfold wrongF
    simp
  | e :: l, seen, i + 1, h, hall => by
    obtain ⟨h1, h2, h3, h4⟩ := hall 0 (by simp) (by omega)
    simp only [List.getElem_cons_zero, List.take_zero, List.map_nil, List.append_nil] at h1 h2 h3 h4
    conv => lhs; unfold wrongF
    rw [if_neg (by simp [h1]), if_neg (by omega), if_neg (by simp [h3]), if_neg h4]
    have := wrongF_pre l (seen ++ [e.name]) i (by simpa using h) (fun j hj hji => by
      have := hall (j + 1) (by simp; omega) (by omega)
      simpa using this)
    rw [this]; simp
-- wagebook/wagebookref14.Ring
def L14 : List Nat := [0, 2, 3, 4, 5, 8, 12, 44]
def c14 : CF := ⟨47,
 .seq (.region false [⟨some 2, none, .rd .mov [.pv .nilSl]⟩] L14)
 (.seq (.seq (.region false [⟨some 6, none, .rd .mov [.tmp 0]⟩,
 ⟨some 7, none, .call (.pv (.fn 32 [] [])) [.tmp 6]⟩,
 ⟨some 8, none, .rd (.bin .neq) [.tmp 7, .pv (.int .i64 0)]⟩] L14)
 (.cond (.tmp 8)
 (.seq (.region false [⟨some 2, none, .rd .mov [.pv .nilSl]⟩] L14)
 (.ret))
 (.skip)))
 (.seq (.region false [⟨some 3, none, .rd .mov [.pv .nilSl]⟩] L14)
 (.seq (.seq (.region false [⟨some 4, none, .rd .mov [.pv (.int .i64 0)]⟩] L14)
 (.block 0
 (.loop
 (.seq (.seq (.region false [⟨some 9, none, .rd .mov [.tmp 4]⟩,
 ⟨some 10, none, .rd .mov [.tmp 0]⟩,
 ⟨some 11, none, .rd .lenL [.tmp 10]⟩,
 ⟨some 12, none, .rd (.bin .lss) [.tmp 9, .tmp 11]⟩] L14)
 (.cond (.tmp 12)
 (.skip)
 (.exit 0)))
 (.seq (.block 1
 (.seq (.region false [⟨some 15, none, .rd .mov [.tmp 0]⟩,
 ⟨some 16, none, .rd .mov [.tmp 4]⟩,
 ⟨some 17, none, .call (.pv (.fn 33 [] [])) [.tmp 15, .tmp 16]⟩,
 ⟨some 5, none, .rd .mov [.tmp 17]⟩] L14)
 (.seq (.region false [⟨some 18, none, .rd .mov [.tmp 5]⟩,
 ⟨some 19, none, .rd .lenL [.tmp 18]⟩,
 ⟨some 20, none, .rd (.bin .gtr) [.tmp 19, .pv (.int .i64 0)]⟩,
 ⟨some 21, none, .rd .mov [.tmp 20]⟩,
 ⟨some 22, some (21, true), .rd .mov [.tmp 3]⟩,
 ⟨some 23, some (21, true), .rd .lenL [.tmp 22]⟩,
 ⟨some 24, some (21, true), .rd (.bin .eql) [.tmp 23, .pv (.int .i64 0)]⟩,
 ⟨some 25, some (21, true), .rd .mov [.tmp 24]⟩,
 ⟨some 26, some (25, false), .rd .mov [.tmp 5]⟩,
 ⟨some 27, some (25, false), .rd .lenL [.tmp 26]⟩,
 ⟨some 28, some (25, false), .rd .mov [.tmp 3]⟩,
 ⟨some 29, some (25, false), .rd .lenL [.tmp 28]⟩,
 ⟨some 30, some (25, false), .rd (.bin .lss) [.tmp 27, .tmp 29]⟩,
 ⟨some 31, some (21, true), .rd .pick [.tmp 25, .pv (.bool true), .tmp 30]⟩,
 ⟨some 32, some (21, true), .rd .mov [.tmp 31]⟩,
 ⟨some 33, some (32, false), .rd .mov [.tmp 5]⟩,
 ⟨some 34, some (32, false), .rd .lenL [.tmp 33]⟩,
 ⟨some 35, some (32, false), .rd .mov [.tmp 3]⟩,
 ⟨some 36, some (32, false), .rd .lenL [.tmp 35]⟩,
 ⟨some 37, some (32, false), .rd (.bin .eql) [.tmp 34, .tmp 36]⟩,
 ⟨some 38, some (32, false), .rd .mov [.tmp 37]⟩,
 ⟨some 39, some (38, true), .rd .mov [.tmp 5]⟩,
 ⟨some 40, some (38, true), .rd .mov [.tmp 3]⟩,
 ⟨some 41, some (38, true), .call (.pv (.fn 34 [] [])) [.tmp 39, .tmp 40]⟩,
 ⟨some 42, some (32, false), .rd .pick [.tmp 38, .tmp 41, .pv (.bool false)]⟩,
 ⟨some 43, some (21, true), .rd .pick [.tmp 32, .pv (.bool true), .tmp 42]⟩,
 ⟨some 44, none, .rd .pick [.tmp 21, .tmp 43, .pv (.bool false)]⟩] L14)
 (.cond (.tmp 44)
 (.region false [⟨some 45, none, .rd .mov [.tmp 5]⟩,
 ⟨some 3, none, .rd .mov [.tmp 45]⟩] L14)
 (.skip)))))
 (.region false [⟨some 13, none, .rd .mov [.tmp 4]⟩,
 ⟨some 14, none, .rd (.bin .add) [.tmp 13, .pv (.int .i64 1)]⟩,
 ⟨some 4, none, .rd .mov [.tmp 14]⟩] L14))))))
 (.seq (.region false [⟨some 46, none, .rd .mov [.tmp 3]⟩,
 ⟨some 2, none, .rd .mov [.tmp 46]⟩] L14)
 (.ret))))),
 [.tmp 2]⟩

-- wagebook/wagebookref14.Below
def L17 : List Nat := [0, 1, 4, 5, 6, 7, 8, 9, 10, 13, 19, 39, 53]
def c17 : CF := ⟨62,
 .seq (.region false [⟨some 4, none, .rd .mov [.pv .nilSl]⟩] L17)
 (.seq (.seq (.region false [⟨some 11, none, .rd .mov [.tmp 1]⟩,
 ⟨some 12, none, .call (.pv (.fn 32 [] [])) [.tmp 11]⟩,
 ⟨some 13, none, .rd (.bin .neq) [.tmp 12, .pv (.int .i64 0)]⟩] L17)
 (.cond (.tmp 13)
 (.seq (.region false [⟨some 4, none, .rd .mov [.pv .nilSl]⟩] L17)
 (.ret))
 (.skip)))
 (.seq (.region false [⟨some 5, none, .rd .mov [.pv .nilSl]⟩] L17)
 (.seq (.region false [⟨some 14, none, .rd .mov [.tmp 0]⟩,
 ⟨some 15, none, .eff (.lit none true) [.tmp 14]⟩,
 ⟨some 6, none, .rd .mov [.tmp 15]⟩] L17)
 (.seq (.seq (.region false [⟨some 7, none, .rd .mov [.pv (.int .i64 0)]⟩] L17)
 (.block 0
 (.loop
 (.seq (.seq (.region false [⟨some 16, none, .rd .mov [.tmp 7]⟩,
 ⟨some 17, none, .rd .mov [.tmp 6]⟩,
 ⟨some 18, none, .rd .lenL [.tmp 17]⟩,
 ⟨some 19, none, .rd (.bin .lss) [.tmp 16, .tmp 18]⟩] L17)
 (.cond (.tmp 19)
 (.skip)
 (.exit 0)))
 (.seq (.block 1
 (.seq (.region false [⟨some 22, none, .rd .mov [.tmp 1]⟩,
 ⟨some 23, none, .rd .mov [.tmp 6]⟩,
 ⟨some 24, none, .rd .mov [.tmp 7]⟩,
 ⟨some 25, none, .rd (.idxAddr none) [.tmp 23, .tmp 24]⟩,
 ⟨some 26, none, .rd (.load none) [.tmp 25]⟩,
 ⟨some 27, none, .call (.pv (.fn 37 [] [])) [.tmp 22, .tmp 26]⟩,
 ⟨some 8, none, .rd .mov [.tmp 27]⟩] L17)
 (.seq (.region false [⟨some 9, none, .rd .mov [.pv (.int .i64 0)]⟩] L17)
 (.block 2
 (.loop
 (.seq (.seq (.region false [⟨some 28, none, .rd .mov [.tmp 8]⟩,
 ⟨some 29, none, .rd (.bin .geq) [.tmp 28, .pv (.int .i64 0)]⟩,
 ⟨some 30, none, .rd .mov [.tmp 29]⟩,
 ⟨some 31, some (30, true), .rd .mov [.tmp 9]⟩,
 ⟨some 32, some (30, true), .rd .mov [.tmp 1]⟩,
 ⟨some 33, some (30, true), .rd .mov [.tmp 8]⟩,
 ⟨some 34, some (30, true), .rd (.idxAddr (some 2)) [.tmp 32, .tmp 33]⟩,
 ⟨some 35, some (30, true), .rd (.fldAddr 1) [.tmp 34]⟩,
 ⟨some 36, some (30, true), .rd (.load none) [.tmp 35]⟩,
 ⟨some 37, some (30, true), .rd .lenL [.tmp 36]⟩,
 ⟨some 38, some (30, true), .rd (.bin .lss) [.tmp 31, .tmp 37]⟩,
 ⟨some 39, none, .rd .pick [.tmp 30, .tmp 38, .pv (.bool false)]⟩] L17)
 (.cond (.tmp 39)
 (.skip)
 (.exit 2)))
 (.seq (.block 3
 (.seq (.region false [⟨some 42, none, .rd .mov [.tmp 1]⟩,
 ⟨some 43, none, .rd .mov [.tmp 8]⟩,
 ⟨some 44, none, .rd (.idxAddr (some 2)) [.tmp 42, .tmp 43]⟩,
 ⟨some 45, none, .rd (.fldAddr 1) [.tmp 44]⟩,
 ⟨some 46, none, .rd (.load none) [.tmp 45]⟩,
 ⟨some 47, none, .rd .mov [.tmp 9]⟩,
 ⟨some 48, none, .rd (.idxAddr none) [.tmp 46, .tmp 47]⟩,
 ⟨some 49, none, .rd (.load none) [.tmp 48]⟩,
 ⟨some 10, none, .rd .mov [.tmp 49]⟩] L17)
 (.seq (.region false [⟨some 50, none, .rd .mov [.tmp 5]⟩,
 ⟨some 51, none, .rd .mov [.tmp 10]⟩,
 ⟨some 52, none, .call (.pv (.fn 23 [] [])) [.tmp 50, .tmp 51]⟩,
 ⟨some 53, none, .rd (.un .not) [.tmp 52]⟩] L17)
 (.cond (.tmp 53)
 (.seq (.region false [⟨some 54, none, .rd .mov [.tmp 5]⟩,
 ⟨some 55, none, .rd .mov [.tmp 10]⟩,
 ⟨some 56, none, .call (.pv (.fn 38 [] [])) [.tmp 54, .tmp 55]⟩,
 ⟨some 5, none, .rd .mov [.tmp 56]⟩] L17)
 (.region false [⟨some 57, none, .rd .mov [.tmp 6]⟩,
 ⟨some 58, none, .rd .mov [.tmp 10]⟩,
 ⟨some 59, none, .eff (.lit none false) [.tmp 58]⟩,
 ⟨some 60, none, .eff (.append none 16) [.tmp 57, .tmp 59]⟩,
 ⟨some 6, none, .rd .mov [.tmp 60]⟩] L17))
 (.skip)))))
 (.region false [⟨some 40, none, .rd .mov [.tmp 9]⟩,
 ⟨some 41, none, .rd (.bin .add) [.tmp 40, .pv (.int .i64 1)]⟩,
 ⟨some 9, none, .rd .mov [.tmp 41]⟩] L17))))))))
 (.region false [⟨some 20, none, .rd .mov [.tmp 7]⟩,
 ⟨some 21, none, .rd (.bin .add) [.tmp 20, .pv (.int .i64 1)]⟩,
 ⟨some 7, none, .rd .mov [.tmp 21]⟩] L17))))))
 (.seq (.region false [⟨some 61, none, .rd .mov [.tmp 5]⟩,
 ⟨some 4, none, .rd .mov [.tmp 61]⟩] L17)
 (.ret)))))),
 [.tmp 4]⟩

-- wagebook/wagebookref14.Above
def L19 : List Nat := [0, 1, 4, 5, 6, 9, 13, 24]
def c19 : CF := ⟨33,
 .seq (.region false [⟨some 4, none, .rd .mov [.pv .nilSl]⟩] L19)
 (.seq (.seq (.region false [⟨some 7, none, .rd .mov [.tmp 1]⟩,
 ⟨some 8, none, .call (.pv (.fn 32 [] [])) [.tmp 7]⟩,
 ⟨some 9, none, .rd (.bin .neq) [.tmp 8, .pv (.int .i64 0)]⟩] L19)
 (.cond (.tmp 9)
 (.seq (.region false [⟨some 4, none, .rd .mov [.pv .nilSl]⟩] L19)
 (.ret))
 (.skip)))
 (.seq (.region false [⟨some 5, none, .rd .mov [.pv .nilSl]⟩] L19)
 (.seq (.seq (.region false [⟨some 6, none, .rd .mov [.pv (.int .i64 0)]⟩] L19)
 (.block 0
 (.loop
 (.seq (.seq (.region false [⟨some 10, none, .rd .mov [.tmp 6]⟩,
 ⟨some 11, none, .rd .mov [.tmp 1]⟩,
 ⟨some 12, none, .rd .lenL [.tmp 11]⟩,
 ⟨some 13, none, .rd (.bin .lss) [.tmp 10, .tmp 12]⟩] L19)
 (.cond (.tmp 13)
 (.skip)
 (.exit 0)))
 (.seq (.block 1
 (.seq (.region false [⟨some 16, none, .rd .mov [.tmp 1]⟩,
 ⟨some 17, none, .rd .mov [.tmp 6]⟩,
 ⟨some 18, none, .rd (.idxAddr (some 2)) [.tmp 16, .tmp 17]⟩,
 ⟨some 19, none, .rd (.fldAddr 0) [.tmp 18]⟩,
 ⟨some 20, none, .rd (.load none) [.tmp 19]⟩,
 ⟨some 21, none, .rd .mov [.tmp 1]⟩,
 ⟨some 22, none, .call (.pv (.fn 17 [] [])) [.tmp 20, .tmp 21]⟩,
 ⟨some 23, none, .rd .mov [.tmp 0]⟩,
 ⟨some 24, none, .call (.pv (.fn 23 [] [])) [.tmp 22, .tmp 23]⟩] L19)
 (.cond (.tmp 24)
 (.region false [⟨some 25, none, .rd .mov [.tmp 5]⟩,
 ⟨some 26, none, .rd .mov [.tmp 1]⟩,
 ⟨some 27, none, .rd .mov [.tmp 6]⟩,
 ⟨some 28, none, .rd (.idxAddr (some 2)) [.tmp 26, .tmp 27]⟩,
 ⟨some 29, none, .rd (.fldAddr 0) [.tmp 28]⟩,
 ⟨some 30, none, .rd (.load none) [.tmp 29]⟩,
 ⟨some 31, none, .call (.pv (.fn 38 [] [])) [.tmp 25, .tmp 30]⟩,
 ⟨some 5, none, .rd .mov [.tmp 31]⟩] L19)
 (.skip))))
 (.region false [⟨some 14, none, .rd .mov [.tmp 6]⟩,
 ⟨some 15, none, .rd (.bin .add) [.tmp 14, .pv (.int .i64 1)]⟩,
 ⟨some 6, none, .rd .mov [.tmp 15]⟩] L19))))))
 (.seq (.region false [⟨some 32, none, .rd .mov [.tmp 5]⟩,
 ⟨some 4, none, .rd .mov [.tmp 32]⟩] L19)
 (.ret))))),
 [.tmp 4]⟩

-- wagebook/wagebookref14.Check
def L32 : List Nat := [0, 2, 3, 4, 5, 8, 12, 21, 28, 36, 48, 51, 64]
def c32 : CF := ⟨65,
 .seq (.region false [⟨some 2, none, .rd .mov [.pv (.int .i64 0)]⟩] L32)
 (.seq (.seq (.region false [⟨some 6, none, .rd .mov [.tmp 0]⟩,
 ⟨some 7, none, .rd .lenL [.tmp 6]⟩,
 ⟨some 8, none, .rd (.bin .gtr) [.tmp 7, .pv (.int .i64 64)]⟩] L32)
 (.cond (.tmp 8)
 (.seq (.region false [⟨some 2, none, .rd .mov [.pv (.int .i64 5)]⟩] L32)
 (.ret))
 (.skip)))
 (.seq (.seq (.region false [⟨some 3, none, .rd .mov [.pv (.int .i64 0)]⟩] L32)
 (.block 0
 (.loop
 (.seq (.seq (.region false [⟨some 9, none, .rd .mov [.tmp 3]⟩,
 ⟨some 10, none, .rd .mov [.tmp 0]⟩,
 ⟨some 11, none, .rd .lenL [.tmp 10]⟩,
 ⟨some 12, none, .rd (.bin .lss) [.tmp 9, .tmp 11]⟩] L32)
 (.cond (.tmp 12)
 (.skip)
 (.exit 0)))
 (.seq (.block 1
 (.seq (.seq (.region false [⟨some 15, none, .rd .mov [.tmp 0]⟩,
 ⟨some 16, none, .rd .mov [.tmp 3]⟩,
 ⟨some 17, none, .rd (.idxAddr (some 2)) [.tmp 15, .tmp 16]⟩,
 ⟨some 18, none, .rd (.fldAddr 0) [.tmp 17]⟩,
 ⟨some 19, none, .rd (.load none) [.tmp 18]⟩,
 ⟨some 20, none, .call (.pv (.fn 51 [] [])) [.tmp 19]⟩,
 ⟨some 21, none, .rd (.un .not) [.tmp 20]⟩] L32)
 (.cond (.tmp 21)
 (.seq (.region false [⟨some 2, none, .rd .mov [.pv (.int .i64 12)]⟩] L32)
 (.ret))
 (.skip)))
 (.seq (.seq (.region false [⟨some 22, none, .rd .mov [.tmp 0]⟩,
 ⟨some 23, none, .rd .mov [.tmp 3]⟩,
 ⟨some 24, none, .rd (.idxAddr (some 2)) [.tmp 22, .tmp 23]⟩,
 ⟨some 25, none, .rd (.fldAddr 1) [.tmp 24]⟩,
 ⟨some 26, none, .rd (.load none) [.tmp 25]⟩,
 ⟨some 27, none, .rd .lenL [.tmp 26]⟩,
 ⟨some 28, none, .rd (.bin .gtr) [.tmp 27, .pv (.int .i64 64)]⟩] L32)
 (.cond (.tmp 28)
 (.seq (.region false [⟨some 2, none, .rd .mov [.pv (.int .i64 5)]⟩] L32)
 (.ret))
 (.skip)))
 (.seq (.seq (.region false [⟨some 4, none, .rd .mov [.pv (.int .i64 0)]⟩] L32)
 (.block 2
 (.loop
 (.seq (.seq (.region false [⟨some 29, none, .rd .mov [.tmp 4]⟩,
 ⟨some 30, none, .rd .mov [.tmp 0]⟩,
 ⟨some 31, none, .rd .mov [.tmp 3]⟩,
 ⟨some 32, none, .rd (.idxAddr (some 2)) [.tmp 30, .tmp 31]⟩,
 ⟨some 33, none, .rd (.fldAddr 1) [.tmp 32]⟩,
 ⟨some 34, none, .rd (.load none) [.tmp 33]⟩,
 ⟨some 35, none, .rd .lenL [.tmp 34]⟩,
 ⟨some 36, none, .rd (.bin .lss) [.tmp 29, .tmp 35]⟩] L32)
 (.cond (.tmp 36)
 (.skip)
 (.exit 2)))
 (.seq (.block 3
 (.seq (.region false [⟨some 39, none, .rd .mov [.tmp 0]⟩,
 ⟨some 40, none, .rd .mov [.tmp 3]⟩,
 ⟨some 41, none, .rd (.idxAddr (some 2)) [.tmp 39, .tmp 40]⟩,
 ⟨some 42, none, .rd (.fldAddr 1) [.tmp 41]⟩,
 ⟨some 43, none, .rd (.load none) [.tmp 42]⟩,
 ⟨some 44, none, .rd .mov [.tmp 4]⟩,
 ⟨some 45, none, .rd (.idxAddr none) [.tmp 43, .tmp 44]⟩,
 ⟨some 46, none, .rd (.load none) [.tmp 45]⟩,
 ⟨some 47, none, .call (.pv (.fn 51 [] [])) [.tmp 46]⟩,
 ⟨some 48, none, .rd (.un .not) [.tmp 47]⟩] L32)
 (.cond (.tmp 48)
 (.seq (.region false [⟨some 2, none, .rd .mov [.pv (.int .i64 12)]⟩] L32)
 (.ret))
 (.skip))))
 (.region false [⟨some 37, none, .rd .mov [.tmp 4]⟩,
 ⟨some 38, none, .rd (.bin .add) [.tmp 37, .pv (.int .i64 1)]⟩,
 ⟨some 4, none, .rd .mov [.tmp 38]⟩] L32))))))
 (.seq (.region false [⟨some 5, none, .rd .mov [.pv (.int .i64 0)]⟩] L32)
 (.block 4
 (.loop
 (.seq (.seq (.region false [⟨some 49, none, .rd .mov [.tmp 5]⟩,
 ⟨some 50, none, .rd .mov [.tmp 3]⟩,
 ⟨some 51, none, .rd (.bin .lss) [.tmp 49, .tmp 50]⟩] L32)
 (.cond (.tmp 51)
 (.skip)
 (.exit 4)))
 (.seq (.block 5
 (.seq (.region true [⟨some 54, none, .rd .mov [.tmp 0]⟩,
 ⟨some 55, none, .rd .mov [.tmp 5]⟩,
 ⟨some 56, none, .rd (.idxAddr (some 2)) [.tmp 54, .tmp 55]⟩,
 ⟨some 57, none, .rd (.fldAddr 0) [.tmp 56]⟩,
 ⟨some 58, none, .rd (.load none) [.tmp 57]⟩,
 ⟨some 59, none, .rd .mov [.tmp 0]⟩,
 ⟨some 60, none, .rd .mov [.tmp 3]⟩,
 ⟨some 61, none, .rd (.idxAddr (some 2)) [.tmp 59, .tmp 60]⟩,
 ⟨some 62, none, .rd (.fldAddr 0) [.tmp 61]⟩,
 ⟨some 63, none, .rd (.load none) [.tmp 62]⟩,
 ⟨some 64, none, .rd (.bin .eql) [.tmp 58, .tmp 63]⟩] L32)
 (.cond (.tmp 64)
 (.seq (.region false [⟨some 2, none, .rd .mov [.pv (.int .i64 7)]⟩] L32)
 (.ret))
 (.skip))))
 (.region false [⟨some 52, none, .rd .mov [.tmp 5]⟩,
 ⟨some 53, none, .rd (.bin .add) [.tmp 52, .pv (.int .i64 1)]⟩,
 ⟨some 5, none, .rd .mov [.tmp 53]⟩] L32))))))))))
 (.region false [⟨some 13, none, .rd .mov [.tmp 3]⟩,
 ⟨some 14, none, .rd (.bin .add) [.tmp 13, .pv (.int .i64 1)]⟩,
 ⟨some 3, none, .rd .mov [.tmp 14]⟩] L32))))))
 (.seq (.region false [⟨some 2, none, .rd .mov [.pv (.int .i64 0)]⟩] L32)
 (.ret)))),
 [.tmp 2]⟩

-- wagebook/wagebookref14.ring
def L33 : List Nat := [0, 1, 4, 5, 6, 7, 8, 9, 10, 11, 12, 13, 14, 25, 58, 64, 74, 84, 123]
def c33 : CF := ⟨135,
 .seq (.region false [⟨some 4, none, .rd .mov [.pv .nilSl]⟩] L33)
 (.seq (.region false [⟨some 15, none, .rd .mov [.tmp 0]⟩,
 ⟨some 16, none, .rd .mov [.tmp 1]⟩,
 ⟨some 17, none, .call (.pv (.fn 52 [] [])) [.tmp 15, .tmp 16]⟩,
 ⟨some 5, none, .rd .mov [.tmp 17]⟩] L33)
 (.seq (.region false [⟨some 6, none, .rd .mov [.pv (.int .i64 (-1))]⟩] L33)
 (.seq (.seq (.region false [⟨some 7, none, .rd .mov [.pv (.int .i64 0)]⟩] L33)
 (.block 0
 (.loop
 (.seq (.seq (.region false [⟨some 18, none, .rd .mov [.tmp 7]⟩,
 ⟨some 19, none, .rd .mov [.tmp 0]⟩,
 ⟨some 20, none, .rd .mov [.tmp 1]⟩,
 ⟨some 21, none, .rd (.idxAddr (some 2)) [.tmp 19, .tmp 20]⟩,
 ⟨some 22, none, .rd (.fldAddr 1) [.tmp 21]⟩,
 ⟨some 23, none, .rd (.load none) [.tmp 22]⟩,
 ⟨some 24, none, .rd .lenL [.tmp 23]⟩,
 ⟨some 25, none, .rd (.bin .lss) [.tmp 18, .tmp 24]⟩] L33)
 (.cond (.tmp 25)
 (.skip)
 (.exit 0)))
 (.seq (.block 1
 (.seq (.region false [⟨some 28, none, .rd .mov [.tmp 0]⟩,
 ⟨some 29, none, .rd .mov [.tmp 0]⟩,
 ⟨some 30, none, .rd .mov [.tmp 1]⟩,
 ⟨some 31, none, .rd (.idxAddr (some 2)) [.tmp 29, .tmp 30]⟩,
 ⟨some 32, none, .rd (.fldAddr 1) [.tmp 31]⟩,
 ⟨some 33, none, .rd (.load none) [.tmp 32]⟩,
 ⟨some 34, none, .rd .mov [.tmp 7]⟩,
 ⟨some 35, none, .rd (.idxAddr none) [.tmp 33, .tmp 34]⟩,
 ⟨some 36, none, .rd (.load none) [.tmp 35]⟩,
 ⟨some 37, none, .call (.pv (.fn 37 [] [])) [.tmp 28, .tmp 36]⟩,
 ⟨some 8, none, .rd .mov [.tmp 37]⟩] L33)
 (.seq (.region false [⟨some 38, none, .rd .mov [.tmp 8]⟩,
 ⟨some 39, none, .rd (.bin .geq) [.tmp 38, .pv (.int .i64 0)]⟩,
 ⟨some 40, none, .rd .mov [.tmp 39]⟩,
 ⟨some 41, some (40, true), .rd .mov [.tmp 5]⟩,
 ⟨some 42, some (40, true), .rd .mov [.tmp 8]⟩,
 ⟨some 43, some (40, true), .rd (.idxAddr none) [.tmp 41, .tmp 42]⟩,
 ⟨some 44, some (40, true), .rd (.load none) [.tmp 43]⟩,
 ⟨some 45, some (40, true), .rd (.bin .geq) [.tmp 44, .pv (.int .i64 0)]⟩,
 ⟨some 46, none, .rd .pick [.tmp 40, .tmp 45, .pv (.bool false)]⟩,
 ⟨some 47, none, .rd .mov [.tmp 46]⟩,
 ⟨some 48, some (47, true), .rd .mov [.tmp 6]⟩,
 ⟨some 49, some (47, true), .rd (.bin .lss) [.tmp 48, .pv (.int .i64 0)]⟩,
 ⟨some 50, some (47, true), .rd .mov [.tmp 49]⟩,
 ⟨some 51, some (50, false), .rd .mov [.tmp 5]⟩,
 ⟨some 52, some (50, false), .rd .mov [.tmp 8]⟩,
 ⟨some 53, some (50, false), .rd (.idxAddr none) [.tmp 51, .tmp 52]⟩,
 ⟨some 54, some (50, false), .rd (.load none) [.tmp 53]⟩,
 ⟨some 55, some (50, false), .rd .mov [.tmp 6]⟩,
 ⟨some 56, some (50, false), .rd (.bin .lss) [.tmp 54, .tmp 55]⟩,
 ⟨some 57, some (47, true), .rd .pick [.tmp 50, .pv (.bool true), .tmp 56]⟩,
 ⟨some 58, none, .rd .pick [.tmp 47, .tmp 57, .pv (.bool false)]⟩] L33)
 (.cond (.tmp 58)
 (.region false [⟨some 59, none, .rd .mov [.tmp 5]⟩,
 ⟨some 60, none, .rd .mov [.tmp 8]⟩,
 ⟨some 61, none, .rd (.idxAddr none) [.tmp 59, .tmp 60]⟩,
 ⟨some 62, none, .rd (.load none) [.tmp 61]⟩,
 ⟨some 6, none, .rd .mov [.tmp 62]⟩] L33)
 (.skip)))))
 (.region false [⟨some 26, none, .rd .mov [.tmp 7]⟩,
 ⟨some 27, none, .rd (.bin .add) [.tmp 26, .pv (.int .i64 1)]⟩,
 ⟨some 7, none, .rd .mov [.tmp 27]⟩] L33))))))
 (.seq (.seq (.region false [⟨some 63, none, .rd .mov [.tmp 6]⟩,
 ⟨some 64, none, .rd (.bin .lss) [.tmp 63, .pv (.int .i64 0)]⟩] L33)
 (.cond (.tmp 64)
 (.seq (.region false [⟨some 4, none, .rd .mov [.pv .nilSl]⟩] L33)
 (.ret))
 (.skip)))
 (.seq (.region false [⟨some 65, none, .rd .mov [.tmp 0]⟩,
 ⟨some 66, none, .rd .mov [.tmp 1]⟩,
 ⟨some 67, none, .rd (.idxAddr (some 2)) [.tmp 65, .tmp 66]⟩,
 ⟨some 68, none, .rd (.fldAddr 0) [.tmp 67]⟩,
 ⟨some 69, none, .rd (.load none) [.tmp 68]⟩,
 ⟨some 70, none, .eff (.lit none true) [.tmp 69]⟩,
 ⟨some 9, none, .rd .mov [.tmp 70]⟩] L33)
 (.seq (.region false [⟨some 71, none, .rd .mov [.tmp 1]⟩,
 ⟨some 10, none, .rd .mov [.tmp 71]⟩] L33)
 (.seq (.seq (.region false [⟨some 72, none, .rd .mov [.tmp 6]⟩,
 ⟨some 11, none, .rd .mov [.tmp 72]⟩] L33)
 (.block 2
 (.loop
 (.seq (.seq (.region false [⟨some 73, none, .rd .mov [.tmp 11]⟩,
 ⟨some 74, none, .rd (.bin .gtr) [.tmp 73, .pv (.int .i64 0)]⟩] L33)
 (.cond (.tmp 74)
 (.skip)
 (.exit 2)))
 (.seq (.block 3
 (.seq (.region false [⟨some 12, none, .rd .mov [.pv (.int .i64 (-1))]⟩] L33)
 (.seq (.seq (.region false [⟨some 13, none, .rd .mov [.pv (.int .i64 0)]⟩] L33)
 (.block 4
 (.loop
 (.seq (.seq (.region false [⟨some 77, none, .rd .mov [.tmp 13]⟩,
 ⟨some 78, none, .rd .mov [.tmp 0]⟩,
 ⟨some 79, none, .rd .mov [.tmp 10]⟩,
 ⟨some 80, none, .rd (.idxAddr (some 2)) [.tmp 78, .tmp 79]⟩,
 ⟨some 81, none, .rd (.fldAddr 1) [.tmp 80]⟩,
 ⟨some 82, none, .rd (.load none) [.tmp 81]⟩,
 ⟨some 83, none, .rd .lenL [.tmp 82]⟩,
 ⟨some 84, none, .rd (.bin .lss) [.tmp 77, .tmp 83]⟩] L33)
 (.cond (.tmp 84)
 (.skip)
 (.exit 4)))
 (.seq (.block 5
 (.seq (.region false [⟨some 87, none, .rd .mov [.tmp 0]⟩,
 ⟨some 88, none, .rd .mov [.tmp 0]⟩,
 ⟨some 89, none, .rd .mov [.tmp 10]⟩,
 ⟨some 90, none, .rd (.idxAddr (some 2)) [.tmp 88, .tmp 89]⟩,
 ⟨some 91, none, .rd (.fldAddr 1) [.tmp 90]⟩,
 ⟨some 92, none, .rd (.load none) [.tmp 91]⟩,
 ⟨some 93, none, .rd .mov [.tmp 13]⟩,
 ⟨some 94, none, .rd (.idxAddr none) [.tmp 92, .tmp 93]⟩,
 ⟨some 95, none, .rd (.load none) [.tmp 94]⟩,
 ⟨some 96, none, .call (.pv (.fn 37 [] [])) [.tmp 87, .tmp 95]⟩,
 ⟨some 14, none, .rd .mov [.tmp 96]⟩] L33)
 (.seq (.region true [⟨some 97, none, .rd .mov [.tmp 14]⟩,
 ⟨some 98, none, .rd (.bin .geq) [.tmp 97, .pv (.int .i64 0)]⟩,
 ⟨some 99, none, .rd .mov [.tmp 98]⟩,
 ⟨some 100, some (99, true), .rd .mov [.tmp 5]⟩,
 ⟨some 101, some (99, true), .rd .mov [.tmp 14]⟩,
 ⟨some 102, some (99, true), .rd (.idxAddr none) [.tmp 100, .tmp 101]⟩,
 ⟨some 103, some (99, true), .rd (.load none) [.tmp 102]⟩,
 ⟨some 104, some (99, true), .rd .mov [.tmp 11]⟩,
 ⟨some 105, some (99, true), .rd (.bin .eql) [.tmp 103, .tmp 104]⟩,
 ⟨some 106, none, .rd .pick [.tmp 99, .tmp 105, .pv (.bool false)]⟩,
 ⟨some 107, none, .rd .mov [.tmp 106]⟩,
 ⟨some 108, some (107, true), .rd .mov [.tmp 12]⟩,
 ⟨some 109, some (107, true), .rd (.bin .lss) [.tmp 108, .pv (.int .i64 0)]⟩,
 ⟨some 110, some (107, true), .rd .mov [.tmp 109]⟩,
 ⟨some 111, some (110, false), .rd .mov [.tmp 0]⟩,
 ⟨some 112, some (110, false), .rd .mov [.tmp 14]⟩,
 ⟨some 113, some (110, false), .rd (.idxAddr (some 2)) [.tmp 111, .tmp 112]⟩,
 ⟨some 114, some (110, false), .rd (.fldAddr 0) [.tmp 113]⟩,
 ⟨some 115, some (110, false), .rd (.load none) [.tmp 114]⟩,
 ⟨some 116, some (110, false), .rd .mov [.tmp 0]⟩,
 ⟨some 117, some (110, false), .rd .mov [.tmp 12]⟩,
 ⟨some 118, some (110, false), .rd (.idxAddr (some 2)) [.tmp 116, .tmp 117]⟩,
 ⟨some 119, some (110, false), .rd (.fldAddr 0) [.tmp 118]⟩,
 ⟨some 120, some (110, false), .rd (.load none) [.tmp 119]⟩,
 ⟨some 121, some (110, false), .rd (.bin .lss) [.tmp 115, .tmp 120]⟩,
 ⟨some 122, some (107, true), .rd .pick [.tmp 110, .pv (.bool true), .tmp 121]⟩,
 ⟨some 123, none, .rd .pick [.tmp 107, .tmp 122, .pv (.bool false)]⟩] L33)
 (.cond (.tmp 123)
 (.region false [⟨some 124, none, .rd .mov [.tmp 14]⟩,
 ⟨some 12, none, .rd .mov [.tmp 124]⟩] L33)
 (.skip)))))
 (.region false [⟨some 85, none, .rd .mov [.tmp 13]⟩,
 ⟨some 86, none, .rd (.bin .add) [.tmp 85, .pv (.int .i64 1)]⟩,
 ⟨some 13, none, .rd .mov [.tmp 86]⟩] L33))))))
 (.seq (.region false [⟨some 125, none, .rd .mov [.tmp 12]⟩,
 ⟨some 10, none, .rd .mov [.tmp 125]⟩] L33)
 (.region false [⟨some 126, none, .rd .mov [.tmp 9]⟩,
 ⟨some 127, none, .rd .mov [.tmp 0]⟩,
 ⟨some 128, none, .rd .mov [.tmp 10]⟩,
 ⟨some 129, none, .rd (.idxAddr (some 2)) [.tmp 127, .tmp 128]⟩,
 ⟨some 130, none, .rd (.fldAddr 0) [.tmp 129]⟩,
 ⟨some 131, none, .rd (.load none) [.tmp 130]⟩,
 ⟨some 132, none, .eff (.lit none false) [.tmp 131]⟩,
 ⟨some 133, none, .eff (.append none 16) [.tmp 126, .tmp 132]⟩,
 ⟨some 9, none, .rd .mov [.tmp 133]⟩] L33)))))
 (.region false [⟨some 75, none, .rd .mov [.tmp 11]⟩,
 ⟨some 76, none, .rd (.bin .sub) [.tmp 75, .pv (.int .i64 1)]⟩,
 ⟨some 11, none, .rd .mov [.tmp 76]⟩] L33))))))
 (.seq (.region false [⟨some 134, none, .rd .mov [.tmp 9]⟩,
 ⟨some 4, none, .rd .mov [.tmp 134]⟩] L33)
 (.ret))))))))),
 [.tmp 4]⟩

-- wagebook/wagebookref14.steps
def L52 : List Nat := [0, 1, 4, 5, 6, 7, 8, 9, 10, 17, 29, 35, 52, 75]
def c52 : CF := ⟨81,
 .seq (.region false [⟨some 4, none, .rd .mov [.pv .nilSl]⟩] L52)
 (.seq (.region false [⟨some 11, none, .rd .mov [.tmp 0]⟩,
 ⟨some 12, none, .rd .lenL [.tmp 11]⟩,
 ⟨some 13, none, .eff (.make none (.int .i64 0) 8) [.tmp 12, .tmp 12]⟩,
 ⟨some 5, none, .rd .mov [.tmp 13]⟩] L52)
 (.seq (.seq (.region false [⟨some 6, none, .rd .mov [.pv (.int .i64 0)]⟩] L52)
 (.block 0
 (.loop
 (.seq (.seq (.region false [⟨some 14, none, .rd .mov [.tmp 6]⟩,
 ⟨some 15, none, .rd .mov [.tmp 0]⟩,
 ⟨some 16, none, .rd .lenL [.tmp 15]⟩,
 ⟨some 17, none, .rd (.bin .lss) [.tmp 14, .tmp 16]⟩] L52)
 (.cond (.tmp 17)
 (.skip)
 (.exit 0)))
 (.seq (.block 1
 (.region false [⟨some 20, none, .rd .mov [.tmp 5]⟩,
 ⟨some 21, none, .rd .mov [.tmp 6]⟩,
 ⟨some 22, none, .rd (.idxAddr none) [.tmp 20, .tmp 21]⟩,
 ⟨none, none, .eff (.store none) [.tmp 22, .pv (.int .i64 (-1))]⟩] L52))
 (.region false [⟨some 18, none, .rd .mov [.tmp 6]⟩,
 ⟨some 19, none, .rd (.bin .add) [.tmp 18, .pv (.int .i64 1)]⟩,
 ⟨some 6, none, .rd .mov [.tmp 19]⟩] L52))))))
 (.seq (.region false [⟨some 23, none, .rd .mov [.tmp 5]⟩,
 ⟨some 24, none, .rd .mov [.tmp 1]⟩,
 ⟨some 25, none, .rd (.idxAddr none) [.tmp 23, .tmp 24]⟩,
 ⟨none, none, .eff (.store none) [.tmp 25, .pv (.int .i64 0)]⟩] L52)
 (.seq (.seq (.region false [⟨some 7, none, .rd .mov [.pv (.int .i64 1)]⟩] L52)
 (.block 2
 (.loop
 (.seq (.seq (.region false [⟨some 26, none, .rd .mov [.tmp 7]⟩,
 ⟨some 27, none, .rd .mov [.tmp 0]⟩,
 ⟨some 28, none, .rd .lenL [.tmp 27]⟩,
 ⟨some 29, none, .rd (.bin .leq) [.tmp 26, .tmp 28]⟩] L52)
 (.cond (.tmp 29)
 (.skip)
 (.exit 2)))
 (.seq (.block 3
 (.seq (.region false [⟨some 8, none, .rd .mov [.pv (.int .i64 0)]⟩] L52)
 (.block 4
 (.loop
 (.seq (.seq (.region false [⟨some 32, none, .rd .mov [.tmp 8]⟩,
 ⟨some 33, none, .rd .mov [.tmp 0]⟩,
 ⟨some 34, none, .rd .lenL [.tmp 33]⟩,
 ⟨some 35, none, .rd (.bin .lss) [.tmp 32, .tmp 34]⟩] L52)
 (.cond (.tmp 35)
 (.skip)
 (.exit 4)))
 (.seq (.block 5
 (.seq (.region false [⟨some 9, none, .rd .mov [.pv (.int .i64 0)]⟩] L52)
 (.block 6
 (.loop
 (.seq (.seq (.region false [⟨some 38, none, .rd .mov [.tmp 5]⟩,
 ⟨some 39, none, .rd .mov [.tmp 8]⟩,
 ⟨some 40, none, .rd (.idxAddr none) [.tmp 38, .tmp 39]⟩,
 ⟨some 41, none, .rd (.load none) [.tmp 40]⟩,
 ⟨some 42, none, .rd (.bin .lss) [.tmp 41, .pv (.int .i64 0)]⟩,
 ⟨some 43, none, .rd .mov [.tmp 42]⟩,
 ⟨some 44, some (43, true), .rd .mov [.tmp 9]⟩,
 ⟨some 45, some (43, true), .rd .mov [.tmp 0]⟩,
 ⟨some 46, some (43, true), .rd .mov [.tmp 8]⟩,
 ⟨some 47, some (43, true), .rd (.idxAddr (some 2)) [.tmp 45, .tmp 46]⟩,
 ⟨some 48, some (43, true), .rd (.fldAddr 1) [.tmp 47]⟩,
 ⟨some 49, some (43, true), .rd (.load none) [.tmp 48]⟩,
 ⟨some 50, some (43, true), .rd .lenL [.tmp 49]⟩,
 ⟨some 51, some (43, true), .rd (.bin .lss) [.tmp 44, .tmp 50]⟩,
 ⟨some 52, none, .rd .pick [.tmp 43, .tmp 51, .pv (.bool false)]⟩] L52)
 (.cond (.tmp 52)
 (.skip)
 (.exit 6)))
 (.seq (.block 7
 (.seq (.region false [⟨some 55, none, .rd .mov [.tmp 0]⟩,
 ⟨some 56, none, .rd .mov [.tmp 0]⟩,
 ⟨some 57, none, .rd .mov [.tmp 8]⟩,
 ⟨some 58, none, .rd (.idxAddr (some 2)) [.tmp 56, .tmp 57]⟩,
 ⟨some 59, none, .rd (.fldAddr 1) [.tmp 58]⟩,
 ⟨some 60, none, .rd (.load none) [.tmp 59]⟩,
 ⟨some 61, none, .rd .mov [.tmp 9]⟩,
 ⟨some 62, none, .rd (.idxAddr none) [.tmp 60, .tmp 61]⟩,
 ⟨some 63, none, .rd (.load none) [.tmp 62]⟩,
 ⟨some 64, none, .call (.pv (.fn 37 [] [])) [.tmp 55, .tmp 63]⟩,
 ⟨some 10, none, .rd .mov [.tmp 64]⟩] L52)
 (.seq (.region false [⟨some 65, none, .rd .mov [.tmp 10]⟩,
 ⟨some 66, none, .rd (.bin .geq) [.tmp 65, .pv (.int .i64 0)]⟩,
 ⟨some 67, none, .rd .mov [.tmp 66]⟩,
 ⟨some 68, some (67, true), .rd .mov [.tmp 5]⟩,
 ⟨some 69, some (67, true), .rd .mov [.tmp 10]⟩,
 ⟨some 70, some (67, true), .rd (.idxAddr none) [.tmp 68, .tmp 69]⟩,
 ⟨some 71, some (67, true), .rd (.load none) [.tmp 70]⟩,
 ⟨some 72, some (67, true), .rd .mov [.tmp 7]⟩,
 ⟨some 73, some (67, true), .rd (.bin .sub) [.tmp 72, .pv (.int .i64 1)]⟩,
 ⟨some 74, some (67, true), .rd (.bin .eql) [.tmp 71, .tmp 73]⟩,
 ⟨some 75, none, .rd .pick [.tmp 67, .tmp 74, .pv (.bool false)]⟩] L52)
 (.cond (.tmp 75)
 (.region false [⟨some 76, none, .rd .mov [.tmp 5]⟩,
 ⟨some 77, none, .rd .mov [.tmp 8]⟩,
 ⟨some 78, none, .rd .mov [.tmp 7]⟩,
 ⟨some 79, none, .rd (.idxAddr none) [.tmp 76, .tmp 77]⟩,
 ⟨none, none, .eff (.store none) [.tmp 79, .tmp 78]⟩] L52)
 (.skip)))))
 (.region false [⟨some 53, none, .rd .mov [.tmp 9]⟩,
 ⟨some 54, none, .rd (.bin .add) [.tmp 53, .pv (.int .i64 1)]⟩,
 ⟨some 9, none, .rd .mov [.tmp 54]⟩] L52)))))))
 (.region false [⟨some 36, none, .rd .mov [.tmp 8]⟩,
 ⟨some 37, none, .rd (.bin .add) [.tmp 36, .pv (.int .i64 1)]⟩,
 ⟨some 8, none, .rd .mov [.tmp 37]⟩] L52)))))))
 (.region false [⟨some 30, none, .rd .mov [.tmp 7]⟩,
 ⟨some 31, none, .rd (.bin .add) [.tmp 30, .pv (.int .i64 1)]⟩,
 ⟨some 7, none, .rd .mov [.tmp 31]⟩] L52))))))
 (.seq (.region false [⟨some 80, none, .rd .mov [.tmp 5]⟩,
 ⟨some 4, none, .rd .mov [.tmp 80]⟩] L52)
 (.ret)))))),
 [.tmp 4]⟩

-- wagebook/wagebooklaw14.OrderRing
def L3 : List Nat := [0, 2, 4, 7]
def c3 : CF := ⟨14,
 .seq (.region false [⟨some 2, none, .rd .mov [.pv (.bool false)]⟩] L3)
 (.seq (.seq (.region false [⟨some 3, none, .call (.pv (.fn 10 [] [])) []⟩,
 ⟨some 4, none, .rd (.un .not) [.tmp 3]⟩] L3)
 (.cond (.tmp 4)
 (.seq (.region false [⟨some 2, none, .rd .mov [.pv (.bool false)]⟩] L3)
 (.ret))
 (.skip)))
 (.seq (.seq (.region false [⟨some 5, none, .rd .mov [.tmp 0]⟩,
 ⟨some 6, none, .call (.pv (.fn 11 [] [])) [.tmp 5, .pv (.int .i64 24)]⟩,
 ⟨some 7, none, .rd (.un .not) [.tmp 6]⟩] L3)
 (.cond (.tmp 7)
 (.seq (.region false [⟨some 2, none, .rd .mov [.pv (.bool true)]⟩] L3)
 (.ret))
 (.skip)))
 (.seq (.region false [⟨some 8, none, .rd .mov [.tmp 0]⟩,
 ⟨some 9, none, .call (.pv (.fn 13 [] [])) [.tmp 8]⟩,
 ⟨some 10, none, .rd .mov [.tmp 0]⟩,
 ⟨some 11, none, .call (.pv (.fn 15 [] [])) [.tmp 10]⟩,
 ⟨some 12, none, .call (.pv (.fn 14 [] [])) [.tmp 11]⟩,
 ⟨some 13, none, .call (.pv (.fn 12 [] [])) [.tmp 9, .tmp 12]⟩,
 ⟨some 2, none, .rd .mov [.tmp 13]⟩] L3)
 (.ret)))),
 [.tmp 2]⟩

-- wagebook/wagebooklaw14.OrderSides
def L4 : List Nat := [0, 1, 4, 6, 14]
def c4 : CF := ⟨33,
 .seq (.region false [⟨some 4, none, .rd .mov [.pv (.bool false)]⟩] L4)
 (.seq (.seq (.region false [⟨some 5, none, .call (.pv (.fn 10 [] [])) []⟩,
 ⟨some 6, none, .rd (.un .not) [.tmp 5]⟩] L4)
 (.cond (.tmp 6)
 (.seq (.region false [⟨some 4, none, .rd .mov [.pv (.bool false)]⟩] L4)
 (.ret))
 (.skip)))
 (.seq (.seq (.region false [⟨some 7, none, .rd .mov [.tmp 0]⟩,
 ⟨some 8, none, .call (.pv (.fn 11 [] [])) [.tmp 7, .pv (.int .i64 24)]⟩,
 ⟨some 9, none, .rd (.un .not) [.tmp 8]⟩,
 ⟨some 10, none, .rd .mov [.tmp 9]⟩,
 ⟨some 11, some (10, false), .rd .mov [.tmp 1]⟩,
 ⟨some 12, some (10, false), .rd .lenS [.tmp 11]⟩,
 ⟨some 13, some (10, false), .rd (.bin .gtr) [.tmp 12, .pv (.int .i64 60)]⟩,
 ⟨some 14, none, .rd .pick [.tmp 10, .pv (.bool true), .tmp 13]⟩] L4)
 (.cond (.tmp 14)
 (.seq (.region false [⟨some 4, none, .rd .mov [.pv (.bool true)]⟩] L4)
 (.ret))
 (.skip)))
 (.seq (.region false [⟨some 15, none, .rd .mov [.tmp 1]⟩,
 ⟨some 16, none, .rd .mov [.tmp 0]⟩,
 ⟨some 17, none, .call (.pv (.fn 16 [] [])) [.tmp 15, .tmp 16]⟩,
 ⟨some 18, none, .rd .mov [.tmp 1]⟩,
 ⟨some 19, none, .rd .mov [.tmp 0]⟩,
 ⟨some 20, none, .call (.pv (.fn 15 [] [])) [.tmp 19]⟩,
 ⟨some 21, none, .call (.pv (.fn 17 [] [])) [.tmp 18, .tmp 20]⟩,
 ⟨some 22, none, .call (.pv (.fn 12 [] [])) [.tmp 17, .tmp 21]⟩,
 ⟨some 23, none, .rd .mov [.tmp 22]⟩,
 ⟨some 24, some (23, true), .rd .mov [.tmp 1]⟩,
 ⟨some 25, some (23, true), .rd .mov [.tmp 0]⟩,
 ⟨some 26, some (23, true), .call (.pv (.fn 18 [] [])) [.tmp 24, .tmp 25]⟩,
 ⟨some 27, some (23, true), .rd .mov [.tmp 1]⟩,
 ⟨some 28, some (23, true), .rd .mov [.tmp 0]⟩,
 ⟨some 29, some (23, true), .call (.pv (.fn 15 [] [])) [.tmp 28]⟩,
 ⟨some 30, some (23, true), .call (.pv (.fn 19 [] [])) [.tmp 27, .tmp 29]⟩,
 ⟨some 31, some (23, true), .call (.pv (.fn 12 [] [])) [.tmp 26, .tmp 30]⟩,
 ⟨some 32, none, .rd .pick [.tmp 23, .tmp 31, .pv (.bool false)]⟩,
 ⟨some 4, none, .rd .mov [.tmp 32]⟩] L4)
 (.ret)))),
 [.tmp 4]⟩
theorem k14 : compileF Try.prog [] L14 Try.f14 = some c14 := by kernel_rfl
theorem k17 : compileF Try.prog [15] L17 Try.f17 = some c17 := by kernel_rfl
theorem k19 : compileF Try.prog [] L19 Try.f19 = some c19 := by kernel_rfl
theorem k32 : compileF Try.prog [] L32 Try.f32 = some c32 := by kernel_rfl
theorem k33 : compileF Try.prog [70] L33 Try.f33 = some c33 := by kernel_rfl
theorem k52 : compileF Try.prog [] L52 Try.f52 = some c52 := by kernel_rfl
theorem k3 : compileF Try.prog [] L3 Try.f3 = some c3 := by kernel_rfl
theorem k4 : compileF Try.prog [] L4 Try.f4 = some c4 := by kernel_rfl
theorem drop00 {α : Type} (xs : List α) : xs.drop (Int.toNat 0) = xs := rfl
theorem v51 (s : St) : VCalls Try.prog G0 51 [.str s] (.bool (nmOk s)) := by
  refine VCalls.of_PW Try.func51 k51 mix (by simp [c51]) ?_
  simp only [c51, L51, argE]
  have e : nmOk s = (decide ((0 : Int) < s.length) && decide ((s.length : Int) < 33)) := by
    unfold nmOk
    rw [Bool.eq_iff_iff]
    simp only [Bool.and_eq_true, Bool.not_eq_true', decide_eq_false_iff_not, decide_eq_true_eq]
    rw [← List.length_eq_zero_iff]; omega
  rw [e]
  repeat' (first | exact True.intro | (refine PW.seqK ?_; intro K hK) | refine PW.block ?_ | refine PW.scope ?_ | refine PW.label ?_ | refine PW.exit ?_ | refine PW.ret ?_ | refine PW.skip ?_ | refine seqK_n (by assumption) ?_ | refine seqK_r (by assumption) ?_ | refine seqK_e (by assumption) ?_ | refine PW.regionA ?_ | exact schedW_stop_i | refine schK_n (by assumption) ?_ | (refine schedW_alt_k ?_ ?_; focus (intro K hK; simp only [SS, SS2, SS3, SS4, scopeQ_normal, scopeQ_ret, scopeQ_exit, Option.map_some, Bool.not_false, Bool.not_true, gArgs, gOk, Nat.reduceAdd, PV.shift, MObj.shift, rdV, rdD, reduceIte, Nat.reduceEqDiff, Nat.reduceBEq, PV.bin, PV.binOk, binI, binS, PV.withInt, PV.withIntP, okAll, PV.under, PV.okUnder, eq_self, implies_true, deadOk, ne_eq, allOk, RVar.val, RVar.ok, retV, PV.seen, PV.view, beq_self_eq_true, PV.flat, PV.noOwn, id_eq, behind, PV.kill, MObj.kill, killTag, reduceCtorEq, nilB]; (try go_unwrap; try simp only [toNat_add2, toNat_add1, Int.toNat_natCast, Bool.false_and, Bool.true_and, true_implies, true_and, Bool.false_eq_true, reduceCtorEq, false_implies, Bool.not_false, Bool.not_true, Bool.true_or, Bool.false_or]))) | (refine PW.cond rfl ?_ ?_ <;> intro hcond <;> (try contradiction) <;> try simp only [decide_eq_true_eq, decide_eq_false_iff_not] at hcond) | (refine gd_i ?_; intro hg; try simp only [hg]) | ((first | show @LE.le Nat _ _ _ | show @LT.lt Nat _ _ _ | show @LE.le Int _ _ _ | show @LT.lt Int _ _ _ | show @Eq Nat _ _ | show @Eq Int _ _ | show @Eq Bool _ _ | show _ ∨ _ | show ¬ _); first | omega | (simp only [decide_eq_true_eq, decide_eq_false_iff_not, List.length_cons, List.length_nil, List.length_append, List.length_map, Sh.size] <;> omega) | (go_unwrap; omega)) | ((first | refine PW.region ?_ | refine PW.regionQ ?_ | refine schedW_done_i ?_ | show (_ : Post) _ _ _ | show @Eq (List PV) _ _ | show @Eq Bool _ _ | show opsW _ _ _ _ _ _ _ _ | show okAll _ | show @Eq Bool _ _ ∨ _); focus (simp only [SS, SS2, SS3, SS4, scopeQ_normal, scopeQ_ret, scopeQ_exit, Option.map_some, Bool.not_false, Bool.not_true, gArgs, gOk, Nat.reduceAdd, PV.shift, MObj.shift, rdV, rdD, reduceIte, Nat.reduceEqDiff, Nat.reduceBEq, PV.bin, PV.binOk, binI, binS, PV.withInt, PV.withIntP, okAll, PV.under, PV.okUnder, eq_self, implies_true, deadOk, ne_eq, allOk, RVar.val, RVar.ok, retV, PV.seen, PV.view, beq_self_eq_true, PV.flat, PV.noOwn, id_eq, behind, PV.kill, MObj.kill, killTag, reduceCtorEq, nilB]; (try go_unwrap; try simp only [toNat_add2, toNat_add1, Int.toNat_natCast, Bool.false_and, Bool.true_and, true_implies, true_and, Bool.false_eq_true, reduceCtorEq, false_implies, Bool.not_false, Bool.not_true, Bool.true_or, Bool.false_or]))) | refine And.intro ?_ ?_ | exact Or.inr ⟨rfl, Nat.le_refl _⟩ | exact (fun h => Bool.noConfusion h))
theorem v37 (l : List Ed) (hl : l.length ≤ 1000000000) (s : St) : VCalls Try.prog G0 37 [edL l, .str s] (.int .i64 (plcE l s)) := by
  refine VCalls.of_PW Try.func37 k37 mix (by simp [c37]) ?_
  simp only [c37, L37, argE]
  have hlen : ((l.map edP).length : Nat) = l.length := by simp
  repeat' (first | exact True.intro | (refine PW.seqK ?_; intro K hK) | refine PW.block ?_ | refine PW.scope ?_ | refine PW.label ?_ | refine PW.exit ?_ | refine PW.ret ?_ | refine PW.skip ?_ | refine seqK_n (by assumption) ?_ | refine seqK_r (by assumption) ?_ | refine seqK_e (by assumption) ?_ | refine PW.regionA ?_ | exact schedW_stop_i | refine schK_n (by assumption) ?_ | (refine schedW_alt_k ?_ ?_; focus (intro K hK; simp only [hlen, SS, SS2, SS3, SS4, scopeQ_normal, scopeQ_ret, scopeQ_exit, Option.map_some, Bool.not_false, Bool.not_true, gArgs, gOk, Nat.reduceAdd, PV.shift, MObj.shift, rdV, rdD, reduceIte, Nat.reduceEqDiff, Nat.reduceBEq, PV.bin, PV.binOk, binI, binS, PV.withInt, PV.withIntP, okAll, PV.under, PV.okUnder, eq_self, implies_true, deadOk, ne_eq, allOk, RVar.val, RVar.ok, retV, PV.seen, PV.view, beq_self_eq_true, PV.flat, PV.noOwn, id_eq, behind, PV.kill, MObj.kill, killTag, reduceCtorEq, nilB]; (try go_unwrap; try simp only [hlen, toNat_add2, toNat_add1, Int.toNat_natCast, Bool.false_and, Bool.true_and, true_implies, true_and, Bool.false_eq_true, reduceCtorEq, false_implies, Bool.not_false, Bool.not_true, Bool.true_or, Bool.false_or]))) | (refine PW.cond rfl ?_ ?_ <;> intro hcond <;> (try contradiction) <;> try simp only [decide_eq_true_eq, decide_eq_false_iff_not] at hcond) | (refine gd_i ?_; intro hg; try simp only [hg]) | ((first | show @LE.le Nat _ _ _ | show @LT.lt Nat _ _ _ | show @LE.le Int _ _ _ | show @LT.lt Int _ _ _ | show @Eq Nat _ _ | show @Eq Int _ _ | show @Eq Bool _ _ | show _ ∨ _ | show ¬ _); first | omega | (simp only [decide_eq_true_eq, decide_eq_false_iff_not, List.length_cons, List.length_nil, List.length_append, List.length_map, Sh.size] <;> omega) | (go_unwrap; omega)) | ((first | refine PW.region ?_ | refine PW.regionQ ?_ | refine schedW_done_i ?_ | show (_ : Post) _ _ _ | show @Eq (List PV) _ _ | show @Eq Bool _ _ | show opsW _ _ _ _ _ _ _ _ | show okAll _ | show @Eq Bool _ _ ∨ _); focus (simp only [hlen, SS, SS2, SS3, SS4, scopeQ_normal, scopeQ_ret, scopeQ_exit, Option.map_some, Bool.not_false, Bool.not_true, gArgs, gOk, Nat.reduceAdd, PV.shift, MObj.shift, rdV, rdD, reduceIte, Nat.reduceEqDiff, Nat.reduceBEq, PV.bin, PV.binOk, binI, binS, PV.withInt, PV.withIntP, okAll, PV.under, PV.okUnder, eq_self, implies_true, deadOk, ne_eq, allOk, RVar.val, RVar.ok, retV, PV.seen, PV.view, beq_self_eq_true, PV.flat, PV.noOwn, id_eq, behind, PV.kill, MObj.kill, killTag, reduceCtorEq, nilB]; (try go_unwrap; try simp only [hlen, toNat_add2, toNat_add1, Int.toNat_natCast, Bool.false_and, Bool.true_and, true_implies, true_and, Bool.false_eq_true, reduceCtorEq, false_implies, Bool.not_false, Bool.not_true, Bool.true_or, Bool.false_or]))) | refine And.intro ?_ ?_ | exact Or.inr ⟨rfl, Nat.le_refl _⟩ | exact (fun h => Bool.noConfusion h))
  refine PW.loop (σ := Nat) [0, 1, 4, 5] (fun i => [edL l, .str s, .int .i64 0, .int .i64 i]) (fun _ => []) (fun i => i ≤ l.length ∧ ∀ j (h : j < l.length), j < i → l[j].name ≠ s) (fun i => l.length - i) 0 ?_ rfl ⟨by omega, fun j _ h => by omega⟩ ?_
  · simp only [SS, SS2, SS3, SS4, scopeQ_normal, scopeQ_ret, scopeQ_exit, Option.map_some, Bool.not_false, Bool.not_true, gArgs, gOk, Nat.reduceAdd, PV.shift, MObj.shift, rdV, rdD, reduceIte, Nat.reduceEqDiff, Nat.reduceBEq, PV.bin, PV.binOk, binI, binS, PV.withInt, PV.withIntP, okAll, PV.under, PV.okUnder, eq_self, implies_true, deadOk, ne_eq, allOk, RVar.val, RVar.ok, retV, PV.seen, PV.view, beq_self_eq_true, PV.flat, PV.noOwn, id_eq, behind, PV.kill, MObj.kill, killTag, reduceCtorEq, nilB]; rfl
  rintro i ⟨hi, hall⟩
  simp only [List.zip_cons_cons, List.zip_nil_left]
  rcases Nat.lt_or_ge i l.length with h | h
  · have hd : decide ((i : Int) < l.length) = true := by simp only [decide_eq_true_eq]; omega
    have hg := ed_getD l i h
    have hyes : l[i].name = s → plcE l s = i := fun e => plcE_at h e hall
    have hnx : l[i].name ≠ s → ∀ j (h : j < l.length), j < i + 1 → l[j].name ≠ s := fun hp j hj hji => by
      rcases Nat.lt_or_ge j i with h' | h'
      · exact hall j hj h'
      · obtain rfl : j = i := by omega
        exact hp
    generalize l[i] = e at hg hyes hnx
    simp only [edP] at hg
    by_cases he : e.name = s
    · have d1 : decide (e.name = s) = true := by simpa using he
      have hy := hyes he
      repeat' (first | exact True.intro | (refine PW.seqK ?_; intro K hK) | refine PW.block ?_ | refine PW.scope ?_ | refine PW.label ?_ | refine PW.exit ?_ | refine PW.ret ?_ | refine PW.skip ?_ | refine seqK_n (by assumption) ?_ | refine seqK_r (by assumption) ?_ | refine seqK_e (by assumption) ?_ | refine PW.regionA ?_ | exact schedW_stop_i | refine schK_n (by assumption) ?_ | (refine schedW_alt_k ?_ ?_; focus (intro K hK; simp only [hd, hg, hlen, d1, SS, SS2, SS3, SS4, scopeQ_normal, scopeQ_ret, scopeQ_exit, Option.map_some, Bool.not_false, Bool.not_true, gArgs, gOk, Nat.reduceAdd, PV.shift, MObj.shift, rdV, rdD, reduceIte, Nat.reduceEqDiff, Nat.reduceBEq, PV.bin, PV.binOk, binI, binS, PV.withInt, PV.withIntP, okAll, PV.under, PV.okUnder, eq_self, implies_true, deadOk, ne_eq, allOk, RVar.val, RVar.ok, retV, PV.seen, PV.view, beq_self_eq_true, PV.flat, PV.noOwn, id_eq, behind, PV.kill, MObj.kill, killTag, reduceCtorEq, nilB]; (try go_unwrap; try simp only [hd, hg, hlen, d1, toNat_add2, toNat_add1, Int.toNat_natCast, Bool.false_and, Bool.true_and, true_implies, true_and, Bool.false_eq_true, reduceCtorEq, false_implies, Bool.not_false, Bool.not_true, Bool.true_or, Bool.false_or]))) | (refine PW.cond rfl ?_ ?_ <;> intro hcond <;> (try contradiction) <;> try simp only [decide_eq_true_eq, decide_eq_false_iff_not] at hcond) | (refine gd_i ?_; intro hg; try simp only [hg]) | ((first | show @LE.le Nat _ _ _ | show @LT.lt Nat _ _ _ | show @LE.le Int _ _ _ | show @LT.lt Int _ _ _ | show @Eq Nat _ _ | show @Eq Int _ _ | show @Eq Bool _ _ | show _ ∨ _ | show ¬ _); first | omega | (simp only [decide_eq_true_eq, decide_eq_false_iff_not, List.length_cons, List.length_nil, List.length_append, List.length_map, Sh.size] <;> omega) | (go_unwrap; omega)) | ((first | refine PW.region ?_ | refine PW.regionQ ?_ | refine schedW_done_i ?_ | show (_ : Post) _ _ _ | show @Eq (List PV) _ _ | show @Eq Bool _ _ | show opsW _ _ _ _ _ _ _ _ | show okAll _ | show @Eq Bool _ _ ∨ _); focus (simp only [hd, hg, hlen, d1, SS, SS2, SS3, SS4, scopeQ_normal, scopeQ_ret, scopeQ_exit, Option.map_some, Bool.not_false, Bool.not_true, gArgs, gOk, Nat.reduceAdd, PV.shift, MObj.shift, rdV, rdD, reduceIte, Nat.reduceEqDiff, Nat.reduceBEq, PV.bin, PV.binOk, binI, binS, PV.withInt, PV.withIntP, okAll, PV.under, PV.okUnder, eq_self, implies_true, deadOk, ne_eq, allOk, RVar.val, RVar.ok, retV, PV.seen, PV.view, beq_self_eq_true, PV.flat, PV.noOwn, id_eq, behind, PV.kill, MObj.kill, killTag, reduceCtorEq, nilB]; (try go_unwrap; try simp only [hd, hg, hlen, d1, toNat_add2, toNat_add1, Int.toNat_natCast, Bool.false_and, Bool.true_and, true_implies, true_and, Bool.false_eq_true, reduceCtorEq, false_implies, Bool.not_false, Bool.not_true, Bool.true_or, Bool.false_or]))) | refine And.intro ?_ ?_ | exact Or.inr ⟨rfl, Nat.le_refl _⟩ | exact (fun h => Bool.noConfusion h))
      all_goals (rw [hy])
    · have d1 : decide (e.name = s) = false := by simpa using he
      have hnx := hnx he
      repeat' (first | exact True.intro | (refine PW.seqK ?_; intro K hK) | refine PW.block ?_ | refine PW.scope ?_ | refine PW.label ?_ | refine PW.exit ?_ | refine PW.ret ?_ | refine PW.skip ?_ | refine seqK_n (by assumption) ?_ | refine seqK_r (by assumption) ?_ | refine seqK_e (by assumption) ?_ | refine PW.regionA ?_ | exact schedW_stop_i | refine schK_n (by assumption) ?_ | (refine schedW_alt_k ?_ ?_; focus (intro K hK; simp only [hd, hg, hlen, d1, SS, SS2, SS3, SS4, scopeQ_normal, scopeQ_ret, scopeQ_exit, Option.map_some, Bool.not_false, Bool.not_true, gArgs, gOk, Nat.reduceAdd, PV.shift, MObj.shift, rdV, rdD, reduceIte, Nat.reduceEqDiff, Nat.reduceBEq, PV.bin, PV.binOk, binI, binS, PV.withInt, PV.withIntP, okAll, PV.under, PV.okUnder, eq_self, implies_true, deadOk, ne_eq, allOk, RVar.val, RVar.ok, retV, PV.seen, PV.view, beq_self_eq_true, PV.flat, PV.noOwn, id_eq, behind, PV.kill, MObj.kill, killTag, reduceCtorEq, nilB]; (try go_unwrap; try simp only [hd, hg, hlen, d1, toNat_add2, toNat_add1, Int.toNat_natCast, Bool.false_and, Bool.true_and, true_implies, true_and, Bool.false_eq_true, reduceCtorEq, false_implies, Bool.not_false, Bool.not_true, Bool.true_or, Bool.false_or]))) | (refine PW.cond rfl ?_ ?_ <;> intro hcond <;> (try contradiction) <;> try simp only [decide_eq_true_eq, decide_eq_false_iff_not] at hcond) | (refine gd_i ?_; intro hg; try simp only [hg]) | ((first | show @LE.le Nat _ _ _ | show @LT.lt Nat _ _ _ | show @LE.le Int _ _ _ | show @LT.lt Int _ _ _ | show @Eq Nat _ _ | show @Eq Int _ _ | show @Eq Bool _ _ | show _ ∨ _ | show ¬ _); first | omega | (simp only [decide_eq_true_eq, decide_eq_false_iff_not, List.length_cons, List.length_nil, List.length_append, List.length_map, Sh.size] <;> omega) | (go_unwrap; omega)) | ((first | refine PW.region ?_ | refine PW.regionQ ?_ | refine schedW_done_i ?_ | show (_ : Post) _ _ _ | show @Eq (List PV) _ _ | show @Eq Bool _ _ | show opsW _ _ _ _ _ _ _ _ | show okAll _ | show @Eq Bool _ _ ∨ _); focus (simp only [hd, hg, hlen, d1, SS, SS2, SS3, SS4, scopeQ_normal, scopeQ_ret, scopeQ_exit, Option.map_some, Bool.not_false, Bool.not_true, gArgs, gOk, Nat.reduceAdd, PV.shift, MObj.shift, rdV, rdD, reduceIte, Nat.reduceEqDiff, Nat.reduceBEq, PV.bin, PV.binOk, binI, binS, PV.withInt, PV.withIntP, okAll, PV.under, PV.okUnder, eq_self, implies_true, deadOk, ne_eq, allOk, RVar.val, RVar.ok, retV, PV.seen, PV.view, beq_self_eq_true, PV.flat, PV.noOwn, id_eq, behind, PV.kill, MObj.kill, killTag, reduceCtorEq, nilB]; (try go_unwrap; try simp only [hd, hg, hlen, d1, toNat_add2, toNat_add1, Int.toNat_natCast, Bool.false_and, Bool.true_and, true_implies, true_and, Bool.false_eq_true, reduceCtorEq, false_implies, Bool.not_false, Bool.not_true, Bool.true_or, Bool.false_or]))) | refine And.intro ?_ ?_ | exact Or.inr ⟨rfl, Nat.le_refl _⟩ | exact (fun h => Bool.noConfusion h))
      all_goals exact ⟨i + 1, rfl, ⟨by omega, hnx⟩, by omega⟩
  · have hd : decide ((i : Int) < l.length) = false := by simp only [decide_eq_false_iff_not]; omega
    have := plcE_none (l := l) (s := s) (fun j hj => hall j hj (by omega))
    repeat' (first | exact True.intro | (refine PW.seqK ?_; intro K hK) | refine PW.block ?_ | refine PW.scope ?_ | refine PW.label ?_ | refine PW.exit ?_ | refine PW.ret ?_ | refine PW.skip ?_ | refine seqK_n (by assumption) ?_ | refine seqK_r (by assumption) ?_ | refine seqK_e (by assumption) ?_ | refine PW.regionA ?_ | exact schedW_stop_i | refine schK_n (by assumption) ?_ | (refine schedW_alt_k ?_ ?_; focus (intro K hK; simp only [hd, hlen, SS, SS2, SS3, SS4, scopeQ_normal, scopeQ_ret, scopeQ_exit, Option.map_some, Bool.not_false, Bool.not_true, gArgs, gOk, Nat.reduceAdd, PV.shift, MObj.shift, rdV, rdD, reduceIte, Nat.reduceEqDiff, Nat.reduceBEq, PV.bin, PV.binOk, binI, binS, PV.withInt, PV.withIntP, okAll, PV.under, PV.okUnder, eq_self, implies_true, deadOk, ne_eq, allOk, RVar.val, RVar.ok, retV, PV.seen, PV.view, beq_self_eq_true, PV.flat, PV.noOwn, id_eq, behind, PV.kill, MObj.kill, killTag, reduceCtorEq, nilB]; (try go_unwrap; try simp only [hd, hlen, toNat_add2, toNat_add1, Int.toNat_natCast, Bool.false_and, Bool.true_and, true_implies, true_and, Bool.false_eq_true, reduceCtorEq, false_implies, Bool.not_false, Bool.not_true, Bool.true_or, Bool.false_or]))) | (refine PW.cond rfl ?_ ?_ <;> intro hcond <;> (try contradiction) <;> try simp only [decide_eq_true_eq, decide_eq_false_iff_not] at hcond) | (refine gd_i ?_; intro hg; try simp only [hg]) | ((first | show @LE.le Nat _ _ _ | show @LT.lt Nat _ _ _ | show @LE.le Int _ _ _ | show @LT.lt Int _ _ _ | show @Eq Nat _ _ | show @Eq Int _ _ | show @Eq Bool _ _ | show _ ∨ _ | show ¬ _); first | omega | (simp only [decide_eq_true_eq, decide_eq_false_iff_not, List.length_cons, List.length_nil, List.length_append, List.length_map, Sh.size] <;> omega) | (go_unwrap; omega)) | ((first | refine PW.region ?_ | refine PW.regionQ ?_ | refine schedW_done_i ?_ | show (_ : Post) _ _ _ | show @Eq (List PV) _ _ | show @Eq Bool _ _ | show opsW _ _ _ _ _ _ _ _ | show okAll _ | show @Eq Bool _ _ ∨ _); focus (simp only [hd, hlen, SS, SS2, SS3, SS4, scopeQ_normal, scopeQ_ret, scopeQ_exit, Option.map_some, Bool.not_false, Bool.not_true, gArgs, gOk, Nat.reduceAdd, PV.shift, MObj.shift, rdV, rdD, reduceIte, Nat.reduceEqDiff, Nat.reduceBEq, PV.bin, PV.binOk, binI, binS, PV.withInt, PV.withIntP, okAll, PV.under, PV.okUnder, eq_self, implies_true, deadOk, ne_eq, allOk, RVar.val, RVar.ok, retV, PV.seen, PV.view, beq_self_eq_true, PV.flat, PV.noOwn, id_eq, behind, PV.kill, MObj.kill, killTag, reduceCtorEq, nilB]; (try go_unwrap; try simp only [hd, hlen, toNat_add2, toNat_add1, Int.toNat_natCast, Bool.false_and, Bool.true_and, true_implies, true_and, Bool.false_eq_true, reduceCtorEq, false_implies, Bool.not_false, Bool.not_true, Bool.true_or, Bool.false_or]))) | refine And.intro ?_ ?_ | exact Or.inr ⟨rfl, Nat.le_refl _⟩ | exact (fun h => Bool.noConfusion h))
    all_goals (rw [this])
theorem v38 (l : List (List UInt8)) (s : List UInt8) (hl : l.length ≤ 1000000000) : VCalls Try.prog G0 38 [txL l, .str s] (txL (putM l s)) := by
  refine VCalls.of_PW Try.func38 k38 mix (by simp [c38]) ?_
  simp only [c38, L38, argE]
  have hlen : ((l.map PV.str).length : Nat) = l.length := by simp
  obtain ⟨n, hn⟩ : ∃ n, n = atP l s := ⟨_, rfl⟩
  have hnl : n ≤ l.length := by rw [hn]; exact atP_le l s
  have hlt : ∀ (i : Nat) (h : i < l.length), i < n → Op.bytesLess l[i] s = true := by subst hn; exact atP_lt l s
  have heq : ∀ h : n < l.length, Op.bytesLess l[n] s = false := by subst hn; exact atP_eq l s
  have hput : putM l s = if l[n]? = some s then l else l.take n ++ s :: l.drop n := by unfold putM; rw [hn]
  rw [hput]
  clear hn hput
  repeat' (first | exact True.intro | (refine PW.seqK ?_; intro K hK) | refine PW.block ?_ | refine PW.scope ?_ | refine PW.label ?_ | refine PW.exit ?_ | refine PW.ret ?_ | refine PW.skip ?_ | refine seqK_n (by assumption) ?_ | refine seqK_r (by assumption) ?_ | refine seqK_e (by assumption) ?_ | refine PW.regionA ?_ | exact schedW_stop_i | refine schK_n (by assumption) ?_ | (refine schedW_alt_k ?_ ?_; focus (intro K hK; simp only [hlen, SS, SS2, SS3, SS4, scopeQ_normal, scopeQ_ret, scopeQ_exit, Option.map_some, Bool.not_false, Bool.not_true, gArgs, gOk, Nat.reduceAdd, PV.shift, MObj.shift, rdV, rdD, reduceIte, Nat.reduceEqDiff, Nat.reduceBEq, PV.bin, PV.binOk, binI, binS, PV.withInt, PV.withIntP, okAll, PV.under, PV.okUnder, eq_self, implies_true, deadOk, ne_eq, allOk, RVar.val, RVar.ok, retV, PV.seen, PV.view, beq_self_eq_true, PV.flat, PV.noOwn, id_eq, behind, PV.kill, MObj.kill, killTag, reduceCtorEq, nilB]; (try go_unwrap; try simp only [hlen, toNat_add2, toNat_add1, Int.toNat_natCast, Bool.false_and, Bool.true_and, true_implies, true_and, Bool.false_eq_true, reduceCtorEq, false_implies, Bool.not_false, Bool.not_true, Bool.true_or, Bool.false_or]))) | (refine PW.cond rfl ?_ ?_ <;> intro hcond <;> (try contradiction) <;> try simp only [decide_eq_true_eq, decide_eq_false_iff_not] at hcond) | (refine gd_i ?_; intro hg; try simp only [hg]) | ((first | show @LE.le Nat _ _ _ | show @LT.lt Nat _ _ _ | show @LE.le Int _ _ _ | show @LT.lt Int _ _ _ | show @Eq Nat _ _ | show @Eq Int _ _ | show @Eq Bool _ _ | show _ ∨ _ | show ¬ _); first | omega | (simp only [decide_eq_true_eq, decide_eq_false_iff_not, List.length_cons, List.length_nil, List.length_append, List.length_map, Sh.size] <;> omega) | (go_unwrap; omega)) | ((first | refine PW.region ?_ | refine PW.regionQ ?_ | refine schedW_done_i ?_ | show (_ : Post) _ _ _ | show @Eq (List PV) _ _ | show @Eq Bool _ _ | show opsW _ _ _ _ _ _ _ _ | show okAll _ | show @Eq Bool _ _ ∨ _); focus (simp only [hlen, SS, SS2, SS3, SS4, scopeQ_normal, scopeQ_ret, scopeQ_exit, Option.map_some, Bool.not_false, Bool.not_true, gArgs, gOk, Nat.reduceAdd, PV.shift, MObj.shift, rdV, rdD, reduceIte, Nat.reduceEqDiff, Nat.reduceBEq, PV.bin, PV.binOk, binI, binS, PV.withInt, PV.withIntP, okAll, PV.under, PV.okUnder, eq_self, implies_true, deadOk, ne_eq, allOk, RVar.val, RVar.ok, retV, PV.seen, PV.view, beq_self_eq_true, PV.flat, PV.noOwn, id_eq, behind, PV.kill, MObj.kill, killTag, reduceCtorEq, nilB]; (try go_unwrap; try simp only [hlen, toNat_add2, toNat_add1, Int.toNat_natCast, Bool.false_and, Bool.true_and, true_implies, true_and, Bool.false_eq_true, reduceCtorEq, false_implies, Bool.not_false, Bool.not_true, Bool.true_or, Bool.false_or]))) | refine And.intro ?_ ?_ | exact Or.inr ⟨rfl, Nat.le_refl _⟩ | exact (fun h => Bool.noConfusion h))
  refine PW.loopG (σ := Nat) 0 (fun _ _ => rfl) [0, 1, 4, 5] (fun i => [txL l, .str s, .nilSl, .int .i64 i]) (fun _ => []) (fun i => i ≤ n) (fun i => n - i) 0 ?_ rfl (by omega) ?_
  · simp only [SS, SS2, SS3, SS4, scopeQ_normal, scopeQ_ret, scopeQ_exit, Option.map_some, Bool.not_false, Bool.not_true, gArgs, gOk, Nat.reduceAdd, PV.shift, MObj.shift, rdV, rdD, reduceIte, Nat.reduceEqDiff, Nat.reduceBEq, PV.bin, PV.binOk, binI, binS, PV.withInt, PV.withIntP, okAll, PV.under, PV.okUnder, eq_self, implies_true, deadOk, ne_eq, allOk, RVar.val, RVar.ok, retV, PV.seen, PV.view, beq_self_eq_true, PV.flat, PV.noOwn, id_eq, behind, PV.kill, MObj.kill, killTag, reduceCtorEq, nilB]; rfl
  rintro i hi
  simp only [List.zip_cons_cons, List.zip_nil_left]
  rcases Nat.lt_or_ge i n with h | h
  · have hd : decide ((i : Int) < l.length) = true := by simp only [decide_eq_true_eq]; omega
    have hg := tx_getD l i (by omega)
    have hb := hlt i (by omega) h
    repeat' (first | exact True.intro | (refine PW.seqK ?_; intro K hK) | refine PW.block ?_ | refine PW.scope ?_ | refine PW.label ?_ | refine PW.exit ?_ | refine PW.ret ?_ | refine PW.skip ?_ | refine seqK_n (by assumption) ?_ | refine seqK_r (by assumption) ?_ | refine seqK_e (by assumption) ?_ | refine PW.regionA ?_ | exact schedW_stop_i | refine schK_n (by assumption) ?_ | (refine schedW_alt_k ?_ ?_; focus (intro K hK; simp only [hlen, hd, hg, hb, SS, SS2, SS3, SS4, scopeQ_normal, scopeQ_ret, scopeQ_exit, Option.map_some, Bool.not_false, Bool.not_true, gArgs, gOk, Nat.reduceAdd, PV.shift, MObj.shift, rdV, rdD, reduceIte, Nat.reduceEqDiff, Nat.reduceBEq, PV.bin, PV.binOk, binI, binS, PV.withInt, PV.withIntP, okAll, PV.under, PV.okUnder, eq_self, implies_true, deadOk, ne_eq, allOk, RVar.val, RVar.ok, retV, PV.seen, PV.view, beq_self_eq_true, PV.flat, PV.noOwn, id_eq, behind, PV.kill, MObj.kill, killTag, reduceCtorEq, nilB]; (try go_unwrap; try simp only [hlen, hd, hg, hb, toNat_add2, toNat_add1, Int.toNat_natCast, Bool.false_and, Bool.true_and, true_implies, true_and, Bool.false_eq_true, reduceCtorEq, false_implies, Bool.not_false, Bool.not_true, Bool.true_or, Bool.false_or]))) | (refine PW.cond rfl ?_ ?_ <;> intro hcond <;> (try contradiction) <;> try simp only [decide_eq_true_eq, decide_eq_false_iff_not] at hcond) | (refine gd_i ?_; intro hg; try simp only [hg]) | ((first | show @LE.le Nat _ _ _ | show @LT.lt Nat _ _ _ | show @LE.le Int _ _ _ | show @LT.lt Int _ _ _ | show @Eq Nat _ _ | show @Eq Int _ _ | show @Eq Bool _ _ | show _ ∨ _ | show ¬ _); first | omega | (simp only [decide_eq_true_eq, decide_eq_false_iff_not, List.length_cons, List.length_nil, List.length_append, List.length_map, Sh.size] <;> omega) | (go_unwrap; omega)) | ((first | refine PW.region ?_ | refine PW.regionQ ?_ | refine schedW_done_i ?_ | show (_ : Post) _ _ _ | show @Eq (List PV) _ _ | show @Eq Bool _ _ | show opsW _ _ _ _ _ _ _ _ | show okAll _ | show @Eq Bool _ _ ∨ _); focus (simp only [hlen, hd, hg, hb, SS, SS2, SS3, SS4, scopeQ_normal, scopeQ_ret, scopeQ_exit, Option.map_some, Bool.not_false, Bool.not_true, gArgs, gOk, Nat.reduceAdd, PV.shift, MObj.shift, rdV, rdD, reduceIte, Nat.reduceEqDiff, Nat.reduceBEq, PV.bin, PV.binOk, binI, binS, PV.withInt, PV.withIntP, okAll, PV.under, PV.okUnder, eq_self, implies_true, deadOk, ne_eq, allOk, RVar.val, RVar.ok, retV, PV.seen, PV.view, beq_self_eq_true, PV.flat, PV.noOwn, id_eq, behind, PV.kill, MObj.kill, killTag, reduceCtorEq, nilB]; (try go_unwrap; try simp only [hlen, hd, hg, hb, toNat_add2, toNat_add1, Int.toNat_natCast, Bool.false_and, Bool.true_and, true_implies, true_and, Bool.false_eq_true, reduceCtorEq, false_implies, Bool.not_false, Bool.not_true, Bool.true_or, Bool.false_or]))) | refine And.intro ?_ ?_ | exact Or.inr ⟨rfl, Nat.le_refl _⟩ | exact (fun h => Bool.noConfusion h))
    all_goals exact ⟨i + 1, (by first | rfl | (simp only [trimE, trimM, List.take_succ_cons, List.take_zero, List.take_nil, List.map_cons, List.map_nil, Option.map_some, Option.map_none, MObj.kill, PV.kill, Nat.reduceLeDiff, decide_true, decide_false, dec_true, dec_false, Bool.false_eq_true, if_false, if_true, reduceIte, List.zip_cons_cons, List.zip_nil_left, Nat.le_refl, Nat.zero_le, Nat.not_le, Nat.lt_irrefl]; done) | (simp [trimE, trimM, MObj.kill, PV.kill]; done)), (by first | rfl | (simp only [trimE, trimM, List.take_succ_cons, List.take_zero, List.take_nil, List.map_cons, List.map_nil, Option.map_some, Option.map_none, MObj.kill, PV.kill, Nat.reduceLeDiff, decide_true, decide_false, dec_true, dec_false, Bool.false_eq_true, if_false, if_true, reduceIte, List.zip_cons_cons, List.zip_nil_left, Nat.le_refl, Nat.zero_le, Nat.not_le, Nat.lt_irrefl]; done) | (simp [trimE, trimM, MObj.kill, PV.kill]; done)), by omega, by omega⟩
  have hi' : i = n := by omega
  subst hi'
  have s1 : (l.map PV.str).take i = (l.take i).map PV.str := by rw [List.map_take]
  have s2 : (l.map PV.str).drop i = (l.drop i).map PV.str := by rw [List.map_drop]
  have e1 : ((l.take i).map PV.str).length = i := by simp; omega
  have e2 : ((l.drop i).map PV.str).length = l.length - i := by simp
  have t0 : ((l.map PV.str).take l.length) = l.map PV.str := List.take_of_length_le (by simp)
  have k1 : ((l.take i).map PV.str).take i = (l.take i).map PV.str := List.take_of_length_le (by omega)
  have k2 : ((l.take i).map PV.str ++ [PV.str s]).take (i + 1) = (l.take i).map PV.str ++ [PV.str s] := List.take_of_length_le (by rw [List.length_append, e1]; simp)
  have L2 : ((l.take i).map PV.str ++ [PV.str s]).length = i + 1 := by rw [List.length_append, e1]; simp
  have L3 : ((l.take i).map PV.str ++ [PV.str s] ++ (l.drop i).map PV.str).length = i + 1 + (l.length - i) := by rw [List.length_append, L2, e2]
  have b1 : i * 16 ≤ 281474976710656 := by omega
  have b2 : (i + 1) * 16 ≤ 281474976710656 := by omega
  have b3 : (i + 1 + (l.length - i)) * 16 ≤ 281474976710656 := by omega
  have fin : l[i]? ≠ some s → (l.take i).map PV.str ++ [PV.str s] ++ (l.drop i).map PV.str = (if l[i]? = some s then l else l.take i ++ s :: l.drop i).map PV.str := by
    intro hne
    rw [if_neg hne, List.map_append, List.map_cons, List.append_assoc]; rfl
  by_cases hc : i < l.length
  · have hd : decide ((i : Int) < l.length) = true := by simp only [decide_eq_true_eq]; omega
    have hg := tx_getD l i hc
    have hb := heq hc
    by_cases he : l[i] = s
    · have d1 : decide (l[i] = s) = true := by simpa using he
      have hX : (if l[i]? = some s then l else l.take i ++ s :: l.drop i) = l := by rw [if_pos (by simp [he, hc])]
      repeat' (first | exact True.intro | (refine PW.seqK ?_; intro K hK) | refine PW.block ?_ | refine PW.scope ?_ | refine PW.label ?_ | refine PW.exit ?_ | refine PW.ret ?_ | refine PW.skip ?_ | refine seqK_n (by assumption) ?_ | refine seqK_r (by assumption) ?_ | refine seqK_e (by assumption) ?_ | refine PW.regionA ?_ | exact schedW_stop_i | refine schK_n (by assumption) ?_ | (refine schedW_alt_k ?_ ?_; focus (intro K hK; simp only [hlen, hd, hg, hb, d1, SS, SS2, SS3, SS4, scopeQ_normal, scopeQ_ret, scopeQ_exit, Option.map_some, Bool.not_false, Bool.not_true, gArgs, gOk, Nat.reduceAdd, PV.shift, MObj.shift, rdV, rdD, reduceIte, Nat.reduceEqDiff, Nat.reduceBEq, PV.bin, PV.binOk, binI, binS, PV.withInt, PV.withIntP, okAll, PV.under, PV.okUnder, eq_self, implies_true, deadOk, ne_eq, allOk, RVar.val, RVar.ok, retV, PV.seen, PV.view, beq_self_eq_true, PV.flat, PV.noOwn, id_eq, behind, PV.kill, MObj.kill, killTag, reduceCtorEq, nilB]; (try go_unwrap; try simp only [hlen, hd, hg, hb, d1, toNat_add2, toNat_add1, Int.toNat_natCast, Bool.false_and, Bool.true_and, true_implies, true_and, Bool.false_eq_true, reduceCtorEq, false_implies, Bool.not_false, Bool.not_true, Bool.true_or, Bool.false_or]))) | (refine PW.cond rfl ?_ ?_ <;> intro hcond <;> (try contradiction) <;> try simp only [decide_eq_true_eq, decide_eq_false_iff_not] at hcond) | (refine gd_i ?_; intro hg; try simp only [hg]) | ((first | show @LE.le Nat _ _ _ | show @LT.lt Nat _ _ _ | show @LE.le Int _ _ _ | show @LT.lt Int _ _ _ | show @Eq Nat _ _ | show @Eq Int _ _ | show @Eq Bool _ _ | show _ ∨ _ | show ¬ _); first | omega | (simp only [decide_eq_true_eq, decide_eq_false_iff_not, List.length_cons, List.length_nil, List.length_append, List.length_map, Sh.size] <;> omega) | (go_unwrap; omega)) | ((first | refine PW.region ?_ | refine PW.regionQ ?_ | refine schedW_done_i ?_ | show (_ : Post) _ _ _ | show @Eq (List PV) _ _ | show @Eq Bool _ _ | show opsW _ _ _ _ _ _ _ _ | show okAll _ | show @Eq Bool _ _ ∨ _); focus (simp only [hlen, hd, hg, hb, d1, SS, SS2, SS3, SS4, scopeQ_normal, scopeQ_ret, scopeQ_exit, Option.map_some, Bool.not_false, Bool.not_true, gArgs, gOk, Nat.reduceAdd, PV.shift, MObj.shift, rdV, rdD, reduceIte, Nat.reduceEqDiff, Nat.reduceBEq, PV.bin, PV.binOk, binI, binS, PV.withInt, PV.withIntP, okAll, PV.under, PV.okUnder, eq_self, implies_true, deadOk, ne_eq, allOk, RVar.val, RVar.ok, retV, PV.seen, PV.view, beq_self_eq_true, PV.flat, PV.noOwn, id_eq, behind, PV.kill, MObj.kill, killTag, reduceCtorEq, nilB]; (try go_unwrap; try simp only [hlen, hd, hg, hb, d1, toNat_add2, toNat_add1, Int.toNat_natCast, Bool.false_and, Bool.true_and, true_implies, true_and, Bool.false_eq_true, reduceCtorEq, false_implies, Bool.not_false, Bool.not_true, Bool.true_or, Bool.false_or]))) | refine And.intro ?_ ?_ | exact Or.inr ⟨rfl, Nat.le_refl _⟩ | exact (fun h => Bool.noConfusion h))
      all_goals (rw [hX])
    · have d1 : decide (l[i] = s) = false := by simpa using he
      have fin := fin (by simp [he, hc])
      repeat' (first | exact True.intro | (refine PW.seqK ?_; intro K hK) | refine PW.block ?_ | refine PW.scope ?_ | refine PW.label ?_ | refine PW.exit ?_ | refine PW.ret ?_ | refine PW.skip ?_ | refine seqK_n (by assumption) ?_ | refine seqK_r (by assumption) ?_ | refine seqK_e (by assumption) ?_ | refine PW.regionA ?_ | exact schedW_stop_i | refine schK_n (by assumption) ?_ | (refine schedW_alt_k ?_ ?_; focus (intro K hK; simp only [hlen, hd, hg, hb, d1, s1, s2, e1, e2, t0, k1, k2, drop00, List.take_zero, List.take_nil, List.nil_append, List.length_cons, List.length_nil, Nat.zero_add, SS, SS2, SS3, SS4, scopeQ_normal, scopeQ_ret, scopeQ_exit, Option.map_some, Bool.not_false, Bool.not_true, gArgs, gOk, Nat.reduceAdd, PV.shift, MObj.shift, rdV, rdD, reduceIte, Nat.reduceEqDiff, Nat.reduceBEq, PV.bin, PV.binOk, binI, binS, PV.withInt, PV.withIntP, okAll, PV.under, PV.okUnder, eq_self, implies_true, deadOk, ne_eq, allOk, RVar.val, RVar.ok, retV, PV.seen, PV.view, beq_self_eq_true, PV.flat, PV.noOwn, id_eq, behind, PV.kill, MObj.kill, killTag, reduceCtorEq, nilB]; (try go_unwrap; try simp only [hlen, hd, hg, hb, d1, s1, s2, e1, e2, t0, k1, k2, drop00, List.take_zero, List.take_nil, List.nil_append, List.length_cons, List.length_nil, Nat.zero_add, toNat_add2, toNat_add1, Int.toNat_natCast, Bool.false_and, Bool.true_and, true_implies, true_and, Bool.false_eq_true, reduceCtorEq, false_implies, Bool.not_false, Bool.not_true, Bool.true_or, Bool.false_or]))) | (refine PW.cond rfl ?_ ?_ <;> intro hcond <;> (try contradiction) <;> try simp only [decide_eq_true_eq, decide_eq_false_iff_not] at hcond) | (refine gd_i ?_; intro hg; try simp only [hg]) | ((first | show @LE.le Nat _ _ _ | show @LT.lt Nat _ _ _ | show @LE.le Int _ _ _ | show @LT.lt Int _ _ _ | show @Eq Nat _ _ | show @Eq Int _ _ | show @Eq Bool _ _ | show _ ∨ _ | show ¬ _); first | omega | (simp only [decide_eq_true_eq, decide_eq_false_iff_not, List.length_cons, List.length_nil, List.length_append, List.length_map, Sh.size] <;> omega) | (go_unwrap; omega)) | ((first | refine PW.region ?_ | refine PW.regionQ ?_ | refine schedW_done_i ?_ | show (_ : Post) _ _ _ | show @Eq (List PV) _ _ | show @Eq Bool _ _ | show opsW _ _ _ _ _ _ _ _ | show okAll _ | show @Eq Bool _ _ ∨ _); focus (simp only [hlen, hd, hg, hb, d1, s1, s2, e1, e2, t0, k1, k2, drop00, List.take_zero, List.take_nil, List.nil_append, List.length_cons, List.length_nil, Nat.zero_add, SS, SS2, SS3, SS4, scopeQ_normal, scopeQ_ret, scopeQ_exit, Option.map_some, Bool.not_false, Bool.not_true, gArgs, gOk, Nat.reduceAdd, PV.shift, MObj.shift, rdV, rdD, reduceIte, Nat.reduceEqDiff, Nat.reduceBEq, PV.bin, PV.binOk, binI, binS, PV.withInt, PV.withIntP, okAll, PV.under, PV.okUnder, eq_self, implies_true, deadOk, ne_eq, allOk, RVar.val, RVar.ok, retV, PV.seen, PV.view, beq_self_eq_true, PV.flat, PV.noOwn, id_eq, behind, PV.kill, MObj.kill, killTag, reduceCtorEq, nilB]; (try go_unwrap; try simp only [hlen, hd, hg, hb, d1, s1, s2, e1, e2, t0, k1, k2, drop00, List.take_zero, List.take_nil, List.nil_append, List.length_cons, List.length_nil, Nat.zero_add, toNat_add2, toNat_add1, Int.toNat_natCast, Bool.false_and, Bool.true_and, true_implies, true_and, Bool.false_eq_true, reduceCtorEq, false_implies, Bool.not_false, Bool.not_true, Bool.true_or, Bool.false_or]))) | refine And.intro ?_ ?_ | exact Or.inr ⟨rfl, Nat.le_refl _⟩ | exact (fun h => Bool.noConfusion h))
      all_goals first
        | (rw [L2]; done)
        | (rw [L3]; simp; done)
        | (rw [if_pos (by rw [L3]; omega), List.take_of_length_le (by rw [L3]; omega), fin]; done)
        | (rw [if_pos (by rw [L3]; omega)]; done)
        | (rw [if_pos (by rw [L3]; omega)]; rfl)
        | skip
  · have hd : decide ((i : Int) < l.length) = false := by simp only [decide_eq_false_iff_not]; omega
    have fin := fin (by rw [List.getElem?_eq_none (by omega)]; simp)
    repeat' (first | exact True.intro | (refine PW.seqK ?_; intro K hK) | refine PW.block ?_ | refine PW.scope ?_ | refine PW.label ?_ | refine PW.exit ?_ | refine PW.ret ?_ | refine PW.skip ?_ | refine seqK_n (by assumption) ?_ | refine seqK_r (by assumption) ?_ | refine seqK_e (by assumption) ?_ | refine PW.regionA ?_ | exact schedW_stop_i | refine schK_n (by assumption) ?_ | (refine schedW_alt_k ?_ ?_; focus (intro K hK; simp only [hlen, hd, s1, s2, e1, e2, t0, k1, k2, drop00, List.take_zero, List.take_nil, List.nil_append, List.length_cons, List.length_nil, Nat.zero_add, SS, SS2, SS3, SS4, scopeQ_normal, scopeQ_ret, scopeQ_exit, Option.map_some, Bool.not_false, Bool.not_true, gArgs, gOk, Nat.reduceAdd, PV.shift, MObj.shift, rdV, rdD, reduceIte, Nat.reduceEqDiff, Nat.reduceBEq, PV.bin, PV.binOk, binI, binS, PV.withInt, PV.withIntP, okAll, PV.under, PV.okUnder, eq_self, implies_true, deadOk, ne_eq, allOk, RVar.val, RVar.ok, retV, PV.seen, PV.view, beq_self_eq_true, PV.flat, PV.noOwn, id_eq, behind, PV.kill, MObj.kill, killTag, reduceCtorEq, nilB]; (try go_unwrap; try simp only [hlen, hd, s1, s2, e1, e2, t0, k1, k2, drop00, List.take_zero, List.take_nil, List.nil_append, List.length_cons, List.length_nil, Nat.zero_add, toNat_add2, toNat_add1, Int.toNat_natCast, Bool.false_and, Bool.true_and, true_implies, true_and, Bool.false_eq_true, reduceCtorEq, false_implies, Bool.not_false, Bool.not_true, Bool.true_or, Bool.false_or]))) | (refine PW.cond rfl ?_ ?_ <;> intro hcond <;> (try contradiction) <;> try simp only [decide_eq_true_eq, decide_eq_false_iff_not] at hcond) | (refine gd_i ?_; intro hg; try simp only [hg]) | ((first | show @LE.le Nat _ _ _ | show @LT.lt Nat _ _ _ | show @LE.le Int _ _ _ | show @LT.lt Int _ _ _ | show @Eq Nat _ _ | show @Eq Int _ _ | show @Eq Bool _ _ | show _ ∨ _ | show ¬ _); first | omega | (simp only [decide_eq_true_eq, decide_eq_false_iff_not, List.length_cons, List.length_nil, List.length_append, List.length_map, Sh.size] <;> omega) | (go_unwrap; omega)) | ((first | refine PW.region ?_ | refine PW.regionQ ?_ | refine schedW_done_i ?_ | show (_ : Post) _ _ _ | show @Eq (List PV) _ _ | show @Eq Bool _ _ | show opsW _ _ _ _ _ _ _ _ | show okAll _ | show @Eq Bool _ _ ∨ _); focus (simp only [hlen, hd, s1, s2, e1, e2, t0, k1, k2, drop00, List.take_zero, List.take_nil, List.nil_append, List.length_cons, List.length_nil, Nat.zero_add, SS, SS2, SS3, SS4, scopeQ_normal, scopeQ_ret, scopeQ_exit, Option.map_some, Bool.not_false, Bool.not_true, gArgs, gOk, Nat.reduceAdd, PV.shift, MObj.shift, rdV, rdD, reduceIte, Nat.reduceEqDiff, Nat.reduceBEq, PV.bin, PV.binOk, binI, binS, PV.withInt, PV.withIntP, okAll, PV.under, PV.okUnder, eq_self, implies_true, deadOk, ne_eq, allOk, RVar.val, RVar.ok, retV, PV.seen, PV.view, beq_self_eq_true, PV.flat, PV.noOwn, id_eq, behind, PV.kill, MObj.kill, killTag, reduceCtorEq, nilB]; (try go_unwrap; try simp only [hlen, hd, s1, s2, e1, e2, t0, k1, k2, drop00, List.take_zero, List.take_nil, List.nil_append, List.length_cons, List.length_nil, Nat.zero_add, toNat_add2, toNat_add1, Int.toNat_natCast, Bool.false_and, Bool.true_and, true_implies, true_and, Bool.false_eq_true, reduceCtorEq, false_implies, Bool.not_false, Bool.not_true, Bool.true_or, Bool.false_or]))) | refine And.intro ?_ ?_ | exact Or.inr ⟨rfl, Nat.le_refl _⟩ | exact (fun h => Bool.noConfusion h))
    all_goals first
      | (rw [L2]; done)
      | (rw [L3]; simp; done)
      | (rw [if_pos (by rw [L3]; omega), List.take_of_length_le (by rw [L3]; omega), fin]; done)
      | (rw [if_pos (by rw [L3]; omega)]; done)
      | (rw [if_pos (by rw [L3]; omega)]; rfl)
      | skip
theorem wrongM_at {l : List Ed} (h64 : l.length ≤ 64) {i : Nat} (h : i < l.length) (hall : ∀ j (h : j < l.length), j < i → nmOk l[j].name = true ∧ l[j].needs.length ≤ 64 ∧ l[j].needs.all nmOk = true ∧ l[j].name ∉ (l.take j).map (·.name)) :
    wrongM l = if nmOk l[i].name = false then 12 else if 64 < l[i].needs.length then 5 else if l[i].needs.all nmOk = false then 12 else if l[i].name ∈ (l.take i).map (·.name) then 7 else wrongF ((l.take (i + 1)).map (·.name)) (l.drop (i + 1)) := by
  unfold wrongM
  rw [if_neg (by omega)]
  exact wrongF_pre l [] i h hall
theorem wrongM_end {l : List Ed} (h64 : l.length ≤ 64) (hall : ∀ j (h : j < l.length), nmOk l[j].name = true ∧ l[j].needs.length ≤ 64 ∧ l[j].needs.all nmOk = true ∧ l[j].name ∉ (l.take j).map (·.name)) : wrongM l = 0 := by
  refine wrongM_0.2 ⟨h64, ?_, fun e he => ?_⟩
  · refine List.pairwise_iff_getElem.2 ?_
    intro a b ha hb hab e
    simp only [List.length_map] at ha hb
    refine (hall b hb).2.2.2 (List.mem_map.2 ⟨l[a], ?_, by simpa using e⟩)
    exact List.mem_take_iff_getElem.2 ⟨a, by omega, rfl⟩
  · obtain ⟨j, hj, rfl⟩ := List.getElem_of_mem he
    obtain ⟨a, b, c, -⟩ := hall j hj
    exact ⟨a, b, c⟩
theorem v32 (l : List Ed) (hl : l.length ≤ 1000000000) (hnl : ∀ e ∈ l, e.needs.length ≤ 9223372036854775807) : VCalls Try.prog G0 32 [edL l] (.int .i64 (wrongM l)) := by
  refine VCalls.of_PW Try.func32 k32 mix (by simp [c32]) ?_
  simp only [c32, L32, argE]
  have hlen : ((l.map edP).length : Nat) = l.length := by simp
  rcases Nat.lt_or_ge 64 l.length with h64 | h64
  · have d0 : decide ((64 : Int) < l.length) = true := by simp only [decide_eq_true_eq]; omega
    have : wrongM l = 5 := by unfold wrongM; rw [if_pos h64]
    rw [this]
    repeat' (first | exact True.intro | (refine PW.seqK ?_; intro K hK) | refine PW.block ?_ | refine PW.scope ?_ | refine PW.label ?_ | refine PW.exit ?_ | refine PW.ret ?_ | refine PW.skip ?_ | refine seqK_n (by assumption) ?_ | refine seqK_r (by assumption) ?_ | refine seqK_e (by assumption) ?_ | refine PW.regionA ?_ | exact schedW_stop_i | refine schK_n (by assumption) ?_ | (refine schedW_alt_k ?_ ?_; focus (intro K hK; simp only [hlen, d0, SS, SS2, SS3, SS4, scopeQ_normal, scopeQ_ret, scopeQ_exit, Option.map_some, Bool.not_false, Bool.not_true, gArgs, gOk, Nat.reduceAdd, PV.shift, MObj.shift, rdV, rdD, reduceIte, Nat.reduceEqDiff, Nat.reduceBEq, PV.bin, PV.binOk, binI, binS, PV.withInt, PV.withIntP, okAll, PV.under, PV.okUnder, eq_self, implies_true, deadOk, ne_eq, allOk, RVar.val, RVar.ok, retV, PV.seen, PV.view, beq_self_eq_true, PV.flat, PV.noOwn, id_eq, behind, PV.kill, MObj.kill, killTag, reduceCtorEq, nilB]; (try go_unwrap; try simp only [hlen, d0, toNat_add2, toNat_add1, Int.toNat_natCast, Bool.false_and, Bool.true_and, true_implies, true_and, Bool.false_eq_true, reduceCtorEq, false_implies, Bool.not_false, Bool.not_true, Bool.true_or, Bool.false_or]))) | (refine PW.cond rfl ?_ ?_ <;> intro hcond <;> (try contradiction) <;> try simp only [decide_eq_true_eq, decide_eq_false_iff_not] at hcond) | (refine gd_i ?_; intro hg; try simp only [hg]) | ((first | show @LE.le Nat _ _ _ | show @LT.lt Nat _ _ _ | show @LE.le Int _ _ _ | show @LT.lt Int _ _ _ | show @Eq Nat _ _ | show @Eq Int _ _ | show @Eq Bool _ _ | show _ ∨ _ | show ¬ _); first | omega | (simp only [decide_eq_true_eq, decide_eq_false_iff_not, List.length_cons, List.length_nil, List.length_append, List.length_map, Sh.size] <;> omega) | (go_unwrap; omega)) | ((first | refine PW.region ?_ | refine PW.regionQ ?_ | refine schedW_done_i ?_ | show (_ : Post) _ _ _ | show @Eq (List PV) _ _ | show @Eq Bool _ _ | show opsW _ _ _ _ _ _ _ _ | show okAll _ | show @Eq Bool _ _ ∨ _); focus (simp only [hlen, d0, SS, SS2, SS3, SS4, scopeQ_normal, scopeQ_ret, scopeQ_exit, Option.map_some, Bool.not_false, Bool.not_true, gArgs, gOk, Nat.reduceAdd, PV.shift, MObj.shift, rdV, rdD, reduceIte, Nat.reduceEqDiff, Nat.reduceBEq, PV.bin, PV.binOk, binI, binS, PV.withInt, PV.withIntP, okAll, PV.under, PV.okUnder, eq_self, implies_true, deadOk, ne_eq, allOk, RVar.val, RVar.ok, retV, PV.seen, PV.view, beq_self_eq_true, PV.flat, PV.noOwn, id_eq, behind, PV.kill, MObj.kill, killTag, reduceCtorEq, nilB]; (try go_unwrap; try simp only [hlen, d0, toNat_add2, toNat_add1, Int.toNat_natCast, Bool.false_and, Bool.true_and, true_implies, true_and, Bool.false_eq_true, reduceCtorEq, false_implies, Bool.not_false, Bool.not_true, Bool.true_or, Bool.false_or]))) | refine And.intro ?_ ?_ | exact Or.inr ⟨rfl, Nat.le_refl _⟩ | exact (fun h => Bool.noConfusion h))
  have d0 : decide ((64 : Int) < l.length) = false := by simp only [decide_eq_false_iff_not]; omega
  repeat' (first | exact True.intro | (refine PW.seqK ?_; intro K hK) | refine PW.block ?_ | refine PW.scope ?_ | refine PW.label ?_ | refine PW.exit ?_ | refine PW.ret ?_ | refine PW.skip ?_ | refine seqK_n (by assumption) ?_ | refine seqK_r (by assumption) ?_ | refine seqK_e (by assumption) ?_ | refine PW.regionA ?_ | exact schedW_stop_i | refine schK_n (by assumption) ?_ | (refine schedW_alt_k ?_ ?_; focus (intro K hK; simp only [hlen, d0, SS, SS2, SS3, SS4, scopeQ_normal, scopeQ_ret, scopeQ_exit, Option.map_some, Bool.not_false, Bool.not_true, gArgs, gOk, Nat.reduceAdd, PV.shift, MObj.shift, rdV, rdD, reduceIte, Nat.reduceEqDiff, Nat.reduceBEq, PV.bin, PV.binOk, binI, binS, PV.withInt, PV.withIntP, okAll, PV.under, PV.okUnder, eq_self, implies_true, deadOk, ne_eq, allOk, RVar.val, RVar.ok, retV, PV.seen, PV.view, beq_self_eq_true, PV.flat, PV.noOwn, id_eq, behind, PV.kill, MObj.kill, killTag, reduceCtorEq, nilB]; (try go_unwrap; try simp only [hlen, d0, toNat_add2, toNat_add1, Int.toNat_natCast, Bool.false_and, Bool.true_and, true_implies, true_and, Bool.false_eq_true, reduceCtorEq, false_implies, Bool.not_false, Bool.not_true, Bool.true_or, Bool.false_or]))) | (refine PW.cond rfl ?_ ?_ <;> intro hcond <;> (try contradiction) <;> try simp only [decide_eq_true_eq, decide_eq_false_iff_not] at hcond) | (refine gd_i ?_; intro hg; try simp only [hg]) | ((first | show @LE.le Nat _ _ _ | show @LT.lt Nat _ _ _ | show @LE.le Int _ _ _ | show @LT.lt Int _ _ _ | show @Eq Nat _ _ | show @Eq Int _ _ | show @Eq Bool _ _ | show _ ∨ _ | show ¬ _); first | omega | (simp only [decide_eq_true_eq, decide_eq_false_iff_not, List.length_cons, List.length_nil, List.length_append, List.length_map, Sh.size] <;> omega) | (go_unwrap; omega)) | ((first | refine PW.region ?_ | refine PW.regionQ ?_ | refine schedW_done_i ?_ | show (_ : Post) _ _ _ | show @Eq (List PV) _ _ | show @Eq Bool _ _ | show opsW _ _ _ _ _ _ _ _ | show okAll _ | show @Eq Bool _ _ ∨ _); focus (simp only [hlen, d0, SS, SS2, SS3, SS4, scopeQ_normal, scopeQ_ret, scopeQ_exit, Option.map_some, Bool.not_false, Bool.not_true, gArgs, gOk, Nat.reduceAdd, PV.shift, MObj.shift, rdV, rdD, reduceIte, Nat.reduceEqDiff, Nat.reduceBEq, PV.bin, PV.binOk, binI, binS, PV.withInt, PV.withIntP, okAll, PV.under, PV.okUnder, eq_self, implies_true, deadOk, ne_eq, allOk, RVar.val, RVar.ok, retV, PV.seen, PV.view, beq_self_eq_true, PV.flat, PV.noOwn, id_eq, behind, PV.kill, MObj.kill, killTag, reduceCtorEq, nilB]; (try go_unwrap; try simp only [hlen, d0, toNat_add2, toNat_add1, Int.toNat_natCast, Bool.false_and, Bool.true_and, true_implies, true_and, Bool.false_eq_true, reduceCtorEq, false_implies, Bool.not_false, Bool.not_true, Bool.true_or, Bool.false_or]))) | refine And.intro ?_ ?_ | exact Or.inr ⟨rfl, Nat.le_refl _⟩ | exact (fun h => Bool.noConfusion h))
  refine PW.loop (σ := Nat) [0, 2, 3] (fun i => [edL l, .int .i64 0, .int .i64 i]) (fun _ => []) (fun i => i ≤ l.length ∧ ∀ j (h : j < l.length), j < i → nmOk l[j].name = true ∧ l[j].needs.length ≤ 64 ∧ l[j].needs.all nmOk = true ∧ l[j].name ∉ (l.take j).map (·.name)) (fun i => l.length - i) 0 ?_ rfl ⟨by omega, fun j _ h => by omega⟩ ?_
  · simp only [SS, SS2, SS3, SS4, scopeQ_normal, scopeQ_ret, scopeQ_exit, Option.map_some, Bool.not_false, Bool.not_true, gArgs, gOk, Nat.reduceAdd, PV.shift, MObj.shift, rdV, rdD, reduceIte, Nat.reduceEqDiff, Nat.reduceBEq, PV.bin, PV.binOk, binI, binS, PV.withInt, PV.withIntP, okAll, PV.under, PV.okUnder, eq_self, implies_true, deadOk, ne_eq, allOk, RVar.val, RVar.ok, retV, PV.seen, PV.view, beq_self_eq_true, PV.flat, PV.noOwn, id_eq, behind, PV.kill, MObj.kill, killTag, reduceCtorEq, nilB]; rfl
  rintro i ⟨hi, hall⟩
  simp only [List.zip_cons_cons, List.zip_nil_left]
  rcases Nat.lt_or_ge i l.length with h | h
  · have hd : decide ((i : Int) < l.length) = true := by simp only [decide_eq_true_eq]; omega
    have hg := ed_getD l i h
    have hat := wrongM_at h64 h hall
    have hnx : nmOk l[i].name = true ∧ l[i].needs.length ≤ 64 ∧ l[i].needs.all nmOk = true ∧ l[i].name ∉ (l.take i).map (·.name) → ∀ j (h : j < l.length), j < i + 1 → nmOk l[j].name = true ∧ l[j].needs.length ≤ 64 ∧ l[j].needs.all nmOk = true ∧ l[j].name ∉ (l.take j).map (·.name) := fun hp j hj hji => by
      rcases Nat.lt_or_ge j i with h' | h'
      · exact hall j hj h'
      · obtain rfl : j = i := by omega
        exact hp
    have hin : ∀ k (hk : k < l.length), k < i → l[k].name = l[i].name → l[i].name ∈ (l.take i).map (·.name) := fun k hk hki e => List.mem_map.2 ⟨l[k], List.mem_take_iff_getElem.2 ⟨k, by omega, rfl⟩, e⟩
    have hout : (∀ k (hk : k < l.length), k < i → l[k].name ≠ l[i].name) → l[i].name ∉ (l.take i).map (·.name) := fun hk hm => by
      obtain ⟨x, hx, e⟩ := List.mem_map.1 hm
      obtain ⟨k, hk1, rfl⟩ := List.mem_take_iff_getElem.1 hx
      exact hk k (by omega) (by omega) e
    have hgk : ∀ k (hk : k < l.length), (l.map edP).getD k PV.junk = PV.agg [.str l[k].name, .list none (l[k].needs.map PV.str)] := fun k hk => ed_getD l k hk
    clear hall
    obtain ⟨e, he⟩ : ∃ e, l[i] = e := ⟨_, rfl⟩
    rw [he] at hg hat hnx hin hout
    simp only [edP] at hg
    have hnlen : ((e.needs.map PV.str).length : Nat) = e.needs.length := by simp
    have h51 := v51 e.name
    cases hn : nmOk e.name with
    | false =>
      rw [if_pos hn] at hat
      rw [hn] at h51
      repeat' (first | exact True.intro | (refine PW.seqK ?_; intro K hK) | refine PW.block ?_ | refine PW.scope ?_ | refine PW.label ?_ | refine PW.exit ?_ | refine PW.ret ?_ | refine PW.skip ?_ | refine seqK_n (by assumption) ?_ | refine seqK_r (by assumption) ?_ | refine seqK_e (by assumption) ?_ | refine PW.regionA ?_ | exact schedW_stop_i | refine schK_n (by assumption) ?_ | (refine schedW_alt_k ?_ ?_; focus (intro K hK; simp only [hd, hg, hlen, SS, SS2, SS3, SS4, scopeQ_normal, scopeQ_ret, scopeQ_exit, Option.map_some, Bool.not_false, Bool.not_true, gArgs, gOk, Nat.reduceAdd, PV.shift, MObj.shift, rdV, rdD, reduceIte, Nat.reduceEqDiff, Nat.reduceBEq, PV.bin, PV.binOk, binI, binS, PV.withInt, PV.withIntP, okAll, PV.under, PV.okUnder, eq_self, implies_true, deadOk, ne_eq, allOk, RVar.val, RVar.ok, retV, PV.seen, PV.view, beq_self_eq_true, PV.flat, PV.noOwn, id_eq, behind, PV.kill, MObj.kill, killTag, reduceCtorEq, nilB]; (try go_unwrap; try simp only [hd, hg, hlen, toNat_add2, toNat_add1, Int.toNat_natCast, Bool.false_and, Bool.true_and, true_implies, true_and, Bool.false_eq_true, reduceCtorEq, false_implies, Bool.not_false, Bool.not_true, Bool.true_or, Bool.false_or]))) | (refine PW.cond rfl ?_ ?_ <;> intro hcond <;> (try contradiction) <;> try simp only [decide_eq_true_eq, decide_eq_false_iff_not] at hcond) | (refine gd_i ?_; intro hg; try simp only [hg]) | refine goCall_W e51 (h51) ?_ ?_ ?_ ?_ | ((first | show @LE.le Nat _ _ _ | show @LT.lt Nat _ _ _ | show @LE.le Int _ _ _ | show @LT.lt Int _ _ _ | show @Eq Nat _ _ | show @Eq Int _ _ | show @Eq Bool _ _ | show _ ∨ _ | show ¬ _); first | omega | (simp only [decide_eq_true_eq, decide_eq_false_iff_not, List.length_cons, List.length_nil, List.length_append, List.length_map, Sh.size] <;> omega) | (go_unwrap; omega)) | ((first | refine PW.region ?_ | refine PW.regionQ ?_ | refine schedW_done_i ?_ | show (_ : Post) _ _ _ | show @Eq (List PV) _ _ | show @Eq Bool _ _ | show opsW _ _ _ _ _ _ _ _ | show okAll _ | show @Eq Bool _ _ ∨ _); focus (simp only [hd, hg, hlen, SS, SS2, SS3, SS4, scopeQ_normal, scopeQ_ret, scopeQ_exit, Option.map_some, Bool.not_false, Bool.not_true, gArgs, gOk, Nat.reduceAdd, PV.shift, MObj.shift, rdV, rdD, reduceIte, Nat.reduceEqDiff, Nat.reduceBEq, PV.bin, PV.binOk, binI, binS, PV.withInt, PV.withIntP, okAll, PV.under, PV.okUnder, eq_self, implies_true, deadOk, ne_eq, allOk, RVar.val, RVar.ok, retV, PV.seen, PV.view, beq_self_eq_true, PV.flat, PV.noOwn, id_eq, behind, PV.kill, MObj.kill, killTag, reduceCtorEq, nilB]; (try go_unwrap; try simp only [hd, hg, hlen, toNat_add2, toNat_add1, Int.toNat_natCast, Bool.false_and, Bool.true_and, true_implies, true_and, Bool.false_eq_true, reduceCtorEq, false_implies, Bool.not_false, Bool.not_true, Bool.true_or, Bool.false_or]))) | refine And.intro ?_ ?_ | exact Or.inr ⟨rfl, Nat.le_refl _⟩ | exact (fun h => Bool.noConfusion h))
      all_goals (rw [hat])
    | true =>
    rw [if_neg (by simp [hn])] at hat
    rw [hn] at h51
    rcases Nat.lt_or_ge 64 e.needs.length with h2 | h2
    · rw [if_pos h2] at hat
      have d2 : decide ((64 : Int) < e.needs.length) = true := by simp only [decide_eq_true_eq]; omega
      repeat' (first | exact True.intro | (refine PW.seqK ?_; intro K hK) | refine PW.block ?_ | refine PW.scope ?_ | refine PW.label ?_ | refine PW.exit ?_ | refine PW.ret ?_ | refine PW.skip ?_ | refine seqK_n (by assumption) ?_ | refine seqK_r (by assumption) ?_ | refine seqK_e (by assumption) ?_ | refine PW.regionA ?_ | exact schedW_stop_i | refine schK_n (by assumption) ?_ | (refine schedW_alt_k ?_ ?_; focus (intro K hK; simp only [hd, hg, hlen, hnlen, d2, SS, SS2, SS3, SS4, scopeQ_normal, scopeQ_ret, scopeQ_exit, Option.map_some, Bool.not_false, Bool.not_true, gArgs, gOk, Nat.reduceAdd, PV.shift, MObj.shift, rdV, rdD, reduceIte, Nat.reduceEqDiff, Nat.reduceBEq, PV.bin, PV.binOk, binI, binS, PV.withInt, PV.withIntP, okAll, PV.under, PV.okUnder, eq_self, implies_true, deadOk, ne_eq, allOk, RVar.val, RVar.ok, retV, PV.seen, PV.view, beq_self_eq_true, PV.flat, PV.noOwn, id_eq, behind, PV.kill, MObj.kill, killTag, reduceCtorEq, nilB]; (try go_unwrap; try simp only [hd, hg, hlen, hnlen, d2, toNat_add2, toNat_add1, Int.toNat_natCast, Bool.false_and, Bool.true_and, true_implies, true_and, Bool.false_eq_true, reduceCtorEq, false_implies, Bool.not_false, Bool.not_true, Bool.true_or, Bool.false_or]))) | (refine PW.cond rfl ?_ ?_ <;> intro hcond <;> (try contradiction) <;> try simp only [decide_eq_true_eq, decide_eq_false_iff_not] at hcond) | (refine gd_i ?_; intro hg; try simp only [hg]) | refine goCall_W e51 (h51) ?_ ?_ ?_ ?_ | ((first | show @LE.le Nat _ _ _ | show @LT.lt Nat _ _ _ | show @LE.le Int _ _ _ | show @LT.lt Int _ _ _ | show @Eq Nat _ _ | show @Eq Int _ _ | show @Eq Bool _ _ | show _ ∨ _ | show ¬ _); first | omega | (simp only [decide_eq_true_eq, decide_eq_false_iff_not, List.length_cons, List.length_nil, List.length_append, List.length_map, Sh.size] <;> omega) | (go_unwrap; omega)) | ((first | refine PW.region ?_ | refine PW.regionQ ?_ | refine schedW_done_i ?_ | show (_ : Post) _ _ _ | show @Eq (List PV) _ _ | show @Eq Bool _ _ | show opsW _ _ _ _ _ _ _ _ | show okAll _ | show @Eq Bool _ _ ∨ _); focus (simp only [hd, hg, hlen, hnlen, d2, SS, SS2, SS3, SS4, scopeQ_normal, scopeQ_ret, scopeQ_exit, Option.map_some, Bool.not_false, Bool.not_true, gArgs, gOk, Nat.reduceAdd, PV.shift, MObj.shift, rdV, rdD, reduceIte, Nat.reduceEqDiff, Nat.reduceBEq, PV.bin, PV.binOk, binI, binS, PV.withInt, PV.withIntP, okAll, PV.under, PV.okUnder, eq_self, implies_true, deadOk, ne_eq, allOk, RVar.val, RVar.ok, retV, PV.seen, PV.view, beq_self_eq_true, PV.flat, PV.noOwn, id_eq, behind, PV.kill, MObj.kill, killTag, reduceCtorEq, nilB]; (try go_unwrap; try simp only [hd, hg, hlen, hnlen, d2, toNat_add2, toNat_add1, Int.toNat_natCast, Bool.false_and, Bool.true_and, true_implies, true_and, Bool.false_eq_true, reduceCtorEq, false_implies, Bool.not_false, Bool.not_true, Bool.true_or, Bool.false_or]))) | refine And.intro ?_ ?_ | exact Or.inr ⟨rfl, Nat.le_refl _⟩ | exact (fun h => Bool.noConfusion h))
      all_goals (rw [hat])
    rw [if_neg (by omega)] at hat
    have d2 : decide ((64 : Int) < e.needs.length) = false := by simp only [decide_eq_false_iff_not]; omega
    repeat' (first | exact True.intro | (refine PW.seqK ?_; intro K hK) | refine PW.block ?_ | refine PW.scope ?_ | refine PW.label ?_ | refine PW.exit ?_ | refine PW.ret ?_ | refine PW.skip ?_ | refine seqK_n (by assumption) ?_ | refine seqK_r (by assumption) ?_ | refine seqK_e (by assumption) ?_ | refine PW.regionA ?_ | exact schedW_stop_i | refine schK_n (by assumption) ?_ | (refine schedW_alt_k ?_ ?_; focus (intro K hK; simp only [hd, hg, hlen, hnlen, d2, SS, SS2, SS3, SS4, scopeQ_normal, scopeQ_ret, scopeQ_exit, Option.map_some, Bool.not_false, Bool.not_true, gArgs, gOk, Nat.reduceAdd, PV.shift, MObj.shift, rdV, rdD, reduceIte, Nat.reduceEqDiff, Nat.reduceBEq, PV.bin, PV.binOk, binI, binS, PV.withInt, PV.withIntP, okAll, PV.under, PV.okUnder, eq_self, implies_true, deadOk, ne_eq, allOk, RVar.val, RVar.ok, retV, PV.seen, PV.view, beq_self_eq_true, PV.flat, PV.noOwn, id_eq, behind, PV.kill, MObj.kill, killTag, reduceCtorEq, nilB]; (try go_unwrap; try simp only [hd, hg, hlen, hnlen, d2, toNat_add2, toNat_add1, Int.toNat_natCast, Bool.false_and, Bool.true_and, true_implies, true_and, Bool.false_eq_true, reduceCtorEq, false_implies, Bool.not_false, Bool.not_true, Bool.true_or, Bool.false_or]))) | (refine PW.cond rfl ?_ ?_ <;> intro hcond <;> (try contradiction) <;> try simp only [decide_eq_true_eq, decide_eq_false_iff_not] at hcond) | (refine gd_i ?_; intro hg; try simp only [hg]) | refine goCall_W e51 (h51) ?_ ?_ ?_ ?_ | ((first | show @LE.le Nat _ _ _ | show @LT.lt Nat _ _ _ | show @LE.le Int _ _ _ | show @LT.lt Int _ _ _ | show @Eq Nat _ _ | show @Eq Int _ _ | show @Eq Bool _ _ | show _ ∨ _ | show ¬ _); first | omega | (simp only [decide_eq_true_eq, decide_eq_false_iff_not, List.length_cons, List.length_nil, List.length_append, List.length_map, Sh.size] <;> omega) | (go_unwrap; omega)) | ((first | refine PW.region ?_ | refine PW.regionQ ?_ | refine schedW_done_i ?_ | show (_ : Post) _ _ _ | show @Eq (List PV) _ _ | show @Eq Bool _ _ | show opsW _ _ _ _ _ _ _ _ | show okAll _ | show @Eq Bool _ _ ∨ _); focus (simp only [hd, hg, hlen, hnlen, d2, SS, SS2, SS3, SS4, scopeQ_normal, scopeQ_ret, scopeQ_exit, Option.map_some, Bool.not_false, Bool.not_true, gArgs, gOk, Nat.reduceAdd, PV.shift, MObj.shift, rdV, rdD, reduceIte, Nat.reduceEqDiff, Nat.reduceBEq, PV.bin, PV.binOk, binI, binS, PV.withInt, PV.withIntP, okAll, PV.under, PV.okUnder, eq_self, implies_true, deadOk, ne_eq, allOk, RVar.val, RVar.ok, retV, PV.seen, PV.view, beq_self_eq_true, PV.flat, PV.noOwn, id_eq, behind, PV.kill, MObj.kill, killTag, reduceCtorEq, nilB]; (try go_unwrap; try simp only [hd, hg, hlen, hnlen, d2, toNat_add2, toNat_add1, Int.toNat_natCast, Bool.false_and, Bool.true_and, true_implies, true_and, Bool.false_eq_true, reduceCtorEq, false_implies, Bool.not_false, Bool.not_true, Bool.true_or, Bool.false_or]))) | refine And.intro ?_ ?_ | exact Or.inr ⟨rfl, Nat.le_refl _⟩ | exact (fun h => Bool.noConfusion h))
    refine PW.loop (σ := Nat) [0, 2, 3, 4] (fun k => [edL l, .int .i64 0, .int .i64 i, .int .i64 k]) (fun _ => []) (fun k => k ≤ e.needs.length ∧ ∀ j (h : j < e.needs.length), j < k → nmOk e.needs[j] = true) (fun k => e.needs.length - k) 0 ?_ rfl ⟨by omega, fun j _ h => by omega⟩ ?_
    · simp only [SS, SS2, SS3, SS4, scopeQ_normal, scopeQ_ret, scopeQ_exit, Option.map_some, Bool.not_false, Bool.not_true, gArgs, gOk, Nat.reduceAdd, PV.shift, MObj.shift, rdV, rdD, reduceIte, Nat.reduceEqDiff, Nat.reduceBEq, PV.bin, PV.binOk, binI, binS, PV.withInt, PV.withIntP, okAll, PV.under, PV.okUnder, eq_self, implies_true, deadOk, ne_eq, allOk, RVar.val, RVar.ok, retV, PV.seen, PV.view, beq_self_eq_true, PV.flat, PV.noOwn, id_eq, behind, PV.kill, MObj.kill, killTag, reduceCtorEq, nilB]; rfl
    rintro k ⟨hk, hkall⟩
    simp only [List.zip_cons_cons, List.zip_nil_left]
    rcases Nat.lt_or_ge k e.needs.length with h3 | h3
    · have hdk : decide ((k : Int) < e.needs.length) = true := by simp only [decide_eq_true_eq]; omega
      have hgn := tx_getD e.needs k h3
      have hm := List.getElem_mem h3
      have hkn : nmOk e.needs[k] = true → ∀ j (h : j < e.needs.length), j < k + 1 → nmOk e.needs[j] = true := fun hp j hj hji => by
        rcases Nat.lt_or_ge j k with h' | h'
        · exact hkall j hj h'
        · obtain rfl : j = k := by omega
          exact hp
      have hbad : nmOk e.needs[k] = false → e.needs.all nmOk = false := fun hp => by
        rw [List.all_eq_false]; exact ⟨_, hm, by simp [hp]⟩
      generalize e.needs[k] = x at hgn hkn hbad
      have h51x := v51 x
      cases hx : nmOk x with
      | false =>
        rw [if_pos (hbad hx)] at hat
        rw [hx] at h51x
        repeat' (first | exact True.intro | (refine PW.seqK ?_; intro K hK) | refine PW.block ?_ | refine PW.scope ?_ | refine PW.label ?_ | refine PW.exit ?_ | refine PW.ret ?_ | refine PW.skip ?_ | refine seqK_n (by assumption) ?_ | refine seqK_r (by assumption) ?_ | refine seqK_e (by assumption) ?_ | refine PW.regionA ?_ | exact schedW_stop_i | refine schK_n (by assumption) ?_ | (refine schedW_alt_k ?_ ?_; focus (intro K hK; simp only [hd, hg, hlen, hnlen, hdk, hgn, SS, SS2, SS3, SS4, scopeQ_normal, scopeQ_ret, scopeQ_exit, Option.map_some, Bool.not_false, Bool.not_true, gArgs, gOk, Nat.reduceAdd, PV.shift, MObj.shift, rdV, rdD, reduceIte, Nat.reduceEqDiff, Nat.reduceBEq, PV.bin, PV.binOk, binI, binS, PV.withInt, PV.withIntP, okAll, PV.under, PV.okUnder, eq_self, implies_true, deadOk, ne_eq, allOk, RVar.val, RVar.ok, retV, PV.seen, PV.view, beq_self_eq_true, PV.flat, PV.noOwn, id_eq, behind, PV.kill, MObj.kill, killTag, reduceCtorEq, nilB]; (try go_unwrap; try simp only [hd, hg, hlen, hnlen, hdk, hgn, toNat_add2, toNat_add1, Int.toNat_natCast, Bool.false_and, Bool.true_and, true_implies, true_and, Bool.false_eq_true, reduceCtorEq, false_implies, Bool.not_false, Bool.not_true, Bool.true_or, Bool.false_or]))) | (refine PW.cond rfl ?_ ?_ <;> intro hcond <;> (try contradiction) <;> try simp only [decide_eq_true_eq, decide_eq_false_iff_not] at hcond) | (refine gd_i ?_; intro hg; try simp only [hg]) | refine goCall_W e51 (h51x) ?_ ?_ ?_ ?_ | ((first | show @LE.le Nat _ _ _ | show @LT.lt Nat _ _ _ | show @LE.le Int _ _ _ | show @LT.lt Int _ _ _ | show @Eq Nat _ _ | show @Eq Int _ _ | show @Eq Bool _ _ | show _ ∨ _ | show ¬ _); first | omega | (simp only [decide_eq_true_eq, decide_eq_false_iff_not, List.length_cons, List.length_nil, List.length_append, List.length_map, Sh.size] <;> omega) | (go_unwrap; omega)) | ((first | refine PW.region ?_ | refine PW.regionQ ?_ | refine schedW_done_i ?_ | show (_ : Post) _ _ _ | show @Eq (List PV) _ _ | show @Eq Bool _ _ | show opsW _ _ _ _ _ _ _ _ | show okAll _ | show @Eq Bool _ _ ∨ _); focus (simp only [hd, hg, hlen, hnlen, hdk, hgn, SS, SS2, SS3, SS4, scopeQ_normal, scopeQ_ret, scopeQ_exit, Option.map_some, Bool.not_false, Bool.not_true, gArgs, gOk, Nat.reduceAdd, PV.shift, MObj.shift, rdV, rdD, reduceIte, Nat.reduceEqDiff, Nat.reduceBEq, PV.bin, PV.binOk, binI, binS, PV.withInt, PV.withIntP, okAll, PV.under, PV.okUnder, eq_self, implies_true, deadOk, ne_eq, allOk, RVar.val, RVar.ok, retV, PV.seen, PV.view, beq_self_eq_true, PV.flat, PV.noOwn, id_eq, behind, PV.kill, MObj.kill, killTag, reduceCtorEq, nilB]; (try go_unwrap; try simp only [hd, hg, hlen, hnlen, hdk, hgn, toNat_add2, toNat_add1, Int.toNat_natCast, Bool.false_and, Bool.true_and, true_implies, true_and, Bool.false_eq_true, reduceCtorEq, false_implies, Bool.not_false, Bool.not_true, Bool.true_or, Bool.false_or]))) | refine And.intro ?_ ?_ | exact Or.inr ⟨rfl, Nat.le_refl _⟩ | exact (fun h => Bool.noConfusion h))
        all_goals (rw [hat])
      | true =>
        rw [hx] at h51x
        have hkn := hkn hx
        repeat' (first | exact True.intro | (refine PW.seqK ?_; intro K hK) | refine PW.block ?_ | refine PW.scope ?_ | refine PW.label ?_ | refine PW.exit ?_ | refine PW.ret ?_ | refine PW.skip ?_ | refine seqK_n (by assumption) ?_ | refine seqK_r (by assumption) ?_ | refine seqK_e (by assumption) ?_ | refine PW.regionA ?_ | exact schedW_stop_i | refine schK_n (by assumption) ?_ | (refine schedW_alt_k ?_ ?_; focus (intro K hK; simp only [hd, hg, hlen, hnlen, hdk, hgn, SS, SS2, SS3, SS4, scopeQ_normal, scopeQ_ret, scopeQ_exit, Option.map_some, Bool.not_false, Bool.not_true, gArgs, gOk, Nat.reduceAdd, PV.shift, MObj.shift, rdV, rdD, reduceIte, Nat.reduceEqDiff, Nat.reduceBEq, PV.bin, PV.binOk, binI, binS, PV.withInt, PV.withIntP, okAll, PV.under, PV.okUnder, eq_self, implies_true, deadOk, ne_eq, allOk, RVar.val, RVar.ok, retV, PV.seen, PV.view, beq_self_eq_true, PV.flat, PV.noOwn, id_eq, behind, PV.kill, MObj.kill, killTag, reduceCtorEq, nilB]; (try go_unwrap; try simp only [hd, hg, hlen, hnlen, hdk, hgn, toNat_add2, toNat_add1, Int.toNat_natCast, Bool.false_and, Bool.true_and, true_implies, true_and, Bool.false_eq_true, reduceCtorEq, false_implies, Bool.not_false, Bool.not_true, Bool.true_or, Bool.false_or]))) | (refine PW.cond rfl ?_ ?_ <;> intro hcond <;> (try contradiction) <;> try simp only [decide_eq_true_eq, decide_eq_false_iff_not] at hcond) | (refine gd_i ?_; intro hg; try simp only [hg]) | refine goCall_W e51 (h51x) ?_ ?_ ?_ ?_ | ((first | show @LE.le Nat _ _ _ | show @LT.lt Nat _ _ _ | show @LE.le Int _ _ _ | show @LT.lt Int _ _ _ | show @Eq Nat _ _ | show @Eq Int _ _ | show @Eq Bool _ _ | show _ ∨ _ | show ¬ _); first | omega | (simp only [decide_eq_true_eq, decide_eq_false_iff_not, List.length_cons, List.length_nil, List.length_append, List.length_map, Sh.size] <;> omega) | (go_unwrap; omega)) | ((first | refine PW.region ?_ | refine PW.regionQ ?_ | refine schedW_done_i ?_ | show (_ : Post) _ _ _ | show @Eq (List PV) _ _ | show @Eq Bool _ _ | show opsW _ _ _ _ _ _ _ _ | show okAll _ | show @Eq Bool _ _ ∨ _); focus (simp only [hd, hg, hlen, hnlen, hdk, hgn, SS, SS2, SS3, SS4, scopeQ_normal, scopeQ_ret, scopeQ_exit, Option.map_some, Bool.not_false, Bool.not_true, gArgs, gOk, Nat.reduceAdd, PV.shift, MObj.shift, rdV, rdD, reduceIte, Nat.reduceEqDiff, Nat.reduceBEq, PV.bin, PV.binOk, binI, binS, PV.withInt, PV.withIntP, okAll, PV.under, PV.okUnder, eq_self, implies_true, deadOk, ne_eq, allOk, RVar.val, RVar.ok, retV, PV.seen, PV.view, beq_self_eq_true, PV.flat, PV.noOwn, id_eq, behind, PV.kill, MObj.kill, killTag, reduceCtorEq, nilB]; (try go_unwrap; try simp only [hd, hg, hlen, hnlen, hdk, hgn, toNat_add2, toNat_add1, Int.toNat_natCast, Bool.false_and, Bool.true_and, true_implies, true_and, Bool.false_eq_true, reduceCtorEq, false_implies, Bool.not_false, Bool.not_true, Bool.true_or, Bool.false_or]))) | refine And.intro ?_ ?_ | exact Or.inr ⟨rfl, Nat.le_refl _⟩ | exact (fun h => Bool.noConfusion h))
        all_goals exact ⟨k + 1, rfl, ⟨by omega, hkn⟩, by omega⟩
    have hdk : decide ((k : Int) < e.needs.length) = false := by simp only [decide_eq_false_iff_not]; omega
    have hall64 : e.needs.all nmOk = true := by
      rw [List.all_eq_true]; intro x hx
      obtain ⟨j, hj, rfl⟩ := List.getElem_of_mem hx
      exact hkall j hj (by omega)
    rw [if_neg (by simp [hall64])] at hat
    clear hkall
    repeat' (first | exact True.intro | (refine PW.seqK ?_; intro K hK) | refine PW.block ?_ | refine PW.scope ?_ | refine PW.label ?_ | refine PW.exit ?_ | refine PW.ret ?_ | refine PW.skip ?_ | refine seqK_n (by assumption) ?_ | refine seqK_r (by assumption) ?_ | refine seqK_e (by assumption) ?_ | refine PW.regionA ?_ | exact schedW_stop_i | refine schK_n (by assumption) ?_ | (refine schedW_alt_k ?_ ?_; focus (intro K hK; simp only [hd, hg, hlen, hnlen, hdk, SS, SS2, SS3, SS4, scopeQ_normal, scopeQ_ret, scopeQ_exit, Option.map_some, Bool.not_false, Bool.not_true, gArgs, gOk, Nat.reduceAdd, PV.shift, MObj.shift, rdV, rdD, reduceIte, Nat.reduceEqDiff, Nat.reduceBEq, PV.bin, PV.binOk, binI, binS, PV.withInt, PV.withIntP, okAll, PV.under, PV.okUnder, eq_self, implies_true, deadOk, ne_eq, allOk, RVar.val, RVar.ok, retV, PV.seen, PV.view, beq_self_eq_true, PV.flat, PV.noOwn, id_eq, behind, PV.kill, MObj.kill, killTag, reduceCtorEq, nilB]; (try go_unwrap; try simp only [hd, hg, hlen, hnlen, hdk, toNat_add2, toNat_add1, Int.toNat_natCast, Bool.false_and, Bool.true_and, true_implies, true_and, Bool.false_eq_true, reduceCtorEq, false_implies, Bool.not_false, Bool.not_true, Bool.true_or, Bool.false_or]))) | (refine PW.cond rfl ?_ ?_ <;> intro hcond <;> (try contradiction) <;> try simp only [decide_eq_true_eq, decide_eq_false_iff_not] at hcond) | (refine gd_i ?_; intro hg; try simp only [hg]) | ((first | show @LE.le Nat _ _ _ | show @LT.lt Nat _ _ _ | show @LE.le Int _ _ _ | show @LT.lt Int _ _ _ | show @Eq Nat _ _ | show @Eq Int _ _ | show @Eq Bool _ _ | show _ ∨ _ | show ¬ _); first | omega | (simp only [decide_eq_true_eq, decide_eq_false_iff_not, List.length_cons, List.length_nil, List.length_append, List.length_map, Sh.size] <;> omega) | (go_unwrap; omega)) | ((first | refine PW.region ?_ | refine PW.regionQ ?_ | refine schedW_done_i ?_ | show (_ : Post) _ _ _ | show @Eq (List PV) _ _ | show @Eq Bool _ _ | show opsW _ _ _ _ _ _ _ _ | show okAll _ | show @Eq Bool _ _ ∨ _); focus (simp only [hd, hg, hlen, hnlen, hdk, SS, SS2, SS3, SS4, scopeQ_normal, scopeQ_ret, scopeQ_exit, Option.map_some, Bool.not_false, Bool.not_true, gArgs, gOk, Nat.reduceAdd, PV.shift, MObj.shift, rdV, rdD, reduceIte, Nat.reduceEqDiff, Nat.reduceBEq, PV.bin, PV.binOk, binI, binS, PV.withInt, PV.withIntP, okAll, PV.under, PV.okUnder, eq_self, implies_true, deadOk, ne_eq, allOk, RVar.val, RVar.ok, retV, PV.seen, PV.view, beq_self_eq_true, PV.flat, PV.noOwn, id_eq, behind, PV.kill, MObj.kill, killTag, reduceCtorEq, nilB]; (try go_unwrap; try simp only [hd, hg, hlen, hnlen, hdk, toNat_add2, toNat_add1, Int.toNat_natCast, Bool.false_and, Bool.true_and, true_implies, true_and, Bool.false_eq_true, reduceCtorEq, false_implies, Bool.not_false, Bool.not_true, Bool.true_or, Bool.false_or]))) | refine And.intro ?_ ?_ | exact Or.inr ⟨rfl, Nat.le_refl _⟩ | exact (fun h => Bool.noConfusion h))
    refine PW.loop (σ := Nat) [0, 2, 3, 5] (fun k => [edL l, .int .i64 0, .int .i64 i, .int .i64 k]) (fun _ => []) (fun k => k ≤ i ∧ ∀ j (h : j < l.length), j < k → l[j].name ≠ e.name) (fun k => i - k) 0 ?_ rfl ⟨by omega, fun j _ h => by omega⟩ ?_
    · simp only [SS, SS2, SS3, SS4, scopeQ_normal, scopeQ_ret, scopeQ_exit, Option.map_some, Bool.not_false, Bool.not_true, gArgs, gOk, Nat.reduceAdd, PV.shift, MObj.shift, rdV, rdD, reduceIte, Nat.reduceEqDiff, Nat.reduceBEq, PV.bin, PV.binOk, binI, binS, PV.withInt, PV.withIntP, okAll, PV.under, PV.okUnder, eq_self, implies_true, deadOk, ne_eq, allOk, RVar.val, RVar.ok, retV, PV.seen, PV.view, beq_self_eq_true, PV.flat, PV.noOwn, id_eq, behind, PV.kill, MObj.kill, killTag, reduceCtorEq, nilB]; rfl
    rintro q ⟨hq, hqall⟩
    simp only [List.zip_cons_cons, List.zip_nil_left]
    rcases Nat.lt_or_ge q i with h4 | h4
    · have hdq : decide ((q : Int) < (i : Int)) = true := by simp only [decide_eq_true_eq]; omega
      have hgq := hgk q (by omega)
      have hinq := hin q (by omega) h4
      have hqn : l[q].name ≠ e.name → ∀ j (h : j < l.length), j < q + 1 → l[j].name ≠ e.name := fun hp j hj hji => by
        rcases Nat.lt_or_ge j q with h' | h'
        · exact hqall j hj h'
        · obtain rfl : j = q := by omega
          exact hp
      have dql : decide ((q : Int) < l.length) = true := by simp only [decide_eq_true_eq]; omega
      generalize l[q]'(by omega) = y at hgq hinq hqn
      by_cases hy : y.name = e.name
      · rw [if_pos (hinq hy)] at hat
        have dy : decide (y.name = e.name) = true := by simpa using hy
        repeat' (first | exact True.intro | (refine PW.seqK ?_; intro K hK) | refine PW.block ?_ | refine PW.scope ?_ | refine PW.label ?_ | refine PW.exit ?_ | refine PW.ret ?_ | refine PW.skip ?_ | refine seqK_n (by assumption) ?_ | refine seqK_r (by assumption) ?_ | refine seqK_e (by assumption) ?_ | refine PW.regionA ?_ | exact schedW_stop_i | refine schK_n (by assumption) ?_ | (refine schedW_alt_k ?_ ?_; focus (intro K hK; simp only [hd, hg, hlen, hnlen, hdq, hgq, dy, SS, SS2, SS3, SS4, scopeQ_normal, scopeQ_ret, scopeQ_exit, Option.map_some, Bool.not_false, Bool.not_true, gArgs, gOk, Nat.reduceAdd, PV.shift, MObj.shift, rdV, rdD, reduceIte, Nat.reduceEqDiff, Nat.reduceBEq, PV.bin, PV.binOk, binI, binS, PV.withInt, PV.withIntP, okAll, PV.under, PV.okUnder, eq_self, implies_true, deadOk, ne_eq, allOk, RVar.val, RVar.ok, retV, PV.seen, PV.view, beq_self_eq_true, PV.flat, PV.noOwn, id_eq, behind, PV.kill, MObj.kill, killTag, reduceCtorEq, nilB]; (try go_unwrap; try simp only [hd, hg, hlen, hnlen, hdq, hgq, dy, toNat_add2, toNat_add1, Int.toNat_natCast, Bool.false_and, Bool.true_and, true_implies, true_and, Bool.false_eq_true, reduceCtorEq, false_implies, Bool.not_false, Bool.not_true, Bool.true_or, Bool.false_or]))) | (refine PW.cond rfl ?_ ?_ <;> intro hcond <;> (try contradiction) <;> try simp only [decide_eq_true_eq, decide_eq_false_iff_not] at hcond) | (refine gd_i ?_; intro hg; try simp only [hg]) | ((first | show @LE.le Nat _ _ _ | show @LT.lt Nat _ _ _ | show @LE.le Int _ _ _ | show @LT.lt Int _ _ _ | show @Eq Nat _ _ | show @Eq Int _ _ | show @Eq Bool _ _ | show _ ∨ _ | show ¬ _); first | omega | (simp only [decide_eq_true_eq, decide_eq_false_iff_not, List.length_cons, List.length_nil, List.length_append, List.length_map, Sh.size] <;> omega) | (go_unwrap; omega)) | ((first | refine PW.region ?_ | refine PW.regionQ ?_ | refine schedW_done_i ?_ | show (_ : Post) _ _ _ | show @Eq (List PV) _ _ | show @Eq Bool _ _ | show opsW _ _ _ _ _ _ _ _ | show okAll _ | show @Eq Bool _ _ ∨ _); focus (simp only [hd, hg, hlen, hnlen, hdq, hgq, dy, SS, SS2, SS3, SS4, scopeQ_normal, scopeQ_ret, scopeQ_exit, Option.map_some, Bool.not_false, Bool.not_true, gArgs, gOk, Nat.reduceAdd, PV.shift, MObj.shift, rdV, rdD, reduceIte, Nat.reduceEqDiff, Nat.reduceBEq, PV.bin, PV.binOk, binI, binS, PV.withInt, PV.withIntP, okAll, PV.under, PV.okUnder, eq_self, implies_true, deadOk, ne_eq, allOk, RVar.val, RVar.ok, retV, PV.seen, PV.view, beq_self_eq_true, PV.flat, PV.noOwn, id_eq, behind, PV.kill, MObj.kill, killTag, reduceCtorEq, nilB]; (try go_unwrap; try simp only [hd, hg, hlen, hnlen, hdq, hgq, dy, toNat_add2, toNat_add1, Int.toNat_natCast, Bool.false_and, Bool.true_and, true_implies, true_and, Bool.false_eq_true, reduceCtorEq, false_implies, Bool.not_false, Bool.not_true, Bool.true_or, Bool.false_or]))) | refine And.intro ?_ ?_ | exact Or.inr ⟨rfl, Nat.le_refl _⟩ | exact (fun h => Bool.noConfusion h))
        all_goals (rw [hat])
      · have dy : decide (y.name = e.name) = false := by simpa using hy
        have hqn := hqn hy
        repeat' (first | exact True.intro | (refine PW.seqK ?_; intro K hK) | refine PW.block ?_ | refine PW.scope ?_ | refine PW.label ?_ | refine PW.exit ?_ | refine PW.ret ?_ | refine PW.skip ?_ | refine seqK_n (by assumption) ?_ | refine seqK_r (by assumption) ?_ | refine seqK_e (by assumption) ?_ | refine PW.regionA ?_ | exact schedW_stop_i | refine schK_n (by assumption) ?_ | (refine schedW_alt_k ?_ ?_; focus (intro K hK; simp only [hd, hg, hlen, hnlen, hdq, hgq, dy, SS, SS2, SS3, SS4, scopeQ_normal, scopeQ_ret, scopeQ_exit, Option.map_some, Bool.not_false, Bool.not_true, gArgs, gOk, Nat.reduceAdd, PV.shift, MObj.shift, rdV, rdD, reduceIte, Nat.reduceEqDiff, Nat.reduceBEq, PV.bin, PV.binOk, binI, binS, PV.withInt, PV.withIntP, okAll, PV.under, PV.okUnder, eq_self, implies_true, deadOk, ne_eq, allOk, RVar.val, RVar.ok, retV, PV.seen, PV.view, beq_self_eq_true, PV.flat, PV.noOwn, id_eq, behind, PV.kill, MObj.kill, killTag, reduceCtorEq, nilB]; (try go_unwrap; try simp only [hd, hg, hlen, hnlen, hdq, hgq, dy, toNat_add2, toNat_add1, Int.toNat_natCast, Bool.false_and, Bool.true_and, true_implies, true_and, Bool.false_eq_true, reduceCtorEq, false_implies, Bool.not_false, Bool.not_true, Bool.true_or, Bool.false_or]))) | (refine PW.cond rfl ?_ ?_ <;> intro hcond <;> (try contradiction) <;> try simp only [decide_eq_true_eq, decide_eq_false_iff_not] at hcond) | (refine gd_i ?_; intro hg; try simp only [hg]) | ((first | show @LE.le Nat _ _ _ | show @LT.lt Nat _ _ _ | show @LE.le Int _ _ _ | show @LT.lt Int _ _ _ | show @Eq Nat _ _ | show @Eq Int _ _ | show @Eq Bool _ _ | show _ ∨ _ | show ¬ _); first | omega | (simp only [decide_eq_true_eq, decide_eq_false_iff_not, List.length_cons, List.length_nil, List.length_append, List.length_map, Sh.size] <;> omega) | (go_unwrap; omega)) | ((first | refine PW.region ?_ | refine PW.regionQ ?_ | refine schedW_done_i ?_ | show (_ : Post) _ _ _ | show @Eq (List PV) _ _ | show @Eq Bool _ _ | show opsW _ _ _ _ _ _ _ _ | show okAll _ | show @Eq Bool _ _ ∨ _); focus (simp only [hd, hg, hlen, hnlen, hdq, hgq, dy, SS, SS2, SS3, SS4, scopeQ_normal, scopeQ_ret, scopeQ_exit, Option.map_some, Bool.not_false, Bool.not_true, gArgs, gOk, Nat.reduceAdd, PV.shift, MObj.shift, rdV, rdD, reduceIte, Nat.reduceEqDiff, Nat.reduceBEq, PV.bin, PV.binOk, binI, binS, PV.withInt, PV.withIntP, okAll, PV.under, PV.okUnder, eq_self, implies_true, deadOk, ne_eq, allOk, RVar.val, RVar.ok, retV, PV.seen, PV.view, beq_self_eq_true, PV.flat, PV.noOwn, id_eq, behind, PV.kill, MObj.kill, killTag, reduceCtorEq, nilB]; (try go_unwrap; try simp only [hd, hg, hlen, hnlen, hdq, hgq, dy, toNat_add2, toNat_add1, Int.toNat_natCast, Bool.false_and, Bool.true_and, true_implies, true_and, Bool.false_eq_true, reduceCtorEq, false_implies, Bool.not_false, Bool.not_true, Bool.true_or, Bool.false_or]))) | refine And.intro ?_ ?_ | exact Or.inr ⟨rfl, Nat.le_refl _⟩ | exact (fun h => Bool.noConfusion h))
        all_goals exact ⟨q + 1, rfl, ⟨by omega, hqn⟩, by omega⟩
    have hdq : decide ((q : Int) < (i : Int)) = false := by simp only [decide_eq_false_iff_not]; omega
    have hnx := hnx ⟨hn, h2, hall64, hout (fun k hk hki => hqall k hk (by omega))⟩
    repeat' (first | exact True.intro | (refine PW.seqK ?_; intro K hK) | refine PW.block ?_ | refine PW.scope ?_ | refine PW.label ?_ | refine PW.exit ?_ | refine PW.ret ?_ | refine PW.skip ?_ | refine seqK_n (by assumption) ?_ | refine seqK_r (by assumption) ?_ | refine seqK_e (by assumption) ?_ | refine PW.regionA ?_ | exact schedW_stop_i | refine schK_n (by assumption) ?_ | (refine schedW_alt_k ?_ ?_; focus (intro K hK; simp only [hd, hg, hlen, hnlen, hdq, SS, SS2, SS3, SS4, scopeQ_normal, scopeQ_ret, scopeQ_exit, Option.map_some, Bool.not_false, Bool.not_true, gArgs, gOk, Nat.reduceAdd, PV.shift, MObj.shift, rdV, rdD, reduceIte, Nat.reduceEqDiff, Nat.reduceBEq, PV.bin, PV.binOk, binI, binS, PV.withInt, PV.withIntP, okAll, PV.under, PV.okUnder, eq_self, implies_true, deadOk, ne_eq, allOk, RVar.val, RVar.ok, retV, PV.seen, PV.view, beq_self_eq_true, PV.flat, PV.noOwn, id_eq, behind, PV.kill, MObj.kill, killTag, reduceCtorEq, nilB]; (try go_unwrap; try simp only [hd, hg, hlen, hnlen, hdq, toNat_add2, toNat_add1, Int.toNat_natCast, Bool.false_and, Bool.true_and, true_implies, true_and, Bool.false_eq_true, reduceCtorEq, false_implies, Bool.not_false, Bool.not_true, Bool.true_or, Bool.false_or]))) | (refine PW.cond rfl ?_ ?_ <;> intro hcond <;> (try contradiction) <;> try simp only [decide_eq_true_eq, decide_eq_false_iff_not] at hcond) | (refine gd_i ?_; intro hg; try simp only [hg]) | ((first | show @LE.le Nat _ _ _ | show @LT.lt Nat _ _ _ | show @LE.le Int _ _ _ | show @LT.lt Int _ _ _ | show @Eq Nat _ _ | show @Eq Int _ _ | show @Eq Bool _ _ | show _ ∨ _ | show ¬ _); first | omega | (simp only [decide_eq_true_eq, decide_eq_false_iff_not, List.length_cons, List.length_nil, List.length_append, List.length_map, Sh.size] <;> omega) | (go_unwrap; omega)) | ((first | refine PW.region ?_ | refine PW.regionQ ?_ | refine schedW_done_i ?_ | show (_ : Post) _ _ _ | show @Eq (List PV) _ _ | show @Eq Bool _ _ | show opsW _ _ _ _ _ _ _ _ | show okAll _ | show @Eq Bool _ _ ∨ _); focus (simp only [hd, hg, hlen, hnlen, hdq, SS, SS2, SS3, SS4, scopeQ_normal, scopeQ_ret, scopeQ_exit, Option.map_some, Bool.not_false, Bool.not_true, gArgs, gOk, Nat.reduceAdd, PV.shift, MObj.shift, rdV, rdD, reduceIte, Nat.reduceEqDiff, Nat.reduceBEq, PV.bin, PV.binOk, binI, binS, PV.withInt, PV.withIntP, okAll, PV.under, PV.okUnder, eq_self, implies_true, deadOk, ne_eq, allOk, RVar.val, RVar.ok, retV, PV.seen, PV.view, beq_self_eq_true, PV.flat, PV.noOwn, id_eq, behind, PV.kill, MObj.kill, killTag, reduceCtorEq, nilB]; (try go_unwrap; try simp only [hd, hg, hlen, hnlen, hdq, toNat_add2, toNat_add1, Int.toNat_natCast, Bool.false_and, Bool.true_and, true_implies, true_and, Bool.false_eq_true, reduceCtorEq, false_implies, Bool.not_false, Bool.not_true, Bool.true_or, Bool.false_or]))) | refine And.intro ?_ ?_ | exact Or.inr ⟨rfl, Nat.le_refl _⟩ | exact (fun h => Bool.noConfusion h))
    all_goals exact ⟨i + 1, rfl, ⟨by omega, hnx⟩, by omega⟩
  · have hd : decide ((i : Int) < l.length) = false := by simp only [decide_eq_false_iff_not]; omega
    have := wrongM_end h64 (fun j hj => hall j hj (by omega))
    repeat' (first | exact True.intro | (refine PW.seqK ?_; intro K hK) | refine PW.block ?_ | refine PW.scope ?_ | refine PW.label ?_ | refine PW.exit ?_ | refine PW.ret ?_ | refine PW.skip ?_ | refine seqK_n (by assumption) ?_ | refine seqK_r (by assumption) ?_ | refine seqK_e (by assumption) ?_ | refine PW.regionA ?_ | exact schedW_stop_i | refine schK_n (by assumption) ?_ | (refine schedW_alt_k ?_ ?_; focus (intro K hK; simp only [hd, hlen, SS, SS2, SS3, SS4, scopeQ_normal, scopeQ_ret, scopeQ_exit, Option.map_some, Bool.not_false, Bool.not_true, gArgs, gOk, Nat.reduceAdd, PV.shift, MObj.shift, rdV, rdD, reduceIte, Nat.reduceEqDiff, Nat.reduceBEq, PV.bin, PV.binOk, binI, binS, PV.withInt, PV.withIntP, okAll, PV.under, PV.okUnder, eq_self, implies_true, deadOk, ne_eq, allOk, RVar.val, RVar.ok, retV, PV.seen, PV.view, beq_self_eq_true, PV.flat, PV.noOwn, id_eq, behind, PV.kill, MObj.kill, killTag, reduceCtorEq, nilB]; (try go_unwrap; try simp only [hd, hlen, toNat_add2, toNat_add1, Int.toNat_natCast, Bool.false_and, Bool.true_and, true_implies, true_and, Bool.false_eq_true, reduceCtorEq, false_implies, Bool.not_false, Bool.not_true, Bool.true_or, Bool.false_or]))) | (refine PW.cond rfl ?_ ?_ <;> intro hcond <;> (try contradiction) <;> try simp only [decide_eq_true_eq, decide_eq_false_iff_not] at hcond) | (refine gd_i ?_; intro hg; try simp only [hg]) | ((first | show @LE.le Nat _ _ _ | show @LT.lt Nat _ _ _ | show @LE.le Int _ _ _ | show @LT.lt Int _ _ _ | show @Eq Nat _ _ | show @Eq Int _ _ | show @Eq Bool _ _ | show _ ∨ _ | show ¬ _); first | omega | (simp only [decide_eq_true_eq, decide_eq_false_iff_not, List.length_cons, List.length_nil, List.length_append, List.length_map, Sh.size] <;> omega) | (go_unwrap; omega)) | ((first | refine PW.region ?_ | refine PW.regionQ ?_ | refine schedW_done_i ?_ | show (_ : Post) _ _ _ | show @Eq (List PV) _ _ | show @Eq Bool _ _ | show opsW _ _ _ _ _ _ _ _ | show okAll _ | show @Eq Bool _ _ ∨ _); focus (simp only [hd, hlen, SS, SS2, SS3, SS4, scopeQ_normal, scopeQ_ret, scopeQ_exit, Option.map_some, Bool.not_false, Bool.not_true, gArgs, gOk, Nat.reduceAdd, PV.shift, MObj.shift, rdV, rdD, reduceIte, Nat.reduceEqDiff, Nat.reduceBEq, PV.bin, PV.binOk, binI, binS, PV.withInt, PV.withIntP, okAll, PV.under, PV.okUnder, eq_self, implies_true, deadOk, ne_eq, allOk, RVar.val, RVar.ok, retV, PV.seen, PV.view, beq_self_eq_true, PV.flat, PV.noOwn, id_eq, behind, PV.kill, MObj.kill, killTag, reduceCtorEq, nilB]; (try go_unwrap; try simp only [hd, hlen, toNat_add2, toNat_add1, Int.toNat_natCast, Bool.false_and, Bool.true_and, true_implies, true_and, Bool.false_eq_true, reduceCtorEq, false_implies, Bool.not_false, Bool.not_true, Bool.true_or, Bool.false_or]))) | refine And.intro ?_ ?_ | exact Or.inr ⟨rfl, Nat.le_refl _⟩ | exact (fun h => Bool.noConfusion h))
    all_goals (rw [this])
theorem v17 (l : List Ed) (hl : l.length ≤ 1000000000) (hnl : ∀ e ∈ l, e.needs.length ≤ 9223372036854775807) (s : St) : VCalls Try.prog G0 17 [.str s, edL l] (txL (belowM l s)) := by
  refine VCalls.of_PW Try.func17 k17 mix (by simp [c17]) ?_
  simp only [c17, L17, argE]
  have h32 := v32 l hl hnl
  have hlen : ((l.map edP).length : Nat) = l.length := by simp
  by_cases hw : wrongM l = 0
  case neg =>
    have d1 : decide (wrongM l = 0) = false := by simpa using hw
    have hB : belowM l s = [] := below_out (.inr hw)
    repeat' (first | exact True.intro | (refine PW.stop (x := .ret) ?_) | (refine PW.seqK ?_; intro K hK) | refine PW.block ?_ | refine PW.scope ?_ | refine PW.label ?_ | refine PW.exit ?_ | refine PW.ret ?_ | refine PW.skip ?_ | refine seqK_n (by assumption) ?_ | refine seqK_r (by assumption) ?_ | refine seqK_e (by assumption) ?_ | refine PW.regionA ?_ | exact schedW_stop_i | refine schK_n (by assumption) ?_ | (refine schedW_alt_k ?_ ?_; focus (intro K hK; simp only [d1, SS, SS2, SS3, SS4, scopeQ_normal, scopeQ_ret, scopeQ_exit, Option.map_some, Bool.not_false, Bool.not_true, gArgs, gOk, Nat.reduceAdd, PV.shift, MObj.shift, rdV, rdD, reduceIte, Nat.reduceEqDiff, Nat.reduceBEq, PV.bin, PV.binOk, binI, binS, PV.withInt, PV.withIntP, okAll, PV.under, PV.okUnder, eq_self, implies_true, deadOk, ne_eq, allOk, RVar.val, RVar.ok, retV, PV.seen, PV.view, beq_self_eq_true, PV.flat, PV.noOwn, id_eq, behind, PV.kill, MObj.kill, killTag, reduceCtorEq, nilB]; (try go_unwrap; try simp only [d1, toNat_add2, toNat_add1, Int.toNat_natCast, Bool.false_and, Bool.true_and, true_implies, true_and, Bool.false_eq_true, reduceCtorEq, false_implies, Bool.not_false, Bool.not_true, Bool.true_or, Bool.false_or]))) | (refine PW.cond rfl ?_ ?_ <;> intro hcond <;> (try contradiction) <;> try simp only [decide_eq_true_eq, decide_eq_false_iff_not] at hcond) | (refine gd_i ?_; intro hg; try simp only [hg]) | refine goCall_W e32 (h32) ?_ ?_ ?_ ?_ | ((first | show @LE.le Nat _ _ _ | show @LT.lt Nat _ _ _ | show @LE.le Int _ _ _ | show @LT.lt Int _ _ _ | show @Eq Nat _ _ | show @Eq Int _ _ | show @Eq Bool _ _ | show _ ∨ _ | show ¬ _); first | omega | (simp only [decide_eq_true_eq, decide_eq_false_iff_not, List.length_cons, List.length_nil, List.length_append, List.length_map, Sh.size] <;> omega) | (go_unwrap; omega)) | ((first | refine PW.region ?_ | refine PW.regionQ ?_ | refine schedW_done_i ?_ | show (_ : Post) _ _ _ | show @Eq (List PV) _ _ | show @Eq Bool _ _ | show opsW _ _ _ _ _ _ _ _ | show okAll _ | show @Eq Bool _ _ ∨ _); focus (simp only [d1, SS, SS2, SS3, SS4, scopeQ_normal, scopeQ_ret, scopeQ_exit, Option.map_some, Bool.not_false, Bool.not_true, gArgs, gOk, Nat.reduceAdd, PV.shift, MObj.shift, rdV, rdD, reduceIte, Nat.reduceEqDiff, Nat.reduceBEq, PV.bin, PV.binOk, binI, binS, PV.withInt, PV.withIntP, okAll, PV.under, PV.okUnder, eq_self, implies_true, deadOk, ne_eq, allOk, RVar.val, RVar.ok, retV, PV.seen, PV.view, beq_self_eq_true, PV.flat, PV.noOwn, id_eq, behind, PV.kill, MObj.kill, killTag, reduceCtorEq, nilB]; (try go_unwrap; try simp only [d1, toNat_add2, toNat_add1, Int.toNat_natCast, Bool.false_and, Bool.true_and, true_implies, true_and, Bool.false_eq_true, reduceCtorEq, false_implies, Bool.not_false, Bool.not_true, Bool.true_or, Bool.false_or]))) | refine And.intro ?_ ?_ | exact Or.inr ⟨rfl, Nat.le_refl _⟩ | exact (fun h => Bool.noConfusion h))
    all_goals
      refine ⟨?_⟩
      refine PW.subE none 4 rfl ?_
      repeat' (first | exact True.intro | (refine PW.seqK ?_; intro K hK) | refine PW.block ?_ | refine PW.scope ?_ | refine PW.label ?_ | refine PW.exit ?_ | refine PW.ret ?_ | refine PW.skip ?_ | refine seqK_n (by assumption) ?_ | refine seqK_r (by assumption) ?_ | refine seqK_e (by assumption) ?_ | refine PW.regionA ?_ | exact schedW_stop_i | refine schK_n (by assumption) ?_ | (refine schedW_alt_k ?_ ?_; focus (intro K hK; simp only [SS, SS2, SS3, SS4, scopeQ_normal, scopeQ_ret, scopeQ_exit, Option.map_some, Bool.not_false, Bool.not_true, gArgs, gOk, Nat.reduceAdd, PV.shift, MObj.shift, rdV, rdD, reduceIte, Nat.reduceEqDiff, Nat.reduceBEq, PV.bin, PV.binOk, binI, binS, PV.withInt, PV.withIntP, okAll, PV.under, PV.okUnder, eq_self, implies_true, deadOk, ne_eq, allOk, RVar.val, RVar.ok, retV, PV.seen, PV.view, beq_self_eq_true, PV.flat, PV.noOwn, id_eq, behind, PV.kill, MObj.kill, killTag, reduceCtorEq, nilB]; (try go_unwrap; try simp only [toNat_add2, toNat_add1, Int.toNat_natCast, Bool.false_and, Bool.true_and, true_implies, true_and, Bool.false_eq_true, reduceCtorEq, false_implies, Bool.not_false, Bool.not_true, Bool.true_or, Bool.false_or]))) | (refine PW.cond rfl ?_ ?_ <;> intro hcond <;> (try contradiction) <;> try simp only [decide_eq_true_eq, decide_eq_false_iff_not] at hcond) | (refine gd_i ?_; intro hg; try simp only [hg]) | ((first | show @LE.le Nat _ _ _ | show @LT.lt Nat _ _ _ | show @LE.le Int _ _ _ | show @LT.lt Int _ _ _ | show @Eq Nat _ _ | show @Eq Int _ _ | show @Eq Bool _ _ | show _ ∨ _ | show ¬ _); first | omega | (simp only [decide_eq_true_eq, decide_eq_false_iff_not, List.length_cons, List.length_nil, List.length_append, List.length_map, Sh.size] <;> omega) | (go_unwrap; omega)) | ((first | refine PW.region ?_ | refine PW.regionQ ?_ | refine schedW_done_i ?_ | show (_ : Post) _ _ _ | show @Eq (List PV) _ _ | show @Eq Bool _ _ | show opsW _ _ _ _ _ _ _ _ | show okAll _ | show @Eq Bool _ _ ∨ _); focus (simp only [SS, SS2, SS3, SS4, scopeQ_normal, scopeQ_ret, scopeQ_exit, Option.map_some, Bool.not_false, Bool.not_true, gArgs, gOk, Nat.reduceAdd, PV.shift, MObj.shift, rdV, rdD, reduceIte, Nat.reduceEqDiff, Nat.reduceBEq, PV.bin, PV.binOk, binI, binS, PV.withInt, PV.withIntP, okAll, PV.under, PV.okUnder, eq_self, implies_true, deadOk, ne_eq, allOk, RVar.val, RVar.ok, retV, PV.seen, PV.view, beq_self_eq_true, PV.flat, PV.noOwn, id_eq, behind, PV.kill, MObj.kill, killTag, reduceCtorEq, nilB]; (try go_unwrap; try simp only [toNat_add2, toNat_add1, Int.toNat_natCast, Bool.false_and, Bool.true_and, true_implies, true_and, Bool.false_eq_true, reduceCtorEq, false_implies, Bool.not_false, Bool.not_true, Bool.true_or, Bool.false_or]))) | refine And.intro ?_ ?_ | exact Or.inr ⟨rfl, Nat.le_refl _⟩ | exact (fun h => Bool.noConfusion h))
      rw [hB]; rfl
  rw [hw] at h32
  have hl64 := (wrongM_0.1 hw).1
  have hAl := allN_len4 hw
  repeat' (first | exact True.intro | (refine PW.seqK ?_; intro K hK) | refine PW.block ?_ | refine PW.scope ?_ | refine PW.label ?_ | refine PW.exit ?_ | refine PW.ret ?_ | refine PW.skip ?_ | refine seqK_n (by assumption) ?_ | refine seqK_r (by assumption) ?_ | refine seqK_e (by assumption) ?_ | refine PW.regionA ?_ | exact schedW_stop_i | refine schK_n (by assumption) ?_ | (refine schedW_alt_k ?_ ?_; focus (intro K hK; simp only [hlen, SS, SS2, SS3, SS4, scopeQ_normal, scopeQ_ret, scopeQ_exit, Option.map_some, Bool.not_false, Bool.not_true, gArgs, gOk, Nat.reduceAdd, PV.shift, MObj.shift, rdV, rdD, reduceIte, Nat.reduceEqDiff, Nat.reduceBEq, PV.bin, PV.binOk, binI, binS, PV.withInt, PV.withIntP, okAll, PV.under, PV.okUnder, eq_self, implies_true, deadOk, ne_eq, allOk, RVar.val, RVar.ok, retV, PV.seen, PV.view, beq_self_eq_true, PV.flat, PV.noOwn, id_eq, behind, PV.kill, MObj.kill, killTag, reduceCtorEq, nilB]; (try go_unwrap; try simp only [hlen, toNat_add2, toNat_add1, Int.toNat_natCast, Bool.false_and, Bool.true_and, true_implies, true_and, Bool.false_eq_true, reduceCtorEq, false_implies, Bool.not_false, Bool.not_true, Bool.true_or, Bool.false_or]))) | (refine PW.cond rfl ?_ ?_ <;> intro hcond <;> (try contradiction) <;> try simp only [decide_eq_true_eq, decide_eq_false_iff_not] at hcond) | (refine gd_i ?_; intro hg; try simp only [hg]) | refine goCall_W e32 (h32) ?_ ?_ ?_ ?_ | ((first | show @LE.le Nat _ _ _ | show @LT.lt Nat _ _ _ | show @LE.le Int _ _ _ | show @LT.lt Int _ _ _ | show @Eq Nat _ _ | show @Eq Int _ _ | show @Eq Bool _ _ | show _ ∨ _ | show ¬ _); first | omega | (simp only [decide_eq_true_eq, decide_eq_false_iff_not, List.length_cons, List.length_nil, List.length_append, List.length_map, Sh.size] <;> omega) | (go_unwrap; omega)) | ((first | refine PW.region ?_ | refine PW.regionQ ?_ | refine schedW_done_i ?_ | show (_ : Post) _ _ _ | show @Eq (List PV) _ _ | show @Eq Bool _ _ | show opsW _ _ _ _ _ _ _ _ | show okAll _ | show @Eq Bool _ _ ∨ _); focus (simp only [hlen, SS, SS2, SS3, SS4, scopeQ_normal, scopeQ_ret, scopeQ_exit, Option.map_some, Bool.not_false, Bool.not_true, gArgs, gOk, Nat.reduceAdd, PV.shift, MObj.shift, rdV, rdD, reduceIte, Nat.reduceEqDiff, Nat.reduceBEq, PV.bin, PV.binOk, binI, binS, PV.withInt, PV.withIntP, okAll, PV.under, PV.okUnder, eq_self, implies_true, deadOk, ne_eq, allOk, RVar.val, RVar.ok, retV, PV.seen, PV.view, beq_self_eq_true, PV.flat, PV.noOwn, id_eq, behind, PV.kill, MObj.kill, killTag, reduceCtorEq, nilB]; (try go_unwrap; try simp only [hlen, toNat_add2, toNat_add1, Int.toNat_natCast, Bool.false_and, Bool.true_and, true_implies, true_and, Bool.false_eq_true, reduceCtorEq, false_implies, Bool.not_false, Bool.not_true, Bool.true_or, Bool.false_or]))) | refine And.intro ?_ ?_ | exact Or.inr ⟨rfl, Nat.le_refl _⟩ | exact (fun h => Bool.noConfusion h))
  refine PW.subE none 5 rfl ?_
  refine PW.loopG (σ := Nat × List St × List St) 1 (fun _ _ => rfl) [0, 1, 4, 5, 6, 7] (fun q => [.str s, edL l, .nilSl, txL q.2.1, .sl none 0 q.2.2.length, .int .i64 q.1]) (fun q => [some (.row none (q.2.2.map PV.str))]) (fun q => q.1 ≤ q.2.2.length ∧ InvB l s q.1 q.2.1 q.2.2) (fun q => 5000 - q.1) (0, [], [s]) ?_ rfl ⟨by simp, invB_0 l s⟩ ?_
  · simp only [SS, SS2, SS3, SS4, scopeQ_normal, scopeQ_ret, scopeQ_exit, Option.map_some, Bool.not_false, Bool.not_true, gArgs, gOk, Nat.reduceAdd, PV.shift, MObj.shift, rdV, rdD, reduceIte, Nat.reduceEqDiff, Nat.reduceBEq, PV.bin, PV.binOk, binI, binS, PV.withInt, PV.withIntP, okAll, PV.under, PV.okUnder, eq_self, implies_true, deadOk, ne_eq, allOk, RVar.val, RVar.ok, retV, PV.seen, PV.view, beq_self_eq_true, PV.flat, PV.noOwn, id_eq, behind, PV.kill, MObj.kill, killTag, reduceCtorEq, nilB]; rfl
  rintro ⟨i, out, todo⟩ ⟨hi, hI⟩
  simp only at hi hI
  simp only [List.zip_cons_cons, List.zip_nil_left]
  obtain ⟨hL1, hL2⟩ := invB_len hI
  have htl : ((todo.map PV.str).length : Nat) = todo.length := by simp
  rcases Nat.lt_or_ge i todo.length with h | h
  · have hd : decide ((i : Int) < todo.length) = true := by simp only [decide_eq_true_eq]; omega
    have hg := tx_getD todo i h
    obtain ⟨x, hx⟩ : ∃ x, todo[i] = x := ⟨_, rfl⟩
    have hq : (todo.map PV.str)[i]? = some (.str x) := by rw [List.getElem?_map, List.getElem?_eq_getElem h, hx]; rfl
    clear hg
    have h37 := v37 l hl x
    rcases plcE_cases l x with ⟨hp, hnd, -⟩ | ⟨a, ha, hp, hn, hnd⟩
    · rw [hp] at h37
      have hI2 := invB_next hI h (by rw [hx, hnd]; simp)
      repeat' (first | exact True.intro | (refine PW.seqK ?_; intro K hK) | refine PW.block ?_ | refine PW.scope ?_ | refine PW.label ?_ | refine PW.exit ?_ | refine PW.ret ?_ | refine PW.skip ?_ | refine seqK_n (by assumption) ?_ | refine seqK_r (by assumption) ?_ | refine seqK_e (by assumption) ?_ | refine PW.regionA ?_ | exact schedW_stop_i | refine schK_n (by assumption) ?_ | (refine schedW_alt_k ?_ ?_; focus (intro K hK; simp only [hd, hq, htl, SS, SS2, SS3, SS4, scopeQ_normal, scopeQ_ret, scopeQ_exit, Option.map_some, Bool.not_false, Bool.not_true, gArgs, gOk, Nat.reduceAdd, PV.shift, MObj.shift, rdV, rdD, reduceIte, Nat.reduceEqDiff, Nat.reduceBEq, PV.bin, PV.binOk, binI, binS, PV.withInt, PV.withIntP, okAll, PV.under, PV.okUnder, eq_self, implies_true, deadOk, ne_eq, allOk, RVar.val, RVar.ok, retV, PV.seen, PV.view, beq_self_eq_true, PV.flat, PV.noOwn, id_eq, behind, PV.kill, MObj.kill, killTag, reduceCtorEq, nilB]; (try go_unwrap; try simp only [hd, hq, htl, toNat_add2, toNat_add1, Int.toNat_natCast, Bool.false_and, Bool.true_and, true_implies, true_and, Bool.false_eq_true, reduceCtorEq, false_implies, Bool.not_false, Bool.not_true, Bool.true_or, Bool.false_or]))) | (refine PW.cond rfl ?_ ?_ <;> intro hcond <;> (try contradiction) <;> try simp only [decide_eq_true_eq, decide_eq_false_iff_not] at hcond) | (refine gd_i ?_; intro hg; try simp only [hg]) | refine goCall_W e37 (h37) ?_ ?_ ?_ ?_ | ((first | show @LE.le Nat _ _ _ | show @LT.lt Nat _ _ _ | show @LE.le Int _ _ _ | show @LT.lt Int _ _ _ | show @Eq Nat _ _ | show @Eq Int _ _ | show @Eq Bool _ _ | show _ ∨ _ | show ¬ _); first | omega | (simp only [decide_eq_true_eq, decide_eq_false_iff_not, List.length_cons, List.length_nil, List.length_append, List.length_map, Sh.size] <;> omega) | (go_unwrap; omega)) | ((first | refine PW.region ?_ | refine PW.regionQ ?_ | refine schedW_done_i ?_ | show (_ : Post) _ _ _ | show @Eq (List PV) _ _ | show @Eq Bool _ _ | show opsW _ _ _ _ _ _ _ _ | show okAll _ | show @Eq Bool _ _ ∨ _); focus (simp only [hd, hq, htl, SS, SS2, SS3, SS4, scopeQ_normal, scopeQ_ret, scopeQ_exit, Option.map_some, Bool.not_false, Bool.not_true, gArgs, gOk, Nat.reduceAdd, PV.shift, MObj.shift, rdV, rdD, reduceIte, Nat.reduceEqDiff, Nat.reduceBEq, PV.bin, PV.binOk, binI, binS, PV.withInt, PV.withIntP, okAll, PV.under, PV.okUnder, eq_self, implies_true, deadOk, ne_eq, allOk, RVar.val, RVar.ok, retV, PV.seen, PV.view, beq_self_eq_true, PV.flat, PV.noOwn, id_eq, behind, PV.kill, MObj.kill, killTag, reduceCtorEq, nilB]; (try go_unwrap; try simp only [hd, hq, htl, toNat_add2, toNat_add1, Int.toNat_natCast, Bool.false_and, Bool.true_and, true_implies, true_and, Bool.false_eq_true, reduceCtorEq, false_implies, Bool.not_false, Bool.not_true, Bool.true_or, Bool.false_or]))) | refine And.intro ?_ ?_ | exact Or.inr ⟨rfl, Nat.le_refl _⟩ | exact (fun h => Bool.noConfusion h))
      refine PW.loopG (σ := Unit) 1 (fun _ _ => rfl) [0, 1, 4, 5, 6, 7, 8, 9] (fun _ => [.str s, edL l, .nilSl, txL out, .sl none 0 todo.length, .int .i64 i, .int .i64 (-1), .int .i64 0]) (fun _ => [some (.row none (todo.map PV.str))]) (fun _ => True) (fun _ => 0) () ?_ rfl trivial ?_
      · simp only [SS, SS2, SS3, SS4, scopeQ_normal, scopeQ_ret, scopeQ_exit, Option.map_some, Bool.not_false, Bool.not_true, gArgs, gOk, Nat.reduceAdd, PV.shift, MObj.shift, rdV, rdD, reduceIte, Nat.reduceEqDiff, Nat.reduceBEq, PV.bin, PV.binOk, binI, binS, PV.withInt, PV.withIntP, okAll, PV.under, PV.okUnder, eq_self, implies_true, deadOk, ne_eq, allOk, RVar.val, RVar.ok, retV, PV.seen, PV.view, beq_self_eq_true, PV.flat, PV.noOwn, id_eq, behind, PV.kill, MObj.kill, killTag, reduceCtorEq, nilB]; rfl
      rintro _ _
      simp only [List.zip_cons_cons, List.zip_nil_left]
      have dm : decide ((0 : Int) ≤ -1) = false := rfl
      repeat' (first | exact True.intro | (refine PW.seqK ?_; intro K hK) | refine PW.block ?_ | refine PW.scope ?_ | refine PW.label ?_ | refine PW.exit ?_ | refine PW.ret ?_ | refine PW.skip ?_ | refine seqK_n (by assumption) ?_ | refine seqK_r (by assumption) ?_ | refine seqK_e (by assumption) ?_ | refine PW.regionA ?_ | exact schedW_stop_i | refine schK_n (by assumption) ?_ | (refine schedW_alt_k ?_ ?_; focus (intro K hK; simp only [hlen, dm, SS, SS2, SS3, SS4, scopeQ_normal, scopeQ_ret, scopeQ_exit, Option.map_some, Bool.not_false, Bool.not_true, gArgs, gOk, Nat.reduceAdd, PV.shift, MObj.shift, rdV, rdD, reduceIte, Nat.reduceEqDiff, Nat.reduceBEq, PV.bin, PV.binOk, binI, binS, PV.withInt, PV.withIntP, okAll, PV.under, PV.okUnder, eq_self, implies_true, deadOk, ne_eq, allOk, RVar.val, RVar.ok, retV, PV.seen, PV.view, beq_self_eq_true, PV.flat, PV.noOwn, id_eq, behind, PV.kill, MObj.kill, killTag, reduceCtorEq, nilB]; (try go_unwrap; try simp only [hlen, dm, toNat_add2, toNat_add1, Int.toNat_natCast, Bool.false_and, Bool.true_and, true_implies, true_and, Bool.false_eq_true, reduceCtorEq, false_implies, Bool.not_false, Bool.not_true, Bool.true_or, Bool.false_or]))) | (refine PW.cond rfl ?_ ?_ <;> intro hcond <;> (try contradiction) <;> try simp only [decide_eq_true_eq, decide_eq_false_iff_not] at hcond) | (refine gd_i ?_; intro hg; try simp only [hg]) | ((first | show @LE.le Nat _ _ _ | show @LT.lt Nat _ _ _ | show @LE.le Int _ _ _ | show @LT.lt Int _ _ _ | show @Eq Nat _ _ | show @Eq Int _ _ | show @Eq Bool _ _ | show _ ∨ _ | show ¬ _); first | omega | (simp only [decide_eq_true_eq, decide_eq_false_iff_not, List.length_cons, List.length_nil, List.length_append, List.length_map, Sh.size] <;> omega) | (go_unwrap; omega)) | ((first | refine PW.region ?_ | refine PW.regionQ ?_ | refine schedW_done_i ?_ | show (_ : Post) _ _ _ | show @Eq (List PV) _ _ | show @Eq Bool _ _ | show opsW _ _ _ _ _ _ _ _ | show okAll _ | show @Eq Bool _ _ ∨ _); focus (simp only [hlen, dm, SS, SS2, SS3, SS4, scopeQ_normal, scopeQ_ret, scopeQ_exit, Option.map_some, Bool.not_false, Bool.not_true, gArgs, gOk, Nat.reduceAdd, PV.shift, MObj.shift, rdV, rdD, reduceIte, Nat.reduceEqDiff, Nat.reduceBEq, PV.bin, PV.binOk, binI, binS, PV.withInt, PV.withIntP, okAll, PV.under, PV.okUnder, eq_self, implies_true, deadOk, ne_eq, allOk, RVar.val, RVar.ok, retV, PV.seen, PV.view, beq_self_eq_true, PV.flat, PV.noOwn, id_eq, behind, PV.kill, MObj.kill, killTag, reduceCtorEq, nilB]; (try go_unwrap; try simp only [hlen, dm, toNat_add2, toNat_add1, Int.toNat_natCast, Bool.false_and, Bool.true_and, true_implies, true_and, Bool.false_eq_true, reduceCtorEq, false_implies, Bool.not_false, Bool.not_true, Bool.true_or, Bool.false_or]))) | refine And.intro ?_ ?_ | exact Or.inr ⟨rfl, Nat.le_refl _⟩ | exact (fun h => Bool.noConfusion h))
      all_goals exact ⟨(i + 1, out, todo), (by first | rfl | (simp only [trimE, trimM, List.take_succ_cons, List.take_zero, List.take_nil, List.map_cons, List.map_nil, Option.map_some, Option.map_none, MObj.kill, PV.kill, Nat.reduceLeDiff, decide_true, decide_false, dec_true, dec_false, Bool.false_eq_true, if_false, if_true, reduceIte, List.zip_cons_cons, List.zip_nil_left, Nat.le_refl, Nat.zero_le, Nat.not_le, Nat.lt_irrefl]; done) | (simp [trimE, trimM, MObj.kill, PV.kill]; done)), (by first | rfl | (simp only [trimE, trimM, List.take_succ_cons, List.take_zero, List.take_nil, List.map_cons, List.map_nil, Option.map_some, Option.map_none, MObj.kill, PV.kill, Nat.reduceLeDiff, decide_true, decide_false, dec_true, dec_false, Bool.false_eq_true, if_false, if_true, reduceIte, List.zip_cons_cons, List.zip_nil_left, Nat.le_refl, Nat.zero_le, Nat.not_le, Nat.lt_irrefl]; done) | (simp [trimE, trimM, MObj.kill, PV.kill]; done)), ⟨by simp only; omega, hI2⟩, by simp only; omega⟩
    · rw [hp] at h37
      have hga := ed_getD l a ha
      have hnla := hnl l[a] (List.getElem_mem ha)
      generalize l[a] = e at hga hnd hnla hn
      simp only [edP] at hga
      have hnlen : ((e.needs.map PV.str).length : Nat) = e.needs.length := by simp
      have d0 : decide ((0 : Int) ≤ (a : Int)) = true := by simp only [decide_eq_true_eq]; omega
      have dal : decide ((a : Int) < l.length) = true := by simp only [decide_eq_true_eq]; omega
      repeat' (first | exact True.intro | (refine PW.seqK ?_; intro K hK) | refine PW.block ?_ | refine PW.scope ?_ | refine PW.label ?_ | refine PW.exit ?_ | refine PW.ret ?_ | refine PW.skip ?_ | refine seqK_n (by assumption) ?_ | refine seqK_r (by assumption) ?_ | refine seqK_e (by assumption) ?_ | refine PW.regionA ?_ | exact schedW_stop_i | refine schK_n (by assumption) ?_ | (refine schedW_alt_k ?_ ?_; focus (intro K hK; simp only [hd, hq, htl, SS, SS2, SS3, SS4, scopeQ_normal, scopeQ_ret, scopeQ_exit, Option.map_some, Bool.not_false, Bool.not_true, gArgs, gOk, Nat.reduceAdd, PV.shift, MObj.shift, rdV, rdD, reduceIte, Nat.reduceEqDiff, Nat.reduceBEq, PV.bin, PV.binOk, binI, binS, PV.withInt, PV.withIntP, okAll, PV.under, PV.okUnder, eq_self, implies_true, deadOk, ne_eq, allOk, RVar.val, RVar.ok, retV, PV.seen, PV.view, beq_self_eq_true, PV.flat, PV.noOwn, id_eq, behind, PV.kill, MObj.kill, killTag, reduceCtorEq, nilB]; (try go_unwrap; try simp only [hd, hq, htl, toNat_add2, toNat_add1, Int.toNat_natCast, Bool.false_and, Bool.true_and, true_implies, true_and, Bool.false_eq_true, reduceCtorEq, false_implies, Bool.not_false, Bool.not_true, Bool.true_or, Bool.false_or]))) | (refine PW.cond rfl ?_ ?_ <;> intro hcond <;> (try contradiction) <;> try simp only [decide_eq_true_eq, decide_eq_false_iff_not] at hcond) | (refine gd_i ?_; intro hg; try simp only [hg]) | refine goCall_W e37 (h37) ?_ ?_ ?_ ?_ | ((first | show @LE.le Nat _ _ _ | show @LT.lt Nat _ _ _ | show @LE.le Int _ _ _ | show @LT.lt Int _ _ _ | show @Eq Nat _ _ | show @Eq Int _ _ | show @Eq Bool _ _ | show _ ∨ _ | show ¬ _); first | omega | (simp only [decide_eq_true_eq, decide_eq_false_iff_not, List.length_cons, List.length_nil, List.length_append, List.length_map, Sh.size] <;> omega) | (go_unwrap; omega)) | ((first | refine PW.region ?_ | refine PW.regionQ ?_ | refine schedW_done_i ?_ | show (_ : Post) _ _ _ | show @Eq (List PV) _ _ | show @Eq Bool _ _ | show opsW _ _ _ _ _ _ _ _ | show okAll _ | show @Eq Bool _ _ ∨ _); focus (simp only [hd, hq, htl, SS, SS2, SS3, SS4, scopeQ_normal, scopeQ_ret, scopeQ_exit, Option.map_some, Bool.not_false, Bool.not_true, gArgs, gOk, Nat.reduceAdd, PV.shift, MObj.shift, rdV, rdD, reduceIte, Nat.reduceEqDiff, Nat.reduceBEq, PV.bin, PV.binOk, binI, binS, PV.withInt, PV.withIntP, okAll, PV.under, PV.okUnder, eq_self, implies_true, deadOk, ne_eq, allOk, RVar.val, RVar.ok, retV, PV.seen, PV.view, beq_self_eq_true, PV.flat, PV.noOwn, id_eq, behind, PV.kill, MObj.kill, killTag, reduceCtorEq, nilB]; (try go_unwrap; try simp only [hd, hq, htl, toNat_add2, toNat_add1, Int.toNat_natCast, Bool.false_and, Bool.true_and, true_implies, true_and, Bool.false_eq_true, reduceCtorEq, false_implies, Bool.not_false, Bool.not_true, Bool.true_or, Bool.false_or]))) | refine And.intro ?_ ?_ | exact Or.inr ⟨rfl, Nat.le_refl _⟩ | exact (fun h => Bool.noConfusion h))
      refine PW.loopG (σ := Nat × List St × List St) 1 (fun _ _ => rfl) [0, 1, 4, 5, 6, 7, 8, 9] (fun q => [.str s, edL l, .nilSl, txL q.2.1, .sl none 0 q.2.2.length, .int .i64 i, .int .i64 a, .int .i64 q.1]) (fun q => [some (.row none (q.2.2.map PV.str))])
        (fun q => q.1 ≤ e.needs.length ∧ InvB l s i q.2.1 q.2.2 ∧ (∃ h : i < q.2.2.length, q.2.2[i] = x) ∧ ∀ j (h : j < e.needs.length), j < q.1 → e.needs[j] ∈ q.2.1) (fun q => e.needs.length - q.1) (0, out, todo) ?_ rfl ⟨by simp, hI, ⟨h, hx⟩, fun j _ h => by simp at h⟩ ?_
      · simp only [SS, SS2, SS3, SS4, scopeQ_normal, scopeQ_ret, scopeQ_exit, Option.map_some, Bool.not_false, Bool.not_true, gArgs, gOk, Nat.reduceAdd, PV.shift, MObj.shift, rdV, rdD, reduceIte, Nat.reduceEqDiff, Nat.reduceBEq, PV.bin, PV.binOk, binI, binS, PV.withInt, PV.withIntP, okAll, PV.under, PV.okUnder, eq_self, implies_true, deadOk, ne_eq, allOk, RVar.val, RVar.ok, retV, PV.seen, PV.view, beq_self_eq_true, PV.flat, PV.noOwn, id_eq, behind, PV.kill, MObj.kill, killTag, reduceCtorEq, nilB]; rfl
      clear hq htl hd h hx hi hI hL1 hL2
      rintro ⟨k, out, todo⟩ ⟨hk, hI, ⟨h, hx⟩, hall⟩
      simp only at hk hI h hx hall
      simp only [List.zip_cons_cons, List.zip_nil_left]
      obtain ⟨hL1, hL2⟩ := invB_len hI
      have htl : ((todo.map PV.str).length : Nat) = todo.length := by simp
      have htt : (todo.map PV.str).take todo.length = todo.map PV.str := List.take_of_length_le (by simp)
      rcases Nat.lt_or_ge k e.needs.length with h3 | h3
      · have hdk : decide ((k : Int) < e.needs.length) = true := by simp only [decide_eq_true_eq]; omega
        have hgn := tx_getD e.needs k h3
        have hmn : e.needs[k] ∈ ndM l todo[i] := by rw [hx, hnd]; exact List.getElem_mem h3
        have h23 := v23 out e.needs[k] (by omega)
        have h38 := v38 out e.needs[k] (by omega)
        have hput : e.needs[k] ∉ out → InvB l s i (putM out e.needs[k]) (todo ++ [e.needs[k]]) := fun ho => invB_put hI h hmn ho
        have hy1 : e.needs[k] ∈ out → ∀ j (h : j < e.needs.length), j < k + 1 → e.needs[j] ∈ out := fun ho j hj hji => by
          rcases Nat.lt_or_ge j k with h' | h'
          · exact hall j hj h'
          · obtain rfl : j = k := by omega
            exact ho
        have hy2 : ∀ j (h : j < e.needs.length), j < k + 1 → e.needs[j] ∈ putM out e.needs[k] := fun j hj hji => by
          rcases Nat.lt_or_ge j k with h' | h'
          · exact (putM_iff _ _ _).2 (.inl (hall j hj h'))
          · obtain rfl : j = k := by omega
            exact (putM_iff _ _ _).2 (.inr rfl)
        obtain ⟨y, hy⟩ : ∃ y, e.needs[k] = y := ⟨_, rfl⟩
        rw [hy] at hgn h23 h38 hput hy1 hy2
        have hat : (todo ++ [y])[i]'(by simp; omega) = x := by rw [← hx]; exact List.getElem_append_left h
        by_cases ho : y ∈ out
        · rw [decide_eq_true ho] at h23
          have hy1 := hy1 ho
          clear hput hy2
          repeat' (first | exact True.intro | (refine PW.seqK ?_; intro K hK) | refine PW.block ?_ | refine PW.scope ?_ | refine PW.label ?_ | refine PW.exit ?_ | refine PW.ret ?_ | refine PW.skip ?_ | refine seqK_n (by assumption) ?_ | refine seqK_r (by assumption) ?_ | refine seqK_e (by assumption) ?_ | refine PW.regionA ?_ | exact schedW_stop_i | refine schK_n (by assumption) ?_ | (refine schedW_alt_k ?_ ?_; focus (intro K hK; simp only [d0, dal, hga, hlen, hnlen, hdk, hgn, SS, SS2, SS3, SS4, scopeQ_normal, scopeQ_ret, scopeQ_exit, Option.map_some, Bool.not_false, Bool.not_true, gArgs, gOk, Nat.reduceAdd, PV.shift, MObj.shift, rdV, rdD, reduceIte, Nat.reduceEqDiff, Nat.reduceBEq, PV.bin, PV.binOk, binI, binS, PV.withInt, PV.withIntP, okAll, PV.under, PV.okUnder, eq_self, implies_true, deadOk, ne_eq, allOk, RVar.val, RVar.ok, retV, PV.seen, PV.view, beq_self_eq_true, PV.flat, PV.noOwn, id_eq, behind, PV.kill, MObj.kill, killTag, reduceCtorEq, nilB]; (try go_unwrap; try simp only [d0, dal, hga, hlen, hnlen, hdk, hgn, toNat_add2, toNat_add1, Int.toNat_natCast, Bool.false_and, Bool.true_and, true_implies, true_and, Bool.false_eq_true, reduceCtorEq, false_implies, Bool.not_false, Bool.not_true, Bool.true_or, Bool.false_or]))) | (refine PW.cond rfl ?_ ?_ <;> intro hcond <;> (try contradiction) <;> try simp only [decide_eq_true_eq, decide_eq_false_iff_not] at hcond) | (refine gd_i ?_; intro hg; try simp only [hg]) | refine goCall_W e23 (h23) ?_ ?_ ?_ ?_ | ((first | show @LE.le Nat _ _ _ | show @LT.lt Nat _ _ _ | show @LE.le Int _ _ _ | show @LT.lt Int _ _ _ | show @Eq Nat _ _ | show @Eq Int _ _ | show @Eq Bool _ _ | show _ ∨ _ | show ¬ _); first | omega | (simp only [decide_eq_true_eq, decide_eq_false_iff_not, List.length_cons, List.length_nil, List.length_append, List.length_map, Sh.size] <;> omega) | (go_unwrap; omega)) | ((first | refine PW.region ?_ | refine PW.regionQ ?_ | refine schedW_done_i ?_ | show (_ : Post) _ _ _ | show @Eq (List PV) _ _ | show @Eq Bool _ _ | show opsW _ _ _ _ _ _ _ _ | show okAll _ | show @Eq Bool _ _ ∨ _); focus (simp only [d0, dal, hga, hlen, hnlen, hdk, hgn, SS, SS2, SS3, SS4, scopeQ_normal, scopeQ_ret, scopeQ_exit, Option.map_some, Bool.not_false, Bool.not_true, gArgs, gOk, Nat.reduceAdd, PV.shift, MObj.shift, rdV, rdD, reduceIte, Nat.reduceEqDiff, Nat.reduceBEq, PV.bin, PV.binOk, binI, binS, PV.withInt, PV.withIntP, okAll, PV.under, PV.okUnder, eq_self, implies_true, deadOk, ne_eq, allOk, RVar.val, RVar.ok, retV, PV.seen, PV.view, beq_self_eq_true, PV.flat, PV.noOwn, id_eq, behind, PV.kill, MObj.kill, killTag, reduceCtorEq, nilB]; (try go_unwrap; try simp only [d0, dal, hga, hlen, hnlen, hdk, hgn, toNat_add2, toNat_add1, Int.toNat_natCast, Bool.false_and, Bool.true_and, true_implies, true_and, Bool.false_eq_true, reduceCtorEq, false_implies, Bool.not_false, Bool.not_true, Bool.true_or, Bool.false_or]))) | refine And.intro ?_ ?_ | exact Or.inr ⟨rfl, Nat.le_refl _⟩ | exact (fun h => Bool.noConfusion h))
          all_goals exact ⟨(k + 1, out, todo), (by first | rfl | (simp only [trimE, trimM, List.take_succ_cons, List.take_zero, List.take_nil, List.map_cons, List.map_nil, Option.map_some, Option.map_none, MObj.kill, PV.kill, Nat.reduceLeDiff, decide_true, decide_false, dec_true, dec_false, Bool.false_eq_true, if_false, if_true, reduceIte, List.zip_cons_cons, List.zip_nil_left, Nat.le_refl, Nat.zero_le, Nat.not_le, Nat.lt_irrefl]; done) | (simp [trimE, trimM, MObj.kill, PV.kill]; done)), (by first | rfl | (simp only [trimE, trimM, List.take_succ_cons, List.take_zero, List.take_nil, List.map_cons, List.map_nil, Option.map_some, Option.map_none, MObj.kill, PV.kill, Nat.reduceLeDiff, decide_true, decide_false, dec_true, dec_false, Bool.false_eq_true, if_false, if_true, reduceIte, List.zip_cons_cons, List.zip_nil_left, Nat.le_refl, Nat.zero_le, Nat.not_le, Nat.lt_irrefl]; done) | (simp [trimE, trimM, MObj.kill, PV.kill]; done)), ⟨by simp only; omega, hI, ⟨h, hx⟩, hy1⟩, by simp only; omega⟩
        · rw [decide_eq_false ho] at h23
          have hput := hput ho
          clear hy1
          have b1 : (todo.length + 1) * 16 ≤ 140737488355328 := by omega
          repeat' (first | exact True.intro | (refine PW.seqK ?_; intro K hK) | refine PW.block ?_ | refine PW.scope ?_ | refine PW.label ?_ | refine PW.exit ?_ | refine PW.ret ?_ | refine PW.skip ?_ | refine seqK_n (by assumption) ?_ | refine seqK_r (by assumption) ?_ | refine seqK_e (by assumption) ?_ | refine PW.regionA ?_ | exact schedW_stop_i | refine schK_n (by assumption) ?_ | (refine schedW_alt_k ?_ ?_; focus (intro K hK; simp only [d0, dal, hga, hlen, hnlen, hdk, hgn, htl, htt, SS, SS2, SS3, SS4, scopeQ_normal, scopeQ_ret, scopeQ_exit, Option.map_some, Bool.not_false, Bool.not_true, gArgs, gOk, Nat.reduceAdd, PV.shift, MObj.shift, rdV, rdD, reduceIte, Nat.reduceEqDiff, Nat.reduceBEq, PV.bin, PV.binOk, binI, binS, PV.withInt, PV.withIntP, okAll, PV.under, PV.okUnder, eq_self, implies_true, deadOk, ne_eq, allOk, RVar.val, RVar.ok, retV, PV.seen, PV.view, beq_self_eq_true, PV.flat, PV.noOwn, id_eq, behind, PV.kill, MObj.kill, killTag, reduceCtorEq, nilB]; (try go_unwrap; try simp only [d0, dal, hga, hlen, hnlen, hdk, hgn, htl, htt, toNat_add2, toNat_add1, Int.toNat_natCast, Bool.false_and, Bool.true_and, true_implies, true_and, Bool.false_eq_true, reduceCtorEq, false_implies, Bool.not_false, Bool.not_true, Bool.true_or, Bool.false_or]))) | (refine PW.cond rfl ?_ ?_ <;> intro hcond <;> (try contradiction) <;> try simp only [decide_eq_true_eq, decide_eq_false_iff_not] at hcond) | (refine gd_i ?_; intro hg; try simp only [hg]) | refine goCall_W e23 (h23) ?_ ?_ ?_ ?_ | refine goCall_W e38 (h38) ?_ ?_ ?_ ?_ | ((first | show @LE.le Nat _ _ _ | show @LT.lt Nat _ _ _ | show @LE.le Int _ _ _ | show @LT.lt Int _ _ _ | show @Eq Nat _ _ | show @Eq Int _ _ | show @Eq Bool _ _ | show _ ∨ _ | show ¬ _); first | omega | (simp only [decide_eq_true_eq, decide_eq_false_iff_not, List.length_cons, List.length_nil, List.length_append, List.length_map, Sh.size] <;> omega) | (go_unwrap; omega)) | ((first | refine PW.region ?_ | refine PW.regionQ ?_ | refine schedW_done_i ?_ | show (_ : Post) _ _ _ | show @Eq (List PV) _ _ | show @Eq Bool _ _ | show opsW _ _ _ _ _ _ _ _ | show okAll _ | show @Eq Bool _ _ ∨ _); focus (simp only [d0, dal, hga, hlen, hnlen, hdk, hgn, htl, htt, SS, SS2, SS3, SS4, scopeQ_normal, scopeQ_ret, scopeQ_exit, Option.map_some, Bool.not_false, Bool.not_true, gArgs, gOk, Nat.reduceAdd, PV.shift, MObj.shift, rdV, rdD, reduceIte, Nat.reduceEqDiff, Nat.reduceBEq, PV.bin, PV.binOk, binI, binS, PV.withInt, PV.withIntP, okAll, PV.under, PV.okUnder, eq_self, implies_true, deadOk, ne_eq, allOk, RVar.val, RVar.ok, retV, PV.seen, PV.view, beq_self_eq_true, PV.flat, PV.noOwn, id_eq, behind, PV.kill, MObj.kill, killTag, reduceCtorEq, nilB]; (try go_unwrap; try simp only [d0, dal, hga, hlen, hnlen, hdk, hgn, htl, htt, toNat_add2, toNat_add1, Int.toNat_natCast, Bool.false_and, Bool.true_and, true_implies, true_and, Bool.false_eq_true, reduceCtorEq, false_implies, Bool.not_false, Bool.not_true, Bool.true_or, Bool.false_or]))) | refine And.intro ?_ ?_ | exact Or.inr ⟨rfl, Nat.le_refl _⟩ | exact (fun h => Bool.noConfusion h))
          all_goals exact ⟨(k + 1, putM out y, todo ++ [y]), (by simp only [List.length_append, List.length_cons, List.length_nil]; exact (by first | rfl | (simp only [trimE, trimM, List.take_succ_cons, List.take_zero, List.take_nil, List.map_cons, List.map_nil, Option.map_some, Option.map_none, MObj.kill, PV.kill, Nat.reduceLeDiff, decide_true, decide_false, dec_true, dec_false, Bool.false_eq_true, if_false, if_true, reduceIte, List.zip_cons_cons, List.zip_nil_left, Nat.le_refl, Nat.zero_le, Nat.not_le, Nat.lt_irrefl]; done) | (simp [trimE, trimM, MObj.kill, PV.kill]; done))), (by simp [trimM, MObj.kill]), ⟨by simp only; omega, hput, ⟨by simp; omega, hat⟩, hy2⟩, by simp only; omega⟩
      · have hdk : decide ((k : Int) < e.needs.length) = false := by simp only [decide_eq_false_iff_not]; omega
        have hI2 := invB_next hI h (by
          rw [hx, hnd]; intro z hz
          obtain ⟨j, hj, rfl⟩ := List.getElem_of_mem hz
          exact hall j hj (by omega))
        clear hall
        repeat' (first | exact True.intro | (refine PW.seqK ?_; intro K hK) | refine PW.block ?_ | refine PW.scope ?_ | refine PW.label ?_ | refine PW.exit ?_ | refine PW.ret ?_ | refine PW.skip ?_ | refine seqK_n (by assumption) ?_ | refine seqK_r (by assumption) ?_ | refine seqK_e (by assumption) ?_ | refine PW.regionA ?_ | exact schedW_stop_i | refine schK_n (by assumption) ?_ | (refine schedW_alt_k ?_ ?_; focus (intro K hK; simp only [d0, dal, hga, hlen, hnlen, hdk, SS, SS2, SS3, SS4, scopeQ_normal, scopeQ_ret, scopeQ_exit, Option.map_some, Bool.not_false, Bool.not_true, gArgs, gOk, Nat.reduceAdd, PV.shift, MObj.shift, rdV, rdD, reduceIte, Nat.reduceEqDiff, Nat.reduceBEq, PV.bin, PV.binOk, binI, binS, PV.withInt, PV.withIntP, okAll, PV.under, PV.okUnder, eq_self, implies_true, deadOk, ne_eq, allOk, RVar.val, RVar.ok, retV, PV.seen, PV.view, beq_self_eq_true, PV.flat, PV.noOwn, id_eq, behind, PV.kill, MObj.kill, killTag, reduceCtorEq, nilB]; (try go_unwrap; try simp only [d0, dal, hga, hlen, hnlen, hdk, toNat_add2, toNat_add1, Int.toNat_natCast, Bool.false_and, Bool.true_and, true_implies, true_and, Bool.false_eq_true, reduceCtorEq, false_implies, Bool.not_false, Bool.not_true, Bool.true_or, Bool.false_or]))) | (refine PW.cond rfl ?_ ?_ <;> intro hcond <;> (try contradiction) <;> try simp only [decide_eq_true_eq, decide_eq_false_iff_not] at hcond) | (refine gd_i ?_; intro hg; try simp only [hg]) | ((first | show @LE.le Nat _ _ _ | show @LT.lt Nat _ _ _ | show @LE.le Int _ _ _ | show @LT.lt Int _ _ _ | show @Eq Nat _ _ | show @Eq Int _ _ | show @Eq Bool _ _ | show _ ∨ _ | show ¬ _); first | omega | (simp only [decide_eq_true_eq, decide_eq_false_iff_not, List.length_cons, List.length_nil, List.length_append, List.length_map, Sh.size] <;> omega) | (go_unwrap; omega)) | ((first | refine PW.region ?_ | refine PW.regionQ ?_ | refine schedW_done_i ?_ | show (_ : Post) _ _ _ | show @Eq (List PV) _ _ | show @Eq Bool _ _ | show opsW _ _ _ _ _ _ _ _ | show okAll _ | show @Eq Bool _ _ ∨ _); focus (simp only [d0, dal, hga, hlen, hnlen, hdk, SS, SS2, SS3, SS4, scopeQ_normal, scopeQ_ret, scopeQ_exit, Option.map_some, Bool.not_false, Bool.not_true, gArgs, gOk, Nat.reduceAdd, PV.shift, MObj.shift, rdV, rdD, reduceIte, Nat.reduceEqDiff, Nat.reduceBEq, PV.bin, PV.binOk, binI, binS, PV.withInt, PV.withIntP, okAll, PV.under, PV.okUnder, eq_self, implies_true, deadOk, ne_eq, allOk, RVar.val, RVar.ok, retV, PV.seen, PV.view, beq_self_eq_true, PV.flat, PV.noOwn, id_eq, behind, PV.kill, MObj.kill, killTag, reduceCtorEq, nilB]; (try go_unwrap; try simp only [d0, dal, hga, hlen, hnlen, hdk, toNat_add2, toNat_add1, Int.toNat_natCast, Bool.false_and, Bool.true_and, true_implies, true_and, Bool.false_eq_true, reduceCtorEq, false_implies, Bool.not_false, Bool.not_true, Bool.true_or, Bool.false_or]))) | refine And.intro ?_ ?_ | exact Or.inr ⟨rfl, Nat.le_refl _⟩ | exact (fun h => Bool.noConfusion h))
        all_goals exact ⟨(i + 1, out, todo), (by first | rfl | (simp only [trimE, trimM, List.take_succ_cons, List.take_zero, List.take_nil, List.map_cons, List.map_nil, Option.map_some, Option.map_none, MObj.kill, PV.kill, Nat.reduceLeDiff, decide_true, decide_false, dec_true, dec_false, Bool.false_eq_true, if_false, if_true, reduceIte, List.zip_cons_cons, List.zip_nil_left, Nat.le_refl, Nat.zero_le, Nat.not_le, Nat.lt_irrefl]; done) | (simp [trimE, trimM, MObj.kill, PV.kill]; done)), (by first | rfl | (simp only [trimE, trimM, List.take_succ_cons, List.take_zero, List.take_nil, List.map_cons, List.map_nil, Option.map_some, Option.map_none, MObj.kill, PV.kill, Nat.reduceLeDiff, decide_true, decide_false, dec_true, dec_false, Bool.false_eq_true, if_false, if_true, reduceIte, List.zip_cons_cons, List.zip_nil_left, Nat.le_refl, Nat.zero_le, Nat.not_le, Nat.lt_irrefl]; done) | (simp [trimE, trimM, MObj.kill, PV.kill]; done)), ⟨by simp only; omega, hI2⟩, by simp only; omega⟩
  · have hd : decide ((i : Int) < todo.length) = false := by simp only [decide_eq_false_iff_not]; omega
    have hB := invB_end hw hI h
    repeat' (first | exact True.intro | (refine PW.seqK ?_; intro K hK) | refine PW.block ?_ | refine PW.scope ?_ | refine PW.label ?_ | refine PW.exit ?_ | refine PW.ret ?_ | refine PW.skip ?_ | refine seqK_n (by assumption) ?_ | refine seqK_r (by assumption) ?_ | refine seqK_e (by assumption) ?_ | refine PW.regionA ?_ | exact schedW_stop_i | refine schK_n (by assumption) ?_ | (refine schedW_alt_k ?_ ?_; focus (intro K hK; simp only [hd, htl, SS, SS2, SS3, SS4, scopeQ_normal, scopeQ_ret, scopeQ_exit, Option.map_some, Bool.not_false, Bool.not_true, gArgs, gOk, Nat.reduceAdd, PV.shift, MObj.shift, rdV, rdD, reduceIte, Nat.reduceEqDiff, Nat.reduceBEq, PV.bin, PV.binOk, binI, binS, PV.withInt, PV.withIntP, okAll, PV.under, PV.okUnder, eq_self, implies_true, deadOk, ne_eq, allOk, RVar.val, RVar.ok, retV, PV.seen, PV.view, beq_self_eq_true, PV.flat, PV.noOwn, id_eq, behind, PV.kill, MObj.kill, killTag, reduceCtorEq, nilB]; (try go_unwrap; try simp only [hd, htl, toNat_add2, toNat_add1, Int.toNat_natCast, Bool.false_and, Bool.true_and, true_implies, true_and, Bool.false_eq_true, reduceCtorEq, false_implies, Bool.not_false, Bool.not_true, Bool.true_or, Bool.false_or]))) | (refine PW.cond rfl ?_ ?_ <;> intro hcond <;> (try contradiction) <;> try simp only [decide_eq_true_eq, decide_eq_false_iff_not] at hcond) | (refine gd_i ?_; intro hg; try simp only [hg]) | ((first | show @LE.le Nat _ _ _ | show @LT.lt Nat _ _ _ | show @LE.le Int _ _ _ | show @LT.lt Int _ _ _ | show @Eq Nat _ _ | show @Eq Int _ _ | show @Eq Bool _ _ | show _ ∨ _ | show ¬ _); first | omega | (simp only [decide_eq_true_eq, decide_eq_false_iff_not, List.length_cons, List.length_nil, List.length_append, List.length_map, Sh.size] <;> omega) | (go_unwrap; omega)) | ((first | refine PW.region ?_ | refine PW.regionQ ?_ | refine schedW_done_i ?_ | show (_ : Post) _ _ _ | show @Eq (List PV) _ _ | show @Eq Bool _ _ | show opsW _ _ _ _ _ _ _ _ | show okAll _ | show @Eq Bool _ _ ∨ _); focus (simp only [hd, htl, SS, SS2, SS3, SS4, scopeQ_normal, scopeQ_ret, scopeQ_exit, Option.map_some, Bool.not_false, Bool.not_true, gArgs, gOk, Nat.reduceAdd, PV.shift, MObj.shift, rdV, rdD, reduceIte, Nat.reduceEqDiff, Nat.reduceBEq, PV.bin, PV.binOk, binI, binS, PV.withInt, PV.withIntP, okAll, PV.under, PV.okUnder, eq_self, implies_true, deadOk, ne_eq, allOk, RVar.val, RVar.ok, retV, PV.seen, PV.view, beq_self_eq_true, PV.flat, PV.noOwn, id_eq, behind, PV.kill, MObj.kill, killTag, reduceCtorEq, nilB]; (try go_unwrap; try simp only [hd, htl, toNat_add2, toNat_add1, Int.toNat_natCast, Bool.false_and, Bool.true_and, true_implies, true_and, Bool.false_eq_true, reduceCtorEq, false_implies, Bool.not_false, Bool.not_true, Bool.true_or, Bool.false_or]))) | refine And.intro ?_ ?_ | exact Or.inr ⟨rfl, Nat.le_refl _⟩ | exact (fun h => Bool.noConfusion h))
    all_goals (rw [← hB])
theorem v19 (l : List Ed) (hl : l.length ≤ 1000000000) (hnl : ∀ e ∈ l, e.needs.length ≤ 9223372036854775807) (s : St) : VCalls Try.prog G0 19 [.str s, edL l] (txL (aboveM l s)) := by
  refine VCalls.of_PW Try.func19 k19 mix (by simp [c19]) ?_
  simp only [c19, L19, argE]
  have h32 := v32 l hl hnl
  have h17 := v17 l hl hnl
  have hlen : ((l.map edP).length : Nat) = l.length := by simp
  by_cases hw : wrongM l = 0
  case neg =>
    have d1 : decide (wrongM l = 0) = false := by simpa using hw
    have hB : aboveM l s = [] := by unfold aboveM; rw [if_pos hw]
    repeat' (first | exact True.intro | (refine PW.stop (x := .ret) ?_) | (refine PW.seqK ?_; intro K hK) | refine PW.block ?_ | refine PW.scope ?_ | refine PW.label ?_ | refine PW.exit ?_ | refine PW.ret ?_ | refine PW.skip ?_ | refine seqK_n (by assumption) ?_ | refine seqK_r (by assumption) ?_ | refine seqK_e (by assumption) ?_ | refine PW.regionA ?_ | exact schedW_stop_i | refine schK_n (by assumption) ?_ | (refine schedW_alt_k ?_ ?_; focus (intro K hK; simp only [d1, SS, SS2, SS3, SS4, scopeQ_normal, scopeQ_ret, scopeQ_exit, Option.map_some, Bool.not_false, Bool.not_true, gArgs, gOk, Nat.reduceAdd, PV.shift, MObj.shift, rdV, rdD, reduceIte, Nat.reduceEqDiff, Nat.reduceBEq, PV.bin, PV.binOk, binI, binS, PV.withInt, PV.withIntP, okAll, PV.under, PV.okUnder, eq_self, implies_true, deadOk, ne_eq, allOk, RVar.val, RVar.ok, retV, PV.seen, PV.view, beq_self_eq_true, PV.flat, PV.noOwn, id_eq, behind, PV.kill, MObj.kill, killTag, reduceCtorEq, nilB]; (try go_unwrap; try simp only [d1, toNat_add2, toNat_add1, Int.toNat_natCast, Bool.false_and, Bool.true_and, true_implies, true_and, Bool.false_eq_true, reduceCtorEq, false_implies, Bool.not_false, Bool.not_true, Bool.true_or, Bool.false_or]))) | (refine PW.cond rfl ?_ ?_ <;> intro hcond <;> (try contradiction) <;> try simp only [decide_eq_true_eq, decide_eq_false_iff_not] at hcond) | (refine gd_i ?_; intro hg; try simp only [hg]) | refine goCall_W e32 (h32) ?_ ?_ ?_ ?_ | ((first | show @LE.le Nat _ _ _ | show @LT.lt Nat _ _ _ | show @LE.le Int _ _ _ | show @LT.lt Int _ _ _ | show @Eq Nat _ _ | show @Eq Int _ _ | show @Eq Bool _ _ | show _ ∨ _ | show ¬ _); first | omega | (simp only [decide_eq_true_eq, decide_eq_false_iff_not, List.length_cons, List.length_nil, List.length_append, List.length_map, Sh.size] <;> omega) | (go_unwrap; omega)) | ((first | refine PW.region ?_ | refine PW.regionQ ?_ | refine schedW_done_i ?_ | show (_ : Post) _ _ _ | show @Eq (List PV) _ _ | show @Eq Bool _ _ | show opsW _ _ _ _ _ _ _ _ | show okAll _ | show @Eq Bool _ _ ∨ _); focus (simp only [d1, SS, SS2, SS3, SS4, scopeQ_normal, scopeQ_ret, scopeQ_exit, Option.map_some, Bool.not_false, Bool.not_true, gArgs, gOk, Nat.reduceAdd, PV.shift, MObj.shift, rdV, rdD, reduceIte, Nat.reduceEqDiff, Nat.reduceBEq, PV.bin, PV.binOk, binI, binS, PV.withInt, PV.withIntP, okAll, PV.under, PV.okUnder, eq_self, implies_true, deadOk, ne_eq, allOk, RVar.val, RVar.ok, retV, PV.seen, PV.view, beq_self_eq_true, PV.flat, PV.noOwn, id_eq, behind, PV.kill, MObj.kill, killTag, reduceCtorEq, nilB]; (try go_unwrap; try simp only [d1, toNat_add2, toNat_add1, Int.toNat_natCast, Bool.false_and, Bool.true_and, true_implies, true_and, Bool.false_eq_true, reduceCtorEq, false_implies, Bool.not_false, Bool.not_true, Bool.true_or, Bool.false_or]))) | refine And.intro ?_ ?_ | exact Or.inr ⟨rfl, Nat.le_refl _⟩ | exact (fun h => Bool.noConfusion h))
    all_goals
      refine ⟨?_⟩
      refine PW.subE none 4 rfl ?_
      repeat' (first | exact True.intro | (refine PW.seqK ?_; intro K hK) | refine PW.block ?_ | refine PW.scope ?_ | refine PW.label ?_ | refine PW.exit ?_ | refine PW.ret ?_ | refine PW.skip ?_ | refine seqK_n (by assumption) ?_ | refine seqK_r (by assumption) ?_ | refine seqK_e (by assumption) ?_ | refine PW.regionA ?_ | exact schedW_stop_i | refine schK_n (by assumption) ?_ | (refine schedW_alt_k ?_ ?_; focus (intro K hK; simp only [SS, SS2, SS3, SS4, scopeQ_normal, scopeQ_ret, scopeQ_exit, Option.map_some, Bool.not_false, Bool.not_true, gArgs, gOk, Nat.reduceAdd, PV.shift, MObj.shift, rdV, rdD, reduceIte, Nat.reduceEqDiff, Nat.reduceBEq, PV.bin, PV.binOk, binI, binS, PV.withInt, PV.withIntP, okAll, PV.under, PV.okUnder, eq_self, implies_true, deadOk, ne_eq, allOk, RVar.val, RVar.ok, retV, PV.seen, PV.view, beq_self_eq_true, PV.flat, PV.noOwn, id_eq, behind, PV.kill, MObj.kill, killTag, reduceCtorEq, nilB]; (try go_unwrap; try simp only [toNat_add2, toNat_add1, Int.toNat_natCast, Bool.false_and, Bool.true_and, true_implies, true_and, Bool.false_eq_true, reduceCtorEq, false_implies, Bool.not_false, Bool.not_true, Bool.true_or, Bool.false_or]))) | (refine PW.cond rfl ?_ ?_ <;> intro hcond <;> (try contradiction) <;> try simp only [decide_eq_true_eq, decide_eq_false_iff_not] at hcond) | (refine gd_i ?_; intro hg; try simp only [hg]) | ((first | show @LE.le Nat _ _ _ | show @LT.lt Nat _ _ _ | show @LE.le Int _ _ _ | show @LT.lt Int _ _ _ | show @Eq Nat _ _ | show @Eq Int _ _ | show @Eq Bool _ _ | show _ ∨ _ | show ¬ _); first | omega | (simp only [decide_eq_true_eq, decide_eq_false_iff_not, List.length_cons, List.length_nil, List.length_append, List.length_map, Sh.size] <;> omega) | (go_unwrap; omega)) | ((first | refine PW.region ?_ | refine PW.regionQ ?_ | refine schedW_done_i ?_ | show (_ : Post) _ _ _ | show @Eq (List PV) _ _ | show @Eq Bool _ _ | show opsW _ _ _ _ _ _ _ _ | show okAll _ | show @Eq Bool _ _ ∨ _); focus (simp only [SS, SS2, SS3, SS4, scopeQ_normal, scopeQ_ret, scopeQ_exit, Option.map_some, Bool.not_false, Bool.not_true, gArgs, gOk, Nat.reduceAdd, PV.shift, MObj.shift, rdV, rdD, reduceIte, Nat.reduceEqDiff, Nat.reduceBEq, PV.bin, PV.binOk, binI, binS, PV.withInt, PV.withIntP, okAll, PV.under, PV.okUnder, eq_self, implies_true, deadOk, ne_eq, allOk, RVar.val, RVar.ok, retV, PV.seen, PV.view, beq_self_eq_true, PV.flat, PV.noOwn, id_eq, behind, PV.kill, MObj.kill, killTag, reduceCtorEq, nilB]; (try go_unwrap; try simp only [toNat_add2, toNat_add1, Int.toNat_natCast, Bool.false_and, Bool.true_and, true_implies, true_and, Bool.false_eq_true, reduceCtorEq, false_implies, Bool.not_false, Bool.not_true, Bool.true_or, Bool.false_or]))) | refine And.intro ?_ ?_ | exact Or.inr ⟨rfl, Nat.le_refl _⟩ | exact (fun h => Bool.noConfusion h))
      rw [hB]; rfl
  rw [hw] at h32
  repeat' (first | exact True.intro | (refine PW.seqK ?_; intro K hK) | refine PW.block ?_ | refine PW.scope ?_ | refine PW.label ?_ | refine PW.exit ?_ | refine PW.ret ?_ | refine PW.skip ?_ | refine seqK_n (by assumption) ?_ | refine seqK_r (by assumption) ?_ | refine seqK_e (by assumption) ?_ | refine PW.regionA ?_ | exact schedW_stop_i | refine schK_n (by assumption) ?_ | (refine schedW_alt_k ?_ ?_; focus (intro K hK; simp only [hlen, SS, SS2, SS3, SS4, scopeQ_normal, scopeQ_ret, scopeQ_exit, Option.map_some, Bool.not_false, Bool.not_true, gArgs, gOk, Nat.reduceAdd, PV.shift, MObj.shift, rdV, rdD, reduceIte, Nat.reduceEqDiff, Nat.reduceBEq, PV.bin, PV.binOk, binI, binS, PV.withInt, PV.withIntP, okAll, PV.under, PV.okUnder, eq_self, implies_true, deadOk, ne_eq, allOk, RVar.val, RVar.ok, retV, PV.seen, PV.view, beq_self_eq_true, PV.flat, PV.noOwn, id_eq, behind, PV.kill, MObj.kill, killTag, reduceCtorEq, nilB]; (try go_unwrap; try simp only [hlen, toNat_add2, toNat_add1, Int.toNat_natCast, Bool.false_and, Bool.true_and, true_implies, true_and, Bool.false_eq_true, reduceCtorEq, false_implies, Bool.not_false, Bool.not_true, Bool.true_or, Bool.false_or]))) | (refine PW.cond rfl ?_ ?_ <;> intro hcond <;> (try contradiction) <;> try simp only [decide_eq_true_eq, decide_eq_false_iff_not] at hcond) | (refine gd_i ?_; intro hg; try simp only [hg]) | refine goCall_W e32 (h32) ?_ ?_ ?_ ?_ | ((first | show @LE.le Nat _ _ _ | show @LT.lt Nat _ _ _ | show @LE.le Int _ _ _ | show @LT.lt Int _ _ _ | show @Eq Nat _ _ | show @Eq Int _ _ | show @Eq Bool _ _ | show _ ∨ _ | show ¬ _); first | omega | (simp only [decide_eq_true_eq, decide_eq_false_iff_not, List.length_cons, List.length_nil, List.length_append, List.length_map, Sh.size] <;> omega) | (go_unwrap; omega)) | ((first | refine PW.region ?_ | refine PW.regionQ ?_ | refine schedW_done_i ?_ | show (_ : Post) _ _ _ | show @Eq (List PV) _ _ | show @Eq Bool _ _ | show opsW _ _ _ _ _ _ _ _ | show okAll _ | show @Eq Bool _ _ ∨ _); focus (simp only [hlen, SS, SS2, SS3, SS4, scopeQ_normal, scopeQ_ret, scopeQ_exit, Option.map_some, Bool.not_false, Bool.not_true, gArgs, gOk, Nat.reduceAdd, PV.shift, MObj.shift, rdV, rdD, reduceIte, Nat.reduceEqDiff, Nat.reduceBEq, PV.bin, PV.binOk, binI, binS, PV.withInt, PV.withIntP, okAll, PV.under, PV.okUnder, eq_self, implies_true, deadOk, ne_eq, allOk, RVar.val, RVar.ok, retV, PV.seen, PV.view, beq_self_eq_true, PV.flat, PV.noOwn, id_eq, behind, PV.kill, MObj.kill, killTag, reduceCtorEq, nilB]; (try go_unwrap; try simp only [hlen, toNat_add2, toNat_add1, Int.toNat_natCast, Bool.false_and, Bool.true_and, true_implies, true_and, Bool.false_eq_true, reduceCtorEq, false_implies, Bool.not_false, Bool.not_true, Bool.true_or, Bool.false_or]))) | refine And.intro ?_ ?_ | exact Or.inr ⟨rfl, Nat.le_refl _⟩ | exact (fun h => Bool.noConfusion h))
  refine PW.subE none 5 rfl ?_
  refine PW.loopG (σ := Nat) 0 (fun _ _ => rfl) [0, 1, 4, 5, 6] (fun i => [.str s, edL l, .nilSl, txL (abvD l s i), .int .i64 i]) (fun i => []) (fun i => i ≤ l.length) (fun i => l.length - i) 0 ?_ rfl (by omega) ?_
  · simp only [SS, SS2, SS3, SS4, scopeQ_normal, scopeQ_ret, scopeQ_exit, Option.map_some, Bool.not_false, Bool.not_true, gArgs, gOk, Nat.reduceAdd, PV.shift, MObj.shift, rdV, rdD, reduceIte, Nat.reduceEqDiff, Nat.reduceBEq, PV.bin, PV.binOk, binI, binS, PV.withInt, PV.withIntP, okAll, PV.under, PV.okUnder, eq_self, implies_true, deadOk, ne_eq, allOk, RVar.val, RVar.ok, retV, PV.seen, PV.view, beq_self_eq_true, PV.flat, PV.noOwn, id_eq, behind, PV.kill, MObj.kill, killTag, reduceCtorEq, nilB]; rfl
  rintro i hi
  simp only [List.zip_cons_cons, List.zip_nil_left]
  rcases Nat.lt_or_ge i l.length with h | h
  · have hd : decide ((i : Int) < l.length) = true := by simp only [decide_eq_true_eq]; omega
    have hg := ed_getD l i h
    have hst := abvD_step s h
    have hle := abvD_len l s i
    generalize l[i] = e at hg hst
    simp only [edP] at hg
    have h17e := h17 e.name
    have h23 := v23 (belowM l e.name) s (by have := below_len (l := l) e.name; omega)
    have h38 := v38 (abvD l s i) e.name (by omega)
    generalize belowM l e.name = B at h17e h23 hst
    by_cases hb : s ∈ B
    · rw [decide_eq_true hb] at h23
      rw [if_pos hb] at hst
      repeat' (first | exact True.intro | (refine PW.seqK ?_; intro K hK) | refine PW.block ?_ | refine PW.scope ?_ | refine PW.label ?_ | refine PW.exit ?_ | refine PW.ret ?_ | refine PW.skip ?_ | refine seqK_n (by assumption) ?_ | refine seqK_r (by assumption) ?_ | refine seqK_e (by assumption) ?_ | refine PW.regionA ?_ | exact schedW_stop_i | refine schK_n (by assumption) ?_ | (refine schedW_alt_k ?_ ?_; focus (intro K hK; simp only [hd, hg, hlen, SS, SS2, SS3, SS4, scopeQ_normal, scopeQ_ret, scopeQ_exit, Option.map_some, Bool.not_false, Bool.not_true, gArgs, gOk, Nat.reduceAdd, PV.shift, MObj.shift, rdV, rdD, reduceIte, Nat.reduceEqDiff, Nat.reduceBEq, PV.bin, PV.binOk, binI, binS, PV.withInt, PV.withIntP, okAll, PV.under, PV.okUnder, eq_self, implies_true, deadOk, ne_eq, allOk, RVar.val, RVar.ok, retV, PV.seen, PV.view, beq_self_eq_true, PV.flat, PV.noOwn, id_eq, behind, PV.kill, MObj.kill, killTag, reduceCtorEq, nilB]; (try go_unwrap; try simp only [hd, hg, hlen, toNat_add2, toNat_add1, Int.toNat_natCast, Bool.false_and, Bool.true_and, true_implies, true_and, Bool.false_eq_true, reduceCtorEq, false_implies, Bool.not_false, Bool.not_true, Bool.true_or, Bool.false_or]))) | (refine PW.cond rfl ?_ ?_ <;> intro hcond <;> (try contradiction) <;> try simp only [decide_eq_true_eq, decide_eq_false_iff_not] at hcond) | (refine gd_i ?_; intro hg; try simp only [hg]) | refine goCall_W e17 (h17e) ?_ ?_ ?_ ?_ | refine goCall_W e23 (h23) ?_ ?_ ?_ ?_ | refine goCall_W e38 (h38) ?_ ?_ ?_ ?_ | ((first | show @LE.le Nat _ _ _ | show @LT.lt Nat _ _ _ | show @LE.le Int _ _ _ | show @LT.lt Int _ _ _ | show @Eq Nat _ _ | show @Eq Int _ _ | show @Eq Bool _ _ | show _ ∨ _ | show ¬ _); first | omega | (simp only [decide_eq_true_eq, decide_eq_false_iff_not, List.length_cons, List.length_nil, List.length_append, List.length_map, Sh.size] <;> omega) | (go_unwrap; omega)) | ((first | refine PW.region ?_ | refine PW.regionQ ?_ | refine schedW_done_i ?_ | show (_ : Post) _ _ _ | show @Eq (List PV) _ _ | show @Eq Bool _ _ | show opsW _ _ _ _ _ _ _ _ | show okAll _ | show @Eq Bool _ _ ∨ _); focus (simp only [hd, hg, hlen, SS, SS2, SS3, SS4, scopeQ_normal, scopeQ_ret, scopeQ_exit, Option.map_some, Bool.not_false, Bool.not_true, gArgs, gOk, Nat.reduceAdd, PV.shift, MObj.shift, rdV, rdD, reduceIte, Nat.reduceEqDiff, Nat.reduceBEq, PV.bin, PV.binOk, binI, binS, PV.withInt, PV.withIntP, okAll, PV.under, PV.okUnder, eq_self, implies_true, deadOk, ne_eq, allOk, RVar.val, RVar.ok, retV, PV.seen, PV.view, beq_self_eq_true, PV.flat, PV.noOwn, id_eq, behind, PV.kill, MObj.kill, killTag, reduceCtorEq, nilB]; (try go_unwrap; try simp only [hd, hg, hlen, toNat_add2, toNat_add1, Int.toNat_natCast, Bool.false_and, Bool.true_and, true_implies, true_and, Bool.false_eq_true, reduceCtorEq, false_implies, Bool.not_false, Bool.not_true, Bool.true_or, Bool.false_or]))) | refine And.intro ?_ ?_ | exact Or.inr ⟨rfl, Nat.le_refl _⟩ | exact (fun h => Bool.noConfusion h))
      all_goals exact ⟨i + 1, (by rw [hst]; exact (by first | rfl | (simp only [trimE, trimM, List.take_succ_cons, List.take_zero, List.take_nil, List.map_cons, List.map_nil, Option.map_some, Option.map_none, MObj.kill, PV.kill, Nat.reduceLeDiff, decide_true, decide_false, dec_true, dec_false, Bool.false_eq_true, if_false, if_true, reduceIte, List.zip_cons_cons, List.zip_nil_left, Nat.le_refl, Nat.zero_le, Nat.not_le, Nat.lt_irrefl]; done) | (simp [trimE, trimM, MObj.kill, PV.kill]; done))), (by first | rfl | (simp only [trimE, trimM, List.take_succ_cons, List.take_zero, List.take_nil, List.map_cons, List.map_nil, Option.map_some, Option.map_none, MObj.kill, PV.kill, Nat.reduceLeDiff, decide_true, decide_false, dec_true, dec_false, Bool.false_eq_true, if_false, if_true, reduceIte, List.zip_cons_cons, List.zip_nil_left, Nat.le_refl, Nat.zero_le, Nat.not_le, Nat.lt_irrefl]; done) | (simp [trimE, trimM, MObj.kill, PV.kill]; done)), by omega, by omega⟩
    · rw [decide_eq_false hb] at h23
      rw [if_neg hb] at hst
      repeat' (first | exact True.intro | (refine PW.seqK ?_; intro K hK) | refine PW.block ?_ | refine PW.scope ?_ | refine PW.label ?_ | refine PW.exit ?_ | refine PW.ret ?_ | refine PW.skip ?_ | refine seqK_n (by assumption) ?_ | refine seqK_r (by assumption) ?_ | refine seqK_e (by assumption) ?_ | refine PW.regionA ?_ | exact schedW_stop_i | refine schK_n (by assumption) ?_ | (refine schedW_alt_k ?_ ?_; focus (intro K hK; simp only [hd, hg, hlen, SS, SS2, SS3, SS4, scopeQ_normal, scopeQ_ret, scopeQ_exit, Option.map_some, Bool.not_false, Bool.not_true, gArgs, gOk, Nat.reduceAdd, PV.shift, MObj.shift, rdV, rdD, reduceIte, Nat.reduceEqDiff, Nat.reduceBEq, PV.bin, PV.binOk, binI, binS, PV.withInt, PV.withIntP, okAll, PV.under, PV.okUnder, eq_self, implies_true, deadOk, ne_eq, allOk, RVar.val, RVar.ok, retV, PV.seen, PV.view, beq_self_eq_true, PV.flat, PV.noOwn, id_eq, behind, PV.kill, MObj.kill, killTag, reduceCtorEq, nilB]; (try go_unwrap; try simp only [hd, hg, hlen, toNat_add2, toNat_add1, Int.toNat_natCast, Bool.false_and, Bool.true_and, true_implies, true_and, Bool.false_eq_true, reduceCtorEq, false_implies, Bool.not_false, Bool.not_true, Bool.true_or, Bool.false_or]))) | (refine PW.cond rfl ?_ ?_ <;> intro hcond <;> (try contradiction) <;> try simp only [decide_eq_true_eq, decide_eq_false_iff_not] at hcond) | (refine gd_i ?_; intro hg; try simp only [hg]) | refine goCall_W e17 (h17e) ?_ ?_ ?_ ?_ | refine goCall_W e23 (h23) ?_ ?_ ?_ ?_ | ((first | show @LE.le Nat _ _ _ | show @LT.lt Nat _ _ _ | show @LE.le Int _ _ _ | show @LT.lt Int _ _ _ | show @Eq Nat _ _ | show @Eq Int _ _ | show @Eq Bool _ _ | show _ ∨ _ | show ¬ _); first | omega | (simp only [decide_eq_true_eq, decide_eq_false_iff_not, List.length_cons, List.length_nil, List.length_append, List.length_map, Sh.size] <;> omega) | (go_unwrap; omega)) | ((first | refine PW.region ?_ | refine PW.regionQ ?_ | refine schedW_done_i ?_ | show (_ : Post) _ _ _ | show @Eq (List PV) _ _ | show @Eq Bool _ _ | show opsW _ _ _ _ _ _ _ _ | show okAll _ | show @Eq Bool _ _ ∨ _); focus (simp only [hd, hg, hlen, SS, SS2, SS3, SS4, scopeQ_normal, scopeQ_ret, scopeQ_exit, Option.map_some, Bool.not_false, Bool.not_true, gArgs, gOk, Nat.reduceAdd, PV.shift, MObj.shift, rdV, rdD, reduceIte, Nat.reduceEqDiff, Nat.reduceBEq, PV.bin, PV.binOk, binI, binS, PV.withInt, PV.withIntP, okAll, PV.under, PV.okUnder, eq_self, implies_true, deadOk, ne_eq, allOk, RVar.val, RVar.ok, retV, PV.seen, PV.view, beq_self_eq_true, PV.flat, PV.noOwn, id_eq, behind, PV.kill, MObj.kill, killTag, reduceCtorEq, nilB]; (try go_unwrap; try simp only [hd, hg, hlen, toNat_add2, toNat_add1, Int.toNat_natCast, Bool.false_and, Bool.true_and, true_implies, true_and, Bool.false_eq_true, reduceCtorEq, false_implies, Bool.not_false, Bool.not_true, Bool.true_or, Bool.false_or]))) | refine And.intro ?_ ?_ | exact Or.inr ⟨rfl, Nat.le_refl _⟩ | exact (fun h => Bool.noConfusion h))
      all_goals exact ⟨i + 1, (by rw [hst]; exact (by first | rfl | (simp only [trimE, trimM, List.take_succ_cons, List.take_zero, List.take_nil, List.map_cons, List.map_nil, Option.map_some, Option.map_none, MObj.kill, PV.kill, Nat.reduceLeDiff, decide_true, decide_false, dec_true, dec_false, Bool.false_eq_true, if_false, if_true, reduceIte, List.zip_cons_cons, List.zip_nil_left, Nat.le_refl, Nat.zero_le, Nat.not_le, Nat.lt_irrefl]; done) | (simp [trimE, trimM, MObj.kill, PV.kill]; done))), (by first | rfl | (simp only [trimE, trimM, List.take_succ_cons, List.take_zero, List.take_nil, List.map_cons, List.map_nil, Option.map_some, Option.map_none, MObj.kill, PV.kill, Nat.reduceLeDiff, decide_true, decide_false, dec_true, dec_false, Bool.false_eq_true, if_false, if_true, reduceIte, List.zip_cons_cons, List.zip_nil_left, Nat.le_refl, Nat.zero_le, Nat.not_le, Nat.lt_irrefl]; done) | (simp [trimE, trimM, MObj.kill, PV.kill]; done)), by omega, by omega⟩
  · have hd : decide ((i : Int) < l.length) = false := by simp only [decide_eq_false_iff_not]; omega
    have hi' : i = l.length := by omega
    subst hi'
    have hB := abvD_end hw s
    repeat' (first | exact True.intro | (refine PW.seqK ?_; intro K hK) | refine PW.block ?_ | refine PW.scope ?_ | refine PW.label ?_ | refine PW.exit ?_ | refine PW.ret ?_ | refine PW.skip ?_ | refine seqK_n (by assumption) ?_ | refine seqK_r (by assumption) ?_ | refine seqK_e (by assumption) ?_ | refine PW.regionA ?_ | exact schedW_stop_i | refine schK_n (by assumption) ?_ | (refine schedW_alt_k ?_ ?_; focus (intro K hK; simp only [hd, hlen, SS, SS2, SS3, SS4, scopeQ_normal, scopeQ_ret, scopeQ_exit, Option.map_some, Bool.not_false, Bool.not_true, gArgs, gOk, Nat.reduceAdd, PV.shift, MObj.shift, rdV, rdD, reduceIte, Nat.reduceEqDiff, Nat.reduceBEq, PV.bin, PV.binOk, binI, binS, PV.withInt, PV.withIntP, okAll, PV.under, PV.okUnder, eq_self, implies_true, deadOk, ne_eq, allOk, RVar.val, RVar.ok, retV, PV.seen, PV.view, beq_self_eq_true, PV.flat, PV.noOwn, id_eq, behind, PV.kill, MObj.kill, killTag, reduceCtorEq, nilB]; (try go_unwrap; try simp only [hd, hlen, toNat_add2, toNat_add1, Int.toNat_natCast, Bool.false_and, Bool.true_and, true_implies, true_and, Bool.false_eq_true, reduceCtorEq, false_implies, Bool.not_false, Bool.not_true, Bool.true_or, Bool.false_or]))) | (refine PW.cond rfl ?_ ?_ <;> intro hcond <;> (try contradiction) <;> try simp only [decide_eq_true_eq, decide_eq_false_iff_not] at hcond) | (refine gd_i ?_; intro hg; try simp only [hg]) | ((first | show @LE.le Nat _ _ _ | show @LT.lt Nat _ _ _ | show @LE.le Int _ _ _ | show @LT.lt Int _ _ _ | show @Eq Nat _ _ | show @Eq Int _ _ | show @Eq Bool _ _ | show _ ∨ _ | show ¬ _); first | omega | (simp only [decide_eq_true_eq, decide_eq_false_iff_not, List.length_cons, List.length_nil, List.length_append, List.length_map, Sh.size] <;> omega) | (go_unwrap; omega)) | ((first | refine PW.region ?_ | refine PW.regionQ ?_ | refine schedW_done_i ?_ | show (_ : Post) _ _ _ | show @Eq (List PV) _ _ | show @Eq Bool _ _ | show opsW _ _ _ _ _ _ _ _ | show okAll _ | show @Eq Bool _ _ ∨ _); focus (simp only [hd, hlen, SS, SS2, SS3, SS4, scopeQ_normal, scopeQ_ret, scopeQ_exit, Option.map_some, Bool.not_false, Bool.not_true, gArgs, gOk, Nat.reduceAdd, PV.shift, MObj.shift, rdV, rdD, reduceIte, Nat.reduceEqDiff, Nat.reduceBEq, PV.bin, PV.binOk, binI, binS, PV.withInt, PV.withIntP, okAll, PV.under, PV.okUnder, eq_self, implies_true, deadOk, ne_eq, allOk, RVar.val, RVar.ok, retV, PV.seen, PV.view, beq_self_eq_true, PV.flat, PV.noOwn, id_eq, behind, PV.kill, MObj.kill, killTag, reduceCtorEq, nilB]; (try go_unwrap; try simp only [hd, hlen, toNat_add2, toNat_add1, Int.toNat_natCast, Bool.false_and, Bool.true_and, true_implies, true_and, Bool.false_eq_true, reduceCtorEq, false_implies, Bool.not_false, Bool.not_true, Bool.true_or, Bool.false_or]))) | refine And.intro ?_ ?_ | exact Or.inr ⟨rfl, Nat.le_refl _⟩ | exact (fun h => Bool.noConfusion h))
    all_goals (rw [hB])
theorem above_lim7 {l : List Ed} (hl : l.length ≤ 1048576) (s : St) : (aboveM l s).length ≤ 1048576 := by
  unfold aboveM; split
  · simp
  · rw [sort_len, List.length_map]; exact Nat.le_trans (List.length_filter_le _ _) hl
theorem v4 (l : List Ed) (hl : l.length ≤ 1048576) (hnl : ∀ e ∈ l, e.needs.length ≤ 9223372036854775807) (s : St) : VCalls Try.prog G0 4 [edL l, .str s] (.bool true) := by
  refine VCalls.of_PW Try.func4 k4 mix (by simp [c4]) ?_
  simp only [c4, L4, argE]
  have h10 := v10
  have h11 : VCalls Try.prog G0 11 [edL l, .int .i64 24] (.bool (shortM l 24)) := v11 l 24 (by omega) (by omega)
  cases hs : shortM l 24 with
  | false =>
    rw [hs] at h11
    repeat' (first | exact True.intro | (refine PW.seqK ?_; intro K hK) | refine PW.block ?_ | refine PW.scope ?_ | refine PW.label ?_ | refine PW.exit ?_ | refine PW.ret ?_ | refine PW.skip ?_ | refine seqK_n (by assumption) ?_ | refine seqK_r (by assumption) ?_ | refine seqK_e (by assumption) ?_ | refine PW.regionA ?_ | exact schedW_stop_i | refine schK_n (by assumption) ?_ | (refine schedW_alt_k ?_ ?_; focus (intro K hK; simp only [SS, SS2, SS3, SS4, scopeQ_normal, scopeQ_ret, scopeQ_exit, Option.map_some, Bool.not_false, Bool.not_true, gArgs, gOk, Nat.reduceAdd, PV.shift, MObj.shift, rdV, rdD, reduceIte, Nat.reduceEqDiff, Nat.reduceBEq, PV.bin, PV.binOk, binI, binS, PV.withInt, PV.withIntP, okAll, PV.under, PV.okUnder, eq_self, implies_true, deadOk, ne_eq, allOk, RVar.val, RVar.ok, retV, PV.seen, PV.view, beq_self_eq_true, PV.flat, PV.noOwn, id_eq, behind, PV.kill, MObj.kill, killTag, reduceCtorEq, nilB]; (try go_unwrap; try simp only [toNat_add2, toNat_add1, Int.toNat_natCast, Bool.false_and, Bool.true_and, true_implies, true_and, Bool.false_eq_true, reduceCtorEq, false_implies, Bool.not_false, Bool.not_true, Bool.true_or, Bool.false_or]))) | (refine PW.cond rfl ?_ ?_ <;> intro hcond <;> (try contradiction) <;> try simp only [decide_eq_true_eq, decide_eq_false_iff_not] at hcond) | (refine gd_i ?_; intro hg; try simp only [hg]) | refine goCall_W e10 (h10) ?_ ?_ ?_ ?_ | refine goCall_W e11 (h11) ?_ ?_ ?_ ?_ | ((first | show @LE.le Nat _ _ _ | show @LT.lt Nat _ _ _ | show @LE.le Int _ _ _ | show @LT.lt Int _ _ _ | show @Eq Nat _ _ | show @Eq Int _ _ | show @Eq Bool _ _ | show _ ∨ _ | show ¬ _); first | omega | (simp only [decide_eq_true_eq, decide_eq_false_iff_not, List.length_cons, List.length_nil, List.length_append, List.length_map, Sh.size] <;> omega) | (go_unwrap; omega)) | ((first | refine PW.region ?_ | refine PW.regionQ ?_ | refine schedW_done_i ?_ | show (_ : Post) _ _ _ | show @Eq (List PV) _ _ | show @Eq Bool _ _ | show opsW _ _ _ _ _ _ _ _ | show okAll _ | show @Eq Bool _ _ ∨ _); focus (simp only [SS, SS2, SS3, SS4, scopeQ_normal, scopeQ_ret, scopeQ_exit, Option.map_some, Bool.not_false, Bool.not_true, gArgs, gOk, Nat.reduceAdd, PV.shift, MObj.shift, rdV, rdD, reduceIte, Nat.reduceEqDiff, Nat.reduceBEq, PV.bin, PV.binOk, binI, binS, PV.withInt, PV.withIntP, okAll, PV.under, PV.okUnder, eq_self, implies_true, deadOk, ne_eq, allOk, RVar.val, RVar.ok, retV, PV.seen, PV.view, beq_self_eq_true, PV.flat, PV.noOwn, id_eq, behind, PV.kill, MObj.kill, killTag, reduceCtorEq, nilB]; (try go_unwrap; try simp only [toNat_add2, toNat_add1, Int.toNat_natCast, Bool.false_and, Bool.true_and, true_implies, true_and, Bool.false_eq_true, reduceCtorEq, false_implies, Bool.not_false, Bool.not_true, Bool.true_or, Bool.false_or]))) | refine And.intro ?_ ?_ | exact Or.inr ⟨rfl, Nat.le_refl _⟩ | exact (fun h => Bool.noConfusion h))
  | true =>
  rw [hs] at h11
  by_cases ha : s.length ≤ 60
  case neg =>
    have d1 : decide ((60 : Int) < s.length) = true := by simp only [decide_eq_true_eq]; omega
    repeat' (first | exact True.intro | (refine PW.seqK ?_; intro K hK) | refine PW.block ?_ | refine PW.scope ?_ | refine PW.label ?_ | refine PW.exit ?_ | refine PW.ret ?_ | refine PW.skip ?_ | refine seqK_n (by assumption) ?_ | refine seqK_r (by assumption) ?_ | refine seqK_e (by assumption) ?_ | refine PW.regionA ?_ | exact schedW_stop_i | refine schK_n (by assumption) ?_ | (refine schedW_alt_k ?_ ?_; focus (intro K hK; simp only [d1, SS, SS2, SS3, SS4, scopeQ_normal, scopeQ_ret, scopeQ_exit, Option.map_some, Bool.not_false, Bool.not_true, gArgs, gOk, Nat.reduceAdd, PV.shift, MObj.shift, rdV, rdD, reduceIte, Nat.reduceEqDiff, Nat.reduceBEq, PV.bin, PV.binOk, binI, binS, PV.withInt, PV.withIntP, okAll, PV.under, PV.okUnder, eq_self, implies_true, deadOk, ne_eq, allOk, RVar.val, RVar.ok, retV, PV.seen, PV.view, beq_self_eq_true, PV.flat, PV.noOwn, id_eq, behind, PV.kill, MObj.kill, killTag, reduceCtorEq, nilB]; (try go_unwrap; try simp only [d1, toNat_add2, toNat_add1, Int.toNat_natCast, Bool.false_and, Bool.true_and, true_implies, true_and, Bool.false_eq_true, reduceCtorEq, false_implies, Bool.not_false, Bool.not_true, Bool.true_or, Bool.false_or]))) | (refine PW.cond rfl ?_ ?_ <;> intro hcond <;> (try contradiction) <;> try simp only [decide_eq_true_eq, decide_eq_false_iff_not] at hcond) | (refine gd_i ?_; intro hg; try simp only [hg]) | refine goCall_W e10 (h10) ?_ ?_ ?_ ?_ | refine goCall_W e11 (h11) ?_ ?_ ?_ ?_ | ((first | show @LE.le Nat _ _ _ | show @LT.lt Nat _ _ _ | show @LE.le Int _ _ _ | show @LT.lt Int _ _ _ | show @Eq Nat _ _ | show @Eq Int _ _ | show @Eq Bool _ _ | show _ ∨ _ | show ¬ _); first | omega | (simp only [decide_eq_true_eq, decide_eq_false_iff_not, List.length_cons, List.length_nil, List.length_append, List.length_map, Sh.size] <;> omega) | (go_unwrap; omega)) | ((first | refine PW.region ?_ | refine PW.regionQ ?_ | refine schedW_done_i ?_ | show (_ : Post) _ _ _ | show @Eq (List PV) _ _ | show @Eq Bool _ _ | show opsW _ _ _ _ _ _ _ _ | show okAll _ | show @Eq Bool _ _ ∨ _); focus (simp only [d1, SS, SS2, SS3, SS4, scopeQ_normal, scopeQ_ret, scopeQ_exit, Option.map_some, Bool.not_false, Bool.not_true, gArgs, gOk, Nat.reduceAdd, PV.shift, MObj.shift, rdV, rdD, reduceIte, Nat.reduceEqDiff, Nat.reduceBEq, PV.bin, PV.binOk, binI, binS, PV.withInt, PV.withIntP, okAll, PV.under, PV.okUnder, eq_self, implies_true, deadOk, ne_eq, allOk, RVar.val, RVar.ok, retV, PV.seen, PV.view, beq_self_eq_true, PV.flat, PV.noOwn, id_eq, behind, PV.kill, MObj.kill, killTag, reduceCtorEq, nilB]; (try go_unwrap; try simp only [d1, toNat_add2, toNat_add1, Int.toNat_natCast, Bool.false_and, Bool.true_and, true_implies, true_and, Bool.false_eq_true, reduceCtorEq, false_implies, Bool.not_false, Bool.not_true, Bool.true_or, Bool.false_or]))) | refine And.intro ?_ ?_ | exact Or.inr ⟨rfl, Nat.le_refl _⟩ | exact (fun h => Bool.noConfusion h))
  have d1 : decide ((60 : Int) < s.length) = false := by simp only [decide_eq_false_iff_not]; omega
  have h15 := v15 l (by omega)
  have h16 := v16 l (by omega) hnl s
  have h17 := v17 l (by omega) hnl s
  have h18 := v18 l (by omega) hnl s
  have h19 := v19 l (by omega) hnl s
  have i1 := v12 (belowM l s) (belowM l s) (by have := below_len (l := l) s; omega)
  have i2 := v12 (aboveM l s) (aboveM l s) (by have := above_lim7 hl s; omega)
  rw [decide_eq_true rfl] at i1 i2
  generalize belowM l s = B at h16 h17 i1
  generalize aboveM l s = A at h18 h19 i2
  repeat' (first | exact True.intro | (refine PW.seqK ?_; intro K hK) | refine PW.block ?_ | refine PW.scope ?_ | refine PW.label ?_ | refine PW.exit ?_ | refine PW.ret ?_ | refine PW.skip ?_ | refine seqK_n (by assumption) ?_ | refine seqK_r (by assumption) ?_ | refine seqK_e (by assumption) ?_ | refine PW.regionA ?_ | exact schedW_stop_i | refine schK_n (by assumption) ?_ | (refine schedW_alt_k ?_ ?_; focus (intro K hK; simp only [d1, SS, SS2, SS3, SS4, scopeQ_normal, scopeQ_ret, scopeQ_exit, Option.map_some, Bool.not_false, Bool.not_true, gArgs, gOk, Nat.reduceAdd, PV.shift, MObj.shift, rdV, rdD, reduceIte, Nat.reduceEqDiff, Nat.reduceBEq, PV.bin, PV.binOk, binI, binS, PV.withInt, PV.withIntP, okAll, PV.under, PV.okUnder, eq_self, implies_true, deadOk, ne_eq, allOk, RVar.val, RVar.ok, retV, PV.seen, PV.view, beq_self_eq_true, PV.flat, PV.noOwn, id_eq, behind, PV.kill, MObj.kill, killTag, reduceCtorEq, nilB]; (try go_unwrap; try simp only [d1, toNat_add2, toNat_add1, Int.toNat_natCast, Bool.false_and, Bool.true_and, true_implies, true_and, Bool.false_eq_true, reduceCtorEq, false_implies, Bool.not_false, Bool.not_true, Bool.true_or, Bool.false_or]))) | (refine PW.cond rfl ?_ ?_ <;> intro hcond <;> (try contradiction) <;> try simp only [decide_eq_true_eq, decide_eq_false_iff_not] at hcond) | (apply goCall_V e12; (case hV => (simp only [d1, SS, SS2, SS3, SS4, scopeQ_normal, scopeQ_ret, scopeQ_exit, Option.map_some, Bool.not_false, Bool.not_true, gArgs, gOk, Nat.reduceAdd, PV.shift, MObj.shift, rdV, rdD, reduceIte, Nat.reduceEqDiff, Nat.reduceBEq, PV.bin, PV.binOk, binI, binS, PV.withInt, PV.withIntP, okAll, PV.under, PV.okUnder, eq_self, implies_true, deadOk, ne_eq, allOk, RVar.val, RVar.ok, retV, PV.seen, PV.view, beq_self_eq_true, PV.flat, PV.noOwn, id_eq, behind, PV.kill, MObj.kill, killTag, reduceCtorEq, nilB]; (try go_unwrap; try simp only [d1, toNat_add2, toNat_add1, Int.toNat_natCast, Bool.false_and, Bool.true_and, true_implies, true_and, Bool.false_eq_true, reduceCtorEq, false_implies, Bool.not_false, Bool.not_true, Bool.true_or, Bool.false_or]); exact i1)); (try (case hs => rfl)); (try (case hf => first | exact Or.inl rfl | exact Or.inr ⟨rfl, rfl⟩ | (refine Or.inl ?_; simp only [d1, SS, SS2, SS3, SS4, scopeQ_normal, scopeQ_ret, scopeQ_exit, Option.map_some, Bool.not_false, Bool.not_true, gArgs, gOk, Nat.reduceAdd, PV.shift, MObj.shift, rdV, rdD, reduceIte, Nat.reduceEqDiff, Nat.reduceBEq, PV.bin, PV.binOk, binI, binS, PV.withInt, PV.withIntP, okAll, PV.under, PV.okUnder, eq_self, implies_true, deadOk, ne_eq, allOk, RVar.val, RVar.ok, retV, PV.seen, PV.view, beq_self_eq_true, PV.flat, PV.noOwn, id_eq, behind, PV.kill, MObj.kill, killTag, reduceCtorEq, nilB]; done) | (refine Or.inr ⟨rfl, ?_⟩; simp only [d1, SS, SS2, SS3, SS4, scopeQ_normal, scopeQ_ret, scopeQ_exit, Option.map_some, Bool.not_false, Bool.not_true, gArgs, gOk, Nat.reduceAdd, PV.shift, MObj.shift, rdV, rdD, reduceIte, Nat.reduceEqDiff, Nat.reduceBEq, PV.bin, PV.binOk, binI, binS, PV.withInt, PV.withIntP, okAll, PV.under, PV.okUnder, eq_self, implies_true, deadOk, ne_eq, allOk, RVar.val, RVar.ok, retV, PV.seen, PV.view, beq_self_eq_true, PV.flat, PV.noOwn, id_eq, behind, PV.kill, MObj.kill, killTag, reduceCtorEq, nilB]; done))); all_goals (first | (simp only [d1, SS, SS2, SS3, SS4, scopeQ_normal, scopeQ_ret, scopeQ_exit, Option.map_some, Bool.not_false, Bool.not_true, gArgs, gOk, Nat.reduceAdd, PV.shift, MObj.shift, rdV, rdD, reduceIte, Nat.reduceEqDiff, Nat.reduceBEq, PV.bin, PV.binOk, binI, binS, PV.withInt, PV.withIntP, okAll, PV.under, PV.okUnder, eq_self, implies_true, deadOk, ne_eq, allOk, RVar.val, RVar.ok, retV, PV.seen, PV.view, beq_self_eq_true, PV.flat, PV.noOwn, id_eq, behind, PV.kill, MObj.kill, killTag, reduceCtorEq, nilB]; (try go_unwrap; try simp only [d1, toNat_add2, toNat_add1, Int.toNat_natCast, Bool.false_and, Bool.true_and, true_implies, true_and, Bool.false_eq_true, reduceCtorEq, false_implies, Bool.not_false, Bool.not_true, Bool.true_or, Bool.false_or])) | (show Env; skip) | (show Mem; skip))) | (apply goCallG_N e15; (case hV => (intro hg; simp only [hg, d1, SS, SS2, SS3, SS4, scopeQ_normal, scopeQ_ret, scopeQ_exit, Option.map_some, Bool.not_false, Bool.not_true, gArgs, gOk, Nat.reduceAdd, PV.shift, MObj.shift, rdV, rdD, reduceIte, Nat.reduceEqDiff, Nat.reduceBEq, PV.bin, PV.binOk, binI, binS, PV.withInt, PV.withIntP, okAll, PV.under, PV.okUnder, eq_self, implies_true, deadOk, ne_eq, allOk, RVar.val, RVar.ok, retV, PV.seen, PV.view, beq_self_eq_true, PV.flat, PV.noOwn, id_eq, behind, PV.kill, MObj.kill, killTag, reduceCtorEq, nilB]; (try go_unwrap; try simp only [d1, toNat_add2, toNat_add1, Int.toNat_natCast, Bool.false_and, Bool.true_and, true_implies, true_and, Bool.false_eq_true, reduceCtorEq, false_implies, Bool.not_false, Bool.not_true, Bool.true_or, Bool.false_or]); exact h15)); (case hok => (intro hg; first | (simp only [hg, d1, SS, SS2, SS3, SS4, scopeQ_normal, scopeQ_ret, scopeQ_exit, Option.map_some, Bool.not_false, Bool.not_true, gArgs, gOk, Nat.reduceAdd, PV.shift, MObj.shift, rdV, rdD, reduceIte, Nat.reduceEqDiff, Nat.reduceBEq, PV.bin, PV.binOk, binI, binS, PV.withInt, PV.withIntP, okAll, PV.under, PV.okUnder, eq_self, implies_true, deadOk, ne_eq, allOk, RVar.val, RVar.ok, retV, PV.seen, PV.view, beq_self_eq_true, PV.flat, PV.noOwn, id_eq, behind, PV.kill, MObj.kill, killTag, reduceCtorEq, nilB]; done) | (simp_all [okAll, PV.okUnder]; done))); (case hs => (intro hg; simp only [hg, d1, SS, SS2, SS3, SS4, scopeQ_normal, scopeQ_ret, scopeQ_exit, Option.map_some, Bool.not_false, Bool.not_true, gArgs, gOk, Nat.reduceAdd, PV.shift, MObj.shift, rdV, rdD, reduceIte, Nat.reduceEqDiff, Nat.reduceBEq, PV.bin, PV.binOk, binI, binS, PV.withInt, PV.withIntP, okAll, PV.under, PV.okUnder, eq_self, implies_true, deadOk, ne_eq, allOk, RVar.val, RVar.ok, retV, PV.seen, PV.view, beq_self_eq_true, PV.flat, PV.noOwn, id_eq, behind, PV.kill, MObj.kill, killTag, reduceCtorEq, nilB])); (case hn => (intro hg; simp only [hg, d1, SS, SS2, SS3, SS4, scopeQ_normal, scopeQ_ret, scopeQ_exit, Option.map_some, Bool.not_false, Bool.not_true, gArgs, gOk, Nat.reduceAdd, PV.shift, MObj.shift, rdV, rdD, reduceIte, Nat.reduceEqDiff, Nat.reduceBEq, PV.bin, PV.binOk, binI, binS, PV.withInt, PV.withIntP, okAll, PV.under, PV.okUnder, eq_self, implies_true, deadOk, ne_eq, allOk, RVar.val, RVar.ok, retV, PV.seen, PV.view, beq_self_eq_true, PV.flat, PV.noOwn, id_eq, behind, PV.kill, MObj.kill, killTag, reduceCtorEq, nilB])); (case hq => rfl); (simp only [d1, SS, SS2, SS3, SS4, scopeQ_normal, scopeQ_ret, scopeQ_exit, Option.map_some, Bool.not_false, Bool.not_true, gArgs, gOk, Nat.reduceAdd, PV.shift, MObj.shift, rdV, rdD, reduceIte, Nat.reduceEqDiff, Nat.reduceBEq, PV.bin, PV.binOk, binI, binS, PV.withInt, PV.withIntP, okAll, PV.under, PV.okUnder, eq_self, implies_true, deadOk, ne_eq, allOk, RVar.val, RVar.ok, retV, PV.seen, PV.view, beq_self_eq_true, PV.flat, PV.noOwn, id_eq, behind, PV.kill, MObj.kill, killTag, reduceCtorEq, nilB]; (try go_unwrap; try simp only [d1, toNat_add2, toNat_add1, Int.toNat_natCast, Bool.false_and, Bool.true_and, true_implies, true_and, Bool.false_eq_true, reduceCtorEq, false_implies, Bool.not_false, Bool.not_true, Bool.true_or, Bool.false_or]))) | (apply goCallG_N e18; (case hV => (intro hg; simp only [hg, d1, SS, SS2, SS3, SS4, scopeQ_normal, scopeQ_ret, scopeQ_exit, Option.map_some, Bool.not_false, Bool.not_true, gArgs, gOk, Nat.reduceAdd, PV.shift, MObj.shift, rdV, rdD, reduceIte, Nat.reduceEqDiff, Nat.reduceBEq, PV.bin, PV.binOk, binI, binS, PV.withInt, PV.withIntP, okAll, PV.under, PV.okUnder, eq_self, implies_true, deadOk, ne_eq, allOk, RVar.val, RVar.ok, retV, PV.seen, PV.view, beq_self_eq_true, PV.flat, PV.noOwn, id_eq, behind, PV.kill, MObj.kill, killTag, reduceCtorEq, nilB]; (try go_unwrap; try simp only [d1, toNat_add2, toNat_add1, Int.toNat_natCast, Bool.false_and, Bool.true_and, true_implies, true_and, Bool.false_eq_true, reduceCtorEq, false_implies, Bool.not_false, Bool.not_true, Bool.true_or, Bool.false_or]); exact h18)); (case hok => (intro hg; first | (simp only [hg, d1, SS, SS2, SS3, SS4, scopeQ_normal, scopeQ_ret, scopeQ_exit, Option.map_some, Bool.not_false, Bool.not_true, gArgs, gOk, Nat.reduceAdd, PV.shift, MObj.shift, rdV, rdD, reduceIte, Nat.reduceEqDiff, Nat.reduceBEq, PV.bin, PV.binOk, binI, binS, PV.withInt, PV.withIntP, okAll, PV.under, PV.okUnder, eq_self, implies_true, deadOk, ne_eq, allOk, RVar.val, RVar.ok, retV, PV.seen, PV.view, beq_self_eq_true, PV.flat, PV.noOwn, id_eq, behind, PV.kill, MObj.kill, killTag, reduceCtorEq, nilB]; done) | (simp_all [okAll, PV.okUnder]; done))); (case hs => (intro hg; simp only [hg, d1, SS, SS2, SS3, SS4, scopeQ_normal, scopeQ_ret, scopeQ_exit, Option.map_some, Bool.not_false, Bool.not_true, gArgs, gOk, Nat.reduceAdd, PV.shift, MObj.shift, rdV, rdD, reduceIte, Nat.reduceEqDiff, Nat.reduceBEq, PV.bin, PV.binOk, binI, binS, PV.withInt, PV.withIntP, okAll, PV.under, PV.okUnder, eq_self, implies_true, deadOk, ne_eq, allOk, RVar.val, RVar.ok, retV, PV.seen, PV.view, beq_self_eq_true, PV.flat, PV.noOwn, id_eq, behind, PV.kill, MObj.kill, killTag, reduceCtorEq, nilB])); (case hn => (intro hg; simp only [hg, d1, SS, SS2, SS3, SS4, scopeQ_normal, scopeQ_ret, scopeQ_exit, Option.map_some, Bool.not_false, Bool.not_true, gArgs, gOk, Nat.reduceAdd, PV.shift, MObj.shift, rdV, rdD, reduceIte, Nat.reduceEqDiff, Nat.reduceBEq, PV.bin, PV.binOk, binI, binS, PV.withInt, PV.withIntP, okAll, PV.under, PV.okUnder, eq_self, implies_true, deadOk, ne_eq, allOk, RVar.val, RVar.ok, retV, PV.seen, PV.view, beq_self_eq_true, PV.flat, PV.noOwn, id_eq, behind, PV.kill, MObj.kill, killTag, reduceCtorEq, nilB])); (case hq => rfl); (simp only [d1, SS, SS2, SS3, SS4, scopeQ_normal, scopeQ_ret, scopeQ_exit, Option.map_some, Bool.not_false, Bool.not_true, gArgs, gOk, Nat.reduceAdd, PV.shift, MObj.shift, rdV, rdD, reduceIte, Nat.reduceEqDiff, Nat.reduceBEq, PV.bin, PV.binOk, binI, binS, PV.withInt, PV.withIntP, okAll, PV.under, PV.okUnder, eq_self, implies_true, deadOk, ne_eq, allOk, RVar.val, RVar.ok, retV, PV.seen, PV.view, beq_self_eq_true, PV.flat, PV.noOwn, id_eq, behind, PV.kill, MObj.kill, killTag, reduceCtorEq, nilB]; (try go_unwrap; try simp only [d1, toNat_add2, toNat_add1, Int.toNat_natCast, Bool.false_and, Bool.true_and, true_implies, true_and, Bool.false_eq_true, reduceCtorEq, false_implies, Bool.not_false, Bool.not_true, Bool.true_or, Bool.false_or]))) | (apply goCallG_N e19; (case hV => (intro hg; simp only [hg, d1, SS, SS2, SS3, SS4, scopeQ_normal, scopeQ_ret, scopeQ_exit, Option.map_some, Bool.not_false, Bool.not_true, gArgs, gOk, Nat.reduceAdd, PV.shift, MObj.shift, rdV, rdD, reduceIte, Nat.reduceEqDiff, Nat.reduceBEq, PV.bin, PV.binOk, binI, binS, PV.withInt, PV.withIntP, okAll, PV.under, PV.okUnder, eq_self, implies_true, deadOk, ne_eq, allOk, RVar.val, RVar.ok, retV, PV.seen, PV.view, beq_self_eq_true, PV.flat, PV.noOwn, id_eq, behind, PV.kill, MObj.kill, killTag, reduceCtorEq, nilB]; (try go_unwrap; try simp only [d1, toNat_add2, toNat_add1, Int.toNat_natCast, Bool.false_and, Bool.true_and, true_implies, true_and, Bool.false_eq_true, reduceCtorEq, false_implies, Bool.not_false, Bool.not_true, Bool.true_or, Bool.false_or]); exact h19)); (case hok => (intro hg; first | (simp only [hg, d1, SS, SS2, SS3, SS4, scopeQ_normal, scopeQ_ret, scopeQ_exit, Option.map_some, Bool.not_false, Bool.not_true, gArgs, gOk, Nat.reduceAdd, PV.shift, MObj.shift, rdV, rdD, reduceIte, Nat.reduceEqDiff, Nat.reduceBEq, PV.bin, PV.binOk, binI, binS, PV.withInt, PV.withIntP, okAll, PV.under, PV.okUnder, eq_self, implies_true, deadOk, ne_eq, allOk, RVar.val, RVar.ok, retV, PV.seen, PV.view, beq_self_eq_true, PV.flat, PV.noOwn, id_eq, behind, PV.kill, MObj.kill, killTag, reduceCtorEq, nilB]; done) | (simp_all [okAll, PV.okUnder]; done))); (case hs => (intro hg; simp only [hg, d1, SS, SS2, SS3, SS4, scopeQ_normal, scopeQ_ret, scopeQ_exit, Option.map_some, Bool.not_false, Bool.not_true, gArgs, gOk, Nat.reduceAdd, PV.shift, MObj.shift, rdV, rdD, reduceIte, Nat.reduceEqDiff, Nat.reduceBEq, PV.bin, PV.binOk, binI, binS, PV.withInt, PV.withIntP, okAll, PV.under, PV.okUnder, eq_self, implies_true, deadOk, ne_eq, allOk, RVar.val, RVar.ok, retV, PV.seen, PV.view, beq_self_eq_true, PV.flat, PV.noOwn, id_eq, behind, PV.kill, MObj.kill, killTag, reduceCtorEq, nilB])); (case hn => (intro hg; simp only [hg, d1, SS, SS2, SS3, SS4, scopeQ_normal, scopeQ_ret, scopeQ_exit, Option.map_some, Bool.not_false, Bool.not_true, gArgs, gOk, Nat.reduceAdd, PV.shift, MObj.shift, rdV, rdD, reduceIte, Nat.reduceEqDiff, Nat.reduceBEq, PV.bin, PV.binOk, binI, binS, PV.withInt, PV.withIntP, okAll, PV.under, PV.okUnder, eq_self, implies_true, deadOk, ne_eq, allOk, RVar.val, RVar.ok, retV, PV.seen, PV.view, beq_self_eq_true, PV.flat, PV.noOwn, id_eq, behind, PV.kill, MObj.kill, killTag, reduceCtorEq, nilB])); (case hq => rfl); (simp only [d1, SS, SS2, SS3, SS4, scopeQ_normal, scopeQ_ret, scopeQ_exit, Option.map_some, Bool.not_false, Bool.not_true, gArgs, gOk, Nat.reduceAdd, PV.shift, MObj.shift, rdV, rdD, reduceIte, Nat.reduceEqDiff, Nat.reduceBEq, PV.bin, PV.binOk, binI, binS, PV.withInt, PV.withIntP, okAll, PV.under, PV.okUnder, eq_self, implies_true, deadOk, ne_eq, allOk, RVar.val, RVar.ok, retV, PV.seen, PV.view, beq_self_eq_true, PV.flat, PV.noOwn, id_eq, behind, PV.kill, MObj.kill, killTag, reduceCtorEq, nilB]; (try go_unwrap; try simp only [d1, toNat_add2, toNat_add1, Int.toNat_natCast, Bool.false_and, Bool.true_and, true_implies, true_and, Bool.false_eq_true, reduceCtorEq, false_implies, Bool.not_false, Bool.not_true, Bool.true_or, Bool.false_or]))) | (apply goCallG_V e12; (case hV => (intro hg; simp only [hg, d1, SS, SS2, SS3, SS4, scopeQ_normal, scopeQ_ret, scopeQ_exit, Option.map_some, Bool.not_false, Bool.not_true, gArgs, gOk, Nat.reduceAdd, PV.shift, MObj.shift, rdV, rdD, reduceIte, Nat.reduceEqDiff, Nat.reduceBEq, PV.bin, PV.binOk, binI, binS, PV.withInt, PV.withIntP, okAll, PV.under, PV.okUnder, eq_self, implies_true, deadOk, ne_eq, allOk, RVar.val, RVar.ok, retV, PV.seen, PV.view, beq_self_eq_true, PV.flat, PV.noOwn, id_eq, behind, PV.kill, MObj.kill, killTag, reduceCtorEq, nilB]; (try go_unwrap; try simp only [d1, toNat_add2, toNat_add1, Int.toNat_natCast, Bool.false_and, Bool.true_and, true_implies, true_and, Bool.false_eq_true, reduceCtorEq, false_implies, Bool.not_false, Bool.not_true, Bool.true_or, Bool.false_or]); exact i2)); (case hok => (intro hg; first | (simp only [hg, d1, SS, SS2, SS3, SS4, scopeQ_normal, scopeQ_ret, scopeQ_exit, Option.map_some, Bool.not_false, Bool.not_true, gArgs, gOk, Nat.reduceAdd, PV.shift, MObj.shift, rdV, rdD, reduceIte, Nat.reduceEqDiff, Nat.reduceBEq, PV.bin, PV.binOk, binI, binS, PV.withInt, PV.withIntP, okAll, PV.under, PV.okUnder, eq_self, implies_true, deadOk, ne_eq, allOk, RVar.val, RVar.ok, retV, PV.seen, PV.view, beq_self_eq_true, PV.flat, PV.noOwn, id_eq, behind, PV.kill, MObj.kill, killTag, reduceCtorEq, nilB]; done) | (simp_all [okAll, PV.okUnder]; done))); (case hs => (intro hg; simp only [hg, d1, SS, SS2, SS3, SS4, scopeQ_normal, scopeQ_ret, scopeQ_exit, Option.map_some, Bool.not_false, Bool.not_true, gArgs, gOk, Nat.reduceAdd, PV.shift, MObj.shift, rdV, rdD, reduceIte, Nat.reduceEqDiff, Nat.reduceBEq, PV.bin, PV.binOk, binI, binS, PV.withInt, PV.withIntP, okAll, PV.under, PV.okUnder, eq_self, implies_true, deadOk, ne_eq, allOk, RVar.val, RVar.ok, retV, PV.seen, PV.view, beq_self_eq_true, PV.flat, PV.noOwn, id_eq, behind, PV.kill, MObj.kill, killTag, reduceCtorEq, nilB])); (case hf => first | rfl | simp only [d1, SS, SS2, SS3, SS4, scopeQ_normal, scopeQ_ret, scopeQ_exit, Option.map_some, Bool.not_false, Bool.not_true, gArgs, gOk, Nat.reduceAdd, PV.shift, MObj.shift, rdV, rdD, reduceIte, Nat.reduceEqDiff, Nat.reduceBEq, PV.bin, PV.binOk, binI, binS, PV.withInt, PV.withIntP, okAll, PV.under, PV.okUnder, eq_self, implies_true, deadOk, ne_eq, allOk, RVar.val, RVar.ok, retV, PV.seen, PV.view, beq_self_eq_true, PV.flat, PV.noOwn, id_eq, behind, PV.kill, MObj.kill, killTag, reduceCtorEq, nilB]); (simp only [d1, SS, SS2, SS3, SS4, scopeQ_normal, scopeQ_ret, scopeQ_exit, Option.map_some, Bool.not_false, Bool.not_true, gArgs, gOk, Nat.reduceAdd, PV.shift, MObj.shift, rdV, rdD, reduceIte, Nat.reduceEqDiff, Nat.reduceBEq, PV.bin, PV.binOk, binI, binS, PV.withInt, PV.withIntP, okAll, PV.under, PV.okUnder, eq_self, implies_true, deadOk, ne_eq, allOk, RVar.val, RVar.ok, retV, PV.seen, PV.view, beq_self_eq_true, PV.flat, PV.noOwn, id_eq, behind, PV.kill, MObj.kill, killTag, reduceCtorEq, nilB]; (try go_unwrap; try simp only [d1, toNat_add2, toNat_add1, Int.toNat_natCast, Bool.false_and, Bool.true_and, true_implies, true_and, Bool.false_eq_true, reduceCtorEq, false_implies, Bool.not_false, Bool.not_true, Bool.true_or, Bool.false_or]))) | (refine gd_i ?_; intro hg; try simp only [hg]) | refine goCall_W e10 (h10) ?_ ?_ ?_ ?_ | refine goCall_W e11 (h11) ?_ ?_ ?_ ?_ | refine goCall_W e15 (h15) ?_ ?_ ?_ ?_ | refine goCall_W e16 (h16) ?_ ?_ ?_ ?_ | refine goCall_W e17 (h17) ?_ ?_ ?_ ?_ | ((first | show @LE.le Nat _ _ _ | show @LT.lt Nat _ _ _ | show @LE.le Int _ _ _ | show @LT.lt Int _ _ _ | show @Eq Nat _ _ | show @Eq Int _ _ | show @Eq Bool _ _ | show _ ∨ _ | show ¬ _); first | omega | (simp only [decide_eq_true_eq, decide_eq_false_iff_not, List.length_cons, List.length_nil, List.length_append, List.length_map, Sh.size] <;> omega) | (go_unwrap; omega)) | ((first | refine PW.region ?_ | refine PW.regionQ ?_ | refine schedW_done_i ?_ | show (_ : Post) _ _ _ | show @Eq (List PV) _ _ | show @Eq Bool _ _ | show opsW _ _ _ _ _ _ _ _ | show okAll _ | show @Eq Bool _ _ ∨ _); focus (simp only [d1, SS, SS2, SS3, SS4, scopeQ_normal, scopeQ_ret, scopeQ_exit, Option.map_some, Bool.not_false, Bool.not_true, gArgs, gOk, Nat.reduceAdd, PV.shift, MObj.shift, rdV, rdD, reduceIte, Nat.reduceEqDiff, Nat.reduceBEq, PV.bin, PV.binOk, binI, binS, PV.withInt, PV.withIntP, okAll, PV.under, PV.okUnder, eq_self, implies_true, deadOk, ne_eq, allOk, RVar.val, RVar.ok, retV, PV.seen, PV.view, beq_self_eq_true, PV.flat, PV.noOwn, id_eq, behind, PV.kill, MObj.kill, killTag, reduceCtorEq, nilB]; (try go_unwrap; try simp only [d1, toNat_add2, toNat_add1, Int.toNat_natCast, Bool.false_and, Bool.true_and, true_implies, true_and, Bool.false_eq_true, reduceCtorEq, false_implies, Bool.not_false, Bool.not_true, Bool.true_or, Bool.false_or]))) | refine And.intro ?_ ?_ | exact Or.inr ⟨rfl, Nat.le_refl _⟩ | exact (fun h => Bool.noConfusion h))
set_option maxRecDepth 100000 in
theorem sides_lifted (os : Os) (started : os.Started) (H : Type) (enc : TypeId × Value → H) (F : Stop.Interp) :
    ReturnsInHanded {} Try.checked os 4 .any ((Rows.OpenSpec.upto Rows.orderSidesSpec).pre6 enc Try.prog Try.f4 Rows.orderSidesUptoRow.domain false) (((Rows.OpenSpec.upto Rows.orderSidesSpec).at F).post enc Try.prog Try.f4 false true false false) := by
  refine returnsInHanded_of_cond (C := Try.checked) (s := Rows.OpenSpec.upto Rows.orderSidesSpec) (k := Rows.uptoSmall) rfl ownB started (by kernel_rfl) Try.func4
    (OpenSpec.witness (enc := enc) (C := Try.checked) (s := Rows.OpenSpec.upto Rows.orderSidesSpec) (k := Rows.uptoSmall) rfl false ⟨#[], #[.slice none 0 0, .string .empty], []⟩ 8 (by kernel_rfl) (by kernel_rfl) (by kernel_rfl)
      (x := ([.nil, .lit (.string [])], [], [])) (by kernel_rfl) rfl (by kernel_rfl)) ?_
  intro W base args ds gs before hval hW _ hk _
  refine law_of_Z (n := 8) szOk laidB (by kernel_rfl) rfl (fun ds hd => ?_) (tb := 4) (by kernel_rfl) (by kernel_rfl) (globsB W _) (fun ps hp => ?_) hval hW (small_of hk)
  · rw [Try.params4] at hd
    match ds, hd with
    | [d1, d2], _ => rfl
  · rw [Try.params4] at hp
    obtain ⟨p1, p2, rfl, k1, k2⟩ := shBs2 hp
    obtain ⟨l, rfl, h1, h2⟩ := read_eds (n := 4) k1
    obtain ⟨a, rfl, -⟩ := read_strB (n := 7) k2
    exact v4 l h1 (eds_ok h2) a
theorem sides_holds : Rows.OrderSidesUptoSaid :=
  OpenClaim.holds_of_cond 4 Try.f4 rfl rfl rfl rfl rfl rfl rfl ⟨rfl, rfl, rfl, rfl, rfl⟩ rfl rfl rfl rfl rfl (by kernel_rfl) Try.func4 (by kernel_rfl)
    (of_decide_eq_true (by kernel_rfl)) (by unfold Func.isWrapper; first | (rw [if_pos (by decide +kernel)]; kernel_rfl) | (rw [if_neg (by decide +kernel)]; exact ⟨rfl, rfl⟩))
    (fun os started H enc _ F => sides_lifted os started H enc F)
end Go.Proofs.Ytdiokmmjdpbdbaa
