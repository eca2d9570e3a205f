/-
  OrderAdds: one edge more, of a name that no edge has or needs, changes nothing of what is below the others, nor of the order of the others; what it needs is below it. Condition: what is read is of bulk at most 1048576 (the second form).
-/
import Derived.KernelRfl
import Derived.Test.YtdiokmmjdpbdbaaP1
import Derived.Test.YtdiokmmjdpbdbaaP2
import Derived.Test.YtdiokmmjdpbdbaaP3
import Derived.Test.YtdiokmmjdpbdbaaP4
import Derived.Test.YtdiokmmjdpbdbaaProg
import Derived.Test.YtdiokmmjdpbdbaaQ10
import Derived.Test.YtdiokmmjdpbdbaaQ11
import Derived.Test.YtdiokmmjdpbdbaaQ12
import Derived.Test.YtdiokmmjdpbdbaaQ13
import Derived.Test.YtdiokmmjdpbdbaaQ14
import Derived.Test.YtdiokmmjdpbdbaaQ15
import Derived.Test.YtdiokmmjdpbdbaaQ16
import Derived.Test.YtdiokmmjdpbdbaaQ17
import Derived.Test.YtdiokmmjdpbdbaaQ18
import Derived.Test.YtdiokmmjdpbdbaaQ22
import Derived.Test.YtdiokmmjdpbdbaaQ5
import Derived.Test.YtdiokmmjdpbdbaaQ6
import Derived.Test.YtdiokmmjdpbdbaaQ7
import Derived.Test.YtdiokmmjdpbdbaaQ8
import Derived.Test.YtdiokmmjdpbdbaaQ9
import Derived.Test.YtdiokmmjdpbdbaaRows
namespace PG
open Go
set_option linter.unusedSimpArgs false
set_option linter.unusedVariables false
set_option linter.unusedSectionVars false
section
variable {P : Program} {Q : Nat → Prop} {n : Nat} {t : TypeId} {ps : List PV}
theorem shB_struct {fs : Array Field} {p : PV} (hu : P.underlying t = some (.struct fs)) (h : ShB P Q n t p) : ∃ ps, p = .agg ps ∧ ShZ P Q n t ps := by
  unfold ShB at h; rw [hu] at h; exact h
end
end PG
namespace Go.Proofs.Ytdiokmmjdpbdbaa
open Go PG Go.Proofs
set_option linter.unusedSimpArgs false
set_option linter.unusedVariables false
set_option linter.unusedSectionVars false
set_option maxHeartbeats 4000000
set_option maxRecDepth 100000
theorem adds_wrong {l : List Ed} {x : Ed} (h : wrongM (l ++ [x]) = 0) : wrongM l = 0 := by
  obtain ⟨a, b, c⟩ := wrongM_0.1 h
  refine wrongM_0.2 ⟨by simp at a; omega, ?_, fun e he => c e (by simp [he])⟩
  rw [List.map_append, List.nodup_append] at b; exact b.1
section
variable {l : List Ed} {x : Ed} (hn : NewE l x) (hw : wrongM (l ++ [x]) = 0)
include hn hw
theorem adds_nd {s : St} (hs : s ≠ x.name) : ndM (l ++ [x]) s = ndM l s := by
  unfold ndM
  rw [List.find?_append]
  have : ([x] : List Ed).find? (fun e => decide (e.name = s)) = none := by simp [Ne.symm hs]
  rw [this, Option.or_none]
end
section
variable {l : List Ed} {x : Ed} (hn : NewE l x) (hw : wrongM (l ++ [x]) = 0)
include hn hw
theorem adds_ndx : ndM (l ++ [x]) x.name = x.needs := nd_at (wrongM_0.1 hw).2.1 (by simp)
end
section
variable {l : List Ed} {x : Ed} (hn : NewE l x) (hw : wrongM (l ++ [x]) = 0)
include hn hw
theorem adds_not {s : St} : x.name ∉ ndM (l ++ [x]) s := by
  intro h
  obtain ⟨-, e, he, -, hx⟩ := nd_in h
  rcases List.mem_append.1 he with he | he
  · exact (hn.name e he).2 hx
  · simp at he; subst he; exact hn.self hx
end
section
variable {l : List Ed} {x : Ed} (hn : NewE l x) (hw : wrongM (l ++ [x]) = 0)
include hn hw
theorem adds_xN : x.name ∉ nsM l := fun h => by
  obtain ⟨e, he, hh⟩ := ns_mem.1 h
  exact (hn.name e he).1 hh
end
section
variable {l : List Ed} {x : Ed} (hn : NewE l x) (hw : wrongM (l ++ [x]) = 0)
include hn hw
theorem adds_N : (nsM (l ++ [x])).filter (fun s => !decide (s = x.name)) = nsM l := by
  refine rise_uniq ((ns_rise hw).filter _) (ns_rise (adds_wrong hw)) fun s => ?_
  rw [List.mem_filter, ns_mem, ns_mem]
  simp only [Bool.not_eq_true', decide_eq_false_iff_not]
  constructor
  · rintro ⟨⟨e, he, rfl⟩, h2⟩
    rcases List.mem_append.1 he with he | he
    · exact ⟨e, he, rfl⟩
    · simp at he; subst he; exact absurd rfl h2
  · rintro ⟨e, he, rfl⟩
    exact ⟨⟨e, by simp [he], rfl⟩, (hn.name e he).1⟩
end
section
variable {l : List Ed} {x : Ed} (hn : NewE l x) (hw : wrongM (l ++ [x]) = 0)
include hn hw
theorem adds_sortG : ∀ (n : Nat) (out b : List St), sortG (nsM (l ++ [x])) (ndM (l ++ [x])) n out = some b →
    ∃ k, (b.filter (fun s => !decide (s = x.name))).length = (out.filter (fun s => !decide (s = x.name))).length + k ∧ sortG (nsM l) (ndM l) k (out.filter (fun s => !decide (s = x.name))) = some (b.filter (fun s => !decide (s = x.name)))
  | 0, out, b, h => by cases h; exact ⟨0, rfl, rfl⟩
  | n + 1, out, b, h => by
    unfold sortG at h
    split at h
    · cases h
    · rename_i s hf
      obtain ⟨k, h1, h2⟩ := adds_sortG n _ b h
      by_cases hs : s = x.name
      · rw [List.filter_append, show [s].filter (fun s => !decide (s = x.name)) = [] by simp [hs], List.append_nil] at h1 h2
        exact ⟨k, h1, h2⟩
      · rw [List.filter_append, show [s].filter (fun s => !decide (s = x.name)) = [s] by simp [hs]] at h1 h2
        refine ⟨k + 1, by rw [h1]; simp; omega, ?_⟩
        have hrd : ∀ y, y ≠ x.name → readyG (nsM (l ++ [x])) (ndM (l ++ [x])) out y = readyG (nsM l) (ndM l) (out.filter (fun s => !decide (s = x.name))) y := by
          intro y hy
          rw [Bool.eq_iff_iff, ready_iff, ready_iff, adds_nd hn hw hy]
          have hN : ∀ z, z ≠ x.name → (z ∈ nsM (l ++ [x]) ↔ z ∈ nsM l) := fun z hz => by
            rw [← adds_N hn hw, List.mem_filter]; simp [hz]
          have hO : ∀ z, z ≠ x.name → (z ∈ out ↔ z ∈ out.filter (fun s => !decide (s = x.name))) := fun z hz => by
            rw [List.mem_filter]; simp [hz]
          rw [hO y hy]
          refine and_congr Iff.rfl ⟨fun g z hz hzN => ?_, fun g z hz hzN => ?_⟩
          · have hzx : z ≠ x.name := fun e => adds_xN hn hw (e ▸ hzN)
            exact (hO z hzx).1 (g z hz ((hN z hzx).2 hzN))
          · have hzx : z ≠ x.name := fun e => by
              have := adds_not hn hw (s := y)
              rw [adds_nd hn hw hy] at this
              exact this (e ▸ hz)
            exact (hO z hzx).2 (g z hz ((hN z hzx).1 hzN))
        have hf2 : (nsM l).find? (readyG (nsM l) (ndM l) (out.filter (fun s => !decide (s = x.name)))) = some s := by
          rw [← adds_N hn hw]
          obtain ⟨hp, u, v, e, hall⟩ := List.find?_eq_some_iff_append.1 hf
          rw [List.find?_filter, List.find?_eq_some_iff_append]
          rw [adds_N hn hw]
          refine ⟨by simp [hs]; rw [← hrd s hs]; exact hp, u, v, e, fun z hz => ?_⟩
          by_cases hzx : z = x.name
          · simp [hzx]
          · have := hall z hz
            rw [hrd z hzx] at this
            simp [hzx]; simpa using this
        unfold sortG
        rw [hf2]; exact h2
end
section
variable {l : List Ed} {x : Ed} (hn : NewE l x) (hw : wrongM (l ++ [x]) = 0)
include hn hw
theorem adds_sort (h : (sortM (l ++ [x])).2 = 0) : (sortM l).2 = 0 ∧ (sortM l).1 = (sortM (l ++ [x])).1.filter (fun s => !decide (s = x.name)) := by
  obtain ⟨-, hg⟩ := sort_ok h
  obtain ⟨-, ho, hp⟩ := sort_spec h
  obtain ⟨k, h1, h2⟩ := adds_sortG hn hw _ _ _ hg
  have hl : ((sortM (l ++ [x])).1.filter (fun s => !decide (s = x.name))).length = (nsM l).length := by
    rw [← adds_N hn hw]; exact (hp.filter _).length_eq
  simp only [List.filter_nil, List.length_nil, Nat.zero_add] at h1 h2
  rw [← h1, hl] at h2
  have hw0 := adds_wrong hw
  have e : sortM l = ((sortM (l ++ [x])).1.filter (fun s => !decide (s = x.name)), 0) := by
    conv => lhs; unfold sortM
    rw [if_neg (by simp [hw0]), h2]
  rw [e]; exact ⟨rfl, rfl⟩
end
section
variable {l : List Ed} {x : Ed} (hn : NewE l x) (hw : wrongM (l ++ [x]) = 0)
include hn hw
theorem adds_below {s : St} (hs : s ≠ x.name) : belowM l s = belowM (l ++ [x]) s := by
  have hw0 := adds_wrong hw
  refine rise_uniq (below_rise s) (below_rise s) fun y => ?_
  rw [below_iff hw0, below_iff hw]
  constructor
  · intro hr
    clear hs
    induction hr with
    | one s y h =>
      have hs : s ≠ x.name := fun e => adds_xN hn hw (e ▸ (nd_in h).1)
      exact .one s y (by rw [adds_nd hn hw hs]; exact h)
    | more s z y h hr ih =>
      have hs : s ≠ x.name := fun e => adds_xN hn hw (e ▸ (nd_in h).1)
      exact .more s z y (by rw [adds_nd hn hw hs]; exact h) ih
  · intro hr
    induction hr with
    | one s y h => exact .one s y (by rw [adds_nd hn hw hs] at h; exact h)
    | more s z y h hr ih =>
      have hz : z ≠ x.name := fun e => adds_not hn hw (s := s) (e ▸ h)
      exact .more s z y (by rw [adds_nd hn hw hs] at h; exact h) (ih hz)
end
section
variable {l : List Ed} {x : Ed} (hn : NewE l x) (hw : wrongM (l ++ [x]) = 0)
include hn hw
theorem adds_has {y : St} (h : y ∈ x.needs) : y ∈ belowM (l ++ [x]) x.name := by
  rw [below_iff hw]
  exact .one _ _ (by rw [adds_ndx hn hw]; exact h)
end
theorem read_ed1 {n : Nat} {p : PV} (h : ShB Try.prog Qb (n + 3) 41 p) : ∃ e : Ed, p = edP e ∧ edSz e := by
  obtain ⟨cs, rfl, h'⟩ := shB_struct Try.underlying41 h
  exact ed_cells h'
-- wagebook/wagebooklaw14.OrderAdds
def L8d : List Nat := [0, 1, 3, 4, 5, 6, 7, 8, 9, 10, 11, 12, 13, 14, 16, 22, 26, 46, 51, 69, 88, 92, 101, 132, 143, 153]
def c8d : CF := ⟨154,
 .seq (.region false [⟨some 3, none, .eff (.box (some 2)) [.tmp 1]⟩,
 ⟨some 4, none, .rd .mov [.pv (.bool false)]⟩] L8d)
 (.seq (.seq (.region false [⟨some 15, none, .call (.pv (.fn 10 [] [])) []⟩,
 ⟨some 16, none, .rd (.un .not) [.tmp 15]⟩] L8d)
 (.cond (.tmp 16)
 (.seq (.region false [⟨some 4, none, .rd .mov [.pv (.bool false)]⟩] L8d)
 (.ret))
 (.skip)))
 (.seq (.seq (.region false [⟨some 17, none, .rd (.load (some 2)) [.tmp 3]⟩,
 ⟨some 18, none, .eff (.lit (some 2) true) [.tmp 17]⟩,
 ⟨some 19, none, .rd .mov [.tmp 0]⟩,
 ⟨some 20, none, .eff (.append (some 2) 40) [.tmp 18, .tmp 19]⟩,
 ⟨some 21, none, .call (.pv (.fn 11 [] [])) [.tmp 20, .pv (.int .i64 20)]⟩,
 ⟨some 22, none, .rd (.un .not) [.tmp 21]⟩] L8d)
 (.cond (.tmp 22)
 (.seq (.region false [⟨some 4, none, .rd .mov [.pv (.bool true)]⟩] L8d)
 (.ret))
 (.skip)))
 (.seq (.seq (.region false [⟨some 5, none, .rd .mov [.pv (.int .i64 0)]⟩] L8d)
 (.block 0
 (.loop
 (.seq (.seq (.region false [⟨some 23, none, .rd .mov [.tmp 5]⟩,
 ⟨some 24, none, .rd .mov [.tmp 0]⟩,
 ⟨some 25, none, .rd .lenL [.tmp 24]⟩,
 ⟨some 26, none, .rd (.bin .lss) [.tmp 23, .tmp 25]⟩] L8d)
 (.cond (.tmp 26)
 (.skip)
 (.exit 0)))
 (.seq (.block 1
 (.seq (.regionA (.alt [⟨some 29, none, .rd .mov [.tmp 0]⟩,
 ⟨some 30, none, .rd .mov [.tmp 5]⟩,
 ⟨some 31, none, .rd (.idxAddr (some 2)) [.tmp 29, .tmp 30]⟩,
 ⟨some 32, none, .rd (.fldAddr 0) [.tmp 31]⟩,
 ⟨some 34, none, .rd (.fldAddr 0) [.tmp 3]⟩]
 (.alt [⟨some 33, none, .rd (.load none) [.tmp 32]⟩,
 ⟨some 35, none, .rd (.load none) [.tmp 34]⟩,
 ⟨some 36, none, .rd (.bin .eql) [.tmp 33, .tmp 35]⟩,
 ⟨some 37, none, .rd .mov [.tmp 36]⟩,
 ⟨some 38, some (37, false), .rd .mov [.tmp 0]⟩,
 ⟨some 39, some (37, false), .rd .mov [.tmp 5]⟩,
 ⟨some 40, some (37, false), .rd (.idxAddr (some 2)) [.tmp 38, .tmp 39]⟩,
 ⟨some 41, some (37, false), .rd (.fldAddr 1) [.tmp 40]⟩,
 ⟨some 43, some (37, false), .rd (.fldAddr 0) [.tmp 3]⟩]
 (.alt [⟨some 42, some (37, false), .rd (.load none) [.tmp 41]⟩,
 ⟨some 44, some (37, false), .rd (.load none) [.tmp 43]⟩,
 ⟨some 45, some (37, false), .call (.pv (.fn 23 [] [])) [.tmp 42, .tmp 44]⟩,
 ⟨some 46, none, .rd .pick [.tmp 37, .pv (.bool true), .tmp 45]⟩]
 .done
 (.alt [⟨some 44, some (37, false), .rd (.load none) [.tmp 43]⟩,
 ⟨some 42, some (37, false), .rd (.load none) [.tmp 41]⟩,
 ⟨some 45, some (37, false), .call (.pv (.fn 23 [] [])) [.tmp 42, .tmp 44]⟩,
 ⟨some 46, none, .rd .pick [.tmp 37, .pv (.bool true), .tmp 45]⟩]
 .done
 .stop))
 (.alt [⟨some 35, none, .rd (.load none) [.tmp 34]⟩,
 ⟨some 33, none, .rd (.load none) [.tmp 32]⟩,
 ⟨some 36, none, .rd (.bin .eql) [.tmp 33, .tmp 35]⟩,
 ⟨some 37, none, .rd .mov [.tmp 36]⟩,
 ⟨some 38, some (37, false), .rd .mov [.tmp 0]⟩,
 ⟨some 39, some (37, false), .rd .mov [.tmp 5]⟩,
 ⟨some 40, some (37, false), .rd (.idxAddr (some 2)) [.tmp 38, .tmp 39]⟩,
 ⟨some 41, some (37, false), .rd (.fldAddr 1) [.tmp 40]⟩,
 ⟨some 43, some (37, false), .rd (.fldAddr 0) [.tmp 3]⟩]
 (.alt [⟨some 42, some (37, false), .rd (.load none) [.tmp 41]⟩,
 ⟨some 44, some (37, false), .rd (.load none) [.tmp 43]⟩,
 ⟨some 45, some (37, false), .call (.pv (.fn 23 [] [])) [.tmp 42, .tmp 44]⟩,
 ⟨some 46, none, .rd .pick [.tmp 37, .pv (.bool true), .tmp 45]⟩]
 .done
 (.alt [⟨some 44, some (37, false), .rd (.load none) [.tmp 43]⟩,
 ⟨some 42, some (37, false), .rd (.load none) [.tmp 41]⟩,
 ⟨some 45, some (37, false), .call (.pv (.fn 23 [] [])) [.tmp 42, .tmp 44]⟩,
 ⟨some 46, none, .rd .pick [.tmp 37, .pv (.bool true), .tmp 45]⟩]
 .done
 .stop))
 .stop))
 .stop) L8d)
 (.cond (.tmp 46)
 (.seq (.region false [⟨some 4, none, .rd .mov [.pv (.bool true)]⟩] L8d)
 (.ret))
 (.skip))))
 (.region false [⟨some 27, none, .rd .mov [.tmp 5]⟩,
 ⟨some 28, none, .rd (.bin .add) [.tmp 27, .pv (.int .i64 1)]⟩,
 ⟨some 5, none, .rd .mov [.tmp 28]⟩] L8d))))))
 (.seq (.seq (.region false [⟨some 47, none, .rd (.fldAddr 1) [.tmp 3]⟩,
 ⟨some 48, none, .rd (.load none) [.tmp 47]⟩,
 ⟨some 49, none, .rd (.fldAddr 0) [.tmp 3]⟩,
 ⟨some 50, none, .rd (.load none) [.tmp 49]⟩,
 ⟨some 51, none, .call (.pv (.fn 23 [] [])) [.tmp 48, .tmp 50]⟩] L8d)
 (.cond (.tmp 51)
 (.seq (.region false [⟨some 4, none, .rd .mov [.pv (.bool true)]⟩] L8d)
 (.ret))
 (.skip)))
 (.seq (.regionA (.alt [⟨some 53, none, .rd .mov [.tmp 0]⟩]
 (.alt [⟨some 52, none, .eff (.lit (some 2) true) []⟩]
 (.alt [⟨some 54, none, .eff (.append (some 2) 40) [.tmp 52, .tmp 53]⟩,
 ⟨some 55, none, .rd (.load (some 2)) [.tmp 3]⟩,
 ⟨some 56, none, .eff (.lit (some 2) false) [.tmp 55]⟩,
 ⟨some 57, none, .eff (.append (some 2) 40) [.tmp 54, .tmp 56]⟩,
 ⟨some 6, none, .rd .mov [.tmp 57]⟩]
 .done
 (.alt [⟨some 55, none, .rd (.load (some 2)) [.tmp 3]⟩]
 (.alt [⟨some 54, none, .eff (.append (some 2) 40) [.tmp 52, .tmp 53]⟩,
 ⟨some 56, none, .eff (.lit (some 2) false) [.tmp 55]⟩,
 ⟨some 57, none, .eff (.append (some 2) 40) [.tmp 54, .tmp 56]⟩,
 ⟨some 6, none, .rd .mov [.tmp 57]⟩]
 .done
 (.alt [⟨some 56, none, .eff (.lit (some 2) false) [.tmp 55]⟩,
 ⟨some 54, none, .eff (.append (some 2) 40) [.tmp 52, .tmp 53]⟩,
 ⟨some 57, none, .eff (.append (some 2) 40) [.tmp 54, .tmp 56]⟩,
 ⟨some 6, none, .rd .mov [.tmp 57]⟩]
 .done
 .stop))
 .stop))
 (.alt [⟨some 55, none, .rd (.load (some 2)) [.tmp 3]⟩]
 (.alt [⟨some 52, none, .eff (.lit (some 2) true) []⟩]
 (.alt [⟨some 54, none, .eff (.append (some 2) 40) [.tmp 52, .tmp 53]⟩,
 ⟨some 56, none, .eff (.lit (some 2) false) [.tmp 55]⟩,
 ⟨some 57, none, .eff (.append (some 2) 40) [.tmp 54, .tmp 56]⟩,
 ⟨some 6, none, .rd .mov [.tmp 57]⟩]
 .done
 (.alt [⟨some 56, none, .eff (.lit (some 2) false) [.tmp 55]⟩,
 ⟨some 54, none, .eff (.append (some 2) 40) [.tmp 52, .tmp 53]⟩,
 ⟨some 57, none, .eff (.append (some 2) 40) [.tmp 54, .tmp 56]⟩,
 ⟨some 6, none, .rd .mov [.tmp 57]⟩]
 .done
 .stop))
 (.alt [⟨some 56, none, .eff (.lit (some 2) false) [.tmp 55]⟩,
 ⟨some 52, none, .eff (.lit (some 2) true) []⟩,
 ⟨some 54, none, .eff (.append (some 2) 40) [.tmp 52, .tmp 53]⟩,
 ⟨some 57, none, .eff (.append (some 2) 40) [.tmp 54, .tmp 56]⟩,
 ⟨some 6, none, .rd .mov [.tmp 57]⟩]
 .done
 .stop))
 .stop))
 .stop) L8d)
 (.seq (.region false [⟨some 59, none, .rd .mov [.tmp 0]⟩,
 ⟨some 60, none, .call (.pv (.fn 20 [] [])) [.tmp 59]⟩,
 ⟨some 58, none, .rd .mov [.tmp 60]⟩,
 ⟨some 61, none, .rd (.ext 0) [.tmp 58]⟩,
 ⟨some 62, none, .rd (.ext 1) [.tmp 58]⟩,
 ⟨some 7, none, .rd .mov [.tmp 61]⟩,
 ⟨some 8, none, .rd .mov [.tmp 62]⟩] L8d)
 (.seq (.region false [⟨some 64, none, .rd .mov [.tmp 6]⟩,
 ⟨some 65, none, .call (.pv (.fn 20 [] [])) [.tmp 64]⟩,
 ⟨some 63, none, .rd .mov [.tmp 65]⟩,
 ⟨some 66, none, .rd (.ext 0) [.tmp 63]⟩,
 ⟨some 67, none, .rd (.ext 1) [.tmp 63]⟩,
 ⟨some 9, none, .rd .mov [.tmp 66]⟩,
 ⟨some 10, none, .rd .mov [.tmp 67]⟩] L8d)
 (.seq (.seq (.region false [⟨some 68, none, .rd .mov [.tmp 10]⟩,
 ⟨some 69, none, .rd (.bin .neq) [.tmp 68, .pv (.int .i64 0)]⟩] L8d)
 (.cond (.tmp 69)
 (.seq (.region false [⟨some 70, none, .rd .mov [.tmp 9]⟩,
 ⟨some 71, none, .rd .lenL [.tmp 70]⟩,
 ⟨some 72, none, .rd (.bin .eql) [.tmp 71, .pv (.int .i64 0)]⟩,
 ⟨some 4, none, .rd .mov [.tmp 72]⟩] L8d)
 (.ret))
 (.skip)))
 (.seq (.seq (.region false [⟨some 73, none, .rd .mov [.tmp 8]⟩,
 ⟨some 74, none, .rd (.bin .neq) [.tmp 73, .pv (.int .i64 0)]⟩,
 ⟨some 75, none, .rd .mov [.tmp 74]⟩,
 ⟨some 76, some (75, false), .rd .mov [.tmp 9]⟩,
 ⟨some 77, some (75, false), .rd .lenL [.tmp 76]⟩,
 ⟨some 78, some (75, false), .rd .mov [.tmp 7]⟩,
 ⟨some 79, some (75, false), .rd .lenL [.tmp 78]⟩,
 ⟨some 80, some (75, false), .rd (.bin .add) [.tmp 79, .pv (.int .i64 1)]⟩,
 ⟨some 81, some (75, false), .rd (.bin .neq) [.tmp 77, .tmp 80]⟩,
 ⟨some 82, none, .rd .pick [.tmp 75, .pv (.bool true), .tmp 81]⟩,
 ⟨some 83, none, .rd .mov [.tmp 82]⟩,
 ⟨some 84, some (83, false), .rd .mov [.tmp 9]⟩,
 ⟨some 85, some (83, false), .rd .mov [.tmp 6]⟩,
 ⟨some 86, some (83, false), .call (.pv (.fn 21 [] [])) [.tmp 84, .tmp 85]⟩,
 ⟨some 87, some (83, false), .rd (.un .not) [.tmp 86]⟩,
 ⟨some 88, none, .rd .pick [.tmp 83, .pv (.bool true), .tmp 87]⟩] L8d)
 (.cond (.tmp 88)
 (.seq (.region false [⟨some 4, none, .rd .mov [.pv (.bool false)]⟩] L8d)
 (.ret))
 (.skip)))
 (.seq (.region false [⟨some 11, none, .rd .mov [.pv (.int .i64 0)]⟩] L8d)
 (.seq (.seq (.region false [⟨some 12, none, .rd .mov [.pv (.int .i64 0)]⟩] L8d)
 (.block 2
 (.loop
 (.seq (.seq (.region false [⟨some 89, none, .rd .mov [.tmp 12]⟩,
 ⟨some 90, none, .rd .mov [.tmp 9]⟩,
 ⟨some 91, none, .rd .lenL [.tmp 90]⟩,
 ⟨some 92, none, .rd (.bin .lss) [.tmp 89, .tmp 91]⟩] L8d)
 (.cond (.tmp 92)
 (.skip)
 (.exit 2)))
 (.seq (.block 3
 (.seq (.seq (.regionA (.alt [⟨some 95, none, .rd .mov [.tmp 9]⟩,
 ⟨some 96, none, .rd .mov [.tmp 12]⟩,
 ⟨some 97, none, .rd (.idxAddr none) [.tmp 95, .tmp 96]⟩,
 ⟨some 99, none, .rd (.fldAddr 0) [.tmp 3]⟩]
 (.alt [⟨some 98, none, .rd (.load none) [.tmp 97]⟩,
 ⟨some 100, none, .rd (.load none) [.tmp 99]⟩,
 ⟨some 101, none, .rd (.bin .eql) [.tmp 98, .tmp 100]⟩]
 .done
 (.alt [⟨some 100, none, .rd (.load none) [.tmp 99]⟩,
 ⟨some 98, none, .rd (.load none) [.tmp 97]⟩,
 ⟨some 101, none, .rd (.bin .eql) [.tmp 98, .tmp 100]⟩]
 .done
 .stop))
 .stop) L8d)
 (.cond (.tmp 101)
 (.exit 3)
 (.skip)))
 (.seq (.seq (.regionA (.alt [⟨some 102, none, .rd .mov [.tmp 11]⟩,
 ⟨some 103, none, .rd .mov [.tmp 7]⟩,
 ⟨some 104, none, .rd .lenL [.tmp 103]⟩,
 ⟨some 105, none, .rd (.bin .geq) [.tmp 102, .tmp 104]⟩,
 ⟨some 106, none, .rd .mov [.tmp 105]⟩,
 ⟨some 107, some (106, false), .rd .mov [.tmp 7]⟩,
 ⟨some 108, some (106, false), .rd .mov [.tmp 11]⟩,
 ⟨some 109, some (106, false), .rd (.idxAddr none) [.tmp 107, .tmp 108]⟩,
 ⟨some 111, some (106, false), .rd .mov [.tmp 9]⟩,
 ⟨some 112, some (106, false), .rd .mov [.tmp 12]⟩,
 ⟨some 113, some (106, false), .rd (.idxAddr none) [.tmp 111, .tmp 112]⟩]
 (.alt [⟨some 110, some (106, false), .rd (.load none) [.tmp 109]⟩,
 ⟨some 114, some (106, false), .rd (.load none) [.tmp 113]⟩,
 ⟨some 115, some (106, false), .rd (.bin .neq) [.tmp 110, .tmp 114]⟩,
 ⟨some 116, none, .rd .pick [.tmp 106, .pv (.bool true), .tmp 115]⟩,
 ⟨some 117, none, .rd .mov [.tmp 116]⟩,
 ⟨some 118, some (117, false), .rd .mov [.tmp 9]⟩,
 ⟨some 119, some (117, false), .rd .mov [.tmp 12]⟩,
 ⟨some 120, some (117, false), .rd (.idxAddr none) [.tmp 118, .tmp 119]⟩,
 ⟨some 122, some (117, false), .rd .mov [.tmp 0]⟩,
 ⟨some 124, some (117, false), .rd .mov [.tmp 9]⟩,
 ⟨some 125, some (117, false), .rd .mov [.tmp 12]⟩,
 ⟨some 126, some (117, false), .rd (.idxAddr none) [.tmp 124, .tmp 125]⟩,
 ⟨some 128, some (117, false), .rd .mov [.tmp 6]⟩]
 (.alt [⟨some 121, some (117, false), .rd (.load none) [.tmp 120]⟩]
 (.alt [⟨some 123, some (117, false), .call (.pv (.fn 16 [] [])) [.tmp 121, .tmp 122]⟩,
 ⟨some 127, some (117, false), .rd (.load none) [.tmp 126]⟩,
 ⟨some 129, some (117, false), .call (.pv (.fn 16 [] [])) [.tmp 127, .tmp 128]⟩,
 ⟨some 130, some (117, false), .call (.pv (.fn 12 [] [])) [.tmp 123, .tmp 129]⟩,
 ⟨some 131, some (117, false), .rd (.un .not) [.tmp 130]⟩,
 ⟨some 132, none, .rd .pick [.tmp 117, .pv (.bool true), .tmp 131]⟩]
 .done
 (.alt [⟨some 127, some (117, false), .rd (.load none) [.tmp 126]⟩,
 ⟨some 123, some (117, false), .call (.pv (.fn 16 [] [])) [.tmp 121, .tmp 122]⟩,
 ⟨some 129, some (117, false), .call (.pv (.fn 16 [] [])) [.tmp 127, .tmp 128]⟩,
 ⟨some 130, some (117, false), .call (.pv (.fn 12 [] [])) [.tmp 123, .tmp 129]⟩,
 ⟨some 131, some (117, false), .rd (.un .not) [.tmp 130]⟩,
 ⟨some 132, none, .rd .pick [.tmp 117, .pv (.bool true), .tmp 131]⟩]
 .done
 .stop))
 (.alt [⟨some 127, some (117, false), .rd (.load none) [.tmp 126]⟩,
 ⟨some 121, some (117, false), .rd (.load none) [.tmp 120]⟩,
 ⟨some 123, some (117, false), .call (.pv (.fn 16 [] [])) [.tmp 121, .tmp 122]⟩,
 ⟨some 129, some (117, false), .call (.pv (.fn 16 [] [])) [.tmp 127, .tmp 128]⟩,
 ⟨some 130, some (117, false), .call (.pv (.fn 12 [] [])) [.tmp 123, .tmp 129]⟩,
 ⟨some 131, some (117, false), .rd (.un .not) [.tmp 130]⟩,
 ⟨some 132, none, .rd .pick [.tmp 117, .pv (.bool true), .tmp 131]⟩]
 .done
 .stop))
 (.alt [⟨some 114, some (106, false), .rd (.load none) [.tmp 113]⟩,
 ⟨some 110, some (106, false), .rd (.load none) [.tmp 109]⟩,
 ⟨some 115, some (106, false), .rd (.bin .neq) [.tmp 110, .tmp 114]⟩,
 ⟨some 116, none, .rd .pick [.tmp 106, .pv (.bool true), .tmp 115]⟩,
 ⟨some 117, none, .rd .mov [.tmp 116]⟩,
 ⟨some 118, some (117, false), .rd .mov [.tmp 9]⟩,
 ⟨some 119, some (117, false), .rd .mov [.tmp 12]⟩,
 ⟨some 120, some (117, false), .rd (.idxAddr none) [.tmp 118, .tmp 119]⟩,
 ⟨some 122, some (117, false), .rd .mov [.tmp 0]⟩,
 ⟨some 124, some (117, false), .rd .mov [.tmp 9]⟩,
 ⟨some 125, some (117, false), .rd .mov [.tmp 12]⟩,
 ⟨some 126, some (117, false), .rd (.idxAddr none) [.tmp 124, .tmp 125]⟩,
 ⟨some 128, some (117, false), .rd .mov [.tmp 6]⟩]
 (.alt [⟨some 121, some (117, false), .rd (.load none) [.tmp 120]⟩]
 (.alt [⟨some 123, some (117, false), .call (.pv (.fn 16 [] [])) [.tmp 121, .tmp 122]⟩,
 ⟨some 127, some (117, false), .rd (.load none) [.tmp 126]⟩,
 ⟨some 129, some (117, false), .call (.pv (.fn 16 [] [])) [.tmp 127, .tmp 128]⟩,
 ⟨some 130, some (117, false), .call (.pv (.fn 12 [] [])) [.tmp 123, .tmp 129]⟩,
 ⟨some 131, some (117, false), .rd (.un .not) [.tmp 130]⟩,
 ⟨some 132, none, .rd .pick [.tmp 117, .pv (.bool true), .tmp 131]⟩]
 .done
 (.alt [⟨some 127, some (117, false), .rd (.load none) [.tmp 126]⟩,
 ⟨some 123, some (117, false), .call (.pv (.fn 16 [] [])) [.tmp 121, .tmp 122]⟩,
 ⟨some 129, some (117, false), .call (.pv (.fn 16 [] [])) [.tmp 127, .tmp 128]⟩,
 ⟨some 130, some (117, false), .call (.pv (.fn 12 [] [])) [.tmp 123, .tmp 129]⟩,
 ⟨some 131, some (117, false), .rd (.un .not) [.tmp 130]⟩,
 ⟨some 132, none, .rd .pick [.tmp 117, .pv (.bool true), .tmp 131]⟩]
 .done
 .stop))
 (.alt [⟨some 127, some (117, false), .rd (.load none) [.tmp 126]⟩,
 ⟨some 121, some (117, false), .rd (.load none) [.tmp 120]⟩,
 ⟨some 123, some (117, false), .call (.pv (.fn 16 [] [])) [.tmp 121, .tmp 122]⟩,
 ⟨some 129, some (117, false), .call (.pv (.fn 16 [] [])) [.tmp 127, .tmp 128]⟩,
 ⟨some 130, some (117, false), .call (.pv (.fn 12 [] [])) [.tmp 123, .tmp 129]⟩,
 ⟨some 131, some (117, false), .rd (.un .not) [.tmp 130]⟩,
 ⟨some 132, none, .rd .pick [.tmp 117, .pv (.bool true), .tmp 131]⟩]
 .done
 .stop))
 .stop))
 .stop) L8d)
 (.cond (.tmp 132)
 (.seq (.region false [⟨some 4, none, .rd .mov [.pv (.bool false)]⟩] L8d)
 (.ret))
 (.skip)))
 (.region false [⟨some 133, none, .rd .mov [.tmp 11]⟩,
 ⟨some 134, none, .rd (.bin .add) [.tmp 133, .pv (.int .i64 1)]⟩,
 ⟨some 11, none, .rd .mov [.tmp 134]⟩] L8d))))
 (.region false [⟨some 93, none, .rd .mov [.tmp 12]⟩,
 ⟨some 94, none, .rd (.bin .add) [.tmp 93, .pv (.int .i64 1)]⟩,
 ⟨some 12, none, .rd .mov [.tmp 94]⟩] L8d))))))
 (.seq (.region false [⟨some 135, none, .rd (.fldAddr 0) [.tmp 3]⟩,
 ⟨some 136, none, .rd (.load none) [.tmp 135]⟩,
 ⟨some 137, none, .rd .mov [.tmp 6]⟩,
 ⟨some 138, none, .call (.pv (.fn 16 [] [])) [.tmp 136, .tmp 137]⟩,
 ⟨some 13, none, .rd .mov [.tmp 138]⟩] L8d)
 (.seq (.seq (.region false [⟨some 14, none, .rd .mov [.pv (.int .i64 0)]⟩] L8d)
 (.block 4
 (.loop
 (.seq (.seq (.region false [⟨some 139, none, .rd .mov [.tmp 14]⟩,
 ⟨some 140, none, .rd (.fldAddr 1) [.tmp 3]⟩,
 ⟨some 141, none, .rd (.load none) [.tmp 140]⟩,
 ⟨some 142, none, .rd .lenL [.tmp 141]⟩,
 ⟨some 143, none, .rd (.bin .lss) [.tmp 139, .tmp 142]⟩] L8d)
 (.cond (.tmp 143)
 (.skip)
 (.exit 4)))
 (.seq (.block 5
 (.seq (.region false [⟨some 146, none, .rd .mov [.tmp 13]⟩,
 ⟨some 147, none, .rd (.fldAddr 1) [.tmp 3]⟩,
 ⟨some 148, none, .rd (.load none) [.tmp 147]⟩,
 ⟨some 149, none, .rd .mov [.tmp 14]⟩,
 ⟨some 150, none, .rd (.idxAddr none) [.tmp 148, .tmp 149]⟩,
 ⟨some 151, none, .rd (.load none) [.tmp 150]⟩,
 ⟨some 152, none, .call (.pv (.fn 23 [] [])) [.tmp 146, .tmp 151]⟩,
 ⟨some 153, none, .rd (.un .not) [.tmp 152]⟩] L8d)
 (.cond (.tmp 153)
 (.seq (.region false [⟨some 4, none, .rd .mov [.pv (.bool false)]⟩] L8d)
 (.ret))
 (.skip))))
 (.region false [⟨some 144, none, .rd .mov [.tmp 14]⟩,
 ⟨some 145, none, .rd (.bin .add) [.tmp 144, .pv (.int .i64 1)]⟩,
 ⟨some 14, none, .rd .mov [.tmp 145]⟩] L8d))))))
 (.seq (.region false [⟨some 4, none, .rd .mov [.pv (.bool true)]⟩] L8d)
 (.ret))))))))))))))),
 [.tmp 4]⟩
theorem k8d : compileF Try.prog [18, 999999] L8d Try.f8 = some c8d := by kernel_rfl
theorem sort_lim8 {l : List Ed} (hl : l.length ≤ 1048577) : (sortM l).1.length ≤ 1048577 := by
  rcases sort_two l with h | h | h
  · obtain ⟨hw, -, hp⟩ := sort_spec h
    rw [hp.length_eq, ns_len]; omega
  · rw [(sort_ring h).2.2]; simp
  · rw [sort_wrong h.1]; simp
theorem fits2E (x : Ed) : fits (some 2) (.agg [.str x.name, .list none (x.needs.map PV.str)]) :=
  ⟨_, rfl, rfl, fun x hx => by simp at hx; rcases hx with rfl | rfl <;> rfl⟩
theorem cut22 (x : PV) : cut (some 2) (some 2) x 0 = x := by simp [cut]
theorem fil_at {b : List St} {p : St → Bool} {i : Nat} (h : i < b.length) (hp : p b[i] = true) : ((b.take i).filter p).length < (b.filter p).length ∧ (b.filter p)[((b.take i).filter p).length]? = some b[i] := by
  have e : b.filter p = (b.take i).filter p ++ b[i] :: (b.drop (i + 1)).filter p := by
    conv => lhs; rw [← List.take_append_drop i b, List.drop_eq_getElem_cons h, List.filter_append, List.filter_cons_of_pos hp]
  rw [e]; simp
theorem v8 (l : List Ed) (hl : l.length ≤ 1048576) (hnl : ∀ e ∈ l, e.needs.length ≤ 9223372036854775807) (x : Ed) (hxn : x.needs.length ≤ 1048576) : VCalls Try.prog G0 8 [edL l, edP x] (.bool true) := by
  refine VCalls.of_PW Try.func8 k8d mix (by simp [c8d]) ?_
  simp only [c8d, L8d, argE, edP]
  have h10 := v10
  have h11 := v11 (x :: l) 20 (by simp; omega) (by omega)
  have hlen : ((l.map edP).length : Nat) = l.length := by simp
  have hnlx : ((x.needs.map PV.str).length : Nat) = x.needs.length := by simp
  simp only [edL, List.map_cons, edP] at h11
  have nF : ¬ False := fun h => h
  repeat' (first | exact True.intro | (refine PW.stop (x := .seq (.region false (⟨some 15, none, .call (.pv (.fn 10 [] [])) []⟩ :: _) _) _) ?_) | (refine PW.seqK ?_; intro K hK) | refine PW.block ?_ | refine PW.scope ?_ | refine PW.label ?_ | refine PW.exit ?_ | refine PW.ret ?_ | refine PW.skip ?_ | refine seqK_n (by assumption) ?_ | refine seqK_r (by assumption) ?_ | refine seqK_e (by assumption) ?_ | refine PW.regionA ?_ | exact schedW_stop_i | refine schK_n (by assumption) ?_ | (refine schedW_alt_k ?_ ?_; focus (intro K hK; simp only [SS, SS2, SS3, SS4, scopeQ_normal, scopeQ_ret, scopeQ_exit, Option.map_some, Bool.not_false, Bool.not_true, gArgs, gOk, Nat.reduceAdd, PV.shift, MObj.shift, rdV, rdD, reduceIte, Nat.reduceEqDiff, Nat.reduceBEq, PV.bin, PV.binOk, binI, binS, PV.withInt, PV.withIntP, okAll, PV.under, PV.okUnder, eq_self, implies_true, deadOk, ne_eq, allOk, RVar.val, RVar.ok, retV, PV.seen, PV.view, beq_self_eq_true, PV.flat, PV.noOwn, id_eq, behind, PV.kill, MObj.kill, killTag, reduceCtorEq, nilB]; (try go_unwrap; try simp only [toNat_add2, toNat_add1, Int.toNat_natCast, Bool.false_and, Bool.true_and, true_implies, true_and, Bool.false_eq_true, reduceCtorEq, false_implies, Bool.not_false, Bool.not_true, Bool.true_or, Bool.false_or]))) | (refine PW.cond rfl ?_ ?_ <;> intro hcond <;> (try contradiction) <;> try simp only [decide_eq_true_eq, decide_eq_false_iff_not] at hcond) | (refine gd_i ?_; intro hg; try simp only [hg]) | ((first | show @LE.le Nat _ _ _ | show @LT.lt Nat _ _ _ | show @LE.le Int _ _ _ | show @LT.lt Int _ _ _ | show @Eq Nat _ _ | show @Eq Int _ _ | show @Eq Bool _ _ | show _ ∨ _ | show ¬ _); first | omega | (simp only [decide_eq_true_eq, decide_eq_false_iff_not, List.length_cons, List.length_nil, List.length_append, List.length_map, Sh.size] <;> omega) | (go_unwrap; omega)) | ((first | refine PW.region ?_ | refine PW.regionQ ?_ | refine schedW_done_i ?_ | show (_ : Post) _ _ _ | show @Eq (List PV) _ _ | show @Eq Bool _ _ | show opsW _ _ _ _ _ _ _ _ | show okAll _ | show @Eq Bool _ _ ∨ _); focus (simp only [SS, SS2, SS3, SS4, scopeQ_normal, scopeQ_ret, scopeQ_exit, Option.map_some, Bool.not_false, Bool.not_true, gArgs, gOk, Nat.reduceAdd, PV.shift, MObj.shift, rdV, rdD, reduceIte, Nat.reduceEqDiff, Nat.reduceBEq, PV.bin, PV.binOk, binI, binS, PV.withInt, PV.withIntP, okAll, PV.under, PV.okUnder, eq_self, implies_true, deadOk, ne_eq, allOk, RVar.val, RVar.ok, retV, PV.seen, PV.view, beq_self_eq_true, PV.flat, PV.noOwn, id_eq, behind, PV.kill, MObj.kill, killTag, reduceCtorEq, nilB]; (try go_unwrap; try simp only [toNat_add2, toNat_add1, Int.toNat_natCast, Bool.false_and, Bool.true_and, true_implies, true_and, Bool.false_eq_true, reduceCtorEq, false_implies, Bool.not_false, Bool.not_true, Bool.true_or, Bool.false_or]))) | refine And.intro ?_ ?_ | exact Or.inr ⟨rfl, Nat.le_refl _⟩ | exact (fun h => Bool.noConfusion h))
  refine ⟨?_⟩
  refine PW.frzV 3 0 (some 2) _ rfl rfl (fits2E _) (by intro c hc; simp only [PV.cells, List.mem_cons, List.not_mem_nil, or_false] at hc; rcases hc with rfl | rfl <;> simp [PV.noOwn]) rfl ?_
  simp only [frzE, frzMem, List.map_cons, List.map_nil, PV.frz, MObj.frz, frzM, frzSl, SS, SS2, SS3, SS4, scopeQ_normal, scopeQ_ret, scopeQ_exit, Option.map_some, Bool.not_false, Bool.not_true, gArgs, gOk, Nat.reduceAdd, PV.shift, MObj.shift, rdV, rdD, reduceIte, Nat.reduceEqDiff, Nat.reduceBEq, PV.bin, PV.binOk, binI, binS, PV.withInt, PV.withIntP, okAll, PV.under, PV.okUnder, eq_self, implies_true, deadOk, ne_eq, allOk, RVar.val, RVar.ok, retV, PV.seen, PV.view, beq_self_eq_true, PV.flat, PV.noOwn, id_eq, behind, PV.kill, MObj.kill, killTag, reduceCtorEq, nilB]
  have hbA : (1 + l.length ≤ l.length + 1) = True := eq_true (by omega)
  have htA : List.take (1 + l.length) (PV.agg [.str x.name, .list none (x.needs.map PV.str)] :: l.map edP) = PV.agg [.str x.name, .list none (x.needs.map PV.str)] :: l.map edP := List.take_of_length_le (by simp; omega)
  cases hs : shortM (x :: l) 20 with
  | false =>
    rw [hs] at h11
    repeat' (first | exact True.intro | (refine PW.seqK ?_; intro K hK) | refine PW.block ?_ | refine PW.scope ?_ | refine PW.label ?_ | refine PW.exit ?_ | refine PW.ret ?_ | refine PW.skip ?_ | refine seqK_n (by assumption) ?_ | refine seqK_r (by assumption) ?_ | refine seqK_e (by assumption) ?_ | refine PW.regionA ?_ | exact schedW_stop_i | refine schK_n (by assumption) ?_ | (refine schedW_alt_k ?_ ?_; focus (intro K hK; simp only [cut22, hlen, List.length_cons, List.length_nil, Nat.zero_add, List.take_succ_cons, List.take_zero, List.cons_append, List.nil_append, List.length_map, hbA, htA, SS, SS2, SS3, SS4, scopeQ_normal, scopeQ_ret, scopeQ_exit, Option.map_some, Bool.not_false, Bool.not_true, gArgs, gOk, Nat.reduceAdd, PV.shift, MObj.shift, rdV, rdD, reduceIte, Nat.reduceEqDiff, Nat.reduceBEq, PV.bin, PV.binOk, binI, binS, PV.withInt, PV.withIntP, okAll, PV.under, PV.okUnder, eq_self, implies_true, deadOk, ne_eq, allOk, RVar.val, RVar.ok, retV, PV.seen, PV.view, beq_self_eq_true, PV.flat, PV.noOwn, id_eq, behind, PV.kill, MObj.kill, killTag, reduceCtorEq, nilB]; (try go_unwrap; try simp only [cut22, hlen, List.length_cons, List.length_nil, Nat.zero_add, List.take_succ_cons, List.take_zero, List.cons_append, List.nil_append, List.length_map, hbA, htA, toNat_add2, toNat_add1, Int.toNat_natCast, Bool.false_and, Bool.true_and, true_implies, true_and, Bool.false_eq_true, reduceCtorEq, false_implies, Bool.not_false, Bool.not_true, Bool.true_or, Bool.false_or]))) | (refine PW.cond rfl ?_ ?_ <;> intro hcond <;> (try contradiction) <;> try simp only [decide_eq_true_eq, decide_eq_false_iff_not] at hcond) | (refine gd_i ?_; intro hg; try simp only [hg]) | refine goCall_W e10 (h10) ?_ ?_ ?_ ?_ | refine goCall_W e11 (h11) ?_ ?_ ?_ ?_ | ((first | show @LE.le Nat _ _ _ | show @LT.lt Nat _ _ _ | show @LE.le Int _ _ _ | show @LT.lt Int _ _ _ | show @Eq Nat _ _ | show @Eq Int _ _ | show @Eq Bool _ _ | show _ ∨ _ | show ¬ _); first | omega | (simp only [decide_eq_true_eq, decide_eq_false_iff_not, List.length_cons, List.length_nil, List.length_append, List.length_map, Sh.size] <;> omega) | (go_unwrap; omega)) | ((first | refine PW.region ?_ | refine PW.regionQ ?_ | refine schedW_done_i ?_ | show (_ : Post) _ _ _ | show @Eq (List PV) _ _ | show @Eq Bool _ _ | show opsW _ _ _ _ _ _ _ _ | show okAll _ | show @Eq Bool _ _ ∨ _); focus (simp only [cut22, hlen, List.length_cons, List.length_nil, Nat.zero_add, List.take_succ_cons, List.take_zero, List.cons_append, List.nil_append, List.length_map, hbA, htA, SS, SS2, SS3, SS4, scopeQ_normal, scopeQ_ret, scopeQ_exit, Option.map_some, Bool.not_false, Bool.not_true, gArgs, gOk, Nat.reduceAdd, PV.shift, MObj.shift, rdV, rdD, reduceIte, Nat.reduceEqDiff, Nat.reduceBEq, PV.bin, PV.binOk, binI, binS, PV.withInt, PV.withIntP, okAll, PV.under, PV.okUnder, eq_self, implies_true, deadOk, ne_eq, allOk, RVar.val, RVar.ok, retV, PV.seen, PV.view, beq_self_eq_true, PV.flat, PV.noOwn, id_eq, behind, PV.kill, MObj.kill, killTag, reduceCtorEq, nilB]; (try go_unwrap; try simp only [cut22, hlen, List.length_cons, List.length_nil, Nat.zero_add, List.take_succ_cons, List.take_zero, List.cons_append, List.nil_append, List.length_map, hbA, htA, toNat_add2, toNat_add1, Int.toNat_natCast, Bool.false_and, Bool.true_and, true_implies, true_and, Bool.false_eq_true, reduceCtorEq, false_implies, Bool.not_false, Bool.not_true, Bool.true_or, Bool.false_or]))) | refine And.intro ?_ ?_ | exact Or.inr ⟨rfl, Nat.le_refl _⟩ | exact (fun h => Bool.noConfusion h))
    all_goals rfl
  | true =>
  rw [hs] at h11
  repeat' (first | exact True.intro | (refine PW.stop (x := .seq (.region false (⟨some 5, none, .rd .mov [.pv (.int .i64 0)]⟩ :: _) _) _) ?_) | (refine PW.seqK ?_; intro K hK) | refine PW.block ?_ | refine PW.scope ?_ | refine PW.label ?_ | refine PW.exit ?_ | refine PW.ret ?_ | refine PW.skip ?_ | refine seqK_n (by assumption) ?_ | refine seqK_r (by assumption) ?_ | refine seqK_e (by assumption) ?_ | refine PW.regionA ?_ | exact schedW_stop_i | refine schK_n (by assumption) ?_ | (refine schedW_alt_k ?_ ?_; focus (intro K hK; simp only [cut22, hlen, List.length_cons, List.length_nil, Nat.zero_add, List.take_succ_cons, List.take_zero, List.cons_append, List.nil_append, List.length_map, hbA, htA, SS, SS2, SS3, SS4, scopeQ_normal, scopeQ_ret, scopeQ_exit, Option.map_some, Bool.not_false, Bool.not_true, gArgs, gOk, Nat.reduceAdd, PV.shift, MObj.shift, rdV, rdD, reduceIte, Nat.reduceEqDiff, Nat.reduceBEq, PV.bin, PV.binOk, binI, binS, PV.withInt, PV.withIntP, okAll, PV.under, PV.okUnder, eq_self, implies_true, deadOk, ne_eq, allOk, RVar.val, RVar.ok, retV, PV.seen, PV.view, beq_self_eq_true, PV.flat, PV.noOwn, id_eq, behind, PV.kill, MObj.kill, killTag, reduceCtorEq, nilB]; (try go_unwrap; try simp only [cut22, hlen, List.length_cons, List.length_nil, Nat.zero_add, List.take_succ_cons, List.take_zero, List.cons_append, List.nil_append, List.length_map, hbA, htA, toNat_add2, toNat_add1, Int.toNat_natCast, Bool.false_and, Bool.true_and, true_implies, true_and, Bool.false_eq_true, reduceCtorEq, false_implies, Bool.not_false, Bool.not_true, Bool.true_or, Bool.false_or]))) | (refine PW.cond rfl ?_ ?_ <;> intro hcond <;> (try contradiction) <;> try simp only [decide_eq_true_eq, decide_eq_false_iff_not] at hcond) | (refine gd_i ?_; intro hg; try simp only [hg]) | refine goCall_W e10 (h10) ?_ ?_ ?_ ?_ | refine goCall_W e11 (h11) ?_ ?_ ?_ ?_ | ((first | show @LE.le Nat _ _ _ | show @LT.lt Nat _ _ _ | show @LE.le Int _ _ _ | show @LT.lt Int _ _ _ | show @Eq Nat _ _ | show @Eq Int _ _ | show @Eq Bool _ _ | show _ ∨ _ | show ¬ _); first | omega | (simp only [decide_eq_true_eq, decide_eq_false_iff_not, List.length_cons, List.length_nil, List.length_append, List.length_map, Sh.size] <;> omega) | (go_unwrap; omega)) | ((first | refine PW.region ?_ | refine PW.regionQ ?_ | refine schedW_done_i ?_ | show (_ : Post) _ _ _ | show @Eq (List PV) _ _ | show @Eq Bool _ _ | show opsW _ _ _ _ _ _ _ _ | show okAll _ | show @Eq Bool _ _ ∨ _); focus (simp only [cut22, hlen, List.length_cons, List.length_nil, Nat.zero_add, List.take_succ_cons, List.take_zero, List.cons_append, List.nil_append, List.length_map, hbA, htA, SS, SS2, SS3, SS4, scopeQ_normal, scopeQ_ret, scopeQ_exit, Option.map_some, Bool.not_false, Bool.not_true, gArgs, gOk, Nat.reduceAdd, PV.shift, MObj.shift, rdV, rdD, reduceIte, Nat.reduceEqDiff, Nat.reduceBEq, PV.bin, PV.binOk, binI, binS, PV.withInt, PV.withIntP, okAll, PV.under, PV.okUnder, eq_self, implies_true, deadOk, ne_eq, allOk, RVar.val, RVar.ok, retV, PV.seen, PV.view, beq_self_eq_true, PV.flat, PV.noOwn, id_eq, behind, PV.kill, MObj.kill, killTag, reduceCtorEq, nilB]; (try go_unwrap; try simp only [cut22, hlen, List.length_cons, List.length_nil, Nat.zero_add, List.take_succ_cons, List.take_zero, List.cons_append, List.nil_append, List.length_map, hbA, htA, toNat_add2, toNat_add1, Int.toNat_natCast, Bool.false_and, Bool.true_and, true_implies, true_and, Bool.false_eq_true, reduceCtorEq, false_implies, Bool.not_false, Bool.not_true, Bool.true_or, Bool.false_or]))) | refine And.intro ?_ ?_ | exact Or.inr ⟨rfl, Nat.le_refl _⟩ | exact (fun h => Bool.noConfusion h))
  all_goals first | (show @Eq (List PV) _ _; rfl) | skip
  refine ⟨?_⟩
  refine PW.trim 0 (fun _ _ => rfl) ?_
  simp only [trimE, trimM, List.take_zero, List.map_cons, List.map_nil, PV.kill, Nat.zero_le, decide_true, if_true]
  repeat' (first | exact True.intro | (refine PW.seqK ?_; intro K hK) | refine PW.block ?_ | refine PW.scope ?_ | refine PW.label ?_ | refine PW.exit ?_ | refine PW.ret ?_ | refine PW.skip ?_ | refine seqK_n (by assumption) ?_ | refine seqK_r (by assumption) ?_ | refine seqK_e (by assumption) ?_ | refine PW.regionA ?_ | exact schedW_stop_i | refine schK_n (by assumption) ?_ | (refine schedW_alt_k ?_ ?_; focus (intro K hK; simp only [SS, SS2, SS3, SS4, scopeQ_normal, scopeQ_ret, scopeQ_exit, Option.map_some, Bool.not_false, Bool.not_true, gArgs, gOk, Nat.reduceAdd, PV.shift, MObj.shift, rdV, rdD, reduceIte, Nat.reduceEqDiff, Nat.reduceBEq, PV.bin, PV.binOk, binI, binS, PV.withInt, PV.withIntP, okAll, PV.under, PV.okUnder, eq_self, implies_true, deadOk, ne_eq, allOk, RVar.val, RVar.ok, retV, PV.seen, PV.view, beq_self_eq_true, PV.flat, PV.noOwn, id_eq, behind, PV.kill, MObj.kill, killTag, reduceCtorEq, nilB]; (try go_unwrap; try simp only [toNat_add2, toNat_add1, Int.toNat_natCast, Bool.false_and, Bool.true_and, true_implies, true_and, Bool.false_eq_true, reduceCtorEq, false_implies, Bool.not_false, Bool.not_true, Bool.true_or, Bool.false_or]))) | (refine PW.cond rfl ?_ ?_ <;> intro hcond <;> (try contradiction) <;> try simp only [decide_eq_true_eq, decide_eq_false_iff_not] at hcond) | (refine gd_i ?_; intro hg; try simp only [hg]) | ((first | show @LE.le Nat _ _ _ | show @LT.lt Nat _ _ _ | show @LE.le Int _ _ _ | show @LT.lt Int _ _ _ | show @Eq Nat _ _ | show @Eq Int _ _ | show @Eq Bool _ _ | show _ ∨ _ | show ¬ _); first | omega | (simp only [decide_eq_true_eq, decide_eq_false_iff_not, List.length_cons, List.length_nil, List.length_append, List.length_map, Sh.size] <;> omega) | (go_unwrap; omega)) | ((first | refine PW.region ?_ | refine PW.regionQ ?_ | refine schedW_done_i ?_ | show (_ : Post) _ _ _ | show @Eq (List PV) _ _ | show @Eq Bool _ _ | show opsW _ _ _ _ _ _ _ _ | show okAll _ | show @Eq Bool _ _ ∨ _); focus (simp only [SS, SS2, SS3, SS4, scopeQ_normal, scopeQ_ret, scopeQ_exit, Option.map_some, Bool.not_false, Bool.not_true, gArgs, gOk, Nat.reduceAdd, PV.shift, MObj.shift, rdV, rdD, reduceIte, Nat.reduceEqDiff, Nat.reduceBEq, PV.bin, PV.binOk, binI, binS, PV.withInt, PV.withIntP, okAll, PV.under, PV.okUnder, eq_self, implies_true, deadOk, ne_eq, allOk, RVar.val, RVar.ok, retV, PV.seen, PV.view, beq_self_eq_true, PV.flat, PV.noOwn, id_eq, behind, PV.kill, MObj.kill, killTag, reduceCtorEq, nilB]; (try go_unwrap; try simp only [toNat_add2, toNat_add1, Int.toNat_natCast, Bool.false_and, Bool.true_and, true_implies, true_and, Bool.false_eq_true, reduceCtorEq, false_implies, Bool.not_false, Bool.not_true, Bool.true_or, Bool.false_or]))) | refine And.intro ?_ ?_ | exact Or.inr ⟨rfl, Nat.le_refl _⟩ | exact (fun h => Bool.noConfusion h))
  refine PW.loop (σ := Nat) [0, 1, 3, 4, 5] (fun i => [edL l, .agg [.str x.name, .list none (x.needs.map PV.str)], .cptr (some 2) (PV.agg [.str x.name, .list none (x.needs.map PV.str)]) 0, .bool false, .int .i64 i]) (fun _ => []) (fun i => i ≤ l.length ∧ ∀ j (h : j < l.length), j < i → l[j].name ≠ x.name ∧ x.name ∉ l[j].needs) (fun i => l.length - i) 0 ?_ rfl ⟨by omega, fun j _ h => by omega⟩ ?_
  · simp only [SS, SS2, SS3, SS4, scopeQ_normal, scopeQ_ret, scopeQ_exit, Option.map_some, Bool.not_false, Bool.not_true, gArgs, gOk, Nat.reduceAdd, PV.shift, MObj.shift, rdV, rdD, reduceIte, Nat.reduceEqDiff, Nat.reduceBEq, PV.bin, PV.binOk, binI, binS, PV.withInt, PV.withIntP, okAll, PV.under, PV.okUnder, eq_self, implies_true, deadOk, ne_eq, allOk, RVar.val, RVar.ok, retV, PV.seen, PV.view, beq_self_eq_true, PV.flat, PV.noOwn, id_eq, behind, PV.kill, MObj.kill, killTag, reduceCtorEq, nilB]; rfl
  rintro i ⟨hi, hall⟩
  simp only [List.zip_cons_cons, List.zip_nil_left]
  rcases Nat.lt_or_ge i l.length with h | h
  · have hd : decide ((i : Int) < l.length) = true := by simp only [decide_eq_true_eq]; omega
    have hg := ed_getD l i h
    have hne := hnl l[i] (List.getElem_mem h)
    have hnx : l[i].name ≠ x.name → x.name ∉ l[i].needs → ∀ j (h : j < l.length), j < i + 1 → l[j].name ≠ x.name ∧ x.name ∉ l[j].needs := fun hp hq j hj hji => by
      rcases Nat.lt_or_ge j i with h' | h'
      · exact hall j hj h'
      · obtain rfl : j = i := by omega
        exact ⟨hp, hq⟩
    clear hall h11 hbA htA
    generalize l[i] = e at hg hnx hne
    simp only [edP] at hg
    have h23 := v23 e.needs x.name hne
    by_cases he : e.name = x.name
    · have d1 : decide (e.name = x.name) = true := by simpa using he
      repeat' (first | exact True.intro | (refine PW.seqA (E := ?_) (M := ?_) ?_ ?_; rotate_left 2) | exact mergeQ_mk _ _ | (refine PW.seqK ?_; intro K hK) | refine PW.block ?_ | refine PW.scope ?_ | refine PW.label ?_ | refine PW.exit ?_ | refine PW.ret ?_ | refine PW.skip ?_ | refine seqK_n (by assumption) ?_ | refine seqK_r (by assumption) ?_ | refine seqK_e (by assumption) ?_ | refine PW.regionA ?_ | exact schedW_stop_i | refine schK_n (by assumption) ?_ | (refine schedW_alt_k ?_ ?_; focus (intro K hK; simp only [hd, hg, hlen, d1, SS, SS2, SS3, SS4, scopeQ_normal, scopeQ_ret, scopeQ_exit, Option.map_some, Bool.not_false, Bool.not_true, gArgs, gOk, Nat.reduceAdd, PV.shift, MObj.shift, rdV, rdD, reduceIte, Nat.reduceEqDiff, Nat.reduceBEq, PV.bin, PV.binOk, binI, binS, PV.withInt, PV.withIntP, okAll, PV.under, PV.okUnder, eq_self, implies_true, deadOk, ne_eq, allOk, RVar.val, RVar.ok, retV, PV.seen, PV.view, beq_self_eq_true, PV.flat, PV.noOwn, id_eq, behind, PV.kill, MObj.kill, killTag, reduceCtorEq, nilB]; (try go_unwrap; try simp only [hd, hg, hlen, d1, toNat_add2, toNat_add1, Int.toNat_natCast, Bool.false_and, Bool.true_and, true_implies, true_and, Bool.false_eq_true, reduceCtorEq, false_implies, Bool.not_false, Bool.not_true, Bool.true_or, Bool.false_or]))) | (refine PW.cond rfl ?_ ?_ <;> intro hcond <;> (try contradiction) <;> try simp only [decide_eq_true_eq, decide_eq_false_iff_not] at hcond) | (refine gd_i ?_; intro hg; try simp only [hg]) | refine goCallG_W e23 (h23) ?_ ?_ ?_ ?_ ?_ | ((first | show @LE.le Nat _ _ _ | show @LT.lt Nat _ _ _ | show @LE.le Int _ _ _ | show @LT.lt Int _ _ _ | show @Eq Nat _ _ | show @Eq Int _ _ | show @Eq Bool _ _ | show _ ∨ _ | show ¬ _); first | omega | (simp only [decide_eq_true_eq, decide_eq_false_iff_not, List.length_cons, List.length_nil, List.length_append, List.length_map, Sh.size] <;> omega) | (go_unwrap; omega)) | ((first | refine PW.region ?_ | refine PW.regionQ ?_ | refine schedW_done_i ?_ | show (_ : Post) _ _ _ | show @Eq (List PV) _ _ | show @Eq Bool _ _ | show opsW _ _ _ _ _ _ _ _ | show okAll _ | show @Eq Bool _ _ ∨ _); focus (simp only [hd, hg, hlen, d1, SS, SS2, SS3, SS4, scopeQ_normal, scopeQ_ret, scopeQ_exit, Option.map_some, Bool.not_false, Bool.not_true, gArgs, gOk, Nat.reduceAdd, PV.shift, MObj.shift, rdV, rdD, reduceIte, Nat.reduceEqDiff, Nat.reduceBEq, PV.bin, PV.binOk, binI, binS, PV.withInt, PV.withIntP, okAll, PV.under, PV.okUnder, eq_self, implies_true, deadOk, ne_eq, allOk, RVar.val, RVar.ok, retV, PV.seen, PV.view, beq_self_eq_true, PV.flat, PV.noOwn, id_eq, behind, PV.kill, MObj.kill, killTag, reduceCtorEq, nilB]; (try go_unwrap; try simp only [hd, hg, hlen, d1, toNat_add2, toNat_add1, Int.toNat_natCast, Bool.false_and, Bool.true_and, true_implies, true_and, Bool.false_eq_true, reduceCtorEq, false_implies, Bool.not_false, Bool.not_true, Bool.true_or, Bool.false_or]))) | refine And.intro ?_ ?_ | exact Or.inr ⟨rfl, Nat.le_refl _⟩ | exact (fun h => Bool.noConfusion h))
      all_goals skip
    · have d1 : decide (e.name = x.name) = false := by simpa using he
      by_cases hx2 : x.name ∈ e.needs
      · rw [decide_eq_true hx2] at h23
        repeat' (first | exact True.intro | (refine PW.seqA (E := ?_) (M := ?_) ?_ ?_; rotate_left 2) | exact mergeQ_mk _ _ | (refine PW.seqK ?_; intro K hK) | refine PW.block ?_ | refine PW.scope ?_ | refine PW.label ?_ | refine PW.exit ?_ | refine PW.ret ?_ | refine PW.skip ?_ | refine seqK_n (by assumption) ?_ | refine seqK_r (by assumption) ?_ | refine seqK_e (by assumption) ?_ | refine PW.regionA ?_ | exact schedW_stop_i | refine schK_n (by assumption) ?_ | (refine schedW_alt_k ?_ ?_; focus (intro K hK; simp only [hd, hg, hlen, d1, SS, SS2, SS3, SS4, scopeQ_normal, scopeQ_ret, scopeQ_exit, Option.map_some, Bool.not_false, Bool.not_true, gArgs, gOk, Nat.reduceAdd, PV.shift, MObj.shift, rdV, rdD, reduceIte, Nat.reduceEqDiff, Nat.reduceBEq, PV.bin, PV.binOk, binI, binS, PV.withInt, PV.withIntP, okAll, PV.under, PV.okUnder, eq_self, implies_true, deadOk, ne_eq, allOk, RVar.val, RVar.ok, retV, PV.seen, PV.view, beq_self_eq_true, PV.flat, PV.noOwn, id_eq, behind, PV.kill, MObj.kill, killTag, reduceCtorEq, nilB]; (try go_unwrap; try simp only [hd, hg, hlen, d1, toNat_add2, toNat_add1, Int.toNat_natCast, Bool.false_and, Bool.true_and, true_implies, true_and, Bool.false_eq_true, reduceCtorEq, false_implies, Bool.not_false, Bool.not_true, Bool.true_or, Bool.false_or]))) | (refine PW.cond rfl ?_ ?_ <;> intro hcond <;> (try contradiction) <;> try simp only [decide_eq_true_eq, decide_eq_false_iff_not] at hcond) | (refine gd_i ?_; intro hg; try simp only [hg]) | refine goCallG_W e23 (h23) ?_ ?_ ?_ ?_ ?_ | ((first | show @LE.le Nat _ _ _ | show @LT.lt Nat _ _ _ | show @LE.le Int _ _ _ | show @LT.lt Int _ _ _ | show @Eq Nat _ _ | show @Eq Int _ _ | show @Eq Bool _ _ | show _ ∨ _ | show ¬ _); first | omega | (simp only [decide_eq_true_eq, decide_eq_false_iff_not, List.length_cons, List.length_nil, List.length_append, List.length_map, Sh.size] <;> omega) | (go_unwrap; omega)) | ((first | refine PW.region ?_ | refine PW.regionQ ?_ | refine schedW_done_i ?_ | show (_ : Post) _ _ _ | show @Eq (List PV) _ _ | show @Eq Bool _ _ | show opsW _ _ _ _ _ _ _ _ | show okAll _ | show @Eq Bool _ _ ∨ _); focus (simp only [hd, hg, hlen, d1, SS, SS2, SS3, SS4, scopeQ_normal, scopeQ_ret, scopeQ_exit, Option.map_some, Bool.not_false, Bool.not_true, gArgs, gOk, Nat.reduceAdd, PV.shift, MObj.shift, rdV, rdD, reduceIte, Nat.reduceEqDiff, Nat.reduceBEq, PV.bin, PV.binOk, binI, binS, PV.withInt, PV.withIntP, okAll, PV.under, PV.okUnder, eq_self, implies_true, deadOk, ne_eq, allOk, RVar.val, RVar.ok, retV, PV.seen, PV.view, beq_self_eq_true, PV.flat, PV.noOwn, id_eq, behind, PV.kill, MObj.kill, killTag, reduceCtorEq, nilB]; (try go_unwrap; try simp only [hd, hg, hlen, d1, toNat_add2, toNat_add1, Int.toNat_natCast, Bool.false_and, Bool.true_and, true_implies, true_and, Bool.false_eq_true, reduceCtorEq, false_implies, Bool.not_false, Bool.not_true, Bool.true_or, Bool.false_or]))) | refine And.intro ?_ ?_ | exact Or.inr ⟨rfl, Nat.le_refl _⟩ | exact (fun h => Bool.noConfusion h))
        all_goals skip
      · rw [decide_eq_false hx2] at h23
        have hnx := hnx he hx2
        repeat' (first | exact True.intro | (refine PW.seqA (E := ?_) (M := ?_) ?_ ?_; rotate_left 2) | exact mergeQ_mk _ _ | (refine PW.seqK ?_; intro K hK) | refine PW.block ?_ | refine PW.scope ?_ | refine PW.label ?_ | refine PW.exit ?_ | refine PW.ret ?_ | refine PW.skip ?_ | refine seqK_n (by assumption) ?_ | refine seqK_r (by assumption) ?_ | refine seqK_e (by assumption) ?_ | refine PW.regionA ?_ | exact schedW_stop_i | refine schK_n (by assumption) ?_ | (refine schedW_alt_k ?_ ?_; focus (intro K hK; simp only [hd, hg, hlen, d1, SS, SS2, SS3, SS4, scopeQ_normal, scopeQ_ret, scopeQ_exit, Option.map_some, Bool.not_false, Bool.not_true, gArgs, gOk, Nat.reduceAdd, PV.shift, MObj.shift, rdV, rdD, reduceIte, Nat.reduceEqDiff, Nat.reduceBEq, PV.bin, PV.binOk, binI, binS, PV.withInt, PV.withIntP, okAll, PV.under, PV.okUnder, eq_self, implies_true, deadOk, ne_eq, allOk, RVar.val, RVar.ok, retV, PV.seen, PV.view, beq_self_eq_true, PV.flat, PV.noOwn, id_eq, behind, PV.kill, MObj.kill, killTag, reduceCtorEq, nilB]; (try go_unwrap; try simp only [hd, hg, hlen, d1, toNat_add2, toNat_add1, Int.toNat_natCast, Bool.false_and, Bool.true_and, true_implies, true_and, Bool.false_eq_true, reduceCtorEq, false_implies, Bool.not_false, Bool.not_true, Bool.true_or, Bool.false_or]))) | (refine PW.cond rfl ?_ ?_ <;> intro hcond <;> (try contradiction) <;> try simp only [decide_eq_true_eq, decide_eq_false_iff_not] at hcond) | (refine gd_i ?_; intro hg; try simp only [hg]) | refine goCallG_W e23 (h23) ?_ ?_ ?_ ?_ ?_ | ((first | show @LE.le Nat _ _ _ | show @LT.lt Nat _ _ _ | show @LE.le Int _ _ _ | show @LT.lt Int _ _ _ | show @Eq Nat _ _ | show @Eq Int _ _ | show @Eq Bool _ _ | show _ ∨ _ | show ¬ _); first | omega | (simp only [decide_eq_true_eq, decide_eq_false_iff_not, List.length_cons, List.length_nil, List.length_append, List.length_map, Sh.size] <;> omega) | (go_unwrap; omega)) | ((first | refine PW.region ?_ | refine PW.regionQ ?_ | refine schedW_done_i ?_ | show (_ : Post) _ _ _ | show @Eq (List PV) _ _ | show @Eq Bool _ _ | show opsW _ _ _ _ _ _ _ _ | show okAll _ | show @Eq Bool _ _ ∨ _); focus (simp only [hd, hg, hlen, d1, SS, SS2, SS3, SS4, scopeQ_normal, scopeQ_ret, scopeQ_exit, Option.map_some, Bool.not_false, Bool.not_true, gArgs, gOk, Nat.reduceAdd, PV.shift, MObj.shift, rdV, rdD, reduceIte, Nat.reduceEqDiff, Nat.reduceBEq, PV.bin, PV.binOk, binI, binS, PV.withInt, PV.withIntP, okAll, PV.under, PV.okUnder, eq_self, implies_true, deadOk, ne_eq, allOk, RVar.val, RVar.ok, retV, PV.seen, PV.view, beq_self_eq_true, PV.flat, PV.noOwn, id_eq, behind, PV.kill, MObj.kill, killTag, reduceCtorEq, nilB]; (try go_unwrap; try simp only [hd, hg, hlen, d1, toNat_add2, toNat_add1, Int.toNat_natCast, Bool.false_and, Bool.true_and, true_implies, true_and, Bool.false_eq_true, reduceCtorEq, false_implies, Bool.not_false, Bool.not_true, Bool.true_or, Bool.false_or]))) | refine And.intro ?_ ?_ | exact Or.inr ⟨rfl, Nat.le_refl _⟩ | exact (fun h => Bool.noConfusion h))
        all_goals exact ⟨i + 1, rfl, ⟨by omega, hnx⟩, by omega⟩
  have hd : decide ((i : Int) < l.length) = false := by simp only [decide_eq_false_iff_not]; omega
  have hnew : ∀ e ∈ l, e.name ≠ x.name ∧ x.name ∉ e.needs := fun e he => by
    obtain ⟨j, hj, rfl⟩ := List.getElem_of_mem he
    exact hall j hj (by omega)
  clear hall
  have h23 := v23 x.needs x.name (by omega)
  by_cases hself : x.name ∈ x.needs
  · rw [decide_eq_true hself] at h23
    repeat' (first | exact True.intro | (refine PW.seqK ?_; intro K hK) | refine PW.block ?_ | refine PW.scope ?_ | refine PW.label ?_ | refine PW.exit ?_ | refine PW.ret ?_ | refine PW.skip ?_ | refine seqK_n (by assumption) ?_ | refine seqK_r (by assumption) ?_ | refine seqK_e (by assumption) ?_ | refine PW.regionA ?_ | exact schedW_stop_i | refine schK_n (by assumption) ?_ | (refine schedW_alt_k ?_ ?_; focus (intro K hK; simp only [hd, hlen, SS, SS2, SS3, SS4, scopeQ_normal, scopeQ_ret, scopeQ_exit, Option.map_some, Bool.not_false, Bool.not_true, gArgs, gOk, Nat.reduceAdd, PV.shift, MObj.shift, rdV, rdD, reduceIte, Nat.reduceEqDiff, Nat.reduceBEq, PV.bin, PV.binOk, binI, binS, PV.withInt, PV.withIntP, okAll, PV.under, PV.okUnder, eq_self, implies_true, deadOk, ne_eq, allOk, RVar.val, RVar.ok, retV, PV.seen, PV.view, beq_self_eq_true, PV.flat, PV.noOwn, id_eq, behind, PV.kill, MObj.kill, killTag, reduceCtorEq, nilB]; (try go_unwrap; try simp only [hd, hlen, toNat_add2, toNat_add1, Int.toNat_natCast, Bool.false_and, Bool.true_and, true_implies, true_and, Bool.false_eq_true, reduceCtorEq, false_implies, Bool.not_false, Bool.not_true, Bool.true_or, Bool.false_or]))) | (refine PW.cond rfl ?_ ?_ <;> intro hcond <;> (try contradiction) <;> try simp only [decide_eq_true_eq, decide_eq_false_iff_not] at hcond) | (refine gd_i ?_; intro hg; try simp only [hg]) | refine goCall_W e23 (h23) ?_ ?_ ?_ ?_ | ((first | show @LE.le Nat _ _ _ | show @LT.lt Nat _ _ _ | show @LE.le Int _ _ _ | show @LT.lt Int _ _ _ | show @Eq Nat _ _ | show @Eq Int _ _ | show @Eq Bool _ _ | show _ ∨ _ | show ¬ _); first | omega | (simp only [decide_eq_true_eq, decide_eq_false_iff_not, List.length_cons, List.length_nil, List.length_append, List.length_map, Sh.size] <;> omega) | (go_unwrap; omega)) | ((first | refine PW.region ?_ | refine PW.regionQ ?_ | refine schedW_done_i ?_ | show (_ : Post) _ _ _ | show @Eq (List PV) _ _ | show @Eq Bool _ _ | show opsW _ _ _ _ _ _ _ _ | show okAll _ | show @Eq Bool _ _ ∨ _); focus (simp only [hd, hlen, SS, SS2, SS3, SS4, scopeQ_normal, scopeQ_ret, scopeQ_exit, Option.map_some, Bool.not_false, Bool.not_true, gArgs, gOk, Nat.reduceAdd, PV.shift, MObj.shift, rdV, rdD, reduceIte, Nat.reduceEqDiff, Nat.reduceBEq, PV.bin, PV.binOk, binI, binS, PV.withInt, PV.withIntP, okAll, PV.under, PV.okUnder, eq_self, implies_true, deadOk, ne_eq, allOk, RVar.val, RVar.ok, retV, PV.seen, PV.view, beq_self_eq_true, PV.flat, PV.noOwn, id_eq, behind, PV.kill, MObj.kill, killTag, reduceCtorEq, nilB]; (try go_unwrap; try simp only [hd, hlen, toNat_add2, toNat_add1, Int.toNat_natCast, Bool.false_and, Bool.true_and, true_implies, true_and, Bool.false_eq_true, reduceCtorEq, false_implies, Bool.not_false, Bool.not_true, Bool.true_or, Bool.false_or]))) | refine And.intro ?_ ?_ | exact Or.inr ⟨rfl, Nat.le_refl _⟩ | exact (fun h => Bool.noConfusion h))
  rw [decide_eq_false hself] at h23
  have hN : NewE l x := ⟨hnew, hself⟩
  have htl : (l.map edP).take l.length = l.map edP := List.take_of_length_le (by simp)
  have hbl : (l.map edP ++ [PV.agg [.str x.name, .list none (x.needs.map PV.str)]]).length = l.length + 1 := by simp
  have hmore : l.map edP ++ [PV.agg [.str x.name, .list none (x.needs.map PV.str)]] = (l ++ [x]).map edP := by simp [edP]
  have hbt : ((l ++ [x]).map edP).take (l.length + 1) = (l ++ [x]).map edP := List.take_of_length_le (by simp)
  have hbl2 : ((l ++ [x]).map edP).length = l.length + 1 := by simp
  have b1 : (l.length + 1) * 40 ≤ 140737488355328 := by omega
  repeat' (first | exact True.intro | (refine PW.seqA (E := ?_) (M := ?_) ?_ ?_; rotate_left 2) | exact mergeQ_mk _ _ | (refine PW.stop (x := .seq (.region false (⟨some 59, none, .rd .mov [.tmp 0]⟩ :: _) _) _) ?_) | (refine PW.seqK ?_; intro K hK) | refine PW.block ?_ | refine PW.scope ?_ | refine PW.label ?_ | refine PW.exit ?_ | refine PW.ret ?_ | refine PW.skip ?_ | refine seqK_n (by assumption) ?_ | refine seqK_r (by assumption) ?_ | refine seqK_e (by assumption) ?_ | refine PW.regionA ?_ | exact schedW_stop_i | refine schK_n (by assumption) ?_ | (refine schedW_alt_k ?_ ?_; focus (intro K hK; simp only [hd, hlen, cut22, htl, List.take_nil, List.nil_append, List.length_nil, Nat.zero_add, List.length_cons, hmore, SS, SS2, SS3, SS4, scopeQ_normal, scopeQ_ret, scopeQ_exit, Option.map_some, Bool.not_false, Bool.not_true, gArgs, gOk, Nat.reduceAdd, PV.shift, MObj.shift, rdV, rdD, reduceIte, Nat.reduceEqDiff, Nat.reduceBEq, PV.bin, PV.binOk, binI, binS, PV.withInt, PV.withIntP, okAll, PV.under, PV.okUnder, eq_self, implies_true, deadOk, ne_eq, allOk, RVar.val, RVar.ok, retV, PV.seen, PV.view, beq_self_eq_true, PV.flat, PV.noOwn, id_eq, behind, PV.kill, MObj.kill, killTag, reduceCtorEq, nilB]; (try go_unwrap; try simp only [hd, hlen, cut22, htl, List.take_nil, List.nil_append, List.length_nil, Nat.zero_add, List.length_cons, hmore, toNat_add2, toNat_add1, Int.toNat_natCast, Bool.false_and, Bool.true_and, true_implies, true_and, Bool.false_eq_true, reduceCtorEq, false_implies, Bool.not_false, Bool.not_true, Bool.true_or, Bool.false_or]))) | (refine PW.cond rfl ?_ ?_ <;> intro hcond <;> (try contradiction) <;> try simp only [decide_eq_true_eq, decide_eq_false_iff_not] at hcond) | (refine gd_i ?_; intro hg; try simp only [hg]) | refine goCall_W e23 (h23) ?_ ?_ ?_ ?_ | ((first | show @LE.le Nat _ _ _ | show @LT.lt Nat _ _ _ | show @LE.le Int _ _ _ | show @LT.lt Int _ _ _ | show @Eq Nat _ _ | show @Eq Int _ _ | show @Eq Bool _ _ | show _ ∨ _ | show ¬ _); first | omega | (simp only [decide_eq_true_eq, decide_eq_false_iff_not, List.length_cons, List.length_nil, List.length_append, List.length_map, Sh.size] <;> omega) | (go_unwrap; omega)) | ((first | refine PW.region ?_ | refine PW.regionQ ?_ | refine schedW_done_i ?_ | show (_ : Post) _ _ _ | show @Eq (List PV) _ _ | show @Eq Bool _ _ | show opsW _ _ _ _ _ _ _ _ | show okAll _ | show @Eq Bool _ _ ∨ _); focus (simp only [hd, hlen, cut22, htl, List.take_nil, List.nil_append, List.length_nil, Nat.zero_add, List.length_cons, hmore, SS, SS2, SS3, SS4, scopeQ_normal, scopeQ_ret, scopeQ_exit, Option.map_some, Bool.not_false, Bool.not_true, gArgs, gOk, Nat.reduceAdd, PV.shift, MObj.shift, rdV, rdD, reduceIte, Nat.reduceEqDiff, Nat.reduceBEq, PV.bin, PV.binOk, binI, binS, PV.withInt, PV.withIntP, okAll, PV.under, PV.okUnder, eq_self, implies_true, deadOk, ne_eq, allOk, RVar.val, RVar.ok, retV, PV.seen, PV.view, beq_self_eq_true, PV.flat, PV.noOwn, id_eq, behind, PV.kill, MObj.kill, killTag, reduceCtorEq, nilB]; (try go_unwrap; try simp only [hd, hlen, cut22, htl, List.take_nil, List.nil_append, List.length_nil, Nat.zero_add, List.length_cons, hmore, toNat_add2, toNat_add1, Int.toNat_natCast, Bool.false_and, Bool.true_and, true_implies, true_and, Bool.false_eq_true, reduceCtorEq, false_implies, Bool.not_false, Bool.not_true, Bool.true_or, Bool.false_or]))) | refine And.intro ?_ ?_ | exact Or.inr ⟨rfl, Nat.le_refl _⟩ | exact (fun h => Bool.noConfusion h))
  refine ⟨?_⟩
  simp only [SS, SS2, SS3, SS4, scopeQ_normal, scopeQ_ret, scopeQ_exit, Option.map_some, Bool.not_false, Bool.not_true, gArgs, gOk, Nat.reduceAdd, PV.shift, MObj.shift, rdV, rdD, reduceIte, Nat.reduceEqDiff, Nat.reduceBEq, PV.bin, PV.binOk, binI, binS, PV.withInt, PV.withIntP, okAll, PV.under, PV.okUnder, eq_self, implies_true, deadOk, ne_eq, allOk, RVar.val, RVar.ok, retV, PV.seen, PV.view, beq_self_eq_true, PV.flat, PV.noOwn, id_eq, behind, PV.kill, MObj.kill, killTag, reduceCtorEq, nilB]
  have hLb : (l ++ [x]).length ≤ 1000000000 := by simp; omega
  have hnb : ∀ e ∈ l ++ [x], e.needs.length ≤ 9223372036854775807 := fun e he => by
    rcases List.mem_append.1 he with he | he
    · exact hnl e he
    · simp at he; subst he; omega
  have h20 := v20 l (by omega) hnl
  have h20b := v20 (l ++ [x]) hLb hnb
  have hlB := sort_lim8 (l := l ++ [x]) (by simp; omega)
  have hsB := sort_spec (l := l ++ [x])
  have hoB := sorts_ok (l := l ++ [x])
  have h21 := fun o ho => v21 (l ++ [x]) hLb hnb o ho
  have had := adds_sort (l := l) (x := x) hN
  have hempty : (sortM (l ++ [x])).2 ≠ 0 → (sortM (l ++ [x])).1 = [] := fun h => by
    rcases sort_two (l ++ [x]) with h1 | h1 | h1
    · exact absurd h1 h
    · exact (sort_ring h1).2.2
    · rw [sort_wrong h1.1]
  have h16 := v16 l (by omega) hnl
  have h16b := v16 (l ++ [x]) hLb hnb
  obtain ⟨⟨A, e⟩, hA⟩ : ∃ R, sortM l = R := ⟨_, rfl⟩
  obtain ⟨⟨B, f⟩, hB⟩ : ∃ R, sortM (l ++ [x]) = R := ⟨_, rfl⟩
  simp only [hB] at h20b hlB hsB hoB hempty had
  simp only [hA] at h20 had
  clear hA hB
  have hAl : ((A.map PV.str).length : Nat) = A.length := by simp
  have hBl : ((B.map PV.str).length : Nat) = B.length := by simp
  by_cases hf : f = 0
  case neg =>
    have hB0 := hempty hf
    subst hB0
    have d1 : decide (f = 0) = false := by simpa using hf
    have hz : decide ((((([] : List St).map PV.str).length : Nat) : Int) = 0) = true := rfl
    repeat' (first | exact True.intro | (refine PW.regionF (cs := ⟨some 59, none, .rd .mov [.tmp 0]⟩ :: _) 0 0 ?_; simp only [List.take_succ_cons, List.take_zero, List.drop_succ_cons, List.drop_zero, hbl2, hbt, d1, hz, Nat.le_refl, SS, SS2, SS3, SS4, scopeQ_normal, scopeQ_ret, scopeQ_exit, Option.map_some, Bool.not_false, Bool.not_true, gArgs, gOk, Nat.reduceAdd, PV.shift, MObj.shift, rdV, rdD, reduceIte, Nat.reduceEqDiff, Nat.reduceBEq, PV.bin, PV.binOk, binI, binS, PV.withInt, PV.withIntP, okAll, PV.under, PV.okUnder, eq_self, implies_true, deadOk, ne_eq, allOk, RVar.val, RVar.ok, retV, PV.seen, PV.view, beq_self_eq_true, PV.flat, PV.noOwn, id_eq, behind, PV.kill, MObj.kill, killTag, reduceCtorEq, nilB]; (try go_unwrap; try simp only [hbl2, hbt, d1, hz, Nat.le_refl, toNat_add2, toNat_add1, Int.toNat_natCast, Bool.false_and, Bool.true_and, true_implies, true_and, Bool.false_eq_true, reduceCtorEq, false_implies, Bool.not_false, Bool.not_true, Bool.true_or, Bool.false_or])) | (refine frzK.mk rfl rfl ?_; simp only [frzE, frzMem, List.map_cons, List.map_nil, PV.frz, MObj.frz, frzM, frzSl, Nat.le_refl, hbl2, hbt, d1, hz, Nat.le_refl, SS, SS2, SS3, SS4, scopeQ_normal, scopeQ_ret, scopeQ_exit, Option.map_some, Bool.not_false, Bool.not_true, gArgs, gOk, Nat.reduceAdd, PV.shift, MObj.shift, rdV, rdD, reduceIte, Nat.reduceEqDiff, Nat.reduceBEq, PV.bin, PV.binOk, binI, binS, PV.withInt, PV.withIntP, okAll, PV.under, PV.okUnder, eq_self, implies_true, deadOk, ne_eq, allOk, RVar.val, RVar.ok, retV, PV.seen, PV.view, beq_self_eq_true, PV.flat, PV.noOwn, id_eq, behind, PV.kill, MObj.kill, killTag, reduceCtorEq, nilB]; (try go_unwrap; try simp only [hbl2, hbt, d1, hz, Nat.le_refl, toNat_add2, toNat_add1, Int.toNat_natCast, Bool.false_and, Bool.true_and, true_implies, true_and, Bool.false_eq_true, reduceCtorEq, false_implies, Bool.not_false, Bool.not_true, Bool.true_or, Bool.false_or])) | (refine PW.seqK ?_; intro K hK) | refine PW.block ?_ | refine PW.scope ?_ | refine PW.label ?_ | refine PW.exit ?_ | refine PW.ret ?_ | refine PW.skip ?_ | refine seqK_n (by assumption) ?_ | refine seqK_r (by assumption) ?_ | refine seqK_e (by assumption) ?_ | refine PW.regionA ?_ | exact schedW_stop_i | refine schK_n (by assumption) ?_ | (refine schedW_alt_k ?_ ?_; focus (intro K hK; simp only [hbl2, hbt, d1, hz, Nat.le_refl, SS, SS2, SS3, SS4, scopeQ_normal, scopeQ_ret, scopeQ_exit, Option.map_some, Bool.not_false, Bool.not_true, gArgs, gOk, Nat.reduceAdd, PV.shift, MObj.shift, rdV, rdD, reduceIte, Nat.reduceEqDiff, Nat.reduceBEq, PV.bin, PV.binOk, binI, binS, PV.withInt, PV.withIntP, okAll, PV.under, PV.okUnder, eq_self, implies_true, deadOk, ne_eq, allOk, RVar.val, RVar.ok, retV, PV.seen, PV.view, beq_self_eq_true, PV.flat, PV.noOwn, id_eq, behind, PV.kill, MObj.kill, killTag, reduceCtorEq, nilB]; (try go_unwrap; try simp only [hbl2, hbt, d1, hz, Nat.le_refl, toNat_add2, toNat_add1, Int.toNat_natCast, Bool.false_and, Bool.true_and, true_implies, true_and, Bool.false_eq_true, reduceCtorEq, false_implies, Bool.not_false, Bool.not_true, Bool.true_or, Bool.false_or]))) | (refine PW.cond rfl ?_ ?_ <;> intro hcond <;> (try contradiction) <;> try simp only [decide_eq_true_eq, decide_eq_false_iff_not] at hcond) | (apply goCall_V e20; (case hV => (simp only [hbl2, hbt, d1, hz, Nat.le_refl, SS, SS2, SS3, SS4, scopeQ_normal, scopeQ_ret, scopeQ_exit, Option.map_some, Bool.not_false, Bool.not_true, gArgs, gOk, Nat.reduceAdd, PV.shift, MObj.shift, rdV, rdD, reduceIte, Nat.reduceEqDiff, Nat.reduceBEq, PV.bin, PV.binOk, binI, binS, PV.withInt, PV.withIntP, okAll, PV.under, PV.okUnder, eq_self, implies_true, deadOk, ne_eq, allOk, RVar.val, RVar.ok, retV, PV.seen, PV.view, beq_self_eq_true, PV.flat, PV.noOwn, id_eq, behind, PV.kill, MObj.kill, killTag, reduceCtorEq, nilB]; (try go_unwrap; try simp only [hbl2, hbt, d1, hz, Nat.le_refl, toNat_add2, toNat_add1, Int.toNat_natCast, Bool.false_and, Bool.true_and, true_implies, true_and, Bool.false_eq_true, reduceCtorEq, false_implies, Bool.not_false, Bool.not_true, Bool.true_or, Bool.false_or]); exact h20)); (try (case hs => rfl)); (try (case hf => first | exact Or.inl rfl | exact Or.inr ⟨rfl, rfl⟩ | (refine Or.inl ?_; simp only [hbl2, hbt, d1, hz, Nat.le_refl, SS, SS2, SS3, SS4, scopeQ_normal, scopeQ_ret, scopeQ_exit, Option.map_some, Bool.not_false, Bool.not_true, gArgs, gOk, Nat.reduceAdd, PV.shift, MObj.shift, rdV, rdD, reduceIte, Nat.reduceEqDiff, Nat.reduceBEq, PV.bin, PV.binOk, binI, binS, PV.withInt, PV.withIntP, okAll, PV.under, PV.okUnder, eq_self, implies_true, deadOk, ne_eq, allOk, RVar.val, RVar.ok, retV, PV.seen, PV.view, beq_self_eq_true, PV.flat, PV.noOwn, id_eq, behind, PV.kill, MObj.kill, killTag, reduceCtorEq, nilB]; done) | (refine Or.inr ⟨rfl, ?_⟩; simp only [hbl2, hbt, d1, hz, Nat.le_refl, SS, SS2, SS3, SS4, scopeQ_normal, scopeQ_ret, scopeQ_exit, Option.map_some, Bool.not_false, Bool.not_true, gArgs, gOk, Nat.reduceAdd, PV.shift, MObj.shift, rdV, rdD, reduceIte, Nat.reduceEqDiff, Nat.reduceBEq, PV.bin, PV.binOk, binI, binS, PV.withInt, PV.withIntP, okAll, PV.under, PV.okUnder, eq_self, implies_true, deadOk, ne_eq, allOk, RVar.val, RVar.ok, retV, PV.seen, PV.view, beq_self_eq_true, PV.flat, PV.noOwn, id_eq, behind, PV.kill, MObj.kill, killTag, reduceCtorEq, nilB]; done))); all_goals (first | (simp only [hbl2, hbt, d1, hz, Nat.le_refl, SS, SS2, SS3, SS4, scopeQ_normal, scopeQ_ret, scopeQ_exit, Option.map_some, Bool.not_false, Bool.not_true, gArgs, gOk, Nat.reduceAdd, PV.shift, MObj.shift, rdV, rdD, reduceIte, Nat.reduceEqDiff, Nat.reduceBEq, PV.bin, PV.binOk, binI, binS, PV.withInt, PV.withIntP, okAll, PV.under, PV.okUnder, eq_self, implies_true, deadOk, ne_eq, allOk, RVar.val, RVar.ok, retV, PV.seen, PV.view, beq_self_eq_true, PV.flat, PV.noOwn, id_eq, behind, PV.kill, MObj.kill, killTag, reduceCtorEq, nilB]; (try go_unwrap; try simp only [hbl2, hbt, d1, hz, Nat.le_refl, toNat_add2, toNat_add1, Int.toNat_natCast, Bool.false_and, Bool.true_and, true_implies, true_and, Bool.false_eq_true, reduceCtorEq, false_implies, Bool.not_false, Bool.not_true, Bool.true_or, Bool.false_or])) | (show Env; skip) | (show Mem; skip))) | (apply goCall_V e20; (case hV => (simp only [hbl2, hbt, d1, hz, Nat.le_refl, SS, SS2, SS3, SS4, scopeQ_normal, scopeQ_ret, scopeQ_exit, Option.map_some, Bool.not_false, Bool.not_true, gArgs, gOk, Nat.reduceAdd, PV.shift, MObj.shift, rdV, rdD, reduceIte, Nat.reduceEqDiff, Nat.reduceBEq, PV.bin, PV.binOk, binI, binS, PV.withInt, PV.withIntP, okAll, PV.under, PV.okUnder, eq_self, implies_true, deadOk, ne_eq, allOk, RVar.val, RVar.ok, retV, PV.seen, PV.view, beq_self_eq_true, PV.flat, PV.noOwn, id_eq, behind, PV.kill, MObj.kill, killTag, reduceCtorEq, nilB]; (try go_unwrap; try simp only [hbl2, hbt, d1, hz, Nat.le_refl, toNat_add2, toNat_add1, Int.toNat_natCast, Bool.false_and, Bool.true_and, true_implies, true_and, Bool.false_eq_true, reduceCtorEq, false_implies, Bool.not_false, Bool.not_true, Bool.true_or, Bool.false_or]); exact h20b)); (try (case hs => rfl)); (try (case hf => first | exact Or.inl rfl | exact Or.inr ⟨rfl, rfl⟩ | (refine Or.inl ?_; simp only [hbl2, hbt, d1, hz, Nat.le_refl, SS, SS2, SS3, SS4, scopeQ_normal, scopeQ_ret, scopeQ_exit, Option.map_some, Bool.not_false, Bool.not_true, gArgs, gOk, Nat.reduceAdd, PV.shift, MObj.shift, rdV, rdD, reduceIte, Nat.reduceEqDiff, Nat.reduceBEq, PV.bin, PV.binOk, binI, binS, PV.withInt, PV.withIntP, okAll, PV.under, PV.okUnder, eq_self, implies_true, deadOk, ne_eq, allOk, RVar.val, RVar.ok, retV, PV.seen, PV.view, beq_self_eq_true, PV.flat, PV.noOwn, id_eq, behind, PV.kill, MObj.kill, killTag, reduceCtorEq, nilB]; done) | (refine Or.inr ⟨rfl, ?_⟩; simp only [hbl2, hbt, d1, hz, Nat.le_refl, SS, SS2, SS3, SS4, scopeQ_normal, scopeQ_ret, scopeQ_exit, Option.map_some, Bool.not_false, Bool.not_true, gArgs, gOk, Nat.reduceAdd, PV.shift, MObj.shift, rdV, rdD, reduceIte, Nat.reduceEqDiff, Nat.reduceBEq, PV.bin, PV.binOk, binI, binS, PV.withInt, PV.withIntP, okAll, PV.under, PV.okUnder, eq_self, implies_true, deadOk, ne_eq, allOk, RVar.val, RVar.ok, retV, PV.seen, PV.view, beq_self_eq_true, PV.flat, PV.noOwn, id_eq, behind, PV.kill, MObj.kill, killTag, reduceCtorEq, nilB]; done))); all_goals (first | (simp only [hbl2, hbt, d1, hz, Nat.le_refl, SS, SS2, SS3, SS4, scopeQ_normal, scopeQ_ret, scopeQ_exit, Option.map_some, Bool.not_false, Bool.not_true, gArgs, gOk, Nat.reduceAdd, PV.shift, MObj.shift, rdV, rdD, reduceIte, Nat.reduceEqDiff, Nat.reduceBEq, PV.bin, PV.binOk, binI, binS, PV.withInt, PV.withIntP, okAll, PV.under, PV.okUnder, eq_self, implies_true, deadOk, ne_eq, allOk, RVar.val, RVar.ok, retV, PV.seen, PV.view, beq_self_eq_true, PV.flat, PV.noOwn, id_eq, behind, PV.kill, MObj.kill, killTag, reduceCtorEq, nilB]; (try go_unwrap; try simp only [hbl2, hbt, d1, hz, Nat.le_refl, toNat_add2, toNat_add1, Int.toNat_natCast, Bool.false_and, Bool.true_and, true_implies, true_and, Bool.false_eq_true, reduceCtorEq, false_implies, Bool.not_false, Bool.not_true, Bool.true_or, Bool.false_or])) | (show Env; skip) | (show Mem; skip))) | (refine gd_i ?_; intro hg; try simp only [hg]) | ((first | show @LE.le Nat _ _ _ | show @LT.lt Nat _ _ _ | show @LE.le Int _ _ _ | show @LT.lt Int _ _ _ | show @Eq Nat _ _ | show @Eq Int _ _ | show @Eq Bool _ _ | show _ ∨ _ | show ¬ _); first | omega | (simp only [decide_eq_true_eq, decide_eq_false_iff_not, List.length_cons, List.length_nil, List.length_append, List.length_map, Sh.size] <;> omega) | (go_unwrap; omega)) | ((first | refine PW.region ?_ | refine PW.regionQ ?_ | refine schedW_done_i ?_ | show (_ : Post) _ _ _ | show @Eq (List PV) _ _ | show @Eq Bool _ _ | show opsW _ _ _ _ _ _ _ _ | show okAll _ | show @Eq Bool _ _ ∨ _); focus (simp only [hbl2, hbt, d1, hz, Nat.le_refl, SS, SS2, SS3, SS4, scopeQ_normal, scopeQ_ret, scopeQ_exit, Option.map_some, Bool.not_false, Bool.not_true, gArgs, gOk, Nat.reduceAdd, PV.shift, MObj.shift, rdV, rdD, reduceIte, Nat.reduceEqDiff, Nat.reduceBEq, PV.bin, PV.binOk, binI, binS, PV.withInt, PV.withIntP, okAll, PV.under, PV.okUnder, eq_self, implies_true, deadOk, ne_eq, allOk, RVar.val, RVar.ok, retV, PV.seen, PV.view, beq_self_eq_true, PV.flat, PV.noOwn, id_eq, behind, PV.kill, MObj.kill, killTag, reduceCtorEq, nilB]; (try go_unwrap; try simp only [hbl2, hbt, d1, hz, Nat.le_refl, toNat_add2, toNat_add1, Int.toNat_natCast, Bool.false_and, Bool.true_and, true_implies, true_and, Bool.false_eq_true, reduceCtorEq, false_implies, Bool.not_false, Bool.not_true, Bool.true_or, Bool.false_or]))) | refine And.intro ?_ ?_ | exact Or.inr ⟨rfl, Nat.le_refl _⟩ | exact (fun h => Bool.noConfusion h))
    all_goals skip
  subst hf
  have hw := (hsB rfl).1
  have hperm := (hsB rfl).2.2
  obtain ⟨he0, hfil⟩ := had hw rfl
  subst he0
  have hright := (hoB rfl).2
  have h21 := h21 B (by omega)
  rw [hright] at h21
  have hlen1 : B.length = A.length + 1 := by
    have hw0 := adds_wrong hw
    have e1 : B.length = l.length + 1 := by rw [hperm.length_eq, ns_len]; simp
    have e2 : A.length = l.length := by rw [hfil, (hperm.filter _).length_eq, adds_N hN hw, ns_len]
    omega
  have hbel : ∀ s, s ≠ x.name → belowM l s = belowM (l ++ [x]) s := fun s hs => adds_below hN hw hs
  have hhas : ∀ y, y ∈ x.needs → y ∈ belowM (l ++ [x]) x.name := fun y hy => adds_has hN hw hy
  clear hsB hoB hempty had hperm hright
  have d0 : decide ((0 : Int) = 0) = true := rfl
  have w1 : IntKind.i64.wrap ((A.length : Int) + 1) = ((A.length + 1 : Nat) : Int) := by rw [IntWalk.i64_in _ (by omega)]; omega
  have dl : decide (((B.length : Nat) : Int) = ((A.length + 1 : Nat) : Int)) = true := by simp only [decide_eq_true_eq]; omega
  repeat' (first | exact True.intro | (refine PW.regionF (cs := ⟨some 59, none, .rd .mov [.tmp 0]⟩ :: _) 0 0 ?_; simp only [List.take_succ_cons, List.take_zero, List.drop_succ_cons, List.drop_zero, hbl2, hbt, d0, hAl, hBl, w1, dl, Nat.le_refl, SS, SS2, SS3, SS4, scopeQ_normal, scopeQ_ret, scopeQ_exit, Option.map_some, Bool.not_false, Bool.not_true, gArgs, gOk, Nat.reduceAdd, PV.shift, MObj.shift, rdV, rdD, reduceIte, Nat.reduceEqDiff, Nat.reduceBEq, PV.bin, PV.binOk, binI, binS, PV.withInt, PV.withIntP, okAll, PV.under, PV.okUnder, eq_self, implies_true, deadOk, ne_eq, allOk, RVar.val, RVar.ok, retV, PV.seen, PV.view, beq_self_eq_true, PV.flat, PV.noOwn, id_eq, behind, PV.kill, MObj.kill, killTag, reduceCtorEq, nilB]; (try go_unwrap; try simp only [hbl2, hbt, d0, hAl, hBl, w1, dl, Nat.le_refl, toNat_add2, toNat_add1, Int.toNat_natCast, Bool.false_and, Bool.true_and, true_implies, true_and, Bool.false_eq_true, reduceCtorEq, false_implies, Bool.not_false, Bool.not_true, Bool.true_or, Bool.false_or])) | (refine frzK.mk rfl rfl ?_; simp only [frzE, frzMem, List.map_cons, List.map_nil, PV.frz, MObj.frz, frzM, frzSl, Nat.le_refl, hbl2, hbt, d0, hAl, hBl, w1, dl, Nat.le_refl, SS, SS2, SS3, SS4, scopeQ_normal, scopeQ_ret, scopeQ_exit, Option.map_some, Bool.not_false, Bool.not_true, gArgs, gOk, Nat.reduceAdd, PV.shift, MObj.shift, rdV, rdD, reduceIte, Nat.reduceEqDiff, Nat.reduceBEq, PV.bin, PV.binOk, binI, binS, PV.withInt, PV.withIntP, okAll, PV.under, PV.okUnder, eq_self, implies_true, deadOk, ne_eq, allOk, RVar.val, RVar.ok, retV, PV.seen, PV.view, beq_self_eq_true, PV.flat, PV.noOwn, id_eq, behind, PV.kill, MObj.kill, killTag, reduceCtorEq, nilB]; (try go_unwrap; try simp only [hbl2, hbt, d0, hAl, hBl, w1, dl, Nat.le_refl, toNat_add2, toNat_add1, Int.toNat_natCast, Bool.false_and, Bool.true_and, true_implies, true_and, Bool.false_eq_true, reduceCtorEq, false_implies, Bool.not_false, Bool.not_true, Bool.true_or, Bool.false_or])) | (refine PW.stop (x := .seq (.region false (⟨some 11, none, .rd .mov [.pv (.int .i64 0)]⟩ :: _) _) _) ?_) | (refine PW.seqK ?_; intro K hK) | refine PW.block ?_ | refine PW.scope ?_ | refine PW.label ?_ | refine PW.exit ?_ | refine PW.ret ?_ | refine PW.skip ?_ | refine seqK_n (by assumption) ?_ | refine seqK_r (by assumption) ?_ | refine seqK_e (by assumption) ?_ | refine PW.regionA ?_ | exact schedW_stop_i | refine schK_n (by assumption) ?_ | (refine schedW_alt_k ?_ ?_; focus (intro K hK; simp only [hbl2, hbt, d0, hAl, hBl, w1, dl, Nat.le_refl, SS, SS2, SS3, SS4, scopeQ_normal, scopeQ_ret, scopeQ_exit, Option.map_some, Bool.not_false, Bool.not_true, gArgs, gOk, Nat.reduceAdd, PV.shift, MObj.shift, rdV, rdD, reduceIte, Nat.reduceEqDiff, Nat.reduceBEq, PV.bin, PV.binOk, binI, binS, PV.withInt, PV.withIntP, okAll, PV.under, PV.okUnder, eq_self, implies_true, deadOk, ne_eq, allOk, RVar.val, RVar.ok, retV, PV.seen, PV.view, beq_self_eq_true, PV.flat, PV.noOwn, id_eq, behind, PV.kill, MObj.kill, killTag, reduceCtorEq, nilB]; (try go_unwrap; try simp only [hbl2, hbt, d0, hAl, hBl, w1, dl, Nat.le_refl, toNat_add2, toNat_add1, Int.toNat_natCast, Bool.false_and, Bool.true_and, true_implies, true_and, Bool.false_eq_true, reduceCtorEq, false_implies, Bool.not_false, Bool.not_true, Bool.true_or, Bool.false_or]))) | (refine PW.cond rfl ?_ ?_ <;> intro hcond <;> (try contradiction) <;> try simp only [decide_eq_true_eq, decide_eq_false_iff_not] at hcond) | (apply goCall_V e20; (case hV => (simp only [hbl2, hbt, d0, hAl, hBl, w1, dl, Nat.le_refl, SS, SS2, SS3, SS4, scopeQ_normal, scopeQ_ret, scopeQ_exit, Option.map_some, Bool.not_false, Bool.not_true, gArgs, gOk, Nat.reduceAdd, PV.shift, MObj.shift, rdV, rdD, reduceIte, Nat.reduceEqDiff, Nat.reduceBEq, PV.bin, PV.binOk, binI, binS, PV.withInt, PV.withIntP, okAll, PV.under, PV.okUnder, eq_self, implies_true, deadOk, ne_eq, allOk, RVar.val, RVar.ok, retV, PV.seen, PV.view, beq_self_eq_true, PV.flat, PV.noOwn, id_eq, behind, PV.kill, MObj.kill, killTag, reduceCtorEq, nilB]; (try go_unwrap; try simp only [hbl2, hbt, d0, hAl, hBl, w1, dl, Nat.le_refl, toNat_add2, toNat_add1, Int.toNat_natCast, Bool.false_and, Bool.true_and, true_implies, true_and, Bool.false_eq_true, reduceCtorEq, false_implies, Bool.not_false, Bool.not_true, Bool.true_or, Bool.false_or]); exact h20)); (try (case hs => rfl)); (try (case hf => first | exact Or.inl rfl | exact Or.inr ⟨rfl, rfl⟩ | (refine Or.inl ?_; simp only [hbl2, hbt, d0, hAl, hBl, w1, dl, Nat.le_refl, SS, SS2, SS3, SS4, scopeQ_normal, scopeQ_ret, scopeQ_exit, Option.map_some, Bool.not_false, Bool.not_true, gArgs, gOk, Nat.reduceAdd, PV.shift, MObj.shift, rdV, rdD, reduceIte, Nat.reduceEqDiff, Nat.reduceBEq, PV.bin, PV.binOk, binI, binS, PV.withInt, PV.withIntP, okAll, PV.under, PV.okUnder, eq_self, implies_true, deadOk, ne_eq, allOk, RVar.val, RVar.ok, retV, PV.seen, PV.view, beq_self_eq_true, PV.flat, PV.noOwn, id_eq, behind, PV.kill, MObj.kill, killTag, reduceCtorEq, nilB]; done) | (refine Or.inr ⟨rfl, ?_⟩; simp only [hbl2, hbt, d0, hAl, hBl, w1, dl, Nat.le_refl, SS, SS2, SS3, SS4, scopeQ_normal, scopeQ_ret, scopeQ_exit, Option.map_some, Bool.not_false, Bool.not_true, gArgs, gOk, Nat.reduceAdd, PV.shift, MObj.shift, rdV, rdD, reduceIte, Nat.reduceEqDiff, Nat.reduceBEq, PV.bin, PV.binOk, binI, binS, PV.withInt, PV.withIntP, okAll, PV.under, PV.okUnder, eq_self, implies_true, deadOk, ne_eq, allOk, RVar.val, RVar.ok, retV, PV.seen, PV.view, beq_self_eq_true, PV.flat, PV.noOwn, id_eq, behind, PV.kill, MObj.kill, killTag, reduceCtorEq, nilB]; done))); all_goals (first | (simp only [hbl2, hbt, d0, hAl, hBl, w1, dl, Nat.le_refl, SS, SS2, SS3, SS4, scopeQ_normal, scopeQ_ret, scopeQ_exit, Option.map_some, Bool.not_false, Bool.not_true, gArgs, gOk, Nat.reduceAdd, PV.shift, MObj.shift, rdV, rdD, reduceIte, Nat.reduceEqDiff, Nat.reduceBEq, PV.bin, PV.binOk, binI, binS, PV.withInt, PV.withIntP, okAll, PV.under, PV.okUnder, eq_self, implies_true, deadOk, ne_eq, allOk, RVar.val, RVar.ok, retV, PV.seen, PV.view, beq_self_eq_true, PV.flat, PV.noOwn, id_eq, behind, PV.kill, MObj.kill, killTag, reduceCtorEq, nilB]; (try go_unwrap; try simp only [hbl2, hbt, d0, hAl, hBl, w1, dl, Nat.le_refl, toNat_add2, toNat_add1, Int.toNat_natCast, Bool.false_and, Bool.true_and, true_implies, true_and, Bool.false_eq_true, reduceCtorEq, false_implies, Bool.not_false, Bool.not_true, Bool.true_or, Bool.false_or])) | (show Env; skip) | (show Mem; skip))) | (apply goCall_V e20; (case hV => (simp only [hbl2, hbt, d0, hAl, hBl, w1, dl, Nat.le_refl, SS, SS2, SS3, SS4, scopeQ_normal, scopeQ_ret, scopeQ_exit, Option.map_some, Bool.not_false, Bool.not_true, gArgs, gOk, Nat.reduceAdd, PV.shift, MObj.shift, rdV, rdD, reduceIte, Nat.reduceEqDiff, Nat.reduceBEq, PV.bin, PV.binOk, binI, binS, PV.withInt, PV.withIntP, okAll, PV.under, PV.okUnder, eq_self, implies_true, deadOk, ne_eq, allOk, RVar.val, RVar.ok, retV, PV.seen, PV.view, beq_self_eq_true, PV.flat, PV.noOwn, id_eq, behind, PV.kill, MObj.kill, killTag, reduceCtorEq, nilB]; (try go_unwrap; try simp only [hbl2, hbt, d0, hAl, hBl, w1, dl, Nat.le_refl, toNat_add2, toNat_add1, Int.toNat_natCast, Bool.false_and, Bool.true_and, true_implies, true_and, Bool.false_eq_true, reduceCtorEq, false_implies, Bool.not_false, Bool.not_true, Bool.true_or, Bool.false_or]); exact h20b)); (try (case hs => rfl)); (try (case hf => first | exact Or.inl rfl | exact Or.inr ⟨rfl, rfl⟩ | (refine Or.inl ?_; simp only [hbl2, hbt, d0, hAl, hBl, w1, dl, Nat.le_refl, SS, SS2, SS3, SS4, scopeQ_normal, scopeQ_ret, scopeQ_exit, Option.map_some, Bool.not_false, Bool.not_true, gArgs, gOk, Nat.reduceAdd, PV.shift, MObj.shift, rdV, rdD, reduceIte, Nat.reduceEqDiff, Nat.reduceBEq, PV.bin, PV.binOk, binI, binS, PV.withInt, PV.withIntP, okAll, PV.under, PV.okUnder, eq_self, implies_true, deadOk, ne_eq, allOk, RVar.val, RVar.ok, retV, PV.seen, PV.view, beq_self_eq_true, PV.flat, PV.noOwn, id_eq, behind, PV.kill, MObj.kill, killTag, reduceCtorEq, nilB]; done) | (refine Or.inr ⟨rfl, ?_⟩; simp only [hbl2, hbt, d0, hAl, hBl, w1, dl, Nat.le_refl, SS, SS2, SS3, SS4, scopeQ_normal, scopeQ_ret, scopeQ_exit, Option.map_some, Bool.not_false, Bool.not_true, gArgs, gOk, Nat.reduceAdd, PV.shift, MObj.shift, rdV, rdD, reduceIte, Nat.reduceEqDiff, Nat.reduceBEq, PV.bin, PV.binOk, binI, binS, PV.withInt, PV.withIntP, okAll, PV.under, PV.okUnder, eq_self, implies_true, deadOk, ne_eq, allOk, RVar.val, RVar.ok, retV, PV.seen, PV.view, beq_self_eq_true, PV.flat, PV.noOwn, id_eq, behind, PV.kill, MObj.kill, killTag, reduceCtorEq, nilB]; done))); all_goals (first | (simp only [hbl2, hbt, d0, hAl, hBl, w1, dl, Nat.le_refl, SS, SS2, SS3, SS4, scopeQ_normal, scopeQ_ret, scopeQ_exit, Option.map_some, Bool.not_false, Bool.not_true, gArgs, gOk, Nat.reduceAdd, PV.shift, MObj.shift, rdV, rdD, reduceIte, Nat.reduceEqDiff, Nat.reduceBEq, PV.bin, PV.binOk, binI, binS, PV.withInt, PV.withIntP, okAll, PV.under, PV.okUnder, eq_self, implies_true, deadOk, ne_eq, allOk, RVar.val, RVar.ok, retV, PV.seen, PV.view, beq_self_eq_true, PV.flat, PV.noOwn, id_eq, behind, PV.kill, MObj.kill, killTag, reduceCtorEq, nilB]; (try go_unwrap; try simp only [hbl2, hbt, d0, hAl, hBl, w1, dl, Nat.le_refl, toNat_add2, toNat_add1, Int.toNat_natCast, Bool.false_and, Bool.true_and, true_implies, true_and, Bool.false_eq_true, reduceCtorEq, false_implies, Bool.not_false, Bool.not_true, Bool.true_or, Bool.false_or])) | (show Env; skip) | (show Mem; skip))) | (refine gd_i ?_; intro hg; try simp only [hg]) | refine goCallG_W e21 (h21) ?_ ?_ ?_ ?_ ?_ | ((first | show @LE.le Nat _ _ _ | show @LT.lt Nat _ _ _ | show @LE.le Int _ _ _ | show @LT.lt Int _ _ _ | show @Eq Nat _ _ | show @Eq Int _ _ | show @Eq Bool _ _ | show _ ∨ _ | show ¬ _); first | omega | (simp only [decide_eq_true_eq, decide_eq_false_iff_not, List.length_cons, List.length_nil, List.length_append, List.length_map, Sh.size] <;> omega) | (go_unwrap; omega)) | ((first | refine PW.region ?_ | refine PW.regionQ ?_ | refine schedW_done_i ?_ | show (_ : Post) _ _ _ | show @Eq (List PV) _ _ | show @Eq Bool _ _ | show opsW _ _ _ _ _ _ _ _ | show okAll _ | show @Eq Bool _ _ ∨ _); focus (simp only [hbl2, hbt, d0, hAl, hBl, w1, dl, Nat.le_refl, SS, SS2, SS3, SS4, scopeQ_normal, scopeQ_ret, scopeQ_exit, Option.map_some, Bool.not_false, Bool.not_true, gArgs, gOk, Nat.reduceAdd, PV.shift, MObj.shift, rdV, rdD, reduceIte, Nat.reduceEqDiff, Nat.reduceBEq, PV.bin, PV.binOk, binI, binS, PV.withInt, PV.withIntP, okAll, PV.under, PV.okUnder, eq_self, implies_true, deadOk, ne_eq, allOk, RVar.val, RVar.ok, retV, PV.seen, PV.view, beq_self_eq_true, PV.flat, PV.noOwn, id_eq, behind, PV.kill, MObj.kill, killTag, reduceCtorEq, nilB]; (try go_unwrap; try simp only [hbl2, hbt, d0, hAl, hBl, w1, dl, Nat.le_refl, toNat_add2, toNat_add1, Int.toNat_natCast, Bool.false_and, Bool.true_and, true_implies, true_and, Bool.false_eq_true, reduceCtorEq, false_implies, Bool.not_false, Bool.not_true, Bool.true_or, Bool.false_or]))) | refine And.intro ?_ ?_ | exact Or.inr ⟨rfl, Nat.le_refl _⟩ | exact (fun h => Bool.noConfusion h))
  refine ⟨?_⟩
  refine PW.trim 0 (fun _ _ => rfl) ?_
  simp only [trimE, trimM, List.take_zero, List.map_cons, List.map_nil, PV.kill, Nat.zero_le, decide_true, if_true]
  repeat' (first | exact True.intro | (refine PW.seqK ?_; intro K hK) | refine PW.block ?_ | refine PW.scope ?_ | refine PW.label ?_ | refine PW.exit ?_ | refine PW.ret ?_ | refine PW.skip ?_ | refine seqK_n (by assumption) ?_ | refine seqK_r (by assumption) ?_ | refine seqK_e (by assumption) ?_ | refine PW.regionA ?_ | exact schedW_stop_i | refine schK_n (by assumption) ?_ | (refine schedW_alt_k ?_ ?_; focus (intro K hK; simp only [SS, SS2, SS3, SS4, scopeQ_normal, scopeQ_ret, scopeQ_exit, Option.map_some, Bool.not_false, Bool.not_true, gArgs, gOk, Nat.reduceAdd, PV.shift, MObj.shift, rdV, rdD, reduceIte, Nat.reduceEqDiff, Nat.reduceBEq, PV.bin, PV.binOk, binI, binS, PV.withInt, PV.withIntP, okAll, PV.under, PV.okUnder, eq_self, implies_true, deadOk, ne_eq, allOk, RVar.val, RVar.ok, retV, PV.seen, PV.view, beq_self_eq_true, PV.flat, PV.noOwn, id_eq, behind, PV.kill, MObj.kill, killTag, reduceCtorEq, nilB]; (try go_unwrap; try simp only [toNat_add2, toNat_add1, Int.toNat_natCast, Bool.false_and, Bool.true_and, true_implies, true_and, Bool.false_eq_true, reduceCtorEq, false_implies, Bool.not_false, Bool.not_true, Bool.true_or, Bool.false_or]))) | (refine PW.cond rfl ?_ ?_ <;> intro hcond <;> (try contradiction) <;> try simp only [decide_eq_true_eq, decide_eq_false_iff_not] at hcond) | (refine gd_i ?_; intro hg; try simp only [hg]) | ((first | show @LE.le Nat _ _ _ | show @LT.lt Nat _ _ _ | show @LE.le Int _ _ _ | show @LT.lt Int _ _ _ | show @Eq Nat _ _ | show @Eq Int _ _ | show @Eq Bool _ _ | show _ ∨ _ | show ¬ _); first | omega | (simp only [decide_eq_true_eq, decide_eq_false_iff_not, List.length_cons, List.length_nil, List.length_append, List.length_map, Sh.size] <;> omega) | (go_unwrap; omega)) | ((first | refine PW.region ?_ | refine PW.regionQ ?_ | refine schedW_done_i ?_ | show (_ : Post) _ _ _ | show @Eq (List PV) _ _ | show @Eq Bool _ _ | show opsW _ _ _ _ _ _ _ _ | show okAll _ | show @Eq Bool _ _ ∨ _); focus (simp only [SS, SS2, SS3, SS4, scopeQ_normal, scopeQ_ret, scopeQ_exit, Option.map_some, Bool.not_false, Bool.not_true, gArgs, gOk, Nat.reduceAdd, PV.shift, MObj.shift, rdV, rdD, reduceIte, Nat.reduceEqDiff, Nat.reduceBEq, PV.bin, PV.binOk, binI, binS, PV.withInt, PV.withIntP, okAll, PV.under, PV.okUnder, eq_self, implies_true, deadOk, ne_eq, allOk, RVar.val, RVar.ok, retV, PV.seen, PV.view, beq_self_eq_true, PV.flat, PV.noOwn, id_eq, behind, PV.kill, MObj.kill, killTag, reduceCtorEq, nilB]; (try go_unwrap; try simp only [toNat_add2, toNat_add1, Int.toNat_natCast, Bool.false_and, Bool.true_and, true_implies, true_and, Bool.false_eq_true, reduceCtorEq, false_implies, Bool.not_false, Bool.not_true, Bool.true_or, Bool.false_or]))) | refine And.intro ?_ ?_ | exact Or.inr ⟨rfl, Nat.le_refl _⟩ | exact (fun h => Bool.noConfusion h))
  have hn0 : ((B.take 0).filter (fun s => !decide (s = x.name))).length = 0 := by simp
  refine PW.loop (σ := Nat) [0, 3, 4, 6, 7, 9, 11, 12] (fun i => [edL l, .cptr (some 2) (PV.agg [.str x.name, .list none (x.needs.map PV.str)]) 0, .bool false, edL (l ++ [x]), txL A, txL B, .int .i64 ((B.take i).filter (fun s => !decide (s = x.name))).length, .int .i64 i]) (fun _ => []) (fun i => i ≤ B.length) (fun i => B.length - i) 0 ?_ rfl (by omega) ?_
  · simp only [SS, SS2, SS3, SS4, scopeQ_normal, scopeQ_ret, scopeQ_exit, Option.map_some, Bool.not_false, Bool.not_true, gArgs, gOk, Nat.reduceAdd, PV.shift, MObj.shift, rdV, rdD, reduceIte, Nat.reduceEqDiff, Nat.reduceBEq, PV.bin, PV.binOk, binI, binS, PV.withInt, PV.withIntP, okAll, PV.under, PV.okUnder, eq_self, implies_true, deadOk, ne_eq, allOk, RVar.val, RVar.ok, retV, PV.seen, PV.view, beq_self_eq_true, PV.flat, PV.noOwn, id_eq, behind, PV.kill, MObj.kill, killTag, reduceCtorEq, nilB]; rfl
  clear h20 h20b h21
  rintro i hi
  simp only [List.zip_cons_cons, List.zip_nil_left]
  rcases Nat.lt_or_ge i B.length with h | h
  · have hd : decide ((i : Int) < B.length) = true := by simp only [decide_eq_true_eq]; omega
    have hgB := tx_getD B i h
    have hnx : (B.take (i + 1)).filter (fun s => !decide (s = x.name)) = (B.take i).filter (fun s => !decide (s = x.name)) ++ if B[i] = x.name then [] else [B[i]] := by
      rw [List.take_succ_eq_append_getElem h, List.filter_append]
      by_cases hb : B[i] = x.name <;> simp [hb]
    have hfa := fil_at (p := fun s => !decide (s = x.name)) h
    rw [← hfil] at hfa
    generalize (B.take i).filter (fun s => !decide (s = x.name)) = F at hnx hfa
    generalize B[i] = s at hgB hnx hfa
    by_cases hs : s = x.name
    · have d1 : decide (s = x.name) = true := by simpa using hs
      rw [if_pos hs, List.append_nil] at hnx
      repeat' (first | exact True.intro | (refine PW.seqA (E := ?_) (M := ?_) ?_ ?_; rotate_left 2) | exact mergeQ_mk _ _ | (refine PW.seqK ?_; intro K hK) | refine PW.block ?_ | refine PW.scope ?_ | refine PW.label ?_ | refine PW.exit ?_ | refine PW.ret ?_ | refine PW.skip ?_ | refine seqK_n (by assumption) ?_ | refine seqK_r (by assumption) ?_ | refine seqK_e (by assumption) ?_ | refine PW.regionA ?_ | exact schedW_stop_i | refine schK_n (by assumption) ?_ | (refine schedW_alt_k ?_ ?_; focus (intro K hK; simp only [hd, hgB, hBl, d1, SS, SS2, SS3, SS4, scopeQ_normal, scopeQ_ret, scopeQ_exit, Option.map_some, Bool.not_false, Bool.not_true, gArgs, gOk, Nat.reduceAdd, PV.shift, MObj.shift, rdV, rdD, reduceIte, Nat.reduceEqDiff, Nat.reduceBEq, PV.bin, PV.binOk, binI, binS, PV.withInt, PV.withIntP, okAll, PV.under, PV.okUnder, eq_self, implies_true, deadOk, ne_eq, allOk, RVar.val, RVar.ok, retV, PV.seen, PV.view, beq_self_eq_true, PV.flat, PV.noOwn, id_eq, behind, PV.kill, MObj.kill, killTag, reduceCtorEq, nilB]; (try go_unwrap; try simp only [hd, hgB, hBl, d1, toNat_add2, toNat_add1, Int.toNat_natCast, Bool.false_and, Bool.true_and, true_implies, true_and, Bool.false_eq_true, reduceCtorEq, false_implies, Bool.not_false, Bool.not_true, Bool.true_or, Bool.false_or]))) | (refine PW.cond rfl ?_ ?_ <;> intro hcond <;> (try contradiction) <;> try simp only [decide_eq_true_eq, decide_eq_false_iff_not] at hcond) | (refine gd_i ?_; intro hg; try simp only [hg]) | ((first | show @LE.le Nat _ _ _ | show @LT.lt Nat _ _ _ | show @LE.le Int _ _ _ | show @LT.lt Int _ _ _ | show @Eq Nat _ _ | show @Eq Int _ _ | show @Eq Bool _ _ | show _ ∨ _ | show ¬ _); first | omega | (simp only [decide_eq_true_eq, decide_eq_false_iff_not, List.length_cons, List.length_nil, List.length_append, List.length_map, Sh.size] <;> omega) | (go_unwrap; omega)) | ((first | refine PW.region ?_ | refine PW.regionQ ?_ | refine schedW_done_i ?_ | show (_ : Post) _ _ _ | show @Eq (List PV) _ _ | show @Eq Bool _ _ | show opsW _ _ _ _ _ _ _ _ | show okAll _ | show @Eq Bool _ _ ∨ _); focus (simp only [hd, hgB, hBl, d1, SS, SS2, SS3, SS4, scopeQ_normal, scopeQ_ret, scopeQ_exit, Option.map_some, Bool.not_false, Bool.not_true, gArgs, gOk, Nat.reduceAdd, PV.shift, MObj.shift, rdV, rdD, reduceIte, Nat.reduceEqDiff, Nat.reduceBEq, PV.bin, PV.binOk, binI, binS, PV.withInt, PV.withIntP, okAll, PV.under, PV.okUnder, eq_self, implies_true, deadOk, ne_eq, allOk, RVar.val, RVar.ok, retV, PV.seen, PV.view, beq_self_eq_true, PV.flat, PV.noOwn, id_eq, behind, PV.kill, MObj.kill, killTag, reduceCtorEq, nilB]; (try go_unwrap; try simp only [hd, hgB, hBl, d1, toNat_add2, toNat_add1, Int.toNat_natCast, Bool.false_and, Bool.true_and, true_implies, true_and, Bool.false_eq_true, reduceCtorEq, false_implies, Bool.not_false, Bool.not_true, Bool.true_or, Bool.false_or]))) | refine And.intro ?_ ?_ | exact Or.inr ⟨rfl, Nat.le_refl _⟩ | exact (fun h => Bool.noConfusion h))
      all_goals exact ⟨i + 1, (by rw [hnx]; rfl), by omega, by omega⟩
    · have d1 : decide (s = x.name) = false := by simpa using hs
      rw [if_neg hs] at hnx
      obtain ⟨hF1, hF2⟩ := hfa (by simpa using hs)
      have hgA : (A.map PV.str).getD F.length PV.junk = .str s := by rw [List.getD_eq_getElem?_getD, List.getElem?_map, hF2]; rfl
      have d2 : decide ((A.length : Int) ≤ F.length) = false := by simp only [decide_eq_false_iff_not]; omega
      have g16 := h16 s
      have g16b := h16b s
      rw [← hbel s hs] at g16b
      have g12 := v12 (belowM l s) (belowM l s) (by have := below_len (l := l) s; omega)
      rw [decide_eq_true rfl] at g12
      generalize belowM l s = R at g16 g16b g12
      have w2 : IntKind.i64.wrap ((F.length : Int) + 1) = ((F.length + 1 : Nat) : Int) := by rw [IntWalk.i64_in _ (by omega)]; omega
      have dss : decide (s = s) = true := by simp
      repeat' (first | exact True.intro | (refine PW.seqA (E := ?_) (M := ?_) ?_ ?_; rotate_left 2) | exact mergeQ_mk _ _ | (refine PW.seqK ?_; intro K hK) | refine PW.block ?_ | refine PW.scope ?_ | refine PW.label ?_ | refine PW.exit ?_ | refine PW.ret ?_ | refine PW.skip ?_ | refine seqK_n (by assumption) ?_ | refine seqK_r (by assumption) ?_ | refine seqK_e (by assumption) ?_ | refine PW.regionA ?_ | exact schedW_stop_i | refine schK_n (by assumption) ?_ | (refine schedW_alt_k ?_ ?_; focus (intro K hK; simp only [hd, hgB, hgA, hAl, hBl, d1, d2, w2, dss, SS, SS2, SS3, SS4, scopeQ_normal, scopeQ_ret, scopeQ_exit, Option.map_some, Bool.not_false, Bool.not_true, gArgs, gOk, Nat.reduceAdd, PV.shift, MObj.shift, rdV, rdD, reduceIte, Nat.reduceEqDiff, Nat.reduceBEq, PV.bin, PV.binOk, binI, binS, PV.withInt, PV.withIntP, okAll, PV.under, PV.okUnder, eq_self, implies_true, deadOk, ne_eq, allOk, RVar.val, RVar.ok, retV, PV.seen, PV.view, beq_self_eq_true, PV.flat, PV.noOwn, id_eq, behind, PV.kill, MObj.kill, killTag, reduceCtorEq, nilB]; (try go_unwrap; try simp only [hd, hgB, hgA, hAl, hBl, d1, d2, w2, dss, toNat_add2, toNat_add1, Int.toNat_natCast, Bool.false_and, Bool.true_and, true_implies, true_and, Bool.false_eq_true, reduceCtorEq, false_implies, Bool.not_false, Bool.not_true, Bool.true_or, Bool.false_or]))) | (refine PW.cond rfl ?_ ?_ <;> intro hcond <;> (try contradiction) <;> try simp only [decide_eq_true_eq, decide_eq_false_iff_not] at hcond) | (apply goCallG_N e16; (case hV => (intro hg; simp only [hg, hd, hgB, hgA, hAl, hBl, d1, d2, w2, dss, SS, SS2, SS3, SS4, scopeQ_normal, scopeQ_ret, scopeQ_exit, Option.map_some, Bool.not_false, Bool.not_true, gArgs, gOk, Nat.reduceAdd, PV.shift, MObj.shift, rdV, rdD, reduceIte, Nat.reduceEqDiff, Nat.reduceBEq, PV.bin, PV.binOk, binI, binS, PV.withInt, PV.withIntP, okAll, PV.under, PV.okUnder, eq_self, implies_true, deadOk, ne_eq, allOk, RVar.val, RVar.ok, retV, PV.seen, PV.view, beq_self_eq_true, PV.flat, PV.noOwn, id_eq, behind, PV.kill, MObj.kill, killTag, reduceCtorEq, nilB]; (try go_unwrap; try simp only [hd, hgB, hgA, hAl, hBl, d1, d2, w2, dss, toNat_add2, toNat_add1, Int.toNat_natCast, Bool.false_and, Bool.true_and, true_implies, true_and, Bool.false_eq_true, reduceCtorEq, false_implies, Bool.not_false, Bool.not_true, Bool.true_or, Bool.false_or]); exact g16)); (case hok => (intro hg; first | (simp only [hg, hd, hgB, hgA, hAl, hBl, d1, d2, w2, dss, SS, SS2, SS3, SS4, scopeQ_normal, scopeQ_ret, scopeQ_exit, Option.map_some, Bool.not_false, Bool.not_true, gArgs, gOk, Nat.reduceAdd, PV.shift, MObj.shift, rdV, rdD, reduceIte, Nat.reduceEqDiff, Nat.reduceBEq, PV.bin, PV.binOk, binI, binS, PV.withInt, PV.withIntP, okAll, PV.under, PV.okUnder, eq_self, implies_true, deadOk, ne_eq, allOk, RVar.val, RVar.ok, retV, PV.seen, PV.view, beq_self_eq_true, PV.flat, PV.noOwn, id_eq, behind, PV.kill, MObj.kill, killTag, reduceCtorEq, nilB]; done) | (simp_all [okAll, PV.okUnder]; done))); (case hs => (intro hg; simp only [hg, hd, hgB, hgA, hAl, hBl, d1, d2, w2, dss, SS, SS2, SS3, SS4, scopeQ_normal, scopeQ_ret, scopeQ_exit, Option.map_some, Bool.not_false, Bool.not_true, gArgs, gOk, Nat.reduceAdd, PV.shift, MObj.shift, rdV, rdD, reduceIte, Nat.reduceEqDiff, Nat.reduceBEq, PV.bin, PV.binOk, binI, binS, PV.withInt, PV.withIntP, okAll, PV.under, PV.okUnder, eq_self, implies_true, deadOk, ne_eq, allOk, RVar.val, RVar.ok, retV, PV.seen, PV.view, beq_self_eq_true, PV.flat, PV.noOwn, id_eq, behind, PV.kill, MObj.kill, killTag, reduceCtorEq, nilB])); (case hn => (intro hg; simp only [hg, hd, hgB, hgA, hAl, hBl, d1, d2, w2, dss, SS, SS2, SS3, SS4, scopeQ_normal, scopeQ_ret, scopeQ_exit, Option.map_some, Bool.not_false, Bool.not_true, gArgs, gOk, Nat.reduceAdd, PV.shift, MObj.shift, rdV, rdD, reduceIte, Nat.reduceEqDiff, Nat.reduceBEq, PV.bin, PV.binOk, binI, binS, PV.withInt, PV.withIntP, okAll, PV.under, PV.okUnder, eq_self, implies_true, deadOk, ne_eq, allOk, RVar.val, RVar.ok, retV, PV.seen, PV.view, beq_self_eq_true, PV.flat, PV.noOwn, id_eq, behind, PV.kill, MObj.kill, killTag, reduceCtorEq, nilB])); (case hq => rfl); (simp only [hd, hgB, hgA, hAl, hBl, d1, d2, w2, dss, SS, SS2, SS3, SS4, scopeQ_normal, scopeQ_ret, scopeQ_exit, Option.map_some, Bool.not_false, Bool.not_true, gArgs, gOk, Nat.reduceAdd, PV.shift, MObj.shift, rdV, rdD, reduceIte, Nat.reduceEqDiff, Nat.reduceBEq, PV.bin, PV.binOk, binI, binS, PV.withInt, PV.withIntP, okAll, PV.under, PV.okUnder, eq_self, implies_true, deadOk, ne_eq, allOk, RVar.val, RVar.ok, retV, PV.seen, PV.view, beq_self_eq_true, PV.flat, PV.noOwn, id_eq, behind, PV.kill, MObj.kill, killTag, reduceCtorEq, nilB]; (try go_unwrap; try simp only [hd, hgB, hgA, hAl, hBl, d1, d2, w2, dss, toNat_add2, toNat_add1, Int.toNat_natCast, Bool.false_and, Bool.true_and, true_implies, true_and, Bool.false_eq_true, reduceCtorEq, false_implies, Bool.not_false, Bool.not_true, Bool.true_or, Bool.false_or]))) | (apply goCallG_N e16; (case hV => (intro hg; simp only [hg, hd, hgB, hgA, hAl, hBl, d1, d2, w2, dss, SS, SS2, SS3, SS4, scopeQ_normal, scopeQ_ret, scopeQ_exit, Option.map_some, Bool.not_false, Bool.not_true, gArgs, gOk, Nat.reduceAdd, PV.shift, MObj.shift, rdV, rdD, reduceIte, Nat.reduceEqDiff, Nat.reduceBEq, PV.bin, PV.binOk, binI, binS, PV.withInt, PV.withIntP, okAll, PV.under, PV.okUnder, eq_self, implies_true, deadOk, ne_eq, allOk, RVar.val, RVar.ok, retV, PV.seen, PV.view, beq_self_eq_true, PV.flat, PV.noOwn, id_eq, behind, PV.kill, MObj.kill, killTag, reduceCtorEq, nilB]; (try go_unwrap; try simp only [hd, hgB, hgA, hAl, hBl, d1, d2, w2, dss, toNat_add2, toNat_add1, Int.toNat_natCast, Bool.false_and, Bool.true_and, true_implies, true_and, Bool.false_eq_true, reduceCtorEq, false_implies, Bool.not_false, Bool.not_true, Bool.true_or, Bool.false_or]); exact g16b)); (case hok => (intro hg; first | (simp only [hg, hd, hgB, hgA, hAl, hBl, d1, d2, w2, dss, SS, SS2, SS3, SS4, scopeQ_normal, scopeQ_ret, scopeQ_exit, Option.map_some, Bool.not_false, Bool.not_true, gArgs, gOk, Nat.reduceAdd, PV.shift, MObj.shift, rdV, rdD, reduceIte, Nat.reduceEqDiff, Nat.reduceBEq, PV.bin, PV.binOk, binI, binS, PV.withInt, PV.withIntP, okAll, PV.under, PV.okUnder, eq_self, implies_true, deadOk, ne_eq, allOk, RVar.val, RVar.ok, retV, PV.seen, PV.view, beq_self_eq_true, PV.flat, PV.noOwn, id_eq, behind, PV.kill, MObj.kill, killTag, reduceCtorEq, nilB]; done) | (simp_all [okAll, PV.okUnder]; done))); (case hs => (intro hg; simp only [hg, hd, hgB, hgA, hAl, hBl, d1, d2, w2, dss, SS, SS2, SS3, SS4, scopeQ_normal, scopeQ_ret, scopeQ_exit, Option.map_some, Bool.not_false, Bool.not_true, gArgs, gOk, Nat.reduceAdd, PV.shift, MObj.shift, rdV, rdD, reduceIte, Nat.reduceEqDiff, Nat.reduceBEq, PV.bin, PV.binOk, binI, binS, PV.withInt, PV.withIntP, okAll, PV.under, PV.okUnder, eq_self, implies_true, deadOk, ne_eq, allOk, RVar.val, RVar.ok, retV, PV.seen, PV.view, beq_self_eq_true, PV.flat, PV.noOwn, id_eq, behind, PV.kill, MObj.kill, killTag, reduceCtorEq, nilB])); (case hn => (intro hg; simp only [hg, hd, hgB, hgA, hAl, hBl, d1, d2, w2, dss, SS, SS2, SS3, SS4, scopeQ_normal, scopeQ_ret, scopeQ_exit, Option.map_some, Bool.not_false, Bool.not_true, gArgs, gOk, Nat.reduceAdd, PV.shift, MObj.shift, rdV, rdD, reduceIte, Nat.reduceEqDiff, Nat.reduceBEq, PV.bin, PV.binOk, binI, binS, PV.withInt, PV.withIntP, okAll, PV.under, PV.okUnder, eq_self, implies_true, deadOk, ne_eq, allOk, RVar.val, RVar.ok, retV, PV.seen, PV.view, beq_self_eq_true, PV.flat, PV.noOwn, id_eq, behind, PV.kill, MObj.kill, killTag, reduceCtorEq, nilB])); (case hq => rfl); (simp only [hd, hgB, hgA, hAl, hBl, d1, d2, w2, dss, SS, SS2, SS3, SS4, scopeQ_normal, scopeQ_ret, scopeQ_exit, Option.map_some, Bool.not_false, Bool.not_true, gArgs, gOk, Nat.reduceAdd, PV.shift, MObj.shift, rdV, rdD, reduceIte, Nat.reduceEqDiff, Nat.reduceBEq, PV.bin, PV.binOk, binI, binS, PV.withInt, PV.withIntP, okAll, PV.under, PV.okUnder, eq_self, implies_true, deadOk, ne_eq, allOk, RVar.val, RVar.ok, retV, PV.seen, PV.view, beq_self_eq_true, PV.flat, PV.noOwn, id_eq, behind, PV.kill, MObj.kill, killTag, reduceCtorEq, nilB]; (try go_unwrap; try simp only [hd, hgB, hgA, hAl, hBl, d1, d2, w2, dss, toNat_add2, toNat_add1, Int.toNat_natCast, Bool.false_and, Bool.true_and, true_implies, true_and, Bool.false_eq_true, reduceCtorEq, false_implies, Bool.not_false, Bool.not_true, Bool.true_or, Bool.false_or]))) | (refine gd_i ?_; intro hg; try simp only [hg]) | refine goCallG_W e12 (g12) ?_ ?_ ?_ ?_ ?_ | ((first | show @LE.le Nat _ _ _ | show @LT.lt Nat _ _ _ | show @LE.le Int _ _ _ | show @LT.lt Int _ _ _ | show @Eq Nat _ _ | show @Eq Int _ _ | show @Eq Bool _ _ | show _ ∨ _ | show ¬ _); first | omega | (simp only [decide_eq_true_eq, decide_eq_false_iff_not, List.length_cons, List.length_nil, List.length_append, List.length_map, Sh.size] <;> omega) | (go_unwrap; omega)) | ((first | refine PW.region ?_ | refine PW.regionQ ?_ | refine schedW_done_i ?_ | show (_ : Post) _ _ _ | show @Eq (List PV) _ _ | show @Eq Bool _ _ | show opsW _ _ _ _ _ _ _ _ | show okAll _ | show @Eq Bool _ _ ∨ _); focus (simp only [hd, hgB, hgA, hAl, hBl, d1, d2, w2, dss, SS, SS2, SS3, SS4, scopeQ_normal, scopeQ_ret, scopeQ_exit, Option.map_some, Bool.not_false, Bool.not_true, gArgs, gOk, Nat.reduceAdd, PV.shift, MObj.shift, rdV, rdD, reduceIte, Nat.reduceEqDiff, Nat.reduceBEq, PV.bin, PV.binOk, binI, binS, PV.withInt, PV.withIntP, okAll, PV.under, PV.okUnder, eq_self, implies_true, deadOk, ne_eq, allOk, RVar.val, RVar.ok, retV, PV.seen, PV.view, beq_self_eq_true, PV.flat, PV.noOwn, id_eq, behind, PV.kill, MObj.kill, killTag, reduceCtorEq, nilB]; (try go_unwrap; try simp only [hd, hgB, hgA, hAl, hBl, d1, d2, w2, dss, toNat_add2, toNat_add1, Int.toNat_natCast, Bool.false_and, Bool.true_and, true_implies, true_and, Bool.false_eq_true, reduceCtorEq, false_implies, Bool.not_false, Bool.not_true, Bool.true_or, Bool.false_or]))) | refine And.intro ?_ ?_ | exact Or.inr ⟨rfl, Nat.le_refl _⟩ | exact (fun h => Bool.noConfusion h))
      all_goals exact ⟨i + 1, (by rw [hnx, List.length_append]; rfl), by omega, by omega⟩
  have hd : decide ((i : Int) < B.length) = false := by simp only [decide_eq_false_iff_not]; omega
  have g16b := h16b x.name
  have hbl5 := below_len (l := l ++ [x]) x.name
  generalize belowM (l ++ [x]) x.name = R at hhas g16b hbl5
  repeat' (first | exact True.intro | (refine PW.seqK ?_; intro K hK) | refine PW.block ?_ | refine PW.scope ?_ | refine PW.label ?_ | refine PW.exit ?_ | refine PW.ret ?_ | refine PW.skip ?_ | refine seqK_n (by assumption) ?_ | refine seqK_r (by assumption) ?_ | refine seqK_e (by assumption) ?_ | refine PW.regionA ?_ | exact schedW_stop_i | refine schK_n (by assumption) ?_ | (refine schedW_alt_k ?_ ?_; focus (intro K hK; simp only [hd, hBl, SS, SS2, SS3, SS4, scopeQ_normal, scopeQ_ret, scopeQ_exit, Option.map_some, Bool.not_false, Bool.not_true, gArgs, gOk, Nat.reduceAdd, PV.shift, MObj.shift, rdV, rdD, reduceIte, Nat.reduceEqDiff, Nat.reduceBEq, PV.bin, PV.binOk, binI, binS, PV.withInt, PV.withIntP, okAll, PV.under, PV.okUnder, eq_self, implies_true, deadOk, ne_eq, allOk, RVar.val, RVar.ok, retV, PV.seen, PV.view, beq_self_eq_true, PV.flat, PV.noOwn, id_eq, behind, PV.kill, MObj.kill, killTag, reduceCtorEq, nilB]; (try go_unwrap; try simp only [hd, hBl, toNat_add2, toNat_add1, Int.toNat_natCast, Bool.false_and, Bool.true_and, true_implies, true_and, Bool.false_eq_true, reduceCtorEq, false_implies, Bool.not_false, Bool.not_true, Bool.true_or, Bool.false_or]))) | (refine PW.cond rfl ?_ ?_ <;> intro hcond <;> (try contradiction) <;> try simp only [decide_eq_true_eq, decide_eq_false_iff_not] at hcond) | (refine gd_i ?_; intro hg; try simp only [hg]) | refine goCall_W e16 (g16b) ?_ ?_ ?_ ?_ | ((first | show @LE.le Nat _ _ _ | show @LT.lt Nat _ _ _ | show @LE.le Int _ _ _ | show @LT.lt Int _ _ _ | show @Eq Nat _ _ | show @Eq Int _ _ | show @Eq Bool _ _ | show _ ∨ _ | show ¬ _); first | omega | (simp only [decide_eq_true_eq, decide_eq_false_iff_not, List.length_cons, List.length_nil, List.length_append, List.length_map, Sh.size] <;> omega) | (go_unwrap; omega)) | ((first | refine PW.region ?_ | refine PW.regionQ ?_ | refine schedW_done_i ?_ | show (_ : Post) _ _ _ | show @Eq (List PV) _ _ | show @Eq Bool _ _ | show opsW _ _ _ _ _ _ _ _ | show okAll _ | show @Eq Bool _ _ ∨ _); focus (simp only [hd, hBl, SS, SS2, SS3, SS4, scopeQ_normal, scopeQ_ret, scopeQ_exit, Option.map_some, Bool.not_false, Bool.not_true, gArgs, gOk, Nat.reduceAdd, PV.shift, MObj.shift, rdV, rdD, reduceIte, Nat.reduceEqDiff, Nat.reduceBEq, PV.bin, PV.binOk, binI, binS, PV.withInt, PV.withIntP, okAll, PV.under, PV.okUnder, eq_self, implies_true, deadOk, ne_eq, allOk, RVar.val, RVar.ok, retV, PV.seen, PV.view, beq_self_eq_true, PV.flat, PV.noOwn, id_eq, behind, PV.kill, MObj.kill, killTag, reduceCtorEq, nilB]; (try go_unwrap; try simp only [hd, hBl, toNat_add2, toNat_add1, Int.toNat_natCast, Bool.false_and, Bool.true_and, true_implies, true_and, Bool.false_eq_true, reduceCtorEq, false_implies, Bool.not_false, Bool.not_true, Bool.true_or, Bool.false_or]))) | refine And.intro ?_ ?_ | exact Or.inr ⟨rfl, Nat.le_refl _⟩ | exact (fun h => Bool.noConfusion h))
  refine PW.loop (σ := Nat) [0, 3, 4, 13, 14] (fun i => [edL l, .cptr (some 2) (PV.agg [.str x.name, .list none (x.needs.map PV.str)]) 0, .bool false, txL R, .int .i64 i]) (fun _ => []) (fun i => i ≤ x.needs.length) (fun i => x.needs.length - i) 0 ?_ rfl (by omega) ?_
  · simp only [SS, SS2, SS3, SS4, scopeQ_normal, scopeQ_ret, scopeQ_exit, Option.map_some, Bool.not_false, Bool.not_true, gArgs, gOk, Nat.reduceAdd, PV.shift, MObj.shift, rdV, rdD, reduceIte, Nat.reduceEqDiff, Nat.reduceBEq, PV.bin, PV.binOk, binI, binS, PV.withInt, PV.withIntP, okAll, PV.under, PV.okUnder, eq_self, implies_true, deadOk, ne_eq, allOk, RVar.val, RVar.ok, retV, PV.seen, PV.view, beq_self_eq_true, PV.flat, PV.noOwn, id_eq, behind, PV.kill, MObj.kill, killTag, reduceCtorEq, nilB]; rfl
  rintro k hk
  simp only [List.zip_cons_cons, List.zip_nil_left]
  rcases Nat.lt_or_ge k x.needs.length with h' | h'
  · have hdk : decide ((k : Int) < x.needs.length) = true := by simp only [decide_eq_true_eq]; omega
    have hgk := tx_getD x.needs k h'
    have hin := hhas _ (List.getElem_mem h')
    generalize x.needs[k] = y at hgk hin
    have h23 := v23 R y (by omega)
    rw [decide_eq_true hin] at h23
    repeat' (first | exact True.intro | (refine PW.seqK ?_; intro K hK) | refine PW.block ?_ | refine PW.scope ?_ | refine PW.label ?_ | refine PW.exit ?_ | refine PW.ret ?_ | refine PW.skip ?_ | refine seqK_n (by assumption) ?_ | refine seqK_r (by assumption) ?_ | refine seqK_e (by assumption) ?_ | refine PW.regionA ?_ | exact schedW_stop_i | refine schK_n (by assumption) ?_ | (refine schedW_alt_k ?_ ?_; focus (intro K hK; simp only [hdk, hnlx, hgk, SS, SS2, SS3, SS4, scopeQ_normal, scopeQ_ret, scopeQ_exit, Option.map_some, Bool.not_false, Bool.not_true, gArgs, gOk, Nat.reduceAdd, PV.shift, MObj.shift, rdV, rdD, reduceIte, Nat.reduceEqDiff, Nat.reduceBEq, PV.bin, PV.binOk, binI, binS, PV.withInt, PV.withIntP, okAll, PV.under, PV.okUnder, eq_self, implies_true, deadOk, ne_eq, allOk, RVar.val, RVar.ok, retV, PV.seen, PV.view, beq_self_eq_true, PV.flat, PV.noOwn, id_eq, behind, PV.kill, MObj.kill, killTag, reduceCtorEq, nilB]; (try go_unwrap; try simp only [hdk, hnlx, hgk, toNat_add2, toNat_add1, Int.toNat_natCast, Bool.false_and, Bool.true_and, true_implies, true_and, Bool.false_eq_true, reduceCtorEq, false_implies, Bool.not_false, Bool.not_true, Bool.true_or, Bool.false_or]))) | (refine PW.cond rfl ?_ ?_ <;> intro hcond <;> (try contradiction) <;> try simp only [decide_eq_true_eq, decide_eq_false_iff_not] at hcond) | (refine gd_i ?_; intro hg; try simp only [hg]) | refine goCall_W e23 (h23) ?_ ?_ ?_ ?_ | ((first | show @LE.le Nat _ _ _ | show @LT.lt Nat _ _ _ | show @LE.le Int _ _ _ | show @LT.lt Int _ _ _ | show @Eq Nat _ _ | show @Eq Int _ _ | show @Eq Bool _ _ | show _ ∨ _ | show ¬ _); first | omega | (simp only [decide_eq_true_eq, decide_eq_false_iff_not, List.length_cons, List.length_nil, List.length_append, List.length_map, Sh.size] <;> omega) | (go_unwrap; omega)) | ((first | refine PW.region ?_ | refine PW.regionQ ?_ | refine schedW_done_i ?_ | show (_ : Post) _ _ _ | show @Eq (List PV) _ _ | show @Eq Bool _ _ | show opsW _ _ _ _ _ _ _ _ | show okAll _ | show @Eq Bool _ _ ∨ _); focus (simp only [hdk, hnlx, hgk, SS, SS2, SS3, SS4, scopeQ_normal, scopeQ_ret, scopeQ_exit, Option.map_some, Bool.not_false, Bool.not_true, gArgs, gOk, Nat.reduceAdd, PV.shift, MObj.shift, rdV, rdD, reduceIte, Nat.reduceEqDiff, Nat.reduceBEq, PV.bin, PV.binOk, binI, binS, PV.withInt, PV.withIntP, okAll, PV.under, PV.okUnder, eq_self, implies_true, deadOk, ne_eq, allOk, RVar.val, RVar.ok, retV, PV.seen, PV.view, beq_self_eq_true, PV.flat, PV.noOwn, id_eq, behind, PV.kill, MObj.kill, killTag, reduceCtorEq, nilB]; (try go_unwrap; try simp only [hdk, hnlx, hgk, toNat_add2, toNat_add1, Int.toNat_natCast, Bool.false_and, Bool.true_and, true_implies, true_and, Bool.false_eq_true, reduceCtorEq, false_implies, Bool.not_false, Bool.not_true, Bool.true_or, Bool.false_or]))) | refine And.intro ?_ ?_ | exact Or.inr ⟨rfl, Nat.le_refl _⟩ | exact (fun h => Bool.noConfusion h))
    all_goals exact ⟨k + 1, rfl, by omega, by omega⟩
  · have hdk : decide ((k : Int) < x.needs.length) = false := by simp only [decide_eq_false_iff_not]; omega
    repeat' (first | exact True.intro | (refine PW.seqK ?_; intro K hK) | refine PW.block ?_ | refine PW.scope ?_ | refine PW.label ?_ | refine PW.exit ?_ | refine PW.ret ?_ | refine PW.skip ?_ | refine seqK_n (by assumption) ?_ | refine seqK_r (by assumption) ?_ | refine seqK_e (by assumption) ?_ | refine PW.regionA ?_ | exact schedW_stop_i | refine schK_n (by assumption) ?_ | (refine schedW_alt_k ?_ ?_; focus (intro K hK; simp only [hdk, hnlx, SS, SS2, SS3, SS4, scopeQ_normal, scopeQ_ret, scopeQ_exit, Option.map_some, Bool.not_false, Bool.not_true, gArgs, gOk, Nat.reduceAdd, PV.shift, MObj.shift, rdV, rdD, reduceIte, Nat.reduceEqDiff, Nat.reduceBEq, PV.bin, PV.binOk, binI, binS, PV.withInt, PV.withIntP, okAll, PV.under, PV.okUnder, eq_self, implies_true, deadOk, ne_eq, allOk, RVar.val, RVar.ok, retV, PV.seen, PV.view, beq_self_eq_true, PV.flat, PV.noOwn, id_eq, behind, PV.kill, MObj.kill, killTag, reduceCtorEq, nilB]; (try go_unwrap; try simp only [hdk, hnlx, toNat_add2, toNat_add1, Int.toNat_natCast, Bool.false_and, Bool.true_and, true_implies, true_and, Bool.false_eq_true, reduceCtorEq, false_implies, Bool.not_false, Bool.not_true, Bool.true_or, Bool.false_or]))) | (refine PW.cond rfl ?_ ?_ <;> intro hcond <;> (try contradiction) <;> try simp only [decide_eq_true_eq, decide_eq_false_iff_not] at hcond) | (refine gd_i ?_; intro hg; try simp only [hg]) | ((first | show @LE.le Nat _ _ _ | show @LT.lt Nat _ _ _ | show @LE.le Int _ _ _ | show @LT.lt Int _ _ _ | show @Eq Nat _ _ | show @Eq Int _ _ | show @Eq Bool _ _ | show _ ∨ _ | show ¬ _); first | omega | (simp only [decide_eq_true_eq, decide_eq_false_iff_not, List.length_cons, List.length_nil, List.length_append, List.length_map, Sh.size] <;> omega) | (go_unwrap; omega)) | ((first | refine PW.region ?_ | refine PW.regionQ ?_ | refine schedW_done_i ?_ | show (_ : Post) _ _ _ | show @Eq (List PV) _ _ | show @Eq Bool _ _ | show opsW _ _ _ _ _ _ _ _ | show okAll _ | show @Eq Bool _ _ ∨ _); focus (simp only [hdk, hnlx, SS, SS2, SS3, SS4, scopeQ_normal, scopeQ_ret, scopeQ_exit, Option.map_some, Bool.not_false, Bool.not_true, gArgs, gOk, Nat.reduceAdd, PV.shift, MObj.shift, rdV, rdD, reduceIte, Nat.reduceEqDiff, Nat.reduceBEq, PV.bin, PV.binOk, binI, binS, PV.withInt, PV.withIntP, okAll, PV.under, PV.okUnder, eq_self, implies_true, deadOk, ne_eq, allOk, RVar.val, RVar.ok, retV, PV.seen, PV.view, beq_self_eq_true, PV.flat, PV.noOwn, id_eq, behind, PV.kill, MObj.kill, killTag, reduceCtorEq, nilB]; (try go_unwrap; try simp only [hdk, hnlx, toNat_add2, toNat_add1, Int.toNat_natCast, Bool.false_and, Bool.true_and, true_implies, true_and, Bool.false_eq_true, reduceCtorEq, false_implies, Bool.not_false, Bool.not_true, Bool.true_or, Bool.false_or]))) | refine And.intro ?_ ?_ | exact Or.inr ⟨rfl, Nat.le_refl _⟩ | exact (fun h => Bool.noConfusion h))
set_option maxRecDepth 100000 in
theorem adds_lifted (os : Os) (started : os.Started) (H : Type) (enc : TypeId × Value → H) (F : Stop.Interp) :
    ReturnsInHanded {} Try.checked os 8 .any ((Rows.OpenSpec.upto Rows.orderAddsSpec).pre6 enc Try.prog Try.f8 Rows.orderAddsUptoRow.domain false) (((Rows.OpenSpec.upto Rows.orderAddsSpec).at F).post enc Try.prog Try.f8 false true false false) := by
  refine returnsInHanded_of_cond (C := Try.checked) (s := Rows.OpenSpec.upto Rows.orderAddsSpec) (k := Rows.uptoSmall) rfl ownB started (by kernel_rfl) Try.func8
    (OpenSpec.witness (enc := enc) (C := Try.checked) (s := Rows.OpenSpec.upto Rows.orderAddsSpec) (k := Rows.uptoSmall) rfl false ⟨#[], #[.slice none 0 0, .agg #[.string .empty, .slice none 0 0]], []⟩ 8 (by kernel_rfl) (by kernel_rfl) (by kernel_rfl)
      (x := ([.nil, .agg [.lit (.string []), .nil]], [], [])) (by kernel_rfl) rfl (by kernel_rfl)) ?_
  intro W base args ds gs before hval hW _ hk _
  refine law_of_Z (n := 8) szOk laidB (by kernel_rfl) rfl (fun ds hd => ?_) (tb := 4) (by kernel_rfl) (by kernel_rfl) (globsB W _) (fun ps hp => ?_) hval hW (small_of hk)
  · rw [Try.params8] at hd
    match ds, hd with
    | [d1, d2], _ => rfl
  · rw [Try.params8] at hp
    obtain ⟨p1, p2, rfl, k1, k2⟩ := shBs2 hp
    obtain ⟨l, rfl, h1, h2⟩ := read_eds (n := 4) k1
    obtain ⟨x, rfl, h3⟩ := read_ed1 (n := 5) k2
    exact v8 l h1 (eds_ok h2) x h3.2.1
theorem adds_holds : Rows.OrderAddsUptoSaid :=
  OpenClaim.holds_of_cond 8 Try.f8 rfl rfl rfl rfl rfl rfl rfl ⟨rfl, rfl, rfl, rfl, rfl⟩ rfl rfl rfl rfl rfl (by kernel_rfl) Try.func8 (by kernel_rfl)
    (of_decide_eq_true (by kernel_rfl)) (by unfold Func.isWrapper; first | (rw [if_pos (by decide +kernel)]; kernel_rfl) | (rw [if_neg (by decide +kernel)]; exact ⟨rfl, rfl⟩))
    (fun os started H enc _ F => adds_lifted os started H enc F)
end Go.Proofs.Ytdiokmmjdpbdbaa
