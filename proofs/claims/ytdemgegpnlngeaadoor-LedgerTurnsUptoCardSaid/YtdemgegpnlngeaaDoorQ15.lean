import Derived.Shelf.SlIter.Nil
import Derived.Shelf.SortM.Plain
import Derived.Shelf.SortM.SortNone
import Derived.Test.YtdemgegpnlngeaaDoorProg
import Derived.KernelRfl
import Derived.Test.YtdemgegpnlngeaaDoorQ14
import Derived.Test.YtdemgegpnlngeaaDoorP4
import Derived.Test.YtdemgegpnlngeaaDoorP3
namespace Go.Proofs.YtdemgegpnlngeaaDoor
open Go PG Go.Proofs Go.Shelf Go.RowKit Go.Maps Go.Sort
set_option linter.unusedSimpArgs false
set_option linter.unusedVariables false
set_option maxHeartbeats 4000000
set_option maxRecDepth 100000
def Tryd.keysA_ren : Go.Shelf.Ren := ⟨fun | 7 => 51 | 10 => 60 | n => n, fun | 23 => 29 | 26 => 23 | 3 => 24 | 28 => 100 | 0 => 0 | 27 => 99 | 33 => 106 | 4 => 4 | n => n, fun | n => n⟩
theorem Tryd.keysA : Go.Proofs.SlLaysZ.n7 Tryd.prog Tryd.keysA_ren := {
  mixed := by kernel_rfl
  f7 := ⟨Tryd.f51.name, by decide, Tryd.func51.trans (congrArg some (by kernel_rfl))⟩
  f10 := ⟨Tryd.f60.name, by decide, Tryd.func60.trans (congrArg some (by kernel_rfl))⟩
  t0 := Tryd.underlying0
  a0 := Tryd.isAgg0
  z0 := Tryd.sizeOf0
  v0 := Tryd.zeroValue0
  t4 := Tryd.underlying4
  a4 := Tryd.isAgg4
  z4 := Tryd.sizeOf4
  v4 := Tryd.zeroValue4
  t23 := Tryd.underlying29
  a23 := Tryd.isAgg29
  z23 := Tryd.sizeOf29
  v23 := Tryd.zeroValue29
  t26 := Tryd.underlying23
  a26 := Tryd.isAgg23
  z26 := Tryd.sizeOf23
  v26 := Tryd.zeroValue23
  t27 := Tryd.underlying99
  a27 := Tryd.isAgg99
  z27 := Tryd.sizeOf99
  v27 := Tryd.zeroValue99
  t28 := Tryd.underlying100
  a28 := Tryd.isAgg100
  z28 := Tryd.sizeOf100
  v28 := Tryd.zeroValue100
  t33 := Tryd.underlying106
  a33 := Tryd.isAgg106
  z33 := Tryd.sizeOf106
  v33 := Tryd.zeroValue106 }
def Tryd.sortedA_ren : Go.Shelf.Ren := ⟨fun | 6 => 50 | 8 => 58 | 9 => 59 | 11 => 64 | 13 => 66 | 12 => 65 | 23 => 78 | 24 => 79 | 14 => 69 | 15 => 70 | 16 => 71 | 17 => 72 | 18 => 73 | 19 => 74 | 20 => 75 | 21 => 76 | 22 => 77 | 25 => 83 | 26 => 84 | 27 => 85 | 28 => 86 | 29 => 87 | 30 => 88 | 31 => 93 | n => n, fun | 26 => 23 | 28 => 100 | 24 => 43 | 0 => 0 | 3 => 3 | 37 => 113 | 48 => 125 | 50 => 127 | 4 => 4 | 40 => 117 | 39 => 116 | 45 => 122 | 5 => 5 | 9 => 9 | 51 => 130 | 55 => 134 | 57 => 140 | 58 => 141 | 33 => 106 | n => n, fun | n => n⟩
theorem Tryd.sortedA : Go.Proofs.SlLaysZ.n6 Tryd.prog Tryd.sortedA_ren := {
  mixed := by kernel_rfl
  f6 := ⟨Tryd.f50.name, by decide, Tryd.func50.trans (congrArg some (by kernel_rfl))⟩
  f8 := ⟨Tryd.f58.name, by decide, Tryd.func58.trans (congrArg some (by kernel_rfl))⟩
  f11 := ⟨Tryd.f64.name, by decide, Tryd.func64.trans (congrArg some (by kernel_rfl))⟩
  t0 := Tryd.underlying0
  a0 := Tryd.isAgg0
  z0 := Tryd.sizeOf0
  v0 := Tryd.zeroValue0
  t24 := Tryd.underlying43
  a24 := Tryd.isAgg43
  z24 := Tryd.sizeOf43
  v24 := Tryd.zeroValue43
  t26 := Tryd.underlying23
  a26 := Tryd.isAgg23
  z26 := Tryd.sizeOf23
  v26 := Tryd.zeroValue23
  t28 := Tryd.underlying100
  a28 := Tryd.isAgg100
  z28 := Tryd.sizeOf100
  v28 := Tryd.zeroValue100
  i26 := by kernel_rfl }
def Tryd.sortA_ren : Go.Shelf.Ren := ⟨fun | 6 => 59 | 8 => 66 | 9 => 65 | 19 => 78 | 20 => 79 | 21 => 69 | 22 => 70 | 23 => 71 | 24 => 72 | 25 => 73 | 26 => 74 | 27 => 75 | 28 => 76 | 29 => 77 | 36 => 83 | 31 => 84 | 32 => 85 | 37 => 86 | 38 => 87 | 39 => 88 | 41 => 93 | n => n, fun | 27 => 43 | 29 => 23 | 3 => 3 | 32 => 113 | 26 => 43 | 0 => 0 | 44 => 125 | 46 => 127 | 4 => 4 | 36 => 117 | 35 => 116 | 41 => 122 | 5 => 5 | 9 => 9 | 53 => 130 | 57 => 134 | 63 => 140 | 64 => 141 | n => n, fun | n => n⟩
theorem Tryd.sortA : Go.Proofs.SlLaysM.n6 Tryd.prog Tryd.sortA_ren := {
  mixed := by kernel_rfl
  f6 := ⟨Tryd.f59.name, by decide, Tryd.func59.trans (congrArg some (by kernel_rfl))⟩
  f8 := Tryd.func66.trans (congrArg some (by kernel_rfl))
  f9 := ⟨Tryd.f65.name, by decide, Tryd.func65.trans (congrArg some (by kernel_rfl))⟩
  f19 := Tryd.func78.trans (congrArg some (by kernel_rfl))
  f20 := Tryd.func79.trans (congrArg some (by kernel_rfl))
  f21 := ⟨Tryd.f69.name, by decide, Tryd.func69.trans (congrArg some (by kernel_rfl))⟩
  f22 := ⟨Tryd.f70.name, by decide, Tryd.func70.trans (congrArg some (by kernel_rfl))⟩
  f23 := ⟨Tryd.f71.name, by decide, Tryd.func71.trans (congrArg some (by kernel_rfl))⟩
  f24 := ⟨Tryd.f72.name, by decide, Tryd.func72.trans (congrArg some (by kernel_rfl))⟩
  f25 := ⟨Tryd.f73.name, by decide, Tryd.func73.trans (congrArg some (by kernel_rfl))⟩
  f26 := ⟨Tryd.f74.name, by decide, Tryd.func74.trans (congrArg some (by kernel_rfl))⟩
  f27 := ⟨Tryd.f75.name, by decide, Tryd.func75.trans (congrArg some (by kernel_rfl))⟩
  f28 := ⟨Tryd.f76.name, by decide, Tryd.func76.trans (congrArg some (by kernel_rfl))⟩
  f29 := ⟨Tryd.f77.name, by decide, Tryd.func77.trans (congrArg some (by kernel_rfl))⟩
  f31 := Tryd.func84.trans (congrArg some (by kernel_rfl))
  f32 := Tryd.func85.trans (congrArg some (by kernel_rfl))
  f36 := ⟨Tryd.f83.name, by decide, Tryd.func83.trans (congrArg some (by kernel_rfl))⟩
  f37 := ⟨Tryd.f86.name, by decide, Tryd.func86.trans (congrArg some (by kernel_rfl))⟩
  f38 := ⟨Tryd.f87.name, by decide, Tryd.func87.trans (congrArg some (by kernel_rfl))⟩
  f39 := ⟨Tryd.f88.name, by decide, Tryd.func88.trans (congrArg some (by kernel_rfl))⟩
  f41 := ⟨Tryd.f93.name, by decide, Tryd.func93.trans (congrArg some (by kernel_rfl))⟩
  t0 := Tryd.underlying0
  a0 := Tryd.isAgg0
  z0 := Tryd.sizeOf0
  v0 := Tryd.zeroValue0
  t3 := Tryd.underlying3
  a3 := Tryd.isAgg3
  z3 := Tryd.sizeOf3
  v3 := Tryd.zeroValue3
  t4 := Tryd.underlying4
  a4 := Tryd.isAgg4
  z4 := Tryd.sizeOf4
  v4 := Tryd.zeroValue4
  t5 := Tryd.underlying5
  a5 := Tryd.isAgg5
  z5 := Tryd.sizeOf5
  v5 := Tryd.zeroValue5
  t9 := Tryd.underlying9
  a9 := Tryd.isAgg9
  z9 := Tryd.sizeOf9
  v9 := Tryd.zeroValue9
  t26 := Tryd.underlying43
  a26 := Tryd.isAgg43
  z26 := Tryd.sizeOf43
  v26 := Tryd.zeroValue43
  t27 := Tryd.underlying43
  a27 := Tryd.isAgg43
  z27 := Tryd.sizeOf43
  v27 := Tryd.zeroValue43
  t29 := Tryd.underlying23
  a29 := Tryd.isAgg23
  z29 := Tryd.sizeOf23
  v29 := Tryd.zeroValue23
  t32 := Tryd.underlying113
  a32 := Tryd.isAgg113
  z32 := Tryd.sizeOf113
  v32 := Tryd.zeroValue113
  t35 := Tryd.underlying116
  a35 := Tryd.isAgg116
  z35 := Tryd.sizeOf116
  v35 := Tryd.zeroValue116
  t36 := Tryd.underlying117
  a36 := Tryd.isAgg117
  z36 := Tryd.sizeOf117
  v36 := Tryd.zeroValue117
  t41 := Tryd.underlying122
  a41 := Tryd.isAgg122
  z41 := Tryd.sizeOf122
  v41 := Tryd.zeroValue122
  t44 := Tryd.underlying125
  a44 := Tryd.isAgg125
  z44 := Tryd.sizeOf125
  v44 := Tryd.zeroValue125
  t46 := Tryd.underlying127
  a46 := Tryd.isAgg127
  z46 := Tryd.sizeOf127
  v46 := Tryd.zeroValue127
  t53 := Tryd.underlying130
  a53 := Tryd.isAgg130
  z53 := Tryd.sizeOf130
  v53 := Tryd.zeroValue130
  t57 := Tryd.underlying134
  a57 := Tryd.isAgg134
  z57 := Tryd.sizeOf134
  v57 := Tryd.zeroValue134
  t63 := Tryd.underlying140
  a63 := Tryd.isAgg140
  z63 := Tryd.sizeOf140
  v63 := Tryd.zeroValue140
  t64 := Tryd.underlying141
  a64 := Tryd.isAgg141
  z64 := Tryd.sizeOf141
  v64 := Tryd.zeroValue141 }
theorem sortsA (m : Nat) : AnyZ.SortsIn Tryd.prog Tryd.sortedA_ren Fence.wide m :=
  ⟨fun blk off cap ss W hH hblk hsz => callsIn_wide.2 (AnyM.slices_Sort_string Tryd.sortA blk off cap ss W hH hblk hsz),
   fun p cap W => callsIn_wide.2 (AnyM.slices_Sort_string_none Tryd.sortA p cap W)⟩
theorem w33 {H : Type} (x : Value) (b nn : Nat) (D0 : DataW H) (R : Value → Option (DataW H × List MemPlace)) (w : World) (hown : w.ownsMap Tryd.prog 23 R b nn D0) (hmax : Maps.size D0 ≤ maxLen) (hbytes : Maps.size D0 * 16 ≤ 140737488355328) :
    Calls Tryd.prog 33 #[.agg #[x, .map (some b)]] w fun e w' => ∃ (v : Value) (ss : List (List UInt8)), e = .returned v ∧ ss.Perm (strKeys D0) ∧
      w'.ownsRow w.heap.size 23 1 v ss.length ((ss.mergeSort (fun x y => decide (x ≤ y))).map encStr) ∧ (v = .slice none 0 0 ↔ ss = []) ∧ Below w.heap.size w w' := by
  refine (callsIn_wide (n := 6)).1 ?_
  obtain ⟨w1, hw1⟩ : ∃ w1, w.alloc (.cells #[x, .map (some b)] 31) = w1 := ⟨_, rfl⟩
  have e1 : w1.heap.size = w.heap.size + 1 := by rw [← hw1]; simp
  have hown : w1.ownsMap Tryd.prog 23 R b nn D0 := by
    rw [← hw1]
    obtain ⟨es, clock, hb, Ft, hs, hD⟩ := hown
    exact ⟨es, clock, (Below.heap_alloc _ _ b (Array.getElem?_eq_some_iff.1 hb).1).trans hb, Ft, hs, hD⟩
  have hbl := hown.lt
  have hseq : SeqGives Fence.wide 2 Tryd.prog 60 #[.pointer (some ⟨w1.heap.size, 0, none⟩)] encStr (fun ss => ss.Perm (strKeys D0)) (Maps.size D0) (w1.alloc (.cells #[.map (some b)] 29)) :=
    AnyZ.keys_gives (ρ := Tryd.keysA_ren) { Tryd.keysA with } Fence.wide _ trivial rfl (by omega) w1.heap.size b nn D0 _ (by simp) (by simp) (by
      obtain ⟨es, clock, hb, Ft, hs, hD⟩ := hown
      exact ⟨es, clock, (Below.heap_alloc _ _ b hbl).trans hb, Ft, hs, hD⟩)
  have cK : ∀ mb W, CallsIn Fence.wide 5 Tryd.prog 51 #[.map mb] W fun e w' => e = .returned (.func (.func 60) #[] #[.pointer (some ⟨W.heap.size, 0, none⟩)]) ∧ w' = W.alloc (.cells #[.map mb] 29) := fun mb W => AnyZ.keys_in Tryd.keysA Fence.wide 5 trivial rfl mb W
  have cS := AnyZ.sorted_in Tryd.sortedA Fence.wide 5 trivial trivial trivial trivial rfl (by omega) (sortsA _) (enters_of Tryd.func59 (by kernel_rfl) rfl) 60 #[.pointer (some ⟨w1.heap.size, 0, none⟩)] trivial (enters_of Tryd.func60 (by kernel_rfl) rfl) _ _ hmax hbytes _ hseq
  change CallsIn _ _ Tryd.prog 50 _ _ _ at cS
  rw [e1] at cS
  subst hw1
  clear hseq e1 hbl hown
  have hfK : Fence.wide.fn 51 := trivial
  have hfS : Fence.wide.fn 50 := trivial
  refine callsIn_of_wp Tryd.func33 rfl trivial ?_ rfl
  simp only [Tryd.ntmps33, List.size_toArray, List.length_cons, List.length_nil, Nat.reduceAdd, Nat.reduceSub, Array.replicate_succ, Array.replicate_zero, List.push_toArray, List.append_toArray, List.nil_append, List.cons_append]
  gi_wp2_with (first
    | (gi_at_call 51; refine (cK _ _).mono ?_; rintro e w' ⟨rfl, rfl⟩)
    | (gi_at_call 50; refine cS.mono ?_; rintro e w' ⟨v, ss, rfl, hS, hrow, hnil, hb⟩))
  go_ret
  have e2 : ((w.alloc (.cells #[x, .map (some b)] 31)).alloc (.cells #[.map (some b)] 29)).heap.size = w.heap.size + 2 := by simp
  rw [e2] at hrow hb
  exact ⟨v, ss, rfl, hS, ownsRow_base_a hrow (by omega), hnil, (((Below.refl w.heap.size w).alloc (Nat.le_refl _) _).alloc (by simp) _).trans (hb.mono (by omega))⟩
theorem w33n (x : Value) (w : World) : Calls Tryd.prog 33 #[.agg #[x, .map none]] w fun e w' => e = .returned (.slice none 0 0) ∧ Below w.heap.size w w' := by
  refine (callsIn_wide (n := 6)).1 ?_
  have hseq : ∀ w1 : World, SeqGives Fence.wide 2 Tryd.prog 60 #[.pointer (some ⟨w1.heap.size, 0, none⟩)] encStr (fun ss : List (List UInt8) => ss = []) 0 (w1.alloc (.cells #[.map none] 29)) := fun w1 =>
    AnyZ.keys_gives_nil (ρ := Tryd.keysA_ren) { Tryd.keysA with } Fence.wide _ trivial rfl w1.heap.size _ (by simp) (by simp)
  have cK : ∀ mb W, CallsIn Fence.wide 5 Tryd.prog 51 #[.map mb] W fun e w' => e = .returned (.func (.func 60) #[] #[.pointer (some ⟨W.heap.size, 0, none⟩)]) ∧ w' = W.alloc (.cells #[.map mb] 29) := fun mb W => AnyZ.keys_in Tryd.keysA Fence.wide 5 trivial rfl mb W
  have cS := AnyZ.sorted_in Tryd.sortedA Fence.wide 5 trivial trivial trivial trivial rfl (by omega) (sortsA _) (enters_of Tryd.func59 (by kernel_rfl) rfl) 60 #[.pointer (some ⟨(w.alloc (.cells #[x, .map none] 31)).heap.size, 0, none⟩)] trivial (enters_of Tryd.func60 (by kernel_rfl) rfl) _ 0 (Nat.zero_le _) (by omega) _ (hseq (w.alloc (.cells #[x, .map none] 31)))
  change CallsIn _ _ Tryd.prog 50 _ _ _ at cS
  rw [show (w.alloc (.cells #[x, .map none] 31)).heap.size = w.heap.size + 1 by simp] at cS
  clear hseq
  have hfK : Fence.wide.fn 51 := trivial
  have hfS : Fence.wide.fn 50 := trivial
  refine callsIn_of_wp Tryd.func33 rfl trivial ?_ rfl
  simp only [Tryd.ntmps33, List.size_toArray, List.length_cons, List.length_nil, Nat.reduceAdd, Nat.reduceSub, Array.replicate_succ, Array.replicate_zero, List.push_toArray, List.append_toArray, List.nil_append, List.cons_append]
  gi_wp2_with (first
    | (gi_at_call 51; refine (cK _ _).mono ?_; rintro e w' ⟨rfl, rfl⟩)
    | (gi_at_call 50; refine cS.mono ?_; rintro e w' ⟨v, ss, rfl, rfl, hrow, hnil, hb⟩; obtain rfl : v = .slice none 0 0 := hnil.2 rfl))
  go_ret
  have e2 : ((w.alloc (.cells #[x, .map none] 31)).alloc (.cells #[.map none] 29)).heap.size = w.heap.size + 2 := by simp
  rw [e2] at hb
  exact ⟨rfl, (((Below.refl w.heap.size w).alloc (Nat.le_refl _) _).alloc (by simp) _).trans (hb.mono (by omega))⟩
theorem keysOf_w {es : List (List UInt8 × Int)} {ents : Array MapEntry} {clock b : Nat} {w : World} {ex : Nat → Prop} (hn : (es.map (·.1)).Nodup) (hl : ∀ s ∈ es.map (·.1), s.length ≤ maxLen) (hc : es.length ≤ maxLen)
    (h : w.heap[b]? = some (.map ents clock)) (hs : ents.size = (strM intV es).length) (hb : Born ents clock)
    (hk : ∀ (i : Nat) (e : MapEntry) (q : PV × PV), ents[i]? = some e → (strM intV es)[i]? = some q → RepC w ex e.key q.1) :
    ∃ D0 : DataW Unit, w.ownsMap Tryd.prog 23 (fun _ => some (.nil, [])) b ents.size D0 ∧ Maps.size D0 = es.length ∧ (strKeys D0).Perm (es.map (·.1)) := by
  have hlen : ents.size = es.length := by rw [hs, mapP_len]
  have hkey : ∀ (i : Nat) (e : MapEntry), ents[i]? = some e → ∃ s : ByteArray, e.key = .string s ∧ (es.map (·.1))[i]? = some s.data.toList := by
    intro i e he
    have hi : i < es.length := by rw [← hlen]; exact (Array.getElem?_eq_some_iff.1 he).1
    have := hk i e (.str es[i].1, intV es[i].2) he (by simp [mapP, hi])
    generalize hq : es[i].1 = s at this
    cases hkk : e.key <;> rw [hkk] at this <;> cases this
    rename_i s'
    exact ⟨s', rfl, by simp [hi, hq]⟩
  have hread : ents.toList.map (fun e => (keyOf Tryd.prog 23 e.key)) = es.map (fun q => some (Lit.string q.1)) := by
    apply List.ext_getElem?
    intro i
    rcases Nat.lt_or_ge i ents.size with hi | hi
    · obtain ⟨s, e1, e2⟩ := hkey i ents[i] (by simp [hi])
      have hi' : i < es.length := by omega
      have e3 : es[i].1 = s.data.toList := by simpa [hi'] using e2
      have hsz : s.size ≤ maxLen := by
        have := hl es[i].1 (List.mem_map.2 ⟨_, List.getElem_mem hi', rfl⟩)
        rw [e3] at this
        simpa using this
      simp only [List.getElem?_map, Array.getElem?_toList, Array.getElem?_eq_getElem hi, List.getElem?_eq_getElem hi', Option.map_some, e1, Go.WideMaps.keyOf_string_mk Tryd.underlying23 hsz, e3]
    · simp [List.getElem?_eq_none, hi, show es.length ≤ i by omega, Array.getElem?_eq_none]
  have hrd : ∀ e ∈ ents.toList, ∃ s, keyOf Tryd.prog 23 e.key = some (.string s) := by
    intro e he
    have : keyOf Tryd.prog 23 e.key ∈ es.map (fun q => some (Lit.string q.1)) := by rw [← hread]; exact List.mem_map.2 ⟨e, he, rfl⟩
    obtain ⟨q, _, hq⟩ := List.mem_map.1 this
    exact ⟨q.1, hq.symm⟩
  have hrg : ents.toList.map (Go.WideElems.rg (H := Unit) Tryd.prog 23 (fun _ => some (.nil, []))) = es.map (fun q => (Lit.string q.1, DataW.nil)) := by
    have h2 : ents.toList.map (Go.WideElems.rg (H := Unit) Tryd.prog 23 (fun _ => some (.nil, []))) = (ents.toList.map (fun e => (keyOf Tryd.prog 23 e.key))).map (fun o => (o.getD (.bool false), DataW.nil)) := by
      rw [List.map_map]
      refine List.map_congr_left fun e he => ?_
      obtain ⟨s, hs⟩ := hrd e he
      simp [Go.WideElems.rg, Go.WideElems.rd, hs]
    rw [h2, hread, List.map_map]
    rfl
  refine ⟨_, ⟨ents, clock, h, ⟨by omega, ⟨?_, ?_, ?_⟩, fun e he => ?_⟩, Nat.le_refl _, rfl⟩, ?_, ?_⟩
  · intro e he
    obtain ⟨i, hi, he⟩ := List.getElem_of_mem he
    have := hb.1 i e (by rw [← he]; simp at hi ⊢)
    rw [hb.2, this]; simpa using hi
  · have : ents.toList.map (·.born) = List.range ents.size := by
      apply List.ext_getElem?
      intro i
      rcases Nat.lt_or_ge i ents.size with hi | hi
      · have := hb.1 i ents[i] (by simp [hi])
        simp [hi, this]
      · simp [hi]
    rw [this]; exact List.nodup_range
  · have : ents.toList.map (·.key) = (es.map (·.1)).map (fun s => Value.string ⟨s.toArray⟩) := by
      apply List.ext_getElem?
      intro i
      rcases Nat.lt_or_ge i ents.size with hi | hi
      · obtain ⟨s, e1, e2⟩ := hkey i ents[i] (by simp [hi])
        rw [List.getElem?_map, List.getElem?_map, e2]
        simp [hi, e1]
      · simp [hi, show es.length ≤ i by omega]
    rw [this]
    exact List.Pairwise.map _ (fun a b h e => h (by simpa using e)) hn
  · obtain ⟨s, hs⟩ := hrd e he
    exact ⟨_, by simp [Go.WideElems.rd, hs]; rfl⟩
  · rw [Maps.size_eq, length_sorted, hrg]; simp
  · refine ((Go.WideShapes.sorted_perm _).map _).trans ?_
    rw [hrg, List.map_map]
    exact List.Perm.of_eq (List.map_congr_left fun q _ => rfl)
end Go.Proofs.YtdemgegpnlngeaaDoor

namespace Go.Proofs.YtdemgegpnlngeaaDoor
open Go PG Go.Proofs
set_option linter.unusedSimpArgs false
set_option linter.unusedVariables false
set_option maxHeartbeats 1000000
set_option maxRecDepth 100000
/-! What accounts a ledger has -/
def nms (es : List Ent4) : List (List UInt8) := es.flatMap fun e => [e.d, e.c]
theorem nms_app (a b : List Ent4) : nms (a ++ b) = nms a ++ nms b := by simp [nms]
theorem nms_cons (e : Ent4) (a : List Ent4) : nms (e :: a) = e.d :: e.c :: nms a := by simp [nms]
theorem nms_len (a : List Ent4) : (nms a).length = 2 * a.length := by
  induction a with
  | nil => rfl
  | cons e a ih => rw [nms_cons]; simp [ih]; omega
abbrev keysB (m : Bal) : List (List UInt8) := m.map (·.1)
structure LgK (l : Lg) : Prop where
  nodup : (keysB l.map).Nodup
  mem : ∀ s, s ∈ keysB l.map ↔ s ∈ nms l.bs.flatten
theorem mem_aset (m : Bal) (k : List UInt8) (v : Int) (s : List UInt8) : s ∈ keysB (aset m k v) ↔ s = k ∨ s ∈ keysB m := by
  simp only [keysB]
  rw [aset_keys]
  split
  · rename_i h
    constructor
    · exact .inr
    · rintro (rfl | h'); exact h; exact h'
  · simp only [List.mem_append, List.mem_singleton]
    constructor
    · rintro (h | h); exact .inr h; exact .inl h
    · rintro (h | h); exact .inr h; exact .inl h
theorem postB_keys : ∀ {es : List Ent4} {m m' : Bal}, postB m es = some m' → (keysB m).Nodup → (keysB m').Nodup ∧ ∀ s, s ∈ keysB m' ↔ s ∈ keysB m ∨ s ∈ nms es
  | [], m, m', h, hn => by cases h; exact ⟨hn, fun s => by simp [nms]⟩
  | e :: es, m, m', h, hn => by
    simp only [postB] at h
    split at h
    · cases h
    obtain ⟨h1, h2⟩ := postB_keys h (by unfold post1; exact aset_nodup (aset_nodup hn _ _) _ _)
    refine ⟨h1, fun s => ?_⟩
    rw [h2 s]
    unfold post1
    rw [mem_aset, mem_aset, nms_cons]
    simp only [List.mem_cons]
    constructor
    · rintro ((h | h | h) | h)
      · exact .inr (.inr (.inl h))
      · exact .inr (.inl h)
      · exact .inl h
      · exact .inr (.inr (.inr h))
    · rintro (h | h | h | h)
      · exact .inl (.inr (.inr h))
      · exact .inl (.inr (.inl h))
      · exact .inl (.inl h)
      · exact .inr h
theorem LgK_nil : LgK lg0 := ⟨by simp [Lg.map, keysB], fun s => by simp [Lg.map, keysB, nms]⟩
theorem postM_K {l : Lg} (h : LgK l) (es : List Ent4) : LgK (postM l es).1 := by
  unfold postM
  split
  · exact h
  split
  · exact h
  cases hq : postB l.map es with
  | none => exact h
  | some m =>
    obtain ⟨h1, h2⟩ := postB_keys hq h.nodup
    refine ⟨h1, fun s => ?_⟩
    show s ∈ keysB m ↔ _
    rw [h2 s, h.mem s]
    simp [nms_app]
theorem splitB_count (b : UInt8) : ∀ s : List UInt8, (splitB b s).flatten.length + (splitB b s).length = s.length + 1
  | [] => rfl
  | x :: l => by
    have ih := splitB_count b l
    simp only [splitB]
    split
    · simp only [List.flatten_cons, List.nil_append, List.length_cons]; omega
    · cases h : splitB b l with
      | nil => exact absurd h (splitB_ne b l)
      | cons p ps =>
        rw [h] at ih
        simp only [List.flatten_cons, List.length_append, List.length_cons] at ih ⊢; omega
theorem flat_le {k : Nat} : ∀ {l : List (List UInt8)}, (∀ p ∈ l, p.length ≤ k) → l.flatten.length ≤ k * l.length
  | [], _ => by simp
  | p :: l, h => by
    have h1 := h p (by simp)
    have h2 := flat_le (l := l) fun q hq => h q (by simp [hq])
    simp only [List.flatten_cons, List.length_append, List.length_cons, Nat.mul_add]; omega
theorem accOk_len {s : List UInt8} (h : accOk s = true) : s.length ≤ 98 := by
  unfold accOk at h
  simp only [Bool.and_eq_true, decide_eq_true_eq, List.all_eq_true] at h
  obtain ⟨h1, h2⟩ := h
  have h3 := splitB_count 47 s
  have h4 := flat_le (l := splitB 47 s) (k := 32) (fun p hp => by
    have := h2 p hp
    simp only [partOk, Bool.and_eq_true, decide_eq_true_eq] at this
    exact this.1.2)
  omega
theorem chk0_acc {e : Ent4} (h : chk e = 0) : accOk e.d = true ∧ accOk e.c = true := by
  unfold chk at h
  split at h
  · simp at h
  · rename_i h1
    simp only [not_or, Bool.not_eq_false] at h1
    exact h1
theorem key_len {l : Lg} (hW : LgW l) (hK : LgK l) : ∀ s ∈ keysB l.map, s.length ≤ 98 := by
  intro s hs
  rw [hK.mem s] at hs
  obtain ⟨e, he, hs⟩ := List.mem_flatMap.1 hs
  obtain ⟨b, hb, he⟩ := List.mem_flatten.1 he
  have := chk0_acc ((batch0 (hW.ok b hb)).2.2 e he)
  simp only [List.mem_cons, List.not_mem_nil, or_false] at hs
  rcases hs with rfl | rfl
  · exact accOk_len this.1
  · exact accOk_len this.2
theorem nodup_len : ∀ {a b : List (List UInt8)}, a.Nodup → (∀ x ∈ a, x ∈ b) → a.length ≤ b.length
  | [], b, _, _ => by simp
  | x :: a, b, hn, h => by
    have hx := h x (by simp)
    rw [List.nodup_cons] at hn
    have := nodup_len (a := a) (b := b.erase x) hn.2 (fun y hy => by
      have hne : y ≠ x := fun e => hn.1 (e ▸ hy)
      exact (List.mem_erase_of_ne hne).2 (h y (by simp [hy])))
    rw [List.length_erase_of_mem hx] at this
    have : 0 < b.length := List.length_pos_of_mem hx
    simp only [List.length_cons]; omega
theorem keys_count {l : Lg} (hW : LgW l) (hK : LgK l) : (keysB l.map).length ≤ 536870912 := by
  have h := nodup_len hK.nodup (fun s hs => (hK.mem s).1 hs)
  rw [nms_len] at h
  have := hW.flat
  omega
theorem keys_same {l m : Lg} (hl : LgK l) (hm : LgK m) (h : ∀ s, s ∈ nms l.bs.flatten ↔ s ∈ nms m.bs.flatten) : (keysB l.map).length = (keysB m.map).length := by
  have h1 := nodup_len hl.nodup (b := keysB m.map) (fun s hs => (hm.mem s).2 ((h s).1 ((hl.mem s).1 hs)))
  have h2 := nodup_len hm.nodup (b := keysB l.map) (fun s hs => (hl.mem s).2 ((h s).2 ((hm.mem s).1 hs)))
  omega
/-! Accounts, as a list -/
def accK (l : Lg) : List (List UInt8) := (keysB l.map).mergeSort (fun x y => decide (x ≤ y))
theorem accK_len (l : Lg) : (accK l).length = (keysB l.map).length := (List.mergeSort_perm _ _).length_eq
theorem le_trans' (a b c : List UInt8) : decide (a ≤ b) = true → decide (b ≤ c) = true → decide (a ≤ c) = true := by
  simp only [decide_eq_true_eq]; exact List.le_trans
theorem le_total' (a b : List UInt8) : (decide (a ≤ b) || decide (b ≤ a)) = true := by
  simp only [Bool.or_eq_true, decide_eq_true_eq]; exact List.le_total a b
theorem accK_sorted (l : Lg) : (accK l).Pairwise (fun a b => a ≤ b) := by
  have := List.pairwise_mergeSort (le := fun x y : List UInt8 => decide (x ≤ y)) le_trans' le_total' (keysB l.map)
  exact this.imp (by simp)
/-! Sums -/
theorem balE_flat_rev (a : List UInt8) : ∀ bs : List (List Ent4), balE bs.reverse.flatten a = balE bs.flatten a
  | [] => rfl
  | b :: bs => by
    simp only [List.reverse_cons, List.flatten_append, List.flatten_cons, List.flatten_nil, List.append_nil, balE_app, balE_flat_rev a bs]
    omega
/-- What a posting changes. -/
theorem postM_bal {l : Lg} (hW : LgW l) {es : List Ent4} (h : (postM l es).2 = 0) : batchW es = 0 ∧ (postM l es).1.bs = l.bs ++ [es] ∧ ∀ a, bget (postM l es).1.map a = bget l.map a + balE es a := by
  unfold postM at h ⊢
  split at h
  · rename_i h0; simp at h; exact absurd h h0
  rename_i h0
  have h0 : batchW es = 0 := by simpa using h0
  split at h
  · simp at h
  rename_i h1
  rw [if_neg (by simpa using h0), if_neg h1]
  cases hq : postB l.map es with
  | none => rw [hq] at h; simp at h
  | some m => exact ⟨h0, rfl, fun a => postB_bal (batch0 h0).2.2 hq a⟩
theorem v33F (l : Lg) (hW : LgW l) (hK : LgK l) : FCalls Tryd.prog G0 33 [lgP l] (fun p ν => p = .sl none 0 ((accK l).map PV.str).length ∧ ν = [some (.row none ((accK l).map PV.str))]) := by
  refine FCalls.row 23 (fun x hx => by obtain ⟨s, -, rfl⟩ := List.mem_map.1 hx; exact ⟨by simp [PV.scalar], by simp [PV.flat]⟩) ?_
  intro w ex vs hex hG hr
  obtain ⟨hs, hr⟩ := hr
  obtain ⟨L⟩ := vs
  have hval : ∀ (w' : World) (j : Nat) (p : PV) (u : Value), ((accK l).map PV.str)[j]? = some p → ((accK l).map Go.Proofs.encStr)[j]? = some u → RepC w' ex u p := by
    intro w' j p u hp hu
    rw [List.getElem?_map] at hp hu
    cases hq : (accK l)[j]? with
    | none => rw [hq] at hp; cases hp
    | some s =>
      rw [hq] at hp hu
      simp only [Option.map_some, Option.some.injEq] at hp hu
      subst hp; subst hu
      have := RepC.str (w := w') (ex := ex) ⟨s.toArray⟩
      simpa [Go.Proofs.encStr] using this
  match L, hs with
  | [v], _ =>
    have h0 := hr 0 v _ rfl rfl
    have hlen := key_len hW hK
    have hcount := keys_count hW hK
    have hnd := hK.nodup
    rcases l with ⟨bs, _ | m⟩
    · simp only [lgP, balP] at h0
      cases h0 with
      | agg vs' _ hs' hr' =>
      obtain ⟨L'⟩ := vs'
      match L', hs' with
      | [a, b], _ =>
        have h1 := hr' 1 b _ rfl rfl
        cases h1
        refine (w33n a w).mono ?_
        rintro e w' ⟨rfl, hB⟩
        have hz : (accK ⟨bs, none⟩).map PV.str = [] := by simp [accK, Lg.map, keysB]
        rw [hz]
        exact ⟨_, [], rfl, ⟨rfl, .inl ⟨rfl, rfl⟩⟩, ⟨(fun j p u hp hu => by simp at hp), hB⟩⟩
    · simp only [lgP, balP] at h0
      cases h0 with
      | agg vs' _ hs' hr' =>
      obtain ⟨L'⟩ := vs'
      match L', hs' with
      | [a, b], _ =>
        have h1 := hr' 1 b _ rfl rfl
        cases h1 with
        | cmap r _ _ ents clock hx h hsz hb hkd hk hv =>
          simp only [Lg.map, Option.getD_some, keysB] at hlen hcount hnd
          have hml : m.length ≤ 536870912 := by simpa using hcount
          obtain ⟨D0, o1, o2, o3⟩ := keysOf_w hnd (fun s hs => Nat.le_trans (hlen s hs) (by unfold maxLen; omega)) (by unfold maxLen; omega) h hsz hb hk
          refine (w33 a r ents.size D0 _ w o1 (by rw [o2]; unfold maxLen; omega) (by rw [o2]; omega)).mono ?_
          rintro e w' ⟨v, ss, rfl, hp, hrow, -, hB⟩
          have hss : ss.mergeSort (fun x y => decide (x ≤ y)) = accK ⟨bs, some m⟩ :=
            List.Perm.eq_of_pairwise (le := fun x y : List UInt8 => x ≤ y) (fun a b _ _ h1 h2 => List.le_antisymm h1 h2)
              ((List.pairwise_mergeSort le_trans' le_total' ss).imp (by simp)) (accK_sorted _) ((List.mergeSort_perm _ _).trans ((hp.trans o3).trans (List.mergeSort_perm _ _).symm))
          have hl2 : ss.length = ((accK ⟨bs, some m⟩).map PV.str).length := by rw [← hss]; simp
          rw [hss, hl2] at hrow
          exact ⟨v, _, rfl, hrow, hval w', hB⟩
theorem v33 (l : Lg) (hW : LgW l) (hK : LgK l) : VCalls Tryd.prog G0 33 [lgP l] (.list none ((accK l).map PV.str)) :=
  (v33F l hW hK).val (by rintro p ν ⟨rfl, rfl⟩; (simp [PV.seen, PV.view, Mem.get]; exact List.take_of_length_le (by simp)))
end Go.Proofs.YtdemgegpnlngeaaDoor

namespace Go.Proofs.YtdemgegpnlngeaaDoor
open PG Go.Proofs
-- wagebook/wagebooklaw33.LedgerMoves
def L11 : List Nat := [0, 2, 3, 4, 5, 7, 8, 9, 11, 12, 13, 14, 15, 17, 20, 22, 23, 24, 25, 36, 40, 41, 42, 43, 54, 62, 76, 94, 95, 96, 97, 98, 116]
def c11 : CF := ⟨119,
  .seq (.region false [⟨some 2, none, .rd .mov [.pv (.bool false)]⟩] L11)
  (.seq (.seq (.region false [⟨some 18, none, .rd .mov [.tmp 0]⟩,
      ⟨some 19, none, .call (.pv (.fn 32 [] [])) [.tmp 18]⟩,
      ⟨some 20, none, .rd (.un .not) [.tmp 19]⟩] L11)
   (.cond (.tmp 20)
    (.seq (.region false [⟨some 21, none, .call (.pv (.fn 13 [] [])) []⟩,
        ⟨some 2, none, .rd .mov [.tmp 21]⟩] L11)
     (.ret))
    (.skip)))
  (.seq (.region false [⟨some 3, none, .eff (.alloc (some 2) (.agg [.nilSl, .nilMap])) []⟩,
     ⟨some 4, none, .eff (.alloc (some 2) (.agg [.nilSl, .nilMap])) []⟩,
     ⟨some 5, none, .eff (.alloc (some 2) (.agg [.nilSl, .nilMap])) []⟩] L11)
  (.seq (.seq (.region false [⟨some 22, none, .rd .mov [.tmp 0]⟩,
      ⟨some 23, none, .rd .lenL [.tmp 22]⟩,
      ⟨some 24, none, .rd .mov [.pv (.int .i64 0)]⟩] L11)
   (.block 0
    (.loop
      (.seq (.region false [⟨some 25, none, .rd (.bin .lss) [.tmp 24, .tmp 23]⟩] L11)
       (.seq (.cond (.tmp 25)
         (.skip)
         (.exit 0))
       (.seq (.block 1
         (.seq (.region false [⟨some 26, none, .rd (.idxAddr (some 3)) [.tmp 22, .tmp 24]⟩,
             ⟨some 27, none, .rd (.load (some 3)) [.tmp 26]⟩,
             ⟨some 7, none, .eff (.alloc (some 3) (.agg [(.bool false), (.int .i64 0), .nilSl])) []⟩,
             ⟨none, none, .eff (.store (some 3)) [.tmp 7, .tmp 27]⟩] L11)
          (.seq (.region false [⟨some 29, none, .rd (.load (some 2)) [.tmp 3]⟩,
             ⟨some 30, none, .rd (.fldAddr 2) [.tmp 7]⟩,
             ⟨some 31, none, .rd (.load none) [.tmp 30]⟩,
             ⟨some 32, none, .call (.pv (.fn 14 [] [])) [.tmp 29, .tmp 31]⟩,
             ⟨some 28, none, .rd .mov [.tmp 32]⟩,
             ⟨some 33, none, .rd (.ext 0) [.tmp 28]⟩,
             ⟨some 34, none, .rd (.ext 1) [.tmp 28]⟩,
             ⟨some 8, none, .eff (.alloc (some 2) (.agg [.nilSl, .nilMap])) []⟩,
             ⟨none, none, .eff (.store (some 2)) [.tmp 8, .tmp 33]⟩,
             ⟨some 9, none, .rd .mov [.tmp 34]⟩] L11)
          (.seq (.seq (.region false [⟨some 35, none, .rd .mov [.tmp 9]⟩,
              ⟨some 36, none, .rd (.bin .neq) [.tmp 35, .pv (.int .i64 0)]⟩] L11)
           (.cond (.tmp 36)
            (.seq (.region false [⟨some 37, none, .call (.pv (.fn 13 [] [])) []⟩,
                ⟨some 2, none, .rd .mov [.tmp 37]⟩] L11)
             (.ret))
            (.skip)))
          (.seq (.region false [⟨some 38, none, .rd (.load (some 2)) [.tmp 8]⟩,
             ⟨none, none, .eff (.store (some 2)) [.tmp 3, .tmp 38]⟩] L11)
          (.seq (.region false [⟨some 39, none, .rd (.fldAddr 2) [.tmp 7]⟩,
             ⟨some 40, none, .rd (.load none) [.tmp 39]⟩,
             ⟨some 41, none, .rd .lenL [.tmp 40]⟩,
             ⟨some 42, none, .rd .mov [.pv (.int .i64 0)]⟩] L11)
          (.block 2
           (.loop
             (.seq (.region false [⟨some 43, none, .rd (.bin .lss) [.tmp 42, .tmp 41]⟩] L11)
              (.seq (.cond (.tmp 43)
                (.skip)
                (.exit 2))
              (.seq (.block 3
                (.seq (.region false [⟨some 44, none, .rd (.idxAddr (some 4)) [.tmp 40, .tmp 42]⟩,
                    ⟨some 45, none, .rd (.load (some 4)) [.tmp 44]⟩,
                    ⟨some 11, none, .eff (.alloc (some 4) (.agg [(.str []), (.str []), (.int .i64 0), (.str [])])) []⟩,
                    ⟨none, none, .eff (.store (some 4)) [.tmp 11, .tmp 45]⟩] L11)
                 (.seq (.region false [⟨some 47, none, .rd (.load (some 2)) [.tmp 5]⟩,
                    ⟨some 48, none, .rd (.load (some 4)) [.tmp 11]⟩,
                    ⟨some 49, none, .eff (.lit (some 4) false) [.tmp 48]⟩,
                    ⟨some 50, none, .call (.pv (.fn 14 [] [])) [.tmp 47, .tmp 49]⟩,
                    ⟨some 46, none, .rd .mov [.tmp 50]⟩,
                    ⟨some 51, none, .rd (.ext 0) [.tmp 46]⟩,
                    ⟨some 52, none, .rd (.ext 1) [.tmp 46]⟩,
                    ⟨none, none, .eff (.store (some 2)) [.tmp 5, .tmp 51]⟩,
                    ⟨some 9, none, .rd .mov [.tmp 52]⟩] L11)
                 (.seq (.region false [⟨some 53, none, .rd .mov [.tmp 9]⟩,
                    ⟨some 54, none, .rd (.bin .neq) [.tmp 53, .pv (.int .i64 0)]⟩] L11)
                 (.cond (.tmp 54)
                  (.seq (.region false [⟨some 55, none, .call (.pv (.fn 13 [] [])) []⟩,
                      ⟨some 2, none, .rd .mov [.tmp 55]⟩] L11)
                   (.ret))
                  (.skip))))))
              (.region false [⟨some 56, none, .rd (.bin .add) [.tmp 42, .pv (.int .i64 1)]⟩,
                ⟨some 42, none, .rd .mov [.tmp 56]⟩] L11))))))))))))
       (.region false [⟨some 57, none, .rd (.bin .add) [.tmp 24, .pv (.int .i64 1)]⟩,
         ⟨some 24, none, .rd .mov [.tmp 57]⟩] L11)))))))
  (.seq (.seq (.region false [⟨some 58, none, .rd .mov [.tmp 0]⟩,
      ⟨some 59, none, .rd .lenL [.tmp 58]⟩,
      ⟨some 60, none, .rd (.bin .sub) [.tmp 59, .pv (.int .i64 1)]⟩,
      ⟨some 12, none, .rd .mov [.tmp 60]⟩] L11)
   (.block 4
    (.loop
      (.seq (.seq (.region false [⟨some 61, none, .rd .mov [.tmp 12]⟩,
           ⟨some 62, none, .rd (.bin .geq) [.tmp 61, .pv (.int .i64 0)]⟩] L11)
        (.cond (.tmp 62)
         (.skip)
         (.exit 4)))
       (.seq (.block 5
         (.seq (.regionA (.alt [⟨some 67, none, .rd .mov [.tmp 0]⟩,
              ⟨some 68, none, .rd .mov [.tmp 12]⟩,
              ⟨some 69, none, .rd (.idxAddr (some 3)) [.tmp 67, .tmp 68]⟩,
              ⟨some 70, none, .rd (.fldAddr 2) [.tmp 69]⟩]
             (.alt [⟨some 66, none, .rd (.load (some 2)) [.tmp 4]⟩]
              (.alt [⟨some 71, none, .rd (.load none) [.tmp 70]⟩]
               (.alt [⟨some 72, none, .call (.pv (.fn 14 [] [])) [.tmp 66, .tmp 71]⟩,
                 ⟨some 65, none, .rd .mov [.tmp 72]⟩,
                 ⟨some 73, none, .rd (.ext 0) [.tmp 65]⟩,
                 ⟨some 74, none, .rd (.ext 1) [.tmp 65]⟩,
                 ⟨some 13, none, .eff (.alloc (some 2) (.agg [.nilSl, .nilMap])) []⟩,
                 ⟨none, none, .eff (.store (some 2)) [.tmp 13, .tmp 73]⟩,
                 ⟨some 14, none, .rd .mov [.tmp 74]⟩]
                .done
                (.alt [⟨some 13, none, .eff (.alloc (some 2) (.agg [.nilSl, .nilMap])) []⟩,
                  ⟨some 72, none, .call (.pv (.fn 14 [] [])) [.tmp 66, .tmp 71]⟩,
                  ⟨some 65, none, .rd .mov [.tmp 72]⟩,
                  ⟨some 73, none, .rd (.ext 0) [.tmp 65]⟩,
                  ⟨some 74, none, .rd (.ext 1) [.tmp 65]⟩,
                  ⟨none, none, .eff (.store (some 2)) [.tmp 13, .tmp 73]⟩,
                  ⟨some 14, none, .rd .mov [.tmp 74]⟩]
                 .done
                 .stop))
               (.alt [⟨some 13, none, .eff (.alloc (some 2) (.agg [.nilSl, .nilMap])) []⟩,
                 ⟨some 71, none, .rd (.load none) [.tmp 70]⟩,
                 ⟨some 72, none, .call (.pv (.fn 14 [] [])) [.tmp 66, .tmp 71]⟩,
                 ⟨some 65, none, .rd .mov [.tmp 72]⟩,
                 ⟨some 73, none, .rd (.ext 0) [.tmp 65]⟩,
                 ⟨some 74, none, .rd (.ext 1) [.tmp 65]⟩,
                 ⟨none, none, .eff (.store (some 2)) [.tmp 13, .tmp 73]⟩,
                 ⟨some 14, none, .rd .mov [.tmp 74]⟩]
                .done
                .stop))
              (.alt [⟨some 71, none, .rd (.load none) [.tmp 70]⟩]
               (.alt [⟨some 66, none, .rd (.load (some 2)) [.tmp 4]⟩]
                (.alt [⟨some 72, none, .call (.pv (.fn 14 [] [])) [.tmp 66, .tmp 71]⟩,
                  ⟨some 65, none, .rd .mov [.tmp 72]⟩,
                  ⟨some 73, none, .rd (.ext 0) [.tmp 65]⟩,
                  ⟨some 74, none, .rd (.ext 1) [.tmp 65]⟩,
                  ⟨some 13, none, .eff (.alloc (some 2) (.agg [.nilSl, .nilMap])) []⟩,
                  ⟨none, none, .eff (.store (some 2)) [.tmp 13, .tmp 73]⟩,
                  ⟨some 14, none, .rd .mov [.tmp 74]⟩]
                 .done
                 (.alt [⟨some 13, none, .eff (.alloc (some 2) (.agg [.nilSl, .nilMap])) []⟩,
                   ⟨some 72, none, .call (.pv (.fn 14 [] [])) [.tmp 66, .tmp 71]⟩,
                   ⟨some 65, none, .rd .mov [.tmp 72]⟩,
                   ⟨some 73, none, .rd (.ext 0) [.tmp 65]⟩,
                   ⟨some 74, none, .rd (.ext 1) [.tmp 65]⟩,
                   ⟨none, none, .eff (.store (some 2)) [.tmp 13, .tmp 73]⟩,
                   ⟨some 14, none, .rd .mov [.tmp 74]⟩]
                  .done
                  .stop))
                (.alt [⟨some 13, none, .eff (.alloc (some 2) (.agg [.nilSl, .nilMap])) []⟩,
                  ⟨some 66, none, .rd (.load (some 2)) [.tmp 4]⟩,
                  ⟨some 72, none, .call (.pv (.fn 14 [] [])) [.tmp 66, .tmp 71]⟩,
                  ⟨some 65, none, .rd .mov [.tmp 72]⟩,
                  ⟨some 73, none, .rd (.ext 0) [.tmp 65]⟩,
                  ⟨some 74, none, .rd (.ext 1) [.tmp 65]⟩,
                  ⟨none, none, .eff (.store (some 2)) [.tmp 13, .tmp 73]⟩,
                  ⟨some 14, none, .rd .mov [.tmp 74]⟩]
                 .done
                 .stop))
               (.alt [⟨some 13, none, .eff (.alloc (some 2) (.agg [.nilSl, .nilMap])) []⟩]
                (.alt [⟨some 66, none, .rd (.load (some 2)) [.tmp 4]⟩,
                  ⟨some 71, none, .rd (.load none) [.tmp 70]⟩,
                  ⟨some 72, none, .call (.pv (.fn 14 [] [])) [.tmp 66, .tmp 71]⟩,
                  ⟨some 65, none, .rd .mov [.tmp 72]⟩,
                  ⟨some 73, none, .rd (.ext 0) [.tmp 65]⟩,
                  ⟨some 74, none, .rd (.ext 1) [.tmp 65]⟩,
                  ⟨none, none, .eff (.store (some 2)) [.tmp 13, .tmp 73]⟩,
                  ⟨some 14, none, .rd .mov [.tmp 74]⟩]
                 .done
                 (.alt [⟨some 71, none, .rd (.load none) [.tmp 70]⟩,
                   ⟨some 66, none, .rd (.load (some 2)) [.tmp 4]⟩,
                   ⟨some 72, none, .call (.pv (.fn 14 [] [])) [.tmp 66, .tmp 71]⟩,
                   ⟨some 65, none, .rd .mov [.tmp 72]⟩,
                   ⟨some 73, none, .rd (.ext 0) [.tmp 65]⟩,
                   ⟨some 74, none, .rd (.ext 1) [.tmp 65]⟩,
                   ⟨none, none, .eff (.store (some 2)) [.tmp 13, .tmp 73]⟩,
                   ⟨some 14, none, .rd .mov [.tmp 74]⟩]
                  .done
                  .stop))
                .stop)))
             .stop) L11)
          (.seq (.seq (.region false [⟨some 75, none, .rd .mov [.tmp 14]⟩,
              ⟨some 76, none, .rd (.bin .neq) [.tmp 75, .pv (.int .i64 0)]⟩] L11)
           (.cond (.tmp 76)
            (.seq (.region false [⟨some 77, none, .call (.pv (.fn 13 [] [])) []⟩,
                ⟨some 2, none, .rd .mov [.tmp 77]⟩] L11)
             (.ret))
            (.skip)))
          (.region false [⟨some 78, none, .rd (.load (some 2)) [.tmp 13]⟩,
            ⟨none, none, .eff (.store (some 2)) [.tmp 4, .tmp 78]⟩] L11))))
       (.region false [⟨some 63, none, .rd .mov [.tmp 12]⟩,
         ⟨some 64, none, .rd (.bin .sub) [.tmp 63, .pv (.int .i64 1)]⟩,
         ⟨some 12, none, .rd .mov [.tmp 64]⟩] L11))))))
  (.seq (.region false [⟨some 79, none, .rd (.load (some 2)) [.tmp 3]⟩,
     ⟨some 80, none, .call (.pv (.fn 33 [] [])) [.tmp 79]⟩,
     ⟨some 15, none, .rd .mov [.tmp 80]⟩] L11)
  (.seq (.seq (.region false [⟨some 81, none, .rd (.load (some 2)) [.tmp 4]⟩,
      ⟨some 82, none, .call (.pv (.fn 33 [] [])) [.tmp 81]⟩,
      ⟨some 83, none, .rd .lenL [.tmp 82]⟩,
      ⟨some 84, none, .rd .mov [.tmp 15]⟩,
      ⟨some 85, none, .rd .lenL [.tmp 84]⟩,
      ⟨some 86, none, .rd (.bin .neq) [.tmp 83, .tmp 85]⟩,
      ⟨some 87, none, .rd .mov [.tmp 86]⟩,
      ⟨some 88, some (87, false), .rd (.load (some 2)) [.tmp 5]⟩,
      ⟨some 89, some (87, false), .call (.pv (.fn 33 [] [])) [.tmp 88]⟩,
      ⟨some 90, some (87, false), .rd .lenL [.tmp 89]⟩,
      ⟨some 91, some (87, false), .rd .mov [.tmp 15]⟩,
      ⟨some 92, some (87, false), .rd .lenL [.tmp 91]⟩,
      ⟨some 93, some (87, false), .rd (.bin .neq) [.tmp 90, .tmp 92]⟩,
      ⟨some 94, none, .rd .pick [.tmp 87, .pv (.bool true), .tmp 93]⟩] L11)
   (.cond (.tmp 94)
    (.seq (.region false [⟨some 2, none, .rd .mov [.pv (.bool false)]⟩] L11)
     (.ret))
    (.skip)))
  (.seq (.seq (.region false [⟨some 95, none, .rd .mov [.tmp 15]⟩,
      ⟨some 96, none, .rd .lenL [.tmp 95]⟩,
      ⟨some 97, none, .rd .mov [.pv (.int .i64 0)]⟩] L11)
   (.block 6
    (.loop
      (.seq (.region false [⟨some 98, none, .rd (.bin .lss) [.tmp 97, .tmp 96]⟩] L11)
       (.seq (.cond (.tmp 98)
         (.skip)
         (.exit 6))
       (.seq (.block 7
         (.seq (.region false [⟨some 99, none, .rd (.idxAddr none) [.tmp 95, .tmp 97]⟩,
             ⟨some 100, none, .rd (.load none) [.tmp 99]⟩,
             ⟨some 17, none, .rd .mov [.tmp 100]⟩] L11)
          (.seq (.region true [⟨some 101, none, .rd (.load (some 2)) [.tmp 3]⟩,
             ⟨some 102, none, .rd .mov [.tmp 17]⟩,
             ⟨some 103, none, .call (.pv (.fn 19 [] [])) [.tmp 101, .tmp 102]⟩,
             ⟨some 104, none, .rd (.load (some 2)) [.tmp 4]⟩,
             ⟨some 105, none, .rd .mov [.tmp 17]⟩,
             ⟨some 106, none, .call (.pv (.fn 19 [] [])) [.tmp 104, .tmp 105]⟩,
             ⟨some 107, none, .rd (.bin .neq) [.tmp 103, .tmp 106]⟩,
             ⟨some 108, none, .rd .mov [.tmp 107]⟩,
             ⟨some 109, some (108, false), .rd (.load (some 2)) [.tmp 3]⟩,
             ⟨some 110, some (108, false), .rd .mov [.tmp 17]⟩,
             ⟨some 111, some (108, false), .call (.pv (.fn 19 [] [])) [.tmp 109, .tmp 110]⟩,
             ⟨some 112, some (108, false), .rd (.load (some 2)) [.tmp 5]⟩,
             ⟨some 113, some (108, false), .rd .mov [.tmp 17]⟩,
             ⟨some 114, some (108, false), .call (.pv (.fn 19 [] [])) [.tmp 112, .tmp 113]⟩,
             ⟨some 115, some (108, false), .rd (.bin .neq) [.tmp 111, .tmp 114]⟩,
             ⟨some 116, none, .rd .pick [.tmp 108, .pv (.bool true), .tmp 115]⟩] L11)
          (.cond (.tmp 116)
           (.seq (.region false [⟨some 2, none, .rd .mov [.pv (.bool false)]⟩] L11)
            (.ret))
           (.skip)))))
       (.region false [⟨some 117, none, .rd (.bin .add) [.tmp 97, .pv (.int .i64 1)]⟩,
         ⟨some 97, none, .rd .mov [.tmp 117]⟩] L11)))))))
  (.seq (.region false [⟨some 118, none, .call (.pv (.fn 13 [] [])) []⟩,
     ⟨some 2, none, .rd .mov [.tmp 118]⟩] L11)
  (.ret))))))))),
  [.tmp 2]⟩

-- wagebook/wagebooklaw33.LedgerPlays
def L32 : List Nat := [0, 2, 3, 5, 6, 7, 8, 9]
def c32 : CF := ⟨21,
  .seq (.region false [⟨some 2, none, .rd .mov [.pv (.bool false)]⟩] L32)
  (.seq (.region false [⟨some 3, none, .rd .mov [.pv (.int .i64 0)]⟩] L32)
  (.seq (.seq (.region false [⟨some 6, none, .rd .mov [.tmp 0]⟩,
      ⟨some 7, none, .rd .lenL [.tmp 6]⟩,
      ⟨some 8, none, .rd .mov [.pv (.int .i64 0)]⟩] L32)
   (.block 0
    (.loop
      (.seq (.region false [⟨some 9, none, .rd (.bin .lss) [.tmp 8, .tmp 7]⟩] L32)
       (.seq (.cond (.tmp 9)
         (.skip)
         (.exit 0))
       (.seq (.block 1
         (.seq (.region false [⟨some 10, none, .rd (.idxAddr (some 3)) [.tmp 6, .tmp 8]⟩,
             ⟨some 11, none, .rd (.load (some 3)) [.tmp 10]⟩,
             ⟨some 5, none, .eff (.alloc (some 3) (.agg [(.bool false), (.int .i64 0), .nilSl])) []⟩,
             ⟨none, none, .eff (.store (some 3)) [.tmp 5, .tmp 11]⟩] L32)
          (.region false [⟨some 12, none, .rd .mov [.tmp 3]⟩,
            ⟨some 13, none, .rd (.fldAddr 2) [.tmp 5]⟩,
            ⟨some 14, none, .rd (.load none) [.tmp 13]⟩,
            ⟨some 15, none, .rd .lenL [.tmp 14]⟩,
            ⟨some 16, none, .rd (.bin .add) [.pv (.int .i64 4), .tmp 15]⟩,
            ⟨some 17, none, .rd (.bin .add) [.tmp 12, .tmp 16]⟩,
            ⟨some 3, none, .rd .mov [.tmp 17]⟩] L32)))
       (.region false [⟨some 18, none, .rd (.bin .add) [.tmp 8, .pv (.int .i64 1)]⟩,
         ⟨some 8, none, .rd .mov [.tmp 18]⟩] L32)))))))
  (.seq (.region false [⟨some 19, none, .rd .mov [.tmp 3]⟩,
     ⟨some 20, none, .rd (.bin .leq) [.tmp 19, .pv (.int .i64 250)]⟩,
     ⟨some 2, none, .rd .mov [.tmp 20]⟩] L32)
  (.ret)))),
  [.tmp 2]⟩

-- (wagebook/ledger.Ledger).Reverse
theorem k11 : compileF Tryd.prog [] L11 Tryd.f11 = some c11 := by kernel_rfl
theorem k32 : compileF Tryd.prog [] L32 Tryd.f32 = some c32 := by kernel_rfl
end Go.Proofs.YtdemgegpnlngeaaDoor

namespace Go.Proofs.YtdemgegpnlngeaaDoor
open Go PG Go.Proofs
set_option linter.unusedSimpArgs false
set_option linter.unusedVariables false
set_option maxHeartbeats 4000000
set_option maxRecDepth 100000
theorem e32 : Ent Tryd.prog 32 := ⟨Tryd.f32, Tryd.func32, by kernel_rfl, by kernel_rfl⟩
theorem e33 : Ent Tryd.prog 33 := ⟨Tryd.f33, Tryd.func33, by kernel_rfl, by kernel_rfl⟩
/-! What is done -/
structure Act3 where
  back : Bool
  n : Int
  es : List Ent4
def actP (a : Act3) : PV := .agg [.bool a.back, .int .i64 a.n, entL a.es]
abbrev actL (xs : List Act3) : PV := .list (some 3) (xs.map actP)
def actSz (a : Act3) : Prop := (-9223372036854775808 ≤ a.n ∧ a.n ≤ 9223372036854775807) ∧ a.es.length ≤ 1048576 ∧ ∀ e ∈ a.es, entSz e
theorem act_getD (l : List Act3) (i : Nat) (h : i < l.length) : (l.map actP).getD i .junk = actP l[i] := by simp [List.getD, h]
def fewN : List Act3 → Nat
  | [] => 0
  | a :: xs => 4 + a.es.length + fewN xs
theorem fewN_app (a b : List Act3) : fewN (a ++ b) = fewN a + fewN b := by
  induction a with
  | nil => simp [fewN]
  | cons x a ih => simp only [List.cons_append, fewN, ih]; omega
theorem fewN_le {xs : List Act3} (h : ∀ a ∈ xs, actSz a) : fewN xs ≤ 1048580 * xs.length := by
  induction xs with
  | nil => simp [fewN]
  | cons x a ih =>
    have h1 := (h x (by simp)).2.1
    have h2 := ih fun y hy => h y (by simp [hy])
    simp only [fewN, List.length_cons]; omega
theorem v32 (xs : List Act3) (hz : ∀ a ∈ xs, actSz a) (hl : xs.length ≤ 1048576) : VCalls Tryd.prog G0 32 [actL xs] (.bool (decide ((fewN xs : Int) ≤ 250))) := by
  refine VCalls.of_PW Tryd.func32 k32 mix (by simp [c32]) ?_
  simp only [c32, L32, argE, actL]
  have hlen : ((xs.map actP).length : Nat) = xs.length := by simp
  repeat' (first | exact True.intro | (refine PW.seqK ?_; intro K hK) | refine PW.block ?_ | refine PW.exit ?_ | refine PW.ret ?_ | refine PW.skip ?_ | refine seqK_n (by assumption) ?_ | refine seqK_r (by assumption) ?_ | refine seqK_e (by assumption) ?_ | refine PW.regionA ?_ | exact schedW_stop_i | (refine PW.cond rfl ?_ ?_ <;> intro hcond <;> (try contradiction) <;> try simp only [decide_eq_true_eq, decide_eq_false_iff_not] at hcond) | (refine gd_i ?_; intro hg; try simp only [hg]) | ((first | show @LE.le Nat _ _ _ | show @LT.lt Nat _ _ _ | show @LE.le Int _ _ _ | show @LT.lt Int _ _ _ | show @Eq Nat _ _ | show @Eq Int _ _ | show @Eq Bool _ _ | show _ ∨ _ | show ¬ _); first | omega | (simp only [decide_eq_true_eq, decide_eq_false_iff_not, List.length_cons, List.length_nil, List.length_append, List.length_map, Sh.size] <;> omega) | (go_unwrap; omega)) | ((first | refine PW.region ?_ | refine PW.regionQ ?_ | refine schedW_alt_i ?_ ?_ | refine schedW_done_i ?_ | show (_ : Post) _ _ _ | show @Eq (List PV) _ _ | show @Eq Bool _ _ | show opsW _ _ _ _ _ _ _ _ | show okAll _ | show @Eq Bool _ _ ∨ _); focus (simp only [hlen, SS, SS2, SS3, SS4, Option.map_some, Bool.not_false, Bool.not_true, gArgs, gOk, Nat.reduceAdd, PV.shift, MObj.shift, rdV, rdD, reduceIte, Nat.reduceEqDiff, Nat.reduceBEq, PV.bin, PV.binOk, binI, binS, PV.withInt, PV.withIntP, okAll, PV.under, PV.okUnder, eq_self, implies_true, deadOk, ne_eq, allOk, RVar.val, RVar.ok, retV, PV.seen, PV.view, beq_self_eq_true, PV.flat, PV.noOwn, id_eq, behind, PV.kill, MObj.kill, killTag, reduceCtorEq, nilB]; (try go_unwrap; try simp only [hlen, toNat_add2, toNat_add1, Int.toNat_natCast, Bool.false_and, Bool.true_and, true_implies, true_and, Bool.false_eq_true, reduceCtorEq, false_implies, Bool.not_false, Bool.not_true, Bool.true_or, Bool.false_or]))) | refine And.intro ?_ ?_ | exact Or.inr ⟨rfl, Nat.le_refl _⟩ | exact (fun h => Bool.noConfusion h))
  refine PW.loopG (σ := Nat) 0 (fun _ _ => rfl) [0, 2, 3, 6, 7, 8] (fun j => [actL xs, .bool false, .int .i64 (fewN (xs.take j)), actL xs, .int .i64 xs.length, .int .i64 j])
    (fun _ => []) (fun j => j ≤ xs.length) (fun j => xs.length - j) 0 ?_ rfl (by omega) ?_
  · simp only [SS, SS2, SS3, SS4, Option.map_some, Bool.not_false, Bool.not_true, gArgs, gOk, Nat.reduceAdd, PV.shift, MObj.shift, rdV, rdD, reduceIte, Nat.reduceEqDiff, Nat.reduceBEq, PV.bin, PV.binOk, binI, binS, PV.withInt, PV.withIntP, okAll, PV.under, PV.okUnder, eq_self, implies_true, deadOk, ne_eq, allOk, RVar.val, RVar.ok, retV, PV.seen, PV.view, beq_self_eq_true, PV.flat, PV.noOwn, id_eq, behind, PV.kill, MObj.kill, killTag, reduceCtorEq, nilB]; rfl
  rintro j hj
  simp only [List.zip_cons_cons, List.zip_nil_left, actL]
  rcases Nat.lt_or_ge j xs.length with h | h
  · have hd : decide ((j : Int) < xs.length) = true := by simp only [decide_eq_true_eq]; omega
    have hg := act_getD xs j h
    have hst : fewN (xs.take (j + 1)) = fewN (xs.take j) + (4 + xs[j].es.length) := by
      rw [List.take_succ_eq_append_getElem h, fewN_app]; simp [fewN]
    have hz1 := (hz xs[j] (by simp)).2.1
    have hb : fewN (xs.take j) ≤ 1048580 * 1048576 := by
      have h1 := fewN_le (xs := xs.take j) fun a ha => hz a (List.mem_of_mem_take ha)
      have h2 : (xs.take j).length ≤ 1048576 := by simp; omega
      have h3 := Nat.mul_le_mul_left 1048580 h2
      omega
    generalize xs[j] = a at hg hst hz1
    simp only [actP] at hg
    have hel : ((a.es.map entP).length : Nat) = a.es.length := by simp
    have w1 : IntKind.i64.wrap (4 + (a.es.length : Int)) = 4 + a.es.length := IntWalk.i64_in _ (by omega)
    have w2 : IntKind.i64.wrap ((fewN (xs.take j) : Int) + (4 + (a.es.length : Int))) = (fewN (xs.take (j + 1)) : Nat) := by rw [IntWalk.i64_in _ (by omega)]; omega
    obtain ⟨f2, hf2⟩ : ∃ f2, fewN (xs.take (j + 1)) = f2 := ⟨_, rfl⟩
    rw [hf2] at w2
    repeat' (first | exact True.intro | (refine PW.seqK ?_; intro K hK) | refine PW.block ?_ | refine PW.exit ?_ | refine PW.ret ?_ | refine PW.skip ?_ | refine seqK_n (by assumption) ?_ | refine seqK_r (by assumption) ?_ | refine seqK_e (by assumption) ?_ | refine PW.regionA ?_ | exact schedW_stop_i | (refine PW.cond rfl ?_ ?_ <;> intro hcond <;> (try contradiction) <;> try simp only [decide_eq_true_eq, decide_eq_false_iff_not] at hcond) | (refine gd_i ?_; intro hg; try simp only [hg]) | ((first | show @LE.le Nat _ _ _ | show @LT.lt Nat _ _ _ | show @LE.le Int _ _ _ | show @LT.lt Int _ _ _ | show @Eq Nat _ _ | show @Eq Int _ _ | show @Eq Bool _ _ | show _ ∨ _ | show ¬ _); first | omega | (simp only [decide_eq_true_eq, decide_eq_false_iff_not, List.length_cons, List.length_nil, List.length_append, List.length_map, Sh.size] <;> omega) | (go_unwrap; omega)) | ((first | refine PW.region ?_ | refine PW.regionQ ?_ | refine schedW_alt_i ?_ ?_ | refine schedW_done_i ?_ | show (_ : Post) _ _ _ | show @Eq (List PV) _ _ | show @Eq Bool _ _ | show opsW _ _ _ _ _ _ _ _ | show okAll _ | show @Eq Bool _ _ ∨ _); focus (simp only [hd, hg, hlen, hel, w1, w2, SS, SS2, SS3, SS4, Option.map_some, Bool.not_false, Bool.not_true, gArgs, gOk, Nat.reduceAdd, PV.shift, MObj.shift, rdV, rdD, reduceIte, Nat.reduceEqDiff, Nat.reduceBEq, PV.bin, PV.binOk, binI, binS, PV.withInt, PV.withIntP, okAll, PV.under, PV.okUnder, eq_self, implies_true, deadOk, ne_eq, allOk, RVar.val, RVar.ok, retV, PV.seen, PV.view, beq_self_eq_true, PV.flat, PV.noOwn, id_eq, behind, PV.kill, MObj.kill, killTag, reduceCtorEq, nilB]; (try go_unwrap; try simp only [hd, hg, hlen, hel, w1, w2, toNat_add2, toNat_add1, Int.toNat_natCast, Bool.false_and, Bool.true_and, true_implies, true_and, Bool.false_eq_true, reduceCtorEq, false_implies, Bool.not_false, Bool.not_true, Bool.true_or, Bool.false_or]))) | refine And.intro ?_ ?_ | exact Or.inr ⟨rfl, Nat.le_refl _⟩ | exact (fun h => Bool.noConfusion h))
    refine ⟨j + 1, ?_, (by first | rfl | (simp only [trimE, trimM, List.take_succ_cons, List.take_zero, List.take_nil, List.map_cons, List.map_nil, Option.map_some, Option.map_none, MObj.kill, PV.kill, Nat.reduceLeDiff, decide_true, decide_false, dec_true, dec_false, Bool.false_eq_true, if_false, if_true, reduceIte, List.zip_cons_cons, List.zip_nil_left, Nat.le_refl, Nat.zero_le, Nat.not_le, Nat.lt_irrefl]; done) | (simp [trimE, trimM, MObj.kill, PV.kill]; done)), by omega, by omega⟩
    simp only [hf2]; exact (by first | rfl | (simp only [trimE, trimM, List.take_succ_cons, List.take_zero, List.take_nil, List.map_cons, List.map_nil, Option.map_some, Option.map_none, MObj.kill, PV.kill, Nat.reduceLeDiff, decide_true, decide_false, dec_true, dec_false, Bool.false_eq_true, if_false, if_true, reduceIte, List.zip_cons_cons, List.zip_nil_left, Nat.le_refl, Nat.zero_le, Nat.not_le, Nat.lt_irrefl]; done) | (simp [trimE, trimM, MObj.kill, PV.kill]; done))
  · have hd : decide ((j : Int) < xs.length) = false := by simp only [decide_eq_false_iff_not]; omega
    have hj : j = xs.length := by omega
    subst hj
    simp only [List.take_length]
    repeat' (first | exact True.intro | (refine PW.seqK ?_; intro K hK) | refine PW.block ?_ | refine PW.exit ?_ | refine PW.ret ?_ | refine PW.skip ?_ | refine seqK_n (by assumption) ?_ | refine seqK_r (by assumption) ?_ | refine seqK_e (by assumption) ?_ | refine PW.regionA ?_ | exact schedW_stop_i | (refine PW.cond rfl ?_ ?_ <;> intro hcond <;> (try contradiction) <;> try simp only [decide_eq_true_eq, decide_eq_false_iff_not] at hcond) | (refine gd_i ?_; intro hg; try simp only [hg]) | ((first | show @LE.le Nat _ _ _ | show @LT.lt Nat _ _ _ | show @LE.le Int _ _ _ | show @LT.lt Int _ _ _ | show @Eq Nat _ _ | show @Eq Int _ _ | show @Eq Bool _ _ | show _ ∨ _ | show ¬ _); first | omega | (simp only [decide_eq_true_eq, decide_eq_false_iff_not, List.length_cons, List.length_nil, List.length_append, List.length_map, Sh.size] <;> omega) | (go_unwrap; omega)) | ((first | refine PW.region ?_ | refine PW.regionQ ?_ | refine schedW_alt_i ?_ ?_ | refine schedW_done_i ?_ | show (_ : Post) _ _ _ | show @Eq (List PV) _ _ | show @Eq Bool _ _ | show opsW _ _ _ _ _ _ _ _ | show okAll _ | show @Eq Bool _ _ ∨ _); focus (simp only [hd, hlen, SS, SS2, SS3, SS4, Option.map_some, Bool.not_false, Bool.not_true, gArgs, gOk, Nat.reduceAdd, PV.shift, MObj.shift, rdV, rdD, reduceIte, Nat.reduceEqDiff, Nat.reduceBEq, PV.bin, PV.binOk, binI, binS, PV.withInt, PV.withIntP, okAll, PV.under, PV.okUnder, eq_self, implies_true, deadOk, ne_eq, allOk, RVar.val, RVar.ok, retV, PV.seen, PV.view, beq_self_eq_true, PV.flat, PV.noOwn, id_eq, behind, PV.kill, MObj.kill, killTag, reduceCtorEq, nilB]; (try go_unwrap; try simp only [hd, hlen, toNat_add2, toNat_add1, Int.toNat_natCast, Bool.false_and, Bool.true_and, true_implies, true_and, Bool.false_eq_true, reduceCtorEq, false_implies, Bool.not_false, Bool.not_true, Bool.true_or, Bool.false_or]))) | refine And.intro ?_ ?_ | exact Or.inr ⟨rfl, Nat.le_refl _⟩ | exact (fun h => Bool.noConfusion h))
end Go.Proofs.YtdemgegpnlngeaaDoor

