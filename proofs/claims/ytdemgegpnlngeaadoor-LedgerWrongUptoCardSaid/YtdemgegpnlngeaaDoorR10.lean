import Derived.Test.YtdemgegpnlngeaaDoorR9
import Derived.Shelf.SlMaps.Clone
namespace Go.Proofs.YtdemgegpnlngeaaDoor
open Go PG Go.Proofs Go.Shelf
def Tryd.cloneM_ren : Go.Shelf.Ren := ⟨fun | 5 => 41 | 7 => 55 | n => n, fun | 23 => 29 | 25 => 23 | 3 => 24 | 4 => 4 | 20 => 20 | n => n, fun | n => n⟩
theorem Tryd.cloneM : Go.Proofs.SlLaysW.n5 Tryd.prog Tryd.cloneM_ren := {
  mixed := by kernel_rfl
  f5 := ⟨Tryd.f41.name, by decide, Tryd.func41.trans (congrArg some (by kernel_rfl))⟩
  f7 := Tryd.func55.trans (congrArg some (by kernel_rfl))
  t4 := Tryd.underlying4
  a4 := Tryd.isAgg4
  z4 := Tryd.sizeOf4
  v4 := Tryd.zeroValue4
  t20 := Tryd.underlying20
  a20 := Tryd.isAgg20
  z20 := Tryd.sizeOf20
  v20 := Tryd.zeroValue20
  t23 := Tryd.underlying29
  a23 := Tryd.isAgg29
  z23 := Tryd.sizeOf29
  v23 := Tryd.zeroValue29 }
theorem w41 (b : Nat) (es : Array MapEntry) (clock : Nat) (w : World) (hb : w.heap[b]? = some (.map es clock)) :
    Calls Tryd.prog 41 #[.map (some b)] w fun e w' => e = .returned (.map (some w.heap.size)) ∧ w' = w.alloc (.map es clock) := by
  have hcon := AnyW.maps_Clone Tryd.cloneM b es clock w hb
  exact hcon
theorem w41n (w : World) : Calls Tryd.prog 41 #[.map none] w fun e w' => e = .returned (.map none) ∧ w' = w := by
  have hcon := AnyW.maps_Clone_nil Tryd.cloneM w
  exact hcon
theorem v41 (es : List (PV × PV)) : FCalls Tryd.prog G0 41 [.cmap .str es] (fun p ν => p = .mref 0 ∧ ν = [some (.mp .str es)]) := by
  intro w ex vs hex hG hr
  obtain ⟨hs, hr⟩ := hr
  obtain ⟨l⟩ := vs
  match l, hs with
  | [x], _ =>
    have h0 := hr 0 x _ rfl rfl
    cases h0 with
    | cmap r kd _ ents clock hx h hs hb hkd hk hv =>
    refine (w41 r ents clock w h).mono ?_
    rintro e w' ⟨rfl, rfl⟩
    have hB : RowKit.Below w.heap.size w (w.alloc (.map ents clock)) := (RowKit.Below.refl _ w).alloc (Nat.le_refl _) _
    have hheap : (w.alloc (.map ents clock)).heap = w.heap.push (.map ents clock) := rfl
    have hnew : (w.alloc (.map ents clock)).heap[w.heap.size]? = some (.map ents clock) := by rw [hheap]; exact Array.getElem?_push_size
    have hsz : (w.alloc (.map ents clock)).heap.size = w.heap.size + 1 := by rw [hheap]; exact Array.size_push _
    obtain ⟨κ', hκ⟩ : ∃ κ' : Kap, κ' = ⟨fun t => if t = 0 then some (some w.heap.size) else none, ex⟩ := ⟨_, rfl⟩
    have k0 : κ' 0 = some (some w.heap.size) := by rw [hκ]; rfl
    have kt : ∀ t c, κ' t = some c → t = 0 ∧ c = some w.heap.size := by
      intro t c ht
      rw [hκ] at ht
      by_cases h0 : t = 0
      · subst h0; exact ⟨rfl, by cases ht; rfl⟩
      · exact absurd ht (by show (if t = 0 then some (some w.heap.size) else none) ≠ some c; rw [if_neg h0]; exact fun h => by cases h)
    have kx : κ'.ex = ex := by rw [hκ]
    have hA : Agree w ex (w.alloc (.map ents clock)) (own κ') := by
      refine ⟨fun b hlt hn => by rw [hheap, Array.getElem?_push, if_neg (Nat.ne_of_lt hlt)], fun b hlt hn ho => ?_⟩
      rcases ho with ho | ⟨t, ht⟩
      · exact hn (by rw [← kx]; exact ho)
      · have := (kt t _ ht).2
        cases this; omega
    refine ⟨_, .mref 0, [some (.mp .str es)], κ', rfl, ⟨rfl, rfl⟩, ⟨?_, ?_, ?_, ?_, ?_, ?_⟩, kx, .mref 0 w.heap.size k0, hB, ?_⟩
    · intro t t' b h1 h2; rw [(kt t _ h1).1, (kt t' _ h2).1]
    · intro t b h1; have := (kt t _ h1).2; cases this; omega
    · intro t c h1
      obtain ⟨rfl, rfl⟩ := kt t c h1
      exact ⟨_, rfl, .mp _ _ _ ents clock hnew hs hb hkd (fun i e q a b => (hk i e q a b).mono hA) (fun i e q a b => (hv i e q a b).mono hA)⟩
    · intro t o h1
      cases t with
      | zero => rw [k0]; exact fun h => by cases h
      | succ t => simp at h1
    · intro b h1; rw [kx] at h1; have := hex b h1; omega
    · intro t b h1 h2; rw [kx] at h2; have := hex b h2; have := (kt t _ h1).2; cases this; omega
    · intro t b h1; have := (kt t _ h1).2; cases this; omega
theorem v41n : VCalls Tryd.prog G0 41 [.nilMap] .nilMap := by
  intro w ex vs _ _ hr
  obtain ⟨hs, hr⟩ := hr
  obtain ⟨l⟩ := vs
  match l, hs with
  | [x], _ =>
    have h0 := hr 0 x _ rfl rfl
    cases h0
    refine (w41n w).mono ?_
    rintro e w' ⟨rfl, rfl⟩
    exact ⟨_, rfl, RowKit.Below.refl _ _, .nilMap⟩
end Go.Proofs.YtdemgegpnlngeaaDoor
