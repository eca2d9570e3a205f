/-
  The pure layer: package-level tables that a row lists.
-/
import Derived.Test.YtdemgegpnlngeaaDoorPure17
import Derived.Lib.LaidTab
namespace PG
open Go
set_option linter.unusedSimpArgs false
set_option linter.unusedVariables false
/-- A number or a text, as a row lists it. -/
def datOf : PV → DataW Unit
  | .int k n => .lit (.int k n)
  | .str l => .lit (.string l)
  | _ => .nil
def isNT : PV → Bool
  | .int _ _ | .str _ => true
  | _ => false

theorem tab_cells {enc : TypeId × Value → Unit} {P : Program} {w : World} {base : Nat} {sp : Nat → Bool} {held : Bool} {fuel : Nat} {t e : TypeId} {n : Nat} {cs : List Value} {zs : List PV} {p : List MemPlace}
    (ht : P.underlying t = some (.array n e)) (he : (∃ k, P.underlying e = some (.int k)) ∨ P.underlying e = some .string) (hce : P.cellsOf e = 1) (hct : P.cellsOf t = n) (hz : ∀ z ∈ zs, isNT z = true)
    (h : DataW.trod enc P w base sp held fuel t cs = some (.agg (zs.map datOf), p)) : cs = zs.map PV.toV := by
  cases fuel with
  | zero => simp [DataW.trod] at h
  | succ fuel =>
    simp only [DataW.trod, ht, hce, hct, Nat.mul_one] at h
    split at h
    · rename_i hl
      obtain ⟨xs, hm, hx⟩ := Option.map_eq_some_iff.1 h
      have hxs : xs.map (·.1) = zs.map datOf := by
        have := congrArg Prod.fst hx
        simpa using this
      have hxl : xs.length = n := by simpa using Lib.mapM_length hm
      have hzl : zs.length = n := by
        have := congrArg List.length hxs
        simp at this
        omega
      apply List.ext_getElem?
      intro i
      by_cases hi : i < n
      · obtain ⟨b, hb, hf⟩ := Lib.mapM_at hm i i (by simp [hi])
        have hzi : zs[i]? = some zs[i] := List.getElem?_eq_getElem (by omega)
        have hzm := hz zs[i] (List.getElem_mem _)
        have h2 : (xs.map (·.1))[i]? = some b.1 := by simp [hb]
        rw [hxs, List.getElem?_map, hzi] at h2
        simp only [Option.map_some, Option.some.injEq] at h2
        rw [List.getElem?_map, hzi, Option.map_some]
        rcases he with ⟨k, he⟩ | he
        · obtain ⟨z, hc, hb1, _⟩ := DataW.trod_int he hf
          have h1 : cs[i]? = some (.int k z) := by
            have := congrArg (·[0]?) hc
            simpa [List.getElem?_take, List.getElem?_drop] using this
          rw [hb1] at h2
          cases hzz : zs[i] <;> rw [hzz] at h2 hzm <;> simp [isNT] at hzm <;> simp [datOf] at h2
          obtain ⟨rfl, rfl⟩ := h2
          rw [h1]; rfl
        · obtain ⟨z, hc, hb1, _⟩ := DataW.trod_string he hf
          have h1 : cs[i]? = some (.string z) := by
            have := congrArg (·[0]?) hc
            simpa [List.getElem?_take, List.getElem?_drop] using this
          rw [hb1] at h2
          cases hzz : zs[i] <;> rw [hzz] at h2 hzm <;> simp [isNT] at hzm <;> simp [datOf] at h2
          subst h2
          rw [h1]; rfl
      · rw [List.getElem?_eq_none (by omega), List.getElem?_eq_none (by simp; omega)]
    · cases h

/-- A listed table lies where it is. -/
theorem tab_rep {P : Program} {W : World} {name : String} {zs : List PV} {g : Nat} {t e : TypeId} {n : Nat} {ps : List MemPlace} {rest : List (String × DataW Unit)}
    (hg : P.globalNamed name = some g) (hty : (P.globals[g]?).map (·.type) = some t) (ht : P.underlying t = some (.array n e)) (he : (∃ k, P.underlying e = some (.int k)) ∨ P.underlying e = some .string) (hce : P.cellsOf e = 1) (hct : P.cellsOf t = n)
    (hz : ∀ z ∈ zs, isNT z = true) (hn : zs.length = n) (h : DataW.LaidVars P W ((name, .agg (zs.map datOf)) :: rest) ps) : RepC W (fun _ => False) (.pointer (some ⟨g, 0, none⟩)) (.cptr (some n) (.agg zs) 0) := by
  obtain ⟨g', t', cs, fuel, p, q, hg', ht', hvar, hd, _, _⟩ := h
  obtain rfl := Option.some.inj (hg.symm.trans hg')
  obtain rfl := Option.some.inj (hty.symm.trans ht')
  have hcs := tab_cells ht he hce hct hz hd
  have hat : ∀ z ∈ zs, z.atom = true := fun z h => by
    have := hz z h
    cases z <;> simp_all [isNT, PV.atom]
  refine .cptr g 0 0 (some n) (.agg zs) (fun j => (zs.getD j .junk).toV) ⟨zs, rfl, hn, fun c hc => by have := hz c hc; cases c <;> simp_all [isNT, PV.scalar]⟩ (Nat.zero_le _) (fun j hj => ⟨fun h => h, ?_⟩) (fun j p hp => ?_)
  · have hj' : j < zs.length := hj
    have := World.var?_cell hg hvar j
    rw [Nat.zero_add, this]
    have : cs[j]? = (zs.map PV.toV)[j]? := by rw [← hcs]; simp
    rw [this]; simp [hj']
  · have hp' : zs[j]? = some p := hp
    have : zs.getD j .junk = p := by simp [List.getD, hp']
    rw [this]
    exact PV.toV_rep (hat p (List.mem_of_getElem? hp'))
end PG
