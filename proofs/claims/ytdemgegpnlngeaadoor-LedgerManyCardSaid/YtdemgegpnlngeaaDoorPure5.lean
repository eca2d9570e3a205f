/-
  The pure layer: every read-only operation that is translated is right.
-/
import Derived.Test.YtdemgegpnlngeaaDoorPure4
namespace PG
open Go
section
variable {P : Program} {w : World} {κ : Kap} {μ : Mem} {ρ : Operand → Value}

theorem rd_soundX (hS : Sim w κ μ) {o : Oper} {k : RK} {xs : List Operand} (hc : compileR P o.op = some (k, xs)) {ps : List PV} (hk : Known w κ ρ xs ps) (hd : rdD μ k ps) : RdOkX (worldA w k.wl) P w κ ρ o (rdV μ k ps) := by
  generalize ho : o.op = op at hc
  unfold compileR at hc
  split at hc
  · cases hc; exact mov_sound (.inl ho) hk hd
  · cases hc; exact mov_sound (.inr ho) hk hd
  · cases hc; exact pick_sound ho hk hd
  · rename_i op t x y t'
    split at hc
    · rename_i fs hu
      split at hc
      · rename_i hh
        split at hc
        · simp only [Option.map_eq_some_iff] at hc
          obtain ⟨ks, hks, hc⟩ := hc
          cases hc; exact eqA_sound (neg := false) ho hu hh.1 hh.2 hks hk hd
        · simp only [Option.map_eq_some_iff] at hc
          obtain ⟨ks, hks, hc⟩ := hc
          cases hc; exact eqA_sound (neg := true) ho hu hh.1 hh.2 hks hk hd
        · cases hc
      · cases hc
    · rename_i hu
      split at hc
      · cases hc; exact eqB_sound (neg := false) ho hu hk hd
      · cases hc; exact eqB_sound (neg := true) ho hu hk hd
      · cases hc
    · rename_i hu
      split at hc
      · cases hc; exact nilEq_sound (neg := false) (k := 0) ho hu trivial hk hd
      · cases hc; exact nilEq_sound (neg := true) (k := 0) ho hu trivial hk hd
      · cases hc
    · rename_i hu
      split at hc
      · cases hc; exact nilEq_sound (neg := false) (k := 1) ho hu trivial hk hd
      · cases hc; exact nilEq_sound (neg := true) (k := 1) ho hu trivial hk hd
      · cases hc
    · rename_i hu
      split at hc
      · cases hc; exact nilEq_sound (neg := false) (k := 2) ho hu trivial hk hd
      · cases hc; exact nilEq_sound (neg := true) (k := 2) ho hu trivial hk hd
      · cases hc
    · rename_i hu
      split at hc
      · cases hc; exact nilEq_sound (neg := false) (k := 3) ho hu trivial hk hd
      · cases hc; exact nilEq_sound (neg := true) (k := 3) ho hu trivial hk hd
      · cases hc
    · cases hc; exact binR_sound ho hk hd
  · cases hc; exact un_sound ho hk hd
  · split at hc
    · cases hc; exact conv_sound ho ‹_› ‹_› hk hd
    · cases hc; exact strc_sound ho ‹_› ‹_› hk hd
    · cases hc; exact chr_sound ho ‹_› ‹_› hk hd
    · cases hc
  · rename_i c
    obtain ⟨cal, args, ts⟩ := c
    have hargs : ∀ l, args.toList = l → args = l.toArray := fun l h => by rw [← h]
    unfold compileB at hc
    split at hc
    · rename_i hcal
      simp only at hcal; subst hcal
      split at hc
      · rename_i x hx
        have := hargs _ hx; subst this
        simp only [Option.bind_eq_some_iff] at hc
        obtain ⟨t, ht, hc⟩ := hc
        split at hc
        · cases hc; exact lenS_sound ho ht ‹_› hk hd
        · cases hc; exact lenL_sound ho ht ‹_› hk hd
        · cases hc; exact lenM_sound hS ho ht ‹_› hk hd
        · cases hc
      · cases hc
    · rename_i hcal
      simp only at hcal; subst hcal
      split at hc
      · rename_i x y hx
        have := hargs _ hx; subst this
        cases hc; exact min_sound ho hk hd
      · cases hc
    · rename_i hcal
      simp only at hcal; subst hcal
      split at hc
      · rename_i x y hx
        have := hargs _ hx; subst this
        cases hc; exact max_sound ho hk hd
      · cases hc
    · cases hc
  · split at hc
    · cases hc; exact idxS_sound ho ‹_› hk hd
    · simp only [Option.map_eq_some_iff] at hc
      obtain ⟨sh, hsh, hc⟩ := hc
      cases hc; exact idxA_sound ho ‹_› hsh hk hd
    · cases hc
  · rename_i t x lo hi
    split at hc
    · split at hc
      · cases hc; exact slcS_sound (lo := some _) (hi := some _) ho ‹_› hk hd
      · cases hc; exact slcS_sound (lo := some _) (hi := none) ho ‹_› hk hd
      · cases hc; exact slcS_sound (lo := none) (hi := some _) ho ‹_› hk hd
      · cases hc
    · simp only [Option.bind_eq_some_iff] at hc
      obtain ⟨sh, hsh, hc⟩ := hc
      split at hc
      · cases hc; exact slc2_sound (lo := some _) (hi := some _) ho ‹_› hsh hk hd
      · cases hc; exact slc2_sound (lo := some _) (hi := none) ho ‹_› hsh hk hd
      · cases hc; exact slc2_sound (lo := none) (hi := some _) ho ‹_› hsh hk hd
      · cases hc
    · cases hc
  · split at hc
    · simp only [Option.map_eq_some_iff] at hc
      obtain ⟨sh, hsh, hc⟩ := hc
      split at hc
      · cases hc; exact slc3_sound (lo := some _) ho ‹_› hsh hk hd
      · cases hc; exact slc3_sound (lo := none) ho ‹_› hsh hk hd
    · cases hc
  · split at hc
    · simp only [Option.bind_eq_some_iff, Option.map_eq_some_iff] at hc
      obtain ⟨kd, hkd, z, hz, hc⟩ := hc
      cases hc; exact look_sound hS ho ‹_› hkd hz hk hd
    · cases hc
  · cases hc
    exact absurd hd (by cases ps <;> simp [rdD])
  · split at hc
    · simp only [Option.map_eq_some_iff] at hc
      obtain ⟨sh, hsh, hc⟩ := hc
      cases hc; exact idxAddr_sound ho ‹_› hsh hk hd
    · simp only [Option.map_eq_some_iff] at hc
      obtain ⟨sh, hsh, hc⟩ := hc
      cases hc; exact idxAddrA_sound ho ‹_› hsh hk hd
    · cases hc
  · split at hc
    · simp only [Option.bind_eq_some_iff] at hc
      obtain ⟨f, hf, hc⟩ := hc
      split at hc
      · split at hc
        · cases hc
        · cases hc; exact fldAddr_sound ho ‹_› hf ‹_› ‹_› hk hd
      · cases hc
    · cases hc
  · split at hc
    · simp only [Option.bind_eq_some_iff, Option.map_eq_some_iff] at hc
      obtain ⟨f, hf, sh, hsh, hc⟩ := hc
      cases hc; exact fld_sound ho ‹_› hf hsh hk hd
    · cases hc
  · simp only [Option.map_eq_some_iff] at hc
    obtain ⟨sh, hsh, hc⟩ := hc
    cases hc; exact load_sound hS ho hsh hk hd
  · simp only [Option.bind_eq_some_iff, Option.map_eq_some_iff] at hc
    obtain ⟨z, hz, pl, hpl, hc⟩ := hc
    cases hc; exact build_sound ho hz hpl hk hd
  · cases hc; exact ext_sound ho hk hd
  · cases hc; exact mkFn_sound ho hk hd
  · cases hc; exact nilChk_sound ho hk hd
  · cases hc

theorem rd_soundA (hS : Sim w κ μ) {o : Oper} {k : RK} {xs : List Operand} (hc : compileR P o.op = some (k, xs)) {ps : List PV} (hk : Known w κ ρ xs ps) (hd : rdD μ k ps) (hw : k.wl = true) : RdOkA P w κ ρ o (rdV μ k ps) := by
  have := rd_soundX hS hc hk hd
  rw [hw] at this; exact this
theorem rd_sound (hS : Sim w κ μ) {o : Oper} {k : RK} {xs : List Operand} (hc : compileR P o.op = some (k, xs)) {ps : List PV} (hk : Known w κ ρ xs ps) (hd : rdD μ k ps) : RdOk P w κ ρ o (rdV μ k ps) := by
  obtain ⟨v, h1, h2⟩ := rd_soundX hS hc hk hd
  refine ⟨v, h1, fun w' hw => h2 w' ?_⟩
  cases k.wl with
  | true => trivial
  | false => exact hw
end
end PG
