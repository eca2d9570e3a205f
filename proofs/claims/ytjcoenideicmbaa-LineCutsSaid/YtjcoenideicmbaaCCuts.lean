import Derived.Test.YtjcoenideicmbaaRows
import Derived.Test.YtjcoenideicmbaaQ16
import Derived.Test.YtjcoenideicmbaaQ17
namespace Go.Proofs.Ytjcoenideicmbaa
open Go PG Go.Proofs
set_option linter.unusedSimpArgs false
set_option linter.unusedVariables false
theorem shXs3 {P : Program} {n : Nat} {a b c : TypeId} {ps : List PV} (h : ShXs P n [a, b, c] ps) : ∃ p q r, ps = [p, q, r] ∧ ShX P n a p ∧ ShX P n b q ∧ ShX P n c r := by
  match ps, h with
  | [p, q, r], h => exact ⟨p, q, r, rfl, h.1, h.2.1, h.2.2.1⟩
set_option maxRecDepth 100000 in
theorem cuts_lifted (os : Os) (started : os.Started) (H : Type) (enc : TypeId × Value → H) :
    ReturnsInHanded {} Try.checked os 5 .any (Rows.lineCutsSpec.pre6 enc Try.prog Try.f5 Rows.lineCutsRow.domain false) (Rows.lineCutsSpec.post enc Try.prog Try.f5 false true false false) := by
  refine returnsInHanded_of_change (C := Try.checked) own1 started (by kernel_rfl) Try.func5
    (ChangeSpec.witness6 (enc := enc) (C := Try.checked) false ⟨#[], #[.slice none 0 0, .int .u16 0, .agg #[.int .u8 0, .int .u8 0]], []⟩ 8 (by kernel_rfl) (by kernel_rfl) (by kernel_rfl) (by kernel_rfl)) ?_
  intro W base args ds gs before hval hW _ _
  refine law_of_VX (n := 8) laidOut (by kernel_rfl) rfl (fun ds hd => ?_) (tb := 4) (by kernel_rfl) (by kernel_rfl) (globs0 W _) (fun ps hp => ?_) hval hW
  · rw [Try.params5] at hd
    match ds, hd with
    | [d1, d2, d3], _ => rfl
  · rw [Try.params5] at hp
    obtain ⟨p1, p2, p3, rfl, h1, h2, h3⟩ := shXs3 hp
    have a1 : arrT Try.prog 22 = none := by kernel_rfl
    have a2 : arrT Try.prog 23 = none := by kernel_rfl
    have a3 : arrT Try.prog 52 = some (2, .u8) := by kernel_rfl
    unfold ShX at h1 h2 h3
    rw [a1] at h1; rw [a2] at h2; rw [a3] at h3
    simp only at h1 h2 h3
    obtain ⟨l0, rfl, b0⟩ := read_ens h1
    obtain ⟨x1, rfl, lo1, hi1⟩ := read_u16 h2
    obtain ⟨qs, rfl, hq, hqs⟩ := h3
    match qs, hq with
    | [q1, q2], _ =>
      obtain ⟨m1, rfl, c1, c2⟩ := hqs q1 (by simp)
      obtain ⟨m2, rfl, c3, c4⟩ := hqs q2 (by simp)
      have c1 : 0 ≤ m1 := c1
      have c2 : m1 ≤ 255 := c2
      have c3 : 0 ≤ m2 := c3
      have c4 : m2 ≤ 255 := c4
      have := v5 l0 b0 x1 m1.toNat m2.toNat hi1 (by omega) (by omega)
      rw [Int.toNat_of_nonneg c1, Int.toNat_of_nonneg c3] at this
      exact this
theorem cuts_holds : Rows.LineCutsSaid :=
  OpenClaim.holds_of_wide 5 Try.f5 rfl rfl rfl rfl rfl rfl rfl ⟨rfl, rfl, rfl, rfl, rfl⟩ rfl rfl rfl rfl rfl (by kernel_rfl) Try.func5 (by kernel_rfl)
    (of_decide_eq_true (by kernel_rfl)) (by unfold Func.isWrapper; first | (rw [if_pos (by decide +kernel)]; kernel_rfl) | (rw [if_neg (by decide +kernel)]; exact ⟨rfl, rfl⟩))
    (fun os started H enc _ => cuts_lifted os started H enc)
end Go.Proofs.Ytjcoenideicmbaa

