/-
  BookLater: a rule that is told with a greater number than all others changes just its own name, on the days that it covers, where it is in force. Condition: what is read is of bulk at most 1048576 (the second form).
-/
import Derived.Test.YtjcoenideicmbaaRows
import Derived.Test.YtjcoenideicmbaaQ21
import Derived.Test.YtjcoenideicmbaaQ22
namespace Go.Proofs.Ytjcoenideicmbaa
open Go PG Go.Proofs
set_option linter.unusedSimpArgs false
set_option linter.unusedVariables false
set_option maxRecDepth 100000 in
theorem later_lifted (os : Os) (started : os.Started) (H : Type) (enc : TypeId × Value → H) (F : Stop.Interp) :
    ReturnsInHanded {} Try.checked os 14 .any ((Rows.OpenSpec.upto Rows.bookLaterSpec).pre6 enc Try.prog Try.f14 Rows.bookLaterUptoRow.domain false) (((Rows.OpenSpec.upto Rows.bookLaterSpec).at F).post enc Try.prog Try.f14 false true false false) := by
  refine returnsInHanded_of_cond (C := Try.checked) (s := Rows.OpenSpec.upto Rows.bookLaterSpec) (k := Rows.uptoSmall) rfl ownB started (by kernel_rfl) Try.func14
    (OpenSpec.witness (enc := enc) (C := Try.checked) (s := Rows.OpenSpec.upto Rows.bookLaterSpec) (k := Rows.uptoSmall) rfl false ⟨#[], #[.slice none 0 0, .agg #[.int .i64 0, .int .u32 0, .int .u32 0, .int .i64 0, .int .i64 0, .int .i64 0, .string .empty, .int .i64 0, .string .empty], .string .empty, .int .i64 0], []⟩ 8 (by kernel_rfl) (by kernel_rfl) (by kernel_rfl)
      (x := ([.nil, .agg [.lit (.int .i64 0), .agg [.lit (.int .u32 0), .lit (.int .u32 0), .lit (.int .i64 0), .lit (.int .i64 0), .lit (.int .i64 0), .lit (.string []), .lit (.int .i64 0), .lit (.string [])]], .lit (.string []), .lit (.int .i64 0)], [], [])) (by kernel_rfl) rfl (by kernel_rfl)) ?_
  intro W base args ds gs before hval hW _ hk _
  refine law_of_Z (n := 8) szOk laidB (by kernel_rfl) rfl (fun ds hd => ?_) (tb := 4) (by kernel_rfl) (by kernel_rfl) (globsB W _) (fun ps hp => ?_) hval hW (small_of hk)
  · rw [Try.params14] at hd
    match ds, hd with
    | [d1, d2, d3, d4], _ => rfl
  · rw [Try.params14] at hp
    obtain ⟨p1, p2, p3, p4, rfl, k1, k2, k3, k4⟩ := shBs4 hp
    obtain ⟨l, rfl, h1, h2⟩ := read_kns (n := 4) k1
    obtain ⟨k, rfl, -⟩ := read_kn1 (n := 5) k2
    obtain ⟨s, rfl, -⟩ := read_strB (n := 7) k3
    obtain ⟨d, rfl, hd, -⟩ := read_dayB (n := 7) k4
    exact v14 l (by omega) k s d
theorem later_holds : Rows.BookLaterUptoSaid :=
  OpenClaim.holds_of_cond 14 Try.f14 rfl rfl rfl rfl rfl rfl rfl ⟨rfl, rfl, rfl, rfl, rfl⟩ rfl rfl rfl rfl rfl (by kernel_rfl) Try.func14 (by kernel_rfl)
    (of_decide_eq_true (by kernel_rfl)) (by unfold Func.isWrapper; first | (rw [if_pos (by decide +kernel)]; kernel_rfl) | (rw [if_neg (by decide +kernel)]; exact ⟨rfl, rfl⟩))
    (fun os started H enc _ F => later_lifted os started H enc F)
end Go.Proofs.Ytjcoenideicmbaa

