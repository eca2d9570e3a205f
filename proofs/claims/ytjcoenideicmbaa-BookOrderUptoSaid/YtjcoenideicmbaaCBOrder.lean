/-
  BookOrder: facts in the other order make the same book, if no two have one number; facts that are no rules play no part. Condition: what is read is of bulk at most 1048576 (the second form).
-/
import Derived.Test.YtjcoenideicmbaaRows
import Derived.Test.YtjcoenideicmbaaQ20
import Derived.Test.YtjcoenideicmbaaQ21
namespace Go.Proofs.Ytjcoenideicmbaa
open Go PG Go.Proofs
set_option linter.unusedSimpArgs false
set_option linter.unusedVariables false
set_option maxRecDepth 100000 in
theorem order_lifted (os : Os) (started : os.Started) (H : Type) (enc : TypeId × Value → H) (F : Stop.Interp) :
    ReturnsInHanded {} Try.checked os 11 .any ((Rows.OpenSpec.upto Rows.bookOrderSpec).pre6 enc Try.prog Try.f11 Rows.bookOrderUptoRow.domain false) (((Rows.OpenSpec.upto Rows.bookOrderSpec).at F).post enc Try.prog Try.f11 false true false false) := by
  refine returnsInHanded_of_cond (C := Try.checked) (s := Rows.OpenSpec.upto Rows.bookOrderSpec) (k := Rows.uptoSmall) rfl ownB started (by kernel_rfl) Try.func11
    (OpenSpec.witness (enc := enc) (C := Try.checked) (s := Rows.OpenSpec.upto Rows.bookOrderSpec) (k := Rows.uptoSmall) rfl false ⟨#[], #[.slice none 0 0, .string .empty, .int .i64 0], []⟩ 8 (by kernel_rfl) (by kernel_rfl) (by kernel_rfl)
      (x := ([.nil, .lit (.string []), .lit (.int .i64 0)], [], [])) (by kernel_rfl) rfl (by kernel_rfl)) ?_
  intro W base args ds gs before hval hW _ hk _
  refine law_of_Z (n := 8) szOk laidB (by kernel_rfl) rfl (fun ds hd => ?_) (tb := 4) (by kernel_rfl) (by kernel_rfl) (globsB W _) (fun ps hp => ?_) hval hW (small_of hk)
  · rw [Try.params11] at hd
    match ds, hd with
    | [d1, d2, d3], _ => rfl
  · rw [Try.params11] at hp
    obtain ⟨p1, p2, p3, rfl, k1, k2, k3⟩ := shBs3 hp
    obtain ⟨l, rfl, h1, h2⟩ := read_kns (n := 4) k1
    obtain ⟨s, rfl, -⟩ := read_strB (n := 7) k2
    obtain ⟨d, rfl, -, -⟩ := read_dayB (n := 7) k3
    exact v11 l (by omega) s d
theorem order_holds : Rows.BookOrderUptoSaid :=
  OpenClaim.holds_of_cond 11 Try.f11 rfl rfl rfl rfl rfl rfl rfl ⟨rfl, rfl, rfl, rfl, rfl⟩ rfl rfl rfl rfl rfl (by kernel_rfl) Try.func11 (by kernel_rfl)
    (of_decide_eq_true (by kernel_rfl)) (by unfold Func.isWrapper; first | (rw [if_pos (by decide +kernel)]; kernel_rfl) | (rw [if_neg (by decide +kernel)]; exact ⟨rfl, rfl⟩))
    (fun os started H enc _ F => order_lifted os started H enc F)
end Go.Proofs.Ytjcoenideicmbaa

