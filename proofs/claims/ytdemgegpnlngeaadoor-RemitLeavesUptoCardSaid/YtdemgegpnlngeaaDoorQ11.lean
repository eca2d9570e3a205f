import Derived.Test.YtdemgegpnlngeaaDoorQ10
namespace Go.Proofs.YtdemgegpnlngeaaDoor
open Go PG Go.Proofs
set_option linter.unusedSimpArgs false
set_option linter.unusedVariables false
set_option maxHeartbeats 4000000
set_option maxRecDepth 100000
theorem postM_wrong {l : Lg} {es : List Ent4} (h : batchW es ≠ 0) : postM l es = (l, batchW es) := by rw [postM, if_pos h]
theorem balP_scalar (b : Option Bal) : (balP b).scalar = true := by cases b <;> rfl
end Go.Proofs.YtdemgegpnlngeaaDoor

