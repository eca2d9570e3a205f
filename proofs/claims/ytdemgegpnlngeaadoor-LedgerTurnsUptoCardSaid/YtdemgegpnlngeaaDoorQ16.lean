import Derived.Test.YtdemgegpnlngeaaDoorQ14
import Derived.Test.YtdemgegpnlngeaaDoorQ15
namespace Go.Proofs.YtdemgegpnlngeaaDoor
open Go PG Go.Proofs
set_option linter.unusedSimpArgs false
set_option linter.unusedVariables false
set_option maxHeartbeats 4000000
set_option maxRecDepth 100000
theorem balP_view (μ : Mem) (b : Option Bal) : PV.view μ (balP b) = balP b := by cases b <;> simp [balP, PV.view]
theorem balP_seen (μ : Mem) (b : Option Bal) : PV.seen μ (balP b) = true := by cases b <;> simp [balP, PV.seen]
theorem balP_noOwn (b : Option Bal) : (balP b).noOwn = true := by cases b <;> simp [balP, PV.noOwn]
theorem balP_kill (f : Nat → Bool) (b : Option Bal) : (balP b).kill f = balP b := by cases b <;> simp [balP, PV.kill]
end Go.Proofs.YtdemgegpnlngeaaDoor

namespace Go.Proofs.YtdemgegpnlngeaaDoor
open Go PG Go.Proofs
set_option linter.unusedSimpArgs false
set_option linter.unusedVariables false
set_option maxHeartbeats 4000000
set_option maxRecDepth 100000
end Go.Proofs.YtdemgegpnlngeaaDoor

