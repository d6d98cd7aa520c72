/- The law's opening, run by the executor: true. -/
import Derived.Test.YtboondbognbnnaaGreatDoorQCw
set_option linter.unusedVariables false
set_option linter.unusedSimpArgs false
set_option linter.unusedVariables false
set_option linter.unusedSimpArgs false
namespace Go.Proofs.YtboondbognbnnaaGreatDoor
namespace Cx
noncomputable section
set_option maxRecDepth 100000
theorem begun_runs : okTrue ((xCal Tryz.prog 10 100000 orcB extB idleB 60).call 5 [] .leaf 10) = true := by decide +kernel
end
end Cx
end Go.Proofs.YtboondbognbnnaaGreatDoor
