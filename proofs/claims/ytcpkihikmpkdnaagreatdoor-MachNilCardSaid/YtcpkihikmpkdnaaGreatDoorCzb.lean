/- MachNil, run by the executor, 'stepped' answered by its own run: true. -/
import Derived.Test.YtcpkihikmpkdnaaGreatDoorCz
set_option linter.unusedVariables false
set_option linter.unusedSimpArgs false
namespace Go.Proofs.YtcpkihikmpkdnaaGreatDoor
namespace Cx
noncomputable section
set_option maxRecDepth 100000
theorem machNil_runs : okTrue ((xCal Tryz.prog 6 100000 (orc1 8 6) (sameF 231) 60).call 3 [] .leaf 6) = true := by decide +kernel
end
end Cx
end Go.Proofs.YtcpkihikmpkdnaaGreatDoor
