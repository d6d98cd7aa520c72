/- MachNil's part 'stepped', run by the executor: true. -/
import Derived.Test.YtcpkihikmpkdnaaGreatDoorCz
set_option linter.unusedVariables false
set_option linter.unusedSimpArgs false
namespace Go.Proofs.YtcpkihikmpkdnaaGreatDoor
namespace Cx
noncomputable section
set_option maxRecDepth 100000
theorem stepped_runs : okTrue ((xCal Tryz.prog 6 100000 orc0 (sameF 231) 60).call 8 [] .leaf 6) = true := by decide +kernel
end
end Cx
end Go.Proofs.YtcpkihikmpkdnaaGreatDoor
