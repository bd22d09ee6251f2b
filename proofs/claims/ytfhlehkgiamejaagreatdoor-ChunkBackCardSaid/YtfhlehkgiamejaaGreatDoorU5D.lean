/- head, plain: how a head is read. -/
import Derived.Test.YtfhlehkgiamejaaGreatDoorV3C
import Derived.Test.YtfhlehkgiamejaaGreatDoorU4A
import Derived.Test.YtfhlehkgiamejaaGreatDoorU2A
import Derived.Test.YtfhlehkgiamejaaGreatDoorGC
namespace Go.Proofs.YtfhlehkgiamejaaGreatDoor
open Go.Av
set_option linter.unusedVariables false
set_option linter.unusedSimpArgs false
set_option maxRecDepth 100000
theorem b2i13 (c : UInt8) : decide (b2i c = b2i (bC 13)) = decide (c = 13) := decide_eq_decide.2 ⟨fun h => b2i_inj.1 h, fun h => by rw [h]; rfl⟩
theorem b2i10 (c : UInt8) : decide (b2i c = b2i (bC 10)) = decide (c = 10) := decide_eq_decide.2 ⟨fun h => b2i_inj.1 h, fun h => by rw [h]; rfl⟩
end Go.Proofs.YtfhlehkgiamejaaGreatDoor
