/- Chapter 07: what must be in any case. -/
import Derived.Test.YtfhlehkgiamejaaGreatDoorGE
import Derived.KernelRfl
namespace Go.Proofs.YtfhlehkgiamejaaGreatDoor
open Go.Av
theorem shown07 : law07_shown = some true := by kernel_rfl
end Go.Proofs.YtfhlehkgiamejaaGreatDoor
