/- fields, plain: All, Count, Without, Members, Same. -/
import Derived.Test.YtfhlehkgiamejaaGreatDoorV3C
import Derived.Test.YtfhlehkgiamejaaGreatDoorU4A
namespace Go.Proofs.YtfhlehkgiamejaaGreatDoor
open Go.Av
set_option linter.unusedVariables false
set_option linter.unusedSimpArgs false
set_option maxRecDepth 100000
abbrev Fld := List UInt8 × List UInt8
/-! members -/
end Go.Proofs.YtfhlehkgiamejaaGreatDoor
