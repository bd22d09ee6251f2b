/- head, plain: fields, rows, and a request. -/
import Derived.Test.YtfhlehkgiamejaaGreatDoorU5D
import Derived.Test.YtfhlehkgiamejaaGreatDoorU5B
namespace Go.Proofs.YtfhlehkgiamejaaGreatDoor
open Go.Av
set_option linter.unusedVariables false
set_option linter.unusedSimpArgs false
set_option maxRecDepth 100000
theorem cutX_eq {s c : List UInt8} (hl : s.length ≤ 16777216) : cutX s c = some (Lib.cut s c) := by
  unfold cutX; rw [if_pos (by omega)]
end Go.Proofs.YtfhlehkgiamejaaGreatDoor
