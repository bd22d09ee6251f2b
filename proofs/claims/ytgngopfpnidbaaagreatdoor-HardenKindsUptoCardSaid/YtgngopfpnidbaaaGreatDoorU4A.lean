/- a string's runes, and its bytes below 80. -/
import Derived.Test.YtgngopfpnidbaaaGreatDoorPu
import Derived.Test.YtgngopfpnidbaaaGreatDoorFwB
namespace Go.Proofs.YtgngopfpnidbaaaGreatDoor
open Go.Av
set_option linter.unusedVariables false
set_option linter.unusedSimpArgs false
end Go.Proofs.YtgngopfpnidbaaaGreatDoor
