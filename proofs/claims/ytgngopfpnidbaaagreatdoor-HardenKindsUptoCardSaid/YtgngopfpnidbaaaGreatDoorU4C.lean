/- fields, plain: what may be a field; texts. -/
import Derived.Test.YtgngopfpnidbaaaGreatDoorU4B
namespace Go.Proofs.YtgngopfpnidbaaaGreatDoor
open Go.Av
set_option linter.unusedVariables false
set_option linter.unusedSimpArgs false
set_option maxRecDepth 100000
end Go.Proofs.YtgngopfpnidbaaaGreatDoor
