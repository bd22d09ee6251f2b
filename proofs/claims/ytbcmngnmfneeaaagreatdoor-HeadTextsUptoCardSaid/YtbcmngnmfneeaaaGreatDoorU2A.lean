/- Numbers: what digits tell, and a number's text; the program's and the reference's reading and writing. -/
import Derived.Test.YtbcmngnmfneeaaaGreatDoorU4A
import Derived.Test.YtbcmngnmfneeaaaGreatDoorGN
import Derived.Test.YtbcmngnmfneeaaaGreatDoorGR
namespace Go.Proofs.YtbcmngnmfneeaaaGreatDoor
open Go.Av
set_option linter.unusedVariables false
set_option linter.unusedSimpArgs false
def MX : Nat := 9223372036854775807
/-! the program's -/
end Go.Proofs.YtbcmngnmfneeaaaGreatDoor
