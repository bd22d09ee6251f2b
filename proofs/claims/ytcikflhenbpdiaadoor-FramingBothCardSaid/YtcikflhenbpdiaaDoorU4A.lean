/- a string's runes, and its bytes below 80. -/
import Derived.Test.YtcikflhenbpdiaaDoorPu
import Derived.Test.YtcikflhenbpdiaaDoorFwB
namespace Go.Proofs.YtcikflhenbpdiaaDoor
open Go.Av
set_option linter.unusedVariables false
set_option linter.unusedSimpArgs false
end Go.Proofs.YtcikflhenbpdiaaDoor
