/- a string's runes, and its bytes below 80. -/
import Derived.Test.YtmelgmhcamjfiaaDoorPu
import Derived.Test.YtmelgmhcamjfiaaDoorAvK
namespace Go.Proofs.YtmelgmhcamjfiaaDoor
open Go.Av
set_option linter.unusedVariables false
set_option linter.unusedSimpArgs false
end Go.Proofs.YtmelgmhcamjfiaaDoor
