/- utf8, plain: the two ways of finding pieces agree. -/
import Derived.Test.YtecpgelhhbbjmaaDoorU8R
namespace Go.Proofs.YtecpgelhhbbjmaaDoor
open Go.Av
set_option linter.unusedVariables false
set_option linter.unusedSimpArgs false
set_option maxHeartbeats 4000000
end Go.Proofs.YtecpgelhhbbjmaaDoor
