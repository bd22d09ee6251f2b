/- utf8, plain: the pieces that bytes fall into. -/
import Derived.Test.YtecpgelhhbbjmaaDoorU8P
import Derived.Lib.TrimUEq
namespace Go.Proofs.YtecpgelhhbbjmaaDoor
open Go.Av
set_option linter.unusedVariables false
end Go.Proofs.YtecpgelhhbbjmaaDoor
namespace Go.Proofs.YtecpgelhhbbjmaaDoor
open Go.Av
set_option linter.unusedVariables false
end Go.Proofs.YtecpgelhhbbjmaaDoor
namespace Go.Proofs.YtecpgelhhbbjmaaDoor
open Go.Av
set_option linter.unusedVariables false
set_option linter.unusedSimpArgs false
set_option maxHeartbeats 4000000
end Go.Proofs.YtecpgelhhbbjmaaDoor
namespace Go.Proofs.YtecpgelhhbbjmaaDoor
open Go.Av
set_option linter.unusedVariables false
set_option linter.unusedSimpArgs false
set_option maxHeartbeats 4000000
end Go.Proofs.YtecpgelhhbbjmaaDoor
namespace Go.Proofs.YtecpgelhhbbjmaaDoor
open Go.Av
set_option linter.unusedVariables false
set_option linter.unusedSimpArgs false
end Go.Proofs.YtecpgelhhbbjmaaDoor
namespace Go.Proofs.YtecpgelhhbbjmaaDoor
open Go.Av
set_option linter.unusedVariables false
set_option linter.unusedSimpArgs false
end Go.Proofs.YtecpgelhhbbjmaaDoor
