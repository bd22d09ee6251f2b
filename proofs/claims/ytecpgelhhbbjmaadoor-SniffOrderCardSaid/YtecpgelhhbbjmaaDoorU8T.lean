/- utf8, plain: pieces of four bytes; characters' bytes. -/
import Derived.Test.YtecpgelhhbbjmaaDoorU8S
namespace Go.Proofs.YtecpgelhhbbjmaaDoor
open Go.Av
set_option linter.unusedVariables false
set_option linter.unusedSimpArgs false
set_option maxHeartbeats 4000000
end Go.Proofs.YtecpgelhhbbjmaaDoor
