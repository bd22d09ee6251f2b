/- utf8, plain: the reference's pieces. -/
import Derived.Test.YtecpgelhhbbjmaaDoorU8Q
namespace Go.Proofs.YtecpgelhhbbjmaaDoor
open Go.Av
set_option linter.unusedVariables false
end Go.Proofs.YtecpgelhhbbjmaaDoor
