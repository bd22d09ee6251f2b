/- utf8, plain: the pieces that bytes fall into. -/
import Derived.Test.YtecpgelhhbbjmaaDoorU8P
namespace Go.Proofs.YtecpgelhhbbjmaaDoor
open Go.Av
set_option linter.unusedVariables false
end Go.Proofs.YtecpgelhhbbjmaaDoor
