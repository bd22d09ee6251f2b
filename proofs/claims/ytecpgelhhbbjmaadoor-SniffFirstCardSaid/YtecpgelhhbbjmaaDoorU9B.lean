/- leaf, plain: bytes read and written. -/
import Derived.Test.YtecpgelhhbbjmaaDoorU9A
namespace Go.Proofs.YtecpgelhhbbjmaaDoor
open Go.Av
set_option linter.unusedVariables false
end Go.Proofs.YtecpgelhhbbjmaaDoor
