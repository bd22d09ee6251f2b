/- utf8, plain: bytes as characters. -/
import Derived.Test.YtecpgelhhbbjmaaDoorU8V
import Derived.Lib.TrimUEq
namespace Go.Proofs.YtecpgelhhbbjmaaDoor
open Go.Av
set_option linter.unusedVariables false
set_option linter.unusedSimpArgs false
end Go.Proofs.YtecpgelhhbbjmaaDoor
