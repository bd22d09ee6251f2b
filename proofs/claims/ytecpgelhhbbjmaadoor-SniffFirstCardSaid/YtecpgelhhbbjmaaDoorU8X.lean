/- utf8, plain: characters, faults. -/
import Derived.Test.YtecpgelhhbbjmaaDoorV8
namespace Go.Proofs.YtecpgelhhbbjmaaDoor
open Go.Av
set_option linter.unusedVariables false
set_option linter.unusedSimpArgs false
end Go.Proofs.YtecpgelhhbbjmaaDoor
