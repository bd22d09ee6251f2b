/- utf8, plain: characters joined. -/
import Derived.Test.YtecpgelhhbbjmaaDoorU8X
namespace Go.Proofs.YtecpgelhhbbjmaaDoor
open Go.Av
set_option linter.unusedVariables false
set_option linter.unusedSimpArgs false
end Go.Proofs.YtecpgelhhbbjmaaDoor
