/- utf8, plain: a whole piece is a character. -/
import Derived.Test.YtecpgelhhbbjmaaDoorU8T
namespace Go.Proofs.YtecpgelhhbbjmaaDoor
open Go.Av
set_option linter.unusedVariables false
set_option linter.unusedSimpArgs false
end Go.Proofs.YtecpgelhhbbjmaaDoor
