/- lex, plain: lists. -/
import Derived.Test.YtmelgmhcamjfiaaDoorU3C
namespace Go.Proofs.YtmelgmhcamjfiaaDoor
open Go.Av
set_option linter.unusedVariables false
set_option linter.unusedSimpArgs false
set_option maxRecDepth 100000
end Go.Proofs.YtmelgmhcamjfiaaDoor
