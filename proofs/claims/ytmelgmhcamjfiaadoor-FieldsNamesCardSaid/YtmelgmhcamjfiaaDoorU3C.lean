/- lex, plain: what is quoted; lists. -/
import Derived.Test.YtmelgmhcamjfiaaDoorU3B
namespace Go.Proofs.YtmelgmhcamjfiaaDoor
open Go.Av
set_option linter.unusedVariables false
set_option linter.unusedSimpArgs false
end Go.Proofs.YtmelgmhcamjfiaaDoor
