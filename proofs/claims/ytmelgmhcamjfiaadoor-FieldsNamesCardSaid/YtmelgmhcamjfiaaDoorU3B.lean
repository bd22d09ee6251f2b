/- lex, plain: quoted strings. -/
import Derived.Test.YtmelgmhcamjfiaaDoorU3A
namespace Go.Proofs.YtmelgmhcamjfiaaDoor
open Go.Av
set_option linter.unusedVariables false
set_option linter.unusedSimpArgs false
/-! unquoting -/
end Go.Proofs.YtmelgmhcamjfiaaDoor
