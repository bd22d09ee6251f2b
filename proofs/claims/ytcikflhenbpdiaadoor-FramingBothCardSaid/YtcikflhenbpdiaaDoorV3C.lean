/- lex, plain: what is quoted; lists. -/
import Derived.Test.YtcikflhenbpdiaaDoorV3A
namespace Go.Proofs.YtcikflhenbpdiaaDoor
open Go.Av
set_option linter.unusedVariables false
set_option linter.unusedSimpArgs false
end Go.Proofs.YtcikflhenbpdiaaDoor
namespace Go.Proofs.YtcikflhenbpdiaaDoor
open Go.Av
set_option linter.unusedVariables false
set_option linter.unusedSimpArgs false
set_option maxRecDepth 100000
end Go.Proofs.YtcikflhenbpdiaaDoor
