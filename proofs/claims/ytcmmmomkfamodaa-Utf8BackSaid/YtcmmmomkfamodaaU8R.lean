/- utf8, plain: the reference's pieces. -/
import Derived.Test.YtcmmmomkfamodaaU8Q
namespace Go.Proofs.Ytcmmmomkfamodaa
open Go.Av
set_option linter.unusedVariables false
end Go.Proofs.Ytcmmmomkfamodaa
