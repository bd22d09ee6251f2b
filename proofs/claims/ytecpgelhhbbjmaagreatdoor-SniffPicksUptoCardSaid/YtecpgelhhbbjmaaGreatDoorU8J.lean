/- utf8, plain: characters joined. -/
import Derived.Test.YtecpgelhhbbjmaaGreatDoorU8X
namespace Go.Proofs.YtecpgelhhbbjmaaGreatDoor
open Go.Av
set_option linter.unusedVariables false
set_option linter.unusedSimpArgs false
end Go.Proofs.YtecpgelhhbbjmaaGreatDoor
