/- sniff, plain: which encoding is picked, and what is read by it. -/
import Derived.Test.YtecpgelhhbbjmaaDoorU11B
import Derived.Test.YtecpgelhhbbjmaaDoorU9B
import Derived.Test.YtecpgelhhbbjmaaDoorGI
namespace Go.Proofs.YtecpgelhhbbjmaaDoor
open Go.Av
set_option linter.unusedVariables false
set_option linter.unusedSimpArgs false
set_option maxRecDepth 100000
set_option maxHeartbeats 2000000 in
theorem shown11 : law11_shown = some true := by kernel_rfl
def bomT (b : List UInt8) : Int × Int :=
  if b.take 3 = [239, 187, 191] then (1, 3) else if (([254, 255] : List UInt8).isPrefixOf (b.take 3) || ([255, 254] : List UInt8).isPrefixOf (b.take 3)) = true then (3, 2) else (0, 0)
def pickT (cs b : List UInt8) : Int × Int := if (bomT b).1 = 0 then (if lblT cs = 0 then (if preT b = 0 then (2, 0) else (preT b, 0)) else (lblT cs, 0)) else bomT b
end Go.Proofs.YtecpgelhhbbjmaaDoor
