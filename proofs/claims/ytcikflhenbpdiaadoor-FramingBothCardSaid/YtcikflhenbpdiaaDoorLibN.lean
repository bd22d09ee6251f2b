/- What the library's number formatting leans on, told as contracts of Av. -/
import Derived.Test.YtcikflhenbpdiaaDoorLibL
import Derived.Lib.Walk
import Derived.Lib.BitFns
namespace Go.Proofs.YtcikflhenbpdiaaDoor
open Go.Av Go.RowKit Go.Lib
end Go.Proofs.YtcikflhenbpdiaaDoor
