/- fields, plain: what may be a field; texts. -/
import Derived.Test.YtbcmngnmfneeaaaDoorU4B
namespace Go.Proofs.YtbcmngnmfneeaaaDoor
open Go.Av
set_option linter.unusedVariables false
set_option linter.unusedSimpArgs false
set_option maxRecDepth 100000
def vOK (s : List UInt8) : Bool := decide (trimT s = s) && plainT s
def lineT (f : Fld) : List UInt8 := f.1 ++ [58] ++ (if f.2 = [] then [] else [32] ++ f.2) ++ [13, 10]
def linesT (l : List Fld) : List UInt8 := l.flatMap lineT
theorem linesT_cons (f : Fld) (l : List Fld) : linesT (f :: l) = lineT f ++ linesT l := by unfold linesT; rw [List.flatMap_cons]
end Go.Proofs.YtbcmngnmfneeaaaDoor
