/- fields, plain: sizes; lists that stand in several fields; a name's fields and the others. -/
import Derived.Test.YtmelgmhcamjfiaaDoorU4B
import Derived.Test.YtmelgmhcamjfiaaDoorRow
import Derived.Test.YtmelgmhcamjfiaaDoorGE
namespace Go.Proofs.YtmelgmhcamjfiaaDoor
open Go.Av
set_option linter.unusedVariables false
set_option linter.unusedSimpArgs false
set_option maxRecDepth 100000
theorem okF_out {l : List Fld} (h : okF l) (ns : List (List UInt8)) : okF (outT l ns) :=
  ⟨Nat.le_trans (List.length_filter_le _ _) h.1, fun f hf => h.2 f (List.mem_filter.1 hf).1⟩
theorem shown4 : law04_shown = some true := by kernel_rfl
end Go.Proofs.YtmelgmhcamjfiaaDoor
