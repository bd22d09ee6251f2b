/- LexWords, plain. -/
import Derived.Test.YteahieldmfehlaaDoorU3A
import Derived.Test.YteahieldmfehlaaDoorGE
import Derived.Test.YteahieldmfehlaaDoorLWords
namespace Go.Proofs.YteahieldmfehlaaDoor
open Go.Av
set_option maxRecDepth 1000000
theorem shown3 : law03_shown = some true := by kernel_rfl
theorem law_LexWords_all (s t : List UInt8) (_hs : True) (_ht : True) (hb : s.length ≤ 140737488351232) (hb2 : t.length ≤ 140737488351232) : law03_LexWords s t = some true := by
  unfold law03_LexWords
  rw [shown3, Token_eq (by omega), ref_Token_eq (by omega), Lower_eq (by omega), ref_Lower_eq (by omega), Same_eq (by omega) (by omega), ref_Same_eq (by omega) (by omega), Trim_eq (by omega), ref_Trim_eq (by omega)]
  simp
end Go.Proofs.YteahieldmfehlaaDoor
