/- LexQuotes, plain. -/
import Derived.Test.YteahieldmfehlaaDoorPWords
import Derived.Test.YteahieldmfehlaaDoorLQuotes
namespace Go.Proofs.YteahieldmfehlaaDoor
open Go.Av
theorem law_LexQuotes (s : List UInt8) (_hs : True) (hb : s.length + 1 + 0 ≤ 1048576) : law03_LexQuotes s = some true := by
  unfold law03_LexQuotes
  rw [shown3, Unquote_eq (by omega), ref_Unquote_eq (by omega), Quote_eq (by omega), ref_Quote_eq (by omega)]
  simp
end Go.Proofs.YteahieldmfehlaaDoor
