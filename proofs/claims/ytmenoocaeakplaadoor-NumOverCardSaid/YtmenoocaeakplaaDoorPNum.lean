/- The laws of numbers, in plain Lean. -/
import Derived.Test.YtmenoocaeakplaaDoorU2B
import Derived.Test.YtmenoocaeakplaaDoorLReads
import Derived.Test.YtmenoocaeakplaaDoorLWrites
import Derived.KernelRfl
namespace Go.Proofs.YtmenoocaeakplaaDoor
open Go.Av
set_option linter.unusedVariables false
set_option linter.unusedSimpArgs false
theorem shown02 : law02_shown = some true := by kernel_rfl
theorem law_NumReads_all (s : List UInt8) (_ : True) (hb : s.length ≤ 140737488351232) : law02_NumReads s = some true := by
  unfold law02_NumReads
  rw [shown02, decimal_eq s (by omega), hex_eq s (by omega), refDecimal_eq s (by omega), refHex_eq s (by omega)]
  simp
theorem law_NumWrites_all (n : Int) (hn : inR .i64 n) : law02_NumWrites n = some true := by
  have h1 := hn.2
  unfold law02_NumWrites
  rw [shown02, digits_eq n h1, hexes_eq n h1, refDigits_eq n h1, refHexes_eq n h1]
  simp
end Go.Proofs.YtmenoocaeakplaaDoor
