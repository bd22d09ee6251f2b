/- lex, plain: bytes, words, blanks. -/
import Derived.Test.YtfhlehkgiamejaaGreatDoorPu
import Derived.Test.YtfhlehkgiamejaaGreatDoorGB
import Derived.Test.YtfhlehkgiamejaaGreatDoorLibL
namespace Go.Proofs.YtfhlehkgiamejaaGreatDoor
open Go.Av
set_option linter.unusedVariables false
set_option linter.unusedSimpArgs false
set_option maxRecDepth 100000
/-- what holds of all 256 bytes, told one by one -/
theorem all256 {p : UInt8 → Bool} (h : (List.range 256).all (fun n => p (UInt8.ofNat n)) = true) (c : UInt8) : p c = true := by
  have := List.all_eq_true.1 h c.toNat (List.mem_range.2 c.toNat_lt)
  rwa [UInt8.ofNat_toNat] at this
theorem drop_step {α : Type} {l : List α} {i : Nat} (h : i < l.length) : l.drop i = l[i] :: l.drop (i + 1) := by
  rw [List.drop_eq_getElem_cons h]
def quoT (c : UInt8) : Bool := c == 9 || (decide (32 ≤ c.toNat) && c != 127)
def blT (c : UInt8) : Bool := ([32, 9] : List UInt8).contains c
/-- without the blanks at the end -/
def cutR (s : List UInt8) : List UInt8 := (s.reverse.dropWhile blT).reverse
def cutL (s : List UInt8) : List UInt8 := s.dropWhile blT
def trimT (s : List UInt8) : List UInt8 := cutR (cutL s)
end Go.Proofs.YtfhlehkgiamejaaGreatDoor
namespace Go.Proofs.YtfhlehkgiamejaaGreatDoor
open Go.Av
set_option linter.unusedVariables false
set_option linter.unusedSimpArgs false
/-! unquoting -/
end Go.Proofs.YtfhlehkgiamejaaGreatDoor
