/- A number's text: the program's and the reference's; it is read back. -/
import Derived.Test.YtbcmngnmfneeaaaGreatDoorU2A
namespace Go.Proofs.YtbcmngnmfneeaaaGreatDoor
open Go.Av
set_option linter.unusedVariables false
set_option linter.unusedSimpArgs false
def hexC (d : Nat) : UInt8 := UInt8.ofNat (if d < 10 then 48 + d else 87 + d)
def txt (b u : Nat) : List UInt8 :=
  if h : u < b ∨ b < 2 then [hexC u] else txt b (u / b) ++ [hexC (u % b)]
termination_by u
decreasing_by
  have h1 : b ≤ u := by omega
  exact Nat.div_lt_self (by omega) (by omega)
theorem txt_lo {b u : Nat} (h : u < b) : txt b u = [hexC u] := by rw [txt, dif_pos (.inl h)]
theorem txt_hi {b u : Nat} (hb : 2 ≤ b) (h : b ≤ u) : txt b u = txt b (u / b) ++ [hexC (u % b)] := by rw [txt, dif_neg (by omega)]
theorem txt_dec (u : Nat) : Lib.decDigits u = txt 10 u := by
  induction u using Nat.strongRecOn with
  | _ u ih =>
    rw [Lib.decDigits]
    by_cases h : u < 10
    · rw [dif_pos h, txt_lo h]; unfold hexC; rw [if_pos h]
    · rw [dif_neg h, txt_hi (by decide) (by omega), ih (u / 10) (by omega)]
      unfold hexC; rw [if_pos (by omega : u % 10 < 10)]
/-- a number's text -/
def textS (b : Nat) (n : Int) : List UInt8 := if n < 0 then [] else txt b n.toNat
/-! the program's -/
theorem digits_eq (n : Int) (hn : n ≤ 9223372036854775807) : num_Digits n = some (textS 10 n) := by
  unfold num_Digits num_write textS strconv_FormatInt fmtX
  by_cases h0 : n < 0
  · simp [h0]
  · rw [if_neg (by simpa using h0), if_neg h0, if_pos rfl, if_pos ⟨by omega, hn⟩]
    simp only [Option.bind_some, Lib.itoa, h0, if_false, txt_dec]
end Go.Proofs.YtbcmngnmfneeaaaGreatDoor
