/- strings.Trim at an ASCII cutset: the shelf's contract, told as one of Av. -/
import Derived.Test.YtcmfgjiemjlogaaDoorLibF
import Derived.Test.YtcmfgjiemjlogaaDoorFa
import Derived.Test.YtcmfgjiemjlogaaDoorShA
namespace Go.Proofs.YtcmfgjiemjlogaaDoor
open Go.Av Go.RowKit
def asciiB (s : List UInt8) : Bool := s.all fun b => decide (b.toNat < 128)
def trimX (s cut : List UInt8) : Option (List UInt8) := if asciiB cut = true ∧ cut.length < 4294967281 ∧ s.length ≤ 9223372036854775807 then some (Lib.trimS s cut) else none
theorem trimX_ok {s cut r : List UInt8} (hP : trimX s cut = some r) : CallOK Tryd.prog 26 [.str s, .str cut] (.str r) [] := by
  unfold trimX at hP
  split at hP
  · rename_i hc
    obtain ⟨h1, h2, h3⟩ := hc
    obtain rfl := Option.some.inj hP
    refine callOK_flat ⟨_, Tryd.func26, rfl, by decide⟩ rfl rfl fun w _ => ?_
    exact (Any.strings_Trim_laid Tryd.lays160 (by kernel_rfl) ⟨s.toArray⟩ ⟨cut.toArray⟩ w (by simpa [ByteArray.size] using h3) (by simpa [ByteArray.size] using h2) (ascii_of_all (by simpa [asciiB] using h1))).mono fun e w' ⟨he, hb⟩ => ⟨by rw [he]; rfl, Below_gr hb⟩
  · cases hP
end Go.Proofs.YtcmfgjiemjlogaaDoor
