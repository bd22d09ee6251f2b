/- Functions of package strings, told as contracts of Av: by the shelf's contracts. -/
import Derived.Test.YtmelgmhcamjfiaaDoorLibF
import Derived.Test.YtmelgmhcamjfiaaDoorShA
import Derived.Test.YtmelgmhcamjfiaaDoorBls
namespace Go.Proofs.YtmelgmhcamjfiaaDoor
open Go.Av Go.RowKit
theorem drewN_gr (w : World) (n : Nat) : Gr w (w.drewN n) := by
  induction n with
  | zero => exact Gr.refl w
  | succ n ih => exact ih.trans (Gr.drew _)
def asciiB (s : List UInt8) : Bool := s.all fun b => decide (b.toNat < 128)
def trimX (s cut : List UInt8) : Option (List UInt8) := if asciiB cut = true ∧ cut.length < 4294967281 ∧ s.length ≤ 9223372036854775807 then some (Lib.trimS s cut) else none
theorem trimX_ok {s cut r : List UInt8} (hP : trimX s cut = some r) : CallOK Tryd.prog 49 [.str s, .str cut] (.str r) [] := by
  unfold trimX at hP
  split at hP
  · rename_i hc
    obtain ⟨h1, h2, h3⟩ := hc
    obtain rfl := Option.some.inj hP
    refine callOK_flat ⟨_, Tryd.func49, rfl, by decide⟩ rfl rfl fun w _ => ?_
    exact (Any.strings_Trim_laid Tryd.lays160 (by kernel_rfl) ⟨s.toArray⟩ ⟨cut.toArray⟩ w (by simpa [ByteArray.size] using h3) (by simpa [ByteArray.size] using h2) (ascii_of_all (by simpa [asciiB] using h1))).mono fun e w' ⟨he, hb⟩ => ⟨by rw [he]; rfl, Below_gr hb⟩
  · cases hP
def indexByteX (s : List UInt8) (c : UInt8) : Option Int := some (Lib.indexByte s c)
theorem indexByteX_ok {s : List UInt8} {c : UInt8} {r : Int} (hP : indexByteX s c = some r) : CallOK Tryd.prog 66 [.str s, .int .u8 (b2i c)] (.int .i64 r) [] := by
  obtain rfl := Option.some.inj hP
  refine callOK_flat ⟨_, Tryd.func66, rfl, by decide⟩ rfl rfl fun w _ => ?_
  exact (Any.strings_IndexByte Tryd.lays137 ⟨s.toArray⟩ (b2i c) w).mono fun e w' ⟨he, hb⟩ => ⟨by rw [he]; unfold b2i; simp [flatV], by rw [hb]; exact Gr.refl w⟩
end Go.Proofs.YtmelgmhcamjfiaaDoor
