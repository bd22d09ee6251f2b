/- Functions of package strings, told as contracts of Av: by the shelf's contracts. -/
import Derived.Test.YteahieldmfehlaaDoorLibF
import Derived.Test.YteahieldmfehlaaDoorShA
import Derived.Test.YteahieldmfehlaaDoorLibQ
import Derived.Test.YteahieldmfehlaaDoorBls
namespace Go.Proofs.YteahieldmfehlaaDoor
open Go.Av Go.RowKit
theorem drewN_gr (w : World) (n : Nat) : Gr w (w.drewN n) := by
  induction n with
  | zero => exact Gr.refl w
  | succ n ih => exact ih.trans (Gr.drew _)
def asciiB (s : List UInt8) : Bool := s.all fun b => decide (b.toNat < 128)
def trimX (s cut : List UInt8) : Option (List UInt8) := if asciiB cut = true ∧ cut.length < 4294967281 ∧ s.length ≤ 9223372036854775807 then some (Lib.trimS s cut) else none
theorem trimX_ok {s cut r : List UInt8} (hP : trimX s cut = some r) : CallOK Tryd.prog 48 [.str s, .str cut] (.str r) [] := by
  unfold trimX at hP
  split at hP
  · rename_i hc
    obtain ⟨h1, h2, h3⟩ := hc
    obtain rfl := Option.some.inj hP
    refine callOK_flat ⟨_, Tryd.func48, rfl, by decide⟩ rfl rfl fun w _ => ?_
    exact (Any.strings_Trim_laid Tryd.lays160 (by kernel_rfl) ⟨s.toArray⟩ ⟨cut.toArray⟩ w (by simpa [ByteArray.size] using h3) (by simpa [ByteArray.size] using h2) (ascii_of_all (by simpa [asciiB] using h1))).mono fun e w' ⟨he, hb⟩ => ⟨by rw [he]; rfl, Below_gr hb⟩
  · cases hP
def trimLeftX (s cut : List UInt8) : Option (List UInt8) := if asciiB cut = true ∧ cut.length < 4294967281 then some (Lib.trimLeftS s cut) else none
theorem trimLeftX_ok {s cut r : List UInt8} (hP : trimLeftX s cut = some r) : CallOK Tryd.prog 45 [.str s, .str cut] (.str r) [] := by
  unfold trimLeftX at hP
  split at hP
  · rename_i hc
    obtain ⟨h1, h2⟩ := hc
    obtain rfl := Option.some.inj hP
    refine callOK_flat ⟨_, Tryd.func45, rfl, by decide⟩ rfl rfl fun w _ => ?_
    exact (Any.strings_TrimLeft_laid Tryd.lays161 (by kernel_rfl) ⟨s.toArray⟩ ⟨cut.toArray⟩ w (by simpa [ByteArray.size] using h2) (ascii_of_all (by simpa [asciiB] using h1))).mono fun e w' ⟨he, hb⟩ => ⟨by rw [he]; rfl, Below_gr hb⟩
  · cases hP
def indexByteX (s : List UInt8) (c : UInt8) : Option Int := some (Lib.indexByte s c)
theorem indexByteX_ok {s : List UInt8} {c : UInt8} {r : Int} (hP : indexByteX s c = some r) : CallOK Tryd.prog 70 [.str s, .int .u8 (b2i c)] (.int .i64 r) [] := by
  obtain rfl := Option.some.inj hP
  refine callOK_flat ⟨_, Tryd.func70, rfl, by decide⟩ rfl rfl fun w _ => ?_
  exact (Any.strings_IndexByte Tryd.lays137 ⟨s.toArray⟩ (b2i c) w).mono fun e w' ⟨he, hb⟩ => ⟨by rw [he]; unfold b2i; simp [flatV], by rw [hb]; exact Gr.refl w⟩
def cutX (s sep : List UInt8) : Option (List UInt8 × List UInt8 × Bool) := if s.length < 4294967281 then some (Lib.cut s sep) else none
theorem cutX_ok {s sep : List UInt8} {r : List UInt8 × List UInt8 × Bool} (hP : cutX s sep = some r) : CallOK Tryd.prog 43 [.str s, .str sep] (.tup [.str r.1, .str r.2.1, .bool r.2.2]) [] := by
  unfold cutX at hP
  split at hP
  · rename_i hc
    obtain rfl := Option.some.inj hP
    refine callOK_flat ⟨_, Tryd.func43, rfl, by decide⟩ rfl rfl fun w ⟨m, hm⟩ => ?_
    exact (Any.strings_Cut Tryd.lays145 ⟨s.toArray⟩ ⟨sep.toArray⟩ m w (by simpa [ByteArray.size] using hc) hm).mono fun e w' ⟨he, n, hb⟩ => ⟨by rw [he]; rfl, by rw [hb]; exact drewN_gr w n⟩
  · cases hP
def replX (s old new : List UInt8) : Option (List UInt8) := if s.length ≤ 281474976710656 ∧ old.length = 1 ∧ new.length = 2 ∧ s.length + Lib.countB ⟨s.toArray⟩ ⟨old.toArray⟩ ≤ 281474976710656 then some (Lib.replaceK old new (Lib.countB ⟨s.toArray⟩ ⟨old.toArray⟩) s) else none
theorem replX_ok {s old new r : List UInt8} (hP : replX s old new = some r) : CallOK Tryd.prog 37 [.str s, .str old, .str new] (.str r) [] := by
  unfold replX at hP
  split at hP
  · rename_i hc
    obtain ⟨h1, h2, h3, h4⟩ := hc
    obtain rfl := Option.some.inj hP
    refine callOK_flat ⟨_, Tryd.func37, rfl, by decide⟩ rfl rfl fun w ⟨m, hm⟩ => ?_
    have e1 : (⟨s.toArray⟩ : ByteArray).size = s.length := by simp [ByteArray.size]
    have e2 : (⟨old.toArray⟩ : ByteArray).size = old.length := by simp [ByteArray.size]
    have e3 : (⟨new.toArray⟩ : ByteArray).size = new.length := by simp [ByteArray.size]
    exact (replAll48 Tryd.lays155 Tryd.Builder_Extra_155 ⟨s.toArray⟩ ⟨old.toArray⟩ ⟨new.toArray⟩ m w (by omega) hm (by omega) (fun e => by have := congrArg ByteArray.size e; omega) (by omega) (by omega) (by rw [e1, e3, h3]; omega)).mono fun e w' ⟨he, hb⟩ => ⟨by rw [he]; rfl, Below_gr hb⟩
  · cases hP
/-- room of texts that are joined: no memory is made -/
def szS (n : Nat) : Option Unit := if n ≤ 4611686018427387904 then some () else none
theorem szS_63 {n : Nat} {u : Unit} (h : szS n = some u) : n ≤ 9223372036854775807 := by
  unfold szS at h
  split at h
  · omega
  · cases h
theorem szS_ok {n : Nat} (h : n ≤ 4611686018427387904) : szS n = some () := if_pos h
end Go.Proofs.YteahieldmfehlaaDoor
