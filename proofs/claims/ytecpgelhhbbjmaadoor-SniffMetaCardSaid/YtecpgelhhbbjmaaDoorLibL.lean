/- Functions of package strings, told as contracts of Av: by the shelf's contracts. -/
import Derived.Test.YtecpgelhhbbjmaaDoorLibF
import Derived.Test.YtecpgelhhbbjmaaDoorShA
import Derived.Test.YtecpgelhhbbjmaaDoorBls
namespace Go.Proofs.YtecpgelhhbbjmaaDoor
open Go.Av Go.RowKit
theorem drewN_gr (w : World) (n : Nat) : Gr w (w.drewN n) := by
  induction n with
  | zero => exact Gr.refl w
  | succ n ih => exact ih.trans (Gr.drew _)
def asciiB (s : List UInt8) : Bool := s.all fun b => decide (b.toNat < 128)
def trimX (s cut : List UInt8) : Option (List UInt8) := if asciiB cut = true ∧ cut.length < 4294967281 ∧ s.length ≤ 9223372036854775807 then some (Lib.trimS s cut) else none
theorem trimX_ok {s cut r : List UInt8} (hP : trimX s cut = some r) : CallOK Tryd.prog 43 [.str s, .str cut] (.str r) [] := by
  unfold trimX at hP
  split at hP
  · rename_i hc
    obtain ⟨h1, h2, h3⟩ := hc
    obtain rfl := Option.some.inj hP
    refine callOK_flat ⟨_, Tryd.func43, rfl, by decide⟩ rfl rfl fun w _ => ?_
    exact (Any.strings_Trim_laid Tryd.lays160 (by kernel_rfl) ⟨s.toArray⟩ ⟨cut.toArray⟩ w (by simpa [ByteArray.size] using h3) (by simpa [ByteArray.size] using h2) (ascii_of_all (by simpa [asciiB] using h1))).mono fun e w' ⟨he, hb⟩ => ⟨by rw [he]; rfl, Below_gr hb⟩
  · cases hP
def trimLeftX (s cut : List UInt8) : Option (List UInt8) := if asciiB cut = true ∧ cut.length < 4294967281 then some (Lib.trimLeftS s cut) else none
theorem trimLeftX_ok {s cut r : List UInt8} (hP : trimLeftX s cut = some r) : CallOK Tryd.prog 29 [.str s, .str cut] (.str r) [] := by
  unfold trimLeftX at hP
  split at hP
  · rename_i hc
    obtain ⟨h1, h2⟩ := hc
    obtain rfl := Option.some.inj hP
    refine callOK_flat ⟨_, Tryd.func29, rfl, by decide⟩ rfl rfl fun w _ => ?_
    exact (Any.strings_TrimLeft_laid Tryd.lays161 (by kernel_rfl) ⟨s.toArray⟩ ⟨cut.toArray⟩ w (by simpa [ByteArray.size] using h2) (ascii_of_all (by simpa [asciiB] using h1))).mono fun e w' ⟨he, hb⟩ => ⟨by rw [he]; rfl, Below_gr hb⟩
  · cases hP
def indexAnyX (s cut : List UInt8) : Option Int := if asciiB cut = true ∧ 2 ≤ cut.length ∧ cut.length < 4294967281 ∧ s.length < 4294967281 ∧ (8 < s.length ∨ asciiB s = true) then some (Lib.indexAny s cut) else none
theorem indexAnyX_ok {s cut : List UInt8} {r : Int} (hP : indexAnyX s cut = some r) : CallOK Tryd.prog 31 [.str s, .str cut] (.int .i64 r) [] := by
  unfold indexAnyX at hP
  split at hP
  · rename_i hc
    obtain ⟨h1, h0, h2, h3, h4⟩ := hc
    obtain rfl := Option.some.inj hP
    refine callOK_flat ⟨_, Tryd.func31, rfl, by decide⟩ rfl rfl fun w _ => ?_
    have h116 : (Tryd.prog.info? (Tryd.lays153_ren.t 116)).map (fun i => (i.zero, i.size)) = some (some (.agg (Array.replicate 256 (.bool false))), 256) := by kernel_rfl
    rcases h4 with h4 | h4
    · exact (Any.strings_IndexAny_long Tryd.lays153 (zero_of_info h116).1 (zero_of_info h116).2 ⟨s.toArray⟩ ⟨cut.toArray⟩ w (by simpa [ByteArray.size] using h0) (by simpa [ByteArray.size] using h4) (by simpa [ByteArray.size] using h3) (by simpa [ByteArray.size] using h2) (ascii_of_all (by simpa [asciiB] using h1))).mono fun e w' ⟨he, hb⟩ => ⟨by rw [he]; rfl, by rw [hb]; exact Below_gr (((Below.refl _ _).alloc (Nat.le_refl _) _).alloc (by simp) _)⟩
    · exact (Any.strings_IndexAny_laid Tryd.lays153 (by kernel_rfl) ⟨s.toArray⟩ ⟨cut.toArray⟩ w (by simpa [ByteArray.size] using h3) (by simpa [ByteArray.size] using h2) (ascii_of_all (by simpa [asciiB] using h4)) (ascii_of_all (by simpa [asciiB] using h1))).mono fun e w' ⟨he, hb⟩ => ⟨by rw [he]; rfl, Below_gr hb⟩
  · cases hP
def indexByteX (s : List UInt8) (c : UInt8) : Option Int := some (Lib.indexByte s c)
theorem indexByteX_ok {s : List UInt8} {c : UInt8} {r : Int} (hP : indexByteX s c = some r) : CallOK Tryd.prog 84 [.str s, .int .u8 (b2i c)] (.int .i64 r) [] := by
  obtain rfl := Option.some.inj hP
  refine callOK_flat ⟨_, Tryd.func84, rfl, by decide⟩ rfl rfl fun w _ => ?_
  exact (Any.strings_IndexByte Tryd.lays137 ⟨s.toArray⟩ (b2i c) w).mono fun e w' ⟨he, hb⟩ => ⟨by rw [he]; unfold b2i; simp [flatV], by rw [hb]; exact Gr.refl w⟩
def cutX (s sep : List UInt8) : Option (List UInt8 × List UInt8 × Bool) := if s.length < 4294967281 then some (Lib.cut s sep) else none
theorem cutX_ok {s sep : List UInt8} {r : List UInt8 × List UInt8 × Bool} (hP : cutX s sep = some r) : CallOK Tryd.prog 30 [.str s, .str sep] (.tup [.str r.1, .str r.2.1, .bool r.2.2]) [] := by
  unfold cutX at hP
  split at hP
  · rename_i hc
    obtain rfl := Option.some.inj hP
    refine callOK_flat ⟨_, Tryd.func30, rfl, by decide⟩ rfl rfl fun w ⟨⟨m, hm⟩, _⟩ => ?_
    exact (Any.strings_Cut Tryd.lays145 ⟨s.toArray⟩ ⟨sep.toArray⟩ m w (by simpa [ByteArray.size] using hc) hm).mono fun e w' ⟨he, n, hb⟩ => ⟨by rw [he]; rfl, by rw [hb]; exact drewN_gr w n⟩
  · cases hP
end Go.Proofs.YtecpgelhhbbjmaaDoor
