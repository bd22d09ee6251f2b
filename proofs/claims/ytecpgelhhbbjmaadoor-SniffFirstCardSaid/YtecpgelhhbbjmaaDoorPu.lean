/- Plain laws of the things that pure functions are made of. -/
import Derived.Test.YtecpgelhhbbjmaaDoorFwC
namespace Go.Av
theorem wrap64 {z : Int} (h0 : -9223372036854775808 ≤ z) (h1 : z ≤ 9223372036854775807) : IntKind.i64.wrap z = z := wrap_inR (k := .i64) ⟨h0, h1⟩
theorem iadd64 {a b : Int} (h0 : -9223372036854775808 ≤ a + b) (h1 : a + b ≤ 9223372036854775807) : iadd .i64 a b = a + b := wrap64 h0 h1
theorem szC_ok {n : Nat} (h : n ≤ 140737488355328) : szC n = some () := if_pos h
theorem ixL_nat {α : Type} (xs : List α) (i : Nat) : ixL xs (i : Int) = xs[i]? := by
  unfold ixL; rw [if_pos (by omega), Int.toNat_natCast]
theorem ixL_in {α : Type} {xs : List α} {i : Nat} (h : i < xs.length) : ixL xs (i : Int) = some xs[i] := by rw [ixL_nat, List.getElem?_eq_getElem h]
theorem slL_nat {α : Type} {xs : List α} {a b : Nat} (h : a ≤ b) (hb : b ≤ xs.length) : slL xs (a : Int) (b : Int) = some ((xs.take b).drop a) := by
  unfold slL; rw [if_pos (by omega), Int.toNat_natCast, Int.toNat_natCast]
theorem slL_to {α : Type} {xs : List α} {b : Nat} (hb : b ≤ xs.length) : slL xs 0 (b : Int) = some (xs.take b) := by
  have := slL_nat (xs := xs) (Nat.zero_le b) hb
  simpa using this
theorem slL_from {α : Type} {xs : List α} {a : Nat} (ha : a ≤ xs.length) : slL xs (a : Int) (xs.length : Int) = some (xs.drop a) := by
  rw [slL_nat ha (Nat.le_refl _), List.take_length]
theorem b2i_nonneg (b : UInt8) : 0 ≤ b2i b := by unfold b2i; omega
theorem b2i_lt (b : UInt8) : b2i b < 256 := by have := b.toNat_lt; unfold b2i; omega
theorem b2i_inj {a b : UInt8} : b2i a = b2i b ↔ a = b := by
  unfold b2i
  constructor
  · intro h; exact UInt8.toNat_inj.1 (by omega)
  · rintro rfl; rfl
theorem b2i_toB (n : Int) : b2i (toB n) = n % 256 := by unfold b2i toB; rw [UInt8.toNat_ofNat']; omega
theorem toB_b2i (b : UInt8) : toB (b2i b) = b := b2i_inj.1 (by rw [b2i_toB]; have := b2i_lt b; have := b2i_nonneg b; omega)
end Go.Av
