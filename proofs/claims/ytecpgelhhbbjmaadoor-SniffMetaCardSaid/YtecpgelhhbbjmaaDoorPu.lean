/- Plain laws of the things that pure functions are made of. -/
import Derived.Test.YtecpgelhhbbjmaaDoorFwC
namespace Go.Av
theorem wrap64 {z : Int} (h0 : -9223372036854775808 ≤ z) (h1 : z ≤ 9223372036854775807) : IntKind.i64.wrap z = z := wrap_inR (k := .i64) ⟨h0, h1⟩
theorem iadd64 {a b : Int} (h0 : -9223372036854775808 ≤ a + b) (h1 : a + b ≤ 9223372036854775807) : iadd .i64 a b = a + b := wrap64 h0 h1
theorem isub64 {a b : Int} (h0 : -9223372036854775808 ≤ a - b) (h1 : a - b ≤ 9223372036854775807) : isub .i64 a b = a - b := wrap64 h0 h1
theorem imul64 {a b : Int} (h0 : -9223372036854775808 ≤ a * b) (h1 : a * b ≤ 9223372036854775807) : imul .i64 a b = a * b := wrap64 h0 h1
theorem irem_eq {a b : Int} (h0 : 0 ≤ a) : irem a b = a % b := Int.tmod_eq_emod_of_nonneg h0
theorem icv_id {k k' : IntKind} {n : Int} (h : inR k' n) : icv k k' n = n := wrap_inR h
theorem szC_ok {n : Nat} (h : n ≤ 140737488355328) : szC n = some () := if_pos h
theorem chk_ok {b : Bool} (h : b = true) : chk b = some () := if_pos h
theorem mkC_ok {n : Int} (h0 : 0 ≤ n) (h : n ≤ 1099511627776) : mkC n = some () := if_pos ⟨h0, h⟩
theorem ixL_nat {α : Type} (xs : List α) (i : Nat) : ixL xs (i : Int) = xs[i]? := by
  unfold ixL; rw [if_pos (by omega), Int.toNat_natCast]
theorem ixL_in {α : Type} {xs : List α} {i : Nat} (h : i < xs.length) : ixL xs (i : Int) = some xs[i] := by rw [ixL_nat, List.getElem?_eq_getElem h]
theorem slL_nat {α : Type} {xs : List α} {a b : Nat} (h : a ≤ b) (hb : b ≤ xs.length) : slL xs (a : Int) (b : Int) = some ((xs.take b).drop a) := by
  unfold slL; rw [if_pos (by omega), Int.toNat_natCast, Int.toNat_natCast]
theorem slL_to {α : Type} {xs : List α} {b : Nat} (hb : b ≤ xs.length) : slL xs 0 (b : Int) = some (xs.take b) := by
  have := slL_nat (xs := xs) (Nat.zero_le b) hb
  simpa using this
theorem slL_from {α : Type} {xs : List α} {a : Nat} (ha : a ≤ xs.length) : slL xs (a : Int) (xs.length : Int) = some (xs.drop a) := by
  rw [slL_nat ha (Nat.le_refl _), List.take_length]
theorem b2i_nonneg (b : UInt8) : 0 ≤ b2i b := by unfold b2i; omega
theorem b2i_lt (b : UInt8) : b2i b < 256 := by have := b.toNat_lt; unfold b2i; omega
theorem b2i_inj {a b : UInt8} : b2i a = b2i b ↔ a = b := by
  unfold b2i
  constructor
  · intro h; exact UInt8.toNat_inj.1 (by omega)
  · rintro rfl; rfl
theorem b2i_bC (n : Nat) : b2i (bC n) = ((n % 256 : Nat) : Int) := by unfold b2i bC; rw [UInt8.toNat_ofNat']
theorem b2i_toB (n : Int) : b2i (toB n) = n % 256 := by unfold b2i toB; rw [UInt8.toNat_ofNat']; omega
theorem toB_b2i (b : UInt8) : toB (b2i b) = b := b2i_inj.1 (by rw [b2i_toB]; have := b2i_lt b; have := b2i_nonneg b; omega)
theorem toB_nat (n : Nat) (h : n < 256) : toB (n : Int) = UInt8.ofNat n := by unfold toB; congr 1; omega
theorem and63 (x : UInt8) : x &&& bC 63 = UInt8.ofNat (x.toNat % 64) := by
  have : ∀ n : _root_.Fin 256, UInt8.ofNat n.val &&& bC 63 = UInt8.ofNat ((UInt8.ofNat n.val).toNat % 64) := by decide +kernel
  have := this ⟨x.toNat, x.toNat_lt⟩
  simpa using this
theorem or128 (n : Nat) (h : n < 64) : bC 128 ||| UInt8.ofNat n = UInt8.ofNat (128 + n) := by
  have : ∀ n : _root_.Fin 64, bC 128 ||| UInt8.ofNat n.val = UInt8.ofNat (128 + n.val) := by decide +kernel
  exact this ⟨n, h⟩
theorem or192 (n : Nat) (h : n < 32) : bC 192 ||| UInt8.ofNat n = UInt8.ofNat (192 + n) := by
  have : ∀ n : _root_.Fin 32, bC 192 ||| UInt8.ofNat n.val = UInt8.ofNat (192 + n.val) := by decide +kernel
  exact this ⟨n, h⟩
theorem or224 (n : Nat) (h : n < 16) : bC 224 ||| UInt8.ofNat n = UInt8.ofNat (224 + n) := by
  have : ∀ n : _root_.Fin 16, bC 224 ||| UInt8.ofNat n.val = UInt8.ofNat (224 + n.val) := by decide +kernel
  exact this ⟨n, h⟩
theorem or240 (n : Nat) (h : n < 8) : bC 240 ||| UInt8.ofNat n = UInt8.ofNat (240 + n) := by
  have : ∀ n : _root_.Fin 8, bC 240 ||| UInt8.ofNat n.val = UInt8.ofNat (240 + n.val) := by decide +kernel
  exact this ⟨n, h⟩
theorem ishr32 {a : Int} {n : Nat} (h0 : 0 ≤ a) (hn : n ≤ 32) : ishr .i32 a (n : Int) = a / 2 ^ n := by
  unfold ishr
  rw [Int.toNat_natCast, show min n IntKind.i32.bits = n from Nat.min_eq_left hn, Int.fdiv_eq_ediv_of_nonneg _ (Int.pow_nonneg (by decide))]
end Go.Av
