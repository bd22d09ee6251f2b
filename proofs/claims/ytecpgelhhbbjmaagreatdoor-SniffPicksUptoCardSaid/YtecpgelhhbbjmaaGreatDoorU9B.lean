/- leaf, plain: bytes read and written. -/
import Derived.Test.YtecpgelhhbbjmaaGreatDoorU9A
namespace Go.Proofs.YtecpgelhhbbjmaaGreatDoor
open Go.Av
set_option linter.unusedVariables false
theorem dec_loop (b : List UInt8) (hl : b.length ≤ 4194304) : ∀ (k i : Nat) (l : List Int), i ≤ b.length → b.length - i < k → l.length = b.length → l.take i = (b.take i).map chT → leaf_Decode_L17 b k (i : Int) l = some (b.map chT)
  | 0, i, l, _, hk, _, _ => by omega
  | k + 1, i, l, hi, hk, hll, ht => by
    simp only [leaf_Decode_L17, decide_eq_true_eq]
    by_cases hlt : i < b.length
    · rw [if_pos (by omega), ixL_in hlt]
      simp only [Option.bind_some, Char_eq]
      rw [ixL_in (by omega)]
      simp only [Option.bind_some, Int.toNat_natCast]
      rw [iadd64 (by omega) (by omega), ← Int.natCast_add_one]
      refine dec_loop b hl k (i + 1) _ (by omega) (by omega) (by simp [hll]) ?_
      rw [List.take_add_one, List.take_add_one, List.map_append, ← ht]
      congr 1
      · exact List.take_set_of_le (Nat.le_refl _)
      · rw [List.getElem?_set_self (by omega), List.getElem?_eq_getElem hlt]; rfl
    · rw [if_neg (by omega)]
      rw [List.take_of_length_le (by omega), List.take_of_length_le (by omega)] at ht
      rw [ht]
theorem Decode9_eq {b : List UInt8} (hl : b.length ≤ 4194304) : leaf_Decode b = some (encL (b.map chT)) := by
  unfold leaf_Decode
  have := dec_loop b hl 1099511627776 0 (List.replicate (Int.toNat (b.length : Int)) 0) (by omega) (by omega) (by simp) (by simp)
  simp only [Int.natCast_zero] at this
  rw [mkC_ok (by omega) (by omega)]
  simp only [Option.bind_some, this]
  rw [Encode_eq (by simpa using hl)]
  rfl
theorem chB3l (c : UInt8) : (chB (chT c)).length ≤ 3 ∧ (b2i c < 128 → chB (chT c) = [c]) ∧ (128 ≤ b2i c → 2 ≤ (chB (chT c)).length) := of_decide_eq_true (all256 (p := fun c => decide ((chB (chT c)).length ≤ 3 ∧ (b2i c < 128 → chB (chT c) = [c]) ∧ (128 ≤ b2i c → 2 ≤ (chB (chT c)).length))) (by kernel_rfl) c)
theorem ref_dec_loop (b : List UInt8) (hl : b.length ≤ 4194304) : ∀ (k i : Nat) (acc : List UInt8), i ≤ b.length → b.length - i < k → acc.length ≤ 3 * i → ref09_Decode_L19 b k (i : Int) acc = some (acc ++ encL ((b.drop i).map chT))
  | 0, i, _, _, hk, _ => by omega
  | k + 1, i, acc, hi, hk, ha => by
    simp only [ref09_Decode_L19, decide_eq_true_eq]
    by_cases hlt : i < b.length
    · have hg := chT_good b[i]
      have h3 := (chB3l b[i]).1
      rw [if_pos (by omega), ixL_in hlt]
      simp only [Option.bind_some, ref_Char9_eq]
      rw [ref_Bytes_eq hg.1 hg.2.1]
      simp only [Option.bind_some]
      rw [szC_ok (by rw [List.length_append]; omega)]
      simp only [Option.bind_some]
      rw [iadd64 (by omega) (by omega), ← Int.natCast_add_one, ref_dec_loop b hl k (i + 1) _ (by omega) (by omega) (by rw [List.length_append]; omega), drop_step hlt, List.map_cons, encL_cons, fixR_id hg, List.append_assoc]
    · rw [if_neg (by omega), List.drop_eq_nil_of_le (by omega)]
      simp [encL]
theorem ref_Decode9_eq {b : List UInt8} (hl : b.length ≤ 4194304) : ref09_Decode b = some (encL (b.map chT)) := by
  unfold ref09_Decode
  have := ref_dec_loop b hl 1099511627776 0 [] (by omega) (by omega) (by simp)
  simp only [Int.natCast_zero, List.drop_zero, List.nil_append] at this
  rw [this]; rfl
end Go.Proofs.YtecpgelhhbbjmaaGreatDoor
