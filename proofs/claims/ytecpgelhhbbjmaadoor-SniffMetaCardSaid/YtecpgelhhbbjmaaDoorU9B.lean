/- leaf, plain: bytes read and written. -/
import Derived.Test.YtecpgelhhbbjmaaDoorU9A
namespace Go.Proofs.YtecpgelhhbbjmaaDoor
open Go.Av
set_option linter.unusedVariables false
theorem dec_loop (b : List UInt8) (hl : b.length ≤ 4194304) : ∀ (k i : Nat) (l : List Int), i ≤ b.length → b.length - i < k → l.length = b.length → l.take i = (b.take i).map chT → leaf_Decode_L17 b k (i : Int) l = some (b.map chT)
  | 0, i, l, _, hk, _, _ => by omega
  | k + 1, i, l, hi, hk, hll, ht => by
    simp only [leaf_Decode_L17, decide_eq_true_eq]
    by_cases hlt : i < b.length
    · rw [if_pos (by omega), ixL_in hlt]
      simp only [Option.bind_some, Char_eq]
      rw [ixL_in (by omega)]
      simp only [Option.bind_some, Int.toNat_natCast]
      rw [iadd64 (by omega) (by omega), ← Int.natCast_add_one]
      refine dec_loop b hl k (i + 1) _ (by omega) (by omega) (by simp [hll]) ?_
      rw [List.take_add_one, List.take_add_one, List.map_append, ← ht]
      congr 1
      · exact List.take_set_of_le (Nat.le_refl _)
      · rw [List.getElem?_set_self (by omega), List.getElem?_eq_getElem hlt]; rfl
    · rw [if_neg (by omega)]
      rw [List.take_of_length_le (by omega), List.take_of_length_le (by omega)] at ht
      rw [ht]
theorem map_good (b : List UInt8) : ∀ x ∈ b.map chT, goodC x := fun x hx => by
  obtain ⟨c, _, rfl⟩ := List.mem_map.1 hx
  exact chT_good c
theorem Decode9_eq {b : List UInt8} (hl : b.length ≤ 4194304) : leaf_Decode b = some (encL (b.map chT)) := by
  unfold leaf_Decode
  have := dec_loop b hl 140737488355328 0 (List.replicate (Int.toNat (b.length : Int)) 0) (by omega) (by omega) (by simp) (by simp)
  simp only [Int.natCast_zero] at this
  rw [mkC_ok (by omega) (by omega)]
  simp only [Option.bind_some, this]
  rw [Encode_eq (by simpa using hl)]
  rfl
theorem chB3l (c : UInt8) : (chB (chT c)).length ≤ 3 ∧ (b2i c < 128 → chB (chT c) = [c]) ∧ (128 ≤ b2i c → 2 ≤ (chB (chT c)).length) := of_decide_eq_true (all256 (p := fun c => decide ((chB (chT c)).length ≤ 3 ∧ (b2i c < 128 → chB (chT c) = [c]) ∧ (128 ≤ b2i c → 2 ≤ (chB (chT c)).length))) (by kernel_rfl) c)
theorem enc3_len : ∀ b : List UInt8, (encL (b.map chT)).length ≤ 3 * b.length ∧ b.length ≤ (encL (b.map chT)).length
  | [] => by simp [encL]
  | c :: b => by
    have h := enc3_len b
    have h3 := (chB3l c).1
    have h1 := (chB_len (chT c)).1
    rw [List.map_cons, encL_cons, fixR_id (chT_good c), List.length_append, List.length_cons]
    omega
end Go.Proofs.YtecpgelhhbbjmaaDoor
