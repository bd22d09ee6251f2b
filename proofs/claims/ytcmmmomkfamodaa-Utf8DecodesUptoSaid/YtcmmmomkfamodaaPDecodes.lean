/- Utf8Decodes, plain. -/
import Derived.Test.YtcmmmomkfamodaaU8X
import Derived.Test.YtcmmmomkfamodaaLDecodes
namespace Go.Proofs.Ytcmmmomkfamodaa
open Go.Av
theorem blank_loop : ∀ (k i : Nat) (l : List Int), l.length ≤ 4194304 → i ≤ l.length → l.length - i < k → law08_Utf8Decodes_L42 k (i : Int) l = some ()
  | 0, i, l, _, _, h => by omega
  | k + 1, i, l, hl, hi, hk => by
    simp only [law08_Utf8Decodes_L42, decide_eq_true_eq]
    by_cases hlt : i < l.length
    · rw [if_pos (by omega), ixL_in hlt, iadd64 (by omega) (by omega), ← Int.natCast_add_one]
      simp only [Option.bind_some]
      exact blank_loop k (i + 1) _ (by rw [List.length_set]; omega) (by rw [List.length_set]; omega) (by rw [List.length_set]; omega)
    · rw [if_neg (by omega)]
theorem law_Utf8Decodes (b : List UInt8) (_hv : ∀ x ∈ b, True) (hb : sumM (fun _ => 1) b + 1 ≤ 1048576) : law08_Utf8Decodes b = some true := by
  rw [sum_one] at hb
  have h1 := runesT_len _ b (Nat.le_refl _)
  have hs : slL (b ++ [bC 191]) 0 (b.length : Int) = some b := by rw [slL_to (by simp), List.take_left]
  have hs1 : slL (b ++ [bC 191]) 0 ((b.length : Int) + 1) = some (b ++ [bC 191]) := by
    rw [← Int.natCast_add_one, slL_to (by simp), List.take_of_length_le (by simp)]
  have hx : ixL (b ++ [bC 191]) (b.length : Int) = some (bC 191) := by rw [ixL_nat]; simp
  have hk := blank_loop 1099511627776 0 (runesT b) (by omega) (by omega) (by omega)
  simp only [Int.natCast_zero] at hk
  unfold law08_Utf8Decodes
  rw [shown_true, szC_ok (by omega), szC_ok (by rw [List.length_append]; simp only [List.length_cons, List.length_nil]; omega), iadd64 (by omega) (by omega)]
  simp only [Option.bind_some, hs, hs1, hx, Decode_eq (show b.length ≤ 4194304 by omega), Runes_eq (show b.length ≤ 4194304 by omega), Fault_eq (show b.length ≤ 4194304 by omega), ref_Runes_eq (show b.length ≤ 4194304 by omega), ref_Decode_eq (show b.length ≤ 4194304 by omega), ref_Fault_eq (show b.length ≤ 4194304 by omega), hk, runes_eq (show (runesT b).length ≤ 4194304 by omega) (show (runesT b).length ≤ 4194304 by omega)]
  simp
end Go.Proofs.Ytcmmmomkfamodaa
