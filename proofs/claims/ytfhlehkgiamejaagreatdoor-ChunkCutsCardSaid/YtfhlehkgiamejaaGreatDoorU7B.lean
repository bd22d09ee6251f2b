/- Bodies of a length, and those that end with the connection: what their readers take. -/
import Derived.Test.YtfhlehkgiamejaaGreatDoorLPlain
import Derived.Test.YtfhlehkgiamejaaGreatDoorRow
import Derived.Test.YtfhlehkgiamejaaGreatDoorPu
namespace Go.Proofs.YtfhlehkgiamejaaGreatDoor
open Go.Av Go.RowKit
set_option linter.unusedVariables false
set_option linter.unusedSimpArgs false
set_option maxRecDepth 100000
theorem drop_at {b : List UInt8} {n : Nat} (h : n < b.length) : b.drop n = b[n] :: b.drop (n + 1) := List.drop_eq_getElem_cons h
/-- a body of N bytes -/
theorem len_loop (b : List UInt8) (N : Nat) (hN : N ≤ 8192) (hb : b.length ≤ 1048576) : ∀ (k n a : Nat) (out : List UInt8), n ≤ b.length → b.length - n < k → a ≤ N → out.length ≤ n →
    chunk_Reader_Take_w2_L63 b 0 (N : Int) k (n : Int) (a : Int) (decide (a = N)) out = some (((n + min (b.length - n) (N - a) : Nat) : Int), ((a + min (b.length - n) (N - a) : Nat) : Int), decide (a + min (b.length - n) (N - a) = N), out ++ (b.drop n).take (min (b.length - n) (N - a)))
  | 0, n, a, out, _, hk, _, _ => by omega
  | k + 1, n, a, out, hn, hk, ha, ho => by
    simp only [chunk_Reader_Take_w2_L63]
    by_cases hlt : n < b.length
    · rw [if_pos (decide_eq_true (by omega))]
      by_cases hd : a = N
      · subst hd
        simp
      · rw [decide_eq_false hd]
        simp only [Bool.not_false, if_true, decide_true, Option.bind_some]
        rw [ixL_in hlt]
        simp only [Option.bind_some]
        have e1 : chunk_length_one (N : Int) b[n] (N : Int) (a : Int) false 0 out = some () := by
          unfold chunk_length_one chunk_Reader_means_w2
          rw [szC_ok (by simp; omega)]
          rfl
        rw [e1]
        simp only [Option.bind_some]
        rw [iadd64 (by omega) (by omega), iadd64 (by omega) (by omega), show (n : Int) + 1 = ((n + 1 : Nat) : Int) by omega, show (a : Int) + 1 = ((a + 1 : Nat) : Int) by omega,
          show decide (((a + 1 : Nat) : Int) = (N : Int)) = decide (a + 1 = N) from decide_eq_decide.2 (by omega), len_loop b N hN hb k (n + 1) (a + 1) (out ++ [b[n]]) hlt (by omega) (by omega) (by simp; omega)]
        have em : min (b.length - n) (N - a) = min (b.length - (n + 1)) (N - (a + 1)) + 1 := by omega
        rw [em, drop_at hlt, List.take_succ_cons]
        simp only [Option.some.injEq, Prod.mk.injEq]
        refine ⟨by omega, by omega, decide_eq_decide.2 (by omega), by simp⟩
    · rw [if_neg (by simp; omega)]
      have : b.length - n = 0 := by omega
      simp [this]
/-- a body that ends with the connection -/
theorem open_stop (b : List UInt8) (k : Nat) (n a : Int) (out : List UInt8) : chunk_Reader_Take_w3_L62 b false (k + 1) n a 23 out = some (n, a, 23, out) := by
  simp only [chunk_Reader_Take_w3_L62]
  split <;> simp
theorem open_loop (b : List UInt8) (hb : b.length ≤ 1048576) : ∀ (k n a : Nat) (out : List UInt8), n ≤ b.length → b.length - n < k → a ≤ 8192 → out.length ≤ n →
    chunk_Reader_Take_w3_L62 b false k (n : Int) (a : Int) 0 out = some (if b.length - n ≤ 8192 - a then ((b.length : Int), ((a + (b.length - n) : Nat) : Int), 0, out ++ b.drop n) else (((n + (8192 - a) + 1 : Nat) : Int), 8192, 23, out ++ (b.drop n).take (8192 - a)))
  | 0, n, a, out, _, hk, _, _ => by omega
  | k + 1, n, a, out, hn, hk, ha, ho => by
    simp only [chunk_Reader_Take_w3_L62]
    by_cases hlt : n < b.length
    · rw [if_pos (decide_eq_true (by omega))]
      simp only [Bool.not_false, if_true, decide_true, Option.bind_some]
      rw [ixL_in hlt]
      simp only [Option.bind_some]
      rw [iadd64 (by omega) (by omega), show (n : Int) + 1 = ((n + 1 : Nat) : Int) by omega]
      by_cases hf : a = 8192
      · subst hf
        have e1 : chunk_open_one b[n] ((8192 : Nat) : Int) false 0 out = some (8192, 23, out) := by
          unfold chunk_open_one; rw [if_pos (by decide)]; rfl
        rw [e1]
        simp only [Option.bind_some]
        obtain ⟨k', rfl⟩ : ∃ k', k = k' + 1 := ⟨k - 1, by omega⟩
        rw [open_stop, if_neg (by omega)]
        simp
      · have e1 : chunk_open_one b[n] (a : Int) false 0 out = some (((a + 1 : Nat) : Int), 0, out ++ [b[n]]) := by
          unfold chunk_open_one chunk_Reader_means_w3
          rw [if_neg (by simp; omega), szC_ok (by simp; omega), iadd64 (by omega) (by omega)]
          rfl
        rw [e1]
        simp only [Option.bind_some]
        rw [open_loop b hb k (n + 1) (a + 1) (out ++ [b[n]]) hlt (by omega) (by omega) (by simp; omega)]
        by_cases hq : b.length - n ≤ 8192 - a
        · rw [if_pos (by omega), if_pos hq, drop_at hlt]
          simp
          omega
        · rw [if_neg (by omega), if_neg hq, drop_at hlt, show 8192 - a = 8192 - (a + 1) + 1 by omega, List.take_succ_cons]
          simp
          omega
    · rw [if_neg (by simp; omega)]
      have : b.length - n = 0 := by omega
      have hd : b.drop n = [] := List.drop_eq_nil_of_le (by omega)
      simp only [Option.bind_some, Bool.false_eq_true, if_false]
      rw [if_pos (by omega), hd]
      simp
      omega
/-- no body -/
theorem none_loop (b : List UInt8) (k : Nat) : chunk_Reader_Take_w4_L38 b true 0 0 (k + 1) 0 = some 0 := by
  simp only [chunk_Reader_Take_w4_L38]
  split <;> rfl
theorem none_take (b : List UInt8) : chunk_Reader_Take_w4 b 0 true 0 [] = some 0 := by
  unfold chunk_Reader_Take_w4
  rw [none_loop b 1099511627775]
  rfl
end Go.Proofs.YtfhlehkgiamejaaGreatDoor
