/- The law ChunkWrites, in plain Lean. -/
import Derived.Test.YtfhlehkgiamejaaGreatDoorU7A
import Derived.Test.YtfhlehkgiamejaaGreatDoorU7S
import Derived.Test.YtfhlehkgiamejaaGreatDoorLWrites
import Derived.Test.YtfhlehkgiamejaaGreatDoorRow
namespace Go.Proofs.YtfhlehkgiamejaaGreatDoor
open Go.Av Go.RowKit
set_option linter.unusedVariables false
set_option linter.unusedSimpArgs false
theorem seven_loop1 : ∀ (k i : Nat) (l : List UInt8), l.length - i < k → l.length ≤ 140737488355328 → i ≤ l.length → law07_ChunkWrites_L110 k (i : Int) l = some ()
  | 0, i, l, h, _, _ => by omega
  | k + 1, i, l, h, hl, hi => by
    simp only [law07_ChunkWrites_L110]
    by_cases hlt : i < l.length
    · rw [if_pos (decide_eq_true (by omega)), ixL_in hlt]
      simp only [Option.bind_some]
      rw [iadd64 (by omega) (by omega), show (i : Int) + 1 = ((i + 1 : Nat) : Int) by omega]
      exact seven_loop1 k (i + 1) _ (by simp; omega) (by simpa using hl) (by simp; omega)
    · rw [if_neg (by simp; omega)]
theorem seven_loop2 : ∀ (k i : Nat) (l : List UInt8), l.length - i < k → l.length ≤ 140737488355328 → i ≤ l.length → law07_ChunkWrites_L122 k (i : Int) l = some ()
  | 0, i, l, h, _, _ => by omega
  | k + 1, i, l, h, hl, hi => by
    simp only [law07_ChunkWrites_L122]
    by_cases hlt : i < l.length
    · rw [if_pos (decide_eq_true (by omega)), ixL_in hlt]
      simp only [Option.bind_some]
      rw [iadd64 (by omega) (by omega), show (i : Int) + 1 = ((i + 1 : Nat) : Int) by omega]
      exact seven_loop2 k (i + 1) _ (by simp; omega) (by simpa using hl) (by simp; omega)
    · rw [if_neg (by simp; omega)]
theorem writes_step {b : List UInt8} (h : b.length ≤ 140737488351232) (k : Nat) (i : Int) (hi : i < 2) : law07_ChunkWrites_L85 b true (k + 1) i = law07_ChunkWrites_L85 b true k (iadd .i64 i 1) := by
  have hc := chunk_len h
  simp only [law07_ChunkWrites_L85]
  rw [if_pos (decide_eq_true hi), chunk_eq h, last_eq]
  simp only [Option.bind_some, Bool.not_true, Bool.false_eq_true, if_false]
  rw [ref_chunk_eq h, ref_last_eq]
  simp only [Option.bind_some, decide_true, Bool.not_true, Bool.false_eq_true, if_false]
  have e1 := seven_loop1 140737488355328 0 (chunkT b) (by omega) (by omega) (by omega)
  have e2 := seven_loop2 140737488355328 0 lastT (by decide) (by decide) (by decide)
  rw [show ((0 : Nat) : Int) = 0 from rfl] at e1 e2
  rw [e1, e2]
  rfl
theorem law_ChunkWrites_all (b : List UInt8) (_hb : ∀ x ∈ b, True) (hb : b.length * 1 ≤ 140737488351232 ∧ ∀ x ∈ b, True) : law07_ChunkWrites b = some true := by
  have hl : b.length ≤ 140737488351232 := by have := hb.1; omega
  unfold law07_ChunkWrites
  rw [shown07]
  simp only [Option.bind_some]
  rw [show (140737488355328 : Nat) = 140737488355325 + 1 + 1 + 1 from rfl, writes_step hl _ _ (by decide), writes_step hl _ _ (by decide)]
  rfl
end Go.Proofs.YtfhlehkgiamejaaGreatDoor
