/- The law ChunkPlain, in plain Lean. -/
import Derived.Test.YtfhlehkgiamejaaGreatDoorU7S
import Derived.Test.YtfhlehkgiamejaaGreatDoorLPlain
import Derived.Test.YtfhlehkgiamejaaGreatDoorRow
import Derived.Test.YtfhlehkgiamejaaGreatDoorPu
namespace Go.Proofs.YtfhlehkgiamejaaGreatDoor
open Go.Av Go.RowKit
set_option linter.unusedVariables false
set_option linter.unusedSimpArgs false
set_option maxRecDepth 100000
theorem sum_one7 : ∀ l : List UInt8, sumM (fun _ => 1) l = l.length
  | [] => rfl
  | a :: r => by simp [sumM, sum_one7 r]; omega
theorem drop_at {b : List UInt8} {n : Nat} (h : n < b.length) : b.drop n = b[n] :: b.drop (n + 1) := List.drop_eq_getElem_cons h
/-- a body of N bytes -/
theorem len_loop (b : List UInt8) (N : Nat) (hN : N ≤ 8192) (hb : b.length ≤ 1048576) : ∀ (k n a : Nat) (out : List UInt8), n ≤ b.length → b.length - n < k → a ≤ N → out.length ≤ n →
    chunk_Reader_Take_w2_L63 b 0 (N : Int) k (n : Int) (a : Int) (decide (a = N)) out = some (((n + min (b.length - n) (N - a) : Nat) : Int), ((a + min (b.length - n) (N - a) : Nat) : Int), decide (a + min (b.length - n) (N - a) = N), out ++ (b.drop n).take (min (b.length - n) (N - a)))
  | 0, n, a, out, _, hk, _, _ => by omega
  | k + 1, n, a, out, hn, hk, ha, ho => by
    simp only [chunk_Reader_Take_w2_L63]
    by_cases hlt : n < b.length
    · rw [if_pos (decide_eq_true (by omega))]
      by_cases hd : a = N
      · subst hd
        simp
      · rw [decide_eq_false hd]
        simp only [Bool.not_false, if_true, decide_true, Option.bind_some]
        rw [ixL_in hlt]
        simp only [Option.bind_some]
        have e1 : chunk_length_one (N : Int) b[n] (N : Int) (a : Int) false 0 out = some () := by
          unfold chunk_length_one chunk_Reader_means_w2
          rw [szC_ok (by simp; omega)]
          rfl
        rw [e1]
        simp only [Option.bind_some]
        rw [iadd64 (by omega) (by omega), iadd64 (by omega) (by omega), show (n : Int) + 1 = ((n + 1 : Nat) : Int) by omega, show (a : Int) + 1 = ((a + 1 : Nat) : Int) by omega,
          show decide (((a + 1 : Nat) : Int) = (N : Int)) = decide (a + 1 = N) from decide_eq_decide.2 (by omega), len_loop b N hN hb k (n + 1) (a + 1) (out ++ [b[n]]) hlt (by omega) (by omega) (by simp; omega)]
        have em : min (b.length - n) (N - a) = min (b.length - (n + 1)) (N - (a + 1)) + 1 := by omega
        rw [em, drop_at hlt, List.take_succ_cons]
        simp only [Option.some.injEq, Prod.mk.injEq]
        refine ⟨by omega, by omega, decide_eq_decide.2 (by omega), by simp⟩
    · rw [if_neg (by simp; omega)]
      have : b.length - n = 0 := by omega
      simp [this]
/-- a body that ends with the connection -/
theorem open_stop (b : List UInt8) (k : Nat) (n a : Int) (out : List UInt8) : chunk_Reader_Take_w3_L62 b false (k + 1) n a 23 out = some (n, a, 23, out) := by
  simp only [chunk_Reader_Take_w3_L62]
  split <;> simp
theorem open_loop (b : List UInt8) (hb : b.length ≤ 1048576) : ∀ (k n a : Nat) (out : List UInt8), n ≤ b.length → b.length - n < k → a ≤ 8192 → out.length ≤ n →
    chunk_Reader_Take_w3_L62 b false k (n : Int) (a : Int) 0 out = some (if b.length - n ≤ 8192 - a then ((b.length : Int), ((a + (b.length - n) : Nat) : Int), 0, out ++ b.drop n) else (((n + (8192 - a) + 1 : Nat) : Int), 8192, 23, out ++ (b.drop n).take (8192 - a)))
  | 0, n, a, out, _, hk, _, _ => by omega
  | k + 1, n, a, out, hn, hk, ha, ho => by
    simp only [chunk_Reader_Take_w3_L62]
    by_cases hlt : n < b.length
    · rw [if_pos (decide_eq_true (by omega))]
      simp only [Bool.not_false, if_true, decide_true, Option.bind_some]
      rw [ixL_in hlt]
      simp only [Option.bind_some]
      rw [iadd64 (by omega) (by omega), show (n : Int) + 1 = ((n + 1 : Nat) : Int) by omega]
      by_cases hf : a = 8192
      · subst hf
        have e1 : chunk_open_one b[n] ((8192 : Nat) : Int) false 0 out = some (8192, 23, out) := by
          unfold chunk_open_one; rw [if_pos (by decide)]; rfl
        rw [e1]
        simp only [Option.bind_some]
        obtain ⟨k', rfl⟩ : ∃ k', k = k' + 1 := ⟨k - 1, by omega⟩
        rw [open_stop, if_neg (by omega)]
        simp
      · have e1 : chunk_open_one b[n] (a : Int) false 0 out = some (((a + 1 : Nat) : Int), 0, out ++ [b[n]]) := by
          unfold chunk_open_one chunk_Reader_means_w3
          rw [if_neg (by simp; omega), szC_ok (by simp; omega), iadd64 (by omega) (by omega)]
          rfl
        rw [e1]
        simp only [Option.bind_some]
        rw [open_loop b hb k (n + 1) (a + 1) (out ++ [b[n]]) hlt (by omega) (by omega) (by simp; omega)]
        by_cases hq : b.length - n ≤ 8192 - a
        · rw [if_pos (by omega), if_pos hq, drop_at hlt]
          simp
          omega
        · rw [if_neg (by omega), if_neg hq, drop_at hlt, show 8192 - a = 8192 - (a + 1) + 1 by omega, List.take_succ_cons]
          simp
          omega
    · rw [if_neg (by simp; omega)]
      have : b.length - n = 0 := by omega
      have hd : b.drop n = [] := List.drop_eq_nil_of_le (by omega)
      simp only [Option.bind_some, Bool.false_eq_true, if_false]
      rw [if_pos (by omega), hd]
      simp
      omega
/-- no body -/
theorem none_loop (b : List UInt8) (k : Nat) : chunk_Reader_Take_w4_L38 b true 0 0 (k + 1) 0 = some 0 := by
  simp only [chunk_Reader_Take_w4_L38]
  split <;> rfl
theorem none_take (b : List UInt8) : chunk_Reader_Take_w4 b 0 true 0 [] = some 0 := by
  unfold chunk_Reader_Take_w4
  rw [none_loop b 1099511627775]
  rfl
theorem law_ChunkPlain_all (b : List UInt8) (n : Int) (_hb : ∀ x ∈ b, True) (hn : inR .i64 n) : law07_ChunkPlain b n = some true := by
  unfold law07_ChunkPlain
  rw [shown07]
  simp only [Option.bind_some]
  by_cases h0 : n < 0
  · rw [decide_eq_true h0]; rfl
  rw [decide_eq_false h0]
  by_cases h1 : 8192 < n
  · rw [decide_eq_true h1]; rfl
  rw [decide_eq_false h1]
  by_cases h2 : 20000 < (b.length : Int)
  · rw [decide_eq_true h2]; rfl
  rw [decide_eq_false h2]
  have hl : b.length ≤ 1048576 := by omega
  show (chunk_New_w3 n).bind _ = _
  obtain ⟨N, rfl⟩ : ∃ N : Nat, n = (N : Int) := ⟨n.toNat, by omega⟩
  have eN : chunk_New_w3 (N : Int) = some (Sum.inr ()) := by
    unfold chunk_New_w3
    rw [decide_eq_false h0, decide_eq_false h1]; rfl
  rw [eN]
  show (chunk_Reader_Take_w2 b (N : Int) 0 (decide ((N : Int) = 0)) 0 []).bind _ = _
  have eL : chunk_Reader_Take_w2 b (N : Int) 0 (decide ((N : Int) = 0)) 0 [] = some (((min b.length N : Nat) : Int), ((min b.length N : Nat) : Int), decide (min b.length N = N), b.take (min b.length N)) := by
    unfold chunk_Reader_Take_w2
    have := len_loop b N (by omega) hl 1099511627776 0 0 [] (by omega) (by omega) (by omega) (by simp)
    simp only [Nat.sub_zero, Nat.zero_add, List.drop_zero, List.nil_append] at this
    rw [show decide ((N : Int) = 0) = decide (0 = N) from decide_eq_decide.2 (by omega), show (0 : Int) = ((0 : Nat) : Int) from rfl]
    rw [show (((0 : Nat) : Int)) = 0 from rfl] at this ⊢
    rw [this]
    rfl
  have eO : chunk_Reader_Take_w3 b 0 false 0 [] = some (if b.length ≤ 8192 then ((b.length : Int), (b.length : Int), 0, b) else (8193, 8192, 23, b.take 8192)) := by
    unfold chunk_Reader_Take_w3
    have := open_loop b hl 1099511627776 0 0 [] (by omega) (by omega) (by omega) (by simp)
    simp only [Nat.sub_zero, Nat.zero_add, List.drop_zero, List.nil_append] at this
    rw [show (((0 : Nat) : Int)) = 0 from rfl] at this
    rw [this]
    split <;> rfl
  rw [eL, eO, none_take]
  simp only [Option.bind_some]
  have hj : (if decide ((N : Int) < (b.length : Int)) = true then some (N : Int) else some (b.length : Int)) = some ((min b.length N : Nat) : Int) := by
    by_cases h : (N : Int) < (b.length : Int)
    · rw [if_pos (decide_eq_true h)]; congr 1; omega
    · rw [if_neg (by simpa using h)]; congr 1; omega
  rw [hj]
  simp only [Option.bind_some]
  rw [slL_to (Nat.min_le_left _ _)]
  have hd : decide (((min b.length N : Nat) : Int) = (N : Int)) = decide (min b.length N = N) := decide_eq_decide.2 (by omega)
  have hlt : decide (((min b.length N : Nat) : Int) < (N : Int)) = !decide (min b.length N = N) := by
    by_cases h : min b.length N = N
    · rw [decide_eq_true h]; simp; omega
    · rw [decide_eq_false h]; simp; omega
  simp only [Option.bind_some, decide_true, Bool.not_true, Bool.false_eq_true, if_false, chunk_Reader_Done, chunk_Reader_Err, hd, bne_self_eq_false, List.length_nil, Int.natCast_zero]
  by_cases hq : b.length ≤ 8192
  · simp only [if_pos hq]
    have eE : chunk_Reader_End (b.length : Int) false 0 [] = some true := rfl
    rw [eE]
    simp only [Option.bind_some]
    have eE2 : chunk_Reader_End_w2 (N : Int) ((min b.length N : Nat) : Int) (decide (min b.length N = N)) 0 [] = some (if min b.length N = N then 0 else 24) := by
      unfold chunk_Reader_End_w2
      by_cases h : min b.length N = N
      · rw [decide_eq_true h, if_pos h]; rfl
      · rw [decide_eq_false h, if_neg h]; rfl
    rw [eE2]
    simp only [Option.bind_some]
    rw [if_neg (by simp; omega), hlt]
    by_cases h : min b.length N = N
    · rw [if_pos h, decide_eq_true h]; simp
    · rw [if_neg h, decide_eq_false h]; simp
  · simp only [if_neg hq]
    have eE : chunk_Reader_End 8192 false 23 [] = some false := rfl
    rw [eE]
    simp only [Option.bind_some]
    have eE2 : ∃ v, chunk_Reader_End_w2 (N : Int) ((min b.length N : Nat) : Int) (decide (min b.length N = N)) 0 [] = some v := by
      unfold chunk_Reader_End_w2
      cases decide (min b.length N = N) <;> exact ⟨_, rfl⟩
    obtain ⟨v, eE2⟩ := eE2
    rw [eE2]
    simp only [Option.bind_some]
    rw [if_pos (by simp; omega)]
    rw [if_pos (by simp; omega)]
    rfl
end Go.Proofs.YtfhlehkgiamejaaGreatDoor
