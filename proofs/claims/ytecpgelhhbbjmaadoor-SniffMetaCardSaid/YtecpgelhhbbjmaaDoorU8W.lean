/- utf8, plain: bytes as characters. -/
import Derived.Test.YtecpgelhhbbjmaaDoorU8V
import Derived.Lib.TrimUEq
namespace Go.Proofs.YtecpgelhhbbjmaaDoor
open Go.Av
set_option linter.unusedVariables false
set_option linter.unusedSimpArgs false
/-- the length of a piece -/
theorem runT_le : ∀ (need : Nat) (lo hi : Int) (t : List UInt8) (n : Nat), (runT need lo hi t n).1 ≤ n + t.length ∧ n ≤ (runT need lo hi t n).1 ∧ (runT need lo hi t n).1 ≤ n + need ∧ ((runT need lo hi t n).2 = false → (runT need lo hi t n).1 < n + need)
  | 0, _, _, t, n => by simp [runT]
  | need + 1, _, _, [], n => by simp [runT]
  | need + 1, lo, hi, c :: t, n => by
    simp only [runT]
    split
    · simp only [List.length_cons]; exact ⟨by omega, by omega, by omega, fun _ => by omega⟩
    · have := runT_le need 128 191 t (n + 1)
      simp only [List.length_cons]; exact ⟨by omega, by omega, by omega, fun h => by have := this.2.2.2 h; omega⟩
theorem look_len (t : List UInt8) : (lookT t).1 ≤ t.length ∧ (lookT t).1 ≤ 4 ∧ ((lookT t).2 = true → 1 ≤ (lookT t).1) ∧ ((lookT t).2 = false → (lookT t).1 ≤ 3) := by
  rcases t with _ | ⟨c, t⟩
  · simp [lookT]
  · have r := fun need lo hi => runT_le need lo hi t 1
    simp only [lookT, List.length_cons]
    (repeat' split) <;> first
      | (simp; done)
      | (have q := r 1 128 191; exact ⟨by omega, by omega, fun _ => by omega, fun h => by have := q.2.2.2 h; omega⟩)
      | (have q := r 2 160 191; exact ⟨by omega, by omega, fun _ => by omega, fun h => by have := q.2.2.2 h; omega⟩)
      | (have q := r 2 128 159; exact ⟨by omega, by omega, fun _ => by omega, fun h => by have := q.2.2.2 h; omega⟩)
      | (have q := r 2 128 191; exact ⟨by omega, by omega, fun _ => by omega, fun h => by have := q.2.2.2 h; omega⟩)
      | (have q := r 3 144 191; exact ⟨by omega, by omega, fun _ => by omega, fun h => by have := q.2.2.2 h; omega⟩)
      | (have q := r 3 128 191; exact ⟨by omega, by omega, fun _ => by omega, fun h => by have := q.2.2.2 h; omega⟩)
      | (have q := r 3 128 143; exact ⟨by omega, by omega, fun _ => by omega, fun h => by have := q.2.2.2 h; omega⟩)
theorem piece_len {t : List UInt8} (h : t ≠ []) : 1 ≤ (pieceT t).1 ∧ (pieceT t).1 ≤ t.length ∧ (pieceT t).1 ≤ 4 := by
  have := look_len t
  have : 1 ≤ t.length := by cases t with | nil => exact absurd rfl h | cons c t => simp
  unfold pieceT
  split
  · rename_i hw; have := (look_len t).2.2.1 hw; simp only; omega
  · simp only; omega
theorem piece_good (t : List UInt8) : goodC (pieceT t).2.1 := by
  unfold pieceT
  split
  · rename_i h; exact (look_whole t h).1
  · simp [goodC]
/-- the characters of bytes -/
def runesT (t : List UInt8) : List Int :=
  if h : t = [] then [] else (pieceT t).2.1 :: runesT (t.drop (pieceT t).1)
termination_by t.length
decreasing_by have := piece_len h; rw [List.length_drop]; omega
theorem runesT_nil : runesT [] = [] := by rw [runesT]; simp
theorem runesT_cons {t : List UInt8} (h : t ≠ []) : runesT t = (pieceT t).2.1 :: runesT (t.drop (pieceT t).1) := by rw [runesT]; simp [h]
theorem drop_ne {α : Type} {b : List α} {i : Nat} (h : i < b.length) : b.drop i ≠ [] := by
  intro h'; have := congrArg List.length h'; rw [List.length_drop, List.length_nil] at this; omega
theorem encL_cons (c : Int) (l : List Int) : encL (c :: l) = chB (fixR c) ++ encL l := by simp [encL]
theorem Decode_loop (b : List UInt8) (hl : b.length ≤ 4194304) : ∀ (k i : Nat) (acc : List UInt8), i ≤ b.length → b.length - i < k → acc.length ≤ 4 * i →
    utf8_Decode_L39 b k (i : Int) acc = some (acc ++ encL (runesT (b.drop i)))
  | 0, i, acc, _, h, _ => by omega
  | k + 1, i, acc, hi, hk, ha => by
    simp only [utf8_Decode_L39, decide_eq_true_eq]
    by_cases hlt : i < b.length
    · have hne := drop_ne hlt
      have hn := piece_len hne
      have hg := piece_good (b.drop i)
      have hd := List.length_drop (i := i) (l := b)
      rw [if_pos (by omega), look_eq b i hl hlt, runesT_cons hne, encL_cons, fixR_id hg, List.drop_drop]
      have hll := look_len (b.drop i)
      rw [hd] at hll hn
      simp only [Option.bind_some]
      cases hw : (lookT (b.drop i)).2 with
      | true =>
        obtain ⟨hgv, r, hr, hrl⟩ := look_whole (b.drop i) hw
        have hp : pieceT (b.drop i) = ((lookT (b.drop i)).1, valT (lookT (b.drop i)).1 (b.drop i), true) := by unfold pieceT; rw [if_pos hw]
        rw [hw] at hll
        generalize (lookT (b.drop i)).1 = n at *
        generalize valT n (b.drop i) = v at *
        have hll1 := hll.2.2.1 rfl
        have hs : slL b (i : Int) ((i : Int) + (n : Int)) = some (chB v) := by
          rw [← Int.natCast_add, slL_nat (by omega) (by omega), List.drop_take, hr, show i + n - i = (chB v).length by omega, List.take_left]
        have hsz : szC (acc ++ chB v).length = some () := szC_ok (by rw [List.length_append]; omega)
        rw [if_pos rfl, iadd64 (by omega) (by omega), hs]
        simp only [Option.bind_some, hsz, hp]
        rw [show max (n : Int) 1 = n by omega, iadd64 (by omega) (by omega), ← Int.natCast_add, Decode_loop b hl k (i + n) _ (by omega) (by omega) (by rw [List.length_append]; omega), List.append_assoc]
      | false =>
        have hp : pieceT (b.drop i) = (max (lookT (b.drop i)).1 1, 65533, false) := by unfold pieceT; rw [hw]; rfl
        have hb : runeB 65533 = chB 65533 := runeB_chB (by simp [goodC])
        have hcl : (chB 65533).length = 3 := by decide +kernel
        rw [hp] at hn
        generalize (lookT (b.drop i)).1 = n at *
        simp only at hn
        have hsz : szC (acc ++ chB 65533).length = some () := szC_ok (by rw [List.length_append]; omega)
        rw [if_neg (by decide), hb]
        simp only [hsz, Option.bind_some, hp]
        rw [show max (n : Int) 1 = ((max n 1 : Nat) : Int) by omega, iadd64 (by omega) (by omega), ← Int.natCast_add, Decode_loop b hl k (i + max n 1) _ (by omega) (by omega) (by rw [List.length_append]; omega), List.append_assoc]
    · rw [if_neg (by omega), List.drop_eq_nil_of_le (by omega), runesT_nil]
      simp [encL]
theorem Decode_eq {b : List UInt8} (hl : b.length ≤ 4194304) : utf8_Decode b = some (encL (runesT b)) := by
  unfold utf8_Decode
  have := Decode_loop b hl 140737488355328 0 [] (by omega) (by omega) (by simp)
  simp only [Int.natCast_zero] at this
  rw [this]
  simp
end Go.Proofs.YtecpgelhhbbjmaaDoor
