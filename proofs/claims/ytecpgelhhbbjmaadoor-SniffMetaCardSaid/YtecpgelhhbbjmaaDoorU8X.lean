/- utf8, plain: characters, faults. -/
import Derived.Test.YtecpgelhhbbjmaaDoorU8W
namespace Go.Proofs.YtecpgelhhbbjmaaDoor
open Go.Av
set_option linter.unusedVariables false
set_option linter.unusedSimpArgs false
theorem runesT_good : ∀ (n : Nat) (t : List UInt8), t.length ≤ n → ∀ x ∈ runesT t, goodC x
  | 0, t, h, x, hx => by
    have : t = [] := List.length_eq_zero_iff.1 (by omega)
    subst this; rw [runesT_nil] at hx; cases hx
  | n + 1, t, h, x, hx => by
    by_cases ht : t = []
    · subst ht; rw [runesT_nil] at hx; cases hx
    · have hp := piece_len ht
      rw [runesT_cons ht] at hx
      rcases List.mem_cons.1 hx with rfl | hx
      · exact piece_good t
      · exact runesT_good n _ (by rw [List.length_drop]; omega) x hx
/-- where bytes first fail -/
def faultT (t : List UInt8) (i : Nat) : Nat :=
  if h : t = [] then i else if (lookT t).2 then faultT (t.drop (pieceT t).1) (i + (pieceT t).1) else i
termination_by t.length
decreasing_by have := piece_len h; rw [List.length_drop]; omega
theorem faultT_nil (i : Nat) : faultT [] i = i := by rw [faultT]; simp
theorem faultT_cons {t : List UInt8} (h : t ≠ []) (i : Nat) : faultT t i = if (lookT t).2 then faultT (t.drop (pieceT t).1) (i + (pieceT t).1) else i := by rw [faultT]; simp [h]
theorem ref_Fault_loop (b : List UInt8) (hl : b.length ≤ 4194304) : ∀ (k i : Nat), i ≤ b.length → b.length - i < k →
    ((ref08_Fault_L6 b k (i : Int)).bind fun o8 => match o8 with
  | Sum.inl r => some r
  | Sum.inr j9 =>
    some (List.length b : Int)) = some (faultT (b.drop i) i : Int)
  | 0, i, _, h => by omega
  | k + 1, i, hi, hk => by
    simp only [ref08_Fault_L6, decide_eq_true_eq]
    by_cases hlt : i < b.length
    · have hne := drop_ne hlt
      have hn := piece_len hne
      rw [List.length_drop] at hn
      rw [if_pos (by omega), ref_piece_eq b i hl hlt, pieceR_eq _ hne, faultT_cons hne, List.drop_drop]
      simp only [Option.bind_some]
      cases hw : (lookT (b.drop i)).2 with
      | true =>
        have hp : (pieceT (b.drop i)).2.2 = true := by unfold pieceT; rw [if_pos hw]
        rw [hp, if_neg (by decide), if_pos rfl, iadd64 (by omega) (by omega), ← Int.natCast_add]
        exact ref_Fault_loop b hl k _ (by omega) (by omega)
      | false =>
        have hp : (pieceT (b.drop i)).2.2 = false := by unfold pieceT; rw [hw]; rfl
        simp [hp]
    · rw [if_neg (by omega), List.drop_eq_nil_of_le (by omega), faultT_nil]
      simp only [Option.bind_some]
      congr 1; omega
theorem ref_Fault_eq {b : List UInt8} (hl : b.length ≤ 4194304) : ref08_Fault b = some (faultT b 0 : Int) := ref_Fault_loop b hl 140737488355328 0 (by omega) (by omega)
theorem encL_run : ∀ (n : Nat) (t : List UInt8), t.length ≤ n → (encL (runesT t)).length ≤ 3 * t.length
  | 0, t, h => by
    have : t = [] := List.length_eq_zero_iff.1 (by omega)
    subst this; rw [runesT_nil]; simp [encL]
  | n + 1, t, h => by
    by_cases ht : t = []
    · subst ht; rw [runesT_nil]; simp [encL]
    · have hp := piece_len ht
      have hd := List.length_drop (i := (pieceT t).1) (l := t)
      have hi := encL_run n (t.drop (pieceT t).1) (by omega)
      rw [runesT_cons ht, encL_cons, fixR_id (piece_good t), List.length_append]
      have : (chB (pieceT t).2.1).length ≤ 3 * (pieceT t).1 := by
        unfold pieceT at *
        cases hw : (lookT t).2 with
        | true =>
          obtain ⟨_, r, _, hr⟩ := look_whole t hw
          rw [if_pos rfl]; simp only; omega
        | false =>
          have hcl : (chB 65533).length = 3 := by decide +kernel
          rw [if_neg (by decide)]; simp only; omega
      omega
end Go.Proofs.YtecpgelhhbbjmaaDoor
