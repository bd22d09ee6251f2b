/- utf8, plain: characters, faults. -/
import Derived.Test.YtecpgelhhbbjmaaGreatDoorV8
namespace Go.Proofs.YtecpgelhhbbjmaaGreatDoor
open Go.Av
set_option linter.unusedVariables false
set_option linter.unusedSimpArgs false
theorem runesT_good : ∀ (n : Nat) (t : List UInt8), t.length ≤ n → ∀ x ∈ runesT t, goodC x
  | 0, t, h, x, hx => by
    have : t = [] := List.length_eq_zero_iff.1 (by omega)
    subst this; rw [runesT_nil] at hx; cases hx
  | n + 1, t, h, x, hx => by
    by_cases ht : t = []
    · subst ht; rw [runesT_nil] at hx; cases hx
    · have hp := piece_len ht
      rw [runesT_cons ht] at hx
      rcases List.mem_cons.1 hx with rfl | hx
      · exact piece_good t
      · exact runesT_good n _ (by rw [List.length_drop]; omega) x hx
theorem runesT_len : ∀ (n : Nat) (t : List UInt8), t.length ≤ n → (runesT t).length ≤ t.length ∧ t.length ≤ 4 * (runesT t).length
  | 0, t, h => by
    have : t = [] := List.length_eq_zero_iff.1 (by omega)
    subst this; rw [runesT_nil]; simp
  | n + 1, t, h => by
    by_cases ht : t = []
    · subst ht; rw [runesT_nil]; simp
    · have hp := piece_len ht
      have hd := List.length_drop (i := (pieceT t).1) (l := t)
      have := runesT_len n (t.drop (pieceT t).1) (by omega)
      rw [runesT_cons ht, List.length_cons]
      omega
theorem ref_Runes_loop (b : List UInt8) (hl : b.length ≤ 4194304) : ∀ (k i : Nat) (acc : List Int), i ≤ b.length → b.length - i < k → acc.length ≤ i →
    ref08_Runes_L13 b k (i : Int) acc = some (acc ++ runesT (b.drop i))
  | 0, i, acc, _, h, _ => by omega
  | k + 1, i, acc, hi, hk, ha => by
    simp only [ref08_Runes_L13, decide_eq_true_eq]
    by_cases hlt : i < b.length
    · have hne := drop_ne hlt
      have hn := piece_len hne
      have hg := piece_good (b.drop i)
      rw [List.length_drop] at hn
      have hv : icv .i64 .i32 (pieceT (b.drop i)).2.1 = (pieceT (b.drop i)).2.1 := icv_id (by unfold goodC at hg; simp only [inR]; omega)
      rw [if_pos (by omega), ref_piece_eq b i hl hlt, pieceR_eq _ hne]
      simp only [Option.bind_some, hv]
      rw [szC_ok (by rw [List.length_append]; simp only [List.length_cons, List.length_nil]; omega), iadd64 (by omega) (by omega), ← Int.natCast_add]
      simp only [Option.bind_some]
      rw [ref_Runes_loop b hl k _ _ (by omega) (by omega) (by rw [List.length_append]; simp only [List.length_cons, List.length_nil]; omega), runesT_cons hne, List.drop_drop]
      simp
    · rw [if_neg (by omega), List.drop_eq_nil_of_le (by omega), runesT_nil]
      simp
theorem ref_Runes_eq {b : List UInt8} (hl : b.length ≤ 4194304) : ref08_Runes b = some (runesT b) := by
  unfold ref08_Runes
  have := ref_Runes_loop b hl 1099511627776 0 [] (by omega) (by omega) (by simp)
  simp only [Int.natCast_zero] at this
  rw [this]; simp
theorem goodI {x : Int} (h : goodC x) : inR .i32 x := by unfold goodC at h; simp only [inR]; omega
theorem ref_Decode_eq {b : List UInt8} (hl : b.length ≤ 4194304) : ref08_Decode b = some (encL (runesT b)) := by
  have h1 := runesT_len _ b (Nat.le_refl _)
  unfold ref08_Decode
  rw [ref_Runes_eq hl]
  simp only [Option.bind_some]
  rw [ref_Encode_eq (by omega) (fun x hx => goodI (runesT_good _ b (Nat.le_refl _) x hx))]
  rfl
end Go.Proofs.YtecpgelhhbbjmaaGreatDoor
