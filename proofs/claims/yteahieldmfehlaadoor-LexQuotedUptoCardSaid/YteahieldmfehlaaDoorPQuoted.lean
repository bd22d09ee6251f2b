/- LexQuoted, plain. -/
import Derived.Test.YteahieldmfehlaaDoorPWords
import Derived.Test.YteahieldmfehlaaDoorLQuoted
namespace Go.Proofs.YteahieldmfehlaaDoor
open Go.Av
theorem quoted_loop (s : List UInt8) (hl : s.length ≤ 4194304) : ∀ (k i : Nat) (f : Bool), i ≤ s.length → s.length - i < k →
    law03_LexQuoted_L17 s k f (i : Int) = some (f && (s.drop i).all quoT)
  | 0, i, f, _, hk => by omega
  | k + 1, i, f, hi, hk => by
    simp only [law03_LexQuoted_L17, decide_eq_true_eq]
    have ih := fun f' (h : i < s.length) => quoted_loop s hl k (i + 1) f' (by omega) (by omega)
    by_cases hlt : i < s.length
    · rw [if_pos (by omega), ixL_in hlt, drop_step hlt, List.all_cons]
      simp only [Option.bind_some]
      rw [iadd64 (by omega) (by omega), ← Int.natCast_add_one]
      simp only [ih _ hlt]
      have hq : quoT s[i] = (decide (b2i s[i] = b2i (bC 9)) || (decide (b2i (bC 32) ≤ b2i s[i]) && !decide (b2i s[i] = b2i (bC 127)))) :=
        of_decide_eq_true (all256 (p := fun c => decide (quoT c = (decide (b2i c = b2i (bC 9)) || (decide (b2i (bC 32) ≤ b2i c) && !decide (b2i c = b2i (bC 127)))))) (by kernel_rfl) s[i])
      have h9 : b2i s[i] = b2i (bC 9) → ¬ b2i s[i] = b2i (bC 127) := fun e => by rw [e]; decide
      cases f with
      | false => simp
      | true =>
        simp only [if_true, Bool.true_and, hq]
        by_cases a : b2i s[i] = b2i (bC 9)
        · rw [if_pos a, decide_eq_true a, decide_eq_false (h9 a)]; rfl
        · rw [if_neg a]
          by_cases b : b2i (bC 32) ≤ b2i s[i]
          · rw [if_pos b]; simp [a, b]
          · rw [if_neg b]; simp [a, b]
    · rw [if_neg (by omega), List.drop_eq_nil_of_le (by omega)]; simp
theorem law_LexQuoted (s t : List UInt8) (_hs : True) (_ht : True) (hb : s.length + 1 + (t.length + 1 + 0) ≤ 1048576) : law03_LexQuoted s t = some true := by
  unfold law03_LexQuoted
  have hq := quoteT_len s
  have h1 := quoted_loop s (by omega) 1099511627776 0 true (by omega) (by omega)
  simp only [Int.natCast_zero, List.drop_zero, Bool.true_and] at h1
  rw [shown3, Quote_eq (by omega), h1]
  simp only [Option.bind_some, Bool.not_true, Bool.false_eq_true, if_false, decide_eq_true_eq]
  cases hp : plainT s with
  | false =>
    have h2 : quoteT s = [] := by unfold quoteT; rw [hp]; rfl
    have h3 : s.all quoT = false := hp
    rw [h2, h3]; rfl
  | true =>
    have h2 : quoteT s = 34 :: (escT s ++ [34]) := by unfold quoteT; rw [hp]; rfl
    have h3 : s.all quoT = true := hp
    have he := escT_len s
    rw [h2, h3]
    have hlen : (34 :: (escT s ++ [34])).length = (escT s).length + 2 := by simp
    have hu1 : unqT (34 :: (escT s ++ [34]) ++ t) = (s, (((escT s).length + 2 : Nat) : Int), 0) := by
      have := uq_esc t s hp
      simp only [List.cons_append, List.append_assoc, List.singleton_append, List.nil_append]
      unfold unqT
      simp only [this]
      unfold uqR
      simp
      omega
    have hs : slL (34 :: (escT s ++ [34])) 0 (isub .i64 ((34 :: (escT s ++ [34])).length : Int) 1) = some (34 :: escT s) := by
      rw [hlen, isub64 (by omega) (by omega), show ((((escT s).length + 2 : Nat) : Int) - 1) = (((escT s).length + 1 : Nat) : Int) by omega]
      have h0 : 34 :: (escT s ++ [34]) = (34 :: escT s) ++ [34] := rfl
      rw [slL_to (by rw [hlen]; omega), h0, show (escT s).length + 1 = (34 :: escT s).length from rfl, List.take_left]
    have hu2 : unqT (34 :: escT s) = ([], 0, 5) := by
      unfold unqT
      simp only [uq_esc_cut]
      rfl
    simp only [List.cons_ne_nil, decide_false, Bool.not_false, if_false]
    rw [szC_ok (by rw [List.length_append]; rw [h2] at hq; simp at hq ⊢; omega), Unquote_eq (by rw [List.length_append]; rw [h2] at hq; simp at hq ⊢; omega), hu1, hs]
    simp only [Option.bind_some]
    rw [Unquote_eq (by simp; omega), hu2, hlen]
    simp
end Go.Proofs.YteahieldmfehlaaDoor
