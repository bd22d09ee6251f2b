/- LexQuoted, plain: at every size. -/
import Derived.Test.YteahieldmfehlaaDoorU3C
import Derived.Test.YteahieldmfehlaaDoorLQuoted
namespace Go.Proofs.YteahieldmfehlaaDoor
open Go.Av
set_option linter.unusedVariables false
set_option linter.unusedSimpArgs false
set_option maxRecDepth 1000000
theorem shown3 : law03_shown = some true := by kernel_rfl
theorem quoted_loop (s : List UInt8) (hl : s.length ≤ 140737488351232) : ∀ (k i : Nat) (f : Bool), i ≤ s.length → s.length - i < k →
    law03_LexQuoted_L17 s k f (i : Int) = some (f && (s.drop i).all quoT)
  | 0, i, f, _, hk => by omega
  | k + 1, i, f, hi, hk => by
    simp only [law03_LexQuoted_L17, decide_eq_true_eq]
    have ih := fun f' (h : i < s.length) => quoted_loop s hl k (i + 1) f' (by omega) (by omega)
    by_cases hlt : i < s.length
    · rw [if_pos (by omega), ixL_in hlt, drop_step hlt, List.all_cons]
      simp only [Option.bind_some]
      rw [iadd64 (by omega) (by omega), ← Int.natCast_add_one]
      simp only [ih _ hlt]
      have hq : quoT s[i] = (decide (b2i s[i] = b2i (bC 9)) || (decide (b2i (bC 32) ≤ b2i s[i]) && !decide (b2i s[i] = b2i (bC 127)))) :=
        of_decide_eq_true (all256 (p := fun c => decide (quoT c = (decide (b2i c = b2i (bC 9)) || (decide (b2i (bC 32) ≤ b2i c) && !decide (b2i c = b2i (bC 127)))))) (by kernel_rfl) s[i])
      have h9 : b2i s[i] = b2i (bC 9) → ¬ b2i s[i] = b2i (bC 127) := fun e => by rw [e]; decide
      cases f with
      | false => simp
      | true =>
        simp only [if_true, Bool.true_and, hq]
        by_cases a : b2i s[i] = b2i (bC 9)
        · rw [if_pos a, decide_eq_true a, decide_eq_false (h9 a)]; rfl
        · rw [if_neg a]
          by_cases b : b2i (bC 32) ≤ b2i s[i]
          · rw [if_pos b]; simp [a, b]
          · rw [if_neg b]; simp [a, b]
    · rw [if_neg (by omega), List.drop_eq_nil_of_le (by omega)]; simp
theorem drop_get {α : Type} {s : List α} {i : Nat} {x : α} {r : List α} (h : s.drop i = x :: r) : ∃ hlt : i < s.length, s[i] = x ∧ s.drop (i + 1) = r := by
  have hlt : i < s.length := by
    rcases Nat.lt_or_ge i s.length with a | a
    · exact a
    · rw [List.drop_eq_nil_of_le a] at h; cases h
  rw [drop_step hlt] at h
  injection h with h1 h2
  exact ⟨hlt, h1, h2⟩
theorem Unq_run (s : List UInt8) (hl : s.length ≤ 1125899906842624) (r : List UInt8) : ∀ (t : List UInt8) (k i : Nat) (acc : List UInt8), plainT t = true → s.drop i = escT t ++ 34 :: r → t.length < k → acc.length + t.length ≤ 140737488355328 →
    lex_Unquote_L52 s k (i : Int) acc = some (Sum.inl (acc ++ t, ((i + ((escT t).length + 1) : Nat) : Int), 0))
  | _, 0, _, _, _, _, hk, _ => by omega
  | [], k + 1, i, acc, _, h, _, _ => by
    obtain ⟨hlt, h1, h2⟩ := drop_get (show s.drop i = 34 :: r from h)
    simp only [lex_Unquote_L52, decide_eq_true_eq, b34, b92]
    rw [if_pos (by omega), ixL_in hlt]
    simp only [Option.bind_some]
    rw [iadd64 (by omega) (by omega), ← Int.natCast_add_one, if_pos h1]
    simp [escT]
  | c :: t, k + 1, i, acc, hp, h, hk, ha => by
    unfold plainT at hp
    rw [List.all_cons, Bool.and_eq_true] at hp
    rw [List.length_cons] at hk ha
    rw [escT_cons] at h ⊢
    by_cases hc : c = 34 ∨ c = 92
    · rw [if_pos hc] at h ⊢
      rw [List.append_assoc] at h
      simp only [lex_Unquote_L52, decide_eq_true_eq, b34, b92]
      obtain ⟨hlt, h1, h2⟩ := drop_get (show s.drop i = 92 :: (c :: (escT t ++ 34 :: r)) from h)
      obtain ⟨hlt2, h3, h4⟩ := drop_get h2
      rw [if_pos (by omega), ixL_in hlt, h1]
      simp only [Option.bind_some]
      rw [iadd64 (by omega) (by omega), ← Int.natCast_add_one, if_neg (by decide), decide_eq_true (by omega)]
      simp only [Option.bind_some, if_true]
      rw [ixL_in hlt2, h3]
      simp only [Option.bind_some, quotable_eq, hp.1, Bool.not_true, Bool.false_eq_true, if_false]
      rw [szC_ok (by rw [List.length_append, List.length_singleton]; omega)]
      simp only [Option.bind_some]
      rw [iadd64 (by omega) (by omega), ← Int.natCast_add_one, Unq_run s hl r t k (i + 1 + 1) _ hp.2 h4 (by omega) (by rw [List.length_append, List.length_singleton]; omega), List.append_assoc]
      simp only [List.length_append, List.length_cons, List.length_nil, List.singleton_append]
      congr 5
      omega
    · rw [if_neg hc] at h ⊢
      rw [List.append_assoc] at h
      simp only [lex_Unquote_L52, decide_eq_true_eq, b34, b92]
      obtain ⟨hlt, h1, h2⟩ := drop_get (show s.drop i = c :: (escT t ++ 34 :: r) from h)
      have hc1 : c ≠ 34 := fun e => hc (.inl e)
      have hc2 : c ≠ 92 := fun e => hc (.inr e)
      rw [if_pos (by omega), ixL_in hlt, h1]
      simp only [Option.bind_some, hc1, hc2, if_false, decide_false, Bool.false_eq_true, quotable_eq, hp.1, Bool.not_true]
      rw [szC_ok (by rw [List.length_append, List.length_singleton]; omega)]
      simp only [Option.bind_some]
      rw [iadd64 (by omega) (by omega), ← Int.natCast_add_one, Unq_run s hl r t k (i + 1) _ hp.2 h2 (by omega) (by rw [List.length_append, List.length_singleton]; omega), List.append_assoc]
      simp only [List.length_append, List.length_cons, List.length_nil, List.singleton_append]
      congr 5
      omega
theorem Unq_cut (s : List UInt8) (hl : s.length ≤ 1125899906842624) : ∀ (t : List UInt8) (k i : Nat) (acc : List UInt8), plainT t = true → s.drop i = escT t → t.length < k → acc.length + t.length ≤ 140737488355328 → i ≤ s.length →
    lex_Unquote_L52 s k (i : Int) acc = some (Sum.inr ())
  | _, 0, _, _, _, _, hk, _, _ => by omega
  | [], k + 1, i, acc, _, h, _, _, hi => by
    have hge : s.length ≤ i := List.drop_eq_nil_iff.1 (show s.drop i = [] from h)
    simp only [lex_Unquote_L52, decide_eq_true_eq]
    rw [if_neg (by omega)]
  | c :: t, k + 1, i, acc, hp, h, hk, ha, hi => by
    unfold plainT at hp
    rw [List.all_cons, Bool.and_eq_true] at hp
    rw [List.length_cons] at hk ha
    rw [escT_cons] at h
    simp only [lex_Unquote_L52, decide_eq_true_eq, b34, b92]
    by_cases hc : c = 34 ∨ c = 92
    · rw [if_pos hc] at h
      obtain ⟨hlt, h1, h2⟩ := drop_get (show s.drop i = 92 :: (c :: escT t) from h)
      obtain ⟨hlt2, h3, h4⟩ := drop_get h2
      rw [if_pos (by omega), ixL_in hlt, h1]
      simp only [Option.bind_some]
      rw [iadd64 (by omega) (by omega), ← Int.natCast_add_one, if_neg (by decide), decide_eq_true (by omega)]
      simp only [Option.bind_some, if_true]
      rw [ixL_in hlt2, h3]
      simp only [Option.bind_some, quotable_eq, hp.1, Bool.not_true, Bool.false_eq_true, if_false]
      rw [szC_ok (by rw [List.length_append, List.length_singleton]; omega)]
      simp only [Option.bind_some]
      rw [iadd64 (by omega) (by omega), ← Int.natCast_add_one, Unq_cut s hl t k (i + 1 + 1) _ hp.2 h4 (by omega) (by rw [List.length_append, List.length_singleton]; omega) (by omega)]
    · rw [if_neg hc] at h
      obtain ⟨hlt, h1, h2⟩ := drop_get (show s.drop i = c :: escT t from h)
      have hc1 : c ≠ 34 := fun e => hc (.inl e)
      have hc2 : c ≠ 92 := fun e => hc (.inr e)
      rw [if_pos (by omega), ixL_in hlt, h1]
      simp only [Option.bind_some, hc1, hc2, if_false, decide_false, Bool.false_eq_true, quotable_eq, hp.1, Bool.not_true]
      rw [szC_ok (by rw [List.length_append, List.length_singleton]; omega)]
      simp only [Option.bind_some]
      rw [iadd64 (by omega) (by omega), ← Int.natCast_add_one, Unq_cut s hl t k (i + 1) _ hp.2 h2 (by omega) (by rw [List.length_append, List.length_singleton]; omega) (by omega)]
theorem Unquote_q (t r : List UInt8) (hp : plainT t = true) (ht : t.length ≤ 140737488351232) (hr : r.length ≤ 140737488351232) : lex_Unquote (34 :: (escT t ++ [34]) ++ r) = some (t, (((escT t).length + 2 : Nat) : Int), 0) := by
  have he := escT_len t
  unfold lex_Unquote
  rw [hasPrefix1]
  have h1 := Unq_run (34 :: (escT t ++ [34]) ++ r) (by simp; omega) r t 4611686018427387904 1 [] hp (by simp) (by omega) (by simp; omega)
  simp only [Int.natCast_one] at h1
  simp only [List.cons_append, List.head?_cons, decide_true, Option.bind_some, Bool.not_true, Bool.false_eq_true, if_false] at h1 ⊢
  rw [h1]
  simp only [Option.bind_some, List.nil_append]
  congr 4
  omega
theorem Unquote_c (t : List UInt8) (hp : plainT t = true) (ht : t.length ≤ 140737488351232) : lex_Unquote (34 :: escT t) = some ([], 0, 5) := by
  have he := escT_len t
  unfold lex_Unquote
  rw [hasPrefix1]
  have h1 := Unq_cut (34 :: escT t) (by simp; omega) t 4611686018427387904 1 [] hp (by simp) (by omega) (by simp; omega) (by simp)
  simp only [Int.natCast_one] at h1
  simp only [List.head?_cons, decide_true, Option.bind_some, Bool.not_true, Bool.false_eq_true, if_false] at h1 ⊢
  rw [h1]
  rfl
theorem law_LexQuoted_all (s t : List UInt8) (_hs : True) (_ht : True) (hb : s.length ≤ 140737488351232) (hb2 : t.length ≤ 140737488351232) : law03_LexQuoted s t = some true := by
  unfold law03_LexQuoted
  have h1 := quoted_loop s hb 140737488355328 0 true (by omega) (by omega)
  simp only [Int.natCast_zero, List.drop_zero, Bool.true_and] at h1
  rw [shown3, Quote_eq hb, h1]
  simp only [Option.bind_some, Bool.not_true, Bool.false_eq_true, if_false, decide_eq_true_eq]
  cases hp : plainT s with
  | false =>
    have h2 : quoteT s = [] := by unfold quoteT; rw [hp]; rfl
    have h3 : s.all quoT = false := hp
    rw [h2, h3]; rfl
  | true =>
    have h2 : quoteT s = 34 :: (escT s ++ [34]) := by unfold quoteT; rw [hp]; rfl
    have h3 : s.all quoT = true := hp
    have he := escT_len s
    rw [h2, h3]
    have hlen : (34 :: (escT s ++ [34])).length = (escT s).length + 2 := by simp
    have hs : slL (34 :: (escT s ++ [34])) 0 (isub .i64 ((34 :: (escT s ++ [34])).length : Int) 1) = some (34 :: escT s) := by
      rw [hlen, isub64 (by omega) (by omega), show ((((escT s).length + 2 : Nat) : Int) - 1) = (((escT s).length + 1 : Nat) : Int) by omega]
      have h0 : 34 :: (escT s ++ [34]) = (34 :: escT s) ++ [34] := rfl
      rw [slL_to (by rw [hlen]; omega), h0, show (escT s).length + 1 = (34 :: escT s).length from rfl, List.take_left]
    simp only [List.cons_ne_nil, decide_false, Bool.not_false, if_false]
    rw [szS_ok (by rw [List.length_append, hlen]; omega), Unquote_q s t hp hb hb2, hs]
    simp only [Option.bind_some]
    rw [Unquote_c s hp hb, hlen]
    simp
end Go.Proofs.YteahieldmfehlaaDoor
