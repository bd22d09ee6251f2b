/- lex, plain: media types, the reference's; texts of media types. -/
import Derived.Test.YtgngopfpnidbaaaGreatDoorU3E
namespace Go.Proofs.YtgngopfpnidbaaaGreatDoor
open Go.Av
set_option linter.unusedVariables false
set_option linter.unusedSimpArgs false
set_option maxRecDepth 100000
def blkT (s : List UInt8) : Nat := (s.takeWhile blT).length
theorem blkT_nil : blkT [] = 0 := rfl
theorem blkT_cons (c : UInt8) (s : List UInt8) : blkT (c :: s) = if blT c then blkT s + 1 else 0 := by
  unfold blkT
  rw [List.takeWhile_cons]
  split <;> simp
theorem blkT_le (s : List UInt8) : blkT s ≤ s.length := (List.takeWhile_sublist _).length_le
theorem blk_cut : ∀ s : List UInt8, s.drop (blkT s) = cutL s
  | [] => rfl
  | c :: s => by
    unfold cutL
    rw [blkT_cons, List.dropWhile_cons]
    split
    · exact blk_cut s
    · rfl
theorem ref_skip_loop (s : List UInt8) (hl : s.length ≤ 16777216) : ∀ (k i : Nat), i ≤ s.length → s.length - i < k → ref03_skip_L8 s k (i : Int) = some ((i + blkT (s.drop i) : Nat) : Int)
  | 0, i, _, hk => by omega
  | k + 1, i, hi, hk => by
    simp only [ref03_skip_L8, decide_eq_true_eq]
    by_cases hlt : i < s.length
    · rw [if_pos (by omega), ixL_in hlt]
      simp only [Option.bind_some, ref_blank_eq]
      rw [drop_step hlt, blkT_cons]
      cases h : blT s[i] with
      | true =>
        simp only [if_true]
        rw [iadd64 (by omega) (by omega), ← Int.natCast_add_one, ref_skip_loop s hl k (i + 1) (by omega) (by omega)]
        rw [show i + 1 + blkT (s.drop (i + 1)) = i + (blkT (s.drop (i + 1)) + 1) by omega]
      | false => simp
    · rw [if_neg (by omega), List.drop_eq_nil_of_le (by omega), blkT_nil]; rfl
theorem ref_skip_eq {s : List UInt8} (hl : s.length ≤ 16777216) : ref03_skip s = some (blkT s : Int) := by
  unfold ref03_skip
  have := ref_skip_loop s hl 1099511627776 0 (by omega) (by omega)
  simp only [Int.natCast_zero, List.drop_zero, Nat.zero_add] at this
  rw [this]; rfl
theorem b61 (c : UInt8) : b2i c = b2i (bC 61) ↔ c = 61 := b2i_inj
theorem ref_param_zero {s : List UInt8} (hl : s.length ≤ 16777216) (h0 : wordT s = 0) : ref03_param s = some (([], []), 0) := by
  unfold ref03_param
  rw [ref_word_eq hl, h0]
  rfl
theorem ref_param_eq {s : List UInt8} (hl : s.length ≤ 16777216) (h0 : wordT s ≠ 0) : ∃ x, ref03_param s = some x ∧
    (match parT s with | none => x.2 < 0 | some (p, rest) => x.1 = p ∧ 0 < x.2 ∧ ∃ m : Nat, x.2 = (m : Int) ∧ m ≤ s.length ∧ s.drop m = rest) := by
  have hw := wordT_le s
  unfold ref03_param
  rw [ref_word_eq hl]
  simp only [Option.bind_some, decide_eq_true_eq]
  rw [if_neg (by omega)]
  cases hd : s.drop (wordT s) with
  | nil =>
    have hlen := congrArg List.length hd
    simp at hlen
    rw [if_pos (by omega)]
    refine ⟨_, rfl, ?_⟩
    unfold parT; simp only [hd]; show (-1 : Int) < 0; decide
  | cons e r =>
    obtain ⟨h1, h2, h3⟩ := drop_word hd
    have hP : parT s = if e = 61 then parV s r else none := by unfold parT; simp only [hd]
    have hs : s[wordT s] = e := by
      have := drop_step (l := s) (i := wordT s) h1
      rw [hd] at this
      exact (List.cons.inj this).1.symm
    rw [hP, if_neg (by omega), ixL_in h1, hs]
    simp only [Option.bind_some, b61]
    by_cases he : e = 61
    · simp only [he, decide_true, Bool.not_true, Bool.false_eq_true, if_false, if_true]
      have hlow : ref03_Lower (s.take (wordT s)) = some (lowT (s.take (wordT s))) := ref_Lower_eq (by rw [List.length_take]; omega)
      rw [slL_to hw]
      simp only [Option.bind_some]
      rw [hlow, iadd64 (by omega) (by omega), ← Int.natCast_add_one, slL_from (by omega), h2]
      simp only [Option.bind_some]
      cases r with
      | nil =>
        rw [if_neg (by simp at h3; omega)]
        simp only [Option.bind_some, Bool.false_eq_true, if_false]
        rw [ref_word_eq (by simp)]
        exact ⟨_, rfl, by show (-1 : Int) < 0; decide⟩
      | cons d q =>
        have hn : wordT s + 1 < s.length := by simp at h3; omega
        have hs2 : s[wordT s + 1] = d := by
          have := drop_step (l := s) (i := wordT s + 1) hn
          rw [h2] at this
          exact (List.cons.inj this).1.symm
        rw [if_pos (by omega), ixL_in hn, hs2]
        simp only [Option.bind_some, b34, decide_eq_true_eq, parV]
        have hq : (d :: q).length ≤ 16777216 := by omega
        simp only [List.length_cons] at h3 hq
        by_cases h34 : d = 34
        · rw [if_pos h34, if_pos h34, ref_Unquote_eq (by simp; omega)]
          simp only [h34]
          unfold unqT
          simp only [if_true]
          cases hu : uq q with
          | none => exact ⟨_, rfl, by show (-1 : Int) < 0; decide⟩
          | some p =>
            have hm := uq_le _ _ p.1 p.2 (Nat.le_refl _) hu
            refine ⟨_, rfl, ?_⟩
            simp only [uqR, Option.map_some]
            rw [iadd64 (by omega) (by omega), show ((wordT s + 1 : Nat) : Int) + ((1 + p.2 : Nat) : Int) = ((wordT s + 1 + (1 + p.2) : Nat) : Int) by omega]
            refine ⟨rfl, by omega, wordT s + 1 + (1 + p.2), rfl, by omega, ?_⟩
            rw [← List.drop_drop, h2, Nat.add_comm 1 p.2]; rfl
        · have hw2 := wordT_le (d :: q)
          rw [if_neg h34, if_neg h34, ref_word_eq (by simp; omega)]
          simp only [Option.bind_some, decide_eq_true_eq]
          simp only [List.length_cons] at hw2
          by_cases hz : wordT (d :: q) = 0
          · rw [if_pos (by omega), if_pos hz]
            exact ⟨_, rfl, by show (-1 : Int) < 0; decide⟩
          · rw [if_neg (by omega), if_neg hz, iadd64 (by omega) (by omega), ← Int.natCast_add, slL_nat (by omega) (by omega)]
            refine ⟨_, rfl, ?_, by simp; omega, wordT s + 1 + wordT (d :: q), rfl, by omega, ?_⟩
            · simp only [Prod.mk.injEq, true_and]
              rw [List.drop_take, h2, Nat.add_sub_cancel_left]
            · rw [← List.drop_drop, h2]
    · simp only [he, decide_false, Bool.not_false, if_true, if_false]
      exact ⟨_, rfl, by show (-1 : Int) < 0; decide⟩
theorem ref_Media_loop : ∀ (k n : Nat) (rest : List UInt8) (acc : List (List UInt8 × List UInt8)), rest.length < k → rest.length < n → acc.length + rest.length ≤ 16777216 →
    ref03_Media_L56 k rest acc = some (mpR acc (mpF n rest))
  | 0, _, rest, acc, h, _, _ => by omega
  | _, 0, rest, acc, _, h, _ => by omega
  | k + 1, n + 1, rest, acc, hk, hn, ha => by
    simp only [ref03_Media_L56, mpF]
    by_cases he : rest = []
    · subst he; simp [mpR]
    · have hcl := blkT_le rest
      have hbc := blk_cut rest
      simp only [he, decide_false, Bool.not_false, if_true, if_false]
      rw [ref_skip_eq (by omega)]
      simp only [Option.bind_some, decide_eq_true_eq]
      cases hc : cutL rest with
      | nil =>
        rw [hc] at hbc
        have := congrArg List.length hbc
        simp at this
        rw [if_pos (by omega)]
        rfl
      | cons c r =>
        rw [hc] at hbc
        have hlt : blkT rest < rest.length := by have := congrArg List.length hbc; simp at this; omega
        have hds := drop_step hlt
        rw [hbc] at hds
        obtain ⟨hce, hr⟩ := List.cons.inj hds
        have hrl := congrArg List.length hr
        simp at hrl
        have e59 : b2i c = b2i (bC 59) ↔ c = 59 := b2i_inj
        rw [if_neg (by omega), ixL_in hlt, ← hce]
        simp only [Option.bind_some, e59]
        by_cases h59 : c = 59
        · simp only [h59, decide_true, Bool.not_true, Bool.false_eq_true, if_false, if_true]
          have hcr := cutL_len r
          have hbr := blkT_le r
          rw [iadd64 (by omega) (by omega), ← Int.natCast_add_one, slL_from (by omega), ← hr]
          simp only [Option.bind_some]
          rw [ref_skip_eq (by omega)]
          simp only [Option.bind_some]
          rw [slL_from hbr, blk_cut]
          simp only [Option.bind_some]
          by_cases h0 : wordT (cutL r) = 0
          · rw [if_pos h0, ref_param_zero (by omega) h0]
            simp only [Option.bind_some]
            rw [if_neg (by decide), if_neg (by decide), show slL (cutL r) 0 ((cutL r).length : Int) = some (cutL r) from by have := slL_from (xs := cutL r) (a := 0) (by simp); simpa using this]
            exact ref_Media_loop k n (cutL r) acc (by omega) (by omega) (by omega)
          · rw [if_neg h0]
            obtain ⟨x, hx, hm⟩ := ref_param_eq (s := cutL r) (by omega) h0
            rw [hx]
            cases hp : parT (cutL r) with
            | none =>
              rw [hp] at hm
              simp only at hm
              simp only [Option.bind_some]
              rw [if_pos hm]
              rfl
            | some p =>
              have hpl := par_len (p := p.1) (rest := p.2) hp
              rw [hp] at hm
              obtain ⟨m1, m2, m, m3, m4, m5⟩ := hm
              simp only [Option.bind_some]
              rw [if_neg (by omega), if_pos m2, szC_ok (by simp; omega), m3, slL_from m4, m5, m1]
              simp only [Option.bind_some]
              rw [ref_Media_loop k n p.2 _ (by omega) (by omega) (by simp; omega), mpR_cons]
        · simp only [h59, decide_false, Bool.not_false, if_true, if_false]
          rfl
theorem ref_Media_eq {s : List UInt8} (hl : s.length ≤ 16777216) : ref03_Media s = some (mediaT s) := by
  have ht := trimT_len s
  have hh := hd_word (trimT s)
  have hw := wordT_le (trimT s)
  unfold ref03_Media mediaT
  rw [ref_Trim_eq hl]
  generalize trimT s = t at *
  simp only [Option.bind_some]
  rw [ref_word_eq (by omega), hh]
  simp only [Option.bind_some, decide_eq_true_eq]
  have e47 : ∀ c, b2i c = b2i (bC 47) ↔ c = 47 := fun c => b2i_inj
  by_cases h0 : wordT t = 0
  · rw [if_pos (by omega)]
    simp only [Option.bind_some, if_true]
    by_cases hlt : wordT t < t.length
    · rw [dif_pos hlt]
      by_cases h47 : t[wordT t] = 47
      · rw [if_pos h47]; simp [h0, badM]
      · rw [if_neg h47]; rfl
    · rw [dif_neg hlt]; rfl
  · rw [if_neg (by omega)]
    by_cases hlt : wordT t < t.length
    · rw [dif_pos hlt, if_neg (by omega), ixL_in hlt]
      simp only [Option.bind_some, e47]
      by_cases h47 : t[wordT t] = 47
      · rw [if_pos h47]
        have hne : t.take (wordT t) ≠ [] := fun e => by
          have := congrArg List.length e
          simp at this
          rcases this with h | h
          · exact h0 h
          · subst h; exact h0 rfl
        have hq := wordT_le (t.drop (wordT t + 1))
        have hql : (t.drop (wordT t + 1)).length = t.length - (wordT t + 1) := List.length_drop
        simp only [h47, decide_true, Bool.not_true, Bool.false_eq_true, if_false, hne]
        rw [iadd64 (by omega) (by omega), ← Int.natCast_add_one, slL_from (by omega)]
        simp only [Option.bind_some]
        rw [ref_word_eq (by omega)]
        simp only [Option.bind_some]
        by_cases hz : wordT (t.drop (wordT t + 1)) = 0
        · rw [if_pos (by omega), if_pos hz]; rfl
        · rw [if_neg (by omega), if_neg hz, slL_to hw]
          simp only [Option.bind_some]
          rw [ref_Lower_eq (by rw [List.length_take]; omega), iadd64 (by omega) (by omega), ← Int.natCast_add, slL_nat (by omega) (by omega)]
          simp only [Option.bind_some]
          rw [List.drop_take, Nat.add_sub_cancel_left, ref_Lower_eq (by rw [List.length_take]; omega)]
          simp only [Option.bind_some]
          rw [slL_from (by omega), ← List.drop_drop]
          simp only [Option.bind_some]
          rw [ref_Media_loop _ ((t.drop (wordT t + 1)).length + 1) _ [] (by rw [List.length_drop]; omega) (by rw [List.length_drop]; omega) (by rw [List.length_drop]; simp; omega)]
          cases mpF ((t.drop (wordT t + 1)).length + 1) ((t.drop (wordT t + 1)).drop (wordT (t.drop (wordT t + 1)))) with
          | none => rfl
          | some ps => rfl
      · rw [if_neg h47]
        simp only [h47, decide_false, Bool.not_false, if_true]
        rfl
    · rw [dif_neg hlt, if_pos (by omega)]; rfl
end Go.Proofs.YtgngopfpnidbaaaGreatDoor
