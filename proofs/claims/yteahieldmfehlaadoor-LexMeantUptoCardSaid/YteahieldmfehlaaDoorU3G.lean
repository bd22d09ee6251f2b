/- lex, plain: texts of media types. -/
import Derived.Test.YteahieldmfehlaaDoorU3F
namespace Go.Proofs.YteahieldmfehlaaDoor
open Go.Av
set_option linter.unusedVariables false
set_option linter.unusedSimpArgs false
set_option maxRecDepth 100000
def wtP : List (List UInt8 × List UInt8) → Nat
  | [] => 0
  | p :: ps => p.1.length + 2 * p.2.length + 8 + wtP ps
def lwT (s : List UInt8) : Bool := tokT s && decide (lowT s = s)
def valT (v : List UInt8) : List UInt8 := if tokT v then v else quoteT v
theorem valT_len (v : List UInt8) : (valT v).length ≤ 2 * v.length + 2 := by
  unfold valT
  split
  · omega
  · exact quoteT_len v
def oneT (p : List UInt8 × List UInt8) : List UInt8 := [59, 32] ++ p.1 ++ [61] ++ valT p.2
theorem oneT_len (p : List UInt8 × List UInt8) : (oneT p).length ≤ p.1.length + 2 * p.2.length + 5 := by
  have := valT_len p.2
  unfold oneT
  simp
  omega
def txF : List (List UInt8 × List UInt8) → Option (List UInt8)
  | [] => some []
  | p :: ps => if lwT p.1 = true ∧ plainT p.2 = true then (txF ps).map (oneT p ++ ·) else none
def txR (out : List UInt8) : Option (List UInt8) → Sum (List UInt8) (List UInt8)
  | none => Sum.inl []
  | some b => Sum.inr (out ++ b)
theorem txR_cons (out a : List UInt8) (o : Option (List UInt8)) : txR out (o.map (a ++ ·)) = txR (out ++ a) o := by
  cases o <;> simp [txR]
def textT (m : Med) : List UInt8 := if lwT m.1 = true ∧ lwT m.2.1 = true then (match txF m.2.2 with | none => [] | some b => m.1 ++ [47] ++ m.2.1 ++ b) else []
theorem Text1_eq {s : List UInt8} (hl : s.length ≤ 16777216) : lex_Text_1 s = some (lwT s) := by
  unfold lex_Text_1 lwT
  rw [Token_eq hl]
  simp only [Option.bind_some]
  cases tokT s with
  | false => rfl
  | true => simp only [if_true, Bool.true_and]; rw [Lower_eq hl]; rfl
theorem ref_low {s : List UInt8} (hl : s.length ≤ 16777216) : ((ref03_Token s).bind fun r5 =>
    if r5 then
      (ref03_Lower s).bind fun r6 =>
      some (decide (r6 = s))
    else
      some false) = some (lwT s) := by
  unfold lwT
  rw [ref_Token_eq hl]
  simp only [Option.bind_some]
  cases tokT s with
  | false => rfl
  | true => simp only [if_true, Bool.true_and]; rw [ref_Lower_eq hl]; rfl
theorem wtP_at : ∀ (ps : List (List UInt8 × List UInt8)) (i : Nat) (h : i < ps.length), wtP (ps.drop i) = ps[i].1.length + 2 * ps[i].2.length + 8 + wtP (ps.drop (i + 1)) := by
  intro ps i h
  rw [drop_step h, wtP]
theorem wtP_len : ∀ ps : List (List UInt8 × List UInt8), 8 * ps.length ≤ wtP ps
  | [] => by simp [wtP]
  | p :: ps => by have := wtP_len ps; simp [wtP]; omega
theorem Text_loop (m : Med) (hl : m.2.2.length ≤ 16777216) : ∀ (k i : Nat) (out : List UInt8), i ≤ m.2.2.length → m.2.2.length - i < k → out.length + wtP (m.2.2.drop i) ≤ 1000000000 → wtP (m.2.2.drop i) ≤ 16777216 →
    lex_Text_L48 m k out (i : Int) = some (txR out (txF (m.2.2.drop i)))
  | 0, i, out, _, hk, _, _ => by omega
  | k + 1, i, out, hi, hk, ho, hw => by
    simp only [lex_Text_L48, decide_eq_true_eq]
    by_cases hlt : i < m.2.2.length
    · have hwt := wtP_at m.2.2 i hlt
      have h1l := oneT_len m.2.2[i]
      have hvl := valT_len m.2.2[i].2
      rw [if_pos (by omega), ixL_in hlt, drop_step hlt]
      simp only [Option.bind_some]
      generalize m.2.2[i] = p at *
      rw [Text1_eq (by omega), plain_eq (by omega), Token_eq (by omega), Quote_eq (by omega)]
      simp only [Option.bind_some]
      by_cases ha : lwT p.1 = true
      · by_cases hb : plainT p.2 = true
        · simp only [ha, hb, Bool.not_true, Bool.false_eq_true, if_false, Option.bind_some]
          have ev : (if (!tokT p.2) = true then some (quoteT p.2) else some p.2) = some (valT p.2) := by
            unfold valT; cases tokT p.2 <;> rfl
          rw [ev]
          simp only [Option.bind_some]
          rw [szC_ok (by simp; omega), szC_ok (by simp; omega), szC_ok (by simp; omega), szC_ok (by simp; omega)]
          simp only [Option.bind_some]
          rw [iadd64 (by omega) (by omega), ← Int.natCast_add_one, txF, if_pos (show lwT p.1 = true ∧ plainT p.2 = true from ⟨ha, hb⟩), txR_cons]
          have hlo : (out ++ oneT p).length = out.length + (oneT p).length := List.length_append
          exact Text_loop m hl k (i + 1) (out ++ oneT p) (by omega) (by omega) (by omega) (by omega)
        · have hb' : plainT p.2 = false := by simpa using hb
          rw [txF, if_neg (show ¬ (lwT p.1 = true ∧ plainT p.2 = true) from fun e => hb e.2)]
          simp [ha, hb', txR]
      · have ha' : lwT p.1 = false := by simpa using ha
        rw [txF, if_neg (show ¬ (lwT p.1 = true ∧ plainT p.2 = true) from fun e => ha e.1)]
        simp [ha', txR]
    · rw [if_neg (by omega), List.drop_eq_nil_of_le (by omega)]
      simp [txF, txR]
theorem Text_eq {m : Med} (h1 : m.1.length ≤ 16777216) (h2 : m.2.1.length ≤ 16777216) (hw : wtP m.2.2 ≤ 16777216) : lex_Text m = some (textT m) := by
  have hl := wtP_len m.2.2
  unfold lex_Text textT
  rw [Text1_eq h1, Text1_eq h2]
  simp only [Option.bind_some]
  by_cases ha : lwT m.1 = true
  · by_cases hb : lwT m.2.1 = true
    · simp only [ha, hb, Bool.not_true, Bool.false_eq_true, if_false, Option.bind_some, and_self, if_true]
      rw [szC_ok (by simp; omega), szC_ok (by simp; omega)]
      simp only [Option.bind_some]
      have := Text_loop m (by omega) 1099511627776 0 ((m.1 ++ [47]) ++ m.2.1) (by omega) (by omega) (by simp; omega) (by simpa using hw)
      simp only [Int.natCast_zero, List.drop_zero] at this
      rw [this]
      cases txF m.2.2 with
      | none => rfl
      | some b => rfl
    · simp [ha, hb]
  · simp [ha]
theorem ref_Text_loop (m : Med) (hl : m.2.2.length ≤ 16777216) : ∀ (k i : Nat) (out : List UInt8), i ≤ m.2.2.length → m.2.2.length - i < k → out.length + wtP (m.2.2.drop i) ≤ 1000000000 → wtP (m.2.2.drop i) ≤ 16777216 →
    ref03_Text_L60 m k out (i : Int) = some (txR out (txF (m.2.2.drop i)))
  | 0, i, out, _, hk, _, _ => by omega
  | k + 1, i, out, hi, hk, ho, hw => by
    simp only [ref03_Text_L60, decide_eq_true_eq]
    by_cases hlt : i < m.2.2.length
    · have hwt := wtP_at m.2.2 i hlt
      have h1l := oneT_len m.2.2[i]
      have hvl := valT_len m.2.2[i].2
      rw [if_pos (by omega), ixL_in hlt, drop_step hlt]
      simp only [Option.bind_some]
      generalize m.2.2[i] = p at *
      rw [ref_low (by omega), ref_Quotable_eq (by omega), ref_Token_eq (by omega), ref_Quote_eq (by omega)]
      simp only [Option.bind_some]
      by_cases ha : lwT p.1 = true
      · by_cases hb : plainT p.2 = true
        · simp only [ha, hb, Bool.not_true, Bool.false_eq_true, if_false, Option.bind_some]
          have ev : (if (!tokT p.2) = true then some (quoteT p.2) else some p.2) = some (valT p.2) := by
            unfold valT; cases tokT p.2 <;> rfl
          rw [ev]
          simp only [Option.bind_some]
          rw [szC_ok (by simp; omega), szC_ok (by simp; omega), szC_ok (by simp; omega), szC_ok (by simp; omega)]
          simp only [Option.bind_some]
          rw [iadd64 (by omega) (by omega), ← Int.natCast_add_one, txF, if_pos (show lwT p.1 = true ∧ plainT p.2 = true from ⟨ha, hb⟩), txR_cons]
          have hlo : (out ++ oneT p).length = out.length + (oneT p).length := List.length_append
          have e : (((out ++ [59, 32]) ++ p.1) ++ [61]) ++ valT p.2 = out ++ oneT p := by unfold oneT; simp
          rw [e]
          exact ref_Text_loop m hl k (i + 1) (out ++ oneT p) (by omega) (by omega) (by omega) (by omega)
        · have hb' : plainT p.2 = false := by simpa using hb
          rw [txF, if_neg (show ¬ (lwT p.1 = true ∧ plainT p.2 = true) from fun e => hb e.2)]
          simp [ha, hb', txR]
      · have ha' : lwT p.1 = false := by simpa using ha
        rw [txF, if_neg (show ¬ (lwT p.1 = true ∧ plainT p.2 = true) from fun e => ha e.1)]
        simp [ha', txR]
    · rw [if_neg (by omega), List.drop_eq_nil_of_le (by omega)]
      simp [txF, txR]
theorem ref_Text_eq {m : Med} (h1 : m.1.length ≤ 16777216) (h2 : m.2.1.length ≤ 16777216) (hw : wtP m.2.2 ≤ 16777216) : ref03_Text m = some (textT m) := by
  have hl := wtP_len m.2.2
  unfold ref03_Text textT
  rw [ref_low h1, ref_low h2]
  simp only [Option.bind_some]
  by_cases ha : lwT m.1 = true
  · by_cases hb : lwT m.2.1 = true
    · simp only [ha, hb, Bool.not_true, Bool.false_eq_true, if_false, Option.bind_some, and_self, if_true]
      rw [szC_ok (by simp; omega), szC_ok (by simp; omega)]
      simp only [Option.bind_some]
      have := ref_Text_loop m (by omega) 1099511627776 0 ((m.1 ++ [47]) ++ m.2.1) (by omega) (by omega) (by simp; omega) (by simpa using hw)
      simp only [Int.natCast_zero, List.drop_zero] at this
      rw [this]
      cases txF m.2.2 with
      | none => rfl
      | some b => rfl
    · simp [ha, hb]
  · simp [ha]
/-- the parameters weigh no more than the rest -/
theorem mpF_wt : ∀ (n : Nat) (rest : List UInt8) (ps : List (List UInt8 × List UInt8)), mpF n rest = some ps → wtP ps ≤ 8 * rest.length
  | 0, rest, ps, h => by rw [← Option.some.inj h]; simp [wtP]
  | n + 1, rest, ps, h => by
    rw [mpF] at h
    split at h
    · rw [← Option.some.inj h]; simp [wtP]
    · have hcl := cutL_len rest
      split at h
      · exact absurd h (by simp)
      · rename_i c r hc
        rw [hc] at hcl
        simp only [List.length_cons] at hcl
        have hcr := cutL_len r
        split at h
        · split at h
          · have := mpF_wt n _ _ h
            omega
          · obtain ⟨p, hp, h2⟩ := Option.bind_eq_some_iff.1 h
            obtain ⟨ps', h3, rfl⟩ := Option.map_eq_some_iff.1 h2
            have h4 := mpF_wt n _ _ h3
            have h5 := par_len (p := p.1) (rest := p.2) hp
            rw [wtP]
            omega
        · exact absurd h (by simp)
theorem mediaT_len (s : List UInt8) : (mediaT s).1.1.length ≤ s.length ∧ (mediaT s).1.2.1.length ≤ s.length ∧ wtP (mediaT s).1.2.2 ≤ 8 * s.length := by
  have ht := trimT_len s
  have hh := hd_word (trimT s)
  unfold mediaT
  generalize trimT s = t at *
  have hb : badM.1.1.length ≤ s.length ∧ badM.1.2.1.length ≤ s.length ∧ wtP badM.1.2.2 ≤ 8 * s.length := by simp [badM, wtP]
  cases hd : hdT t with
  | none => exact hb
  | some x =>
    obtain ⟨a, q⟩ := x
    simp only
    split
    · exact hb
    · split
      · exact hb
      · split
        · exact hb
        · rename_i ps hps
          have hw := mpF_wt _ _ _ hps
          rw [hd] at hh
          split at hh
          · split at hh
            · have := Option.some.inj hh
              simp only [Prod.mk.injEq] at this
              obtain ⟨rfl, rfl⟩ := this
              simp [lowT_len] at hw ⊢
              omega
            · exact absurd hh (by simp)
          · exact absurd hh (by simp)
end Go.Proofs.YteahieldmfehlaaDoor
