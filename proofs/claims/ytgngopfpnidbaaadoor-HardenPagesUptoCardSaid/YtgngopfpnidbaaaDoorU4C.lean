/- fields, plain: what may be a field; texts. -/
import Derived.Test.YtgngopfpnidbaaaDoorU4B
namespace Go.Proofs.YtgngopfpnidbaaaDoor
open Go.Av
set_option linter.unusedVariables false
set_option linter.unusedSimpArgs false
set_option maxRecDepth 100000
def vOK (s : List UInt8) : Bool := decide (trimT s = s) && plainT s
theorem plain_skip {s : List UInt8} : ∀ (w p : Nat), (∀ j, p ≤ j → j < p + w → ∃ hj : j < s.length, quoT (s[j]'hj) = true) → plainT (s.drop p) = plainT (s.drop (p + w))
  | 0, p, _ => rfl
  | w + 1, p, h => by
    obtain ⟨h1, h2⟩ := h p (Nat.le_refl _) (by omega)
    have ih := plain_skip w (p + 1) (fun j j1 j2 => h j (by omega) (by omega))
    rw [show p + (w + 1) = p + 1 + w by omega, ← ih, drop_step h1]
    unfold plainT
    rw [List.all_cons, h2, Bool.true_and]
theorem quo_hi (c : UInt8) (h : 128 ≤ c.toNat) : quoT c = true :=
  (of_decide_eq_true (all256 (p := fun c => decide (128 ≤ c.toNat → quoT c = true)) (by kernel_rfl) c) : _) h
theorem quo_lo (c : UInt8) : (decide ((c.toNat : Int) < 32 ∧ ¬ (c.toNat : Int) = 9 ∨ (c.toNat : Int) = 127)) = !quoT c :=
  of_decide_eq_true (all256 (p := fun c => decide (decide ((c.toNat : Int) < 32 ∧ ¬ (c.toNat : Int) = 9 ∨ (c.toNat : Int) = 127) = !quoT c)) (by kernel_rfl) c)
theorem value1_eq (r : Int) : fields_value_1 r = some (decide (r < 32 ∧ ¬ r = 9 ∨ r = 127)) := by
  unfold fields_value_1
  simp only [decide_eq_true_eq]
  by_cases h : r < 32
  · rw [if_pos h]
    by_cases h9 : r = 9
    · subst h9; rfl
    · rw [if_pos (by simp [h9])]
      congr 1
      exact (decide_eq_true (Or.inl ⟨h, h9⟩)).symm
  · rw [if_neg h]
    congr 1
    by_cases h1 : r = 127
    · rw [decide_eq_true h1, decide_eq_true (Or.inr h1)]
    · rw [decide_eq_false h1, decide_eq_false (fun e => e.elim (fun e => h e.1) h1)]
theorem value_loop (s : List UInt8) : ∀ (k p : Nat), s.length - p < k →
    ∃ o, strings_indexFunc_L79 s k p = some o ∧ (match o with | Sum.inl v => plainT (s.drop p) = false ∧ 0 ≤ v | Sum.inr _ => plainT (s.drop p) = true)
  | 0, p, hk => by omega
  | k + 1, p, hk => by
    simp only [strings_indexFunc_L79, decide_eq_true_eq]
    by_cases hlt : p < s.length
    · rw [if_pos hlt, value1_eq]
      simp only [Option.bind_some]
      by_cases h : s[p].toNat < 128
      · rw [decR_lo hlt h]
        simp only
        rw [quo_lo, drop_step hlt]
        cases hq : quoT s[p] with
        | false =>
          refine ⟨_, rfl, ?_, by omega⟩
          unfold plainT
          rw [List.all_cons, hq]; rfl
        | true =>
          obtain ⟨o, h1, h2⟩ := value_loop s k (p + 1) (by omega)
          refine ⟨o, by simpa using h1, ?_⟩
          have e : plainT (s[p] :: s.drop (p + 1)) = plainT (s.drop (p + 1)) := by
            unfold plainT
            rw [List.all_cons, hq, Bool.true_and]
          rw [e]; exact h2
      · obtain ⟨d1, d2, d3⟩ := decR_hi hlt (by omega)
        rw [decide_eq_false (by omega)]
        obtain ⟨o, h1, h2⟩ := value_loop s k (p + (decR s p).2) (by omega)
        refine ⟨o, by simpa using h1, ?_⟩
        have e : plainT (s.drop p) = plainT (s.drop (p + (decR s p).2)) := plain_skip _ _ fun j j1 j2 => by
          by_cases hj : j = p
          · subst hj; exact ⟨hlt, quo_hi _ (by omega)⟩
          · obtain ⟨q1, q2⟩ := d3 j (by omega) j2
            exact ⟨q1, quo_hi _ q2⟩
        rw [e]; exact h2
    · rw [if_neg hlt, List.drop_eq_nil_of_le (by omega)]
      exact ⟨_, rfl, rfl⟩
theorem value_eq {s : List UInt8} (hl : s.length ≤ 16777216) : fields_value s = some (vOK s) := by
  unfold fields_value vOK
  rw [Trim_eq hl]
  simp only [Option.bind_some]
  by_cases h : trimT s = s
  · obtain ⟨o, h1, h2⟩ := value_loop s 1099511627776 0 (by omega)
    simp only [List.drop_zero] at h2
    simp only [h, decide_true, if_true, Bool.true_and]
    rw [h1]
    cases o with
    | inl v => simp only [Option.bind_some, decide_eq_true h2.2, h2.1]; rfl
    | inr v => simp only at h2; simp only [Option.bind_some, h2]; rfl
  · simp [h]
def rgF : Nat → List Fld → Option (Int × Int)
  | _, [] => none
  | i, f :: r => if tokT f.1 then if vOK f.2 then rgF (i + 1) r else some ((i : Int), 8) else some ((i : Int), 7)
def rgR : Option (Int × Int) → Sum (Int × Int) Unit
  | some r => Sum.inl r
  | none => Sum.inr ()
def rightT (l : List Fld) : Int × Int := if 32 < l.length then (32, 18) else (rgF 0 l).getD (0, 0)
theorem Right_loop {l : List Fld} (hl : okF l) : ∀ (k i : Nat), i ≤ l.length → l.length - i < k → fields_Right_L10 l k (i : Int) = some (rgR (rgF i (l.drop i)))
  | 0, i, _, hk => by omega
  | k + 1, i, hi, hk => by
    have h1 := hl.1
    simp only [fields_Right_L10, decide_eq_true_eq]
    by_cases hlt : i < l.length
    · have hx := okF_at hl hlt
      rw [if_pos (by omega), ixL_in hlt, drop_step hlt, rgF]
      simp only [Option.bind_some]
      rw [Token_eq hx.1, value_eq hx.2]
      simp only [Option.bind_some]
      cases tokT l[i].1 with
      | false => rfl
      | true =>
        cases vOK l[i].2 with
        | false => rfl
        | true =>
          simp only [Bool.not_true, Bool.false_eq_true, if_false, if_true]
          rw [iadd64 (by omega) (by omega), ← Int.natCast_add_one, Right_loop hl k (i + 1) (by omega) (by omega)]
    · rw [if_neg (by omega), List.drop_eq_nil_of_le (by omega)]; rfl
theorem Right_eq {l : List Fld} (hl : okF l) : fields_Right l = some (rightT l) := by
  have h1 := hl.1
  unfold fields_Right rightT
  by_cases h : 32 < l.length
  · rw [if_pos (by simp; omega), if_pos h]
  · have := Right_loop hl 1099511627776 0 (by omega) (by omega)
    simp only [Int.natCast_zero, List.drop_zero] at this
    rw [if_neg (by simp; omega), if_neg h, this]
    cases rgF 0 l <;> rfl
def lineT (f : Fld) : List UInt8 := f.1 ++ [58] ++ (if f.2 = [] then [] else [32] ++ f.2) ++ [13, 10]
theorem lineT_len (f : Fld) : (lineT f).length ≤ f.1.length + f.2.length + 4 := by
  unfold lineT
  split <;> simp <;> omega
def linesT (l : List Fld) : List UInt8 := l.flatMap lineT
theorem linesT_cons (f : Fld) (l : List Fld) : linesT (f :: l) = lineT f ++ linesT l := by unfold linesT; rw [List.flatMap_cons]
def ftextT (l : List Fld) : List UInt8 := if (rightT l).2 = 0 then linesT l else []
theorem FText_loop {l : List Fld} (hl : okF l) (h32 : l.length ≤ 32) : ∀ (k i : Nat) (acc : List UInt8), i ≤ l.length → l.length - i < k → acc.length ≤ i * 40000000 →
    fields_Text_L76 l k (i : Int) acc = some (acc ++ linesT (l.drop i))
  | 0, i, acc, _, hk, _ => by omega
  | k + 1, i, acc, hi, hk, ha => by
    simp only [fields_Text_L76, decide_eq_true_eq]
    by_cases hlt : i < l.length
    · have hx := okF_at hl hlt
      have hll := lineT_len l[i]
      have hi2 : i * 40000000 ≤ 1280000000 := by omega
      rw [if_pos (by omega), ixL_in hlt, drop_step hlt, linesT_cons]
      generalize l[i] = f at *
      simp only [Option.bind_some]
      have hal : (acc ++ lineT f).length = acc.length + (lineT f).length := List.length_append
      rw [szC_ok (by simp; omega), szC_ok (by simp; omega)]
      simp only [Option.bind_some]
      by_cases he : f.2 = []
      · have e : acc ++ (f.1 ++ [58]) ++ [13, 10] = acc ++ lineT f := by unfold lineT; rw [if_pos he]; simp
        simp only [he, decide_true, Bool.not_true, Bool.false_eq_true, if_false, Option.bind_some]
        rw [e, szC_ok (by omega)]
        simp only [Option.bind_some]
        rw [iadd64 (by omega) (by omega), ← Int.natCast_add_one, FText_loop hl h32 k (i + 1) (acc ++ lineT f) (by omega) (by omega) (by omega), List.append_assoc]
      · have e : acc ++ (f.1 ++ [58]) ++ ([32] ++ f.2) ++ [13, 10] = acc ++ lineT f := by unfold lineT; rw [if_neg he]; simp
        simp only [he, decide_false, Bool.not_false, if_true]
        rw [szC_ok (by simp; omega), szC_ok (by simp; omega)]
        simp only [Option.bind_some]
        rw [e, szC_ok (by omega)]
        simp only [Option.bind_some]
        rw [iadd64 (by omega) (by omega), ← Int.natCast_add_one, FText_loop hl h32 k (i + 1) (acc ++ lineT f) (by omega) (by omega) (by omega), List.append_assoc]
    · rw [if_neg (by omega), List.drop_eq_nil_of_le (by omega)]
      simp [linesT]
theorem right_32 {l : List Fld} (h : (rightT l).2 = 0) : l.length ≤ 32 := by
  unfold rightT at h
  split at h
  · exact absurd h (by decide)
  · omega
theorem FText_eq {l : List Fld} (hl : okF l) : fields_Text l = some (ftextT l) := by
  unfold fields_Text ftextT
  rw [Right_eq hl]
  simp only [Option.bind_some]
  by_cases h : (rightT l).2 = 0
  · have := FText_loop hl (right_32 h) 1099511627776 0 [] (by omega) (by have := hl.1; omega) (by simp)
    simp only [Int.natCast_zero, List.drop_zero, List.nil_append] at this
    simp only [h, decide_true, Bool.not_true, Bool.false_eq_true, if_false, if_true]
    rw [this]; rfl
  · simp [h]
end Go.Proofs.YtgngopfpnidbaaaDoor
