/- lex, plain: bytes, words, blanks. -/
import Derived.Test.YtfhlehkgiamejaaGreatDoorPu
import Derived.Test.YtfhlehkgiamejaaGreatDoorGB
import Derived.Test.YtfhlehkgiamejaaGreatDoorLibL
namespace Go.Proofs.YtfhlehkgiamejaaGreatDoor
open Go.Av
set_option linter.unusedVariables false
set_option linter.unusedSimpArgs false
set_option maxRecDepth 100000
/-- what holds of all 256 bytes, told one by one -/
theorem all256 {p : UInt8 → Bool} (h : (List.range 256).all (fun n => p (UInt8.ofNat n)) = true) (c : UInt8) : p c = true := by
  have := List.all_eq_true.1 h c.toNat (List.mem_range.2 c.toNat_lt)
  rwa [UInt8.ofNat_toNat] at this
theorem drop_step {α : Type} {l : List α} {i : Nat} (h : i < l.length) : l.drop i = l[i] :: l.drop (i + 1) := by
  rw [List.drop_eq_getElem_cons h]
def tchT (c : UInt8) : Bool := ([33, 35, 36, 37, 38, 39, 42, 43, 45, 46, 94, 95, 96, 124, 126] : List UInt8).contains c || (decide (48 ≤ c.toNat) && decide (c.toNat ≤ 57)) || (decide (65 ≤ c.toNat) && decide (c.toNat ≤ 90)) || (decide (97 ≤ c.toNat) && decide (c.toNat ≤ 122))
theorem tchar_eq (c : UInt8) : lex_tchar c = some (tchT c) := of_decide_eq_true (all256 (p := fun c => decide (lex_tchar c = some (tchT c))) (by kernel_rfl) c)
def quoT (c : UInt8) : Bool := c == 9 || (decide (32 ≤ c.toNat) && c != 127)
def blT (c : UInt8) : Bool := ([32, 9] : List UInt8).contains c
/-! words -/
def wordT (s : List UInt8) : Nat := (s.takeWhile tchT).length
theorem wordT_nil : wordT [] = 0 := rfl
theorem wordT_cons (c : UInt8) (s : List UInt8) : wordT (c :: s) = if tchT c then wordT s + 1 else 0 := by
  unfold wordT
  rw [List.takeWhile_cons]
  split <;> simp
theorem wordT_le (s : List UInt8) : wordT s ≤ s.length := (List.takeWhile_sublist _).length_le
theorem word_loop (s : List UInt8) (hl : s.length ≤ 16777216) : ∀ (k i : Nat), i ≤ s.length → s.length - i < k →
    lex_word_L8 s k (i : Int) = some (if i + wordT (s.drop i) = s.length then Sum.inr () else Sum.inl ((i + wordT (s.drop i) : Nat) : Int))
  | 0, i, _, hk => by omega
  | k + 1, i, hi, hk => by
    simp only [lex_word_L8, decide_eq_true_eq]
    by_cases hlt : i < s.length
    · rw [if_pos (by omega), ixL_in hlt]
      simp only [Option.bind_some, tchar_eq]
      have hw := wordT_le (s.drop (i + 1))
      rw [List.length_drop] at hw
      rw [drop_step hlt, wordT_cons]
      cases h : tchT s[i] with
      | true =>
        simp only [Bool.not_true, Bool.false_eq_true, if_false, if_true]
        rw [iadd64 (by omega) (by omega), ← Int.natCast_add_one, word_loop s hl k (i + 1) (by omega) (by omega)]
        rw [show i + 1 + wordT (s.drop (i + 1)) = i + (wordT (s.drop (i + 1)) + 1) by omega]
      | false =>
        simp only [Bool.not_false, if_true, Bool.false_eq_true, if_false, Nat.add_zero]
        rw [if_neg (by omega)]
    · rw [if_neg (by omega), List.drop_eq_nil_of_le (by omega), wordT_nil, if_pos (by omega)]
theorem word_eq {s : List UInt8} (hl : s.length ≤ 16777216) : lex_word s = some (wordT s : Int) := by
  unfold lex_word
  have := word_loop s hl 1099511627776 0 (by omega) (by omega)
  simp only [Int.natCast_zero, List.drop_zero, Nat.zero_add] at this
  rw [this]
  by_cases h : wordT s = s.length
  · rw [if_pos h, h]; rfl
  · rw [if_neg h]; rfl
theorem wordT_all : ∀ s : List UInt8, wordT s = s.length ↔ s.all tchT = true
  | [] => by simp [wordT_nil]
  | c :: s => by
    rw [wordT_cons, List.all_cons, Bool.and_eq_true, ← wordT_all s]
    cases tchT c <;> simp
def tokT (s : List UInt8) : Bool := !decide (s = []) && s.all tchT
theorem Token_eq {s : List UInt8} (hl : s.length ≤ 16777216) : lex_Token s = some (tokT s) := by
  unfold lex_Token tokT
  by_cases h : s = []
  · subst h; rfl
  · simp only [h, decide_false, Bool.not_false, if_true, Bool.true_and]
    rw [word_eq hl]
    simp only [Option.bind_some]
    congr 1
    rw [Bool.eq_iff_iff, decide_eq_true_eq, ← wordT_all]
    omega
/-- without the blanks at the end -/
def cutR (s : List UInt8) : List UInt8 := (s.reverse.dropWhile blT).reverse
def cutL (s : List UInt8) : List UInt8 := s.dropWhile blT
def trimT (s : List UInt8) : List UInt8 := cutR (cutL s)
theorem cutL_mid {a m : List UInt8} (ha : ∀ c ∈ a, blT c = true) (hm : ∀ c p, m = c :: p → blT c = false) : cutL (a ++ m) = m := by
  unfold cutL
  induction a with
  | nil =>
    cases m with
    | nil => rfl
    | cons c p => exact List.dropWhile_cons_of_neg (by rw [hm c p rfl]; simp)
  | cons c a ih =>
    rw [List.cons_append, List.dropWhile_cons_of_pos (ha c (by simp))]
    exact ih fun c hc => ha c (by simp [hc])
theorem cutR_mid {b m : List UInt8} (hb : ∀ c ∈ b, blT c = true) (hm : ∀ q c, m = q ++ [c] → blT c = false) : cutR (m ++ b) = m := by
  unfold cutR
  have := cutL_mid (a := b.reverse) (m := m.reverse) (fun c hc => hb c (List.mem_reverse.1 hc)) (fun c p e => hm p.reverse c (by have := congrArg List.reverse e; simpa using this))
  unfold cutL at this
  rw [List.reverse_append, this, List.reverse_reverse]
/-- a text is blanks, a middle that neither begins nor ends with one, blanks -/
theorem trim_parts (s : List UInt8) : ∃ a b, s = a ++ trimT s ++ b ∧ (∀ c ∈ a, blT c = true) ∧ (∀ c ∈ b, blT c = true) ∧ (∀ c p, trimT s = c :: p → blT c = false) ∧ ∀ q c, trimT s = q ++ [c] → blT c = false := by
  have hL : s = s.takeWhile blT ++ cutL s := (List.takeWhile_append_dropWhile).symm
  have hR : cutL s = cutR (cutL s) ++ ((cutL s).reverse.takeWhile blT).reverse := by
    unfold cutR
    rw [← List.reverse_append, List.takeWhile_append_dropWhile, List.reverse_reverse]
  have tw : ∀ (l : List UInt8), ∀ c ∈ l.takeWhile blT, blT c = true := fun l c hc => by
    have := List.all_takeWhile (p := blT) (l := l)
    exact List.all_eq_true.1 this c hc
  have dw : ∀ (l : List UInt8) c p, l.dropWhile blT = c :: p → blT c = false := fun l => by
    induction l with
    | nil => intro c p h; simp at h
    | cons x l ih =>
      intro c p h
      rw [List.dropWhile_cons] at h
      split at h
      · exact ih c p h
      · rename_i hx; cases h; simpa using hx
  refine ⟨s.takeWhile blT, ((cutL s).reverse.takeWhile blT).reverse, ?_, tw s, fun c hc => tw _ c (List.mem_reverse.1 hc), fun c p h => ?_, fun q c h => ?_⟩
  · show s = _ ++ cutR (cutL s) ++ _
    rw [List.append_assoc, ← hR]; exact hL
  · have h' : cutR (cutL s) = c :: p := h
    rw [h'] at hR
    exact dw s c _ hR
  · have h' : ((cutL s).reverse.dropWhile blT).reverse = q ++ [c] := h
    have := congrArg List.reverse h'
    rw [List.reverse_reverse, List.reverse_append] at this
    exact dw _ c _ this
theorem trimS_eq (s : List UInt8) : Lib.trimS s [32, 9] = trimT s := by
  obtain ⟨a, b, hs, ha, hb, h1, h2⟩ := trim_parts s
  have e : Lib.trimS s [32, 9] = cutL (cutR s) := rfl
  rw [e]
  generalize trimT s = m at *
  subst hs
  cases m with
  | nil =>
    have : cutR (a ++ [] ++ b) = [] := by
      have := cutR_mid (b := a ++ b) (m := []) (fun c hc => by rcases List.mem_append.1 hc with h | h; exact ha c h; exact hb c h) (fun q c h => by simp at h)
      simpa using this
    rw [this]; rfl
  | cons x p =>
    rw [cutR_mid hb (fun q c e => ?_)]
    · exact cutL_mid ha h1
    · have hq : x :: p = (x :: p).dropLast ++ [(x :: p).getLast (by simp)] := (List.dropLast_concat_getLast (by simp)).symm
      generalize (x :: p).getLast (by simp) = y at hq
      generalize (x :: p).dropLast = q' at hq
      have hy := h2 q' y hq
      rw [hq, ← List.append_assoc] at e
      have := List.append_inj_right' e rfl
      cases this
      exact hy
theorem Trim_eq {s : List UInt8} (hl : s.length ≤ 16777216) : lex_Trim s = some (trimT s) := by
  unfold lex_Trim trimX
  rw [if_pos ⟨by decide, by decide, by omega⟩, trimS_eq]; rfl
end Go.Proofs.YtfhlehkgiamejaaGreatDoor
namespace Go.Proofs.YtfhlehkgiamejaaGreatDoor
open Go.Av
set_option linter.unusedVariables false
set_option linter.unusedSimpArgs false
/-! unquoting -/
end Go.Proofs.YtfhlehkgiamejaaGreatDoor
