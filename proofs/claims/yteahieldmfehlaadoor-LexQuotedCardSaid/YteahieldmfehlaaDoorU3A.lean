/- lex, plain: bytes, words, blanks. -/
import Derived.Test.YteahieldmfehlaaDoorPu
import Derived.Test.YteahieldmfehlaaDoorGB
import Derived.Test.YteahieldmfehlaaDoorGD
import Derived.Test.YteahieldmfehlaaDoorLibL
namespace Go.Proofs.YteahieldmfehlaaDoor
open Go.Av
set_option linter.unusedVariables false
set_option linter.unusedSimpArgs false
set_option maxRecDepth 100000
/-- what holds of all 256 bytes, told one by one -/
theorem all256 {p : UInt8 → Bool} (h : (List.range 256).all (fun n => p (UInt8.ofNat n)) = true) (c : UInt8) : p c = true := by
  have := List.all_eq_true.1 h c.toNat (List.mem_range.2 c.toNat_lt)
  rwa [UInt8.ofNat_toNat] at this
theorem drop_step {α : Type} {l : List α} {i : Nat} (h : i < l.length) : l.drop i = l[i] :: l.drop (i + 1) := by
  rw [List.drop_eq_getElem_cons h]
def tchT (c : UInt8) : Bool := (lex_tchar c).getD false
theorem tchar_eq (c : UInt8) : lex_tchar c = some (tchT c) := of_decide_eq_true (all256 (p := fun c => decide (lex_tchar c = some (tchT c))) (by kernel_rfl) c)
def quoT (c : UInt8) : Bool := c == 9 || (decide (32 ≤ c.toNat) && c != 127)
theorem quotable_eq (c : UInt8) : lex_quotable c = some (quoT c) := of_decide_eq_true (all256 (p := fun c => decide (lex_quotable c = some (quoT c))) (by kernel_rfl) c)
def blT (c : UInt8) : Bool := ([32, 9] : List UInt8).contains c
def loT (c : UInt8) : UInt8 := if 65 ≤ b2i c ∧ b2i c ≤ 90 then c + bC 32 else c
theorem ref_tchar_eq (c : UInt8) : ref03_tchar c = some (tchT c) := of_decide_eq_true (all256 (p := fun c => decide (ref03_tchar c = some (tchT c))) (by kernel_rfl) c)
theorem ref_quotable_eq (c : UInt8) : ref03_quotable c = some (quoT c) := of_decide_eq_true (all256 (p := fun c => decide (ref03_quotable c = some (quoT c))) (by kernel_rfl) c)
theorem ref_blank_eq (c : UInt8) : ref03_blank c = some (blT c) := of_decide_eq_true (all256 (p := fun c => decide (ref03_blank c = some (blT c))) (by kernel_rfl) c)

/-! words -/
def wordT (s : List UInt8) : Nat := (s.takeWhile tchT).length
theorem wordT_nil : wordT [] = 0 := rfl
theorem wordT_cons (c : UInt8) (s : List UInt8) : wordT (c :: s) = if tchT c then wordT s + 1 else 0 := by
  unfold wordT
  rw [List.takeWhile_cons]
  split <;> simp
theorem wordT_le (s : List UInt8) : wordT s ≤ s.length := (List.takeWhile_sublist _).length_le
theorem word_loop (s : List UInt8) (hl : s.length ≤ 16777216) : ∀ (k i : Nat), i ≤ s.length → s.length - i < k →
    lex_word_L8 s k (i : Int) = some (if i + wordT (s.drop i) = s.length then Sum.inr () else Sum.inl ((i + wordT (s.drop i) : Nat) : Int))
  | 0, i, _, hk => by omega
  | k + 1, i, hi, hk => by
    simp only [lex_word_L8, decide_eq_true_eq]
    by_cases hlt : i < s.length
    · rw [if_pos (by omega), ixL_in hlt]
      simp only [Option.bind_some, tchar_eq]
      have hw := wordT_le (s.drop (i + 1))
      rw [List.length_drop] at hw
      rw [drop_step hlt, wordT_cons]
      cases h : tchT s[i] with
      | true =>
        simp only [Bool.not_true, Bool.false_eq_true, if_false, if_true]
        rw [iadd64 (by omega) (by omega), ← Int.natCast_add_one, word_loop s hl k (i + 1) (by omega) (by omega)]
        rw [show i + 1 + wordT (s.drop (i + 1)) = i + (wordT (s.drop (i + 1)) + 1) by omega]
      | false =>
        simp only [Bool.not_false, if_true, Bool.false_eq_true, if_false, Nat.add_zero]
        rw [if_neg (by omega)]
    · rw [if_neg (by omega), List.drop_eq_nil_of_le (by omega), wordT_nil, if_pos (by omega)]
theorem word_eq {s : List UInt8} (hl : s.length ≤ 16777216) : lex_word s = some (wordT s : Int) := by
  unfold lex_word
  have := word_loop s hl 140737488355328 0 (by omega) (by omega)
  simp only [Int.natCast_zero, List.drop_zero, Nat.zero_add] at this
  rw [this]
  by_cases h : wordT s = s.length
  · rw [if_pos h, h]; rfl
  · rw [if_neg h]; rfl
theorem ref_word_loop (s : List UInt8) (hl : s.length ≤ 16777216) : ∀ (k i : Nat), i ≤ s.length → s.length - i < k → ref03_word_L8 s k (i : Int) = some ((i + wordT (s.drop i) : Nat) : Int)
  | 0, i, _, hk => by omega
  | k + 1, i, hi, hk => by
    simp only [ref03_word_L8, decide_eq_true_eq]
    by_cases hlt : i < s.length
    · rw [if_pos (by omega), ixL_in hlt]
      simp only [Option.bind_some, ref_tchar_eq]
      rw [drop_step hlt, wordT_cons]
      cases h : tchT s[i] with
      | true =>
        simp only [if_true]
        rw [iadd64 (by omega) (by omega), ← Int.natCast_add_one, ref_word_loop s hl k (i + 1) (by omega) (by omega)]
        rw [show i + 1 + wordT (s.drop (i + 1)) = i + (wordT (s.drop (i + 1)) + 1) by omega]
      | false => simp
    · rw [if_neg (by omega), List.drop_eq_nil_of_le (by omega), wordT_nil]; rfl
theorem ref_word_eq {s : List UInt8} (hl : s.length ≤ 16777216) : ref03_word s = some (wordT s : Int) := by
  unfold ref03_word
  have := ref_word_loop s hl 140737488355328 0 (by omega) (by omega)
  simp only [Int.natCast_zero, List.drop_zero, Nat.zero_add] at this
  rw [this]; rfl
theorem wordT_all : ∀ s : List UInt8, wordT s = s.length ↔ s.all tchT = true
  | [] => by simp [wordT_nil]
  | c :: s => by
    rw [wordT_cons, List.all_cons, Bool.and_eq_true, ← wordT_all s]
    cases tchT c <;> simp
def tokT (s : List UInt8) : Bool := !decide (s = []) && s.all tchT
theorem Token_eq {s : List UInt8} (hl : s.length ≤ 16777216) : lex_Token s = some (tokT s) := by
  unfold lex_Token tokT
  by_cases h : s = []
  · subst h; rfl
  · simp only [h, decide_false, Bool.not_false, if_true, Bool.true_and]
    rw [word_eq hl]
    simp only [Option.bind_some]
    congr 1
    rw [Bool.eq_iff_iff, decide_eq_true_eq, ← wordT_all]
    omega
theorem ref_Token_loop (s : List UInt8) (hl : s.length ≤ 16777216) : ∀ (k i : Nat), i ≤ s.length → s.length - i < k → ref03_Token_L8 s k (i : Int) = some (if (s.drop i).all tchT then Sum.inr () else Sum.inl false)
  | 0, i, _, hk => by omega
  | k + 1, i, hi, hk => by
    simp only [ref03_Token_L8, decide_eq_true_eq]
    by_cases hlt : i < s.length
    · rw [if_pos (by omega), ixL_in hlt]
      simp only [Option.bind_some, ref_tchar_eq]
      rw [drop_step hlt, List.all_cons]
      cases h : tchT s[i] with
      | true =>
        simp only [Bool.not_true, Bool.false_eq_true, if_false, Bool.true_and]
        rw [iadd64 (by omega) (by omega), ← Int.natCast_add_one, ref_Token_loop s hl k (i + 1) (by omega) (by omega)]
      | false => simp
    · rw [if_neg (by omega), List.drop_eq_nil_of_le (by omega)]; rfl
theorem ref_Token_eq {s : List UInt8} (hl : s.length ≤ 16777216) : ref03_Token s = some (tokT s) := by
  unfold ref03_Token tokT
  have := ref_Token_loop s hl 140737488355328 0 (by omega) (by omega)
  simp only [Int.natCast_zero, List.drop_zero] at this
  rw [this]
  cases s.all tchT <;> simp

/-! small letters -/
def lowT (s : List UInt8) : List UInt8 := s.map loT
theorem lowT_len (s : List UInt8) : (lowT s).length = s.length := by simp [lowT]
theorem Lower_loop (s : List UInt8) (hl : s.length ≤ 16777216) : ∀ (k i : Nat) (l : List UInt8), i ≤ s.length → s.length - i < k → l = (s.take i).map loT ++ s.drop i → lex_Lower_L20 s k (i : Int) l = some (s.map loT)
  | 0, i, l, _, hk, _ => by omega
  | k + 1, i, l, hi, hk, ht => by
    simp only [lex_Lower_L20, decide_eq_true_eq]
    have hlen : ((s.take i).map loT).length = i := by simp; omega
    by_cases hlt : i < s.length
    · have hx : l[i]? = some s[i] := by
        rw [ht, List.getElem?_append_right (by omega), hlen, Nat.sub_self, drop_step hlt]; rfl
      have hnx : (s.take (i + 1)).map loT ++ s.drop (i + 1) = l.set i (loT s[i]) := by
        rw [ht, List.set_append_right _ _ (by omega), hlen, Nat.sub_self, drop_step hlt, List.set_cons_zero, List.take_add_one, List.getElem?_eq_getElem hlt, List.map_append]
        simp
      have hsame : loT s[i] = s[i] → l.set i (loT s[i]) = l := fun e => by
        rw [e]; exact (List.getElem?_eq_some_iff.1 hx).2 ▸ List.set_getElem_self _
      have ih := fun (l' : List UInt8) (e : l' = l.set i (loT s[i])) => Lower_loop s hl k (i + 1) l' (by omega) (by omega) (by rw [e, hnx])
      rw [if_pos (by omega), ixL_nat, hx]
      simp only [Option.bind_some, Int.toNat_natCast]
      have e1 : b2i (bC 65) = 65 := rfl
      have e2 : b2i (bC 90) = 90 := rfl
      rw [e1, e2, iadd64 (by omega) (by omega), ← Int.natCast_add_one]
      by_cases h : 65 ≤ b2i s[i] ∧ b2i s[i] ≤ 90
      · have hs : loT s[i] = s[i] + bC 32 := by unfold loT; rw [if_pos h]
        rw [if_pos h.1, decide_eq_true h.2]
        simp only [Option.bind_some, if_true]
        exact ih _ (by rw [hs])
      · have hs : loT s[i] = s[i] := by unfold loT; rw [if_neg h]
        by_cases h1 : 65 ≤ b2i s[i]
        · rw [if_pos h1, decide_eq_false (fun h2 => h ⟨h1, h2⟩)]
          simp only [Option.bind_some, Bool.false_eq_true, if_false]
          exact ih _ (hsame hs).symm
        · rw [if_neg h1]
          simp only [Option.bind_some, Bool.false_eq_true, if_false]
          exact ih _ (hsame hs).symm
    · rw [if_neg (by omega)]
      rw [ht, List.take_of_length_le (by omega), List.drop_eq_nil_of_le (by omega), List.append_nil]
theorem Lower_eq {s : List UInt8} (hl : s.length ≤ 16777216) : lex_Lower s = some (lowT s) := by
  unfold lex_Lower lowT
  rw [szC_ok (by omega)]
  have := Lower_loop s hl 140737488355328 0 s (by omega) (by omega) (by simp)
  simp only [Int.natCast_zero] at this
  simp only [Option.bind_some, this]
theorem low_alt (c : UInt8) (h : 65 ≤ b2i c ∧ b2i c ≤ 90) : (c - bC 65) + bC 97 = loT c := of_decide_eq_true (all256 (p := fun c => decide ((65 ≤ b2i c ∧ b2i c ≤ 90) → (c - bC 65) + bC 97 = loT c)) (by kernel_rfl) c) h
theorem ref_Lower_loop (s : List UInt8) (hl : s.length ≤ 16777216) : ∀ (k i : Nat) (l : List UInt8), i ≤ s.length → s.length - i < k → l = (s.take i).map loT ++ s.drop i → ref03_Lower_L32 k (i : Int) l = some (s.map loT)
  | 0, i, l, _, hk, _ => by omega
  | k + 1, i, l, hi, hk, ht => by
    simp only [ref03_Lower_L32, decide_eq_true_eq]
    have hlen : ((s.take i).map loT).length = i := by simp; omega
    have hll : l.length = s.length := by rw [ht, List.length_append, hlen, List.length_drop]; omega
    by_cases hlt : i < s.length
    · have hx : l[i]? = some s[i] := by
        rw [ht, List.getElem?_append_right (by omega), hlen, Nat.sub_self, drop_step hlt]; rfl
      have hnx : (s.take (i + 1)).map loT ++ s.drop (i + 1) = l.set i (loT s[i]) := by
        rw [ht, List.set_append_right _ _ (by omega), hlen, Nat.sub_self, drop_step hlt, List.set_cons_zero, List.take_add_one, List.getElem?_eq_getElem hlt, List.map_append]
        simp
      have hsame : loT s[i] = s[i] → l.set i (loT s[i]) = l := fun e => by
        rw [e]; exact (List.getElem?_eq_some_iff.1 hx).2 ▸ List.set_getElem_self _
      have ih := fun (l' : List UInt8) (e : l' = l.set i (loT s[i])) => ref_Lower_loop s hl k (i + 1) l' (by omega) (by omega) (by rw [e, hnx])
      rw [if_pos (by omega), ixL_nat, hx]
      simp only [Option.bind_some, Int.toNat_natCast]
      have e1 : b2i (bC 65) = 65 := rfl
      have e2 : b2i (bC 90) = 90 := rfl
      rw [e1, e2, iadd64 (by omega) (by omega), ← Int.natCast_add_one]
      by_cases h : 65 ≤ b2i s[i] ∧ b2i s[i] ≤ 90
      · rw [if_pos h.1, decide_eq_true h.2]
        simp only [Option.bind_some, if_true]
        exact ih _ (by rw [low_alt _ h])
      · have hs : loT s[i] = s[i] := by unfold loT; rw [if_neg h]
        by_cases h1 : 65 ≤ b2i s[i]
        · rw [if_pos h1, decide_eq_false (fun h2 => h ⟨h1, h2⟩)]
          simp only [Option.bind_some, Bool.false_eq_true, if_false]
          exact ih _ (hsame hs).symm
        · rw [if_neg h1]
          simp only [Option.bind_some, Bool.false_eq_true, if_false]
          exact ih _ (hsame hs).symm
    · rw [if_neg (by omega)]
      rw [ht, List.take_of_length_le (by omega), List.drop_eq_nil_of_le (by omega), List.append_nil]
theorem ref_Lower_eq {s : List UInt8} (hl : s.length ≤ 16777216) : ref03_Lower s = some (lowT s) := by
  unfold ref03_Lower lowT
  rw [szC_ok (by omega)]
  have := ref_Lower_loop s hl 140737488355328 0 s (by omega) (by omega) (by simp)
  simp only [Int.natCast_zero] at this
  simp only [Option.bind_some, this]
def sameT (a b : List UInt8) : Bool := decide (lowT a = lowT b)
theorem Same_eq {a b : List UInt8} (ha : a.length ≤ 16777216) (hb : b.length ≤ 16777216) : lex_Same a b = some (sameT a b) := by
  unfold lex_Same
  rw [Lower_eq ha, Lower_eq hb]; rfl
theorem ref_Same_eq {a b : List UInt8} (ha : a.length ≤ 16777216) (hb : b.length ≤ 16777216) : ref03_Same a b = some (sameT a b) := by
  unfold ref03_Same
  rw [ref_Lower_eq ha, ref_Lower_eq hb]; rfl

/-! blanks -/
/-- without the blanks at the end -/
def cutR (s : List UInt8) : List UInt8 := (s.reverse.dropWhile blT).reverse
def cutL (s : List UInt8) : List UInt8 := s.dropWhile blT
def trimT (s : List UInt8) : List UInt8 := cutR (cutL s)
theorem cutL_len (s : List UInt8) : (cutL s).length ≤ s.length := (List.dropWhile_sublist _).length_le
theorem cutR_len (s : List UInt8) : (cutR s).length ≤ s.length := by
  unfold cutR
  rw [List.length_reverse]
  exact Nat.le_trans (List.dropWhile_sublist _).length_le (by rw [List.length_reverse]; exact Nat.le_refl _)
theorem trimT_len (s : List UInt8) : (trimT s).length ≤ s.length := Nat.le_trans (cutR_len _) (cutL_len _)
theorem cutL_mid {a m : List UInt8} (ha : ∀ c ∈ a, blT c = true) (hm : ∀ c p, m = c :: p → blT c = false) : cutL (a ++ m) = m := by
  unfold cutL
  induction a with
  | nil =>
    cases m with
    | nil => rfl
    | cons c p => exact List.dropWhile_cons_of_neg (by rw [hm c p rfl]; simp)
  | cons c a ih =>
    rw [List.cons_append, List.dropWhile_cons_of_pos (ha c (by simp))]
    exact ih fun c hc => ha c (by simp [hc])
theorem cutR_mid {b m : List UInt8} (hb : ∀ c ∈ b, blT c = true) (hm : ∀ q c, m = q ++ [c] → blT c = false) : cutR (m ++ b) = m := by
  unfold cutR
  have := cutL_mid (a := b.reverse) (m := m.reverse) (fun c hc => hb c (List.mem_reverse.1 hc)) (fun c p e => hm p.reverse c (by have := congrArg List.reverse e; simpa using this))
  unfold cutL at this
  rw [List.reverse_append, this, List.reverse_reverse]
/-- a text is blanks, a middle that neither begins nor ends with one, blanks -/
theorem trim_parts (s : List UInt8) : ∃ a b, s = a ++ trimT s ++ b ∧ (∀ c ∈ a, blT c = true) ∧ (∀ c ∈ b, blT c = true) ∧ (∀ c p, trimT s = c :: p → blT c = false) ∧ ∀ q c, trimT s = q ++ [c] → blT c = false := by
  have hL : s = s.takeWhile blT ++ cutL s := (List.takeWhile_append_dropWhile).symm
  have hR : cutL s = cutR (cutL s) ++ ((cutL s).reverse.takeWhile blT).reverse := by
    unfold cutR
    rw [← List.reverse_append, List.takeWhile_append_dropWhile, List.reverse_reverse]
  have tw : ∀ (l : List UInt8), ∀ c ∈ l.takeWhile blT, blT c = true := fun l c hc => by
    have := List.all_takeWhile (p := blT) (l := l)
    exact List.all_eq_true.1 this c hc
  have dw : ∀ (l : List UInt8) c p, l.dropWhile blT = c :: p → blT c = false := fun l => by
    induction l with
    | nil => intro c p h; simp at h
    | cons x l ih =>
      intro c p h
      rw [List.dropWhile_cons] at h
      split at h
      · exact ih c p h
      · rename_i hx; cases h; simpa using hx
  refine ⟨s.takeWhile blT, ((cutL s).reverse.takeWhile blT).reverse, ?_, tw s, fun c hc => tw _ c (List.mem_reverse.1 hc), fun c p h => ?_, fun q c h => ?_⟩
  · show s = _ ++ cutR (cutL s) ++ _
    rw [List.append_assoc, ← hR]; exact hL
  · have h' : cutR (cutL s) = c :: p := h
    rw [h'] at hR
    exact dw s c _ hR
  · have h' : ((cutL s).reverse.dropWhile blT).reverse = q ++ [c] := h
    have := congrArg List.reverse h'
    rw [List.reverse_reverse, List.reverse_append] at this
    exact dw _ c _ this
theorem trim_mid {a m b : List UInt8} (ha : ∀ c ∈ a, blT c = true) (hb : ∀ c ∈ b, blT c = true) (h1 : ∀ c p, m = c :: p → blT c = false) (h2 : ∀ q c, m = q ++ [c] → blT c = false) : trimT (a ++ m ++ b) = m := by
  unfold trimT
  cases m with
  | nil =>
    have : cutL (a ++ [] ++ b) = [] := by
      have := cutL_mid (a := a ++ b) (m := []) (fun c hc => by rcases List.mem_append.1 hc with h | h; exact ha c h; exact hb c h) (fun c p h => by cases h)
      simpa using this
    rw [this]; rfl
  | cons x p =>
    rw [List.append_assoc, cutL_mid ha (fun c q e => by cases e; exact h1 x p rfl)]
    exact cutR_mid hb h2
theorem trim_id {m : List UInt8} (h1 : ∀ c p, m = c :: p → blT c = false) (h2 : ∀ q c, m = q ++ [c] → blT c = false) : trimT m = m := by
  have := trim_mid (a := []) (b := []) (m := m) (by simp) (by simp) h1 h2
  simpa using this
theorem trim_trim (s : List UInt8) : trimT (trimT s) = trimT s := by
  obtain ⟨a, b, _, _, _, h1, h2⟩ := trim_parts s
  exact trim_id h1 h2
theorem trimS_eq (s : List UInt8) : Lib.trimS s [32, 9] = trimT s := by
  obtain ⟨a, b, hs, ha, hb, h1, h2⟩ := trim_parts s
  have e : Lib.trimS s [32, 9] = cutL (cutR s) := rfl
  rw [e]
  generalize trimT s = m at *
  subst hs
  cases m with
  | nil =>
    have : cutR (a ++ [] ++ b) = [] := by
      have := cutR_mid (b := a ++ b) (m := []) (fun c hc => by rcases List.mem_append.1 hc with h | h; exact ha c h; exact hb c h) (fun q c h => by simp at h)
      simpa using this
    rw [this]; rfl
  | cons x p =>
    rw [cutR_mid hb (fun q c e => ?_)]
    · exact cutL_mid ha h1
    · have hq : x :: p = (x :: p).dropLast ++ [(x :: p).getLast (by simp)] := (List.dropLast_concat_getLast (by simp)).symm
      generalize (x :: p).getLast (by simp) = y at hq
      generalize (x :: p).dropLast = q' at hq
      have hy := h2 q' y hq
      rw [hq, ← List.append_assoc] at e
      have := List.append_inj_right' e rfl
      cases this
      exact hy
theorem Trim_eq {s : List UInt8} (hl : s.length ≤ 16777216) : lex_Trim s = some (trimT s) := by
  unfold lex_Trim trimX
  rw [if_pos ⟨by decide, by decide, by omega⟩, trimS_eq]; rfl
theorem trimLeft_eq (s : List UInt8) : trimLeftX s [32, 9] = some (cutL s) := by
  unfold trimLeftX
  rw [if_pos ⟨by decide, by decide⟩]; rfl
theorem ref_cutL_loop : ∀ (k : Nat) (s : List UInt8), s.length ≤ 16777216 → s.length < k → ref03_Trim_L10 k s = some (cutL s)
  | 0, s, _, h => by omega
  | k + 1, [], _, _ => rfl
  | k + 1, c :: s, hl, h => by
    simp only [List.length_cons] at hl h
    have e : slL (c :: s) (1 : Int) ((c :: s).length : Int) = some s := by
      have := slL_from (xs := c :: s) (a := 1) (by simp); simpa using this
    simp only [ref03_Trim_L10, decide_eq_true_eq]
    rw [if_pos (by simp)]
    have e0 : ixL (c :: s) 0 = some c := rfl
    rw [e0]
    simp only [Option.bind_some, ref_blank_eq]
    unfold cutL
    rw [List.dropWhile_cons]
    cases hb : blT c with
    | true =>
      simp only [if_true, e, Option.bind_some]
      exact ref_cutL_loop k s (by omega) (by omega)
    | false => simp
theorem ref_cutR_loop : ∀ (k : Nat) (s : List UInt8), s.length ≤ 16777216 → s.length < k → ref03_Trim_L32 k s = some (cutR s)
  | 0, s, _, h => by omega
  | k + 1, s, hl, h => by
    simp only [ref03_Trim_L32, decide_eq_true_eq]
    rcases List.eq_nil_or_concat s with rfl | ⟨q, c, rfl⟩
    · simp [cutR]
    · simp only [List.concat_eq_append] at *
      have hql : (q ++ [c]).length = q.length + 1 := by simp
      have e : isub .i64 ((q ++ [c]).length : Int) 1 = (q.length : Int) := by rw [isub64 (by omega) (by omega)]; omega
      have e1 : ixL (q ++ [c]) (q.length : Int) = some c := by rw [ixL_nat]; simp
      have e2 : slL (q ++ [c]) 0 (q.length : Int) = some q := by rw [slL_to (by simp)]; simp
      have e3 : cutR (q ++ [c]) = if blT c then cutR q else q ++ [c] := by
        unfold cutR
        rw [List.reverse_append]
        simp only [List.reverse_cons, List.reverse_nil, List.nil_append, List.singleton_append, List.dropWhile_cons]
        split <;> simp
      rw [if_pos (by omega), e, e1, e3]
      simp only [Option.bind_some, ref_blank_eq]
      cases hb : blT c with
      | true =>
        simp only [if_true, e2, Option.bind_some]
        exact ref_cutR_loop k q (by omega) (by omega)
      | false => simp
theorem ref_Trim_eq {s : List UInt8} (hl : s.length ≤ 16777216) : ref03_Trim s = some (trimT s) := by
  unfold ref03_Trim
  have := cutL_len s
  rw [ref_cutL_loop _ s hl (by omega)]
  simp only [Option.bind_some]
  rw [ref_cutR_loop _ _ (by omega) (by omega)]
  rfl
end Go.Proofs.YteahieldmfehlaaDoor
