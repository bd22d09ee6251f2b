/- lex, plain: bytes, words, blanks. -/
import Derived.Test.YtcikflhenbpdiaaDoorPu
import Derived.Test.YtcikflhenbpdiaaDoorGB
import Derived.Test.YtcikflhenbpdiaaDoorGD
import Derived.Test.YtcikflhenbpdiaaDoorLibL
namespace Go.Proofs.YtcikflhenbpdiaaDoor
open Go.Av
set_option linter.unusedVariables false
set_option linter.unusedSimpArgs false
set_option maxRecDepth 100000
/-- what holds of all 256 bytes, told one by one -/
theorem all256 {p : UInt8 → Bool} (h : (List.range 256).all (fun n => p (UInt8.ofNat n)) = true) (c : UInt8) : p c = true := by
  have := List.all_eq_true.1 h c.toNat (List.mem_range.2 c.toNat_lt)
  rwa [UInt8.ofNat_toNat] at this
theorem drop_step {α : Type} {l : List α} {i : Nat} (h : i < l.length) : l.drop i = l[i] :: l.drop (i + 1) := by
  rw [List.drop_eq_getElem_cons h]
def tchT (c : UInt8) : Bool := ([33, 35, 36, 37, 38, 39, 42, 43, 45, 46, 94, 95, 96, 124, 126] : List UInt8).contains c || (decide (48 ≤ c.toNat) && decide (c.toNat ≤ 57)) || (decide (65 ≤ c.toNat) && decide (c.toNat ≤ 90)) || (decide (97 ≤ c.toNat) && decide (c.toNat ≤ 122))
def quoT (c : UInt8) : Bool := c == 9 || (decide (32 ≤ c.toNat) && c != 127)
theorem quotable_eq (c : UInt8) : lex_quotable c = some (quoT c) := of_decide_eq_true (all256 (p := fun c => decide (lex_quotable c = some (quoT c))) (by kernel_rfl) c)
def blT (c : UInt8) : Bool := ([32, 9] : List UInt8).contains c
def loT (c : UInt8) : UInt8 := if 65 ≤ b2i c ∧ b2i c ≤ 90 then c + bC 32 else c
theorem ref_quotable_eq (c : UInt8) : ref03_quotable c = some (quoT c) := of_decide_eq_true (all256 (p := fun c => decide (ref03_quotable c = some (quoT c))) (by kernel_rfl) c)
theorem ref_blank_eq (c : UInt8) : ref03_blank c = some (blT c) := of_decide_eq_true (all256 (p := fun c => decide (ref03_blank c = some (blT c))) (by kernel_rfl) c)

/-! words -/
def wordT (s : List UInt8) : Nat := (s.takeWhile tchT).length
theorem wordT_nil : wordT [] = 0 := rfl
theorem wordT_cons (c : UInt8) (s : List UInt8) : wordT (c :: s) = if tchT c then wordT s + 1 else 0 := by
  unfold wordT
  rw [List.takeWhile_cons]
  split <;> simp
theorem wordT_le (s : List UInt8) : wordT s ≤ s.length := (List.takeWhile_sublist _).length_le
theorem wordT_all : ∀ s : List UInt8, wordT s = s.length ↔ s.all tchT = true
  | [] => by simp [wordT_nil]
  | c :: s => by
    rw [wordT_cons, List.all_cons, Bool.and_eq_true, ← wordT_all s]
    cases tchT c <;> simp
def tokT (s : List UInt8) : Bool := !decide (s = []) && s.all tchT

/-! small letters -/
def lowT (s : List UInt8) : List UInt8 := s.map loT
theorem lowT_len (s : List UInt8) : (lowT s).length = s.length := by simp [lowT]
theorem Lower_loop (s : List UInt8) (hl : s.length ≤ 16777216) : ∀ (k i : Nat) (l : List UInt8), i ≤ s.length → s.length - i < k → l = (s.take i).map loT ++ s.drop i → lex_Lower_L20 s k (i : Int) l = some (s.map loT)
  | 0, i, l, _, hk, _ => by omega
  | k + 1, i, l, hi, hk, ht => by
    simp only [lex_Lower_L20, decide_eq_true_eq]
    have hlen : ((s.take i).map loT).length = i := by simp; omega
    by_cases hlt : i < s.length
    · have hx : l[i]? = some s[i] := by
        rw [ht, List.getElem?_append_right (by omega), hlen, Nat.sub_self, drop_step hlt]; rfl
      have hnx : (s.take (i + 1)).map loT ++ s.drop (i + 1) = l.set i (loT s[i]) := by
        rw [ht, List.set_append_right _ _ (by omega), hlen, Nat.sub_self, drop_step hlt, List.set_cons_zero, List.take_add_one, List.getElem?_eq_getElem hlt, List.map_append]
        simp
      have hsame : loT s[i] = s[i] → l.set i (loT s[i]) = l := fun e => by
        rw [e]; exact (List.getElem?_eq_some_iff.1 hx).2 ▸ List.set_getElem_self _
      have ih := fun (l' : List UInt8) (e : l' = l.set i (loT s[i])) => Lower_loop s hl k (i + 1) l' (by omega) (by omega) (by rw [e, hnx])
      rw [if_pos (by omega), ixL_nat, hx]
      simp only [Option.bind_some, Int.toNat_natCast]
      have e1 : b2i (bC 65) = 65 := rfl
      have e2 : b2i (bC 90) = 90 := rfl
      rw [e1, e2, iadd64 (by omega) (by omega), ← Int.natCast_add_one]
      by_cases h : 65 ≤ b2i s[i] ∧ b2i s[i] ≤ 90
      · have hs : loT s[i] = s[i] + bC 32 := by unfold loT; rw [if_pos h]
        rw [if_pos h.1, decide_eq_true h.2]
        simp only [Option.bind_some, if_true]
        exact ih _ (by rw [hs])
      · have hs : loT s[i] = s[i] := by unfold loT; rw [if_neg h]
        by_cases h1 : 65 ≤ b2i s[i]
        · rw [if_pos h1, decide_eq_false (fun h2 => h ⟨h1, h2⟩)]
          simp only [Option.bind_some, Bool.false_eq_true, if_false]
          exact ih _ (hsame hs).symm
        · rw [if_neg h1]
          simp only [Option.bind_some, Bool.false_eq_true, if_false]
          exact ih _ (hsame hs).symm
    · rw [if_neg (by omega)]
      rw [ht, List.take_of_length_le (by omega), List.drop_eq_nil_of_le (by omega), List.append_nil]
theorem Lower_eq {s : List UInt8} (hl : s.length ≤ 16777216) : lex_Lower s = some (lowT s) := by
  unfold lex_Lower lowT
  rw [szC_ok (by omega)]
  have := Lower_loop s hl 1099511627776 0 s (by omega) (by omega) (by simp)
  simp only [Int.natCast_zero] at this
  simp only [Option.bind_some, this]
theorem low_alt (c : UInt8) (h : 65 ≤ b2i c ∧ b2i c ≤ 90) : (c - bC 65) + bC 97 = loT c := of_decide_eq_true (all256 (p := fun c => decide ((65 ≤ b2i c ∧ b2i c ≤ 90) → (c - bC 65) + bC 97 = loT c)) (by kernel_rfl) c) h
theorem ref_Lower_loop (s : List UInt8) (hl : s.length ≤ 16777216) : ∀ (k i : Nat) (l : List UInt8), i ≤ s.length → s.length - i < k → l = (s.take i).map loT ++ s.drop i → ref03_Lower_L32 k (i : Int) l = some (s.map loT)
  | 0, i, l, _, hk, _ => by omega
  | k + 1, i, l, hi, hk, ht => by
    simp only [ref03_Lower_L32, decide_eq_true_eq]
    have hlen : ((s.take i).map loT).length = i := by simp; omega
    have hll : l.length = s.length := by rw [ht, List.length_append, hlen, List.length_drop]; omega
    by_cases hlt : i < s.length
    · have hx : l[i]? = some s[i] := by
        rw [ht, List.getElem?_append_right (by omega), hlen, Nat.sub_self, drop_step hlt]; rfl
      have hnx : (s.take (i + 1)).map loT ++ s.drop (i + 1) = l.set i (loT s[i]) := by
        rw [ht, List.set_append_right _ _ (by omega), hlen, Nat.sub_self, drop_step hlt, List.set_cons_zero, List.take_add_one, List.getElem?_eq_getElem hlt, List.map_append]
        simp
      have hsame : loT s[i] = s[i] → l.set i (loT s[i]) = l := fun e => by
        rw [e]; exact (List.getElem?_eq_some_iff.1 hx).2 ▸ List.set_getElem_self _
      have ih := fun (l' : List UInt8) (e : l' = l.set i (loT s[i])) => ref_Lower_loop s hl k (i + 1) l' (by omega) (by omega) (by rw [e, hnx])
      rw [if_pos (by omega), ixL_nat, hx]
      simp only [Option.bind_some, Int.toNat_natCast]
      have e1 : b2i (bC 65) = 65 := rfl
      have e2 : b2i (bC 90) = 90 := rfl
      rw [e1, e2, iadd64 (by omega) (by omega), ← Int.natCast_add_one]
      by_cases h : 65 ≤ b2i s[i] ∧ b2i s[i] ≤ 90
      · rw [if_pos h.1, decide_eq_true h.2]
        simp only [Option.bind_some, if_true]
        exact ih _ (by rw [low_alt _ h])
      · have hs : loT s[i] = s[i] := by unfold loT; rw [if_neg h]
        by_cases h1 : 65 ≤ b2i s[i]
        · rw [if_pos h1, decide_eq_false (fun h2 => h ⟨h1, h2⟩)]
          simp only [Option.bind_some, Bool.false_eq_true, if_false]
          exact ih _ (hsame hs).symm
        · rw [if_neg h1]
          simp only [Option.bind_some, Bool.false_eq_true, if_false]
          exact ih _ (hsame hs).symm
    · rw [if_neg (by omega)]
      rw [ht, List.take_of_length_le (by omega), List.drop_eq_nil_of_le (by omega), List.append_nil]
theorem ref_Lower_eq {s : List UInt8} (hl : s.length ≤ 16777216) : ref03_Lower s = some (lowT s) := by
  unfold ref03_Lower lowT
  rw [szC_ok (by omega)]
  have := ref_Lower_loop s hl 1099511627776 0 s (by omega) (by omega) (by simp)
  simp only [Int.natCast_zero] at this
  simp only [Option.bind_some, this]
def sameT (a b : List UInt8) : Bool := decide (lowT a = lowT b)
theorem Same_eq {a b : List UInt8} (ha : a.length ≤ 16777216) (hb : b.length ≤ 16777216) : lex_Same a b = some (sameT a b) := by
  unfold lex_Same
  rw [Lower_eq ha, Lower_eq hb]; rfl
theorem ref_Same_eq {a b : List UInt8} (ha : a.length ≤ 16777216) (hb : b.length ≤ 16777216) : ref03_Same a b = some (sameT a b) := by
  unfold ref03_Same
  rw [ref_Lower_eq ha, ref_Lower_eq hb]; rfl

/-! blanks -/
/-- without the blanks at the end -/
def cutR (s : List UInt8) : List UInt8 := (s.reverse.dropWhile blT).reverse
def cutL (s : List UInt8) : List UInt8 := s.dropWhile blT
def trimT (s : List UInt8) : List UInt8 := cutR (cutL s)
theorem cutL_len (s : List UInt8) : (cutL s).length ≤ s.length := (List.dropWhile_sublist _).length_le
theorem cutR_len (s : List UInt8) : (cutR s).length ≤ s.length := by
  unfold cutR
  rw [List.length_reverse]
  exact Nat.le_trans (List.dropWhile_sublist _).length_le (by rw [List.length_reverse]; exact Nat.le_refl _)
theorem trimT_len (s : List UInt8) : (trimT s).length ≤ s.length := Nat.le_trans (cutR_len _) (cutL_len _)
theorem cutL_mid {a m : List UInt8} (ha : ∀ c ∈ a, blT c = true) (hm : ∀ c p, m = c :: p → blT c = false) : cutL (a ++ m) = m := by
  unfold cutL
  induction a with
  | nil =>
    cases m with
    | nil => rfl
    | cons c p => exact List.dropWhile_cons_of_neg (by rw [hm c p rfl]; simp)
  | cons c a ih =>
    rw [List.cons_append, List.dropWhile_cons_of_pos (ha c (by simp))]
    exact ih fun c hc => ha c (by simp [hc])
theorem cutR_mid {b m : List UInt8} (hb : ∀ c ∈ b, blT c = true) (hm : ∀ q c, m = q ++ [c] → blT c = false) : cutR (m ++ b) = m := by
  unfold cutR
  have := cutL_mid (a := b.reverse) (m := m.reverse) (fun c hc => hb c (List.mem_reverse.1 hc)) (fun c p e => hm p.reverse c (by have := congrArg List.reverse e; simpa using this))
  unfold cutL at this
  rw [List.reverse_append, this, List.reverse_reverse]
/-- a text is blanks, a middle that neither begins nor ends with one, blanks -/
theorem trim_parts (s : List UInt8) : ∃ a b, s = a ++ trimT s ++ b ∧ (∀ c ∈ a, blT c = true) ∧ (∀ c ∈ b, blT c = true) ∧ (∀ c p, trimT s = c :: p → blT c = false) ∧ ∀ q c, trimT s = q ++ [c] → blT c = false := by
  have hL : s = s.takeWhile blT ++ cutL s := (List.takeWhile_append_dropWhile).symm
  have hR : cutL s = cutR (cutL s) ++ ((cutL s).reverse.takeWhile blT).reverse := by
    unfold cutR
    rw [← List.reverse_append, List.takeWhile_append_dropWhile, List.reverse_reverse]
  have tw : ∀ (l : List UInt8), ∀ c ∈ l.takeWhile blT, blT c = true := fun l c hc => by
    have := List.all_takeWhile (p := blT) (l := l)
    exact List.all_eq_true.1 this c hc
  have dw : ∀ (l : List UInt8) c p, l.dropWhile blT = c :: p → blT c = false := fun l => by
    induction l with
    | nil => intro c p h; simp at h
    | cons x l ih =>
      intro c p h
      rw [List.dropWhile_cons] at h
      split at h
      · exact ih c p h
      · rename_i hx; cases h; simpa using hx
  refine ⟨s.takeWhile blT, ((cutL s).reverse.takeWhile blT).reverse, ?_, tw s, fun c hc => tw _ c (List.mem_reverse.1 hc), fun c p h => ?_, fun q c h => ?_⟩
  · show s = _ ++ cutR (cutL s) ++ _
    rw [List.append_assoc, ← hR]; exact hL
  · have h' : cutR (cutL s) = c :: p := h
    rw [h'] at hR
    exact dw s c _ hR
  · have h' : ((cutL s).reverse.dropWhile blT).reverse = q ++ [c] := h
    have := congrArg List.reverse h'
    rw [List.reverse_reverse, List.reverse_append] at this
    exact dw _ c _ this
theorem trim_mid {a m b : List UInt8} (ha : ∀ c ∈ a, blT c = true) (hb : ∀ c ∈ b, blT c = true) (h1 : ∀ c p, m = c :: p → blT c = false) (h2 : ∀ q c, m = q ++ [c] → blT c = false) : trimT (a ++ m ++ b) = m := by
  unfold trimT
  cases m with
  | nil =>
    have : cutL (a ++ [] ++ b) = [] := by
      have := cutL_mid (a := a ++ b) (m := []) (fun c hc => by rcases List.mem_append.1 hc with h | h; exact ha c h; exact hb c h) (fun c p h => by cases h)
      simpa using this
    rw [this]; rfl
  | cons x p =>
    rw [List.append_assoc, cutL_mid ha (fun c q e => by cases e; exact h1 x p rfl)]
    exact cutR_mid hb h2
theorem trim_id {m : List UInt8} (h1 : ∀ c p, m = c :: p → blT c = false) (h2 : ∀ q c, m = q ++ [c] → blT c = false) : trimT m = m := by
  have := trim_mid (a := []) (b := []) (m := m) (by simp) (by simp) h1 h2
  simpa using this
theorem trim_trim (s : List UInt8) : trimT (trimT s) = trimT s := by
  obtain ⟨a, b, _, _, _, h1, h2⟩ := trim_parts s
  exact trim_id h1 h2
theorem trimS_eq (s : List UInt8) : Lib.trimS s [32, 9] = trimT s := by
  obtain ⟨a, b, hs, ha, hb, h1, h2⟩ := trim_parts s
  have e : Lib.trimS s [32, 9] = cutL (cutR s) := rfl
  rw [e]
  generalize trimT s = m at *
  subst hs
  cases m with
  | nil =>
    have : cutR (a ++ [] ++ b) = [] := by
      have := cutR_mid (b := a ++ b) (m := []) (fun c hc => by rcases List.mem_append.1 hc with h | h; exact ha c h; exact hb c h) (fun q c h => by simp at h)
      simpa using this
    rw [this]; rfl
  | cons x p =>
    rw [cutR_mid hb (fun q c e => ?_)]
    · exact cutL_mid ha h1
    · have hq : x :: p = (x :: p).dropLast ++ [(x :: p).getLast (by simp)] := (List.dropLast_concat_getLast (by simp)).symm
      generalize (x :: p).getLast (by simp) = y at hq
      generalize (x :: p).dropLast = q' at hq
      have hy := h2 q' y hq
      rw [hq, ← List.append_assoc] at e
      have := List.append_inj_right' e rfl
      cases this
      exact hy
theorem Trim_eq {s : List UInt8} (hl : s.length ≤ 16777216) : lex_Trim s = some (trimT s) := by
  unfold lex_Trim trimX
  rw [if_pos ⟨by decide, by decide, by omega⟩, trimS_eq]; rfl
theorem ref_cutL_loop : ∀ (k : Nat) (s : List UInt8), s.length ≤ 16777216 → s.length < k → ref03_Trim_L10 k s = some (cutL s)
  | 0, s, _, h => by omega
  | k + 1, [], _, _ => rfl
  | k + 1, c :: s, hl, h => by
    simp only [List.length_cons] at hl h
    have e : slL (c :: s) (1 : Int) ((c :: s).length : Int) = some s := by
      have := slL_from (xs := c :: s) (a := 1) (by simp); simpa using this
    simp only [ref03_Trim_L10, decide_eq_true_eq]
    rw [if_pos (by simp)]
    have e0 : ixL (c :: s) 0 = some c := rfl
    rw [e0]
    simp only [Option.bind_some, ref_blank_eq]
    unfold cutL
    rw [List.dropWhile_cons]
    cases hb : blT c with
    | true =>
      simp only [if_true, e, Option.bind_some]
      exact ref_cutL_loop k s (by omega) (by omega)
    | false => simp
theorem ref_cutR_loop : ∀ (k : Nat) (s : List UInt8), s.length ≤ 16777216 → s.length < k → ref03_Trim_L32 k s = some (cutR s)
  | 0, s, _, h => by omega
  | k + 1, s, hl, h => by
    simp only [ref03_Trim_L32, decide_eq_true_eq]
    rcases List.eq_nil_or_concat s with rfl | ⟨q, c, rfl⟩
    · simp [cutR]
    · simp only [List.concat_eq_append] at *
      have hql : (q ++ [c]).length = q.length + 1 := by simp
      have e : isub .i64 ((q ++ [c]).length : Int) 1 = (q.length : Int) := by rw [isub64 (by omega) (by omega)]; omega
      have e1 : ixL (q ++ [c]) (q.length : Int) = some c := by rw [ixL_nat]; simp
      have e2 : slL (q ++ [c]) 0 (q.length : Int) = some q := by rw [slL_to (by simp)]; simp
      have e3 : cutR (q ++ [c]) = if blT c then cutR q else q ++ [c] := by
        unfold cutR
        rw [List.reverse_append]
        simp only [List.reverse_cons, List.reverse_nil, List.nil_append, List.singleton_append, List.dropWhile_cons]
        split <;> simp
      rw [if_pos (by omega), e, e1, e3]
      simp only [Option.bind_some, ref_blank_eq]
      cases hb : blT c with
      | true =>
        simp only [if_true, e2, Option.bind_some]
        exact ref_cutR_loop k q (by omega) (by omega)
      | false => simp
theorem ref_Trim_eq {s : List UInt8} (hl : s.length ≤ 16777216) : ref03_Trim s = some (trimT s) := by
  unfold ref03_Trim
  have := cutL_len s
  rw [ref_cutL_loop _ s hl (by omega)]
  simp only [Option.bind_some]
  rw [ref_cutR_loop _ _ (by omega) (by omega)]
  rfl
end Go.Proofs.YtcikflhenbpdiaaDoor
namespace Go.Proofs.YtcikflhenbpdiaaDoor
open Go.Av
set_option linter.unusedVariables false
set_option linter.unusedSimpArgs false
theorem hasPrefix1 (s : List UInt8) (c : UInt8) : strings_HasPrefix s [c] = some (decide (s.head? = some c)) := by
  unfold strings_HasPrefix stringslite_HasPrefix
  cases s with
  | nil => rfl
  | cons x s =>
    simp only [decide_eq_true_eq]
    rw [if_pos (by simp; omega)]
    have e : slL (x :: s) 0 (([c] : List UInt8).length : Int) = some [x] := by
      have := slL_to (xs := x :: s) (b := 1) (by simp); simpa using this
    rw [e]
    simp
def plainT (s : List UInt8) : Bool := s.all quoT

/-! unquoting -/
/-- what stands behind the opening quote: the text that is meant, and how many bytes are read -/
def uq : List UInt8 → Option (List UInt8 × Nat)
  | [] => none
  | c :: r => if c = 34 then some ([], 1) else if c = 92 then (match r with
    | [] => none
    | d :: r' => if quoT d then (uq r').map fun p => (d :: p.1, p.2 + 2) else none) else if quoT c then (uq r).map fun p => (c :: p.1, p.2 + 1) else none
theorem uq_34 (r : List UInt8) : uq (34 :: r) = some ([], 1) := by rw [uq.eq_def]; rfl
theorem uq_92n : uq [92] = none := by rw [uq.eq_def]; rfl
theorem uq_92 (d : UInt8) (r : List UInt8) : uq (92 :: d :: r) = if quoT d then (uq r).map fun p => (d :: p.1, p.2 + 2) else none := by rw [uq.eq_def]; rfl
theorem uq_o {c : UInt8} (r : List UInt8) (h1 : c ≠ 34) (h2 : c ≠ 92) : uq (c :: r) = if quoT c then (uq r).map fun p => (c :: p.1, p.2 + 1) else none := by rw [uq.eq_def]; simp only [h1, h2, if_false]
def uqR (acc : List UInt8) (i : Nat) : Option (List UInt8 × Nat) → List UInt8 × Int × Int
  | none => ([], 0, 5)
  | some p => (acc ++ p.1, ((i + p.2 : Nat) : Int), 0)
def unqT (s : List UInt8) : List UInt8 × Int × Int := match s with
  | c :: r => if c = 34 then uqR [] 1 (uq r) else ([], 0, 5)
  | [] => ([], 0, 5)
theorem uqR_one (acc : List UInt8) (i : Nat) (c : UInt8) (o : Option (List UInt8 × Nat)) : uqR acc i (o.map fun p => (c :: p.1, p.2 + 1)) = uqR (acc ++ [c]) (i + 1) o := by
  cases o with
  | none => rfl
  | some p => simp only [Option.map_some, uqR, List.append_assoc, List.singleton_append]; rw [show i + (p.2 + 1) = i + 1 + p.2 by omega]
theorem uqR_two (acc : List UInt8) (i : Nat) (c : UInt8) (o : Option (List UInt8 × Nat)) : uqR acc i (o.map fun p => (c :: p.1, p.2 + 2)) = uqR (acc ++ [c]) (i + 2) o := by
  cases o with
  | none => rfl
  | some p => simp only [Option.map_some, uqR, List.append_assoc, List.singleton_append]; rw [show i + (p.2 + 2) = i + 2 + p.2 by omega]
theorem b34 (c : UInt8) : b2i c = b2i (bC 34) ↔ c = 34 := b2i_inj
theorem b92 (c : UInt8) : b2i c = b2i (bC 92) ↔ c = 92 := b2i_inj
def outU : Sum (List UInt8 × Int × Int) Unit → List UInt8 × Int × Int
  | .inl r => r
  | .inr _ => ([], 0, 5)
theorem Unquote_loop (s : List UInt8) (hl : s.length ≤ 16777216) : ∀ (k i : Nat) (acc : List UInt8), i ≤ s.length → s.length - i < k → acc.length ≤ i →
    ∃ o, lex_Unquote_L52 s k (i : Int) acc = some o ∧ outU o = uqR acc i (uq (s.drop i))
  | 0, i, _, _, hk, _ => by omega
  | k + 1, i, acc, hi, hk, ha => by
    simp only [lex_Unquote_L52, decide_eq_true_eq, b34, b92]
    by_cases hlt : i < s.length
    · rw [if_pos (by omega), ixL_in hlt]
      simp only [Option.bind_some]
      rw [iadd64 (by omega) (by omega), ← Int.natCast_add_one, drop_step hlt]
      by_cases h1 : s[i] = 34
      · rw [if_pos h1, h1, uq_34]
        exact ⟨_, rfl, by simp [outU, uqR]⟩
      · rw [if_neg h1]
        by_cases h2 : s[i] = 92
        · rw [if_pos h2]
          by_cases hlt2 : i + 1 < s.length
          · rw [decide_eq_true (by omega), drop_step hlt2, h2, uq_92]
            simp only [Option.bind_some, if_true]
            rw [ixL_in hlt2]
            simp only [Option.bind_some, quotable_eq]
            cases hq : quoT s[i + 1] with
            | true =>
              simp only [Bool.not_true, Bool.false_eq_true, if_false, if_true]
              rw [szC_ok (by rw [List.length_append]; simp; omega)]
              simp only [Option.bind_some]
              rw [iadd64 (by omega) (by omega), ← Int.natCast_add_one, uqR_two]
              exact Unquote_loop s hl k (i + 2) _ (by omega) (by omega) (by rw [List.length_append]; simp; omega)
            | false =>
              simp only [Bool.not_false, if_true, Bool.false_eq_true, if_false]
              exact ⟨_, rfl, rfl⟩
          · rw [decide_eq_false (by omega), List.drop_eq_nil_of_le (by omega), h2, uq_92n]
            simp only [Option.bind_some, Bool.false_eq_true, if_false, if_true]
            exact ⟨_, rfl, rfl⟩
        · rw [uq_o _ h1 h2]
          simp only [h2, if_false, Option.bind_some, Bool.false_eq_true, quotable_eq]
          cases hq : quoT s[i] with
          | true =>
            simp only [Bool.not_true, Bool.false_eq_true, if_false, if_true]
            rw [szC_ok (by rw [List.length_append]; simp; omega)]
            simp only [Option.bind_some]
            rw [iadd64 (by omega) (by omega), ← Int.natCast_add_one, uqR_one]
            exact Unquote_loop s hl k (i + 1) _ (by omega) (by omega) (by rw [List.length_append]; simp; omega)
          | false =>
            simp only [Bool.not_false, if_true, Bool.false_eq_true, if_false]
            exact ⟨_, rfl, rfl⟩
    · rw [if_neg (by omega), List.drop_eq_nil_of_le (by omega)]
      exact ⟨_, rfl, rfl⟩
theorem Unquote_eq {s : List UInt8} (hl : s.length ≤ 16777216) : lex_Unquote s = some (unqT s) := by
  unfold lex_Unquote
  rw [hasPrefix1]
  cases s with
  | nil => rfl
  | cons c r =>
    simp only [Option.bind_some, List.head?_cons, Option.some.injEq]
    by_cases h : c = 34
    · obtain ⟨o, h1, h2⟩ := Unquote_loop (c :: r) hl 1099511627776 1 [] (by simp) (by omega) (by simp)
      simp only [h, decide_true, Bool.not_true, Bool.false_eq_true, if_false]
      rw [h] at h1
      have h1' : lex_Unquote_L52 (34 :: r) 1099511627776 1 [] = some o := by simpa using h1
      rw [h1']
      simp only [unqT, if_true]
      rw [show (c :: r).drop 1 = r from rfl] at h2
      rw [← h2]
      cases o <;> rfl
    · simp [h, unqT]
theorem ref_Unquote_loop (s : List UInt8) (hl : s.length ≤ 16777216) : ∀ (k i : Nat) (acc : List UInt8), i ≤ s.length → s.length - i < k → acc.length ≤ i →
    ∃ o, ref03_Unquote_L32 s k (i : Int) acc = some o ∧ outU o = uqR acc i (uq (s.drop i))
  | 0, i, _, _, hk, _ => by omega
  | k + 1, i, acc, hi, hk, ha => by
    simp only [ref03_Unquote_L32, decide_eq_true_eq, b34, b92]
    by_cases hlt : i < s.length
    · rw [if_pos (by omega), ixL_in hlt]
      simp only [Option.bind_some]
      rw [iadd64 (by omega) (by omega), ← Int.natCast_add_one, drop_step hlt]
      by_cases h1 : s[i] = 34
      · rw [if_pos h1, h1, uq_34]
        exact ⟨_, rfl, by simp [outU, uqR]⟩
      · rw [if_neg h1]
        by_cases h2 : s[i] = 92
        · rw [if_pos h2]
          by_cases hlt2 : i + 1 < s.length
          · rw [if_neg (by omega), drop_step hlt2, h2, uq_92, ixL_in hlt2]
            simp only [Option.bind_some, ref_quotable_eq]
            cases hq : quoT s[i + 1] with
            | true =>
              simp only [Bool.not_true, Bool.false_eq_true, if_false, if_true]
              rw [szC_ok (by rw [List.length_append]; simp; omega)]
              simp only [Option.bind_some]
              rw [iadd64 (by omega) (by omega), ← Int.natCast_add_one, uqR_two]
              exact ref_Unquote_loop s hl k (i + 2) _ (by omega) (by omega) (by rw [List.length_append]; simp; omega)
            | false =>
              simp only [Bool.not_false, if_true, Bool.false_eq_true, if_false]
              exact ⟨_, rfl, rfl⟩
          · rw [if_pos (by omega), List.drop_eq_nil_of_le (by omega), h2, uq_92n]
            exact ⟨_, rfl, rfl⟩
        · rw [uq_o _ h1 h2]
          simp only [h2, if_false, Option.bind_some, ref_quotable_eq]
          cases hq : quoT s[i] with
          | true =>
            simp only [Bool.not_true, Bool.false_eq_true, if_false, if_true]
            rw [szC_ok (by rw [List.length_append]; simp; omega)]
            simp only [Option.bind_some]
            rw [iadd64 (by omega) (by omega), ← Int.natCast_add_one, uqR_one]
            exact ref_Unquote_loop s hl k (i + 1) _ (by omega) (by omega) (by rw [List.length_append]; simp; omega)
          | false =>
            simp only [Bool.not_false, if_true, Bool.false_eq_true, if_false]
            exact ⟨_, rfl, rfl⟩
    · rw [if_neg (by omega), List.drop_eq_nil_of_le (by omega)]
      exact ⟨_, rfl, rfl⟩
theorem ref_Unquote_eq {s : List UInt8} (hl : s.length ≤ 16777216) : ref03_Unquote s = some (unqT s) := by
  unfold ref03_Unquote
  cases s with
  | nil => rfl
  | cons c r =>
    have e0 : ixL (c :: r) 0 = some c := rfl
    simp only [decide_eq_true_eq, List.cons_ne_nil, decide_false, Bool.false_eq_true, if_false, e0, Option.bind_some, b34]
    by_cases h : c = 34
    · obtain ⟨o, h1, h2⟩ := ref_Unquote_loop (c :: r) hl 1099511627776 1 [] (by simp) (by omega) (by simp)
      have h1' : ref03_Unquote_L32 (c :: r) 1099511627776 1 [] = some o := by simpa using h1
      simp only [h, decide_true, Bool.not_true, Bool.false_eq_true, if_false]
      rw [h] at h1'
      rw [h1']
      simp only [unqT, if_true]
      rw [show (c :: r).drop 1 = r from rfl] at h2
      rw [← h2]
      cases o <;> rfl
    · simp [h, unqT]
theorem uq_le : ∀ (n : Nat) (r t : List UInt8) (m : Nat), r.length ≤ n → uq r = some (t, m) → 1 ≤ m ∧ m ≤ r.length ∧ t.length < m
  | _, [], t, m, _, h => by simp [uq] at h
  | 0, c :: r, t, m, hn, h => by simp at hn
  | n + 1, c :: r, t, m, hn, h => by
    simp only [List.length_cons] at hn
    by_cases h1 : c = 34
    · subst h1; rw [uq_34] at h; cases h; simp
    · by_cases h2 : c = 92
      · subst h2
        cases r with
        | nil => rw [uq_92n] at h; cases h
        | cons d r' =>
          rw [uq_92] at h
          split at h
          · obtain ⟨p, h1, h2⟩ := Option.map_eq_some_iff.1 h
            cases h2
            simp only [List.length_cons] at hn
            have := uq_le n r' p.1 p.2 (by omega) h1
            simp only [List.length_cons]
            omega
          · cases h
      · rw [uq_o r h1 h2] at h
        split at h
        · obtain ⟨p, h1, h2⟩ := Option.map_eq_some_iff.1 h
          cases h2
          have := uq_le n r p.1 p.2 (by omega) h1
          simp only [List.length_cons]
          omega
        · cases h
end Go.Proofs.YtcikflhenbpdiaaDoor
