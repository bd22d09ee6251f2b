/- lex, plain: media types. -/
import Derived.Test.YtgngopfpnidbaaaGreatDoorV3C
namespace Go.Proofs.YtgngopfpnidbaaaGreatDoor
open Go.Av
set_option linter.unusedVariables false
set_option linter.unusedSimpArgs false
set_option maxRecDepth 100000
theorem tch_47 : tchT 47 = false := by kernel_rfl
/-- the word before the first stroke, and what follows it -/
def hdT : List UInt8 → Option (List UInt8 × List UInt8)
  | [] => none
  | b :: l => if b = 47 then some ([], l) else if tchT b then (hdT l).map fun p => (b :: p.1, p.2) else none
theorem index1_cons (c b : UInt8) (l : List UInt8) : Lib.index (b :: l) [c] = if c = b then 0 else if Lib.index l [c] = -1 then -1 else Lib.index l [c] + 1 := by
  rw [Lib.index]
  by_cases h : c = b
  · subst h; simp [List.isPrefixOf]
  · rw [if_neg (by simp [List.isPrefixOf, h]), if_neg h]
    by_cases h2 : Lib.index l [c] = -1
    · simp [h2]
    · simp [h2]
theorem cut1_nil (c : UInt8) : Lib.cut [] [c] = ([], [], false) := by
  unfold Lib.cut Lib.index
  simp
theorem cut1_cons (c b : UInt8) (l : List UInt8) : Lib.cut (b :: l) [c] = if b = c then ([], l, true) else (b :: (Lib.cut l [c]).1, (Lib.cut l [c]).2.1, (Lib.cut l [c]).2.2) := by
  have hge := Lib.index_ge l [c]
  have hi := index1_cons c b l
  by_cases h : b = c
  · subst h
    rw [if_pos rfl] at hi ⊢
    unfold Lib.cut
    rw [hi]; simp
  · rw [if_neg (fun e => h e.symm)] at hi
    rw [if_neg h]
    by_cases h2 : Lib.index l [c] = -1
    · rw [if_pos h2] at hi
      unfold Lib.cut
      rw [hi, h2]; simp
    · rw [if_neg h2] at hi
      have e : (Lib.index l [c] + 1).toNat = (Lib.index l [c]).toNat + 1 := by omega
      unfold Lib.cut
      rw [hi, if_pos (show 0 ≤ Lib.index l [c] + 1 by omega), if_pos (show 0 ≤ Lib.index l [c] by omega), e]
      simp
theorem hd_cut : ∀ r : List UInt8, hdT r = if (Lib.cut r [47]).2.2 = true ∧ (Lib.cut r [47]).1.all tchT = true then some ((Lib.cut r [47]).1, (Lib.cut r [47]).2.1) else none
  | [] => by rw [cut1_nil]; rfl
  | b :: l => by
    rw [hdT, cut1_cons, hd_cut l]
    by_cases h : b = 47
    · simp [h]
    · rw [if_neg h, if_neg h]
      simp only [List.all_cons, Bool.and_eq_true]
      by_cases ht : tchT b = true
      · by_cases h2 : (Lib.cut l [47]).2.2 = true ∧ (Lib.cut l [47]).1.all tchT = true
        · rw [if_pos ht, if_pos h2, if_pos ⟨h2.1, ht, h2.2⟩]; rfl
        · rw [if_pos ht, if_neg h2, if_neg (fun e => h2 ⟨e.1, e.2.2⟩)]; rfl
      · rw [if_neg ht, if_neg (fun e => ht e.2.1)]
theorem hd_word : ∀ r : List UInt8, hdT r = if h : wordT r < r.length then (if r[wordT r] = 47 then some (r.take (wordT r), r.drop (wordT r + 1)) else none) else none
  | [] => by rw [dif_neg (by simp)]; rfl
  | b :: l => by
    rw [hdT, hd_word l]
    by_cases h : b = 47
    · subst h
      have e : wordT (47 :: l) = 0 := by rw [wordT_cons, tch_47]; rfl
      simp [e]
    · rw [if_neg h]
      by_cases ht : tchT b = true
      · have e : wordT (b :: l) = wordT l + 1 := by rw [wordT_cons, if_pos ht]
        rw [if_pos ht]
        by_cases h2 : wordT l < l.length
        · rw [dif_pos h2, dif_pos (by rw [e]; simp; omega)]
          simp only [e, List.getElem_cons_succ, List.take_succ_cons, List.drop_succ_cons]
          split <;> rfl
        · rw [dif_neg h2, dif_neg (by rw [e]; simp; omega)]; rfl
      · have e : wordT (b :: l) = 0 := by rw [wordT_cons, if_neg ht]
        rw [if_neg ht, dif_pos (by rw [e]; simp)]
        simp [e, h]
/-- a parameter's value and what follows it; s: the whole parameter -/
def parV (s r : List UInt8) : Option ((List UInt8 × List UInt8) × List UInt8) :=
  match r with
  | [] => none
  | d :: q =>
    if d = 34 then (uq q).map fun p => ((lowT (s.take (wordT s)), p.1), q.drop p.2)
    else if wordT (d :: q) = 0 then none else some ((lowT (s.take (wordT s)), (d :: q).take (wordT (d :: q))), (d :: q).drop (wordT (d :: q)))
/-- a parameter and what follows it -/
def parT (s : List UInt8) : Option ((List UInt8 × List UInt8) × List UInt8) :=
  match s.drop (wordT s) with
  | [] => none
  | e :: r => if e = 61 then parV s r else none
theorem drop_word {s r : List UInt8} {e : UInt8} (h : s.drop (wordT s) = e :: r) : wordT s < s.length ∧ s.drop (wordT s + 1) = r ∧ s.length = wordT s + 1 + r.length := by
  have hl := congrArg List.length h
  simp at hl
  have := wordT_le s
  refine ⟨by omega, ?_, by omega⟩
  have := drop_step (l := s) (i := wordT s) (by omega)
  rw [h] at this
  exact (List.cons.inj this).2.symm
theorem par_len {s rest : List UInt8} {p : List UInt8 × List UInt8} (h : parT s = some (p, rest)) : p.1.length + p.2.length + rest.length + 1 ≤ s.length := by
  unfold parT at h
  split at h
  · exact absurd h (by simp)
  · rename_i e r hd
    obtain ⟨h1, h2, h3⟩ := drop_word hd
    split at h
    · unfold parV at h
      split at h
      · exact absurd h (by simp)
      · rename_i d q
        split at h
        · obtain ⟨x, hx, he⟩ := Option.map_eq_some_iff.1 h
          have := uq_le _ _ x.1 x.2 (Nat.le_refl _) hx
          simp only [Prod.mk.injEq] at he
          obtain ⟨rfl, rfl⟩ := he
          simp [lowT_len] at h3 ⊢
          omega
        · split at h
          · exact absurd h (by simp)
          · have := wordT_le (d :: q)
            have he := Option.some.inj h
            simp only [Prod.mk.injEq] at he
            obtain ⟨rfl, rfl⟩ := he
            simp [lowT_len] at h3 this ⊢
            omega
    · exact absurd h (by simp)
theorem param_eq {s : List UInt8} (hl : s.length ≤ 16777216) : ∃ x, lex_param s = some x ∧ (match parT s with | none => x.2.2 = false | some (p, rest) => x = (p, rest, true)) := by
  have hw := wordT_le s
  unfold lex_param
  rw [word_eq hl]
  simp only [Option.bind_some]
  rw [slL_to hw, slL_from hw]
  simp only [Option.bind_some, hasPrefix1]
  cases hd : s.drop (wordT s) with
  | nil =>
    refine ⟨_, rfl, ?_⟩
    unfold parT; simp only [hd]
  | cons e r =>
    obtain ⟨h1, h2, h3⟩ := drop_word hd
    have hP : parT s = if e = 61 then parV s r else none := by unfold parT; simp only [hd]
    rw [hP]
    simp only [List.head?_cons, Option.some.injEq]
    by_cases he : e = 61
    · simp only [he, decide_true, Bool.not_true, Bool.false_eq_true, if_false, if_true]
      rw [iadd64 (by omega) (by omega), ← Int.natCast_add_one, slL_from (by omega), h2]
      simp only [Option.bind_some, hasPrefix1]
      have hlow : lex_Lower (s.take (wordT s)) = some (lowT (s.take (wordT s))) := Lower_eq (by rw [List.length_take]; omega)
      cases r with
      | nil =>
        refine ⟨((lowT (s.take (wordT s)), []), [], false), ?_, rfl⟩
        · simp only [List.head?_nil, reduceCtorEq, decide_false, Bool.false_eq_true, if_false]
          rw [word_eq (by simp), hlow]
          rfl
      | cons d q =>
        simp only [List.head?_cons, Option.some.injEq, parV]
        have hq : (d :: q).length ≤ 16777216 := by omega
        by_cases h34 : d = 34
        · simp only [h34, decide_true, if_true]
          rw [Unquote_eq (by subst h34; exact hq), hlow]
          unfold unqT
          simp only [if_true]
          cases hu : uq q with
          | none =>
            refine ⟨((lowT (s.take (wordT s)), []), 34 :: q, false), ?_, rfl⟩
            · simp only [uqR, Option.bind_some]
              rw [show slL (34 :: q) 0 ((34 :: q).length : Int) = some (34 :: q) from by have := slL_from (xs := 34 :: q) (a := 0) (by simp); simpa using this]
              rfl
          | some p =>
            have hm := uq_le _ _ p.1 p.2 (Nat.le_refl _) hu
            refine ⟨((lowT (s.take (wordT s)), p.1), (34 :: q).drop (1 + p.2), true), ?_, ?_⟩
            · simp only [uqR, Option.bind_some]
              rw [slL_from (by simp; omega)]
              rfl
            · simp [Nat.add_comm 1 p.2]
        · have hw2 := wordT_le (d :: q)
          simp only [h34, decide_false, Bool.false_eq_true, if_false]
          rw [word_eq hq, hlow]
          simp only [Option.bind_some]
          rw [slL_to hw2, slL_from hw2]
          refine ⟨_, rfl, ?_⟩
          by_cases h0 : wordT (d :: q) = 0
          · rw [if_pos h0]; simp [h0]
          · rw [if_neg h0]
            simp only [Prod.mk.injEq, true_and, decide_eq_true_eq]
            omega
    · simp only [he, decide_false, Bool.not_false, if_true, if_false]
      exact ⟨_, rfl, rfl⟩
/-- the parameters of a rest -/
def mpF : Nat → List UInt8 → Option (List (List UInt8 × List UInt8))
  | 0, _ => some []
  | n + 1, rest => if rest = [] then some [] else match cutL rest with
    | [] => none
    | c :: r => if c = 59 then if wordT (cutL r) = 0 then mpF n (cutL r) else (parT (cutL r)).bind fun p => (mpF n p.2).map (p.1 :: ·) else none
abbrev Med := List UInt8 × List UInt8 × List (List UInt8 × List UInt8)
def badM : Med × Int := (([], [], []), 6)
def mpR (acc : List (List UInt8 × List UInt8)) : Option (List (List UInt8 × List UInt8)) → Sum (Med × Int) (List (List UInt8 × List UInt8))
  | none => Sum.inl badM
  | some ps => Sum.inr (acc ++ ps)
theorem mpR_cons (acc : List (List UInt8 × List UInt8)) (p : List UInt8 × List UInt8) (o : Option (List (List UInt8 × List UInt8))) : mpR acc (o.map (p :: ·)) = mpR (acc ++ [p]) o := by
  cases o <;> simp [mpR]
theorem Media_loop : ∀ (k n : Nat) (rest : List UInt8) (acc : List (List UInt8 × List UInt8)), rest.length < k → rest.length < n → acc.length + rest.length ≤ 16777216 →
    lex_Media_L48 k rest acc = some (mpR acc (mpF n rest))
  | 0, _, rest, acc, h, _, _ => by omega
  | _, 0, rest, acc, _, h, _ => by omega
  | k + 1, n + 1, rest, acc, hk, hn, ha => by
    simp only [lex_Media_L48, mpF]
    by_cases he : rest = []
    · subst he; simp [mpR]
    · have hcl := cutL_len rest
      simp only [he, decide_false, Bool.not_false, if_true, if_false, trimLeft_eq, Option.bind_some, hasPrefix1]
      cases hc : cutL rest with
      | nil => rfl
      | cons c r =>
        rw [hc] at hcl
        simp only [List.length_cons] at hcl
        simp only [List.head?_cons, Option.some.injEq]
        by_cases h59 : c = 59
        · simp only [h59, decide_true, Bool.not_true, Bool.false_eq_true, if_false, if_true]
          have e1 : slL (59 :: r) 1 ((59 :: r).length : Int) = some r := by
            have := slL_from (xs := 59 :: r) (a := 1) (by simp); simpa using this
          have hcr := cutL_len r
          rw [e1]
          simp only [Option.bind_some]
          have ej : (if decide (cutL r = []) = true then some true else (lex_word (cutL r)).bind fun r55 => some (decide (r55 = 0))) = some (decide (wordT (cutL r) = 0)) := by
            by_cases hn : cutL r = []
            · simp [hn, wordT_nil]
            · rw [if_neg (by simp [hn]), word_eq (by omega)]
              simp
          rw [ej]
          simp only [Option.bind_some, decide_eq_true_eq]
          by_cases h0 : wordT (cutL r) = 0
          · rw [if_pos h0, if_pos h0]
            exact Media_loop k n (cutL r) acc (by omega) (by omega) (by omega)
          · rw [if_neg h0, if_neg h0]
            obtain ⟨x, hx, hm⟩ := param_eq (s := cutL r) (by omega)
            rw [hx]
            cases hp : parT (cutL r) with
            | none =>
              rw [hp] at hm
              simp only [Option.bind_some, hm, Bool.not_false, if_true]
              rfl
            | some p =>
              have hpl := par_len (p := p.1) (rest := p.2) hp
              rw [hp] at hm
              simp only at hm
              subst hm
              simp only [Option.bind_some, Bool.not_true, Bool.false_eq_true, if_false]
              rw [szC_ok (by simp; omega)]
              simp only [Option.bind_some]
              rw [Media_loop k n p.2 _ (by omega) (by omega) (by simp; omega), mpR_cons]
        · simp only [h59, decide_false, Bool.not_false, if_true, if_false]
          rfl
def mediaT (s : List UInt8) : Med × Int := match hdT (trimT s) with
  | none => badM
  | some (a, q) => if a = [] then badM else if wordT q = 0 then badM else match mpF (q.length + 1) (q.drop (wordT q)) with
    | none => badM
    | some ps => ((lowT a, lowT (q.take (wordT q)), ps), 0)
theorem Media_eq {s : List UInt8} (hl : s.length ≤ 16777216) : lex_Media s = some (mediaT s) := by
  have ht := trimT_len s
  unfold lex_Media mediaT
  rw [Trim_eq hl]
  simp only [Option.bind_some]
  have hcut : cutX (trimT s) [47] = some (Lib.cut (trimT s) [47]) := by unfold cutX; rw [if_pos (by omega)]
  have hlen : (Lib.cut (trimT s) [47]).1.length ≤ s.length ∧ (Lib.cut (trimT s) [47]).2.1.length ≤ s.length := by
    unfold Lib.cut
    split <;> simp <;> omega
  have hh := hd_cut (trimT s)
  rw [hcut]
  generalize Lib.cut (trimT s) [47] = c at *
  obtain ⟨a, q, f⟩ := c
  simp only [Option.bind_some] at hh hlen ⊢
  rw [word_eq (by omega), hh]
  simp only [Option.bind_some]
  have hq := wordT_le q
  cases f with
  | false => rfl
  | true =>
    simp only [Bool.not_true, Bool.false_eq_true, if_false, true_and]
    rw [Token_eq (by omega)]
    simp only [Option.bind_some]
    unfold tokT
    by_cases hall : a.all tchT = true
    · rw [if_pos hall]
      by_cases ha : a = []
      · simp [ha, badM]
      · simp only [ha, hall, decide_false, Bool.not_false, Bool.true_and, Bool.not_true, Bool.false_eq_true, if_false, Option.bind_some, decide_eq_true_eq]
        by_cases h0 : wordT q = 0
        · simp [h0, badM]
        · rw [if_neg (by omega), if_neg h0, Lower_eq (by omega)]
          simp only [Option.bind_some]
          rw [slL_to hq]
          simp only [Option.bind_some]
          rw [Lower_eq (by rw [List.length_take]; omega), slL_from hq]
          simp only [Option.bind_some]
          rw [Media_loop _ (q.length + 1) _ [] (by rw [List.length_drop]; omega) (by rw [List.length_drop]; omega) (by rw [List.length_drop]; simp; omega)]
          cases mpF (q.length + 1) (q.drop (wordT q)) with
          | none => rfl
          | some ps => rfl
    · rw [if_neg hall]
      simp [hall, badM]
end Go.Proofs.YtgngopfpnidbaaaGreatDoor
