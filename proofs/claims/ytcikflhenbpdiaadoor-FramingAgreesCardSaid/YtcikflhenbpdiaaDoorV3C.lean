/- lex, plain: what is quoted; lists. -/
import Derived.Test.YtcikflhenbpdiaaDoorV3A
namespace Go.Proofs.YtcikflhenbpdiaaDoor
open Go.Av
set_option linter.unusedVariables false
set_option linter.unusedSimpArgs false
def putT (a : UInt8) (new : List UInt8) (s : List UInt8) : List UInt8 := s.flatMap fun c => if c = a then new else [c]
theorem putT_len (a : UInt8) (new : List UInt8) (hn : new.length = 2) : ∀ s : List UInt8, (putT a new s).length ≤ 2 * s.length
  | [] => Nat.le_refl _
  | c :: s => by
    have := putT_len a new hn s
    unfold putT at this ⊢
    rw [List.flatMap_cons, List.length_append, List.length_cons]
    split
    · omega
    · simp only [List.length_cons, List.length_nil]; omega
/-- within quotes -/
def escT (s : List UInt8) : List UInt8 := s.flatMap fun c => if c = 34 ∨ c = 92 then [92, c] else [c]
theorem escT_cons (c : UInt8) (s : List UInt8) : escT (c :: s) = (if c = 34 ∨ c = 92 then [92, c] else [c]) ++ escT s := by unfold escT; rw [List.flatMap_cons]
theorem escT_len : ∀ s : List UInt8, s.length ≤ (escT s).length ∧ (escT s).length ≤ 2 * s.length
  | [] => ⟨Nat.le_refl _, Nat.le_refl _⟩
  | c :: s => by
    have := escT_len s
    rw [escT_cons, List.length_append, List.length_cons]
    split <;> simp only [List.length_cons, List.length_nil] <;> omega
theorem esc_put (s : List UInt8) : putT 34 [92, 34] (putT 92 [92, 92] s) = escT s := by
  unfold putT escT
  rw [List.flatMap_assoc]
  congr 1
  funext c
  by_cases h : c = 92
  · subst h; rfl
  · by_cases h2 : c = 34
    · subst h2; rfl
    · simp [h, h2]
def quoteT (s : List UInt8) : List UInt8 := if plainT s then [34] ++ escT s ++ [34] else []
theorem quoteT_len (s : List UInt8) : (quoteT s).length ≤ 2 * s.length + 2 := by
  have := escT_len s
  unfold quoteT
  split
  · simp; omega
  · simp
theorem quo_34 : quoT 34 = true := by decide
theorem quo_92 : quoT 92 = true := by decide
theorem uq_esc (r : List UInt8) : ∀ s : List UInt8, plainT s = true → uq (escT s ++ 34 :: r) = some (s, (escT s).length + 1)
  | [], _ => by rw [show escT [] = [] from rfl, List.nil_append, uq_34]; rfl
  | c :: s, h => by
    unfold plainT at h
    rw [List.all_cons, Bool.and_eq_true] at h
    have ih := uq_esc r s h.2
    rw [escT_cons]
    by_cases h1 : c = 34 ∨ c = 92
    · have hq : quoT c = true := h.1
      rw [if_pos h1, List.append_assoc]
      show uq (92 :: c :: (escT s ++ 34 :: r)) = _
      rw [uq_92, if_pos hq, ih]
      simp only [Option.map_some, List.length_append, List.length_cons, List.length_nil]
      congr 2; omega
    · rw [if_neg h1, List.append_assoc]
      show uq (c :: (escT s ++ 34 :: r)) = _
      rw [uq_o _ (fun e => h1 (.inl e)) (fun e => h1 (.inr e)), if_pos h.1, ih]
      simp only [Option.map_some, List.length_append, List.length_cons, List.length_nil]
      congr 2; omega
theorem uq_esc_cut : ∀ s : List UInt8, uq (escT s) = none
  | [] => rfl
  | c :: s => by
    have ih := uq_esc_cut s
    rw [escT_cons]
    by_cases h1 : c = 34 ∨ c = 92
    · rw [if_pos h1]
      show uq (92 :: c :: escT s) = _
      rw [uq_92, ih]; simp
    · rw [if_neg h1]
      show uq (c :: escT s) = _
      rw [uq_o _ (fun e => h1 (.inl e)) (fun e => h1 (.inr e)), ih]; simp
/-- what is read is plain -/
theorem uq_plain : ∀ (n : Nat) (r t : List UInt8) (m : Nat), r.length ≤ n → uq r = some (t, m) → plainT t = true
  | _, [], t, m, _, h => by simp [uq] at h
  | 0, c :: r, t, m, hn, h => by simp at hn
  | n + 1, c :: r, t, m, hn, h => by
    simp only [List.length_cons] at hn
    by_cases h1 : c = 34
    · subst h1; rw [uq_34] at h; cases h; rfl
    · by_cases h2 : c = 92
      · subst h2
        cases r with
        | nil => rw [uq_92n] at h; cases h
        | cons d r' =>
          rw [uq_92] at h
          split at h
          · rename_i hd
            obtain ⟨p, h1, h2⟩ := Option.map_eq_some_iff.1 h
            cases h2
            simp only [List.length_cons] at hn
            have := uq_plain n r' p.1 p.2 (by omega) h1
            unfold plainT at this ⊢
            rw [List.all_cons, hd, this]; rfl
          · cases h
      · rw [uq_o r h1 h2] at h
        split at h
        · rename_i hd
          obtain ⟨p, h1, h2⟩ := Option.map_eq_some_iff.1 h
          cases h2
          have := uq_plain n r p.1 p.2 (by omega) h1
          unfold plainT at this ⊢
          rw [List.all_cons, hd, this]; rfl
        · cases h
/-- more behind does not matter -/
theorem uq_more (y : List UInt8) : ∀ (n : Nat) (r t : List UInt8) (m : Nat), r.length ≤ n → uq r = some (t, m) → uq (r ++ y) = some (t, m)
  | _, [], t, m, _, h => by simp [uq] at h
  | 0, c :: r, t, m, hn, h => by simp at hn
  | n + 1, c :: r, t, m, hn, h => by
    simp only [List.length_cons] at hn
    by_cases h1 : c = 34
    · subst h1; rw [uq_34] at h; cases h; exact uq_34 _
    · by_cases h2 : c = 92
      · subst h2
        cases r with
        | nil => rw [uq_92n] at h; cases h
        | cons d r' =>
          rw [uq_92] at h
          show uq (92 :: d :: (r' ++ y)) = _
          rw [uq_92]
          split at h
          · rename_i hd
            obtain ⟨p, h1, h2⟩ := Option.map_eq_some_iff.1 h
            simp only [List.length_cons] at hn
            rw [if_pos hd, uq_more y n r' p.1 p.2 (by omega) h1]
            exact congrArg some h2
          · cases h
      · rw [uq_o r h1 h2] at h
        show uq (c :: (r ++ y)) = _
        rw [uq_o _ h1 h2]
        split at h
        · rename_i hd
          obtain ⟨p, h1, h2⟩ := Option.map_eq_some_iff.1 h
          rw [if_pos hd, uq_more y n r p.1 p.2 (by omega) h1]
          exact congrArg some h2
        · cases h
/-- it is read out of the bytes that it takes -/
theorem uq_less : ∀ (n : Nat) (r t : List UInt8) (m : Nat), r.length ≤ n → uq r = some (t, m) → uq (r.take m) = some (t, m)
  | _, [], t, m, _, h => by simp [uq] at h
  | 0, c :: r, t, m, hn, h => by simp at hn
  | n + 1, c :: r, t, m, hn, h => by
    simp only [List.length_cons] at hn
    by_cases h1 : c = 34
    · subst h1; rw [uq_34] at h; cases h; exact uq_34 _
    · by_cases h2 : c = 92
      · subst h2
        cases r with
        | nil => rw [uq_92n] at h; cases h
        | cons d r' =>
          rw [uq_92] at h
          split at h
          · rename_i hd
            obtain ⟨p, h1, h2⟩ := Option.map_eq_some_iff.1 h
            cases h2
            simp only [List.length_cons] at hn
            show uq (92 :: d :: r'.take p.2) = _
            rw [uq_92, if_pos hd, uq_less n r' p.1 p.2 (by omega) h1]
            rfl
          · cases h
      · rw [uq_o r h1 h2] at h
        split at h
        · rename_i hd
          obtain ⟨p, h3, h4⟩ := Option.map_eq_some_iff.1 h
          cases h4
          show uq (c :: r.take p.2) = _
          rw [uq_o _ h1 h2, if_pos hd, uq_less n r p.1 p.2 (by omega) h3]
          rfl
        · cases h
end Go.Proofs.YtcikflhenbpdiaaDoor
namespace Go.Proofs.YtcikflhenbpdiaaDoor
open Go.Av
set_option linter.unusedVariables false
set_option linter.unusedSimpArgs false
set_option maxRecDepth 100000
/-- a piece, if anything of it stays -/
def addT (c : List UInt8) (l : List (List UInt8)) : List (List UInt8) := if trimT c = [] then l else trimT c :: l
/-- the pieces of a rest, with the piece so far; 0: plain, 1: quoted, 2: behind a backslash -/
def lsT : Nat → List UInt8 → List UInt8 → Option (List (List UInt8))
  | m, cur, [] => if m = 0 then some (addT cur []) else none
  | m, cur, c :: r =>
    if m = 0 then
      if c = 34 then lsT 1 (cur ++ [c]) r else if c = 44 then (lsT 0 [] r).map (addT cur) else lsT 0 (cur ++ [c]) r
    else if m = 1 then
      if c = 34 then lsT 0 (cur ++ [c]) r else if c = 92 then lsT 2 (cur ++ [c]) r else if quoT c then lsT 1 (cur ++ [c]) r else none
    else if quoT c then lsT 1 (cur ++ [c]) r else none
theorem ls0n (cur : List UInt8) : lsT 0 cur [] = some (addT cur []) := rfl
theorem ls0q (cur r : List UInt8) : lsT 0 cur (34 :: r) = lsT 1 (cur ++ [34]) r := rfl
theorem ls0c (cur r : List UInt8) : lsT 0 cur (44 :: r) = (lsT 0 [] r).map (addT cur) := rfl
theorem ls0o {c : UInt8} (cur r : List UInt8) (h1 : c ≠ 34) (h2 : c ≠ 44) : lsT 0 cur (c :: r) = lsT 0 (cur ++ [c]) r := by
  rw [lsT]; simp only [h1, h2, if_true, if_false]
theorem ls1n (cur : List UInt8) : lsT 1 cur [] = none := rfl
theorem ls2n (cur : List UInt8) : lsT 2 cur [] = none := rfl
theorem ls1q (cur r : List UInt8) : lsT 1 cur (34 :: r) = lsT 0 (cur ++ [34]) r := rfl
theorem ls1b (cur r : List UInt8) : lsT 1 cur (92 :: r) = lsT 2 (cur ++ [92]) r := rfl
theorem ls1o {c : UInt8} (cur r : List UInt8) (h1 : c ≠ 34) (h2 : c ≠ 92) : lsT 1 cur (c :: r) = if quoT c then lsT 1 (cur ++ [c]) r else none := by
  rw [lsT]; simp only [h1, h2, if_true, if_false, Nat.one_ne_zero]
theorem ls2o (c : UInt8) (cur r : List UInt8) : lsT 2 cur (c :: r) = if quoT c then lsT 1 (cur ++ [c]) r else none := by
  rw [lsT]; simp
theorem uq_n : uq [] = none := by rw [uq.eq_def]
/-- a quoted piece is taken whole -/
theorem ls_uq : ∀ (n : Nat) (cur r : List UInt8), r.length ≤ n → lsT 1 cur r = (uq r).bind fun p => lsT 0 (cur ++ r.take p.2) (r.drop p.2)
  | n, cur, [], _ => by rw [ls1n, uq_n]; rfl
  | 0, cur, c :: r, h => by simp at h
  | n + 1, cur, c :: r, h => by
    have hl : r.length ≤ n := by simpa using h
    by_cases h1 : c = 34
    · subst h1; rw [ls1q, uq_34]; rfl
    by_cases h2 : c = 92
    · subst h2
      cases r with
      | nil => rw [ls1b, ls2n, uq_92n]; rfl
      | cons d r =>
        rw [ls1b, ls2o, uq_92]
        cases quoT d with
        | false => rfl
        | true =>
          simp only [if_true]
          rw [ls_uq n _ r (by simp at hl; omega)]
          cases uq r with
          | none => rfl
          | some p => simp [List.append_assoc]
    · rw [ls1o _ _ h1 h2, uq_o _ h1 h2]
      cases quoT c with
      | false => rfl
      | true =>
        simp only [if_true]
        rw [ls_uq n _ r hl]
        cases uq r with
        | none => rfl
        | some p => simp [List.append_assoc]
def lsR (acc : List (List UInt8)) : Option (List (List UInt8)) → List (List UInt8) × Int
  | none => ([], 5)
  | some l => (acc ++ l, 0)
def listT (s : List UInt8) : List (List UInt8) × Int := lsR [] (lsT 0 [] s)
def putP (acc : List (List UInt8)) (c : List UInt8) : List (List UInt8) := if trimT c = [] then acc else acc ++ [trimT c]
theorem putP_len (acc : List (List UInt8)) (c : List UInt8) : (putP acc c).length ≤ acc.length + 1 := by
  unfold putP; split <;> simp
theorem lsR_add (acc : List (List UInt8)) (c : List UInt8) (o : Option (List (List UInt8))) : lsR acc (o.map (addT c)) = lsR (putP acc c) o := by
  cases o with
  | none => rfl
  | some l =>
    simp only [Option.map_some, lsR, addT, putP]
    split <;> simp
theorem lsR_end (acc : List (List UInt8)) (c : List UInt8) : lsR acc (some (addT c [])) = (putP acc c, 0) := by
  simp only [lsR, addT, putP]
  split <;> simp
theorem put_bind (acc : List (List UInt8)) (c : List UInt8) (hc : c.length ≤ 16777216) (ha : acc.length ≤ 16777216) : ((lex_Trim c).bind fun r47 =>
            if !decide (r47 = []) then
              (szC (List.length (acc ++ [r47] : List (List UInt8)))).bind fun _ =>
              some (acc ++ [r47])
            else
              some acc) = some (putP acc c) := by
  rw [Trim_eq hc]
  simp only [Option.bind_some, putP]
  by_cases h : trimT c = []
  · simp [h]
  · simp only [h, decide_false, Bool.not_false, if_true, if_false]
    rw [szC_ok (by simp; omega)]; rfl
theorem take_one {s : List UInt8} {i f : Nat} (hf : f ≤ i) (h : i < s.length) : (s.take (i + 1)).drop f = (s.take i).drop f ++ [s[i]] := by
  rw [List.take_add_one, List.getElem?_eq_getElem h, List.drop_append_of_le_length (by rw [List.length_take]; omega)]
  rfl
theorem take_many {s : List UInt8} {i f m : Nat} (hf : f ≤ i) (h : i < s.length) : (s.take (i + m + 1)).drop f = (s.take i).drop f ++ s[i] :: (s.drop (i + 1)).take m := by
  have : s.take (i + m + 1) = s.take i ++ s[i] :: (s.drop (i + 1)).take m := by
    conv => lhs; rw [← List.take_append_drop i s]
    rw [List.take_append, List.length_take, drop_step h, Nat.min_eq_left (by omega), show i + m + 1 - i = m + 1 by omega, List.take_take, Nat.min_eq_right (by omega)]
    rfl
  rw [this, List.drop_append_of_le_length (by rw [List.length_take]; omega)]
def lsFin (s : List UInt8) : Sum ((List (List UInt8)) × Int) (Int × (List (List UInt8))) → Option ((List (List UInt8)) × Int)
  | Sum.inl r => some r
  | Sum.inr j52 =>
    (slL s j52.1 (List.length s : Int)).bind fun s53 =>
    (show Option ((List (List UInt8))) from
      (lex_Trim s53).bind fun r56 =>
      if !decide (r56 = []) then
        (szC (List.length (j52.2 ++ [r56] : List (List UInt8)))).bind fun _ =>
        some (j52.2 ++ [r56])
      else
        some j52.2).bind fun a58 =>
      some (a58, 0)
theorem List_loop (s : List UInt8) (hl : s.length ≤ 16777216) : ∀ (k i f : Nat) (acc : List (List UInt8)), f ≤ i → i ≤ s.length → s.length - i < k → acc.length ≤ i →
    (lex_List_L40 s k (f : Int) (i : Int) acc).bind (lsFin s) = some (lsR acc (lsT 0 ((s.take i).drop f) (s.drop i)))
  | 0, i, f, acc, _, _, hk, _ => by omega
  | k + 1, i, f, acc, hf, hi, hk, ha => by
    simp only [lex_List_L40, decide_eq_true_eq]
    by_cases hlt : i < s.length
    · rw [if_pos (by omega), ixL_in hlt, drop_step hlt]
      simp only [Option.bind_some, b34]
      by_cases h1 : s[i] = 34
      · have hd := drop_step hlt
        rw [if_pos h1, slL_from hi, hd]
        simp only [Option.bind_some]
        rw [h1] at hd ⊢
        rw [Unquote_eq (by rw [← hd, List.length_drop]; omega), ls0q, ls_uq _ _ _ (Nat.le_refl _)]
        unfold unqT
        simp only [if_true]
        cases hu : uq (s.drop (i + 1)) with
        | none => rfl
        | some p =>
          have hm := uq_le _ _ p.1 p.2 (Nat.le_refl _) hu
          rw [List.length_drop] at hm
          simp only [uqR, Option.bind_some, decide_true, Bool.not_true, Bool.false_eq_true, if_false]
          rw [isub64 (by omega) (by omega), iadd64 (a := (i : Int)) (by omega) (by omega), iadd64 (by omega) (by omega),
            show (i : Int) + (((1 + p.2 : Nat) : Int) - 1) + 1 = ((i + p.2 + 1 : Nat) : Int) by omega,
            List_loop s hl k (i + p.2 + 1) f acc (by omega) (by omega) (by omega) (by omega), take_many hf hlt, h1, List.drop_drop,
            show i + 1 + p.2 = i + p.2 + 1 by omega]
          simp
      · rw [if_neg h1]
        have e44 : b2i s[i] = b2i (bC 44) ↔ s[i] = 44 := b2i_inj
        simp only [e44]
        by_cases h2 : s[i] = 44
        · rw [if_pos h2, slL_nat hf hi]
          simp only [Option.bind_some]
          rw [put_bind acc _ (by rw [List.length_drop, List.length_take]; omega) (by omega)]
          simp only [Option.bind_some]
          have := putP_len acc ((s.take i).drop f)
          rw [iadd64 (by omega) (by omega), ← Int.natCast_add_one, List_loop s hl k (i + 1) (i + 1) (putP acc ((s.take i).drop f)) (Nat.le_refl _) (by omega) (by omega) (by omega), h2, ls0c, lsR_add,
            show (s.take (i + 1)).drop (i + 1) = [] from List.drop_eq_nil_of_le (by rw [List.length_take]; omega)]
        · rw [if_neg h2, ls0o _ _ h1 h2, iadd64 (by omega) (by omega), ← Int.natCast_add_one, List_loop s hl k (i + 1) f acc (by omega) (by omega) (by omega) (by omega), take_one hf hlt]
    · have hi' : i = s.length := by omega
      rw [if_neg (by omega), show s.drop i = [] from List.drop_eq_nil_of_le (by omega), ls0n, lsR_end, List.take_of_length_le (by omega)]
      simp only [Option.bind_some, lsFin]
      rw [slL_from (by omega)]
      simp only [Option.bind_some]
      rw [put_bind acc _ (by rw [List.length_drop]; omega) (by omega)]
      rfl
theorem List_eq {s : List UInt8} (hl : s.length ≤ 16777216) : lex_List s = some (listT s) := by
  have := List_loop s hl 1099511627776 0 0 [] (Nat.le_refl _) (by omega) (by omega) (by simp)
  simp only [Int.natCast_zero, List.take_zero, List.drop_nil, List.drop_zero] at this
  exact this
def ref_lsFin : Sum ((List (List UInt8)) × Int) ((List (List UInt8))) → Option ((List (List UInt8)) × Int)
  | Sum.inl r => some r
  | Sum.inr j64 => some (j64, 0)
theorem ref_put_bind {β : Type} (acc : List (List UInt8)) (c : List UInt8) (hc : c.length ≤ 16777216) (ha : acc.length ≤ 16777216) (F : List (List UInt8) → Option β) : ((ref03_Trim c).bind fun r61 =>
              if !decide (r61 = []) then
                (szC (List.length (acc ++ [r61] : List (List UInt8)))).bind fun _ =>
                F (acc ++ [r61])
              else
                F acc) = F (putP acc c) := by
  rw [ref_Trim_eq hc]
  simp only [Option.bind_some, putP]
  by_cases h : trimT c = []
  · simp [h]
  · simp only [h, decide_false, Bool.not_false, if_true, if_false]
    rw [szC_ok (by simp; omega)]; rfl
theorem ref_List_loop (s : List UInt8) (hl : s.length ≤ 16777216) : ∀ (k i f : Nat) (acc : List (List UInt8)), f ≤ i → i ≤ s.length → s.length + 1 - i < k → acc.length ≤ i →
    (ref03_List_L49 s k (f : Int) (i : Int) acc).bind ref_lsFin = some (lsR acc (lsT 0 ((s.take i).drop f) (s.drop i)))
  | 0, i, f, acc, _, _, hk, _ => by omega
  | k + 1, i, f, acc, hf, hi, hk, ha => by
    simp only [ref03_List_L49, decide_eq_true_eq]
    rw [if_pos (show (i : Int) ≤ (s.length : Int) by omega)]
    by_cases hlt : i < s.length
    · rw [if_pos (show (i : Int) < (s.length : Int) by omega), ixL_in hlt, drop_step hlt]
      simp only [Option.bind_some, decide_eq_true_eq, b34]
      by_cases h1 : s[i] = 34
      · have hd := drop_step hlt
        rw [if_pos h1, slL_from hi, hd]
        simp only [Option.bind_some]
        rw [h1] at hd ⊢
        rw [ref_Unquote_eq (by rw [← hd, List.length_drop]; omega), ls0q, ls_uq _ _ _ (Nat.le_refl _)]
        unfold unqT
        simp only [if_true]
        cases hu : uq (s.drop (i + 1)) with
        | none => rfl
        | some p =>
          have hm := uq_le _ _ p.1 p.2 (Nat.le_refl _) hu
          rw [List.length_drop] at hm
          simp only [uqR, Option.bind_some, decide_true, Bool.not_true, Bool.false_eq_true, if_false]
          rw [iadd64 (by omega) (by omega),
            show (i : Int) + ((1 + p.2 : Nat) : Int) = ((i + p.2 + 1 : Nat) : Int) by omega,
            ref_List_loop s hl k (i + p.2 + 1) f acc (by omega) (by omega) (by omega) (by omega), take_many hf hlt, h1, List.drop_drop,
            show i + 1 + p.2 = i + p.2 + 1 by omega]
          simp
      · rw [if_neg h1, if_neg (show ¬ (i : Int) = (s.length : Int) by omega)]
        have e44 : b2i s[i] = b2i (bC 44) ↔ s[i] = 44 := b2i_inj
        simp only [Option.bind_some, decide_eq_true_eq, e44]
        by_cases h2 : s[i] = 44
        · rw [if_pos h2, slL_nat hf hi]
          simp only [Option.bind_some]
          rw [ref_put_bind acc _ (by rw [List.length_drop, List.length_take]; omega) (by omega) (fun a => ref03_List_L49 s k (iadd .i64 (i : Int) 1) (iadd .i64 (i : Int) 1) a)]
          have := putP_len acc ((s.take i).drop f)
          rw [iadd64 (by omega) (by omega), ← Int.natCast_add_one, ref_List_loop s hl k (i + 1) (i + 1) (putP acc ((s.take i).drop f)) (Nat.le_refl _) (by omega) (by omega) (by omega), h2, ls0c, lsR_add,
            show (s.take (i + 1)).drop (i + 1) = [] from List.drop_eq_nil_of_le (by rw [List.length_take]; omega)]
        · rw [if_neg h2, ls0o _ _ h1 h2, iadd64 (by omega) (by omega), ← Int.natCast_add_one, ref_List_loop s hl k (i + 1) f acc (by omega) (by omega) (by omega) (by omega), take_one hf hlt]
    · have hi' : i = s.length := by omega
      rw [if_neg (show ¬ (i : Int) < (s.length : Int) by omega), show s.drop i = [] from List.drop_eq_nil_of_le (by omega), ls0n, lsR_end]
      simp only [Option.bind_some, Bool.false_eq_true, if_false]
      rw [if_pos (show (i : Int) = (s.length : Int) by omega), slL_nat hf hi]
      simp only [Option.bind_some, if_true]
      rw [ref_put_bind acc _ (by rw [List.length_drop, List.length_take]; omega) (by omega) (fun a => ref03_List_L49 s k (iadd .i64 (i : Int) 1) (iadd .i64 (i : Int) 1) a)]
      obtain ⟨k', rfl⟩ : ∃ k', k = k' + 1 := ⟨k - 1, by omega⟩
      simp only [ref03_List_L49, decide_eq_true_eq]
      rw [iadd64 (by omega) (by omega), if_neg (by omega)]
      rfl
theorem ref_List_eq {s : List UInt8} (hl : s.length ≤ 16777216) : ref03_List s = some (listT s) := by
  have := ref_List_loop s hl 1099511627776 0 0 [] (Nat.le_refl _) (by omega) (by omega) (by simp)
  simp only [Int.natCast_zero, List.take_zero, List.drop_nil, List.drop_zero] at this
  exact this
theorem lsT_len : ∀ (n : Nat) (m : Nat) (r cur : List UInt8) (l : List (List UInt8)), r.length ≤ n → lsT m cur r = some l → l.length ≤ r.length + 1
  | n, m, [], cur, l, _, h => by
    rw [lsT] at h
    split at h
    · rw [← Option.some.inj h]; unfold addT; split <;> simp
    · exact absurd h (by simp)
  | 0, m, c :: r, cur, l, hn, _ => by simp at hn
  | n + 1, m, c :: r, cur, l, hn, h => by
    have hl : r.length ≤ n := by simpa using hn
    have ih := fun m cur l => lsT_len n m r cur l hl
    rw [lsT] at h
    have key : ∀ {m cur}, lsT m cur r = some l → l.length ≤ (c :: r).length + 1 := fun e => by have := ih _ _ _ e; simp; omega
    split at h
    · split at h
      · exact key h
      · split at h
        · obtain ⟨l', h1, h2⟩ := Option.map_eq_some_iff.1 h
          have := ih _ _ _ h1
          rw [← h2]
          unfold addT
          split <;> simp <;> omega
        · exact key h
    · split at h
      · split at h
        · exact key h
        · split at h
          · exact key h
          · split at h
            · exact key h
            · exact absurd h (by simp)
      · split at h
        · exact key h
        · exact absurd h (by simp)
theorem listT_len (s : List UInt8) : (listT s).1.length ≤ s.length + 1 := by
  unfold listT
  cases h : lsT 0 [] s with
  | none => simp [lsR]
  | some l => have := lsT_len _ _ _ _ _ (Nat.le_refl _) h; simpa [lsR] using this
end Go.Proofs.YtcikflhenbpdiaaDoor
