/- head, plain: fields, rows, and a request. -/
import Derived.Test.YtgngopfpnidbaaaGreatDoorU4C
import Derived.Test.YtgngopfpnidbaaaGreatDoorU2A
import Derived.Test.YtgngopfpnidbaaaGreatDoorGC
import Derived.Test.YtgngopfpnidbaaaGreatDoorU5B
import Derived.Test.YtgngopfpnidbaaaGreatDoorGCb
namespace Go.Proofs.YtgngopfpnidbaaaGreatDoor
open Go.Av
set_option linter.unusedVariables false
set_option linter.unusedSimpArgs false
set_option maxRecDepth 100000
/-- a line, and what follows it -/
def lnT : List UInt8 → Option (List UInt8 × List UInt8)
  | [] => none
  | c :: r => if c = 10 then none else if c = 13 then (match r with
    | [] => none
    | d :: q => if d = 10 then some ([], q) else none) else (lnT r).map fun p => (c :: p.1, p.2)
theorem crlf_in (c : UInt8) : ([13, 10] : List UInt8).contains c = (c == 13 || c == 10) := by simp [List.contains, List.elem]; cases c == 13 <;> cases c == 10 <;> rfl
theorem ln_spec : ∀ t : List UInt8, (Lib.indexAny t [13, 10] = -1 ∧ lnT t = none) ∨ ∃ n : Nat, Lib.indexAny t [13, 10] = (n : Int) ∧ n < t.length ∧
    ((t[n]? = some 10 ∧ lnT t = none) ∨ (t[n]? = some 13 ∧ ((t[n + 1]? = some 10 ∧ lnT t = some (t.take n, t.drop (n + 2))) ∨ (t[n + 1]? ≠ some 10 ∧ lnT t = none))))
  | [] => .inl ⟨rfl, rfl⟩
  | c :: r => by
    by_cases h13 : c = 13
    · subst h13
      refine .inr ⟨0, by simp [Lib.indexAny], by simp, .inr ⟨rfl, ?_⟩⟩
      cases r with
      | nil => exact .inr ⟨by simp, rfl⟩
      | cons d q =>
        by_cases hd : d = 10
        · subst hd; exact .inl ⟨rfl, rfl⟩
        · refine .inr ⟨by simpa using hd, ?_⟩
          simp [lnT, hd]
    · by_cases h10 : c = 10
      · subst h10
        exact .inr ⟨0, by simp [Lib.indexAny], by simp, .inl ⟨rfl, rfl⟩⟩
      · have hc : ([13, 10] : List UInt8).contains c = false := by rw [crlf_in]; simp [h13, h10]
        have e1 : lnT (c :: r) = (lnT r).map fun p => (c :: p.1, p.2) := by simp [lnT, h13, h10]
        rcases ln_spec r with ⟨g1, g2⟩ | ⟨n, g1, g2, g3⟩
        · refine .inl ⟨?_, by rw [e1, g2]; rfl⟩
          rw [Lib.indexAny, hc, g1]; rfl
        · refine .inr ⟨n + 1, ?_, by simp; omega, ?_⟩
          · rw [Lib.indexAny, hc, g1, if_neg (by simp), if_neg (by first | (simp; done) | (simp; omega))]; omega
          · rcases g3 with ⟨g4, g5⟩ | ⟨g4, ⟨g5, g6⟩ | ⟨g5, g6⟩⟩
            · exact .inl ⟨by simpa using g4, by rw [e1, g5]; rfl⟩
            · exact .inr ⟨by simpa using g4, .inl ⟨by simpa using g5, by rw [e1, g6]; rfl⟩⟩
            · exact .inr ⟨by simpa using g4, .inr ⟨by simpa using g5, by rw [e1, g6]; rfl⟩⟩
theorem any_skip13 {s : List UInt8} : ∀ (w p : Nat), (∀ j, p ≤ j → j < p + w → ∃ hj : j < s.length, 128 ≤ (s[j]'hj).toNat) →
    Lib.indexAny (s.drop p) [13, 10] = if Lib.indexAny (s.drop (p + w)) [13, 10] = -1 then -1 else Lib.indexAny (s.drop (p + w)) [13, 10] + (w : Int)
  | 0, p, _ => by
    rw [Nat.add_zero]
    by_cases h : Lib.indexAny (s.drop p) [13, 10] = -1
    · rw [if_pos h, h]
    · rw [if_neg h]; simp
  | w + 1, p, h => by
    obtain ⟨h1, h2⟩ := h p (Nat.le_refl _) (by omega)
    have ih := any_skip13 w (p + 1) (fun j j1 j2 => h j (by omega) (by omega))
    have hc : ([13, 10] : List UInt8).contains s[p] = false := by
      rw [crlf_in]
      have a1 : s[p] ≠ 13 := fun e => by rw [e] at h2; exact absurd h2 (by decide)
      have a2 : s[p] ≠ 10 := fun e => by rw [e] at h2; exact absurd h2 (by decide)
      simp [a1, a2]
    rw [show p + (w + 1) = p + 1 + w by omega, drop_step h1, Lib.indexAny, hc, ih]
    have hge := Lib.indexAny_ge [13, 10] (s.drop (p + 1 + w))
    by_cases hm : Lib.indexAny (s.drop (p + 1 + w)) [13, 10] = -1
    · simp [hm]
    · rw [if_neg hm, if_neg hm, if_neg (by simp), if_neg (by simp; omega)]; omega
theorem irune_lo (c : UInt8) (h : c.toNat < 128) : iruneX [13, 10] ((c.toNat : Nat) : Int) = some (if c = 13 then 0 else if c = 10 then 1 else -1) := by
  unfold iruneX
  rw [if_neg (by omega), irune h]
  have e : ∀ c : UInt8, Lib.indexByte [13, 10] c = if c = 13 then 0 else if c = 10 then 1 else -1 := fun c => of_decide_eq_true (all256 (p := fun c => decide (Lib.indexByte [13, 10] c = if c = 13 then 0 else if c = 10 then 1 else -1)) (by kernel_rfl) c)
  rw [e]
theorem irune_hi' {r : Nat} (h : 128 ≤ r) : iruneX [13, 10] (r : Int) = some (-1) := by
  unfold iruneX
  by_cases h2 : (r : Int) = 65533
  · rw [if_neg (by omega), h2]; kernel_rfl
  · rw [if_pos ⟨rfl, by omega, h2⟩]
theorem any_loop (s : List UInt8) (hl : s.length ≤ 16777216) : ∀ (k p : Nat), s.length - p < k → strings_IndexAny_L16 s [13, 10] k p = some (if 0 ≤ Lib.indexAny (s.drop p) [13, 10] then Sum.inl ((p : Int) + Lib.indexAny (s.drop p) [13, 10]) else Sum.inr ())
  | 0, p, hk => by omega
  | k + 1, p, hk => by
    simp only [strings_IndexAny_L16]
    by_cases hlt : p < s.length
    · rw [if_pos (by simpa using hlt)]
      by_cases h : s[p].toNat < 128
      · have d := decR_lo hlt h
        rw [d]
        dsimp only
        rw [irune_lo _ h, drop_step hlt, Lib.indexAny, crlf_in]
        simp only [Option.bind_some]
        by_cases h13 : s[p] = 13
        · rw [if_pos h13]; simp [h13]
        · by_cases h10 : s[p] = 10
          · rw [if_neg h13, if_pos h10]; simp [h10]
          · have ih := any_loop s hl k (p + 1) (by omega)
            have hge := Lib.indexAny_ge [13, 10] (s.drop (p + 1))
            rw [if_neg h13, if_neg h10, if_neg (by simp), ih]
            simp only [beq_iff_eq, h13, h10, Bool.or_self, Bool.false_eq_true, if_false, beq_eq_false_iff_ne.2 h13, beq_eq_false_iff_ne.2 h10]
            by_cases hm : Lib.indexAny (s.drop (p + 1)) [13, 10] = -1
            · simp [hm]
            · rw [if_neg hm, if_pos (by omega), if_pos (by omega)]
              congr 2
              omega
      · obtain ⟨d1, d2, d3⟩ := decR_hi hlt (by omega)
        rw [irune_hi' d1]
        simp only [Option.bind_some]
        rw [if_neg (by simp)]
        have ih := any_loop s hl k (p + (decR s p).2) (by omega)
        have hs := any_skip13 (s := s) (decR s p).2 p (fun j j1 j2 => by
          by_cases hj : j = p
          · subst hj; exact ⟨hlt, by omega⟩
          · exact d3 j (by omega) j2)
        have hge := Lib.indexAny_ge [13, 10] (s.drop (p + (decR s p).2))
        rw [ih, hs]
        by_cases hm : Lib.indexAny (s.drop (p + (decR s p).2)) [13, 10] = -1
        · simp [hm]
        · rw [if_neg hm, if_pos (by omega), if_pos (by omega)]
          congr 2
          omega
    · rw [if_neg (by simpa using hlt), List.drop_eq_nil_of_le (by omega)]
      rfl
theorem any_eq {s : List UInt8} (hl : s.length ≤ 16777216) : indexAnyY s [13, 10] = some (Lib.indexAny s [13, 10]) := by
  unfold indexAnyY
  rcases h : indexAnyX s [13, 10] with _ | q
  · dsimp only
    unfold indexAnyX at h
    split at h
    · cases h
    · rename_i hc
      have hs : ¬ 8 < s.length := fun h8 => hc ⟨rfl, by decide, by decide, by omega, .inl h8⟩
      unfold strings_IndexAny strings_shouldUseASCIISet
      rw [if_neg (by simp), if_neg (by simp)]
      simp only [Option.bind_some]
      rw [if_neg (by simp; omega)]
      simp only [Option.bind_some]
      rw [any_loop s hl 1099511627776 0 (by omega)]
      have hge := Lib.indexAny_ge [13, 10] s
      rw [List.drop_zero]
      by_cases hm : 0 ≤ Lib.indexAny s [13, 10]
      · rw [if_pos hm]; simp
      · rw [if_neg hm]
        simp only [Option.bind_some]
        congr 1
        omega
  · dsimp only
    unfold indexAnyX at h
    split at h
    · exact h.symm
    · cases h
/-- the code's line -/
def lineG (s1 : List UInt8) (l361 : Int) : Option (Sum (Int × Int) ((List UInt8) × Int)) :=
      (slL s1 l361 (List.length s1 : Int)).bind fun s383 =>
      (indexAnyY s383 [13, 10]).bind fun r384 =>
      (show Option (Bool) from
        if decide (r384 < 0) then
          some (decide (r384 < 0))
        else
          (ixL s1 (iadd .i64 l361 r384)).bind fun c387 =>
          if decide (b2i c387 = b2i (bC 13)) then
            some (decide (iadd .i64 (iadd .i64 l361 r384) 1 = (List.length s1 : Int)))
          else
            some false).bind fun j388 =>
        if j388 then
          (head_fail (List.length s1 : Int) 24).bind fun r389 => match r389 with
          | Sum.inl p390 =>
            some (Sum.inl (p390.1, p390.2))
          | Sum.inr r391 =>
            none
        else
          (show Option (Bool) from
            (ixL s1 (iadd .i64 l361 r384)).bind fun c395 =>
            if decide (b2i c395 = b2i (bC 10)) then
              some (decide (b2i c395 = b2i (bC 10)))
            else
              (ixL s1 (iadd .i64 (iadd .i64 l361 r384) 1)).bind fun c396 =>
              some (!decide (b2i c396 = b2i (bC 10)))).bind fun j397 =>
            if j397 then
              (head_fail (iadd .i64 l361 r384) 10).bind fun r398 => match r398 with
              | Sum.inl p399 =>
                some (Sum.inl (p399.1, p399.2))
              | Sum.inr r400 =>
                none
            else
              (slL s1 l361 (iadd .i64 l361 r384)).bind fun s401 =>
              some (Sum.inr (s401, iadd .i64 (iadd .i64 l361 r384) 2))
def lineR (s : List UInt8) (f : Nat) : Sum (Int × Int) (List UInt8 × Int) → Option (List UInt8 × List UInt8) → Prop
  | .inr p, some q => p.1 = q.1 ∧ p.2 = ((f + q.1.length + 2 : Nat) : Int) ∧ q.2 = s.drop (f + q.1.length + 2) ∧ f + q.1.length + 2 ≤ s.length
  | .inl _, none => True
  | _, _ => False
theorem b2i13 (c : UInt8) : decide (b2i c = b2i (bC 13)) = decide (c = 13) := decide_eq_decide.2 ⟨fun h => b2i_inj.1 h, fun h => by rw [h]; rfl⟩
theorem b2i10 (c : UInt8) : decide (b2i c = b2i (bC 10)) = decide (c = 10) := decide_eq_decide.2 ⟨fun h => b2i_inj.1 h, fun h => by rw [h]; rfl⟩
theorem line_eq {s : List UInt8} (hl : s.length ≤ 16777216) {f : Nat} (hf : f ≤ s.length) : ∃ o, lineG s (f : Int) = some o ∧ lineR s f o (lnT (s.drop f)) := by
  unfold lineG
  rw [slL_from hf]
  simp only [Option.bind_some]
  rw [any_eq (by simp; omega)]
  simp only [Option.bind_some, b2i13, b2i10]
  rcases ln_spec (s.drop f) with ⟨g1, g2⟩ | ⟨n, g1, g2, g3⟩
  · rw [g1, g2]
    exact ⟨_, rfl, trivial⟩
  · rw [g1]
    rw [List.length_drop] at g2
    have hfn : f + n < s.length := by omega
    rw [if_neg (by first | (simp; done) | (simp; omega)), iadd64 (by omega) (by omega), show ((f : Int) + (n : Int)) = ((f + n : Nat) : Int) by omega, ixL_in hfn]
    simp only [Option.bind_some]
    simp only [List.getElem?_drop] at g3
    rw [List.getElem?_eq_getElem hfn] at g3
    rw [iadd64 (a := ((f + n : Nat) : Int)) (b := 1) (by omega) (by omega)]
    rcases g3 with ⟨g4, g5⟩ | ⟨g4, g6⟩
    · have g4 : s[f + n] = 10 := by simpa using g4
      rw [g4, g5]
      exact ⟨_, rfl, trivial⟩
    · have g4 : s[f + n] = 13 := by simpa using g4
      rw [g4]
      simp only [decide_true, if_true, Option.bind_some]
      by_cases hend : f + n + 1 = s.length
      · rw [if_pos (by simp; omega)]
        rcases g6 with ⟨g7, g8⟩ | ⟨g7, g8⟩
        · rw [show f + (n + 1) = f + n + 1 by omega, List.getElem?_eq_none (by omega)] at g7
          cases g7
        · rw [g8]
          exact ⟨_, rfl, trivial⟩
      · rw [if_neg (by simp; omega)]
        have h13 : (decide ((13 : UInt8) = 10)) = false := by decide
        have hn1 : f + n + 1 < s.length := by omega
        rw [show (((f + n : Nat) : Int) + 1) = ((f + n + 1 : Nat) : Int) by omega, ixL_in hn1]
        simp only [h13, Bool.false_eq_true, if_false, Option.bind_some]
        rw [show f + (n + 1) = f + n + 1 by omega, List.getElem?_eq_getElem hn1] at g6
        rcases g6 with ⟨g7, g8⟩ | ⟨g7, g8⟩
        · have g7 : s[f + n + 1] = 10 := by simpa using g7
          rw [g7, g8]
          simp only [decide_true, Bool.not_true, Bool.false_eq_true, if_false]
          rw [slL_nat (by omega) (by omega), iadd64 (by omega) (by omega)]
          refine ⟨_, rfl, ?_, ?_, ?_, ?_⟩
          · simp [List.drop_take]
          · simp; omega
          · simp [List.length_take]
            congr 1
            omega
          · simp [List.length_take]; omega
        · have g7 : s[f + n + 1] ≠ 10 := by simpa using g7
          rw [decide_eq_false g7, g8]
          exact ⟨_, rfl, trivial⟩
end Go.Proofs.YtgngopfpnidbaaaGreatDoor
namespace Go.Proofs.YtgngopfpnidbaaaGreatDoor
open Go.Av
set_option linter.unusedVariables false
set_option linter.unusedSimpArgs false
set_option maxRecDepth 100000
theorem tch_bl (c : UInt8) (h : tchT c = true) : blT c = false := by
  have := all256 (p := fun c => decide (tchT c = true → blT c = false)) (by kernel_rfl) c
  exact of_decide_eq_true this h
theorem tok_cutR {s : List UInt8} (h : tokT s = true) : cutR s = s := by
  simp only [tokT, Bool.and_eq_true] at h
  have := cutR_mid (b := []) (m := s) (by simp) (fun q c e => tch_bl c (List.all_eq_true.1 h.2 c (by rw [e]; simp)))
  simpa using this
theorem tok_head {s : List UInt8} (h : tokT s = true) : ∃ c r, s = c :: r ∧ blT c = false := by
  simp only [tokT, Bool.and_eq_true, Bool.not_eq_true', decide_eq_false_iff_not] at h
  cases s with
  | nil => exact absurd rfl h.1
  | cons c r => exact ⟨c, r, rfl, tch_bl c (List.all_eq_true.1 h.2 c (by simp))⟩
/-- a field of a line -/
def fldT (s : List UInt8) : Option Fld := if (Lib.cut s [58]).2.2 && (tokT (Lib.cut s [58]).1 && (Lib.cut s [58]).2.1.all quoT) then some ((Lib.cut s [58]).1, trimT (Lib.cut s [58]).2.1) else none
theorem clean_test (c : UInt8) : (if decide (b2i c < b2i (bC 32)) then (if !decide (b2i c = b2i (bC 9)) then some true else some (decide (b2i c = b2i (bC 127)))) else some (decide (b2i c = b2i (bC 127)))) = some (!quoT c) :=
  of_decide_eq_true (all256 (p := fun c => decide ((if decide (b2i c < b2i (bC 32)) then (if !decide (b2i c = b2i (bC 9)) then some true else some (decide (b2i c = b2i (bC 127)))) else some (decide (b2i c = b2i (bC 127)))) = some (!quoT c))) (by kernel_rfl) c)
theorem clean_loop (s : List UInt8) (f : Int) (hl : s.length ≤ 16777216) : ∀ (k i : Nat), s.length - i < k → i ≤ s.length → ∃ o, head_clean_L18 s f k (i : Int) = some o ∧ (match o with | .inl (.inl _) => (s.drop i).all quoT = false | .inl (.inr _) => False | .inr _ => (s.drop i).all quoT = true)
  | 0, i, hk, _ => by omega
  | k + 1, i, hk, hi => by
    simp only [head_clean_L18]
    by_cases hlt : i < s.length
    · rw [if_pos (by simpa using hlt), ixL_in hlt]
      simp only [Option.bind_some, clean_test]
      rw [drop_step hlt, List.all_cons]
      cases hq : quoT s[i] with
      | false => exact ⟨_, rfl, by simp⟩
      | true =>
        rw [iadd64 (a := (i : Int)) (by omega) (by omega), ← Int.natCast_add_one]
        obtain ⟨o, h1, h2⟩ := clean_loop s f hl k (i + 1) (by omega) (by omega)
        exact ⟨o, by simpa using h1, by simpa using h2⟩
    · rw [if_neg (by simpa using hlt), List.drop_eq_nil_of_le (by omega)]
      exact ⟨_, rfl, rfl⟩
theorem clean_eq {s : List UInt8} {f : Int} (hl : s.length ≤ 16777216) {i : Nat} (hi : i ≤ s.length) : ∃ o, head_clean s f (i : Int) = some o ∧ (match o with | .inl _ => (s.drop i).all quoT = false | .inr _ => (s.drop i).all quoT = true) := by
  obtain ⟨o, h1, h2⟩ := clean_loop s f hl 1099511627776 i (by omega) hi
  unfold head_clean
  rw [h1]
  rcases o with (p | u) | u
  · exact ⟨_, rfl, h2⟩
  · exact h2.elim
  · exact ⟨_, rfl, h2⟩
theorem cutX_eq {s c : List UInt8} (hl : s.length ≤ 16777216) : cutX s c = some (Lib.cut s c) := by
  unfold cutX; rw [if_pos (by omega)]
theorem trimR_eq {s : List UInt8} (hl : s.length ≤ 16777216) : trimRightX s [32, 9] = some (cutR s) := by
  unfold trimRightX; rw [if_pos ⟨rfl, by decide, by omega⟩]; rfl
def fldR : Sum (Int × Int) Fld → Option Fld → Prop
  | .inr f, some g => f = g
  | .inl _, none => True
  | _, _ => False
theorem field_eq {s : List UInt8} {f : Int} (hl : s.length ≤ 16777216) (hn : s ≠ []) : ∃ o, head_field s f = some o ∧ fldR o (fldT s) := by
  obtain ⟨c, r, rfl⟩ := List.exists_cons_of_ne_nil hn
  have e0 : ixL (c :: r) 0 = some c := rfl
  unfold head_field
  rw [e0]
  simp only [Option.bind_some]
  have eb : (if decide (b2i c = b2i (bC 32)) then some true else some (decide (b2i c = b2i (bC 9)))) = some (blT c) :=
    of_decide_eq_true (all256 (p := fun c => decide ((if decide (b2i c = b2i (bC 32)) then some true else some (decide (b2i c = b2i (bC 9)))) = some (blT c))) (by kernel_rfl) c)
  rw [eb]
  simp only [Option.bind_some]
  rcases cut_spec 58 (c :: r) with ⟨h1, h2⟩ | ⟨a, b, h1, h2, h3⟩
  · have hf : fldT (c :: r) = none := by unfold fldT; rw [h1]; simp
    rw [hf]
    cases hb : blT c with
    | true => exact ⟨_, rfl, trivial⟩
    | false =>
      rw [if_neg (by simp), cutX_eq hl, h1]
      exact ⟨_, rfl, trivial⟩
  · have hla : a.length + b.length + 1 = (c :: r).length := by rw [h1]; simp; omega
    have hF : fldT (c :: r) = if tokT a && b.all quoT then some (a, trimT b) else none := by unfold fldT; rw [h3]; simp
    cases hb : blT c with
    | true =>
      have ht : tokT a = false := by
        cases hx : tokT a with
        | false => rfl
        | true =>
          obtain ⟨d, q, rfl, hd⟩ := tok_head hx
          simp at h1
          rw [h1.1, hd] at hb
          cases hb
      rw [hF, ht]
      exact ⟨_, rfl, trivial⟩
    | false =>
      rw [if_neg (by simp), cutX_eq hl, h3]
      simp only [Option.bind_some, Bool.not_true, Bool.false_eq_true, if_false]
      rw [trimR_eq (by omega)]
      simp only [Option.bind_some]
      by_cases hc : cutR a = a
      · rw [if_neg (by simp [hc]), Token_eq (by omega)]
        simp only [Option.bind_some]
        rw [hF]
        cases ht : tokT a with
        | false => exact ⟨_, rfl, trivial⟩
        | true =>
          rw [if_neg (by simp), iadd64 (by omega) (by omega), ← Int.natCast_add_one]
          obtain ⟨o, g1, g2⟩ := clean_eq (s := c :: r) (f := f) hl (i := a.length + 1) (by omega)
          have hd : (c :: r).drop (a.length + 1) = b := by rw [h1, ← List.drop_drop, List.drop_left]; rfl
          rw [hd] at g2
          rw [g1]
          cases o with
          | inl p => dsimp only at g2; rw [g2]; exact ⟨_, rfl, trivial⟩
          | inr u =>
            dsimp only at g2
            rw [g2]
            simp only [Option.bind_some]
            rw [Trim_eq (by omega)]
            exact ⟨_, rfl, rfl⟩
      · rw [if_pos (by simp [hc]), hF]
        cases ht : tokT a with
        | true => exact absurd (tok_cutR ht) hc
        | false => exact ⟨_, rfl, trivial⟩
/-- the fields, to the end -/
def rowsT : Nat → Nat → List UInt8 → Option (List Fld)
  | 0, _, _ => none
  | k + 1, n, s => match lnT s with
    | none => none
    | some (l, r) => if l = [] then (if r = [] then some [] else none) else if n = 32 then none else match fldT l with
      | none => none
      | some f => (rowsT k (n + 1) r).map (f :: ·)
def rowsStep (s : List UInt8) (L : Int → List Fld → Option (Sum (Int × Int) (List Fld))) (l361 : Int) (l362 : List Fld) : Option (Sum (Int × Int) (List Fld)) :=
    (lineG s l361).bind fun o403 => match o403 with
    | Sum.inl a404 =>
      some (Sum.inl (a404.1, a404.2))
    | Sum.inr a405 =>
      (show Option (Bool) from
        if decide (a405.1 = []) then
          some (decide (a405.2 < (List.length s : Int)))
        else
          some false).bind fun j407 =>
        if j407 then
          (head_fail a405.2 1).bind fun r408 => match r408 with
          | Sum.inl p409 =>
            some (Sum.inl (p409.1, p409.2))
          | Sum.inr r410 =>
            none
        else
          if decide (a405.1 = []) then
            some (Sum.inr l362)
          else
            if decide (((List.length l362 : Nat) : Int) = 32) then
              (head_fail l361 18).bind fun r411 => match r411 with
              | Sum.inl p412 =>
                some (Sum.inl (p412.1, p412.2))
              | Sum.inr r413 =>
                none
            else
              (head_field a405.1 l361).bind fun r414 => match r414 with
              | Sum.inl p415 =>
                some (Sum.inl (p415.1, p415.2))
              | Sum.inr r416 =>
                (szC (List.length (l362 ++ [(r416.1, r416.2)] : List ((List UInt8) × (List UInt8))))).bind fun _ =>
                L a405.2 (l362 ++ [(r416.1, r416.2)])
def rowR (acc : List Fld) : Sum (Int × Int) (List Fld) → Option (List Fld) → Prop
  | .inr l, some fs => l = acc ++ fs
  | .inl _, none => True
  | _, _ => False
theorem rows_eq {s : List UInt8} (hl : s.length ≤ 16777216) {L : Nat → Int → List Fld → Option (Sum (Int × Int) (List Fld))} (hL : ∀ k f acc, L (k + 1) f acc = rowsStep s (L k) f acc) :
    ∀ (k f : Nat) (acc : List Fld), f ≤ s.length → s.length - f < k → acc.length ≤ 32 → ∃ o, L k (f : Int) acc = some o ∧ rowR acc o (rowsT k acc.length (s.drop f))
  | 0, f, acc, _, hk, _ => by omega
  | k + 1, f, acc, hf, hk, ha => by
    rw [hL]
    unfold rowsStep
    obtain ⟨o, h1, h2⟩ := line_eq hl hf
    rw [h1]
    simp only [rowsT]
    generalize lnT (s.drop f) = w at h2
    rcases o with p | p <;> rcases w with _ | ⟨l, r⟩ <;> simp only [lineR] at h2
    · exact ⟨_, rfl, trivial⟩
    · obtain ⟨p1, p2⟩ := p
      dsimp only at h2
      obtain ⟨rfl, rfl, rfl, h3⟩ := h2
      simp only [Option.bind_some]
      by_cases hp : p1 = []
      · subst hp
        simp only [decide_true, if_true, Option.bind_some, List.length_nil, Nat.add_zero]
        by_cases hr : f + 2 = s.length
        · rw [if_neg (by simp; omega), if_pos (List.drop_eq_nil_of_le (by omega))]
          exact ⟨_, rfl, by simp [rowR]⟩
        · rw [if_pos (by simp at h3 ⊢; omega), if_neg (by rw [List.drop_eq_nil_iff]; simp at h3; omega)]
          exact ⟨_, rfl, trivial⟩
      · simp only [decide_eq_false hp, Bool.false_eq_true, if_false, Option.bind_some, if_neg hp]
        by_cases hn : acc.length = 32
        · rw [if_pos (by simp; omega), if_pos hn]
          exact ⟨_, rfl, trivial⟩
        · rw [if_neg (by simp; omega), if_neg hn]
          obtain ⟨o, g1, g2⟩ := field_eq (s := p1) (f := (f : Int)) (by omega) hp
          rw [g1]
          generalize fldT p1 = w at g2
          rcases o with q | q <;> rcases w with _ | g <;> simp only [fldR] at g2
          · exact ⟨_, rfl, trivial⟩
          · subst g2
            simp only [Option.bind_some]
            rw [szC_ok (by simp; omega)]
            simp only [Option.bind_some]
            obtain ⟨o, k1, k2⟩ := rows_eq hl hL k (f + p1.length + 2) (acc ++ [(q.1, q.2)]) h3 (by omega) (by simp; omega)
            refine ⟨o, k1, ?_⟩
            rw [List.length_append, List.length_singleton] at k2
            generalize rowsT k (acc.length + 1) (s.drop (f + p1.length + 2)) = w at k2
            rcases o with z | z <;> rcases w with _ | fs <;> simp only [rowR] at k2 <;> simp only [rowR, Option.map_none, Option.map_some]
            rw [k2]; simp
theorem lnT_len : ∀ {s l r : List UInt8}, lnT s = some (l, r) → s = l ++ 13 :: 10 :: r ∧ (∀ c ∈ l, c ≠ 10 ∧ c ≠ 13)
  | [], l, r, h => by simp [lnT] at h
  | c :: s, l, r, h => by
    unfold lnT at h
    by_cases h10 : c = 10
    · rw [if_pos h10] at h; cases h
    · rw [if_neg h10] at h
      by_cases h13 : c = 13
      · rw [if_pos h13] at h
        cases s with
        | nil => cases h
        | cons d q =>
          dsimp only at h
          split at h
          · rename_i hd
            simp only [Option.some.injEq, Prod.mk.injEq] at h
            obtain ⟨rfl, rfl⟩ := h
            subst hd h13
            exact ⟨rfl, by simp⟩
          · cases h
      · rw [if_neg h13] at h
        simp only [Option.map_eq_some_iff] at h
        obtain ⟨⟨a, b⟩, h1, h2⟩ := h
        simp only [Prod.mk.injEq] at h2
        obtain ⟨rfl, rfl⟩ := h2
        obtain ⟨e1, e2⟩ := lnT_len h1
        refine ⟨by rw [e1]; rfl, fun x hx => ?_⟩
        rcases List.mem_cons.1 hx with rfl | hx
        · exact ⟨h10, h13⟩
        · exact e2 x hx
theorem lnT_app : ∀ {a : List UInt8} (r : List UInt8), (∀ c ∈ a, c ≠ 10 ∧ c ≠ 13) → lnT (a ++ 13 :: 10 :: r) = some (a, r)
  | [], r, _ => by simp [lnT]
  | c :: a, r, h => by
    have h1 := h c (by simp)
    rw [List.cons_append]
    unfold lnT
    rw [if_neg h1.1, if_neg h1.2, lnT_app r (fun x hx => h x (by simp [hx]))]
    rfl
theorem fldT_some {s : List UInt8} {f : Fld} (h : fldT s = some f) : ∃ b, s = f.1 ++ 58 :: b ∧ tokT f.1 = true ∧ b.all quoT = true ∧ f.2 = trimT b := by
  unfold fldT at h
  rcases cut_spec 58 s with ⟨h1, h2⟩ | ⟨a, b, h1, h2, h3⟩
  · rw [h1] at h; simp at h
  · rw [h3] at h
    split at h
    · rename_i hc
      simp only [Bool.true_and, Bool.and_eq_true] at hc
      obtain rfl := Option.some.inj h
      exact ⟨b, h1, hc.1, hc.2, rfl⟩
    · cases h
theorem trim_all {p : UInt8 → Bool} {b : List UInt8} (h : b.all p = true) : (trimT b).all p = true := by
  obtain ⟨x, y, e, _⟩ := trim_parts b
  rw [List.all_eq_true] at h ⊢
  intro c hc
  exact h c (by rw [e]; simp [hc])
theorem fldT_right {s : List UInt8} {f : Fld} (h : fldT s = some f) : tokT f.1 = true ∧ vOK f.2 = true ∧ f.1.length + f.2.length + 1 ≤ s.length := by
  obtain ⟨b, h1, h2, h3, h4⟩ := fldT_some h
  refine ⟨h2, ?_, ?_⟩
  · unfold vOK plainT
    rw [h4, trim_trim, decide_eq_true rfl]
    exact trim_all h3
  · have := trimT_len b
    rw [h1, h4]
    simp
    omega
theorem rowsT_ok : ∀ (k n : Nat) (s : List UInt8) (fs : List Fld), n ≤ 32 → rowsT k n s = some fs → fs.length + n ≤ 32 ∧ (∀ f ∈ fs, tokT f.1 = true ∧ vOK f.2 = true) ∧ (linesT fs).length + 2 ≤ s.length + fs.length ∧ ∀ f ∈ fs, f.1.length + f.2.length ≤ s.length
  | 0, n, s, fs, _, h => by simp [rowsT] at h
  | k + 1, n, s, fs, hn, h => by
    unfold rowsT at h
    rcases hw : lnT s with _ | ⟨l, r⟩
    · rw [hw] at h; cases h
    · rw [hw] at h
      dsimp only at h
      obtain ⟨e1, e2⟩ := lnT_len hw
      by_cases hl : l = []
      · rw [if_pos hl] at h
        split at h
        · obtain rfl := Option.some.inj h
          rw [e1]
          exact ⟨by simpa using hn, by simp, by simp [linesT]; omega, by simp⟩
        · cases h
      · rw [if_neg hl] at h
        by_cases h32 : n = 32
        · rw [if_pos h32] at h; cases h
        · rw [if_neg h32] at h
          rcases hf : fldT l with _ | f
          · rw [hf] at h; cases h
          · rw [hf] at h
            simp only [Option.map_eq_some_iff] at h
            obtain ⟨gs, hg, rfl⟩ := h
            obtain ⟨i1, i2, i3, i4⟩ := rowsT_ok k (n + 1) r gs (by omega) hg
            obtain ⟨f1, f2, f3⟩ := fldT_right hf
            have hs : s.length = l.length + r.length + 2 := by rw [e1]; simp; omega
            have hll : (lineT f).length ≤ l.length + 3 := by
              unfold lineT
              split
              · simp; omega
              · simp; omega
            refine ⟨by simp; omega, fun g hg => ?_, ?_, fun g hg => ?_⟩
            · rcases List.mem_cons.1 hg with rfl | hg
              · exact ⟨f1, f2⟩
              · exact i2 g hg
            · rw [linesT_cons, List.length_append, List.length_cons]; omega
            · rcases List.mem_cons.1 hg with rfl | hg
              · omega
              · have := i4 g hg; omega
def verT : List UInt8 := [72, 84, 84, 80, 47, 49, 46, 49]
/-- a request that is read -/
def reqS (s : List UInt8) : Option (List UInt8 × List UInt8 × List Fld) :=
  if 2048 < s.length then none else match lnT s with
  | none => none
  | some (l, r) => if (Lib.cut l [32]).2.2 && (methT (Lib.cut l [32]).1 && ((Lib.cut (Lib.cut l [32]).2.1 [32]).2.2 && (targT (Lib.cut (Lib.cut l [32]).2.1 [32]).1 && decide ((Lib.cut (Lib.cut l [32]).2.1 [32]).2.1 = verT)))) then
      (match rowsT 1099511627776 0 r with
      | none => none
      | some fs => if hostT fs then some ((Lib.cut l [32]).1, (Lib.cut (Lib.cut l [32]).2.1 [32]).1, fs) else none)
    else none
theorem okF_rows {k : Nat} {s : List UInt8} {fs : List Fld} (hl : s.length ≤ 16777216) (h : rowsT k 0 s = some fs) : okF fs := by
  obtain ⟨h1, h2, h3, h4⟩ := rowsT_ok k 0 s fs (by omega) h
  exact ⟨by omega, fun f hf => by have := h4 f hf; omega⟩
theorem req_eq {s : List UInt8} (hl : s.length ≤ 16777216) : head_Request s = some (match reqS s with | some q => (q, true) | none => (([], [], []), false)) := by
  unfold head_Request reqS
  by_cases h1 : 2048 < s.length
  · rw [if_pos (by simp; omega), if_pos h1]
    rfl
  · rw [if_neg (by simp; omega), if_neg h1]
    obtain ⟨o, g1, g2⟩ := line_eq (f := 0) hl (Nat.zero_le _)
    rw [List.drop_zero] at g2
    have g1 : lineG s 0 = some o := g1
    show (lineG s 0).bind _ = _
    rw [g1]
    generalize lnT s = w at g2
    rcases o with p | p <;> rcases w with _ | ⟨l, r⟩ <;> simp only [lineR] at g2
    · rfl
    · obtain ⟨p1, p2⟩ := p
      dsimp only at g2
      obtain ⟨rfl, rfl, rfl, h3⟩ := g2
      have e1 := cut_len p1 32
      have e2 := cut_len (Lib.cut p1 [32]).2.1 32
      simp only [Option.bind_some]
      rw [cutX_eq (by omega)]
      simp only [Option.bind_some]
      cases c1 : (Lib.cut p1 [32]).2.2 with
      | false => rfl
      | true =>
        simp only [Bool.not_true, Bool.false_eq_true, if_false]
        rw [method_eq (by omega)]
        simp only [Option.bind_some]
        cases c2 : methT (Lib.cut p1 [32]).1 with
        | false => rfl
        | true =>
          simp only [Bool.not_true, Bool.false_eq_true, if_false]
          rw [cutX_eq (by omega)]
          simp only [Option.bind_some]
          cases c3 : (Lib.cut (Lib.cut p1 [32]).2.1 [32]).2.2 with
          | false => rfl
          | true =>
            simp only [Bool.not_true, Bool.false_eq_true, if_false]
            rw [target_eq (by omega)]
            simp only [Option.bind_some]
            cases c4 : targT (Lib.cut (Lib.cut p1 [32]).2.1 [32]).1 with
            | false => rfl
            | true =>
              simp only [Bool.not_true, Bool.false_eq_true, if_false]
              by_cases c5 : (Lib.cut (Lib.cut p1 [32]).2.1 [32]).2.1 = verT
              · rw [if_neg (by rw [decide_eq_true (show (Lib.cut (Lib.cut p1 [32]).2.1 [32]).2.1 = [72, 84, 84, 80, 47, 49, 46, 49] from c5)]; simp), decide_eq_true c5]
                obtain ⟨o, k1, k2⟩ := rows_eq hl (L := head_text_rows_L363 s) (fun _ _ _ => rfl) 1099511627776 (0 + p1.length + 2) [] h3 (by omega) (by simp)
                rw [k1]
                rw [List.length_nil] at k2
                simp only [Bool.and_self, if_true]
                rcases hw : rowsT 1099511627776 0 (s.drop (0 + p1.length + 2)) with _ | fs
                · rw [hw] at k2
                  rcases o with z | z
                  · rfl
                  · exact k2.elim
                · rw [hw] at k2
                  rcases o with z | z
                  · exact k2.elim
                  · have k2 : z = [] ++ fs := k2
                    rw [List.nil_append] at k2
                    subst k2
                    simp only [Option.bind_some]
                    rw [host_eq (okF_rows (by rw [List.length_drop]; omega) hw)]
                    cases hostT z <;> rfl
              · rw [if_pos (by rw [decide_eq_false (show ¬ (Lib.cut (Lib.cut p1 [32]).2.1 [32]).2.1 = [72, 84, 84, 80, 47, 49, 46, 49] from c5)]; rfl), decide_eq_false c5]
                rfl
end Go.Proofs.YtgngopfpnidbaaaGreatDoor
