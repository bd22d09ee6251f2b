/- head, plain: how a head is read. -/
import Derived.Test.YtfhlehkgiamejaaGreatDoorU4B
import Derived.Test.YtfhlehkgiamejaaGreatDoorU2A
import Derived.Test.YtfhlehkgiamejaaGreatDoorGC
namespace Go.Proofs.YtfhlehkgiamejaaGreatDoor
open Go.Av
set_option linter.unusedVariables false
set_option linter.unusedSimpArgs false
set_option maxRecDepth 100000
/-- a line, and what follows it -/
def lnT : List UInt8 → Option (List UInt8 × List UInt8)
  | [] => none
  | c :: r => if c = 10 then none else if c = 13 then (match r with
    | [] => none
    | d :: q => if d = 10 then some ([], q) else none) else (lnT r).map fun p => (c :: p.1, p.2)
theorem crlf_in (c : UInt8) : ([13, 10] : List UInt8).contains c = (c == 13 || c == 10) := by simp [List.contains, List.elem]; cases c == 13 <;> cases c == 10 <;> rfl
theorem ln_spec : ∀ t : List UInt8, (Lib.indexAny t [13, 10] = -1 ∧ lnT t = none) ∨ ∃ n : Nat, Lib.indexAny t [13, 10] = (n : Int) ∧ n < t.length ∧
    ((t[n]? = some 10 ∧ lnT t = none) ∨ (t[n]? = some 13 ∧ ((t[n + 1]? = some 10 ∧ lnT t = some (t.take n, t.drop (n + 2))) ∨ (t[n + 1]? ≠ some 10 ∧ lnT t = none))))
  | [] => .inl ⟨rfl, rfl⟩
  | c :: r => by
    by_cases h13 : c = 13
    · subst h13
      refine .inr ⟨0, by simp [Lib.indexAny], by simp, .inr ⟨rfl, ?_⟩⟩
      cases r with
      | nil => exact .inr ⟨by simp, rfl⟩
      | cons d q =>
        by_cases hd : d = 10
        · subst hd; exact .inl ⟨rfl, rfl⟩
        · refine .inr ⟨by simpa using hd, ?_⟩
          simp [lnT, hd]
    · by_cases h10 : c = 10
      · subst h10
        exact .inr ⟨0, by simp [Lib.indexAny], by simp, .inl ⟨rfl, rfl⟩⟩
      · have hc : ([13, 10] : List UInt8).contains c = false := by rw [crlf_in]; simp [h13, h10]
        have e1 : lnT (c :: r) = (lnT r).map fun p => (c :: p.1, p.2) := by simp [lnT, h13, h10]
        rcases ln_spec r with ⟨g1, g2⟩ | ⟨n, g1, g2, g3⟩
        · refine .inl ⟨?_, by rw [e1, g2]; rfl⟩
          rw [Lib.indexAny, hc, g1]; rfl
        · refine .inr ⟨n + 1, ?_, by simp; omega, ?_⟩
          · rw [Lib.indexAny, hc, g1, if_neg (by simp), if_neg (by first | (simp; done) | (simp; omega))]; omega
          · rcases g3 with ⟨g4, g5⟩ | ⟨g4, ⟨g5, g6⟩ | ⟨g5, g6⟩⟩
            · exact .inl ⟨by simpa using g4, by rw [e1, g5]; rfl⟩
            · exact .inr ⟨by simpa using g4, .inl ⟨by simpa using g5, by rw [e1, g6]; rfl⟩⟩
            · exact .inr ⟨by simpa using g4, .inr ⟨by simpa using g5, by rw [e1, g6]; rfl⟩⟩
theorem any_skip13 {s : List UInt8} : ∀ (w p : Nat), (∀ j, p ≤ j → j < p + w → ∃ hj : j < s.length, 128 ≤ (s[j]'hj).toNat) →
    Lib.indexAny (s.drop p) [13, 10] = if Lib.indexAny (s.drop (p + w)) [13, 10] = -1 then -1 else Lib.indexAny (s.drop (p + w)) [13, 10] + (w : Int)
  | 0, p, _ => by
    rw [Nat.add_zero]
    by_cases h : Lib.indexAny (s.drop p) [13, 10] = -1
    · rw [if_pos h, h]
    · rw [if_neg h]; simp
  | w + 1, p, h => by
    obtain ⟨h1, h2⟩ := h p (Nat.le_refl _) (by omega)
    have ih := any_skip13 w (p + 1) (fun j j1 j2 => h j (by omega) (by omega))
    have hc : ([13, 10] : List UInt8).contains s[p] = false := by
      rw [crlf_in]
      have a1 : s[p] ≠ 13 := fun e => by rw [e] at h2; exact absurd h2 (by decide)
      have a2 : s[p] ≠ 10 := fun e => by rw [e] at h2; exact absurd h2 (by decide)
      simp [a1, a2]
    rw [show p + (w + 1) = p + 1 + w by omega, drop_step h1, Lib.indexAny, hc, ih]
    have hge := Lib.indexAny_ge [13, 10] (s.drop (p + 1 + w))
    by_cases hm : Lib.indexAny (s.drop (p + 1 + w)) [13, 10] = -1
    · simp [hm]
    · rw [if_neg hm, if_neg hm, if_neg (by simp), if_neg (by simp; omega)]; omega
theorem irune_lo (c : UInt8) (h : c.toNat < 128) : iruneX [13, 10] ((c.toNat : Nat) : Int) = some (if c = 13 then 0 else if c = 10 then 1 else -1) := by
  unfold iruneX
  rw [if_neg (by omega), irune h]
  have e : ∀ c : UInt8, Lib.indexByte [13, 10] c = if c = 13 then 0 else if c = 10 then 1 else -1 := fun c => of_decide_eq_true (all256 (p := fun c => decide (Lib.indexByte [13, 10] c = if c = 13 then 0 else if c = 10 then 1 else -1)) (by kernel_rfl) c)
  rw [e]
theorem irune_hi' {r : Nat} (h : 128 ≤ r) : iruneX [13, 10] (r : Int) = some (-1) := by
  unfold iruneX
  by_cases h2 : (r : Int) = 65533
  · rw [if_neg (by omega), h2]; kernel_rfl
  · rw [if_pos ⟨rfl, by omega, h2⟩]
theorem any_loop (s : List UInt8) (hl : s.length ≤ 16777216) : ∀ (k p : Nat), s.length - p < k → strings_IndexAny_L16 s [13, 10] k p = some (if 0 ≤ Lib.indexAny (s.drop p) [13, 10] then Sum.inl ((p : Int) + Lib.indexAny (s.drop p) [13, 10]) else Sum.inr ())
  | 0, p, hk => by omega
  | k + 1, p, hk => by
    simp only [strings_IndexAny_L16]
    by_cases hlt : p < s.length
    · rw [if_pos (by simpa using hlt)]
      by_cases h : s[p].toNat < 128
      · have d := decR_lo hlt h
        rw [d]
        dsimp only
        rw [irune_lo _ h, drop_step hlt, Lib.indexAny, crlf_in]
        simp only [Option.bind_some]
        by_cases h13 : s[p] = 13
        · rw [if_pos h13]; simp [h13]
        · by_cases h10 : s[p] = 10
          · rw [if_neg h13, if_pos h10]; simp [h10]
          · have ih := any_loop s hl k (p + 1) (by omega)
            have hge := Lib.indexAny_ge [13, 10] (s.drop (p + 1))
            rw [if_neg h13, if_neg h10, if_neg (by simp), ih]
            simp only [beq_iff_eq, h13, h10, Bool.or_self, Bool.false_eq_true, if_false, beq_eq_false_iff_ne.2 h13, beq_eq_false_iff_ne.2 h10]
            by_cases hm : Lib.indexAny (s.drop (p + 1)) [13, 10] = -1
            · simp [hm]
            · rw [if_neg hm, if_pos (by omega), if_pos (by omega)]
              congr 2
              omega
      · obtain ⟨d1, d2, d3⟩ := decR_hi hlt (by omega)
        rw [irune_hi' d1]
        simp only [Option.bind_some]
        rw [if_neg (by simp)]
        have ih := any_loop s hl k (p + (decR s p).2) (by omega)
        have hs := any_skip13 (s := s) (decR s p).2 p (fun j j1 j2 => by
          by_cases hj : j = p
          · subst hj; exact ⟨hlt, by omega⟩
          · exact d3 j (by omega) j2)
        have hge := Lib.indexAny_ge [13, 10] (s.drop (p + (decR s p).2))
        rw [ih, hs]
        by_cases hm : Lib.indexAny (s.drop (p + (decR s p).2)) [13, 10] = -1
        · simp [hm]
        · rw [if_neg hm, if_pos (by omega), if_pos (by omega)]
          congr 2
          omega
    · rw [if_neg (by simpa using hlt), List.drop_eq_nil_of_le (by omega)]
      rfl
theorem any_eq {s : List UInt8} (hl : s.length ≤ 16777216) : indexAnyY s [13, 10] = some (Lib.indexAny s [13, 10]) := by
  unfold indexAnyY
  rcases h : indexAnyX s [13, 10] with _ | q
  · dsimp only
    unfold indexAnyX at h
    split at h
    · cases h
    · rename_i hc
      have hs : ¬ 8 < s.length := fun h8 => hc ⟨rfl, by decide, by decide, by omega, .inl h8⟩
      unfold strings_IndexAny strings_shouldUseASCIISet
      rw [if_neg (by simp), if_neg (by simp)]
      simp only [Option.bind_some]
      rw [if_neg (by simp; omega)]
      simp only [Option.bind_some]
      rw [any_loop s hl 1099511627776 0 (by omega)]
      have hge := Lib.indexAny_ge [13, 10] s
      rw [List.drop_zero]
      by_cases hm : 0 ≤ Lib.indexAny s [13, 10]
      · rw [if_pos hm]; simp
      · rw [if_neg hm]
        simp only [Option.bind_some]
        congr 1
        omega
  · dsimp only
    unfold indexAnyX at h
    split at h
    · exact h.symm
    · cases h
/-- the code's line -/
def lineG (s1 : List UInt8) (l361 : Int) : Option (Sum (Int × Int) ((List UInt8) × Int)) :=
      (slL s1 l361 (List.length s1 : Int)).bind fun s383 =>
      (indexAnyY s383 [13, 10]).bind fun r384 =>
      (show Option (Bool) from
        if decide (r384 < 0) then
          some (decide (r384 < 0))
        else
          (ixL s1 (iadd .i64 l361 r384)).bind fun c387 =>
          if decide (b2i c387 = b2i (bC 13)) then
            some (decide (iadd .i64 (iadd .i64 l361 r384) 1 = (List.length s1 : Int)))
          else
            some false).bind fun j388 =>
        if j388 then
          (head_fail (List.length s1 : Int) 24).bind fun r389 => match r389 with
          | Sum.inl p390 =>
            some (Sum.inl (p390.1, p390.2))
          | Sum.inr r391 =>
            none
        else
          (show Option (Bool) from
            (ixL s1 (iadd .i64 l361 r384)).bind fun c395 =>
            if decide (b2i c395 = b2i (bC 10)) then
              some (decide (b2i c395 = b2i (bC 10)))
            else
              (ixL s1 (iadd .i64 (iadd .i64 l361 r384) 1)).bind fun c396 =>
              some (!decide (b2i c396 = b2i (bC 10)))).bind fun j397 =>
            if j397 then
              (head_fail (iadd .i64 l361 r384) 10).bind fun r398 => match r398 with
              | Sum.inl p399 =>
                some (Sum.inl (p399.1, p399.2))
              | Sum.inr r400 =>
                none
            else
              (slL s1 l361 (iadd .i64 l361 r384)).bind fun s401 =>
              some (Sum.inr (s401, iadd .i64 (iadd .i64 l361 r384) 2))
def lineR (s : List UInt8) (f : Nat) : Sum (Int × Int) (List UInt8 × Int) → Option (List UInt8 × List UInt8) → Prop
  | .inr p, some q => p.1 = q.1 ∧ p.2 = ((f + q.1.length + 2 : Nat) : Int) ∧ q.2 = s.drop (f + q.1.length + 2) ∧ f + q.1.length + 2 ≤ s.length
  | .inl _, none => True
  | _, _ => False
theorem b2i13 (c : UInt8) : decide (b2i c = b2i (bC 13)) = decide (c = 13) := decide_eq_decide.2 ⟨fun h => b2i_inj.1 h, fun h => by rw [h]; rfl⟩
theorem b2i10 (c : UInt8) : decide (b2i c = b2i (bC 10)) = decide (c = 10) := decide_eq_decide.2 ⟨fun h => b2i_inj.1 h, fun h => by rw [h]; rfl⟩
theorem line_eq {s : List UInt8} (hl : s.length ≤ 16777216) {f : Nat} (hf : f ≤ s.length) : ∃ o, lineG s (f : Int) = some o ∧ lineR s f o (lnT (s.drop f)) := by
  unfold lineG
  rw [slL_from hf]
  simp only [Option.bind_some]
  rw [any_eq (by simp; omega)]
  simp only [Option.bind_some, b2i13, b2i10]
  rcases ln_spec (s.drop f) with ⟨g1, g2⟩ | ⟨n, g1, g2, g3⟩
  · rw [g1, g2]
    exact ⟨_, rfl, trivial⟩
  · rw [g1]
    rw [List.length_drop] at g2
    have hfn : f + n < s.length := by omega
    rw [if_neg (by first | (simp; done) | (simp; omega)), iadd64 (by omega) (by omega), show ((f : Int) + (n : Int)) = ((f + n : Nat) : Int) by omega, ixL_in hfn]
    simp only [Option.bind_some]
    simp only [List.getElem?_drop] at g3
    rw [List.getElem?_eq_getElem hfn] at g3
    rw [iadd64 (a := ((f + n : Nat) : Int)) (b := 1) (by omega) (by omega)]
    rcases g3 with ⟨g4, g5⟩ | ⟨g4, g6⟩
    · have g4 : s[f + n] = 10 := by simpa using g4
      rw [g4, g5]
      exact ⟨_, rfl, trivial⟩
    · have g4 : s[f + n] = 13 := by simpa using g4
      rw [g4]
      simp only [decide_true, if_true, Option.bind_some]
      by_cases hend : f + n + 1 = s.length
      · rw [if_pos (by simp; omega)]
        rcases g6 with ⟨g7, g8⟩ | ⟨g7, g8⟩
        · rw [show f + (n + 1) = f + n + 1 by omega, List.getElem?_eq_none (by omega)] at g7
          cases g7
        · rw [g8]
          exact ⟨_, rfl, trivial⟩
      · rw [if_neg (by simp; omega)]
        have h13 : (decide ((13 : UInt8) = 10)) = false := by decide
        have hn1 : f + n + 1 < s.length := by omega
        rw [show (((f + n : Nat) : Int) + 1) = ((f + n + 1 : Nat) : Int) by omega, ixL_in hn1]
        simp only [h13, Bool.false_eq_true, if_false, Option.bind_some]
        rw [show f + (n + 1) = f + n + 1 by omega, List.getElem?_eq_getElem hn1] at g6
        rcases g6 with ⟨g7, g8⟩ | ⟨g7, g8⟩
        · have g7 : s[f + n + 1] = 10 := by simpa using g7
          rw [g7, g8]
          simp only [decide_true, Bool.not_true, Bool.false_eq_true, if_false]
          rw [slL_nat (by omega) (by omega), iadd64 (by omega) (by omega)]
          refine ⟨_, rfl, ?_, ?_, ?_, ?_⟩
          · simp [List.drop_take]
          · simp; omega
          · simp [List.length_take]
            congr 1
            omega
          · simp [List.length_take]; omega
        · have g7 : s[f + n + 1] ≠ 10 := by simpa using g7
          rw [decide_eq_false g7, g8]
          exact ⟨_, rfl, trivial⟩
end Go.Proofs.YtfhlehkgiamejaaGreatDoor
