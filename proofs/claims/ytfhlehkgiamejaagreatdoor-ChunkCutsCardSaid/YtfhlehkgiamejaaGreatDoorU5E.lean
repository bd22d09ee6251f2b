/- head, plain: fields, rows, and a request. -/
import Derived.Test.YtfhlehkgiamejaaGreatDoorU5D
import Derived.Test.YtfhlehkgiamejaaGreatDoorU5B
namespace Go.Proofs.YtfhlehkgiamejaaGreatDoor
open Go.Av
set_option linter.unusedVariables false
set_option linter.unusedSimpArgs false
set_option maxRecDepth 100000
theorem tch_bl (c : UInt8) (h : tchT c = true) : blT c = false := by
  have := all256 (p := fun c => decide (tchT c = true → blT c = false)) (by kernel_rfl) c
  exact of_decide_eq_true this h
theorem tok_cutR {s : List UInt8} (h : tokT s = true) : cutR s = s := by
  simp only [tokT, Bool.and_eq_true] at h
  have := cutR_mid (b := []) (m := s) (by simp) (fun q c e => tch_bl c (List.all_eq_true.1 h.2 c (by rw [e]; simp)))
  simpa using this
theorem tok_head {s : List UInt8} (h : tokT s = true) : ∃ c r, s = c :: r ∧ blT c = false := by
  simp only [tokT, Bool.and_eq_true, Bool.not_eq_true', decide_eq_false_iff_not] at h
  cases s with
  | nil => exact absurd rfl h.1
  | cons c r => exact ⟨c, r, rfl, tch_bl c (List.all_eq_true.1 h.2 c (by simp))⟩
/-- a field of a line -/
def fldT (s : List UInt8) : Option Fld := if (Lib.cut s [58]).2.2 && (tokT (Lib.cut s [58]).1 && (Lib.cut s [58]).2.1.all quoT) then some ((Lib.cut s [58]).1, trimT (Lib.cut s [58]).2.1) else none
theorem clean_test (c : UInt8) : (if decide (b2i c < b2i (bC 32)) then (if !decide (b2i c = b2i (bC 9)) then some true else some (decide (b2i c = b2i (bC 127)))) else some (decide (b2i c = b2i (bC 127)))) = some (!quoT c) :=
  of_decide_eq_true (all256 (p := fun c => decide ((if decide (b2i c < b2i (bC 32)) then (if !decide (b2i c = b2i (bC 9)) then some true else some (decide (b2i c = b2i (bC 127)))) else some (decide (b2i c = b2i (bC 127)))) = some (!quoT c))) (by kernel_rfl) c)
theorem clean_loop (s : List UInt8) (f : Int) (hl : s.length ≤ 16777216) : ∀ (k i : Nat), s.length - i < k → i ≤ s.length → ∃ o, head_clean_L18 s f k (i : Int) = some o ∧ (match o with | .inl (.inl _) => (s.drop i).all quoT = false | .inl (.inr _) => False | .inr _ => (s.drop i).all quoT = true)
  | 0, i, hk, _ => by omega
  | k + 1, i, hk, hi => by
    simp only [head_clean_L18]
    by_cases hlt : i < s.length
    · rw [if_pos (by simpa using hlt), ixL_in hlt]
      simp only [Option.bind_some, clean_test]
      rw [drop_step hlt, List.all_cons]
      cases hq : quoT s[i] with
      | false => exact ⟨_, rfl, by simp⟩
      | true =>
        rw [iadd64 (a := (i : Int)) (by omega) (by omega), ← Int.natCast_add_one]
        obtain ⟨o, h1, h2⟩ := clean_loop s f hl k (i + 1) (by omega) (by omega)
        exact ⟨o, by simpa using h1, by simpa using h2⟩
    · rw [if_neg (by simpa using hlt), List.drop_eq_nil_of_le (by omega)]
      exact ⟨_, rfl, rfl⟩
theorem clean_eq {s : List UInt8} {f : Int} (hl : s.length ≤ 16777216) {i : Nat} (hi : i ≤ s.length) : ∃ o, head_clean s f (i : Int) = some o ∧ (match o with | .inl _ => (s.drop i).all quoT = false | .inr _ => (s.drop i).all quoT = true) := by
  obtain ⟨o, h1, h2⟩ := clean_loop s f hl 1099511627776 i (by omega) hi
  unfold head_clean
  rw [h1]
  rcases o with (p | u) | u
  · exact ⟨_, rfl, h2⟩
  · exact h2.elim
  · exact ⟨_, rfl, h2⟩
theorem cutX_eq {s c : List UInt8} (hl : s.length ≤ 16777216) : cutX s c = some (Lib.cut s c) := by
  unfold cutX; rw [if_pos (by omega)]
theorem trimR_eq {s : List UInt8} (hl : s.length ≤ 16777216) : trimRightX s [32, 9] = some (cutR s) := by
  unfold trimRightX; rw [if_pos ⟨rfl, by decide, by omega⟩]; rfl
def fldR : Sum (Int × Int) Fld → Option Fld → Prop
  | .inr f, some g => f = g
  | .inl _, none => True
  | _, _ => False
theorem field_eq {s : List UInt8} {f : Int} (hl : s.length ≤ 16777216) (hn : s ≠ []) : ∃ o, head_field s f = some o ∧ fldR o (fldT s) := by
  obtain ⟨c, r, rfl⟩ := List.exists_cons_of_ne_nil hn
  have e0 : ixL (c :: r) 0 = some c := rfl
  unfold head_field
  rw [e0]
  simp only [Option.bind_some]
  have eb : (if decide (b2i c = b2i (bC 32)) then some true else some (decide (b2i c = b2i (bC 9)))) = some (blT c) :=
    of_decide_eq_true (all256 (p := fun c => decide ((if decide (b2i c = b2i (bC 32)) then some true else some (decide (b2i c = b2i (bC 9)))) = some (blT c))) (by kernel_rfl) c)
  rw [eb]
  simp only [Option.bind_some]
  rcases cut_spec 58 (c :: r) with ⟨h1, h2⟩ | ⟨a, b, h1, h2, h3⟩
  · have hf : fldT (c :: r) = none := by unfold fldT; rw [h1]; simp
    rw [hf]
    cases hb : blT c with
    | true => exact ⟨_, rfl, trivial⟩
    | false =>
      rw [if_neg (by simp), cutX_eq hl, h1]
      exact ⟨_, rfl, trivial⟩
  · have hla : a.length + b.length + 1 = (c :: r).length := by rw [h1]; simp; omega
    have hF : fldT (c :: r) = if tokT a && b.all quoT then some (a, trimT b) else none := by unfold fldT; rw [h3]; simp
    cases hb : blT c with
    | true =>
      have ht : tokT a = false := by
        cases hx : tokT a with
        | false => rfl
        | true =>
          obtain ⟨d, q, rfl, hd⟩ := tok_head hx
          simp at h1
          rw [h1.1, hd] at hb
          cases hb
      rw [hF, ht]
      exact ⟨_, rfl, trivial⟩
    | false =>
      rw [if_neg (by simp), cutX_eq hl, h3]
      simp only [Option.bind_some, Bool.not_true, Bool.false_eq_true, if_false]
      rw [trimR_eq (by omega)]
      simp only [Option.bind_some]
      by_cases hc : cutR a = a
      · rw [if_neg (by simp [hc]), Token_eq (by omega)]
        simp only [Option.bind_some]
        rw [hF]
        cases ht : tokT a with
        | false => exact ⟨_, rfl, trivial⟩
        | true =>
          rw [if_neg (by simp), iadd64 (by omega) (by omega), ← Int.natCast_add_one]
          obtain ⟨o, g1, g2⟩ := clean_eq (s := c :: r) (f := f) hl (i := a.length + 1) (by omega)
          have hd : (c :: r).drop (a.length + 1) = b := by rw [h1, ← List.drop_drop, List.drop_left]; rfl
          rw [hd] at g2
          rw [g1]
          cases o with
          | inl p => dsimp only at g2; rw [g2]; exact ⟨_, rfl, trivial⟩
          | inr u =>
            dsimp only at g2
            rw [g2]
            simp only [Option.bind_some]
            rw [Trim_eq (by omega)]
            exact ⟨_, rfl, rfl⟩
      · rw [if_pos (by simp [hc]), hF]
        cases ht : tokT a with
        | true => exact absurd (tok_cutR ht) hc
        | false => exact ⟨_, rfl, trivial⟩
/-- the fields, to the end -/
def rowsT : Nat → Nat → List UInt8 → Option (List Fld)
  | 0, _, _ => none
  | k + 1, n, s => match lnT s with
    | none => none
    | some (l, r) => if l = [] then (if r = [] then some [] else none) else if n = 32 then none else match fldT l with
      | none => none
      | some f => (rowsT k (n + 1) r).map (f :: ·)
def rowsStep (s : List UInt8) (L : Int → List Fld → Option (Sum (Int × Int) (List Fld))) (l361 : Int) (l362 : List Fld) : Option (Sum (Int × Int) (List Fld)) :=
    (lineG s l361).bind fun o403 => match o403 with
    | Sum.inl a404 =>
      some (Sum.inl (a404.1, a404.2))
    | Sum.inr a405 =>
      (show Option (Bool) from
        if decide (a405.1 = []) then
          some (decide (a405.2 < (List.length s : Int)))
        else
          some false).bind fun j407 =>
        if j407 then
          (head_fail a405.2 1).bind fun r408 => match r408 with
          | Sum.inl p409 =>
            some (Sum.inl (p409.1, p409.2))
          | Sum.inr r410 =>
            none
        else
          if decide (a405.1 = []) then
            some (Sum.inr l362)
          else
            if decide (((List.length l362 : Nat) : Int) = 32) then
              (head_fail l361 18).bind fun r411 => match r411 with
              | Sum.inl p412 =>
                some (Sum.inl (p412.1, p412.2))
              | Sum.inr r413 =>
                none
            else
              (head_field a405.1 l361).bind fun r414 => match r414 with
              | Sum.inl p415 =>
                some (Sum.inl (p415.1, p415.2))
              | Sum.inr r416 =>
                (szC (List.length (l362 ++ [(r416.1, r416.2)] : List ((List UInt8) × (List UInt8))))).bind fun _ =>
                L a405.2 (l362 ++ [(r416.1, r416.2)])
def rowR (acc : List Fld) : Sum (Int × Int) (List Fld) → Option (List Fld) → Prop
  | .inr l, some fs => l = acc ++ fs
  | .inl _, none => True
  | _, _ => False
theorem rows_eq {s : List UInt8} (hl : s.length ≤ 16777216) {L : Nat → Int → List Fld → Option (Sum (Int × Int) (List Fld))} (hL : ∀ k f acc, L (k + 1) f acc = rowsStep s (L k) f acc) :
    ∀ (k f : Nat) (acc : List Fld), f ≤ s.length → s.length - f < k → acc.length ≤ 32 → ∃ o, L k (f : Int) acc = some o ∧ rowR acc o (rowsT k acc.length (s.drop f))
  | 0, f, acc, _, hk, _ => by omega
  | k + 1, f, acc, hf, hk, ha => by
    rw [hL]
    unfold rowsStep
    obtain ⟨o, h1, h2⟩ := line_eq hl hf
    rw [h1]
    simp only [rowsT]
    generalize lnT (s.drop f) = w at h2
    rcases o with p | p <;> rcases w with _ | ⟨l, r⟩ <;> simp only [lineR] at h2
    · exact ⟨_, rfl, trivial⟩
    · obtain ⟨p1, p2⟩ := p
      dsimp only at h2
      obtain ⟨rfl, rfl, rfl, h3⟩ := h2
      simp only [Option.bind_some]
      by_cases hp : p1 = []
      · subst hp
        simp only [decide_true, if_true, Option.bind_some, List.length_nil, Nat.add_zero]
        by_cases hr : f + 2 = s.length
        · rw [if_neg (by simp; omega), if_pos (List.drop_eq_nil_of_le (by omega))]
          exact ⟨_, rfl, by simp [rowR]⟩
        · rw [if_pos (by simp at h3 ⊢; omega), if_neg (by rw [List.drop_eq_nil_iff]; simp at h3; omega)]
          exact ⟨_, rfl, trivial⟩
      · simp only [decide_eq_false hp, Bool.false_eq_true, if_false, Option.bind_some, if_neg hp]
        by_cases hn : acc.length = 32
        · rw [if_pos (by simp; omega), if_pos hn]
          exact ⟨_, rfl, trivial⟩
        · rw [if_neg (by simp; omega), if_neg hn]
          obtain ⟨o, g1, g2⟩ := field_eq (s := p1) (f := (f : Int)) (by omega) hp
          rw [g1]
          generalize fldT p1 = w at g2
          rcases o with q | q <;> rcases w with _ | g <;> simp only [fldR] at g2
          · exact ⟨_, rfl, trivial⟩
          · subst g2
            simp only [Option.bind_some]
            rw [szC_ok (by simp; omega)]
            simp only [Option.bind_some]
            obtain ⟨o, k1, k2⟩ := rows_eq hl hL k (f + p1.length + 2) (acc ++ [(q.1, q.2)]) h3 (by omega) (by simp; omega)
            refine ⟨o, k1, ?_⟩
            rw [List.length_append, List.length_singleton] at k2
            generalize rowsT k (acc.length + 1) (s.drop (f + p1.length + 2)) = w at k2
            rcases o with z | z <;> rcases w with _ | fs <;> simp only [rowR] at k2 <;> simp only [rowR, Option.map_none, Option.map_some]
            rw [k2]; simp
end Go.Proofs.YtfhlehkgiamejaaGreatDoor
