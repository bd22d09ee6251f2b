/- Chunks: what the machine does at a byte of a line. -/
import Derived.Test.YtfhlehkgiamejaaGreatDoorU7C
namespace Go.Proofs.YtfhlehkgiamejaaGreatDoor
open Go.Av
set_option linter.unusedVariables false
set_option linter.unusedSimpArgs false
set_option maxRecDepth 100000
def last13 (b : List UInt8) : Bool := decide (b.getLast? = some 13)
theorem last_app (b : List UInt8) (c : UInt8) : last13 (b ++ [c]) = decide (c = 13) := by
  unfold last13; rw [List.getLast?_append]; simp
theorem last_ix {b : List UInt8} (hb : b.length ≤ 1000000) : (if decide (0 < ((List.length b : Nat) : Int)) then
    (ixL b (isub .i64 ((List.length b : Nat) : Int) 1)).bind fun x => some (decide (b2i x = b2i (bC 13))) else some false) = some (last13 b) := by
  unfold last13
  by_cases h : b = []
  · subst h; rfl
  · have hl : 0 < b.length := List.length_pos_iff.2 h
    rw [if_pos (by rw [decide_eq_true_eq]; omega), isub64 (by omega) (by omega), show ((b.length : Nat) : Int) - 1 = ((b.length - 1 : Nat) : Int) by omega, ixL_nat, List.getLast?_eq_getElem?, List.getElem?_eq_getElem (by omega)]
    simp only [Option.bind_some, b2i13]
    congr 1
    exact decide_eq_decide.2 ⟨fun e => by rw [e], fun e => by simpa using e⟩
theorem last_pos {b : List UInt8} (h : last13 b = true) : 0 < b.length := by
  rcases b with _ | ⟨x, r⟩
  · simp [last13] at h
  · simp
theorem text_eq {b : UInt8} {left : Int} {last : Bool} {rows : Int} {line : List UInt8} {all : Int} {done : Bool} {err : Int} (hl : line.length ≤ 1000) :
    chunk_chunked_text b left last rows line all done err [] = if ((decide (b = 10)) != last13 line) = true then some (left, last, rows, line ++ [b], done, 22)
      else if b = 10 then (if last = true then (chunk_chunked_trailer (line.take (line.length - 1)) left last rows [] all done err []).bind fun r => some (left, last, r.1, [], r.2.1, r.2.2)
        else (chunk_chunked_size (line.take (line.length - 1)) left last rows [] all done err []).bind fun r => some (r.1, r.2.1, rows, [], done, r.2.2))
      else if line.length = 63 then some (left, last, rows, line ++ [b], done, 22) else some (left, last, rows, line ++ [b], done, err) := by
  unfold chunk_chunked_text
  rw [last_ix (by omega)]
  simp only [Option.bind_some]
  rw [szC_ok (by simp; omega), b2i10]
  simp only [Option.bind_some]
  by_cases h1 : ((decide (b = 10)) != last13 line) = true
  · rw [if_pos h1, if_pos h1]
    simp only [Option.bind_some]
    rw [if_pos h1]
  · rw [if_neg h1, if_neg h1]
    by_cases h2 : b = 10
    · rw [decide_eq_true h2] at h1 ⊢
      have hp : 0 < line.length := last_pos (by simpa using h1)
      simp only [Bool.not_true, Bool.false_eq_true, if_false, if_true, Option.bind_some]
      rw [if_pos h2, isub64 (by simp; omega) (by simp; omega), show (((line ++ [b]).length : Nat) : Int) - 2 = ((line.length - 1 : Nat) : Int) by simp; omega, slL_to (by simp; omega)]
      simp only [Option.bind_some]
      rw [show (0 : Int) = ((0 : Nat) : Int) from rfl, slL_nat (Nat.le_refl _) (by omega)]
      simp only [Option.bind_some, List.take_zero, List.drop_zero]
      rw [List.take_append_of_le_length (by omega)]
    · rw [decide_eq_false h2]
      simp only [Bool.not_false, if_true, Option.bind_some, Bool.false_eq_true, if_false]
      rw [if_neg h2]
      by_cases h3 : line.length = 63
      · rw [if_pos (by simp; omega), if_pos h3]
      · rw [if_neg (by simp; omega), if_neg h3]
theorem odd7 (r : Int) : chunk_chunked_size_1 r = some (oddG r) := by
  unfold chunk_chunked_size_1 oddG
  by_cases h1 : r < 32
  · by_cases h2 : r = 9
    · subst h2; rfl
    · rw [if_pos (by simpa using h1), if_pos (by simpa using h2)]; simp [h1, h2]
  · rw [if_neg (by simpa using h1)]; simp [h1]
theorem size_eq {h : List UInt8} {left : Int} {last : Bool} {rows : Int} {line : List UInt8} {all : Int} {done : Bool} {err : Int} (hl : h.length ≤ 1000) (h0 : 0 ≤ all) (h1 : all ≤ 8192) :
    chunk_chunked_size h left last rows line all done err [] = some (if (numS 16 (Lib.cut h [59]).1).2 ≠ 0 ∨ anyG oddG (Lib.cut h [59]).2.1 = true then (left, last, 22)
      else if 8192 - all < (numS 16 (Lib.cut h [59]).1).1 then (left, last, 23) else if (numS 16 (Lib.cut h [59]).1).1 = 0 then (left, true, err) else ((numS 16 (Lib.cut h [59]).1).1, last, err)) := by
  have hc := cut_len h 59
  unfold chunk_chunked_size
  rw [cutX_eq (by omega)]
  simp only [Option.bind_some]
  rw [hex_eq _ (by omega)]
  simp only [Option.bind_some]
  obtain ⟨o, e1, e2⟩ := idx_loop (s := (Lib.cut h [59]).2.1) (G := oddG) (L := strings_indexFunc_L178 (Lib.cut h [59])) (.inr fun r hr => by unfold oddG; rw [decide_eq_false (by omega)]) (fun k p => by
    simp only [strings_indexFunc_L178, odd7, Option.bind_some, decide_eq_true_eq, beq_iff_eq]) 141836999983104 0 (by omega)
  rw [List.drop_zero] at e2
  rw [e1]
  have fin : ∀ a : Bool, a = anyG oddG (Lib.cut h [59]).2.1 → ((if !decide ((numS 16 (Lib.cut h [59]).1).2 = 0) then some true else some a).bind fun j189 =>
      if j189 then some (left, last, (22 : Int)) else if decide (isub .i64 8192 all < (numS 16 (Lib.cut h [59]).1).1) then some (left, last, 23) else if decide ((numS 16 (Lib.cut h [59]).1).1 = 0) then some (left, true, err) else some ((numS 16 (Lib.cut h [59]).1).1, last, err)) =
    some (if (numS 16 (Lib.cut h [59]).1).2 ≠ 0 ∨ anyG oddG (Lib.cut h [59]).2.1 = true then (left, last, 22)
      else if 8192 - all < (numS 16 (Lib.cut h [59]).1).1 then (left, last, 23) else if (numS 16 (Lib.cut h [59]).1).1 = 0 then (left, true, err) else ((numS 16 (Lib.cut h [59]).1).1, last, err)) := by
    intro a ha
    rw [← ha]
    generalize numS 16 (Lib.cut h [59]).1 = w
    by_cases g1 : w.2 = 0
    · rw [if_neg (by simp [g1])]
      simp only [Option.bind_some]
      cases a with
      | true => rw [if_pos (show w.2 ≠ 0 ∨ true = true from .inr rfl)]; rfl
      | false =>
        rw [if_neg (show ¬ (w.2 ≠ 0 ∨ false = true) from fun e => e.elim (fun e => e g1) (fun e => by cases e)), isub64 (by omega) (by omega)]
        simp only [Bool.false_eq_true, if_false]
        by_cases g2 : 8192 - all < w.1
        · rw [if_pos (decide_eq_true g2), if_pos g2]
        · rw [if_neg (by simpa using g2), if_neg g2]
          by_cases g3 : w.1 = 0
          · rw [if_pos (decide_eq_true g3), if_pos g3]
          · rw [if_neg (by simpa using g3), if_neg g3]
    · rw [if_pos (by simp [g1]), if_pos (show w.2 ≠ 0 ∨ a = true from .inl g1)]
      rfl
  cases o with
  | inl v =>
    simp only [Option.bind_some]
    rw [decide_eq_true e2.2]
    exact fin _ e2.1.symm
  | inr v =>
    simp only [Option.bind_some]
    rw [show decide ((0 : Int) ≤ -1) = false from rfl]
    exact fin _ e2.symm
theorem trailer_nil {left : Int} {last : Bool} {rows : Int} {line : List UInt8} {all : Int} {done : Bool} {err : Int} : chunk_chunked_trailer [] left last rows line all done err [] = some (rows, true, err) := rfl
end Go.Proofs.YtfhlehkgiamejaaGreatDoor
