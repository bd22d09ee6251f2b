/- Chunks: the machine goes on at any byte, and means no more than a body may be. -/
import Derived.Test.YtfhlehkgiamejaaGreatDoorU7D
namespace Go.Proofs.YtfhlehkgiamejaaGreatDoor
open Go.Av
set_option linter.unusedVariables false
set_option linter.unusedSimpArgs false
set_option maxRecDepth 100000
structure Inv7 (c : Cst) : Prop where
  l0 : -2 ≤ c.1
  l1 : c.1 ≤ 8192
  a0 : 0 ≤ c.2.2.2.2.1
  a1 : c.2.2.2.2.1 ≤ 8192
  la : 0 < c.1 → c.2.2.2.2.1 + c.1 ≤ 8192
  r0 : 0 ≤ c.2.2.1
  r1 : c.2.2.1 ≤ 1000
  n0 : c.2.2.2.1.length ≤ 64
  go : stopS c = false → c.2.2.1 ≤ 32 ∧ c.2.2.2.1.length < 64
  dn : c.2.2.2.2.2.1 = true → c.2.2.2.2.2.2 = 0
theorem num_nonneg (b : Nat) (s : List UInt8) : 0 ≤ (numS b s).1 := by
  unfold numS
  split
  · decide
  · split
    · dsimp only; omega
    · decide
theorem one_text' (last : Bool) (rows : Int) (line : List UInt8) (all : Int) (done : Bool) (err : Int) (x : UInt8) :
    oneS (0, last, rows, line, all, done, err) x = (chunk_chunked_text x 0 last rows line all done err []).map fun r => ((r.1, r.2.1, r.2.2.1, r.2.2.2.1, all, r.2.2.2.2.1, r.2.2.2.2.2), []) := by
  unfold oneS chunk_chunked_one
  rw [show decide ((0 : Int) < 0) = false from rfl]
  simp only [Bool.false_eq_true, if_false]
  cases chunk_chunked_text x 0 last rows line all done err [] <;> rfl
theorem one_total {c : Cst} (h : Inv7 c) (hs : stopS c = false) (x : UInt8) : ∃ q, oneS c x = some q ∧ Inv7 q.1 ∧ (q.2.length : Int) = q.1.2.2.2.2.1 - c.2.2.2.2.1 := by
  obtain ⟨l0, l1, a0, a1, la, r0, r1, n0, go, dn⟩ := h
  obtain ⟨g1, g2⟩ := go hs
  obtain ⟨left, last, rows, line, all, done, err⟩ := c
  simp only [stopS, Bool.or_eq_false_iff, Bool.not_eq_false', decide_eq_true_eq] at hs
  obtain ⟨rfl, rfl⟩ := hs
  dsimp only at *
  by_cases h1 : 0 < left
  · have e : oneS (left, last, rows, line, all, false, 0) x = some ((if left = 1 then -2 else left - 1, last, rows, line, all + 1, false, 0), [x]) := by
      unfold oneS chunk_chunked_one
      rw [decide_eq_true h1]
      simp only [if_true]
      unfold chunk_Reader_means
      rw [szC_ok (by simp), isub64 (by omega) (by omega), iadd64 (by omega) (by omega)]
      simp only [Option.bind_some]
      by_cases e : left = 1
      · rw [if_pos (decide_eq_true (by omega)), if_pos e]; rfl
      · rw [if_neg (by simp; omega), if_neg e]; rfl
    refine ⟨_, e, ?_, by simp; omega⟩
    have := la h1
    refine ⟨?_, ?_, ?_, ?_, ?_, r0, r1, n0, fun _ => ⟨g1, g2⟩, fun h => by cases h⟩ <;> dsimp only <;> first | omega | (split <;> omega)
  · by_cases h2 : left < 0
    · have e : ∃ w : Int, oneS (left, last, rows, line, all, false, 0) x = some ((left + 1, last, rows, line, all, false, w), []) := by
        unfold oneS chunk_chunked_one
        rw [decide_eq_false h1, decide_eq_true h2]
        simp only [if_true, Bool.false_eq_true, if_false]
        have hi : ∃ v, ixL ([10, 13] : List UInt8) (isub .i64 (ineg .i64 left) 1) = some v := by
          have : left = -1 ∨ left = -2 := by omega
          rcases this with rfl | rfl <;> exact ⟨_, rfl⟩
        obtain ⟨v, hi⟩ := hi
        rw [hi, iadd64 (by omega) (by omega)]
        simp only [Option.bind_some]
        split <;> exact ⟨_, rfl⟩
      obtain ⟨w, e⟩ := e
      refine ⟨_, e, ?_, by simp⟩
      refine ⟨?_, ?_, a0, a1, ?_, r0, r1, n0, fun _ => ⟨g1, g2⟩, fun h => by cases h⟩ <;> dsimp only <;> omega
    · have h0 : left = 0 := by omega
      subst h0
      rw [one_text', text_eq (by omega)]
      split
      · exact ⟨_, rfl, ⟨show (-2 : Int) ≤ 0 by decide, show (0 : Int) ≤ 8192 by decide, a0, a1, fun h => by simp at h, r0, r1, by simp; omega, fun h => by simp [stopS] at h, fun h => by cases h⟩, by simp⟩
      · split
        · split
          · by_cases hn : line.take (line.length - 1) = []
            · rw [hn, trailer_nil]
              exact ⟨_, rfl, ⟨show (-2 : Int) ≤ 0 by decide, show (0 : Int) ≤ 8192 by decide, a0, a1, fun h => by simp at h, r0, r1, by simp, fun h => by simp [stopS] at h, fun h => rfl⟩, by simp⟩
            · obtain ⟨e, e1, e2⟩ := trailer_eq (left := 0) (last := last) (line := []) (all := all) (done := false) (err := 0) (h := line.take (line.length - 1)) (by simp; omega) hn r0 (by omega)
              rw [e1]
              refine ⟨_, rfl, ⟨show (-2 : Int) ≤ 0 by decide, show (0 : Int) ≤ 8192 by decide, a0, a1, fun h => by simp at h, ?_, ?_, by simp, fun h => ?_, fun h => by cases h⟩, by simp⟩
              · dsimp only; omega
              · dsimp only; omega
              · rcases e2 with rfl | ⟨rfl, e3⟩
                · simp [stopS] at h
                · exact ⟨e3, by simp⟩
          · rw [size_eq (by simp; omega) a0 a1]
            have hv := num_nonneg 16 (Lib.cut (line.take (line.length - 1)) [59]).1
            generalize numS 16 (Lib.cut (line.take (line.length - 1)) [59]).1 = v at hv
            split
            · exact ⟨_, rfl, ⟨show (-2 : Int) ≤ 0 by decide, show (0 : Int) ≤ 8192 by decide, a0, a1, fun h => by simp at h, r0, r1, by simp, fun h => by simp [stopS] at h, fun h => by cases h⟩, by simp⟩
            · split
              · exact ⟨_, rfl, ⟨show (-2 : Int) ≤ 0 by decide, show (0 : Int) ≤ 8192 by decide, a0, a1, fun h => by simp at h, r0, r1, by simp, fun h => by simp [stopS] at h, fun h => by cases h⟩, by simp⟩
              · split
                · exact ⟨_, rfl, ⟨show (-2 : Int) ≤ 0 by decide, show (0 : Int) ≤ 8192 by decide, a0, a1, fun h => by simp at h, r0, r1, by simp, fun _ => ⟨g1, by simp⟩, fun h => by cases h⟩, by simp⟩
                · exact ⟨_, rfl, ⟨by dsimp only; omega, by dsimp only; omega, a0, a1, fun h => by dsimp only; omega, r0, r1, by simp, fun _ => ⟨g1, by simp⟩, fun h => by cases h⟩, by simp⟩
        · split
          · exact ⟨_, rfl, ⟨show (-2 : Int) ≤ 0 by decide, show (0 : Int) ≤ 8192 by decide, a0, a1, fun h => by simp at h, r0, r1, by simp; omega, fun h => by simp [stopS] at h, fun h => by cases h⟩, by simp⟩
          · exact ⟨_, rfl, ⟨show (-2 : Int) ≤ 0 by decide, show (0 : Int) ≤ 8192 by decide, a0, a1, fun h => by simp at h, r0, r1, by simp; omega, fun _ => ⟨g1, by simp; omega⟩, fun h => by cases h⟩, by simp⟩
theorem run_total : ∀ (b : List UInt8) {c : Cst}, Inv7 c → ∃ z, runS b c = some z ∧ Inv7 z.2.1 ∧ (z.2.2.length : Int) = z.2.1.2.2.2.2.1 - c.2.2.2.2.1
  | [], c, h => ⟨_, rfl, h, by simp⟩
  | x :: r, c, h => by
    simp only [runS]
    cases hs : stopS c with
    | true => exact ⟨_, rfl, h, by simp⟩
    | false =>
      obtain ⟨q, e1, e2, e3⟩ := one_total h hs x
      obtain ⟨z, f1, f2, f3⟩ := run_total r e2
      rw [e1]
      simp only [Bool.false_eq_true, if_false, Option.bind_some]
      rw [f1]
      exact ⟨_, rfl, f2, by simp; omega⟩
end Go.Proofs.YtfhlehkgiamejaaGreatDoor
