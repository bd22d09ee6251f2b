/- Chunks: the reader of a chunked body is a machine over bytes. -/
import Derived.Test.YtfhlehkgiamejaaGreatDoorGE
import Derived.Test.YtfhlehkgiamejaaGreatDoorU5E
import Derived.Test.YtfhlehkgiamejaaGreatDoorU2A
import Derived.Test.YtfhlehkgiamejaaGreatDoorGCc
import Derived.Test.YtfhlehkgiamejaaGreatDoorU2B
namespace Go.Proofs.YtfhlehkgiamejaaGreatDoor
open Go.Av
set_option linter.unusedVariables false
set_option linter.unusedSimpArgs false
set_option maxRecDepth 100000
/-- what is left of a chunk, is it the last, how many trailers, the line so far, how many bytes were meant, is it done, is it wrong -/
abbrev Cst := Int × Bool × Int × List UInt8 × Int × Bool × Int
def stopS (c : Cst) : Bool := c.2.2.2.2.2.1 || !decide (c.2.2.2.2.2.2 = 0)
def oneS (c : Cst) (x : UInt8) : Option (Cst × List UInt8) :=
  (chunk_chunked_one x c.1 c.2.1 c.2.2.1 c.2.2.2.1 c.2.2.2.2.1 c.2.2.2.2.2.1 c.2.2.2.2.2.2 []).map fun r => ((r.1, r.2.1, r.2.2.1, r.2.2.2.1, r.2.2.2.2.1, r.2.2.2.2.2.1, r.2.2.2.2.2.2.1), r.2.2.2.2.2.2.2)
def runS : List UInt8 → Cst → Option (Nat × Cst × List UInt8)
  | [], c => some (0, c, [])
  | x :: r, c => if stopS c then some (0, c, []) else (oneS c x).bind fun q => (runS r q.1).map fun z => (z.1 + 1, z.2.1, q.2 ++ z.2.2)
theorem one_out (x : UInt8) (c : Cst) (out : List UInt8) (h : out.length ≤ 140737488400000) :
    chunk_chunked_one x c.1 c.2.1 c.2.2.1 c.2.2.2.1 c.2.2.2.2.1 c.2.2.2.2.2.1 c.2.2.2.2.2.2 out = (oneS c x).map fun q => (q.1.1, q.1.2.1, q.1.2.2.1, q.1.2.2.2.1, q.1.2.2.2.2.1, q.1.2.2.2.2.2.1, q.1.2.2.2.2.2.2, out ++ q.2) := by
  obtain ⟨left, last, rows, line, all, done, err⟩ := c
  unfold oneS chunk_chunked_one
  dsimp only
  by_cases h1 : 0 < left
  · rw [decide_eq_true h1]
    simp only [if_true]
    unfold chunk_Reader_means
    rw [szC_ok (by simp; omega), szC_ok (by simp)]
    simp only [Option.bind_some]
    split <;> simp
  · rw [decide_eq_false h1]
    simp only [Bool.false_eq_true, if_false]
    by_cases h2 : left < 0
    · rw [decide_eq_true h2]
      simp only [if_true]
      generalize ixL ([10, 13] : List UInt8) (isub .i64 (ineg .i64 left) 1) = o
      cases o with
      | none => rfl
      | some v =>
        simp only [Option.bind_some]
        split <;> simp
    · rw [decide_eq_false h2]
      simp only [Bool.false_eq_true, if_false]
      rw [show chunk_chunked_text x left last rows line all done err out = chunk_chunked_text x left last rows line all done err [] from rfl]
      generalize chunk_chunked_text x left last rows line all done err [] = o
      cases o <;> simp
theorem one_len {x : UInt8} {c : Cst} {q : Cst × List UInt8} (h : oneS c x = some q) : q.2.length ≤ 1 := by
  obtain ⟨left, last, rows, line, all, done, err⟩ := c
  unfold oneS chunk_chunked_one at h
  dsimp only at h
  by_cases h1 : 0 < left
  · rw [decide_eq_true h1] at h
    simp only [if_true] at h
    unfold chunk_Reader_means at h
    rw [szC_ok (by simp)] at h
    simp only [Option.bind_some] at h
    split at h <;> simp at h <;> rw [← h] <;> simp
  · rw [decide_eq_false h1] at h
    simp only [Bool.false_eq_true, if_false] at h
    by_cases h2 : left < 0
    · rw [decide_eq_true h2] at h
      simp only [if_true] at h
      generalize ixL ([10, 13] : List UInt8) (isub .i64 (ineg .i64 left) 1) = o at h
      cases o with
      | none => simp at h
      | some v =>
        simp only [Option.bind_some] at h
        split at h <;> simp at h <;> rw [← h] <;> simp
    · rw [decide_eq_false h2] at h
      simp only [Bool.false_eq_true, if_false] at h
      generalize chunk_chunked_text x left last rows line all done err [] = o at h
      cases o with
      | none => simp at h
      | some v => simp at h; rw [← h]; simp
/-- the program's loop is the machine -/
theorem take_run (b : List UInt8) (hb : b.length ≤ 140737488400000) : ∀ (k n : Nat) (c : Cst) (out : List UInt8), n ≤ b.length → b.length - n < k → out.length ≤ n →
    chunk_Reader_Take_L86 b k (n : Int) c.2.2.2.2.1 c.2.2.2.2.2.1 c.2.2.2.2.2.2 c.1 c.2.1 c.2.2.1 c.2.2.2.1 out =
      (runS (b.drop n) c).map fun z => (((n + z.1 : Nat) : Int), z.2.1.2.2.2.2.1, z.2.1.2.2.2.2.2.1, z.2.1.2.2.2.2.2.2, z.2.1.1, z.2.1.2.1, z.2.1.2.2.1, z.2.1.2.2.2.1, out ++ z.2.2)
  | 0, n, c, out, _, hk, _ => by omega
  | k + 1, n, c, out, hn, hk, ho => by
    simp only [chunk_Reader_Take_L86]
    by_cases hlt : n < b.length
    · rw [if_pos (decide_eq_true (by omega)), List.drop_eq_getElem_cons hlt]
      have hst : (if (!c.2.2.2.2.2.1) = true then some (decide (c.2.2.2.2.2.2 = 0)) else some false) = some (!stopS c) := by
        unfold stopS; cases c.2.2.2.2.2.1 <;> simp
      rw [hst]
      simp only [Option.bind_some, runS]
      cases hs : stopS c with
      | true => simp
      | false =>
        simp only [Bool.not_false, if_true, Bool.false_eq_true, if_false]
        rw [ixL_in hlt]
        simp only [Option.bind_some]
        rw [one_out _ _ _ (by omega)]
        cases ho1 : oneS c b[n] with
        | none => rfl
        | some q =>
          have := one_len ho1
          simp only [Option.map_some, Option.bind_some]
          rw [iadd64 (by omega) (by omega), show (n : Int) + 1 = ((n + 1 : Nat) : Int) by omega, take_run b hb k (n + 1) q.1 (out ++ q.2) hlt (by omega) (by simp; omega)]
          cases runS (b.drop (n + 1)) q.1 with
          | none => rfl
          | some z =>
            simp only [Option.map_some, Option.some.injEq, Prod.mk.injEq, List.append_assoc, and_true, true_and]
            omega
    · rw [if_neg (by simp; omega), List.drop_eq_nil_of_le (by omega)]
      simp [runS]
theorem take_eq {b : List UInt8} (hb : b.length ≤ 140737488400000) (c : Cst) (o : List UInt8) : chunk_Reader_Take b c.2.2.2.2.1 c.2.2.2.2.2.1 c.2.2.2.2.2.2 c.1 c.2.1 c.2.2.1 c.2.2.2.1 o =
    (runS b c).map fun z => ((z.1 : Int), z.2.1.2.2.2.2.1, z.2.1.2.2.2.2.2.1, z.2.1.2.2.2.2.2.2, z.2.1.1, z.2.1.2.1, z.2.1.2.2.1, z.2.1.2.2.2.1, z.2.2) := by
  unfold chunk_Reader_Take
  have := take_run b hb 141836999983104 0 c [] (by omega) (by omega) (by simp)
  simp only [List.drop_zero, Nat.zero_add, List.nil_append] at this
  rw [show ((0 : Nat) : Int) = 0 from rfl] at this
  rw [this]
  cases runS b c <;> rfl
/-! in pieces -/
theorem run_stop {c : Cst} (h : stopS c = true) : ∀ b, runS b c = some (0, c, [])
  | [] => rfl
  | x :: r => by simp [runS, h]
theorem run_app : ∀ {u : List UInt8} {c c1 c2 : Cst} {o1 o2 v : List UInt8} {m : Nat}, runS u c = some (u.length, c1, o1) → runS v c1 = some (m, c2, o2) → runS (u ++ v) c = some (u.length + m, c2, o1 ++ o2)
  | [], c, c1, c2, o1, o2, v, m, h1, h2 => by
    simp only [runS, Option.some.injEq, Prod.mk.injEq] at h1
    obtain ⟨_, rfl, rfl⟩ := h1
    simpa using h2
  | x :: r, c, c1, c2, o1, o2, v, m, h1, h2 => by
    simp only [runS] at h1
    simp only [List.cons_append, runS]
    split at h1
    · simp at h1
    · rename_i hs
      rw [if_neg hs]
      cases hq : oneS c x with
      | none => rw [hq] at h1; simp at h1
      | some q =>
        rw [hq] at h1
        simp only [Option.bind_some] at h1 ⊢
        cases hr : runS r q.1 with
        | none => rw [hr] at h1; simp at h1
        | some z =>
          rw [hr] at h1
          obtain ⟨z1, z2, z3⟩ := z
          simp only [Option.map_some, Option.some.injEq, Prod.mk.injEq, List.length_cons] at h1
          obtain ⟨e1, rfl, rfl⟩ := h1
          have e1 : z1 = r.length := by omega
          subst e1
          rw [run_app hr h2]
          simp only [Option.map_some, Option.some.injEq, Prod.mk.injEq, List.append_assoc, and_true, List.length_cons, true_and]
          omega
/-- what was taken whole is taken whole at any place -/
theorem run_split : ∀ {u v : List UInt8} {c c2 : Cst} {o : List UInt8}, runS (u ++ v) c = some ((u ++ v).length, c2, o) → ∃ c1 o1 o2, runS u c = some (u.length, c1, o1) ∧ runS v c1 = some (v.length, c2, o2) ∧ o = o1 ++ o2
  | [], v, c, c2, o, h => ⟨c, [], o, rfl, by simpa using h, rfl⟩
  | x :: r, v, c, c2, o, h => by
    simp only [List.cons_append, runS] at h
    split at h
    · simp at h
    · rename_i hs
      cases hq : oneS c x with
      | none => rw [hq] at h; simp at h
      | some q =>
        rw [hq] at h
        simp only [Option.bind_some] at h
        cases hr : runS (r ++ v) q.1 with
        | none => rw [hr] at h; simp at h
        | some z =>
          rw [hr] at h
          obtain ⟨z1, z2, z3⟩ := z
          simp only [Option.map_some, Option.some.injEq, Prod.mk.injEq, List.length_cons] at h
          obtain ⟨e1, rfl, rfl⟩ := h
          have e1 : z1 = (r ++ v).length := by omega
          subst e1
          obtain ⟨c1, o1, o2, h1, h2, h3⟩ := run_split hr
          refine ⟨c1, q.2 ++ o1, o2, ?_, h2, by rw [h3, List.append_assoc]⟩
          simp only [runS]
          rw [if_neg hs, hq]
          simp [h1]
end Go.Proofs.YtfhlehkgiamejaaGreatDoor
