/- head, plain: a reader takes a whole head, and no more. -/
import Derived.Test.YtbcmngnmfneeaaaGreatDoorU4C
import Derived.Test.YtbcmngnmfneeaaaGreatDoorLOnce
namespace Go.Proofs.YtbcmngnmfneeaaaGreatDoor
open Go.Av
set_option linter.unusedVariables false
set_option linter.unusedSimpArgs false
set_option maxRecDepth 100000
def tail4 (x : List UInt8) : List UInt8 := x.drop (x.length - 4)
def last13 (b : List UInt8) : Bool := decide (b.getLast? = some 13)
/-- a byte more: is it done, is it wrong? -/
def rdS (b : List UInt8) (c : UInt8) : Bool × Int :=
  if (decide (c = 10)) != last13 b then (false, 10)
  else if tail4 (b ++ [c]) = [13, 10] ∨ tail4 (b ++ [c]) = [13, 10, 13, 10] then (true, 0)
  else if (b ++ [c]).length = 2048 then (false, 17) else (false, 0)
theorem rd10 (c : UInt8) : decide (b2i c = b2i (bC 10)) = decide (c = 10) := decide_eq_decide.2 ⟨fun h => b2i_inj.1 h, fun h => by rw [h]; rfl⟩
theorem rd13 (c : UInt8) : decide (b2i c = b2i (bC 13)) = decide (c = 13) := decide_eq_decide.2 ⟨fun h => b2i_inj.1 h, fun h => by rw [h]; rfl⟩
theorem last_ix {b : List UInt8} (hb : b.length ≤ 1000000) : (if decide (0 < ((List.length b : Nat) : Int)) then
    (ixL b (isub .i64 ((List.length b : Nat) : Int) 1)).bind fun x => some (decide (b2i x = b2i (bC 13))) else some false) = some (last13 b) := by
  unfold last13
  by_cases h : b = []
  · subst h; rfl
  · have hl : 0 < b.length := List.length_pos_iff.2 h
    rw [if_pos (by rw [decide_eq_true_eq]; omega), isub64 (by omega) (by omega), show ((b.length : Nat) : Int) - 1 = ((b.length - 1 : Nat) : Int) by omega, ixL_nat, List.getLast?_eq_getElem?, List.getElem?_eq_getElem (by omega)]
    simp only [Option.bind_some, rd13]
    congr 1
    exact decide_eq_decide.2 ⟨fun e => by rw [e], fun e => by simpa using e⟩
theorem tail_sl {b : List UInt8} (hb : b.length ≤ 1000000) : slL b (max 0 (isub .i64 ((List.length b : Nat) : Int) 4)) ((List.length b : Nat) : Int) = some (tail4 b) := by
  rw [isub64 (by omega) (by omega), show max 0 (((b.length : Nat) : Int) - 4) = ((b.length - 4 : Nat) : Int) by omega, slL_from (by omega)]
  rfl
theorem take_step' (t h : List UInt8) (k i : Nat) (b : List UInt8) (hb : b.length ≤ 100000) (hi : i < (t ++ h).length) (hn : (t ++ h).length ≤ 100000000) :
    head_Reader_Take_L706 t h (k + 1) (i : Int) false 0 b = head_Reader_Take_L706 t h k ((i + 1 : Nat) : Int) (rdS b ((t ++ h)[i])).1 (rdS b ((t ++ h)[i])).2 (b ++ [(t ++ h)[i]]) := by
  rw [head_Reader_Take_L706, if_pos (by rw [decide_eq_true_eq]; omega), ixL_in hi]
  simp only [Option.bind_some, Bool.false_eq_true, if_false, decide_true, Bool.not_true]
  rw [last_ix (by omega)]
  simp only [Option.bind_some]
  rw [szC_ok (by simp; omega), tail_sl (by simp; omega), iadd64 (by omega) (by omega), ← Int.natCast_add_one]
  simp only [Option.bind_some]
  rw [rd10]
  generalize (t ++ h)[i] = c
  unfold rdS
  by_cases h1 : ((decide (c = 10)) != last13 b) = true
  · rw [if_pos h1, if_pos h1]
    rfl
  · rw [if_neg h1, if_neg h1]
    by_cases h2 : tail4 (b ++ [c]) = [13, 10]
    · rw [if_pos (show tail4 (b ++ [c]) = [13, 10] ∨ tail4 (b ++ [c]) = [13, 10, 13, 10] from .inl h2), h2]
      rfl
    · by_cases h3 : tail4 (b ++ [c]) = [13, 10, 13, 10]
      · rw [if_pos (show tail4 (b ++ [c]) = [13, 10] ∨ tail4 (b ++ [c]) = [13, 10, 13, 10] from .inr h3), h3]
        rfl
      · rw [if_neg (show ¬ (tail4 (b ++ [c]) = [13, 10] ∨ tail4 (b ++ [c]) = [13, 10, 13, 10]) from fun e => e.elim h2 h3), decide_eq_false h2, decide_eq_false h3]
        by_cases h4 : (b ++ [c]).length = 2048
        · rw [if_pos h4]
          simp only [Bool.false_eq_true, if_false, Option.bind_some]
          rw [if_pos (by rw [decide_eq_true_eq]; omega)]
          rfl
        · rw [if_neg h4]
          simp only [Bool.false_eq_true, if_false, Option.bind_some]
          rw [if_neg (by rw [decide_eq_true_eq]; omega)]
          rfl
def RunTo : List UInt8 → List UInt8 → Prop
  | _, [] => True
  | b, c :: u => rdS b c = (false, 0) ∧ RunTo (b ++ [c]) u
theorem runTo_app : ∀ {u v b : List UInt8}, RunTo b u → RunTo (b ++ u) v → RunTo b (u ++ v)
  | [], v, b, _, h => by simpa using h
  | c :: u, v, b, h, k => ⟨h.1, runTo_app h.2 (by simpa using k)⟩
/-- the loop, over what neither ends nor is wrong -/
theorem take_run (t h : List UInt8) (hn : (t ++ h).length ≤ 100000000) : ∀ (u b : List UInt8) (k i : Nat), RunTo b u → i + u.length ≤ (t ++ h).length → (t ++ h).drop i = u ++ (t ++ h).drop (i + u.length) → b.length + u.length ≤ 100000 →
    head_Reader_Take_L706 t h (k + u.length) (i : Int) false 0 b = head_Reader_Take_L706 t h k ((i + u.length : Nat) : Int) false 0 (b ++ u)
  | [], b, k, i, _, _, _, _ => by simp
  | c :: u, b, k, i, hr, hi, hd, hb => by
    simp only [List.length_cons] at hi hb hd
    have hlt : i < (t ++ h).length := by omega
    rw [drop_step hlt, List.cons_append] at hd
    obtain ⟨e1, e2⟩ := List.cons.inj hd
    have hs := take_step' t h (k + u.length) i b (by omega) hlt (by omega)
    rw [show k + (c :: u).length = k + u.length + 1 by simp; omega, hs, e1, hr.1]
    have ih := take_run t h hn u (b ++ [c]) k (i + 1) hr.2 (by omega) (by rw [show i + 1 + u.length = i + (u.length + 1) by omega]; exact e2) (by simp; omega)
    rw [ih]
    simp only [List.length_cons, List.append_assoc, List.singleton_append]
    rw [show i + 1 + u.length = i + (u.length + 1) by omega]
theorem tail_app {z u : List UInt8} (h : u.length ≤ 4) : tail4 (z ++ u) = z.drop (z.length + u.length - 4) ++ u := by
  unfold tail4
  rw [List.length_append, List.drop_append_of_le_length (by omega)]
theorem tail_end {z : List UInt8} {c : UInt8} {v : List UInt8} {d : UInt8} (h : tail4 (z ++ [c]) = v ++ [d]) : c = d := by
  rw [tail_app (by simp)] at h
  have := congrArg List.getLast? h
  simpa using this
/-- a byte of a line -/
theorem rd_in {b : List UInt8} {c : UInt8} (h1 : last13 b = false) (h2 : c ≠ 10) (h3 : (b ++ [c]).length ≠ 2048) : rdS b c = (false, 0) := by
  unfold rdS
  rw [if_neg (by rw [h1, decide_eq_false h2]; simp), if_neg ?_, if_neg h3]
  rintro (e | e)
  · exact h2 (tail_end (v := [13]) (d := 10) e)
  · exact h2 (tail_end (v := [13, 10, 13]) (d := 10) e)
theorem last_app (b : List UInt8) (c : UInt8) : last13 (b ++ [c]) = decide (c = 13) := by
  unfold last13
  simp
theorem run_line : ∀ (a b : List UInt8), (∀ c ∈ a, c ≠ 10 ∧ c ≠ 13) → last13 b = false → b.length + a.length < 2048 → RunTo b a ∧ last13 (b ++ a) = false
  | [], b, _, h, _ => ⟨trivial, by simpa using h⟩
  | c :: a, b, hc, h, hl => by
    have h1 := hc c (by simp)
    simp only [List.length_cons] at hl
    obtain ⟨i1, i2⟩ := run_line a (b ++ [c]) (fun x hx => hc x (by simp [hx])) (by rw [last_app]; exact decide_eq_false h1.2) (by simp; omega)
    exact ⟨⟨rd_in h h1.1 (by simp; omega), i1⟩, by simpa using i2⟩
/-- a whole line that is not empty -/
theorem run_full {a b : List UInt8} (ha : a ≠ []) (hc : ∀ c ∈ a, c ≠ 10 ∧ c ≠ 13) (hb : last13 b = false) (hl : b.length + a.length + 2 < 2048) : RunTo b (a ++ [13, 10]) ∧ last13 (b ++ (a ++ [13, 10])) = false := by
  obtain ⟨h1, h2⟩ := run_line a b hc hb (by omega)
  refine ⟨runTo_app h1 ⟨rd_in h2 (by decide) (by simp; omega), ?_, trivial⟩, ?_⟩
  · unfold rdS
    rw [last_app, if_neg (by decide), if_neg ?_, if_neg (by simp; omega)]
    obtain ⟨y, x, rfl⟩ : ∃ y x, a = y ++ [x] := ⟨_, _, (List.dropLast_concat_getLast ha).symm⟩
    have hx := (hc x (by simp)).1
    rw [show b ++ (y ++ [x]) ++ [13] ++ [10] = (b ++ y) ++ [x, 13, 10] by simp, tail_app (by simp)]
    rintro (e | e)
    · have := congrArg List.length e
      simp at this
    · generalize (b ++ y).drop _ = w at e
      rcases w with _ | ⟨w1, w⟩
      · simp at e
      · rcases w with _ | ⟨w2, w⟩
        · simp at e; exact hx e.2
        · have := congrArg List.length e; simp at this
  · rw [show b ++ (a ++ [13, 10]) = (b ++ (a ++ [13])) ++ [10] by simp, last_app]; rfl
theorem run_lines : ∀ (ls : List (List UInt8)) (b : List UInt8), (∀ a ∈ ls, a ≠ [] ∧ ∀ c ∈ a, c ≠ 10 ∧ c ≠ 13) → last13 b = false → b.length + (ls.flatMap (· ++ [13, 10])).length < 2048 →
    RunTo b (ls.flatMap (· ++ [13, 10])) ∧ last13 (b ++ ls.flatMap (· ++ [13, 10])) = false
  | [], b, _, h, _ => ⟨trivial, by simpa using h⟩
  | a :: ls, b, ha, hb, hl => by
    rw [List.flatMap_cons] at hl ⊢
    rw [List.length_append, List.length_append] at hl
    have hl : b.length + (a.length + 2 + (ls.flatMap (· ++ [13, 10])).length) < 2048 := hl
    have h0 := ha a (by simp)
    obtain ⟨h1, h2⟩ := run_full h0.1 h0.2 hb (by omega)
    obtain ⟨i1, i2⟩ := run_lines ls (b ++ (a ++ [13, 10])) (fun x hx => ha x (by simp [hx])) h2 (by rw [List.length_append, List.length_append]; show b.length + (a.length + 2) + _ < 2048; omega)
    exact ⟨runTo_app h1 i1, by simpa using i2⟩
/-- what a reader takes of a head with something behind it -/
theorem reader_eq {ls : List (List UInt8)} {h t : List UInt8} (hne : ls ≠ []) (hls : ∀ a ∈ ls, a ≠ [] ∧ ∀ c ∈ a, c ≠ 10 ∧ c ≠ 13) (ht : t = ls.flatMap (· ++ [13, 10]) ++ [13, 10]) (hl : t.length ≤ 2048) (hh : (t ++ h).length ≤ 100000000) :
    ((head_Reader_Take_L706 t h 1099511627776 0 false 0 []).bind fun o728 => match o728 with
            | Sum.inl r => some r
            | Sum.inr j729 => some (((List.length (t ++ h) : Nat) : Int), j729.1, j729.2.1, j729.2.2)) = some ((t.length : Int), true, 0, t) := by
  obtain ⟨B, hB⟩ : ∃ B, B = ls.flatMap (· ++ [13, 10]) := ⟨_, rfl⟩
  have htl : t.length = B.length + 2 := by rw [ht, ← hB, List.length_append]; rfl
  obtain ⟨r1, r2⟩ := run_lines ls [] hls rfl (by rw [← hB]; simp; omega)
  rw [← hB] at r1 r2
  rw [List.nil_append] at r2
  obtain ⟨B', hB'⟩ : ∃ B', B = B' ++ [13, 10] := by
    obtain ⟨y, x, rfl⟩ : ∃ y x, ls = y ++ [x] := ⟨_, _, (List.dropLast_concat_getLast hne).symm⟩
    exact ⟨y.flatMap (· ++ [13, 10]) ++ x, by rw [hB, List.flatMap_append]; simp⟩
  rw [← hB] at ht
  have r3 : RunTo [] (B ++ [13]) := by
    refine runTo_app r1 ⟨?_, trivial⟩
    rw [List.nil_append]
    unfold rdS
    rw [if_neg (by rw [r2]; decide), if_neg ?_, if_neg (by simp; omega)]
    rintro (e | e)
    · exact absurd (tail_end (v := [13]) (d := 10) e) (by decide)
    · exact absurd (tail_end (v := [13, 10, 13]) (d := 10) e) (by decide)
  have r4 : rdS (B ++ [13]) 10 = (true, 0) := by
    unfold rdS
    rw [last_app, if_neg (by decide), if_pos]
    right
    rw [hB', show B' ++ [13, 10] ++ [13] ++ [10] = B' ++ [13, 10, 13, 10] by simp, tail_app (by simp)]
    simp
  have hlt : (t ++ h).length = B.length + 2 + h.length := by rw [List.length_append, htl]
  have hd : (t ++ h).drop 0 = (B ++ [13]) ++ (t ++ h).drop (0 + (B ++ [13]).length) := by
    rw [List.drop_zero, Nat.zero_add]
    have : t ++ h = (B ++ [13]) ++ (10 :: h) := by rw [ht]; simp
    rw [this, List.drop_left]
  obtain ⟨k, hk⟩ : ∃ k, 1099511627776 = (k + 1 + 1) + (B ++ [13]).length := ⟨1099511627776 - 2 - (B ++ [13]).length, by simp; omega⟩
  have g1 := take_run t h hh (B ++ [13]) [] (k + 1 + 1) 0 r3 (by simp; omega) hd (by simp; omega)
  rw [← hk, List.nil_append, Nat.zero_add, Int.natCast_zero] at g1
  rw [g1]
  have hlB : (B ++ [13]).length = B.length + 1 := by simp
  have hlt2 : (B ++ [13]).length < (t ++ h).length := by omega
  have hg : (t ++ h)[(B ++ [13]).length] = 10 := by
    have : t ++ h = (B ++ [13]) ++ (10 :: h) := by rw [ht]; simp
    simp only [this]
    rw [List.getElem_append_right (Nat.le_refl _)]
    simp
  rw [take_step' t h (k + 1) _ (B ++ [13]) (by omega) hlt2 (by omega), hg, r4]
  have e2 : B ++ [13] ++ [10] = t := by rw [ht]; simp
  rw [e2, hlB, show B.length + 1 + 1 = t.length by omega]
  rw [head_Reader_Take_L706]
  by_cases hz : (t.length : Int) < (((t ++ h).length : Nat) : Int)
  · rw [if_pos (by simpa using hz), ixL_in (by omega)]
    rfl
  · rw [if_neg (by simpa using hz)]
    simp only [Option.bind_some]
    rw [show (t ++ h).length = t.length by omega]
end Go.Proofs.YtbcmngnmfneeaaaGreatDoor
