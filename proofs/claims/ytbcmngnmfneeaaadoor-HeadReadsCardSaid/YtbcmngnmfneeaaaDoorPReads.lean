/- The law HeadReads, in plain Lean. -/
import Derived.Test.YtbcmngnmfneeaaaDoorU5L
import Derived.Test.YtbcmngnmfneeaaaDoorRow
namespace Go.Proofs.YtbcmngnmfneeaaaDoor
open Go.Av Go.RowKit
set_option linter.unusedVariables false
set_option linter.unusedSimpArgs false
set_option maxRecDepth 100000
theorem ones_loop : ∀ (k i : Nat) (l : List UInt8), l.length - i < k → l.length ≤ 140737488355328 → i ≤ l.length → law05_HeadReads_L485 k (i : Int) l = some ()
  | 0, i, l, h, _, _ => by omega
  | k + 1, i, l, h, hl, hi => by
    simp only [law05_HeadReads_L485]
    by_cases hlt : i < l.length
    · rw [if_pos (decide_eq_true (by omega)), ixL_in hlt]
      simp only [Option.bind_some]
      rw [iadd64 (by omega) (by omega), show (i : Int) + 1 = ((i + 1 : Nat) : Int) by omega]
      exact ones_loop k (i + 1) _ (by simp; omega) (by simpa using hl) (by simp; omega)
    · rw [if_neg (fun e => hlt (by have := of_decide_eq_true e; omega))]
theorem reads_loop (ps os : List (List UInt8)) (hp : ps.length ≤ 140737488351232) (ho : os.length ≤ 140737488351232) (h1 : ∀ p ∈ ps, p.length ≤ 140737488351232) (h2 : ∀ p ∈ os, p.length ≤ 140737488351232) : ∀ (k i : Nat) (a b : Bool × Int × List UInt8), i ≤ 200 → 200 - i < k → okR a → okR b →
    law05_HeadReads_L409 ps os k (i : Int) a.1 a.2.1 a.2.2 b.1 b.2.1 b.2.2 a.2.2 a.1 a.2.1 b.2.2 b.1 b.2.1 = some (Sum.inr ())
  | 0, _, _, _, _, hk, _, _ => by omega
  | k + 1, i, a, b, hi, hk, ha, hb => by
    simp only [law05_HeadReads_L409]
    by_cases hc : (i < ps.length ∨ i < os.length) ∧ i < 200
    · have e : (if decide ((i : Int) < (ps.length : Int)) then some (decide ((i : Int) < 200)) else if decide ((i : Int) < (os.length : Int)) then some (decide ((i : Int) < 200)) else some false) = some true := by
        rw [decide_eq_true (show (i : Int) < 200 by omega)]
        by_cases h : i < ps.length
        · rw [if_pos (decide_eq_true (by omega))]
        · rw [if_neg (fun e => h (by have := of_decide_eq_true e; omega)), if_pos (decide_eq_true (by omega))]
      rw [e]
      simp only [Option.bind_some, if_true]
      -- the first reader
      obtain ⟨a', ha', e1⟩ : ∃ a' : Bool × Int × List UInt8, okR a' ∧ (if decide ((i : Int) < (List.length ps : Int)) then
            (ixL ps (i : Int)).bind fun x451 =>
            (szC (List.length (x451 : List (UInt8)))).bind fun _ =>
            (head_Reader_Take x451 a.1 a.2.1 a.2.2).bind fun r454 =>
            (((ixL ps (i : Int)).bind fun x471 =>
                (ref05_Reader_Take x471 a.2.2 a.1 a.2.1).bind fun r473 =>
                if !decide (r454.1 = r473.1) then
                  some (true, r473.2.1, r473.2.2.1, r473.2.2.2)
                else
                  (ixL ps (i : Int)).bind fun x474 =>
                  some (!decide (x451 = x474), r473.2.1, r473.2.2.1, r473.2.2.2)).bind fun j475 =>
                some (j475.1, j475.2.1, j475.2.2.1, j475.2.2.2)).bind fun j476 =>
              if j476.1 then
                some (Sum.inl false)
              else
                (law05_HeadReads_L485  140737488355328 0 x451).bind fun j488 =>
                  some (Sum.inr (r454.2.1, r454.2.2.1, r454.2.2.2, j476.2.1, j476.2.2.1, j476.2.2.2))
          else
            some (Sum.inr (a.1, a.2.1, a.2.2, a.2.2, a.1, a.2.1))) = some (Sum.inr (a'.1, a'.2.1, a'.2.2, a'.2.2, a'.1, a'.2.1) : Sum Bool (Bool × Int × (List (UInt8)) × (List UInt8) × Bool × Int)) := by
        by_cases h : i < ps.length
        · have hx := h1 _ (List.getElem_mem h)
          refine ⟨(rdM ps[i] (a.1, a.2.1, a.2.2)).2, rdM_ok _ _ ha, ?_⟩
          rw [if_pos (decide_eq_true (by omega)), ixL_in h]
          simp only [Option.bind_some]
          rw [szC_ok (by omega), head_take (by omega) ha, ref_take (by omega) ha]
          simp only [Option.bind_some, decide_true, Bool.not_true, Bool.false_eq_true, if_false]
          have := ones_loop 140737488355328 0 ps[i] (by omega) (by omega) (by omega)
          rw [show ((0 : Nat) : Int) = 0 from rfl] at this
          rw [this]
          rfl
        · exact ⟨a, ha, by rw [if_neg (fun e => h (by have := of_decide_eq_true e; omega))]⟩
      rw [e1]
      simp only [Option.bind_some]
      -- the second
      obtain ⟨b', hb', e2⟩ : ∃ b' : Bool × Int × List UInt8, okR b' ∧ (if decide ((i : Int) < (List.length os : Int)) then
                (ixL os (i : Int)).bind fun x512 =>
                (head_Reader_Take x512 b.1 b.2.1 b.2.2).bind fun r514 =>
                (ixL os (i : Int)).bind fun x515 =>
                (ref05_Reader_Take x515 b.2.2 b.1 b.2.1).bind fun r517 =>
                some (!decide (r514.1 = r517.1), r514.2.1, r514.2.2.1, r514.2.2.2, r517.2.1, r517.2.2.1, r517.2.2.2)
              else
                some (false, b.1, b.2.1, b.2.2, b.2.2, b.1, b.2.1)) = some (false, b'.1, b'.2.1, b'.2.2, b'.2.2, b'.1, b'.2.1) := by
        by_cases h : i < os.length
        · have hx := h2 _ (List.getElem_mem h)
          refine ⟨(rdM os[i] (b.1, b.2.1, b.2.2)).2, rdM_ok _ _ hb, ?_⟩
          rw [if_pos (decide_eq_true (by omega)), ixL_in h]
          simp only [Option.bind_some]
          rw [head_take (by omega) hb, ref_take (by omega) hb]
          simp only [Option.bind_some, decide_true, Bool.not_true]
        · exact ⟨b, hb, by rw [if_neg (fun e => h (by have := of_decide_eq_true e; omega))]⟩
      rw [e2]
      simp only [Option.bind_some, Bool.false_eq_true, if_false, head_Reader_Done, head_Reader_Err, bne_self_eq_false, decide_true, Bool.not_true]
      have e3 : ∀ (d : Bool) (e : Int) (t : List UInt8), head_Reader_Text (t, d, e) = some t := fun _ _ _ => rfl
      rw [e3, e3]
      simp only [Option.bind_some, decide_true, Bool.not_true, Bool.false_eq_true, if_false]
      rw [iadd64 (by omega) (by omega), show (i : Int) + 1 = ((i + 1 : Nat) : Int) by omega]
      exact reads_loop ps os hp ho h1 h2 k (i + 1) a' b' (by omega) (by omega) ha' hb'
    · have e : (if decide ((i : Int) < (ps.length : Int)) then some (decide ((i : Int) < 200)) else if decide ((i : Int) < (os.length : Int)) then some (decide ((i : Int) < 200)) else some false) = some false := by
        by_cases h : i < ps.length
        · rw [if_pos (decide_eq_true (by omega)), decide_eq_false (by omega)]
        · rw [if_neg (fun e => h (by have := of_decide_eq_true e; omega))]
          by_cases h' : i < os.length
          · rw [if_pos (decide_eq_true (by omega)), decide_eq_false (by omega)]
          · rw [if_neg (fun e => h' (by have := of_decide_eq_true e; omega))]
      rw [e]
      rfl
theorem law_HeadReads_all (ps os : List (List UInt8)) (_h1 : ∀ x ∈ ps, ∀ y ∈ x, True) (_h2 : ∀ x ∈ os, ∀ y ∈ x, True)
    (hb1 : ps.length * 24 ≤ 140737488351232 ∧ ∀ x ∈ ps, x.length * 1 ≤ 140737488351232 ∧ ∀ y ∈ x, True) (hb2 : os.length * 24 ≤ 140737488351232 ∧ ∀ x ∈ os, x.length * 1 ≤ 140737488351232 ∧ ∀ y ∈ x, True) : law05_HeadReads ps os = some true := by
  have hp : ps.length ≤ 140737488351232 := by have := hb1.1; omega
  have ho : os.length ≤ 140737488351232 := by have := hb2.1; omega
  have hpe : ∀ p ∈ ps, p.length ≤ 140737488351232 := fun p h => by have := (hb1.2 p h).1; omega
  have hoe : ∀ p ∈ os, p.length ≤ 140737488351232 := fun p h => by have := (hb2.2 p h).1; omega
  unfold law05_HeadReads
  rw [shown05]
  simp only [Option.bind_some]
  show (law05_HeadReads_L409 ps os 140737488355328 0 false 0 [] false 0 [] [] false 0 [] false 0).bind _ = _
  have := reads_loop ps os hp ho hpe hoe 140737488355328 0 (false, 0, []) (false, 0, []) (by omega) (by omega) ⟨by simp, by simp⟩ ⟨by simp, by simp⟩
  rw [show ((0 : Nat) : Int) = 0 from rfl] at this
  rw [this]
  rfl
end Go.Proofs.YtbcmngnmfneeaaaDoor
