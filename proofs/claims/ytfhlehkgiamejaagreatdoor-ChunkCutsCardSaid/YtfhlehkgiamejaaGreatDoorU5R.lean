/- head, plain: a response is read, or is not. -/
import Derived.Test.YtfhlehkgiamejaaGreatDoorU5E
import Derived.Test.YtfhlehkgiamejaaGreatDoorU2A
import Derived.Test.YtfhlehkgiamejaaGreatDoorGCc
namespace Go.Proofs.YtfhlehkgiamejaaGreatDoor
open Go.Av
set_option linter.unusedVariables false
set_option linter.unusedSimpArgs false
set_option maxRecDepth 100000
def verS : List UInt8 := [72, 84, 84, 80, 47, 49, 46, 49, 32]
theorem cutPre_eq {s p : List UInt8} (hl : s.length ≤ 16777216) (hp : p.length ≤ 16777216) : strings_CutPrefix s p = some (if s.take p.length = p then (s.drop p.length, true) else (s, false)) := by
  unfold strings_CutPrefix stringslite_CutPrefix stringslite_HasPrefix
  by_cases h : p.length ≤ s.length
  · rw [if_pos (by simp; omega), slL_to h]
    simp only [Option.bind_some]
    by_cases e : s.take p.length = p
    · rw [if_pos e]
      simp only [e, decide_true, Bool.not_true, Bool.false_eq_true, if_false]
      rw [slL_from h]
      rfl
    · rw [if_neg e]
      simp only [decide_eq_false e, Bool.not_false, if_true, Option.bind_some]
  · rw [if_neg (by simp; omega), if_neg (fun e => by have := congrArg List.length e; simp at this; omega)]
    rfl
/-- a response that is read -/
def respS (s : List UInt8) : Option (Int × List UInt8 × List Fld) :=
  if 2048 < s.length then none else match lnT s with
  | none => none
  | some (l, r) => if l.take 9 = verS ∧ 13 ≤ l.length ∧ l[12]? = some 32 ∧ (numS 10 ((l.drop 9).take 3)).2 = 0 ∧ 200 ≤ (numS 10 ((l.drop 9).take 3)).1 ∧ (numS 10 ((l.drop 9).take 3)).1 ≤ 599 ∧ (l.drop 13).all quoT = true then
      (match rowsT 1099511627776 0 r with
      | none => none
      | some fs => some ((numS 10 ((l.drop 9).take 3)).1, l.drop 13, fs))
    else none
theorem resp_eq {s : List UInt8} (hl : s.length ≤ 16777216) : head_Response s = some (match respS s with | some q => (q, true) | none => ((0, [], []), false)) := by
  unfold head_Response respS
  by_cases h1 : 2048 < s.length
  · rw [if_pos (by simp; omega), if_pos h1]
    rfl
  · rw [if_neg (by simp; omega), if_neg h1]
    obtain ⟨o, g1, g2⟩ := line_eq (f := 0) hl (Nat.zero_le _)
    rw [List.drop_zero] at g2
    have g1 : lineG s 0 = some o := g1
    show (lineG s 0).bind _ = _
    rw [g1]
    generalize lnT s = w at g2
    rcases o with p | p <;> rcases w with _ | ⟨l, r⟩ <;> simp only [lineR] at g2
    · rfl
    · obtain ⟨p1, p2⟩ := p
      dsimp only at g2
      obtain ⟨rfl, rfl, rfl, h3⟩ := g2
      simp only [Option.bind_some]
      rw [show ([72, 84, 84, 80, 47, 49, 46, 49, 32] : List UInt8) = verS from rfl, cutPre_eq (by omega) (by decide), show verS.length = 9 from rfl]
      simp only [Option.bind_some]
      by_cases c1 : p1.take 9 = verS
      · have hlen9 : 9 ≤ p1.length := by have := congrArg List.length c1; simp [verS] at this; omega
        rw [if_pos c1]
        simp only [Bool.not_true, Bool.false_eq_true, if_false]
        by_cases c2 : 13 ≤ p1.length
        · rw [if_neg (by simp; omega), show (3 : Int) = ((3 : Nat) : Int) from rfl, ixL_in (show 3 < (p1.drop 9).length by simp; omega)]
          have hb : (p1.drop 9)[3]'(by simp; omega) = p1[12]'(by omega) := by rw [List.getElem_drop]
          rw [hb, List.getElem?_eq_getElem (show 12 < p1.length by omega)]
          simp only [Option.bind_some]
          by_cases c3 : p1[12]'(by omega) = 32
          · rw [c3]
            rw [if_neg (by decide), slL_to (by simp; omega)]
            simp only [Option.bind_some]
            rw [decimal_eq _ (by simp; omega)]
            simp only [Option.bind_some]
            generalize numS 10 ((p1.drop 9).take 3) = v
            by_cases c4 : v.2 = 0
            · rw [if_neg (by simp [c4])]
              by_cases c5 : 200 ≤ v.1
              · rw [if_neg (by simp; omega)]
                by_cases c6 : v.1 ≤ 599
                · rw [decide_eq_false (by omega)]
                  simp only [Option.bind_some, Bool.false_eq_true, if_false]
                  obtain ⟨o, q1, q2⟩ := clean_eq (s := p1) (f := 0) (i := 13) (by omega) (by omega)
                  have q1 : head_clean p1 0 13 = some o := q1
                  rw [q1]
                  cases o with
                  | inl u =>
                    dsimp only at q2
                    rw [if_neg (fun h => by rw [h.2.2.2.2.2.2] at q2; cases q2)]
                    rfl
                  | inr u =>
                    dsimp only at q2
                    simp only [Option.bind_some]
                    rw [show (4 : Int) = ((4 : Nat) : Int) from rfl, slL_from (by simp; omega), List.drop_drop, show 9 + 4 = 13 from rfl]
                    simp only [Option.bind_some]
                    rw [if_pos ⟨c1, c2, trivial, c4, c5, c6, q2⟩]
                    obtain ⟨o, k1, k2⟩ := rows_eq hl (L := head_text_rows_L368 s) (fun _ _ _ => rfl) 1099511627776 (0 + p1.length + 2) [] h3 (by omega) (by simp)
                    rw [k1]
                    rw [List.length_nil] at k2
                    rcases hw : rowsT 1099511627776 0 (s.drop (0 + p1.length + 2)) with _ | fs
                    · rw [hw] at k2
                      rcases o with z | z
                      · rfl
                      · exact k2.elim
                    · rw [hw] at k2
                      rcases o with z | z
                      · exact k2.elim
                      · have k2 : z = [] ++ fs := k2
                        rw [List.nil_append] at k2
                        subst k2
                        rfl
                · rw [decide_eq_true (by omega), if_neg (fun h => c6 h.2.2.2.2.2.1)]
                  rfl
              · rw [if_pos (by simp; omega), if_neg (fun h => c5 h.2.2.2.2.1)]
                rfl
            · rw [if_pos (by simp [c4]), if_neg (fun h => c4 h.2.2.2.1)]
              rfl
          · rw [show decide (b2i (p1[12]'(by omega)) = b2i (bC 32)) = false from decide_eq_false (fun e => c3 (b2i_inj.1 e))]
            simp only [Bool.not_false, if_true]
            rw [if_neg (fun h => c3 (Option.some.inj h.2.2.1))]
            rfl
        · rw [if_pos (by simp; omega)]
          simp only [Option.bind_some, if_true]
          rw [if_neg (fun h => c2 h.2.1)]
          rfl
      · rw [if_neg c1]
        simp only [Bool.not_false, if_true]
        rw [if_neg (fun h => c1 h.1)]
        rfl
end Go.Proofs.YtfhlehkgiamejaaGreatDoor
