/- strings.Cut at one byte, plain. -/
import Derived.Test.YtfhlehkgiamejaaGreatDoorV3C
import Derived.Test.YtfhlehkgiamejaaGreatDoorU4A
namespace Go.Proofs.YtfhlehkgiamejaaGreatDoor
open Go.Av
set_option linter.unusedVariables false
set_option linter.unusedSimpArgs false
set_option maxRecDepth 100000
theorem indexc_cons (c b : UInt8) (l : List UInt8) : Lib.index (b :: l) [c] = if c = b then 0 else if Lib.index l [c] = -1 then -1 else Lib.index l [c] + 1 := by
  rw [Lib.index]
  by_cases h : c = b
  · subst h; simp [List.isPrefixOf]
  · rw [if_neg (by simp [List.isPrefixOf, h]), if_neg h]
    by_cases h2 : Lib.index l [c] = -1
    · simp [h2]
    · simp [h2]
theorem cutc_nil (c : UInt8) : Lib.cut [] [c] = ([], [], false) := by
  unfold Lib.cut Lib.index
  simp
theorem cutc_cons (c b : UInt8) (l : List UInt8) : Lib.cut (b :: l) [c] = if b = c then ([], l, true) else (b :: (Lib.cut l [c]).1, (Lib.cut l [c]).2.1, (Lib.cut l [c]).2.2) := by
  have hge := Lib.index_ge l [c]
  have hi := indexc_cons c b l
  by_cases h : b = c
  · subst h
    rw [if_pos rfl] at hi ⊢
    unfold Lib.cut
    rw [hi]; simp
  · rw [if_neg (fun e => h e.symm)] at hi
    rw [if_neg h]
    by_cases h2 : Lib.index l [c] = -1
    · rw [if_pos h2] at hi
      unfold Lib.cut
      rw [hi, h2]; simp
    · rw [if_neg h2] at hi
      have e : (Lib.index l [c] + 1).toNat = (Lib.index l [c]).toNat + 1 := by omega
      unfold Lib.cut
      rw [hi, if_pos (show 0 ≤ Lib.index l [c] + 1 by omega), if_pos (show 0 ≤ Lib.index l [c] by omega), e]
      simp
theorem cut_spec (c : UInt8) : ∀ s : List UInt8, (Lib.cut s [c] = (s, [], false) ∧ c ∉ s) ∨ ∃ a b, s = a ++ c :: b ∧ c ∉ a ∧ Lib.cut s [c] = (a, b, true)
  | [] => .inl ⟨cutc_nil c, by simp⟩
  | d :: s => by
    rw [cutc_cons]
    by_cases h : d = c
    · subst h
      exact .inr ⟨[], s, rfl, by simp, by rw [if_pos rfl]⟩
    · rw [if_neg h]
      rcases cut_spec c s with ⟨h1, h2⟩ | ⟨a, b, h1, h2, h3⟩
      · exact .inl ⟨by rw [h1], by simp; exact ⟨fun e => h e.symm, h2⟩⟩
      · exact .inr ⟨d :: a, b, by rw [h1]; rfl, by simp; exact ⟨fun e => h e.symm, h2⟩, by rw [h3]⟩
end Go.Proofs.YtfhlehkgiamejaaGreatDoor
