/- lex, plain: texts of media types. -/
import Derived.Test.YtgngopfpnidbaaaGreatDoorU3F
namespace Go.Proofs.YtgngopfpnidbaaaGreatDoor
open Go.Av
set_option linter.unusedVariables false
set_option linter.unusedSimpArgs false
set_option maxRecDepth 100000
def wtP : List (List UInt8 × List UInt8) → Nat
  | [] => 0
  | p :: ps => p.1.length + 2 * p.2.length + 8 + wtP ps
/-- the parameters weigh no more than the rest -/
theorem mpF_wt : ∀ (n : Nat) (rest : List UInt8) (ps : List (List UInt8 × List UInt8)), mpF n rest = some ps → wtP ps ≤ 8 * rest.length
  | 0, rest, ps, h => by rw [← Option.some.inj h]; simp [wtP]
  | n + 1, rest, ps, h => by
    rw [mpF] at h
    split at h
    · rw [← Option.some.inj h]; simp [wtP]
    · have hcl := cutL_len rest
      split at h
      · exact absurd h (by simp)
      · rename_i c r hc
        rw [hc] at hcl
        simp only [List.length_cons] at hcl
        have hcr := cutL_len r
        split at h
        · split at h
          · have := mpF_wt n _ _ h
            omega
          · obtain ⟨p, hp, h2⟩ := Option.bind_eq_some_iff.1 h
            obtain ⟨ps', h3, rfl⟩ := Option.map_eq_some_iff.1 h2
            have h4 := mpF_wt n _ _ h3
            have h5 := par_len (p := p.1) (rest := p.2) hp
            rw [wtP]
            omega
        · exact absurd h (by simp)
theorem mediaT_len (s : List UInt8) : (mediaT s).1.1.length ≤ s.length ∧ (mediaT s).1.2.1.length ≤ s.length ∧ wtP (mediaT s).1.2.2 ≤ 8 * s.length := by
  have ht := trimT_len s
  have hh := hd_word (trimT s)
  unfold mediaT
  generalize trimT s = t at *
  have hb : badM.1.1.length ≤ s.length ∧ badM.1.2.1.length ≤ s.length ∧ wtP badM.1.2.2 ≤ 8 * s.length := by simp [badM, wtP]
  cases hd : hdT t with
  | none => exact hb
  | some x =>
    obtain ⟨a, q⟩ := x
    simp only
    split
    · exact hb
    · split
      · exact hb
      · split
        · exact hb
        · rename_i ps hps
          have hw := mpF_wt _ _ _ hps
          rw [hd] at hh
          split at hh
          · split at hh
            · have := Option.some.inj hh
              simp only [Prod.mk.injEq] at this
              obtain ⟨rfl, rfl⟩ := this
              simp [lowT_len] at hw ⊢
              omega
            · exact absurd hh (by simp)
          · exact absurd hh (by simp)
end Go.Proofs.YtgngopfpnidbaaaGreatDoor
