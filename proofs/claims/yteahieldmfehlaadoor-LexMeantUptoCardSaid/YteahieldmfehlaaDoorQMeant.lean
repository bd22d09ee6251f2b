/- LexMeant, as its row asks. -/
import Derived.Test.YteahieldmfehlaaDoorPMeant
import Derived.Test.YteahieldmfehlaaDoorRow
namespace Go.Proofs.YteahieldmfehlaaDoor
open Go.Av
theorem wt_sum2 (f : (List UInt8 × List UInt8) → Nat) (hf : ∀ p, f p = p.1.length + 1 + (p.2.length + 1) + 1) : ∀ ps : List (List UInt8 × List UInt8), wtP ps ≤ 8 * sumM f ps
  | [] => by simp [wtP, sumM]
  | p :: ps => by
    have := wt_sum2 f hf ps
    have := hf p
    simp only [wtP, sumM]
    omega
theorem law_LexMeant (s : List UInt8) (m : Med) (_hs : True) (_hm : (True) ∧ (True) ∧ (∀ y ∈ m.2.2, (True) ∧ (True)))
    (hb : s.length + 1 + (((m.1.length + 1) + ((m.2.1.length + 1) + (sumM (fun y0 => ((y0.1.length + 1) + (y0.2.length + 1)) + 1) m.2.2 + 1))) + 1 + 0) ≤ 1048576) : law03_LexMeant s m = some true := by
  have := wt_sum2 _ (fun p => rfl) m.2.2
  exact meant_core s m (by omega) (by omega) (by omega) (by omega)
end Go.Proofs.YteahieldmfehlaaDoor
