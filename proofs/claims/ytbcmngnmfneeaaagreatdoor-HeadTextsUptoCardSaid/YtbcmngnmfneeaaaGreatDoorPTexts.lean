/- HeadTexts, plain. -/
import Derived.Test.YtbcmngnmfneeaaaGreatDoorU4D
import Derived.Test.YtbcmngnmfneeaaaGreatDoorU5G
import Derived.Test.YtbcmngnmfneeaaaGreatDoorLTexts
namespace Go.Proofs.YtbcmngnmfneeaaaGreatDoor
open Go.Av
theorem shown5 : law05_shown = some true := by kernel_rfl
theorem law_HeadTexts (q : List UInt8 × List UInt8 × List (List UInt8 × List UInt8)) (p : Int × List UInt8 × List (List UInt8 × List UInt8)) (_hq : True ∧ True ∧ ∀ x ∈ q.2.2, True ∧ True) (hp : inR .i64 p.1 ∧ True ∧ ∀ x ∈ p.2.2, True ∧ True)
    (hb0 : q.1.length + q.2.1.length + sumM (fun y0 => ((y0.1.length + 1) + (y0.2.length + 1)) + 1) q.2.2 + p.2.1.length + sumM (fun y0 => ((y0.1.length + 1) + (y0.2.length + 1)) + 1) p.2.2 ≤ 1048576) : law05_HeadTexts q p = some true := by
  have hb : q.1.length + q.2.1.length + sumM mFld q.2.2 + p.2.1.length + sumM mFld p.2.2 ≤ 1048576 := hb0
  have hF := okF_of (l := q.2.2) (by omega)
  have hG := okF_of (l := p.2.2) (by omega)
  have h1 := hF.1
  have h2 := hG.1
  have hp1 : p.1 ≤ 9223372036854775807 := by have := hp.1; simp only [inR] at this; omega
  unfold law05_HeadTexts
  rw [shown5, szC_ok (by omega), szC_ok (by omega), reqText_eq hF (by omega) (by omega), ref_reqText_eq hF (by omega) (by omega), respText_eq hG hp1 (by omega), ref_respText_eq hG hp1 (by omega), SameF_eq (by omega), SameF_eq (by omega)]
  simp
end Go.Proofs.YtbcmngnmfneeaaaGreatDoor
