/- LeafLabels, plain. -/
import Derived.Test.YtcmfgjiemjlogaaDoorU9C
import Derived.Test.YtcmfgjiemjlogaaDoorLLabels
namespace Go.Proofs.YtcmfgjiemjlogaaDoor
open Go.Av
theorem law_LeafLabels_all (s : List UInt8) (c : Int) (_hs : True) (hc : inR .i64 c) (hb : s.length ≤ 140737488351232) : law09_LeafLabels s c = some true := by
  unfold law09_LeafLabels
  rw [shown9]
  unfold leaf_Name
  simp only [Option.bind_some, if_true, decide_eq_true_eq]
  by_cases h1 : c = 1
  · subst h1
    simp only [if_true, Option.bind_some, show ((1 : Int) ≤ 1) from by decide, show ((1 : Int) ≤ 3) from by decide, decide_true]
    rw [Label_eq (by omega), ref_Label_eq (by omega)]
    simp [ixL]
  by_cases h2 : c = 2
  · subst h2
    simp only [if_true, Option.bind_some, show ((1 : Int) ≤ 2) from by decide, show ((2 : Int) ≤ 3) from by decide, decide_true]
    rw [Label_eq (by omega), ref_Label_eq (by omega)]
    simp [ixL]
  by_cases h3 : c = 3
  · subst h3
    simp only [if_true, Option.bind_some, show ((1 : Int) ≤ 3) from by decide, show ((3 : Int) ≤ 3) from by decide, decide_true]
    rw [Label_eq (by omega), ref_Label_eq (by omega)]
    simp [ixL]
  simp only [h1, h2, h3, if_false]
  by_cases h4 : 1 ≤ c
  · rw [if_pos h4, decide_eq_false (by omega)]
    simp only [Option.bind_some, Bool.false_eq_true, if_false]
    rw [Label_eq (by omega), ref_Label_eq (by omega)]
    simp
  · rw [if_neg h4]
    simp only [Option.bind_some, Bool.false_eq_true, if_false]
    rw [Label_eq (by omega), ref_Label_eq (by omega)]
    simp
end Go.Proofs.YtcmfgjiemjlogaaDoor
