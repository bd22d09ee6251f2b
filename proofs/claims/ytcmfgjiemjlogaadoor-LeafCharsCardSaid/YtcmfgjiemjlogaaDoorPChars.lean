/- LeafChars, plain. -/
import Derived.Test.YtcmfgjiemjlogaaDoorU9B
import Derived.Test.YtcmfgjiemjlogaaDoorLChars
namespace Go.Proofs.YtcmfgjiemjlogaaDoor
open Go.Av
theorem law_LeafChars (c : UInt8) (r : Int) (_hc : True) (hr : inR .i32 r) (_hb : 1 + (1 + 0) ≤ 1048576) : law09_LeafChars c r = some true := by
  have e : icv .i32 .i64 r = r := icv_id (by simp only [inR] at hr ⊢; omega)
  have h0 : b2i (bC 0) = 0 := rfl
  unfold law09_LeafChars
  rw [shown9]
  simp only [Option.bind_some, e, ref_Byte_eq, Byte_eq, Char_eq, ref_Char9_eq, chT_32, byT_chT, decide_true, if_true, decide_eq_true_eq]
  rcases byT r with _ | x
  · simp
  · have := b2i_nonneg x
    dsimp only
    rw [if_neg (by omega)]
    simp
theorem law_LeafChars_all (c : UInt8) (r : Int) (hc : True) (hr : inR .i32 r) : law09_LeafChars c r = some true := law_LeafChars c r hc hr (by decide)
end Go.Proofs.YtcmfgjiemjlogaaDoor
