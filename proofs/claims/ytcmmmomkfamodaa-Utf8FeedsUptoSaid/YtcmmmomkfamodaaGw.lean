/- What a row's world gives of the package-level variables. -/
import Derived.Test.YtcmmmomkfamodaaFwA
import Derived.Test.YtcmmmomkfamodaaRows
import Derived.Shelf.Strings.Shaped
import Derived.LaidSub
namespace Go.Proofs.Ytcmmmomkfamodaa
open Go.Av
theorem tabB_of {W : World} {L : List (String × DataW Unit)} {name : String} {k : IntKind} {zs : List Int} {g : Nat} {t e : TypeId} {n : Nat} (hg : Try.prog.globalNamed name = some g) (hty : (Try.prog.globals[g]?).map (·.type) = some t) (ht : Try.prog.underlying t = some (.array n e)) (he : Try.prog.underlying e = some (.int k)) (hce : Try.prog.cellsOf e = 1) (hct : Try.prog.cellsOf t = n)
    (hf : (L.filter fun x => x.2.handleName?.isNone).filter (fun x => decide (x.1 = name)) = [(name, Lib.tabData k zs)]) (hL : laidMetH Try.prog L W) : TabB W g k zs := by
  have h := (laidMetH_iff.1 hL).1.filter fun x => decide (x.1 = name)
  rw [hf] at h
  exact TabB.of (Lib.tabIs_of_head hg hty ht he hce hct h) hg
theorem gw_of {W : World} {L : List (String × DataW Unit)} (hL : laidMetH Try.prog L W)
    (_hp : L.length = L.length)
    (_hd : L.length = L.length)
    (hS : W.ShapedOpen Try.prog) : GW W := ⟨
  trivial,
  trivial,
  trivial⟩
end Go.Proofs.Ytcmmmomkfamodaa
