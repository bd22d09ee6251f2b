/- What a row's world gives of the package-level variables. -/
import Derived.Test.YtecpgelhhbbjmaaDoorFwA
import Derived.Test.YtecpgelhhbbjmaaDoorRows
import Derived.Shelf.Strings.Shaped
import Derived.LaidSub
namespace Go.Proofs.YtecpgelhhbbjmaaDoor
open Go.Av
theorem tabB_of {W : World} {L : List (String × DataW Unit)} {name : String} {k : IntKind} {zs : List Int} {g : Nat} {t e : TypeId} {n : Nat} (hg : Tryd.prog.globalNamed name = some g) (hty : (Tryd.prog.globals[g]?).map (·.type) = some t) (ht : Tryd.prog.underlying t = some (.array n e)) (he : Tryd.prog.underlying e = some (.int k)) (hce : Tryd.prog.cellsOf e = 1) (hct : Tryd.prog.cellsOf t = n)
    (hf : (L.filter fun x => x.2.handleName?.isNone).filter (fun x => decide (x.1 = name)) = [(name, Lib.tabData k zs)]) (hL : laidMetH Tryd.prog L W) : TabB W g k zs := by
  have h := (laidMetH_iff.1 hL).1.filter fun x => decide (x.1 = name)
  rw [hf] at h
  exact TabB.of (Lib.tabIs_of_head hg hty ht he hce hct h) hg
theorem gw_of {W : World} {L : List (String × DataW Unit)} (hL : laidMetH Tryd.prog L W)
    (_hp : L.length = L.length)
    (_hd : L.length = L.length)
    (hS : W.ShapedOpen Tryd.prog) : GW W := ⟨
  Go.Proofs.cell_of_shapedOpen_int (zero := #[.int .i64 0]) (t := 3) hS (of_decide_eq_true (by kernel_rfl)) (by kernel_rfl) rfl (by kernel_rfl) (by kernel_rfl) Tryd.underlying3,
  trivial,
  trivial⟩
end Go.Proofs.YtecpgelhhbbjmaaDoor
