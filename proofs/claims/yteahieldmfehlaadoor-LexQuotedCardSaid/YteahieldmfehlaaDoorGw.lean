/- What a row's world gives of the package-level variables. -/
import Derived.Test.YteahieldmfehlaaDoorAvA
import Derived.Test.YteahieldmfehlaaDoorRows
import Derived.Shelf.Strings.Shaped
namespace Go.Proofs.YteahieldmfehlaaDoor
open Go.Av
theorem gw_of {W : World} {L : List (String × DataW Unit)} (hL : laidMetH Tryd.prog L W) (hS : W.ShapedOpen Tryd.prog) : GW W :=
  Go.Proofs.cell_of_shapedOpen_int (zero := #[.int .i64 0]) (t := 3) hS (of_decide_eq_true (by kernel_rfl)) (by kernel_rfl) rfl (by kernel_rfl) (by kernel_rfl) Tryd.underlying3
end Go.Proofs.YteahieldmfehlaaDoor
