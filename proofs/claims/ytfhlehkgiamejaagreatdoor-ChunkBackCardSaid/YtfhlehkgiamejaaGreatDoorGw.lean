/- What a row's world gives of the package-level variables. -/
import Derived.Test.YtfhlehkgiamejaaGreatDoorFwA
import Derived.Test.YtfhlehkgiamejaaGreatDoorRows
import Derived.Shelf.Strings.Shaped
import Derived.LaidSub
namespace Go.Proofs.YtfhlehkgiamejaaGreatDoor
open Go.Av
theorem tabB_of {W : World} {L : List (String × DataW Unit)} {name : String} {k : IntKind} {zs : List Int} {g : Nat} {t e : TypeId} {n : Nat} (hg : Tryz.prog.globalNamed name = some g) (hty : (Tryz.prog.globals[g]?).map (·.type) = some t) (ht : Tryz.prog.underlying t = some (.array n e)) (he : Tryz.prog.underlying e = some (.int k)) (hce : Tryz.prog.cellsOf e = 1) (hct : Tryz.prog.cellsOf t = n)
    (hf : (L.filter fun x => x.2.handleName?.isNone).filter (fun x => decide (x.1 = name)) = [(name, Lib.tabData k zs)]) (hL : laidMetH Tryz.prog L W) : TabB W g k zs := by
  have h := (laidMetH_iff.1 hL).1.filter fun x => decide (x.1 = name)
  rw [hf] at h
  exact TabB.of (Lib.tabIs_of_head hg hty ht he hce hct h) hg
theorem gw_of {W : World} {L : List (String × DataW Unit)} (hL : laidMetH Tryz.prog L W)
    (hp : (L.filter fun x => x.2.handleName?.isNone).filter (fun x => decide (x.1 = "internal/strconv.uint64pow10")) = [("internal/strconv.uint64pow10", Lib.tabData .u64 Lib.pow10Tab)])
    (hd : (L.filter fun x => x.2.handleName?.isNone).filter (fun x => decide (x.1 = "math/bits.deBruijn64tab")) = [("math/bits.deBruijn64tab", Lib.tabData .u8 dbTab)])
    (hS : W.ShapedOpen Tryz.prog) : GW W := ⟨
  Go.Proofs.cell_of_shapedOpen_int (zero := #[.int .i64 0]) (t := 3) hS (of_decide_eq_true (by kernel_rfl)) (by kernel_rfl) rfl (by kernel_rfl) (by kernel_rfl) Tryz.underlying3,
  tabB_of (t := 65) (e := 58) (by kernel_rfl) (by kernel_rfl) Tryz.underlying65 Tryz.underlying58 (by kernel_rfl) (by kernel_rfl) hp hL,
  tabB_of (t := 73) (e := 5) (by kernel_rfl) (by kernel_rfl) Tryz.underlying73 Tryz.underlying5 (by kernel_rfl) (by kernel_rfl) hd hL⟩
end Go.Proofs.YtfhlehkgiamejaaGreatDoor
