/- What a row's world gives of the package-level variables. -/
import Derived.Test.YtbcmngnmfneeaaaGreatDoorFwA
import Derived.Test.YtbcmngnmfneeaaaGreatDoorRows
import Derived.Shelf.Strings.Shaped
import Derived.LaidSub
namespace Go.Proofs.YtbcmngnmfneeaaaGreatDoor
open Go.Av
theorem tabB_of {W : World} {L : List (String × DataW Unit)} {name : String} {k : IntKind} {zs : List Int} {g : Nat} {t e : TypeId} {n : Nat} (hg : Tryz.prog.globalNamed name = some g) (hty : (Tryz.prog.globals[g]?).map (·.type) = some t) (ht : Tryz.prog.underlying t = some (.array n e)) (he : Tryz.prog.underlying e = some (.int k)) (hce : Tryz.prog.cellsOf e = 1) (hct : Tryz.prog.cellsOf t = n)
    (hf : (L.filter fun x => x.2.handleName?.isNone).filter (fun x => decide (x.1 = name)) = [(name, Lib.tabData k zs)]) (hL : laidMetH Tryz.prog L W) : TabB W g k zs := by
  have h := (laidMetH_iff.1 hL).1.filter fun x => decide (x.1 = name)
  rw [hf] at h
  exact TabB.of (Lib.tabIs_of_head hg hty ht he hce hct h) hg
theorem gwe_of {W : World} {L : List (String × DataW Unit)} (hL : laidMetH Tryz.prog L W)
    (he : ∃ d : DataW Unit, (L.filter fun x => x.2.handleName?.isSome) = [("errors.errorType", d)] ∧ d.handleName? = some [101, 114, 114, 111, 114] ∧ d.funcsIn? = Option.none) : GWe W := by
  obtain ⟨d, h1, h2, h3⟩ := he
  have h := (laidMetH_iff.1 hL).2
  rw [h1] at h
  have h' := h _ (List.mem_singleton.2 rfl)
  simp only [h3] at h'
  obtain ⟨name, u, ty, e1, e2, e3, e4, e5⟩ := h'
  have en : name = [101, 114, 114, 111, 114] := Option.some.inj (e1.symm.trans h2)
  subst en
  have rt : (Tryz.prog.cutTypes.find? (·.1 == "internal/reflectlite.rtype")).map (·.2) = some 125 := by kernel_rfl
  obtain rfl := Option.some.inj (rt.symm.trans e2)
  have size : Tryz.prog.types.size = 217 := by kernel_rfl
  have oneRow : ((List.range 217).filter fun t => Tryz.prog.rowNamed t [101, 114, 114, 111, 114]) = [27] := by kernel_rfl
  have hm : ty ∈ (List.range 217).filter fun t => Tryz.prog.rowNamed t [101, 114, 114, 111, 114] := List.mem_filter.2 ⟨List.mem_range.2 (by rw [← size]; exact e3), e4⟩
  rw [oneRow] at hm
  obtain rfl := List.mem_singleton.1 hm
  have hh : typeHandle Tryz.prog 27 = .pointer (some ⟨8, 27, none⟩) := by kernel_rfl
  rw [hh] at e5
  have et : Tryz.prog.globalNamed "errors.errorType" = some 0 := by kernel_rfl
  unfold GWe
  simpa using World.var?_cell et e5 0
theorem gw_of {W : World} {L : List (String × DataW Unit)} (hL : laidMetH Tryz.prog L W)
    (_hp : L.length = L.length)
    (_hd : L.length = L.length)
    (he : ∃ d : DataW Unit, (L.filter fun x => x.2.handleName?.isSome) = [("errors.errorType", d)] ∧ d.handleName? = some [101, 114, 114, 111, 114] ∧ d.funcsIn? = Option.none)
    (hS : W.ShapedOpen Tryz.prog) : GW W := ⟨
  Go.Proofs.cell_of_shapedOpen_int (zero := #[.int .i64 0]) (t := 3) hS (of_decide_eq_true (by kernel_rfl)) (by kernel_rfl) rfl (by kernel_rfl) (by kernel_rfl) Tryz.underlying3,
  trivial,
  trivial,
  gwe_of hL he⟩
end Go.Proofs.YtbcmngnmfneeaaaGreatDoor
