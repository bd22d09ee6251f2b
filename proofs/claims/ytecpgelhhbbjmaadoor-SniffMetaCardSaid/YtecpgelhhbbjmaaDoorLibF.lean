/- A contract of Av out of one that speaks of values: flat arguments, flat results. -/
import Derived.Test.YtecpgelhhbbjmaaDoorFwD
import Derived.Below
namespace Go.Av
open Go.RowKit
theorem Below_gr {w w' : World} (h : Below w.heap.size w w') : Gr w w' := ⟨h.os, h.tape, h.output, h.size, fun k hk _ => h.block k hk⟩
theorem flatT_vf {x : AV} (h : x.flatT = true) : x.vf = true := by
  have h1 : ∀ x : AV, x.flat = true → x.vf = true := fun x h => by cases x <;> simp [AV.flat] at h <;> rfl
  cases x
  case tup xs =>
    simp only [AV.vf]
    induction xs with
    | nil => rfl
    | cons y r ih =>
      simp only [AV.flatT, List.all_cons, Bool.and_eq_true] at h
      simp only [AV.vfL, Bool.and_eq_true]
      exact ⟨h1 y h.1, ih h.2⟩
  all_goals exact h1 _ h
theorem callOK_flat {P : Program} {f : FuncId} {args : List AV} {ret : AV} (hp : ∃ fn, P.funcs[f]? = some fn ∧ fn.body.isSome = true ∧ fn.name ≠ "runtime.NumGoroutine") (ha : args.all AV.flat = true) (hr : ret.flatT = true)
    (h : ∀ w, GW w → Calls P f (args.map flatV).toArray w fun e w' => e = .returned (flatV ret) ∧ Gr w w') : CallOK P f args ret [] := by
  refine ⟨hp, flatT_vf hr, fun o ho => by simp at ho, fun w vals hG hs hv => ?_⟩
  have e : vals = (args.map flatV).toArray := by
    apply Array.ext'
    apply List.ext_getElem?
    intro i
    simp only [Array.getElem?_toList, List.getElem?_map]
    rcases hi : args[i]? with _ | x
    · have : vals.size ≤ i := by rw [hs]; exact List.getElem?_eq_none_iff.1 hi
      simp [Array.getElem?_eq_none this]
    · have hlt : i < vals.size := by rw [hs]; exact (List.getElem?_eq_some_iff.1 hi).1
      have hx := flat_eq (hv i x vals[i] hi (Array.getElem?_eq_getElem hlt)) (List.all_eq_true.1 ha x (List.mem_of_getElem? hi))
      simp [Array.getElem?_eq_getElem hlt, hx]
  subst e
  refine (h w hG).mono fun e w' ⟨he, hg⟩ => ⟨_, fun _ => undef, he, hg, ⟨fun id o b h => by simp at h, fun id id' o o' b h => by simp at h, fun id o h => by simp at h⟩, flatT_R _ _ _ hr⟩
end Go.Av
