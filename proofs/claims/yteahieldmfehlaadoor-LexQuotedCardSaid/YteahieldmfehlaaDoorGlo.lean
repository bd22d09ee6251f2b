/- Av, the head: what the walks ask of the package-level variables' blocks. -/
import Derived.WalkKit
namespace Go.Av
/-- the library's word on its search: whatever number -/
def GW (w : World) : Prop := ∃ m : Int, w.cell? ⟨0, 0, none⟩ = some (.int .i64 m)
def GB : List Nat := [0]
theorem GW_keep {w w' : World} (h : GW w) (hk : ∀ b ∈ GB, w'.heap[b]? = w.heap[b]?) : GW w' :=
  let ⟨m, hm⟩ := h
  ⟨m, by rw [World.cell?_of_block (hk _ (by simp [GB]))]; exact hm⟩
theorem GW_lt {w : World} (h : GW w) : ∀ b ∈ GB, b < w.heap.size := fun b hb => by
  obtain ⟨m, hm⟩ := h
  simp [GB] at hb
  subst hb
  rcases Nat.lt_or_ge 0 w.heap.size with h | h
  · exact h
  · simp [World.cell?, Array.getElem?_eq_none h] at hm
end Go.Av
