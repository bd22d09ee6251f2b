/- Av, the head: what the walks ask of the package-level variables' blocks: here: nothing. -/
import Derived.WalkKit
namespace Go.Av
def GW (_w : World) : Prop := True
def GB : List Nat := []
theorem GW_keep {w w' : World} (_h : GW w) (_hk : ∀ b ∈ GB, w'.heap[b]? = w.heap[b]?) : GW w' := trivial
theorem GW_lt {w : World} (_h : GW w) : ∀ b ∈ GB, b < w.heap.size := fun b hb => by simp [GB] at hb
end Go.Av
