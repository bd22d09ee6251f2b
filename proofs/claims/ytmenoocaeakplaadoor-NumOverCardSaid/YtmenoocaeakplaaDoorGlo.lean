/- Av, the head: what the walks ask of the package-level variables' blocks. -/
import Derived.WalkKit
import Derived.Lib.LaidTab
import Derived.Lib.ItoaNum
namespace Go.Av
/-- the block g holds just these numbers -/
def TabB (w : World) (g : Nat) (k : IntKind) (zs : List Int) : Prop := ∃ t fz, w.heap[g]? = some (.cells (zs.map fun z => Value.int k z).toArray t fz)
theorem TabB.keep {w w' : World} {g : Nat} {k : IntKind} {zs : List Int} (h : TabB w g k zs) (hk : w'.heap[g]? = w.heap[g]?) : TabB w' g k zs := by
  obtain ⟨t, fz, h⟩ := h
  exact ⟨t, fz, hk.trans h⟩
theorem TabB.lt {w : World} {g : Nat} {k : IntKind} {zs : List Int} (h : TabB w g k zs) : g < w.heap.size := by
  obtain ⟨t, fz, h⟩ := h
  exact (Array.getElem?_eq_some_iff.1 h).1
theorem TabB.is {P : Program} {w : World} {g : Nat} {name : String} {k : IntKind} {zs : List Int} (h : TabB w g k zs) (hg : P.globalNamed name = some g) : Lib.TabIs P w name k zs := by
  obtain ⟨t, fz, h⟩ := h
  unfold Lib.TabIs World.var?
  rw [hg]
  simp [h]
theorem TabB.of {P : Program} {w : World} {g : Nat} {name : String} {k : IntKind} {zs : List Int} (h : Lib.TabIs P w name k zs) (hg : P.globalNamed name = some g) : TabB w g k zs := by
  unfold Lib.TabIs World.var? at h
  rw [hg] at h
  simp only [Option.bind_some] at h
  split at h
  · rename_i cs t fz hh
    obtain rfl := Option.some.inj h
    exact ⟨t, fz, hh⟩
  · cases h
/-- the library's word on its search: whatever number -/
def GWm (w : World) : Prop := ∃ m : Int, w.cell? ⟨0, 0, none⟩ = some (.int .i64 m)
def GBm : List Nat := [0]
theorem GWm_keep {w w' : World} (h : GWm w) (hk : ∀ b ∈ GBm, w'.heap[b]? = w.heap[b]?) : GWm w' :=
  let ⟨m, hm⟩ := h
  ⟨m, by rw [World.cell?_of_block (hk _ (by simp [GBm]))]; exact hm⟩
theorem GWm_lt {w : World} (h : GWm w) : ∀ b ∈ GBm, b < w.heap.size := fun b hb => by
  obtain ⟨m, hm⟩ := h
  simp [GBm] at hb
  subst hb
  rcases Nat.lt_or_ge 0 w.heap.size with h | h
  · exact h
  · simp [World.cell?, Array.getElem?_eq_none h] at hm
/-- a table of math/bits: where a power of two has its one -/
def dbTab : List Int := [0, 1, 56, 2, 57, 49, 28, 3, 61, 58, 42, 50, 38, 29, 17, 4, 62, 47, 59, 36, 45, 43, 51, 22, 53, 39, 33, 30, 24, 18, 12, 5, 63, 55, 48, 27, 60, 41, 37, 16, 46, 35, 44, 21, 52, 32, 23, 11, 54, 26, 40, 15, 34, 20, 31, 10, 25, 14, 19, 9, 13, 8, 7, 6]
def GWp (w : World) : Prop := TabB w 2 .u64 Lib.pow10Tab
def GBp : List Nat := [2]
theorem GWp_keep {w w' : World} (h : GWp w) (hk : ∀ b ∈ GBp, w'.heap[b]? = w.heap[b]?) : GWp w' := TabB.keep h (hk _ (by simp [GBp]))
theorem GWp_lt {w : World} (h : GWp w) : ∀ b ∈ GBp, b < w.heap.size := fun b hb => by
  simp [GBp] at hb
  subst hb
  exact TabB.lt h
def GWd (w : World) : Prop := TabB w 6 .u8 dbTab
def GBd : List Nat := [6]
theorem GWd_keep {w w' : World} (h : GWd w) (hk : ∀ b ∈ GBd, w'.heap[b]? = w.heap[b]?) : GWd w' := TabB.keep h (hk _ (by simp [GBd]))
theorem GWd_lt {w : World} (h : GWd w) : ∀ b ∈ GBd, b < w.heap.size := fun b hb => by
  simp [GBd] at hb
  subst hb
  exact TabB.lt h
def GW (w : World) : Prop := GWm w ∧ GWp w ∧ GWd w
def GB : List Nat := GBm ++ GBp ++ GBd
theorem GW_keep {w w' : World} (h : GW w) (hk : ∀ b ∈ GB, w'.heap[b]? = w.heap[b]?) : GW w' :=
  ⟨GWm_keep h.1 fun b hb => hk b (by simp [GB, hb]), GWp_keep h.2.1 fun b hb => hk b (by simp [GB, hb]), GWd_keep h.2.2 fun b hb => hk b (by simp [GB, hb])⟩
theorem GW_lt {w : World} (h : GW w) : ∀ b ∈ GB, b < w.heap.size := fun b hb => by
  simp only [GB, List.mem_append] at hb
  rcases hb with (hb | hb) | hb
  · exact GWm_lt h.1 b hb
  · exact GWp_lt h.2.1 b hb
  · exact GWd_lt h.2.2 b hb
end Go.Av
