/- slices.Grow of the nil slice, told as a contract of Av: by the shelf's contract. -/
import Derived.Test.YtgngopfpnidbaaaDoorLibF
import Derived.Test.YtgngopfpnidbaaaDoorShA
import Derived.Test.YtgngopfpnidbaaaDoorFa
import Derived.Shelf.Spec.SlicesGrow
namespace Go.Proofs.YtgngopfpnidbaaaDoor
open Go.Av Go.RowKit Go.Lib
set_option linter.unusedVariables false
abbrev FldC := List UInt8 × List UInt8
def growX (l : List FldC) (n : Int) : Option (List FldC) := if l = [] ∧ 0 ≤ n ∧ n ≤ 1099511627776 then some [] else none
theorem growX_ok {l r : List FldC} {n : Int} (hP : growX l n = some r) : CallOK Tryd.prog 28 [.sc (.slice none 0 0), .int .i64 n] (.own 0 0 0 (List.length r)) [.slice 0 42 2 (List.map enc_api_Field r)] := by
  unfold growX at hP
  split at hP
  · rename_i hc
    obtain ⟨_, h0, h1⟩ := hc
    obtain rfl := Option.some.inj hP
    refine ⟨⟨_, Tryd.func28, rfl, by decide⟩, rfl, fun o ho => by simp at ho; subst ho; simp [vfO], fun w vals hG hs hv => ?_⟩
    obtain ⟨m, rfl⟩ : ∃ m : Nat, n = (m : Int) := ⟨n.toNat, by omega⟩
    have e0 : vals[0]? = some (.slice none 0 0) := by
      have h := hv 0 _ _ rfl (Array.getElem?_eq_getElem (by rw [hs]; simp : 0 < vals.size))
      rw [Array.getElem?_eq_getElem (by rw [hs]; simp : 0 < vals.size)]
      generalize vals[0]'(by rw [hs]; simp) = v at h
      cases h; rfl
    have e1 : vals[1]? = some (.int .i64 (m : Int)) := by
      have h := hv 1 _ _ rfl (Array.getElem?_eq_getElem (by rw [hs]; simp : 1 < vals.size))
      rw [Array.getElem?_eq_getElem (by rw [hs]; simp : 1 < vals.size)]
      generalize vals[1]'(by rw [hs]; simp) = v at h
      cases h; rfl
    have ev : vals = #[.slice none 0 0, .int .i64 (m : Int)] := by
      apply Array.ext'
      apply List.ext_getElem?
      intro i
      match i with
      | 0 => simpa using e0
      | 1 => simpa using e1
      | i + 2 =>
        have : vals[i + 2]? = none := Array.getElem?_eq_none (by rw [hs]; simp)
        simpa using this
    subst ev
    by_cases hm : m = 0
    · subst hm
      refine (Any8.slices_Grow_room Tryd.growF none 0 0 0 w (by omega) (by omega) (by omega) (by omega)).mono fun e w' ⟨he, hw⟩ => ?_
      subst hw
      refine ⟨_, fun _ => .slice none 0 0, he, Gr.refl w', ⟨fun id o b h hl hb => by simp [vblk] at hb, fun id id' o o' b h hl h' hl' hb => by simp [vblk] at hb, fun id o h => ?_⟩, ?_⟩
      · match id with
        | 0 =>
          simp at h; subst h
          exact ⟨[], ⟨by simp, by simp, .inl ⟨rfl, rfl⟩⟩, by decide, fun i x hx => by simp at hx, fun i x j c u hx => by simp at hx⟩
        | id + 1 => simp at h
      · refine .own _ _ _ _ _ (by simp) rfl (fun _ _ _ _ _ => Nat.zero_le _) fun E s xs hx => ?_
        simp at hx
        obtain ⟨rfl, rfl, rfl⟩ := hx
        exact ⟨by simp, .inl ⟨rfl, rfl, rfl⟩⟩
    · have hc : (match Tryd.prog.info? 42 with
        | some i => (match i.zero with
          | some z => decide (i.size = 2) && (decide (i.bytes ≤ 128) && decide (z.cells.size = 2))
          | none => false)
        | none => false) = true := by kernel_rfl
      rcases hi0 : Tryd.prog.info? 42 with _ | i0
      · rw [hi0] at hc; cases hc
      rw [hi0] at hc
      dsimp only at hc
      rcases hz0 : i0.zero with _ | z
      · rw [hz0] at hc; cases hc
      rw [hz0] at hc
      simp only [Bool.and_eq_true, decide_eq_true_eq] at hc
      obtain ⟨hsz, hby, hzc⟩ := hc
      have hs0 : 0 < i0.size := by omega
      have hle : (0 + m) * i0.bytes ≤ 140737488355328 := by
        have : (0 + m) * i0.bytes ≤ (0 + m) * 128 := Nat.mul_le_mul_left _ hby
        omega
      refine (Any8.slices_Grow_grow Tryd.growF i0 z hi0 hz0 hs0 none 0 0 m [] w (by omega) (by omega) hle (by omega) (by simp) (fun _ => rfl) (fun a ha => by cases ha)).mono fun e w' hhw => ?_
      obtain ⟨he, hw⟩ : e = .returned (.slice (some ⟨w.heap.size, 0, none⟩) 0 (grownCap w (0 + m) 0 42)) ∧ w' = w.drew.alloc (.cells (([] : List Value).toArray ++ Builtin.zeroCells z.cells (0 + m - 0) ++ Builtin.zeroCells z.cells (grownCap w (0 + m) 0 42 - (0 + m))) 42) := hhw
      subst hw
      have hge := grownCap_ge w (0 + m) 0 42
      have hcm := grownCap_le_maxLen w (0 + m) 0 42 (by unfold maxLen; omega)
      refine ⟨_, fun _ => .slice (some ⟨w.heap.size, 0, none⟩) 0 (grownCap w (0 + m) 0 42), he, (Gr.drew w).trans (Gr.alloc _ _), ⟨fun id o b h hl hb => ?_, fun id id' o o' b h hl h' hl' hb hb' => ?_, fun id o h => ?_⟩, ?_⟩
      · simp [vblk] at hb; subst hb; exact ⟨Nat.le_refl _, by simp⟩
      · have h1 : id = 0 := by
          rcases id with _ | id
          · rfl
          · simp at h
        have h2 : id' = 0 := by
          rcases id' with _ | id'
          · rfl
          · simp at h'
        rw [h1, h2]
      · match id with
        | 0 =>
          simp at h; subst h
          refine ⟨[], ⟨by simp, by simp, .inr ⟨w.heap.size, _, _, (0, 0), rfl, heap_alloc_new w.drew _, .inl rfl, Nat.zero_le _, hcm, ?_, by simp⟩⟩, by decide, fun i x hx => by simp at hx, fun i x j c u hx => by simp at hx⟩
          simp only [Array.size_append, List.size_toArray, List.length_nil, size_zeroCells, hzc]
          omega
        | id + 1 => simp at h
      · refine .own _ _ _ _ _ (by simp) rfl (fun _ _ _ _ _ => Nat.zero_le _) fun E s xs hx => ?_
        simp at hx
        obtain ⟨rfl, rfl, rfl⟩ := hx
        exact ⟨by simp, .inr ⟨w.heap.size, _, rfl, Nat.zero_le _, _, rfl, fun _ => by simp, fun _ => rfl⟩⟩
  · cases hP
end Go.Proofs.YtgngopfpnidbaaaDoor
