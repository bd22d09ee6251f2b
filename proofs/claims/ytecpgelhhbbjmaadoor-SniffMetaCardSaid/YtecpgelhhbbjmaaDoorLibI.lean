/- strings.Index and bytes.Index, told as contracts of Av: by the shelf's contracts. -/
import Derived.Test.YtecpgelhhbbjmaaDoorLibL
namespace Go.Proofs.YtecpgelhhbbjmaaDoor
open Go.Av Go.RowKit
def indexX (s sub : List UInt8) : Option Int := if s.length < 4294967281 then some (Lib.index s sub) else none
theorem indexX_ok {s sub : List UInt8} {r : Int} (hP : indexX s sub = some r) : CallOK Tryd.prog 27 [.str s, .str sub] (.int .i64 r) [] := by
  unfold indexX at hP
  split at hP
  · rename_i hc
    obtain rfl := Option.some.inj hP
    refine callOK_flat ⟨_, Tryd.func27, rfl, by decide⟩ rfl rfl fun w ⟨⟨m, hm⟩, _⟩ => ?_
    exact (Any.strings_Index Tryd.lays143 ⟨s.toArray⟩ ⟨sub.toArray⟩ m w (by simpa [ByteArray.size] using hc) hm).mono fun e w' ⟨he, hb⟩ => ⟨by rw [he]; rfl, by rw [hb]; exact Gr.refl w⟩
  · cases hP
theorem bytesOf_b2i (xs : List UInt8) : Lib.bytesOf (xs.map b2i) = xs := by
  unfold Lib.bytesOf
  rw [List.map_map]
  conv => rhs; rw [← List.map_id xs]
  refine List.map_congr_left fun x _ => ?_
  simp [b2i]
theorem view_cells {w : World} {φ : Nat → Value} {H : List AO} {x : UInt8} {xs : List UInt8} {v : Value} (r : R w φ H (.view 1 (List.map encB (x :: xs))) v) :
    ∃ b off cap, v = .slice (some ⟨b, off, none⟩) (x :: xs).length cap ∧ (x :: xs).length ≤ cap ∧ ∀ i, i < (x :: xs).length → w.cell? ⟨b, off + i, none⟩ = some (.int .u8 (((x :: xs).map b2i).getD i 0)) := by
  generalize hy : List.map encB (x :: xs) = ys at r
  cases r with
  | view0 => simp at hy
  | view ys b off size cap u hcap hb hl hcl hs hc hr =>
    subst hy
    refine ⟨b, off, cap, by rw [List.length_map], by simpa using hcap, fun i hi => ?_⟩
    have h1 : (List.map encB (x :: xs))[i]? = some (encB (x :: xs)[i]) := by rw [List.getElem?_map, List.getElem?_eq_getElem hi]; rfl
    have h2 := (hc i _ 0 _ h1 (show (encB (x :: xs)[i]).cells[0]? = some (encB (x :: xs)[i]) from rfl)).1
    have h3 := hr i _ 0 _ h1 (show (encB (x :: xs)[i]).cells[0]? = some (encB (x :: xs)[i]) from rfl)
    generalize u i 0 = z at h2 h3
    unfold encB at h3
    cases h3
    rw [Nat.mul_one, Nat.add_zero] at h2
    rw [h2, List.getD_eq_getElem?_getD, List.getElem?_map, List.getElem?_eq_getElem hi]
    rfl
theorem addr_add (b o i : Nat) : (⟨b, o, none⟩ : Addr).add i = ⟨b, o + i, none⟩ := by cases i <;> rfl
theorem b2i_range (xs : List UInt8) : ∀ y ∈ xs.map b2i, 0 ≤ y ∧ y < 256 := by
  intro y hy
  obtain ⟨z, _, rfl⟩ := List.mem_map.1 hy
  have := z.toNat_lt
  unfold b2i
  omega
def bindexX (s sub : List UInt8) : Option Int := if s.length < 4294967281 ∧ sub.length ≤ 9223372036854775807 ∧ 0 < s.length ∧ 0 < sub.length then some (Lib.index s sub) else none
theorem bindexX_ok {s sub : List UInt8} {r : Int} (hP : bindexX s sub = some r) : CallOK Tryd.prog 64 [.view 1 (List.map encB s), .view 1 (List.map encB sub)] (.int .i64 r) [] := by
  unfold bindexX at hP
  split at hP
  · rename_i hc
    obtain ⟨h1, h2, h3, h4⟩ := hc
    obtain rfl := Option.some.inj hP
    refine ⟨⟨_, Tryd.func64, rfl, by decide⟩, rfl, fun o ho => by simp at ho, fun w vals hG hs hv => ?_⟩
    obtain ⟨⟨m, hm⟩, _⟩ := id hG
    cases s with
    | nil => simp at h3
    | cons x xs =>
    cases sub with
    | nil => simp at h4
    | cons y ys =>
    have hs2 : vals.size = 2 := hs
    have e0 := hv 0 _ (vals[0]'(by omega)) rfl (Array.getElem?_eq_getElem (by omega))
    have e1 := hv 1 _ (vals[1]'(by omega)) rfl (Array.getElem?_eq_getElem (by omega))
    have e : vals = #[vals[0]'(by omega), vals[1]'(by omega)] := by
      apply Array.ext
      · simp [hs2]
      · intro i hi hi'
        have : i = 0 ∨ i = 1 := by omega
        rcases this with rfl | rfl <;> rfl
    rw [e]
    generalize vals[0]'(by omega) = v0 at e0 ⊢
    generalize vals[1]'(by omega) = v1 at e1 ⊢
    obtain ⟨b0, o0, c0, rfl, hc0, g0⟩ := view_cells e0
    obtain ⟨b1, o1, c1, rfl, hc1, g1⟩ := view_cells e1
    have := Any.bytes_Index_at (ρ := Tryd.lays185_ren) Tryd.lays185 ⟨b0, o0, none⟩ ⟨b1, o1, none⟩ (x :: xs).length c0 (y :: ys).length c1 ((x :: xs).map b2i) ((y :: ys).map b2i) m w (by rw [List.length_map]) (by rw [List.length_map]) (b2i_range _) (b2i_range _)
      (fun i hi => by rw [addr_add]; exact g0 i hi) (fun i hi => by rw [addr_add]; exact g1 i hi) hc0 h1 h2 hm
    rw [bytesOf_b2i, bytesOf_b2i] at this
    refine this.mono fun e w' ⟨he, q, hq⟩ => ⟨_, fun _ => undef, he, by rw [hq]; exact drewN_gr w q, ⟨fun id o b h => by simp at h, fun id id' o o' b h => by simp at h, fun id o h => by simp at h⟩, .int _ _⟩
  · cases hP
end Go.Proofs.YtecpgelhhbbjmaaDoor
