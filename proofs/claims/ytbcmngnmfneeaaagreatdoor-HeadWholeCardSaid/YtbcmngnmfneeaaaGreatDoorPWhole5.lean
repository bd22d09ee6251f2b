/- HeadWhole, plain. -/
import Derived.Test.YtbcmngnmfneeaaaGreatDoorW5J
import Derived.Test.YtbcmngnmfneeaaaGreatDoorLWhole
namespace Go.Proofs.YtbcmngnmfneeaaaGreatDoor
open Go.Av
set_option linter.unusedVariables false
set_option linter.unusedSimpArgs false
set_option maxRecDepth 100000
theorem irem_nat5 (a n : Nat) : irem (a : Int) (n : Int) = ((a % n : Nat) : Int) := rfl
theorem bind_to {α β : Type} {x : Option α} {a : α} {f : α → Option β} {r : Option β} (h : x = some a) (h2 : f a = r) : x.bind f = r := by rw [h]; exact h2
theorem RQ_is {α : Type} {z : α} {n : Int} {x : Option (α × Option (Int × Int))} {w : Option α} (h : RQ z n x w) : ∃ r, x = some r ∧ (r.2 = none → ∃ q, w = some q) ∧ ((∃ q, w = some q) → r.2 = none) := by
  cases w with
  | some q => exact ⟨_, h, fun _ => ⟨q, rfl⟩, fun _ => rfl⟩
  | none =>
    obtain ⟨e, h1, _⟩ := h
    exact ⟨_, h1, fun h => absurd h (by simp), fun h => absurd h (by simp)⟩
theorem law_HeadWhole (s : List UInt8) (cut : Int) (_hs : True) (hc : inR .i64 cut) (hb : s.length ≤ 1048576) : law05_HeadWhole s cut = some true := by
  obtain ⟨r4, e4, a4, b4⟩ := RQ_is (reqF_eq (s := s) (by omega))
  obtain ⟨r5, e5, a5, b5⟩ := RQ_is (respF_eq (s := s) (by omega))
  unfold law05_HeadWhole
  refine bind_to shown05 ?_
  refine bind_to e4 ?_
  refine bind_to e5 ?_
  by_cases hn : r4.2.isNone = false ∧ r5.2.isNone = false
  · refine bind_to (a := true) ?_ rfl
    rw [hn.1, hn.2]
    rfl
  have hw : Whole s := by
    by_cases h4 : r4.2 = none
    · obtain ⟨q, h⟩ := a4 h4
      exact reqS_whole h
    · by_cases h5 : r5.2 = none
      · obtain ⟨q, h⟩ := a5 h5
        exact respS_whole h
      · exact absurd ⟨by cases h : r4.2 with | none => exact absurd h h4 | some _ => rfl, by cases h : r5.2 with | none => exact absurd h h5 | some _ => rfl⟩ hn
  have hpos : 0 < s.length := by
    obtain ⟨_, ls, _, _, e⟩ := hw
    rw [e]; simp
  have hl := hw.1
  refine bind_to (a := false) ?_ ?_
  · cases h4 : r4.2.isNone with
    | true => rfl
    | false =>
      cases h5 : r5.2.isNone with
      | true => rfl
      | false => exact absurd ⟨h4, h5⟩ hn
  rw [if_neg (by decide)]
  refine bind_to (show head_New = some () from rfl) ?_
  refine bind_to (a := false) ?_ ?_
  · rw [szC_ok (by omega)]
    simp only [Option.bind_some]
    rw [head_take (by omega) (by simp)]
    have h := rd_whole hw []
    rw [List.append_nil] at h
    rw [h]
    simp only [Option.bind_some]
    rw [if_neg (by simp)]
    rfl
  rw [if_neg (by decide)]
  obtain ⟨w, hwc⟩ : ∃ w : Nat, (if decide (cut < 0) then some (ineg .i64 (iadd .i64 cut 1)) else some cut) = some (w : Int) := by
    simp only [inR] at hc
    by_cases hneg : cut < 0
    · refine ⟨(-(cut + 1)).toNat, ?_⟩
      rw [if_pos (by simpa using hneg), iadd64 (by omega) (by omega), ineg, wrap64 (by omega) (by omega)]
      congr 1
      omega
    · refine ⟨cut.toNat, ?_⟩
      rw [if_neg (by simpa using hneg)]
      congr 1
      omega
  refine bind_to hwc ?_
  rw [chk_ok (show decide ((s.length : Int) ≠ 0) = true from decide_eq_true (by omega)), irem_nat5]
  simp only [Option.bind_some]
  have hm : w % s.length < s.length := Nat.mod_lt _ hpos
  generalize w % s.length = c at hm
  rw [slL_to (by omega)]
  simp only [Option.bind_some]
  have nw := pre_none hw hm
  have hx := reqF_eq (s := s.take c) (by rw [List.length_take]; omega)
  have hy := respF_eq (s := s.take c) (by rw [List.length_take]; omega)
  have n1 : reqS (s.take c) = none := by
    cases h : reqS (s.take c) with
    | none => rfl
    | some q => exact absurd (reqS_whole h) nw
  have n2 : respS (s.take c) = none := by
    cases h : respS (s.take c) with
    | none => rfl
    | some q => exact absurd (respS_whole h) nw
  rw [n1] at hx
  rw [n2] at hy
  obtain ⟨x1, k1, l1⟩ := hx
  obtain ⟨x2, k2, l2⟩ := hy
  rw [List.length_take] at l1 l2
  rw [k1, k2]
  simp only [Option.bind_some]
  rw [szC_ok (by simp; omega)]
  simp only [Option.bind_some]
  obtain ⟨r8, e8, h8⟩ : ∃ r8, head_Request (s ++ [120]) = some r8 ∧ (r4.2 = none → r8.2 = some ((s.length : Int), 1) ∨ (r8.2 = some (2048, 17) ∧ s.length = 2048)) := by
    by_cases hf : s.length = 2048
    · exact ⟨_, long_err (by rw [List.length_append]; simp; omega), fun _ => .inr ⟨rfl, hf⟩⟩
    · obtain ⟨r, er, _⟩ := RQ_is (reqF_eq (s := s ++ [120]) (by rw [List.length_append]; simp; omega))
      refine ⟨r, er, fun h4 => .inl ?_⟩
      obtain ⟨q, hq⟩ := a4 h4
      rw [reqF_tail hq (by omega)] at er
      rw [← Option.some.inj er]
  rw [e8]
  simp only [Option.bind_some]
  obtain ⟨f, hf⟩ : ∃ f, faultX r8.2 = some f := by cases r8.2 <;> exact ⟨_, rfl⟩
  rw [hf]
  simp only [Option.bind_some]
  rw [if_pos (by rfl), if_pos (by rfl)]
  refine bind_to (show faultX (some x1) = some x1 from rfl) ?_
  rw [if_pos (decide_eq_true (by omega))]
  refine bind_to (show faultX (some x2) = some x2 from rfl) ?_
  rw [if_pos (decide_eq_true (by omega))]
  cases h4 : r4.2 with
  | some e => rfl
  | none =>
    rw [if_neg (by decide)]
    rcases h8 h4 with h | ⟨h, h2⟩
    · rw [h] at hf
      obtain rfl := Option.some.inj hf
      rw [if_pos (by simp)]
    · rw [h] at hf
      obtain rfl := Option.some.inj hf
      rw [h2]
      rfl
/-- whatever the length: a text above 2048 bytes is refused at once -/
theorem law_HeadWhole_all (s : List UInt8) (cut : Int) (_hs : True) (hc : inR .i64 cut) : law05_HeadWhole s cut = some true := by
  by_cases h : s.length ≤ 1048576
  · exact law_HeadWhole s cut trivial hc h
  · have e4 := long_err (s := s) (by omega)
    have e5 : head_Response s = some ((0, [], []), some (2048, 17)) := by
      unfold head_Response
      rw [if_pos (by rw [decide_eq_true_eq]; omega)]
      rfl
    unfold law05_HeadWhole
    refine bind_to shown05 ?_
    refine bind_to e4 ?_
    refine bind_to e5 ?_
    exact bind_to (a := true) rfl rfl
end Go.Proofs.YtbcmngnmfneeaaaGreatDoor
