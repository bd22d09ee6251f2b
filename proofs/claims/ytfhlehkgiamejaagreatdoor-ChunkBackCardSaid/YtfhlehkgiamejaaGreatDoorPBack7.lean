/- The law ChunkBack, in plain Lean. -/
import Derived.Test.YtfhlehkgiamejaaGreatDoorU7F
import Derived.Test.YtfhlehkgiamejaaGreatDoorU7S
import Derived.Test.YtfhlehkgiamejaaGreatDoorLBack
import Derived.Test.YtfhlehkgiamejaaGreatDoorRow
namespace Go.Proofs.YtfhlehkgiamejaaGreatDoor
open Go.Av Go.RowKit
set_option linter.unusedVariables false
set_option linter.unusedSimpArgs false
set_option maxRecDepth 100000
/-- the pieces, one behind the other, and written as chunks -/
theorem pieces_loop (ps : List (List UInt8)) (hp : ps.length ≤ 140737488351232) (hs : ∀ p ∈ ps, p.length ≤ 140737488351232) : ∀ (k i : Nat) (all wire : List UInt8), i ≤ ps.length → ps.length - i < k → i ≤ 200 → all.length ≤ 8192 → wire.length ≤ all.length + 23 * i →
    runS wire (idl 0) = some (wire.length, idl all.length, all) → ∃ all' wire', law07_ChunkBack_L36 ps k (i : Int) all wire = some (all', wire') ∧ all'.length ≤ 8192 ∧ wire'.length ≤ 14000 ∧ runS wire' (idl 0) = some (wire'.length, idl all'.length, all')
  | 0, i, _, _, _, hk, _, _, _, _ => by omega
  | k + 1, i, all, wire, hi, hk, h2, ha, hw, hr => by
    simp only [law07_ChunkBack_L36]
    by_cases hlt : i < ps.length ∧ i < 200
    · rw [if_pos (decide_eq_true (by omega)), decide_eq_true (by omega : (i : Int) < 200)]
      simp only [Option.bind_some, if_true]
      rw [ixL_in hlt.1]
      simp only [Option.bind_some]
      have hx := hs _ (List.getElem_mem hlt.1)
      rw [iadd64 (by omega) (by omega)]
      by_cases hb : 8192 < all.length + (ps[i]'hlt.1).length
      · rw [if_pos (by simp; omega)]
        exact ⟨all, wire, rfl, ha, by omega, hr⟩
      · rw [if_neg (by simp; omega)]
        have hc := chunk_len (b := ps[i]'hlt.1) (by omega)
        rw [szC_ok (by simp; omega), chunk_eq (by omega)]
        simp only [Option.bind_some]
        rw [szC_ok (by simp; omega), iadd64 (by omega) (by omega), show (i : Int) + 1 = ((i + 1 : Nat) : Int) by omega]
        simp only [Option.bind_some]
        refine pieces_loop ps hp hs k (i + 1) _ _ (by omega) (by omega) (by omega) (by simp; omega) (by simp; omega) ?_
        have := run_app hr (chunk_run (p := ps[i]'hlt.1) (a := all.length) (by omega))
        rw [this]
        simp
    · have e : (if decide ((i : Int) < (ps.length : Int)) = true then some (decide ((i : Int) < 200)) else some false) = some false := by
        by_cases h : i < ps.length
        · rw [if_pos (decide_eq_true (by omega)), decide_eq_false (by omega)]
        · rw [if_neg (by simp; omega)]
      rw [e]
      exact ⟨all, wire, rfl, ha, by omega, hr⟩
/-- how much is handed over at once -/
theorem cut_size (cuts : List Int) (hc : cuts.length ≤ 140737488351232) (i m : Nat) (hm : 1 ≤ m) (hm2 : m ≤ 140737488400000) : ∃ s : Nat, 1 ≤ s ∧ s ≤ m ∧
    ((if decide (0 < (List.length cuts : Int)) then
            (chk (decide ((List.length cuts : Int) ≠ 0))).bind fun _ =>
            (ixL cuts (irem (i : Int) (List.length cuts : Int))).bind fun x186 =>
            if decide (0 < x186) then
              (chk (decide ((List.length cuts : Int) ≠ 0))).bind fun _ =>
              (ixL cuts (irem (i : Int) (List.length cuts : Int))).bind fun x188 =>
              some (decide (x188 < (m : Int)))
            else
              some false
          else
            some false).bind fun j189 =>
          if j189 then
            (chk (decide ((List.length cuts : Int) ≠ 0))).bind fun _ =>
            (ixL cuts (irem (i : Int) (List.length cuts : Int))).bind fun x191 =>
            some x191
          else
            some (m : Int)) = some (s : Int) := by
  by_cases h0 : 0 < cuts.length
  · rw [if_pos (decide_eq_true (by omega)), chk_ok (show decide ((List.length cuts : Int) ≠ 0) = true from decide_eq_true (by omega)), irem_eq (by omega), show (i : Int) % (cuts.length : Int) = ((i % cuts.length : Nat) : Int) from (Int.natCast_emod i cuts.length).symm, ixL_in (Nat.mod_lt _ h0)]
    simp only [Option.bind_some]
    generalize cuts[i % cuts.length]'(Nat.mod_lt _ h0) = v
    by_cases h1 : 0 < v
    · rw [if_pos (decide_eq_true h1)]
      simp only [Option.bind_some]
      by_cases h2 : v < (m : Int)
      · rw [if_pos (decide_eq_true h2)]
        exact ⟨v.toNat, by omega, by omega, by congr 1; omega⟩
      · rw [if_neg (by simpa using h2)]
        exact ⟨m, hm, Nat.le_refl _, rfl⟩
    · rw [if_neg (by simpa using h1)]
      exact ⟨m, hm, Nat.le_refl _, rfl⟩
  · rw [if_neg (fun e => h0 (by have := of_decide_eq_true e; omega))]
    exact ⟨m, hm, Nat.le_refl _, rfl⟩
theorem back_loop (j : List UInt8 × List UInt8) (r beh : List UInt8) (cuts : List Int) (hc : cuts.length ≤ 140737488351232) (hW : ((j.2 ++ r) ++ beh).length ≤ 140737488400000) (cend : Cst) (hend : stopS cend = true) (all : List UInt8) (hall : all.length ≤ 8192) :
    ∀ (k a i : Nat) (c : Cst) (out rest : List UInt8), a ≤ (j.2 ++ r).length → i ≤ a → ((j.2 ++ r) ++ beh).length - a < k → runS ((j.2 ++ r).drop a) c = some ((j.2 ++ r).length - a, cend, rest) → out ++ rest = all →
      law07_ChunkBack_L166 j r beh cuts k (a : Int) (i : Int) c.2.2.2.2.1 c.2.2.2.2.2.1 c.2.2.2.2.2.2 c.1 c.2.1 c.2.2.1 c.2.2.2.1 out =
        some (((j.2 ++ r).length : Int), cend.2.2.2.2.1, cend.2.2.2.2.2.1, cend.2.2.2.2.2.2, cend.1, cend.2.1, cend.2.2.1, cend.2.2.2.1, all)
  | 0, _, _, _, _, _, _, _, hk, _, _ => by omega
  | k + 1, a, i, c, out, rest, ha, hi, hk, hr, ho => by
    simp only [law07_ChunkBack_L166]
    generalize hR : j.2 ++ r = R at *
    have hRl : R.length ≤ (R ++ beh).length := by simp
    by_cases hlt : a < (R ++ beh).length
    · rw [if_pos (decide_eq_true (by omega)), isub64 (by omega) (by omega), show (((R ++ beh).length : Nat) : Int) - (a : Int) = (((R ++ beh).length - a : Nat) : Int) by omega]
      obtain ⟨s, s1, s2, s3⟩ := cut_size cuts hc i ((R ++ beh).length - a) (by omega) (by omega)
      rw [s3]
      simp only [Option.bind_some]
      rw [iadd64 (by omega) (by omega), show (a : Int) + (s : Int) = ((a + s : Nat) : Int) by omega, slL_nat (by omega) (by omega)]
      simp only [Option.bind_some]
      rw [take_eq (by simp; omega) c []]
      have hlen := congrArg List.length ho
      rw [List.length_append] at hlen
      by_cases hs : a + s ≤ R.length
      · -- a piece of what is to be taken
        have e1 : ((R ++ beh).take (a + s)).drop a = (R.drop a).take s := by
          rw [List.take_append_of_le_length hs, List.drop_take, Nat.add_sub_cancel_left]
        have e2 : R.drop a = (R.drop a).take s ++ R.drop (a + s) := by rw [← List.drop_drop, List.take_append_drop]
        have hpl : ((R.drop a).take s).length = s := by simp; omega
        rw [e2] at hr
        have hr2 : runS ((R.drop a).take s ++ R.drop (a + s)) c = some (((R.drop a).take s ++ R.drop (a + s)).length, cend, rest) := by
          rw [hr, ← e2]; simp
        obtain ⟨c1, o1, o2, g1, g2, g3⟩ := run_split hr2
        rw [e1, g1, hpl]
        simp only [Option.map_some, Option.bind_some]
        have hl2 := congrArg List.length g3
        rw [List.length_append] at hl2
        rw [szC_ok (by simp; omega)]
        simp only [Option.bind_some]
        rw [if_neg (by simp), show iadd .i64 (i : Int) 1 = ((i + 1 : Nat) : Int) by rw [iadd64 (by omega) (by omega)]; omega, show iadd .i64 (a : Int) (s : Int) = ((a + s : Nat) : Int) by rw [iadd64 (by omega) (by omega)]; omega]
        subst hR
        exact back_loop j r beh cuts hc hW cend hend all hall k (a + s) (i + 1) c1 (out ++ o1) o2 hs (by omega) (by omega) (by rw [g2]; simp) (by rw [← ho, g3, List.append_assoc])
      · -- the end lies in it
        have e1 : ((R ++ beh).take (a + s)).drop a = R.drop a ++ beh.take (a + s - R.length) := by
          rw [List.take_append, List.take_of_length_le (by omega), List.drop_append_of_le_length ha]
        have g := run_app (u := R.drop a) (v := beh.take (a + s - R.length)) (c1 := cend) (o1 := rest) (by rw [hr]; simp) (run_stop hend _)
        rw [e1, g]
        simp only [Option.map_some, Option.bind_some, List.append_nil]
        rw [szC_ok (by simp; omega)]
        simp only [Option.bind_some, Nat.add_zero]
        rw [if_pos (by simp; omega), ho, iadd64 (by simp; omega) (by simp; omega)]
        simp only [List.length_drop, Option.some.injEq, Prod.mk.injEq, and_true]
        omega
    · rw [if_neg (fun e => hlt (by have := of_decide_eq_true e; omega))]
      have ea : a = R.length := by omega
      subst ea
      rw [List.drop_length] at hr
      simp only [runS, Option.some.injEq, Prod.mk.injEq] at hr
      obtain ⟨_, rfl, rfl⟩ := hr
      rw [List.append_nil] at ho
      rw [ho]
theorem law_ChunkBack_all (ps : List (List UInt8)) (cuts : List Int) (beh : List UInt8) (_h1 : ∀ x ∈ ps, ∀ y ∈ x, True) (_h2 : ∀ x ∈ cuts, inR .i64 x) (_h3 : ∀ x ∈ beh, True)
    (hb1 : ps.length * 24 ≤ 140737488351232 ∧ ∀ x ∈ ps, x.length * 1 ≤ 140737488351232 ∧ ∀ y ∈ x, True) (hb2 : cuts.length * 8 ≤ 140737488351232 ∧ ∀ x ∈ cuts, True) (hb3 : beh.length * 1 ≤ 140737488351232 ∧ ∀ x ∈ beh, True) : law07_ChunkBack ps cuts beh = some true := by
  have hp : ps.length ≤ 140737488351232 := by have := hb1.1; omega
  have hcu : cuts.length ≤ 140737488351232 := by have := hb2.1; omega
  have hbe : beh.length ≤ 140737488351232 := by have := hb3.1; omega
  have hpe : ∀ p ∈ ps, p.length ≤ 140737488351232 := fun p h => by have := (hb1.2 p h).1; omega
  unfold law07_ChunkBack
  rw [shown07]
  simp only [Option.bind_some]
  obtain ⟨all, wire, e1, e2, e3, e4⟩ := pieces_loop ps hp hpe 141836999983104 0 [] [] (by omega) (by omega) (by omega) (by simp) (by simp) rfl
  rw [show ((0 : Nat) : Int) = 0 from rfl] at e1
  rw [e1, last_eq]
  simp only [Option.bind_some]
  have hl5 : lastT.length = 5 := rfl
  rw [szC_ok (by rw [List.length_append, hl5]; omega), szC_ok (by rw [List.length_append, List.length_append, hl5]; omega)]
  simp only [Option.bind_some]
  show (law07_ChunkBack_L166 (all, wire) lastT beh cuts 141836999983104 0 0 0 false 0 0 false 0 [] []).bind _ = _
  have hrun := run_app e4 (last_run e2)
  have hb2 := back_loop (all, wire) lastT beh cuts hcu (by rw [List.length_append, List.length_append, hl5]; dsimp only; omega) (0, true, 0, [], (all.length : Int), true, 0) rfl all e2 141836999983104 0 0 (idl 0) [] all (by omega) (by omega) (by rw [List.length_append, List.length_append, hl5]; dsimp only; omega)
    (by rw [List.drop_zero, hrun]; simp [hl5]) rfl
  have hb2 : law07_ChunkBack_L166 (all, wire) lastT beh cuts 141836999983104 0 0 0 false 0 0 false 0 [] [] = _ := hb2
  rw [hb2]
  simp only [Option.bind_some, decide_true, if_true]
  rfl
end Go.Proofs.YtfhlehkgiamejaaGreatDoor
