/- strings.Builder: its text ('String'), told in place: the builder is the object i, its buffer the object j. -/
import Derived.Test.YtecpgelhhbbjmaaDoorBld
import Derived.Lib.UnsafeStr
import Derived.Lib.Walk
import Derived.Laws.Externs
namespace Go.Proofs.YtecpgelhhbbjmaaDoor
open Go.Av Go.RowKit
set_option linter.unusedSimpArgs false
set_option linter.unusedVariables false
theorem strUS (W : World) (q : Option Addr) : (Builtin.unsafeString_ #[94, 3] 9 #[.pointer q, .int .i64 0]).run Tryd.prog W = .ok (.string .empty) W :=
  Lib.run_unsafeString_none W _ _ _ q
set_option maxHeartbeats 2000000 in
set_option maxRecDepth 100000 in
theorem str_nil (B b : Nat) (p : Value) (w : World) (hbk : w.heap[b]? = some (.cells #[p, .slice none 0 0] 64 (0, 0))) :
    Calls Tryd.prog 47 #[.pointer (some ⟨b, 0, none⟩)] w fun e w' => e = .returned (.string ⟨#[]⟩) ∧ Below B w w' := by
  have hUS := strUS
  have c1 : w.drew.cell? ⟨b, 1, none⟩ = some (.slice none 0 0) := by
    have : w.drew.heap[b]? = some (.cells #[p, .slice none 0 0] 64 (0, 0)) := hbk
    rw [Lib.cell_of_heap this]; rfl
  have hSD : (Builtin.unsafeSliceData_ #[22] 94 #[.slice none 0 0]).run Tryd.prog w.drew = .ok (.pointer none) w.drew := rfl
  go_enter Tryd.func47, Tryd.ntmps47
  go_wp2
  go_region
  all_goals (go_wp2; go_ret; exact ⟨rfl, Below.drew (Below.refl B w)⟩)
set_option maxHeartbeats 2000000 in
set_option maxRecDepth 100000 in
theorem str_noroom (B b g : Nat) (p : Value) (cur : Array Value) (fz : Nat × Nat) (w : World) (hBw : B ≤ w.heap.size) (hbk : w.heap[b]? = some (.cells #[p, .slice (some ⟨g, 0, none⟩) 0 0] 64 (0, 0))) (hg : w.heap[g]? = some (.cells cur 5 fz)) :
    Calls Tryd.prog 47 #[.pointer (some ⟨b, 0, none⟩)] w fun e w' => e = .returned (.string ⟨#[]⟩) ∧ Below B w w' := by
  have hUS := strUS
  have hlt : b < w.heap.size := by
    rcases Nat.lt_or_ge b w.heap.size with h' | h'
    · exact h'
    · simp [Array.getElem?_eq_none h'] at hbk
  have c1 : w.drew.cell? ⟨b, 1, none⟩ = some (.slice (some ⟨g, 0, none⟩) 0 0) := by
    have : w.drew.heap[b]? = some (.cells #[p, .slice (some ⟨g, 0, none⟩) 0 0] 64 (0, 0)) := hbk
    rw [Lib.cell_of_heap this]; rfl
  have hSD : (Builtin.unsafeSliceData_ #[22] 94 #[.slice (some ⟨g, 0, none⟩) 0 0]).run Tryd.prog w.drew = .ok (.pointer (some ⟨w.drew.heap.size, 0, none⟩)) (w.drew.alloc (.view ⟨g, 0, none⟩ 5)) :=
    Lib.run_unsafeSliceData_zero w.drew _ _ 5 (by kernel_rfl) ⟨g, 0, none⟩ 0 (5, cur.size) (by have hg' : w.drew.heap[g]? = some (.cells cur 5 fz) := hg; simp [World.shape?, hg'])
  have c2 : (w.drew.alloc (.view ⟨g, 0, none⟩ 5)).cell? ⟨b, 1, none⟩ = some (.slice (some ⟨g, 0, none⟩) 0 0) := by
    have : (w.drew.alloc (.view ⟨g, 0, none⟩ 5)).heap[b]? = _ := (Lib.alloc_old w.drew _ b hlt).trans hbk
    rw [Lib.cell_of_heap this]; rfl
  have c3 : (w.alloc (.view ⟨g, 0, none⟩ 5)).drew.cell? ⟨b, 1, none⟩ = some (.slice (some ⟨g, 0, none⟩) 0 0) := c2
  have c0 : w.cell? ⟨b, 1, none⟩ = some (.slice (some ⟨g, 0, none⟩) 0 0) := c1
  go_enter Tryd.func47, Tryd.ntmps47
  go_wp2
  go_region
  all_goals (go_wp2; go_ret; exact ⟨rfl, (Below.drew (Below.refl B w)).alloc hBw _⟩)
set_option maxHeartbeats 2000000 in
set_option maxRecDepth 100000 in
theorem str_room (B b g cap : Nat) (p : Value) (w : World) (hc0 : cap ≠ 0) (hbk : w.heap[b]? = some (.cells #[p, .slice (some ⟨g, 0, none⟩) 0 cap] 64 (0, 0))) :
    Calls Tryd.prog 47 #[.pointer (some ⟨b, 0, none⟩)] w fun e w' => e = .returned (.string ⟨#[]⟩) ∧ Below B w w' := by
  have hUS := strUS
  have c1 : w.drew.cell? ⟨b, 1, none⟩ = some (.slice (some ⟨g, 0, none⟩) 0 cap) := by
    have : w.drew.heap[b]? = some (.cells #[p, .slice (some ⟨g, 0, none⟩) 0 cap] 64 (0, 0)) := hbk
    rw [Lib.cell_of_heap this]; rfl
  have hSD : (Builtin.unsafeSliceData_ #[22] 94 #[.slice (some ⟨g, 0, none⟩) 0 cap]).run Tryd.prog w.drew = .ok (.pointer (some ⟨g, 0, none⟩)) w.drew :=
    Lib.run_unsafeSliceData_row _ _ _ _ _ _ hc0
  clear hc0
  go_enter Tryd.func47, Tryd.ntmps47
  go_wp2
  go_region
  all_goals (go_wp2; go_ret; exact ⟨rfl, Below.drew (Below.refl B w)⟩)
end Go.Proofs.YtecpgelhhbbjmaaDoor
namespace Go.Proofs.YtecpgelhhbbjmaaDoor
open Go.Av Go.RowKit
set_option linter.unusedSimpArgs false
set_option linter.unusedVariables false
set_option maxHeartbeats 4000000 in
/-- the text of a builder: its buffer is its own no more -/
theorem string_at {H : List AO} {i j v len : Nat} (bs : List UInt8) {c0 : AV} (hi : H[i]? = some (.box 64 [c0, .own j v 0 len])) (hj : H[j]? = some (.slice v 5 1 (bs.map encB))) (hl : len = bs.length) {E : Env} {K : AV → Env → List AO → Prop} (k : K (.str bs) E (H.set j .gone)) :
    CallIn Tryd.prog 47 [.bptr i 0] H E K := by
  subst hl
  rcases bs with _ | ⟨b0, bs⟩
  · have done : ∀ (B : Nat) (X : Nat → Prop) (w0 w : World) (φ : Nat → Value) (g : Nat → Value), St B X w0 w φ H → (∀ t, R w φ H (E t) (g t)) → ∀ e w', (e = Ending.returned (.string ⟨#[]⟩) ∧ Below w.heap.size w w') →
        ∃ v ret E' H' φ', e = .returned v ∧ K ret E' H' ∧ St B X w0 w' φ' H' ∧ R w' φ' H' ret v ∧ ∀ t, R w' φ' H' (E' t) (g t) := fun B X w0 w φ g st hE e w' ⟨he, hb⟩ => by
      have hg : Gr w w' := ⟨hb.os, hb.tape, hb.output, hb.size, fun k hk _ => hb.block k hk⟩
      obtain ⟨st1, le1⟩ := st.ext hg
      obtain ⟨st2, le2⟩ := st1.kill hj rfl
      exact ⟨_, _, E, _, _, he, k, st2, .str [], fun t => ((hE t).le le1).le le2⟩
    refine ⟨⟨_, Tryd.func47, rfl, by decide⟩, fun B X w0 w φ vals g st hsz hargs hE => ?_⟩
    obtain ⟨v0, rfl⟩ : ∃ v0, vals = #[v0] := Array.size_eq_one_iff.1 hsz
    have r0 := hargs 0 _ v0 rfl rfl
    obtain ⟨gb, arr, c1, c2, c3, c4⟩ := st.chunk i _ hi
    cases r0 with
    | bptr _ _ _ hid ho hh =>
      obtain ⟨g2, e1, rfl⟩ := hh _ hi rfl
      rw [c1] at e1
      simp at e1
      subst e1
      obtain ⟨p, u, harr⟩ : ∃ p u, arr = #[p, u] := by
        obtain ⟨l⟩ := arr
        match l, c3 with
        | [p, u], _ => exact ⟨p, u, rfl⟩
      subst harr
      have hu := (c4 1 _ u rfl rfl).1
      obtain ⟨cs, o1, _⟩ := st.chunk j _ hj
      cases hu with
      | own _ _ _ _ _ _ _ _ hown =>
        obtain ⟨_, h3⟩ := hown _ _ _ hj
        rcases h3 with ⟨f1, rfl, _⟩ | ⟨g3, cap, f1, _, ad, rfl, _, f4⟩
        · exact (str_nil w.heap.size gb p w c2).mono fun e w' h => done B X w0 w φ g st hE e w' h
        · have hads := f4 rfl
          subst hads
          simp only [Nat.sub_zero, List.length_nil] at c2
          by_cases hc0 : cap = 0
          · subst hc0
            rcases o1.2.2 with ⟨q, _⟩ | ⟨g4, cap4, cur, fz, q, hg4, _⟩
            · rw [f1] at q; simp at q
            · rw [f1] at q
              simp at q
              obtain ⟨rfl, _⟩ := q
              exact (str_noroom w.heap.size gb _ p cur fz w (Nat.le_refl _) c2 hg4).mono fun e w' h => done B X w0 w φ g st hE e w' h
          · exact (str_room w.heap.size gb _ cap p w hc0 c2).mono fun e w' h => done B X w0 w φ g st hE e w' h
  · have hl : 0 < (b0 :: bs).length := by simp
    generalize b0 :: bs = l at *
    refine callI_of (n := 14) (rs := [.tmp 2]) Tryd.func47 rfl (by decide) rfl rfl (by simp) rfl ?_; refine J_seq ?_
    refine J_region (by kernel_rfl) ?_
    simp only [go_sem, Nat.reduceEqDiff, ↓reduceIte, Nat.reduceAdd, Nat.reduceSub, Nat.reduceLT, Nat.reduceMul, reduceCtorEq, Int.reduceToNat, Int.reduceLE, Int.reduceLT, Nat.reduceLeDiff]
    refine hold2 ?_
    refine then_n ?_
    refine J_seq ?_
    refine J_regiont 10 follows_mixed (by kernel_rfl) (by kernel_rfl) (by kernel_rfl) ?_
    simp only [go_sem, Nat.reduceEqDiff, ↓reduceIte, Nat.reduceAdd, Nat.reduceSub, Nat.reduceLT, Nat.reduceMul, reduceCtorEq, Int.reduceToNat, Int.reduceLE, Int.reduceLT, Nat.reduceLeDiff, hi, hj]
    refine ⟨hl, by omega, by omega, bytesK_of l (by rw [Int.toNat_natCast, take_map_len]) ?_⟩
    simp only [go_sem, Nat.reduceEqDiff, ↓reduceIte, Nat.reduceAdd, Nat.reduceSub, Nat.reduceLT, Nat.reduceMul, reduceCtorEq, Int.reduceToNat, Int.reduceLE, Int.reduceLT, Nat.reduceLeDiff]
    repeat (first | (with_reducible refine hold2 ?_) | (with_reducible refine J_seq ?_) | (with_reducible refine J_block ?_) | (with_reducible refine then_n ?_) | (with_reducible refine then_ret ?_) | (with_reducible refine then_exit ?_) | (with_reducible refine block_n ?_) | (with_reducible refine block_ret ?_) | (with_reducible refine block_eq ?_) | (with_reducible refine block_ne (by decide) ?_) | (with_reducible refine J_ret ?_) | (with_reducible refine J_exit ?_) | (with_reducible refine J_skip ?_) | (with_reducible refine fin_ret ?_) | (with_reducible refine fin_n ?_) | (with_reducible refine finI_ret ?_) | (with_reducible refine finI_n ?_) | (with_reducible refine finIn_ret ?_) | (with_reducible refine finIn_n ?_) | ((with_reducible refine J_region (by kernel_rfl) ?_); (try simp only [go_sem, Nat.reduceEqDiff, ↓reduceIte, Nat.reduceAdd, Nat.reduceSub, Nat.reduceLT, Nat.reduceMul, reduceCtorEq, Int.reduceToNat, Int.reduceLE, Int.reduceLT, Nat.reduceLeDiff])) | ((with_reducible refine J_condV rfl ?_); (try simp only [go_sem, Nat.reduceEqDiff, ↓reduceIte, Nat.reduceAdd, Nat.reduceSub, Nat.reduceLT, Nat.reduceMul, reduceCtorEq, Int.reduceToNat, Int.reduceLE, Int.reduceLT, Nat.reduceLeDiff])))
    (try simp only [go_sem, Nat.reduceEqDiff, ↓reduceIte, Nat.reduceAdd, Nat.reduceSub, Nat.reduceLT, Nat.reduceMul, reduceCtorEq, Int.reduceToNat, Int.reduceLE, Int.reduceLT, Nat.reduceLeDiff])
    exact k
end Go.Proofs.YtecpgelhhbbjmaaDoor
