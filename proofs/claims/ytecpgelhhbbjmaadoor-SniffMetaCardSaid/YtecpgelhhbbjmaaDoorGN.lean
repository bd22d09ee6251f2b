/- Functions of the program, and pure ones that go the same ways: that the program's return what these compute. -/
import Derived.Test.YtecpgelhhbbjmaaDoorLibL
import Derived.Test.YtecpgelhhbbjmaaDoorAvPj
namespace Go.Proofs.YtecpgelhhbbjmaaDoor
open Go.Av
set_option linter.unusedVariables false
set_option linter.unusedSimpArgs false
/-- strings.IndexRune -/
def strings_IndexRune_L8 (s1 : List UInt8) : Nat → Nat → Option (Sum (Int) (Unit))
  | 0, _ => none
  | k8 + 1, l7 =>
    if decide (l7 < List.length s1) then
      if decide ((((decR s1 l7).1 : Nat) : Int) = 65533) then
        some (Sum.inl ((l7 : Nat) : Int))
      else
        strings_IndexRune_L8 s1 k8 (l7 + (decR s1 l7).2)
    else
      some (Sum.inr ())
def strings_IndexRune (s1 : List UInt8) (r2 : Int) : Option (Int) :=
  (show Option (Bool) from
    if decide (0 ≤ r2) then
      some (decide (r2 < 128))
    else
      some false).bind fun j4 =>
    if j4 then
      (indexByteX s1 (toB r2)).bind fun r5 =>
      some r5
    else
      if decide (r2 = 65533) then
        (strings_IndexRune_L8 s1 140737488355328 0).bind fun o9 => match o9 with
        | Sum.inl r => some r
        | Sum.inr j10 =>
          some (-1)
      else
        none
set_option maxRecDepth 100000 in
set_option maxHeartbeats 40000000 in
theorem strings_IndexRune_ok {s1 : List UInt8} {r2 : Int} {r : Int} (hP : strings_IndexRune s1 r2 = some r) : CallOK Tryd.prog 59 [.str s1, .int .i32 r2] (.int .i64 r) [] := by
  unfold strings_IndexRune at hP
  refine co 187 [.tmp 4] Tryd.func59 ?_
  refine J_seq ?_
  refine J_region (by kernel_rfl) ?_
  (try simp only [go_sem, Nat.reduceEqDiff, ↓reduceIte])
  refine hold2 (then_n ?_)
  refine J_block ?_
  obtain ⟨o3, hP, hQ3⟩ := bind_cases hP
  refine J_join (fun (s : Bool) => envL [(0, .str s1), (1, .int .i32 r2), (160, .bool s)]) (fun (s : Bool) => []) (fun s => s = o3) ?_ ?_
  · clear hQ3
    refine J_region (by kernel_rfl) ?_
    (try simp only [go_sem, Nat.reduceEqDiff, ↓reduceIte])
    rcases ite_cases hP with ⟨hc, hP⟩ | ⟨hc, hP⟩
    · refine guard_is hc ?_
      (try simp only [go_sem, Nat.reduceEqDiff, ↓reduceIte])
      refine hold2 ?_
      exact join_n (decide (r2 < 128)) (Option.some.inj hP) (so [])
    · refine guard_not hc ?_
      (try simp only [go_sem, Nat.reduceEqDiff, ↓reduceIte])
      refine hold2 ?_
      exact join_n false (Option.some.inj hP) (so [])
  · intro j4 hs
    subst hs
    have hP := hQ3
    clear hQ3
    refine J_condV rfl ?_
    (try simp only [go_sem, Nat.reduceEqDiff, ↓reduceIte])
    rcases ite_cases hP with ⟨hc, hP⟩ | ⟨hc, hP⟩
    · refine condV_t hc ?_
      refine J_seq ?_
      refine J_region (by kernel_rfl) ?_
      (try simp only [go_sem, Nat.reduceEqDiff, ↓reduceIte])
      obtain ⟨r5, hr5, hP⟩ := bind_cases hP
      refine call_ok [.str s1, .int .u8 (b2i (toB r2))] (indexByteX_ok hr5) ⟨argR_m false rfl, argR_m false rfl, trivial⟩ ?_
      (try simp only [go_sem, Nat.reduceEqDiff, ↓reduceIte])
      refine hold2 (then_n ?_)
      refine J_ret (block_ret (fin_ret ?_))
      obtain rfl := Option.some.inj hP
      (try simp only [go_sem, Nat.reduceEqDiff, ↓reduceIte])
      exact fo []
    · refine condV_f hc ?_
      refine J_seq ?_
      refine J_region (by kernel_rfl) ?_
      (try simp only [go_sem, Nat.reduceEqDiff, ↓reduceIte])
      refine hold2 (then_n ?_)
      refine J_condV rfl ?_
      (try simp only [go_sem, Nat.reduceEqDiff, ↓reduceIte])
      rcases ite_cases hP with ⟨hc, hP⟩ | ⟨hc, hP⟩
      · refine condV_t hc ?_
        refine J_seq ?_
        refine J_seq ?_
        refine J_region (by kernel_rfl) ?_
        (try simp only [go_sem, Nat.reduceEqDiff, ↓reduceIte])
        refine hold2 (then_n ?_)
        obtain ⟨o9, hP, hQ8⟩ := bind_cases hP
        refine J_joinK0 (fun (s : Unit) => envL []) (fun (s : Unit) => []) (fun s => Sum.inr s = o9) ?_ ?_
        · refine J_block ?_
          refine J_loop (σ := Nat × Nat) (fun (s : Nat × Nat) => envL [(175, .bptr 0 0)]) (fun (s : Nat × Nat) => [.iter s1 s.2]) (fun s => strings_IndexRune_L8 s1 s.1 s.2 = some o9) (fun s => s.1) (140737488355328, 0) hP (so [0]) ?_
          rintro ⟨k8, l7⟩ hP
          dsimp only at hP ⊢
          cases k8 with
          | zero => simp [strings_IndexRune_L8] at hP
          | succ k8 =>
            simp only [strings_IndexRune_L8] at hP
            refine J_seq ?_
            refine J_region (by kernel_rfl) ?_
            (try simp only [go_sem, Nat.reduceEqDiff, ↓reduceIte])
            rcases ite_cases hP with ⟨hc, hP⟩ | ⟨hc, hP⟩
            · refine guard_is hc ?_
              (try simp only [go_sem, Nat.reduceEqDiff, ↓reduceIte])
              refine hold2 (then_n ?_)
              refine J_seq ?_
              refine J_condV rfl ?_
              (try simp only [go_sem, Nat.reduceEqDiff, ↓reduceIte])
              refine J_skip (then_n ?_)
              refine J_block ?_
              refine J_seq ?_
              refine J_region (by kernel_rfl) ?_
              (try simp only [go_sem, Nat.reduceEqDiff, ↓reduceIte])
              refine hold2 (then_n ?_)
              refine J_seq ?_
              refine J_region (by kernel_rfl) ?_
              (try simp only [go_sem, Nat.reduceEqDiff, ↓reduceIte])
              refine hold2 (then_n ?_)
              refine J_condV rfl ?_
              (try simp only [go_sem, Nat.reduceEqDiff, ↓reduceIte])
              rcases ite_cases hP with ⟨hc, hP⟩ | ⟨hc, hP⟩
              · refine condV_t hc ?_
                refine J_seq ?_
                refine J_region (by kernel_rfl) ?_
                (try simp only [go_sem, Nat.reduceEqDiff, ↓reduceIte])
                refine hold2 (then_n ?_)
                refine J_ret (block_ret (loop_ret (block_ret (join_ret (then_ret (block_ret (fin_ret ?_)))))))
                obtain rfl := Option.some.inj hP
                have hP := hQ8
                dsimp only at hP
                obtain rfl := Option.some.inj hP
                (try simp only [go_sem, Nat.reduceEqDiff, ↓reduceIte])
                exact fo []
              · refine condV_f hc ?_
                refine J_skip (block_n ?_)
                exact loop_n (k8, l7 + (decR s1 l7).2) hP (Nat.lt_succ_self _) (so [0])
            · refine guard_not hc ?_
              (try simp only [go_sem, Nat.reduceEqDiff, ↓reduceIte])
              refine hold2 (then_n ?_)
              refine J_seq ?_
              refine J_condV rfl ?_
              (try simp only [go_sem, Nat.reduceEqDiff, ↓reduceIte])
              refine J_exit (then_exit (loop_exit (block_eq ?_)))
              exact join_n () (Option.some.inj hP) (so [])
        · intro j10 hs
          subst hs
          have hP := hQ8
          dsimp only at hP
          clear hQ8
          refine then_n ?_
          refine J_seq ?_
          refine J_region (by kernel_rfl) ?_
          (try simp only [go_sem, Nat.reduceEqDiff, ↓reduceIte])
          refine hold2 (then_n ?_)
          refine J_ret (block_ret (fin_ret ?_))
          obtain rfl := Option.some.inj hP
          (try simp only [go_sem, Nat.reduceEqDiff, ↓reduceIte])
          exact fo []
      · refine condV_f hc ?_
        refine J_seq ?_
        refine J_region (by kernel_rfl) ?_
        (try simp only [go_sem, Nat.reduceEqDiff, ↓reduceIte])
        cases hP
end Go.Proofs.YtecpgelhhbbjmaaDoor
