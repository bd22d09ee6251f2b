/- Functions of the program, and pure ones that go the same ways: that the program's return what these compute. -/
import Derived.Test.YtecpgelhhbbjmaaDoorLibR
import Derived.Test.YtecpgelhhbbjmaaDoorAvPj
namespace Go.Proofs.YtecpgelhhbbjmaaDoor
open Go.Av
set_option linter.unusedVariables false
set_option linter.unusedSimpArgs false
/-- strings.shouldUseASCIISet -/
def strings_shouldUseASCIISet (bufLen1 : Int) : Option (Bool) :=
  some (decide (8 < bufLen1))
set_option maxRecDepth 100000 in
set_option maxHeartbeats 40000000 in
theorem strings_shouldUseASCIISet_ok {bufLen1 : Int} {r : Bool} (hP : strings_shouldUseASCIISet bufLen1 = some r) : CallOK Tryd.prog 60 [.int .i64 bufLen1] (.bool r) [] := by
  unfold strings_shouldUseASCIISet at hP
  refine co 5 [.tmp 2] Tryd.func60 ?_
  refine J_seq ?_
  refine J_region (by kernel_rfl) ?_
  (try simp only [go_sem, Nat.reduceEqDiff, ↓reduceIte])
  refine hold2 (then_n ?_)
  refine J_seq ?_
  refine J_region (by kernel_rfl) ?_
  (try simp only [go_sem, Nat.reduceEqDiff, ↓reduceIte])
  refine hold2 (then_n ?_)
  refine J_ret (fin_ret ?_)
  obtain rfl := Option.some.inj hP
  (try simp only [go_sem, Nat.reduceEqDiff, ↓reduceIte])
  exact fo []
/-- strings.IndexAny -/
def strings_IndexAny_L16 (s1 : List UInt8) (chars2 : List UInt8) : Nat → Nat → Option (Sum (Int) (Unit))
  | 0, _ => none
  | k15 + 1, l14 =>
    if decide (l14 < List.length s1) then
      (iruneX chars2 (((decR s1 l14).1 : Nat) : Int)).bind fun r17 =>
      if decide (0 ≤ r17) then
        some (Sum.inl ((l14 : Nat) : Int))
      else
        strings_IndexAny_L16 s1 chars2 k15 (l14 + (decR s1 l14).2)
    else
      some (Sum.inr ())
def strings_IndexAny (s1 : List UInt8) (chars2 : List UInt8) : Option (Int) :=
  if decide (chars2 = []) then
    some (-1)
  else
    if decide ((List.length chars2 : Int) = 1) then
      (ixL chars2 0).bind fun c3 =>
      (show Option (Int) from
        if decide (128 ≤ b2i c3) then
          some 65533
        else
          some (b2i c3)).bind fun j5 =>
        (iruneX s1 j5).bind fun r6 =>
        some r6
    else
      (show Option (Unit) from
        (strings_shouldUseASCIISet (List.length s1 : Int)).bind fun r9 =>
        if r9 then
          none
        else
          some ()).bind fun j10 =>
        (strings_IndexAny_L16 s1 chars2 140737488355328 0).bind fun o18 => match o18 with
        | Sum.inl r => some r
        | Sum.inr j19 =>
          some (-1)
set_option maxRecDepth 100000 in
set_option maxHeartbeats 40000000 in
theorem strings_IndexAny_ok {s1 : List UInt8} {chars2 : List UInt8} {r : Int} (hP : strings_IndexAny s1 chars2 = some r) : CallOK Tryd.prog 31 [.str s1, .str chars2] (.int .i64 r) [] := by
  unfold strings_IndexAny at hP
  refine co 55 [.tmp 4] Tryd.func31 ?_
  refine J_seq ?_
  refine J_region (by kernel_rfl) ?_
  (try simp only [go_sem, Nat.reduceEqDiff, ↓reduceIte])
  refine hold2 (then_n ?_)
  refine J_seq ?_
  refine J_seq ?_
  refine J_region (by kernel_rfl) ?_
  (try simp only [go_sem, Nat.reduceEqDiff, ↓reduceIte])
  refine hold2 (then_n ?_)
  refine J_condV rfl ?_
  (try simp only [go_sem, Nat.reduceEqDiff, ↓reduceIte])
  rcases ite_cases hP with ⟨hc, hP⟩ | ⟨hc, hP⟩
  · refine condV_t hc ?_
    refine J_seq ?_
    refine J_region (by kernel_rfl) ?_
    (try simp only [go_sem, Nat.reduceEqDiff, ↓reduceIte])
    refine hold2 (then_n ?_)
    refine J_ret (then_ret (fin_ret ?_))
    obtain rfl := Option.some.inj hP
    (try simp only [go_sem, Nat.reduceEqDiff, ↓reduceIte])
    exact fo []
  · refine condV_f hc ?_
    refine J_skip (then_n ?_)
    refine J_seq ?_
    refine J_seq ?_
    refine J_region (by kernel_rfl) ?_
    (try simp only [go_sem, Nat.reduceEqDiff, ↓reduceIte])
    refine hold2 (then_n ?_)
    refine J_condV rfl ?_
    (try simp only [go_sem, Nat.reduceEqDiff, ↓reduceIte])
    rcases ite_cases hP with ⟨hc, hP⟩ | ⟨hc, hP⟩
    · refine condV_t hc ?_
      refine J_seq ?_
      refine J_region (by kernel_rfl) ?_
      (try simp only [go_sem, Nat.reduceEqDiff, ↓reduceIte])
      obtain ⟨c3, hc3, hP⟩ := bind_cases hP
      refine ixS_of hc3 ?_
      (try simp only [go_sem, Nat.reduceEqDiff, ↓reduceIte])
      refine hold2 (then_n ?_)
      obtain ⟨o4, hP, hQ4⟩ := bind_cases hP
      refine J_join (fun (s : Int) => envL [(0, .str s1), (5, .int .i32 s)]) (fun (s : Int) => []) (fun s => s = o4) ?_ ?_
      · clear hQ4
        refine J_seq ?_
        refine J_region (by kernel_rfl) ?_
        (try simp only [go_sem, Nat.reduceEqDiff, ↓reduceIte])
        refine hold2 (then_n ?_)
        refine J_condV rfl ?_
        (try simp only [go_sem, Nat.reduceEqDiff, ↓reduceIte])
        rcases ite_cases hP with ⟨hc, hP⟩ | ⟨hc, hP⟩
        · refine condV_t hc ?_
          refine J_region (by kernel_rfl) ?_
          (try simp only [go_sem, Nat.reduceEqDiff, ↓reduceIte])
          refine hold2 ?_
          exact join_n 65533 (Option.some.inj hP) (so [])
        · refine condV_f hc ?_
          refine J_skip ?_
          exact join_n (b2i c3) (Option.some.inj hP) (so [])
      · intro j5 hs
        subst hs
        have hP := hQ4
        clear hQ4
        refine J_seq ?_
        refine J_region (by kernel_rfl) ?_
        (try simp only [go_sem, Nat.reduceEqDiff, ↓reduceIte])
        obtain ⟨r6, hr6, hP⟩ := bind_cases hP
        refine call_ok [.str s1, .int .i32 j5] (iruneX_ok hr6) ⟨argR_m false rfl, argR_m false rfl, trivial⟩ ?_
        (try simp only [go_sem, Nat.reduceEqDiff, ↓reduceIte])
        refine hold2 (then_n ?_)
        refine J_ret (then_ret (fin_ret ?_))
        obtain rfl := Option.some.inj hP
        (try simp only [go_sem, Nat.reduceEqDiff, ↓reduceIte])
        exact fo []
    · refine condV_f hc ?_
      refine J_skip (then_n ?_)
      obtain ⟨o8, hP, hQ8⟩ := bind_cases hP
      refine J_join (fun (s : Unit) => envL [(0, .str s1), (1, .str chars2)]) (fun (s : Unit) => []) (fun s => s = o8) ?_ ?_
      · clear hQ8
        refine J_seq ?_
        refine J_region (by kernel_rfl) ?_
        (try simp only [go_sem, Nat.reduceEqDiff, ↓reduceIte])
        obtain ⟨r9, hr9, hP⟩ := bind_cases hP
        refine call_ok [.int .i64 (List.length s1 : Int)] (strings_shouldUseASCIISet_ok hr9) ⟨argR_m false rfl, trivial⟩ ?_
        (try simp only [go_sem, Nat.reduceEqDiff, ↓reduceIte])
        refine hold2 (then_n ?_)
        refine J_condV rfl ?_
        (try simp only [go_sem, Nat.reduceEqDiff, ↓reduceIte])
        rcases ite_cases hP with ⟨hc, hP⟩ | ⟨hc, hP⟩
        · refine condV_t hc ?_
          refine J_seq ?_
          refine J_region (by kernel_rfl) ?_
          (try simp only [go_sem, Nat.reduceEqDiff, ↓reduceIte])
          cases hP
        · refine condV_f hc ?_
          refine J_skip ?_
          exact join_n () (Option.some.inj hP) (so [])
      · intro j10 hs
        subst hs
        have hP := hQ8
        clear hQ8
        refine J_seq ?_
        refine J_seq ?_
        refine J_region (by kernel_rfl) ?_
        (try simp only [go_sem, Nat.reduceEqDiff, ↓reduceIte])
        refine hold2 (then_n ?_)
        obtain ⟨o18, hP, hQ16⟩ := bind_cases hP
        refine J_joinK0 (fun (s : Unit) => envL []) (fun (s : Unit) => []) (fun s => Sum.inr s = o18) ?_ ?_
        · refine J_block ?_
          refine J_loop (σ := Nat × Nat) (fun (s : Nat × Nat) => envL [(1, .str chars2), (45, .bptr 0 0)]) (fun (s : Nat × Nat) => [.iter s1 s.2]) (fun s => strings_IndexAny_L16 s1 chars2 s.1 s.2 = some o18) (fun s => s.1) (140737488355328, 0) hP (so [0]) ?_
          rintro ⟨k15, l14⟩ hP
          dsimp only at hP ⊢
          cases k15 with
          | zero => simp [strings_IndexAny_L16] at hP
          | succ k15 =>
            simp only [strings_IndexAny_L16] at hP
            refine J_seq ?_
            refine J_region (by kernel_rfl) ?_
            (try simp only [go_sem, Nat.reduceEqDiff, ↓reduceIte])
            rcases ite_cases hP with ⟨hc, hP⟩ | ⟨hc, hP⟩
            · refine guard_is hc ?_
              (try simp only [go_sem, Nat.reduceEqDiff, ↓reduceIte])
              refine hold2 (then_n ?_)
              refine J_seq ?_
              refine J_condV rfl ?_
              (try simp only [go_sem, Nat.reduceEqDiff, ↓reduceIte])
              refine J_skip (then_n ?_)
              refine J_block ?_
              refine J_seq ?_
              refine J_region (by kernel_rfl) ?_
              (try simp only [go_sem, Nat.reduceEqDiff, ↓reduceIte])
              refine hold2 (then_n ?_)
              refine J_seq ?_
              refine J_region (by kernel_rfl) ?_
              (try simp only [go_sem, Nat.reduceEqDiff, ↓reduceIte])
              obtain ⟨r17, hr17, hP⟩ := bind_cases hP
              refine call_ok [.str chars2, .int .i32 (((decR s1 l14).1 : Nat) : Int)] (iruneX_ok hr17) ⟨argR_m false rfl, argR_m false rfl, trivial⟩ ?_
              (try simp only [go_sem, Nat.reduceEqDiff, ↓reduceIte])
              refine hold2 (then_n ?_)
              refine J_condV rfl ?_
              (try simp only [go_sem, Nat.reduceEqDiff, ↓reduceIte])
              rcases ite_cases hP with ⟨hc, hP⟩ | ⟨hc, hP⟩
              · refine condV_t hc ?_
                refine J_seq ?_
                refine J_region (by kernel_rfl) ?_
                (try simp only [go_sem, Nat.reduceEqDiff, ↓reduceIte])
                refine hold2 (then_n ?_)
                refine J_ret (block_ret (loop_ret (block_ret (join_ret (then_ret (fin_ret ?_))))))
                obtain rfl := Option.some.inj hP
                have hP := hQ16
                dsimp only at hP
                obtain rfl := Option.some.inj hP
                (try simp only [go_sem, Nat.reduceEqDiff, ↓reduceIte])
                exact fo []
              · refine condV_f hc ?_
                refine J_skip (block_n ?_)
                exact loop_n (k15, l14 + (decR s1 l14).2) hP (Nat.lt_succ_self _) (so [0])
            · refine guard_not hc ?_
              (try simp only [go_sem, Nat.reduceEqDiff, ↓reduceIte])
              refine hold2 (then_n ?_)
              refine J_seq ?_
              refine J_condV rfl ?_
              (try simp only [go_sem, Nat.reduceEqDiff, ↓reduceIte])
              refine J_exit (then_exit (loop_exit (block_eq ?_)))
              exact join_n () (Option.some.inj hP) (so [])
        · intro j19 hs
          subst hs
          have hP := hQ16
          dsimp only at hP
          clear hQ16
          refine then_n ?_
          refine J_seq ?_
          refine J_region (by kernel_rfl) ?_
          (try simp only [go_sem, Nat.reduceEqDiff, ↓reduceIte])
          refine hold2 (then_n ?_)
          refine J_ret (fin_ret ?_)
          obtain rfl := Option.some.inj hP
          (try simp only [go_sem, Nat.reduceEqDiff, ↓reduceIte])
          exact fo []
end Go.Proofs.YtecpgelhhbbjmaaDoor
