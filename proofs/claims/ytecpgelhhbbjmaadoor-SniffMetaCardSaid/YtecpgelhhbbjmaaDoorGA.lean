/- Functions of the program, and pure ones that go the same ways: that the program's return what these compute. -/
import Derived.Test.YtecpgelhhbbjmaaDoorBls
import Derived.Test.YtecpgelhhbbjmaaDoorAvPj
namespace Go.Proofs.YtecpgelhhbbjmaaDoor
open Go.Av
set_option linter.unusedVariables false
set_option linter.unusedSimpArgs false
/-- colander/colanderref08.size -/
def ref08_size (c1 : UInt8) : Option (Int × Int) :=
  if decide (b2i c1 < b2i (bC 128)) then
    some (1, b2i c1)
  else
    (show Option (Bool) from
      if decide (b2i (bC 192) ≤ b2i c1) then
        some (decide (b2i c1 < b2i (bC 224)))
      else
        some false).bind fun j3 =>
      if j3 then
        some (2, isub .i64 (b2i c1) 192)
      else
        (show Option (Bool) from
          if decide (b2i (bC 224) ≤ b2i c1) then
            some (decide (b2i c1 < b2i (bC 240)))
          else
            some false).bind fun j5 =>
          if j5 then
            some (3, isub .i64 (b2i c1) 224)
          else
            (show Option (Bool) from
              if decide (b2i (bC 240) ≤ b2i c1) then
                some (decide (b2i c1 < b2i (bC 248)))
              else
                some false).bind fun j7 =>
              if j7 then
                some (4, isub .i64 (b2i c1) 240)
              else
                some (0, 0)
set_option maxRecDepth 100000 in
set_option maxHeartbeats 40000000 in
theorem ref08_size_ok {c1 : UInt8} {r : Int × Int} (hP : ref08_size c1 = some r) : CallOK Tryd.prog 100 [.int .u8 (b2i c1)] (.tup [.int .i64 r.1, .int .i64 r.2]) [] := by
  unfold ref08_size at hP
  refine co 39 [.tmp 2, .tmp 3] Tryd.func100 ?_
  refine J_seq ?_
  refine J_region (by kernel_rfl) ?_
  (try simp only [go_sem, Nat.reduceEqDiff, ↓reduceIte])
  refine hold2 (then_n ?_)
  refine J_seq ?_
  refine J_block ?_
  refine J_seq ?_
  refine J_region (by kernel_rfl) ?_
  (try simp only [go_sem, Nat.reduceEqDiff, ↓reduceIte])
  refine hold2 (then_n ?_)
  refine J_condV rfl ?_
  (try simp only [go_sem, Nat.reduceEqDiff, ↓reduceIte])
  rcases ite_cases hP with ⟨hc, hP⟩ | ⟨hc, hP⟩
  · refine condV_t hc ?_
    refine J_seq ?_
    refine J_region (by kernel_rfl) ?_
    (try simp only [go_sem, Nat.reduceEqDiff, ↓reduceIte])
    refine hold2 (then_n ?_)
    refine J_ret (block_ret (then_ret (fin_ret ?_)))
    obtain rfl := Option.some.inj hP
    (try simp only [go_sem, Nat.reduceEqDiff, ↓reduceIte])
    exact fo []
  · refine condV_f hc ?_
    obtain ⟨o2, hP, hQ2⟩ := bind_cases hP
    refine J_join (fun (s : Bool) => envL [(0, .int .u8 (b2i c1)), (9, .bool s)]) (fun (s : Bool) => []) (fun s => s = o2) ?_ ?_
    · clear hQ2
      refine J_region (by kernel_rfl) ?_
      (try simp only [go_sem, Nat.reduceEqDiff, ↓reduceIte])
      rcases ite_cases hP with ⟨hc, hP⟩ | ⟨hc, hP⟩
      · refine guard_is hc ?_
        (try simp only [go_sem, Nat.reduceEqDiff, ↓reduceIte])
        refine hold2 ?_
        exact join_n (decide (b2i c1 < b2i (bC 224))) (Option.some.inj hP) (so [])
      · refine guard_not hc ?_
        (try simp only [go_sem, Nat.reduceEqDiff, ↓reduceIte])
        refine hold2 ?_
        exact join_n false (Option.some.inj hP) (so [])
    · intro j3 hs
      subst hs
      have hP := hQ2
      clear hQ2
      refine J_condV rfl ?_
      (try simp only [go_sem, Nat.reduceEqDiff, ↓reduceIte])
      rcases ite_cases hP with ⟨hc, hP⟩ | ⟨hc, hP⟩
      · refine condV_t hc ?_
        refine J_seq ?_
        refine J_region (by kernel_rfl) ?_
        (try simp only [go_sem, Nat.reduceEqDiff, ↓reduceIte])
        refine hold2 (then_n ?_)
        refine J_ret (block_ret (then_ret (fin_ret ?_)))
        obtain rfl := Option.some.inj hP
        (try simp only [go_sem, Nat.reduceEqDiff, ↓reduceIte])
        exact fo []
      · refine condV_f hc ?_
        obtain ⟨o4, hP, hQ4⟩ := bind_cases hP
        refine J_join (fun (s : Bool) => envL [(0, .int .u8 (b2i c1)), (19, .bool s)]) (fun (s : Bool) => []) (fun s => s = o4) ?_ ?_
        · clear hQ4
          refine J_region (by kernel_rfl) ?_
          (try simp only [go_sem, Nat.reduceEqDiff, ↓reduceIte])
          rcases ite_cases hP with ⟨hc, hP⟩ | ⟨hc, hP⟩
          · refine guard_is hc ?_
            (try simp only [go_sem, Nat.reduceEqDiff, ↓reduceIte])
            refine hold2 ?_
            exact join_n (decide (b2i c1 < b2i (bC 240))) (Option.some.inj hP) (so [])
          · refine guard_not hc ?_
            (try simp only [go_sem, Nat.reduceEqDiff, ↓reduceIte])
            refine hold2 ?_
            exact join_n false (Option.some.inj hP) (so [])
        · intro j5 hs
          subst hs
          have hP := hQ4
          clear hQ4
          refine J_condV rfl ?_
          (try simp only [go_sem, Nat.reduceEqDiff, ↓reduceIte])
          rcases ite_cases hP with ⟨hc, hP⟩ | ⟨hc, hP⟩
          · refine condV_t hc ?_
            refine J_seq ?_
            refine J_region (by kernel_rfl) ?_
            (try simp only [go_sem, Nat.reduceEqDiff, ↓reduceIte])
            refine hold2 (then_n ?_)
            refine J_ret (block_ret (then_ret (fin_ret ?_)))
            obtain rfl := Option.some.inj hP
            (try simp only [go_sem, Nat.reduceEqDiff, ↓reduceIte])
            exact fo []
          · refine condV_f hc ?_
            obtain ⟨o6, hP, hQ6⟩ := bind_cases hP
            refine J_join (fun (s : Bool) => envL [(0, .int .u8 (b2i c1)), (29, .bool s)]) (fun (s : Bool) => []) (fun s => s = o6) ?_ ?_
            · clear hQ6
              refine J_region (by kernel_rfl) ?_
              (try simp only [go_sem, Nat.reduceEqDiff, ↓reduceIte])
              rcases ite_cases hP with ⟨hc, hP⟩ | ⟨hc, hP⟩
              · refine guard_is hc ?_
                (try simp only [go_sem, Nat.reduceEqDiff, ↓reduceIte])
                refine hold2 ?_
                exact join_n (decide (b2i c1 < b2i (bC 248))) (Option.some.inj hP) (so [])
              · refine guard_not hc ?_
                (try simp only [go_sem, Nat.reduceEqDiff, ↓reduceIte])
                refine hold2 ?_
                exact join_n false (Option.some.inj hP) (so [])
            · intro j7 hs
              subst hs
              have hP := hQ6
              clear hQ6
              refine J_condV rfl ?_
              (try simp only [go_sem, Nat.reduceEqDiff, ↓reduceIte])
              rcases ite_cases hP with ⟨hc, hP⟩ | ⟨hc, hP⟩
              · refine condV_t hc ?_
                refine J_seq ?_
                refine J_region (by kernel_rfl) ?_
                (try simp only [go_sem, Nat.reduceEqDiff, ↓reduceIte])
                refine hold2 (then_n ?_)
                refine J_ret (block_ret (then_ret (fin_ret ?_)))
                obtain rfl := Option.some.inj hP
                (try simp only [go_sem, Nat.reduceEqDiff, ↓reduceIte])
                exact fo []
              · refine condV_f hc ?_
                refine J_skip (block_n (then_n ?_))
                refine J_seq ?_
                refine J_region (by kernel_rfl) ?_
                (try simp only [go_sem, Nat.reduceEqDiff, ↓reduceIte])
                refine hold2 (then_n ?_)
                refine J_ret (fin_ret ?_)
                obtain rfl := Option.some.inj hP
                (try simp only [go_sem, Nat.reduceEqDiff, ↓reduceIte])
                exact fo []
/-- colander/colanderref08.least -/
def ref08_least (n1 : Int) : Option (Int) :=
  if decide (n1 = 2) then
    some 128
  else
    if decide (n1 = 3) then
      some 2048
    else
      if decide (n1 = 4) then
        some 65536
      else
        some 0
set_option maxRecDepth 100000 in
set_option maxHeartbeats 40000000 in
theorem ref08_least_ok {n1 : Int} {r : Int} (hP : ref08_least n1 = some r) : CallOK Tryd.prog 101 [.int .i64 n1] (.int .i64 r) [] := by
  unfold ref08_least at hP
  refine co 10 [.tmp 2] Tryd.func101 ?_
  refine J_seq ?_
  refine J_region (by kernel_rfl) ?_
  (try simp only [go_sem, Nat.reduceEqDiff, ↓reduceIte])
  refine hold2 (then_n ?_)
  refine J_seq ?_
  refine J_seq ?_
  refine J_region (by kernel_rfl) ?_
  (try simp only [go_sem, Nat.reduceEqDiff, ↓reduceIte])
  refine hold2 (then_n ?_)
  refine J_block ?_
  refine J_seq ?_
  refine J_region (by kernel_rfl) ?_
  (try simp only [go_sem, Nat.reduceEqDiff, ↓reduceIte])
  refine hold2 (then_n ?_)
  refine J_condV rfl ?_
  (try simp only [go_sem, Nat.reduceEqDiff, ↓reduceIte])
  rcases ite_cases hP with ⟨hc, hP⟩ | ⟨hc, hP⟩
  · refine condV_t hc ?_
    refine J_seq ?_
    refine J_region (by kernel_rfl) ?_
    (try simp only [go_sem, Nat.reduceEqDiff, ↓reduceIte])
    refine hold2 (then_n ?_)
    refine J_ret (block_ret (then_ret (fin_ret ?_)))
    obtain rfl := Option.some.inj hP
    (try simp only [go_sem, Nat.reduceEqDiff, ↓reduceIte])
    exact fo []
  · refine condV_f hc ?_
    refine J_seq ?_
    refine J_region (by kernel_rfl) ?_
    (try simp only [go_sem, Nat.reduceEqDiff, ↓reduceIte])
    refine hold2 (then_n ?_)
    refine J_condV rfl ?_
    (try simp only [go_sem, Nat.reduceEqDiff, ↓reduceIte])
    rcases ite_cases hP with ⟨hc, hP⟩ | ⟨hc, hP⟩
    · refine condV_t hc ?_
      refine J_seq ?_
      refine J_region (by kernel_rfl) ?_
      (try simp only [go_sem, Nat.reduceEqDiff, ↓reduceIte])
      refine hold2 (then_n ?_)
      refine J_ret (block_ret (then_ret (fin_ret ?_)))
      obtain rfl := Option.some.inj hP
      (try simp only [go_sem, Nat.reduceEqDiff, ↓reduceIte])
      exact fo []
    · refine condV_f hc ?_
      refine J_seq ?_
      refine J_region (by kernel_rfl) ?_
      (try simp only [go_sem, Nat.reduceEqDiff, ↓reduceIte])
      refine hold2 (then_n ?_)
      refine J_condV rfl ?_
      (try simp only [go_sem, Nat.reduceEqDiff, ↓reduceIte])
      rcases ite_cases hP with ⟨hc, hP⟩ | ⟨hc, hP⟩
      · refine condV_t hc ?_
        refine J_seq ?_
        refine J_region (by kernel_rfl) ?_
        (try simp only [go_sem, Nat.reduceEqDiff, ↓reduceIte])
        refine hold2 (then_n ?_)
        refine J_ret (block_ret (then_ret (fin_ret ?_)))
        obtain rfl := Option.some.inj hP
        (try simp only [go_sem, Nat.reduceEqDiff, ↓reduceIte])
        exact fo []
      · refine condV_f hc ?_
        refine J_skip (block_n (then_n ?_))
        refine J_seq ?_
        refine J_region (by kernel_rfl) ?_
        (try simp only [go_sem, Nat.reduceEqDiff, ↓reduceIte])
        refine hold2 (then_n ?_)
        refine J_ret (fin_ret ?_)
        obtain rfl := Option.some.inj hP
        (try simp only [go_sem, Nat.reduceEqDiff, ↓reduceIte])
        exact fo []
/-- colander/colanderref08.begins -/
def ref08_begins_L26 (k3 : Int) (b1 : List (UInt8)) (i2 : Int) : Nat → Int → Int → Option (Sum (Bool × Int × Int) (Int))
  | 0, _, _ => none
  | k19 + 1, v17, j18 =>
    if decide (j18 < k3) then
      (show Option (Bool) from
        (ixL b1 (iadd .i64 i2 j18)).bind fun x30 =>
        if decide (b2i x30 < b2i (bC 128)) then
          some true
        else
          (ixL b1 (iadd .i64 i2 j18)).bind fun x31 =>
          some (decide (b2i (bC 191) < b2i x31))).bind fun j32 =>
        if j32 then
          some (Sum.inl (false, 0, 0))
        else
          (ixL b1 (iadd .i64 i2 j18)).bind fun x33 =>
          ref08_begins_L26 k3 b1 i2 k19 (isub .i64 (iadd .i64 (imul .i64 v17 64) (b2i x33)) 128) (iadd .i64 j18 1)
    else
      some (Sum.inr v17)
def ref08_begins_L42 (r5 : Int × Int) : Nat → Int → Int → Int → Option (Int × Int)
  | 0, _, _, _ => none
  | k42 + 1, low39, high40, j41 =>
    if decide (j41 < r5.1) then
      ref08_begins_L42 r5 k42 (imul .i64 low39 64) (iadd .i64 (imul .i64 high40 64) 63) (iadd .i64 j41 1)
    else
      some (low39, high40)
def ref08_begins (b1 : List (UInt8)) (i2 : Int) (k3 : Int) : Option (Bool × Int × Int) :=
  (ixL b1 i2).bind fun x4 =>
  (ref08_size x4).bind fun r5 =>
  (show Option (Bool) from
    if decide (r5.1 = 0) then
      some true
    else
      if decide (r5.1 < k3) then
        some true
      else
        some (decide ((List.length b1 : Int) < iadd .i64 i2 k3))).bind fun j7 =>
    if j7 then
      some (false, 0, 0)
    else
      (ref08_begins_L26 k3 b1 i2 140737488355328 r5.2 1).bind fun o34 => match o34 with
      | Sum.inl r => some r
      | Sum.inr j35 =>
        (ref08_begins_L42 r5 140737488355328 j35 j35 k3).bind fun j44 =>
          (ref08_least r5.1).bind fun r45 =>
          if decide (max j44.1 r45 ≤ min j44.2 1114111) then
            if decide (55296 ≤ max j44.1 r45) then
              some (!(decide (min j44.2 1114111 ≤ 57343)), r5.1, j35)
            else
              some (true, r5.1, j35)
          else
            some (false, r5.1, j35)
set_option maxRecDepth 100000 in
set_option maxHeartbeats 40000000 in
theorem ref08_begins_ok {b1 : List (UInt8)} {i2 : Int} {k3 : Int} {r : Bool × Int × Int} (hP : ref08_begins b1 i2 k3 = some r) : CallOK Tryd.prog 77 [.view 1 (List.map encB b1), .int .i64 i2, .int .i64 k3] (.tup [.bool r.1, .int .i64 r.2.1, .int .i64 r.2.2]) [] := by
  unfold ref08_begins at hP
  refine co 105 [.tmp 6, .tmp 7, .tmp 8] Tryd.func77 ?_
  refine J_seq ?_
  refine J_region (by kernel_rfl) ?_
  (try simp only [go_sem, Nat.reduceEqDiff, ↓reduceIte])
  refine hold2 (then_n ?_)
  refine J_seq ?_
  refine J_region (by kernel_rfl) ?_
  (try simp only [go_sem, Nat.reduceEqDiff, ↓reduceIte])
  obtain ⟨x4, hx4, hP⟩ := bind_cases hP
  refine ixV_of hx4 ?_
  (try simp only [go_sem, Nat.reduceEqDiff, ↓reduceIte])
  obtain ⟨r5, hr5, hP⟩ := bind_cases hP
  refine call_ok [.int .u8 (b2i x4)] (ref08_size_ok hr5) ⟨argR_m false rfl, trivial⟩ ?_
  (try simp only [go_sem, Nat.reduceEqDiff, ↓reduceIte])
  refine hold2 (then_n ?_)
  refine J_seq ?_
  obtain ⟨o6, hP, hQ6⟩ := bind_cases hP
  refine J_join (fun (s : Bool) => envL [(0, .view 1 (List.map encB b1)), (1, .int .i64 i2), (2, .int .i64 k3), (9, .int .i64 r5.1), (10, .int .i64 r5.2), (38, .bool s)]) (fun (s : Bool) => []) (fun s => s = o6) ?_ ?_
  · clear hQ6
    refine J_region (by kernel_rfl) ?_
    (try simp only [go_sem, Nat.reduceEqDiff, ↓reduceIte])
    rcases ite_cases hP with ⟨hc, hP⟩ | ⟨hc, hP⟩
    · refine guard_not hc ?_
      (try simp only [go_sem, Nat.reduceEqDiff, ↓reduceIte])
      refine hold2 ?_
      exact join_n true (Option.some.inj hP) (so [])
    · refine guard_is hc ?_
      (try simp only [go_sem, Nat.reduceEqDiff, ↓reduceIte])
      rcases ite_cases hP with ⟨hc, hP⟩ | ⟨hc, hP⟩
      · refine guard_not hc ?_
        (try simp only [go_sem, Nat.reduceEqDiff, ↓reduceIte])
        refine hold2 ?_
        exact join_n true (Option.some.inj hP) (so [])
      · refine guard_is hc ?_
        (try simp only [go_sem, Nat.reduceEqDiff, ↓reduceIte])
        refine hold2 ?_
        exact join_n (decide ((List.length b1 : Int) < iadd .i64 i2 k3)) (Option.some.inj hP) (so [])
  · intro j7 hs
    subst hs
    have hP := hQ6
    clear hQ6
    refine J_condV rfl ?_
    (try simp only [go_sem, Nat.reduceEqDiff, ↓reduceIte])
    rcases ite_cases hP with ⟨hc, hP⟩ | ⟨hc, hP⟩
    · refine condV_t hc ?_
      refine J_seq ?_
      refine J_region (by kernel_rfl) ?_
      (try simp only [go_sem, Nat.reduceEqDiff, ↓reduceIte])
      refine hold2 (then_n ?_)
      refine J_ret (then_ret (fin_ret ?_))
      obtain rfl := Option.some.inj hP
      (try simp only [go_sem, Nat.reduceEqDiff, ↓reduceIte])
      exact fo []
    · refine condV_f hc ?_
      refine J_skip (then_n ?_)
      refine J_seq ?_
      refine J_seq ?_
      refine J_region (by kernel_rfl) ?_
      (try simp only [go_sem, Nat.reduceEqDiff, ↓reduceIte])
      refine hold2 (then_n ?_)
      obtain ⟨o34, hP, hQ26⟩ := bind_cases hP
      refine J_joinK0 (fun (s : Int) => envL [(2, .int .i64 k3), (9, .int .i64 r5.1), (10, .int .i64 s)]) (fun (s : Int) => []) (fun s => Sum.inr s = o34) ?_ ?_
      · refine J_block ?_
        refine J_loop (σ := Nat × Int × Int) (fun (s : Nat × Int × Int) => envL [(0, .view 1 (List.map encB b1)), (1, .int .i64 i2), (2, .int .i64 k3), (9, .int .i64 r5.1), (10, .int .i64 s.2.1), (11, .int .i64 s.2.2)]) (fun (s : Nat × Int × Int) => []) (fun s => ref08_begins_L26 k3 b1 i2 s.1 s.2.1 s.2.2 = some o34) (fun s => s.1) (140737488355328, r5.2, 1) hP (so []) ?_
        rintro ⟨k19, v17, j18⟩ hP
        dsimp only at hP ⊢
        cases k19 with
        | zero => simp [ref08_begins_L26] at hP
        | succ k19 =>
          simp only [ref08_begins_L26] at hP
          refine J_seq ?_
          refine J_seq ?_
          refine J_region (by kernel_rfl) ?_
          (try simp only [go_sem, Nat.reduceEqDiff, ↓reduceIte])
          refine hold2 (then_n ?_)
          refine J_condV rfl ?_
          (try simp only [go_sem, Nat.reduceEqDiff, ↓reduceIte])
          rcases ite_cases hP with ⟨hc, hP⟩ | ⟨hc, hP⟩
          · refine condV_t hc ?_
            refine J_skip (then_n ?_)
            refine J_seq ?_
            refine J_block ?_
            refine J_seq ?_
            obtain ⟨o29, hP, hQ29⟩ := bind_cases hP
            refine J_join (fun (s : Bool) => envL [(0, .view 1 (List.map encB b1)), (1, .int .i64 i2), (2, .int .i64 k3), (9, .int .i64 r5.1), (10, .int .i64 v17), (11, .int .i64 j18), (59, .bool s)]) (fun (s : Bool) => []) (fun s => s = o29) ?_ ?_
            · clear hQ29
              refine J_region (by kernel_rfl) ?_
              (try simp only [go_sem, Nat.reduceEqDiff, ↓reduceIte])
              obtain ⟨x30, hx30, hP⟩ := bind_cases hP
              refine ixV_of hx30 ?_
              (try simp only [go_sem, Nat.reduceEqDiff, ↓reduceIte])
              rcases ite_cases hP with ⟨hc, hP⟩ | ⟨hc, hP⟩
              · refine guard_not hc ?_
                (try simp only [go_sem, Nat.reduceEqDiff, ↓reduceIte])
                refine hold2 ?_
                exact join_n true (Option.some.inj hP) (so [])
              · refine guard_is hc ?_
                (try simp only [go_sem, Nat.reduceEqDiff, ↓reduceIte])
                obtain ⟨x31, hx31, hP⟩ := bind_cases hP
                refine ixV_of hx31 ?_
                (try simp only [go_sem, Nat.reduceEqDiff, ↓reduceIte])
                refine hold2 ?_
                exact join_n (decide (b2i (bC 191) < b2i x31)) (Option.some.inj hP) (so [])
            · intro j32 hs
              subst hs
              have hP := hQ29
              clear hQ29
              refine J_condV rfl ?_
              (try simp only [go_sem, Nat.reduceEqDiff, ↓reduceIte])
              rcases ite_cases hP with ⟨hc, hP⟩ | ⟨hc, hP⟩
              · refine condV_t hc ?_
                refine J_seq ?_
                refine J_region (by kernel_rfl) ?_
                (try simp only [go_sem, Nat.reduceEqDiff, ↓reduceIte])
                refine hold2 (then_n ?_)
                refine J_ret (then_ret (block_ret (then_ret (loop_ret (block_ret (join_ret (then_ret (fin_ret ?_))))))))
                obtain rfl := Option.some.inj hP
                have hP := hQ26
                dsimp only at hP
                obtain rfl := Option.some.inj hP
                (try simp only [go_sem, Nat.reduceEqDiff, ↓reduceIte])
                exact fo []
              · refine condV_f hc ?_
                refine J_skip (then_n ?_)
                refine J_region (by kernel_rfl) ?_
                (try simp only [go_sem, Nat.reduceEqDiff, ↓reduceIte])
                obtain ⟨x33, hx33, hP⟩ := bind_cases hP
                refine ixV_of hx33 ?_
                (try simp only [go_sem, Nat.reduceEqDiff, ↓reduceIte])
                refine hold2 (block_n (then_n ?_))
                refine J_region (by kernel_rfl) ?_
                (try simp only [go_sem, Nat.reduceEqDiff, ↓reduceIte])
                refine hold2 ?_
                exact loop_n (k19, isub .i64 (iadd .i64 (imul .i64 v17 64) (b2i x33)) 128, iadd .i64 j18 1) hP (Nat.lt_succ_self _) (so [])
          · refine condV_f hc ?_
            refine J_exit (then_exit (loop_exit (block_eq ?_)))
            exact join_n v17 (Option.some.inj hP) (so [])
      · intro j35 hs
        subst hs
        have hP := hQ26
        dsimp only at hP
        clear hQ26
        refine then_n ?_
        refine J_seq ?_
        refine J_region (by kernel_rfl) ?_
        (try simp only [go_sem, Nat.reduceEqDiff, ↓reduceIte])
        refine hold2 (then_n ?_)
        refine J_seq ?_
        refine J_region (by kernel_rfl) ?_
        (try simp only [go_sem, Nat.reduceEqDiff, ↓reduceIte])
        refine hold2 (then_n ?_)
        refine J_seq ?_
        refine J_seq ?_
        refine J_region (by kernel_rfl) ?_
        (try simp only [go_sem, Nat.reduceEqDiff, ↓reduceIte])
        refine hold2 (then_n ?_)
        obtain ⟨o43, hP, hQ42⟩ := bind_cases hP
        refine J_joinK0 (fun (s : Int × Int) => envL [(9, .int .i64 r5.1), (10, .int .i64 j35), (12, .int .i64 s.1), (13, .int .i64 s.2)]) (fun (s : Int × Int) => []) (fun s => s = o43) ?_ ?_
        · clear hQ42
          refine J_block ?_
          refine J_loop (σ := Nat × Int × Int × Int) (fun (s : Nat × Int × Int × Int) => envL [(9, .int .i64 r5.1), (10, .int .i64 j35), (12, .int .i64 s.2.1), (13, .int .i64 s.2.2.1), (14, .int .i64 s.2.2.2)]) (fun (s : Nat × Int × Int × Int) => []) (fun s => ref08_begins_L42 r5 s.1 s.2.1 s.2.2.1 s.2.2.2 = some o43) (fun s => s.1) (140737488355328, j35, j35, k3) hP (so []) ?_
          rintro ⟨k42, low39, high40, j41⟩ hP
          dsimp only at hP ⊢
          cases k42 with
          | zero => simp [ref08_begins_L42] at hP
          | succ k42 =>
            simp only [ref08_begins_L42] at hP
            refine J_seq ?_
            refine J_seq ?_
            refine J_region (by kernel_rfl) ?_
            (try simp only [go_sem, Nat.reduceEqDiff, ↓reduceIte])
            refine hold2 (then_n ?_)
            refine J_condV rfl ?_
            (try simp only [go_sem, Nat.reduceEqDiff, ↓reduceIte])
            rcases ite_cases hP with ⟨hc, hP⟩ | ⟨hc, hP⟩
            · refine condV_t hc ?_
              refine J_skip (then_n ?_)
              refine J_seq ?_
              refine J_block ?_
              refine J_seq ?_
              refine J_region (by kernel_rfl) ?_
              (try simp only [go_sem, Nat.reduceEqDiff, ↓reduceIte])
              refine hold2 (then_n ?_)
              refine J_region (by kernel_rfl) ?_
              (try simp only [go_sem, Nat.reduceEqDiff, ↓reduceIte])
              refine hold2 (block_n (then_n ?_))
              refine J_region (by kernel_rfl) ?_
              (try simp only [go_sem, Nat.reduceEqDiff, ↓reduceIte])
              refine hold2 ?_
              exact loop_n (k42, imul .i64 low39 64, iadd .i64 (imul .i64 high40 64) 63, iadd .i64 j41 1) hP (Nat.lt_succ_self _) (so [])
            · refine condV_f hc ?_
              refine J_exit (then_exit (loop_exit (block_eq ?_)))
              exact join_n (low39, high40) (Option.some.inj hP) (so [])
        · intro j44 hs
          subst hs
          have hP := hQ42
          clear hQ42
          refine then_n ?_
          refine J_seq ?_
          refine J_region (by kernel_rfl) ?_
          (try simp only [go_sem, Nat.reduceEqDiff, ↓reduceIte])
          obtain ⟨r45, hr45, hP⟩ := bind_cases hP
          refine call_ok [.int .i64 r5.1] (ref08_least_ok hr45) ⟨argR_m false rfl, trivial⟩ ?_
          (try simp only [go_sem, Nat.reduceEqDiff, ↓reduceIte])
          refine hold2 (then_n ?_)
          refine J_seq ?_
          refine J_region (by kernel_rfl) ?_
          (try simp only [go_sem, Nat.reduceEqDiff, ↓reduceIte])
          refine hold2 (then_n ?_)
          refine J_seq ?_
          refine J_region (by kernel_rfl) ?_
          (try simp only [go_sem, Nat.reduceEqDiff, ↓reduceIte])
          rcases ite_cases hP with ⟨hc, hP⟩ | ⟨hc, hP⟩
          · refine guard_is hc ?_
            (try simp only [go_sem, Nat.reduceEqDiff, ↓reduceIte])
            rcases ite_cases hP with ⟨hc, hP⟩ | ⟨hc, hP⟩
            · refine guard_is hc ?_
              (try simp only [go_sem, Nat.reduceEqDiff, ↓reduceIte])
              refine hold2 (then_n ?_)
              refine J_seq ?_
              refine J_region (by kernel_rfl) ?_
              (try simp only [go_sem, Nat.reduceEqDiff, ↓reduceIte])
              refine hold2 (then_n ?_)
              refine J_ret (fin_ret ?_)
              obtain rfl := Option.some.inj hP
              (try simp only [go_sem, Nat.reduceEqDiff, ↓reduceIte])
              exact fo []
            · refine guard_not hc ?_
              (try simp only [go_sem, Nat.reduceEqDiff, ↓reduceIte])
              refine hold2 (then_n ?_)
              refine J_seq ?_
              refine J_region (by kernel_rfl) ?_
              (try simp only [go_sem, Nat.reduceEqDiff, ↓reduceIte])
              refine hold2 (then_n ?_)
              refine J_ret (fin_ret ?_)
              obtain rfl := Option.some.inj hP
              (try simp only [go_sem, Nat.reduceEqDiff, ↓reduceIte])
              exact fo []
          · refine guard_not hc ?_
            (try simp only [go_sem, Nat.reduceEqDiff, ↓reduceIte])
            refine hold2 (then_n ?_)
            refine J_seq ?_
            refine J_region (by kernel_rfl) ?_
            (try simp only [go_sem, Nat.reduceEqDiff, ↓reduceIte])
            refine hold2 (then_n ?_)
            refine J_ret (fin_ret ?_)
            obtain rfl := Option.some.inj hP
            (try simp only [go_sem, Nat.reduceEqDiff, ↓reduceIte])
            exact fo []
/-- colander/colanderref08.Piece -/
def ref08_Piece_L13 (b1 : List (UInt8)) (i2 : Int) : Nat → Int → Int → Option (Sum (Int × Int × Bool) (Int))
  | 0, _, _ => none
  | k10 + 1, most8, k9 =>
    if decide (k9 ≤ 4) then
      (ref08_begins b1 i2 k9).bind fun r14 =>
      (show Option (Bool) from
        if r14.1 then
          some (decide (r14.2.1 = k9))
        else
          some false).bind fun j16 =>
        if j16 then
          some (Sum.inl (k9, r14.2.2, true))
        else
          if r14.1 then
            ref08_Piece_L13 b1 i2 k10 k9 (iadd .i64 k9 1)
          else
            ref08_Piece_L13 b1 i2 k10 most8 (iadd .i64 k9 1)
    else
      some (Sum.inr most8)
def ref08_Piece (b1 : List (UInt8)) (i2 : Int) : Option (Int × Int × Bool) :=
  (ref08_Piece_L13 b1 i2 140737488355328 1 1).bind fun o17 => match o17 with
  | Sum.inl r => some r
  | Sum.inr j18 =>
    some (j18, 65533, false)
set_option maxRecDepth 100000 in
set_option maxHeartbeats 40000000 in
theorem ref08_Piece_ok {b1 : List (UInt8)} {i2 : Int} {r : Int × Int × Bool} (hP : ref08_Piece b1 i2 = some r) : CallOK Tryd.prog 50 [.view 1 (List.map encB b1), .int .i64 i2] (.tup [.int .i64 r.1, .int .i64 r.2.1, .bool r.2.2]) [] := by
  unfold ref08_Piece at hP
  refine co 35 [.tmp 4, .tmp 5, .tmp 6] Tryd.func50 ?_
  refine J_seq ?_
  refine J_region (by kernel_rfl) ?_
  (try simp only [go_sem, Nat.reduceEqDiff, ↓reduceIte])
  refine hold2 (then_n ?_)
  refine J_seq ?_
  refine J_region (by kernel_rfl) ?_
  (try simp only [go_sem, Nat.reduceEqDiff, ↓reduceIte])
  refine hold2 (then_n ?_)
  refine J_seq ?_
  refine J_seq ?_
  refine J_region (by kernel_rfl) ?_
  (try simp only [go_sem, Nat.reduceEqDiff, ↓reduceIte])
  refine hold2 (then_n ?_)
  obtain ⟨o17, hP, hQ13⟩ := bind_cases hP
  refine J_joinK0 (fun (s : Int) => envL [(7, .int .i64 s)]) (fun (s : Int) => []) (fun s => Sum.inr s = o17) ?_ ?_
  · refine J_block ?_
    refine J_loop (σ := Nat × Int × Int) (fun (s : Nat × Int × Int) => envL [(0, .view 1 (List.map encB b1)), (1, .int .i64 i2), (7, .int .i64 s.2.1), (8, .int .i64 s.2.2)]) (fun (s : Nat × Int × Int) => []) (fun s => ref08_Piece_L13 b1 i2 s.1 s.2.1 s.2.2 = some o17) (fun s => s.1) (140737488355328, 1, 1) hP (so []) ?_
    rintro ⟨k10, most8, k9⟩ hP
    dsimp only at hP ⊢
    cases k10 with
    | zero => simp [ref08_Piece_L13] at hP
    | succ k10 =>
      simp only [ref08_Piece_L13] at hP
      refine J_seq ?_
      refine J_seq ?_
      refine J_region (by kernel_rfl) ?_
      (try simp only [go_sem, Nat.reduceEqDiff, ↓reduceIte])
      refine hold2 (then_n ?_)
      refine J_condV rfl ?_
      (try simp only [go_sem, Nat.reduceEqDiff, ↓reduceIte])
      rcases ite_cases hP with ⟨hc, hP⟩ | ⟨hc, hP⟩
      · refine condV_t hc ?_
        refine J_skip (then_n ?_)
        refine J_seq ?_
        refine J_block ?_
        refine J_seq ?_
        refine J_region (by kernel_rfl) ?_
        (try simp only [go_sem, Nat.reduceEqDiff, ↓reduceIte])
        obtain ⟨r14, hr14, hP⟩ := bind_cases hP
        refine call_ok [.view 1 (List.map encB b1), .int .i64 i2, .int .i64 k9] (ref08_begins_ok hr14) ⟨argR_m false rfl, argR_m false rfl, argR_m false rfl, trivial⟩ ?_
        (try simp only [go_sem, Nat.reduceEqDiff, ↓reduceIte])
        refine hold2 (then_n ?_)
        refine J_seq ?_
        obtain ⟨o15, hP, hQ15⟩ := bind_cases hP
        refine J_join (fun (s : Bool) => envL [(0, .view 1 (List.map encB b1)), (1, .int .i64 i2), (7, .int .i64 most8), (8, .int .i64 k9), (9, .bool r14.1), (11, .int .i64 r14.2.2), (29, .bool s)]) (fun (s : Bool) => []) (fun s => s = o15) ?_ ?_
        · clear hQ15
          refine J_region (by kernel_rfl) ?_
          (try simp only [go_sem, Nat.reduceEqDiff, ↓reduceIte])
          rcases ite_cases hP with ⟨hc, hP⟩ | ⟨hc, hP⟩
          · refine guard_is hc ?_
            (try simp only [go_sem, Nat.reduceEqDiff, ↓reduceIte])
            refine hold2 ?_
            exact join_n (decide (r14.2.1 = k9)) (Option.some.inj hP) (so [])
          · refine guard_not hc ?_
            (try simp only [go_sem, Nat.reduceEqDiff, ↓reduceIte])
            refine hold2 ?_
            exact join_n false (Option.some.inj hP) (so [])
        · intro j16 hs
          subst hs
          have hP := hQ15
          clear hQ15
          refine J_condV rfl ?_
          (try simp only [go_sem, Nat.reduceEqDiff, ↓reduceIte])
          rcases ite_cases hP with ⟨hc, hP⟩ | ⟨hc, hP⟩
          · refine condV_t hc ?_
            refine J_seq ?_
            refine J_region (by kernel_rfl) ?_
            (try simp only [go_sem, Nat.reduceEqDiff, ↓reduceIte])
            refine hold2 (then_n ?_)
            refine J_ret (then_ret (block_ret (then_ret (loop_ret (block_ret (join_ret (then_ret (fin_ret ?_))))))))
            obtain rfl := Option.some.inj hP
            have hP := hQ13
            dsimp only at hP
            obtain rfl := Option.some.inj hP
            (try simp only [go_sem, Nat.reduceEqDiff, ↓reduceIte])
            exact fo []
          · refine condV_f hc ?_
            refine J_skip (then_n ?_)
            refine J_seq ?_
            refine J_region (by kernel_rfl) ?_
            (try simp only [go_sem, Nat.reduceEqDiff, ↓reduceIte])
            refine hold2 (then_n ?_)
            refine J_condV rfl ?_
            (try simp only [go_sem, Nat.reduceEqDiff, ↓reduceIte])
            rcases ite_cases hP with ⟨hc, hP⟩ | ⟨hc, hP⟩
            · refine condV_t hc ?_
              refine J_region (by kernel_rfl) ?_
              (try simp only [go_sem, Nat.reduceEqDiff, ↓reduceIte])
              refine hold2 (block_n (then_n ?_))
              refine J_region (by kernel_rfl) ?_
              (try simp only [go_sem, Nat.reduceEqDiff, ↓reduceIte])
              refine hold2 ?_
              exact loop_n (k10, k9, iadd .i64 k9 1) hP (Nat.lt_succ_self _) (so [])
            · refine condV_f hc ?_
              refine J_skip (block_n (then_n ?_))
              refine J_region (by kernel_rfl) ?_
              (try simp only [go_sem, Nat.reduceEqDiff, ↓reduceIte])
              refine hold2 ?_
              exact loop_n (k10, most8, iadd .i64 k9 1) hP (Nat.lt_succ_self _) (so [])
      · refine condV_f hc ?_
        refine J_exit (then_exit (loop_exit (block_eq ?_)))
        exact join_n most8 (Option.some.inj hP) (so [])
  · intro j18 hs
    subst hs
    have hP := hQ13
    dsimp only at hP
    clear hQ13
    refine then_n ?_
    refine J_seq ?_
    refine J_region (by kernel_rfl) ?_
    (try simp only [go_sem, Nat.reduceEqDiff, ↓reduceIte])
    refine hold2 (then_n ?_)
    refine J_ret (fin_ret ?_)
    obtain rfl := Option.some.inj hP
    (try simp only [go_sem, Nat.reduceEqDiff, ↓reduceIte])
    exact fo []
/-- colander/colanderref08.Fault -/
def ref08_Fault_L6 (b1 : List (UInt8)) : Nat → Int → Option (Sum (Int) (Unit))
  | 0, _ => none
  | k5 + 1, i4 =>
    if decide (i4 < (List.length b1 : Int)) then
      (ref08_Piece b1 i4).bind fun r7 =>
      if !r7.2.2 then
        some (Sum.inl i4)
      else
        ref08_Fault_L6 b1 k5 (iadd .i64 i4 r7.1)
    else
      some (Sum.inr ())
def ref08_Fault (b1 : List (UInt8)) : Option (Int) :=
  (ref08_Fault_L6 b1 140737488355328 0).bind fun o8 => match o8 with
  | Sum.inl r => some r
  | Sum.inr j9 =>
    some (List.length b1 : Int)
set_option maxRecDepth 100000 in
set_option maxHeartbeats 40000000 in
theorem ref08_Fault_ok {b1 : List (UInt8)} {r : Int} (hP : ref08_Fault b1 = some r) : CallOK Tryd.prog 22 [.view 1 (List.map encB b1)] (.int .i64 r) [] := by
  unfold ref08_Fault at hP
  refine co 26 [.tmp 2] Tryd.func22 ?_
  refine J_seq ?_
  refine J_region (by kernel_rfl) ?_
  (try simp only [go_sem, Nat.reduceEqDiff, ↓reduceIte])
  refine hold2 (then_n ?_)
  refine J_seq ?_
  refine J_seq ?_
  refine J_region (by kernel_rfl) ?_
  (try simp only [go_sem, Nat.reduceEqDiff, ↓reduceIte])
  refine hold2 (then_n ?_)
  obtain ⟨o8, hP, hQ6⟩ := bind_cases hP
  refine J_joinK0 (fun (s : Unit) => envL [(0, .view 1 (List.map encB b1))]) (fun (s : Unit) => []) (fun s => Sum.inr s = o8) ?_ ?_
  · refine J_block ?_
    refine J_loop (σ := Nat × Int) (fun (s : Nat × Int) => envL [(0, .view 1 (List.map encB b1)), (3, .int .i64 s.2)]) (fun (s : Nat × Int) => []) (fun s => ref08_Fault_L6 b1 s.1 s.2 = some o8) (fun s => s.1) (140737488355328, 0) hP (so []) ?_
    rintro ⟨k5, i4⟩ hP
    dsimp only at hP ⊢
    cases k5 with
    | zero => simp [ref08_Fault_L6] at hP
    | succ k5 =>
      simp only [ref08_Fault_L6] at hP
      refine J_seq ?_
      refine J_seq ?_
      refine J_region (by kernel_rfl) ?_
      (try simp only [go_sem, Nat.reduceEqDiff, ↓reduceIte])
      refine hold2 (then_n ?_)
      refine J_condV rfl ?_
      (try simp only [go_sem, Nat.reduceEqDiff, ↓reduceIte])
      rcases ite_cases hP with ⟨hc, hP⟩ | ⟨hc, hP⟩
      · refine condV_t hc ?_
        refine J_skip (then_n ?_)
        refine J_block ?_
        refine J_seq ?_
        refine J_region (by kernel_rfl) ?_
        (try simp only [go_sem, Nat.reduceEqDiff, ↓reduceIte])
        obtain ⟨r7, hr7, hP⟩ := bind_cases hP
        refine call_ok [.view 1 (List.map encB b1), .int .i64 i4] (ref08_Piece_ok hr7) ⟨argR_m false rfl, argR_m false rfl, trivial⟩ ?_
        (try simp only [go_sem, Nat.reduceEqDiff, ↓reduceIte])
        refine hold2 (then_n ?_)
        refine J_seq ?_
        refine J_seq ?_
        refine J_region (by kernel_rfl) ?_
        (try simp only [go_sem, Nat.reduceEqDiff, ↓reduceIte])
        refine hold2 (then_n ?_)
        refine J_condV rfl ?_
        (try simp only [go_sem, Nat.reduceEqDiff, ↓reduceIte])
        rcases ite_cases hP with ⟨hc, hP⟩ | ⟨hc, hP⟩
        · refine condV_t hc ?_
          refine J_seq ?_
          refine J_region (by kernel_rfl) ?_
          (try simp only [go_sem, Nat.reduceEqDiff, ↓reduceIte])
          refine hold2 (then_n ?_)
          refine J_ret (then_ret (block_ret (loop_ret (block_ret (join_ret (then_ret (fin_ret ?_)))))))
          obtain rfl := Option.some.inj hP
          have hP := hQ6
          dsimp only at hP
          obtain rfl := Option.some.inj hP
          (try simp only [go_sem, Nat.reduceEqDiff, ↓reduceIte])
          exact fo []
        · refine condV_f hc ?_
          refine J_skip (then_n ?_)
          refine J_region (by kernel_rfl) ?_
          (try simp only [go_sem, Nat.reduceEqDiff, ↓reduceIte])
          refine hold2 (block_n ?_)
          exact loop_n (k5, iadd .i64 i4 r7.1) hP (Nat.lt_succ_self _) (so [])
      · refine condV_f hc ?_
        refine J_exit (then_exit (loop_exit (block_eq ?_)))
        exact join_n () (Option.some.inj hP) (so [])
  · intro j9 hs
    subst hs
    have hP := hQ6
    dsimp only at hP
    clear hQ6
    refine then_n ?_
    refine J_seq ?_
    refine J_region (by kernel_rfl) ?_
    (try simp only [go_sem, Nat.reduceEqDiff, ↓reduceIte])
    refine hold2 (then_n ?_)
    refine J_ret (fin_ret ?_)
    obtain rfl := Option.some.inj hP
    (try simp only [go_sem, Nat.reduceEqDiff, ↓reduceIte])
    exact fo []
end Go.Proofs.YtecpgelhhbbjmaaDoor
