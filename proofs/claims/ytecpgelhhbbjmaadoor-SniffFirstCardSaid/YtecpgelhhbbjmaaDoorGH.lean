/- Functions of the program, and pure ones that go the same ways: that the program's return what these compute. -/
import Derived.Test.YtecpgelhhbbjmaaDoorGD
import Derived.Test.YtecpgelhhbbjmaaDoorAvPj
namespace Go.Proofs.YtecpgelhhbbjmaaDoor
open Go.Av
set_option linter.unusedVariables false
set_option linter.unusedSimpArgs false
/-- colander/colanderref11.Bom -/
def ref11_Bom (b1 : List (UInt8)) : Option (Int × Int) :=
  (show Option (Bool) from
    if decide (3 ≤ (List.length b1 : Int)) then
      (ixL b1 0).bind fun x6 =>
      if decide (b2i x6 = b2i (bC 239)) then
        (ixL b1 1).bind fun x7 =>
        if decide (b2i x7 = b2i (bC 187)) then
          (ixL b1 2).bind fun x8 =>
          some (decide (b2i x8 = b2i (bC 191)))
        else
          some false
      else
        some false
    else
      some false).bind fun j9 =>
    if j9 then
      some (1, 3)
    else
      (show Option (Bool) from
        if decide (2 ≤ (List.length b1 : Int)) then
          (ixL b1 0).bind fun x17 =>
          if decide (b2i x17 = b2i (bC 254)) then
            (ixL b1 1).bind fun x18 =>
            if decide (b2i x18 = b2i (bC 255)) then
              some true
            else
              (ixL b1 0).bind fun x19 =>
              if decide (b2i x19 = b2i (bC 255)) then
                (ixL b1 1).bind fun x20 =>
                some (decide (b2i x20 = b2i (bC 254)))
              else
                some false
          else
            (ixL b1 0).bind fun x21 =>
            if decide (b2i x21 = b2i (bC 255)) then
              (ixL b1 1).bind fun x22 =>
              some (decide (b2i x22 = b2i (bC 254)))
            else
              some false
        else
          some false).bind fun j23 =>
        if j23 then
          some (3, 2)
        else
          some (0, 0)
set_option maxRecDepth 100000 in
set_option maxHeartbeats 40000000 in
theorem ref11_Bom_ok {b1 : List (UInt8)} {r : Int × Int} (hP : ref11_Bom b1 = some r) : CallOK Tryd.prog 12 [.view 1 (List.map encB b1)] (.tup [.int .i64 r.1, .int .i64 r.2]) [] := by
  unfold ref11_Bom at hP
  refine co 52 [.tmp 2, .tmp 3] Tryd.func12 ?_
  refine J_seq ?_
  refine J_region (by kernel_rfl) ?_
  (try simp only [go_sem, Nat.reduceEqDiff, ↓reduceIte])
  refine hold2 (then_n ?_)
  refine J_seq ?_
  obtain ⟨o5, hP, hQ5⟩ := bind_cases hP
  refine J_join (fun (s : Bool) => envL [(0, .view 1 (List.map encB b1)), (24, .bool s)]) (fun (s : Bool) => []) (fun s => s = o5) ?_ ?_
  · clear hQ5
    refine J_region (by kernel_rfl) ?_
    (try simp only [go_sem, Nat.reduceEqDiff, ↓reduceIte])
    rcases ite_cases hP with ⟨hc, hP⟩ | ⟨hc, hP⟩
    · refine guard_is hc ?_
      (try simp only [go_sem, Nat.reduceEqDiff, ↓reduceIte])
      obtain ⟨x6, hx6, hP⟩ := bind_cases hP
      refine ixV_of hx6 ?_
      (try simp only [go_sem, Nat.reduceEqDiff, ↓reduceIte])
      rcases ite_cases hP with ⟨hc, hP⟩ | ⟨hc, hP⟩
      · refine guard_is hc ?_
        (try simp only [go_sem, Nat.reduceEqDiff, ↓reduceIte])
        obtain ⟨x7, hx7, hP⟩ := bind_cases hP
        refine ixV_of hx7 ?_
        (try simp only [go_sem, Nat.reduceEqDiff, ↓reduceIte])
        rcases ite_cases hP with ⟨hc, hP⟩ | ⟨hc, hP⟩
        · refine guard_is hc ?_
          (try simp only [go_sem, Nat.reduceEqDiff, ↓reduceIte])
          obtain ⟨x8, hx8, hP⟩ := bind_cases hP
          refine ixV_of hx8 ?_
          (try simp only [go_sem, Nat.reduceEqDiff, ↓reduceIte])
          refine hold2 ?_
          exact join_n (decide (b2i x8 = b2i (bC 191))) (Option.some.inj hP) (so [])
        · refine guard_not hc ?_
          (try simp only [go_sem, Nat.reduceEqDiff, ↓reduceIte])
          refine hold2 ?_
          exact join_n false (Option.some.inj hP) (so [])
      · refine guard_not hc ?_
        (try simp only [go_sem, Nat.reduceEqDiff, ↓reduceIte])
        refine hold2 ?_
        exact join_n false (Option.some.inj hP) (so [])
    · refine guard_not hc ?_
      (try simp only [go_sem, Nat.reduceEqDiff, ↓reduceIte])
      refine hold2 ?_
      exact join_n false (Option.some.inj hP) (so [])
  · intro j9 hs
    subst hs
    have hP := hQ5
    clear hQ5
    refine J_condV rfl ?_
    (try simp only [go_sem, Nat.reduceEqDiff, ↓reduceIte])
    rcases ite_cases hP with ⟨hc, hP⟩ | ⟨hc, hP⟩
    · refine condV_t hc ?_
      refine J_seq ?_
      refine J_region (by kernel_rfl) ?_
      (try simp only [go_sem, Nat.reduceEqDiff, ↓reduceIte])
      refine hold2 (then_n ?_)
      refine J_ret (then_ret (fin_ret ?_))
      obtain rfl := Option.some.inj hP
      (try simp only [go_sem, Nat.reduceEqDiff, ↓reduceIte])
      exact fo []
    · refine condV_f hc ?_
      refine J_skip (then_n ?_)
      refine J_seq ?_
      obtain ⟨o16, hP, hQ16⟩ := bind_cases hP
      refine J_join (fun (s : Bool) => envL [(51, .bool s)]) (fun (s : Bool) => []) (fun s => s = o16) ?_ ?_
      · clear hQ16
        refine J_region (by kernel_rfl) ?_
        (try simp only [go_sem, Nat.reduceEqDiff, ↓reduceIte])
        rcases ite_cases hP with ⟨hc, hP⟩ | ⟨hc, hP⟩
        · refine guard_is hc ?_
          (try simp only [go_sem, Nat.reduceEqDiff, ↓reduceIte])
          obtain ⟨x17, hx17, hP⟩ := bind_cases hP
          refine ixV_of hx17 ?_
          (try simp only [go_sem, Nat.reduceEqDiff, ↓reduceIte])
          rcases ite_cases hP with ⟨hc, hP⟩ | ⟨hc, hP⟩
          · refine guard_is hc ?_
            (try simp only [go_sem, Nat.reduceEqDiff, ↓reduceIte])
            obtain ⟨x18, hx18, hP⟩ := bind_cases hP
            refine ixV_of hx18 ?_
            (try simp only [go_sem, Nat.reduceEqDiff, ↓reduceIte])
            rcases ite_cases hP with ⟨hc, hP⟩ | ⟨hc, hP⟩
            · refine guard_not hc ?_
              (try simp only [go_sem, Nat.reduceEqDiff, ↓reduceIte])
              refine hold2 ?_
              exact join_n true (Option.some.inj hP) (so [])
            · refine guard_is hc ?_
              (try simp only [go_sem, Nat.reduceEqDiff, ↓reduceIte])
              obtain ⟨x19, hx19, hP⟩ := bind_cases hP
              refine ixV_of hx19 ?_
              (try simp only [go_sem, Nat.reduceEqDiff, ↓reduceIte])
              rcases ite_cases hP with ⟨hc, hP⟩ | ⟨hc, hP⟩
              · refine guard_is hc ?_
                (try simp only [go_sem, Nat.reduceEqDiff, ↓reduceIte])
                obtain ⟨x20, hx20, hP⟩ := bind_cases hP
                refine ixV_of hx20 ?_
                (try simp only [go_sem, Nat.reduceEqDiff, ↓reduceIte])
                refine hold2 ?_
                exact join_n (decide (b2i x20 = b2i (bC 254))) (Option.some.inj hP) (so [])
              · refine guard_not hc ?_
                (try simp only [go_sem, Nat.reduceEqDiff, ↓reduceIte])
                refine hold2 ?_
                exact join_n false (Option.some.inj hP) (so [])
          · refine guard_not hc ?_
            (try simp only [go_sem, Nat.reduceEqDiff, ↓reduceIte])
            obtain ⟨x21, hx21, hP⟩ := bind_cases hP
            refine ixV_of hx21 ?_
            (try simp only [go_sem, Nat.reduceEqDiff, ↓reduceIte])
            rcases ite_cases hP with ⟨hc, hP⟩ | ⟨hc, hP⟩
            · refine guard_is hc ?_
              (try simp only [go_sem, Nat.reduceEqDiff, ↓reduceIte])
              obtain ⟨x22, hx22, hP⟩ := bind_cases hP
              refine ixV_of hx22 ?_
              (try simp only [go_sem, Nat.reduceEqDiff, ↓reduceIte])
              refine hold2 ?_
              exact join_n (decide (b2i x22 = b2i (bC 254))) (Option.some.inj hP) (so [])
            · refine guard_not hc ?_
              (try simp only [go_sem, Nat.reduceEqDiff, ↓reduceIte])
              refine hold2 ?_
              exact join_n false (Option.some.inj hP) (so [])
        · refine guard_not hc ?_
          (try simp only [go_sem, Nat.reduceEqDiff, ↓reduceIte])
          refine hold2 ?_
          exact join_n false (Option.some.inj hP) (so [])
      · intro j23 hs
        subst hs
        have hP := hQ16
        clear hQ16
        refine J_condV rfl ?_
        (try simp only [go_sem, Nat.reduceEqDiff, ↓reduceIte])
        rcases ite_cases hP with ⟨hc, hP⟩ | ⟨hc, hP⟩
        · refine condV_t hc ?_
          refine J_seq ?_
          refine J_region (by kernel_rfl) ?_
          (try simp only [go_sem, Nat.reduceEqDiff, ↓reduceIte])
          refine hold2 (then_n ?_)
          refine J_ret (then_ret (fin_ret ?_))
          obtain rfl := Option.some.inj hP
          (try simp only [go_sem, Nat.reduceEqDiff, ↓reduceIte])
          exact fo []
        · refine condV_f hc ?_
          refine J_skip (then_n ?_)
          refine J_seq ?_
          refine J_region (by kernel_rfl) ?_
          (try simp only [go_sem, Nat.reduceEqDiff, ↓reduceIte])
          refine hold2 (then_n ?_)
          refine J_ret (fin_ret ?_)
          obtain rfl := Option.some.inj hP
          (try simp only [go_sem, Nat.reduceEqDiff, ↓reduceIte])
          exact fo []
/-- colander/colanderref11.begins -/
def ref11_begins_L14 (s3 : List UInt8) (b1 : List (UInt8)) (at2 : Int) : Nat → Int → Option (Sum (Bool) (Unit))
  | 0, _ => none
  | k11 + 1, i10 =>
    if decide (i10 < (List.length s3 : Int)) then
      (ixL b1 (iadd .i64 at2 i10)).bind fun x15 =>
      (ref09_Small x15).bind fun r16 =>
      (ixL s3 i10).bind fun c17 =>
      if !decide (b2i r16 = b2i c17) then
        some (Sum.inl false)
      else
        ref11_begins_L14 s3 b1 at2 k11 (iadd .i64 i10 1)
    else
      some (Sum.inr ())
def ref11_begins (b1 : List (UInt8)) (at2 : Int) (s3 : List UInt8) : Option (Bool) :=
  (show Option (Bool) from
    if decide (at2 < 0) then
      some true
    else
      some (decide (isub .i64 (List.length b1 : Int) at2 < (List.length s3 : Int)))).bind fun j5 =>
    if j5 then
      some false
    else
      (ref11_begins_L14 s3 b1 at2 140737488355328 0).bind fun o18 => match o18 with
      | Sum.inl r => some r
      | Sum.inr j19 =>
        some true
set_option maxRecDepth 100000 in
set_option maxHeartbeats 40000000 in
theorem ref11_begins_ok {b1 : List (UInt8)} {at2 : Int} {s3 : List UInt8} {r : Bool} (hP : ref11_begins b1 at2 s3 = some r) : CallOK Tryd.prog 32 [.view 1 (List.map encB b1), .int .i64 at2, .str s3] (.bool r) [] := by
  unfold ref11_begins at hP
  refine co 36 [.tmp 6] Tryd.func32 ?_
  refine J_seq ?_
  refine J_region (by kernel_rfl) ?_
  (try simp only [go_sem, Nat.reduceEqDiff, ↓reduceIte])
  refine hold2 (then_n ?_)
  refine J_seq ?_
  obtain ⟨o4, hP, hQ4⟩ := bind_cases hP
  refine J_join (fun (s : Bool) => envL [(0, .view 1 (List.map encB b1)), (1, .int .i64 at2), (2, .str s3), (18, .bool s)]) (fun (s : Bool) => []) (fun s => s = o4) ?_ ?_
  · clear hQ4
    refine J_region (by kernel_rfl) ?_
    (try simp only [go_sem, Nat.reduceEqDiff, ↓reduceIte])
    rcases ite_cases hP with ⟨hc, hP⟩ | ⟨hc, hP⟩
    · refine guard_not hc ?_
      (try simp only [go_sem, Nat.reduceEqDiff, ↓reduceIte])
      refine hold2 ?_
      exact join_n true (Option.some.inj hP) (so [])
    · refine guard_is hc ?_
      (try simp only [go_sem, Nat.reduceEqDiff, ↓reduceIte])
      refine hold2 ?_
      exact join_n (decide (isub .i64 (List.length b1 : Int) at2 < (List.length s3 : Int))) (Option.some.inj hP) (so [])
  · intro j5 hs
    subst hs
    have hP := hQ4
    clear hQ4
    refine J_condV rfl ?_
    (try simp only [go_sem, Nat.reduceEqDiff, ↓reduceIte])
    rcases ite_cases hP with ⟨hc, hP⟩ | ⟨hc, hP⟩
    · refine condV_t hc ?_
      refine J_seq ?_
      refine J_region (by kernel_rfl) ?_
      (try simp only [go_sem, Nat.reduceEqDiff, ↓reduceIte])
      refine hold2 (then_n ?_)
      refine J_ret (then_ret (fin_ret ?_))
      obtain rfl := Option.some.inj hP
      (try simp only [go_sem, Nat.reduceEqDiff, ↓reduceIte])
      exact fo []
    · refine condV_f hc ?_
      refine J_skip (then_n ?_)
      refine J_seq ?_
      refine J_seq ?_
      refine J_region (by kernel_rfl) ?_
      (try simp only [go_sem, Nat.reduceEqDiff, ↓reduceIte])
      refine hold2 (then_n ?_)
      obtain ⟨o18, hP, hQ14⟩ := bind_cases hP
      refine J_joinK0 (fun (s : Unit) => envL []) (fun (s : Unit) => []) (fun s => Sum.inr s = o18) ?_ ?_
      · refine J_block ?_
        refine J_loop (σ := Nat × Int) (fun (s : Nat × Int) => envL [(0, .view 1 (List.map encB b1)), (1, .int .i64 at2), (2, .str s3), (7, .int .i64 s.2)]) (fun (s : Nat × Int) => []) (fun s => ref11_begins_L14 s3 b1 at2 s.1 s.2 = some o18) (fun s => s.1) (140737488355328, 0) hP (so []) ?_
        rintro ⟨k11, i10⟩ hP
        dsimp only at hP ⊢
        cases k11 with
        | zero => simp [ref11_begins_L14] at hP
        | succ k11 =>
          simp only [ref11_begins_L14] at hP
          refine J_seq ?_
          refine J_seq ?_
          refine J_region (by kernel_rfl) ?_
          (try simp only [go_sem, Nat.reduceEqDiff, ↓reduceIte])
          refine hold2 (then_n ?_)
          refine J_condV rfl ?_
          (try simp only [go_sem, Nat.reduceEqDiff, ↓reduceIte])
          rcases ite_cases hP with ⟨hc, hP⟩ | ⟨hc, hP⟩
          · refine condV_t hc ?_
            refine J_skip (then_n ?_)
            refine J_seq ?_
            refine J_block ?_
            refine J_seq ?_
            refine J_regionq follows_mixed (by kernel_rfl) (by kernel_rfl) ?_
            (try simp only [go_sem, Nat.reduceEqDiff, ↓reduceIte])
            obtain ⟨x15, hx15, hP⟩ := bind_cases hP
            refine ixV_of hx15 ?_
            (try simp only [go_sem, Nat.reduceEqDiff, ↓reduceIte])
            obtain ⟨r16, hr16, hP⟩ := bind_cases hP
            refine call_okq [.int .u8 (b2i x15)] (ref09_Small_ok hr16) ⟨argR_m false rfl, trivial⟩ rfl ?_
            (try simp only [go_sem, Nat.reduceEqDiff, ↓reduceIte])
            obtain ⟨c17, hc17, hP⟩ := bind_cases hP
            refine ixS_of hc17 ?_
            (try simp only [go_sem, Nat.reduceEqDiff, ↓reduceIte])
            refine hold2 (then_n ?_)
            refine J_condV rfl ?_
            (try simp only [go_sem, Nat.reduceEqDiff, ↓reduceIte])
            rcases ite_cases hP with ⟨hc, hP⟩ | ⟨hc, hP⟩
            · refine condV_t hc ?_
              refine J_seq ?_
              refine J_region (by kernel_rfl) ?_
              (try simp only [go_sem, Nat.reduceEqDiff, ↓reduceIte])
              refine hold2 (then_n ?_)
              refine J_ret (block_ret (then_ret (loop_ret (block_ret (join_ret (then_ret (fin_ret ?_)))))))
              obtain rfl := Option.some.inj hP
              have hP := hQ14
              dsimp only at hP
              obtain rfl := Option.some.inj hP
              (try simp only [go_sem, Nat.reduceEqDiff, ↓reduceIte])
              exact fo []
            · refine condV_f hc ?_
              refine J_skip (block_n (then_n ?_))
              refine J_region (by kernel_rfl) ?_
              (try simp only [go_sem, Nat.reduceEqDiff, ↓reduceIte])
              refine hold2 ?_
              exact loop_n (k11, iadd .i64 i10 1) hP (Nat.lt_succ_self _) (so [])
          · refine condV_f hc ?_
            refine J_exit (then_exit (loop_exit (block_eq ?_)))
            exact join_n () (Option.some.inj hP) (so [])
      · intro j19 hs
        subst hs
        have hP := hQ14
        dsimp only at hP
        clear hQ14
        refine then_n ?_
        refine J_seq ?_
        refine J_region (by kernel_rfl) ?_
        (try simp only [go_sem, Nat.reduceEqDiff, ↓reduceIte])
        refine hold2 (then_n ?_)
        refine J_ret (fin_ret ?_)
        obtain rfl := Option.some.inj hP
        (try simp only [go_sem, Nat.reduceEqDiff, ↓reduceIte])
        exact fo []
/-- colander/colanderref11.pass -/
def ref11_pass_L9 (b1 : List (UInt8)) : Nat → Int → Option (Int)
  | 0, _ => none
  | k7 + 1, at6 =>
    if decide (at6 < (List.length b1 : Int)) then
      (ixL b1 at6).bind fun x10 =>
      (ref09_Space x10).bind fun r11 =>
      if r11 then
        ref11_pass_L9 b1 k7 (iadd .i64 at6 1)
      else
        some at6
    else
      some at6
def ref11_pass (b1 : List (UInt8)) (at2 : Int) : Option (Int) :=
  (ref11_pass_L9 b1 140737488355328 at2).bind fun j13 =>
    some j13
set_option maxRecDepth 100000 in
set_option maxHeartbeats 40000000 in
theorem ref11_pass_ok {b1 : List (UInt8)} {at2 : Int} {r : Int} (hP : ref11_pass b1 at2 = some r) : CallOK Tryd.prog 33 [.view 1 (List.map encB b1), .int .i64 at2] (.int .i64 r) [] := by
  unfold ref11_pass at hP
  refine co 19 [.tmp 4] Tryd.func33 ?_
  refine J_seq ?_
  refine J_region (by kernel_rfl) ?_
  (try simp only [go_sem, Nat.reduceEqDiff, ↓reduceIte])
  refine hold2 (then_n ?_)
  refine J_seq ?_
  obtain ⟨o12, hP, hQ9⟩ := bind_cases hP
  refine J_joinK0 (fun (s : Int) => envL [(1, .int .i64 s)]) (fun (s : Int) => []) (fun s => s = o12) ?_ ?_
  · clear hQ9
    refine J_block ?_
    refine J_loop (σ := Nat × Int) (fun (s : Nat × Int) => envL [(0, .view 1 (List.map encB b1)), (1, .int .i64 s.2)]) (fun (s : Nat × Int) => []) (fun s => ref11_pass_L9 b1 s.1 s.2 = some o12) (fun s => s.1) (140737488355328, at2) hP (so []) ?_
    rintro ⟨k7, at6⟩ hP
    dsimp only at hP ⊢
    cases k7 with
    | zero => simp [ref11_pass_L9] at hP
    | succ k7 =>
      simp only [ref11_pass_L9] at hP
      refine J_seq ?_
      refine J_seq ?_
      refine J_region (by kernel_rfl) ?_
      (try simp only [go_sem, Nat.reduceEqDiff, ↓reduceIte])
      rcases ite_cases hP with ⟨hc, hP⟩ | ⟨hc, hP⟩
      · refine guard_is hc ?_
        (try simp only [go_sem, Nat.reduceEqDiff, ↓reduceIte])
        obtain ⟨x10, hx10, hP⟩ := bind_cases hP
        refine ixV_of hx10 ?_
        (try simp only [go_sem, Nat.reduceEqDiff, ↓reduceIte])
        obtain ⟨r11, hr11, hP⟩ := bind_cases hP
        refine call_ok [.int .u8 (b2i x10)] (ref09_Space_ok hr11) ⟨argR_m false rfl, trivial⟩ ?_
        (try simp only [go_sem, Nat.reduceEqDiff, ↓reduceIte])
        refine hold2 (then_n ?_)
        refine J_condV rfl ?_
        (try simp only [go_sem, Nat.reduceEqDiff, ↓reduceIte])
        rcases ite_cases hP with ⟨hc, hP⟩ | ⟨hc, hP⟩
        · refine condV_t hc ?_
          refine J_skip (then_n ?_)
          refine J_block ?_
          refine J_region (by kernel_rfl) ?_
          (try simp only [go_sem, Nat.reduceEqDiff, ↓reduceIte])
          refine hold2 (block_n ?_)
          exact loop_n (k7, iadd .i64 at6 1) hP (Nat.lt_succ_self _) (so [])
        · refine condV_f hc ?_
          refine J_exit (then_exit (loop_exit (block_eq ?_)))
          exact join_n at6 (Option.some.inj hP) (so [])
      · refine guard_not hc ?_
        (try simp only [go_sem, Nat.reduceEqDiff, ↓reduceIte])
        refine hold2 (then_n ?_)
        refine J_condV rfl ?_
        (try simp only [go_sem, Nat.reduceEqDiff, ↓reduceIte])
        refine J_exit (then_exit (loop_exit (block_eq ?_)))
        exact join_n at6 (Option.some.inj hP) (so [])
  · intro j13 hs
    subst hs
    have hP := hQ9
    clear hQ9
    refine then_n ?_
    refine J_seq ?_
    refine J_region (by kernel_rfl) ?_
    (try simp only [go_sem, Nat.reduceEqDiff, ↓reduceIte])
    refine hold2 (then_n ?_)
    refine J_ret (fin_ret ?_)
    obtain rfl := Option.some.inj hP
    (try simp only [go_sem, Nat.reduceEqDiff, ↓reduceIte])
    exact fo []
/-- colander/colanderref11.Content -/
def ref11_Content_L121 (s1 : List UInt8) (r104 : Int) : Nat → Int → Option (Sum (Int) (Unit))
  | 0, _ => none
  | k117 + 1, k116 =>
    if decide (k116 < ((List.length s1 : Nat) : Int)) then
      (ixL s1 k116).bind fun x122 =>
      (ixL s1 r104).bind fun x123 =>
      if decide (b2i x122 = b2i x123) then
        (slL s1 (iadd .i64 r104 1) k116).bind fun s124 =>
        (ref09_Label s124).bind fun r125 =>
        some (Sum.inl r125)
      else
        ref11_Content_L121 s1 r104 k117 (iadd .i64 k116 1)
    else
      some (Sum.inr ())
def ref11_Content_L136 (s1 : List UInt8) : Nat → Int → Option (Int)
  | 0, _ => none
  | k133 + 1, k132 =>
    if decide (k132 < ((List.length s1 : Nat) : Int)) then
      (ixL s1 k132).bind fun x137 =>
      (ref09_Space x137).bind fun r138 =>
      if !r138 then
        (ixL s1 k132).bind fun x139 =>
        if !decide (b2i x139 = b2i (bC 59)) then
          ref11_Content_L136 s1 k133 (iadd .i64 k132 1)
        else
          some k132
      else
        some k132
    else
      some k132
def ref11_Content_L97 (s1 : List UInt8) : Nat → Int → Option (Sum (Int) (Unit))
  | 0, _ => none
  | k51 + 1, at50 =>
    if decide (at50 < ((List.length s1 : Nat) : Int)) then
      (ref11_begins s1 at50 [99, 104, 97, 114, 115, 101, 116]).bind fun r98 =>
      if !r98 then
        ref11_Content_L97 s1 k51 (iadd .i64 at50 1)
      else
        (ref11_pass s1 (iadd .i64 at50 7)).bind fun r99 =>
        (show Option (Bool) from
          if decide (r99 = ((List.length s1 : Nat) : Int)) then
            some true
          else
            (ixL s1 r99).bind fun x102 =>
            some (!decide (b2i x102 = b2i (bC 61)))).bind fun j103 =>
          if j103 then
            ref11_Content_L97 s1 k51 (iadd .i64 (isub .i64 r99 1) 1)
          else
            (ref11_pass s1 (iadd .i64 r99 1)).bind fun r104 =>
            (show Option (Bool) from
              if decide (r104 < ((List.length s1 : Nat) : Int)) then
                (ixL s1 r104).bind fun x108 =>
                if decide (b2i x108 = b2i (bC 34)) then
                  some true
                else
                  (ixL s1 r104).bind fun x109 =>
                  some (decide (b2i x109 = b2i (bC 39)))
              else
                some false).bind fun j110 =>
              if j110 then
                (ref11_Content_L121 s1 r104 140737488355328 (iadd .i64 r104 1)).bind fun o126 => match o126 with
                | Sum.inl r => some (Sum.inl r)
                | Sum.inr j127 =>
                  some (Sum.inl 0)
              else
                (ref11_Content_L136 s1 140737488355328 r104).bind fun j141 =>
                  (slL s1 r104 j141).bind fun s142 =>
                  (ref09_Label s142).bind fun r143 =>
                  some (Sum.inl r143)
    else
      some (Sum.inr ())
def ref11_Content (s1 : List UInt8) : Option (Int) :=
  (szC (List.length s1)).bind fun _ =>
  (ref11_Content_L97 s1 140737488355328 0).bind fun o144 => match o144 with
  | Sum.inl r => some r
  | Sum.inr j145 =>
    some 0
set_option maxRecDepth 100000 in
set_option maxHeartbeats 40000000 in
theorem ref11_Content_ok {s1 : List UInt8} {r : Int} (hP : ref11_Content s1 = some r) : CallOK Tryd.prog 14 [.str s1] (.int .i64 r) [] := by
  unfold ref11_Content at hP
  refine co 111 [.tmp 2] Tryd.func14 ?_
  refine J_seq ?_
  refine J_region (by kernel_rfl) ?_
  (try simp only [go_sem, Nat.reduceEqDiff, ↓reduceIte])
  refine hold2 (then_n ?_)
  refine J_seq ?_
  refine J_region (by kernel_rfl) ?_
  (try simp only [go_sem, Nat.reduceEqDiff, ↓reduceIte])
  obtain ⟨_, hz2, hP⟩ := bind_cases hP
  refine chk_of (szC_63 hz2) ?_
  (try simp only [go_sem, Nat.reduceEqDiff, ↓reduceIte])
  refine hold2 (then_n ?_)
  refine J_seq ?_
  refine J_seq ?_
  refine J_region (by kernel_rfl) ?_
  (try simp only [go_sem, Nat.reduceEqDiff, ↓reduceIte])
  refine hold2 (then_n ?_)
  obtain ⟨o144, hP, hQ97⟩ := bind_cases hP
  refine J_joinK0 (fun (s : Unit) => envL []) (fun (s : Unit) => []) (fun s => Sum.inr s = o144) ?_ ?_
  · refine J_block ?_
    refine J_loop (σ := Nat × Int) (fun (s : Nat × Int) => envL [(3, .own 0 0 0 (List.length s1)), (4, .int .i64 s.2)]) (fun (s : Nat × Int) => [.slice 0 5 1 (List.map encB s1)]) (fun s => ref11_Content_L97 s1 s.1 s.2 = some o144) (fun s => s.1) (140737488355328, 0) hP (so [0]) ?_
    rintro ⟨k51, at50⟩ hP
    dsimp only at hP ⊢
    cases k51 with
    | zero => simp [ref11_Content_L97] at hP
    | succ k51 =>
      simp only [ref11_Content_L97] at hP
      refine J_seq ?_
      refine J_seq ?_
      refine J_region (by kernel_rfl) ?_
      (try simp only [go_sem, Nat.reduceEqDiff, ↓reduceIte])
      refine hold2 (then_n ?_)
      refine J_condV rfl ?_
      (try simp only [go_sem, Nat.reduceEqDiff, ↓reduceIte])
      rcases ite_cases hP with ⟨hc, hP⟩ | ⟨hc, hP⟩
      · refine condV_t hc ?_
        refine J_skip (then_n ?_)
        refine J_seq ?_
        refine J_block ?_
        refine J_seq ?_
        refine J_seq ?_
        refine J_region (by kernel_rfl) ?_
        (try simp only [go_sem, Nat.reduceEqDiff, ↓reduceIte])
        obtain ⟨r98, hr98, hP⟩ := bind_cases hP
        refine call_ok [.view 1 (List.map encB s1), .int .i64 at50, .str [99, 104, 97, 114, 115, 101, 116]] (ref11_begins_ok hr98) ⟨argR_m false (by simp only [arg, go_sem, Nat.reduceEqDiff, ↓reduceIte]), argR_m false rfl, argR_m false rfl, trivial⟩ ?_
        (try simp only [go_sem, Nat.reduceEqDiff, ↓reduceIte])
        refine hold2 (then_n ?_)
        refine J_condV rfl ?_
        (try simp only [go_sem, Nat.reduceEqDiff, ↓reduceIte])
        rcases ite_cases hP with ⟨hc, hP⟩ | ⟨hc, hP⟩
        · refine condV_t hc ?_
          refine J_exit (then_exit (block_eq (then_n ?_)))
          refine J_region (by kernel_rfl) ?_
          (try simp only [go_sem, Nat.reduceEqDiff, ↓reduceIte])
          refine hold2 ?_
          exact loop_n (k51, iadd .i64 at50 1) hP (Nat.lt_succ_self _) (so [0])
        · refine condV_f hc ?_
          refine J_skip (then_n ?_)
          refine J_seq ?_
          refine J_region (by kernel_rfl) ?_
          (try simp only [go_sem, Nat.reduceEqDiff, ↓reduceIte])
          obtain ⟨r99, hr99, hP⟩ := bind_cases hP
          refine call_ok [.view 1 (List.map encB s1), .int .i64 (iadd .i64 at50 7)] (ref11_pass_ok hr99) ⟨argR_m false (by simp only [arg, go_sem, Nat.reduceEqDiff, ↓reduceIte]), argR_m false rfl, trivial⟩ ?_
          (try simp only [go_sem, Nat.reduceEqDiff, ↓reduceIte])
          refine hold2 (then_n ?_)
          refine J_seq ?_
          obtain ⟨o101, hP, hQ101⟩ := bind_cases hP
          refine J_join (fun (s : Bool) => envL [(3, .own 0 0 0 (List.length s1)), (5, .int .i64 r99), (34, .bool s)]) (fun (s : Bool) => [.slice 0 5 1 (List.map encB s1)]) (fun s => s = o101) ?_ ?_
          · clear hQ101
            refine J_region (by kernel_rfl) ?_
            (try simp only [go_sem, Nat.reduceEqDiff, ↓reduceIte])
            rcases ite_cases hP with ⟨hc, hP⟩ | ⟨hc, hP⟩
            · refine guard_not hc ?_
              (try simp only [go_sem, Nat.reduceEqDiff, ↓reduceIte])
              refine hold2 ?_
              exact join_n true (Option.some.inj hP) (so [0])
            · refine guard_is hc ?_
              (try simp only [go_sem, Nat.reduceEqDiff, ↓reduceIte])
              obtain ⟨x102, hx102, hP⟩ := bind_cases hP
              refine ixO_of hx102 ?_
              (try simp only [go_sem, Nat.reduceEqDiff, ↓reduceIte])
              refine getK_of (f := encB) hx102 ?_
              (try simp only [go_sem, Nat.reduceEqDiff, ↓reduceIte])
              refine hold2 ?_
              exact join_n (!decide (b2i x102 = b2i (bC 61))) (Option.some.inj hP) (so [0])
          · intro j103 hs
            subst hs
            have hP := hQ101
            clear hQ101
            refine J_condV rfl ?_
            (try simp only [go_sem, Nat.reduceEqDiff, ↓reduceIte])
            rcases ite_cases hP with ⟨hc, hP⟩ | ⟨hc, hP⟩
            · refine condV_t hc ?_
              refine J_seq ?_
              refine J_region (by kernel_rfl) ?_
              (try simp only [go_sem, Nat.reduceEqDiff, ↓reduceIte])
              refine hold2 (then_n ?_)
              refine J_exit (then_exit (block_eq (then_n ?_)))
              refine J_region (by kernel_rfl) ?_
              (try simp only [go_sem, Nat.reduceEqDiff, ↓reduceIte])
              refine hold2 ?_
              exact loop_n (k51, iadd .i64 (isub .i64 r99 1) 1) hP (Nat.lt_succ_self _) (so [0])
            · refine condV_f hc ?_
              refine J_skip (then_n ?_)
              refine J_seq ?_
              refine J_region (by kernel_rfl) ?_
              (try simp only [go_sem, Nat.reduceEqDiff, ↓reduceIte])
              obtain ⟨r104, hr104, hP⟩ := bind_cases hP
              refine call_ok [.view 1 (List.map encB s1), .int .i64 (iadd .i64 r99 1)] (ref11_pass_ok hr104) ⟨argR_m false (by simp only [arg, go_sem, Nat.reduceEqDiff, ↓reduceIte]), argR_m false rfl, trivial⟩ ?_
              (try simp only [go_sem, Nat.reduceEqDiff, ↓reduceIte])
              refine hold2 (then_n ?_)
              refine J_seq ?_
              obtain ⟨o107, hP, hQ107⟩ := bind_cases hP
              refine J_join (fun (s : Bool) => envL [(3, .own 0 0 0 (List.length s1)), (5, .int .i64 r104), (58, .bool s)]) (fun (s : Bool) => [.slice 0 5 1 (List.map encB s1)]) (fun s => s = o107) ?_ ?_
              · clear hQ107
                refine J_region (by kernel_rfl) ?_
                (try simp only [go_sem, Nat.reduceEqDiff, ↓reduceIte])
                rcases ite_cases hP with ⟨hc, hP⟩ | ⟨hc, hP⟩
                · refine guard_is hc ?_
                  (try simp only [go_sem, Nat.reduceEqDiff, ↓reduceIte])
                  obtain ⟨x108, hx108, hP⟩ := bind_cases hP
                  refine ixO_of hx108 ?_
                  (try simp only [go_sem, Nat.reduceEqDiff, ↓reduceIte])
                  refine getK_of (f := encB) hx108 ?_
                  (try simp only [go_sem, Nat.reduceEqDiff, ↓reduceIte])
                  rcases ite_cases hP with ⟨hc, hP⟩ | ⟨hc, hP⟩
                  · refine guard_not hc ?_
                    (try simp only [go_sem, Nat.reduceEqDiff, ↓reduceIte])
                    refine hold2 ?_
                    exact join_n true (Option.some.inj hP) (so [0])
                  · refine guard_is hc ?_
                    (try simp only [go_sem, Nat.reduceEqDiff, ↓reduceIte])
                    obtain ⟨x109, hx109, hP⟩ := bind_cases hP
                    refine ixO_of hx109 ?_
                    (try simp only [go_sem, Nat.reduceEqDiff, ↓reduceIte])
                    refine getK_of (f := encB) hx109 ?_
                    (try simp only [go_sem, Nat.reduceEqDiff, ↓reduceIte])
                    refine hold2 ?_
                    exact join_n (decide (b2i x109 = b2i (bC 39))) (Option.some.inj hP) (so [0])
                · refine guard_not hc ?_
                  (try simp only [go_sem, Nat.reduceEqDiff, ↓reduceIte])
                  refine hold2 ?_
                  exact join_n false (Option.some.inj hP) (so [0])
              · intro j110 hs
                subst hs
                have hP := hQ107
                clear hQ107
                refine J_condV rfl ?_
                (try simp only [go_sem, Nat.reduceEqDiff, ↓reduceIte])
                rcases ite_cases hP with ⟨hc, hP⟩ | ⟨hc, hP⟩
                · refine condV_t hc ?_
                  refine J_seq ?_
                  refine J_seq ?_
                  refine J_region (by kernel_rfl) ?_
                  (try simp only [go_sem, Nat.reduceEqDiff, ↓reduceIte])
                  refine hold2 (then_n ?_)
                  obtain ⟨o126, hP, hQ121⟩ := bind_cases hP
                  refine J_joinK0 (fun (s : Unit) => envL []) (fun (s : Unit) => []) (fun s => Sum.inr s = o126) ?_ ?_
                  · refine J_block ?_
                    refine J_loop (σ := Nat × Int) (fun (s : Nat × Int) => envL [(3, .own 0 0 0 (List.length s1)), (5, .int .i64 r104), (6, .int .i64 s.2)]) (fun (s : Nat × Int) => [.slice 0 5 1 (List.map encB s1)]) (fun s => ref11_Content_L121 s1 r104 s.1 s.2 = some o126) (fun s => s.1) (140737488355328, iadd .i64 r104 1) hP (so [0]) ?_
                    rintro ⟨k117, k116⟩ hP
                    dsimp only at hP ⊢
                    cases k117 with
                    | zero => simp [ref11_Content_L121] at hP
                    | succ k117 =>
                      simp only [ref11_Content_L121] at hP
                      refine J_seq ?_
                      refine J_seq ?_
                      refine J_region (by kernel_rfl) ?_
                      (try simp only [go_sem, Nat.reduceEqDiff, ↓reduceIte])
                      refine hold2 (then_n ?_)
                      refine J_condV rfl ?_
                      (try simp only [go_sem, Nat.reduceEqDiff, ↓reduceIte])
                      rcases ite_cases hP with ⟨hc, hP⟩ | ⟨hc, hP⟩
                      · refine condV_t hc ?_
                        refine J_skip (then_n ?_)
                        refine J_seq ?_
                        refine J_block ?_
                        refine J_seq ?_
                        refine J_regionq follows_mixed (by kernel_rfl) (by kernel_rfl) ?_
                        (try simp only [go_sem, Nat.reduceEqDiff, ↓reduceIte])
                        obtain ⟨x122, hx122, hP⟩ := bind_cases hP
                        refine ixO_of hx122 ?_
                        (try simp only [go_sem, Nat.reduceEqDiff, ↓reduceIte])
                        refine getK_of (f := encB) hx122 ?_
                        (try simp only [go_sem, Nat.reduceEqDiff, ↓reduceIte])
                        obtain ⟨x123, hx123, hP⟩ := bind_cases hP
                        refine ixO_of hx123 ?_
                        (try simp only [go_sem, Nat.reduceEqDiff, ↓reduceIte])
                        refine getK_of (f := encB) hx123 ?_
                        (try simp only [go_sem, Nat.reduceEqDiff, ↓reduceIte])
                        refine hold2 (then_n ?_)
                        refine J_condV rfl ?_
                        (try simp only [go_sem, Nat.reduceEqDiff, ↓reduceIte])
                        rcases ite_cases hP with ⟨hc, hP⟩ | ⟨hc, hP⟩
                        · refine condV_t hc ?_
                          refine J_seq ?_
                          refine J_region (by kernel_rfl) ?_
                          (try simp only [go_sem, Nat.reduceEqDiff, ↓reduceIte])
                          obtain ⟨s124, hs124, hP⟩ := bind_cases hP
                          refine slO_of hs124 ?_
                          (try simp only [go_sem, Nat.reduceEqDiff, ↓reduceIte])
                          simp only [own_cut hs124, go_sem, Nat.reduceEqDiff, ↓reduceIte]
                          first | refine bytesK_map ?_ | refine bytesK_of s124 rfl ?_
                          (try simp only [go_sem, Nat.reduceEqDiff, ↓reduceIte])
                          obtain ⟨r125, hr125, hP⟩ := bind_cases hP
                          refine call_ok [.str s124] (ref09_Label_ok hr125) ⟨argR_m false rfl, trivial⟩ ?_
                          (try simp only [go_sem, Nat.reduceEqDiff, ↓reduceIte])
                          refine hold2 (then_n ?_)
                          refine J_ret (block_ret (then_ret (loop_ret (block_ret (join_ret (then_ret (then_ret (block_ret (then_ret (loop_ret (block_ret (join_ret (then_ret (fin_ret ?_))))))))))))))
                          obtain rfl := Option.some.inj hP
                          have hP := hQ121
                          dsimp only at hP
                          obtain rfl := Option.some.inj hP
                          have hP := hQ97
                          dsimp only at hP
                          obtain rfl := Option.some.inj hP
                          (try simp only [go_sem, Nat.reduceEqDiff, ↓reduceIte])
                          exact fo []
                        · refine condV_f hc ?_
                          refine J_skip (block_n (then_n ?_))
                          refine J_region (by kernel_rfl) ?_
                          (try simp only [go_sem, Nat.reduceEqDiff, ↓reduceIte])
                          refine hold2 ?_
                          exact loop_n (k117, iadd .i64 k116 1) hP (Nat.lt_succ_self _) (so [0])
                      · refine condV_f hc ?_
                        refine J_exit (then_exit (loop_exit (block_eq ?_)))
                        exact join_n () (Option.some.inj hP) (so [])
                  · intro j127 hs
                    subst hs
                    have hP := hQ121
                    dsimp only at hP
                    clear hQ121
                    refine then_n ?_
                    refine J_seq ?_
                    refine J_region (by kernel_rfl) ?_
                    (try simp only [go_sem, Nat.reduceEqDiff, ↓reduceIte])
                    refine hold2 (then_n ?_)
                    refine J_ret (then_ret (block_ret (then_ret (loop_ret (block_ret (join_ret (then_ret (fin_ret ?_))))))))
                    obtain rfl := Option.some.inj hP
                    have hP := hQ97
                    dsimp only at hP
                    obtain rfl := Option.some.inj hP
                    (try simp only [go_sem, Nat.reduceEqDiff, ↓reduceIte])
                    exact fo []
                · refine condV_f hc ?_
                  refine J_skip (then_n ?_)
                  refine J_seq ?_
                  refine J_region (by kernel_rfl) ?_
                  (try simp only [go_sem, Nat.reduceEqDiff, ↓reduceIte])
                  refine hold2 (then_n ?_)
                  refine J_seq ?_
                  obtain ⟨o140, hP, hQ136⟩ := bind_cases hP
                  refine J_joinK0 (fun (s : Int) => envL [(3, .own 0 0 0 (List.length s1)), (5, .int .i64 r104), (7, .int .i64 s)]) (fun (s : Int) => [.slice 0 5 1 (List.map encB s1)]) (fun s => s = o140) ?_ ?_
                  · clear hQ136
                    refine J_block ?_
                    refine J_loop (σ := Nat × Int) (fun (s : Nat × Int) => envL [(3, .own 0 0 0 (List.length s1)), (5, .int .i64 r104), (7, .int .i64 s.2)]) (fun (s : Nat × Int) => [.slice 0 5 1 (List.map encB s1)]) (fun s => ref11_Content_L136 s1 s.1 s.2 = some o140) (fun s => s.1) (140737488355328, r104) hP (so [0]) ?_
                    rintro ⟨k133, k132⟩ hP
                    dsimp only at hP ⊢
                    cases k133 with
                    | zero => simp [ref11_Content_L136] at hP
                    | succ k133 =>
                      simp only [ref11_Content_L136] at hP
                      refine J_seq ?_
                      refine J_seq ?_
                      refine J_region (by kernel_rfl) ?_
                      (try simp only [go_sem, Nat.reduceEqDiff, ↓reduceIte])
                      rcases ite_cases hP with ⟨hc, hP⟩ | ⟨hc, hP⟩
                      · refine guard_is hc ?_
                        (try simp only [go_sem, Nat.reduceEqDiff, ↓reduceIte])
                        obtain ⟨x137, hx137, hP⟩ := bind_cases hP
                        refine ixO_of hx137 ?_
                        (try simp only [go_sem, Nat.reduceEqDiff, ↓reduceIte])
                        refine getK_of (f := encB) hx137 ?_
                        (try simp only [go_sem, Nat.reduceEqDiff, ↓reduceIte])
                        obtain ⟨r138, hr138, hP⟩ := bind_cases hP
                        refine call_ok [.int .u8 (b2i x137)] (ref09_Space_ok hr138) ⟨argR_m false rfl, trivial⟩ ?_
                        (try simp only [go_sem, Nat.reduceEqDiff, ↓reduceIte])
                        rcases ite_cases hP with ⟨hc, hP⟩ | ⟨hc, hP⟩
                        · refine guard_is hc ?_
                          (try simp only [go_sem, Nat.reduceEqDiff, ↓reduceIte])
                          obtain ⟨x139, hx139, hP⟩ := bind_cases hP
                          refine ixO_of hx139 ?_
                          (try simp only [go_sem, Nat.reduceEqDiff, ↓reduceIte])
                          refine getK_of (f := encB) hx139 ?_
                          (try simp only [go_sem, Nat.reduceEqDiff, ↓reduceIte])
                          refine hold2 (then_n ?_)
                          refine J_condV rfl ?_
                          (try simp only [go_sem, Nat.reduceEqDiff, ↓reduceIte])
                          rcases ite_cases hP with ⟨hc, hP⟩ | ⟨hc, hP⟩
                          · refine condV_t hc ?_
                            refine J_skip (then_n ?_)
                            refine J_block ?_
                            refine J_region (by kernel_rfl) ?_
                            (try simp only [go_sem, Nat.reduceEqDiff, ↓reduceIte])
                            refine hold2 (block_n ?_)
                            exact loop_n (k133, iadd .i64 k132 1) hP (Nat.lt_succ_self _) (so [0])
                          · refine condV_f hc ?_
                            refine J_exit (then_exit (loop_exit (block_eq ?_)))
                            exact join_n k132 (Option.some.inj hP) (so [0])
                        · refine guard_not hc ?_
                          (try simp only [go_sem, Nat.reduceEqDiff, ↓reduceIte])
                          refine hold2 (then_n ?_)
                          refine J_condV rfl ?_
                          (try simp only [go_sem, Nat.reduceEqDiff, ↓reduceIte])
                          refine J_exit (then_exit (loop_exit (block_eq ?_)))
                          exact join_n k132 (Option.some.inj hP) (so [0])
                      · refine guard_not hc ?_
                        (try simp only [go_sem, Nat.reduceEqDiff, ↓reduceIte])
                        refine hold2 (then_n ?_)
                        refine J_condV rfl ?_
                        (try simp only [go_sem, Nat.reduceEqDiff, ↓reduceIte])
                        refine J_exit (then_exit (loop_exit (block_eq ?_)))
                        exact join_n k132 (Option.some.inj hP) (so [0])
                  · intro j141 hs
                    subst hs
                    have hP := hQ136
                    clear hQ136
                    refine then_n ?_
                    refine J_seq ?_
                    refine J_region (by kernel_rfl) ?_
                    (try simp only [go_sem, Nat.reduceEqDiff, ↓reduceIte])
                    obtain ⟨s142, hs142, hP⟩ := bind_cases hP
                    refine slO_of hs142 ?_
                    (try simp only [go_sem, Nat.reduceEqDiff, ↓reduceIte])
                    simp only [own_cut hs142, go_sem, Nat.reduceEqDiff, ↓reduceIte]
                    first | refine bytesK_map ?_ | refine bytesK_of s142 rfl ?_
                    (try simp only [go_sem, Nat.reduceEqDiff, ↓reduceIte])
                    obtain ⟨r143, hr143, hP⟩ := bind_cases hP
                    refine call_ok [.str s142] (ref09_Label_ok hr143) ⟨argR_m false rfl, trivial⟩ ?_
                    (try simp only [go_sem, Nat.reduceEqDiff, ↓reduceIte])
                    refine hold2 (then_n ?_)
                    refine J_ret (block_ret (then_ret (loop_ret (block_ret (join_ret (then_ret (fin_ret ?_)))))))
                    obtain rfl := Option.some.inj hP
                    have hP := hQ97
                    dsimp only at hP
                    obtain rfl := Option.some.inj hP
                    (try simp only [go_sem, Nat.reduceEqDiff, ↓reduceIte])
                    exact fo []
      · refine condV_f hc ?_
        refine J_exit (then_exit (loop_exit (block_eq ?_)))
        exact join_n () (Option.some.inj hP) (so [])
  · intro j145 hs
    subst hs
    have hP := hQ97
    dsimp only at hP
    clear hQ97
    refine then_n ?_
    refine J_seq ?_
    refine J_region (by kernel_rfl) ?_
    (try simp only [go_sem, Nat.reduceEqDiff, ↓reduceIte])
    refine hold2 (then_n ?_)
    refine J_ret (fin_ret ?_)
    obtain rfl := Option.some.inj hP
    (try simp only [go_sem, Nat.reduceEqDiff, ↓reduceIte])
    exact fo []
/-- colander/colanderref11.close -/
def ref11_close_L22 (b1 : List (UInt8)) (dashes3 : Bool) : Nat → Int → Option (Sum (Int) (Unit))
  | 0, _ => none
  | k14 + 1, i13 =>
    if decide (i13 < (List.length b1 : Int)) then
      (show Option (Bool) from
        (ixL b1 i13).bind fun x27 =>
        if decide (b2i x27 = b2i (bC 62)) then
          if !dashes3 then
            some true
          else
            (ixL b1 (isub .i64 i13 1)).bind fun x28 =>
            if decide (b2i x28 = b2i (bC 45)) then
              (ixL b1 (isub .i64 i13 2)).bind fun x29 =>
              some (decide (b2i x29 = b2i (bC 45)))
            else
              some false
        else
          some false).bind fun j30 =>
        if j30 then
          some (Sum.inl i13)
        else
          ref11_close_L22 b1 dashes3 k14 (iadd .i64 i13 1)
    else
      some (Sum.inr ())
def ref11_close (b1 : List (UInt8)) (at2 : Int) (dashes3 : Bool) : Option (Int) :=
  (ref11_close_L22 b1 dashes3 140737488355328 at2).bind fun o31 => match o31 with
  | Sum.inl r => some r
  | Sum.inr j32 =>
    some (-1)
set_option maxRecDepth 100000 in
set_option maxHeartbeats 40000000 in
theorem ref11_close_ok {b1 : List (UInt8)} {at2 : Int} {dashes3 : Bool} {r : Int} (hP : ref11_close b1 at2 dashes3 = some r) : CallOK Tryd.prog 38 [.view 1 (List.map encB b1), .int .i64 at2, .bool dashes3] (.int .i64 r) [] := by
  unfold ref11_close at hP
  refine co 41 [.tmp 6] Tryd.func38 ?_
  refine J_seq ?_
  refine J_region (by kernel_rfl) ?_
  (try simp only [go_sem, Nat.reduceEqDiff, ↓reduceIte])
  refine hold2 (then_n ?_)
  refine J_seq ?_
  refine J_seq ?_
  refine J_region (by kernel_rfl) ?_
  (try simp only [go_sem, Nat.reduceEqDiff, ↓reduceIte])
  refine hold2 (then_n ?_)
  obtain ⟨o31, hP, hQ22⟩ := bind_cases hP
  refine J_joinK0 (fun (s : Unit) => envL []) (fun (s : Unit) => []) (fun s => Sum.inr s = o31) ?_ ?_
  · refine J_block ?_
    refine J_loop (σ := Nat × Int) (fun (s : Nat × Int) => envL [(0, .view 1 (List.map encB b1)), (2, .bool dashes3), (7, .int .i64 s.2)]) (fun (s : Nat × Int) => []) (fun s => ref11_close_L22 b1 dashes3 s.1 s.2 = some o31) (fun s => s.1) (140737488355328, at2) hP (so []) ?_
    rintro ⟨k14, i13⟩ hP
    dsimp only at hP ⊢
    cases k14 with
    | zero => simp [ref11_close_L22] at hP
    | succ k14 =>
      simp only [ref11_close_L22] at hP
      refine J_seq ?_
      refine J_seq ?_
      refine J_region (by kernel_rfl) ?_
      (try simp only [go_sem, Nat.reduceEqDiff, ↓reduceIte])
      refine hold2 (then_n ?_)
      refine J_condV rfl ?_
      (try simp only [go_sem, Nat.reduceEqDiff, ↓reduceIte])
      rcases ite_cases hP with ⟨hc, hP⟩ | ⟨hc, hP⟩
      · refine condV_t hc ?_
        refine J_skip (then_n ?_)
        refine J_seq ?_
        refine J_block ?_
        obtain ⟨o26, hP, hQ26⟩ := bind_cases hP
        refine J_join (fun (s : Bool) => envL [(0, .view 1 (List.map encB b1)), (2, .bool dashes3), (7, .int .i64 i13), (39, .bool s)]) (fun (s : Bool) => []) (fun s => s = o26) ?_ ?_
        · clear hQ26
          refine J_region (by kernel_rfl) ?_
          (try simp only [go_sem, Nat.reduceEqDiff, ↓reduceIte])
          obtain ⟨x27, hx27, hP⟩ := bind_cases hP
          refine ixV_of hx27 ?_
          (try simp only [go_sem, Nat.reduceEqDiff, ↓reduceIte])
          rcases ite_cases hP with ⟨hc, hP⟩ | ⟨hc, hP⟩
          · refine guard_is hc ?_
            (try simp only [go_sem, Nat.reduceEqDiff, ↓reduceIte])
            rcases ite_cases hP with ⟨hc, hP⟩ | ⟨hc, hP⟩
            · refine guard_not hc ?_
              (try simp only [go_sem, Nat.reduceEqDiff, ↓reduceIte])
              refine hold2 ?_
              exact join_n true (Option.some.inj hP) (so [])
            · refine guard_is hc ?_
              (try simp only [go_sem, Nat.reduceEqDiff, ↓reduceIte])
              obtain ⟨x28, hx28, hP⟩ := bind_cases hP
              refine ixV_of hx28 ?_
              (try simp only [go_sem, Nat.reduceEqDiff, ↓reduceIte])
              rcases ite_cases hP with ⟨hc, hP⟩ | ⟨hc, hP⟩
              · refine guard_is hc ?_
                (try simp only [go_sem, Nat.reduceEqDiff, ↓reduceIte])
                obtain ⟨x29, hx29, hP⟩ := bind_cases hP
                refine ixV_of hx29 ?_
                (try simp only [go_sem, Nat.reduceEqDiff, ↓reduceIte])
                refine hold2 ?_
                exact join_n (decide (b2i x29 = b2i (bC 45))) (Option.some.inj hP) (so [])
              · refine guard_not hc ?_
                (try simp only [go_sem, Nat.reduceEqDiff, ↓reduceIte])
                refine hold2 ?_
                exact join_n false (Option.some.inj hP) (so [])
          · refine guard_not hc ?_
            (try simp only [go_sem, Nat.reduceEqDiff, ↓reduceIte])
            refine hold2 ?_
            exact join_n false (Option.some.inj hP) (so [])
        · intro j30 hs
          subst hs
          have hP := hQ26
          clear hQ26
          refine J_condV rfl ?_
          (try simp only [go_sem, Nat.reduceEqDiff, ↓reduceIte])
          rcases ite_cases hP with ⟨hc, hP⟩ | ⟨hc, hP⟩
          · refine condV_t hc ?_
            refine J_seq ?_
            refine J_region (by kernel_rfl) ?_
            (try simp only [go_sem, Nat.reduceEqDiff, ↓reduceIte])
            refine hold2 (then_n ?_)
            refine J_ret (block_ret (then_ret (loop_ret (block_ret (join_ret (then_ret (fin_ret ?_)))))))
            obtain rfl := Option.some.inj hP
            have hP := hQ22
            dsimp only at hP
            obtain rfl := Option.some.inj hP
            (try simp only [go_sem, Nat.reduceEqDiff, ↓reduceIte])
            exact fo []
          · refine condV_f hc ?_
            refine J_skip (block_n (then_n ?_))
            refine J_region (by kernel_rfl) ?_
            (try simp only [go_sem, Nat.reduceEqDiff, ↓reduceIte])
            refine hold2 ?_
            exact loop_n (k14, iadd .i64 i13 1) hP (Nat.lt_succ_self _) (so [])
      · refine condV_f hc ?_
        refine J_exit (then_exit (loop_exit (block_eq ?_)))
        exact join_n () (Option.some.inj hP) (so [])
  · intro j32 hs
    subst hs
    have hP := hQ22
    dsimp only at hP
    clear hQ22
    refine then_n ?_
    refine J_seq ?_
    refine J_region (by kernel_rfl) ?_
    (try simp only [go_sem, Nat.reduceEqDiff, ↓reduceIte])
    refine hold2 (then_n ?_)
    refine J_ret (fin_ret ?_)
    obtain rfl := Option.some.inj hP
    (try simp only [go_sem, Nat.reduceEqDiff, ↓reduceIte])
    exact fo []
/-- colander/colanderref11.attr -/
def ref11_attr_L11 (b1 : List (UInt8)) : Nat → Int → Option (Int)
  | 0, _ => none
  | k8 + 1, at7 =>
    if decide (at7 < (List.length b1 : Int)) then
      (ixL b1 at7).bind fun x12 =>
      (ref09_Space x12).bind fun r13 =>
      if r13 then
        ref11_attr_L11 b1 k8 (iadd .i64 at7 1)
      else
        (ixL b1 at7).bind fun x14 =>
        if decide (b2i x14 = b2i (bC 47)) then
          ref11_attr_L11 b1 k8 (iadd .i64 at7 1)
        else
          some at7
    else
      some at7
def ref11_attr_L30 (b1 : List (UInt8)) (j16 : Int) : Nat → Int → Option (Int)
  | 0, _ => none
  | k25 + 1, at24 =>
    if decide (at24 < (List.length b1 : Int)) then
      (ixL b1 at24).bind fun x31 =>
      (ref09_Space x31).bind fun r32 =>
      if !r32 then
        (ixL b1 at24).bind fun x33 =>
        if !decide (b2i x33 = b2i (bC 47)) then
          (ixL b1 at24).bind fun x34 =>
          if !decide (b2i x34 = b2i (bC 62)) then
            (ixL b1 at24).bind fun x35 =>
            if !decide (b2i x35 = b2i (bC 61)) then
              ref11_attr_L30 b1 j16 k25 (iadd .i64 at24 1)
            else
              if decide (at24 = j16) then
                ref11_attr_L30 b1 j16 k25 (iadd .i64 at24 1)
              else
                some at24
          else
            some at24
        else
          some at24
      else
        some at24
    else
      some at24
def ref11_attr_L55 (b1 : List (UInt8)) (x44 : UInt8) (r42 : Int) (r39 : (List UInt8)) : Nat → Int → Option (Sum (((List UInt8) × (List UInt8) × Int × Bool × Bool)) (Unit))
  | 0, _ => none
  | k52 + 1, k51 =>
    if decide (k51 < (List.length b1 : Int)) then
      (ixL b1 k51).bind fun x56 =>
      if decide (b2i x56 = b2i x44) then
        (slL b1 (iadd .i64 r42 1) k51).bind fun s57 =>
        (ref09_Lower s57).bind fun r58 =>
        some (Sum.inl (r39, r58, iadd .i64 k51 1, false, false))
      else
        ref11_attr_L55 b1 x44 r42 r39 k52 (iadd .i64 k51 1)
    else
      some (Sum.inr ())
def ref11_attr_L69 (b1 : List (UInt8)) : Nat → Int → Option (Int)
  | 0, _ => none
  | k66 + 1, at65 =>
    if decide (at65 < (List.length b1 : Int)) then
      (ixL b1 at65).bind fun x70 =>
      (ref09_Space x70).bind fun r71 =>
      if !r71 then
        (ixL b1 at65).bind fun x72 =>
        if !decide (b2i x72 = b2i (bC 62)) then
          ref11_attr_L69 b1 k66 (iadd .i64 at65 1)
        else
          some at65
      else
        some at65
    else
      some at65
def ref11_attr (b1 : List (UInt8)) (at2 : Int) : Option (((List UInt8) × (List UInt8) × Int × Bool × Bool)) :=
  (ref11_attr_L11 b1 140737488355328 at2).bind fun j16 =>
    if decide (j16 = (List.length b1 : Int)) then
      some ([], [], 0, true, false)
    else
      (ixL b1 j16).bind fun x17 =>
      if decide (b2i x17 = b2i (bC 62)) then
        some ([], [], j16, false, true)
      else
        (ref11_attr_L30 b1 j16 140737488355328 j16).bind fun j37 =>
          (slL b1 j16 j37).bind fun s38 =>
          (ref09_Lower s38).bind fun r39 =>
          (ref11_pass b1 j37).bind fun r40 =>
          if decide (r40 = (List.length b1 : Int)) then
            some ([], [], 0, true, false)
          else
            (ixL b1 r40).bind fun x41 =>
            if !decide (b2i x41 = b2i (bC 61)) then
              some (r39, [], r40, false, false)
            else
              (ref11_pass b1 (iadd .i64 r40 1)).bind fun r42 =>
              if decide (r42 = (List.length b1 : Int)) then
                some ([], [], 0, true, false)
              else
                (ixL b1 r42).bind fun x43 =>
                if decide (b2i x43 = b2i (bC 62)) then
                  some (r39, [], r42, false, false)
                else
                  (ixL b1 r42).bind fun x44 =>
                  (show Option (Bool) from
                    if decide (b2i x44 = b2i (bC 34)) then
                      some true
                    else
                      some (decide (b2i x44 = b2i (bC 39)))).bind fun j46 =>
                    if j46 then
                      (ref11_attr_L55 b1 x44 r42 r39 140737488355328 (iadd .i64 r42 1)).bind fun o59 => match o59 with
                      | Sum.inl r => some r
                      | Sum.inr j60 =>
                        some ([], [], 0, true, false)
                    else
                      (ref11_attr_L69 b1 140737488355328 r42).bind fun j74 =>
                        if decide (j74 = (List.length b1 : Int)) then
                          some ([], [], 0, true, false)
                        else
                          (slL b1 r42 j74).bind fun s75 =>
                          (ref09_Lower s75).bind fun r76 =>
                          some (r39, r76, j74, false, false)
set_option maxRecDepth 100000 in
set_option maxHeartbeats 40000000 in
theorem ref11_attr_ok {b1 : List (UInt8)} {at2 : Int} {r : ((List UInt8) × (List UInt8) × Int × Bool × Bool)} (hP : ref11_attr b1 at2 = some r) : CallOK Tryd.prog 41 [.view 1 (List.map encB b1), .int .i64 at2] (.agg [.str r.1, .str r.2.1, .int .i64 r.2.2.1, .bool r.2.2.2.1, .bool r.2.2.2.2]) [] := by
  unfold ref11_attr at hP
  refine co (hvo := (by first | (intro o ho; simp at ho; done) | (simp [vfO, AV.vf, AV.vfL, encB, encI, encS, encO, enc_colanderref11_Attr]; done) | (simp [vfO, AV.vf, AV.vfL, encB, encI, encS, encO, enc_colanderref11_Attr]; intros; subst_vars; simp [AV.vf, AV.vfL]))) 193 [.cell 4 60] Tryd.func41 ?_
  refine J_seq ?_
  refine J_region (by kernel_rfl) ?_
  (try simp only [go_sem, Nat.reduceEqDiff, ↓reduceIte])
  refine hold2 (then_n ?_)
  refine J_seq ?_
  obtain ⟨o15, hP, hQ11⟩ := bind_cases hP
  refine J_joinK0 (fun (s : Int) => envL [(0, .view 1 (List.map encB b1)), (1, .int .i64 s), (4, .bptr 0 0)]) (fun (s : Int) => [.box 60 [.str [], .str [], .int .i64 0, .bool false, .bool false]]) (fun s => s = o15) ?_ ?_
  · clear hQ11
    refine J_block ?_
    refine J_loop (σ := Nat × Int) (fun (s : Nat × Int) => envL [(0, .view 1 (List.map encB b1)), (1, .int .i64 s.2), (4, .bptr 0 0)]) (fun (s : Nat × Int) => [.box 60 [.str [], .str [], .int .i64 0, .bool false, .bool false]]) (fun s => ref11_attr_L11 b1 s.1 s.2 = some o15) (fun s => s.1) (140737488355328, at2) hP (so [0]) ?_
    rintro ⟨k8, at7⟩ hP
    dsimp only at hP ⊢
    cases k8 with
    | zero => simp [ref11_attr_L11] at hP
    | succ k8 =>
      simp only [ref11_attr_L11] at hP
      refine J_seq ?_
      refine J_seq ?_
      refine J_region (by kernel_rfl) ?_
      (try simp only [go_sem, Nat.reduceEqDiff, ↓reduceIte])
      rcases ite_cases hP with ⟨hc, hP⟩ | ⟨hc, hP⟩
      · refine guard_is hc ?_
        (try simp only [go_sem, Nat.reduceEqDiff, ↓reduceIte])
        obtain ⟨x12, hx12, hP⟩ := bind_cases hP
        refine ixV_of hx12 ?_
        (try simp only [go_sem, Nat.reduceEqDiff, ↓reduceIte])
        obtain ⟨r13, hr13, hP⟩ := bind_cases hP
        refine call_ok [.int .u8 (b2i x12)] (ref09_Space_ok hr13) ⟨argR_m false rfl, trivial⟩ ?_
        (try simp only [go_sem, Nat.reduceEqDiff, ↓reduceIte])
        rcases ite_cases hP with ⟨hc, hP⟩ | ⟨hc, hP⟩
        · refine guard_not hc ?_
          (try simp only [go_sem, Nat.reduceEqDiff, ↓reduceIte])
          refine hold2 (then_n ?_)
          refine J_condV rfl ?_
          (try simp only [go_sem, Nat.reduceEqDiff, ↓reduceIte])
          refine J_skip (then_n ?_)
          refine J_block ?_
          refine J_region (by kernel_rfl) ?_
          (try simp only [go_sem, Nat.reduceEqDiff, ↓reduceIte])
          refine hold2 (block_n ?_)
          exact loop_n (k8, iadd .i64 at7 1) hP (Nat.lt_succ_self _) (so [0])
        · refine guard_is hc ?_
          (try simp only [go_sem, Nat.reduceEqDiff, ↓reduceIte])
          obtain ⟨x14, hx14, hP⟩ := bind_cases hP
          refine ixV_of hx14 ?_
          (try simp only [go_sem, Nat.reduceEqDiff, ↓reduceIte])
          refine hold2 (then_n ?_)
          refine J_condV rfl ?_
          (try simp only [go_sem, Nat.reduceEqDiff, ↓reduceIte])
          rcases ite_cases hP with ⟨hc, hP⟩ | ⟨hc, hP⟩
          · refine condV_t hc ?_
            refine J_skip (then_n ?_)
            refine J_block ?_
            refine J_region (by kernel_rfl) ?_
            (try simp only [go_sem, Nat.reduceEqDiff, ↓reduceIte])
            refine hold2 (block_n ?_)
            exact loop_n (k8, iadd .i64 at7 1) hP (Nat.lt_succ_self _) (so [0])
          · refine condV_f hc ?_
            refine J_exit (then_exit (loop_exit (block_eq ?_)))
            exact join_n at7 (Option.some.inj hP) (so [0])
      · refine guard_not hc ?_
        (try simp only [go_sem, Nat.reduceEqDiff, ↓reduceIte])
        refine hold2 (then_n ?_)
        refine J_condV rfl ?_
        (try simp only [go_sem, Nat.reduceEqDiff, ↓reduceIte])
        refine J_exit (then_exit (loop_exit (block_eq ?_)))
        exact join_n at7 (Option.some.inj hP) (so [0])
  · intro j16 hs
    subst hs
    have hP := hQ11
    clear hQ11
    refine then_n ?_
    refine J_seq ?_
    refine J_seq ?_
    refine J_region (by kernel_rfl) ?_
    (try simp only [go_sem, Nat.reduceEqDiff, ↓reduceIte])
    refine hold2 (then_n ?_)
    refine J_condV rfl ?_
    (try simp only [go_sem, Nat.reduceEqDiff, ↓reduceIte])
    rcases ite_cases hP with ⟨hc, hP⟩ | ⟨hc, hP⟩
    · refine condV_t hc ?_
      refine J_seq ?_
      refine J_region (by kernel_rfl) ?_
      (try simp only [go_sem, Nat.reduceEqDiff, ↓reduceIte, Nat.reduceAdd, Nat.reduceSub, Nat.reduceLT, Nat.reduceMul, reduceCtorEq, Int.reduceToNat, Int.reduceLE, Int.reduceLT, Nat.reduceLeDiff])
      refine hold2 (then_n ?_)
      refine J_ret (then_ret (fin_ret ?_))
      obtain rfl := Option.some.inj hP
      (try simp only [go_sem, Nat.reduceEqDiff, ↓reduceIte])
      exact fo []
    · refine condV_f hc ?_
      refine J_skip (then_n ?_)
      refine J_seq ?_
      refine J_seq ?_
      refine J_region (by kernel_rfl) ?_
      (try simp only [go_sem, Nat.reduceEqDiff, ↓reduceIte])
      obtain ⟨x17, hx17, hP⟩ := bind_cases hP
      refine ixV_of hx17 ?_
      (try simp only [go_sem, Nat.reduceEqDiff, ↓reduceIte])
      refine hold2 (then_n ?_)
      refine J_condV rfl ?_
      (try simp only [go_sem, Nat.reduceEqDiff, ↓reduceIte])
      rcases ite_cases hP with ⟨hc, hP⟩ | ⟨hc, hP⟩
      · refine condV_t hc ?_
        refine J_seq ?_
        refine J_region (by kernel_rfl) ?_
        (try simp only [go_sem, Nat.reduceEqDiff, ↓reduceIte, Nat.reduceAdd, Nat.reduceSub, Nat.reduceLT, Nat.reduceMul, reduceCtorEq, Int.reduceToNat, Int.reduceLE, Int.reduceLT, Nat.reduceLeDiff])
        refine hold2 (then_n ?_)
        refine J_ret (then_ret (fin_ret ?_))
        obtain rfl := Option.some.inj hP
        (try simp only [go_sem, Nat.reduceEqDiff, ↓reduceIte])
        exact fo []
      · refine condV_f hc ?_
        refine J_skip (then_n ?_)
        refine J_seq ?_
        refine J_region (by kernel_rfl) ?_
        (try simp only [go_sem, Nat.reduceEqDiff, ↓reduceIte])
        refine hold2 (then_n ?_)
        refine J_seq ?_
        obtain ⟨o36, hP, hQ30⟩ := bind_cases hP
        refine J_joinK0 (fun (s : Int) => envL [(0, .view 1 (List.map encB b1)), (1, .int .i64 s), (4, .bptr 0 0), (5, .int .i64 j16)]) (fun (s : Int) => [.box 60 [.str [], .str [], .int .i64 0, .bool false, .bool false]]) (fun s => s = o36) ?_ ?_
        · clear hQ30
          refine J_block ?_
          refine J_loop (σ := Nat × Int) (fun (s : Nat × Int) => envL [(0, .view 1 (List.map encB b1)), (1, .int .i64 s.2), (4, .bptr 0 0), (5, .int .i64 j16)]) (fun (s : Nat × Int) => [.box 60 [.str [], .str [], .int .i64 0, .bool false, .bool false]]) (fun s => ref11_attr_L30 b1 j16 s.1 s.2 = some o36) (fun s => s.1) (140737488355328, j16) hP (so [0]) ?_
          rintro ⟨k25, at24⟩ hP
          dsimp only at hP ⊢
          cases k25 with
          | zero => simp [ref11_attr_L30] at hP
          | succ k25 =>
            simp only [ref11_attr_L30] at hP
            refine J_seq ?_
            refine J_seq ?_
            refine J_region (by kernel_rfl) ?_
            (try simp only [go_sem, Nat.reduceEqDiff, ↓reduceIte])
            rcases ite_cases hP with ⟨hc, hP⟩ | ⟨hc, hP⟩
            · refine guard_is hc ?_
              (try simp only [go_sem, Nat.reduceEqDiff, ↓reduceIte])
              obtain ⟨x31, hx31, hP⟩ := bind_cases hP
              refine ixV_of hx31 ?_
              (try simp only [go_sem, Nat.reduceEqDiff, ↓reduceIte])
              obtain ⟨r32, hr32, hP⟩ := bind_cases hP
              refine call_ok [.int .u8 (b2i x31)] (ref09_Space_ok hr32) ⟨argR_m false rfl, trivial⟩ ?_
              (try simp only [go_sem, Nat.reduceEqDiff, ↓reduceIte])
              rcases ite_cases hP with ⟨hc, hP⟩ | ⟨hc, hP⟩
              · refine guard_is hc ?_
                (try simp only [go_sem, Nat.reduceEqDiff, ↓reduceIte])
                obtain ⟨x33, hx33, hP⟩ := bind_cases hP
                refine ixV_of hx33 ?_
                (try simp only [go_sem, Nat.reduceEqDiff, ↓reduceIte])
                rcases ite_cases hP with ⟨hc, hP⟩ | ⟨hc, hP⟩
                · refine guard_is hc ?_
                  (try simp only [go_sem, Nat.reduceEqDiff, ↓reduceIte])
                  obtain ⟨x34, hx34, hP⟩ := bind_cases hP
                  refine ixV_of hx34 ?_
                  (try simp only [go_sem, Nat.reduceEqDiff, ↓reduceIte])
                  rcases ite_cases hP with ⟨hc, hP⟩ | ⟨hc, hP⟩
                  · refine guard_is hc ?_
                    (try simp only [go_sem, Nat.reduceEqDiff, ↓reduceIte])
                    obtain ⟨x35, hx35, hP⟩ := bind_cases hP
                    refine ixV_of hx35 ?_
                    (try simp only [go_sem, Nat.reduceEqDiff, ↓reduceIte])
                    rcases ite_cases hP with ⟨hc, hP⟩ | ⟨hc, hP⟩
                    · refine guard_not hc ?_
                      (try simp only [go_sem, Nat.reduceEqDiff, ↓reduceIte])
                      refine hold2 (then_n ?_)
                      refine J_condV rfl ?_
                      (try simp only [go_sem, Nat.reduceEqDiff, ↓reduceIte])
                      refine J_skip (then_n ?_)
                      refine J_block ?_
                      refine J_region (by kernel_rfl) ?_
                      (try simp only [go_sem, Nat.reduceEqDiff, ↓reduceIte])
                      refine hold2 (block_n ?_)
                      exact loop_n (k25, iadd .i64 at24 1) hP (Nat.lt_succ_self _) (so [0])
                    · refine guard_is hc ?_
                      (try simp only [go_sem, Nat.reduceEqDiff, ↓reduceIte])
                      refine hold2 (then_n ?_)
                      refine J_condV rfl ?_
                      (try simp only [go_sem, Nat.reduceEqDiff, ↓reduceIte])
                      rcases ite_cases hP with ⟨hc, hP⟩ | ⟨hc, hP⟩
                      · refine condV_t hc ?_
                        refine J_skip (then_n ?_)
                        refine J_block ?_
                        refine J_region (by kernel_rfl) ?_
                        (try simp only [go_sem, Nat.reduceEqDiff, ↓reduceIte])
                        refine hold2 (block_n ?_)
                        exact loop_n (k25, iadd .i64 at24 1) hP (Nat.lt_succ_self _) (so [0])
                      · refine condV_f hc ?_
                        refine J_exit (then_exit (loop_exit (block_eq ?_)))
                        exact join_n at24 (Option.some.inj hP) (so [0])
                  · refine guard_not hc ?_
                    (try simp only [go_sem, Nat.reduceEqDiff, ↓reduceIte])
                    refine hold2 (then_n ?_)
                    refine J_condV rfl ?_
                    (try simp only [go_sem, Nat.reduceEqDiff, ↓reduceIte])
                    refine J_exit (then_exit (loop_exit (block_eq ?_)))
                    exact join_n at24 (Option.some.inj hP) (so [0])
                · refine guard_not hc ?_
                  (try simp only [go_sem, Nat.reduceEqDiff, ↓reduceIte])
                  refine hold2 (then_n ?_)
                  refine J_condV rfl ?_
                  (try simp only [go_sem, Nat.reduceEqDiff, ↓reduceIte])
                  refine J_exit (then_exit (loop_exit (block_eq ?_)))
                  exact join_n at24 (Option.some.inj hP) (so [0])
              · refine guard_not hc ?_
                (try simp only [go_sem, Nat.reduceEqDiff, ↓reduceIte])
                refine hold2 (then_n ?_)
                refine J_condV rfl ?_
                (try simp only [go_sem, Nat.reduceEqDiff, ↓reduceIte])
                refine J_exit (then_exit (loop_exit (block_eq ?_)))
                exact join_n at24 (Option.some.inj hP) (so [0])
            · refine guard_not hc ?_
              (try simp only [go_sem, Nat.reduceEqDiff, ↓reduceIte])
              refine hold2 (then_n ?_)
              refine J_condV rfl ?_
              (try simp only [go_sem, Nat.reduceEqDiff, ↓reduceIte])
              refine J_exit (then_exit (loop_exit (block_eq ?_)))
              exact join_n at24 (Option.some.inj hP) (so [0])
        · intro j37 hs
          subst hs
          have hP := hQ30
          clear hQ30
          refine then_n ?_
          refine J_seq ?_
          refine J_region (by kernel_rfl) ?_
          (try simp only [go_sem, Nat.reduceEqDiff, ↓reduceIte])
          obtain ⟨s38, hs38, hP⟩ := bind_cases hP
          refine slV_of hs38 ?_
          (try simp only [go_sem, Nat.reduceEqDiff, ↓reduceIte])
          first | refine bytesK_map ?_ | refine bytesK_of s38 rfl ?_
          (try simp only [go_sem, Nat.reduceEqDiff, ↓reduceIte])
          obtain ⟨r39, hr39, hP⟩ := bind_cases hP
          refine call_ok [.str s38] (ref09_Lower_ok hr39) ⟨argR_m false rfl, trivial⟩ ?_
          (try simp only [go_sem, Nat.reduceEqDiff, ↓reduceIte])
          refine hold2 (then_n ?_)
          refine J_seq ?_
          refine J_region (by kernel_rfl) ?_
          (try simp only [go_sem, Nat.reduceEqDiff, ↓reduceIte])
          obtain ⟨r40, hr40, hP⟩ := bind_cases hP
          refine call_ok [.view 1 (List.map encB b1), .int .i64 j37] (ref11_pass_ok hr40) ⟨argR_m false rfl, argR_m false rfl, trivial⟩ ?_
          (try simp only [go_sem, Nat.reduceEqDiff, ↓reduceIte])
          refine hold2 (then_n ?_)
          refine J_seq ?_
          refine J_seq ?_
          refine J_region (by kernel_rfl) ?_
          (try simp only [go_sem, Nat.reduceEqDiff, ↓reduceIte])
          refine hold2 (then_n ?_)
          refine J_condV rfl ?_
          (try simp only [go_sem, Nat.reduceEqDiff, ↓reduceIte])
          rcases ite_cases hP with ⟨hc, hP⟩ | ⟨hc, hP⟩
          · refine condV_t hc ?_
            refine J_seq ?_
            refine J_region (by kernel_rfl) ?_
            (try simp only [go_sem, Nat.reduceEqDiff, ↓reduceIte, Nat.reduceAdd, Nat.reduceSub, Nat.reduceLT, Nat.reduceMul, reduceCtorEq, Int.reduceToNat, Int.reduceLE, Int.reduceLT, Nat.reduceLeDiff])
            refine hold2 (then_n ?_)
            refine J_ret (then_ret (fin_ret ?_))
            obtain rfl := Option.some.inj hP
            (try simp only [go_sem, Nat.reduceEqDiff, ↓reduceIte])
            exact fo []
          · refine condV_f hc ?_
            refine J_skip (then_n ?_)
            refine J_seq ?_
            refine J_seq ?_
            refine J_region (by kernel_rfl) ?_
            (try simp only [go_sem, Nat.reduceEqDiff, ↓reduceIte])
            obtain ⟨x41, hx41, hP⟩ := bind_cases hP
            refine ixV_of hx41 ?_
            (try simp only [go_sem, Nat.reduceEqDiff, ↓reduceIte])
            refine hold2 (then_n ?_)
            refine J_condV rfl ?_
            (try simp only [go_sem, Nat.reduceEqDiff, ↓reduceIte])
            rcases ite_cases hP with ⟨hc, hP⟩ | ⟨hc, hP⟩
            · refine condV_t hc ?_
              refine J_seq ?_
              refine J_region (by kernel_rfl) ?_
              (try simp only [go_sem, Nat.reduceEqDiff, ↓reduceIte, Nat.reduceAdd, Nat.reduceSub, Nat.reduceLT, Nat.reduceMul, reduceCtorEq, Int.reduceToNat, Int.reduceLE, Int.reduceLT, Nat.reduceLeDiff])
              refine hold2 (then_n ?_)
              refine J_ret (then_ret (fin_ret ?_))
              obtain rfl := Option.some.inj hP
              (try simp only [go_sem, Nat.reduceEqDiff, ↓reduceIte])
              exact fo []
            · refine condV_f hc ?_
              refine J_skip (then_n ?_)
              refine J_seq ?_
              refine J_region (by kernel_rfl) ?_
              (try simp only [go_sem, Nat.reduceEqDiff, ↓reduceIte])
              obtain ⟨r42, hr42, hP⟩ := bind_cases hP
              refine call_ok [.view 1 (List.map encB b1), .int .i64 (iadd .i64 r40 1)] (ref11_pass_ok hr42) ⟨argR_m false rfl, argR_m false rfl, trivial⟩ ?_
              (try simp only [go_sem, Nat.reduceEqDiff, ↓reduceIte])
              refine hold2 (then_n ?_)
              refine J_seq ?_
              refine J_seq ?_
              refine J_region (by kernel_rfl) ?_
              (try simp only [go_sem, Nat.reduceEqDiff, ↓reduceIte])
              refine hold2 (then_n ?_)
              refine J_condV rfl ?_
              (try simp only [go_sem, Nat.reduceEqDiff, ↓reduceIte])
              rcases ite_cases hP with ⟨hc, hP⟩ | ⟨hc, hP⟩
              · refine condV_t hc ?_
                refine J_seq ?_
                refine J_region (by kernel_rfl) ?_
                (try simp only [go_sem, Nat.reduceEqDiff, ↓reduceIte, Nat.reduceAdd, Nat.reduceSub, Nat.reduceLT, Nat.reduceMul, reduceCtorEq, Int.reduceToNat, Int.reduceLE, Int.reduceLT, Nat.reduceLeDiff])
                refine hold2 (then_n ?_)
                refine J_ret (then_ret (fin_ret ?_))
                obtain rfl := Option.some.inj hP
                (try simp only [go_sem, Nat.reduceEqDiff, ↓reduceIte])
                exact fo []
              · refine condV_f hc ?_
                refine J_skip (then_n ?_)
                refine J_seq ?_
                refine J_seq ?_
                refine J_region (by kernel_rfl) ?_
                (try simp only [go_sem, Nat.reduceEqDiff, ↓reduceIte])
                obtain ⟨x43, hx43, hP⟩ := bind_cases hP
                refine ixV_of hx43 ?_
                (try simp only [go_sem, Nat.reduceEqDiff, ↓reduceIte])
                refine hold2 (then_n ?_)
                refine J_condV rfl ?_
                (try simp only [go_sem, Nat.reduceEqDiff, ↓reduceIte])
                rcases ite_cases hP with ⟨hc, hP⟩ | ⟨hc, hP⟩
                · refine condV_t hc ?_
                  refine J_seq ?_
                  refine J_region (by kernel_rfl) ?_
                  (try simp only [go_sem, Nat.reduceEqDiff, ↓reduceIte, Nat.reduceAdd, Nat.reduceSub, Nat.reduceLT, Nat.reduceMul, reduceCtorEq, Int.reduceToNat, Int.reduceLE, Int.reduceLT, Nat.reduceLeDiff])
                  refine hold2 (then_n ?_)
                  refine J_ret (then_ret (fin_ret ?_))
                  obtain rfl := Option.some.inj hP
                  (try simp only [go_sem, Nat.reduceEqDiff, ↓reduceIte])
                  exact fo []
                · refine condV_f hc ?_
                  refine J_skip (then_n ?_)
                  refine J_seq ?_
                  refine J_region (by kernel_rfl) ?_
                  (try simp only [go_sem, Nat.reduceEqDiff, ↓reduceIte])
                  obtain ⟨x44, hx44, hP⟩ := bind_cases hP
                  refine ixV_of hx44 ?_
                  (try simp only [go_sem, Nat.reduceEqDiff, ↓reduceIte])
                  refine hold2 (then_n ?_)
                  refine J_seq ?_
                  obtain ⟨o45, hP, hQ45⟩ := bind_cases hP
                  refine J_join (fun (s : Bool) => envL [(0, .view 1 (List.map encB b1)), (1, .int .i64 r42), (4, .bptr 0 0), (6, .str r39), (7, .int .u8 (b2i x44)), (130, .bool s)]) (fun (s : Bool) => [.box 60 [.str [], .str [], .int .i64 0, .bool false, .bool false]]) (fun s => s = o45) ?_ ?_
                  · clear hQ45
                    refine J_region (by kernel_rfl) ?_
                    (try simp only [go_sem, Nat.reduceEqDiff, ↓reduceIte])
                    rcases ite_cases hP with ⟨hc, hP⟩ | ⟨hc, hP⟩
                    · refine guard_not hc ?_
                      (try simp only [go_sem, Nat.reduceEqDiff, ↓reduceIte])
                      refine hold2 ?_
                      exact join_n true (Option.some.inj hP) (so [0])
                    · refine guard_is hc ?_
                      (try simp only [go_sem, Nat.reduceEqDiff, ↓reduceIte])
                      refine hold2 ?_
                      exact join_n (decide (b2i x44 = b2i (bC 39))) (Option.some.inj hP) (so [0])
                  · intro j46 hs
                    subst hs
                    have hP := hQ45
                    clear hQ45
                    refine J_condV rfl ?_
                    (try simp only [go_sem, Nat.reduceEqDiff, ↓reduceIte])
                    rcases ite_cases hP with ⟨hc, hP⟩ | ⟨hc, hP⟩
                    · refine condV_t hc ?_
                      refine J_seq ?_
                      refine J_seq ?_
                      refine J_region (by kernel_rfl) ?_
                      (try simp only [go_sem, Nat.reduceEqDiff, ↓reduceIte])
                      refine hold2 (then_n ?_)
                      obtain ⟨o59, hP, hQ55⟩ := bind_cases hP
                      refine J_joinK0 (fun (s : Unit) => envL [(4, .bptr 0 0)]) (fun (s : Unit) => [.box 60 [.str [], .str [], .int .i64 0, .bool false, .bool false]]) (fun s => Sum.inr s = o59) ?_ ?_
                      · refine J_block ?_
                        refine J_loop (σ := Nat × Int) (fun (s : Nat × Int) => envL [(0, .view 1 (List.map encB b1)), (1, .int .i64 r42), (4, .bptr 0 0), (6, .str r39), (7, .int .u8 (b2i x44)), (8, .int .i64 s.2)]) (fun (s : Nat × Int) => [.box 60 [.str [], .str [], .int .i64 0, .bool false, .bool false]]) (fun s => ref11_attr_L55 b1 x44 r42 r39 s.1 s.2 = some o59) (fun s => s.1) (140737488355328, iadd .i64 r42 1) hP (so [0]) ?_
                        rintro ⟨k52, k51⟩ hP
                        dsimp only at hP ⊢
                        cases k52 with
                        | zero => simp [ref11_attr_L55] at hP
                        | succ k52 =>
                          simp only [ref11_attr_L55] at hP
                          refine J_seq ?_
                          refine J_seq ?_
                          refine J_region (by kernel_rfl) ?_
                          (try simp only [go_sem, Nat.reduceEqDiff, ↓reduceIte])
                          refine hold2 (then_n ?_)
                          refine J_condV rfl ?_
                          (try simp only [go_sem, Nat.reduceEqDiff, ↓reduceIte])
                          rcases ite_cases hP with ⟨hc, hP⟩ | ⟨hc, hP⟩
                          · refine condV_t hc ?_
                            refine J_skip (then_n ?_)
                            refine J_seq ?_
                            refine J_block ?_
                            refine J_seq ?_
                            refine J_region (by kernel_rfl) ?_
                            (try simp only [go_sem, Nat.reduceEqDiff, ↓reduceIte])
                            obtain ⟨x56, hx56, hP⟩ := bind_cases hP
                            refine ixV_of hx56 ?_
                            (try simp only [go_sem, Nat.reduceEqDiff, ↓reduceIte])
                            refine hold2 (then_n ?_)
                            refine J_condV rfl ?_
                            (try simp only [go_sem, Nat.reduceEqDiff, ↓reduceIte])
                            rcases ite_cases hP with ⟨hc, hP⟩ | ⟨hc, hP⟩
                            · refine condV_t hc ?_
                              refine J_seq ?_
                              refine J_region (by kernel_rfl) ?_
                              (try simp only [go_sem, Nat.reduceEqDiff, ↓reduceIte])
                              obtain ⟨s57, hs57, hP⟩ := bind_cases hP
                              refine slV_of hs57 ?_
                              (try simp only [go_sem, Nat.reduceEqDiff, ↓reduceIte])
                              first | refine bytesK_map ?_ | refine bytesK_of s57 rfl ?_
                              (try simp only [go_sem, Nat.reduceEqDiff, ↓reduceIte])
                              obtain ⟨r58, hr58, hP⟩ := bind_cases hP
                              refine call_ok [.str s57] (ref09_Lower_ok hr58) ⟨argR_m false rfl, trivial⟩ ?_
                              (try simp only [go_sem, Nat.reduceEqDiff, ↓reduceIte, Nat.reduceAdd, Nat.reduceSub, Nat.reduceLT, Nat.reduceMul, reduceCtorEq, Int.reduceToNat, Int.reduceLE, Int.reduceLT, Nat.reduceLeDiff])
                              refine hold2 (then_n ?_)
                              refine J_ret (block_ret (then_ret (loop_ret (block_ret (join_ret (then_ret (then_ret (fin_ret ?_))))))))
                              obtain rfl := Option.some.inj hP
                              have hP := hQ55
                              dsimp only at hP
                              obtain rfl := Option.some.inj hP
                              (try simp only [go_sem, Nat.reduceEqDiff, ↓reduceIte])
                              exact fo []
                            · refine condV_f hc ?_
                              refine J_skip (block_n (then_n ?_))
                              refine J_region (by kernel_rfl) ?_
                              (try simp only [go_sem, Nat.reduceEqDiff, ↓reduceIte])
                              refine hold2 ?_
                              exact loop_n (k52, iadd .i64 k51 1) hP (Nat.lt_succ_self _) (so [0])
                          · refine condV_f hc ?_
                            refine J_exit (then_exit (loop_exit (block_eq ?_)))
                            exact join_n () (Option.some.inj hP) (so [0])
                      · intro j60 hs
                        subst hs
                        have hP := hQ55
                        dsimp only at hP
                        clear hQ55
                        refine then_n ?_
                        refine J_seq ?_
                        refine J_region (by kernel_rfl) ?_
                        (try simp only [go_sem, Nat.reduceEqDiff, ↓reduceIte, Nat.reduceAdd, Nat.reduceSub, Nat.reduceLT, Nat.reduceMul, reduceCtorEq, Int.reduceToNat, Int.reduceLE, Int.reduceLT, Nat.reduceLeDiff])
                        refine hold2 (then_n ?_)
                        refine J_ret (then_ret (fin_ret ?_))
                        obtain rfl := Option.some.inj hP
                        (try simp only [go_sem, Nat.reduceEqDiff, ↓reduceIte])
                        exact fo []
                    · refine condV_f hc ?_
                      refine J_skip (then_n ?_)
                      refine J_seq ?_
                      refine J_region (by kernel_rfl) ?_
                      (try simp only [go_sem, Nat.reduceEqDiff, ↓reduceIte])
                      refine hold2 (then_n ?_)
                      refine J_seq ?_
                      obtain ⟨o73, hP, hQ69⟩ := bind_cases hP
                      refine J_joinK0 (fun (s : Int) => envL [(0, .view 1 (List.map encB b1)), (1, .int .i64 s), (4, .bptr 0 0), (5, .int .i64 r42), (6, .str r39)]) (fun (s : Int) => [.box 60 [.str [], .str [], .int .i64 0, .bool false, .bool false]]) (fun s => s = o73) ?_ ?_
                      · clear hQ69
                        refine J_block ?_
                        refine J_loop (σ := Nat × Int) (fun (s : Nat × Int) => envL [(0, .view 1 (List.map encB b1)), (1, .int .i64 s.2), (4, .bptr 0 0), (5, .int .i64 r42), (6, .str r39)]) (fun (s : Nat × Int) => [.box 60 [.str [], .str [], .int .i64 0, .bool false, .bool false]]) (fun s => ref11_attr_L69 b1 s.1 s.2 = some o73) (fun s => s.1) (140737488355328, r42) hP (so [0]) ?_
                        rintro ⟨k66, at65⟩ hP
                        dsimp only at hP ⊢
                        cases k66 with
                        | zero => simp [ref11_attr_L69] at hP
                        | succ k66 =>
                          simp only [ref11_attr_L69] at hP
                          refine J_seq ?_
                          refine J_seq ?_
                          refine J_region (by kernel_rfl) ?_
                          (try simp only [go_sem, Nat.reduceEqDiff, ↓reduceIte])
                          rcases ite_cases hP with ⟨hc, hP⟩ | ⟨hc, hP⟩
                          · refine guard_is hc ?_
                            (try simp only [go_sem, Nat.reduceEqDiff, ↓reduceIte])
                            obtain ⟨x70, hx70, hP⟩ := bind_cases hP
                            refine ixV_of hx70 ?_
                            (try simp only [go_sem, Nat.reduceEqDiff, ↓reduceIte])
                            obtain ⟨r71, hr71, hP⟩ := bind_cases hP
                            refine call_ok [.int .u8 (b2i x70)] (ref09_Space_ok hr71) ⟨argR_m false rfl, trivial⟩ ?_
                            (try simp only [go_sem, Nat.reduceEqDiff, ↓reduceIte])
                            rcases ite_cases hP with ⟨hc, hP⟩ | ⟨hc, hP⟩
                            · refine guard_is hc ?_
                              (try simp only [go_sem, Nat.reduceEqDiff, ↓reduceIte])
                              obtain ⟨x72, hx72, hP⟩ := bind_cases hP
                              refine ixV_of hx72 ?_
                              (try simp only [go_sem, Nat.reduceEqDiff, ↓reduceIte])
                              refine hold2 (then_n ?_)
                              refine J_condV rfl ?_
                              (try simp only [go_sem, Nat.reduceEqDiff, ↓reduceIte])
                              rcases ite_cases hP with ⟨hc, hP⟩ | ⟨hc, hP⟩
                              · refine condV_t hc ?_
                                refine J_skip (then_n ?_)
                                refine J_block ?_
                                refine J_region (by kernel_rfl) ?_
                                (try simp only [go_sem, Nat.reduceEqDiff, ↓reduceIte])
                                refine hold2 (block_n ?_)
                                exact loop_n (k66, iadd .i64 at65 1) hP (Nat.lt_succ_self _) (so [0])
                              · refine condV_f hc ?_
                                refine J_exit (then_exit (loop_exit (block_eq ?_)))
                                exact join_n at65 (Option.some.inj hP) (so [0])
                            · refine guard_not hc ?_
                              (try simp only [go_sem, Nat.reduceEqDiff, ↓reduceIte])
                              refine hold2 (then_n ?_)
                              refine J_condV rfl ?_
                              (try simp only [go_sem, Nat.reduceEqDiff, ↓reduceIte])
                              refine J_exit (then_exit (loop_exit (block_eq ?_)))
                              exact join_n at65 (Option.some.inj hP) (so [0])
                          · refine guard_not hc ?_
                            (try simp only [go_sem, Nat.reduceEqDiff, ↓reduceIte])
                            refine hold2 (then_n ?_)
                            refine J_condV rfl ?_
                            (try simp only [go_sem, Nat.reduceEqDiff, ↓reduceIte])
                            refine J_exit (then_exit (loop_exit (block_eq ?_)))
                            exact join_n at65 (Option.some.inj hP) (so [0])
                      · intro j74 hs
                        subst hs
                        have hP := hQ69
                        clear hQ69
                        refine then_n ?_
                        refine J_seq ?_
                        refine J_seq ?_
                        refine J_region (by kernel_rfl) ?_
                        (try simp only [go_sem, Nat.reduceEqDiff, ↓reduceIte])
                        refine hold2 (then_n ?_)
                        refine J_condV rfl ?_
                        (try simp only [go_sem, Nat.reduceEqDiff, ↓reduceIte])
                        rcases ite_cases hP with ⟨hc, hP⟩ | ⟨hc, hP⟩
                        · refine condV_t hc ?_
                          refine J_seq ?_
                          refine J_region (by kernel_rfl) ?_
                          (try simp only [go_sem, Nat.reduceEqDiff, ↓reduceIte, Nat.reduceAdd, Nat.reduceSub, Nat.reduceLT, Nat.reduceMul, reduceCtorEq, Int.reduceToNat, Int.reduceLE, Int.reduceLT, Nat.reduceLeDiff])
                          refine hold2 (then_n ?_)
                          refine J_ret (then_ret (fin_ret ?_))
                          obtain rfl := Option.some.inj hP
                          (try simp only [go_sem, Nat.reduceEqDiff, ↓reduceIte])
                          exact fo []
                        · refine condV_f hc ?_
                          refine J_skip (then_n ?_)
                          refine J_seq ?_
                          refine J_region (by kernel_rfl) ?_
                          (try simp only [go_sem, Nat.reduceEqDiff, ↓reduceIte])
                          obtain ⟨s75, hs75, hP⟩ := bind_cases hP
                          refine slV_of hs75 ?_
                          (try simp only [go_sem, Nat.reduceEqDiff, ↓reduceIte])
                          first | refine bytesK_map ?_ | refine bytesK_of s75 rfl ?_
                          (try simp only [go_sem, Nat.reduceEqDiff, ↓reduceIte])
                          obtain ⟨r76, hr76, hP⟩ := bind_cases hP
                          refine call_ok [.str s75] (ref09_Lower_ok hr76) ⟨argR_m false rfl, trivial⟩ ?_
                          (try simp only [go_sem, Nat.reduceEqDiff, ↓reduceIte, Nat.reduceAdd, Nat.reduceSub, Nat.reduceLT, Nat.reduceMul, reduceCtorEq, Int.reduceToNat, Int.reduceLE, Int.reduceLT, Nat.reduceLeDiff])
                          refine hold2 (then_n ?_)
                          refine J_ret (fin_ret ?_)
                          obtain rfl := Option.some.inj hP
                          (try simp only [go_sem, Nat.reduceEqDiff, ↓reduceIte])
                          exact fo []
/-- colander/colanderref11.meta -/
def ref11_meta_L52 (l31 : List ((List UInt8) × (List UInt8) × Int × Bool × Bool)) (r45 : ((List UInt8) × (List UInt8) × Int × Bool × Bool)) : Nat → Bool → Int → Option (Bool)
  | 0, _, _ => none
  | k51 + 1, old49, i50 =>
    if decide (i50 < ((List.length l31 : Nat) : Int)) then
      if old49 then
        ref11_meta_L52 l31 r45 k51 true (iadd .i64 i50 1)
      else
        (ixL l31 i50).bind fun x53 =>
        ref11_meta_L52 l31 r45 k51 (decide (x53.1 = r45.1)) (iadd .i64 i50 1)
    else
      some old49
def ref11_meta_L44 (b1 : List (UInt8)) : Nat → Int → (List ((List UInt8) × (List UInt8) × Int × Bool × Bool)) → Option (Sum (Int × Int) (Int × (List ((List UInt8) × (List UInt8) × Int × Bool × Bool))))
  | 0, _, _ => none
  | k32 + 1, at30, l31 =>
    (ref11_attr b1 at30).bind fun r45 =>
    if r45.2.2.2.1 then
      some (Sum.inl (0, (-1)))
    else
      if r45.2.2.2.2 then
        some (Sum.inr (r45.2.2.1, l31))
      else
        (ref11_meta_L52 l31 r45 140737488355328 false 0).bind fun j55 =>
          if !j55 then
            (szC (48 * List.length (l31 ++ [(r45.1, r45.2.1, r45.2.2.1, r45.2.2.2.1, r45.2.2.2.2)] : List ((List UInt8) × (List UInt8) × Int × Bool × Bool)))).bind fun _ =>
            ref11_meta_L44 b1 k32 r45.2.2.1 (l31 ++ [(r45.1, r45.2.1, r45.2.2.1, r45.2.2.2.1, r45.2.2.2.2)])
          else
            ref11_meta_L44 b1 k32 r45.2.2.1 l31
def ref11_meta_L83 (j58 : Int × (List ((List UInt8) × (List UInt8) × Int × Bool × Bool))) : Nat → Int → Bool → Bool → Int → Option (Int × Bool × Bool)
  | 0, _, _, _, _ => none
  | k75 + 1, code71, pragma72, need73, i74 =>
    if decide (i74 < ((List.length j58.2 : Nat) : Int)) then
      (ixL j58.2 i74).bind fun x84 =>
      if decide (x84.1 = [104, 116, 116, 112, 45, 101, 113, 117, 105, 118]) then
        (ixL j58.2 i74).bind fun x85 =>
        ref11_meta_L83 j58 k75 code71 (decide (x85.2.1 = [99, 111, 110, 116, 101, 110, 116, 45, 116, 121, 112, 101])) need73 (iadd .i64 i74 1)
      else
        if decide (x84.1 = [99, 111, 110, 116, 101, 110, 116]) then
          (ixL j58.2 i74).bind fun x86 =>
          (ref11_Content x86.2.1).bind fun r87 =>
          (show Option (Bool) from
            if decide (code71 < 0) then
              some (!decide (r87 = 0))
            else
              some false).bind fun j89 =>
            if j89 then
              ref11_meta_L83 j58 k75 r87 pragma72 true (iadd .i64 i74 1)
            else
              ref11_meta_L83 j58 k75 code71 pragma72 need73 (iadd .i64 i74 1)
        else
          if decide (x84.1 = [99, 104, 97, 114, 115, 101, 116]) then
            (ixL j58.2 i74).bind fun x90 =>
            (ref09_Label x90.2.1).bind fun r91 =>
            ref11_meta_L83 j58 k75 r91 pragma72 false (iadd .i64 i74 1)
          else
            ref11_meta_L83 j58 k75 code71 pragma72 need73 (iadd .i64 i74 1)
    else
      some (code71, pragma72, need73)
def ref11_meta (b1 : List (UInt8)) (at2 : Int) : Option (Int × Int) :=
  (ref11_meta_L44 b1 140737488355328 at2 ([] : List ((List UInt8) × (List UInt8) × Int × Bool × Bool))).bind fun o57 => match o57 with
  | Sum.inl r => some r
  | Sum.inr j58 =>
    (ref11_meta_L83 j58 140737488355328 (-1) false false 0).bind fun j93 =>
      (show Option (Bool) from
        if decide (j93.1 ≤ 0) then
          some true
        else
          if j93.2.2 then
            some (!j93.2.1)
          else
            some false).bind fun j95 =>
        if j95 then
          some (0, j58.1)
        else
          if decide (j93.1 = 3) then
            some (1, j58.1)
          else
            some (j93.1, j58.1)
set_option maxRecDepth 100000 in
set_option maxHeartbeats 40000000 in
theorem ref11_meta_ok {b1 : List (UInt8)} {at2 : Int} {r : Int × Int} (hP : ref11_meta b1 at2 = some r) : CallOK Tryd.prog 39 [.view 1 (List.map encB b1), .int .i64 at2] (.tup [.int .i64 r.1, .int .i64 r.2]) [] := by
  unfold ref11_meta at hP
  refine co 104 [.tmp 4, .tmp 5] Tryd.func39 ?_
  refine J_seq ?_
  refine J_region (by kernel_rfl) ?_
  (try simp only [go_sem, Nat.reduceEqDiff, ↓reduceIte])
  refine hold2 (then_n ?_)
  refine J_seq ?_
  refine J_region (by kernel_rfl) ?_
  (try simp only [go_sem, Nat.reduceEqDiff, ↓reduceIte])
  refine hold2 (then_n ?_)
  refine J_seq ?_
  obtain ⟨o57, hP, hQ44⟩ := bind_cases hP
  refine J_joinK0 (fun (s : Int × (List ((List UInt8) × (List UInt8) × Int × Bool × Bool))) => envL [(1, .int .i64 s.1), (6, .own 0 0 0 (List.length s.2))]) (fun (s : Int × (List ((List UInt8) × (List UInt8) × Int × Bool × Bool))) => [.slice 0 60 5 (List.map enc_colanderref11_Attr s.2)]) (fun s => Sum.inr s = o57) ?_ ?_
  · refine J_block ?_
    refine J_loop (σ := Nat × Int × (List ((List UInt8) × (List UInt8) × Int × Bool × Bool))) (fun (s : Nat × Int × (List ((List UInt8) × (List UInt8) × Int × Bool × Bool))) => envL [(0, .view 1 (List.map encB b1)), (1, .int .i64 s.2.1), (6, .own 0 0 0 (List.length s.2.2))]) (fun (s : Nat × Int × (List ((List UInt8) × (List UInt8) × Int × Bool × Bool))) => [.slice 0 60 5 (List.map enc_colanderref11_Attr s.2.2)]) (fun s => ref11_meta_L44 b1 s.1 s.2.1 s.2.2 = some o57) (fun s => s.1) (140737488355328, at2, ([] : List ((List UInt8) × (List UInt8) × Int × Bool × Bool))) hP (so [0]) ?_
    rintro ⟨k32, at30, l31⟩ hP
    dsimp only at hP ⊢
    cases k32 with
    | zero => simp [ref11_meta_L44] at hP
    | succ k32 =>
      simp only [ref11_meta_L44] at hP
      refine J_block ?_
      refine J_seq ?_
      refine J_region (by kernel_rfl) ?_
      (try simp only [go_sem, Nat.reduceEqDiff, ↓reduceIte])
      obtain ⟨r45, hr45, hP⟩ := bind_cases hP
      refine call_ok [.view 1 (List.map encB b1), .int .i64 at30] (ref11_attr_ok hr45) ⟨argR_m false rfl, argR_m false rfl, trivial⟩ ?_
      (try simp only [go_sem, Nat.reduceEqDiff, ↓reduceIte])
      refine hold2 (then_n ?_)
      refine J_seq ?_
      refine J_seq ?_
      refine J_region (by kernel_rfl) ?_
      (try simp only [go_sem, Nat.reduceEqDiff, ↓reduceIte])
      refine hold2 (then_n ?_)
      refine J_condV rfl ?_
      (try simp only [go_sem, Nat.reduceEqDiff, ↓reduceIte])
      rcases ite_cases hP with ⟨hc, hP⟩ | ⟨hc, hP⟩
      · refine condV_t hc ?_
        refine J_seq ?_
        refine J_region (by kernel_rfl) ?_
        (try simp only [go_sem, Nat.reduceEqDiff, ↓reduceIte])
        refine hold2 (then_n ?_)
        refine J_ret (then_ret (block_ret (loop_ret (block_ret (join_ret (then_ret (fin_ret ?_)))))))
        obtain rfl := Option.some.inj hP
        have hP := hQ44
        dsimp only at hP
        obtain rfl := Option.some.inj hP
        (try simp only [go_sem, Nat.reduceEqDiff, ↓reduceIte])
        exact fo []
      · refine condV_f hc ?_
        refine J_skip (then_n ?_)
        refine J_seq ?_
        refine J_region (by kernel_rfl) ?_
        (try simp only [go_sem, Nat.reduceEqDiff, ↓reduceIte])
        refine hold2 (then_n ?_)
        refine J_seq ?_
        refine J_seq ?_
        refine J_region (by kernel_rfl) ?_
        (try simp only [go_sem, Nat.reduceEqDiff, ↓reduceIte])
        refine hold2 (then_n ?_)
        refine J_condV rfl ?_
        (try simp only [go_sem, Nat.reduceEqDiff, ↓reduceIte])
        rcases ite_cases hP with ⟨hc, hP⟩ | ⟨hc, hP⟩
        · refine condV_t hc ?_
          refine J_exit (then_exit (block_ne (by decide) (loop_exit (block_eq ?_))))
          exact join_n (r45.2.2.1, l31) (Option.some.inj hP) (so [0])
        · refine condV_f hc ?_
          refine J_skip (then_n ?_)
          refine J_seq ?_
          refine J_region (by kernel_rfl) ?_
          (try simp only [go_sem, Nat.reduceEqDiff, ↓reduceIte])
          refine hold2 (then_n ?_)
          refine J_seq ?_
          refine J_seq ?_
          refine J_region (by kernel_rfl) ?_
          (try simp only [go_sem, Nat.reduceEqDiff, ↓reduceIte])
          refine hold2 (then_n ?_)
          obtain ⟨o54, hP, hQ52⟩ := bind_cases hP
          refine J_joinK0 (fun (s : Bool) => envL [(0, .view 1 (List.map encB b1)), (1, .int .i64 r45.2.2.1), (6, .own 0 0 0 (List.length l31)), (7, .bptr 1 0), (8, .bool s)]) (fun (s : Bool) => [.slice 0 60 5 (List.map enc_colanderref11_Attr l31), .box 60 [.str r45.1, .str r45.2.1, .int .i64 r45.2.2.1, .bool r45.2.2.2.1, .bool r45.2.2.2.2]]) (fun s => s = o54) ?_ ?_
          · clear hQ52
            refine J_block ?_
            refine J_loop (σ := Nat × Bool × Int) (fun (s : Nat × Bool × Int) => envL [(0, .view 1 (List.map encB b1)), (1, .int .i64 r45.2.2.1), (6, .own 0 0 0 (List.length l31)), (7, .bptr 1 0), (8, .bool s.2.1), (9, .int .i64 s.2.2)]) (fun (s : Nat × Bool × Int) => [.slice 0 60 5 (List.map enc_colanderref11_Attr l31), .box 60 [.str r45.1, .str r45.2.1, .int .i64 r45.2.2.1, .bool r45.2.2.2.1, .bool r45.2.2.2.2]]) (fun s => ref11_meta_L52 l31 r45 s.1 s.2.1 s.2.2 = some o54) (fun s => s.1) (140737488355328, false, 0) hP (so [0, 1]) ?_
            rintro ⟨k51, old49, i50⟩ hP
            dsimp only at hP ⊢
            cases k51 with
            | zero => simp [ref11_meta_L52] at hP
            | succ k51 =>
              simp only [ref11_meta_L52] at hP
              refine J_seq ?_
              refine J_seq ?_
              refine J_region (by kernel_rfl) ?_
              (try simp only [go_sem, Nat.reduceEqDiff, ↓reduceIte])
              refine hold2 (then_n ?_)
              refine J_condV rfl ?_
              (try simp only [go_sem, Nat.reduceEqDiff, ↓reduceIte])
              rcases ite_cases hP with ⟨hc, hP⟩ | ⟨hc, hP⟩
              · refine condV_t hc ?_
                refine J_skip (then_n ?_)
                refine J_seq ?_
                refine J_block ?_
                refine J_regionq follows_mixed (by kernel_rfl) (by kernel_rfl) ?_
                (try simp only [go_sem, Nat.reduceEqDiff, ↓reduceIte])
                rcases ite_cases hP with ⟨hc, hP⟩ | ⟨hc, hP⟩
                · refine guard_not hc ?_
                  (try simp only [go_sem, Nat.reduceEqDiff, ↓reduceIte])
                  refine hold2 (block_n (then_n ?_))
                  refine J_region (by kernel_rfl) ?_
                  (try simp only [go_sem, Nat.reduceEqDiff, ↓reduceIte])
                  refine hold2 ?_
                  exact loop_n (k51, true, iadd .i64 i50 1) hP (Nat.lt_succ_self _) (so [0, 1])
                · refine guard_is hc ?_
                  (try simp only [go_sem, Nat.reduceEqDiff, ↓reduceIte])
                  obtain ⟨x53, hx53, hP⟩ := bind_cases hP
                  refine ixO_of hx53 ?_
                  (try simp only [go_sem, Nat.reduceEqDiff, ↓reduceIte])
                  refine getK_of (f := enc_colanderref11_Attr) hx53 ?_
                  (try simp only [go_sem, Nat.reduceEqDiff, ↓reduceIte])
                  refine getK_of (f := enc_colanderref11_Attr) hx53 ?_
                  (try simp only [go_sem, Nat.reduceEqDiff, ↓reduceIte])
                  refine hold2 (block_n (then_n ?_))
                  refine J_region (by kernel_rfl) ?_
                  (try simp only [go_sem, Nat.reduceEqDiff, ↓reduceIte])
                  refine hold2 ?_
                  exact loop_n (k51, decide (x53.1 = r45.1), iadd .i64 i50 1) hP (Nat.lt_succ_self _) (so [0, 1])
              · refine condV_f hc ?_
                refine J_exit (then_exit (loop_exit (block_eq ?_)))
                exact join_n old49 (Option.some.inj hP) (so [0, 1])
          · intro j55 hs
            subst hs
            have hP := hQ52
            clear hQ52
            refine then_n ?_
            refine J_seq ?_
            refine J_region (by kernel_rfl) ?_
            (try simp only [go_sem, Nat.reduceEqDiff, ↓reduceIte, Nat.reduceAdd, Nat.reduceSub, Nat.reduceLT, Nat.reduceMul, reduceCtorEq, Int.reduceToNat, Int.reduceLE, Int.reduceLT, Nat.reduceLeDiff])
            refine hold2 (then_n ?_)
            refine J_condV rfl ?_
            (try simp only [go_sem, Nat.reduceEqDiff, ↓reduceIte, Nat.reduceAdd, Nat.reduceSub, Nat.reduceLT, Nat.reduceMul, reduceCtorEq, Int.reduceToNat, Int.reduceLE, Int.reduceLT, Nat.reduceLeDiff])
            rcases ite_cases hP with ⟨hc, hP⟩ | ⟨hc, hP⟩
            · refine condV_t hc ?_
              refine J_region (by kernel_rfl) ?_
              (try simp only [go_sem, Nat.reduceEqDiff, ↓reduceIte, Nat.reduceAdd, Nat.reduceSub, Nat.reduceLT, Nat.reduceMul, reduceCtorEq, Int.reduceToNat, Int.reduceLE, Int.reduceLT, Nat.reduceLeDiff])
              obtain ⟨_, hz56, hP⟩ := bind_cases hP
              refine app_ownW (f := enc_colanderref11_Attr) (l31 : List ((List UInt8) × (List UInt8) × Int × Bool × Bool)) ([(r45.1, r45.2.1, r45.2.2.1, r45.2.2.2.1, r45.2.2.2.2)] : List ((List UInt8) × (List UInt8) × Int × Bool × Bool)) rfl tyS_92 (by decide) (by simp only [go_sem, Nat.reduceEqDiff, ↓reduceIte, Nat.reduceAdd, Nat.reduceSub, Nat.reduceLT, Nat.reduceMul, reduceCtorEq, Int.reduceToNat, Int.reduceLE, Int.reduceLT, Nat.reduceLeDiff]; first | done | rfl | exact ⟨rfl, rfl⟩) hz56 ?_
              (try simp only [go_sem, Nat.reduceEqDiff, ↓reduceIte])
              refine hold2 (block_n ?_)
              exact loop_n (k32, r45.2.2.1, l31 ++ [(r45.1, r45.2.1, r45.2.2.1, r45.2.2.2.1, r45.2.2.2.2)]) hP (Nat.lt_succ_self _) (so [0])
            · refine condV_f hc ?_
              refine J_skip (block_n ?_)
              exact loop_n (k32, r45.2.2.1, l31) hP (Nat.lt_succ_self _) (so [0])
  · intro j58 hs
    subst hs
    have hP := hQ44
    dsimp only at hP
    clear hQ44
    refine then_n ?_
    refine J_seq ?_
    refine J_region (by kernel_rfl) ?_
    (try simp only [go_sem, Nat.reduceEqDiff, ↓reduceIte])
    refine hold2 (then_n ?_)
    refine J_seq ?_
    refine J_region (by kernel_rfl) ?_
    (try simp only [go_sem, Nat.reduceEqDiff, ↓reduceIte])
    refine hold2 (then_n ?_)
    refine J_seq ?_
    refine J_region (by kernel_rfl) ?_
    (try simp only [go_sem, Nat.reduceEqDiff, ↓reduceIte])
    refine hold2 (then_n ?_)
    refine J_seq ?_
    refine J_seq ?_
    refine J_region (by kernel_rfl) ?_
    (try simp only [go_sem, Nat.reduceEqDiff, ↓reduceIte])
    refine hold2 (then_n ?_)
    obtain ⟨o92, hP, hQ83⟩ := bind_cases hP
    refine J_joinK0 (fun (s : Int × Bool × Bool) => envL [(1, .int .i64 j58.1), (10, .int .i64 s.1), (11, .bool s.2.1), (12, .bool s.2.2)]) (fun (s : Int × Bool × Bool) => []) (fun s => s = o92) ?_ ?_
    · clear hQ83
      refine J_block ?_
      refine J_loop (σ := Nat × Int × Bool × Bool × Int) (fun (s : Nat × Int × Bool × Bool × Int) => envL [(1, .int .i64 j58.1), (6, .own 0 0 0 (List.length j58.2)), (10, .int .i64 s.2.1), (11, .bool s.2.2.1), (12, .bool s.2.2.2.1), (13, .int .i64 s.2.2.2.2)]) (fun (s : Nat × Int × Bool × Bool × Int) => [.slice 0 60 5 (List.map enc_colanderref11_Attr j58.2)]) (fun s => ref11_meta_L83 j58 s.1 s.2.1 s.2.2.1 s.2.2.2.1 s.2.2.2.2 = some o92) (fun s => s.1) (140737488355328, (-1), false, false, 0) hP (so [0]) ?_
      rintro ⟨k75, code71, pragma72, need73, i74⟩ hP
      dsimp only at hP ⊢
      cases k75 with
      | zero => simp [ref11_meta_L83] at hP
      | succ k75 =>
        simp only [ref11_meta_L83] at hP
        refine J_seq ?_
        refine J_seq ?_
        refine J_region (by kernel_rfl) ?_
        (try simp only [go_sem, Nat.reduceEqDiff, ↓reduceIte])
        refine hold2 (then_n ?_)
        refine J_condV rfl ?_
        (try simp only [go_sem, Nat.reduceEqDiff, ↓reduceIte])
        rcases ite_cases hP with ⟨hc, hP⟩ | ⟨hc, hP⟩
        · refine condV_t hc ?_
          refine J_skip (then_n ?_)
          refine J_seq ?_
          refine J_block ?_
          refine J_seq ?_
          refine J_region (by kernel_rfl) ?_
          (try simp only [go_sem, Nat.reduceEqDiff, ↓reduceIte])
          obtain ⟨x84, hx84, hP⟩ := bind_cases hP
          refine ixO_of hx84 ?_
          (try simp only [go_sem, Nat.reduceEqDiff, ↓reduceIte])
          refine getK_of (f := enc_colanderref11_Attr) hx84 ?_
          (try simp only [go_sem, Nat.reduceEqDiff, ↓reduceIte])
          refine getK_of (f := enc_colanderref11_Attr) hx84 ?_
          (try simp only [go_sem, Nat.reduceEqDiff, ↓reduceIte])
          refine hold2 (then_n ?_)
          refine J_block ?_
          refine J_seq ?_
          refine J_region (by kernel_rfl) ?_
          (try simp only [go_sem, Nat.reduceEqDiff, ↓reduceIte])
          refine hold2 (then_n ?_)
          refine J_condV rfl ?_
          (try simp only [go_sem, Nat.reduceEqDiff, ↓reduceIte])
          rcases ite_cases hP with ⟨hc, hP⟩ | ⟨hc, hP⟩
          · refine condV_t hc ?_
            refine J_region (by kernel_rfl) ?_
            (try simp only [go_sem, Nat.reduceEqDiff, ↓reduceIte])
            obtain ⟨x85, hx85, hP⟩ := bind_cases hP
            refine ixO_of hx85 ?_
            (try simp only [go_sem, Nat.reduceEqDiff, ↓reduceIte])
            refine getK_of (f := enc_colanderref11_Attr) hx85 ?_
            (try simp only [go_sem, Nat.reduceEqDiff, ↓reduceIte])
            refine getK_of (f := enc_colanderref11_Attr) hx85 ?_
            (try simp only [go_sem, Nat.reduceEqDiff, ↓reduceIte])
            refine hold2 (block_n (block_n (then_n ?_)))
            refine J_region (by kernel_rfl) ?_
            (try simp only [go_sem, Nat.reduceEqDiff, ↓reduceIte])
            refine hold2 ?_
            exact loop_n (k75, code71, decide (x85.2.1 = [99, 111, 110, 116, 101, 110, 116, 45, 116, 121, 112, 101]), need73, iadd .i64 i74 1) hP (Nat.lt_succ_self _) (so [0])
          · refine condV_f hc ?_
            refine J_seq ?_
            refine J_region (by kernel_rfl) ?_
            (try simp only [go_sem, Nat.reduceEqDiff, ↓reduceIte])
            refine hold2 (then_n ?_)
            refine J_condV rfl ?_
            (try simp only [go_sem, Nat.reduceEqDiff, ↓reduceIte])
            rcases ite_cases hP with ⟨hc, hP⟩ | ⟨hc, hP⟩
            · refine condV_t hc ?_
              refine J_seq ?_
              refine J_region (by kernel_rfl) ?_
              (try simp only [go_sem, Nat.reduceEqDiff, ↓reduceIte])
              obtain ⟨x86, hx86, hP⟩ := bind_cases hP
              refine ixO_of hx86 ?_
              (try simp only [go_sem, Nat.reduceEqDiff, ↓reduceIte])
              refine getK_of (f := enc_colanderref11_Attr) hx86 ?_
              (try simp only [go_sem, Nat.reduceEqDiff, ↓reduceIte])
              refine getK_of (f := enc_colanderref11_Attr) hx86 ?_
              (try simp only [go_sem, Nat.reduceEqDiff, ↓reduceIte])
              obtain ⟨r87, hr87, hP⟩ := bind_cases hP
              refine call_ok [.str x86.2.1] (ref11_Content_ok hr87) ⟨argR_m false rfl, trivial⟩ ?_
              (try simp only [go_sem, Nat.reduceEqDiff, ↓reduceIte])
              refine hold2 (then_n ?_)
              obtain ⟨o88, hP, hQ88⟩ := bind_cases hP
              refine J_join (fun (s : Bool) => envL [(1, .int .i64 j58.1), (6, .own 0 0 0 (List.length j58.2)), (10, .int .i64 code71), (11, .bool pragma72), (12, .bool need73), (13, .int .i64 i74), (14, .int .i64 r87), (79, .bool s)]) (fun (s : Bool) => [.slice 0 60 5 (List.map enc_colanderref11_Attr j58.2)]) (fun s => s = o88) ?_ ?_
              · clear hQ88
                refine J_region (by kernel_rfl) ?_
                (try simp only [go_sem, Nat.reduceEqDiff, ↓reduceIte])
                rcases ite_cases hP with ⟨hc, hP⟩ | ⟨hc, hP⟩
                · refine guard_is hc ?_
                  (try simp only [go_sem, Nat.reduceEqDiff, ↓reduceIte])
                  refine hold2 ?_
                  exact join_n (!decide (r87 = 0)) (Option.some.inj hP) (so [0])
                · refine guard_not hc ?_
                  (try simp only [go_sem, Nat.reduceEqDiff, ↓reduceIte])
                  refine hold2 ?_
                  exact join_n false (Option.some.inj hP) (so [0])
              · intro j89 hs
                subst hs
                have hP := hQ88
                clear hQ88
                refine J_condV rfl ?_
                (try simp only [go_sem, Nat.reduceEqDiff, ↓reduceIte])
                rcases ite_cases hP with ⟨hc, hP⟩ | ⟨hc, hP⟩
                · refine condV_t hc ?_
                  refine J_seq ?_
                  refine J_region (by kernel_rfl) ?_
                  (try simp only [go_sem, Nat.reduceEqDiff, ↓reduceIte])
                  refine hold2 (then_n ?_)
                  refine J_region (by kernel_rfl) ?_
                  (try simp only [go_sem, Nat.reduceEqDiff, ↓reduceIte])
                  refine hold2 (block_n (block_n (then_n ?_)))
                  refine J_region (by kernel_rfl) ?_
                  (try simp only [go_sem, Nat.reduceEqDiff, ↓reduceIte])
                  refine hold2 ?_
                  exact loop_n (k75, r87, pragma72, true, iadd .i64 i74 1) hP (Nat.lt_succ_self _) (so [0])
                · refine condV_f hc ?_
                  refine J_skip (block_n (block_n (then_n ?_)))
                  refine J_region (by kernel_rfl) ?_
                  (try simp only [go_sem, Nat.reduceEqDiff, ↓reduceIte])
                  refine hold2 ?_
                  exact loop_n (k75, code71, pragma72, need73, iadd .i64 i74 1) hP (Nat.lt_succ_self _) (so [0])
            · refine condV_f hc ?_
              refine J_seq ?_
              refine J_region (by kernel_rfl) ?_
              (try simp only [go_sem, Nat.reduceEqDiff, ↓reduceIte])
              refine hold2 (then_n ?_)
              refine J_condV rfl ?_
              (try simp only [go_sem, Nat.reduceEqDiff, ↓reduceIte])
              rcases ite_cases hP with ⟨hc, hP⟩ | ⟨hc, hP⟩
              · refine condV_t hc ?_
                refine J_seq ?_
                refine J_region (by kernel_rfl) ?_
                (try simp only [go_sem, Nat.reduceEqDiff, ↓reduceIte])
                obtain ⟨x90, hx90, hP⟩ := bind_cases hP
                refine ixO_of hx90 ?_
                (try simp only [go_sem, Nat.reduceEqDiff, ↓reduceIte])
                refine getK_of (f := enc_colanderref11_Attr) hx90 ?_
                (try simp only [go_sem, Nat.reduceEqDiff, ↓reduceIte])
                refine getK_of (f := enc_colanderref11_Attr) hx90 ?_
                (try simp only [go_sem, Nat.reduceEqDiff, ↓reduceIte])
                obtain ⟨r91, hr91, hP⟩ := bind_cases hP
                refine call_ok [.str x90.2.1] (ref09_Label_ok hr91) ⟨argR_m false rfl, trivial⟩ ?_
                (try simp only [go_sem, Nat.reduceEqDiff, ↓reduceIte])
                refine hold2 (then_n ?_)
                refine J_region (by kernel_rfl) ?_
                (try simp only [go_sem, Nat.reduceEqDiff, ↓reduceIte])
                refine hold2 (block_n (block_n (then_n ?_)))
                refine J_region (by kernel_rfl) ?_
                (try simp only [go_sem, Nat.reduceEqDiff, ↓reduceIte])
                refine hold2 ?_
                exact loop_n (k75, r91, pragma72, false, iadd .i64 i74 1) hP (Nat.lt_succ_self _) (so [0])
              · refine condV_f hc ?_
                refine J_skip (block_n (block_n (then_n ?_)))
                refine J_region (by kernel_rfl) ?_
                (try simp only [go_sem, Nat.reduceEqDiff, ↓reduceIte])
                refine hold2 ?_
                exact loop_n (k75, code71, pragma72, need73, iadd .i64 i74 1) hP (Nat.lt_succ_self _) (so [0])
        · refine condV_f hc ?_
          refine J_exit (then_exit (loop_exit (block_eq ?_)))
          exact join_n (code71, pragma72, need73) (Option.some.inj hP) (so [])
    · intro j93 hs
      subst hs
      have hP := hQ83
      clear hQ83
      refine then_n ?_
      refine J_seq ?_
      obtain ⟨o94, hP, hQ94⟩ := bind_cases hP
      refine J_join (fun (s : Bool) => envL [(1, .int .i64 j58.1), (10, .int .i64 j93.1), (97, .bool s)]) (fun (s : Bool) => []) (fun s => s = o94) ?_ ?_
      · clear hQ94
        refine J_region (by kernel_rfl) ?_
        (try simp only [go_sem, Nat.reduceEqDiff, ↓reduceIte])
        rcases ite_cases hP with ⟨hc, hP⟩ | ⟨hc, hP⟩
        · refine guard_not hc ?_
          (try simp only [go_sem, Nat.reduceEqDiff, ↓reduceIte])
          refine hold2 ?_
          exact join_n true (Option.some.inj hP) (so [])
        · refine guard_is hc ?_
          (try simp only [go_sem, Nat.reduceEqDiff, ↓reduceIte])
          rcases ite_cases hP with ⟨hc, hP⟩ | ⟨hc, hP⟩
          · refine guard_is hc ?_
            (try simp only [go_sem, Nat.reduceEqDiff, ↓reduceIte])
            refine hold2 ?_
            exact join_n (!j93.2.1) (Option.some.inj hP) (so [])
          · refine guard_not hc ?_
            (try simp only [go_sem, Nat.reduceEqDiff, ↓reduceIte])
            refine hold2 ?_
            exact join_n false (Option.some.inj hP) (so [])
      · intro j95 hs
        subst hs
        have hP := hQ94
        clear hQ94
        refine J_condV rfl ?_
        (try simp only [go_sem, Nat.reduceEqDiff, ↓reduceIte])
        rcases ite_cases hP with ⟨hc, hP⟩ | ⟨hc, hP⟩
        · refine condV_t hc ?_
          refine J_seq ?_
          refine J_region (by kernel_rfl) ?_
          (try simp only [go_sem, Nat.reduceEqDiff, ↓reduceIte])
          refine hold2 (then_n ?_)
          refine J_ret (then_ret (fin_ret ?_))
          obtain rfl := Option.some.inj hP
          (try simp only [go_sem, Nat.reduceEqDiff, ↓reduceIte])
          exact fo []
        · refine condV_f hc ?_
          refine J_skip (then_n ?_)
          refine J_seq ?_
          refine J_seq ?_
          refine J_region (by kernel_rfl) ?_
          (try simp only [go_sem, Nat.reduceEqDiff, ↓reduceIte])
          refine hold2 (then_n ?_)
          refine J_condV rfl ?_
          (try simp only [go_sem, Nat.reduceEqDiff, ↓reduceIte])
          rcases ite_cases hP with ⟨hc, hP⟩ | ⟨hc, hP⟩
          · refine condV_t hc ?_
            refine J_seq ?_
            refine J_region (by kernel_rfl) ?_
            (try simp only [go_sem, Nat.reduceEqDiff, ↓reduceIte])
            refine hold2 (then_n ?_)
            refine J_ret (then_ret (fin_ret ?_))
            obtain rfl := Option.some.inj hP
            (try simp only [go_sem, Nat.reduceEqDiff, ↓reduceIte])
            exact fo []
          · refine condV_f hc ?_
            refine J_skip (then_n ?_)
            refine J_seq ?_
            refine J_region (by kernel_rfl) ?_
            (try simp only [go_sem, Nat.reduceEqDiff, ↓reduceIte])
            refine hold2 (then_n ?_)
            refine J_ret (fin_ret ?_)
            obtain rfl := Option.some.inj hP
            (try simp only [go_sem, Nat.reduceEqDiff, ↓reduceIte])
            exact fo []
/-- colander/colanderref11.letter -/
def ref11_letter (b1 : List (UInt8)) (at2 : Int) : Option (Bool) :=
  if decide ((List.length b1 : Int) ≤ at2) then
    some false
  else
    (ixL b1 at2).bind fun x3 =>
    (ref09_Small x3).bind fun r4 =>
    if decide (b2i (bC 97) ≤ b2i r4) then
      some (decide (b2i r4 ≤ b2i (bC 122)))
    else
      some false
set_option maxRecDepth 100000 in
set_option maxHeartbeats 40000000 in
theorem ref11_letter_ok {b1 : List (UInt8)} {at2 : Int} {r : Bool} (hP : ref11_letter b1 at2 = some r) : CallOK Tryd.prog 40 [.view 1 (List.map encB b1), .int .i64 at2] (.bool r) [] := by
  unfold ref11_letter at hP
  refine co 21 [.tmp 4] Tryd.func40 ?_
  refine J_seq ?_
  refine J_region (by kernel_rfl) ?_
  (try simp only [go_sem, Nat.reduceEqDiff, ↓reduceIte])
  refine hold2 (then_n ?_)
  refine J_seq ?_
  refine J_seq ?_
  refine J_region (by kernel_rfl) ?_
  (try simp only [go_sem, Nat.reduceEqDiff, ↓reduceIte])
  refine hold2 (then_n ?_)
  refine J_condV rfl ?_
  (try simp only [go_sem, Nat.reduceEqDiff, ↓reduceIte])
  rcases ite_cases hP with ⟨hc, hP⟩ | ⟨hc, hP⟩
  · refine condV_t hc ?_
    refine J_seq ?_
    refine J_region (by kernel_rfl) ?_
    (try simp only [go_sem, Nat.reduceEqDiff, ↓reduceIte])
    refine hold2 (then_n ?_)
    refine J_ret (then_ret (fin_ret ?_))
    obtain rfl := Option.some.inj hP
    (try simp only [go_sem, Nat.reduceEqDiff, ↓reduceIte])
    exact fo []
  · refine condV_f hc ?_
    refine J_skip (then_n ?_)
    refine J_seq ?_
    refine J_region (by kernel_rfl) ?_
    (try simp only [go_sem, Nat.reduceEqDiff, ↓reduceIte])
    obtain ⟨x3, hx3, hP⟩ := bind_cases hP
    refine ixV_of hx3 ?_
    (try simp only [go_sem, Nat.reduceEqDiff, ↓reduceIte])
    obtain ⟨r4, hr4, hP⟩ := bind_cases hP
    refine call_ok [.int .u8 (b2i x3)] (ref09_Small_ok hr4) ⟨argR_m false rfl, trivial⟩ ?_
    (try simp only [go_sem, Nat.reduceEqDiff, ↓reduceIte])
    refine hold2 (then_n ?_)
    refine J_seq ?_
    refine J_region (by kernel_rfl) ?_
    (try simp only [go_sem, Nat.reduceEqDiff, ↓reduceIte])
    rcases ite_cases hP with ⟨hc, hP⟩ | ⟨hc, hP⟩
    · refine guard_is hc ?_
      (try simp only [go_sem, Nat.reduceEqDiff, ↓reduceIte])
      refine hold2 (then_n ?_)
      refine J_ret (fin_ret ?_)
      obtain rfl := Option.some.inj hP
      (try simp only [go_sem, Nat.reduceEqDiff, ↓reduceIte])
      exact fo []
    · refine guard_not hc ?_
      (try simp only [go_sem, Nat.reduceEqDiff, ↓reduceIte])
      refine hold2 (then_n ?_)
      refine J_ret (fin_ret ?_)
      obtain rfl := Option.some.inj hP
      (try simp only [go_sem, Nat.reduceEqDiff, ↓reduceIte])
      exact fo []
/-- colander/colanderref11.Prescan -/
def ref11_Prescan_L372 (j5 : (List (UInt8))) : Nat → Int → Option (Int)
  | 0, _ => none
  | k369 + 1, at368 =>
    if decide (at368 < (List.length j5 : Int)) then
      (ixL j5 at368).bind fun x373 =>
      (ref09_Space x373).bind fun r374 =>
      if !r374 then
        (ixL j5 at368).bind fun x375 =>
        if !decide (b2i x375 = b2i (bC 62)) then
          ref11_Prescan_L372 j5 k369 (iadd .i64 at368 1)
        else
          some at368
      else
        some at368
    else
      some at368
def ref11_Prescan_L394 (j5 : (List (UInt8))) : Nat → Int → (List UInt8) → (List UInt8) → Int → Bool → Bool → Option (Sum (Int) (Int))
  | 0, _, _, _, _, _, _ => none
  | k393 + 1, at387, l388, l389, l390, l391, l392 =>
    if !l392 then
      (ref11_attr j5 l390).bind fun r395 =>
      if r395.2.2.2.1 then
        some (Sum.inl 0)
      else
        ref11_Prescan_L394 j5 k393 r395.2.2.1 r395.1 r395.2.1 r395.2.2.1 r395.2.2.2.1 r395.2.2.2.2
    else
      some (Sum.inr at387)
def ref11_Prescan_L274 (j5 : (List (UInt8))) : Nat → Int → Option (Sum (Int) (Unit))
  | 0, _ => none
  | k141 + 1, at140 =>
    (show Option (Bool) from
      if decide (at140 < (List.length j5 : Int)) then
        some (decide (0 ≤ at140))
      else
        some false).bind fun j276 =>
      if j276 then
        (ixL j5 at140).bind fun x277 =>
        if !decide (b2i x277 = b2i (bC 60)) then
          ref11_Prescan_L274 j5 k141 (iadd .i64 at140 1)
        else
          (show Option (Sum (Int) (Int)) from
            (ref11_begins j5 at140 [60, 33, 45, 45]).bind fun r343 =>
            if r343 then
              (ref11_close j5 (iadd .i64 at140 4) true).bind fun r344 =>
              some (Sum.inr r344)
            else
              (show Option (Bool) from
                (ref11_begins j5 at140 [60, 109, 101, 116, 97]).bind fun r350 =>
                if r350 then
                  if decide (at140 < isub .i64 (isub .i64 (List.length j5 : Int) 1) 4) then
                    (ixL j5 (iadd .i64 at140 5)).bind fun x351 =>
                    (ref09_Space x351).bind fun r352 =>
                    if r352 then
                      some true
                    else
                      (ixL j5 (iadd .i64 at140 5)).bind fun x353 =>
                      some (decide (b2i x353 = b2i (bC 47)))
                  else
                    some false
                else
                  some false).bind fun j354 =>
                if j354 then
                  (ref11_meta j5 (iadd .i64 at140 5)).bind fun r355 =>
                  if !decide (r355.1 = 0) then
                    some (Sum.inl r355.1)
                  else
                    some (Sum.inr r355.2)
                else
                  (show Option (Bool) from
                    (ref11_letter j5 (iadd .i64 at140 1)).bind fun r360 =>
                    if r360 then
                      some true
                    else
                      if decide (at140 < isub .i64 (List.length j5 : Int) 1) then
                        (ixL j5 (iadd .i64 at140 1)).bind fun x361 =>
                        if decide (b2i x361 = b2i (bC 47)) then
                          (ref11_letter j5 (iadd .i64 at140 2)).bind fun r362 =>
                          some r362
                        else
                          some false
                      else
                        some false).bind fun j363 =>
                    if j363 then
                      (ref11_Prescan_L372 j5 140737488355328 at140).bind fun j377 =>
                        (ref11_Prescan_L394 j5 140737488355328 j377 [] [] j377 false false).bind fun o396 => match o396 with
                        | Sum.inl r => some (Sum.inl r)
                        | Sum.inr j397 =>
                          some (Sum.inr j397)
                    else
                      (show Option (Bool) from
                        if decide (at140 < isub .i64 (List.length j5 : Int) 1) then
                          (ixL j5 (iadd .i64 at140 1)).bind fun x402 =>
                          if decide (b2i x402 = b2i (bC 33)) then
                            some true
                          else
                            (ixL j5 (iadd .i64 at140 1)).bind fun x403 =>
                            if decide (b2i x403 = b2i (bC 47)) then
                              some true
                            else
                              (ixL j5 (iadd .i64 at140 1)).bind fun x404 =>
                              some (decide (b2i x404 = b2i (bC 63)))
                        else
                          some false).bind fun j405 =>
                        if j405 then
                          (ref11_close j5 at140 false).bind fun r406 =>
                          some (Sum.inr r406)
                        else
                          some (Sum.inr at140)).bind fun o342 => match o342 with
          | Sum.inl r => some (Sum.inl r)
          | Sum.inr j407 =>
            if decide (j407 < 0) then
              some (Sum.inl 0)
            else
              ref11_Prescan_L274 j5 k141 (iadd .i64 j407 1)
      else
        some (Sum.inr ())
def ref11_Prescan (b1 : List (UInt8)) : Option (Int) :=
  (show Option ((List (UInt8))) from
    if decide (1024 < (List.length b1 : Int)) then
      (slL b1 0 1024).bind fun s4 =>
      some s4
    else
      some b1).bind fun j5 =>
    (ref11_Prescan_L274 j5 140737488355328 0).bind fun o408 => match o408 with
    | Sum.inl r => some r
    | Sum.inr j409 =>
      some 0
set_option maxRecDepth 100000 in
set_option maxHeartbeats 40000000 in
theorem ref11_Prescan_ok {b1 : List (UInt8)} {r : Int} (hP : ref11_Prescan b1 = some r) : CallOK Tryd.prog 16 [.view 1 (List.map encB b1)] (.int .i64 r) [] := by
  unfold ref11_Prescan at hP
  refine co 168 [.tmp 2] Tryd.func16 ?_
  refine J_seq ?_
  refine J_region (by kernel_rfl) ?_
  (try simp only [go_sem, Nat.reduceEqDiff, ↓reduceIte])
  refine hold2 (then_n ?_)
  obtain ⟨o3, hP, hQ3⟩ := bind_cases hP
  refine J_join (fun (s : (List (UInt8))) => envL [(0, .view 1 (List.map encB s))]) (fun (s : (List (UInt8))) => []) (fun s => s = o3) ?_ ?_
  · clear hQ3
    refine J_seq ?_
    refine J_region (by kernel_rfl) ?_
    (try simp only [go_sem, Nat.reduceEqDiff, ↓reduceIte])
    refine hold2 (then_n ?_)
    refine J_condV rfl ?_
    (try simp only [go_sem, Nat.reduceEqDiff, ↓reduceIte])
    rcases ite_cases hP with ⟨hc, hP⟩ | ⟨hc, hP⟩
    · refine condV_t hc ?_
      refine J_region (by kernel_rfl) ?_
      (try simp only [go_sem, Nat.reduceEqDiff, ↓reduceIte])
      obtain ⟨s4, hs4, hP⟩ := bind_cases hP
      refine slV_of hs4 ?_
      (try simp only [go_sem, Nat.reduceEqDiff, ↓reduceIte])
      refine hold2 ?_
      exact join_n s4 (Option.some.inj hP) (so [])
    · refine condV_f hc ?_
      refine J_skip ?_
      exact join_n b1 (Option.some.inj hP) (so [])
  · intro j5 hs
    subst hs
    have hP := hQ3
    clear hQ3
    refine J_seq ?_
    refine J_seq ?_
    refine J_region (by kernel_rfl) ?_
    (try simp only [go_sem, Nat.reduceEqDiff, ↓reduceIte])
    refine hold2 (then_n ?_)
    obtain ⟨o408, hP, hQ274⟩ := bind_cases hP
    refine J_joinK0 (fun (s : Unit) => envL []) (fun (s : Unit) => []) (fun s => Sum.inr s = o408) ?_ ?_
    · refine J_block ?_
      refine J_loop (σ := Nat × Int) (fun (s : Nat × Int) => envL [(0, .view 1 (List.map encB j5)), (3, .int .i64 s.2)]) (fun (s : Nat × Int) => []) (fun s => ref11_Prescan_L274 j5 s.1 s.2 = some o408) (fun s => s.1) (140737488355328, 0) hP (so []) ?_
      rintro ⟨k141, at140⟩ hP
      dsimp only at hP ⊢
      cases k141 with
      | zero => simp [ref11_Prescan_L274] at hP
      | succ k141 =>
        simp only [ref11_Prescan_L274] at hP
        refine J_seq ?_
        obtain ⟨o275, hP, hQ275⟩ := bind_cases hP
        refine J_join (fun (s : Bool) => envL [(0, .view 1 (List.map encB j5)), (3, .int .i64 at140), (20, .bool s)]) (fun (s : Bool) => []) (fun s => s = o275) ?_ ?_
        · clear hQ275
          refine J_region (by kernel_rfl) ?_
          (try simp only [go_sem, Nat.reduceEqDiff, ↓reduceIte])
          rcases ite_cases hP with ⟨hc, hP⟩ | ⟨hc, hP⟩
          · refine guard_is hc ?_
            (try simp only [go_sem, Nat.reduceEqDiff, ↓reduceIte])
            refine hold2 ?_
            exact join_n (decide (0 ≤ at140)) (Option.some.inj hP) (so [])
          · refine guard_not hc ?_
            (try simp only [go_sem, Nat.reduceEqDiff, ↓reduceIte])
            refine hold2 ?_
            exact join_n false (Option.some.inj hP) (so [])
        · intro j276 hs
          subst hs
          have hP := hQ275
          clear hQ275
          refine J_condV rfl ?_
          (try simp only [go_sem, Nat.reduceEqDiff, ↓reduceIte])
          rcases ite_cases hP with ⟨hc, hP⟩ | ⟨hc, hP⟩
          · refine condV_t hc ?_
            refine J_skip (then_n ?_)
            refine J_seq ?_
            refine J_block ?_
            refine J_seq ?_
            refine J_seq ?_
            refine J_region (by kernel_rfl) ?_
            (try simp only [go_sem, Nat.reduceEqDiff, ↓reduceIte])
            obtain ⟨x277, hx277, hP⟩ := bind_cases hP
            refine ixV_of hx277 ?_
            (try simp only [go_sem, Nat.reduceEqDiff, ↓reduceIte])
            refine hold2 (then_n ?_)
            refine J_condV rfl ?_
            (try simp only [go_sem, Nat.reduceEqDiff, ↓reduceIte])
            rcases ite_cases hP with ⟨hc, hP⟩ | ⟨hc, hP⟩
            · refine condV_t hc ?_
              refine J_exit (then_exit (block_eq (then_n ?_)))
              refine J_region (by kernel_rfl) ?_
              (try simp only [go_sem, Nat.reduceEqDiff, ↓reduceIte])
              refine hold2 ?_
              exact loop_n (k141, iadd .i64 at140 1) hP (Nat.lt_succ_self _) (so [])
            · refine condV_f hc ?_
              refine J_skip (then_n ?_)
              refine J_seq ?_
              refine J_region (by kernel_rfl) ?_
              (try simp only [go_sem, Nat.reduceEqDiff, ↓reduceIte])
              refine hold2 (then_n ?_)
              obtain ⟨o342, hP, hQ342⟩ := bind_cases hP
              refine J_join (fun (s : Int) => envL [(0, .view 1 (List.map encB j5)), (3, .int .i64 s)]) (fun (s : Int) => []) (fun s => Sum.inr s = o342) ?_ ?_
              · refine J_block ?_
                refine J_seq ?_
                refine J_region (by kernel_rfl) ?_
                (try simp only [go_sem, Nat.reduceEqDiff, ↓reduceIte])
                obtain ⟨r343, hr343, hP⟩ := bind_cases hP
                refine call_ok [.view 1 (List.map encB j5), .int .i64 at140, .str [60, 33, 45, 45]] (ref11_begins_ok hr343) ⟨argR_m false rfl, argR_m false rfl, argR_m false rfl, trivial⟩ ?_
                (try simp only [go_sem, Nat.reduceEqDiff, ↓reduceIte])
                refine hold2 (then_n ?_)
                refine J_condV rfl ?_
                (try simp only [go_sem, Nat.reduceEqDiff, ↓reduceIte])
                rcases ite_cases hP with ⟨hc, hP⟩ | ⟨hc, hP⟩
                · refine condV_t hc ?_
                  refine J_region (by kernel_rfl) ?_
                  (try simp only [go_sem, Nat.reduceEqDiff, ↓reduceIte])
                  obtain ⟨r344, hr344, hP⟩ := bind_cases hP
                  refine call_ok [.view 1 (List.map encB j5), .int .i64 (iadd .i64 at140 4), .bool true] (ref11_close_ok hr344) ⟨argR_m false rfl, argR_m false rfl, argR_m false rfl, trivial⟩ ?_
                  (try simp only [go_sem, Nat.reduceEqDiff, ↓reduceIte])
                  refine hold2 (block_n ?_)
                  exact join_n r344 (Option.some.inj hP) (so [])
                · refine condV_f hc ?_
                  obtain ⟨o349, hP, hQ349⟩ := bind_cases hP
                  refine J_join (fun (s : Bool) => envL [(0, .view 1 (List.map encB j5)), (3, .int .i64 at140), (4, .int .i64 (isub .i64 (List.length j5 : Int) 1)), (39, .bool s)]) (fun (s : Bool) => []) (fun s => s = o349) ?_ ?_
                  · clear hQ349
                    refine J_region (by kernel_rfl) ?_
                    (try simp only [go_sem, Nat.reduceEqDiff, ↓reduceIte])
                    obtain ⟨r350, hr350, hP⟩ := bind_cases hP
                    refine call_ok [.view 1 (List.map encB j5), .int .i64 at140, .str [60, 109, 101, 116, 97]] (ref11_begins_ok hr350) ⟨argR_m false rfl, argR_m false rfl, argR_m false rfl, trivial⟩ ?_
                    (try simp only [go_sem, Nat.reduceEqDiff, ↓reduceIte])
                    rcases ite_cases hP with ⟨hc, hP⟩ | ⟨hc, hP⟩
                    · refine guard_is hc ?_
                      (try simp only [go_sem, Nat.reduceEqDiff, ↓reduceIte])
                      rcases ite_cases hP with ⟨hc, hP⟩ | ⟨hc, hP⟩
                      · refine guard_is hc ?_
                        (try simp only [go_sem, Nat.reduceEqDiff, ↓reduceIte])
                        obtain ⟨x351, hx351, hP⟩ := bind_cases hP
                        refine ixV_of hx351 ?_
                        (try simp only [go_sem, Nat.reduceEqDiff, ↓reduceIte])
                        obtain ⟨r352, hr352, hP⟩ := bind_cases hP
                        refine call_ok [.int .u8 (b2i x351)] (ref09_Space_ok hr352) ⟨argR_m false rfl, trivial⟩ ?_
                        (try simp only [go_sem, Nat.reduceEqDiff, ↓reduceIte])
                        rcases ite_cases hP with ⟨hc, hP⟩ | ⟨hc, hP⟩
                        · refine guard_not hc ?_
                          (try simp only [go_sem, Nat.reduceEqDiff, ↓reduceIte])
                          refine hold2 ?_
                          exact join_n true (Option.some.inj hP) (so [])
                        · refine guard_is hc ?_
                          (try simp only [go_sem, Nat.reduceEqDiff, ↓reduceIte])
                          obtain ⟨x353, hx353, hP⟩ := bind_cases hP
                          refine ixV_of hx353 ?_
                          (try simp only [go_sem, Nat.reduceEqDiff, ↓reduceIte])
                          refine hold2 ?_
                          exact join_n (decide (b2i x353 = b2i (bC 47))) (Option.some.inj hP) (so [])
                      · refine guard_not hc ?_
                        (try simp only [go_sem, Nat.reduceEqDiff, ↓reduceIte])
                        refine hold2 ?_
                        exact join_n false (Option.some.inj hP) (so [])
                    · refine guard_not hc ?_
                      (try simp only [go_sem, Nat.reduceEqDiff, ↓reduceIte])
                      refine hold2 ?_
                      exact join_n false (Option.some.inj hP) (so [])
                  · intro j354 hs
                    subst hs
                    have hP := hQ349
                    clear hQ349
                    refine J_condV rfl ?_
                    (try simp only [go_sem, Nat.reduceEqDiff, ↓reduceIte])
                    rcases ite_cases hP with ⟨hc, hP⟩ | ⟨hc, hP⟩
                    · refine condV_t hc ?_
                      refine J_seq ?_
                      refine J_region (by kernel_rfl) ?_
                      (try simp only [go_sem, Nat.reduceEqDiff, ↓reduceIte])
                      obtain ⟨r355, hr355, hP⟩ := bind_cases hP
                      refine call_ok [.view 1 (List.map encB j5), .int .i64 (iadd .i64 at140 5)] (ref11_meta_ok hr355) ⟨argR_m false rfl, argR_m false rfl, trivial⟩ ?_
                      (try simp only [go_sem, Nat.reduceEqDiff, ↓reduceIte])
                      refine hold2 (then_n ?_)
                      refine J_seq ?_
                      refine J_seq ?_
                      refine J_region (by kernel_rfl) ?_
                      (try simp only [go_sem, Nat.reduceEqDiff, ↓reduceIte])
                      refine hold2 (then_n ?_)
                      refine J_condV rfl ?_
                      (try simp only [go_sem, Nat.reduceEqDiff, ↓reduceIte])
                      rcases ite_cases hP with ⟨hc, hP⟩ | ⟨hc, hP⟩
                      · refine condV_t hc ?_
                        refine J_seq ?_
                        refine J_region (by kernel_rfl) ?_
                        (try simp only [go_sem, Nat.reduceEqDiff, ↓reduceIte])
                        refine hold2 (then_n ?_)
                        refine J_ret (then_ret (block_ret (join_ret (block_ret (then_ret (loop_ret (block_ret (join_ret (then_ret (fin_ret ?_))))))))))
                        obtain rfl := Option.some.inj hP
                        have hP := hQ342
                        dsimp only at hP
                        obtain rfl := Option.some.inj hP
                        have hP := hQ274
                        dsimp only at hP
                        obtain rfl := Option.some.inj hP
                        (try simp only [go_sem, Nat.reduceEqDiff, ↓reduceIte])
                        exact fo []
                      · refine condV_f hc ?_
                        refine J_skip (then_n ?_)
                        refine J_region (by kernel_rfl) ?_
                        (try simp only [go_sem, Nat.reduceEqDiff, ↓reduceIte])
                        refine hold2 (block_n ?_)
                        exact join_n r355.2 (Option.some.inj hP) (so [])
                    · refine condV_f hc ?_
                      obtain ⟨o359, hP, hQ359⟩ := bind_cases hP
                      refine J_join (fun (s : Bool) => envL [(0, .view 1 (List.map encB j5)), (3, .int .i64 at140), (4, .int .i64 (isub .i64 (List.length j5 : Int) 1)), (76, .bool s)]) (fun (s : Bool) => []) (fun s => s = o359) ?_ ?_
                      · clear hQ359
                        refine J_region (by kernel_rfl) ?_
                        (try simp only [go_sem, Nat.reduceEqDiff, ↓reduceIte])
                        obtain ⟨r360, hr360, hP⟩ := bind_cases hP
                        refine call_ok [.view 1 (List.map encB j5), .int .i64 (iadd .i64 at140 1)] (ref11_letter_ok hr360) ⟨argR_m false rfl, argR_m false rfl, trivial⟩ ?_
                        (try simp only [go_sem, Nat.reduceEqDiff, ↓reduceIte])
                        rcases ite_cases hP with ⟨hc, hP⟩ | ⟨hc, hP⟩
                        · refine guard_not hc ?_
                          (try simp only [go_sem, Nat.reduceEqDiff, ↓reduceIte])
                          refine hold2 ?_
                          exact join_n true (Option.some.inj hP) (so [])
                        · refine guard_is hc ?_
                          (try simp only [go_sem, Nat.reduceEqDiff, ↓reduceIte])
                          rcases ite_cases hP with ⟨hc, hP⟩ | ⟨hc, hP⟩
                          · refine guard_is hc ?_
                            (try simp only [go_sem, Nat.reduceEqDiff, ↓reduceIte])
                            obtain ⟨x361, hx361, hP⟩ := bind_cases hP
                            refine ixV_of hx361 ?_
                            (try simp only [go_sem, Nat.reduceEqDiff, ↓reduceIte])
                            rcases ite_cases hP with ⟨hc, hP⟩ | ⟨hc, hP⟩
                            · refine guard_is hc ?_
                              (try simp only [go_sem, Nat.reduceEqDiff, ↓reduceIte])
                              obtain ⟨r362, hr362, hP⟩ := bind_cases hP
                              refine call_ok [.view 1 (List.map encB j5), .int .i64 (iadd .i64 at140 2)] (ref11_letter_ok hr362) ⟨argR_m false rfl, argR_m false rfl, trivial⟩ ?_
                              (try simp only [go_sem, Nat.reduceEqDiff, ↓reduceIte])
                              refine hold2 ?_
                              exact join_n r362 (Option.some.inj hP) (so [])
                            · refine guard_not hc ?_
                              (try simp only [go_sem, Nat.reduceEqDiff, ↓reduceIte])
                              refine hold2 ?_
                              exact join_n false (Option.some.inj hP) (so [])
                          · refine guard_not hc ?_
                            (try simp only [go_sem, Nat.reduceEqDiff, ↓reduceIte])
                            refine hold2 ?_
                            exact join_n false (Option.some.inj hP) (so [])
                      · intro j363 hs
                        subst hs
                        have hP := hQ359
                        clear hQ359
                        refine J_condV rfl ?_
                        (try simp only [go_sem, Nat.reduceEqDiff, ↓reduceIte])
                        rcases ite_cases hP with ⟨hc, hP⟩ | ⟨hc, hP⟩
                        · refine condV_t hc ?_
                          refine J_seq ?_
                          obtain ⟨o376, hP, hQ372⟩ := bind_cases hP
                          refine J_joinK0 (fun (s : Int) => envL [(0, .view 1 (List.map encB j5)), (3, .int .i64 s)]) (fun (s : Int) => []) (fun s => s = o376) ?_ ?_
                          · clear hQ372
                            refine J_block ?_
                            refine J_loop (σ := Nat × Int) (fun (s : Nat × Int) => envL [(0, .view 1 (List.map encB j5)), (3, .int .i64 s.2)]) (fun (s : Nat × Int) => []) (fun s => ref11_Prescan_L372 j5 s.1 s.2 = some o376) (fun s => s.1) (140737488355328, at140) hP (so []) ?_
                            rintro ⟨k369, at368⟩ hP
                            dsimp only at hP ⊢
                            cases k369 with
                            | zero => simp [ref11_Prescan_L372] at hP
                            | succ k369 =>
                              simp only [ref11_Prescan_L372] at hP
                              refine J_seq ?_
                              refine J_seq ?_
                              refine J_region (by kernel_rfl) ?_
                              (try simp only [go_sem, Nat.reduceEqDiff, ↓reduceIte])
                              rcases ite_cases hP with ⟨hc, hP⟩ | ⟨hc, hP⟩
                              · refine guard_is hc ?_
                                (try simp only [go_sem, Nat.reduceEqDiff, ↓reduceIte])
                                obtain ⟨x373, hx373, hP⟩ := bind_cases hP
                                refine ixV_of hx373 ?_
                                (try simp only [go_sem, Nat.reduceEqDiff, ↓reduceIte])
                                obtain ⟨r374, hr374, hP⟩ := bind_cases hP
                                refine call_ok [.int .u8 (b2i x373)] (ref09_Space_ok hr374) ⟨argR_m false rfl, trivial⟩ ?_
                                (try simp only [go_sem, Nat.reduceEqDiff, ↓reduceIte])
                                rcases ite_cases hP with ⟨hc, hP⟩ | ⟨hc, hP⟩
                                · refine guard_is hc ?_
                                  (try simp only [go_sem, Nat.reduceEqDiff, ↓reduceIte])
                                  obtain ⟨x375, hx375, hP⟩ := bind_cases hP
                                  refine ixV_of hx375 ?_
                                  (try simp only [go_sem, Nat.reduceEqDiff, ↓reduceIte])
                                  refine hold2 (then_n ?_)
                                  refine J_condV rfl ?_
                                  (try simp only [go_sem, Nat.reduceEqDiff, ↓reduceIte])
                                  rcases ite_cases hP with ⟨hc, hP⟩ | ⟨hc, hP⟩
                                  · refine condV_t hc ?_
                                    refine J_skip (then_n ?_)
                                    refine J_block ?_
                                    refine J_region (by kernel_rfl) ?_
                                    (try simp only [go_sem, Nat.reduceEqDiff, ↓reduceIte])
                                    refine hold2 (block_n ?_)
                                    exact loop_n (k369, iadd .i64 at368 1) hP (Nat.lt_succ_self _) (so [])
                                  · refine condV_f hc ?_
                                    refine J_exit (then_exit (loop_exit (block_eq ?_)))
                                    exact join_n at368 (Option.some.inj hP) (so [])
                                · refine guard_not hc ?_
                                  (try simp only [go_sem, Nat.reduceEqDiff, ↓reduceIte])
                                  refine hold2 (then_n ?_)
                                  refine J_condV rfl ?_
                                  (try simp only [go_sem, Nat.reduceEqDiff, ↓reduceIte])
                                  refine J_exit (then_exit (loop_exit (block_eq ?_)))
                                  exact join_n at368 (Option.some.inj hP) (so [])
                              · refine guard_not hc ?_
                                (try simp only [go_sem, Nat.reduceEqDiff, ↓reduceIte])
                                refine hold2 (then_n ?_)
                                refine J_condV rfl ?_
                                (try simp only [go_sem, Nat.reduceEqDiff, ↓reduceIte])
                                refine J_exit (then_exit (loop_exit (block_eq ?_)))
                                exact join_n at368 (Option.some.inj hP) (so [])
                          · intro j377 hs
                            subst hs
                            have hP := hQ372
                            clear hQ372
                            refine then_n ?_
                            refine J_seq ?_
                            refine J_region (by kernel_rfl) ?_
                            (try simp only [go_sem, Nat.reduceEqDiff, ↓reduceIte, Nat.reduceAdd, Nat.reduceSub, Nat.reduceLT, Nat.reduceMul, reduceCtorEq, Int.reduceToNat, Int.reduceLE, Int.reduceLT, Nat.reduceLeDiff])
                            refine hold2 (then_n ?_)
                            obtain ⟨o396, hP, hQ394⟩ := bind_cases hP
                            refine J_joinK0 (fun (s : Int) => envL [(0, .view 1 (List.map encB j5)), (3, .int .i64 s)]) (fun (s : Int) => []) (fun s => Sum.inr s = o396) ?_ ?_
                            · refine J_block ?_
                              refine J_loop (σ := Nat × Int × (List UInt8) × (List UInt8) × Int × Bool × Bool) (fun (s : Nat × Int × (List UInt8) × (List UInt8) × Int × Bool × Bool) => envL [(0, .view 1 (List.map encB j5)), (3, .int .i64 s.2.1), (7, .bptr 0 0)]) (fun (s : Nat × Int × (List UInt8) × (List UInt8) × Int × Bool × Bool) => [.box 60 [.str s.2.2.1, .str s.2.2.2.1, .int .i64 s.2.2.2.2.1, .bool s.2.2.2.2.2.1, .bool s.2.2.2.2.2.2]]) (fun s => ref11_Prescan_L394 j5 s.1 s.2.1 s.2.2.1 s.2.2.2.1 s.2.2.2.2.1 s.2.2.2.2.2.1 s.2.2.2.2.2.2 = some o396) (fun s => s.1) (140737488355328, j377, [], [], j377, false, false) hP (so [0]) ?_
                              rintro ⟨k393, at387, l388, l389, l390, l391, l392⟩ hP
                              dsimp only at hP ⊢
                              cases k393 with
                              | zero => simp [ref11_Prescan_L394] at hP
                              | succ k393 =>
                                simp only [ref11_Prescan_L394] at hP
                                refine J_seq ?_
                                refine J_seq ?_
                                refine J_region (by kernel_rfl) ?_
                                (try simp only [go_sem, Nat.reduceEqDiff, ↓reduceIte])
                                refine hold2 (then_n ?_)
                                refine J_condV rfl ?_
                                (try simp only [go_sem, Nat.reduceEqDiff, ↓reduceIte])
                                rcases ite_cases hP with ⟨hc, hP⟩ | ⟨hc, hP⟩
                                · refine condV_t hc ?_
                                  refine J_skip (then_n ?_)
                                  refine J_seq ?_
                                  refine J_block ?_
                                  refine J_seq ?_
                                  refine J_region (by kernel_rfl) ?_
                                  (try simp only [go_sem, Nat.reduceEqDiff, ↓reduceIte])
                                  obtain ⟨r395, hr395, hP⟩ := bind_cases hP
                                  refine call_ok [.view 1 (List.map encB j5), .int .i64 l390] (ref11_attr_ok hr395) ⟨argR_m false rfl, argR_m false rfl, trivial⟩ ?_
                                  (try simp only [go_sem, Nat.reduceEqDiff, ↓reduceIte])
                                  refine hold2 (then_n ?_)
                                  refine J_seq ?_
                                  refine J_region (by kernel_rfl) ?_
                                  (try simp only [go_sem, Nat.reduceEqDiff, ↓reduceIte])
                                  refine hold2 (then_n ?_)
                                  refine J_seq ?_
                                  refine J_region (by kernel_rfl) ?_
                                  (try simp only [go_sem, Nat.reduceEqDiff, ↓reduceIte])
                                  refine hold2 (then_n ?_)
                                  refine J_condV rfl ?_
                                  (try simp only [go_sem, Nat.reduceEqDiff, ↓reduceIte])
                                  rcases ite_cases hP with ⟨hc, hP⟩ | ⟨hc, hP⟩
                                  · refine condV_t hc ?_
                                    refine J_seq ?_
                                    refine J_region (by kernel_rfl) ?_
                                    (try simp only [go_sem, Nat.reduceEqDiff, ↓reduceIte])
                                    refine hold2 (then_n ?_)
                                    refine J_ret (block_ret (then_ret (loop_ret (block_ret (join_ret (block_ret (join_ret (block_ret (then_ret (loop_ret (block_ret (join_ret (then_ret (fin_ret ?_))))))))))))))
                                    obtain rfl := Option.some.inj hP
                                    have hP := hQ394
                                    dsimp only at hP
                                    obtain rfl := Option.some.inj hP
                                    have hP := hQ342
                                    dsimp only at hP
                                    obtain rfl := Option.some.inj hP
                                    have hP := hQ274
                                    dsimp only at hP
                                    obtain rfl := Option.some.inj hP
                                    (try simp only [go_sem, Nat.reduceEqDiff, ↓reduceIte])
                                    exact fo []
                                  · refine condV_f hc ?_
                                    refine J_skip (block_n (then_n ?_))
                                    refine J_seq ?_
                                    refine J_region (by kernel_rfl) ?_
                                    (try simp only [go_sem, Nat.reduceEqDiff, ↓reduceIte])
                                    refine hold2 (then_n ?_)
                                    refine J_region (by kernel_rfl) ?_
                                    (try simp only [go_sem, Nat.reduceEqDiff, ↓reduceIte])
                                    refine hold2 ?_
                                    exact loop_n (k393, r395.2.2.1, r395.1, r395.2.1, r395.2.2.1, r395.2.2.2.1, r395.2.2.2.2) hP (Nat.lt_succ_self _) (so [1])
                                · refine condV_f hc ?_
                                  refine J_exit (then_exit (loop_exit (block_eq ?_)))
                                  exact join_n at387 (Option.some.inj hP) (so [])
                            · intro j397 hs
                              subst hs
                              have hP := hQ394
                              dsimp only at hP
                              clear hQ394
                              refine block_n ?_
                              exact join_n j397 (Option.some.inj hP) (so [])
                        · refine condV_f hc ?_
                          obtain ⟨o401, hP, hQ401⟩ := bind_cases hP
                          refine J_join (fun (s : Bool) => envL [(0, .view 1 (List.map encB j5)), (3, .int .i64 at140), (135, .bool s)]) (fun (s : Bool) => []) (fun s => s = o401) ?_ ?_
                          · clear hQ401
                            refine J_region (by kernel_rfl) ?_
                            (try simp only [go_sem, Nat.reduceEqDiff, ↓reduceIte])
                            rcases ite_cases hP with ⟨hc, hP⟩ | ⟨hc, hP⟩
                            · refine guard_is hc ?_
                              (try simp only [go_sem, Nat.reduceEqDiff, ↓reduceIte])
                              obtain ⟨x402, hx402, hP⟩ := bind_cases hP
                              refine ixV_of hx402 ?_
                              (try simp only [go_sem, Nat.reduceEqDiff, ↓reduceIte])
                              rcases ite_cases hP with ⟨hc, hP⟩ | ⟨hc, hP⟩
                              · refine guard_not hc ?_
                                (try simp only [go_sem, Nat.reduceEqDiff, ↓reduceIte])
                                refine hold2 ?_
                                exact join_n true (Option.some.inj hP) (so [])
                              · refine guard_is hc ?_
                                (try simp only [go_sem, Nat.reduceEqDiff, ↓reduceIte])
                                obtain ⟨x403, hx403, hP⟩ := bind_cases hP
                                refine ixV_of hx403 ?_
                                (try simp only [go_sem, Nat.reduceEqDiff, ↓reduceIte])
                                rcases ite_cases hP with ⟨hc, hP⟩ | ⟨hc, hP⟩
                                · refine guard_not hc ?_
                                  (try simp only [go_sem, Nat.reduceEqDiff, ↓reduceIte])
                                  refine hold2 ?_
                                  exact join_n true (Option.some.inj hP) (so [])
                                · refine guard_is hc ?_
                                  (try simp only [go_sem, Nat.reduceEqDiff, ↓reduceIte])
                                  obtain ⟨x404, hx404, hP⟩ := bind_cases hP
                                  refine ixV_of hx404 ?_
                                  (try simp only [go_sem, Nat.reduceEqDiff, ↓reduceIte])
                                  refine hold2 ?_
                                  exact join_n (decide (b2i x404 = b2i (bC 63))) (Option.some.inj hP) (so [])
                            · refine guard_not hc ?_
                              (try simp only [go_sem, Nat.reduceEqDiff, ↓reduceIte])
                              refine hold2 ?_
                              exact join_n false (Option.some.inj hP) (so [])
                          · intro j405 hs
                            subst hs
                            have hP := hQ401
                            clear hQ401
                            refine J_condV rfl ?_
                            (try simp only [go_sem, Nat.reduceEqDiff, ↓reduceIte])
                            rcases ite_cases hP with ⟨hc, hP⟩ | ⟨hc, hP⟩
                            · refine condV_t hc ?_
                              refine J_region (by kernel_rfl) ?_
                              (try simp only [go_sem, Nat.reduceEqDiff, ↓reduceIte])
                              obtain ⟨r406, hr406, hP⟩ := bind_cases hP
                              refine call_ok [.view 1 (List.map encB j5), .int .i64 at140, .bool false] (ref11_close_ok hr406) ⟨argR_m false rfl, argR_m false rfl, argR_m false rfl, trivial⟩ ?_
                              (try simp only [go_sem, Nat.reduceEqDiff, ↓reduceIte])
                              refine hold2 (block_n ?_)
                              exact join_n r406 (Option.some.inj hP) (so [])
                            · refine condV_f hc ?_
                              refine J_skip (block_n ?_)
                              exact join_n at140 (Option.some.inj hP) (so [])
              · intro j407 hs
                subst hs
                have hP := hQ342
                dsimp only at hP
                clear hQ342
                refine J_seq ?_
                refine J_region (by kernel_rfl) ?_
                (try simp only [go_sem, Nat.reduceEqDiff, ↓reduceIte])
                refine hold2 (then_n ?_)
                refine J_condV rfl ?_
                (try simp only [go_sem, Nat.reduceEqDiff, ↓reduceIte])
                rcases ite_cases hP with ⟨hc, hP⟩ | ⟨hc, hP⟩
                · refine condV_t hc ?_
                  refine J_seq ?_
                  refine J_region (by kernel_rfl) ?_
                  (try simp only [go_sem, Nat.reduceEqDiff, ↓reduceIte])
                  refine hold2 (then_n ?_)
                  refine J_ret (block_ret (then_ret (loop_ret (block_ret (join_ret (then_ret (fin_ret ?_)))))))
                  obtain rfl := Option.some.inj hP
                  have hP := hQ274
                  dsimp only at hP
                  obtain rfl := Option.some.inj hP
                  (try simp only [go_sem, Nat.reduceEqDiff, ↓reduceIte])
                  exact fo []
                · refine condV_f hc ?_
                  refine J_skip (block_n (then_n ?_))
                  refine J_region (by kernel_rfl) ?_
                  (try simp only [go_sem, Nat.reduceEqDiff, ↓reduceIte])
                  refine hold2 ?_
                  exact loop_n (k141, iadd .i64 j407 1) hP (Nat.lt_succ_self _) (so [])
          · refine condV_f hc ?_
            refine J_exit (then_exit (loop_exit (block_eq ?_)))
            exact join_n () (Option.some.inj hP) (so [])
    · intro j409 hs
      subst hs
      have hP := hQ274
      dsimp only at hP
      clear hQ274
      refine then_n ?_
      refine J_seq ?_
      refine J_region (by kernel_rfl) ?_
      (try simp only [go_sem, Nat.reduceEqDiff, ↓reduceIte])
      refine hold2 (then_n ?_)
      refine J_ret (fin_ret ?_)
      obtain rfl := Option.some.inj hP
      (try simp only [go_sem, Nat.reduceEqDiff, ↓reduceIte])
      exact fo []
end Go.Proofs.YtecpgelhhbbjmaaDoor
