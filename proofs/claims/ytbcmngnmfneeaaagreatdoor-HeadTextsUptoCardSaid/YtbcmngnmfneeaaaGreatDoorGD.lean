/- Functions of the program, and pure ones that go the same ways: that the program's return what these compute. -/
import Derived.Test.YtbcmngnmfneeaaaGreatDoorBls
import Derived.Test.YtbcmngnmfneeaaaGreatDoorAvJ
namespace Go.Proofs.YtbcmngnmfneeaaaGreatDoor
open Go.Av
set_option linter.unusedVariables false
set_option linter.unusedSimpArgs false
/-- colander/colanderref03.tchar -/
def ref03_tchar_L8 (c1 : UInt8) : Nat → Int → Option (Sum (Bool) (Unit))
  | 0, _ => none
  | k7 + 1, i6 =>
    if decide (i6 < (List.length [33, 35, 36, 37, 38, 39, 42, 43, 45, 46, 94, 95, 96, 124, 126] : Int)) then
      (ixL [33, 35, 36, 37, 38, 39, 42, 43, 45, 46, 94, 95, 96, 124, 126] i6).bind fun c9 =>
      if decide (b2i c9 = b2i c1) then
        some (Sum.inl true)
      else
        ref03_tchar_L8 c1 k7 (iadd .i64 i6 1)
    else
      some (Sum.inr ())
def ref03_tchar (c1 : UInt8) : Option (Bool) :=
  (show Option (Bool) from
    if decide (b2i (bC 97) ≤ b2i c1) then
      if decide (b2i c1 ≤ b2i (bC 122)) then
        some true
      else
        if decide (b2i (bC 65) ≤ b2i c1) then
          if decide (b2i c1 ≤ b2i (bC 90)) then
            some true
          else
            if decide (b2i (bC 48) ≤ b2i c1) then
              some (decide (b2i c1 ≤ b2i (bC 57)))
            else
              some false
        else
          if decide (b2i (bC 48) ≤ b2i c1) then
            some (decide (b2i c1 ≤ b2i (bC 57)))
          else
            some false
    else
      if decide (b2i (bC 65) ≤ b2i c1) then
        if decide (b2i c1 ≤ b2i (bC 90)) then
          some true
        else
          if decide (b2i (bC 48) ≤ b2i c1) then
            some (decide (b2i c1 ≤ b2i (bC 57)))
          else
            some false
      else
        if decide (b2i (bC 48) ≤ b2i c1) then
          some (decide (b2i c1 ≤ b2i (bC 57)))
        else
          some false).bind fun j3 =>
    if j3 then
      some true
    else
      (ref03_tchar_L8 c1 1099511627776 0).bind fun o10 => match o10 with
      | Sum.inl r => some r
      | Sum.inr j11 =>
        some false
set_option maxRecDepth 100000 in
set_option maxHeartbeats 40000000 in
theorem ref03_tchar_ok {c1 : UInt8} {r : Bool} (hP : ref03_tchar c1 = some r) : CallOK Tryz.prog 96 [.int .u8 (b2i c1)] (.bool r) [] := by
  unfold ref03_tchar at hP
  refine co 38 [.tmp 2] Tryz.func96 ?_
  refine J_seq ?_
  refine J_region (by kernel_rfl) ?_
  (try simp only [go_sem, Nat.reduceEqDiff, ↓reduceIte])
  refine hold2 (then_n ?_)
  refine J_seq ?_
  obtain ⟨o2, hP, hQ2⟩ := bind_cases hP
  refine J_join (fun (s : Bool) => envL [(0, .int .u8 (b2i c1)), (26, .bool s)]) (fun (s : Bool) => []) (fun s => s = o2) ?_ ?_
  · clear hQ2
    refine J_region (by kernel_rfl) ?_
    (try simp only [go_sem, Nat.reduceEqDiff, ↓reduceIte])
    rcases ite_cases hP with ⟨hc, hP⟩ | ⟨hc, hP⟩
    · refine guard_is hc ?_
      (try simp only [go_sem, Nat.reduceEqDiff, ↓reduceIte])
      rcases ite_cases hP with ⟨hc, hP⟩ | ⟨hc, hP⟩
      · refine guard_not hc ?_
        (try simp only [go_sem, Nat.reduceEqDiff, ↓reduceIte])
        refine hold2 ?_
        exact join_n true (Option.some.inj hP) (so [])
      · refine guard_is hc ?_
        (try simp only [go_sem, Nat.reduceEqDiff, ↓reduceIte])
        rcases ite_cases hP with ⟨hc, hP⟩ | ⟨hc, hP⟩
        · refine guard_is hc ?_
          (try simp only [go_sem, Nat.reduceEqDiff, ↓reduceIte])
          rcases ite_cases hP with ⟨hc, hP⟩ | ⟨hc, hP⟩
          · refine guard_not hc ?_
            (try simp only [go_sem, Nat.reduceEqDiff, ↓reduceIte])
            refine hold2 ?_
            exact join_n true (Option.some.inj hP) (so [])
          · refine guard_is hc ?_
            (try simp only [go_sem, Nat.reduceEqDiff, ↓reduceIte])
            rcases ite_cases hP with ⟨hc, hP⟩ | ⟨hc, hP⟩
            · refine guard_is hc ?_
              (try simp only [go_sem, Nat.reduceEqDiff, ↓reduceIte])
              refine hold2 ?_
              exact join_n (decide (b2i c1 ≤ b2i (bC 57))) (Option.some.inj hP) (so [])
            · refine guard_not hc ?_
              (try simp only [go_sem, Nat.reduceEqDiff, ↓reduceIte])
              refine hold2 ?_
              exact join_n false (Option.some.inj hP) (so [])
        · refine guard_not hc ?_
          (try simp only [go_sem, Nat.reduceEqDiff, ↓reduceIte])
          rcases ite_cases hP with ⟨hc, hP⟩ | ⟨hc, hP⟩
          · refine guard_is hc ?_
            (try simp only [go_sem, Nat.reduceEqDiff, ↓reduceIte])
            refine hold2 ?_
            exact join_n (decide (b2i c1 ≤ b2i (bC 57))) (Option.some.inj hP) (so [])
          · refine guard_not hc ?_
            (try simp only [go_sem, Nat.reduceEqDiff, ↓reduceIte])
            refine hold2 ?_
            exact join_n false (Option.some.inj hP) (so [])
    · refine guard_not hc ?_
      (try simp only [go_sem, Nat.reduceEqDiff, ↓reduceIte])
      rcases ite_cases hP with ⟨hc, hP⟩ | ⟨hc, hP⟩
      · refine guard_is hc ?_
        (try simp only [go_sem, Nat.reduceEqDiff, ↓reduceIte])
        rcases ite_cases hP with ⟨hc, hP⟩ | ⟨hc, hP⟩
        · refine guard_not hc ?_
          (try simp only [go_sem, Nat.reduceEqDiff, ↓reduceIte])
          refine hold2 ?_
          exact join_n true (Option.some.inj hP) (so [])
        · refine guard_is hc ?_
          (try simp only [go_sem, Nat.reduceEqDiff, ↓reduceIte])
          rcases ite_cases hP with ⟨hc, hP⟩ | ⟨hc, hP⟩
          · refine guard_is hc ?_
            (try simp only [go_sem, Nat.reduceEqDiff, ↓reduceIte])
            refine hold2 ?_
            exact join_n (decide (b2i c1 ≤ b2i (bC 57))) (Option.some.inj hP) (so [])
          · refine guard_not hc ?_
            (try simp only [go_sem, Nat.reduceEqDiff, ↓reduceIte])
            refine hold2 ?_
            exact join_n false (Option.some.inj hP) (so [])
      · refine guard_not hc ?_
        (try simp only [go_sem, Nat.reduceEqDiff, ↓reduceIte])
        rcases ite_cases hP with ⟨hc, hP⟩ | ⟨hc, hP⟩
        · refine guard_is hc ?_
          (try simp only [go_sem, Nat.reduceEqDiff, ↓reduceIte])
          refine hold2 ?_
          exact join_n (decide (b2i c1 ≤ b2i (bC 57))) (Option.some.inj hP) (so [])
        · refine guard_not hc ?_
          (try simp only [go_sem, Nat.reduceEqDiff, ↓reduceIte])
          refine hold2 ?_
          exact join_n false (Option.some.inj hP) (so [])
  · intro j3 hs
    subst hs
    have hP := hQ2
    clear hQ2
    refine J_condV rfl ?_
    (try simp only [go_sem, Nat.reduceEqDiff, ↓reduceIte])
    rcases ite_cases hP with ⟨hc, hP⟩ | ⟨hc, hP⟩
    · refine condV_t hc ?_
      refine J_seq ?_
      refine J_region (by kernel_rfl) ?_
      (try simp only [go_sem, Nat.reduceEqDiff, ↓reduceIte])
      refine hold2 (then_n ?_)
      refine J_ret (then_ret (fin_ret ?_))
      obtain rfl := Option.some.inj hP
      (try simp only [go_sem, Nat.reduceEqDiff, ↓reduceIte])
      exact fo []
    · refine condV_f hc ?_
      refine J_skip (then_n ?_)
      refine J_seq ?_
      refine J_region (by kernel_rfl) ?_
      (try simp only [go_sem, Nat.reduceEqDiff, ↓reduceIte])
      refine hold2 (then_n ?_)
      refine J_seq ?_
      refine J_seq ?_
      refine J_region (by kernel_rfl) ?_
      (try simp only [go_sem, Nat.reduceEqDiff, ↓reduceIte])
      refine hold2 (then_n ?_)
      obtain ⟨o10, hP, hQ8⟩ := bind_cases hP
      refine J_joinK0 (fun (s : Unit) => envL []) (fun (s : Unit) => []) (fun s => Sum.inr s = o10) ?_ ?_
      · refine J_block ?_
        refine J_loop (σ := Nat × Int) (fun (s : Nat × Int) => envL [(0, .int .u8 (b2i c1)), (3, .str [33, 35, 36, 37, 38, 39, 42, 43, 45, 46, 94, 95, 96, 124, 126]), (4, .int .i64 s.2)]) (fun (s : Nat × Int) => []) (fun s => ref03_tchar_L8 c1 s.1 s.2 = some o10) (fun s => s.1) (1099511627776, 0) hP (so []) ?_
        rintro ⟨k7, i6⟩ hP
        dsimp only at hP ⊢
        cases k7 with
        | zero => simp [ref03_tchar_L8] at hP
        | succ k7 =>
          simp only [ref03_tchar_L8] at hP
          refine J_seq ?_
          refine J_seq ?_
          refine J_region (by kernel_rfl) ?_
          (try simp only [go_sem, Nat.reduceEqDiff, ↓reduceIte])
          refine hold2 (then_n ?_)
          refine J_condV rfl ?_
          (try simp only [go_sem, Nat.reduceEqDiff, ↓reduceIte])
          rcases ite_cases hP with ⟨hc, hP⟩ | ⟨hc, hP⟩
          · refine condV_t hc ?_
            refine J_skip (then_n ?_)
            refine J_seq ?_
            refine J_block ?_
            refine J_seq ?_
            refine J_region (by kernel_rfl) ?_
            (try simp only [go_sem, Nat.reduceEqDiff, ↓reduceIte])
            obtain ⟨c9, hc9, hP⟩ := bind_cases hP
            refine ixS_of hc9 ?_
            (try simp only [go_sem, Nat.reduceEqDiff, ↓reduceIte])
            refine hold2 (then_n ?_)
            refine J_condV rfl ?_
            (try simp only [go_sem, Nat.reduceEqDiff, ↓reduceIte])
            rcases ite_cases hP with ⟨hc, hP⟩ | ⟨hc, hP⟩
            · refine condV_t hc ?_
              refine J_seq ?_
              refine J_region (by kernel_rfl) ?_
              (try simp only [go_sem, Nat.reduceEqDiff, ↓reduceIte])
              refine hold2 (then_n ?_)
              refine J_ret (block_ret (then_ret (loop_ret (block_ret (join_ret (then_ret (fin_ret ?_)))))))
              obtain rfl := Option.some.inj hP
              have hP := hQ8
              dsimp only at hP
              obtain rfl := Option.some.inj hP
              (try simp only [go_sem, Nat.reduceEqDiff, ↓reduceIte])
              exact fo []
            · refine condV_f hc ?_
              refine J_skip (block_n (then_n ?_))
              refine J_region (by kernel_rfl) ?_
              (try simp only [go_sem, Nat.reduceEqDiff, ↓reduceIte])
              refine hold2 ?_
              exact loop_n (k7, iadd .i64 i6 1) hP (Nat.lt_succ_self _) (so [])
          · refine condV_f hc ?_
            refine J_exit (then_exit (loop_exit (block_eq ?_)))
            exact join_n () (Option.some.inj hP) (so [])
      · intro j11 hs
        subst hs
        have hP := hQ8
        dsimp only at hP
        clear hQ8
        refine then_n ?_
        refine J_seq ?_
        refine J_region (by kernel_rfl) ?_
        (try simp only [go_sem, Nat.reduceEqDiff, ↓reduceIte])
        refine hold2 (then_n ?_)
        refine J_ret (fin_ret ?_)
        obtain rfl := Option.some.inj hP
        (try simp only [go_sem, Nat.reduceEqDiff, ↓reduceIte])
        exact fo []
/-- colander/colanderref03.Token -/
def ref03_Token_L8 (s1 : List UInt8) : Nat → Int → Option (Sum (Bool) (Unit))
  | 0, _ => none
  | k6 + 1, i5 =>
    if decide (i5 < (List.length s1 : Int)) then
      (ixL s1 i5).bind fun c9 =>
      (ref03_tchar c9).bind fun r10 =>
      if !r10 then
        some (Sum.inl false)
      else
        ref03_Token_L8 s1 k6 (iadd .i64 i5 1)
    else
      some (Sum.inr ())
def ref03_Token (s1 : List UInt8) : Option (Bool) :=
  (ref03_Token_L8 s1 1099511627776 0).bind fun o11 => match o11 with
  | Sum.inl r => some r
  | Sum.inr j12 =>
    some (!decide (s1 = []))
set_option maxRecDepth 100000 in
set_option maxHeartbeats 40000000 in
theorem ref03_Token_ok {s1 : List UInt8} {r : Bool} (hP : ref03_Token s1 = some r) : CallOK Tryz.prog 72 [.str s1] (.bool r) [] := by
  unfold ref03_Token at hP
  refine co 19 [.tmp 2] Tryz.func72 ?_
  refine J_seq ?_
  refine J_region (by kernel_rfl) ?_
  (try simp only [go_sem, Nat.reduceEqDiff, ↓reduceIte])
  refine hold2 (then_n ?_)
  refine J_seq ?_
  refine J_seq ?_
  refine J_region (by kernel_rfl) ?_
  (try simp only [go_sem, Nat.reduceEqDiff, ↓reduceIte])
  refine hold2 (then_n ?_)
  obtain ⟨o11, hP, hQ8⟩ := bind_cases hP
  refine J_joinK0 (fun (s : Unit) => envL [(0, .str s1)]) (fun (s : Unit) => []) (fun s => Sum.inr s = o11) ?_ ?_
  · refine J_block ?_
    refine J_loop (σ := Nat × Int) (fun (s : Nat × Int) => envL [(0, .str s1), (3, .int .i64 s.2)]) (fun (s : Nat × Int) => []) (fun s => ref03_Token_L8 s1 s.1 s.2 = some o11) (fun s => s.1) (1099511627776, 0) hP (so []) ?_
    rintro ⟨k6, i5⟩ hP
    dsimp only at hP ⊢
    cases k6 with
    | zero => simp [ref03_Token_L8] at hP
    | succ k6 =>
      simp only [ref03_Token_L8] at hP
      refine J_seq ?_
      refine J_seq ?_
      refine J_region (by kernel_rfl) ?_
      (try simp only [go_sem, Nat.reduceEqDiff, ↓reduceIte])
      refine hold2 (then_n ?_)
      refine J_condV rfl ?_
      (try simp only [go_sem, Nat.reduceEqDiff, ↓reduceIte])
      rcases ite_cases hP with ⟨hc, hP⟩ | ⟨hc, hP⟩
      · refine condV_t hc ?_
        refine J_skip (then_n ?_)
        refine J_seq ?_
        refine J_block ?_
        refine J_seq ?_
        refine J_region (by kernel_rfl) ?_
        (try simp only [go_sem, Nat.reduceEqDiff, ↓reduceIte])
        obtain ⟨c9, hc9, hP⟩ := bind_cases hP
        refine ixS_of hc9 ?_
        (try simp only [go_sem, Nat.reduceEqDiff, ↓reduceIte])
        obtain ⟨r10, hr10, hP⟩ := bind_cases hP
        refine call_ok [.int .u8 (b2i c9)] (ref03_tchar_ok hr10) ⟨argR_m false rfl, trivial⟩ ?_
        (try simp only [go_sem, Nat.reduceEqDiff, ↓reduceIte])
        refine hold2 (then_n ?_)
        refine J_seq ?_
        refine J_region (by kernel_rfl) ?_
        (try simp only [go_sem, Nat.reduceEqDiff, ↓reduceIte])
        refine hold2 (then_n ?_)
        refine J_condV rfl ?_
        (try simp only [go_sem, Nat.reduceEqDiff, ↓reduceIte])
        rcases ite_cases hP with ⟨hc, hP⟩ | ⟨hc, hP⟩
        · refine condV_t hc ?_
          refine J_seq ?_
          refine J_region (by kernel_rfl) ?_
          (try simp only [go_sem, Nat.reduceEqDiff, ↓reduceIte])
          refine hold2 (then_n ?_)
          refine J_ret (block_ret (then_ret (loop_ret (block_ret (join_ret (then_ret (fin_ret ?_)))))))
          obtain rfl := Option.some.inj hP
          have hP := hQ8
          dsimp only at hP
          obtain rfl := Option.some.inj hP
          (try simp only [go_sem, Nat.reduceEqDiff, ↓reduceIte])
          exact fo []
        · refine condV_f hc ?_
          refine J_skip (block_n (then_n ?_))
          refine J_region (by kernel_rfl) ?_
          (try simp only [go_sem, Nat.reduceEqDiff, ↓reduceIte])
          refine hold2 ?_
          exact loop_n (k6, iadd .i64 i5 1) hP (Nat.lt_succ_self _) (so [])
      · refine condV_f hc ?_
        refine J_exit (then_exit (loop_exit (block_eq ?_)))
        exact join_n () (Option.some.inj hP) (so [])
  · intro j12 hs
    subst hs
    have hP := hQ8
    dsimp only at hP
    clear hQ8
    refine then_n ?_
    refine J_seq ?_
    refine J_region (by kernel_rfl) ?_
    (try simp only [go_sem, Nat.reduceEqDiff, ↓reduceIte])
    refine hold2 (then_n ?_)
    refine J_ret (fin_ret ?_)
    obtain rfl := Option.some.inj hP
    (try simp only [go_sem, Nat.reduceEqDiff, ↓reduceIte])
    exact fo []
/-- colander/colanderref03.quotable -/
def ref03_quotable (c1 : UInt8) : Option (Bool) :=
  if decide (b2i c1 = b2i (bC 9)) then
    some true
  else
    if decide (b2i (bC 32) ≤ b2i c1) then
      some (!decide (b2i c1 = b2i (bC 127)))
    else
      some false
set_option maxRecDepth 100000 in
set_option maxHeartbeats 40000000 in
theorem ref03_quotable_ok {c1 : UInt8} {r : Bool} (hP : ref03_quotable c1 = some r) : CallOK Tryz.prog 120 [.int .u8 (b2i c1)] (.bool r) [] := by
  unfold ref03_quotable at hP
  refine co 13 [.tmp 2] Tryz.func120 ?_
  refine J_seq ?_
  refine J_region (by kernel_rfl) ?_
  (try simp only [go_sem, Nat.reduceEqDiff, ↓reduceIte])
  refine hold2 (then_n ?_)
  refine J_seq ?_
  refine J_region (by kernel_rfl) ?_
  (try simp only [go_sem, Nat.reduceEqDiff, ↓reduceIte])
  rcases ite_cases hP with ⟨hc, hP⟩ | ⟨hc, hP⟩
  · refine guard_not hc ?_
    (try simp only [go_sem, Nat.reduceEqDiff, ↓reduceIte])
    refine hold2 (then_n ?_)
    refine J_ret (fin_ret ?_)
    obtain rfl := Option.some.inj hP
    (try simp only [go_sem, Nat.reduceEqDiff, ↓reduceIte])
    exact fo []
  · refine guard_is hc ?_
    (try simp only [go_sem, Nat.reduceEqDiff, ↓reduceIte])
    rcases ite_cases hP with ⟨hc, hP⟩ | ⟨hc, hP⟩
    · refine guard_is hc ?_
      (try simp only [go_sem, Nat.reduceEqDiff, ↓reduceIte])
      refine hold2 (then_n ?_)
      refine J_ret (fin_ret ?_)
      obtain rfl := Option.some.inj hP
      (try simp only [go_sem, Nat.reduceEqDiff, ↓reduceIte])
      exact fo []
    · refine guard_not hc ?_
      (try simp only [go_sem, Nat.reduceEqDiff, ↓reduceIte])
      refine hold2 (then_n ?_)
      refine J_ret (fin_ret ?_)
      obtain rfl := Option.some.inj hP
      (try simp only [go_sem, Nat.reduceEqDiff, ↓reduceIte])
      exact fo []
/-- colander/colanderref03.Quotable -/
def ref03_Quotable_L8 (s1 : List UInt8) : Nat → Int → Option (Sum (Bool) (Unit))
  | 0, _ => none
  | k6 + 1, i5 =>
    if decide (i5 < (List.length s1 : Int)) then
      (ixL s1 i5).bind fun c9 =>
      (ref03_quotable c9).bind fun r10 =>
      if !r10 then
        some (Sum.inl false)
      else
        ref03_Quotable_L8 s1 k6 (iadd .i64 i5 1)
    else
      some (Sum.inr ())
def ref03_Quotable (s1 : List UInt8) : Option (Bool) :=
  (ref03_Quotable_L8 s1 1099511627776 0).bind fun o11 => match o11 with
  | Sum.inl r => some r
  | Sum.inr j12 =>
    some true
set_option maxRecDepth 100000 in
set_option maxHeartbeats 40000000 in
theorem ref03_Quotable_ok {s1 : List UInt8} {r : Bool} (hP : ref03_Quotable s1 = some r) : CallOK Tryz.prog 97 [.str s1] (.bool r) [] := by
  unfold ref03_Quotable at hP
  refine co 17 [.tmp 2] Tryz.func97 ?_
  refine J_seq ?_
  refine J_region (by kernel_rfl) ?_
  (try simp only [go_sem, Nat.reduceEqDiff, ↓reduceIte])
  refine hold2 (then_n ?_)
  refine J_seq ?_
  refine J_seq ?_
  refine J_region (by kernel_rfl) ?_
  (try simp only [go_sem, Nat.reduceEqDiff, ↓reduceIte])
  refine hold2 (then_n ?_)
  obtain ⟨o11, hP, hQ8⟩ := bind_cases hP
  refine J_joinK0 (fun (s : Unit) => envL []) (fun (s : Unit) => []) (fun s => Sum.inr s = o11) ?_ ?_
  · refine J_block ?_
    refine J_loop (σ := Nat × Int) (fun (s : Nat × Int) => envL [(0, .str s1), (3, .int .i64 s.2)]) (fun (s : Nat × Int) => []) (fun s => ref03_Quotable_L8 s1 s.1 s.2 = some o11) (fun s => s.1) (1099511627776, 0) hP (so []) ?_
    rintro ⟨k6, i5⟩ hP
    dsimp only at hP ⊢
    cases k6 with
    | zero => simp [ref03_Quotable_L8] at hP
    | succ k6 =>
      simp only [ref03_Quotable_L8] at hP
      refine J_seq ?_
      refine J_seq ?_
      refine J_region (by kernel_rfl) ?_
      (try simp only [go_sem, Nat.reduceEqDiff, ↓reduceIte])
      refine hold2 (then_n ?_)
      refine J_condV rfl ?_
      (try simp only [go_sem, Nat.reduceEqDiff, ↓reduceIte])
      rcases ite_cases hP with ⟨hc, hP⟩ | ⟨hc, hP⟩
      · refine condV_t hc ?_
        refine J_skip (then_n ?_)
        refine J_seq ?_
        refine J_block ?_
        refine J_seq ?_
        refine J_region (by kernel_rfl) ?_
        (try simp only [go_sem, Nat.reduceEqDiff, ↓reduceIte])
        obtain ⟨c9, hc9, hP⟩ := bind_cases hP
        refine ixS_of hc9 ?_
        (try simp only [go_sem, Nat.reduceEqDiff, ↓reduceIte])
        obtain ⟨r10, hr10, hP⟩ := bind_cases hP
        refine call_ok [.int .u8 (b2i c9)] (ref03_quotable_ok hr10) ⟨argR_m false rfl, trivial⟩ ?_
        (try simp only [go_sem, Nat.reduceEqDiff, ↓reduceIte])
        refine hold2 (then_n ?_)
        refine J_seq ?_
        refine J_region (by kernel_rfl) ?_
        (try simp only [go_sem, Nat.reduceEqDiff, ↓reduceIte])
        refine hold2 (then_n ?_)
        refine J_condV rfl ?_
        (try simp only [go_sem, Nat.reduceEqDiff, ↓reduceIte])
        rcases ite_cases hP with ⟨hc, hP⟩ | ⟨hc, hP⟩
        · refine condV_t hc ?_
          refine J_seq ?_
          refine J_region (by kernel_rfl) ?_
          (try simp only [go_sem, Nat.reduceEqDiff, ↓reduceIte])
          refine hold2 (then_n ?_)
          refine J_ret (block_ret (then_ret (loop_ret (block_ret (join_ret (then_ret (fin_ret ?_)))))))
          obtain rfl := Option.some.inj hP
          have hP := hQ8
          dsimp only at hP
          obtain rfl := Option.some.inj hP
          (try simp only [go_sem, Nat.reduceEqDiff, ↓reduceIte])
          exact fo []
        · refine condV_f hc ?_
          refine J_skip (block_n (then_n ?_))
          refine J_region (by kernel_rfl) ?_
          (try simp only [go_sem, Nat.reduceEqDiff, ↓reduceIte])
          refine hold2 ?_
          exact loop_n (k6, iadd .i64 i5 1) hP (Nat.lt_succ_self _) (so [])
      · refine condV_f hc ?_
        refine J_exit (then_exit (loop_exit (block_eq ?_)))
        exact join_n () (Option.some.inj hP) (so [])
  · intro j12 hs
    subst hs
    have hP := hQ8
    dsimp only at hP
    clear hQ8
    refine then_n ?_
    refine J_seq ?_
    refine J_region (by kernel_rfl) ?_
    (try simp only [go_sem, Nat.reduceEqDiff, ↓reduceIte])
    refine hold2 (then_n ?_)
    refine J_ret (fin_ret ?_)
    obtain rfl := Option.some.inj hP
    (try simp only [go_sem, Nat.reduceEqDiff, ↓reduceIte])
    exact fo []
/-- colander/colanderref03.blank -/
def ref03_blank (c1 : UInt8) : Option (Bool) :=
  if decide (b2i c1 = b2i (bC 32)) then
    some true
  else
    some (decide (b2i c1 = b2i (bC 9)))
set_option maxRecDepth 100000 in
set_option maxHeartbeats 40000000 in
theorem ref03_blank_ok {c1 : UInt8} {r : Bool} (hP : ref03_blank c1 = some r) : CallOK Tryz.prog 121 [.int .u8 (b2i c1)] (.bool r) [] := by
  unfold ref03_blank at hP
  refine co 9 [.tmp 2] Tryz.func121 ?_
  refine J_seq ?_
  refine J_region (by kernel_rfl) ?_
  (try simp only [go_sem, Nat.reduceEqDiff, ↓reduceIte])
  refine hold2 (then_n ?_)
  refine J_seq ?_
  refine J_region (by kernel_rfl) ?_
  (try simp only [go_sem, Nat.reduceEqDiff, ↓reduceIte])
  rcases ite_cases hP with ⟨hc, hP⟩ | ⟨hc, hP⟩
  · refine guard_not hc ?_
    (try simp only [go_sem, Nat.reduceEqDiff, ↓reduceIte])
    refine hold2 (then_n ?_)
    refine J_ret (fin_ret ?_)
    obtain rfl := Option.some.inj hP
    (try simp only [go_sem, Nat.reduceEqDiff, ↓reduceIte])
    exact fo []
  · refine guard_is hc ?_
    (try simp only [go_sem, Nat.reduceEqDiff, ↓reduceIte])
    refine hold2 (then_n ?_)
    refine J_ret (fin_ret ?_)
    obtain rfl := Option.some.inj hP
    (try simp only [go_sem, Nat.reduceEqDiff, ↓reduceIte])
    exact fo []
/-- colander/colanderref03.Trim -/
def ref03_Trim_L10 : Nat → (List UInt8) → Option ((List UInt8))
  | 0, _ => none
  | k7 + 1, s6 =>
    if decide (0 < (List.length s6 : Int)) then
      (ixL s6 0).bind fun c11 =>
      (ref03_blank c11).bind fun r12 =>
      if r12 then
        (slL s6 1 (List.length s6 : Int)).bind fun s13 =>
        ref03_Trim_L10 k7 s13
      else
        some s6
    else
      some s6
def ref03_Trim_L32 : Nat → (List UInt8) → Option ((List UInt8))
  | 0, _ => none
  | k25 + 1, s24 =>
    (show Option (Bool) from
      if decide (0 < (List.length s24 : Int)) then
        (ixL s24 (isub .i64 (List.length s24 : Int) 1)).bind fun c36 =>
        (ref03_blank c36).bind fun r37 =>
        some r37
      else
        some false).bind fun j38 =>
      if j38 then
        (slL s24 0 (isub .i64 (List.length s24 : Int) 1)).bind fun s39 =>
        ref03_Trim_L32 k25 s39
      else
        some s24
def ref03_Trim (s1 : List UInt8) : Option ((List UInt8)) :=
  (ref03_Trim_L10  1099511627776 s1).bind fun j15 =>
    (ref03_Trim_L32  1099511627776 j15).bind fun j41 =>
      some j41
set_option maxRecDepth 100000 in
set_option maxHeartbeats 40000000 in
theorem ref03_Trim_ok {s1 : List UInt8} {r : (List UInt8)} (hP : ref03_Trim s1 = some r) : CallOK Tryz.prog 98 [.str s1] (.str r) [] := by
  unfold ref03_Trim at hP
  refine co 30 [.tmp 2] Tryz.func98 ?_
  refine J_seq ?_
  refine J_region (by kernel_rfl) ?_
  (try simp only [go_sem, Nat.reduceEqDiff, ↓reduceIte])
  refine hold2 (then_n ?_)
  refine J_seq ?_
  obtain ⟨o14, hP, hQ10⟩ := bind_cases hP
  refine J_joinK0 (fun (s : (List UInt8)) => envL [(0, .str s)]) (fun (s : (List UInt8)) => []) (fun s => s = o14) ?_ ?_
  · clear hQ10
    refine J_block ?_
    refine J_loop (σ := Nat × (List UInt8)) (fun (s : Nat × (List UInt8)) => envL [(0, .str s.2)]) (fun (s : Nat × (List UInt8)) => []) (fun s => ref03_Trim_L10  s.1 s.2 = some o14) (fun s => s.1) (1099511627776, s1) hP (so []) ?_
    rintro ⟨k7, s6⟩ hP
    dsimp only at hP ⊢
    cases k7 with
    | zero => simp [ref03_Trim_L10] at hP
    | succ k7 =>
      simp only [ref03_Trim_L10] at hP
      refine J_seq ?_
      refine J_seq ?_
      refine J_region (by kernel_rfl) ?_
      (try simp only [go_sem, Nat.reduceEqDiff, ↓reduceIte])
      rcases ite_cases hP with ⟨hc, hP⟩ | ⟨hc, hP⟩
      · refine guard_is hc ?_
        (try simp only [go_sem, Nat.reduceEqDiff, ↓reduceIte])
        obtain ⟨c11, hc11, hP⟩ := bind_cases hP
        refine ixS_of hc11 ?_
        (try simp only [go_sem, Nat.reduceEqDiff, ↓reduceIte])
        obtain ⟨r12, hr12, hP⟩ := bind_cases hP
        refine call_ok [.int .u8 (b2i c11)] (ref03_blank_ok hr12) ⟨argR_m false rfl, trivial⟩ ?_
        (try simp only [go_sem, Nat.reduceEqDiff, ↓reduceIte])
        refine hold2 (then_n ?_)
        refine J_condV rfl ?_
        (try simp only [go_sem, Nat.reduceEqDiff, ↓reduceIte])
        rcases ite_cases hP with ⟨hc, hP⟩ | ⟨hc, hP⟩
        · refine condV_t hc ?_
          refine J_skip (then_n ?_)
          refine J_block ?_
          refine J_region (by kernel_rfl) ?_
          (try simp only [go_sem, Nat.reduceEqDiff, ↓reduceIte])
          obtain ⟨s13, hs13, hP⟩ := bind_cases hP
          refine slS_of hs13 ?_
          (try simp only [go_sem, Nat.reduceEqDiff, ↓reduceIte])
          refine hold2 (block_n ?_)
          exact loop_n (k7, s13) hP (Nat.lt_succ_self _) (so [])
        · refine condV_f hc ?_
          refine J_exit (then_exit (loop_exit (block_eq ?_)))
          exact join_n s6 (Option.some.inj hP) (so [])
      · refine guard_not hc ?_
        (try simp only [go_sem, Nat.reduceEqDiff, ↓reduceIte])
        refine hold2 (then_n ?_)
        refine J_condV rfl ?_
        (try simp only [go_sem, Nat.reduceEqDiff, ↓reduceIte])
        refine J_exit (then_exit (loop_exit (block_eq ?_)))
        exact join_n s6 (Option.some.inj hP) (so [])
  · intro j15 hs
    subst hs
    have hP := hQ10
    clear hQ10
    refine then_n ?_
    refine J_seq ?_
    obtain ⟨o40, hP, hQ32⟩ := bind_cases hP
    refine J_joinK0 (fun (s : (List UInt8)) => envL [(0, .str s)]) (fun (s : (List UInt8)) => []) (fun s => s = o40) ?_ ?_
    · clear hQ32
      refine J_block ?_
      refine J_loop (σ := Nat × (List UInt8)) (fun (s : Nat × (List UInt8)) => envL [(0, .str s.2)]) (fun (s : Nat × (List UInt8)) => []) (fun s => ref03_Trim_L32  s.1 s.2 = some o40) (fun s => s.1) (1099511627776, j15) hP (so []) ?_
      rintro ⟨k25, s24⟩ hP
      dsimp only at hP ⊢
      cases k25 with
      | zero => simp [ref03_Trim_L32] at hP
      | succ k25 =>
        simp only [ref03_Trim_L32] at hP
        refine J_seq ?_
        obtain ⟨o35, hP, hQ35⟩ := bind_cases hP
        refine J_join (fun (s : Bool) => envL [(0, .str s24), (23, .bool s)]) (fun (s : Bool) => []) (fun s => s = o35) ?_ ?_
        · clear hQ35
          refine J_region (by kernel_rfl) ?_
          (try simp only [go_sem, Nat.reduceEqDiff, ↓reduceIte])
          rcases ite_cases hP with ⟨hc, hP⟩ | ⟨hc, hP⟩
          · refine guard_is hc ?_
            (try simp only [go_sem, Nat.reduceEqDiff, ↓reduceIte])
            obtain ⟨c36, hc36, hP⟩ := bind_cases hP
            refine ixS_of hc36 ?_
            (try simp only [go_sem, Nat.reduceEqDiff, ↓reduceIte])
            obtain ⟨r37, hr37, hP⟩ := bind_cases hP
            refine call_ok [.int .u8 (b2i c36)] (ref03_blank_ok hr37) ⟨argR_m false rfl, trivial⟩ ?_
            (try simp only [go_sem, Nat.reduceEqDiff, ↓reduceIte])
            refine hold2 ?_
            exact join_n r37 (Option.some.inj hP) (so [])
          · refine guard_not hc ?_
            (try simp only [go_sem, Nat.reduceEqDiff, ↓reduceIte])
            refine hold2 ?_
            exact join_n false (Option.some.inj hP) (so [])
        · intro j38 hs
          subst hs
          have hP := hQ35
          clear hQ35
          refine J_condV rfl ?_
          (try simp only [go_sem, Nat.reduceEqDiff, ↓reduceIte])
          rcases ite_cases hP with ⟨hc, hP⟩ | ⟨hc, hP⟩
          · refine condV_t hc ?_
            refine J_skip (then_n ?_)
            refine J_block ?_
            refine J_region (by kernel_rfl) ?_
            (try simp only [go_sem, Nat.reduceEqDiff, ↓reduceIte])
            obtain ⟨s39, hs39, hP⟩ := bind_cases hP
            refine slS_of hs39 ?_
            (try simp only [go_sem, Nat.reduceEqDiff, ↓reduceIte])
            refine hold2 (block_n ?_)
            exact loop_n (k25, s39) hP (Nat.lt_succ_self _) (so [])
          · refine condV_f hc ?_
            refine J_exit (then_exit (loop_exit (block_eq ?_)))
            exact join_n s24 (Option.some.inj hP) (so [])
    · intro j41 hs
      subst hs
      have hP := hQ32
      clear hQ32
      refine then_n ?_
      refine J_seq ?_
      refine J_region (by kernel_rfl) ?_
      (try simp only [go_sem, Nat.reduceEqDiff, ↓reduceIte])
      refine hold2 (then_n ?_)
      refine J_ret (fin_ret ?_)
      obtain rfl := Option.some.inj hP
      (try simp only [go_sem, Nat.reduceEqDiff, ↓reduceIte])
      exact fo []
/-- colander/colanderref03.Lower -/
def ref03_Lower_L32 : Nat → Int → (List (UInt8)) → Option ((List (UInt8)))
  | 0, _, _ => none
  | k24 + 1, i22, l23 =>
    if decide (i22 < ((List.length l23 : Nat) : Int)) then
      (show Option (Bool) from
        (ixL l23 i22).bind fun x36 =>
        if decide (b2i (bC 65) ≤ b2i x36) then
          (ixL l23 i22).bind fun x37 =>
          some (decide (b2i x37 ≤ b2i (bC 90)))
        else
          some false).bind fun j38 =>
        if j38 then
          (ixL l23 i22).bind fun x39 =>
          (ixL l23 i22).bind fun x40 =>
          ref03_Lower_L32 k24 (iadd .i64 i22 1) (List.set l23 (Int.toNat i22) ((x39 - (bC 65)) + (bC 97)))
        else
          ref03_Lower_L32 k24 (iadd .i64 i22 1) l23
    else
      some l23
def ref03_Lower (s1 : List UInt8) : Option ((List UInt8)) :=
  (szC (List.length s1)).bind fun _ =>
  (ref03_Lower_L32  1099511627776 0 s1).bind fun j42 =>
    some j42
set_option maxRecDepth 100000 in
set_option maxHeartbeats 40000000 in
theorem ref03_Lower_ok {s1 : List UInt8} {r : (List UInt8)} (hP : ref03_Lower s1 = some r) : CallOK Tryz.prog 122 [.str s1] (.str r) [] := by
  unfold ref03_Lower at hP
  refine co 36 [.tmp 2] Tryz.func122 ?_
  refine J_seq ?_
  refine J_region (by kernel_rfl) ?_
  (try simp only [go_sem, Nat.reduceEqDiff, ↓reduceIte])
  refine hold2 (then_n ?_)
  refine J_seq ?_
  refine J_region (by kernel_rfl) ?_
  (try simp only [go_sem, Nat.reduceEqDiff, ↓reduceIte])
  obtain ⟨_, hz2, hP⟩ := bind_cases hP
  refine chk_of (szC_63 hz2) ?_
  (try simp only [go_sem, Nat.reduceEqDiff, ↓reduceIte])
  refine hold2 (then_n ?_)
  refine J_seq ?_
  refine J_seq ?_
  refine J_region (by kernel_rfl) ?_
  (try simp only [go_sem, Nat.reduceEqDiff, ↓reduceIte])
  refine hold2 (then_n ?_)
  obtain ⟨o41, hP, hQ32⟩ := bind_cases hP
  refine J_joinK0 (fun (s : (List (UInt8))) => envL [(3, .own 0 0 0 (List.length s))]) (fun (s : (List (UInt8))) => [.slice 0 5 1 (List.map encB s)]) (fun s => s = o41) ?_ ?_
  · clear hQ32
    refine J_block ?_
    refine J_loop (σ := Nat × Int × (List (UInt8))) (fun (s : Nat × Int × (List (UInt8))) => envL [(3, .own 0 0 0 (List.length s.2.2)), (4, .int .i64 s.2.1)]) (fun (s : Nat × Int × (List (UInt8))) => [.slice 0 5 1 (List.map encB s.2.2)]) (fun s => ref03_Lower_L32  s.1 s.2.1 s.2.2 = some o41) (fun s => s.1) (1099511627776, 0, s1) hP (so [0]) ?_
    rintro ⟨k24, i22, l23⟩ hP
    dsimp only at hP ⊢
    cases k24 with
    | zero => simp [ref03_Lower_L32] at hP
    | succ k24 =>
      simp only [ref03_Lower_L32] at hP
      refine J_seq ?_
      refine J_seq ?_
      refine J_region (by kernel_rfl) ?_
      (try simp only [go_sem, Nat.reduceEqDiff, ↓reduceIte])
      refine hold2 (then_n ?_)
      refine J_condV rfl ?_
      (try simp only [go_sem, Nat.reduceEqDiff, ↓reduceIte])
      rcases ite_cases hP with ⟨hc, hP⟩ | ⟨hc, hP⟩
      · refine condV_t hc ?_
        refine J_skip (then_n ?_)
        refine J_seq ?_
        refine J_block ?_
        obtain ⟨o35, hP, hQ35⟩ := bind_cases hP
        refine J_join (fun (s : Bool) => envL [(3, .own 0 0 0 (List.length l23)), (4, .int .i64 i22), (24, .bool s)]) (fun (s : Bool) => [.slice 0 5 1 (List.map encB l23)]) (fun s => s = o35) ?_ ?_
        · clear hQ35
          refine J_region (by kernel_rfl) ?_
          (try simp only [go_sem, Nat.reduceEqDiff, ↓reduceIte])
          obtain ⟨x36, hx36, hP⟩ := bind_cases hP
          refine ixO_of hx36 ?_
          (try simp only [go_sem, Nat.reduceEqDiff, ↓reduceIte])
          refine getK_of (f := encB) hx36 ?_
          (try simp only [go_sem, Nat.reduceEqDiff, ↓reduceIte])
          rcases ite_cases hP with ⟨hc, hP⟩ | ⟨hc, hP⟩
          · refine guard_is hc ?_
            (try simp only [go_sem, Nat.reduceEqDiff, ↓reduceIte])
            obtain ⟨x37, hx37, hP⟩ := bind_cases hP
            refine ixO_of hx37 ?_
            (try simp only [go_sem, Nat.reduceEqDiff, ↓reduceIte])
            refine getK_of (f := encB) hx37 ?_
            (try simp only [go_sem, Nat.reduceEqDiff, ↓reduceIte])
            refine hold2 ?_
            exact join_n (decide (b2i x37 ≤ b2i (bC 90))) (Option.some.inj hP) (so [0])
          · refine guard_not hc ?_
            (try simp only [go_sem, Nat.reduceEqDiff, ↓reduceIte])
            refine hold2 ?_
            exact join_n false (Option.some.inj hP) (so [0])
        · intro j38 hs
          subst hs
          have hP := hQ35
          clear hQ35
          refine J_condV rfl ?_
          (try simp only [go_sem, Nat.reduceEqDiff, ↓reduceIte])
          rcases ite_cases hP with ⟨hc, hP⟩ | ⟨hc, hP⟩
          · refine condV_t hc ?_
            refine J_region (by kernel_rfl) ?_
            (try simp only [go_sem, Nat.reduceEqDiff, ↓reduceIte])
            obtain ⟨x39, hx39, hP⟩ := bind_cases hP
            refine ixO_of hx39 ?_
            (try simp only [go_sem, Nat.reduceEqDiff, ↓reduceIte])
            refine getK_of (f := encB) hx39 ?_
            (try simp only [go_sem, Nat.reduceEqDiff, ↓reduceIte])
            obtain ⟨x40, hx40, hP⟩ := bind_cases hP
            refine ixO_of hx40 ?_
            (try simp only [go_sem, Nat.reduceEqDiff, ↓reduceIte])
            refine getK_of (f := encB) hx40 ?_
            (try simp only [go_sem, Nat.reduceEqDiff, ↓reduceIte])
            refine hold2 (block_n (then_n ?_))
            refine J_region (by kernel_rfl) ?_
            (try simp only [go_sem, Nat.reduceEqDiff, ↓reduceIte])
            refine hold2 ?_
            exact loop_n (k24, iadd .i64 i22 1, List.set l23 (Int.toNat i22) ((x39 - (bC 65)) + (bC 97))) hP (Nat.lt_succ_self _) (so [0])
          · refine condV_f hc ?_
            refine J_skip (block_n (then_n ?_))
            refine J_region (by kernel_rfl) ?_
            (try simp only [go_sem, Nat.reduceEqDiff, ↓reduceIte])
            refine hold2 ?_
            exact loop_n (k24, iadd .i64 i22 1, l23) hP (Nat.lt_succ_self _) (so [0])
      · refine condV_f hc ?_
        refine J_exit (then_exit (loop_exit (block_eq ?_)))
        exact join_n l23 (Option.some.inj hP) (so [0])
  · intro j42 hs
    subst hs
    have hP := hQ32
    clear hQ32
    refine then_n ?_
    refine J_seq ?_
    refine J_region (by kernel_rfl) ?_
    (try simp only [go_sem, Nat.reduceEqDiff, ↓reduceIte])
    first | refine bytesK_map ?_ | refine bytesK_of j42 rfl ?_
    (try simp only [go_sem, Nat.reduceEqDiff, ↓reduceIte])
    refine hold2 (then_n ?_)
    refine J_ret (fin_ret ?_)
    obtain rfl := Option.some.inj hP
    (try simp only [go_sem, Nat.reduceEqDiff, ↓reduceIte])
    exact fo []
/-- colander/colanderref03.Same -/
def ref03_Same (a1 : List UInt8) (b2 : List UInt8) : Option (Bool) :=
  (ref03_Lower a1).bind fun r3 =>
  (ref03_Lower b2).bind fun r4 =>
  some (decide (r3 = r4))
set_option maxRecDepth 100000 in
set_option maxHeartbeats 40000000 in
theorem ref03_Same_ok {a1 : List UInt8} {b2 : List UInt8} {r : Bool} (hP : ref03_Same a1 b2 = some r) : CallOK Tryz.prog 99 [.str a1, .str b2] (.bool r) [] := by
  unfold ref03_Same at hP
  refine co 10 [.tmp 4] Tryz.func99 ?_
  refine J_seq ?_
  refine J_region (by kernel_rfl) ?_
  (try simp only [go_sem, Nat.reduceEqDiff, ↓reduceIte])
  refine hold2 (then_n ?_)
  refine J_seq ?_
  refine J_region (by kernel_rfl) ?_
  (try simp only [go_sem, Nat.reduceEqDiff, ↓reduceIte])
  obtain ⟨r3, hr3, hP⟩ := bind_cases hP
  refine call_ok [.str a1] (ref03_Lower_ok hr3) ⟨argR_m false rfl, trivial⟩ ?_
  (try simp only [go_sem, Nat.reduceEqDiff, ↓reduceIte])
  obtain ⟨r4, hr4, hP⟩ := bind_cases hP
  refine call_ok [.str b2] (ref03_Lower_ok hr4) ⟨argR_m false rfl, trivial⟩ ?_
  (try simp only [go_sem, Nat.reduceEqDiff, ↓reduceIte])
  refine hold2 (then_n ?_)
  refine J_ret (fin_ret ?_)
  obtain rfl := Option.some.inj hP
  (try simp only [go_sem, Nat.reduceEqDiff, ↓reduceIte])
  exact fo []
end Go.Proofs.YtbcmngnmfneeaaaGreatDoor
