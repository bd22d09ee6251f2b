/- Functions of the program, and pure ones that go the same ways: that the program's return what these compute. -/
import Derived.Test.YtbcmngnmfneeaaaGreatDoorGH
import Derived.Test.YtbcmngnmfneeaaaGreatDoorGR
import Derived.Test.YtbcmngnmfneeaaaGreatDoorAvJ
namespace Go.Proofs.YtbcmngnmfneeaaaGreatDoor
open Go.Av
set_option linter.unusedVariables false
set_option linter.unusedSimpArgs false
/-- colander/colanderref05.Method -/
def ref05_Method (s1 : List UInt8) : Option (Bool) :=
  (ref03_Token s1).bind fun r2 =>
  if r2 then
    if decide ((List.length s1 : Int) ≤ 16) then
      if !decide (s1 = [67, 79, 78, 78, 69, 67, 84]) then
        some (!decide (s1 = [84, 82, 65, 67, 69]))
      else
        some false
    else
      some false
  else
    some false
set_option maxRecDepth 100000 in
set_option maxHeartbeats 40000000 in
theorem ref05_Method_ok {s1 : List UInt8} {r : Bool} (hP : ref05_Method s1 = some r) : CallOK Tryz.prog 44 [.str s1] (.bool r) [] := by
  unfold ref05_Method at hP
  refine co 20 [.tmp 2] Tryz.func44 ?_
  refine J_seq ?_
  refine J_region (by kernel_rfl) ?_
  (try simp only [go_sem, Nat.reduceEqDiff, ↓reduceIte])
  refine hold2 (then_n ?_)
  refine J_seq ?_
  refine J_region (by kernel_rfl) ?_
  (try simp only [go_sem, Nat.reduceEqDiff, ↓reduceIte])
  obtain ⟨r2, hr2, hP⟩ := bind_cases hP
  refine call_ok [.str s1] (ref03_Token_ok hr2) ⟨argR_m false rfl, trivial⟩ ?_
  (try simp only [go_sem, Nat.reduceEqDiff, ↓reduceIte])
  refine hold2 (then_n ?_)
  refine J_seq ?_
  refine J_region (by kernel_rfl) ?_
  (try simp only [go_sem, Nat.reduceEqDiff, ↓reduceIte])
  rcases ite_cases hP with ⟨hc, hP⟩ | ⟨hc, hP⟩
  · refine guard_is hc ?_
    (try simp only [go_sem, Nat.reduceEqDiff, ↓reduceIte])
    rcases ite_cases hP with ⟨hc, hP⟩ | ⟨hc, hP⟩
    · refine guard_is hc ?_
      (try simp only [go_sem, Nat.reduceEqDiff, ↓reduceIte])
      rcases ite_cases hP with ⟨hc, hP⟩ | ⟨hc, hP⟩
      · refine guard_is hc ?_
        (try simp only [go_sem, Nat.reduceEqDiff, ↓reduceIte])
        refine hold2 (then_n ?_)
        refine J_ret (fin_ret ?_)
        obtain rfl := Option.some.inj hP
        (try simp only [go_sem, Nat.reduceEqDiff, ↓reduceIte])
        exact fo []
      · refine guard_not hc ?_
        (try simp only [go_sem, Nat.reduceEqDiff, ↓reduceIte])
        refine hold2 (then_n ?_)
        refine J_ret (fin_ret ?_)
        obtain rfl := Option.some.inj hP
        (try simp only [go_sem, Nat.reduceEqDiff, ↓reduceIte])
        exact fo []
    · refine guard_not hc ?_
      (try simp only [go_sem, Nat.reduceEqDiff, ↓reduceIte])
      refine hold2 (then_n ?_)
      refine J_ret (fin_ret ?_)
      obtain rfl := Option.some.inj hP
      (try simp only [go_sem, Nat.reduceEqDiff, ↓reduceIte])
      exact fo []
  · refine guard_not hc ?_
    (try simp only [go_sem, Nat.reduceEqDiff, ↓reduceIte])
    refine hold2 (then_n ?_)
    refine J_ret (fin_ret ?_)
    obtain rfl := Option.some.inj hP
    (try simp only [go_sem, Nat.reduceEqDiff, ↓reduceIte])
    exact fo []
/-- colander/colanderref05.Target -/
def ref05_Target_L24 (s1 : List UInt8) : Nat → Int → Option (Sum (Bool) (Unit))
  | 0, _ => none
  | k16 + 1, i15 =>
    if decide (i15 < (List.length s1 : Int)) then
      (show Option (Bool) from
        (ixL s1 i15).bind fun c29 =>
        if decide (b2i c29 < b2i (bC 33)) then
          some true
        else
          (ixL s1 i15).bind fun c30 =>
          if decide (b2i (bC 126) < b2i c30) then
            some true
          else
            (ixL s1 i15).bind fun c31 =>
            some (decide (b2i c31 = b2i (bC 35)))).bind fun j32 =>
        if j32 then
          some (Sum.inl false)
        else
          ref05_Target_L24 s1 k16 (iadd .i64 i15 1)
    else
      some (Sum.inr ())
def ref05_Target (s1 : List UInt8) : Option (Bool) :=
  (show Option (Bool) from
    if decide (s1 = []) then
      some true
    else
      (ixL s1 0).bind fun c4 =>
      some (!decide (b2i c4 = b2i (bC 47)))).bind fun j5 =>
    if j5 then
      some false
    else
      (ref05_Target_L24 s1 1099511627776 0).bind fun o33 => match o33 with
      | Sum.inl r => some r
      | Sum.inr j34 =>
        some true
set_option maxRecDepth 100000 in
set_option maxHeartbeats 40000000 in
theorem ref05_Target_ok {s1 : List UInt8} {r : Bool} (hP : ref05_Target s1 = some r) : CallOK Tryz.prog 45 [.str s1] (.bool r) [] := by
  unfold ref05_Target at hP
  refine co 33 [.tmp 2] Tryz.func45 ?_
  refine J_seq ?_
  refine J_region (by kernel_rfl) ?_
  (try simp only [go_sem, Nat.reduceEqDiff, ↓reduceIte])
  refine hold2 (then_n ?_)
  refine J_seq ?_
  obtain ⟨o3, hP, hQ3⟩ := bind_cases hP
  refine J_join (fun (s : Bool) => envL [(0, .str s1), (10, .bool s)]) (fun (s : Bool) => []) (fun s => s = o3) ?_ ?_
  · clear hQ3
    refine J_region (by kernel_rfl) ?_
    (try simp only [go_sem, Nat.reduceEqDiff, ↓reduceIte])
    rcases ite_cases hP with ⟨hc, hP⟩ | ⟨hc, hP⟩
    · refine guard_not hc ?_
      (try simp only [go_sem, Nat.reduceEqDiff, ↓reduceIte])
      refine hold2 ?_
      exact join_n true (Option.some.inj hP) (so [])
    · refine guard_is hc ?_
      (try simp only [go_sem, Nat.reduceEqDiff, ↓reduceIte])
      obtain ⟨c4, hc4, hP⟩ := bind_cases hP
      refine ixS_of hc4 ?_
      (try simp only [go_sem, Nat.reduceEqDiff, ↓reduceIte])
      refine hold2 ?_
      exact join_n (!decide (b2i c4 = b2i (bC 47))) (Option.some.inj hP) (so [])
  · intro j5 hs
    subst hs
    have hP := hQ3
    clear hQ3
    refine J_condV rfl ?_
    (try simp only [go_sem, Nat.reduceEqDiff, ↓reduceIte])
    rcases ite_cases hP with ⟨hc, hP⟩ | ⟨hc, hP⟩
    · refine condV_t hc ?_
      refine J_seq ?_
      refine J_region (by kernel_rfl) ?_
      (try simp only [go_sem, Nat.reduceEqDiff, ↓reduceIte])
      refine hold2 (then_n ?_)
      refine J_ret (then_ret (fin_ret ?_))
      obtain rfl := Option.some.inj hP
      (try simp only [go_sem, Nat.reduceEqDiff, ↓reduceIte])
      exact fo []
    · refine condV_f hc ?_
      refine J_skip (then_n ?_)
      refine J_seq ?_
      refine J_seq ?_
      refine J_region (by kernel_rfl) ?_
      (try simp only [go_sem, Nat.reduceEqDiff, ↓reduceIte])
      refine hold2 (then_n ?_)
      obtain ⟨o33, hP, hQ24⟩ := bind_cases hP
      refine J_joinK0 (fun (s : Unit) => envL []) (fun (s : Unit) => []) (fun s => Sum.inr s = o33) ?_ ?_
      · refine J_block ?_
        refine J_loop (σ := Nat × Int) (fun (s : Nat × Int) => envL [(0, .str s1), (3, .int .i64 s.2)]) (fun (s : Nat × Int) => []) (fun s => ref05_Target_L24 s1 s.1 s.2 = some o33) (fun s => s.1) (1099511627776, 0) hP (so []) ?_
        rintro ⟨k16, i15⟩ hP
        dsimp only at hP ⊢
        cases k16 with
        | zero => simp [ref05_Target_L24] at hP
        | succ k16 =>
          simp only [ref05_Target_L24] at hP
          refine J_seq ?_
          refine J_seq ?_
          refine J_region (by kernel_rfl) ?_
          (try simp only [go_sem, Nat.reduceEqDiff, ↓reduceIte])
          refine hold2 (then_n ?_)
          refine J_condV rfl ?_
          (try simp only [go_sem, Nat.reduceEqDiff, ↓reduceIte])
          rcases ite_cases hP with ⟨hc, hP⟩ | ⟨hc, hP⟩
          · refine condV_t hc ?_
            refine J_skip (then_n ?_)
            refine J_seq ?_
            refine J_block ?_
            obtain ⟨o28, hP, hQ28⟩ := bind_cases hP
            refine J_join (fun (s : Bool) => envL [(0, .str s1), (3, .int .i64 i15), (32, .bool s)]) (fun (s : Bool) => []) (fun s => s = o28) ?_ ?_
            · clear hQ28
              refine J_region (by kernel_rfl) ?_
              (try simp only [go_sem, Nat.reduceEqDiff, ↓reduceIte])
              obtain ⟨c29, hc29, hP⟩ := bind_cases hP
              refine ixS_of hc29 ?_
              (try simp only [go_sem, Nat.reduceEqDiff, ↓reduceIte])
              rcases ite_cases hP with ⟨hc, hP⟩ | ⟨hc, hP⟩
              · refine guard_not hc ?_
                (try simp only [go_sem, Nat.reduceEqDiff, ↓reduceIte])
                refine hold2 ?_
                exact join_n true (Option.some.inj hP) (so [])
              · refine guard_is hc ?_
                (try simp only [go_sem, Nat.reduceEqDiff, ↓reduceIte])
                obtain ⟨c30, hc30, hP⟩ := bind_cases hP
                refine ixS_of hc30 ?_
                (try simp only [go_sem, Nat.reduceEqDiff, ↓reduceIte])
                rcases ite_cases hP with ⟨hc, hP⟩ | ⟨hc, hP⟩
                · refine guard_not hc ?_
                  (try simp only [go_sem, Nat.reduceEqDiff, ↓reduceIte])
                  refine hold2 ?_
                  exact join_n true (Option.some.inj hP) (so [])
                · refine guard_is hc ?_
                  (try simp only [go_sem, Nat.reduceEqDiff, ↓reduceIte])
                  obtain ⟨c31, hc31, hP⟩ := bind_cases hP
                  refine ixS_of hc31 ?_
                  (try simp only [go_sem, Nat.reduceEqDiff, ↓reduceIte])
                  refine hold2 ?_
                  exact join_n (decide (b2i c31 = b2i (bC 35))) (Option.some.inj hP) (so [])
            · intro j32 hs
              subst hs
              have hP := hQ28
              clear hQ28
              refine J_condV rfl ?_
              (try simp only [go_sem, Nat.reduceEqDiff, ↓reduceIte])
              rcases ite_cases hP with ⟨hc, hP⟩ | ⟨hc, hP⟩
              · refine condV_t hc ?_
                refine J_seq ?_
                refine J_region (by kernel_rfl) ?_
                (try simp only [go_sem, Nat.reduceEqDiff, ↓reduceIte])
                refine hold2 (then_n ?_)
                refine J_ret (block_ret (then_ret (loop_ret (block_ret (join_ret (then_ret (fin_ret ?_)))))))
                obtain rfl := Option.some.inj hP
                have hP := hQ24
                dsimp only at hP
                obtain rfl := Option.some.inj hP
                (try simp only [go_sem, Nat.reduceEqDiff, ↓reduceIte])
                exact fo []
              · refine condV_f hc ?_
                refine J_skip (block_n (then_n ?_))
                refine J_region (by kernel_rfl) ?_
                (try simp only [go_sem, Nat.reduceEqDiff, ↓reduceIte])
                refine hold2 ?_
                exact loop_n (k16, iadd .i64 i15 1) hP (Nat.lt_succ_self _) (so [])
          · refine condV_f hc ?_
            refine J_exit (then_exit (loop_exit (block_eq ?_)))
            exact join_n () (Option.some.inj hP) (so [])
      · intro j34 hs
        subst hs
        have hP := hQ24
        dsimp only at hP
        clear hQ24
        refine then_n ?_
        refine J_seq ?_
        refine J_region (by kernel_rfl) ?_
        (try simp only [go_sem, Nat.reduceEqDiff, ↓reduceIte])
        refine hold2 (then_n ?_)
        refine J_ret (fin_ret ?_)
        obtain rfl := Option.some.inj hP
        (try simp only [go_sem, Nat.reduceEqDiff, ↓reduceIte])
        exact fo []
/-- colander/colanderref05.wrong -/
def ref05_wrong_L25 (s1 : List UInt8) : Nat → Int → Option (Sum (Int) (Unit))
  | 0, _ => none
  | k15 + 1, i14 =>
    if decide (i14 < (List.length s1 : Int)) then
      (show Option (Bool) from
        (ixL s1 i14).bind fun c31 =>
        if decide (b2i c31 < b2i (bC 32)) then
          (ixL s1 i14).bind fun c32 =>
          if !decide (b2i c32 = b2i (bC 9)) then
            some true
          else
            (ixL s1 i14).bind fun c33 =>
            some (decide (b2i c33 = b2i (bC 127)))
        else
          (ixL s1 i14).bind fun c34 =>
          some (decide (b2i c34 = b2i (bC 127)))).bind fun j35 =>
        if j35 then
          some (Sum.inl i14)
        else
          ref05_wrong_L25 s1 k15 (iadd .i64 i14 1)
    else
      some (Sum.inr ())
def ref05_wrong (s1 : List UInt8) (from2 : Int) : Option (Int) :=
  (ref05_wrong_L25 s1 1099511627776 from2).bind fun o36 => match o36 with
  | Sum.inl r => some r
  | Sum.inr j37 =>
    some (-1)
set_option maxRecDepth 100000 in
set_option maxHeartbeats 40000000 in
theorem ref05_wrong_ok {s1 : List UInt8} {from2 : Int} {r : Int} (hP : ref05_wrong s1 from2 = some r) : CallOK Tryz.prog 49 [.str s1, .int .i64 from2] (.int .i64 r) [] := by
  unfold ref05_wrong at hP
  refine co 30 [.tmp 4] Tryz.func49 ?_
  refine J_seq ?_
  refine J_region (by kernel_rfl) ?_
  (try simp only [go_sem, Nat.reduceEqDiff, ↓reduceIte])
  refine hold2 (then_n ?_)
  refine J_seq ?_
  refine J_seq ?_
  refine J_region (by kernel_rfl) ?_
  (try simp only [go_sem, Nat.reduceEqDiff, ↓reduceIte])
  refine hold2 (then_n ?_)
  obtain ⟨o36, hP, hQ25⟩ := bind_cases hP
  refine J_joinK0 (fun (s : Unit) => envL []) (fun (s : Unit) => []) (fun s => Sum.inr s = o36) ?_ ?_
  · refine J_block ?_
    refine J_loop (σ := Nat × Int) (fun (s : Nat × Int) => envL [(0, .str s1), (5, .int .i64 s.2)]) (fun (s : Nat × Int) => []) (fun s => ref05_wrong_L25 s1 s.1 s.2 = some o36) (fun s => s.1) (1099511627776, from2) hP (so []) ?_
    rintro ⟨k15, i14⟩ hP
    dsimp only at hP ⊢
    cases k15 with
    | zero => simp [ref05_wrong_L25] at hP
    | succ k15 =>
      simp only [ref05_wrong_L25] at hP
      refine J_seq ?_
      refine J_seq ?_
      refine J_region (by kernel_rfl) ?_
      (try simp only [go_sem, Nat.reduceEqDiff, ↓reduceIte])
      refine hold2 (then_n ?_)
      refine J_condV rfl ?_
      (try simp only [go_sem, Nat.reduceEqDiff, ↓reduceIte])
      rcases ite_cases hP with ⟨hc, hP⟩ | ⟨hc, hP⟩
      · refine condV_t hc ?_
        refine J_skip (then_n ?_)
        refine J_seq ?_
        refine J_block ?_
        obtain ⟨o30, hP, hQ30⟩ := bind_cases hP
        refine J_join (fun (s : Bool) => envL [(0, .str s1), (5, .int .i64 i14), (28, .bool s)]) (fun (s : Bool) => []) (fun s => s = o30) ?_ ?_
        · clear hQ30
          refine J_region (by kernel_rfl) ?_
          (try simp only [go_sem, Nat.reduceEqDiff, ↓reduceIte])
          obtain ⟨c31, hc31, hP⟩ := bind_cases hP
          refine ixS_of hc31 ?_
          (try simp only [go_sem, Nat.reduceEqDiff, ↓reduceIte])
          rcases ite_cases hP with ⟨hc, hP⟩ | ⟨hc, hP⟩
          · refine guard_is hc ?_
            (try simp only [go_sem, Nat.reduceEqDiff, ↓reduceIte])
            obtain ⟨c32, hc32, hP⟩ := bind_cases hP
            refine ixS_of hc32 ?_
            (try simp only [go_sem, Nat.reduceEqDiff, ↓reduceIte])
            rcases ite_cases hP with ⟨hc, hP⟩ | ⟨hc, hP⟩
            · refine guard_not hc ?_
              (try simp only [go_sem, Nat.reduceEqDiff, ↓reduceIte])
              refine hold2 ?_
              exact join_n true (Option.some.inj hP) (so [])
            · refine guard_is hc ?_
              (try simp only [go_sem, Nat.reduceEqDiff, ↓reduceIte])
              obtain ⟨c33, hc33, hP⟩ := bind_cases hP
              refine ixS_of hc33 ?_
              (try simp only [go_sem, Nat.reduceEqDiff, ↓reduceIte])
              refine hold2 ?_
              exact join_n (decide (b2i c33 = b2i (bC 127))) (Option.some.inj hP) (so [])
          · refine guard_not hc ?_
            (try simp only [go_sem, Nat.reduceEqDiff, ↓reduceIte])
            obtain ⟨c34, hc34, hP⟩ := bind_cases hP
            refine ixS_of hc34 ?_
            (try simp only [go_sem, Nat.reduceEqDiff, ↓reduceIte])
            refine hold2 ?_
            exact join_n (decide (b2i c34 = b2i (bC 127))) (Option.some.inj hP) (so [])
        · intro j35 hs
          subst hs
          have hP := hQ30
          clear hQ30
          refine J_condV rfl ?_
          (try simp only [go_sem, Nat.reduceEqDiff, ↓reduceIte])
          rcases ite_cases hP with ⟨hc, hP⟩ | ⟨hc, hP⟩
          · refine condV_t hc ?_
            refine J_seq ?_
            refine J_region (by kernel_rfl) ?_
            (try simp only [go_sem, Nat.reduceEqDiff, ↓reduceIte])
            refine hold2 (then_n ?_)
            refine J_ret (block_ret (then_ret (loop_ret (block_ret (join_ret (then_ret (fin_ret ?_)))))))
            obtain rfl := Option.some.inj hP
            have hP := hQ25
            dsimp only at hP
            obtain rfl := Option.some.inj hP
            (try simp only [go_sem, Nat.reduceEqDiff, ↓reduceIte])
            exact fo []
          · refine condV_f hc ?_
            refine J_skip (block_n (then_n ?_))
            refine J_region (by kernel_rfl) ?_
            (try simp only [go_sem, Nat.reduceEqDiff, ↓reduceIte])
            refine hold2 ?_
            exact loop_n (k15, iadd .i64 i14 1) hP (Nat.lt_succ_self _) (so [])
      · refine condV_f hc ?_
        refine J_exit (then_exit (loop_exit (block_eq ?_)))
        exact join_n () (Option.some.inj hP) (so [])
  · intro j37 hs
    subst hs
    have hP := hQ25
    dsimp only at hP
    clear hQ25
    refine then_n ?_
    refine J_seq ?_
    refine J_region (by kernel_rfl) ?_
    (try simp only [go_sem, Nat.reduceEqDiff, ↓reduceIte])
    refine hold2 (then_n ?_)
    refine J_ret (fin_ret ?_)
    obtain rfl := Option.some.inj hP
    (try simp only [go_sem, Nat.reduceEqDiff, ↓reduceIte])
    exact fo []
/-- colander/colanderref05.ResponseText -/
def ref05_ResponseText (p1 : Int × (List UInt8) × (List ((List UInt8) × (List UInt8)))) : Option ((List UInt8)) :=
  (ref04_Right p1.2.2).bind fun r2 =>
  (show Option (Bool) from
    if decide (p1.1 < 200) then
      some true
    else
      if decide (599 < p1.1) then
        some true
      else
        (ref05_wrong p1.2.1 0).bind fun r5 =>
        if decide (0 ≤ r5) then
          some true
        else
          some (!decide (r2.2 = 0))).bind fun j6 =>
    if j6 then
      some []
    else
      (ref02_Digits p1.1).bind fun r7 =>
      (szC (List.length ([72, 84, 84, 80, 47, 49, 46, 49, 32] ++ r7))).bind fun _ =>
      (szC (List.length (([72, 84, 84, 80, 47, 49, 46, 49, 32] ++ r7) ++ [32]))).bind fun _ =>
      (szC (List.length ((([72, 84, 84, 80, 47, 49, 46, 49, 32] ++ r7) ++ [32]) ++ p1.2.1))).bind fun _ =>
      (szC (List.length (((([72, 84, 84, 80, 47, 49, 46, 49, 32] ++ r7) ++ [32]) ++ p1.2.1) ++ [13, 10]))).bind fun _ =>
      (ref04_Text p1.2.2).bind fun r12 =>
      (szC (List.length ((((([72, 84, 84, 80, 47, 49, 46, 49, 32] ++ r7) ++ [32]) ++ p1.2.1) ++ [13, 10]) ++ r12))).bind fun _ =>
      (szC (List.length (((((([72, 84, 84, 80, 47, 49, 46, 49, 32] ++ r7) ++ [32]) ++ p1.2.1) ++ [13, 10]) ++ r12) ++ [13, 10]))).bind fun _ =>
      if decide (2048 < (List.length (((((([72, 84, 84, 80, 47, 49, 46, 49, 32] ++ r7) ++ [32]) ++ p1.2.1) ++ [13, 10]) ++ r12) ++ [13, 10]) : Int)) then
        some []
      else
        some (((((([72, 84, 84, 80, 47, 49, 46, 49, 32] ++ r7) ++ [32]) ++ p1.2.1) ++ [13, 10]) ++ r12) ++ [13, 10])
set_option maxRecDepth 100000 in
set_option maxHeartbeats 40000000 in
theorem ref05_ResponseText_ok {p1 : Int × (List UInt8) × (List ((List UInt8) × (List UInt8)))} {r : (List UInt8)} (hP : ref05_ResponseText p1 = some r) : CallOK Tryz.prog 17 [.agg [.int .i64 p1.1, .str p1.2.1, .view 2 (List.map enc_api_Field p1.2.2)]] (.str r) [] := by
  unfold ref05_ResponseText at hP
  refine co 48 [.tmp 2] Tryz.func17 ?_
  refine J_seq ?_
  refine J_region (by kernel_rfl) ?_
  (try simp only [go_sem, Nat.reduceEqDiff, ↓reduceIte])
  refine hold2 (then_n ?_)
  refine J_seq ?_
  refine J_region (by kernel_rfl) ?_
  (try simp only [go_sem, Nat.reduceEqDiff, ↓reduceIte])
  obtain ⟨r2, hr2, hP⟩ := bind_cases hP
  refine call_ok [.view 2 (List.map enc_api_Field p1.2.2)] (ref04_Right_ok hr2) ⟨argR_m false rfl, trivial⟩ ?_
  (try simp only [go_sem, Nat.reduceEqDiff, ↓reduceIte])
  refine hold2 (then_n ?_)
  refine J_seq ?_
  obtain ⟨o4, hP, hQ4⟩ := bind_cases hP
  refine J_join (fun (s : Bool) => envL [(1, .bptr 0 0), (29, .bool s)]) (fun (s : Bool) => [.box 31 [.int .i64 p1.1, .str p1.2.1, .view 2 (List.map enc_api_Field p1.2.2)]]) (fun s => s = o4) ?_ ?_
  · clear hQ4
    refine J_region (by kernel_rfl) ?_
    (try simp only [go_sem, Nat.reduceEqDiff, ↓reduceIte])
    rcases ite_cases hP with ⟨hc, hP⟩ | ⟨hc, hP⟩
    · refine guard_not hc ?_
      (try simp only [go_sem, Nat.reduceEqDiff, ↓reduceIte])
      refine hold2 ?_
      exact join_n true (Option.some.inj hP) (so [0])
    · refine guard_is hc ?_
      (try simp only [go_sem, Nat.reduceEqDiff, ↓reduceIte])
      rcases ite_cases hP with ⟨hc, hP⟩ | ⟨hc, hP⟩
      · refine guard_not hc ?_
        (try simp only [go_sem, Nat.reduceEqDiff, ↓reduceIte])
        refine hold2 ?_
        exact join_n true (Option.some.inj hP) (so [0])
      · refine guard_is hc ?_
        (try simp only [go_sem, Nat.reduceEqDiff, ↓reduceIte])
        obtain ⟨r5, hr5, hP⟩ := bind_cases hP
        refine call_ok [.str p1.2.1, .int .i64 0] (ref05_wrong_ok hr5) ⟨argR_m false rfl, argR_m false rfl, trivial⟩ ?_
        (try simp only [go_sem, Nat.reduceEqDiff, ↓reduceIte])
        rcases ite_cases hP with ⟨hc, hP⟩ | ⟨hc, hP⟩
        · refine guard_not hc ?_
          (try simp only [go_sem, Nat.reduceEqDiff, ↓reduceIte])
          refine hold2 ?_
          exact join_n true (Option.some.inj hP) (so [0])
        · refine guard_is hc ?_
          (try simp only [go_sem, Nat.reduceEqDiff, ↓reduceIte])
          refine hold2 ?_
          exact join_n (!decide (r2.2 = 0)) (Option.some.inj hP) (so [0])
  · intro j6 hs
    subst hs
    have hP := hQ4
    clear hQ4
    refine J_condV rfl ?_
    (try simp only [go_sem, Nat.reduceEqDiff, ↓reduceIte])
    rcases ite_cases hP with ⟨hc, hP⟩ | ⟨hc, hP⟩
    · refine condV_t hc ?_
      refine J_seq ?_
      refine J_region (by kernel_rfl) ?_
      (try simp only [go_sem, Nat.reduceEqDiff, ↓reduceIte])
      refine hold2 (then_n ?_)
      refine J_ret (then_ret (fin_ret ?_))
      obtain rfl := Option.some.inj hP
      (try simp only [go_sem, Nat.reduceEqDiff, ↓reduceIte])
      exact fo []
    · refine condV_f hc ?_
      refine J_skip (then_n ?_)
      refine J_seq ?_
      refine J_regionq follows_mixed (by kernel_rfl) (by kernel_rfl) ?_
      (try simp only [go_sem, Nat.reduceEqDiff, ↓reduceIte])
      obtain ⟨r7, hr7, hP⟩ := bind_cases hP
      refine call_okq [.int .i64 p1.1] (ref02_Digits_ok hr7) ⟨argR_m false rfl, trivial⟩ rfl ?_
      (try simp only [go_sem, Nat.reduceEqDiff, ↓reduceIte])
      obtain ⟨_, hz8, hP⟩ := bind_cases hP
      refine chk_of (by first | exact szC_63 hz8 | (have q := szC_63 hz8; simp only [List.length_append, List.length_cons, List.length_nil] at q ⊢; omega)) ?_
      (try simp only [go_sem, Nat.reduceEqDiff, ↓reduceIte])
      obtain ⟨_, hz9, hP⟩ := bind_cases hP
      refine chk_of (by first | exact szC_63 hz9 | (have q := szC_63 hz9; simp only [List.length_append, List.length_cons, List.length_nil] at q ⊢; omega)) ?_
      (try simp only [go_sem, Nat.reduceEqDiff, ↓reduceIte])
      obtain ⟨_, hz10, hP⟩ := bind_cases hP
      refine chk_of (by first | exact szC_63 hz10 | (have q := szC_63 hz10; simp only [List.length_append, List.length_cons, List.length_nil] at q ⊢; omega)) ?_
      (try simp only [go_sem, Nat.reduceEqDiff, ↓reduceIte])
      obtain ⟨_, hz11, hP⟩ := bind_cases hP
      refine chk_of (by first | exact szC_63 hz11 | (have q := szC_63 hz11; simp only [List.length_append, List.length_cons, List.length_nil] at q ⊢; omega)) ?_
      (try simp only [go_sem, Nat.reduceEqDiff, ↓reduceIte])
      obtain ⟨r12, hr12, hP⟩ := bind_cases hP
      refine call_okq [.view 2 (List.map enc_api_Field p1.2.2)] (ref04_Text_ok hr12) ⟨argR_m false rfl, trivial⟩ rfl ?_
      (try simp only [go_sem, Nat.reduceEqDiff, ↓reduceIte])
      obtain ⟨_, hz13, hP⟩ := bind_cases hP
      refine chk_of (by first | exact szC_63 hz13 | (have q := szC_63 hz13; simp only [List.length_append, List.length_cons, List.length_nil] at q ⊢; omega)) ?_
      (try simp only [go_sem, Nat.reduceEqDiff, ↓reduceIte])
      obtain ⟨_, hz14, hP⟩ := bind_cases hP
      refine chk_of (by first | exact szC_63 hz14 | (have q := szC_63 hz14; simp only [List.length_append, List.length_cons, List.length_nil] at q ⊢; omega)) ?_
      (try simp only [go_sem, Nat.reduceEqDiff, ↓reduceIte])
      refine hold2 (then_n ?_)
      refine J_seq ?_
      refine J_seq ?_
      refine J_region (by kernel_rfl) ?_
      (try simp only [go_sem, Nat.reduceEqDiff, ↓reduceIte])
      refine hold2 (then_n ?_)
      refine J_condV rfl ?_
      (try simp only [go_sem, Nat.reduceEqDiff, ↓reduceIte])
      rcases ite_cases hP with ⟨hc, hP⟩ | ⟨hc, hP⟩
      · refine condV_t hc ?_
        refine J_seq ?_
        refine J_region (by kernel_rfl) ?_
        (try simp only [go_sem, Nat.reduceEqDiff, ↓reduceIte])
        refine hold2 (then_n ?_)
        refine J_ret (then_ret (fin_ret ?_))
        obtain rfl := Option.some.inj hP
        (try simp only [go_sem, Nat.reduceEqDiff, ↓reduceIte])
        exact fo []
      · refine condV_f hc ?_
        refine J_skip (then_n ?_)
        refine J_seq ?_
        refine J_region (by kernel_rfl) ?_
        (try simp only [go_sem, Nat.reduceEqDiff, ↓reduceIte])
        refine hold2 (then_n ?_)
        refine J_ret (fin_ret ?_)
        obtain rfl := Option.some.inj hP
        (try simp only [go_sem, Nat.reduceEqDiff, ↓reduceIte])
        exact fo []
end Go.Proofs.YtbcmngnmfneeaaaGreatDoor
