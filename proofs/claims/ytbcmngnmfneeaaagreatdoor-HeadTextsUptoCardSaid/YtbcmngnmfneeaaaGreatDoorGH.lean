/- Functions of the program, and pure ones that go the same ways: that the program's return what these compute. -/
import Derived.Test.YtbcmngnmfneeaaaGreatDoorGD
import Derived.Test.YtbcmngnmfneeaaaGreatDoorAvJ
namespace Go.Proofs.YtbcmngnmfneeaaaGreatDoor
open Go.Av
set_option linter.unusedVariables false
set_option linter.unusedSimpArgs false
/-- colander/colanderref04.Same -/
def ref04_Same_L9 (a1 : List ((List UInt8) × (List UInt8))) (b2 : List ((List UInt8) × (List UInt8))) : Nat → Int → Option (Sum (Bool) (Unit))
  | 0, _ => none
  | k7 + 1, i6 =>
    if decide (i6 < (List.length a1 : Int)) then
      (ixL a1 i6).bind fun x10 =>
      (ixL b2 i6).bind fun x11 =>
      if !(decide (x10.1 = x11.1) && decide (x10.2 = x11.2)) then
        some (Sum.inl false)
      else
        ref04_Same_L9 a1 b2 k7 (iadd .i64 i6 1)
    else
      some (Sum.inr ())
def ref04_Same (a1 : List ((List UInt8) × (List UInt8))) (b2 : List ((List UInt8) × (List UInt8))) : Option (Bool) :=
  if !decide ((List.length a1 : Int) = (List.length b2 : Int)) then
    some false
  else
    (ref04_Same_L9 a1 b2 1099511627776 0).bind fun o12 => match o12 with
    | Sum.inl r => some r
    | Sum.inr j13 =>
      some true
set_option maxRecDepth 100000 in
set_option maxHeartbeats 40000000 in
theorem ref04_Same_ok {a1 : List ((List UInt8) × (List UInt8))} {b2 : List ((List UInt8) × (List UInt8))} {r : Bool} (hP : ref04_Same a1 b2 = some r) : CallOK Tryz.prog 15 [.view 2 (List.map enc_api_Field a1), .view 2 (List.map enc_api_Field b2)] (.bool r) [] := by
  unfold ref04_Same at hP
  refine co 26 [.tmp 4] Tryz.func15 ?_
  refine J_seq ?_
  refine J_region (by kernel_rfl) ?_
  (try simp only [go_sem, Nat.reduceEqDiff, ↓reduceIte])
  refine hold2 (then_n ?_)
  refine J_seq ?_
  refine J_seq ?_
  refine J_region (by kernel_rfl) ?_
  (try simp only [go_sem, Nat.reduceEqDiff, ↓reduceIte])
  refine hold2 (then_n ?_)
  refine J_condV rfl ?_
  (try simp only [go_sem, Nat.reduceEqDiff, ↓reduceIte])
  rcases ite_cases hP with ⟨hc, hP⟩ | ⟨hc, hP⟩
  · refine condV_t hc ?_
    refine J_seq ?_
    refine J_region (by kernel_rfl) ?_
    (try simp only [go_sem, Nat.reduceEqDiff, ↓reduceIte])
    refine hold2 (then_n ?_)
    refine J_ret (then_ret (fin_ret ?_))
    obtain rfl := Option.some.inj hP
    (try simp only [go_sem, Nat.reduceEqDiff, ↓reduceIte])
    exact fo []
  · refine condV_f hc ?_
    refine J_skip (then_n ?_)
    refine J_seq ?_
    refine J_seq ?_
    refine J_region (by kernel_rfl) ?_
    (try simp only [go_sem, Nat.reduceEqDiff, ↓reduceIte])
    refine hold2 (then_n ?_)
    obtain ⟨o12, hP, hQ9⟩ := bind_cases hP
    refine J_joinK0 (fun (s : Unit) => envL []) (fun (s : Unit) => []) (fun s => Sum.inr s = o12) ?_ ?_
    · refine J_block ?_
      refine J_loop (σ := Nat × Int) (fun (s : Nat × Int) => envL [(0, .view 2 (List.map enc_api_Field a1)), (1, .view 2 (List.map enc_api_Field b2)), (5, .int .i64 s.2)]) (fun (s : Nat × Int) => []) (fun s => ref04_Same_L9 a1 b2 s.1 s.2 = some o12) (fun s => s.1) (1099511627776, 0) hP (so []) ?_
      rintro ⟨k7, i6⟩ hP
      dsimp only at hP ⊢
      cases k7 with
      | zero => simp [ref04_Same_L9] at hP
      | succ k7 =>
        simp only [ref04_Same_L9] at hP
        refine J_seq ?_
        refine J_seq ?_
        refine J_region (by kernel_rfl) ?_
        (try simp only [go_sem, Nat.reduceEqDiff, ↓reduceIte])
        refine hold2 (then_n ?_)
        refine J_condV rfl ?_
        (try simp only [go_sem, Nat.reduceEqDiff, ↓reduceIte])
        rcases ite_cases hP with ⟨hc, hP⟩ | ⟨hc, hP⟩
        · refine condV_t hc ?_
          refine J_skip (then_n ?_)
          refine J_seq ?_
          refine J_block ?_
          refine J_seq ?_
          refine J_regionq follows_mixed (by kernel_rfl) (by kernel_rfl) ?_
          (try simp only [go_sem, Nat.reduceEqDiff, ↓reduceIte])
          obtain ⟨x10, hx10, hP⟩ := bind_cases hP
          refine ixV_of hx10 ?_
          (try simp only [go_sem, Nat.reduceEqDiff, ↓reduceIte])
          obtain ⟨x11, hx11, hP⟩ := bind_cases hP
          refine ixV_of hx11 ?_
          (try simp only [go_sem, Nat.reduceEqDiff, ↓reduceIte])
          refine hold2 (then_n ?_)
          refine J_condV rfl ?_
          (try simp only [go_sem, Nat.reduceEqDiff, ↓reduceIte])
          rcases ite_cases hP with ⟨hc, hP⟩ | ⟨hc, hP⟩
          · refine condV_t hc ?_
            refine J_seq ?_
            refine J_region (by kernel_rfl) ?_
            (try simp only [go_sem, Nat.reduceEqDiff, ↓reduceIte])
            refine hold2 (then_n ?_)
            refine J_ret (block_ret (then_ret (loop_ret (block_ret (join_ret (then_ret (fin_ret ?_)))))))
            obtain rfl := Option.some.inj hP
            have hP := hQ9
            dsimp only at hP
            obtain rfl := Option.some.inj hP
            (try simp only [go_sem, Nat.reduceEqDiff, ↓reduceIte])
            exact fo []
          · refine condV_f hc ?_
            refine J_skip (block_n (then_n ?_))
            refine J_region (by kernel_rfl) ?_
            (try simp only [go_sem, Nat.reduceEqDiff, ↓reduceIte])
            refine hold2 ?_
            exact loop_n (k7, iadd .i64 i6 1) hP (Nat.lt_succ_self _) (so [])
        · refine condV_f hc ?_
          refine J_exit (then_exit (loop_exit (block_eq ?_)))
          exact join_n () (Option.some.inj hP) (so [])
    · intro j13 hs
      subst hs
      have hP := hQ9
      dsimp only at hP
      clear hQ9
      refine then_n ?_
      refine J_seq ?_
      refine J_region (by kernel_rfl) ?_
      (try simp only [go_sem, Nat.reduceEqDiff, ↓reduceIte])
      refine hold2 (then_n ?_)
      refine J_ret (fin_ret ?_)
      obtain rfl := Option.some.inj hP
      (try simp only [go_sem, Nat.reduceEqDiff, ↓reduceIte])
      exact fo []
/-- colander/colanderref04.Value -/
def ref04_Value (s1 : List UInt8) : Option (Bool) :=
  (ref03_Quotable s1).bind fun r2 =>
  if r2 then
    (ref03_Trim s1).bind fun r3 =>
    some (decide (r3 = s1))
  else
    some false
set_option maxRecDepth 100000 in
set_option maxHeartbeats 40000000 in
theorem ref04_Value_ok {s1 : List UInt8} {r : Bool} (hP : ref04_Value s1 = some r) : CallOK Tryz.prog 73 [.str s1] (.bool r) [] := by
  unfold ref04_Value at hP
  refine co 13 [.tmp 2] Tryz.func73 ?_
  refine J_seq ?_
  refine J_region (by kernel_rfl) ?_
  (try simp only [go_sem, Nat.reduceEqDiff, ↓reduceIte])
  refine hold2 (then_n ?_)
  refine J_seq ?_
  refine J_region (by kernel_rfl) ?_
  (try simp only [go_sem, Nat.reduceEqDiff, ↓reduceIte])
  obtain ⟨r2, hr2, hP⟩ := bind_cases hP
  refine call_ok [.str s1] (ref03_Quotable_ok hr2) ⟨argR_m false rfl, trivial⟩ ?_
  (try simp only [go_sem, Nat.reduceEqDiff, ↓reduceIte])
  refine hold2 (then_n ?_)
  refine J_seq ?_
  refine J_region (by kernel_rfl) ?_
  (try simp only [go_sem, Nat.reduceEqDiff, ↓reduceIte])
  rcases ite_cases hP with ⟨hc, hP⟩ | ⟨hc, hP⟩
  · refine guard_is hc ?_
    (try simp only [go_sem, Nat.reduceEqDiff, ↓reduceIte])
    obtain ⟨r3, hr3, hP⟩ := bind_cases hP
    refine call_ok [.str s1] (ref03_Trim_ok hr3) ⟨argR_m false rfl, trivial⟩ ?_
    (try simp only [go_sem, Nat.reduceEqDiff, ↓reduceIte])
    refine hold2 (then_n ?_)
    refine J_ret (fin_ret ?_)
    obtain rfl := Option.some.inj hP
    (try simp only [go_sem, Nat.reduceEqDiff, ↓reduceIte])
    exact fo []
  · refine guard_not hc ?_
    (try simp only [go_sem, Nat.reduceEqDiff, ↓reduceIte])
    refine hold2 (then_n ?_)
    refine J_ret (fin_ret ?_)
    obtain rfl := Option.some.inj hP
    (try simp only [go_sem, Nat.reduceEqDiff, ↓reduceIte])
    exact fo []
/-- colander/colanderref04.Right -/
def ref04_Right_L12 (l1 : List ((List UInt8) × (List UInt8))) : Nat → Int → Option (Sum (Int × Int) (Unit))
  | 0, _ => none
  | k8 + 1, i7 =>
    if decide (i7 < (List.length l1 : Int)) then
      (ixL l1 i7).bind fun x13 =>
      (ref03_Token x13.1).bind fun r14 =>
      if !r14 then
        some (Sum.inl (i7, 7))
      else
        (ixL l1 i7).bind fun x15 =>
        (ref04_Value x15.2).bind fun r16 =>
        if !r16 then
          some (Sum.inl (i7, 8))
        else
          ref04_Right_L12 l1 k8 (iadd .i64 i7 1)
    else
      some (Sum.inr ())
def ref04_Right (l1 : List ((List UInt8) × (List UInt8))) : Option (Int × Int) :=
  if decide (32 < (List.length l1 : Int)) then
    some (32, 18)
  else
    (ref04_Right_L12 l1 1099511627776 0).bind fun o17 => match o17 with
    | Sum.inl r => some r
    | Sum.inr j18 =>
      some (0, 0)
set_option maxRecDepth 100000 in
set_option maxHeartbeats 40000000 in
theorem ref04_Right_ok {l1 : List ((List UInt8) × (List UInt8))} {r : Int × Int} (hP : ref04_Right l1 = some r) : CallOK Tryz.prog 46 [.view 2 (List.map enc_api_Field l1)] (.tup [.int .i64 r.1, .int .i64 r.2]) [] := by
  unfold ref04_Right at hP
  refine co 34 [.tmp 2, .tmp 3] Tryz.func46 ?_
  refine J_seq ?_
  refine J_region (by kernel_rfl) ?_
  (try simp only [go_sem, Nat.reduceEqDiff, ↓reduceIte])
  refine hold2 (then_n ?_)
  refine J_seq ?_
  refine J_seq ?_
  refine J_region (by kernel_rfl) ?_
  (try simp only [go_sem, Nat.reduceEqDiff, ↓reduceIte])
  refine hold2 (then_n ?_)
  refine J_condV rfl ?_
  (try simp only [go_sem, Nat.reduceEqDiff, ↓reduceIte])
  rcases ite_cases hP with ⟨hc, hP⟩ | ⟨hc, hP⟩
  · refine condV_t hc ?_
    refine J_seq ?_
    refine J_region (by kernel_rfl) ?_
    (try simp only [go_sem, Nat.reduceEqDiff, ↓reduceIte])
    refine hold2 (then_n ?_)
    refine J_ret (then_ret (fin_ret ?_))
    obtain rfl := Option.some.inj hP
    (try simp only [go_sem, Nat.reduceEqDiff, ↓reduceIte])
    exact fo []
  · refine condV_f hc ?_
    refine J_skip (then_n ?_)
    refine J_seq ?_
    refine J_seq ?_
    refine J_region (by kernel_rfl) ?_
    (try simp only [go_sem, Nat.reduceEqDiff, ↓reduceIte])
    refine hold2 (then_n ?_)
    obtain ⟨o17, hP, hQ12⟩ := bind_cases hP
    refine J_joinK0 (fun (s : Unit) => envL []) (fun (s : Unit) => []) (fun s => Sum.inr s = o17) ?_ ?_
    · refine J_block ?_
      refine J_loop (σ := Nat × Int) (fun (s : Nat × Int) => envL [(0, .view 2 (List.map enc_api_Field l1)), (4, .int .i64 s.2)]) (fun (s : Nat × Int) => []) (fun s => ref04_Right_L12 l1 s.1 s.2 = some o17) (fun s => s.1) (1099511627776, 0) hP (so []) ?_
      rintro ⟨k8, i7⟩ hP
      dsimp only at hP ⊢
      cases k8 with
      | zero => simp [ref04_Right_L12] at hP
      | succ k8 =>
        simp only [ref04_Right_L12] at hP
        refine J_seq ?_
        refine J_seq ?_
        refine J_region (by kernel_rfl) ?_
        (try simp only [go_sem, Nat.reduceEqDiff, ↓reduceIte])
        refine hold2 (then_n ?_)
        refine J_condV rfl ?_
        (try simp only [go_sem, Nat.reduceEqDiff, ↓reduceIte])
        rcases ite_cases hP with ⟨hc, hP⟩ | ⟨hc, hP⟩
        · refine condV_t hc ?_
          refine J_skip (then_n ?_)
          refine J_seq ?_
          refine J_block ?_
          refine J_seq ?_
          refine J_region (by kernel_rfl) ?_
          (try simp only [go_sem, Nat.reduceEqDiff, ↓reduceIte])
          obtain ⟨x13, hx13, hP⟩ := bind_cases hP
          refine ixV_of hx13 ?_
          (try simp only [go_sem, Nat.reduceEqDiff, ↓reduceIte])
          obtain ⟨r14, hr14, hP⟩ := bind_cases hP
          refine call_ok [.str x13.1] (ref03_Token_ok hr14) ⟨argR_m false rfl, trivial⟩ ?_
          (try simp only [go_sem, Nat.reduceEqDiff, ↓reduceIte])
          refine hold2 (then_n ?_)
          refine J_seq ?_
          refine J_seq ?_
          refine J_region (by kernel_rfl) ?_
          (try simp only [go_sem, Nat.reduceEqDiff, ↓reduceIte])
          refine hold2 (then_n ?_)
          refine J_condV rfl ?_
          (try simp only [go_sem, Nat.reduceEqDiff, ↓reduceIte])
          rcases ite_cases hP with ⟨hc, hP⟩ | ⟨hc, hP⟩
          · refine condV_t hc ?_
            refine J_seq ?_
            refine J_region (by kernel_rfl) ?_
            (try simp only [go_sem, Nat.reduceEqDiff, ↓reduceIte])
            refine hold2 (then_n ?_)
            refine J_ret (then_ret (block_ret (then_ret (loop_ret (block_ret (join_ret (then_ret (fin_ret ?_))))))))
            obtain rfl := Option.some.inj hP
            have hP := hQ12
            dsimp only at hP
            obtain rfl := Option.some.inj hP
            (try simp only [go_sem, Nat.reduceEqDiff, ↓reduceIte])
            exact fo []
          · refine condV_f hc ?_
            refine J_skip (then_n ?_)
            refine J_seq ?_
            refine J_region (by kernel_rfl) ?_
            (try simp only [go_sem, Nat.reduceEqDiff, ↓reduceIte])
            obtain ⟨x15, hx15, hP⟩ := bind_cases hP
            refine ixV_of hx15 ?_
            (try simp only [go_sem, Nat.reduceEqDiff, ↓reduceIte])
            obtain ⟨r16, hr16, hP⟩ := bind_cases hP
            refine call_ok [.str x15.2] (ref04_Value_ok hr16) ⟨argR_m false rfl, trivial⟩ ?_
            (try simp only [go_sem, Nat.reduceEqDiff, ↓reduceIte])
            refine hold2 (then_n ?_)
            refine J_seq ?_
            refine J_region (by kernel_rfl) ?_
            (try simp only [go_sem, Nat.reduceEqDiff, ↓reduceIte])
            refine hold2 (then_n ?_)
            refine J_condV rfl ?_
            (try simp only [go_sem, Nat.reduceEqDiff, ↓reduceIte])
            rcases ite_cases hP with ⟨hc, hP⟩ | ⟨hc, hP⟩
            · refine condV_t hc ?_
              refine J_seq ?_
              refine J_region (by kernel_rfl) ?_
              (try simp only [go_sem, Nat.reduceEqDiff, ↓reduceIte])
              refine hold2 (then_n ?_)
              refine J_ret (block_ret (then_ret (loop_ret (block_ret (join_ret (then_ret (fin_ret ?_)))))))
              obtain rfl := Option.some.inj hP
              have hP := hQ12
              dsimp only at hP
              obtain rfl := Option.some.inj hP
              (try simp only [go_sem, Nat.reduceEqDiff, ↓reduceIte])
              exact fo []
            · refine condV_f hc ?_
              refine J_skip (block_n (then_n ?_))
              refine J_region (by kernel_rfl) ?_
              (try simp only [go_sem, Nat.reduceEqDiff, ↓reduceIte])
              refine hold2 ?_
              exact loop_n (k8, iadd .i64 i7 1) hP (Nat.lt_succ_self _) (so [])
        · refine condV_f hc ?_
          refine J_exit (then_exit (loop_exit (block_eq ?_)))
          exact join_n () (Option.some.inj hP) (so [])
    · intro j18 hs
      subst hs
      have hP := hQ12
      dsimp only at hP
      clear hQ12
      refine then_n ?_
      refine J_seq ?_
      refine J_region (by kernel_rfl) ?_
      (try simp only [go_sem, Nat.reduceEqDiff, ↓reduceIte])
      refine hold2 (then_n ?_)
      refine J_ret (fin_ret ?_)
      obtain rfl := Option.some.inj hP
      (try simp only [go_sem, Nat.reduceEqDiff, ↓reduceIte])
      exact fo []
/-- colander/colanderref04.All -/
def ref04_All_L20 (l1 : List ((List UInt8) × (List UInt8))) (name2 : List UInt8) : Nat → Int → (List (List UInt8)) → Option ((List (List UInt8)))
  | 0, _, _ => none
  | k16 + 1, i14, l15 =>
    if decide (i14 < (List.length l1 : Int)) then
      (ixL l1 i14).bind fun x21 =>
      (ref03_Same x21.1 name2).bind fun r22 =>
      if r22 then
        (ixL l1 i14).bind fun x23 =>
        (szC (List.length (l15 ++ [x23.2] : List (List UInt8)))).bind fun _ =>
        ref04_All_L20 l1 name2 k16 (iadd .i64 i14 1) (l15 ++ [x23.2])
      else
        ref04_All_L20 l1 name2 k16 (iadd .i64 i14 1) l15
    else
      some l15
def ref04_All (l1 : List ((List UInt8) × (List UInt8))) (name2 : List UInt8) : Option ((List (List UInt8))) :=
  (ref04_All_L20 l1 name2 1099511627776 0 ([] : List (List UInt8))).bind fun j26 =>
    some j26
set_option maxRecDepth 100000 in
set_option maxHeartbeats 40000000 in
theorem ref04_All_ok {l1 : List ((List UInt8) × (List UInt8))} {name2 : List UInt8} {r : (List (List UInt8))} (hP : ref04_All l1 name2 = some r) : CallOK Tryz.prog 74 [.view 2 (List.map enc_api_Field l1), .str name2] (.own 0 0 0 (List.length r)) [.slice 0 9 1 (List.map encS r)] := by
  unfold ref04_All at hP
  refine co 31 [.tmp 4] Tryz.func74 ?_
  refine J_seq ?_
  refine J_region (by kernel_rfl) ?_
  (try simp only [go_sem, Nat.reduceEqDiff, ↓reduceIte])
  refine hold2 (then_n ?_)
  refine J_seq ?_
  refine J_region (by kernel_rfl) ?_
  (try simp only [go_sem, Nat.reduceEqDiff, ↓reduceIte])
  refine hold2 (then_n ?_)
  refine J_seq ?_
  refine J_seq ?_
  refine J_region (by kernel_rfl) ?_
  (try simp only [go_sem, Nat.reduceEqDiff, ↓reduceIte])
  refine hold2 (then_n ?_)
  obtain ⟨o25, hP, hQ20⟩ := bind_cases hP
  refine J_joinK0 (fun (s : (List (List UInt8))) => envL [(5, .own 0 0 0 (List.length s))]) (fun (s : (List (List UInt8))) => [.slice 0 9 1 (List.map encS s)]) (fun s => s = o25) ?_ ?_
  · clear hQ20
    refine J_block ?_
    refine J_loop (σ := Nat × Int × (List (List UInt8))) (fun (s : Nat × Int × (List (List UInt8))) => envL [(0, .view 2 (List.map enc_api_Field l1)), (1, .str name2), (5, .own 0 0 0 (List.length s.2.2)), (6, .int .i64 s.2.1)]) (fun (s : Nat × Int × (List (List UInt8))) => [.slice 0 9 1 (List.map encS s.2.2)]) (fun s => ref04_All_L20 l1 name2 s.1 s.2.1 s.2.2 = some o25) (fun s => s.1) (1099511627776, 0, ([] : List (List UInt8))) hP (so [1]) ?_
    rintro ⟨k16, i14, l15⟩ hP
    dsimp only at hP ⊢
    cases k16 with
    | zero => simp [ref04_All_L20] at hP
    | succ k16 =>
      simp only [ref04_All_L20] at hP
      refine J_seq ?_
      refine J_seq ?_
      refine J_region (by kernel_rfl) ?_
      (try simp only [go_sem, Nat.reduceEqDiff, ↓reduceIte])
      refine hold2 (then_n ?_)
      refine J_condV rfl ?_
      (try simp only [go_sem, Nat.reduceEqDiff, ↓reduceIte])
      rcases ite_cases hP with ⟨hc, hP⟩ | ⟨hc, hP⟩
      · refine condV_t hc ?_
        refine J_skip (then_n ?_)
        refine J_seq ?_
        refine J_block ?_
        refine J_seq ?_
        refine J_region (by kernel_rfl) ?_
        (try simp only [go_sem, Nat.reduceEqDiff, ↓reduceIte])
        obtain ⟨x21, hx21, hP⟩ := bind_cases hP
        refine ixV_of hx21 ?_
        (try simp only [go_sem, Nat.reduceEqDiff, ↓reduceIte])
        obtain ⟨r22, hr22, hP⟩ := bind_cases hP
        refine call_ok [.str x21.1, .str name2] (ref03_Same_ok hr22) ⟨argR_m false rfl, argR_m false rfl, trivial⟩ ?_
        (try simp only [go_sem, Nat.reduceEqDiff, ↓reduceIte])
        refine hold2 (then_n ?_)
        refine J_seq ?_
        refine J_region (by kernel_rfl) ?_
        (try simp only [go_sem, Nat.reduceEqDiff, ↓reduceIte])
        refine hold2 (then_n ?_)
        refine J_condV rfl ?_
        (try simp only [go_sem, Nat.reduceEqDiff, ↓reduceIte])
        rcases ite_cases hP with ⟨hc, hP⟩ | ⟨hc, hP⟩
        · refine condV_t hc ?_
          refine J_region (by kernel_rfl) ?_
          (try simp only [go_sem, Nat.reduceEqDiff, ↓reduceIte])
          obtain ⟨x23, hx23, hP⟩ := bind_cases hP
          refine ixV_of hx23 ?_
          (try simp only [go_sem, Nat.reduceEqDiff, ↓reduceIte])
          obtain ⟨_, hz24, hP⟩ := bind_cases hP
          refine app_own (f := encS) (l15 : List (List UInt8)) ([x23.2] : List (List UInt8)) rfl tyS_47 (by decide) (by simp only [go_sem, Nat.reduceEqDiff, ↓reduceIte]; first | done | rfl | exact ⟨rfl, rfl⟩) hz24 ?_
          (try simp only [go_sem, Nat.reduceEqDiff, ↓reduceIte])
          refine hold2 (block_n (then_n ?_))
          refine J_region (by kernel_rfl) ?_
          (try simp only [go_sem, Nat.reduceEqDiff, ↓reduceIte])
          refine hold2 ?_
          exact loop_n (k16, iadd .i64 i14 1, l15 ++ [x23.2]) hP (Nat.lt_succ_self _) (so [0])
        · refine condV_f hc ?_
          refine J_skip (block_n (then_n ?_))
          refine J_region (by kernel_rfl) ?_
          (try simp only [go_sem, Nat.reduceEqDiff, ↓reduceIte])
          refine hold2 ?_
          exact loop_n (k16, iadd .i64 i14 1, l15) hP (Nat.lt_succ_self _) (so [0])
      · refine condV_f hc ?_
        refine J_exit (then_exit (loop_exit (block_eq ?_)))
        exact join_n l15 (Option.some.inj hP) (so [0])
  · intro j26 hs
    subst hs
    have hP := hQ20
    clear hQ20
    refine then_n ?_
    refine J_seq ?_
    refine J_region (by kernel_rfl) ?_
    (try simp only [go_sem, Nat.reduceEqDiff, ↓reduceIte])
    refine hold2 (then_n ?_)
    refine J_ret (fin_ret ?_)
    obtain rfl := Option.some.inj hP
    (try simp only [go_sem, Nat.reduceEqDiff, ↓reduceIte])
    exact fo [0]
/-- colander/colanderref04.Text -/
def ref04_Text_L25 (l1 : List ((List UInt8) × (List UInt8))) : Nat → (List UInt8) → Int → Option ((List UInt8))
  | 0, _, _ => none
  | k16 + 1, out14, i15 =>
    if decide (i15 < (List.length l1 : Int)) then
      (ixL l1 i15).bind fun x26 =>
      (szC (List.length (out14 ++ x26.1))).bind fun _ =>
      (szC (List.length ((out14 ++ x26.1) ++ [58]))).bind fun _ =>
      (ixL l1 i15).bind fun x29 =>
      if !decide (x29.2 = []) then
        (szC (List.length (((out14 ++ x26.1) ++ [58]) ++ [32]))).bind fun _ =>
        (ixL l1 i15).bind fun x31 =>
        (szC (List.length ((((out14 ++ x26.1) ++ [58]) ++ [32]) ++ x31.2))).bind fun _ =>
        (szC (List.length (((((out14 ++ x26.1) ++ [58]) ++ [32]) ++ x31.2) ++ [13, 10]))).bind fun _ =>
        ref04_Text_L25 l1 k16 (((((out14 ++ x26.1) ++ [58]) ++ [32]) ++ x31.2) ++ [13, 10]) (iadd .i64 i15 1)
      else
        (szC (List.length (((out14 ++ x26.1) ++ [58]) ++ [13, 10]))).bind fun _ =>
        ref04_Text_L25 l1 k16 (((out14 ++ x26.1) ++ [58]) ++ [13, 10]) (iadd .i64 i15 1)
    else
      some out14
def ref04_Text (l1 : List ((List UInt8) × (List UInt8))) : Option ((List UInt8)) :=
  (ref04_Right l1).bind fun r2 =>
  if !decide (r2.2 = 0) then
    some []
  else
    (ref04_Text_L25 l1 1099511627776 [] 0).bind fun j36 =>
      some j36
set_option maxRecDepth 100000 in
set_option maxHeartbeats 40000000 in
theorem ref04_Text_ok {l1 : List ((List UInt8) × (List UInt8))} {r : (List UInt8)} (hP : ref04_Text l1 = some r) : CallOK Tryz.prog 48 [.view 2 (List.map enc_api_Field l1)] (.str r) [] := by
  unfold ref04_Text at hP
  refine co 45 [.tmp 2] Tryz.func48 ?_
  refine J_seq ?_
  refine J_region (by kernel_rfl) ?_
  (try simp only [go_sem, Nat.reduceEqDiff, ↓reduceIte])
  refine hold2 (then_n ?_)
  refine J_seq ?_
  refine J_region (by kernel_rfl) ?_
  (try simp only [go_sem, Nat.reduceEqDiff, ↓reduceIte])
  obtain ⟨r2, hr2, hP⟩ := bind_cases hP
  refine call_ok [.view 2 (List.map enc_api_Field l1)] (ref04_Right_ok hr2) ⟨argR_m false rfl, trivial⟩ ?_
  (try simp only [go_sem, Nat.reduceEqDiff, ↓reduceIte])
  refine hold2 (then_n ?_)
  refine J_seq ?_
  refine J_seq ?_
  refine J_region (by kernel_rfl) ?_
  (try simp only [go_sem, Nat.reduceEqDiff, ↓reduceIte])
  refine hold2 (then_n ?_)
  refine J_condV rfl ?_
  (try simp only [go_sem, Nat.reduceEqDiff, ↓reduceIte])
  rcases ite_cases hP with ⟨hc, hP⟩ | ⟨hc, hP⟩
  · refine condV_t hc ?_
    refine J_seq ?_
    refine J_region (by kernel_rfl) ?_
    (try simp only [go_sem, Nat.reduceEqDiff, ↓reduceIte])
    refine hold2 (then_n ?_)
    refine J_ret (then_ret (fin_ret ?_))
    obtain rfl := Option.some.inj hP
    (try simp only [go_sem, Nat.reduceEqDiff, ↓reduceIte])
    exact fo []
  · refine condV_f hc ?_
    refine J_skip (then_n ?_)
    refine J_seq ?_
    refine J_region (by kernel_rfl) ?_
    (try simp only [go_sem, Nat.reduceEqDiff, ↓reduceIte])
    refine hold2 (then_n ?_)
    refine J_seq ?_
    refine J_seq ?_
    refine J_region (by kernel_rfl) ?_
    (try simp only [go_sem, Nat.reduceEqDiff, ↓reduceIte])
    refine hold2 (then_n ?_)
    obtain ⟨o35, hP, hQ25⟩ := bind_cases hP
    refine J_joinK0 (fun (s : (List UInt8)) => envL [(5, .str s)]) (fun (s : (List UInt8)) => []) (fun s => s = o35) ?_ ?_
    · clear hQ25
      refine J_block ?_
      refine J_loop (σ := Nat × (List UInt8) × Int) (fun (s : Nat × (List UInt8) × Int) => envL [(0, .view 2 (List.map enc_api_Field l1)), (5, .str s.2.1), (6, .int .i64 s.2.2)]) (fun (s : Nat × (List UInt8) × Int) => []) (fun s => ref04_Text_L25 l1 s.1 s.2.1 s.2.2 = some o35) (fun s => s.1) (1099511627776, [], 0) hP (so []) ?_
      rintro ⟨k16, out14, i15⟩ hP
      dsimp only at hP ⊢
      cases k16 with
      | zero => simp [ref04_Text_L25] at hP
      | succ k16 =>
        simp only [ref04_Text_L25] at hP
        refine J_seq ?_
        refine J_seq ?_
        refine J_region (by kernel_rfl) ?_
        (try simp only [go_sem, Nat.reduceEqDiff, ↓reduceIte])
        refine hold2 (then_n ?_)
        refine J_condV rfl ?_
        (try simp only [go_sem, Nat.reduceEqDiff, ↓reduceIte])
        rcases ite_cases hP with ⟨hc, hP⟩ | ⟨hc, hP⟩
        · refine condV_t hc ?_
          refine J_skip (then_n ?_)
          refine J_seq ?_
          refine J_block ?_
          refine J_seq ?_
          refine J_region (by kernel_rfl) ?_
          (try simp only [go_sem, Nat.reduceEqDiff, ↓reduceIte])
          obtain ⟨x26, hx26, hP⟩ := bind_cases hP
          refine ixV_of hx26 ?_
          (try simp only [go_sem, Nat.reduceEqDiff, ↓reduceIte])
          obtain ⟨_, hz27, hP⟩ := bind_cases hP
          refine chk_of (by first | exact szC_63 hz27 | (have q := szC_63 hz27; simp only [List.length_append, List.length_cons, List.length_nil] at q ⊢; omega)) ?_
          (try simp only [go_sem, Nat.reduceEqDiff, ↓reduceIte])
          obtain ⟨_, hz28, hP⟩ := bind_cases hP
          refine chk_of (by first | exact szC_63 hz28 | (have q := szC_63 hz28; simp only [List.length_append, List.length_cons, List.length_nil] at q ⊢; omega)) ?_
          (try simp only [go_sem, Nat.reduceEqDiff, ↓reduceIte])
          refine hold2 (then_n ?_)
          refine J_seq ?_
          refine J_seq ?_
          refine J_region (by kernel_rfl) ?_
          (try simp only [go_sem, Nat.reduceEqDiff, ↓reduceIte])
          obtain ⟨x29, hx29, hP⟩ := bind_cases hP
          refine ixV_of hx29 ?_
          (try simp only [go_sem, Nat.reduceEqDiff, ↓reduceIte])
          refine hold2 (then_n ?_)
          refine J_condV rfl ?_
          (try simp only [go_sem, Nat.reduceEqDiff, ↓reduceIte])
          rcases ite_cases hP with ⟨hc, hP⟩ | ⟨hc, hP⟩
          · refine condV_t hc ?_
            refine J_region (by kernel_rfl) ?_
            (try simp only [go_sem, Nat.reduceEqDiff, ↓reduceIte])
            obtain ⟨_, hz30, hP⟩ := bind_cases hP
            refine chk_of (by first | exact szC_63 hz30 | (have q := szC_63 hz30; simp only [List.length_append, List.length_cons, List.length_nil] at q ⊢; omega)) ?_
            (try simp only [go_sem, Nat.reduceEqDiff, ↓reduceIte])
            obtain ⟨x31, hx31, hP⟩ := bind_cases hP
            refine ixV_of hx31 ?_
            (try simp only [go_sem, Nat.reduceEqDiff, ↓reduceIte])
            obtain ⟨_, hz32, hP⟩ := bind_cases hP
            refine chk_of (by first | exact szC_63 hz32 | (have q := szC_63 hz32; simp only [List.length_append, List.length_cons, List.length_nil] at q ⊢; omega)) ?_
            (try simp only [go_sem, Nat.reduceEqDiff, ↓reduceIte])
            refine hold2 (then_n ?_)
            refine J_region (by kernel_rfl) ?_
            (try simp only [go_sem, Nat.reduceEqDiff, ↓reduceIte])
            obtain ⟨_, hz33, hP⟩ := bind_cases hP
            refine chk_of (by first | exact szC_63 hz33 | (have q := szC_63 hz33; simp only [List.length_append, List.length_cons, List.length_nil] at q ⊢; omega)) ?_
            (try simp only [go_sem, Nat.reduceEqDiff, ↓reduceIte])
            refine hold2 (block_n (then_n ?_))
            refine J_region (by kernel_rfl) ?_
            (try simp only [go_sem, Nat.reduceEqDiff, ↓reduceIte])
            refine hold2 ?_
            exact loop_n (k16, (((((out14 ++ x26.1) ++ [58]) ++ [32]) ++ x31.2) ++ [13, 10]), iadd .i64 i15 1) hP (Nat.lt_succ_self _) (so [])
          · refine condV_f hc ?_
            refine J_skip (then_n ?_)
            refine J_region (by kernel_rfl) ?_
            (try simp only [go_sem, Nat.reduceEqDiff, ↓reduceIte])
            obtain ⟨_, hz34, hP⟩ := bind_cases hP
            refine chk_of (by first | exact szC_63 hz34 | (have q := szC_63 hz34; simp only [List.length_append, List.length_cons, List.length_nil] at q ⊢; omega)) ?_
            (try simp only [go_sem, Nat.reduceEqDiff, ↓reduceIte])
            refine hold2 (block_n (then_n ?_))
            refine J_region (by kernel_rfl) ?_
            (try simp only [go_sem, Nat.reduceEqDiff, ↓reduceIte])
            refine hold2 ?_
            exact loop_n (k16, (((out14 ++ x26.1) ++ [58]) ++ [13, 10]), iadd .i64 i15 1) hP (Nat.lt_succ_self _) (so [])
        · refine condV_f hc ?_
          refine J_exit (then_exit (loop_exit (block_eq ?_)))
          exact join_n out14 (Option.some.inj hP) (so [])
    · intro j36 hs
      subst hs
      have hP := hQ25
      clear hQ25
      refine then_n ?_
      refine J_seq ?_
      refine J_region (by kernel_rfl) ?_
      (try simp only [go_sem, Nat.reduceEqDiff, ↓reduceIte])
      refine hold2 (then_n ?_)
      refine J_ret (fin_ret ?_)
      obtain rfl := Option.some.inj hP
      (try simp only [go_sem, Nat.reduceEqDiff, ↓reduceIte])
      exact fo []
end Go.Proofs.YtbcmngnmfneeaaaGreatDoor
