/- Functions of the program, and pure ones that go the same ways: that the program's return what these compute. -/
import Derived.Test.YtbcmngnmfneeaaaGreatDoorGC
import Derived.Test.YtbcmngnmfneeaaaGreatDoorAvJ
namespace Go.Proofs.YtbcmngnmfneeaaaGreatDoor
open Go.Av
set_option linter.unusedVariables false
set_option linter.unusedSimpArgs false
/-- colander/head.bounded -/
def head_bounded (s1 : List UInt8) : Option ((List UInt8)) :=
  if decide (2048 < (List.length s1 : Int)) then
    some []
  else
    some s1
set_option maxRecDepth 100000 in
set_option maxHeartbeats 40000000 in
theorem head_bounded_ok {s1 : List UInt8} {r : (List UInt8)} (hP : head_bounded s1 = some r) : CallOK Tryz.prog 39 [.str s1] (.str r) [] := by
  unfold head_bounded at hP
  refine co 7 [.tmp 2] Tryz.func39 ?_
  refine J_seq ?_
  refine J_region (by kernel_rfl) ?_
  (try simp only [go_sem, Nat.reduceEqDiff, ↓reduceIte])
  refine hold2 (then_n ?_)
  refine J_seq ?_
  refine J_seq ?_
  refine J_region (by kernel_rfl) ?_
  (try simp only [go_sem, Nat.reduceEqDiff, ↓reduceIte])
  refine hold2 (then_n ?_)
  refine J_condV rfl ?_
  (try simp only [go_sem, Nat.reduceEqDiff, ↓reduceIte])
  rcases ite_cases hP with ⟨hc, hP⟩ | ⟨hc, hP⟩
  · refine condV_t hc ?_
    refine J_seq ?_
    refine J_region (by kernel_rfl) ?_
    (try simp only [go_sem, Nat.reduceEqDiff, ↓reduceIte])
    refine hold2 (then_n ?_)
    refine J_ret (then_ret (fin_ret ?_))
    obtain rfl := Option.some.inj hP
    (try simp only [go_sem, Nat.reduceEqDiff, ↓reduceIte])
    exact fo []
  · refine condV_f hc ?_
    refine J_skip (then_n ?_)
    refine J_seq ?_
    refine J_region (by kernel_rfl) ?_
    (try simp only [go_sem, Nat.reduceEqDiff, ↓reduceIte])
    refine hold2 (then_n ?_)
    refine J_ret (fin_ret ?_)
    obtain rfl := Option.some.inj hP
    (try simp only [go_sem, Nat.reduceEqDiff, ↓reduceIte])
    exact fo []
/-- colander/head.RequestText -/
def head_RequestText (q1 : (List UInt8) × (List UInt8) × (List ((List UInt8) × (List UInt8)))) : Option ((List UInt8)) :=
  (fields_Right q1.2.2).bind fun r2 =>
  (show Option (Bool) from
    if !decide (r2.2 = 0) then
      some true
    else
      (head_method q1.1).bind fun r7 =>
      if !r7 then
        some true
      else
        (head_target q1.2.1).bind fun r8 =>
        if !r8 then
          some true
        else
          (head_host q1.2.2).bind fun r9 =>
          some (!r9)).bind fun j10 =>
    if j10 then
      some []
    else
      (szC (List.length (q1.1 ++ [32]))).bind fun _ =>
      (szC (List.length ((q1.1 ++ [32]) ++ q1.2.1))).bind fun _ =>
      (szC (List.length (((q1.1 ++ [32]) ++ q1.2.1) ++ [32, 72, 84, 84, 80, 47, 49, 46, 49, 13, 10]))).bind fun _ =>
      (fields_Text q1.2.2).bind fun r14 =>
      (szC (List.length ((((q1.1 ++ [32]) ++ q1.2.1) ++ [32, 72, 84, 84, 80, 47, 49, 46, 49, 13, 10]) ++ r14))).bind fun _ =>
      (szC (List.length (((((q1.1 ++ [32]) ++ q1.2.1) ++ [32, 72, 84, 84, 80, 47, 49, 46, 49, 13, 10]) ++ r14) ++ [13, 10]))).bind fun _ =>
      (head_bounded (((((q1.1 ++ [32]) ++ q1.2.1) ++ [32, 72, 84, 84, 80, 47, 49, 46, 49, 13, 10]) ++ r14) ++ [13, 10])).bind fun r17 =>
      some r17
set_option maxRecDepth 100000 in
set_option maxHeartbeats 40000000 in
theorem head_RequestText_ok {q1 : (List UInt8) × (List UInt8) × (List ((List UInt8) × (List UInt8)))} {r : (List UInt8)} (hP : head_RequestText q1 = some r) : CallOK Tryz.prog 13 [.agg [.str q1.1, .str q1.2.1, .view 2 (List.map enc_api_Field q1.2.2)]] (.str r) [] := by
  unfold head_RequestText at hP
  refine co 44 [.tmp 2] Tryz.func13 ?_
  refine J_seq ?_
  refine J_region (by kernel_rfl) ?_
  (try simp only [go_sem, Nat.reduceEqDiff, ↓reduceIte])
  refine hold2 (then_n ?_)
  refine J_seq ?_
  refine J_seq ?_
  refine J_region (by kernel_rfl) ?_
  (try simp only [go_sem, Nat.reduceEqDiff, ↓reduceIte])
  obtain ⟨r2, hr2, hP⟩ := bind_cases hP
  refine call_ok [.view 2 (List.map enc_api_Field q1.2.2)] (fields_Right_ok hr2) ⟨argR_m false rfl, trivial⟩ ?_
  (try simp only [go_sem, Nat.reduceEqDiff, ↓reduceIte])
  refine hold2 (then_n ?_)
  obtain ⟨o6, hP, hQ6⟩ := bind_cases hP
  refine J_join (fun (s : Bool) => envL [(1, .bptr 0 0), (30, .bool s)]) (fun (s : Bool) => [.box 25 [.str q1.1, .str q1.2.1, .view 2 (List.map enc_api_Field q1.2.2)]]) (fun s => s = o6) ?_ ?_
  · clear hQ6
    refine J_region (by kernel_rfl) ?_
    (try simp only [go_sem, Nat.reduceEqDiff, ↓reduceIte])
    rcases ite_cases hP with ⟨hc, hP⟩ | ⟨hc, hP⟩
    · refine guard_not hc ?_
      (try simp only [go_sem, Nat.reduceEqDiff, ↓reduceIte])
      refine hold2 ?_
      exact join_n true (Option.some.inj hP) (so [0])
    · refine guard_is hc ?_
      (try simp only [go_sem, Nat.reduceEqDiff, ↓reduceIte])
      obtain ⟨r7, hr7, hP⟩ := bind_cases hP
      refine call_ok [.str q1.1] (head_method_ok hr7) ⟨argR_m false rfl, trivial⟩ ?_
      (try simp only [go_sem, Nat.reduceEqDiff, ↓reduceIte])
      rcases ite_cases hP with ⟨hc, hP⟩ | ⟨hc, hP⟩
      · refine guard_not hc ?_
        (try simp only [go_sem, Nat.reduceEqDiff, ↓reduceIte])
        refine hold2 ?_
        exact join_n true (Option.some.inj hP) (so [0])
      · refine guard_is hc ?_
        (try simp only [go_sem, Nat.reduceEqDiff, ↓reduceIte])
        obtain ⟨r8, hr8, hP⟩ := bind_cases hP
        refine call_ok [.str q1.2.1] (head_target_ok hr8) ⟨argR_m false rfl, trivial⟩ ?_
        (try simp only [go_sem, Nat.reduceEqDiff, ↓reduceIte])
        rcases ite_cases hP with ⟨hc, hP⟩ | ⟨hc, hP⟩
        · refine guard_not hc ?_
          (try simp only [go_sem, Nat.reduceEqDiff, ↓reduceIte])
          refine hold2 ?_
          exact join_n true (Option.some.inj hP) (so [0])
        · refine guard_is hc ?_
          (try simp only [go_sem, Nat.reduceEqDiff, ↓reduceIte])
          obtain ⟨r9, hr9, hP⟩ := bind_cases hP
          refine call_ok [.view 2 (List.map enc_api_Field q1.2.2)] (head_host_ok hr9) ⟨argR_m false rfl, trivial⟩ ?_
          (try simp only [go_sem, Nat.reduceEqDiff, ↓reduceIte])
          refine hold2 ?_
          exact join_n (!r9) (Option.some.inj hP) (so [0])
  · intro j10 hs
    subst hs
    have hP := hQ6
    clear hQ6
    refine J_condV rfl ?_
    (try simp only [go_sem, Nat.reduceEqDiff, ↓reduceIte])
    rcases ite_cases hP with ⟨hc, hP⟩ | ⟨hc, hP⟩
    · refine condV_t hc ?_
      refine J_seq ?_
      refine J_region (by kernel_rfl) ?_
      (try simp only [go_sem, Nat.reduceEqDiff, ↓reduceIte])
      refine hold2 (then_n ?_)
      refine J_ret (then_ret (fin_ret ?_))
      obtain rfl := Option.some.inj hP
      (try simp only [go_sem, Nat.reduceEqDiff, ↓reduceIte])
      exact fo []
    · refine condV_f hc ?_
      refine J_skip (then_n ?_)
      refine J_seq ?_
      refine J_regionq follows_mixed (by kernel_rfl) (by kernel_rfl) ?_
      (try simp only [go_sem, Nat.reduceEqDiff, ↓reduceIte])
      obtain ⟨_, hz11, hP⟩ := bind_cases hP
      refine chk_of (by first | exact szC_63 hz11 | (have q := szC_63 hz11; simp only [List.length_append, List.length_cons, List.length_nil] at q ⊢; omega)) ?_
      (try simp only [go_sem, Nat.reduceEqDiff, ↓reduceIte])
      obtain ⟨_, hz12, hP⟩ := bind_cases hP
      refine chk_of (by first | exact szC_63 hz12 | (have q := szC_63 hz12; simp only [List.length_append, List.length_cons, List.length_nil] at q ⊢; omega)) ?_
      (try simp only [go_sem, Nat.reduceEqDiff, ↓reduceIte])
      obtain ⟨_, hz13, hP⟩ := bind_cases hP
      refine chk_of (by first | exact szC_63 hz13 | (have q := szC_63 hz13; simp only [List.length_append, List.length_cons, List.length_nil] at q ⊢; omega)) ?_
      (try simp only [go_sem, Nat.reduceEqDiff, ↓reduceIte])
      obtain ⟨r14, hr14, hP⟩ := bind_cases hP
      refine call_okq [.view 2 (List.map enc_api_Field q1.2.2)] (fields_Text_ok hr14) ⟨argR_m false rfl, trivial⟩ rfl ?_
      (try simp only [go_sem, Nat.reduceEqDiff, ↓reduceIte])
      obtain ⟨_, hz15, hP⟩ := bind_cases hP
      refine chk_of (by first | exact szC_63 hz15 | (have q := szC_63 hz15; simp only [List.length_append, List.length_cons, List.length_nil] at q ⊢; omega)) ?_
      (try simp only [go_sem, Nat.reduceEqDiff, ↓reduceIte])
      obtain ⟨_, hz16, hP⟩ := bind_cases hP
      refine chk_of (by first | exact szC_63 hz16 | (have q := szC_63 hz16; simp only [List.length_append, List.length_cons, List.length_nil] at q ⊢; omega)) ?_
      (try simp only [go_sem, Nat.reduceEqDiff, ↓reduceIte])
      obtain ⟨r17, hr17, hP⟩ := bind_cases hP
      refine call_okq [.str (((((q1.1 ++ [32]) ++ q1.2.1) ++ [32, 72, 84, 84, 80, 47, 49, 46, 49, 13, 10]) ++ r14) ++ [13, 10])] (head_bounded_ok hr17) ⟨argR_m false rfl, trivial⟩ rfl ?_
      (try simp only [go_sem, Nat.reduceEqDiff, ↓reduceIte])
      refine hold2 (then_n ?_)
      refine J_ret (fin_ret ?_)
      obtain rfl := Option.some.inj hP
      (try simp only [go_sem, Nat.reduceEqDiff, ↓reduceIte])
      exact fo []
/-- colander/head.ResponseText$1 -/
def head_ResponseText_1 (r1 : Int) : Option (Bool) :=
  if decide (r1 < 32) then
    if !decide (r1 = 9) then
      some true
    else
      some (decide (r1 = 127))
  else
    some (decide (r1 = 127))
set_option maxRecDepth 100000 in
set_option maxHeartbeats 40000000 in
theorem head_ResponseText_1_ok {r1 : Int} {r : Bool} (hP : head_ResponseText_1 r1 = some r) : CallOK Tryz.prog 41 [.int .i32 r1] (.bool r) [] := by
  unfold head_ResponseText_1 at hP
  refine co 13 [.tmp 2] Tryz.func41 ?_
  refine J_seq ?_
  refine J_region (by kernel_rfl) ?_
  (try simp only [go_sem, Nat.reduceEqDiff, ↓reduceIte])
  refine hold2 (then_n ?_)
  refine J_seq ?_
  refine J_region (by kernel_rfl) ?_
  (try simp only [go_sem, Nat.reduceEqDiff, ↓reduceIte])
  rcases ite_cases hP with ⟨hc, hP⟩ | ⟨hc, hP⟩
  · refine guard_is hc ?_
    (try simp only [go_sem, Nat.reduceEqDiff, ↓reduceIte])
    rcases ite_cases hP with ⟨hc, hP⟩ | ⟨hc, hP⟩
    · refine guard_not hc ?_
      (try simp only [go_sem, Nat.reduceEqDiff, ↓reduceIte])
      refine hold2 (then_n ?_)
      refine J_ret (fin_ret ?_)
      obtain rfl := Option.some.inj hP
      (try simp only [go_sem, Nat.reduceEqDiff, ↓reduceIte])
      exact fo []
    · refine guard_is hc ?_
      (try simp only [go_sem, Nat.reduceEqDiff, ↓reduceIte])
      refine hold2 (then_n ?_)
      refine J_ret (fin_ret ?_)
      obtain rfl := Option.some.inj hP
      (try simp only [go_sem, Nat.reduceEqDiff, ↓reduceIte])
      exact fo []
  · refine guard_not hc ?_
    (try simp only [go_sem, Nat.reduceEqDiff, ↓reduceIte])
    refine hold2 (then_n ?_)
    refine J_ret (fin_ret ?_)
    obtain rfl := Option.some.inj hP
    (try simp only [go_sem, Nat.reduceEqDiff, ↓reduceIte])
    exact fo []
/-- colander/head.ResponseText -/
def head_ResponseText_strings_indexFunc_L166 (p1 : Int × (List UInt8) × (List ((List UInt8) × (List UInt8)))) : Nat → Nat → Option (Sum (Int) (Unit))
  | 0, _ => none
  | k165 + 1, l164 =>
    if decide (l164 < List.length p1.2.1) then
      (head_ResponseText_1 (((decR p1.2.1 l164).1 : Nat) : Int)).bind fun r167 =>
      if r167 == true then
        some (Sum.inl ((l164 : Nat) : Int))
      else
        head_ResponseText_strings_indexFunc_L166 p1 k165 (l164 + (decR p1.2.1 l164).2)
    else
      some (Sum.inr ())
def head_ResponseText (p1 : Int × (List UInt8) × (List ((List UInt8) × (List UInt8)))) : Option ((List UInt8)) :=
  (fields_Right p1.2.2).bind fun r2 =>
  (show Option (Bool) from
    if !decide (r2.2 = 0) then
      some true
    else
      if decide (p1.1 < 200) then
        some true
      else
        if decide (599 < p1.1) then
          some true
        else
          (show Option (Bool) from
            (show Option (Int) from
              (show Option (Int) from
                (head_ResponseText_strings_indexFunc_L166 p1 1099511627776 0).bind fun o168 => match o168 with
                | Sum.inl r => some r
                | Sum.inr j169 =>
                  some (-1)).bind fun a170 =>
                some a170).bind fun a172 =>
              some (decide (0 ≤ a172))).bind fun a174 =>
            some a174).bind fun j176 =>
    if j176 then
      some []
    else
      (num_Digits p1.1).bind fun r177 =>
      (szC (List.length ([72, 84, 84, 80, 47, 49, 46, 49, 32] ++ r177))).bind fun _ =>
      (szC (List.length (([72, 84, 84, 80, 47, 49, 46, 49, 32] ++ r177) ++ [32]))).bind fun _ =>
      (szC (List.length ((([72, 84, 84, 80, 47, 49, 46, 49, 32] ++ r177) ++ [32]) ++ p1.2.1))).bind fun _ =>
      (szC (List.length (((([72, 84, 84, 80, 47, 49, 46, 49, 32] ++ r177) ++ [32]) ++ p1.2.1) ++ [13, 10]))).bind fun _ =>
      (fields_Text p1.2.2).bind fun r182 =>
      (szC (List.length ((((([72, 84, 84, 80, 47, 49, 46, 49, 32] ++ r177) ++ [32]) ++ p1.2.1) ++ [13, 10]) ++ r182))).bind fun _ =>
      (szC (List.length (((((([72, 84, 84, 80, 47, 49, 46, 49, 32] ++ r177) ++ [32]) ++ p1.2.1) ++ [13, 10]) ++ r182) ++ [13, 10]))).bind fun _ =>
      (head_bounded (((((([72, 84, 84, 80, 47, 49, 46, 49, 32] ++ r177) ++ [32]) ++ p1.2.1) ++ [13, 10]) ++ r182) ++ [13, 10])).bind fun r185 =>
      some r185
set_option maxRecDepth 100000 in
set_option maxHeartbeats 40000000 in
theorem head_ResponseText_ok {p1 : Int × (List UInt8) × (List ((List UInt8) × (List UInt8)))} {r : (List UInt8)} (hP : head_ResponseText p1 = some r) : CallOK Tryz.prog 14 [.agg [.int .i64 p1.1, .str p1.2.1, .view 2 (List.map enc_api_Field p1.2.2)]] (.str r) [] := by
  unfold head_ResponseText at hP
  refine co 45 [.tmp 2] Tryz.func14 ?_
  refine J_seq ?_
  refine J_region (by kernel_rfl) ?_
  (try simp only [go_sem, Nat.reduceEqDiff, ↓reduceIte])
  refine hold2 (then_n ?_)
  refine J_seq ?_
  refine J_region (by kernel_rfl) ?_
  (try simp only [go_sem, Nat.reduceEqDiff, ↓reduceIte])
  refine hold2 (then_n ?_)
  refine J_seq ?_
  refine J_seq ?_
  refine J_region (by kernel_rfl) ?_
  (try simp only [go_sem, Nat.reduceEqDiff, ↓reduceIte])
  obtain ⟨r2, hr2, hP⟩ := bind_cases hP
  refine call_ok [.view 2 (List.map enc_api_Field p1.2.2)] (fields_Right_ok hr2) ⟨argR_m false rfl, trivial⟩ ?_
  (try simp only [go_sem, Nat.reduceEqDiff, ↓reduceIte])
  refine hold2 (then_n ?_)
  obtain ⟨o89, hP, hQ89⟩ := bind_cases hP
  refine J_join (fun (s : Bool) => envL [(1, .bptr 0 0), (29, .bool s)]) (fun (s : Bool) => [.box 31 [.int .i64 p1.1, .str p1.2.1, .view 2 (List.map enc_api_Field p1.2.2)]]) (fun s => s = o89) ?_ ?_
  · clear hQ89
    refine J_region (by kernel_rfl) ?_
    (try simp only [go_sem, Nat.reduceEqDiff, ↓reduceIte])
    rcases ite_cases hP with ⟨hc, hP⟩ | ⟨hc, hP⟩
    · refine guard_not hc ?_
      (try simp only [go_sem, Nat.reduceEqDiff, ↓reduceIte])
      refine hold2 ?_
      exact join_n true (Option.some.inj hP) (so [0])
    · refine guard_is hc ?_
      (try simp only [go_sem, Nat.reduceEqDiff, ↓reduceIte])
      rcases ite_cases hP with ⟨hc, hP⟩ | ⟨hc, hP⟩
      · refine guard_not hc ?_
        (try simp only [go_sem, Nat.reduceEqDiff, ↓reduceIte])
        refine hold2 ?_
        exact join_n true (Option.some.inj hP) (so [0])
      · refine guard_is hc ?_
        (try simp only [go_sem, Nat.reduceEqDiff, ↓reduceIte])
        rcases ite_cases hP with ⟨hc, hP⟩ | ⟨hc, hP⟩
        · refine guard_not hc ?_
          (try simp only [go_sem, Nat.reduceEqDiff, ↓reduceIte])
          refine hold2 ?_
          exact join_n true (Option.some.inj hP) (so [0])
        · refine guard_is hc ?_
          (try simp only [go_sem, Nat.reduceEqDiff, ↓reduceIte])
          obtain ⟨o175, hP, hQ174⟩ := bind_cases hP
          refine call_join (fun (s : Bool) => .bool s) (fun (s : Bool) => envL [(1, .bptr 0 0), (24, .bool false)]) (fun (s : Bool) => [.box 31 [.int .i64 p1.1, .str p1.2.1, .view 2 (List.map enc_api_Field p1.2.2)]]) (fun s => s = o175) (callI_of (n := 9) (rs := [.tmp 4]) Tryz.func42 rfl (by decide) rfl rfl (by simp) rfl ?_) ?_
          · clear hQ174
            refine J_seq ?_
            refine J_region (by kernel_rfl) ?_
            (try simp only [go_sem, Nat.reduceEqDiff, ↓reduceIte])
            refine hold2 (then_n ?_)
            refine J_seq ?_
            refine J_region (by kernel_rfl) ?_
            (try simp only [go_sem, Nat.reduceEqDiff, ↓reduceIte])
            obtain ⟨o173, hP, hQ172⟩ := bind_cases hP
            refine call_join (fun (s : Int) => .int .i64 s) (fun (s : Int) => envL [(4, .bool false), (10, .bptr 0 0), (33, .bool false)]) (fun (s : Int) => [.box 31 [.int .i64 p1.1, .str p1.2.1, .view 2 (List.map enc_api_Field p1.2.2)]]) (fun s => s = o173) (callI_of (n := 8) (rs := [.tmp 4]) Tryz.func70 rfl (by decide) rfl rfl (by simp) rfl ?_) ?_
            · clear hQ172
              refine J_seq ?_
              refine J_region (by kernel_rfl) ?_
              (try simp only [go_sem, Nat.reduceEqDiff, ↓reduceIte])
              refine hold2 (then_n ?_)
              refine J_seq ?_
              refine J_region (by kernel_rfl) ?_
              (try simp only [go_sem, Nat.reduceEqDiff, ↓reduceIte])
              obtain ⟨o171, hP, hQ170⟩ := bind_cases hP
              refine call_join (fun (s : Int) => .int .i64 s) (fun (s : Int) => envL [(4, .int .i64 0), (12, .bool false), (18, .bptr 0 0), (41, .bool false)]) (fun (s : Int) => [.box 31 [.int .i64 p1.1, .str p1.2.1, .view 2 (List.map enc_api_Field p1.2.2)]]) (fun s => s = o171) (callI_of (n := 21) (rs := [.tmp 6]) Tryz.func94 rfl (by decide) rfl rfl (by simp) rfl ?_) ?_
              · clear hQ170
                refine J_seq ?_
                refine J_region (by kernel_rfl) ?_
                (try simp only [go_sem, Nat.reduceEqDiff, ↓reduceIte])
                refine hold2 (then_n ?_)
                refine J_seq ?_
                refine J_seq ?_
                refine J_region (by kernel_rfl) ?_
                (try simp only [go_sem, Nat.reduceEqDiff, ↓reduceIte])
                refine hold2 (then_n ?_)
                obtain ⟨o168, hP, hQ166⟩ := bind_cases hP
                refine J_joinK0 (fun (s : Unit) => envL [(25, .int .i64 0), (33, .bool false), (39, .bptr 0 0), (62, .bool false)]) (fun (s : Unit) => [.box 31 [.int .i64 p1.1, .str p1.2.1, .view 2 (List.map enc_api_Field p1.2.2)]]) (fun s => Sum.inr s = o168) ?_ ?_
                · refine J_block ?_
                  refine J_loop (σ := Nat × Nat) (fun (s : Nat × Nat) => envL [(1, .fn 41 []), (2, .bool true), (10, .bptr 0 0), (25, .int .i64 0), (33, .bool false), (39, .bptr 1 0), (62, .bool false)]) (fun (s : Nat × Nat) => [.iter p1.2.1 s.2, .box 31 [.int .i64 p1.1, .str p1.2.1, .view 2 (List.map enc_api_Field p1.2.2)]]) (fun s => head_ResponseText_strings_indexFunc_L166 p1 s.1 s.2 = some o168) (fun s => s.1) (1099511627776, 0) hP (so [1, 0]) ?_
                  rintro ⟨k165, l164⟩ hP
                  dsimp only at hP ⊢
                  cases k165 with
                  | zero => simp [head_ResponseText_strings_indexFunc_L166] at hP
                  | succ k165 =>
                    simp only [head_ResponseText_strings_indexFunc_L166] at hP
                    refine J_seq ?_
                    refine J_region (by kernel_rfl) ?_
                    (try simp only [go_sem, Nat.reduceEqDiff, ↓reduceIte])
                    rcases ite_cases hP with ⟨hc, hP⟩ | ⟨hc, hP⟩
                    · refine guard_is hc ?_
                      (try simp only [go_sem, Nat.reduceEqDiff, ↓reduceIte])
                      refine hold2 (then_n ?_)
                      refine J_seq ?_
                      refine J_condV rfl ?_
                      (try simp only [go_sem, Nat.reduceEqDiff, ↓reduceIte])
                      refine J_skip (then_n ?_)
                      refine J_block ?_
                      refine J_seq ?_
                      refine J_region (by kernel_rfl) ?_
                      (try simp only [go_sem, Nat.reduceEqDiff, ↓reduceIte])
                      refine hold2 (then_n ?_)
                      refine J_seq ?_
                      refine J_region (by kernel_rfl) ?_
                      (try simp only [go_sem, Nat.reduceEqDiff, ↓reduceIte])
                      obtain ⟨r167, hr167, hP⟩ := bind_cases hP
                      refine call_ok [.int .i32 (((decR p1.2.1 l164).1 : Nat) : Int)] (head_ResponseText_1_ok hr167) ⟨argR_m false rfl, trivial⟩ ?_
                      (try simp only [go_sem, Nat.reduceEqDiff, ↓reduceIte])
                      refine hold2 (then_n ?_)
                      refine J_condV rfl ?_
                      (try simp only [go_sem, Nat.reduceEqDiff, ↓reduceIte])
                      rcases ite_cases hP with ⟨hc, hP⟩ | ⟨hc, hP⟩
                      · refine condV_t hc ?_
                        refine J_seq ?_
                        refine J_region (by kernel_rfl) ?_
                        (try simp only [go_sem, Nat.reduceEqDiff, ↓reduceIte])
                        refine hold2 (then_n ?_)
                        refine J_ret (block_ret (loop_ret (block_ret (join_ret (then_ret (finI_ret ?_))))))
                        obtain rfl := Option.some.inj hP
                        have hP := hQ166
                        dsimp only at hP
                        exact told_of ⟨((l164 : Nat) : Int), Option.some.inj hP, sr [1]⟩
                      · refine condV_f hc ?_
                        refine J_skip (block_n ?_)
                        exact loop_n (k165, l164 + (decR p1.2.1 l164).2) hP (Nat.lt_succ_self _) (so [0, 1])
                    · refine guard_not hc ?_
                      (try simp only [go_sem, Nat.reduceEqDiff, ↓reduceIte])
                      refine hold2 (then_n ?_)
                      refine J_seq ?_
                      refine J_condV rfl ?_
                      (try simp only [go_sem, Nat.reduceEqDiff, ↓reduceIte])
                      refine J_exit (then_exit (loop_exit (block_eq ?_)))
                      exact join_n () (Option.some.inj hP) (so [1])
                · intro j169 hs
                  subst hs
                  have hP := hQ166
                  dsimp only at hP
                  clear hQ166
                  refine then_n ?_
                  refine J_seq ?_
                  refine J_region (by kernel_rfl) ?_
                  (try simp only [go_sem, Nat.reduceEqDiff, ↓reduceIte])
                  refine hold2 (then_n ?_)
                  refine J_ret (finI_ret ?_)
                  exact told_of ⟨(-1), Option.some.inj hP, sr [0]⟩
              · intro a170 hs
                subst hs
                have hP := hQ170
                clear hQ170
                (try simp only [go_sem, Nat.reduceEqDiff, ↓reduceIte])
                refine hold2 (then_n ?_)
                refine J_ret (finI_ret ?_)
                exact told_of ⟨a170, Option.some.inj hP, sr [0]⟩
            · intro a172 hs
              subst hs
              have hP := hQ172
              clear hQ172
              (try simp only [go_sem, Nat.reduceEqDiff, ↓reduceIte])
              refine hold2 (then_n ?_)
              refine J_ret (finI_ret ?_)
              exact told_of ⟨(decide (0 ≤ a172)), Option.some.inj hP, sr [0]⟩
          · intro a174 hs
            subst hs
            have hP := hQ174
            clear hQ174
            (try simp only [go_sem, Nat.reduceEqDiff, ↓reduceIte])
            refine hold2 ?_
            exact join_n a174 (Option.some.inj hP) (so [0])
  · intro j176 hs
    subst hs
    have hP := hQ89
    clear hQ89
    refine J_condV rfl ?_
    (try simp only [go_sem, Nat.reduceEqDiff, ↓reduceIte])
    rcases ite_cases hP with ⟨hc, hP⟩ | ⟨hc, hP⟩
    · refine condV_t hc ?_
      refine J_seq ?_
      refine J_region (by kernel_rfl) ?_
      (try simp only [go_sem, Nat.reduceEqDiff, ↓reduceIte])
      refine hold2 (then_n ?_)
      refine J_ret (then_ret (fin_ret ?_))
      obtain rfl := Option.some.inj hP
      (try simp only [go_sem, Nat.reduceEqDiff, ↓reduceIte])
      exact fo []
    · refine condV_f hc ?_
      refine J_skip (then_n ?_)
      refine J_seq ?_
      refine J_regionq follows_mixed (by kernel_rfl) (by kernel_rfl) ?_
      (try simp only [go_sem, Nat.reduceEqDiff, ↓reduceIte])
      obtain ⟨r177, hr177, hP⟩ := bind_cases hP
      refine call_okq [.int .i64 p1.1] (num_Digits_ok hr177) ⟨argR_m false rfl, trivial⟩ rfl ?_
      (try simp only [go_sem, Nat.reduceEqDiff, ↓reduceIte])
      obtain ⟨_, hz178, hP⟩ := bind_cases hP
      refine chk_of (by first | exact szC_63 hz178 | (have q := szC_63 hz178; simp only [List.length_append, List.length_cons, List.length_nil] at q ⊢; omega)) ?_
      (try simp only [go_sem, Nat.reduceEqDiff, ↓reduceIte])
      obtain ⟨_, hz179, hP⟩ := bind_cases hP
      refine chk_of (by first | exact szC_63 hz179 | (have q := szC_63 hz179; simp only [List.length_append, List.length_cons, List.length_nil] at q ⊢; omega)) ?_
      (try simp only [go_sem, Nat.reduceEqDiff, ↓reduceIte])
      obtain ⟨_, hz180, hP⟩ := bind_cases hP
      refine chk_of (by first | exact szC_63 hz180 | (have q := szC_63 hz180; simp only [List.length_append, List.length_cons, List.length_nil] at q ⊢; omega)) ?_
      (try simp only [go_sem, Nat.reduceEqDiff, ↓reduceIte])
      obtain ⟨_, hz181, hP⟩ := bind_cases hP
      refine chk_of (by first | exact szC_63 hz181 | (have q := szC_63 hz181; simp only [List.length_append, List.length_cons, List.length_nil] at q ⊢; omega)) ?_
      (try simp only [go_sem, Nat.reduceEqDiff, ↓reduceIte])
      obtain ⟨r182, hr182, hP⟩ := bind_cases hP
      refine call_okq [.view 2 (List.map enc_api_Field p1.2.2)] (fields_Text_ok hr182) ⟨argR_m false rfl, trivial⟩ rfl ?_
      (try simp only [go_sem, Nat.reduceEqDiff, ↓reduceIte])
      obtain ⟨_, hz183, hP⟩ := bind_cases hP
      refine chk_of (by first | exact szC_63 hz183 | (have q := szC_63 hz183; simp only [List.length_append, List.length_cons, List.length_nil] at q ⊢; omega)) ?_
      (try simp only [go_sem, Nat.reduceEqDiff, ↓reduceIte])
      obtain ⟨_, hz184, hP⟩ := bind_cases hP
      refine chk_of (by first | exact szC_63 hz184 | (have q := szC_63 hz184; simp only [List.length_append, List.length_cons, List.length_nil] at q ⊢; omega)) ?_
      (try simp only [go_sem, Nat.reduceEqDiff, ↓reduceIte])
      obtain ⟨r185, hr185, hP⟩ := bind_cases hP
      refine call_okq [.str (((((([72, 84, 84, 80, 47, 49, 46, 49, 32] ++ r177) ++ [32]) ++ p1.2.1) ++ [13, 10]) ++ r182) ++ [13, 10])] (head_bounded_ok hr185) ⟨argR_m false rfl, trivial⟩ rfl ?_
      (try simp only [go_sem, Nat.reduceEqDiff, ↓reduceIte])
      refine hold2 (then_n ?_)
      refine J_ret (fin_ret ?_)
      obtain rfl := Option.some.inj hP
      (try simp only [go_sem, Nat.reduceEqDiff, ↓reduceIte])
      exact fo []
end Go.Proofs.YtbcmngnmfneeaaaGreatDoor
