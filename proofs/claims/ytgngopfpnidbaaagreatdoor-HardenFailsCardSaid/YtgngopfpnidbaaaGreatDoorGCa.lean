/- Functions of the program, and pure ones that go the same ways: that the program's return what these compute. -/
import Derived.Test.YtgngopfpnidbaaaGreatDoorGC
import Derived.Test.YtgngopfpnidbaaaGreatDoorAvJ
namespace Go.Proofs.YtgngopfpnidbaaaGreatDoor
open Go.Av
set_option linter.unusedVariables false
set_option linter.unusedSimpArgs false
/-- colander/head.ResponseText$1 -/
def head_ResponseText_1 (r1 : Int) : Option (Bool) :=
  if decide (r1 < 32) then
    if !decide (r1 = 9) then
      some true
    else
      some (decide (r1 = 127))
  else
    some (decide (r1 = 127))
set_option maxRecDepth 100000 in
set_option maxHeartbeats 40000000 in
theorem head_ResponseText_1_ok {r1 : Int} {r : Bool} (hP : head_ResponseText_1 r1 = some r) : CallOK Tryz.prog 95 [.int .i32 r1] (.bool r) [] := by
  unfold head_ResponseText_1 at hP
  refine co 13 [.tmp 2] Tryz.func95 ?_
  refine J_seq ?_
  refine J_region (by kernel_rfl) ?_
  (try simp only [go_sem, Nat.reduceEqDiff, reduceIte])
  refine hold2 (then_n ?_)
  refine J_seq ?_
  refine J_region (by kernel_rfl) ?_
  (try simp only [go_sem, Nat.reduceEqDiff, reduceIte])
  rcases ite_cases hP with ⟨hc, hP⟩ | ⟨hc, hP⟩
  · refine guard_is hc ?_
    (try simp only [go_sem, Nat.reduceEqDiff, reduceIte])
    rcases ite_cases hP with ⟨hc, hP⟩ | ⟨hc, hP⟩
    · refine guard_not hc ?_
      (try simp only [go_sem, Nat.reduceEqDiff, reduceIte])
      refine hold2 (then_n ?_)
      refine J_ret (fin_ret ?_)
      obtain rfl := Option.some.inj hP
      (try simp only [go_sem, Nat.reduceEqDiff, reduceIte])
      exact fo []
    · refine guard_is hc ?_
      (try simp only [go_sem, Nat.reduceEqDiff, reduceIte])
      refine hold2 (then_n ?_)
      refine J_ret (fin_ret ?_)
      obtain rfl := Option.some.inj hP
      (try simp only [go_sem, Nat.reduceEqDiff, reduceIte])
      exact fo []
  · refine guard_not hc ?_
    (try simp only [go_sem, Nat.reduceEqDiff, reduceIte])
    refine hold2 (then_n ?_)
    refine J_ret (fin_ret ?_)
    obtain rfl := Option.some.inj hP
    (try simp only [go_sem, Nat.reduceEqDiff, reduceIte])
    exact fo []
/-- colander/head.bounded -/
def head_bounded (s1 : List UInt8) : Option ((List UInt8)) :=
  if decide (2048 < (List.length s1 : Int)) then
    some []
  else
    some s1
set_option maxRecDepth 100000 in
set_option maxHeartbeats 40000000 in
theorem head_bounded_ok {s1 : List UInt8} {r : (List UInt8)} (hP : head_bounded s1 = some r) : CallOK Tryz.prog 71 [.str s1] (.str r) [] := by
  unfold head_bounded at hP
  refine co 7 [.tmp 2] Tryz.func71 ?_
  refine J_seq ?_
  refine J_region (by kernel_rfl) ?_
  (try simp only [go_sem, Nat.reduceEqDiff, reduceIte])
  refine hold2 (then_n ?_)
  refine J_seq ?_
  refine J_seq ?_
  refine J_region (by kernel_rfl) ?_
  (try simp only [go_sem, Nat.reduceEqDiff, reduceIte])
  refine hold2 (then_n ?_)
  refine J_condV rfl ?_
  (try simp only [go_sem, Nat.reduceEqDiff, reduceIte])
  rcases ite_cases hP with ⟨hc, hP⟩ | ⟨hc, hP⟩
  · refine condV_t hc ?_
    refine J_seq ?_
    refine J_region (by kernel_rfl) ?_
    (try simp only [go_sem, Nat.reduceEqDiff, reduceIte])
    refine hold2 (then_n ?_)
    refine J_ret (then_ret (fin_ret ?_))
    obtain rfl := Option.some.inj hP
    (try simp only [go_sem, Nat.reduceEqDiff, reduceIte])
    exact fo []
  · refine condV_f hc ?_
    refine J_skip (then_n ?_)
    refine J_seq ?_
    refine J_region (by kernel_rfl) ?_
    (try simp only [go_sem, Nat.reduceEqDiff, reduceIte])
    refine hold2 (then_n ?_)
    refine J_ret (fin_ret ?_)
    obtain rfl := Option.some.inj hP
    (try simp only [go_sem, Nat.reduceEqDiff, reduceIte])
    exact fo []
/-- colander/head.ResponseText -/
def strings_indexFunc_L166 (p1 : Int × (List UInt8) × (List ((List UInt8) × (List UInt8)))) : Nat → Nat → Option (Sum (Int) (Unit))
  | 0, _ => none
  | k165 + 1, l164 =>
    if decide (l164 < List.length p1.2.1) then
      (head_ResponseText_1 (((decR p1.2.1 l164).1 : Nat) : Int)).bind fun r167 =>
      if r167 == true then
        some (Sum.inl ((l164 : Nat) : Int))
      else
        strings_indexFunc_L166 p1 k165 (l164 + (decR p1.2.1 l164).2)
    else
      some (Sum.inr ())
def head_ResponseText (p1 : Int × (List UInt8) × (List ((List UInt8) × (List UInt8)))) : Option ((List UInt8)) :=
  (fields_Right p1.2.2).bind fun r2 =>
  (show Option (Bool) from
    if !decide (r2.2 = 0) then
      some true
    else
      if decide (p1.1 < 200) then
        some true
      else
        if decide (599 < p1.1) then
          some true
        else
          (show Option (Bool) from
            (show Option (Int) from
              (show Option (Int) from
                (strings_indexFunc_L166 p1 1099511627776 0).bind fun o168 => match o168 with
                | Sum.inl r => some r
                | Sum.inr j169 =>
                  some (-1)).bind fun a170 =>
                some a170).bind fun a172 =>
              some (decide (0 ≤ a172))).bind fun a174 =>
            some a174).bind fun j176 =>
    if j176 then
      some []
    else
      (num_Digits p1.1).bind fun r177 =>
      (szC (List.length ([72, 84, 84, 80, 47, 49, 46, 49, 32] ++ r177))).bind fun _ =>
      (szC (List.length (([72, 84, 84, 80, 47, 49, 46, 49, 32] ++ r177) ++ [32]))).bind fun _ =>
      (szC (List.length ((([72, 84, 84, 80, 47, 49, 46, 49, 32] ++ r177) ++ [32]) ++ p1.2.1))).bind fun _ =>
      (szC (List.length (((([72, 84, 84, 80, 47, 49, 46, 49, 32] ++ r177) ++ [32]) ++ p1.2.1) ++ [13, 10]))).bind fun _ =>
      (fields_Text p1.2.2).bind fun r182 =>
      (szC (List.length ((((([72, 84, 84, 80, 47, 49, 46, 49, 32] ++ r177) ++ [32]) ++ p1.2.1) ++ [13, 10]) ++ r182))).bind fun _ =>
      (szC (List.length (((((([72, 84, 84, 80, 47, 49, 46, 49, 32] ++ r177) ++ [32]) ++ p1.2.1) ++ [13, 10]) ++ r182) ++ [13, 10]))).bind fun _ =>
      (head_bounded (((((([72, 84, 84, 80, 47, 49, 46, 49, 32] ++ r177) ++ [32]) ++ p1.2.1) ++ [13, 10]) ++ r182) ++ [13, 10])).bind fun r185 =>
      some r185
set_option maxRecDepth 100000 in
set_option maxHeartbeats 40000000 in
theorem head_ResponseText_ok {p1 : Int × (List UInt8) × (List ((List UInt8) × (List UInt8)))} {r : (List UInt8)} (hP : head_ResponseText p1 = some r) : CallOK Tryz.prog 54 [.agg [.int .i64 p1.1, .str p1.2.1, .view 2 (List.map enc_api_Field p1.2.2)]] (.str r) [] := by
  unfold head_ResponseText at hP
  refine co 45 [.tmp 2] Tryz.func54 ?_
  refine J_seq ?_
  refine J_region (by kernel_rfl) ?_
  (try simp only [go_sem, Nat.reduceEqDiff, reduceIte])
  refine hold2 (then_n ?_)
  refine J_seq ?_
  refine J_region (by kernel_rfl) ?_
  (try simp only [go_sem, Nat.reduceEqDiff, reduceIte])
  refine hold2 (then_n ?_)
  refine J_seq ?_
  refine J_seq ?_
  refine J_region (by kernel_rfl) ?_
  (try simp only [go_sem, Nat.reduceEqDiff, reduceIte])
  obtain ⟨r2, hr2, hP⟩ := bind_cases hP
  refine call_ok [.view 2 (List.map enc_api_Field p1.2.2)] (fields_Right_ok hr2) ⟨argR_m false rfl, trivial⟩ ?_
  (try simp only [go_sem, Nat.reduceEqDiff, reduceIte])
  refine hold2 (then_n ?_)
  obtain ⟨o89, hP, hQ89⟩ := bind_cases hP
  refine J_join (fun (s : Bool) => envL [(1, .bptr 0 0), (29, .bool s)]) (fun (s : Bool) => [.box 24 [.int .i64 p1.1, .str p1.2.1, .view 2 (List.map enc_api_Field p1.2.2)]]) (fun s => s = o89) ?_ ?_
  · clear hQ89
    refine J_region (by kernel_rfl) ?_
    (try simp only [go_sem, Nat.reduceEqDiff, reduceIte])
    rcases ite_cases hP with ⟨hc, hP⟩ | ⟨hc, hP⟩
    · refine guard_not hc ?_
      (try simp only [go_sem, Nat.reduceEqDiff, reduceIte])
      refine hold2 ?_
      exact join_n true (Option.some.inj hP) (so [0])
    · refine guard_is hc ?_
      (try simp only [go_sem, Nat.reduceEqDiff, reduceIte])
      rcases ite_cases hP with ⟨hc, hP⟩ | ⟨hc, hP⟩
      · refine guard_not hc ?_
        (try simp only [go_sem, Nat.reduceEqDiff, reduceIte])
        refine hold2 ?_
        exact join_n true (Option.some.inj hP) (so [0])
      · refine guard_is hc ?_
        (try simp only [go_sem, Nat.reduceEqDiff, reduceIte])
        rcases ite_cases hP with ⟨hc, hP⟩ | ⟨hc, hP⟩
        · refine guard_not hc ?_
          (try simp only [go_sem, Nat.reduceEqDiff, reduceIte])
          refine hold2 ?_
          exact join_n true (Option.some.inj hP) (so [0])
        · refine guard_is hc ?_
          (try simp only [go_sem, Nat.reduceEqDiff, reduceIte])
          obtain ⟨o175, hP, hQ174⟩ := bind_cases hP
          refine call_join (fun (s : Bool) => .bool s) (fun (s : Bool) => envL [(1, .bptr 0 0), (24, .bool false)]) (fun (s : Bool) => [.box 24 [.int .i64 p1.1, .str p1.2.1, .view 2 (List.map enc_api_Field p1.2.2)]]) (fun s => s = o175) (callI_of (n := 9) (rs := [.tmp 4]) Tryz.func96 rfl (by decide) rfl rfl (by simp) rfl ?_) ?_
          · clear hQ174
            refine J_seq ?_
            refine J_region (by kernel_rfl) ?_
            (try simp only [go_sem, Nat.reduceEqDiff, reduceIte])
            refine hold2 (then_n ?_)
            refine J_seq ?_
            refine J_region (by kernel_rfl) ?_
            (try simp only [go_sem, Nat.reduceEqDiff, reduceIte])
            obtain ⟨o173, hP, hQ172⟩ := bind_cases hP
            refine call_join (fun (s : Int) => .int .i64 s) (fun (s : Int) => envL [(4, .bool false), (10, .bptr 0 0), (33, .bool false)]) (fun (s : Int) => [.box 24 [.int .i64 p1.1, .str p1.2.1, .view 2 (List.map enc_api_Field p1.2.2)]]) (fun s => s = o173) (callI_of (n := 8) (rs := [.tmp 4]) Tryz.func126 rfl (by decide) rfl rfl (by simp) rfl ?_) ?_
            · clear hQ172
              refine J_seq ?_
              refine J_region (by kernel_rfl) ?_
              (try simp only [go_sem, Nat.reduceEqDiff, reduceIte])
              refine hold2 (then_n ?_)
              refine J_seq ?_
              refine J_region (by kernel_rfl) ?_
              (try simp only [go_sem, Nat.reduceEqDiff, reduceIte])
              obtain ⟨o171, hP, hQ170⟩ := bind_cases hP
              refine call_join (fun (s : Int) => .int .i64 s) (fun (s : Int) => envL [(4, .int .i64 0), (12, .bool false), (18, .bptr 0 0), (41, .bool false)]) (fun (s : Int) => [.box 24 [.int .i64 p1.1, .str p1.2.1, .view 2 (List.map enc_api_Field p1.2.2)]]) (fun s => s = o171) (callI_of (n := 21) (rs := [.tmp 6]) Tryz.func147 rfl (by decide) rfl rfl (by simp) rfl ?_) ?_
              · clear hQ170
                refine J_seq ?_
                refine J_region (by kernel_rfl) ?_
                (try simp only [go_sem, Nat.reduceEqDiff, reduceIte])
                refine hold2 (then_n ?_)
                refine J_seq ?_
                refine J_seq ?_
                refine J_region (by kernel_rfl) ?_
                (try simp only [go_sem, Nat.reduceEqDiff, reduceIte])
                refine hold2 (then_n ?_)
                obtain ⟨o168, hP, hQ166⟩ := bind_cases hP
                refine J_joinK (fun (s : Unit) => envL [(25, .int .i64 0), (33, .bool false), (39, .bptr 0 0), (62, .bool false)]) (fun (s : Unit) => [.box 24 [.int .i64 p1.1, .str p1.2.1, .view 2 (List.map enc_api_Field p1.2.2)]]) (fun s => Sum.inr s = o168) (by repeat (first | exact subC_then | refine subC_block ?_)) ?_ ?_
                · refine J_block ?_
                  refine J_loop (σ := Nat × Nat) (fun (s : Nat × Nat) => envL [(1, .fn 95 []), (2, .bool true), (10, .bptr 0 0), (25, .int .i64 0), (33, .bool false), (39, .bptr 1 0), (62, .bool false)]) (fun (s : Nat × Nat) => [.iter p1.2.1 s.2, .box 24 [.int .i64 p1.1, .str p1.2.1, .view 2 (List.map enc_api_Field p1.2.2)]]) (fun s => strings_indexFunc_L166 p1 s.1 s.2 = some o168) (fun s => s.1) (1099511627776, 0) hP (so [1, 0]) ?_
                  rintro ⟨k165, l164⟩ hP
                  dsimp only at hP ⊢
                  cases k165 with
                  | zero => simp [strings_indexFunc_L166] at hP
                  | succ k165 =>
                    simp only [strings_indexFunc_L166] at hP
                    refine J_seq ?_
                    refine J_region (by kernel_rfl) ?_
                    (try simp only [go_sem, Nat.reduceEqDiff, reduceIte])
                    rcases ite_cases hP with ⟨hc, hP⟩ | ⟨hc, hP⟩
                    · refine guard_is hc ?_
                      (try simp only [go_sem, Nat.reduceEqDiff, reduceIte])
                      refine hold2 (then_n ?_)
                      refine J_seq ?_
                      refine J_condV rfl ?_
                      (try simp only [go_sem, Nat.reduceEqDiff, reduceIte])
                      refine J_skip (then_n ?_)
                      refine J_block ?_
                      refine J_seq ?_
                      refine J_region (by kernel_rfl) ?_
                      (try simp only [go_sem, Nat.reduceEqDiff, reduceIte])
                      refine hold2 (then_n ?_)
                      refine J_seq ?_
                      refine J_region (by kernel_rfl) ?_
                      (try simp only [go_sem, Nat.reduceEqDiff, reduceIte])
                      obtain ⟨r167, hr167, hP⟩ := bind_cases hP
                      refine call_ok [.int .i32 (((decR p1.2.1 l164).1 : Nat) : Int)] (head_ResponseText_1_ok hr167) ⟨argR_m false rfl, trivial⟩ ?_
                      (try simp only [go_sem, Nat.reduceEqDiff, reduceIte])
                      refine hold2 (then_n ?_)
                      refine J_condV rfl ?_
                      (try simp only [go_sem, Nat.reduceEqDiff, reduceIte])
                      rcases ite_cases hP with ⟨hc, hP⟩ | ⟨hc, hP⟩
                      · refine condV_t hc ?_
                        refine J_seq ?_
                        refine J_region (by kernel_rfl) ?_
                        (try simp only [go_sem, Nat.reduceEqDiff, reduceIte])
                        refine hold2 (then_n ?_)
                        refine J_ret (block_ret (loop_ret (block_ret (join_ret (then_ret (finI_ret ?_))))))
                        obtain rfl := Option.some.inj hP
                        have hP := hQ166
                        dsimp only at hP
                        exact told_of ⟨((l164 : Nat) : Int), Option.some.inj hP, sr [1]⟩
                      · refine condV_f hc ?_
                        refine J_skip (block_n ?_)
                        exact loop_n (k165, l164 + (decR p1.2.1 l164).2) hP (Nat.lt_succ_self _) (so [0, 1])
                    · refine guard_not hc ?_
                      (try simp only [go_sem, Nat.reduceEqDiff, reduceIte])
                      refine hold2 (then_n ?_)
                      refine J_seq ?_
                      refine J_condV rfl ?_
                      (try simp only [go_sem, Nat.reduceEqDiff, reduceIte])
                      refine J_exit (then_exit (loop_exit (block_eq ?_)))
                      exact join_n () (Option.some.inj hP) (so [1])
                · intro j169 hs
                  subst hs
                  have hP := hQ166
                  dsimp only at hP
                  clear hQ166
                  refine then_n ?_
                  refine J_seq ?_
                  refine J_region (by kernel_rfl) ?_
                  (try simp only [go_sem, Nat.reduceEqDiff, reduceIte])
                  refine hold2 (then_n ?_)
                  refine J_ret (finI_ret ?_)
                  exact told_of ⟨(-1), Option.some.inj hP, sr [0]⟩
              · intro a170 hs
                subst hs
                have hP := hQ170
                clear hQ170
                (try simp only [go_sem, Nat.reduceEqDiff, reduceIte])
                refine hold2 (then_n ?_)
                refine J_ret (finI_ret ?_)
                exact told_of ⟨a170, Option.some.inj hP, sr [0]⟩
            · intro a172 hs
              subst hs
              have hP := hQ172
              clear hQ172
              (try simp only [go_sem, Nat.reduceEqDiff, reduceIte])
              refine hold2 (then_n ?_)
              refine J_ret (finI_ret ?_)
              exact told_of ⟨(decide (0 ≤ a172)), Option.some.inj hP, sr [0]⟩
          · intro a174 hs
            subst hs
            have hP := hQ174
            clear hQ174
            (try simp only [go_sem, Nat.reduceEqDiff, reduceIte])
            refine hold2 ?_
            exact join_n a174 (Option.some.inj hP) (so [0])
  · intro j176 hs
    subst hs
    have hP := hQ89
    clear hQ89
    refine J_condV rfl ?_
    (try simp only [go_sem, Nat.reduceEqDiff, reduceIte])
    rcases ite_cases hP with ⟨hc, hP⟩ | ⟨hc, hP⟩
    · refine condV_t hc ?_
      refine J_seq ?_
      refine J_region (by kernel_rfl) ?_
      (try simp only [go_sem, Nat.reduceEqDiff, reduceIte])
      refine hold2 (then_n ?_)
      refine J_ret (then_ret (fin_ret ?_))
      obtain rfl := Option.some.inj hP
      (try simp only [go_sem, Nat.reduceEqDiff, reduceIte])
      exact fo []
    · refine condV_f hc ?_
      refine J_skip (then_n ?_)
      refine J_seq ?_
      refine J_regionq follows_mixed (by kernel_rfl) (by kernel_rfl) ?_
      (try simp only [go_sem, Nat.reduceEqDiff, reduceIte])
      obtain ⟨r177, hr177, hP⟩ := bind_cases hP
      refine call_okq [.int .i64 p1.1] (num_Digits_ok hr177) ⟨argR_m false rfl, trivial⟩ rfl ?_
      (try simp only [go_sem, Nat.reduceEqDiff, reduceIte])
      obtain ⟨_, hz178, hP⟩ := bind_cases hP
      refine chk_of (by first | exact szC_63 hz178 | (have q := szC_63 hz178; simp only [List.length_append, List.length_cons, List.length_nil] at q ⊢; omega)) ?_
      (try simp only [go_sem, Nat.reduceEqDiff, reduceIte])
      obtain ⟨_, hz179, hP⟩ := bind_cases hP
      refine chk_of (by first | exact szC_63 hz179 | (have q := szC_63 hz179; simp only [List.length_append, List.length_cons, List.length_nil] at q ⊢; omega)) ?_
      (try simp only [go_sem, Nat.reduceEqDiff, reduceIte])
      obtain ⟨_, hz180, hP⟩ := bind_cases hP
      refine chk_of (by first | exact szC_63 hz180 | (have q := szC_63 hz180; simp only [List.length_append, List.length_cons, List.length_nil] at q ⊢; omega)) ?_
      (try simp only [go_sem, Nat.reduceEqDiff, reduceIte])
      obtain ⟨_, hz181, hP⟩ := bind_cases hP
      refine chk_of (by first | exact szC_63 hz181 | (have q := szC_63 hz181; simp only [List.length_append, List.length_cons, List.length_nil] at q ⊢; omega)) ?_
      (try simp only [go_sem, Nat.reduceEqDiff, reduceIte])
      obtain ⟨r182, hr182, hP⟩ := bind_cases hP
      refine call_okq [.view 2 (List.map enc_api_Field p1.2.2)] (fields_Text_ok hr182) ⟨argR_m false rfl, trivial⟩ rfl ?_
      (try simp only [go_sem, Nat.reduceEqDiff, reduceIte])
      obtain ⟨_, hz183, hP⟩ := bind_cases hP
      refine chk_of (by first | exact szC_63 hz183 | (have q := szC_63 hz183; simp only [List.length_append, List.length_cons, List.length_nil] at q ⊢; omega)) ?_
      (try simp only [go_sem, Nat.reduceEqDiff, reduceIte])
      obtain ⟨_, hz184, hP⟩ := bind_cases hP
      refine chk_of (by first | exact szC_63 hz184 | (have q := szC_63 hz184; simp only [List.length_append, List.length_cons, List.length_nil] at q ⊢; omega)) ?_
      (try simp only [go_sem, Nat.reduceEqDiff, reduceIte])
      obtain ⟨r185, hr185, hP⟩ := bind_cases hP
      refine call_okq [.str (((((([72, 84, 84, 80, 47, 49, 46, 49, 32] ++ r177) ++ [32]) ++ p1.2.1) ++ [13, 10]) ++ r182) ++ [13, 10])] (head_bounded_ok hr185) ⟨argR_m false rfl, trivial⟩ rfl ?_
      (try simp only [go_sem, Nat.reduceEqDiff, reduceIte])
      refine hold2 (then_n ?_)
      refine J_ret (fin_ret ?_)
      obtain rfl := Option.some.inj hP
      (try simp only [go_sem, Nat.reduceEqDiff, reduceIte])
      exact fo []
end Go.Proofs.YtgngopfpnidbaaaGreatDoor
