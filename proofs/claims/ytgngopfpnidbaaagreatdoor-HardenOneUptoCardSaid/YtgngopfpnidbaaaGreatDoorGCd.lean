/- Functions of the program, and pure ones that go the same ways: that the program's return what these compute. -/
import Derived.Test.YtgngopfpnidbaaaGreatDoorGCa
import Derived.Test.YtgngopfpnidbaaaGreatDoorAvJ
namespace Go.Proofs.YtgngopfpnidbaaaGreatDoor
open Go.Av
set_option linter.unusedVariables false
set_option linter.unusedSimpArgs false
/-- colander/head.method -/
def head_method (s1 : List UInt8) : Option (Bool) :=
  (lex_Token s1).bind fun r2 =>
  if r2 then
    if decide ((List.length s1 : Int) ≤ 16) then
      if !decide (s1 = [67, 79, 78, 78, 69, 67, 84]) then
        some (!decide (s1 = [84, 82, 65, 67, 69]))
      else
        some false
    else
      some false
  else
    some false
set_option maxRecDepth 100000 in
set_option maxHeartbeats 40000000 in
theorem head_method_ok {s1 : List UInt8} {r : Bool} (hP : head_method s1 = some r) : CallOK Tryz.prog 68 [.str s1] (.bool r) [] := by
  unfold head_method at hP
  refine co 18 [.tmp 2] Tryz.func68 ?_
  refine J_seq ?_
  refine J_region (by kernel_rfl) ?_
  (try simp only [go_sem, Nat.reduceEqDiff, reduceIte])
  refine hold2 (then_n ?_)
  refine J_seq ?_
  refine J_region (by kernel_rfl) ?_
  (try simp only [go_sem, Nat.reduceEqDiff, reduceIte])
  obtain ⟨r2, hr2, hP⟩ := bind_cases hP
  refine call_ok [.str s1] (lex_Token_ok hr2) ⟨argR_m false rfl, trivial⟩ ?_
  (try simp only [go_sem, Nat.reduceEqDiff, reduceIte])
  rcases ite_cases hP with ⟨hc, hP⟩ | ⟨hc, hP⟩
  · refine guard_is hc ?_
    (try simp only [go_sem, Nat.reduceEqDiff, reduceIte])
    rcases ite_cases hP with ⟨hc, hP⟩ | ⟨hc, hP⟩
    · refine guard_is hc ?_
      (try simp only [go_sem, Nat.reduceEqDiff, reduceIte])
      rcases ite_cases hP with ⟨hc, hP⟩ | ⟨hc, hP⟩
      · refine guard_is hc ?_
        (try simp only [go_sem, Nat.reduceEqDiff, reduceIte])
        refine hold2 (then_n ?_)
        refine J_ret (fin_ret ?_)
        obtain rfl := Option.some.inj hP
        (try simp only [go_sem, Nat.reduceEqDiff, reduceIte])
        exact fo []
      · refine guard_not hc ?_
        (try simp only [go_sem, Nat.reduceEqDiff, reduceIte])
        refine hold2 (then_n ?_)
        refine J_ret (fin_ret ?_)
        obtain rfl := Option.some.inj hP
        (try simp only [go_sem, Nat.reduceEqDiff, reduceIte])
        exact fo []
    · refine guard_not hc ?_
      (try simp only [go_sem, Nat.reduceEqDiff, reduceIte])
      refine hold2 (then_n ?_)
      refine J_ret (fin_ret ?_)
      obtain rfl := Option.some.inj hP
      (try simp only [go_sem, Nat.reduceEqDiff, reduceIte])
      exact fo []
  · refine guard_not hc ?_
    (try simp only [go_sem, Nat.reduceEqDiff, reduceIte])
    refine hold2 (then_n ?_)
    refine J_ret (fin_ret ?_)
    obtain rfl := Option.some.inj hP
    (try simp only [go_sem, Nat.reduceEqDiff, reduceIte])
    exact fo []
/-- colander/head.target$1 -/
def head_target_1 (r1 : Int) : Option (Bool) :=
  if decide (r1 < 33) then
    some true
  else
    if decide (126 < r1) then
      some true
    else
      some (decide (r1 = 35))
set_option maxRecDepth 100000 in
set_option maxHeartbeats 40000000 in
theorem head_target_1_ok {r1 : Int} {r : Bool} (hP : head_target_1 r1 = some r) : CallOK Tryz.prog 106 [.int .i32 r1] (.bool r) [] := by
  unfold head_target_1 at hP
  refine co 13 [.tmp 2] Tryz.func106 ?_
  refine J_seq ?_
  refine J_region (by kernel_rfl) ?_
  (try simp only [go_sem, Nat.reduceEqDiff, reduceIte])
  refine hold2 (then_n ?_)
  refine J_seq ?_
  refine J_region (by kernel_rfl) ?_
  (try simp only [go_sem, Nat.reduceEqDiff, reduceIte])
  rcases ite_cases hP with ⟨hc, hP⟩ | ⟨hc, hP⟩
  · refine guard_not hc ?_
    (try simp only [go_sem, Nat.reduceEqDiff, reduceIte])
    refine hold2 (then_n ?_)
    refine J_ret (fin_ret ?_)
    obtain rfl := Option.some.inj hP
    (try simp only [go_sem, Nat.reduceEqDiff, reduceIte])
    exact fo []
  · refine guard_is hc ?_
    (try simp only [go_sem, Nat.reduceEqDiff, reduceIte])
    rcases ite_cases hP with ⟨hc, hP⟩ | ⟨hc, hP⟩
    · refine guard_not hc ?_
      (try simp only [go_sem, Nat.reduceEqDiff, reduceIte])
      refine hold2 (then_n ?_)
      refine J_ret (fin_ret ?_)
      obtain rfl := Option.some.inj hP
      (try simp only [go_sem, Nat.reduceEqDiff, reduceIte])
      exact fo []
    · refine guard_is hc ?_
      (try simp only [go_sem, Nat.reduceEqDiff, reduceIte])
      refine hold2 (then_n ?_)
      refine J_ret (fin_ret ?_)
      obtain rfl := Option.some.inj hP
      (try simp only [go_sem, Nat.reduceEqDiff, reduceIte])
      exact fo []
/-- colander/head.target -/
def head_target_strings_indexFunc_L79 (s1 : List UInt8) : Nat → Nat → Option (Sum (Int) (Unit))
  | 0, _ => none
  | k78 + 1, l77 =>
    if decide (l77 < List.length s1) then
      (head_target_1 (((decR s1 l77).1 : Nat) : Int)).bind fun r80 =>
      if r80 == true then
        some (Sum.inl ((l77 : Nat) : Int))
      else
        head_target_strings_indexFunc_L79 s1 k78 (l77 + (decR s1 l77).2)
    else
      some (Sum.inr ())
def head_target (s1 : List UInt8) : Option (Bool) :=
  (strings_HasPrefix s1 [47]).bind fun r2 =>
  if r2 then
    (show Option (Bool) from
      (show Option (Int) from
        (show Option (Int) from
          (head_target_strings_indexFunc_L79 s1 1099511627776 0).bind fun o81 => match o81 with
          | Sum.inl r => some r
          | Sum.inr j82 =>
            some (-1)).bind fun a83 =>
          some a83).bind fun a85 =>
        some (decide (0 ≤ a85))).bind fun a87 =>
      some (!a87)
  else
    some false
set_option maxRecDepth 100000 in
set_option maxHeartbeats 40000000 in
theorem head_target_ok {s1 : List UInt8} {r : Bool} (hP : head_target s1 = some r) : CallOK Tryz.prog 69 [.str s1] (.bool r) [] := by
  unfold head_target at hP
  refine co 10 [.tmp 2] Tryz.func69 ?_
  refine J_seq ?_
  refine J_region (by kernel_rfl) ?_
  (try simp only [go_sem, Nat.reduceEqDiff, reduceIte])
  refine hold2 (then_n ?_)
  refine J_seq ?_
  refine J_region (by kernel_rfl) ?_
  (try simp only [go_sem, Nat.reduceEqDiff, reduceIte])
  obtain ⟨r2, hr2, hP⟩ := bind_cases hP
  refine call_ok [.str s1, .str [47]] (strings_HasPrefix_ok hr2) ⟨argR_m false rfl, argR_m false rfl, trivial⟩ ?_
  (try simp only [go_sem, Nat.reduceEqDiff, reduceIte])
  rcases ite_cases hP with ⟨hc, hP⟩ | ⟨hc, hP⟩
  · refine guard_is hc ?_
    (try simp only [go_sem, Nat.reduceEqDiff, reduceIte])
    obtain ⟨o88, hP, hQ87⟩ := bind_cases hP
    refine call_join (fun (s : Bool) => .bool s) (fun (s : Bool) => envL [(2, .bool false), (5, .bool true)]) (fun (s : Bool) => []) (fun s => s = o88) (callI_of (n := 9) (rs := [.tmp 4]) Tryz.func96 rfl (by decide) rfl rfl (by simp) rfl ?_) ?_
    · clear hQ87
      refine J_seq ?_
      refine J_region (by kernel_rfl) ?_
      (try simp only [go_sem, Nat.reduceEqDiff, reduceIte])
      refine hold2 (then_n ?_)
      refine J_seq ?_
      refine J_region (by kernel_rfl) ?_
      (try simp only [go_sem, Nat.reduceEqDiff, reduceIte])
      obtain ⟨o86, hP, hQ85⟩ := bind_cases hP
      refine call_join (fun (s : Int) => .int .i64 s) (fun (s : Int) => envL [(4, .bool false), (11, .bool false), (14, .bool true)]) (fun (s : Int) => []) (fun s => s = o86) (callI_of (n := 8) (rs := [.tmp 4]) Tryz.func126 rfl (by decide) rfl rfl (by simp) rfl ?_) ?_
      · clear hQ85
        refine J_seq ?_
        refine J_region (by kernel_rfl) ?_
        (try simp only [go_sem, Nat.reduceEqDiff, reduceIte])
        refine hold2 (then_n ?_)
        refine J_seq ?_
        refine J_region (by kernel_rfl) ?_
        (try simp only [go_sem, Nat.reduceEqDiff, reduceIte])
        obtain ⟨o84, hP, hQ83⟩ := bind_cases hP
        refine call_join (fun (s : Int) => .int .i64 s) (fun (s : Int) => envL [(4, .int .i64 0), (12, .bool false), (19, .bool false), (22, .bool true)]) (fun (s : Int) => []) (fun s => s = o84) (callI_of (n := 21) (rs := [.tmp 6]) Tryz.func147 rfl (by decide) rfl rfl (by simp) rfl ?_) ?_
        · clear hQ83
          refine J_seq ?_
          refine J_region (by kernel_rfl) ?_
          (try simp only [go_sem, Nat.reduceEqDiff, reduceIte])
          refine hold2 (then_n ?_)
          refine J_seq ?_
          refine J_seq ?_
          refine J_region (by kernel_rfl) ?_
          (try simp only [go_sem, Nat.reduceEqDiff, reduceIte])
          refine hold2 (then_n ?_)
          obtain ⟨o81, hP, hQ79⟩ := bind_cases hP
          refine J_joinK (fun (s : Unit) => envL [(25, .int .i64 0), (33, .bool false), (40, .bool false), (43, .bool true)]) (fun (s : Unit) => []) (fun s => Sum.inr s = o81) (by repeat (first | exact subC_then | refine subC_block ?_)) ?_ ?_
          · refine J_block ?_
            refine J_loop (σ := Nat × Nat) (fun (s : Nat × Nat) => envL [(1, .fn 106 []), (2, .bool true), (10, .bptr 0 0), (25, .int .i64 0), (33, .bool false), (40, .bool false), (43, .bool true)]) (fun (s : Nat × Nat) => [.iter s1 s.2]) (fun s => head_target_strings_indexFunc_L79 s1 s.1 s.2 = some o81) (fun s => s.1) (1099511627776, 0) hP (so [0]) ?_
            rintro ⟨k78, l77⟩ hP
            dsimp only at hP ⊢
            cases k78 with
            | zero => simp [head_target_strings_indexFunc_L79] at hP
            | succ k78 =>
              simp only [head_target_strings_indexFunc_L79] at hP
              refine J_seq ?_
              refine J_region (by kernel_rfl) ?_
              (try simp only [go_sem, Nat.reduceEqDiff, reduceIte])
              rcases ite_cases hP with ⟨hc, hP⟩ | ⟨hc, hP⟩
              · refine guard_is hc ?_
                (try simp only [go_sem, Nat.reduceEqDiff, reduceIte])
                refine hold2 (then_n ?_)
                refine J_seq ?_
                refine J_condV rfl ?_
                (try simp only [go_sem, Nat.reduceEqDiff, reduceIte])
                refine J_skip (then_n ?_)
                refine J_block ?_
                refine J_seq ?_
                refine J_region (by kernel_rfl) ?_
                (try simp only [go_sem, Nat.reduceEqDiff, reduceIte])
                refine hold2 (then_n ?_)
                refine J_seq ?_
                refine J_region (by kernel_rfl) ?_
                (try simp only [go_sem, Nat.reduceEqDiff, reduceIte])
                obtain ⟨r80, hr80, hP⟩ := bind_cases hP
                refine call_ok [.int .i32 (((decR s1 l77).1 : Nat) : Int)] (head_target_1_ok hr80) ⟨argR_m false rfl, trivial⟩ ?_
                (try simp only [go_sem, Nat.reduceEqDiff, reduceIte])
                refine hold2 (then_n ?_)
                refine J_condV rfl ?_
                (try simp only [go_sem, Nat.reduceEqDiff, reduceIte])
                rcases ite_cases hP with ⟨hc, hP⟩ | ⟨hc, hP⟩
                · refine condV_t hc ?_
                  refine J_seq ?_
                  refine J_region (by kernel_rfl) ?_
                  (try simp only [go_sem, Nat.reduceEqDiff, reduceIte])
                  refine hold2 (then_n ?_)
                  refine J_ret (block_ret (loop_ret (block_ret (join_ret (then_ret (finI_ret ?_))))))
                  obtain rfl := Option.some.inj hP
                  have hP := hQ79
                  dsimp only at hP
                  exact told_of ⟨((l77 : Nat) : Int), Option.some.inj hP, sr []⟩
                · refine condV_f hc ?_
                  refine J_skip (block_n ?_)
                  exact loop_n (k78, l77 + (decR s1 l77).2) hP (Nat.lt_succ_self _) (so [0])
              · refine guard_not hc ?_
                (try simp only [go_sem, Nat.reduceEqDiff, reduceIte])
                refine hold2 (then_n ?_)
                refine J_seq ?_
                refine J_condV rfl ?_
                (try simp only [go_sem, Nat.reduceEqDiff, reduceIte])
                refine J_exit (then_exit (loop_exit (block_eq ?_)))
                exact join_n () (Option.some.inj hP) (so [])
          · intro j82 hs
            subst hs
            have hP := hQ79
            dsimp only at hP
            clear hQ79
            refine then_n ?_
            refine J_seq ?_
            refine J_region (by kernel_rfl) ?_
            (try simp only [go_sem, Nat.reduceEqDiff, reduceIte])
            refine hold2 (then_n ?_)
            refine J_ret (finI_ret ?_)
            exact told_of ⟨(-1), Option.some.inj hP, sr []⟩
        · intro a83 hs
          subst hs
          have hP := hQ83
          clear hQ83
          (try simp only [go_sem, Nat.reduceEqDiff, reduceIte])
          refine hold2 (then_n ?_)
          refine J_ret (finI_ret ?_)
          exact told_of ⟨a83, Option.some.inj hP, sr []⟩
      · intro a85 hs
        subst hs
        have hP := hQ85
        clear hQ85
        (try simp only [go_sem, Nat.reduceEqDiff, reduceIte])
        refine hold2 (then_n ?_)
        refine J_ret (finI_ret ?_)
        exact told_of ⟨(decide (0 ≤ a85)), Option.some.inj hP, sr []⟩
    · intro a87 hs
      subst hs
      have hP := hQ87
      clear hQ87
      (try simp only [go_sem, Nat.reduceEqDiff, reduceIte])
      refine hold2 (then_n ?_)
      refine J_ret (fin_ret ?_)
      obtain rfl := Option.some.inj hP
      (try simp only [go_sem, Nat.reduceEqDiff, reduceIte])
      exact fo []
  · refine guard_not hc ?_
    (try simp only [go_sem, Nat.reduceEqDiff, reduceIte])
    refine hold2 (then_n ?_)
    refine J_ret (fin_ret ?_)
    obtain rfl := Option.some.inj hP
    (try simp only [go_sem, Nat.reduceEqDiff, reduceIte])
    exact fo []
/-- colander/head.host$1 -/
def head_host_1 (r1 : Int) : Option (Bool) :=
  if decide (48 ≤ r1) then
    some (decide (r1 ≤ 57))
  else
    some false
set_option maxRecDepth 100000 in
set_option maxHeartbeats 40000000 in
theorem head_host_1_ok {r1 : Int} {r : Bool} (hP : head_host_1 r1 = some r) : CallOK Tryz.prog 107 [.int .i32 r1] (.bool r) [] := by
  unfold head_host_1 at hP
  refine co 9 [.tmp 2] Tryz.func107 ?_
  refine J_seq ?_
  refine J_region (by kernel_rfl) ?_
  (try simp only [go_sem, Nat.reduceEqDiff, reduceIte])
  refine hold2 (then_n ?_)
  refine J_seq ?_
  refine J_region (by kernel_rfl) ?_
  (try simp only [go_sem, Nat.reduceEqDiff, reduceIte])
  rcases ite_cases hP with ⟨hc, hP⟩ | ⟨hc, hP⟩
  · refine guard_is hc ?_
    (try simp only [go_sem, Nat.reduceEqDiff, reduceIte])
    refine hold2 (then_n ?_)
    refine J_ret (fin_ret ?_)
    obtain rfl := Option.some.inj hP
    (try simp only [go_sem, Nat.reduceEqDiff, reduceIte])
    exact fo []
  · refine guard_not hc ?_
    (try simp only [go_sem, Nat.reduceEqDiff, reduceIte])
    refine hold2 (then_n ?_)
    refine J_ret (fin_ret ?_)
    obtain rfl := Option.some.inj hP
    (try simp only [go_sem, Nat.reduceEqDiff, reduceIte])
    exact fo []
/-- colander/head.host -/
def strings_indexFunc_L1491 (r4 : (List UInt8) × (List UInt8) × Bool) : Nat → Nat → Option (Sum (Int) (Unit))
  | 0, _ => none
  | k1469 + 1, l1468 =>
    if decide (l1468 < List.length r4.1) then
      (show Option (Bool) from
        (show Option (Bool) from
          if decide (97 ≤ (((decR r4.1 l1468).1 : Nat) : Int)) then
            if decide ((((decR r4.1 l1468).1 : Nat) : Int) ≤ 122) then
              some false
            else
              if decide (65 ≤ (((decR r4.1 l1468).1 : Nat) : Int)) then
                if decide ((((decR r4.1 l1468).1 : Nat) : Int) ≤ 90) then
                  some false
                else
                  (head_host_1 (((decR r4.1 l1468).1 : Nat) : Int)).bind fun r1507 =>
                  if r1507 then
                    some false
                  else
                    if decide ((((decR r4.1 l1468).1 : Nat) : Int) = 46) then
                      some false
                    else
                      some (!(decide ((((decR r4.1 l1468).1 : Nat) : Int) = 45)))
              else
                (head_host_1 (((decR r4.1 l1468).1 : Nat) : Int)).bind fun r1508 =>
                if r1508 then
                  some false
                else
                  if decide ((((decR r4.1 l1468).1 : Nat) : Int) = 46) then
                    some false
                  else
                    some (!(decide ((((decR r4.1 l1468).1 : Nat) : Int) = 45)))
          else
            if decide (65 ≤ (((decR r4.1 l1468).1 : Nat) : Int)) then
              if decide ((((decR r4.1 l1468).1 : Nat) : Int) ≤ 90) then
                some false
              else
                (head_host_1 (((decR r4.1 l1468).1 : Nat) : Int)).bind fun r1509 =>
                if r1509 then
                  some false
                else
                  if decide ((((decR r4.1 l1468).1 : Nat) : Int) = 46) then
                    some false
                  else
                    some (!(decide ((((decR r4.1 l1468).1 : Nat) : Int) = 45)))
            else
              (head_host_1 (((decR r4.1 l1468).1 : Nat) : Int)).bind fun r1510 =>
              if r1510 then
                some false
              else
                if decide ((((decR r4.1 l1468).1 : Nat) : Int) = 46) then
                  some false
                else
                  some (!(decide ((((decR r4.1 l1468).1 : Nat) : Int) = 45)))).bind fun j1511 =>
          some j1511).bind fun a1512 =>
        if a1512 == true then
          some (Sum.inl ((l1468 : Nat) : Int))
        else
          strings_indexFunc_L1491 r4 k1469 (l1468 + (decR r4.1 l1468).2)
    else
      some (Sum.inr ())
def strings_indexFunc_L1692 (r4 : (List UInt8) × (List UInt8) × Bool) : Nat → Nat → Option (Sum (Int) (Unit))
  | 0, _ => none
  | k1688 + 1, l1687 =>
    if decide (l1687 < List.length r4.2.1) then
      (show Option (Bool) from
        (head_host_1 (((decR r4.2.1 l1687).1 : Nat) : Int)).bind fun r1694 =>
        some (!r1694)).bind fun a1695 =>
        if a1695 == true then
          some (Sum.inl ((l1687 : Nat) : Int))
        else
          strings_indexFunc_L1692 r4 k1688 (l1687 + (decR r4.2.1 l1687).2)
    else
      some (Sum.inr ())
def head_host (l1 : List ((List UInt8) × (List UInt8))) : Option (Bool) :=
  (fields_All l1 [104, 111, 115, 116]).bind fun r2 =>
  if !decide (((List.length r2 : Nat) : Int) = 1) then
    some false
  else
    (ixL r2 0).bind fun x3 =>
    (cutX x3 [58]).bind fun r4 =>
    (show Option (Bool) from
      if decide (r4.1 = []) then
        some true
      else
        (show Option (Bool) from
          (show Option (Int) from
            (show Option (Int) from
              (strings_indexFunc_L1491 r4 1099511627776 0).bind fun o1514 => match o1514 with
              | Sum.inl r => some r
              | Sum.inr j1515 =>
                some (-1)).bind fun a1516 =>
              some a1516).bind fun a1518 =>
            some (decide (0 ≤ a1518))).bind fun a1520 =>
          some a1520).bind fun j1522 =>
      if j1522 then
        some false
      else
        if !r4.2.2 then
          some true
        else
          if decide (1 ≤ (List.length r4.2.1 : Int)) then
            if decide ((List.length r4.2.1 : Int) ≤ 5) then
              (show Option (Bool) from
                (show Option (Int) from
                  (show Option (Int) from
                    (strings_indexFunc_L1692 r4 1099511627776 0).bind fun o1697 => match o1697 with
                    | Sum.inl r => some r
                    | Sum.inr j1698 =>
                      some (-1)).bind fun a1699 =>
                    some a1699).bind fun a1701 =>
                  some (decide (0 ≤ a1701))).bind fun a1703 =>
                some (!a1703)
            else
              some false
          else
            some false
set_option maxRecDepth 100000 in
set_option maxHeartbeats 40000000 in
theorem head_host_ok {l1 : List ((List UInt8) × (List UInt8))} {r : Bool} (hP : head_host l1 = some r) : CallOK Tryz.prog 70 [.view 2 (List.map enc_api_Field l1)] (.bool r) [] := by
  unfold head_host at hP
  refine co 48 [.tmp 2] Tryz.func70 ?_
  refine J_seq ?_
  refine J_region (by kernel_rfl) ?_
  (try simp only [go_sem, Nat.reduceEqDiff, reduceIte])
  refine hold2 (then_n ?_)
  refine J_seq ?_
  refine J_region (by kernel_rfl) ?_
  (try simp only [go_sem, Nat.reduceEqDiff, reduceIte])
  obtain ⟨r2, hr2, hP⟩ := bind_cases hP
  refine call_ok [.view 2 (List.map enc_api_Field l1), .str [104, 111, 115, 116]] (fields_All_ok hr2) ⟨argR_m false rfl, argR_m false rfl, trivial⟩ ?_
  (try simp only [go_sem, Nat.reduceEqDiff, reduceIte])
  refine hold2 (then_n ?_)
  refine J_seq ?_
  refine J_seq ?_
  refine J_region (by kernel_rfl) ?_
  (try simp only [go_sem, Nat.reduceEqDiff, reduceIte])
  refine hold2 (then_n ?_)
  refine J_condV rfl ?_
  (try simp only [go_sem, Nat.reduceEqDiff, reduceIte])
  rcases ite_cases hP with ⟨hc, hP⟩ | ⟨hc, hP⟩
  · refine condV_t hc ?_
    refine J_seq ?_
    refine J_region (by kernel_rfl) ?_
    (try simp only [go_sem, Nat.reduceEqDiff, reduceIte])
    refine hold2 (then_n ?_)
    refine J_ret (then_ret (fin_ret ?_))
    obtain rfl := Option.some.inj hP
    (try simp only [go_sem, Nat.reduceEqDiff, reduceIte])
    exact fo []
  · refine condV_f hc ?_
    refine J_skip (then_n ?_)
    refine J_seq ?_
    refine J_region (by kernel_rfl) ?_
    (try simp only [go_sem, Nat.reduceEqDiff, reduceIte])
    obtain ⟨x3, hx3, hP⟩ := bind_cases hP
    refine ixO_of hx3 ?_
    (try simp only [go_sem, Nat.reduceEqDiff, reduceIte])
    refine getK_of (f := encS) hx3 ?_
    (try simp only [go_sem, Nat.reduceEqDiff, reduceIte])
    obtain ⟨r4, hr4, hP⟩ := bind_cases hP
    refine call_ok [.str x3, .str [58]] (cutX_ok hr4) ⟨argR_m false rfl, argR_m false rfl, trivial⟩ ?_
    (try simp only [go_sem, Nat.reduceEqDiff, reduceIte])
    refine hold2 (then_n ?_)
    refine J_seq ?_
    refine J_region (by kernel_rfl) ?_
    (try simp only [go_sem, Nat.reduceEqDiff, reduceIte])
    refine hold2 (then_n ?_)
    refine J_seq ?_
    refine J_region (by kernel_rfl) ?_
    (try simp only [go_sem, Nat.reduceEqDiff, reduceIte])
    refine hold2 (then_n ?_)
    refine J_seq ?_
    obtain ⟨o763, hP, hQ763⟩ := bind_cases hP
    refine J_join (fun (s : Bool) => envL [(5, .str r4.2.1), (6, .bool r4.2.2), (7, .bptr 0 0), (29, .bool s)]) (fun (s : Bool) => [.box 116 [.fn 107 []]]) (fun s => s = o763) ?_ ?_
    · clear hQ763
      refine J_region (by kernel_rfl) ?_
      (try simp only [go_sem, Nat.reduceEqDiff, reduceIte])
      rcases ite_cases hP with ⟨hc, hP⟩ | ⟨hc, hP⟩
      · refine guard_not hc ?_
        (try simp only [go_sem, Nat.reduceEqDiff, reduceIte])
        refine hold2 ?_
        exact join_n true (Option.some.inj hP) (so [1])
      · refine guard_is hc ?_
        (try simp only [go_sem, Nat.reduceEqDiff, reduceIte])
        obtain ⟨o1521, hP, hQ1520⟩ := bind_cases hP
        refine call_join (fun (s : Bool) => .bool s) (fun (s : Bool) => envL [(5, .str r4.2.1), (6, .bool r4.2.2), (7, .bptr 0 0), (25, .bool false)]) (fun (s : Bool) => [.box 116 [.fn 107 []]]) (fun s => s = o1521) (callI_of (n := 9) (rs := [.tmp 4]) Tryz.func96 rfl (by decide) rfl rfl (by simp) rfl ?_) ?_
        · clear hQ1520
          refine J_seq ?_
          refine J_region (by kernel_rfl) ?_
          (try simp only [go_sem, Nat.reduceEqDiff, reduceIte])
          refine hold2 (then_n ?_)
          refine J_seq ?_
          refine J_region (by kernel_rfl) ?_
          (try simp only [go_sem, Nat.reduceEqDiff, reduceIte])
          obtain ⟨o1519, hP, hQ1518⟩ := bind_cases hP
          refine call_join (fun (s : Int) => .int .i64 s) (fun (s : Int) => envL [(4, .bool false), (14, .str r4.2.1), (15, .bool r4.2.2), (16, .bptr 0 0), (34, .bool false)]) (fun (s : Int) => [.box 116 [.fn 107 []]]) (fun s => s = o1519) (callI_of (n := 8) (rs := [.tmp 4]) Tryz.func126 rfl (by decide) rfl rfl (by simp) rfl ?_) ?_
          · clear hQ1518
            refine J_seq ?_
            refine J_region (by kernel_rfl) ?_
            (try simp only [go_sem, Nat.reduceEqDiff, reduceIte])
            refine hold2 (then_n ?_)
            refine J_seq ?_
            refine J_region (by kernel_rfl) ?_
            (try simp only [go_sem, Nat.reduceEqDiff, reduceIte])
            obtain ⟨o1517, hP, hQ1516⟩ := bind_cases hP
            refine call_join (fun (s : Int) => .int .i64 s) (fun (s : Int) => envL [(4, .int .i64 0), (12, .bool false), (22, .str r4.2.1), (23, .bool r4.2.2), (24, .bptr 0 0), (42, .bool false)]) (fun (s : Int) => [.box 116 [.fn 107 []]]) (fun s => s = o1517) (callI_of (n := 21) (rs := [.tmp 6]) Tryz.func147 rfl (by decide) rfl rfl (by simp) rfl ?_) ?_
            · clear hQ1516
              refine J_seq ?_
              refine J_region (by kernel_rfl) ?_
              (try simp only [go_sem, Nat.reduceEqDiff, reduceIte])
              refine hold2 (then_n ?_)
              refine J_seq ?_
              refine J_seq ?_
              refine J_region (by kernel_rfl) ?_
              (try simp only [go_sem, Nat.reduceEqDiff, reduceIte])
              refine hold2 (then_n ?_)
              obtain ⟨o1514, hP, hQ1491⟩ := bind_cases hP
              refine J_joinK (fun (s : Unit) => envL [(25, .int .i64 0), (33, .bool false), (43, .str r4.2.1), (44, .bool r4.2.2), (45, .bptr 0 0), (63, .bool false)]) (fun (s : Unit) => [.box 116 [.fn 107 []]]) (fun s => Sum.inr s = o1514) (by repeat (first | exact subC_then | refine subC_block ?_)) ?_ ?_
              · refine J_block ?_
                refine J_loop (σ := Nat × Nat) (fun (s : Nat × Nat) => envL [(1, .fn 108 [.bptr 0 0]), (2, .bool true), (10, .bptr 1 0), (25, .int .i64 0), (33, .bool false), (43, .str r4.2.1), (44, .bool r4.2.2), (45, .bptr 0 0), (63, .bool false)]) (fun (s : Nat × Nat) => [.box 116 [.fn 107 []], .iter r4.1 s.2]) (fun s => strings_indexFunc_L1491 r4 s.1 s.2 = some o1514) (fun s => s.1) (1099511627776, 0) hP (so [1, 2]) ?_
                rintro ⟨k1469, l1468⟩ hP
                dsimp only at hP ⊢
                cases k1469 with
                | zero => simp [strings_indexFunc_L1491] at hP
                | succ k1469 =>
                  simp only [strings_indexFunc_L1491] at hP
                  refine J_seq ?_
                  refine J_region (by kernel_rfl) ?_
                  (try simp only [go_sem, Nat.reduceEqDiff, reduceIte])
                  rcases ite_cases hP with ⟨hc, hP⟩ | ⟨hc, hP⟩
                  · refine guard_is hc ?_
                    (try simp only [go_sem, Nat.reduceEqDiff, reduceIte])
                    refine hold2 (then_n ?_)
                    refine J_seq ?_
                    refine J_condV rfl ?_
                    (try simp only [go_sem, Nat.reduceEqDiff, reduceIte])
                    refine J_skip (then_n ?_)
                    refine J_block ?_
                    refine J_seq ?_
                    refine J_region (by kernel_rfl) ?_
                    (try simp only [go_sem, Nat.reduceEqDiff, reduceIte])
                    refine hold2 (then_n ?_)
                    refine J_seq ?_
                    refine J_region (by kernel_rfl) ?_
                    (try simp only [go_sem, Nat.reduceEqDiff, reduceIte])
                    obtain ⟨o1513, hP, hQ1512⟩ := bind_cases hP
                    refine call_join (fun (s : Bool) => .bool s) (fun (s : Bool) => envL [(1, .fn 108 [.bptr 0 0]), (2, .bool true), (7, .int .i64 ((l1468 : Nat) : Int)), (10, .bptr 1 0), (25, .int .i64 0), (33, .bool false), (43, .str r4.2.1), (44, .bool r4.2.2), (45, .bptr 0 0), (63, .bool false)]) (fun (s : Bool) => [.box 116 [.fn 107 []], .iter r4.1 (l1468 + (decR r4.1 l1468).2)]) (fun s => s = o1513) (callI_of (n := 32) (rs := [.tmp 3]) Tryz.func108 rfl (by decide) rfl rfl (by simp) rfl ?_) ?_
                    · clear hQ1512
                      refine J_seq ?_
                      refine J_region (by kernel_rfl) ?_
                      (try simp only [go_sem, Nat.reduceEqDiff, reduceIte])
                      refine hold2 (then_n ?_)
                      obtain ⟨o1506, hP, hQ1506⟩ := bind_cases hP
                      refine J_join (fun (s : Bool) => envL [(3, .bool s), (33, .fn 108 [.bptr 0 0]), (34, .bool true), (39, .int .i64 ((l1468 : Nat) : Int)), (42, .bptr 1 0), (57, .int .i64 0), (65, .bool false), (75, .str r4.2.1), (76, .bool r4.2.2), (77, .bptr 0 0), (95, .bool false)]) (fun (s : Bool) => [.box 116 [.fn 107 []], .iter r4.1 (l1468 + (decR r4.1 l1468).2)]) (fun s => s = o1506) ?_ ?_
                      · clear hQ1506
                        refine J_region (by kernel_rfl) ?_
                        (try simp only [go_sem, Nat.reduceEqDiff, reduceIte, Nat.reduceAdd, Nat.reduceSub, Nat.reduceLT, Nat.reduceMul, reduceCtorEq, Int.reduceToNat, Int.reduceLE, Int.reduceLT, Nat.reduceLeDiff])
                        rcases ite_cases hP with ⟨hc, hP⟩ | ⟨hc, hP⟩
                        · refine guard_is hc ?_
                          (try simp only [go_sem, Nat.reduceEqDiff, reduceIte, Nat.reduceAdd, Nat.reduceSub, Nat.reduceLT, Nat.reduceMul, reduceCtorEq, Int.reduceToNat, Int.reduceLE, Int.reduceLT, Nat.reduceLeDiff])
                          rcases ite_cases hP with ⟨hc, hP⟩ | ⟨hc, hP⟩
                          · refine guard_not hc ?_
                            (try simp only [go_sem, Nat.reduceEqDiff, reduceIte, Nat.reduceAdd, Nat.reduceSub, Nat.reduceLT, Nat.reduceMul, reduceCtorEq, Int.reduceToNat, Int.reduceLE, Int.reduceLT, Nat.reduceLeDiff])
                            refine hold2 ?_
                            exact join_n false (Option.some.inj hP) (so [0, 1])
                          · refine guard_is hc ?_
                            (try simp only [go_sem, Nat.reduceEqDiff, reduceIte, Nat.reduceAdd, Nat.reduceSub, Nat.reduceLT, Nat.reduceMul, reduceCtorEq, Int.reduceToNat, Int.reduceLE, Int.reduceLT, Nat.reduceLeDiff])
                            rcases ite_cases hP with ⟨hc, hP⟩ | ⟨hc, hP⟩
                            · refine guard_is hc ?_
                              (try simp only [go_sem, Nat.reduceEqDiff, reduceIte, Nat.reduceAdd, Nat.reduceSub, Nat.reduceLT, Nat.reduceMul, reduceCtorEq, Int.reduceToNat, Int.reduceLE, Int.reduceLT, Nat.reduceLeDiff])
                              rcases ite_cases hP with ⟨hc, hP⟩ | ⟨hc, hP⟩
                              · refine guard_not hc ?_
                                (try simp only [go_sem, Nat.reduceEqDiff, reduceIte, Nat.reduceAdd, Nat.reduceSub, Nat.reduceLT, Nat.reduceMul, reduceCtorEq, Int.reduceToNat, Int.reduceLE, Int.reduceLT, Nat.reduceLeDiff])
                                refine hold2 ?_
                                exact join_n false (Option.some.inj hP) (so [0, 1])
                              · refine guard_is hc ?_
                                (try simp only [go_sem, Nat.reduceEqDiff, reduceIte])
                                obtain ⟨r1507, hr1507, hP⟩ := bind_cases hP
                                refine call_ok [.int .i32 (((decR r4.1 l1468).1 : Nat) : Int)] (head_host_1_ok hr1507) ⟨argR_m false rfl, trivial⟩ ?_
                                (try simp only [go_sem, Nat.reduceEqDiff, reduceIte])
                                rcases ite_cases hP with ⟨hc, hP⟩ | ⟨hc, hP⟩
                                · refine guard_not hc ?_
                                  (try simp only [go_sem, Nat.reduceEqDiff, reduceIte])
                                  refine hold2 ?_
                                  exact join_n false (Option.some.inj hP) (so [0, 1])
                                · refine guard_is hc ?_
                                  (try simp only [go_sem, Nat.reduceEqDiff, reduceIte, Nat.reduceAdd, Nat.reduceSub, Nat.reduceLT, Nat.reduceMul, reduceCtorEq, Int.reduceToNat, Int.reduceLE, Int.reduceLT, Nat.reduceLeDiff])
                                  rcases ite_cases hP with ⟨hc, hP⟩ | ⟨hc, hP⟩
                                  · refine guard_not hc ?_
                                    (try simp only [go_sem, Nat.reduceEqDiff, reduceIte, Nat.reduceAdd, Nat.reduceSub, Nat.reduceLT, Nat.reduceMul, reduceCtorEq, Int.reduceToNat, Int.reduceLE, Int.reduceLT, Nat.reduceLeDiff])
                                    refine hold2 ?_
                                    exact join_n false (Option.some.inj hP) (so [0, 1])
                                  · refine guard_is hc ?_
                                    (try simp only [go_sem, Nat.reduceEqDiff, reduceIte, Nat.reduceAdd, Nat.reduceSub, Nat.reduceLT, Nat.reduceMul, reduceCtorEq, Int.reduceToNat, Int.reduceLE, Int.reduceLT, Nat.reduceLeDiff])
                                    refine hold2 ?_
                                    exact join_n (!(decide ((((decR r4.1 l1468).1 : Nat) : Int) = 45))) (Option.some.inj hP) (so [0, 1])
                            · refine guard_not hc ?_
                              (try simp only [go_sem, Nat.reduceEqDiff, reduceIte])
                              obtain ⟨r1508, hr1508, hP⟩ := bind_cases hP
                              refine call_ok [.int .i32 (((decR r4.1 l1468).1 : Nat) : Int)] (head_host_1_ok hr1508) ⟨argR_m false rfl, trivial⟩ ?_
                              (try simp only [go_sem, Nat.reduceEqDiff, reduceIte])
                              rcases ite_cases hP with ⟨hc, hP⟩ | ⟨hc, hP⟩
                              · refine guard_not hc ?_
                                (try simp only [go_sem, Nat.reduceEqDiff, reduceIte])
                                refine hold2 ?_
                                exact join_n false (Option.some.inj hP) (so [0, 1])
                              · refine guard_is hc ?_
                                (try simp only [go_sem, Nat.reduceEqDiff, reduceIte, Nat.reduceAdd, Nat.reduceSub, Nat.reduceLT, Nat.reduceMul, reduceCtorEq, Int.reduceToNat, Int.reduceLE, Int.reduceLT, Nat.reduceLeDiff])
                                rcases ite_cases hP with ⟨hc, hP⟩ | ⟨hc, hP⟩
                                · refine guard_not hc ?_
                                  (try simp only [go_sem, Nat.reduceEqDiff, reduceIte, Nat.reduceAdd, Nat.reduceSub, Nat.reduceLT, Nat.reduceMul, reduceCtorEq, Int.reduceToNat, Int.reduceLE, Int.reduceLT, Nat.reduceLeDiff])
                                  refine hold2 ?_
                                  exact join_n false (Option.some.inj hP) (so [0, 1])
                                · refine guard_is hc ?_
                                  (try simp only [go_sem, Nat.reduceEqDiff, reduceIte, Nat.reduceAdd, Nat.reduceSub, Nat.reduceLT, Nat.reduceMul, reduceCtorEq, Int.reduceToNat, Int.reduceLE, Int.reduceLT, Nat.reduceLeDiff])
                                  refine hold2 ?_
                                  exact join_n (!(decide ((((decR r4.1 l1468).1 : Nat) : Int) = 45))) (Option.some.inj hP) (so [0, 1])
                        · refine guard_not hc ?_
                          (try simp only [go_sem, Nat.reduceEqDiff, reduceIte, Nat.reduceAdd, Nat.reduceSub, Nat.reduceLT, Nat.reduceMul, reduceCtorEq, Int.reduceToNat, Int.reduceLE, Int.reduceLT, Nat.reduceLeDiff])
                          rcases ite_cases hP with ⟨hc, hP⟩ | ⟨hc, hP⟩
                          · refine guard_is hc ?_
                            (try simp only [go_sem, Nat.reduceEqDiff, reduceIte, Nat.reduceAdd, Nat.reduceSub, Nat.reduceLT, Nat.reduceMul, reduceCtorEq, Int.reduceToNat, Int.reduceLE, Int.reduceLT, Nat.reduceLeDiff])
                            rcases ite_cases hP with ⟨hc, hP⟩ | ⟨hc, hP⟩
                            · refine guard_not hc ?_
                              (try simp only [go_sem, Nat.reduceEqDiff, reduceIte, Nat.reduceAdd, Nat.reduceSub, Nat.reduceLT, Nat.reduceMul, reduceCtorEq, Int.reduceToNat, Int.reduceLE, Int.reduceLT, Nat.reduceLeDiff])
                              refine hold2 ?_
                              exact join_n false (Option.some.inj hP) (so [0, 1])
                            · refine guard_is hc ?_
                              (try simp only [go_sem, Nat.reduceEqDiff, reduceIte])
                              obtain ⟨r1509, hr1509, hP⟩ := bind_cases hP
                              refine call_ok [.int .i32 (((decR r4.1 l1468).1 : Nat) : Int)] (head_host_1_ok hr1509) ⟨argR_m false rfl, trivial⟩ ?_
                              (try simp only [go_sem, Nat.reduceEqDiff, reduceIte])
                              rcases ite_cases hP with ⟨hc, hP⟩ | ⟨hc, hP⟩
                              · refine guard_not hc ?_
                                (try simp only [go_sem, Nat.reduceEqDiff, reduceIte])
                                refine hold2 ?_
                                exact join_n false (Option.some.inj hP) (so [0, 1])
                              · refine guard_is hc ?_
                                (try simp only [go_sem, Nat.reduceEqDiff, reduceIte, Nat.reduceAdd, Nat.reduceSub, Nat.reduceLT, Nat.reduceMul, reduceCtorEq, Int.reduceToNat, Int.reduceLE, Int.reduceLT, Nat.reduceLeDiff])
                                rcases ite_cases hP with ⟨hc, hP⟩ | ⟨hc, hP⟩
                                · refine guard_not hc ?_
                                  (try simp only [go_sem, Nat.reduceEqDiff, reduceIte, Nat.reduceAdd, Nat.reduceSub, Nat.reduceLT, Nat.reduceMul, reduceCtorEq, Int.reduceToNat, Int.reduceLE, Int.reduceLT, Nat.reduceLeDiff])
                                  refine hold2 ?_
                                  exact join_n false (Option.some.inj hP) (so [0, 1])
                                · refine guard_is hc ?_
                                  (try simp only [go_sem, Nat.reduceEqDiff, reduceIte, Nat.reduceAdd, Nat.reduceSub, Nat.reduceLT, Nat.reduceMul, reduceCtorEq, Int.reduceToNat, Int.reduceLE, Int.reduceLT, Nat.reduceLeDiff])
                                  refine hold2 ?_
                                  exact join_n (!(decide ((((decR r4.1 l1468).1 : Nat) : Int) = 45))) (Option.some.inj hP) (so [0, 1])
                          · refine guard_not hc ?_
                            (try simp only [go_sem, Nat.reduceEqDiff, reduceIte])
                            obtain ⟨r1510, hr1510, hP⟩ := bind_cases hP
                            refine call_ok [.int .i32 (((decR r4.1 l1468).1 : Nat) : Int)] (head_host_1_ok hr1510) ⟨argR_m false rfl, trivial⟩ ?_
                            (try simp only [go_sem, Nat.reduceEqDiff, reduceIte])
                            rcases ite_cases hP with ⟨hc, hP⟩ | ⟨hc, hP⟩
                            · refine guard_not hc ?_
                              (try simp only [go_sem, Nat.reduceEqDiff, reduceIte])
                              refine hold2 ?_
                              exact join_n false (Option.some.inj hP) (so [0, 1])
                            · refine guard_is hc ?_
                              (try simp only [go_sem, Nat.reduceEqDiff, reduceIte, Nat.reduceAdd, Nat.reduceSub, Nat.reduceLT, Nat.reduceMul, reduceCtorEq, Int.reduceToNat, Int.reduceLE, Int.reduceLT, Nat.reduceLeDiff])
                              rcases ite_cases hP with ⟨hc, hP⟩ | ⟨hc, hP⟩
                              · refine guard_not hc ?_
                                (try simp only [go_sem, Nat.reduceEqDiff, reduceIte, Nat.reduceAdd, Nat.reduceSub, Nat.reduceLT, Nat.reduceMul, reduceCtorEq, Int.reduceToNat, Int.reduceLE, Int.reduceLT, Nat.reduceLeDiff])
                                refine hold2 ?_
                                exact join_n false (Option.some.inj hP) (so [0, 1])
                              · refine guard_is hc ?_
                                (try simp only [go_sem, Nat.reduceEqDiff, reduceIte, Nat.reduceAdd, Nat.reduceSub, Nat.reduceLT, Nat.reduceMul, reduceCtorEq, Int.reduceToNat, Int.reduceLE, Int.reduceLT, Nat.reduceLeDiff])
                                refine hold2 ?_
                                exact join_n (!(decide ((((decR r4.1 l1468).1 : Nat) : Int) = 45))) (Option.some.inj hP) (so [0, 1])
                      · intro j1511 hs
                        subst hs
                        have hP := hQ1506
                        clear hQ1506
                        refine J_ret (finI_ret ?_)
                        exact told_of ⟨j1511, Option.some.inj hP, sr [0, 1]⟩
                    · intro a1512 hs
                      subst hs
                      have hP := hQ1512
                      clear hQ1512
                      (try simp only [go_sem, Nat.reduceEqDiff, reduceIte])
                      refine hold2 (then_n ?_)
                      refine J_condV rfl ?_
                      (try simp only [go_sem, Nat.reduceEqDiff, reduceIte])
                      rcases ite_cases hP with ⟨hc, hP⟩ | ⟨hc, hP⟩
                      · refine condV_t hc ?_
                        refine J_seq ?_
                        refine J_region (by kernel_rfl) ?_
                        (try simp only [go_sem, Nat.reduceEqDiff, reduceIte])
                        refine hold2 (then_n ?_)
                        refine J_ret (block_ret (loop_ret (block_ret (join_ret (then_ret (finI_ret ?_))))))
                        obtain rfl := Option.some.inj hP
                        have hP := hQ1491
                        dsimp only at hP
                        exact told_of ⟨((l1468 : Nat) : Int), Option.some.inj hP, sr [0]⟩
                      · refine condV_f hc ?_
                        refine J_skip (block_n ?_)
                        exact loop_n (k1469, l1468 + (decR r4.1 l1468).2) hP (Nat.lt_succ_self _) (so [0, 1])
                  · refine guard_not hc ?_
                    (try simp only [go_sem, Nat.reduceEqDiff, reduceIte])
                    refine hold2 (then_n ?_)
                    refine J_seq ?_
                    refine J_condV rfl ?_
                    (try simp only [go_sem, Nat.reduceEqDiff, reduceIte])
                    refine J_exit (then_exit (loop_exit (block_eq ?_)))
                    exact join_n () (Option.some.inj hP) (so [0])
              · intro j1515 hs
                subst hs
                have hP := hQ1491
                dsimp only at hP
                clear hQ1491
                refine then_n ?_
                refine J_seq ?_
                refine J_region (by kernel_rfl) ?_
                (try simp only [go_sem, Nat.reduceEqDiff, reduceIte])
                refine hold2 (then_n ?_)
                refine J_ret (finI_ret ?_)
                exact told_of ⟨(-1), Option.some.inj hP, sr [0]⟩
            · intro a1516 hs
              subst hs
              have hP := hQ1516
              clear hQ1516
              (try simp only [go_sem, Nat.reduceEqDiff, reduceIte])
              refine hold2 (then_n ?_)
              refine J_ret (finI_ret ?_)
              exact told_of ⟨a1516, Option.some.inj hP, sr [0]⟩
          · intro a1518 hs
            subst hs
            have hP := hQ1518
            clear hQ1518
            (try simp only [go_sem, Nat.reduceEqDiff, reduceIte])
            refine hold2 (then_n ?_)
            refine J_ret (finI_ret ?_)
            exact told_of ⟨(decide (0 ≤ a1518)), Option.some.inj hP, sr [0]⟩
        · intro a1520 hs
          subst hs
          have hP := hQ1520
          clear hQ1520
          (try simp only [go_sem, Nat.reduceEqDiff, reduceIte])
          refine hold2 ?_
          exact join_n a1520 (Option.some.inj hP) (so [0])
    · intro j1522 hs
      subst hs
      have hP := hQ763
      clear hQ763
      refine J_condV rfl ?_
      (try simp only [go_sem, Nat.reduceEqDiff, reduceIte])
      rcases ite_cases hP with ⟨hc, hP⟩ | ⟨hc, hP⟩
      · refine condV_t hc ?_
        refine J_seq ?_
        refine J_region (by kernel_rfl) ?_
        (try simp only [go_sem, Nat.reduceEqDiff, reduceIte])
        refine hold2 (then_n ?_)
        refine J_ret (then_ret (fin_ret ?_))
        obtain rfl := Option.some.inj hP
        (try simp only [go_sem, Nat.reduceEqDiff, reduceIte])
        exact fo []
      · refine condV_f hc ?_
        refine J_skip (then_n ?_)
        refine J_seq ?_
        refine J_region (by kernel_rfl) ?_
        (try simp only [go_sem, Nat.reduceEqDiff, reduceIte])
        rcases ite_cases hP with ⟨hc, hP⟩ | ⟨hc, hP⟩
        · refine guard_not hc ?_
          (try simp only [go_sem, Nat.reduceEqDiff, reduceIte])
          refine hold2 (then_n ?_)
          refine J_ret (fin_ret ?_)
          obtain rfl := Option.some.inj hP
          (try simp only [go_sem, Nat.reduceEqDiff, reduceIte])
          exact fo []
        · refine guard_is hc ?_
          (try simp only [go_sem, Nat.reduceEqDiff, reduceIte])
          rcases ite_cases hP with ⟨hc, hP⟩ | ⟨hc, hP⟩
          · refine guard_is hc ?_
            (try simp only [go_sem, Nat.reduceEqDiff, reduceIte])
            rcases ite_cases hP with ⟨hc, hP⟩ | ⟨hc, hP⟩
            · refine guard_is hc ?_
              (try simp only [go_sem, Nat.reduceEqDiff, reduceIte])
              obtain ⟨o1704, hP, hQ1703⟩ := bind_cases hP
              refine call_join (fun (s : Bool) => .bool s) (fun (s : Bool) => envL [(32, .bool false), (41, .bool true)]) (fun (s : Bool) => []) (fun s => s = o1704) (callI_of (n := 9) (rs := [.tmp 4]) Tryz.func96 rfl (by decide) rfl rfl (by simp) rfl ?_) ?_
              · clear hQ1703
                refine J_seq ?_
                refine J_region (by kernel_rfl) ?_
                (try simp only [go_sem, Nat.reduceEqDiff, reduceIte])
                refine hold2 (then_n ?_)
                refine J_seq ?_
                refine J_region (by kernel_rfl) ?_
                (try simp only [go_sem, Nat.reduceEqDiff, reduceIte])
                obtain ⟨o1702, hP, hQ1701⟩ := bind_cases hP
                refine call_join (fun (s : Int) => .int .i64 s) (fun (s : Int) => envL [(4, .bool false), (41, .bool false), (50, .bool true)]) (fun (s : Int) => []) (fun s => s = o1702) (callI_of (n := 8) (rs := [.tmp 4]) Tryz.func126 rfl (by decide) rfl rfl (by simp) rfl ?_) ?_
                · clear hQ1701
                  refine J_seq ?_
                  refine J_region (by kernel_rfl) ?_
                  (try simp only [go_sem, Nat.reduceEqDiff, reduceIte])
                  refine hold2 (then_n ?_)
                  refine J_seq ?_
                  refine J_region (by kernel_rfl) ?_
                  (try simp only [go_sem, Nat.reduceEqDiff, reduceIte])
                  obtain ⟨o1700, hP, hQ1699⟩ := bind_cases hP
                  refine call_join (fun (s : Int) => .int .i64 s) (fun (s : Int) => envL [(4, .int .i64 0), (12, .bool false), (49, .bool false), (58, .bool true)]) (fun (s : Int) => []) (fun s => s = o1700) (callI_of (n := 21) (rs := [.tmp 6]) Tryz.func147 rfl (by decide) rfl rfl (by simp) rfl ?_) ?_
                  · clear hQ1699
                    refine J_seq ?_
                    refine J_region (by kernel_rfl) ?_
                    (try simp only [go_sem, Nat.reduceEqDiff, reduceIte])
                    refine hold2 (then_n ?_)
                    refine J_seq ?_
                    refine J_seq ?_
                    refine J_region (by kernel_rfl) ?_
                    (try simp only [go_sem, Nat.reduceEqDiff, reduceIte])
                    refine hold2 (then_n ?_)
                    obtain ⟨o1697, hP, hQ1692⟩ := bind_cases hP
                    refine J_joinK (fun (s : Unit) => envL [(25, .int .i64 0), (33, .bool false), (70, .bool false), (79, .bool true)]) (fun (s : Unit) => []) (fun s => Sum.inr s = o1697) (by repeat (first | exact subC_then | refine subC_block ?_)) ?_ ?_
                    · refine J_block ?_
                      refine J_loop (σ := Nat × Nat) (fun (s : Nat × Nat) => envL [(1, .fn 109 [.bptr 0 0]), (2, .bool true), (10, .bptr 1 0), (25, .int .i64 0), (33, .bool false), (70, .bool false), (79, .bool true)]) (fun (s : Nat × Nat) => [.box 116 [.fn 107 []], .iter r4.2.1 s.2]) (fun s => strings_indexFunc_L1692 r4 s.1 s.2 = some o1697) (fun s => s.1) (1099511627776, 0) hP (so [0, 1]) ?_
                      rintro ⟨k1688, l1687⟩ hP
                      dsimp only at hP ⊢
                      cases k1688 with
                      | zero => simp [strings_indexFunc_L1692] at hP
                      | succ k1688 =>
                        simp only [strings_indexFunc_L1692] at hP
                        refine J_seq ?_
                        refine J_region (by kernel_rfl) ?_
                        (try simp only [go_sem, Nat.reduceEqDiff, reduceIte])
                        rcases ite_cases hP with ⟨hc, hP⟩ | ⟨hc, hP⟩
                        · refine guard_is hc ?_
                          (try simp only [go_sem, Nat.reduceEqDiff, reduceIte])
                          refine hold2 (then_n ?_)
                          refine J_seq ?_
                          refine J_condV rfl ?_
                          (try simp only [go_sem, Nat.reduceEqDiff, reduceIte])
                          refine J_skip (then_n ?_)
                          refine J_block ?_
                          refine J_seq ?_
                          refine J_region (by kernel_rfl) ?_
                          (try simp only [go_sem, Nat.reduceEqDiff, reduceIte])
                          refine hold2 (then_n ?_)
                          refine J_seq ?_
                          refine J_region (by kernel_rfl) ?_
                          (try simp only [go_sem, Nat.reduceEqDiff, reduceIte])
                          obtain ⟨o1696, hP, hQ1695⟩ := bind_cases hP
                          refine call_join (fun (s : Bool) => .bool s) (fun (s : Bool) => envL [(1, .fn 109 [.bptr 0 0]), (2, .bool true), (7, .int .i64 ((l1687 : Nat) : Int)), (10, .bptr 1 0), (25, .int .i64 0), (33, .bool false), (70, .bool false), (79, .bool true)]) (fun (s : Bool) => [.box 116 [.fn 107 []], .iter r4.2.1 (l1687 + (decR r4.2.1 l1687).2)]) (fun s => s = o1696) (callI_of (n := 8) (rs := [.tmp 3]) Tryz.func109 rfl (by decide) rfl rfl (by simp) rfl ?_) ?_
                          · clear hQ1695
                            refine J_seq ?_
                            refine J_region (by kernel_rfl) ?_
                            (try simp only [go_sem, Nat.reduceEqDiff, reduceIte])
                            refine hold2 (then_n ?_)
                            refine J_seq ?_
                            refine J_region (by kernel_rfl) ?_
                            (try simp only [go_sem, Nat.reduceEqDiff, reduceIte])
                            obtain ⟨r1694, hr1694, hP⟩ := bind_cases hP
                            refine call_ok [.int .i32 (((decR r4.2.1 l1687).1 : Nat) : Int)] (head_host_1_ok hr1694) ⟨argR_m false rfl, trivial⟩ ?_
                            (try simp only [go_sem, Nat.reduceEqDiff, reduceIte])
                            refine hold2 (then_n ?_)
                            refine J_ret (finI_ret ?_)
                            exact told_of ⟨(!r1694), Option.some.inj hP, sr [0, 1]⟩
                          · intro a1695 hs
                            subst hs
                            have hP := hQ1695
                            clear hQ1695
                            (try simp only [go_sem, Nat.reduceEqDiff, reduceIte])
                            refine hold2 (then_n ?_)
                            refine J_condV rfl ?_
                            (try simp only [go_sem, Nat.reduceEqDiff, reduceIte])
                            rcases ite_cases hP with ⟨hc, hP⟩ | ⟨hc, hP⟩
                            · refine condV_t hc ?_
                              refine J_seq ?_
                              refine J_region (by kernel_rfl) ?_
                              (try simp only [go_sem, Nat.reduceEqDiff, reduceIte])
                              refine hold2 (then_n ?_)
                              refine J_ret (block_ret (loop_ret (block_ret (join_ret (then_ret (finI_ret ?_))))))
                              obtain rfl := Option.some.inj hP
                              have hP := hQ1692
                              dsimp only at hP
                              exact told_of ⟨((l1687 : Nat) : Int), Option.some.inj hP, sr []⟩
                            · refine condV_f hc ?_
                              refine J_skip (block_n ?_)
                              exact loop_n (k1688, l1687 + (decR r4.2.1 l1687).2) hP (Nat.lt_succ_self _) (so [0, 1])
                        · refine guard_not hc ?_
                          (try simp only [go_sem, Nat.reduceEqDiff, reduceIte])
                          refine hold2 (then_n ?_)
                          refine J_seq ?_
                          refine J_condV rfl ?_
                          (try simp only [go_sem, Nat.reduceEqDiff, reduceIte])
                          refine J_exit (then_exit (loop_exit (block_eq ?_)))
                          exact join_n () (Option.some.inj hP) (so [])
                    · intro j1698 hs
                      subst hs
                      have hP := hQ1692
                      dsimp only at hP
                      clear hQ1692
                      refine then_n ?_
                      refine J_seq ?_
                      refine J_region (by kernel_rfl) ?_
                      (try simp only [go_sem, Nat.reduceEqDiff, reduceIte])
                      refine hold2 (then_n ?_)
                      refine J_ret (finI_ret ?_)
                      exact told_of ⟨(-1), Option.some.inj hP, sr []⟩
                  · intro a1699 hs
                    subst hs
                    have hP := hQ1699
                    clear hQ1699
                    (try simp only [go_sem, Nat.reduceEqDiff, reduceIte])
                    refine hold2 (then_n ?_)
                    refine J_ret (finI_ret ?_)
                    exact told_of ⟨a1699, Option.some.inj hP, sr []⟩
                · intro a1701 hs
                  subst hs
                  have hP := hQ1701
                  clear hQ1701
                  (try simp only [go_sem, Nat.reduceEqDiff, reduceIte])
                  refine hold2 (then_n ?_)
                  refine J_ret (finI_ret ?_)
                  exact told_of ⟨(decide (0 ≤ a1701)), Option.some.inj hP, sr []⟩
              · intro a1703 hs
                subst hs
                have hP := hQ1703
                clear hQ1703
                (try simp only [go_sem, Nat.reduceEqDiff, reduceIte])
                refine hold2 (then_n ?_)
                refine J_ret (fin_ret ?_)
                obtain rfl := Option.some.inj hP
                (try simp only [go_sem, Nat.reduceEqDiff, reduceIte])
                exact fo []
            · refine guard_not hc ?_
              (try simp only [go_sem, Nat.reduceEqDiff, reduceIte])
              refine hold2 (then_n ?_)
              refine J_ret (fin_ret ?_)
              obtain rfl := Option.some.inj hP
              (try simp only [go_sem, Nat.reduceEqDiff, reduceIte])
              exact fo []
          · refine guard_not hc ?_
            (try simp only [go_sem, Nat.reduceEqDiff, reduceIte])
            refine hold2 (then_n ?_)
            refine J_ret (fin_ret ?_)
            obtain rfl := Option.some.inj hP
            (try simp only [go_sem, Nat.reduceEqDiff, reduceIte])
            exact fo []
/-- colander/head.RequestText -/
def head_RequestText (q1 : (List UInt8) × (List UInt8) × (List ((List UInt8) × (List UInt8)))) : Option ((List UInt8)) :=
  (fields_Right q1.2.2).bind fun r2 =>
  (show Option (Bool) from
    if !decide (r2.2 = 0) then
      some true
    else
      (head_method q1.1).bind fun r7 =>
      if !r7 then
        some true
      else
        (head_target q1.2.1).bind fun r8 =>
        if !r8 then
          some true
        else
          (head_host q1.2.2).bind fun r9 =>
          some (!r9)).bind fun j10 =>
    if j10 then
      some []
    else
      (szC (List.length (q1.1 ++ [32]))).bind fun _ =>
      (szC (List.length ((q1.1 ++ [32]) ++ q1.2.1))).bind fun _ =>
      (szC (List.length (((q1.1 ++ [32]) ++ q1.2.1) ++ [32, 72, 84, 84, 80, 47, 49, 46, 49, 13, 10]))).bind fun _ =>
      (fields_Text q1.2.2).bind fun r14 =>
      (szC (List.length ((((q1.1 ++ [32]) ++ q1.2.1) ++ [32, 72, 84, 84, 80, 47, 49, 46, 49, 13, 10]) ++ r14))).bind fun _ =>
      (szC (List.length (((((q1.1 ++ [32]) ++ q1.2.1) ++ [32, 72, 84, 84, 80, 47, 49, 46, 49, 13, 10]) ++ r14) ++ [13, 10]))).bind fun _ =>
      (head_bounded (((((q1.1 ++ [32]) ++ q1.2.1) ++ [32, 72, 84, 84, 80, 47, 49, 46, 49, 13, 10]) ++ r14) ++ [13, 10])).bind fun r17 =>
      some r17
set_option maxRecDepth 100000 in
set_option maxHeartbeats 40000000 in
theorem head_RequestText_ok {q1 : (List UInt8) × (List UInt8) × (List ((List UInt8) × (List UInt8)))} {r : (List UInt8)} (hP : head_RequestText q1 = some r) : CallOK Tryz.prog 27 [.agg [.str q1.1, .str q1.2.1, .view 2 (List.map enc_api_Field q1.2.2)]] (.str r) [] := by
  unfold head_RequestText at hP
  refine co 44 [.tmp 2] Tryz.func27 ?_
  refine J_seq ?_
  refine J_region (by kernel_rfl) ?_
  (try simp only [go_sem, Nat.reduceEqDiff, reduceIte])
  refine hold2 (then_n ?_)
  refine J_seq ?_
  refine J_seq ?_
  refine J_region (by kernel_rfl) ?_
  (try simp only [go_sem, Nat.reduceEqDiff, reduceIte])
  obtain ⟨r2, hr2, hP⟩ := bind_cases hP
  refine call_ok [.view 2 (List.map enc_api_Field q1.2.2)] (fields_Right_ok hr2) ⟨argR_m false rfl, trivial⟩ ?_
  (try simp only [go_sem, Nat.reduceEqDiff, reduceIte])
  refine hold2 (then_n ?_)
  obtain ⟨o6, hP, hQ6⟩ := bind_cases hP
  refine J_join (fun (s : Bool) => envL [(1, .bptr 0 0), (30, .bool s)]) (fun (s : Bool) => [.box 31 [.str q1.1, .str q1.2.1, .view 2 (List.map enc_api_Field q1.2.2)]]) (fun s => s = o6) ?_ ?_
  · clear hQ6
    refine J_region (by kernel_rfl) ?_
    (try simp only [go_sem, Nat.reduceEqDiff, reduceIte])
    rcases ite_cases hP with ⟨hc, hP⟩ | ⟨hc, hP⟩
    · refine guard_not hc ?_
      (try simp only [go_sem, Nat.reduceEqDiff, reduceIte])
      refine hold2 ?_
      exact join_n true (Option.some.inj hP) (so [0])
    · refine guard_is hc ?_
      (try simp only [go_sem, Nat.reduceEqDiff, reduceIte])
      obtain ⟨r7, hr7, hP⟩ := bind_cases hP
      refine call_ok [.str q1.1] (head_method_ok hr7) ⟨argR_m false rfl, trivial⟩ ?_
      (try simp only [go_sem, Nat.reduceEqDiff, reduceIte])
      rcases ite_cases hP with ⟨hc, hP⟩ | ⟨hc, hP⟩
      · refine guard_not hc ?_
        (try simp only [go_sem, Nat.reduceEqDiff, reduceIte])
        refine hold2 ?_
        exact join_n true (Option.some.inj hP) (so [0])
      · refine guard_is hc ?_
        (try simp only [go_sem, Nat.reduceEqDiff, reduceIte])
        obtain ⟨r8, hr8, hP⟩ := bind_cases hP
        refine call_ok [.str q1.2.1] (head_target_ok hr8) ⟨argR_m false rfl, trivial⟩ ?_
        (try simp only [go_sem, Nat.reduceEqDiff, reduceIte])
        rcases ite_cases hP with ⟨hc, hP⟩ | ⟨hc, hP⟩
        · refine guard_not hc ?_
          (try simp only [go_sem, Nat.reduceEqDiff, reduceIte])
          refine hold2 ?_
          exact join_n true (Option.some.inj hP) (so [0])
        · refine guard_is hc ?_
          (try simp only [go_sem, Nat.reduceEqDiff, reduceIte])
          obtain ⟨r9, hr9, hP⟩ := bind_cases hP
          refine call_ok [.view 2 (List.map enc_api_Field q1.2.2)] (head_host_ok hr9) ⟨argR_m false rfl, trivial⟩ ?_
          (try simp only [go_sem, Nat.reduceEqDiff, reduceIte])
          refine hold2 ?_
          exact join_n (!r9) (Option.some.inj hP) (so [0])
  · intro j10 hs
    subst hs
    have hP := hQ6
    clear hQ6
    refine J_condV rfl ?_
    (try simp only [go_sem, Nat.reduceEqDiff, reduceIte])
    rcases ite_cases hP with ⟨hc, hP⟩ | ⟨hc, hP⟩
    · refine condV_t hc ?_
      refine J_seq ?_
      refine J_region (by kernel_rfl) ?_
      (try simp only [go_sem, Nat.reduceEqDiff, reduceIte])
      refine hold2 (then_n ?_)
      refine J_ret (then_ret (fin_ret ?_))
      obtain rfl := Option.some.inj hP
      (try simp only [go_sem, Nat.reduceEqDiff, reduceIte])
      exact fo []
    · refine condV_f hc ?_
      refine J_skip (then_n ?_)
      refine J_seq ?_
      refine J_regionq follows_mixed (by kernel_rfl) (by kernel_rfl) ?_
      (try simp only [go_sem, Nat.reduceEqDiff, reduceIte])
      obtain ⟨_, hz11, hP⟩ := bind_cases hP
      refine chk_of (by first | exact szC_63 hz11 | (have q := szC_63 hz11; simp only [List.length_append, List.length_cons, List.length_nil] at q ⊢; omega)) ?_
      (try simp only [go_sem, Nat.reduceEqDiff, reduceIte])
      obtain ⟨_, hz12, hP⟩ := bind_cases hP
      refine chk_of (by first | exact szC_63 hz12 | (have q := szC_63 hz12; simp only [List.length_append, List.length_cons, List.length_nil] at q ⊢; omega)) ?_
      (try simp only [go_sem, Nat.reduceEqDiff, reduceIte])
      obtain ⟨_, hz13, hP⟩ := bind_cases hP
      refine chk_of (by first | exact szC_63 hz13 | (have q := szC_63 hz13; simp only [List.length_append, List.length_cons, List.length_nil] at q ⊢; omega)) ?_
      (try simp only [go_sem, Nat.reduceEqDiff, reduceIte])
      obtain ⟨r14, hr14, hP⟩ := bind_cases hP
      refine call_okq [.view 2 (List.map enc_api_Field q1.2.2)] (fields_Text_ok hr14) ⟨argR_m false rfl, trivial⟩ rfl ?_
      (try simp only [go_sem, Nat.reduceEqDiff, reduceIte])
      obtain ⟨_, hz15, hP⟩ := bind_cases hP
      refine chk_of (by first | exact szC_63 hz15 | (have q := szC_63 hz15; simp only [List.length_append, List.length_cons, List.length_nil] at q ⊢; omega)) ?_
      (try simp only [go_sem, Nat.reduceEqDiff, reduceIte])
      obtain ⟨_, hz16, hP⟩ := bind_cases hP
      refine chk_of (by first | exact szC_63 hz16 | (have q := szC_63 hz16; simp only [List.length_append, List.length_cons, List.length_nil] at q ⊢; omega)) ?_
      (try simp only [go_sem, Nat.reduceEqDiff, reduceIte])
      obtain ⟨r17, hr17, hP⟩ := bind_cases hP
      refine call_okq [.str (((((q1.1 ++ [32]) ++ q1.2.1) ++ [32, 72, 84, 84, 80, 47, 49, 46, 49, 13, 10]) ++ r14) ++ [13, 10])] (head_bounded_ok hr17) ⟨argR_m false rfl, trivial⟩ rfl ?_
      (try simp only [go_sem, Nat.reduceEqDiff, reduceIte])
      refine hold2 (then_n ?_)
      refine J_ret (fin_ret ?_)
      obtain rfl := Option.some.inj hP
      (try simp only [go_sem, Nat.reduceEqDiff, reduceIte])
      exact fo []
end Go.Proofs.YtgngopfpnidbaaaGreatDoor
