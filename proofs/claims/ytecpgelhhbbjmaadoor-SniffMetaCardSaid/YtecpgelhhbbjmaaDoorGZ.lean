/- Functions of the program, and pure ones that go the same ways: that the program's return what these compute. -/
import Derived.Test.YtecpgelhhbbjmaaDoorLibL
import Derived.Test.YtecpgelhhbbjmaaDoorAvPj
namespace Go.Proofs.YtecpgelhhbbjmaaDoor
open Go.Av
set_option linter.unusedVariables false
set_option linter.unusedSimpArgs false
/-- internal/stringslite.HasPrefix -/
def stringslite_HasPrefix (s1 : List UInt8) (prefix2 : List UInt8) : Option (Bool) :=
  if decide ((List.length prefix2 : Int) ≤ (List.length s1 : Int)) then
    (slL s1 0 (List.length prefix2 : Int)).bind fun s3 =>
    some (decide (s3 = prefix2))
  else
    some false
set_option maxRecDepth 100000 in
set_option maxHeartbeats 40000000 in
theorem stringslite_HasPrefix_ok {s1 : List UInt8} {prefix2 : List UInt8} {r : Bool} (hP : stringslite_HasPrefix s1 prefix2 = some r) : CallOK Tryd.prog 52 [.str s1, .str prefix2] (.bool r) [] := by
  unfold stringslite_HasPrefix at hP
  refine co 18 [.tmp 4] Tryd.func52 ?_
  refine J_seq ?_
  refine J_region (by kernel_rfl) ?_
  (try simp only [go_sem, Nat.reduceEqDiff, ↓reduceIte])
  refine hold2 (then_n ?_)
  refine J_seq ?_
  refine J_region (by kernel_rfl) ?_
  (try simp only [go_sem, Nat.reduceEqDiff, ↓reduceIte])
  rcases ite_cases hP with ⟨hc, hP⟩ | ⟨hc, hP⟩
  · refine guard_is hc ?_
    (try simp only [go_sem, Nat.reduceEqDiff, ↓reduceIte])
    obtain ⟨s3, hs3, hP⟩ := bind_cases hP
    refine slS_of hs3 ?_
    (try simp only [go_sem, Nat.reduceEqDiff, ↓reduceIte])
    refine hold2 (then_n ?_)
    refine J_ret (fin_ret ?_)
    obtain rfl := Option.some.inj hP
    (try simp only [go_sem, Nat.reduceEqDiff, ↓reduceIte])
    exact fo []
  · refine guard_not hc ?_
    (try simp only [go_sem, Nat.reduceEqDiff, ↓reduceIte])
    refine hold2 (then_n ?_)
    refine J_ret (fin_ret ?_)
    obtain rfl := Option.some.inj hP
    (try simp only [go_sem, Nat.reduceEqDiff, ↓reduceIte])
    exact fo []
/-- strings.HasPrefix -/
def strings_HasPrefix (s1 : List UInt8) (prefix2 : List UInt8) : Option (Bool) :=
  (stringslite_HasPrefix s1 prefix2).bind fun r3 =>
  some r3
set_option maxRecDepth 100000 in
set_option maxHeartbeats 40000000 in
theorem strings_HasPrefix_ok {s1 : List UInt8} {prefix2 : List UInt8} {r : Bool} (hP : strings_HasPrefix s1 prefix2 = some r) : CallOK Tryd.prog 25 [.str s1, .str prefix2] (.bool r) [] := by
  unfold strings_HasPrefix at hP
  refine co 8 [.tmp 4] Tryd.func25 ?_
  refine J_seq ?_
  refine J_region (by kernel_rfl) ?_
  (try simp only [go_sem, Nat.reduceEqDiff, ↓reduceIte])
  refine hold2 (then_n ?_)
  refine J_seq ?_
  refine J_region (by kernel_rfl) ?_
  (try simp only [go_sem, Nat.reduceEqDiff, ↓reduceIte])
  obtain ⟨r3, hr3, hP⟩ := bind_cases hP
  refine call_ok [.str s1, .str prefix2] (stringslite_HasPrefix_ok hr3) ⟨argR_m false rfl, argR_m false rfl, trivial⟩ ?_
  (try simp only [go_sem, Nat.reduceEqDiff, ↓reduceIte])
  refine hold2 (then_n ?_)
  refine J_ret (fin_ret ?_)
  obtain rfl := Option.some.inj hP
  (try simp only [go_sem, Nat.reduceEqDiff, ↓reduceIte])
  exact fo []
/-- bytes.Equal -/
def bytes_Equal (a1 : List (UInt8)) (b2 : List (UInt8)) : Option (Bool) :=
  some (decide (a1 = b2))
set_option maxRecDepth 100000 in
set_option maxHeartbeats 40000000 in
theorem bytes_Equal_ok {a1 : List (UInt8)} {b2 : List (UInt8)} {r : Bool} (hP : bytes_Equal a1 b2 = some r) : CallOK Tryd.prog 88 [.view 1 (List.map encB a1), .view 1 (List.map encB b2)] (.bool r) [] := by
  unfold bytes_Equal at hP
  refine co 10 [.tmp 4] Tryd.func88 ?_
  refine J_seq ?_
  refine J_region (by kernel_rfl) ?_
  (try simp only [go_sem, Nat.reduceEqDiff, ↓reduceIte])
  refine hold2 (then_n ?_)
  refine J_seq ?_
  refine J_region (by kernel_rfl) ?_
  (try simp only [go_sem, Nat.reduceEqDiff, ↓reduceIte])
  first | refine bytesK_map ?_ | refine bytesK_of a1 rfl ?_
  (try simp only [go_sem, Nat.reduceEqDiff, ↓reduceIte])
  first | refine bytesK_map ?_ | refine bytesK_of b2 rfl ?_
  (try simp only [go_sem, Nat.reduceEqDiff, ↓reduceIte])
  refine hold2 (then_n ?_)
  refine J_ret (fin_ret ?_)
  obtain rfl := Option.some.inj hP
  (try simp only [go_sem, Nat.reduceEqDiff, ↓reduceIte])
  exact fo []
/-- bytes.HasPrefix -/
def bytes_HasPrefix (s1 : List (UInt8)) (prefix2 : List (UInt8)) : Option (Bool) :=
  if decide ((List.length prefix2 : Int) ≤ (List.length s1 : Int)) then
    (slL s1 0 (List.length prefix2 : Int)).bind fun s3 =>
    (bytes_Equal s3 prefix2).bind fun r4 =>
    some r4
  else
    some false
set_option maxRecDepth 100000 in
set_option maxHeartbeats 40000000 in
theorem bytes_HasPrefix_ok {s1 : List (UInt8)} {prefix2 : List (UInt8)} {r : Bool} (hP : bytes_HasPrefix s1 prefix2 = some r) : CallOK Tryd.prog 86 [.view 1 (List.map encB s1), .view 1 (List.map encB prefix2)] (.bool r) [] := by
  unfold bytes_HasPrefix at hP
  refine co 18 [.tmp 4] Tryd.func86 ?_
  refine J_seq ?_
  refine J_region (by kernel_rfl) ?_
  (try simp only [go_sem, Nat.reduceEqDiff, ↓reduceIte])
  refine hold2 (then_n ?_)
  refine J_seq ?_
  refine J_region (by kernel_rfl) ?_
  (try simp only [go_sem, Nat.reduceEqDiff, ↓reduceIte])
  rcases ite_cases hP with ⟨hc, hP⟩ | ⟨hc, hP⟩
  · refine guard_is hc ?_
    (try simp only [go_sem, Nat.reduceEqDiff, ↓reduceIte])
    obtain ⟨s3, hs3, hP⟩ := bind_cases hP
    refine slV_of hs3 ?_
    (try simp only [go_sem, Nat.reduceEqDiff, ↓reduceIte])
    obtain ⟨r4, hr4, hP⟩ := bind_cases hP
    refine call_ok [.view 1 (List.map encB s3), .view 1 (List.map encB prefix2)] (bytes_Equal_ok hr4) ⟨argR_m false rfl, argR_m false rfl, trivial⟩ ?_
    (try simp only [go_sem, Nat.reduceEqDiff, ↓reduceIte])
    refine hold2 (then_n ?_)
    refine J_ret (fin_ret ?_)
    obtain rfl := Option.some.inj hP
    (try simp only [go_sem, Nat.reduceEqDiff, ↓reduceIte])
    exact fo []
  · refine guard_not hc ?_
    (try simp only [go_sem, Nat.reduceEqDiff, ↓reduceIte])
    refine hold2 (then_n ?_)
    refine J_ret (fin_ret ?_)
    obtain rfl := Option.some.inj hP
    (try simp only [go_sem, Nat.reduceEqDiff, ↓reduceIte])
    exact fo []
/-- slices.Index[[]string,string] -/
def slices_Index_string_string_L7 (s1 : List (List UInt8)) (v2 : List UInt8) : Nat → Int → Option (Sum (Int) (Unit))
  | 0, _ => none
  | k6 + 1, v5 =>
    if decide (v5 < (List.length s1 : Int)) then
      (ixL s1 v5).bind fun x8 =>
      if decide (v2 = x8) then
        some (Sum.inl v5)
      else
        slices_Index_string_string_L7 s1 v2 k6 (iadd .i64 v5 1)
    else
      some (Sum.inr ())
def slices_Index_string_string (s1 : List (List UInt8)) (v2 : List UInt8) : Option (Int) :=
  (slices_Index_string_string_L7 s1 v2 140737488355328 0).bind fun o9 => match o9 with
  | Sum.inl r => some r
  | Sum.inr j10 =>
    some (-1)
set_option maxRecDepth 100000 in
set_option maxHeartbeats 40000000 in
theorem slices_Index_string_string_ok {s1 : List (List UInt8)} {v2 : List UInt8} {r : Int} (hP : slices_Index_string_string s1 v2 = some r) : CallOK Tryd.prog 107 [.view 1 (List.map encS s1), .str v2] (.int .i64 r) [] := by
  unfold slices_Index_string_string at hP
  refine co 19 [.tmp 4] Tryd.func107 ?_
  refine J_seq ?_
  refine J_region (by kernel_rfl) ?_
  (try simp only [go_sem, Nat.reduceEqDiff, ↓reduceIte])
  refine hold2 (then_n ?_)
  refine J_seq ?_
  refine J_seq ?_
  refine J_region (by kernel_rfl) ?_
  (try simp only [go_sem, Nat.reduceEqDiff, ↓reduceIte])
  refine hold2 (then_n ?_)
  obtain ⟨o9, hP, hQ7⟩ := bind_cases hP
  refine J_joinK0 (fun (s : Unit) => envL []) (fun (s : Unit) => []) (fun s => Sum.inr s = o9) ?_ ?_
  · refine J_block ?_
    refine J_loop (σ := Nat × Int) (fun (s : Nat × Int) => envL [(0, .view 1 (List.map encS s1)), (1, .str v2), (7, .int .i64 (List.length s1 : Int)), (8, .int .i64 s.2)]) (fun (s : Nat × Int) => []) (fun s => slices_Index_string_string_L7 s1 v2 s.1 s.2 = some o9) (fun s => s.1) (140737488355328, 0) hP (so []) ?_
    rintro ⟨k6, v5⟩ hP
    dsimp only at hP ⊢
    cases k6 with
    | zero => simp [slices_Index_string_string_L7] at hP
    | succ k6 =>
      simp only [slices_Index_string_string_L7] at hP
      refine J_seq ?_
      refine J_region (by kernel_rfl) ?_
      (try simp only [go_sem, Nat.reduceEqDiff, ↓reduceIte])
      refine hold2 (then_n ?_)
      refine J_seq ?_
      refine J_condV rfl ?_
      (try simp only [go_sem, Nat.reduceEqDiff, ↓reduceIte])
      rcases ite_cases hP with ⟨hc, hP⟩ | ⟨hc, hP⟩
      · refine condV_t hc ?_
        refine J_skip (then_n ?_)
        refine J_seq ?_
        refine J_block ?_
        refine J_seq ?_
        refine J_region (by kernel_rfl) ?_
        (try simp only [go_sem, Nat.reduceEqDiff, ↓reduceIte])
        refine hold2 (then_n ?_)
        refine J_seq ?_
        refine J_region (by kernel_rfl) ?_
        (try simp only [go_sem, Nat.reduceEqDiff, ↓reduceIte])
        obtain ⟨x8, hx8, hP⟩ := bind_cases hP
        refine ixV_of hx8 ?_
        (try simp only [go_sem, Nat.reduceEqDiff, ↓reduceIte])
        refine hold2 (then_n ?_)
        refine J_condV rfl ?_
        (try simp only [go_sem, Nat.reduceEqDiff, ↓reduceIte])
        rcases ite_cases hP with ⟨hc, hP⟩ | ⟨hc, hP⟩
        · refine condV_t hc ?_
          refine J_seq ?_
          refine J_region (by kernel_rfl) ?_
          (try simp only [go_sem, Nat.reduceEqDiff, ↓reduceIte])
          refine hold2 (then_n ?_)
          refine J_ret (block_ret (then_ret (loop_ret (block_ret (join_ret (then_ret (fin_ret ?_)))))))
          obtain rfl := Option.some.inj hP
          have hP := hQ7
          dsimp only at hP
          obtain rfl := Option.some.inj hP
          (try simp only [go_sem, Nat.reduceEqDiff, ↓reduceIte])
          exact fo []
        · refine condV_f hc ?_
          refine J_skip (block_n (then_n ?_))
          refine J_region (by kernel_rfl) ?_
          (try simp only [go_sem, Nat.reduceEqDiff, ↓reduceIte])
          refine hold2 ?_
          exact loop_n (k6, iadd .i64 v5 1) hP (Nat.lt_succ_self _) (so [])
      · refine condV_f hc ?_
        refine J_exit (then_exit (loop_exit (block_eq ?_)))
        exact join_n () (Option.some.inj hP) (so [])
  · intro j10 hs
    subst hs
    have hP := hQ7
    dsimp only at hP
    clear hQ7
    refine then_n ?_
    refine J_seq ?_
    refine J_region (by kernel_rfl) ?_
    (try simp only [go_sem, Nat.reduceEqDiff, ↓reduceIte])
    refine hold2 (then_n ?_)
    refine J_ret (fin_ret ?_)
    obtain rfl := Option.some.inj hP
    (try simp only [go_sem, Nat.reduceEqDiff, ↓reduceIte])
    exact fo []
/-- slices.Contains[[]string,string] -/
def slices_Contains_string_string (s1 : List (List UInt8)) (v2 : List UInt8) : Option (Bool) :=
  (slices_Index_string_string s1 v2).bind fun r3 =>
  some (decide (0 ≤ r3))
set_option maxRecDepth 100000 in
set_option maxHeartbeats 40000000 in
theorem slices_Contains_string_string_ok {s1 : List (List UInt8)} {v2 : List UInt8} {r : Bool} (hP : slices_Contains_string_string s1 v2 = some r) : CallOK Tryd.prog 91 [.view 1 (List.map encS s1), .str v2] (.bool r) [] := by
  unfold slices_Contains_string_string at hP
  refine co 9 [.tmp 4] Tryd.func91 ?_
  refine J_seq ?_
  refine J_region (by kernel_rfl) ?_
  (try simp only [go_sem, Nat.reduceEqDiff, ↓reduceIte])
  refine hold2 (then_n ?_)
  refine J_seq ?_
  refine J_region (by kernel_rfl) ?_
  (try simp only [go_sem, Nat.reduceEqDiff, ↓reduceIte])
  obtain ⟨r3, hr3, hP⟩ := bind_cases hP
  refine call_ok [.view 1 (List.map encS s1), .str v2] (slices_Index_string_string_ok hr3) ⟨argR_m false rfl, argR_m false rfl, trivial⟩ ?_
  (try simp only [go_sem, Nat.reduceEqDiff, ↓reduceIte])
  refine hold2 (then_n ?_)
  refine J_ret (fin_ret ?_)
  obtain rfl := Option.some.inj hP
  (try simp only [go_sem, Nat.reduceEqDiff, ↓reduceIte])
  exact fo []
end Go.Proofs.YtecpgelhhbbjmaaDoor
