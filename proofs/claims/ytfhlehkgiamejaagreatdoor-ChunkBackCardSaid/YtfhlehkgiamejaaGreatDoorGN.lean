/- Functions of the program, and pure ones that go the same ways: that the program's return what these compute. -/
import Derived.Test.YtfhlehkgiamejaaGreatDoorLibM
import Derived.Test.YtfhlehkgiamejaaGreatDoorAvPj
namespace Go.Proofs.YtfhlehkgiamejaaGreatDoor
open Go.Av
set_option linter.unusedVariables false
set_option linter.unusedSimpArgs false
/-- strings.IndexRune -/
def strings_IndexRune_L8 (s1 : List UInt8) : Nat → Nat → Option (Sum (Int) (Unit))
  | 0, _ => none
  | k8 + 1, l7 =>
    if decide (l7 < List.length s1) then
      if decide ((((decR s1 l7).1 : Nat) : Int) = 65533) then
        some (Sum.inl ((l7 : Nat) : Int))
      else
        strings_IndexRune_L8 s1 k8 (l7 + (decR s1 l7).2)
    else
      some (Sum.inr ())
def strings_IndexRune (s1 : List UInt8) (r2 : Int) : Option (Int) :=
  (show Option (Bool) from
    if decide (0 ≤ r2) then
      some (decide (r2 < 128))
    else
      some false).bind fun j4 =>
    if j4 then
      (indexByteX s1 (toB r2)).bind fun r5 =>
      some r5
    else
      if decide (r2 = 65533) then
        (strings_IndexRune_L8 s1 141836999983104 0).bind fun o9 => match o9 with
        | Sum.inl r => some r
        | Sum.inr j10 =>
          some (-1)
      else
        none
set_option maxRecDepth 100000 in
set_option maxHeartbeats 40000000 in
theorem strings_IndexRune_ok {s1 : List UInt8} {r2 : Int} {r : Int} (hP : strings_IndexRune s1 r2 = some r) : CallOK Tryz.prog 83 [.str s1, .int .i32 r2] (.int .i64 r) [] := by
  unfold strings_IndexRune at hP
  refine co 187 [.tmp 4] Tryz.func83 ?_
  refine J_seq ?_
  refine J_region (by kernel_rfl) ?_
  (try simp only [go_sem, Nat.reduceEqDiff, ↓reduceIte])
  refine hold2 (then_n ?_)
  refine J_block ?_
  obtain ⟨o3, hP, hQ3⟩ := bind_cases hP
  refine J_join (fun (s : Bool) => envL [(0, .str s1), (1, .int .i32 r2), (160, .bool s)]) (fun (s : Bool) => []) (fun s => s = o3) ?_ ?_
  · clear hQ3
    refine J_region (by kernel_rfl) ?_
    (try simp only [go_sem, Nat.reduceEqDiff, ↓reduceIte])
    rcases ite_cases hP with ⟨hc, hP⟩ | ⟨hc, hP⟩
    · refine guard_is hc ?_
      (try simp only [go_sem, Nat.reduceEqDiff, ↓reduceIte])
      refine hold2 ?_
      exact join_n (decide (r2 < 128)) (Option.some.inj hP) (so [])
    · refine guard_not hc ?_
      (try simp only [go_sem, Nat.reduceEqDiff, ↓reduceIte])
      refine hold2 ?_
      exact join_n false (Option.some.inj hP) (so [])
  · intro j4 hs
    subst hs
    have hP := hQ3
    clear hQ3
    refine J_condV rfl ?_
    (try simp only [go_sem, Nat.reduceEqDiff, ↓reduceIte])
    rcases ite_cases hP with ⟨hc, hP⟩ | ⟨hc, hP⟩
    · refine condV_t hc ?_
      refine J_seq ?_
      refine J_region (by kernel_rfl) ?_
      (try simp only [go_sem, Nat.reduceEqDiff, ↓reduceIte])
      obtain ⟨r5, hr5, hP⟩ := bind_cases hP
      refine call_ok [.str s1, .int .u8 (b2i (toB r2))] (indexByteX_ok hr5) ⟨argR_m false rfl, argR_m false rfl, trivial⟩ ?_
      (try simp only [go_sem, Nat.reduceEqDiff, ↓reduceIte])
      refine hold2 (then_n ?_)
      refine J_ret (block_ret (fin_ret ?_))
      obtain rfl := Option.some.inj hP
      (try simp only [go_sem, Nat.reduceEqDiff, ↓reduceIte])
      exact fo []
    · refine condV_f hc ?_
      refine J_seq ?_
      refine J_region (by kernel_rfl) ?_
      (try simp only [go_sem, Nat.reduceEqDiff, ↓reduceIte])
      refine hold2 (then_n ?_)
      refine J_condV rfl ?_
      (try simp only [go_sem, Nat.reduceEqDiff, ↓reduceIte])
      rcases ite_cases hP with ⟨hc, hP⟩ | ⟨hc, hP⟩
      · refine condV_t hc ?_
        refine J_seq ?_
        refine J_seq ?_
        refine J_region (by kernel_rfl) ?_
        (try simp only [go_sem, Nat.reduceEqDiff, ↓reduceIte])
        refine hold2 (then_n ?_)
        obtain ⟨o9, hP, hQ8⟩ := bind_cases hP
        refine J_joinK0 (fun (s : Unit) => envL []) (fun (s : Unit) => []) (fun s => Sum.inr s = o9) ?_ ?_
        · refine J_block ?_
          refine J_loop (σ := Nat × Nat) (fun (s : Nat × Nat) => envL [(175, .bptr 0 0)]) (fun (s : Nat × Nat) => [.iter s1 s.2]) (fun s => strings_IndexRune_L8 s1 s.1 s.2 = some o9) (fun s => s.1) (141836999983104, 0) hP (so [0]) ?_
          rintro ⟨k8, l7⟩ hP
          dsimp only at hP ⊢
          cases k8 with
          | zero => simp [strings_IndexRune_L8] at hP
          | succ k8 =>
            simp only [strings_IndexRune_L8] at hP
            refine J_seq ?_
            refine J_region (by kernel_rfl) ?_
            (try simp only [go_sem, Nat.reduceEqDiff, ↓reduceIte])
            rcases ite_cases hP with ⟨hc, hP⟩ | ⟨hc, hP⟩
            · refine guard_is hc ?_
              (try simp only [go_sem, Nat.reduceEqDiff, ↓reduceIte])
              refine hold2 (then_n ?_)
              refine J_seq ?_
              refine J_condV rfl ?_
              (try simp only [go_sem, Nat.reduceEqDiff, ↓reduceIte])
              refine J_skip (then_n ?_)
              refine J_block ?_
              refine J_seq ?_
              refine J_region (by kernel_rfl) ?_
              (try simp only [go_sem, Nat.reduceEqDiff, ↓reduceIte])
              refine hold2 (then_n ?_)
              refine J_seq ?_
              refine J_region (by kernel_rfl) ?_
              (try simp only [go_sem, Nat.reduceEqDiff, ↓reduceIte])
              refine hold2 (then_n ?_)
              refine J_condV rfl ?_
              (try simp only [go_sem, Nat.reduceEqDiff, ↓reduceIte])
              rcases ite_cases hP with ⟨hc, hP⟩ | ⟨hc, hP⟩
              · refine condV_t hc ?_
                refine J_seq ?_
                refine J_region (by kernel_rfl) ?_
                (try simp only [go_sem, Nat.reduceEqDiff, ↓reduceIte])
                refine hold2 (then_n ?_)
                refine J_ret (block_ret (loop_ret (block_ret (join_ret (then_ret (block_ret (fin_ret ?_)))))))
                obtain rfl := Option.some.inj hP
                have hP := hQ8
                dsimp only at hP
                obtain rfl := Option.some.inj hP
                (try simp only [go_sem, Nat.reduceEqDiff, ↓reduceIte])
                exact fo []
              · refine condV_f hc ?_
                refine J_skip (block_n ?_)
                exact loop_n (k8, l7 + (decR s1 l7).2) hP (Nat.lt_succ_self _) (so [0])
            · refine guard_not hc ?_
              (try simp only [go_sem, Nat.reduceEqDiff, ↓reduceIte])
              refine hold2 (then_n ?_)
              refine J_seq ?_
              refine J_condV rfl ?_
              (try simp only [go_sem, Nat.reduceEqDiff, ↓reduceIte])
              refine J_exit (then_exit (loop_exit (block_eq ?_)))
              exact join_n () (Option.some.inj hP) (so [])
        · intro j10 hs
          subst hs
          have hP := hQ8
          dsimp only at hP
          clear hQ8
          refine then_n ?_
          refine J_seq ?_
          refine J_region (by kernel_rfl) ?_
          (try simp only [go_sem, Nat.reduceEqDiff, ↓reduceIte])
          refine hold2 (then_n ?_)
          refine J_ret (block_ret (fin_ret ?_))
          obtain rfl := Option.some.inj hP
          (try simp only [go_sem, Nat.reduceEqDiff, ↓reduceIte])
          exact fo []
      · refine condV_f hc ?_
        refine J_seq ?_
        refine J_region (by kernel_rfl) ?_
        (try simp only [go_sem, Nat.reduceEqDiff, ↓reduceIte])
        cases hP
/-- colander/num.read -/
def num_read_L20 (r8 : List UInt8) (digits2 : List UInt8) (base3 : Int) : Nat → Int → Nat → Option (Sum (Int × Int) (Int))
  | 0, _, _ => none
  | k18 + 1, n16, l17 =>
    if decide (l17 < List.length r8) then
      (strings_IndexRune digits2 (((decR r8 l17).1 : Nat) : Int)).bind fun r21 =>
      (chk (decide (base3 ≠ 0))).bind fun _ =>
      if decide (iquo .i64 (isub .i64 9223372036854775807 r21) base3 < n16) then
        some (Sum.inl (0, 3))
      else
        num_read_L20 r8 digits2 base3 k18 (iadd .i64 (imul .i64 n16 base3) r21) (l17 + (decR r8 l17).2)
    else
      some (Sum.inr n16)
def num_read (s1 : List UInt8) (digits2 : List UInt8) (base3 : Int) : Option (Int × Int) :=
  (show Option (Bool) from
    if decide (s1 = []) then
      some true
    else
      (trimX s1 digits2).bind fun r6 =>
      some (!decide (r6 = []))).bind fun j7 =>
    if j7 then
      some (0, 2)
    else
      (lowerX s1).bind fun r8 =>
      (num_read_L20 r8 digits2 base3 141836999983104 0 0).bind fun o23 => match o23 with
      | Sum.inl r => some r
      | Sum.inr j24 =>
        some (j24, 0)
set_option maxRecDepth 100000 in
set_option maxHeartbeats 40000000 in
theorem num_read_ok {s1 : List UInt8} {digits2 : List UInt8} {base3 : Int} {r : Int × Int} (hP : num_read s1 digits2 base3 = some r) : CallOK Tryz.prog 75 [.str s1, .str digits2, .int .i64 base3] (.tup [.int .i64 r.1, .int .i64 r.2]) [] := by
  unfold num_read at hP
  refine co 41 [.tmp 6, .tmp 7] Tryz.func75 ?_
  refine J_seq ?_
  refine J_region (by kernel_rfl) ?_
  (try simp only [go_sem, Nat.reduceEqDiff, ↓reduceIte])
  refine hold2 (then_n ?_)
  refine J_seq ?_
  obtain ⟨o5, hP, hQ5⟩ := bind_cases hP
  refine J_join (fun (s : Bool) => envL [(0, .str s1), (1, .str digits2), (2, .int .i64 base3), (19, .bool s)]) (fun (s : Bool) => []) (fun s => s = o5) ?_ ?_
  · clear hQ5
    refine J_region (by kernel_rfl) ?_
    (try simp only [go_sem, Nat.reduceEqDiff, ↓reduceIte])
    rcases ite_cases hP with ⟨hc, hP⟩ | ⟨hc, hP⟩
    · refine guard_not hc ?_
      (try simp only [go_sem, Nat.reduceEqDiff, ↓reduceIte])
      refine hold2 ?_
      exact join_n true (Option.some.inj hP) (so [])
    · refine guard_is hc ?_
      (try simp only [go_sem, Nat.reduceEqDiff, ↓reduceIte])
      obtain ⟨r6, hr6, hP⟩ := bind_cases hP
      refine call_ok [.str s1, .str digits2] (trimX_ok hr6) ⟨argR_m false rfl, argR_m false rfl, trivial⟩ ?_
      (try simp only [go_sem, Nat.reduceEqDiff, ↓reduceIte])
      refine hold2 ?_
      exact join_n (!decide (r6 = [])) (Option.some.inj hP) (so [])
  · intro j7 hs
    subst hs
    have hP := hQ5
    clear hQ5
    refine J_condV rfl ?_
    (try simp only [go_sem, Nat.reduceEqDiff, ↓reduceIte])
    rcases ite_cases hP with ⟨hc, hP⟩ | ⟨hc, hP⟩
    · refine condV_t hc ?_
      refine J_seq ?_
      refine J_region (by kernel_rfl) ?_
      (try simp only [go_sem, Nat.reduceEqDiff, ↓reduceIte])
      refine hold2 (then_n ?_)
      refine J_ret (then_ret (fin_ret ?_))
      obtain rfl := Option.some.inj hP
      (try simp only [go_sem, Nat.reduceEqDiff, ↓reduceIte])
      exact fo []
    · refine condV_f hc ?_
      refine J_skip (then_n ?_)
      refine J_seq ?_
      refine J_region (by kernel_rfl) ?_
      (try simp only [go_sem, Nat.reduceEqDiff, ↓reduceIte])
      refine hold2 (then_n ?_)
      refine J_seq ?_
      refine J_seq ?_
      refine J_region (by kernel_rfl) ?_
      (try simp only [go_sem, Nat.reduceEqDiff, ↓reduceIte])
      obtain ⟨r8, hr8, hP⟩ := bind_cases hP
      refine call_ok [.str s1] (lowerX_ok hr8) ⟨argR_m false rfl, trivial⟩ ?_
      (try simp only [go_sem, Nat.reduceEqDiff, ↓reduceIte])
      refine hold2 (then_n ?_)
      obtain ⟨o23, hP, hQ20⟩ := bind_cases hP
      refine J_joinK0 (fun (s : Int) => envL [(8, .int .i64 s)]) (fun (s : Int) => []) (fun s => Sum.inr s = o23) ?_ ?_
      · refine J_block ?_
        refine J_loop (σ := Nat × Int × Nat) (fun (s : Nat × Int × Nat) => envL [(1, .str digits2), (2, .int .i64 base3), (8, .int .i64 s.2.1), (22, .bptr 0 0)]) (fun (s : Nat × Int × Nat) => [.iter r8 s.2.2]) (fun s => num_read_L20 r8 digits2 base3 s.1 s.2.1 s.2.2 = some o23) (fun s => s.1) (141836999983104, 0, 0) hP (so [0]) ?_
        rintro ⟨k18, n16, l17⟩ hP
        dsimp only at hP ⊢
        cases k18 with
        | zero => simp [num_read_L20] at hP
        | succ k18 =>
          simp only [num_read_L20] at hP
          refine J_seq ?_
          refine J_region (by kernel_rfl) ?_
          (try simp only [go_sem, Nat.reduceEqDiff, ↓reduceIte])
          rcases ite_cases hP with ⟨hc, hP⟩ | ⟨hc, hP⟩
          · refine guard_is hc ?_
            (try simp only [go_sem, Nat.reduceEqDiff, ↓reduceIte])
            refine hold2 (then_n ?_)
            refine J_seq ?_
            refine J_condV rfl ?_
            (try simp only [go_sem, Nat.reduceEqDiff, ↓reduceIte])
            refine J_skip (then_n ?_)
            refine J_block ?_
            refine J_seq ?_
            refine J_region (by kernel_rfl) ?_
            (try simp only [go_sem, Nat.reduceEqDiff, ↓reduceIte])
            refine hold2 (then_n ?_)
            refine J_seq ?_
            refine J_region (by kernel_rfl) ?_
            (try simp only [go_sem, Nat.reduceEqDiff, ↓reduceIte])
            obtain ⟨r21, hr21, hP⟩ := bind_cases hP
            refine call_ok [.str digits2, .int .i32 (((decR r8 l17).1 : Nat) : Int)] (strings_IndexRune_ok hr21) ⟨argR_m false rfl, argR_m false rfl, trivial⟩ ?_
            (try simp only [go_sem, Nat.reduceEqDiff, ↓reduceIte])
            refine hold2 (then_n ?_)
            refine J_seq ?_
            refine J_seq ?_
            refine J_region (by kernel_rfl) ?_
            (try simp only [go_sem, Nat.reduceEqDiff, ↓reduceIte])
            obtain ⟨_, hz22, hP⟩ := bind_cases hP
            refine chk_of (chk_prop hz22) ?_
            (try simp only [go_sem, Nat.reduceEqDiff, ↓reduceIte])
            refine hold2 (then_n ?_)
            refine J_condV rfl ?_
            (try simp only [go_sem, Nat.reduceEqDiff, ↓reduceIte])
            rcases ite_cases hP with ⟨hc, hP⟩ | ⟨hc, hP⟩
            · refine condV_t hc ?_
              refine J_seq ?_
              refine J_region (by kernel_rfl) ?_
              (try simp only [go_sem, Nat.reduceEqDiff, ↓reduceIte])
              refine hold2 (then_n ?_)
              refine J_ret (then_ret (block_ret (loop_ret (block_ret (join_ret (then_ret (fin_ret ?_)))))))
              obtain rfl := Option.some.inj hP
              have hP := hQ20
              dsimp only at hP
              obtain rfl := Option.some.inj hP
              (try simp only [go_sem, Nat.reduceEqDiff, ↓reduceIte])
              exact fo []
            · refine condV_f hc ?_
              refine J_skip (then_n ?_)
              refine J_region (by kernel_rfl) ?_
              (try simp only [go_sem, Nat.reduceEqDiff, ↓reduceIte])
              refine hold2 (block_n ?_)
              exact loop_n (k18, iadd .i64 (imul .i64 n16 base3) r21, l17 + (decR r8 l17).2) hP (Nat.lt_succ_self _) (so [0])
          · refine guard_not hc ?_
            (try simp only [go_sem, Nat.reduceEqDiff, ↓reduceIte])
            refine hold2 (then_n ?_)
            refine J_seq ?_
            refine J_condV rfl ?_
            (try simp only [go_sem, Nat.reduceEqDiff, ↓reduceIte])
            refine J_exit (then_exit (loop_exit (block_eq ?_)))
            exact join_n n16 (Option.some.inj hP) (so [])
      · intro j24 hs
        subst hs
        have hP := hQ20
        dsimp only at hP
        clear hQ20
        refine then_n ?_
        refine J_seq ?_
        refine J_region (by kernel_rfl) ?_
        (try simp only [go_sem, Nat.reduceEqDiff, ↓reduceIte])
        refine hold2 (then_n ?_)
        refine J_ret (fin_ret ?_)
        obtain rfl := Option.some.inj hP
        (try simp only [go_sem, Nat.reduceEqDiff, ↓reduceIte])
        exact fo []
/-- colander/num.Decimal -/
def num_Decimal (s1 : List UInt8) : Option (Int × Int) :=
  (num_read s1 [48, 49, 50, 51, 52, 53, 54, 55, 56, 57] 10).bind fun r2 =>
  some (r2.1, r2.2)
set_option maxRecDepth 100000 in
set_option maxHeartbeats 40000000 in
theorem num_Decimal_ok {s1 : List UInt8} {r : Int × Int} (hP : num_Decimal s1 = some r) : CallOK Tryz.prog 71 [.str s1] (.tup [.int .i64 r.1, .int .i64 r.2]) [] := by
  unfold num_Decimal at hP
  refine co 8 [.tmp 2, .tmp 3] Tryz.func71 ?_
  refine J_seq ?_
  refine J_region (by kernel_rfl) ?_
  (try simp only [go_sem, Nat.reduceEqDiff, ↓reduceIte])
  refine hold2 (then_n ?_)
  refine J_seq ?_
  refine J_region (by kernel_rfl) ?_
  (try simp only [go_sem, Nat.reduceEqDiff, ↓reduceIte])
  obtain ⟨r2, hr2, hP⟩ := bind_cases hP
  refine call_ok [.str s1, .str [48, 49, 50, 51, 52, 53, 54, 55, 56, 57], .int .i64 10] (num_read_ok hr2) ⟨argR_m false rfl, argR_m false rfl, argR_m false rfl, trivial⟩ ?_
  (try simp only [go_sem, Nat.reduceEqDiff, ↓reduceIte])
  refine hold2 (then_n ?_)
  refine J_ret (fin_ret ?_)
  obtain rfl := Option.some.inj hP
  (try simp only [go_sem, Nat.reduceEqDiff, ↓reduceIte])
  exact fo []
/-- colander/num.Hex -/
def num_Hex (s1 : List UInt8) : Option (Int × Int) :=
  (num_read s1 [48, 49, 50, 51, 52, 53, 54, 55, 56, 57, 97, 98, 99, 100, 101, 102, 65, 66, 67, 68, 69, 70] 16).bind fun r2 =>
  some (r2.1, r2.2)
set_option maxRecDepth 100000 in
set_option maxHeartbeats 40000000 in
theorem num_Hex_ok {s1 : List UInt8} {r : Int × Int} (hP : num_Hex s1 = some r) : CallOK Tryz.prog 62 [.str s1] (.tup [.int .i64 r.1, .int .i64 r.2]) [] := by
  unfold num_Hex at hP
  refine co 8 [.tmp 2, .tmp 3] Tryz.func62 ?_
  refine J_seq ?_
  refine J_region (by kernel_rfl) ?_
  (try simp only [go_sem, Nat.reduceEqDiff, ↓reduceIte])
  refine hold2 (then_n ?_)
  refine J_seq ?_
  refine J_region (by kernel_rfl) ?_
  (try simp only [go_sem, Nat.reduceEqDiff, ↓reduceIte])
  obtain ⟨r2, hr2, hP⟩ := bind_cases hP
  refine call_ok [.str s1, .str [48, 49, 50, 51, 52, 53, 54, 55, 56, 57, 97, 98, 99, 100, 101, 102, 65, 66, 67, 68, 69, 70], .int .i64 16] (num_read_ok hr2) ⟨argR_m false rfl, argR_m false rfl, argR_m false rfl, trivial⟩ ?_
  (try simp only [go_sem, Nat.reduceEqDiff, ↓reduceIte])
  refine hold2 (then_n ?_)
  refine J_ret (fin_ret ?_)
  obtain rfl := Option.some.inj hP
  (try simp only [go_sem, Nat.reduceEqDiff, ↓reduceIte])
  exact fo []
/-- strconv.FormatInt -/
def strconv_FormatInt (i1 : Int) (base2 : Int) : Option ((List UInt8)) :=
  (fmtX i1 base2).bind fun r3 =>
  some r3
set_option maxRecDepth 100000 in
set_option maxHeartbeats 40000000 in
theorem strconv_FormatInt_ok {i1 : Int} {base2 : Int} {r : (List UInt8)} (hP : strconv_FormatInt i1 base2 = some r) : CallOK Tryz.prog 21 [.int .i64 i1, .int .i64 base2] (.str r) [] := by
  unfold strconv_FormatInt at hP
  refine co 8 [.tmp 4] Tryz.func21 ?_
  refine J_seq ?_
  refine J_region (by kernel_rfl) ?_
  (try simp only [go_sem, Nat.reduceEqDiff, ↓reduceIte])
  refine hold2 (then_n ?_)
  refine J_seq ?_
  refine J_region (by kernel_rfl) ?_
  (try simp only [go_sem, Nat.reduceEqDiff, ↓reduceIte])
  obtain ⟨r3, hr3, hP⟩ := bind_cases hP
  refine call_ok [.int .i64 i1, .int .i64 base2] (fmtX_ok hr3) ⟨argR_m false rfl, argR_m false rfl, trivial⟩ ?_
  (try simp only [go_sem, Nat.reduceEqDiff, ↓reduceIte])
  refine hold2 (then_n ?_)
  refine J_ret (fin_ret ?_)
  obtain rfl := Option.some.inj hP
  (try simp only [go_sem, Nat.reduceEqDiff, ↓reduceIte])
  exact fo []
/-- colander/num.write -/
def num_write (n1 : Int) (base2 : Int) : Option ((List UInt8)) :=
  if decide (n1 < 0) then
    some []
  else
    (strconv_FormatInt n1 base2).bind fun r3 =>
    some r3
set_option maxRecDepth 100000 in
set_option maxHeartbeats 40000000 in
theorem num_write_ok {n1 : Int} {base2 : Int} {r : (List UInt8)} (hP : num_write n1 base2 = some r) : CallOK Tryz.prog 19 [.int .i64 n1, .int .i64 base2] (.str r) [] := by
  unfold num_write at hP
  refine co 10 [.tmp 4] Tryz.func19 ?_
  refine J_seq ?_
  refine J_region (by kernel_rfl) ?_
  (try simp only [go_sem, Nat.reduceEqDiff, ↓reduceIte])
  refine hold2 (then_n ?_)
  refine J_seq ?_
  refine J_seq ?_
  refine J_region (by kernel_rfl) ?_
  (try simp only [go_sem, Nat.reduceEqDiff, ↓reduceIte])
  refine hold2 (then_n ?_)
  refine J_condV rfl ?_
  (try simp only [go_sem, Nat.reduceEqDiff, ↓reduceIte])
  rcases ite_cases hP with ⟨hc, hP⟩ | ⟨hc, hP⟩
  · refine condV_t hc ?_
    refine J_seq ?_
    refine J_region (by kernel_rfl) ?_
    (try simp only [go_sem, Nat.reduceEqDiff, ↓reduceIte])
    refine hold2 (then_n ?_)
    refine J_ret (then_ret (fin_ret ?_))
    obtain rfl := Option.some.inj hP
    (try simp only [go_sem, Nat.reduceEqDiff, ↓reduceIte])
    exact fo []
  · refine condV_f hc ?_
    refine J_skip (then_n ?_)
    refine J_seq ?_
    refine J_region (by kernel_rfl) ?_
    (try simp only [go_sem, Nat.reduceEqDiff, ↓reduceIte])
    obtain ⟨r3, hr3, hP⟩ := bind_cases hP
    refine call_ok [.int .i64 n1, .int .i64 base2] (strconv_FormatInt_ok hr3) ⟨argR_m false rfl, argR_m false rfl, trivial⟩ ?_
    (try simp only [go_sem, Nat.reduceEqDiff, ↓reduceIte])
    refine hold2 (then_n ?_)
    refine J_ret (fin_ret ?_)
    obtain rfl := Option.some.inj hP
    (try simp only [go_sem, Nat.reduceEqDiff, ↓reduceIte])
    exact fo []
/-- colander/num.Hexes -/
def num_Hexes (n1 : Int) : Option ((List UInt8)) :=
  (num_write n1 16).bind fun r2 =>
  some r2
set_option maxRecDepth 100000 in
set_option maxHeartbeats 40000000 in
theorem num_Hexes_ok {n1 : Int} {r : (List UInt8)} (hP : num_Hexes n1 = some r) : CallOK Tryz.prog 17 [.int .i64 n1] (.str r) [] := by
  unfold num_Hexes at hP
  refine co 5 [.tmp 2] Tryz.func17 ?_
  refine J_seq ?_
  refine J_region (by kernel_rfl) ?_
  (try simp only [go_sem, Nat.reduceEqDiff, ↓reduceIte])
  refine hold2 (then_n ?_)
  refine J_seq ?_
  refine J_region (by kernel_rfl) ?_
  (try simp only [go_sem, Nat.reduceEqDiff, ↓reduceIte])
  obtain ⟨r2, hr2, hP⟩ := bind_cases hP
  refine call_ok [.int .i64 n1, .int .i64 16] (num_write_ok hr2) ⟨argR_m false rfl, argR_m false rfl, trivial⟩ ?_
  (try simp only [go_sem, Nat.reduceEqDiff, ↓reduceIte])
  refine hold2 (then_n ?_)
  refine J_ret (fin_ret ?_)
  obtain rfl := Option.some.inj hP
  (try simp only [go_sem, Nat.reduceEqDiff, ↓reduceIte])
  exact fo []
end Go.Proofs.YtfhlehkgiamejaaGreatDoor
