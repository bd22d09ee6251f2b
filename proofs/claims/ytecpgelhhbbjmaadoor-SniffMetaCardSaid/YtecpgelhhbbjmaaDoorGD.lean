/- Functions of the program, and pure ones that go the same ways: that the program's return what these compute. -/
import Derived.Test.YtecpgelhhbbjmaaDoorGA
import Derived.Test.YtecpgelhhbbjmaaDoorAvPj
namespace Go.Proofs.YtecpgelhhbbjmaaDoor
open Go.Av
set_option linter.unusedVariables false
set_option linter.unusedSimpArgs false
/-- colander/colanderref09.Small -/
def ref09_Small (c1 : UInt8) : Option (UInt8) :=
  (show Option (Bool) from
    if decide (b2i (bC 65) ≤ b2i c1) then
      some (decide (b2i c1 ≤ b2i (bC 90)))
    else
      some false).bind fun j3 =>
    if j3 then
      some ((c1 - (bC 65)) + (bC 97))
    else
      some c1
set_option maxRecDepth 100000 in
set_option maxHeartbeats 40000000 in
theorem ref09_Small_ok {c1 : UInt8} {r : UInt8} (hP : ref09_Small c1 = some r) : CallOK Tryd.prog 62 [.int .u8 (b2i c1)] (.int .u8 (b2i r)) [] := by
  unfold ref09_Small at hP
  refine co 13 [.tmp 2] Tryd.func62 ?_
  refine J_seq ?_
  refine J_region (by kernel_rfl) ?_
  (try simp only [go_sem, Nat.reduceEqDiff, ↓reduceIte])
  refine hold2 (then_n ?_)
  refine J_seq ?_
  obtain ⟨o2, hP, hQ2⟩ := bind_cases hP
  refine J_join (fun (s : Bool) => envL [(0, .int .u8 (b2i c1)), (8, .bool s)]) (fun (s : Bool) => []) (fun s => s = o2) ?_ ?_
  · clear hQ2
    refine J_region (by kernel_rfl) ?_
    (try simp only [go_sem, Nat.reduceEqDiff, ↓reduceIte])
    rcases ite_cases hP with ⟨hc, hP⟩ | ⟨hc, hP⟩
    · refine guard_is hc ?_
      (try simp only [go_sem, Nat.reduceEqDiff, ↓reduceIte])
      refine hold2 ?_
      exact join_n (decide (b2i c1 ≤ b2i (bC 90))) (Option.some.inj hP) (so [])
    · refine guard_not hc ?_
      (try simp only [go_sem, Nat.reduceEqDiff, ↓reduceIte])
      refine hold2 ?_
      exact join_n false (Option.some.inj hP) (so [])
  · intro j3 hs
    subst hs
    have hP := hQ2
    clear hQ2
    refine J_condV rfl ?_
    (try simp only [go_sem, Nat.reduceEqDiff, ↓reduceIte])
    rcases ite_cases hP with ⟨hc, hP⟩ | ⟨hc, hP⟩
    · refine condV_t hc ?_
      refine J_seq ?_
      refine J_region (by kernel_rfl) ?_
      (try simp only [go_sem, Nat.reduceEqDiff, ↓reduceIte])
      refine hold2 (then_n ?_)
      refine J_ret (then_ret (fin_ret ?_))
      obtain rfl := Option.some.inj hP
      (try simp only [go_sem, Nat.reduceEqDiff, ↓reduceIte])
      exact fo []
    · refine condV_f hc ?_
      refine J_skip (then_n ?_)
      refine J_seq ?_
      refine J_region (by kernel_rfl) ?_
      (try simp only [go_sem, Nat.reduceEqDiff, ↓reduceIte])
      refine hold2 (then_n ?_)
      refine J_ret (fin_ret ?_)
      obtain rfl := Option.some.inj hP
      (try simp only [go_sem, Nat.reduceEqDiff, ↓reduceIte])
      exact fo []
/-- colander/colanderref09.Space -/
def ref09_Space (c1 : UInt8) : Option (Bool) :=
  if decide (b2i c1 = b2i (bC 9)) then
    some true
  else
    if decide (b2i c1 = b2i (bC 10)) then
      some true
    else
      if decide (b2i c1 = b2i (bC 12)) then
        some true
      else
        if decide (b2i c1 = b2i (bC 13)) then
          some true
        else
          some (decide (b2i c1 = b2i (bC 32)))
set_option maxRecDepth 100000 in
set_option maxHeartbeats 40000000 in
theorem ref09_Space_ok {c1 : UInt8} {r : Bool} (hP : ref09_Space c1 = some r) : CallOK Tryd.prog 35 [.int .u8 (b2i c1)] (.bool r) [] := by
  unfold ref09_Space at hP
  refine co 21 [.tmp 2] Tryd.func35 ?_
  refine J_seq ?_
  refine J_region (by kernel_rfl) ?_
  (try simp only [go_sem, Nat.reduceEqDiff, ↓reduceIte])
  refine hold2 (then_n ?_)
  refine J_seq ?_
  refine J_region (by kernel_rfl) ?_
  (try simp only [go_sem, Nat.reduceEqDiff, ↓reduceIte])
  rcases ite_cases hP with ⟨hc, hP⟩ | ⟨hc, hP⟩
  · refine guard_not hc ?_
    (try simp only [go_sem, Nat.reduceEqDiff, ↓reduceIte])
    refine hold2 (then_n ?_)
    refine J_ret (fin_ret ?_)
    obtain rfl := Option.some.inj hP
    (try simp only [go_sem, Nat.reduceEqDiff, ↓reduceIte])
    exact fo []
  · refine guard_is hc ?_
    (try simp only [go_sem, Nat.reduceEqDiff, ↓reduceIte])
    rcases ite_cases hP with ⟨hc, hP⟩ | ⟨hc, hP⟩
    · refine guard_not hc ?_
      (try simp only [go_sem, Nat.reduceEqDiff, ↓reduceIte])
      refine hold2 (then_n ?_)
      refine J_ret (fin_ret ?_)
      obtain rfl := Option.some.inj hP
      (try simp only [go_sem, Nat.reduceEqDiff, ↓reduceIte])
      exact fo []
    · refine guard_is hc ?_
      (try simp only [go_sem, Nat.reduceEqDiff, ↓reduceIte])
      rcases ite_cases hP with ⟨hc, hP⟩ | ⟨hc, hP⟩
      · refine guard_not hc ?_
        (try simp only [go_sem, Nat.reduceEqDiff, ↓reduceIte])
        refine hold2 (then_n ?_)
        refine J_ret (fin_ret ?_)
        obtain rfl := Option.some.inj hP
        (try simp only [go_sem, Nat.reduceEqDiff, ↓reduceIte])
        exact fo []
      · refine guard_is hc ?_
        (try simp only [go_sem, Nat.reduceEqDiff, ↓reduceIte])
        rcases ite_cases hP with ⟨hc, hP⟩ | ⟨hc, hP⟩
        · refine guard_not hc ?_
          (try simp only [go_sem, Nat.reduceEqDiff, ↓reduceIte])
          refine hold2 (then_n ?_)
          refine J_ret (fin_ret ?_)
          obtain rfl := Option.some.inj hP
          (try simp only [go_sem, Nat.reduceEqDiff, ↓reduceIte])
          exact fo []
        · refine guard_is hc ?_
          (try simp only [go_sem, Nat.reduceEqDiff, ↓reduceIte])
          refine hold2 (then_n ?_)
          refine J_ret (fin_ret ?_)
          obtain rfl := Option.some.inj hP
          (try simp only [go_sem, Nat.reduceEqDiff, ↓reduceIte])
          exact fo []
/-- colander/colanderref09.Lower -/
def ref09_Lower_L17 : Nat → Int → (List (UInt8)) → Option ((List (UInt8)))
  | 0, _, _ => none
  | k14 + 1, i12, l13 =>
    if decide (i12 < ((List.length l13 : Nat) : Int)) then
      (ixL l13 i12).bind fun x18 =>
      (ref09_Small x18).bind fun r19 =>
      (ixL l13 i12).bind fun x20 =>
      ref09_Lower_L17 k14 (iadd .i64 i12 1) (List.set l13 (Int.toNat i12) r19)
    else
      some l13
def ref09_Lower (s1 : List UInt8) : Option ((List UInt8)) :=
  (szC (List.length s1)).bind fun _ =>
  (ref09_Lower_L17  140737488355328 0 s1).bind fun j22 =>
    some j22
set_option maxRecDepth 100000 in
set_option maxHeartbeats 40000000 in
theorem ref09_Lower_ok {s1 : List UInt8} {r : (List UInt8)} (hP : ref09_Lower s1 = some r) : CallOK Tryd.prog 51 [.str s1] (.str r) [] := by
  unfold ref09_Lower at hP
  refine co 23 [.tmp 2] Tryd.func51 ?_
  refine J_seq ?_
  refine J_region (by kernel_rfl) ?_
  (try simp only [go_sem, Nat.reduceEqDiff, ↓reduceIte])
  refine hold2 (then_n ?_)
  refine J_seq ?_
  refine J_region (by kernel_rfl) ?_
  (try simp only [go_sem, Nat.reduceEqDiff, ↓reduceIte])
  obtain ⟨_, hz2, hP⟩ := bind_cases hP
  refine chk_of (szC_63 hz2) ?_
  (try simp only [go_sem, Nat.reduceEqDiff, ↓reduceIte])
  refine hold2 (then_n ?_)
  refine J_seq ?_
  refine J_seq ?_
  refine J_region (by kernel_rfl) ?_
  (try simp only [go_sem, Nat.reduceEqDiff, ↓reduceIte])
  refine hold2 (then_n ?_)
  obtain ⟨o21, hP, hQ17⟩ := bind_cases hP
  refine J_joinK0 (fun (s : (List (UInt8))) => envL [(3, .own 0 0 0 (List.length s))]) (fun (s : (List (UInt8))) => [.slice 0 5 1 (List.map encB s)]) (fun s => s = o21) ?_ ?_
  · clear hQ17
    refine J_block ?_
    refine J_loop (σ := Nat × Int × (List (UInt8))) (fun (s : Nat × Int × (List (UInt8))) => envL [(3, .own 0 0 0 (List.length s.2.2)), (4, .int .i64 s.2.1)]) (fun (s : Nat × Int × (List (UInt8))) => [.slice 0 5 1 (List.map encB s.2.2)]) (fun s => ref09_Lower_L17  s.1 s.2.1 s.2.2 = some o21) (fun s => s.1) (140737488355328, 0, s1) hP (so [0]) ?_
    rintro ⟨k14, i12, l13⟩ hP
    dsimp only at hP ⊢
    cases k14 with
    | zero => simp [ref09_Lower_L17] at hP
    | succ k14 =>
      simp only [ref09_Lower_L17] at hP
      refine J_seq ?_
      refine J_seq ?_
      refine J_region (by kernel_rfl) ?_
      (try simp only [go_sem, Nat.reduceEqDiff, ↓reduceIte])
      refine hold2 (then_n ?_)
      refine J_condV rfl ?_
      (try simp only [go_sem, Nat.reduceEqDiff, ↓reduceIte])
      rcases ite_cases hP with ⟨hc, hP⟩ | ⟨hc, hP⟩
      · refine condV_t hc ?_
        refine J_skip (then_n ?_)
        refine J_seq ?_
        refine J_block ?_
        refine J_region (by kernel_rfl) ?_
        (try simp only [go_sem, Nat.reduceEqDiff, ↓reduceIte])
        obtain ⟨x18, hx18, hP⟩ := bind_cases hP
        refine ixO_of hx18 ?_
        (try simp only [go_sem, Nat.reduceEqDiff, ↓reduceIte])
        refine getK_of (f := encB) hx18 ?_
        (try simp only [go_sem, Nat.reduceEqDiff, ↓reduceIte])
        obtain ⟨r19, hr19, hP⟩ := bind_cases hP
        refine call_ok [.int .u8 (b2i x18)] (ref09_Small_ok hr19) ⟨argR_m false rfl, trivial⟩ ?_
        (try simp only [go_sem, Nat.reduceEqDiff, ↓reduceIte])
        obtain ⟨x20, hx20, hP⟩ := bind_cases hP
        refine ixO_of hx20 ?_
        (try simp only [go_sem, Nat.reduceEqDiff, ↓reduceIte])
        refine getK_of (f := encB) hx20 ?_
        (try simp only [go_sem, Nat.reduceEqDiff, ↓reduceIte])
        refine hold2 (block_n (then_n ?_))
        refine J_region (by kernel_rfl) ?_
        (try simp only [go_sem, Nat.reduceEqDiff, ↓reduceIte])
        refine hold2 ?_
        exact loop_n (k14, iadd .i64 i12 1, List.set l13 (Int.toNat i12) r19) hP (Nat.lt_succ_self _) (so [0])
      · refine condV_f hc ?_
        refine J_exit (then_exit (loop_exit (block_eq ?_)))
        exact join_n l13 (Option.some.inj hP) (so [0])
  · intro j22 hs
    subst hs
    have hP := hQ17
    clear hQ17
    refine then_n ?_
    refine J_seq ?_
    refine J_region (by kernel_rfl) ?_
    (try simp only [go_sem, Nat.reduceEqDiff, ↓reduceIte])
    first | refine bytesK_map ?_ | refine bytesK_of j22 rfl ?_
    (try simp only [go_sem, Nat.reduceEqDiff, ↓reduceIte])
    refine hold2 (then_n ?_)
    refine J_ret (fin_ret ?_)
    obtain rfl := Option.some.inj hP
    (try simp only [go_sem, Nat.reduceEqDiff, ↓reduceIte])
    exact fo []
/-- colander/colanderref09.Labels -/
def ref09_Labels (c1 : Int) : Option ((List (List UInt8))) :=
  if decide (c1 = 1) then
    some [[117, 116, 102, 45, 56], [117, 116, 102, 56], [117, 110, 105, 99, 111, 100, 101, 45, 49, 45, 49, 45, 117, 116, 102, 45, 56], [117, 110, 105, 99, 111, 100, 101, 49, 49, 117, 116, 102, 56], [117, 110, 105, 99, 111, 100, 101, 50, 48, 117, 116, 102, 56], [120, 45, 117, 110, 105, 99, 111, 100, 101, 50, 48, 117, 116, 102, 56]]
  else
    if decide (c1 = 2) then
      some [[119, 105, 110, 100, 111, 119, 115, 45, 49, 50, 53, 50], [99, 112, 49, 50, 53, 50], [120, 45, 99, 112, 49, 50, 53, 50], [105, 115, 111, 45, 56, 56, 53, 57, 45, 49], [105, 115, 111, 56, 56, 53, 57, 45, 49], [105, 115, 111, 56, 56, 53, 57, 49], [105, 115, 111, 95, 56, 56, 53, 57, 45, 49], [108, 97, 116, 105, 110, 49], [108, 49], [97, 115, 99, 105, 105], [117, 115, 45, 97, 115, 99, 105, 105]]
    else
      if decide (c1 = 3) then
        some [[117, 116, 102, 45, 49, 54], [117, 116, 102, 45, 49, 54, 108, 101], [117, 116, 102, 45, 49, 54, 98, 101], [117, 110, 105, 99, 111, 100, 101], [117, 99, 115, 45, 50]]
      else
        some ([] : List (List UInt8))
set_option maxRecDepth 100000 in
set_option maxHeartbeats 40000000 in
theorem ref09_Labels_ok {c1 : Int} {r : (List (List UInt8))} (hP : ref09_Labels c1 = some r) : CallOK Tryd.prog 23 [.int .i64 c1] (.own 0 0 0 (List.length r)) [.slice 0 9 1 (List.map encS r)] := by
  unfold ref09_Labels at hP
  refine co 13 [.tmp 2] Tryd.func23 ?_
  refine J_seq ?_
  refine J_region (by kernel_rfl) ?_
  (try simp only [go_sem, Nat.reduceEqDiff, ↓reduceIte])
  refine hold2 (then_n ?_)
  refine J_seq ?_
  refine J_seq ?_
  refine J_region (by kernel_rfl) ?_
  (try simp only [go_sem, Nat.reduceEqDiff, ↓reduceIte])
  refine hold2 (then_n ?_)
  refine J_block ?_
  refine J_seq ?_
  refine J_region (by kernel_rfl) ?_
  (try simp only [go_sem, Nat.reduceEqDiff, ↓reduceIte])
  refine hold2 (then_n ?_)
  refine J_condV rfl ?_
  (try simp only [go_sem, Nat.reduceEqDiff, ↓reduceIte])
  rcases ite_cases hP with ⟨hc, hP⟩ | ⟨hc, hP⟩
  · refine condV_t hc ?_
    refine J_seq ?_
    refine J_region (by kernel_rfl) ?_
    (try simp only [go_sem, Nat.reduceEqDiff, ↓reduceIte])
    refine hold2 (then_n ?_)
    refine J_ret (block_ret (then_ret (fin_ret ?_)))
    obtain rfl := Option.some.inj hP
    (try simp only [go_sem, Nat.reduceEqDiff, ↓reduceIte])
    exact fo [1]
  · refine condV_f hc ?_
    refine J_seq ?_
    refine J_region (by kernel_rfl) ?_
    (try simp only [go_sem, Nat.reduceEqDiff, ↓reduceIte])
    refine hold2 (then_n ?_)
    refine J_condV rfl ?_
    (try simp only [go_sem, Nat.reduceEqDiff, ↓reduceIte])
    rcases ite_cases hP with ⟨hc, hP⟩ | ⟨hc, hP⟩
    · refine condV_t hc ?_
      refine J_seq ?_
      refine J_region (by kernel_rfl) ?_
      (try simp only [go_sem, Nat.reduceEqDiff, ↓reduceIte, Nat.reduceAdd, Nat.reduceSub, Nat.reduceLT, Nat.reduceMul, reduceCtorEq, Int.reduceToNat, Int.reduceLE, Int.reduceLT, Nat.reduceLeDiff])
      refine hold2 (then_n ?_)
      refine J_ret (block_ret (then_ret (fin_ret ?_)))
      obtain rfl := Option.some.inj hP
      (try simp only [go_sem, Nat.reduceEqDiff, ↓reduceIte])
      exact fo [1]
    · refine condV_f hc ?_
      refine J_seq ?_
      refine J_region (by kernel_rfl) ?_
      (try simp only [go_sem, Nat.reduceEqDiff, ↓reduceIte])
      refine hold2 (then_n ?_)
      refine J_condV rfl ?_
      (try simp only [go_sem, Nat.reduceEqDiff, ↓reduceIte])
      rcases ite_cases hP with ⟨hc, hP⟩ | ⟨hc, hP⟩
      · refine condV_t hc ?_
        refine J_seq ?_
        refine J_region (by kernel_rfl) ?_
        (try simp only [go_sem, Nat.reduceEqDiff, ↓reduceIte])
        refine hold2 (then_n ?_)
        refine J_ret (block_ret (then_ret (fin_ret ?_)))
        obtain rfl := Option.some.inj hP
        (try simp only [go_sem, Nat.reduceEqDiff, ↓reduceIte])
        exact fo [1]
      · refine condV_f hc ?_
        refine J_skip (block_n (then_n ?_))
        refine J_seq ?_
        refine J_region (by kernel_rfl) ?_
        (try simp only [go_sem, Nat.reduceEqDiff, ↓reduceIte])
        refine hold2 (then_n ?_)
        refine J_ret (fin_ret ?_)
        obtain rfl := Option.some.inj hP
        (try simp only [go_sem, Nat.reduceEqDiff, ↓reduceIte])
        exact fo [1]
/-- colander/colanderref09.Label -/
def ref09_Label_L8 (s1 : List UInt8) : Nat → Int → Option (Int)
  | 0, _ => none
  | k6 + 1, from5 =>
    if decide (from5 < (List.length s1 : Int)) then
      (ixL s1 from5).bind fun c9 =>
      (ref09_Space c9).bind fun r10 =>
      if r10 then
        ref09_Label_L8 s1 k6 (iadd .i64 from5 1)
      else
        some from5
    else
      some from5
def ref09_Label_L19 (j12 : Int) (s1 : List UInt8) : Nat → Int → Option (Int)
  | 0, _ => none
  | k17 + 1, to16 =>
    if decide (j12 < to16) then
      (ixL s1 (isub .i64 to16 1)).bind fun c20 =>
      (ref09_Space c20).bind fun r21 =>
      if r21 then
        ref09_Label_L19 j12 s1 k17 (isub .i64 to16 1)
      else
        some to16
    else
      some to16
def ref09_Label_L52 (r47 : (List (List UInt8))) (r25 : (List UInt8)) (c36 : Int) : Nat → Int → Option (Sum (Int) (Unit))
  | 0, _ => none
  | k51 + 1, i50 =>
    if decide (i50 < ((List.length r47 : Nat) : Int)) then
      (ixL r47 i50).bind fun x53 =>
      if decide (x53 = r25) then
        some (Sum.inl c36)
      else
        ref09_Label_L52 r47 r25 c36 k51 (iadd .i64 i50 1)
    else
      some (Sum.inr ())
def ref09_Label_L46 (r25 : (List UInt8)) : Nat → Int → Option (Sum (Int) (Unit))
  | 0, _ => none
  | k37 + 1, c36 =>
    if decide (c36 ≤ 3) then
      (ref09_Labels c36).bind fun r47 =>
      (ref09_Label_L52 r47 r25 c36 140737488355328 0).bind fun o54 => match o54 with
      | Sum.inl r => some (Sum.inl r)
      | Sum.inr j55 =>
        ref09_Label_L46 r25 k37 (iadd .i64 c36 1)
    else
      some (Sum.inr ())
def ref09_Label (s1 : List UInt8) : Option (Int) :=
  (ref09_Label_L8 s1 140737488355328 0).bind fun j12 =>
    (ref09_Label_L19 j12 s1 140737488355328 (List.length s1 : Int)).bind fun j23 =>
      (slL s1 j12 j23).bind fun s24 =>
      (ref09_Lower s24).bind fun r25 =>
      (ref09_Label_L46 r25 140737488355328 1).bind fun o56 => match o56 with
      | Sum.inl r => some r
      | Sum.inr j57 =>
        some 0
set_option maxRecDepth 100000 in
set_option maxHeartbeats 40000000 in
theorem ref09_Label_ok {s1 : List UInt8} {r : Int} (hP : ref09_Label s1 = some r) : CallOK Tryd.prog 34 [.str s1] (.int .i64 r) [] := by
  unfold ref09_Label at hP
  refine co 59 [.tmp 2] Tryd.func34 ?_
  refine J_seq ?_
  refine J_region (by kernel_rfl) ?_
  (try simp only [go_sem, Nat.reduceEqDiff, ↓reduceIte])
  refine hold2 (then_n ?_)
  refine J_seq ?_
  refine J_region (by kernel_rfl) ?_
  (try simp only [go_sem, Nat.reduceEqDiff, ↓reduceIte])
  refine hold2 (then_n ?_)
  refine J_seq ?_
  obtain ⟨o11, hP, hQ8⟩ := bind_cases hP
  refine J_joinK0 (fun (s : Int) => envL [(0, .str s1), (3, .int .i64 s)]) (fun (s : Int) => []) (fun s => s = o11) ?_ ?_
  · clear hQ8
    refine J_block ?_
    refine J_loop (σ := Nat × Int) (fun (s : Nat × Int) => envL [(0, .str s1), (3, .int .i64 s.2)]) (fun (s : Nat × Int) => []) (fun s => ref09_Label_L8 s1 s.1 s.2 = some o11) (fun s => s.1) (140737488355328, 0) hP (so []) ?_
    rintro ⟨k6, from5⟩ hP
    dsimp only at hP ⊢
    cases k6 with
    | zero => simp [ref09_Label_L8] at hP
    | succ k6 =>
      simp only [ref09_Label_L8] at hP
      refine J_seq ?_
      refine J_seq ?_
      refine J_region (by kernel_rfl) ?_
      (try simp only [go_sem, Nat.reduceEqDiff, ↓reduceIte])
      rcases ite_cases hP with ⟨hc, hP⟩ | ⟨hc, hP⟩
      · refine guard_is hc ?_
        (try simp only [go_sem, Nat.reduceEqDiff, ↓reduceIte])
        obtain ⟨c9, hc9, hP⟩ := bind_cases hP
        refine ixS_of hc9 ?_
        (try simp only [go_sem, Nat.reduceEqDiff, ↓reduceIte])
        obtain ⟨r10, hr10, hP⟩ := bind_cases hP
        refine call_ok [.int .u8 (b2i c9)] (ref09_Space_ok hr10) ⟨argR_m false rfl, trivial⟩ ?_
        (try simp only [go_sem, Nat.reduceEqDiff, ↓reduceIte])
        refine hold2 (then_n ?_)
        refine J_condV rfl ?_
        (try simp only [go_sem, Nat.reduceEqDiff, ↓reduceIte])
        rcases ite_cases hP with ⟨hc, hP⟩ | ⟨hc, hP⟩
        · refine condV_t hc ?_
          refine J_skip (then_n ?_)
          refine J_block ?_
          refine J_region (by kernel_rfl) ?_
          (try simp only [go_sem, Nat.reduceEqDiff, ↓reduceIte])
          refine hold2 (block_n ?_)
          exact loop_n (k6, iadd .i64 from5 1) hP (Nat.lt_succ_self _) (so [])
        · refine condV_f hc ?_
          refine J_exit (then_exit (loop_exit (block_eq ?_)))
          exact join_n from5 (Option.some.inj hP) (so [])
      · refine guard_not hc ?_
        (try simp only [go_sem, Nat.reduceEqDiff, ↓reduceIte])
        refine hold2 (then_n ?_)
        refine J_condV rfl ?_
        (try simp only [go_sem, Nat.reduceEqDiff, ↓reduceIte])
        refine J_exit (then_exit (loop_exit (block_eq ?_)))
        exact join_n from5 (Option.some.inj hP) (so [])
  · intro j12 hs
    subst hs
    have hP := hQ8
    clear hQ8
    refine then_n ?_
    refine J_seq ?_
    refine J_region (by kernel_rfl) ?_
    (try simp only [go_sem, Nat.reduceEqDiff, ↓reduceIte])
    refine hold2 (then_n ?_)
    refine J_seq ?_
    obtain ⟨o22, hP, hQ19⟩ := bind_cases hP
    refine J_joinK0 (fun (s : Int) => envL [(0, .str s1), (3, .int .i64 j12), (4, .int .i64 s)]) (fun (s : Int) => []) (fun s => s = o22) ?_ ?_
    · clear hQ19
      refine J_block ?_
      refine J_loop (σ := Nat × Int) (fun (s : Nat × Int) => envL [(0, .str s1), (3, .int .i64 j12), (4, .int .i64 s.2)]) (fun (s : Nat × Int) => []) (fun s => ref09_Label_L19 j12 s1 s.1 s.2 = some o22) (fun s => s.1) (140737488355328, (List.length s1 : Int)) hP (so []) ?_
      rintro ⟨k17, to16⟩ hP
      dsimp only at hP ⊢
      cases k17 with
      | zero => simp [ref09_Label_L19] at hP
      | succ k17 =>
        simp only [ref09_Label_L19] at hP
        refine J_seq ?_
        refine J_seq ?_
        refine J_region (by kernel_rfl) ?_
        (try simp only [go_sem, Nat.reduceEqDiff, ↓reduceIte])
        rcases ite_cases hP with ⟨hc, hP⟩ | ⟨hc, hP⟩
        · refine guard_is hc ?_
          (try simp only [go_sem, Nat.reduceEqDiff, ↓reduceIte])
          obtain ⟨c20, hc20, hP⟩ := bind_cases hP
          refine ixS_of hc20 ?_
          (try simp only [go_sem, Nat.reduceEqDiff, ↓reduceIte])
          obtain ⟨r21, hr21, hP⟩ := bind_cases hP
          refine call_ok [.int .u8 (b2i c20)] (ref09_Space_ok hr21) ⟨argR_m false rfl, trivial⟩ ?_
          (try simp only [go_sem, Nat.reduceEqDiff, ↓reduceIte])
          refine hold2 (then_n ?_)
          refine J_condV rfl ?_
          (try simp only [go_sem, Nat.reduceEqDiff, ↓reduceIte])
          rcases ite_cases hP with ⟨hc, hP⟩ | ⟨hc, hP⟩
          · refine condV_t hc ?_
            refine J_skip (then_n ?_)
            refine J_block ?_
            refine J_region (by kernel_rfl) ?_
            (try simp only [go_sem, Nat.reduceEqDiff, ↓reduceIte])
            refine hold2 (block_n ?_)
            exact loop_n (k17, isub .i64 to16 1) hP (Nat.lt_succ_self _) (so [])
          · refine condV_f hc ?_
            refine J_exit (then_exit (loop_exit (block_eq ?_)))
            exact join_n to16 (Option.some.inj hP) (so [])
        · refine guard_not hc ?_
          (try simp only [go_sem, Nat.reduceEqDiff, ↓reduceIte])
          refine hold2 (then_n ?_)
          refine J_condV rfl ?_
          (try simp only [go_sem, Nat.reduceEqDiff, ↓reduceIte])
          refine J_exit (then_exit (loop_exit (block_eq ?_)))
          exact join_n to16 (Option.some.inj hP) (so [])
    · intro j23 hs
      subst hs
      have hP := hQ19
      clear hQ19
      refine then_n ?_
      refine J_seq ?_
      refine J_region (by kernel_rfl) ?_
      (try simp only [go_sem, Nat.reduceEqDiff, ↓reduceIte])
      obtain ⟨s24, hs24, hP⟩ := bind_cases hP
      refine slS_of hs24 ?_
      (try simp only [go_sem, Nat.reduceEqDiff, ↓reduceIte])
      obtain ⟨r25, hr25, hP⟩ := bind_cases hP
      refine call_ok [.str s24] (ref09_Lower_ok hr25) ⟨argR_m false rfl, trivial⟩ ?_
      (try simp only [go_sem, Nat.reduceEqDiff, ↓reduceIte])
      refine hold2 (then_n ?_)
      refine J_seq ?_
      refine J_seq ?_
      refine J_region (by kernel_rfl) ?_
      (try simp only [go_sem, Nat.reduceEqDiff, ↓reduceIte])
      refine hold2 (then_n ?_)
      obtain ⟨o56, hP, hQ46⟩ := bind_cases hP
      refine J_joinK0 (fun (s : Unit) => envL []) (fun (s : Unit) => []) (fun s => Sum.inr s = o56) ?_ ?_
      · refine J_block ?_
        refine J_loop (σ := Nat × Int) (fun (s : Nat × Int) => envL [(5, .str r25), (6, .int .i64 s.2)]) (fun (s : Nat × Int) => []) (fun s => ref09_Label_L46 r25 s.1 s.2 = some o56) (fun s => s.1) (140737488355328, 1) hP (so []) ?_
        rintro ⟨k37, c36⟩ hP
        dsimp only at hP ⊢
        cases k37 with
        | zero => simp [ref09_Label_L46] at hP
        | succ k37 =>
          simp only [ref09_Label_L46] at hP
          refine J_seq ?_
          refine J_seq ?_
          refine J_region (by kernel_rfl) ?_
          (try simp only [go_sem, Nat.reduceEqDiff, ↓reduceIte])
          refine hold2 (then_n ?_)
          refine J_condV rfl ?_
          (try simp only [go_sem, Nat.reduceEqDiff, ↓reduceIte])
          rcases ite_cases hP with ⟨hc, hP⟩ | ⟨hc, hP⟩
          · refine condV_t hc ?_
            refine J_skip (then_n ?_)
            refine J_seq ?_
            refine J_block ?_
            refine J_seq ?_
            refine J_region (by kernel_rfl) ?_
            (try simp only [go_sem, Nat.reduceEqDiff, ↓reduceIte])
            obtain ⟨r47, hr47, hP⟩ := bind_cases hP
            refine call_ok [.int .i64 c36] (ref09_Labels_ok hr47) ⟨argR_m false rfl, trivial⟩ ?_
            (try simp only [go_sem, Nat.reduceEqDiff, ↓reduceIte])
            refine hold2 (then_n ?_)
            refine J_seq ?_
            refine J_region (by kernel_rfl) ?_
            (try simp only [go_sem, Nat.reduceEqDiff, ↓reduceIte])
            refine hold2 (then_n ?_)
            obtain ⟨o54, hP, hQ52⟩ := bind_cases hP
            refine J_joinK0 (fun (s : Unit) => envL [(5, .str r25), (6, .int .i64 c36)]) (fun (s : Unit) => []) (fun s => Sum.inr s = o54) ?_ ?_
            · refine J_block ?_
              refine J_loop (σ := Nat × Int) (fun (s : Nat × Int) => envL [(5, .str r25), (6, .int .i64 c36), (7, .own 0 0 0 (List.length r47)), (8, .int .i64 s.2)]) (fun (s : Nat × Int) => [.slice 0 9 1 (List.map encS r47)]) (fun s => ref09_Label_L52 r47 r25 c36 s.1 s.2 = some o54) (fun s => s.1) (140737488355328, 0) hP (so [0]) ?_
              rintro ⟨k51, i50⟩ hP
              dsimp only at hP ⊢
              cases k51 with
              | zero => simp [ref09_Label_L52] at hP
              | succ k51 =>
                simp only [ref09_Label_L52] at hP
                refine J_seq ?_
                refine J_seq ?_
                refine J_region (by kernel_rfl) ?_
                (try simp only [go_sem, Nat.reduceEqDiff, ↓reduceIte])
                refine hold2 (then_n ?_)
                refine J_condV rfl ?_
                (try simp only [go_sem, Nat.reduceEqDiff, ↓reduceIte])
                rcases ite_cases hP with ⟨hc, hP⟩ | ⟨hc, hP⟩
                · refine condV_t hc ?_
                  refine J_skip (then_n ?_)
                  refine J_seq ?_
                  refine J_block ?_
                  refine J_seq ?_
                  refine J_region (by kernel_rfl) ?_
                  (try simp only [go_sem, Nat.reduceEqDiff, ↓reduceIte])
                  obtain ⟨x53, hx53, hP⟩ := bind_cases hP
                  refine ixO_of hx53 ?_
                  (try simp only [go_sem, Nat.reduceEqDiff, ↓reduceIte])
                  refine getK_of (f := encS) hx53 ?_
                  (try simp only [go_sem, Nat.reduceEqDiff, ↓reduceIte])
                  refine hold2 (then_n ?_)
                  refine J_condV rfl ?_
                  (try simp only [go_sem, Nat.reduceEqDiff, ↓reduceIte])
                  rcases ite_cases hP with ⟨hc, hP⟩ | ⟨hc, hP⟩
                  · refine condV_t hc ?_
                    refine J_seq ?_
                    refine J_region (by kernel_rfl) ?_
                    (try simp only [go_sem, Nat.reduceEqDiff, ↓reduceIte])
                    refine hold2 (then_n ?_)
                    refine J_ret (block_ret (then_ret (loop_ret (block_ret (join_ret (block_ret (then_ret (loop_ret (block_ret (join_ret (then_ret (fin_ret ?_))))))))))))
                    obtain rfl := Option.some.inj hP
                    have hP := hQ52
                    dsimp only at hP
                    obtain rfl := Option.some.inj hP
                    have hP := hQ46
                    dsimp only at hP
                    obtain rfl := Option.some.inj hP
                    (try simp only [go_sem, Nat.reduceEqDiff, ↓reduceIte])
                    exact fo []
                  · refine condV_f hc ?_
                    refine J_skip (block_n (then_n ?_))
                    refine J_region (by kernel_rfl) ?_
                    (try simp only [go_sem, Nat.reduceEqDiff, ↓reduceIte])
                    refine hold2 ?_
                    exact loop_n (k51, iadd .i64 i50 1) hP (Nat.lt_succ_self _) (so [0])
                · refine condV_f hc ?_
                  refine J_exit (then_exit (loop_exit (block_eq ?_)))
                  exact join_n () (Option.some.inj hP) (so [])
            · intro j55 hs
              subst hs
              have hP := hQ52
              dsimp only at hP
              clear hQ52
              refine block_n (then_n ?_)
              refine J_region (by kernel_rfl) ?_
              (try simp only [go_sem, Nat.reduceEqDiff, ↓reduceIte])
              refine hold2 ?_
              exact loop_n (k37, iadd .i64 c36 1) hP (Nat.lt_succ_self _) (so [])
          · refine condV_f hc ?_
            refine J_exit (then_exit (loop_exit (block_eq ?_)))
            exact join_n () (Option.some.inj hP) (so [])
      · intro j57 hs
        subst hs
        have hP := hQ46
        dsimp only at hP
        clear hQ46
        refine then_n ?_
        refine J_seq ?_
        refine J_region (by kernel_rfl) ?_
        (try simp only [go_sem, Nat.reduceEqDiff, ↓reduceIte])
        refine hold2 (then_n ?_)
        refine J_ret (fin_ret ?_)
        obtain rfl := Option.some.inj hP
        (try simp only [go_sem, Nat.reduceEqDiff, ↓reduceIte])
        exact fo []
end Go.Proofs.YtecpgelhhbbjmaaDoor
