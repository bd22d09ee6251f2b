/- Functions of the program, and pure ones that go the same ways: that the program's return what these compute. -/
import Derived.Test.YtecpgelhhbbjmaaDoorGC
import Derived.Test.YtecpgelhhbbjmaaDoorGZ
import Derived.Test.YtecpgelhhbbjmaaDoorLibA
import Derived.Test.YtecpgelhhbbjmaaDoorLibI
import Derived.Test.YtecpgelhhbbjmaaDoorFwE
import Derived.Test.YtecpgelhhbbjmaaDoorAvPj
namespace Go.Proofs.YtecpgelhhbbjmaaDoor
open Go.Av
set_option linter.unusedVariables false
set_option linter.unusedSimpArgs false
/-- colander/sniff.Bom -/
def sniff_Bom (b1 : List (UInt8)) : Option (Int × Int) :=
  (slL b1 0 (min (List.length b1 : Int) 3)).bind fun s2 =>
  if decide (s2 = [239, 187, 191]) then
    some (1, 3)
  else
    (show Option (Bool) from
      (strings_HasPrefix s2 [254, 255]).bind fun r6 =>
      if r6 then
        some r6
      else
        (strings_HasPrefix s2 [255, 254]).bind fun r7 =>
        some r7).bind fun j8 =>
      if j8 then
        some (3, 2)
      else
        some (0, 0)
set_option maxRecDepth 100000 in
set_option maxHeartbeats 40000000 in
theorem sniff_Bom_ok {b1 : List (UInt8)} {r : Int × Int} (hP : sniff_Bom b1 = some r) : CallOK Tryd.prog 11 [.view 1 (List.map encB b1)] (.tup [.int .i64 r.1, .int .i64 r.2]) [] := by
  unfold sniff_Bom at hP
  refine co 19 [.tmp 2, .tmp 3] Tryd.func11 ?_
  refine J_seq ?_
  refine J_region (by kernel_rfl) ?_
  (try simp only [go_sem, Nat.reduceEqDiff, ↓reduceIte])
  refine hold2 (then_n ?_)
  refine J_seq ?_
  refine J_region (by kernel_rfl) ?_
  (try simp only [go_sem, Nat.reduceEqDiff, ↓reduceIte])
  obtain ⟨s2, hs2, hP⟩ := bind_cases hP
  refine slV_of hs2 ?_
  (try simp only [go_sem, Nat.reduceEqDiff, ↓reduceIte])
  first | refine bytesK_map ?_ | refine bytesK_of s2 rfl ?_
  (try simp only [go_sem, Nat.reduceEqDiff, ↓reduceIte])
  refine hold2 (then_n ?_)
  refine J_seq ?_
  refine J_block ?_
  refine J_seq ?_
  refine J_region (by kernel_rfl) ?_
  (try simp only [go_sem, Nat.reduceEqDiff, ↓reduceIte])
  refine hold2 (then_n ?_)
  refine J_condV rfl ?_
  (try simp only [go_sem, Nat.reduceEqDiff, ↓reduceIte])
  rcases ite_cases hP with ⟨hc, hP⟩ | ⟨hc, hP⟩
  · refine condV_t hc ?_
    refine J_seq ?_
    refine J_region (by kernel_rfl) ?_
    (try simp only [go_sem, Nat.reduceEqDiff, ↓reduceIte])
    refine hold2 (then_n ?_)
    refine J_ret (block_ret (then_ret (fin_ret ?_)))
    obtain rfl := Option.some.inj hP
    (try simp only [go_sem, Nat.reduceEqDiff, ↓reduceIte])
    exact fo []
  · refine condV_f hc ?_
    obtain ⟨o5, hP, hQ5⟩ := bind_cases hP
    refine J_join (fun (s : Bool) => envL [(14, .bool s)]) (fun (s : Bool) => []) (fun s => s = o5) ?_ ?_
    · clear hQ5
      refine J_seq ?_
      refine J_region (by kernel_rfl) ?_
      (try simp only [go_sem, Nat.reduceEqDiff, ↓reduceIte])
      obtain ⟨r6, hr6, hP⟩ := bind_cases hP
      refine call_ok [.str s2, .str [254, 255]] (strings_HasPrefix_ok hr6) ⟨argR_m false rfl, argR_m false rfl, trivial⟩ ?_
      (try simp only [go_sem, Nat.reduceEqDiff, ↓reduceIte])
      refine hold2 (then_n ?_)
      refine J_condV rfl ?_
      (try simp only [go_sem, Nat.reduceEqDiff, ↓reduceIte])
      rcases ite_cases hP with ⟨hc, hP⟩ | ⟨hc, hP⟩
      · refine condV_t hc ?_
        refine J_skip ?_
        exact join_n r6 (Option.some.inj hP) (so [])
      · refine condV_f hc ?_
        refine J_region (by kernel_rfl) ?_
        (try simp only [go_sem, Nat.reduceEqDiff, ↓reduceIte])
        obtain ⟨r7, hr7, hP⟩ := bind_cases hP
        refine call_ok [.str s2, .str [255, 254]] (strings_HasPrefix_ok hr7) ⟨argR_m false rfl, argR_m false rfl, trivial⟩ ?_
        (try simp only [go_sem, Nat.reduceEqDiff, ↓reduceIte])
        refine hold2 ?_
        exact join_n r7 (Option.some.inj hP) (so [])
    · intro j8 hs
      subst hs
      have hP := hQ5
      clear hQ5
      refine J_condV rfl ?_
      (try simp only [go_sem, Nat.reduceEqDiff, ↓reduceIte])
      rcases ite_cases hP with ⟨hc, hP⟩ | ⟨hc, hP⟩
      · refine condV_t hc ?_
        refine J_seq ?_
        refine J_region (by kernel_rfl) ?_
        (try simp only [go_sem, Nat.reduceEqDiff, ↓reduceIte])
        refine hold2 (then_n ?_)
        refine J_ret (block_ret (then_ret (fin_ret ?_)))
        obtain rfl := Option.some.inj hP
        (try simp only [go_sem, Nat.reduceEqDiff, ↓reduceIte])
        exact fo []
      · refine condV_f hc ?_
        refine J_skip (block_n (then_n ?_))
        refine J_seq ?_
        refine J_region (by kernel_rfl) ?_
        (try simp only [go_sem, Nat.reduceEqDiff, ↓reduceIte])
        refine hold2 (then_n ?_)
        refine J_ret (fin_ret ?_)
        obtain rfl := Option.some.inj hP
        (try simp only [go_sem, Nat.reduceEqDiff, ↓reduceIte])
        exact fo []
/-- colander/sniff.small -/
def sniff_small_L20 (s1 : List UInt8) : Nat → Int → (List (UInt8)) → Option ((List (UInt8)))
  | 0, _, _ => none
  | k16 + 1, v14, l15 =>
    if decide (v14 < ((List.length s1 : Nat) : Int)) then
      (ixL l15 v14).bind fun x21 =>
      (show Option (Bool) from
        if decide (b2i (bC 65) ≤ b2i x21) then
          some (decide (b2i x21 ≤ b2i (bC 90)))
        else
          some false).bind fun j23 =>
        if j23 then
          (ixL l15 v14).bind fun x24 =>
          sniff_small_L20 s1 k16 (iadd .i64 v14 1) (List.set l15 (Int.toNat v14) (x21 + (bC 32)))
        else
          sniff_small_L20 s1 k16 (iadd .i64 v14 1) l15
    else
      some l15
def sniff_small (s1 : List UInt8) : Option ((List UInt8)) :=
  (szC (List.length s1)).bind fun _ =>
  (sniff_small_L20 s1 140737488355328 0 s1).bind fun j26 =>
    some j26
set_option maxRecDepth 100000 in
set_option maxHeartbeats 40000000 in
theorem sniff_small_ok {s1 : List UInt8} {r : (List UInt8)} (hP : sniff_small s1 = some r) : CallOK Tryd.prog 26 [.str s1] (.str r) [] := by
  unfold sniff_small at hP
  refine co 29 [.tmp 2] Tryd.func26 ?_
  refine J_seq ?_
  refine J_region (by kernel_rfl) ?_
  (try simp only [go_sem, Nat.reduceEqDiff, ↓reduceIte])
  refine hold2 (then_n ?_)
  refine J_seq ?_
  refine J_region (by kernel_rfl) ?_
  (try simp only [go_sem, Nat.reduceEqDiff, ↓reduceIte])
  obtain ⟨_, hz2, hP⟩ := bind_cases hP
  refine chk_of (szC_63 hz2) ?_
  (try simp only [go_sem, Nat.reduceEqDiff, ↓reduceIte])
  refine hold2 (then_n ?_)
  refine J_seq ?_
  refine J_seq ?_
  refine J_region (by kernel_rfl) ?_
  (try simp only [go_sem, Nat.reduceEqDiff, ↓reduceIte])
  refine hold2 (then_n ?_)
  obtain ⟨o25, hP, hQ20⟩ := bind_cases hP
  refine J_joinK0 (fun (s : (List (UInt8))) => envL [(3, .own 0 0 0 (List.length s))]) (fun (s : (List (UInt8))) => [.slice 0 5 1 (List.map encB s)]) (fun s => s = o25) ?_ ?_
  · clear hQ20
    refine J_block ?_
    refine J_loop (σ := Nat × Int × (List (UInt8))) (fun (s : Nat × Int × (List (UInt8))) => envL [(3, .own 0 0 0 (List.length s.2.2)), (8, .own 0 0 0 (List.length s.2.2)), (9, .int .i64 ((List.length s1 : Nat) : Int)), (10, .int .i64 s.2.1)]) (fun (s : Nat × Int × (List (UInt8))) => [.slice 0 5 1 (List.map encB s.2.2)]) (fun s => sniff_small_L20 s1 s.1 s.2.1 s.2.2 = some o25) (fun s => s.1) (140737488355328, 0, s1) hP (so [0]) ?_
    rintro ⟨k16, v14, l15⟩ hP
    dsimp only at hP ⊢
    cases k16 with
    | zero => simp [sniff_small_L20] at hP
    | succ k16 =>
      simp only [sniff_small_L20] at hP
      refine J_seq ?_
      refine J_region (by kernel_rfl) ?_
      (try simp only [go_sem, Nat.reduceEqDiff, ↓reduceIte])
      refine hold2 (then_n ?_)
      refine J_seq ?_
      refine J_condV rfl ?_
      (try simp only [go_sem, Nat.reduceEqDiff, ↓reduceIte])
      rcases ite_cases hP with ⟨hc, hP⟩ | ⟨hc, hP⟩
      · refine condV_t hc ?_
        refine J_skip (then_n ?_)
        refine J_seq ?_
        refine J_block ?_
        refine J_seq ?_
        refine J_region (by kernel_rfl) ?_
        (try simp only [go_sem, Nat.reduceEqDiff, ↓reduceIte])
        obtain ⟨x21, hx21, hP⟩ := bind_cases hP
        refine ixO_of hx21 ?_
        (try simp only [go_sem, Nat.reduceEqDiff, ↓reduceIte])
        refine getK_of (f := encB) hx21 ?_
        (try simp only [go_sem, Nat.reduceEqDiff, ↓reduceIte])
        refine hold2 (then_n ?_)
        obtain ⟨o22, hP, hQ22⟩ := bind_cases hP
        refine J_join (fun (s : Bool) => envL [(3, .own 0 0 0 (List.length l15)), (4, .int .i64 v14), (5, .int .u8 (b2i x21)), (8, .own 0 0 0 (List.length l15)), (9, .int .i64 ((List.length s1 : Nat) : Int)), (10, .int .i64 v14), (20, .bool s)]) (fun (s : Bool) => [.slice 0 5 1 (List.map encB l15)]) (fun s => s = o22) ?_ ?_
        · clear hQ22
          refine J_region (by kernel_rfl) ?_
          (try simp only [go_sem, Nat.reduceEqDiff, ↓reduceIte])
          rcases ite_cases hP with ⟨hc, hP⟩ | ⟨hc, hP⟩
          · refine guard_is hc ?_
            (try simp only [go_sem, Nat.reduceEqDiff, ↓reduceIte])
            refine hold2 ?_
            exact join_n (decide (b2i x21 ≤ b2i (bC 90))) (Option.some.inj hP) (so [0])
          · refine guard_not hc ?_
            (try simp only [go_sem, Nat.reduceEqDiff, ↓reduceIte])
            refine hold2 ?_
            exact join_n false (Option.some.inj hP) (so [0])
        · intro j23 hs
          subst hs
          have hP := hQ22
          clear hQ22
          refine J_condV rfl ?_
          (try simp only [go_sem, Nat.reduceEqDiff, ↓reduceIte])
          rcases ite_cases hP with ⟨hc, hP⟩ | ⟨hc, hP⟩
          · refine condV_t hc ?_
            refine J_region (by kernel_rfl) ?_
            (try simp only [go_sem, Nat.reduceEqDiff, ↓reduceIte])
            obtain ⟨x24, hx24, hP⟩ := bind_cases hP
            refine ixO_of hx24 ?_
            (try simp only [go_sem, Nat.reduceEqDiff, ↓reduceIte])
            refine getK_of (f := encB) hx24 ?_
            (try simp only [go_sem, Nat.reduceEqDiff, ↓reduceIte])
            refine hold2 (block_n (then_n ?_))
            refine J_region (by kernel_rfl) ?_
            (try simp only [go_sem, Nat.reduceEqDiff, ↓reduceIte])
            refine hold2 ?_
            exact loop_n (k16, iadd .i64 v14 1, List.set l15 (Int.toNat v14) (x21 + (bC 32))) hP (Nat.lt_succ_self _) (so [0])
          · refine condV_f hc ?_
            refine J_skip (block_n (then_n ?_))
            refine J_region (by kernel_rfl) ?_
            (try simp only [go_sem, Nat.reduceEqDiff, ↓reduceIte])
            refine hold2 ?_
            exact loop_n (k16, iadd .i64 v14 1, l15) hP (Nat.lt_succ_self _) (so [0])
      · refine condV_f hc ?_
        refine J_exit (then_exit (loop_exit (block_eq ?_)))
        exact join_n l15 (Option.some.inj hP) (so [0])
  · intro j26 hs
    subst hs
    have hP := hQ20
    clear hQ20
    refine then_n ?_
    refine J_seq ?_
    refine J_region (by kernel_rfl) ?_
    (try simp only [go_sem, Nat.reduceEqDiff, ↓reduceIte])
    first | refine bytesK_map ?_ | refine bytesK_of j26 rfl ?_
    (try simp only [go_sem, Nat.reduceEqDiff, ↓reduceIte])
    refine hold2 (then_n ?_)
    refine J_ret (fin_ret ?_)
    obtain rfl := Option.some.inj hP
    (try simp only [go_sem, Nat.reduceEqDiff, ↓reduceIte])
    exact fo []
/-- colander/sniff.space -/
def sniff_space (c1 : UInt8) : Option (Bool) :=
  if decide (b2i c1 = b2i (bC 9)) then
    some true
  else
    if decide (b2i c1 = b2i (bC 10)) then
      some true
    else
      if decide (b2i c1 = b2i (bC 12)) then
        some true
      else
        if decide (b2i c1 = b2i (bC 13)) then
          some true
        else
          some (decide (b2i c1 = b2i (bC 32)))
set_option maxRecDepth 100000 in
set_option maxHeartbeats 40000000 in
theorem sniff_space_ok {c1 : UInt8} {r : Bool} (hP : sniff_space c1 = some r) : CallOK Tryd.prog 28 [.int .u8 (b2i c1)] (.bool r) [] := by
  unfold sniff_space at hP
  refine co 21 [.tmp 2] Tryd.func28 ?_
  refine J_seq ?_
  refine J_region (by kernel_rfl) ?_
  (try simp only [go_sem, Nat.reduceEqDiff, ↓reduceIte])
  refine hold2 (then_n ?_)
  refine J_seq ?_
  refine J_region (by kernel_rfl) ?_
  (try simp only [go_sem, Nat.reduceEqDiff, ↓reduceIte])
  rcases ite_cases hP with ⟨hc, hP⟩ | ⟨hc, hP⟩
  · refine guard_not hc ?_
    (try simp only [go_sem, Nat.reduceEqDiff, ↓reduceIte])
    refine hold2 (then_n ?_)
    refine J_ret (fin_ret ?_)
    obtain rfl := Option.some.inj hP
    (try simp only [go_sem, Nat.reduceEqDiff, ↓reduceIte])
    exact fo []
  · refine guard_is hc ?_
    (try simp only [go_sem, Nat.reduceEqDiff, ↓reduceIte])
    rcases ite_cases hP with ⟨hc, hP⟩ | ⟨hc, hP⟩
    · refine guard_not hc ?_
      (try simp only [go_sem, Nat.reduceEqDiff, ↓reduceIte])
      refine hold2 (then_n ?_)
      refine J_ret (fin_ret ?_)
      obtain rfl := Option.some.inj hP
      (try simp only [go_sem, Nat.reduceEqDiff, ↓reduceIte])
      exact fo []
    · refine guard_is hc ?_
      (try simp only [go_sem, Nat.reduceEqDiff, ↓reduceIte])
      rcases ite_cases hP with ⟨hc, hP⟩ | ⟨hc, hP⟩
      · refine guard_not hc ?_
        (try simp only [go_sem, Nat.reduceEqDiff, ↓reduceIte])
        refine hold2 (then_n ?_)
        refine J_ret (fin_ret ?_)
        obtain rfl := Option.some.inj hP
        (try simp only [go_sem, Nat.reduceEqDiff, ↓reduceIte])
        exact fo []
      · refine guard_is hc ?_
        (try simp only [go_sem, Nat.reduceEqDiff, ↓reduceIte])
        rcases ite_cases hP with ⟨hc, hP⟩ | ⟨hc, hP⟩
        · refine guard_not hc ?_
          (try simp only [go_sem, Nat.reduceEqDiff, ↓reduceIte])
          refine hold2 (then_n ?_)
          refine J_ret (fin_ret ?_)
          obtain rfl := Option.some.inj hP
          (try simp only [go_sem, Nat.reduceEqDiff, ↓reduceIte])
          exact fo []
        · refine guard_is hc ?_
          (try simp only [go_sem, Nat.reduceEqDiff, ↓reduceIte])
          refine hold2 (then_n ?_)
          refine J_ret (fin_ret ?_)
          obtain rfl := Option.some.inj hP
          (try simp only [go_sem, Nat.reduceEqDiff, ↓reduceIte])
          exact fo []
/-- colander/sniff.Content -/
def sniff_Content_L42 (s1 : List UInt8) : Nat → Int → Option (Int)
  | 0, _ => none
  | k40 + 1, at39 =>
    if decide (at39 < (List.length s1 : Int)) then
      (ixL s1 at39).bind fun c43 =>
      (sniff_space c43).bind fun r44 =>
      if r44 then
        sniff_Content_L42 s1 k40 (iadd .i64 at39 1)
      else
        some at39
    else
      some at39
def sniff_Content_L33 (r2 : (List UInt8)) (s1 : List UInt8) : Nat → Int → Option (Sum (Int) (Int))
  | 0, _ => none
  | k19 + 1, at18 =>
    (slL r2 at18 (List.length r2 : Int)).bind fun s34 =>
    (indexX s34 [99, 104, 97, 114, 115, 101, 116]).bind fun r35 =>
    if decide (r35 < 0) then
      some (Sum.inl 0)
    else
      (sniff_Content_L42 s1 140737488355328 (iadd .i64 at18 (iadd .i64 r35 7))).bind fun j46 =>
        if decide (j46 < (List.length s1 : Int)) then
          (ixL s1 j46).bind fun c47 =>
          if decide (b2i c47 = b2i (bC 61)) then
            some (Sum.inr j46)
          else
            sniff_Content_L33 r2 s1 k19 j46
        else
          sniff_Content_L33 r2 s1 k19 j46
def sniff_Content (s1 : List UInt8) : Option (Int) :=
  (sniff_small s1).bind fun r2 =>
  (sniff_Content_L33 r2 s1 140737488355328 0).bind fun o48 => match o48 with
  | Sum.inl r => some r
  | Sum.inr j49 =>
    (slL s1 (iadd .i64 j49 1) (List.length s1 : Int)).bind fun s50 =>
    (trimLeftX s50 [9, 10, 12, 13, 32]).bind fun r51 =>
    (show Option (Bool) from
      if !decide (r51 = []) then
        (ixL r51 0).bind fun c55 =>
        if decide (b2i c55 = b2i (bC 34)) then
          some true
        else
          (ixL r51 0).bind fun c56 =>
          some (decide (b2i c56 = b2i (bC 39)))
      else
        some false).bind fun j57 =>
      if j57 then
        (slL r51 1 (List.length r51 : Int)).bind fun s58 =>
        (slL r51 0 1).bind fun s59 =>
        (cutX s58 s59).bind fun r60 =>
        if !r60.2.2 then
          some 0
        else
          (leaf_Label r60.1).bind fun r61 =>
          some r61
      else
        (show Option ((List UInt8)) from
          (indexAnyY r51 [9, 10, 12, 13, 32, 59]).bind fun r65 =>
          if decide (0 ≤ r65) then
            (slL r51 0 r65).bind fun s66 =>
            some s66
          else
            some r51).bind fun j67 =>
          (leaf_Label j67).bind fun r68 =>
          some r68
set_option maxRecDepth 100000 in
set_option maxHeartbeats 40000000 in
theorem sniff_Content_ok {s1 : List UInt8} {r : Int} (hP : sniff_Content s1 = some r) : CallOK Tryd.prog 13 [.str s1] (.int .i64 r) [] := by
  unfold sniff_Content at hP
  refine co 84 [.tmp 2] Tryd.func13 ?_
  refine J_seq ?_
  refine J_region (by kernel_rfl) ?_
  (try simp only [go_sem, Nat.reduceEqDiff, ↓reduceIte])
  refine hold2 (then_n ?_)
  refine J_seq ?_
  refine J_region (by kernel_rfl) ?_
  (try simp only [go_sem, Nat.reduceEqDiff, ↓reduceIte])
  obtain ⟨r2, hr2, hP⟩ := bind_cases hP
  refine call_ok [.str s1] (sniff_small_ok hr2) ⟨argR_m false rfl, trivial⟩ ?_
  (try simp only [go_sem, Nat.reduceEqDiff, ↓reduceIte])
  refine hold2 (then_n ?_)
  refine J_seq ?_
  refine J_region (by kernel_rfl) ?_
  (try simp only [go_sem, Nat.reduceEqDiff, ↓reduceIte])
  refine hold2 (then_n ?_)
  refine J_seq ?_
  obtain ⟨o48, hP, hQ33⟩ := bind_cases hP
  refine J_joinK0 (fun (s : Int) => envL [(0, .str s1), (4, .int .i64 s)]) (fun (s : Int) => []) (fun s => Sum.inr s = o48) ?_ ?_
  · refine J_block ?_
    refine J_loop (σ := Nat × Int) (fun (s : Nat × Int) => envL [(0, .str s1), (3, .str r2), (4, .int .i64 s.2)]) (fun (s : Nat × Int) => []) (fun s => sniff_Content_L33 r2 s1 s.1 s.2 = some o48) (fun s => s.1) (140737488355328, 0) hP (so []) ?_
    rintro ⟨k19, at18⟩ hP
    dsimp only at hP ⊢
    cases k19 with
    | zero => simp [sniff_Content_L33] at hP
    | succ k19 =>
      simp only [sniff_Content_L33] at hP
      refine J_block ?_
      refine J_seq ?_
      refine J_region (by kernel_rfl) ?_
      (try simp only [go_sem, Nat.reduceEqDiff, ↓reduceIte])
      obtain ⟨s34, hs34, hP⟩ := bind_cases hP
      refine slS_of hs34 ?_
      (try simp only [go_sem, Nat.reduceEqDiff, ↓reduceIte])
      obtain ⟨r35, hr35, hP⟩ := bind_cases hP
      refine call_ok [.str s34, .str [99, 104, 97, 114, 115, 101, 116]] (indexX_ok hr35) ⟨argR_m false rfl, argR_m false rfl, trivial⟩ ?_
      (try simp only [go_sem, Nat.reduceEqDiff, ↓reduceIte])
      refine hold2 (then_n ?_)
      refine J_seq ?_
      refine J_seq ?_
      refine J_region (by kernel_rfl) ?_
      (try simp only [go_sem, Nat.reduceEqDiff, ↓reduceIte])
      refine hold2 (then_n ?_)
      refine J_condV rfl ?_
      (try simp only [go_sem, Nat.reduceEqDiff, ↓reduceIte])
      rcases ite_cases hP with ⟨hc, hP⟩ | ⟨hc, hP⟩
      · refine condV_t hc ?_
        refine J_seq ?_
        refine J_region (by kernel_rfl) ?_
        (try simp only [go_sem, Nat.reduceEqDiff, ↓reduceIte])
        refine hold2 (then_n ?_)
        refine J_ret (then_ret (block_ret (loop_ret (block_ret (join_ret (then_ret (fin_ret ?_)))))))
        obtain rfl := Option.some.inj hP
        have hP := hQ33
        dsimp only at hP
        obtain rfl := Option.some.inj hP
        (try simp only [go_sem, Nat.reduceEqDiff, ↓reduceIte])
        exact fo []
      · refine condV_f hc ?_
        refine J_skip (then_n ?_)
        refine J_seq ?_
        refine J_region (by kernel_rfl) ?_
        (try simp only [go_sem, Nat.reduceEqDiff, ↓reduceIte])
        refine hold2 (then_n ?_)
        refine J_seq ?_
        obtain ⟨o45, hP, hQ42⟩ := bind_cases hP
        refine J_joinK0 (fun (s : Int) => envL [(0, .str s1), (3, .str r2), (4, .int .i64 s)]) (fun (s : Int) => []) (fun s => s = o45) ?_ ?_
        · clear hQ42
          refine J_block ?_
          refine J_loop (σ := Nat × Int) (fun (s : Nat × Int) => envL [(0, .str s1), (3, .str r2), (4, .int .i64 s.2)]) (fun (s : Nat × Int) => []) (fun s => sniff_Content_L42 s1 s.1 s.2 = some o45) (fun s => s.1) (140737488355328, iadd .i64 at18 (iadd .i64 r35 7)) hP (so []) ?_
          rintro ⟨k40, at39⟩ hP
          dsimp only at hP ⊢
          cases k40 with
          | zero => simp [sniff_Content_L42] at hP
          | succ k40 =>
            simp only [sniff_Content_L42] at hP
            refine J_seq ?_
            refine J_seq ?_
            refine J_region (by kernel_rfl) ?_
            (try simp only [go_sem, Nat.reduceEqDiff, ↓reduceIte])
            rcases ite_cases hP with ⟨hc, hP⟩ | ⟨hc, hP⟩
            · refine guard_is hc ?_
              (try simp only [go_sem, Nat.reduceEqDiff, ↓reduceIte])
              obtain ⟨c43, hc43, hP⟩ := bind_cases hP
              refine ixS_of hc43 ?_
              (try simp only [go_sem, Nat.reduceEqDiff, ↓reduceIte])
              obtain ⟨r44, hr44, hP⟩ := bind_cases hP
              refine call_ok [.int .u8 (b2i c43)] (sniff_space_ok hr44) ⟨argR_m false rfl, trivial⟩ ?_
              (try simp only [go_sem, Nat.reduceEqDiff, ↓reduceIte])
              refine hold2 (then_n ?_)
              refine J_condV rfl ?_
              (try simp only [go_sem, Nat.reduceEqDiff, ↓reduceIte])
              rcases ite_cases hP with ⟨hc, hP⟩ | ⟨hc, hP⟩
              · refine condV_t hc ?_
                refine J_skip (then_n ?_)
                refine J_block ?_
                refine J_region (by kernel_rfl) ?_
                (try simp only [go_sem, Nat.reduceEqDiff, ↓reduceIte])
                refine hold2 (block_n ?_)
                exact loop_n (k40, iadd .i64 at39 1) hP (Nat.lt_succ_self _) (so [])
              · refine condV_f hc ?_
                refine J_exit (then_exit (loop_exit (block_eq ?_)))
                exact join_n at39 (Option.some.inj hP) (so [])
            · refine guard_not hc ?_
              (try simp only [go_sem, Nat.reduceEqDiff, ↓reduceIte])
              refine hold2 (then_n ?_)
              refine J_condV rfl ?_
              (try simp only [go_sem, Nat.reduceEqDiff, ↓reduceIte])
              refine J_exit (then_exit (loop_exit (block_eq ?_)))
              exact join_n at39 (Option.some.inj hP) (so [])
        · intro j46 hs
          subst hs
          have hP := hQ42
          clear hQ42
          refine then_n ?_
          refine J_seq ?_
          refine J_region (by kernel_rfl) ?_
          (try simp only [go_sem, Nat.reduceEqDiff, ↓reduceIte])
          rcases ite_cases hP with ⟨hc, hP⟩ | ⟨hc, hP⟩
          · refine guard_is hc ?_
            (try simp only [go_sem, Nat.reduceEqDiff, ↓reduceIte])
            obtain ⟨c47, hc47, hP⟩ := bind_cases hP
            refine ixS_of hc47 ?_
            (try simp only [go_sem, Nat.reduceEqDiff, ↓reduceIte])
            refine hold2 (then_n ?_)
            refine J_condV rfl ?_
            (try simp only [go_sem, Nat.reduceEqDiff, ↓reduceIte])
            rcases ite_cases hP with ⟨hc, hP⟩ | ⟨hc, hP⟩
            · refine condV_t hc ?_
              refine J_exit (block_ne (by decide) (loop_exit (block_eq ?_)))
              exact join_n j46 (Option.some.inj hP) (so [])
            · refine condV_f hc ?_
              refine J_skip (block_n ?_)
              exact loop_n (k19, j46) hP (Nat.lt_succ_self _) (so [])
          · refine guard_not hc ?_
            (try simp only [go_sem, Nat.reduceEqDiff, ↓reduceIte])
            refine hold2 (then_n ?_)
            refine J_condV rfl ?_
            (try simp only [go_sem, Nat.reduceEqDiff, ↓reduceIte])
            refine J_skip (block_n ?_)
            exact loop_n (k19, j46) hP (Nat.lt_succ_self _) (so [])
  · intro j49 hs
    subst hs
    have hP := hQ33
    dsimp only at hP
    clear hQ33
    refine then_n ?_
    refine J_seq ?_
    refine J_region (by kernel_rfl) ?_
    (try simp only [go_sem, Nat.reduceEqDiff, ↓reduceIte])
    obtain ⟨s50, hs50, hP⟩ := bind_cases hP
    refine slS_of hs50 ?_
    (try simp only [go_sem, Nat.reduceEqDiff, ↓reduceIte])
    obtain ⟨r51, hr51, hP⟩ := bind_cases hP
    refine call_ok [.str s50, .str [9, 10, 12, 13, 32]] (trimLeftX_ok hr51) ⟨argR_m false rfl, argR_m false rfl, trivial⟩ ?_
    (try simp only [go_sem, Nat.reduceEqDiff, ↓reduceIte])
    refine hold2 (then_n ?_)
    refine J_seq ?_
    obtain ⟨o54, hP, hQ54⟩ := bind_cases hP
    refine J_join (fun (s : Bool) => envL [(6, .str r51), (61, .bool s)]) (fun (s : Bool) => []) (fun s => s = o54) ?_ ?_
    · clear hQ54
      refine J_region (by kernel_rfl) ?_
      (try simp only [go_sem, Nat.reduceEqDiff, ↓reduceIte])
      rcases ite_cases hP with ⟨hc, hP⟩ | ⟨hc, hP⟩
      · refine guard_is hc ?_
        (try simp only [go_sem, Nat.reduceEqDiff, ↓reduceIte])
        obtain ⟨c55, hc55, hP⟩ := bind_cases hP
        refine ixS_of hc55 ?_
        (try simp only [go_sem, Nat.reduceEqDiff, ↓reduceIte])
        rcases ite_cases hP with ⟨hc, hP⟩ | ⟨hc, hP⟩
        · refine guard_not hc ?_
          (try simp only [go_sem, Nat.reduceEqDiff, ↓reduceIte])
          refine hold2 ?_
          exact join_n true (Option.some.inj hP) (so [])
        · refine guard_is hc ?_
          (try simp only [go_sem, Nat.reduceEqDiff, ↓reduceIte])
          obtain ⟨c56, hc56, hP⟩ := bind_cases hP
          refine ixS_of hc56 ?_
          (try simp only [go_sem, Nat.reduceEqDiff, ↓reduceIte])
          refine hold2 ?_
          exact join_n (decide (b2i c56 = b2i (bC 39))) (Option.some.inj hP) (so [])
      · refine guard_not hc ?_
        (try simp only [go_sem, Nat.reduceEqDiff, ↓reduceIte])
        refine hold2 ?_
        exact join_n false (Option.some.inj hP) (so [])
    · intro j57 hs
      subst hs
      have hP := hQ54
      clear hQ54
      refine J_condV rfl ?_
      (try simp only [go_sem, Nat.reduceEqDiff, ↓reduceIte])
      rcases ite_cases hP with ⟨hc, hP⟩ | ⟨hc, hP⟩
      · refine condV_t hc ?_
        refine J_seq ?_
        refine J_regionq follows_mixed (by kernel_rfl) (by kernel_rfl) ?_
        (try simp only [go_sem, Nat.reduceEqDiff, ↓reduceIte])
        obtain ⟨s58, hs58, hP⟩ := bind_cases hP
        refine slS_of hs58 ?_
        (try simp only [go_sem, Nat.reduceEqDiff, ↓reduceIte])
        obtain ⟨s59, hs59, hP⟩ := bind_cases hP
        refine slS_of hs59 ?_
        (try simp only [go_sem, Nat.reduceEqDiff, ↓reduceIte])
        obtain ⟨r60, hr60, hP⟩ := bind_cases hP
        refine call_okq [.str s58, .str s59] (cutX_ok hr60) ⟨argR_m false rfl, argR_m false rfl, trivial⟩ rfl ?_
        (try simp only [go_sem, Nat.reduceEqDiff, ↓reduceIte])
        refine hold2 (then_n ?_)
        refine J_seq ?_
        refine J_seq ?_
        refine J_region (by kernel_rfl) ?_
        (try simp only [go_sem, Nat.reduceEqDiff, ↓reduceIte])
        refine hold2 (then_n ?_)
        refine J_condV rfl ?_
        (try simp only [go_sem, Nat.reduceEqDiff, ↓reduceIte])
        rcases ite_cases hP with ⟨hc, hP⟩ | ⟨hc, hP⟩
        · refine condV_t hc ?_
          refine J_seq ?_
          refine J_region (by kernel_rfl) ?_
          (try simp only [go_sem, Nat.reduceEqDiff, ↓reduceIte])
          refine hold2 (then_n ?_)
          refine J_ret (then_ret (then_ret (fin_ret ?_)))
          obtain rfl := Option.some.inj hP
          (try simp only [go_sem, Nat.reduceEqDiff, ↓reduceIte])
          exact fo []
        · refine condV_f hc ?_
          refine J_skip (then_n ?_)
          refine J_seq ?_
          refine J_region (by kernel_rfl) ?_
          (try simp only [go_sem, Nat.reduceEqDiff, ↓reduceIte])
          obtain ⟨r61, hr61, hP⟩ := bind_cases hP
          refine call_ok [.str r60.1] (leaf_Label_ok hr61) ⟨argR_m false rfl, trivial⟩ ?_
          (try simp only [go_sem, Nat.reduceEqDiff, ↓reduceIte])
          refine hold2 (then_n ?_)
          refine J_ret (then_ret (fin_ret ?_))
          obtain rfl := Option.some.inj hP
          (try simp only [go_sem, Nat.reduceEqDiff, ↓reduceIte])
          exact fo []
      · refine condV_f hc ?_
        refine J_skip (then_n ?_)
        obtain ⟨o64, hP, hQ64⟩ := bind_cases hP
        refine J_join (fun (s : (List UInt8)) => envL [(6, .str s)]) (fun (s : (List UInt8)) => []) (fun s => s = o64) ?_ ?_
        · clear hQ64
          refine J_seq ?_
          refine J_region (by kernel_rfl) ?_
          (try simp only [go_sem, Nat.reduceEqDiff, ↓reduceIte])
          obtain ⟨r65, hr65, hP⟩ := bind_cases hP
          refine call_ok [.str r51, .str [9, 10, 12, 13, 32, 59]] (indexAnyY_ok hr65) ⟨argR_m false rfl, argR_m false rfl, trivial⟩ ?_
          (try simp only [go_sem, Nat.reduceEqDiff, ↓reduceIte])
          refine hold2 (then_n ?_)
          refine J_seq ?_
          refine J_region (by kernel_rfl) ?_
          (try simp only [go_sem, Nat.reduceEqDiff, ↓reduceIte])
          refine hold2 (then_n ?_)
          refine J_condV rfl ?_
          (try simp only [go_sem, Nat.reduceEqDiff, ↓reduceIte])
          rcases ite_cases hP with ⟨hc, hP⟩ | ⟨hc, hP⟩
          · refine condV_t hc ?_
            refine J_region (by kernel_rfl) ?_
            (try simp only [go_sem, Nat.reduceEqDiff, ↓reduceIte])
            obtain ⟨s66, hs66, hP⟩ := bind_cases hP
            refine slS_of hs66 ?_
            (try simp only [go_sem, Nat.reduceEqDiff, ↓reduceIte])
            refine hold2 ?_
            exact join_n s66 (Option.some.inj hP) (so [])
          · refine condV_f hc ?_
            refine J_skip ?_
            exact join_n r51 (Option.some.inj hP) (so [])
        · intro j67 hs
          subst hs
          have hP := hQ64
          clear hQ64
          refine J_seq ?_
          refine J_region (by kernel_rfl) ?_
          (try simp only [go_sem, Nat.reduceEqDiff, ↓reduceIte])
          obtain ⟨r68, hr68, hP⟩ := bind_cases hP
          refine call_ok [.str j67] (leaf_Label_ok hr68) ⟨argR_m false rfl, trivial⟩ ?_
          (try simp only [go_sem, Nat.reduceEqDiff, ↓reduceIte])
          refine hold2 (then_n ?_)
          refine J_ret (fin_ret ?_)
          obtain rfl := Option.some.inj hP
          (try simp only [go_sem, Nat.reduceEqDiff, ↓reduceIte])
          exact fo []
/-- (*colander/sniff.reader).begins -/
def sniff_reader_begins (r1 : (List (UInt8)) × Int) (word2 : List UInt8) : Option (Bool) :=
  (slL r1.1 r1.2 (List.length r1.1 : Int)).bind fun s3 =>
  (szC (List.length word2)).bind fun _ =>
  (bytes_HasPrefix s3 word2).bind fun r5 =>
  some r5
set_option maxRecDepth 100000 in
set_option maxHeartbeats 40000000 in
theorem sniff_reader_begins_ok {r1 : (List (UInt8)) × Int} {word2 : List UInt8} {r : Bool} (hP : sniff_reader_begins r1 word2 = some r) : CallOK Tryd.prog 63 [.vptr (.agg [.view 1 (List.map encB r1.1), .int .i64 r1.2]) 0, .str word2] (.bool r) [] := by
  unfold sniff_reader_begins at hP
  refine co 17 [.tmp 4] Tryd.func63 ?_
  refine J_seq ?_
  refine J_region (by kernel_rfl) ?_
  (try simp only [go_sem, Nat.reduceEqDiff, ↓reduceIte])
  refine hold2 (then_n ?_)
  refine J_seq ?_
  refine J_regionf follows_mixed (by kernel_rfl) (by kernel_rfl) ?_
  (try simp only [go_sem, Nat.reduceEqDiff, ↓reduceIte])
  obtain ⟨s3, hs3, hP⟩ := bind_cases hP
  refine slV_of hs3 ?_
  (try simp only [go_sem, Nat.reduceEqDiff, ↓reduceIte])
  obtain ⟨_, hz4, hP⟩ := bind_cases hP
  refine chk_of (szC_63 hz4) ?_
  (try simp only [go_sem, Nat.reduceEqDiff, ↓reduceIte])
  obtain ⟨r5, hr5, hP⟩ := bind_cases hP
  refine call_okf [.view 1 (List.map encB s3), .view 1 (List.map encB word2)] (bytes_HasPrefix_ok hr5) ⟨argR_m false rfl, argR_m false rfl, trivial⟩ ?_
  (try simp only [go_sem, Nat.reduceEqDiff, ↓reduceIte])
  refine hold2 (then_n ?_)
  refine J_ret (fin_ret ?_)
  obtain rfl := Option.some.inj hP
  (try simp only [go_sem, Nat.reduceEqDiff, ↓reduceIte])
  exact fo []
/-- (*colander/sniff.reader).letter -/
def sniff_reader_letter (r1 : (List (UInt8)) × Int) (n2 : Int) : Option (Bool) :=
  if decide (iadd .i64 r1.2 n2 < (List.length r1.1 : Int)) then
    (ixL r1.1 (iadd .i64 r1.2 n2)).bind fun x3 =>
    if decide (b2i (bC 97) ≤ b2i x3) then
      (ixL r1.1 (iadd .i64 r1.2 n2)).bind fun x4 =>
      some (decide (b2i x4 ≤ b2i (bC 122)))
    else
      some false
  else
    some false
set_option maxRecDepth 100000 in
set_option maxHeartbeats 40000000 in
theorem sniff_reader_letter_ok {r1 : (List (UInt8)) × Int} {n2 : Int} {r : Bool} (hP : sniff_reader_letter r1 n2 = some r) : CallOK Tryd.prog 66 [.vptr (.agg [.view 1 (List.map encB r1.1), .int .i64 r1.2]) 0, .int .i64 n2] (.bool r) [] := by
  unfold sniff_reader_letter at hP
  refine co 47 [.tmp 4] Tryd.func66 ?_
  refine J_seq ?_
  refine J_region (by kernel_rfl) ?_
  (try simp only [go_sem, Nat.reduceEqDiff, ↓reduceIte])
  refine hold2 (then_n ?_)
  refine J_seq ?_
  refine J_regionq follows_mixed (by kernel_rfl) (by kernel_rfl) ?_
  (try simp only [go_sem, Nat.reduceEqDiff, ↓reduceIte])
  rcases ite_cases hP with ⟨hc, hP⟩ | ⟨hc, hP⟩
  · refine guard_is hc ?_
    (try simp only [go_sem, Nat.reduceEqDiff, ↓reduceIte])
    obtain ⟨x3, hx3, hP⟩ := bind_cases hP
    refine ixV_of hx3 ?_
    (try simp only [go_sem, Nat.reduceEqDiff, ↓reduceIte])
    rcases ite_cases hP with ⟨hc, hP⟩ | ⟨hc, hP⟩
    · refine guard_is hc ?_
      (try simp only [go_sem, Nat.reduceEqDiff, ↓reduceIte])
      obtain ⟨x4, hx4, hP⟩ := bind_cases hP
      refine ixV_of hx4 ?_
      (try simp only [go_sem, Nat.reduceEqDiff, ↓reduceIte])
      refine hold2 (then_n ?_)
      refine J_ret (fin_ret ?_)
      obtain rfl := Option.some.inj hP
      (try simp only [go_sem, Nat.reduceEqDiff, ↓reduceIte])
      exact fo []
    · refine guard_not hc ?_
      (try simp only [go_sem, Nat.reduceEqDiff, ↓reduceIte])
      refine hold2 (then_n ?_)
      refine J_ret (fin_ret ?_)
      obtain rfl := Option.some.inj hP
      (try simp only [go_sem, Nat.reduceEqDiff, ↓reduceIte])
      exact fo []
  · refine guard_not hc ?_
    (try simp only [go_sem, Nat.reduceEqDiff, ↓reduceIte])
    refine hold2 (then_n ?_)
    refine J_ret (fin_ret ?_)
    obtain rfl := Option.some.inj hP
    (try simp only [go_sem, Nat.reduceEqDiff, ↓reduceIte])
    exact fo []
end Go.Proofs.YtecpgelhhbbjmaaDoor
