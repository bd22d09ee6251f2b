/- Functions of the program, and pure ones that go the same ways: that the program's return what these compute. -/
import Derived.Test.YtecpgelhhbbjmaaDoorLibL
import Derived.Test.YtecpgelhhbbjmaaDoorGB
import Derived.Test.YtecpgelhhbbjmaaDoorAvPj
namespace Go.Proofs.YtecpgelhhbbjmaaDoor
open Go.Av
set_option linter.unusedVariables false
set_option linter.unusedSimpArgs false
/-- colander/leaf.small -/
def leaf_small_L20 (s1 : List UInt8) : Nat → Int → (List (UInt8)) → Option ((List (UInt8)))
  | 0, _, _ => none
  | k16 + 1, v14, l15 =>
    if decide (v14 < ((List.length s1 : Nat) : Int)) then
      (ixL l15 v14).bind fun x21 =>
      (show Option (Bool) from
        if decide (b2i (bC 65) ≤ b2i x21) then
          some (decide (b2i x21 ≤ b2i (bC 90)))
        else
          some false).bind fun j23 =>
        if j23 then
          (ixL l15 v14).bind fun x24 =>
          leaf_small_L20 s1 k16 (iadd .i64 v14 1) (List.set l15 (Int.toNat v14) (x21 + (bC 32)))
        else
          leaf_small_L20 s1 k16 (iadd .i64 v14 1) l15
    else
      some l15
def leaf_small (s1 : List UInt8) : Option ((List UInt8)) :=
  (szC (List.length s1)).bind fun _ =>
  (leaf_small_L20 s1 140737488355328 0 s1).bind fun j26 =>
    some j26
set_option maxRecDepth 100000 in
set_option maxHeartbeats 40000000 in
theorem leaf_small_ok {s1 : List UInt8} {r : (List UInt8)} (hP : leaf_small s1 = some r) : CallOK Tryd.prog 42 [.str s1] (.str r) [] := by
  unfold leaf_small at hP
  refine co 29 [.tmp 2] Tryd.func42 ?_
  refine J_seq ?_
  refine J_region (by kernel_rfl) ?_
  (try simp only [go_sem, Nat.reduceEqDiff, ↓reduceIte])
  refine hold2 (then_n ?_)
  refine J_seq ?_
  refine J_region (by kernel_rfl) ?_
  (try simp only [go_sem, Nat.reduceEqDiff, ↓reduceIte])
  obtain ⟨_, hz2, hP⟩ := bind_cases hP
  refine chk_of (szC_63 hz2) ?_
  (try simp only [go_sem, Nat.reduceEqDiff, ↓reduceIte])
  refine hold2 (then_n ?_)
  refine J_seq ?_
  refine J_seq ?_
  refine J_region (by kernel_rfl) ?_
  (try simp only [go_sem, Nat.reduceEqDiff, ↓reduceIte])
  refine hold2 (then_n ?_)
  obtain ⟨o25, hP, hQ20⟩ := bind_cases hP
  refine J_joinK0 (fun (s : (List (UInt8))) => envL [(3, .own 0 0 0 (List.length s))]) (fun (s : (List (UInt8))) => [.slice 0 5 1 (List.map encB s)]) (fun s => s = o25) ?_ ?_
  · clear hQ20
    refine J_block ?_
    refine J_loop (σ := Nat × Int × (List (UInt8))) (fun (s : Nat × Int × (List (UInt8))) => envL [(3, .own 0 0 0 (List.length s.2.2)), (8, .own 0 0 0 (List.length s.2.2)), (9, .int .i64 ((List.length s1 : Nat) : Int)), (10, .int .i64 s.2.1)]) (fun (s : Nat × Int × (List (UInt8))) => [.slice 0 5 1 (List.map encB s.2.2)]) (fun s => leaf_small_L20 s1 s.1 s.2.1 s.2.2 = some o25) (fun s => s.1) (140737488355328, 0, s1) hP (so [0]) ?_
    rintro ⟨k16, v14, l15⟩ hP
    dsimp only at hP ⊢
    cases k16 with
    | zero => simp [leaf_small_L20] at hP
    | succ k16 =>
      simp only [leaf_small_L20] at hP
      refine J_seq ?_
      refine J_region (by kernel_rfl) ?_
      (try simp only [go_sem, Nat.reduceEqDiff, ↓reduceIte])
      refine hold2 (then_n ?_)
      refine J_seq ?_
      refine J_condV rfl ?_
      (try simp only [go_sem, Nat.reduceEqDiff, ↓reduceIte])
      rcases ite_cases hP with ⟨hc, hP⟩ | ⟨hc, hP⟩
      · refine condV_t hc ?_
        refine J_skip (then_n ?_)
        refine J_seq ?_
        refine J_block ?_
        refine J_seq ?_
        refine J_region (by kernel_rfl) ?_
        (try simp only [go_sem, Nat.reduceEqDiff, ↓reduceIte])
        obtain ⟨x21, hx21, hP⟩ := bind_cases hP
        refine ixO_of hx21 ?_
        (try simp only [go_sem, Nat.reduceEqDiff, ↓reduceIte])
        refine getK_of (f := encB) hx21 ?_
        (try simp only [go_sem, Nat.reduceEqDiff, ↓reduceIte])
        refine hold2 (then_n ?_)
        obtain ⟨o22, hP, hQ22⟩ := bind_cases hP
        refine J_join (fun (s : Bool) => envL [(3, .own 0 0 0 (List.length l15)), (4, .int .i64 v14), (5, .int .u8 (b2i x21)), (8, .own 0 0 0 (List.length l15)), (9, .int .i64 ((List.length s1 : Nat) : Int)), (10, .int .i64 v14), (20, .bool s)]) (fun (s : Bool) => [.slice 0 5 1 (List.map encB l15)]) (fun s => s = o22) ?_ ?_
        · clear hQ22
          refine J_region (by kernel_rfl) ?_
          (try simp only [go_sem, Nat.reduceEqDiff, ↓reduceIte])
          rcases ite_cases hP with ⟨hc, hP⟩ | ⟨hc, hP⟩
          · refine guard_is hc ?_
            (try simp only [go_sem, Nat.reduceEqDiff, ↓reduceIte])
            refine hold2 ?_
            exact join_n (decide (b2i x21 ≤ b2i (bC 90))) (Option.some.inj hP) (so [0])
          · refine guard_not hc ?_
            (try simp only [go_sem, Nat.reduceEqDiff, ↓reduceIte])
            refine hold2 ?_
            exact join_n false (Option.some.inj hP) (so [0])
        · intro j23 hs
          subst hs
          have hP := hQ22
          clear hQ22
          refine J_condV rfl ?_
          (try simp only [go_sem, Nat.reduceEqDiff, ↓reduceIte])
          rcases ite_cases hP with ⟨hc, hP⟩ | ⟨hc, hP⟩
          · refine condV_t hc ?_
            refine J_region (by kernel_rfl) ?_
            (try simp only [go_sem, Nat.reduceEqDiff, ↓reduceIte])
            obtain ⟨x24, hx24, hP⟩ := bind_cases hP
            refine ixO_of hx24 ?_
            (try simp only [go_sem, Nat.reduceEqDiff, ↓reduceIte])
            refine getK_of (f := encB) hx24 ?_
            (try simp only [go_sem, Nat.reduceEqDiff, ↓reduceIte])
            refine hold2 (block_n (then_n ?_))
            refine J_region (by kernel_rfl) ?_
            (try simp only [go_sem, Nat.reduceEqDiff, ↓reduceIte])
            refine hold2 ?_
            exact loop_n (k16, iadd .i64 v14 1, List.set l15 (Int.toNat v14) (x21 + (bC 32))) hP (Nat.lt_succ_self _) (so [0])
          · refine condV_f hc ?_
            refine J_skip (block_n (then_n ?_))
            refine J_region (by kernel_rfl) ?_
            (try simp only [go_sem, Nat.reduceEqDiff, ↓reduceIte])
            refine hold2 ?_
            exact loop_n (k16, iadd .i64 v14 1, l15) hP (Nat.lt_succ_self _) (so [0])
      · refine condV_f hc ?_
        refine J_exit (then_exit (loop_exit (block_eq ?_)))
        exact join_n l15 (Option.some.inj hP) (so [0])
  · intro j26 hs
    subst hs
    have hP := hQ20
    clear hQ20
    refine then_n ?_
    refine J_seq ?_
    refine J_region (by kernel_rfl) ?_
    (try simp only [go_sem, Nat.reduceEqDiff, ↓reduceIte])
    first | refine bytesK_map ?_ | refine bytesK_of j26 rfl ?_
    (try simp only [go_sem, Nat.reduceEqDiff, ↓reduceIte])
    refine hold2 (then_n ?_)
    refine J_ret (fin_ret ?_)
    obtain rfl := Option.some.inj hP
    (try simp only [go_sem, Nat.reduceEqDiff, ↓reduceIte])
    exact fo []
/-- colander/leaf.Label -/
def leaf_Label (s1 : List UInt8) : Option (Int) :=
  (trimX s1 [9, 10, 12, 13, 32]).bind fun r2 =>
  (leaf_small r2).bind fun r3 =>
  (show Option (Bool) from
    if decide (r3 = [117, 116, 102, 45, 56]) then
      some (decide (r3 = [117, 116, 102, 45, 56]))
    else
      if decide (r3 = [117, 116, 102, 56]) then
        some (decide (r3 = [117, 116, 102, 56]))
      else
        if decide (r3 = [117, 110, 105, 99, 111, 100, 101, 45, 49, 45, 49, 45, 117, 116, 102, 45, 56]) then
          some (decide (r3 = [117, 110, 105, 99, 111, 100, 101, 45, 49, 45, 49, 45, 117, 116, 102, 45, 56]))
        else
          if decide (r3 = [117, 110, 105, 99, 111, 100, 101, 49, 49, 117, 116, 102, 56]) then
            some (decide (r3 = [117, 110, 105, 99, 111, 100, 101, 49, 49, 117, 116, 102, 56]))
          else
            if decide (r3 = [117, 110, 105, 99, 111, 100, 101, 50, 48, 117, 116, 102, 56]) then
              some (decide (r3 = [117, 110, 105, 99, 111, 100, 101, 50, 48, 117, 116, 102, 56]))
            else
              some (decide (r3 = [120, 45, 117, 110, 105, 99, 111, 100, 101, 50, 48, 117, 116, 102, 56]))).bind fun j5 =>
    if j5 then
      some 1
    else
      (show Option (Bool) from
        if decide (r3 = [119, 105, 110, 100, 111, 119, 115, 45, 49, 50, 53, 50]) then
          some (decide (r3 = [119, 105, 110, 100, 111, 119, 115, 45, 49, 50, 53, 50]))
        else
          if decide (r3 = [99, 112, 49, 50, 53, 50]) then
            some (decide (r3 = [99, 112, 49, 50, 53, 50]))
          else
            if decide (r3 = [120, 45, 99, 112, 49, 50, 53, 50]) then
              some (decide (r3 = [120, 45, 99, 112, 49, 50, 53, 50]))
            else
              if decide (r3 = [105, 115, 111, 45, 56, 56, 53, 57, 45, 49]) then
                some (decide (r3 = [105, 115, 111, 45, 56, 56, 53, 57, 45, 49]))
              else
                if decide (r3 = [105, 115, 111, 56, 56, 53, 57, 45, 49]) then
                  some (decide (r3 = [105, 115, 111, 56, 56, 53, 57, 45, 49]))
                else
                  if decide (r3 = [105, 115, 111, 56, 56, 53, 57, 49]) then
                    some (decide (r3 = [105, 115, 111, 56, 56, 53, 57, 49]))
                  else
                    if decide (r3 = [105, 115, 111, 95, 56, 56, 53, 57, 45, 49]) then
                      some (decide (r3 = [105, 115, 111, 95, 56, 56, 53, 57, 45, 49]))
                    else
                      if decide (r3 = [108, 97, 116, 105, 110, 49]) then
                        some (decide (r3 = [108, 97, 116, 105, 110, 49]))
                      else
                        if decide (r3 = [108, 49]) then
                          some (decide (r3 = [108, 49]))
                        else
                          if decide (r3 = [97, 115, 99, 105, 105]) then
                            some (decide (r3 = [97, 115, 99, 105, 105]))
                          else
                            some (decide (r3 = [117, 115, 45, 97, 115, 99, 105, 105]))).bind fun j7 =>
        if j7 then
          some 2
        else
          if decide (r3 = [117, 116, 102, 45, 49, 54]) then
            if decide (r3 = [117, 116, 102, 45, 49, 54]) then
              some 3
            else
              some 0
          else
            if decide (r3 = [117, 116, 102, 45, 49, 54, 108, 101]) then
              if decide (r3 = [117, 116, 102, 45, 49, 54, 108, 101]) then
                some 3
              else
                some 0
            else
              if decide (r3 = [117, 116, 102, 45, 49, 54, 98, 101]) then
                if decide (r3 = [117, 116, 102, 45, 49, 54, 98, 101]) then
                  some 3
                else
                  some 0
              else
                if decide (r3 = [117, 110, 105, 99, 111, 100, 101]) then
                  if decide (r3 = [117, 110, 105, 99, 111, 100, 101]) then
                    some 3
                  else
                    some 0
                else
                  if decide (r3 = [117, 99, 115, 45, 50]) then
                    some 3
                  else
                    some 0
set_option maxRecDepth 100000 in
set_option maxHeartbeats 40000000 in
theorem leaf_Label_ok {s1 : List UInt8} {r : Int} (hP : leaf_Label s1 = some r) : CallOK Tryd.prog 18 [.str s1] (.int .i64 r) [] := by
  unfold leaf_Label at hP
  refine co 31 [.tmp 2] Tryd.func18 ?_
  refine J_seq ?_
  refine J_region (by kernel_rfl) ?_
  (try simp only [go_sem, Nat.reduceEqDiff, ↓reduceIte])
  refine hold2 (then_n ?_)
  refine J_seq ?_
  refine J_seq ?_
  refine J_region (by kernel_rfl) ?_
  (try simp only [go_sem, Nat.reduceEqDiff, ↓reduceIte])
  obtain ⟨r2, hr2, hP⟩ := bind_cases hP
  refine call_ok [.str s1, .str [9, 10, 12, 13, 32]] (trimX_ok hr2) ⟨argR_m false rfl, argR_m false rfl, trivial⟩ ?_
  (try simp only [go_sem, Nat.reduceEqDiff, ↓reduceIte])
  obtain ⟨r3, hr3, hP⟩ := bind_cases hP
  refine call_ok [.str r2] (leaf_small_ok hr3) ⟨argR_m false rfl, trivial⟩ ?_
  (try simp only [go_sem, Nat.reduceEqDiff, ↓reduceIte])
  refine hold2 (then_n ?_)
  refine J_block ?_
  obtain ⟨o4, hP, hQ4⟩ := bind_cases hP
  refine J_join (fun (s : Bool) => envL [(5, .str r3), (6, .bool s)]) (fun (s : Bool) => []) (fun s => s = o4) ?_ ?_
  · clear hQ4
    refine J_seq ?_
    refine J_region (by kernel_rfl) ?_
    (try simp only [go_sem, Nat.reduceEqDiff, ↓reduceIte])
    refine hold2 (then_n ?_)
    refine J_condV rfl ?_
    (try simp only [go_sem, Nat.reduceEqDiff, ↓reduceIte])
    rcases ite_cases hP with ⟨hc, hP⟩ | ⟨hc, hP⟩
    · refine condV_t hc ?_
      refine J_skip ?_
      exact join_n (decide (r3 = [117, 116, 102, 45, 56])) (Option.some.inj hP) (so [])
    · refine condV_f hc ?_
      refine J_seq ?_
      refine J_region (by kernel_rfl) ?_
      (try simp only [go_sem, Nat.reduceEqDiff, ↓reduceIte])
      refine hold2 (then_n ?_)
      refine J_condV rfl ?_
      (try simp only [go_sem, Nat.reduceEqDiff, ↓reduceIte])
      rcases ite_cases hP with ⟨hc, hP⟩ | ⟨hc, hP⟩
      · refine condV_t hc ?_
        refine J_skip ?_
        exact join_n (decide (r3 = [117, 116, 102, 56])) (Option.some.inj hP) (so [])
      · refine condV_f hc ?_
        refine J_seq ?_
        refine J_region (by kernel_rfl) ?_
        (try simp only [go_sem, Nat.reduceEqDiff, ↓reduceIte])
        refine hold2 (then_n ?_)
        refine J_condV rfl ?_
        (try simp only [go_sem, Nat.reduceEqDiff, ↓reduceIte])
        rcases ite_cases hP with ⟨hc, hP⟩ | ⟨hc, hP⟩
        · refine condV_t hc ?_
          refine J_skip ?_
          exact join_n (decide (r3 = [117, 110, 105, 99, 111, 100, 101, 45, 49, 45, 49, 45, 117, 116, 102, 45, 56])) (Option.some.inj hP) (so [])
        · refine condV_f hc ?_
          refine J_seq ?_
          refine J_region (by kernel_rfl) ?_
          (try simp only [go_sem, Nat.reduceEqDiff, ↓reduceIte])
          refine hold2 (then_n ?_)
          refine J_condV rfl ?_
          (try simp only [go_sem, Nat.reduceEqDiff, ↓reduceIte])
          rcases ite_cases hP with ⟨hc, hP⟩ | ⟨hc, hP⟩
          · refine condV_t hc ?_
            refine J_skip ?_
            exact join_n (decide (r3 = [117, 110, 105, 99, 111, 100, 101, 49, 49, 117, 116, 102, 56])) (Option.some.inj hP) (so [])
          · refine condV_f hc ?_
            refine J_seq ?_
            refine J_region (by kernel_rfl) ?_
            (try simp only [go_sem, Nat.reduceEqDiff, ↓reduceIte])
            refine hold2 (then_n ?_)
            refine J_condV rfl ?_
            (try simp only [go_sem, Nat.reduceEqDiff, ↓reduceIte])
            rcases ite_cases hP with ⟨hc, hP⟩ | ⟨hc, hP⟩
            · refine condV_t hc ?_
              refine J_skip ?_
              exact join_n (decide (r3 = [117, 110, 105, 99, 111, 100, 101, 50, 48, 117, 116, 102, 56])) (Option.some.inj hP) (so [])
            · refine condV_f hc ?_
              refine J_region (by kernel_rfl) ?_
              (try simp only [go_sem, Nat.reduceEqDiff, ↓reduceIte])
              refine hold2 ?_
              exact join_n (decide (r3 = [120, 45, 117, 110, 105, 99, 111, 100, 101, 50, 48, 117, 116, 102, 56])) (Option.some.inj hP) (so [])
  · intro j5 hs
    subst hs
    have hP := hQ4
    clear hQ4
    refine J_condV rfl ?_
    (try simp only [go_sem, Nat.reduceEqDiff, ↓reduceIte])
    rcases ite_cases hP with ⟨hc, hP⟩ | ⟨hc, hP⟩
    · refine condV_t hc ?_
      refine J_seq ?_
      refine J_region (by kernel_rfl) ?_
      (try simp only [go_sem, Nat.reduceEqDiff, ↓reduceIte])
      refine hold2 (then_n ?_)
      refine J_ret (block_ret (then_ret (fin_ret ?_)))
      obtain rfl := Option.some.inj hP
      (try simp only [go_sem, Nat.reduceEqDiff, ↓reduceIte])
      exact fo []
    · refine condV_f hc ?_
      obtain ⟨o6, hP, hQ6⟩ := bind_cases hP
      refine J_join (fun (s : Bool) => envL [(5, .str r3), (13, .bool s)]) (fun (s : Bool) => []) (fun s => s = o6) ?_ ?_
      · clear hQ6
        refine J_seq ?_
        refine J_region (by kernel_rfl) ?_
        (try simp only [go_sem, Nat.reduceEqDiff, ↓reduceIte])
        refine hold2 (then_n ?_)
        refine J_condV rfl ?_
        (try simp only [go_sem, Nat.reduceEqDiff, ↓reduceIte])
        rcases ite_cases hP with ⟨hc, hP⟩ | ⟨hc, hP⟩
        · refine condV_t hc ?_
          refine J_skip ?_
          exact join_n (decide (r3 = [119, 105, 110, 100, 111, 119, 115, 45, 49, 50, 53, 50])) (Option.some.inj hP) (so [])
        · refine condV_f hc ?_
          refine J_seq ?_
          refine J_region (by kernel_rfl) ?_
          (try simp only [go_sem, Nat.reduceEqDiff, ↓reduceIte])
          refine hold2 (then_n ?_)
          refine J_condV rfl ?_
          (try simp only [go_sem, Nat.reduceEqDiff, ↓reduceIte])
          rcases ite_cases hP with ⟨hc, hP⟩ | ⟨hc, hP⟩
          · refine condV_t hc ?_
            refine J_skip ?_
            exact join_n (decide (r3 = [99, 112, 49, 50, 53, 50])) (Option.some.inj hP) (so [])
          · refine condV_f hc ?_
            refine J_seq ?_
            refine J_region (by kernel_rfl) ?_
            (try simp only [go_sem, Nat.reduceEqDiff, ↓reduceIte])
            refine hold2 (then_n ?_)
            refine J_condV rfl ?_
            (try simp only [go_sem, Nat.reduceEqDiff, ↓reduceIte])
            rcases ite_cases hP with ⟨hc, hP⟩ | ⟨hc, hP⟩
            · refine condV_t hc ?_
              refine J_skip ?_
              exact join_n (decide (r3 = [120, 45, 99, 112, 49, 50, 53, 50])) (Option.some.inj hP) (so [])
            · refine condV_f hc ?_
              refine J_seq ?_
              refine J_region (by kernel_rfl) ?_
              (try simp only [go_sem, Nat.reduceEqDiff, ↓reduceIte])
              refine hold2 (then_n ?_)
              refine J_condV rfl ?_
              (try simp only [go_sem, Nat.reduceEqDiff, ↓reduceIte])
              rcases ite_cases hP with ⟨hc, hP⟩ | ⟨hc, hP⟩
              · refine condV_t hc ?_
                refine J_skip ?_
                exact join_n (decide (r3 = [105, 115, 111, 45, 56, 56, 53, 57, 45, 49])) (Option.some.inj hP) (so [])
              · refine condV_f hc ?_
                refine J_seq ?_
                refine J_region (by kernel_rfl) ?_
                (try simp only [go_sem, Nat.reduceEqDiff, ↓reduceIte])
                refine hold2 (then_n ?_)
                refine J_condV rfl ?_
                (try simp only [go_sem, Nat.reduceEqDiff, ↓reduceIte])
                rcases ite_cases hP with ⟨hc, hP⟩ | ⟨hc, hP⟩
                · refine condV_t hc ?_
                  refine J_skip ?_
                  exact join_n (decide (r3 = [105, 115, 111, 56, 56, 53, 57, 45, 49])) (Option.some.inj hP) (so [])
                · refine condV_f hc ?_
                  refine J_seq ?_
                  refine J_region (by kernel_rfl) ?_
                  (try simp only [go_sem, Nat.reduceEqDiff, ↓reduceIte])
                  refine hold2 (then_n ?_)
                  refine J_condV rfl ?_
                  (try simp only [go_sem, Nat.reduceEqDiff, ↓reduceIte])
                  rcases ite_cases hP with ⟨hc, hP⟩ | ⟨hc, hP⟩
                  · refine condV_t hc ?_
                    refine J_skip ?_
                    exact join_n (decide (r3 = [105, 115, 111, 56, 56, 53, 57, 49])) (Option.some.inj hP) (so [])
                  · refine condV_f hc ?_
                    refine J_seq ?_
                    refine J_region (by kernel_rfl) ?_
                    (try simp only [go_sem, Nat.reduceEqDiff, ↓reduceIte])
                    refine hold2 (then_n ?_)
                    refine J_condV rfl ?_
                    (try simp only [go_sem, Nat.reduceEqDiff, ↓reduceIte])
                    rcases ite_cases hP with ⟨hc, hP⟩ | ⟨hc, hP⟩
                    · refine condV_t hc ?_
                      refine J_skip ?_
                      exact join_n (decide (r3 = [105, 115, 111, 95, 56, 56, 53, 57, 45, 49])) (Option.some.inj hP) (so [])
                    · refine condV_f hc ?_
                      refine J_seq ?_
                      refine J_region (by kernel_rfl) ?_
                      (try simp only [go_sem, Nat.reduceEqDiff, ↓reduceIte])
                      refine hold2 (then_n ?_)
                      refine J_condV rfl ?_
                      (try simp only [go_sem, Nat.reduceEqDiff, ↓reduceIte])
                      rcases ite_cases hP with ⟨hc, hP⟩ | ⟨hc, hP⟩
                      · refine condV_t hc ?_
                        refine J_skip ?_
                        exact join_n (decide (r3 = [108, 97, 116, 105, 110, 49])) (Option.some.inj hP) (so [])
                      · refine condV_f hc ?_
                        refine J_seq ?_
                        refine J_region (by kernel_rfl) ?_
                        (try simp only [go_sem, Nat.reduceEqDiff, ↓reduceIte])
                        refine hold2 (then_n ?_)
                        refine J_condV rfl ?_
                        (try simp only [go_sem, Nat.reduceEqDiff, ↓reduceIte])
                        rcases ite_cases hP with ⟨hc, hP⟩ | ⟨hc, hP⟩
                        · refine condV_t hc ?_
                          refine J_skip ?_
                          exact join_n (decide (r3 = [108, 49])) (Option.some.inj hP) (so [])
                        · refine condV_f hc ?_
                          refine J_seq ?_
                          refine J_region (by kernel_rfl) ?_
                          (try simp only [go_sem, Nat.reduceEqDiff, ↓reduceIte])
                          refine hold2 (then_n ?_)
                          refine J_condV rfl ?_
                          (try simp only [go_sem, Nat.reduceEqDiff, ↓reduceIte])
                          rcases ite_cases hP with ⟨hc, hP⟩ | ⟨hc, hP⟩
                          · refine condV_t hc ?_
                            refine J_skip ?_
                            exact join_n (decide (r3 = [97, 115, 99, 105, 105])) (Option.some.inj hP) (so [])
                          · refine condV_f hc ?_
                            refine J_region (by kernel_rfl) ?_
                            (try simp only [go_sem, Nat.reduceEqDiff, ↓reduceIte])
                            refine hold2 ?_
                            exact join_n (decide (r3 = [117, 115, 45, 97, 115, 99, 105, 105])) (Option.some.inj hP) (so [])
      · intro j7 hs
        subst hs
        have hP := hQ6
        clear hQ6
        refine J_condV rfl ?_
        (try simp only [go_sem, Nat.reduceEqDiff, ↓reduceIte])
        rcases ite_cases hP with ⟨hc, hP⟩ | ⟨hc, hP⟩
        · refine condV_t hc ?_
          refine J_seq ?_
          refine J_region (by kernel_rfl) ?_
          (try simp only [go_sem, Nat.reduceEqDiff, ↓reduceIte])
          refine hold2 (then_n ?_)
          refine J_ret (block_ret (then_ret (fin_ret ?_)))
          obtain rfl := Option.some.inj hP
          (try simp only [go_sem, Nat.reduceEqDiff, ↓reduceIte])
          exact fo []
        · refine condV_f hc ?_
          refine J_seq ?_
          refine J_seq ?_
          refine J_region (by kernel_rfl) ?_
          (try simp only [go_sem, Nat.reduceEqDiff, ↓reduceIte])
          refine hold2 (then_n ?_)
          refine J_condV rfl ?_
          (try simp only [go_sem, Nat.reduceEqDiff, ↓reduceIte])
          rcases ite_cases hP with ⟨hc, hP⟩ | ⟨hc, hP⟩
          · refine condV_t hc ?_
            refine J_skip (then_n ?_)
            refine J_condV rfl ?_
            (try simp only [go_sem, Nat.reduceEqDiff, ↓reduceIte])
            rcases ite_cases hP with ⟨hc, hP⟩ | ⟨hc, hP⟩
            · refine condV_t hc ?_
              refine J_seq ?_
              refine J_region (by kernel_rfl) ?_
              (try simp only [go_sem, Nat.reduceEqDiff, ↓reduceIte])
              refine hold2 (then_n ?_)
              refine J_ret (block_ret (then_ret (fin_ret ?_)))
              obtain rfl := Option.some.inj hP
              (try simp only [go_sem, Nat.reduceEqDiff, ↓reduceIte])
              exact fo []
            · refine condV_f hc ?_
              refine J_skip (block_n (then_n ?_))
              refine J_seq ?_
              refine J_region (by kernel_rfl) ?_
              (try simp only [go_sem, Nat.reduceEqDiff, ↓reduceIte])
              refine hold2 (then_n ?_)
              refine J_ret (fin_ret ?_)
              obtain rfl := Option.some.inj hP
              (try simp only [go_sem, Nat.reduceEqDiff, ↓reduceIte])
              exact fo []
          · refine condV_f hc ?_
            refine J_seq ?_
            refine J_region (by kernel_rfl) ?_
            (try simp only [go_sem, Nat.reduceEqDiff, ↓reduceIte])
            refine hold2 (then_n ?_)
            refine J_condV rfl ?_
            (try simp only [go_sem, Nat.reduceEqDiff, ↓reduceIte])
            rcases ite_cases hP with ⟨hc, hP⟩ | ⟨hc, hP⟩
            · refine condV_t hc ?_
              refine J_skip (then_n ?_)
              refine J_condV rfl ?_
              (try simp only [go_sem, Nat.reduceEqDiff, ↓reduceIte])
              rcases ite_cases hP with ⟨hc, hP⟩ | ⟨hc, hP⟩
              · refine condV_t hc ?_
                refine J_seq ?_
                refine J_region (by kernel_rfl) ?_
                (try simp only [go_sem, Nat.reduceEqDiff, ↓reduceIte])
                refine hold2 (then_n ?_)
                refine J_ret (block_ret (then_ret (fin_ret ?_)))
                obtain rfl := Option.some.inj hP
                (try simp only [go_sem, Nat.reduceEqDiff, ↓reduceIte])
                exact fo []
              · refine condV_f hc ?_
                refine J_skip (block_n (then_n ?_))
                refine J_seq ?_
                refine J_region (by kernel_rfl) ?_
                (try simp only [go_sem, Nat.reduceEqDiff, ↓reduceIte])
                refine hold2 (then_n ?_)
                refine J_ret (fin_ret ?_)
                obtain rfl := Option.some.inj hP
                (try simp only [go_sem, Nat.reduceEqDiff, ↓reduceIte])
                exact fo []
            · refine condV_f hc ?_
              refine J_seq ?_
              refine J_region (by kernel_rfl) ?_
              (try simp only [go_sem, Nat.reduceEqDiff, ↓reduceIte])
              refine hold2 (then_n ?_)
              refine J_condV rfl ?_
              (try simp only [go_sem, Nat.reduceEqDiff, ↓reduceIte])
              rcases ite_cases hP with ⟨hc, hP⟩ | ⟨hc, hP⟩
              · refine condV_t hc ?_
                refine J_skip (then_n ?_)
                refine J_condV rfl ?_
                (try simp only [go_sem, Nat.reduceEqDiff, ↓reduceIte])
                rcases ite_cases hP with ⟨hc, hP⟩ | ⟨hc, hP⟩
                · refine condV_t hc ?_
                  refine J_seq ?_
                  refine J_region (by kernel_rfl) ?_
                  (try simp only [go_sem, Nat.reduceEqDiff, ↓reduceIte])
                  refine hold2 (then_n ?_)
                  refine J_ret (block_ret (then_ret (fin_ret ?_)))
                  obtain rfl := Option.some.inj hP
                  (try simp only [go_sem, Nat.reduceEqDiff, ↓reduceIte])
                  exact fo []
                · refine condV_f hc ?_
                  refine J_skip (block_n (then_n ?_))
                  refine J_seq ?_
                  refine J_region (by kernel_rfl) ?_
                  (try simp only [go_sem, Nat.reduceEqDiff, ↓reduceIte])
                  refine hold2 (then_n ?_)
                  refine J_ret (fin_ret ?_)
                  obtain rfl := Option.some.inj hP
                  (try simp only [go_sem, Nat.reduceEqDiff, ↓reduceIte])
                  exact fo []
              · refine condV_f hc ?_
                refine J_seq ?_
                refine J_region (by kernel_rfl) ?_
                (try simp only [go_sem, Nat.reduceEqDiff, ↓reduceIte])
                refine hold2 (then_n ?_)
                refine J_condV rfl ?_
                (try simp only [go_sem, Nat.reduceEqDiff, ↓reduceIte])
                rcases ite_cases hP with ⟨hc, hP⟩ | ⟨hc, hP⟩
                · refine condV_t hc ?_
                  refine J_skip (then_n ?_)
                  refine J_condV rfl ?_
                  (try simp only [go_sem, Nat.reduceEqDiff, ↓reduceIte])
                  rcases ite_cases hP with ⟨hc, hP⟩ | ⟨hc, hP⟩
                  · refine condV_t hc ?_
                    refine J_seq ?_
                    refine J_region (by kernel_rfl) ?_
                    (try simp only [go_sem, Nat.reduceEqDiff, ↓reduceIte])
                    refine hold2 (then_n ?_)
                    refine J_ret (block_ret (then_ret (fin_ret ?_)))
                    obtain rfl := Option.some.inj hP
                    (try simp only [go_sem, Nat.reduceEqDiff, ↓reduceIte])
                    exact fo []
                  · refine condV_f hc ?_
                    refine J_skip (block_n (then_n ?_))
                    refine J_seq ?_
                    refine J_region (by kernel_rfl) ?_
                    (try simp only [go_sem, Nat.reduceEqDiff, ↓reduceIte])
                    refine hold2 (then_n ?_)
                    refine J_ret (fin_ret ?_)
                    obtain rfl := Option.some.inj hP
                    (try simp only [go_sem, Nat.reduceEqDiff, ↓reduceIte])
                    exact fo []
                · refine condV_f hc ?_
                  refine J_region (by kernel_rfl) ?_
                  (try simp only [go_sem, Nat.reduceEqDiff, ↓reduceIte])
                  refine hold2 (then_n ?_)
                  refine J_condV rfl ?_
                  (try simp only [go_sem, Nat.reduceEqDiff, ↓reduceIte])
                  rcases ite_cases hP with ⟨hc, hP⟩ | ⟨hc, hP⟩
                  · refine condV_t hc ?_
                    refine J_seq ?_
                    refine J_region (by kernel_rfl) ?_
                    (try simp only [go_sem, Nat.reduceEqDiff, ↓reduceIte])
                    refine hold2 (then_n ?_)
                    refine J_ret (block_ret (then_ret (fin_ret ?_)))
                    obtain rfl := Option.some.inj hP
                    (try simp only [go_sem, Nat.reduceEqDiff, ↓reduceIte])
                    exact fo []
                  · refine condV_f hc ?_
                    refine J_skip (block_n (then_n ?_))
                    refine J_seq ?_
                    refine J_region (by kernel_rfl) ?_
                    (try simp only [go_sem, Nat.reduceEqDiff, ↓reduceIte])
                    refine hold2 (then_n ?_)
                    refine J_ret (fin_ret ?_)
                    obtain rfl := Option.some.inj hP
                    (try simp only [go_sem, Nat.reduceEqDiff, ↓reduceIte])
                    exact fo []
/-- colander/leaf.Char -/
def leaf_Char (c1 : UInt8) : Option (Int) :=
  (show Option (Bool) from
    if decide (b2i (bC 128) ≤ b2i c1) then
      some (decide (b2i c1 < b2i (bC 160)))
    else
      some false).bind fun j3 =>
    if j3 then
      (show Option (Unit) from
        some ()).bind fun a4 =>
        (ixL ([8364, 129, 8218, 402, 8222, 8230, 8224, 8225, 710, 8240, 352, 8249, 338, 141, 381, 143, 144, 8216, 8217, 8220, 8221, 8226, 8211, 8212, 732, 8482, 353, 8250, 339, 157, 382, 376] : List Int) (b2i (c1 - (bC 128)))).bind fun x6 =>
        some x6
    else
      some (b2i c1)
set_option maxRecDepth 100000 in
set_option maxHeartbeats 40000000 in
theorem leaf_Char_ok {c1 : UInt8} {r : Int} (hP : leaf_Char c1 = some r) : CallOK Tryd.prog 48 [.int .u8 (b2i c1)] (.int .i32 r) [] := by
  unfold leaf_Char at hP
  refine co 15 [.tmp 2] Tryd.func48 ?_
  refine J_seq ?_
  refine J_region (by kernel_rfl) ?_
  (try simp only [go_sem, Nat.reduceEqDiff, ↓reduceIte])
  refine hold2 (then_n ?_)
  refine J_seq ?_
  obtain ⟨o2, hP, hQ2⟩ := bind_cases hP
  refine J_join (fun (s : Bool) => envL [(0, .int .u8 (b2i c1)), (8, .bool s)]) (fun (s : Bool) => []) (fun s => s = o2) ?_ ?_
  · clear hQ2
    refine J_region (by kernel_rfl) ?_
    (try simp only [go_sem, Nat.reduceEqDiff, ↓reduceIte])
    rcases ite_cases hP with ⟨hc, hP⟩ | ⟨hc, hP⟩
    · refine guard_is hc ?_
      (try simp only [go_sem, Nat.reduceEqDiff, ↓reduceIte])
      refine hold2 ?_
      exact join_n (decide (b2i c1 < b2i (bC 160))) (Option.some.inj hP) (so [])
    · refine guard_not hc ?_
      (try simp only [go_sem, Nat.reduceEqDiff, ↓reduceIte])
      refine hold2 ?_
      exact join_n false (Option.some.inj hP) (so [])
  · intro j3 hs
    subst hs
    have hP := hQ2
    clear hQ2
    refine J_condV rfl ?_
    (try simp only [go_sem, Nat.reduceEqDiff, ↓reduceIte])
    rcases ite_cases hP with ⟨hc, hP⟩ | ⟨hc, hP⟩
    · refine condV_t hc ?_
      refine J_seq ?_
      refine J_region (by kernel_rfl) ?_
      (try simp only [go_sem, Nat.reduceEqDiff, ↓reduceIte])
      obtain ⟨o5, hP, hQ4⟩ := bind_cases hP
      refine call_join (fun (s : Unit) => .agg [.int .i32 8364, .int .i32 129, .int .i32 8218, .int .i32 402, .int .i32 8222, .int .i32 8230, .int .i32 8224, .int .i32 8225, .int .i32 710, .int .i32 8240, .int .i32 352, .int .i32 8249, .int .i32 338, .int .i32 141, .int .i32 381, .int .i32 143, .int .i32 144, .int .i32 8216, .int .i32 8217, .int .i32 8220, .int .i32 8221, .int .i32 8226, .int .i32 8211, .int .i32 8212, .int .i32 732, .int .i32 8482, .int .i32 353, .int .i32 8250, .int .i32 339, .int .i32 157, .int .i32 382, .int .i32 376]) (fun (s : Unit) => envL [(0, .int .u8 (b2i c1))]) (fun (s : Unit) => []) (fun s => s = o5) (callI_of (n := 2) (rs := [.cell 0 95]) Tryd.func76 rfl (by decide) rfl rfl (by simp) rfl ?_) ?_
      · clear hQ4
        refine J_seq ?_
        refine J_region (by kernel_rfl) ?_
        (try simp only [go_sem, Nat.reduceEqDiff, ↓reduceIte])
        refine hold2 (then_n ?_)
        refine J_seq ?_
        refine J_region (by kernel_rfl) ?_
        (try simp only [go_sem, Nat.reduceEqDiff, ↓reduceIte, Nat.reduceAdd, Nat.reduceSub, Nat.reduceLT, Nat.reduceMul, reduceCtorEq, Int.reduceToNat, Int.reduceLE, Int.reduceLT, Nat.reduceLeDiff])
        refine hold2 (then_n ?_)
        refine J_ret (finI_ret ?_)
        (try simp only [go_sem, Nat.reduceEqDiff, ↓reduceIte])
        exact told_of ⟨(), Option.some.inj hP, sr []⟩
      · intro a4 hs
        subst hs
        have hP := hQ4
        clear hQ4
        (try simp only [go_sem, Nat.reduceEqDiff, ↓reduceIte])
        obtain ⟨x6, hx6, hP⟩ := bind_cases hP
        refine ixV_of (f := (encI .i32)) hx6 ?_
        (try simp only [go_sem, Nat.reduceEqDiff, ↓reduceIte])
        refine hold2 (then_n ?_)
        refine J_ret (then_ret (fin_ret ?_))
        obtain rfl := Option.some.inj hP
        (try simp only [go_sem, Nat.reduceEqDiff, ↓reduceIte])
        exact fo []
    · refine condV_f hc ?_
      refine J_skip (then_n ?_)
      refine J_seq ?_
      refine J_region (by kernel_rfl) ?_
      (try simp only [go_sem, Nat.reduceEqDiff, ↓reduceIte])
      refine hold2 (then_n ?_)
      refine J_ret (fin_ret ?_)
      obtain rfl := Option.some.inj hP
      (try simp only [go_sem, Nat.reduceEqDiff, ↓reduceIte])
      exact fo []
/-- colander/leaf.Decode -/
def leaf_Decode_L17 (b1 : List (UInt8)) : Nat → Int → (List (Int)) → Option ((List (Int)))
  | 0, _, _ => none
  | k14 + 1, v12, l13 =>
    if decide (v12 < (List.length b1 : Int)) then
      (ixL b1 v12).bind fun x18 =>
      (leaf_Char x18).bind fun r19 =>
      (ixL l13 v12).bind fun x20 =>
      leaf_Decode_L17 b1 k14 (iadd .i64 v12 1) (List.set l13 (Int.toNat v12) r19)
    else
      some l13
def leaf_Decode (b1 : List (UInt8)) : Option ((List UInt8)) :=
  (mkC (List.length b1 : Int)).bind fun _ =>
  (leaf_Decode_L17 b1 140737488355328 0 (List.replicate (Int.toNat (List.length b1 : Int)) (0 : Int))).bind fun j22 =>
    (utf8_Encode j22).bind fun r23 =>
    some r23
set_option maxRecDepth 100000 in
set_option maxHeartbeats 40000000 in
theorem leaf_Decode_ok {b1 : List (UInt8)} {r : (List UInt8)} (hP : leaf_Decode b1 = some r) : CallOK Tryd.prog 21 [.view 1 (List.map encB b1)] (.str r) [] := by
  unfold leaf_Decode at hP
  refine co 24 [.tmp 2] Tryd.func21 ?_
  refine J_seq ?_
  refine J_region (by kernel_rfl) ?_
  (try simp only [go_sem, Nat.reduceEqDiff, ↓reduceIte])
  refine hold2 (then_n ?_)
  refine J_seq ?_
  refine J_region (by kernel_rfl) ?_
  (try simp only [go_sem, Nat.reduceEqDiff, ↓reduceIte])
  obtain ⟨_, hz2, hP⟩ := bind_cases hP
  refine mk_of hz2 (by decide) ?_
  (try simp only [go_sem, Nat.reduceEqDiff, ↓reduceIte])
  refine hold2 (then_n ?_)
  refine J_seq ?_
  refine J_seq ?_
  refine J_region (by kernel_rfl) ?_
  (try simp only [go_sem, Nat.reduceEqDiff, ↓reduceIte])
  refine hold2 (then_n ?_)
  obtain ⟨o21, hP, hQ17⟩ := bind_cases hP
  refine J_joinK0 (fun (s : (List (Int))) => envL [(3, .own 0 0 0 (List.length s))]) (fun (s : (List (Int))) => [.slice 0 21 1 (List.map (encI .i32) s)]) (fun s => s = o21) ?_ ?_
  · clear hQ17
    refine J_block ?_
    refine J_loop (σ := Nat × Int × (List (Int))) (fun (s : Nat × Int × (List (Int))) => envL [(3, .own 0 0 0 (List.length s.2.2)), (9, .view 1 (List.map encB b1)), (10, .int .i64 (List.length b1 : Int)), (11, .int .i64 s.2.1)]) (fun (s : Nat × Int × (List (Int))) => [.slice 0 21 1 (List.map (encI .i32) s.2.2)]) (fun s => leaf_Decode_L17 b1 s.1 s.2.1 s.2.2 = some o21) (fun s => s.1) (140737488355328, 0, List.replicate (Int.toNat (List.length b1 : Int)) (0 : Int)) hP (so [0]) ?_
    rintro ⟨k14, v12, l13⟩ hP
    dsimp only at hP ⊢
    cases k14 with
    | zero => simp [leaf_Decode_L17] at hP
    | succ k14 =>
      simp only [leaf_Decode_L17] at hP
      refine J_seq ?_
      refine J_region (by kernel_rfl) ?_
      (try simp only [go_sem, Nat.reduceEqDiff, ↓reduceIte])
      refine hold2 (then_n ?_)
      refine J_seq ?_
      refine J_condV rfl ?_
      (try simp only [go_sem, Nat.reduceEqDiff, ↓reduceIte])
      rcases ite_cases hP with ⟨hc, hP⟩ | ⟨hc, hP⟩
      · refine condV_t hc ?_
        refine J_skip (then_n ?_)
        refine J_seq ?_
        refine J_block ?_
        refine J_seq ?_
        refine J_region (by kernel_rfl) ?_
        (try simp only [go_sem, Nat.reduceEqDiff, ↓reduceIte])
        obtain ⟨x18, hx18, hP⟩ := bind_cases hP
        refine ixV_of hx18 ?_
        (try simp only [go_sem, Nat.reduceEqDiff, ↓reduceIte])
        refine hold2 (then_n ?_)
        refine J_region (by kernel_rfl) ?_
        (try simp only [go_sem, Nat.reduceEqDiff, ↓reduceIte])
        obtain ⟨r19, hr19, hP⟩ := bind_cases hP
        refine call_ok [.int .u8 (b2i x18)] (leaf_Char_ok hr19) ⟨argR_m false rfl, trivial⟩ ?_
        (try simp only [go_sem, Nat.reduceEqDiff, ↓reduceIte])
        obtain ⟨x20, hx20, hP⟩ := bind_cases hP
        refine ixO_of hx20 ?_
        (try simp only [go_sem, Nat.reduceEqDiff, ↓reduceIte])
        refine getK_of (f := (encI .i32)) hx20 ?_
        (try simp only [go_sem, Nat.reduceEqDiff, ↓reduceIte])
        refine hold2 (block_n (then_n ?_))
        refine J_region (by kernel_rfl) ?_
        (try simp only [go_sem, Nat.reduceEqDiff, ↓reduceIte])
        refine hold2 ?_
        exact loop_n (k14, iadd .i64 v12 1, List.set l13 (Int.toNat v12) r19) hP (Nat.lt_succ_self _) (so [0])
      · refine condV_f hc ?_
        refine J_exit (then_exit (loop_exit (block_eq ?_)))
        exact join_n l13 (Option.some.inj hP) (so [0])
  · intro j22 hs
    subst hs
    have hP := hQ17
    clear hQ17
    refine then_n ?_
    refine J_seq ?_
    refine J_region (by kernel_rfl) ?_
    (try simp only [go_sem, Nat.reduceEqDiff, ↓reduceIte])
    obtain ⟨r23, hr23, hP⟩ := bind_cases hP
    refine call_ok [.view 1 (List.map (encI .i32) j22)] (utf8_Encode_ok hr23) ⟨argR_m false (by simp only [arg, go_sem, Nat.reduceEqDiff, ↓reduceIte]), trivial⟩ ?_
    (try simp only [go_sem, Nat.reduceEqDiff, ↓reduceIte])
    refine hold2 (then_n ?_)
    refine J_ret (fin_ret ?_)
    obtain rfl := Option.some.inj hP
    (try simp only [go_sem, Nat.reduceEqDiff, ↓reduceIte])
    exact fo []
end Go.Proofs.YtecpgelhhbbjmaaDoor
