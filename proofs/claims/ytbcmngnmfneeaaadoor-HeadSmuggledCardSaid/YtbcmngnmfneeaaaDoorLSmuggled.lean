/- Functions of the program, and pure ones that go the same ways: that the program's return what these compute. -/
import Derived.Test.YtbcmngnmfneeaaaDoorGE
import Derived.Test.YtbcmngnmfneeaaaDoorAvY
import Derived.Test.YtbcmngnmfneeaaaDoorAvJ
namespace Go.Proofs.YtbcmngnmfneeaaaDoor
open Go.Av
set_option linter.unusedVariables false
set_option linter.unusedSimpArgs false
/-- colander/colanderlaw05.HeadSmuggled -/
def law05_HeadSmuggled_L19 (s1 : List UInt8) : Nat → Int → (List (Int)) → Option ((List (Int)))
  | 0, _, _ => none
  | k17 + 1, i15, l16 =>
    if decide (iadd .i64 i15 1 < (List.length s1 : Int)) then
      (ixL s1 i15).bind fun c20 =>
      if decide (b2i c20 = b2i (bC 13)) then
        (szC (List.length (l16 ++ [i15] : List (Int)))).bind fun _ =>
        law05_HeadSmuggled_L19 s1 k17 (iadd .i64 i15 1) (l16 ++ [i15])
      else
        law05_HeadSmuggled_L19 s1 k17 (iadd .i64 i15 1) l16
    else
      some l16
def law05_HeadSmuggled_L65 (s1 : List UInt8) : Nat → Int → Option (Int)
  | 0, _ => none
  | k64 + 1, c63 =>
    (ixL s1 c63).bind fun c66 =>
    if !decide (b2i c66 = b2i (bC 58)) then
      law05_HeadSmuggled_L65 s1 k64 (iadd .i64 c63 1)
    else
      some c63
def law05_HeadSmuggled (s1 : List UInt8) (which2 : Int) (how3 : Int) : Option (Bool) :=
  (law05_shown).bind fun r4 =>
  (head_Request s1).bind fun r5 =>
  (show Option (Bool) from
    if !r4 then
      some true
    else
      some (!r5.2)).bind fun j7 =>
    if j7 then
      some r4
    else
      (law05_HeadSmuggled_L19 s1 1099511627776 0 ([] : List Int)).bind fun j23 =>
        (show Option (Int) from
          if decide (which2 < 0) then
            some (ineg .i64 (iadd .i64 which2 1))
          else
            some which2).bind fun j25 =>
          (chk (decide (((List.length j23 : Nat) : Int) ≠ 0))).bind fun _ =>
          (ixL j23 (irem j25 ((List.length j23 : Nat) : Int))).bind fun x27 =>
          (show Option (Sum (Bool) ((List UInt8))) from
            if decide (how3 = 0) then
              (slL s1 0 x27).bind fun s51 =>
              (slL s1 (iadd .i64 x27 1) (List.length s1 : Int)).bind fun s52 =>
              (szC (List.length (s51 ++ s52))).bind fun _ =>
              some (Sum.inr (s51 ++ s52))
            else
              if decide (how3 = 1) then
                (slL s1 0 (iadd .i64 x27 1)).bind fun s54 =>
                (slL s1 (iadd .i64 x27 2) (List.length s1 : Int)).bind fun s55 =>
                (szC (List.length (s54 ++ s55))).bind fun _ =>
                some (Sum.inr (s54 ++ s55))
              else
                if decide (how3 = 2) then
                  if decide (((List.length j23 : Nat) : Int) ≤ iadd .i64 (irem j25 ((List.length j23 : Nat) : Int)) 2) then
                    some (Sum.inl true)
                  else
                    (slL s1 0 (iadd .i64 x27 2)).bind fun s57 =>
                    (szC (List.length (s57 ++ [32]))).bind fun _ =>
                    (slL s1 (iadd .i64 x27 2) (List.length s1 : Int)).bind fun s59 =>
                    (szC (List.length ((s57 ++ [32]) ++ s59))).bind fun _ =>
                    some (Sum.inr ((s57 ++ [32]) ++ s59))
                else
                  if decide (how3 = 3) then
                    if decide (((List.length j23 : Nat) : Int) ≤ iadd .i64 (irem j25 ((List.length j23 : Nat) : Int)) 2) then
                      some (Sum.inl true)
                    else
                      (law05_HeadSmuggled_L65 s1 1099511627776 (iadd .i64 x27 2)).bind fun j68 =>
                        (slL s1 0 j68).bind fun s69 =>
                        (szC (List.length (s69 ++ [32]))).bind fun _ =>
                        (slL s1 j68 (List.length s1 : Int)).bind fun s71 =>
                        (szC (List.length ((s69 ++ [32]) ++ s71))).bind fun _ =>
                        some (Sum.inr ((s69 ++ [32]) ++ s71))
                  else
                    some (Sum.inl true)).bind fun o50 => match o50 with
          | Sum.inl r => some r
          | Sum.inr j73 =>
            (head_Request j73).bind fun r74 =>
            some (!r74.2)
set_option maxRecDepth 100000 in
set_option maxHeartbeats 40000000 in
theorem law05_HeadSmuggled_ok {s1 : List UInt8} {which2 : Int} {how3 : Int} {r : Bool} (hP : law05_HeadSmuggled s1 which2 how3 = some r) : CallOK Tryd.prog 3 [.str s1, .int .i64 which2, .int .i64 how3] (.bool r) [] := by
  unfold law05_HeadSmuggled at hP
  refine co 126 [.tmp 6] Tryd.func3 ?_
  refine J_seq ?_
  refine J_region (by kernel_rfl) ?_
  (try simp only [go_sem, Nat.reduceEqDiff, reduceIte])
  refine hold2 (then_n ?_)
  refine J_seq ?_
  refine J_region (by kernel_rfl) ?_
  (try simp only [go_sem, Nat.reduceEqDiff, reduceIte])
  obtain ⟨r4, hr4, hP⟩ := bind_cases hP
  refine call_ok [] (law05_shown_ok hr4) trivial ?_
  (try simp only [go_sem, Nat.reduceEqDiff, reduceIte])
  refine hold2 (then_n ?_)
  refine J_seq ?_
  refine J_region (by kernel_rfl) ?_
  (try simp only [go_sem, Nat.reduceEqDiff, reduceIte])
  obtain ⟨r5, hr5, hP⟩ := bind_cases hP
  refine call_ok [.str s1] (head_Request_ok hr5) ⟨argR_m false rfl, trivial⟩ ?_
  (try simp only [go_sem, Nat.reduceEqDiff, reduceIte])
  refine hold2 (then_n ?_)
  refine J_seq ?_
  obtain ⟨o6, hP, hQ6⟩ := bind_cases hP
  refine J_join (fun (s : Bool) => envL [(0, .str s1), (1, .int .i64 which2), (2, .int .i64 how3), (7, .bool r4), (27, .bool s)]) (fun (s : Bool) => []) (fun s => s = o6) ?_ ?_
  · clear hQ6
    refine J_region (by kernel_rfl) ?_
    (try simp only [go_sem, Nat.reduceEqDiff, reduceIte])
    rcases ite_cases hP with ⟨hc, hP⟩ | ⟨hc, hP⟩
    · refine guard_not hc ?_
      (try simp only [go_sem, Nat.reduceEqDiff, reduceIte])
      refine hold2 ?_
      exact join_n true (Option.some.inj hP) (so [])
    · refine guard_is hc ?_
      (try simp only [go_sem, Nat.reduceEqDiff, reduceIte])
      refine hold2 ?_
      exact join_n (!r5.2) (Option.some.inj hP) (so [])
  · intro j7 hs
    subst hs
    have hP := hQ6
    clear hQ6
    refine J_condV rfl ?_
    (try simp only [go_sem, Nat.reduceEqDiff, reduceIte])
    rcases ite_cases hP with ⟨hc, hP⟩ | ⟨hc, hP⟩
    · refine condV_t hc ?_
      refine J_seq ?_
      refine J_region (by kernel_rfl) ?_
      (try simp only [go_sem, Nat.reduceEqDiff, reduceIte])
      refine hold2 (then_n ?_)
      refine J_ret (then_ret (fin_ret ?_))
      obtain rfl := Option.some.inj hP
      (try simp only [go_sem, Nat.reduceEqDiff, reduceIte])
      exact fo []
    · refine condV_f hc ?_
      refine J_skip (then_n ?_)
      refine J_seq ?_
      refine J_region (by kernel_rfl) ?_
      (try simp only [go_sem, Nat.reduceEqDiff, reduceIte])
      refine hold2 (then_n ?_)
      refine J_seq ?_
      refine J_seq ?_
      refine J_region (by kernel_rfl) ?_
      (try simp only [go_sem, Nat.reduceEqDiff, reduceIte])
      refine hold2 (then_n ?_)
      obtain ⟨o22, hP, hQ19⟩ := bind_cases hP
      refine J_joinK (fun (s : (List (Int))) => envL [(0, .str s1), (1, .int .i64 which2), (2, .int .i64 how3), (10, .own 0 0 0 (List.length s))]) (fun (s : (List (Int))) => [.slice 0 3 1 (List.map (encI .i64) s)]) (fun s => s = o22) (by repeat (first | exact subC_then | refine subC_block ?_)) ?_ ?_
      · clear hQ19
        refine J_block ?_
        refine J_loop (σ := Nat × Int × (List (Int))) (fun (s : Nat × Int × (List (Int))) => envL [(0, .str s1), (1, .int .i64 which2), (2, .int .i64 how3), (10, .own 0 0 0 (List.length s.2.2)), (11, .int .i64 s.2.1)]) (fun (s : Nat × Int × (List (Int))) => [.slice 0 3 1 (List.map (encI .i64) s.2.2)]) (fun s => law05_HeadSmuggled_L19 s1 s.1 s.2.1 s.2.2 = some o22) (fun s => s.1) (1099511627776, 0, ([] : List Int)) hP (so [0]) ?_
        rintro ⟨k17, i15, l16⟩ hP
        dsimp only at hP ⊢
        cases k17 with
        | zero => simp [law05_HeadSmuggled_L19] at hP
        | succ k17 =>
          simp only [law05_HeadSmuggled_L19] at hP
          refine J_seq ?_
          refine J_seq ?_
          refine J_region (by kernel_rfl) ?_
          (try simp only [go_sem, Nat.reduceEqDiff, reduceIte])
          refine hold2 (then_n ?_)
          refine J_condV rfl ?_
          (try simp only [go_sem, Nat.reduceEqDiff, reduceIte])
          rcases ite_cases hP with ⟨hc, hP⟩ | ⟨hc, hP⟩
          · refine condV_t hc ?_
            refine J_skip (then_n ?_)
            refine J_seq ?_
            refine J_block ?_
            refine J_seq ?_
            refine J_region (by kernel_rfl) ?_
            (try simp only [go_sem, Nat.reduceEqDiff, reduceIte])
            obtain ⟨c20, hc20, hP⟩ := bind_cases hP
            refine ixS_of hc20 ?_
            (try simp only [go_sem, Nat.reduceEqDiff, reduceIte])
            refine hold2 (then_n ?_)
            refine J_condV rfl ?_
            (try simp only [go_sem, Nat.reduceEqDiff, reduceIte])
            rcases ite_cases hP with ⟨hc, hP⟩ | ⟨hc, hP⟩
            · refine condV_t hc ?_
              refine J_region (by kernel_rfl) ?_
              (try simp only [go_sem, Nat.reduceEqDiff, reduceIte])
              obtain ⟨_, hz21, hP⟩ := bind_cases hP
              refine app_own (f := (encI .i64)) (l16 : List (Int)) ([i15] : List (Int)) rfl tyS_30 (by decide) (by simp only [go_sem, Nat.reduceEqDiff, reduceIte]; first | done | rfl | exact ⟨rfl, rfl⟩) hz21 ?_
              (try simp only [go_sem, Nat.reduceEqDiff, reduceIte])
              refine hold2 (block_n (then_n ?_))
              refine J_region (by kernel_rfl) ?_
              (try simp only [go_sem, Nat.reduceEqDiff, reduceIte])
              refine hold2 ?_
              exact loop_n (k17, iadd .i64 i15 1, l16 ++ [i15]) hP (Nat.lt_succ_self _) (so [0])
            · refine condV_f hc ?_
              refine J_skip (block_n (then_n ?_))
              refine J_region (by kernel_rfl) ?_
              (try simp only [go_sem, Nat.reduceEqDiff, reduceIte])
              refine hold2 ?_
              exact loop_n (k17, iadd .i64 i15 1, l16) hP (Nat.lt_succ_self _) (so [0])
          · refine condV_f hc ?_
            refine J_exit (then_exit (loop_exit (block_eq ?_)))
            exact join_n l16 (Option.some.inj hP) (so [0])
      · intro j23 hs
        subst hs
        have hP := hQ19
        clear hQ19
        refine then_n ?_
        obtain ⟨o24, hP, hQ24⟩ := bind_cases hP
        refine J_join (fun (s : Int) => envL [(0, .str s1), (1, .int .i64 s), (2, .int .i64 how3), (10, .own 0 0 0 (List.length j23))]) (fun (s : Int) => [.slice 0 3 1 (List.map (encI .i64) j23)]) (fun s => s = o24) ?_ ?_
        · clear hQ24
          refine J_seq ?_
          refine J_region (by kernel_rfl) ?_
          (try simp only [go_sem, Nat.reduceEqDiff, reduceIte])
          refine hold2 (then_n ?_)
          refine J_condV rfl ?_
          (try simp only [go_sem, Nat.reduceEqDiff, reduceIte])
          rcases ite_cases hP with ⟨hc, hP⟩ | ⟨hc, hP⟩
          · refine condV_t hc ?_
            refine J_region (by kernel_rfl) ?_
            (try simp only [go_sem, Nat.reduceEqDiff, reduceIte])
            refine hold2 ?_
            exact join_n (ineg .i64 (iadd .i64 which2 1)) (Option.some.inj hP) (so [0])
          · refine condV_f hc ?_
            refine J_skip ?_
            exact join_n which2 (Option.some.inj hP) (so [0])
        · intro j25 hs
          subst hs
          have hP := hQ24
          clear hQ24
          refine J_seq ?_
          refine J_region (by kernel_rfl) ?_
          (try simp only [go_sem, Nat.reduceEqDiff, reduceIte])
          obtain ⟨_, hz26, hP⟩ := bind_cases hP
          refine chk_of (chk_prop hz26) ?_
          (try simp only [go_sem, Nat.reduceEqDiff, reduceIte])
          refine hold2 (then_n ?_)
          refine J_seq ?_
          refine J_region (by kernel_rfl) ?_
          (try simp only [go_sem, Nat.reduceEqDiff, reduceIte])
          obtain ⟨x27, hx27, hP⟩ := bind_cases hP
          refine ixO_of hx27 ?_
          (try simp only [go_sem, Nat.reduceEqDiff, reduceIte])
          refine getK_of (f := (encI .i64)) hx27 ?_
          (try simp only [go_sem, Nat.reduceEqDiff, reduceIte])
          refine hold2 (then_n ?_)
          refine J_seq ?_
          refine J_region (by kernel_rfl) ?_
          (try simp only [go_sem, Nat.reduceEqDiff, reduceIte])
          refine hold2 (then_n ?_)
          obtain ⟨o50, hP, hQ50⟩ := bind_cases hP
          refine J_join (fun (s : (List UInt8)) => envL [(14, .str s)]) (fun (s : (List UInt8)) => []) (fun s => Sum.inr s = o50) ?_ ?_
          · refine J_seq ?_
            refine J_region (by kernel_rfl) ?_
            (try simp only [go_sem, Nat.reduceEqDiff, reduceIte])
            refine hold2 (then_n ?_)
            refine J_block ?_
            refine J_seq ?_
            refine J_region (by kernel_rfl) ?_
            (try simp only [go_sem, Nat.reduceEqDiff, reduceIte])
            refine hold2 (then_n ?_)
            refine J_condV rfl ?_
            (try simp only [go_sem, Nat.reduceEqDiff, reduceIte])
            rcases ite_cases hP with ⟨hc, hP⟩ | ⟨hc, hP⟩
            · refine condV_t hc ?_
              refine J_regionq follows_mixed (by kernel_rfl) (by kernel_rfl) ?_
              (try simp only [go_sem, Nat.reduceEqDiff, reduceIte])
              obtain ⟨s51, hs51, hP⟩ := bind_cases hP
              refine slS_of hs51 ?_
              (try simp only [go_sem, Nat.reduceEqDiff, reduceIte])
              obtain ⟨s52, hs52, hP⟩ := bind_cases hP
              refine slS_of hs52 ?_
              (try simp only [go_sem, Nat.reduceEqDiff, reduceIte])
              obtain ⟨_, hz53, hP⟩ := bind_cases hP
              refine chk_of (by first | exact szC_63 hz53 | (have q := szC_63 hz53; simp only [List.length_append, List.length_cons, List.length_nil] at q ⊢; omega)) ?_
              (try simp only [go_sem, Nat.reduceEqDiff, reduceIte])
              refine hold2 (block_n ?_)
              exact join_n (s51 ++ s52) (Option.some.inj hP) (so [])
            · refine condV_f hc ?_
              refine J_seq ?_
              refine J_region (by kernel_rfl) ?_
              (try simp only [go_sem, Nat.reduceEqDiff, reduceIte])
              refine hold2 (then_n ?_)
              refine J_condV rfl ?_
              (try simp only [go_sem, Nat.reduceEqDiff, reduceIte])
              rcases ite_cases hP with ⟨hc, hP⟩ | ⟨hc, hP⟩
              · refine condV_t hc ?_
                refine J_regionq follows_mixed (by kernel_rfl) (by kernel_rfl) ?_
                (try simp only [go_sem, Nat.reduceEqDiff, reduceIte])
                obtain ⟨s54, hs54, hP⟩ := bind_cases hP
                refine slS_of hs54 ?_
                (try simp only [go_sem, Nat.reduceEqDiff, reduceIte])
                obtain ⟨s55, hs55, hP⟩ := bind_cases hP
                refine slS_of hs55 ?_
                (try simp only [go_sem, Nat.reduceEqDiff, reduceIte])
                obtain ⟨_, hz56, hP⟩ := bind_cases hP
                refine chk_of (by first | exact szC_63 hz56 | (have q := szC_63 hz56; simp only [List.length_append, List.length_cons, List.length_nil] at q ⊢; omega)) ?_
                (try simp only [go_sem, Nat.reduceEqDiff, reduceIte])
                refine hold2 (block_n ?_)
                exact join_n (s54 ++ s55) (Option.some.inj hP) (so [])
              · refine condV_f hc ?_
                refine J_seq ?_
                refine J_region (by kernel_rfl) ?_
                (try simp only [go_sem, Nat.reduceEqDiff, reduceIte])
                refine hold2 (then_n ?_)
                refine J_condV rfl ?_
                (try simp only [go_sem, Nat.reduceEqDiff, reduceIte])
                rcases ite_cases hP with ⟨hc, hP⟩ | ⟨hc, hP⟩
                · refine condV_t hc ?_
                  refine J_seq ?_
                  refine J_seq ?_
                  refine J_region (by kernel_rfl) ?_
                  (try simp only [go_sem, Nat.reduceEqDiff, reduceIte])
                  refine hold2 (then_n ?_)
                  refine J_condV rfl ?_
                  (try simp only [go_sem, Nat.reduceEqDiff, reduceIte])
                  rcases ite_cases hP with ⟨hc, hP⟩ | ⟨hc, hP⟩
                  · refine condV_t hc ?_
                    refine J_seq ?_
                    refine J_region (by kernel_rfl) ?_
                    (try simp only [go_sem, Nat.reduceEqDiff, reduceIte])
                    refine hold2 (then_n ?_)
                    refine J_ret (then_ret (block_ret (join_ret (fin_ret ?_))))
                    obtain rfl := Option.some.inj hP
                    have hP := hQ50
                    dsimp only at hP
                    obtain rfl := Option.some.inj hP
                    (try simp only [go_sem, Nat.reduceEqDiff, reduceIte])
                    exact fo []
                  · refine condV_f hc ?_
                    refine J_skip (then_n ?_)
                    refine J_regionq follows_mixed (by kernel_rfl) (by kernel_rfl) ?_
                    (try simp only [go_sem, Nat.reduceEqDiff, reduceIte])
                    obtain ⟨s57, hs57, hP⟩ := bind_cases hP
                    refine slS_of hs57 ?_
                    (try simp only [go_sem, Nat.reduceEqDiff, reduceIte])
                    obtain ⟨_, hz58, hP⟩ := bind_cases hP
                    refine chk_of (by first | exact szC_63 hz58 | (have q := szC_63 hz58; simp only [List.length_append, List.length_cons, List.length_nil] at q ⊢; omega)) ?_
                    (try simp only [go_sem, Nat.reduceEqDiff, reduceIte])
                    obtain ⟨s59, hs59, hP⟩ := bind_cases hP
                    refine slS_of hs59 ?_
                    (try simp only [go_sem, Nat.reduceEqDiff, reduceIte])
                    obtain ⟨_, hz60, hP⟩ := bind_cases hP
                    refine chk_of (by first | exact szC_63 hz60 | (have q := szC_63 hz60; simp only [List.length_append, List.length_cons, List.length_nil] at q ⊢; omega)) ?_
                    (try simp only [go_sem, Nat.reduceEqDiff, reduceIte])
                    refine hold2 (block_n ?_)
                    exact join_n ((s57 ++ [32]) ++ s59) (Option.some.inj hP) (so [])
                · refine condV_f hc ?_
                  refine J_seq ?_
                  refine J_region (by kernel_rfl) ?_
                  (try simp only [go_sem, Nat.reduceEqDiff, reduceIte])
                  refine hold2 (then_n ?_)
                  refine J_condV rfl ?_
                  (try simp only [go_sem, Nat.reduceEqDiff, reduceIte])
                  rcases ite_cases hP with ⟨hc, hP⟩ | ⟨hc, hP⟩
                  · refine condV_t hc ?_
                    refine J_seq ?_
                    refine J_seq ?_
                    refine J_region (by kernel_rfl) ?_
                    (try simp only [go_sem, Nat.reduceEqDiff, reduceIte])
                    refine hold2 (then_n ?_)
                    refine J_condV rfl ?_
                    (try simp only [go_sem, Nat.reduceEqDiff, reduceIte])
                    rcases ite_cases hP with ⟨hc, hP⟩ | ⟨hc, hP⟩
                    · refine condV_t hc ?_
                      refine J_seq ?_
                      refine J_region (by kernel_rfl) ?_
                      (try simp only [go_sem, Nat.reduceEqDiff, reduceIte])
                      refine hold2 (then_n ?_)
                      refine J_ret (then_ret (block_ret (join_ret (fin_ret ?_))))
                      obtain rfl := Option.some.inj hP
                      have hP := hQ50
                      dsimp only at hP
                      obtain rfl := Option.some.inj hP
                      (try simp only [go_sem, Nat.reduceEqDiff, reduceIte])
                      exact fo []
                    · refine condV_f hc ?_
                      refine J_skip (then_n ?_)
                      refine J_seq ?_
                      refine J_region (by kernel_rfl) ?_
                      (try simp only [go_sem, Nat.reduceEqDiff, reduceIte])
                      refine hold2 (then_n ?_)
                      refine J_seq ?_
                      obtain ⟨o67, hP, hQ65⟩ := bind_cases hP
                      refine J_joinK (fun (s : Int) => envL [(0, .str s1), (15, .int .i64 s)]) (fun (s : Int) => []) (fun s => s = o67) (by repeat (first | exact subC_then | refine subC_block ?_)) ?_ ?_
                      · clear hQ65
                        refine J_block ?_
                        refine J_loop (σ := Nat × Int) (fun (s : Nat × Int) => envL [(0, .str s1), (15, .int .i64 s.2)]) (fun (s : Nat × Int) => []) (fun s => law05_HeadSmuggled_L65 s1 s.1 s.2 = some o67) (fun s => s.1) (1099511627776, iadd .i64 x27 2) hP (so []) ?_
                        rintro ⟨k64, c63⟩ hP
                        dsimp only at hP ⊢
                        cases k64 with
                        | zero => simp [law05_HeadSmuggled_L65] at hP
                        | succ k64 =>
                          simp only [law05_HeadSmuggled_L65] at hP
                          refine J_seq ?_
                          refine J_seq ?_
                          refine J_region (by kernel_rfl) ?_
                          (try simp only [go_sem, Nat.reduceEqDiff, reduceIte])
                          obtain ⟨c66, hc66, hP⟩ := bind_cases hP
                          refine ixS_of hc66 ?_
                          (try simp only [go_sem, Nat.reduceEqDiff, reduceIte])
                          refine hold2 (then_n ?_)
                          refine J_condV rfl ?_
                          (try simp only [go_sem, Nat.reduceEqDiff, reduceIte])
                          rcases ite_cases hP with ⟨hc, hP⟩ | ⟨hc, hP⟩
                          · refine condV_t hc ?_
                            refine J_skip (then_n ?_)
                            refine J_block ?_
                            refine J_region (by kernel_rfl) ?_
                            (try simp only [go_sem, Nat.reduceEqDiff, reduceIte])
                            refine hold2 (block_n ?_)
                            exact loop_n (k64, iadd .i64 c63 1) hP (Nat.lt_succ_self _) (so [])
                          · refine condV_f hc ?_
                            refine J_exit (then_exit (loop_exit (block_eq ?_)))
                            exact join_n c63 (Option.some.inj hP) (so [])
                      · intro j68 hs
                        subst hs
                        have hP := hQ65
                        clear hQ65
                        refine then_n ?_
                        refine J_regionq follows_mixed (by kernel_rfl) (by kernel_rfl) ?_
                        (try simp only [go_sem, Nat.reduceEqDiff, reduceIte])
                        obtain ⟨s69, hs69, hP⟩ := bind_cases hP
                        refine slS_of hs69 ?_
                        (try simp only [go_sem, Nat.reduceEqDiff, reduceIte])
                        obtain ⟨_, hz70, hP⟩ := bind_cases hP
                        refine chk_of (by first | exact szC_63 hz70 | (have q := szC_63 hz70; simp only [List.length_append, List.length_cons, List.length_nil] at q ⊢; omega)) ?_
                        (try simp only [go_sem, Nat.reduceEqDiff, reduceIte])
                        obtain ⟨s71, hs71, hP⟩ := bind_cases hP
                        refine slS_of hs71 ?_
                        (try simp only [go_sem, Nat.reduceEqDiff, reduceIte])
                        obtain ⟨_, hz72, hP⟩ := bind_cases hP
                        refine chk_of (by first | exact szC_63 hz72 | (have q := szC_63 hz72; simp only [List.length_append, List.length_cons, List.length_nil] at q ⊢; omega)) ?_
                        (try simp only [go_sem, Nat.reduceEqDiff, reduceIte])
                        refine hold2 (block_n ?_)
                        exact join_n ((s69 ++ [32]) ++ s71) (Option.some.inj hP) (so [])
                  · refine condV_f hc ?_
                    refine J_seq ?_
                    refine J_region (by kernel_rfl) ?_
                    (try simp only [go_sem, Nat.reduceEqDiff, reduceIte])
                    refine hold2 (then_n ?_)
                    refine J_ret (block_ret (join_ret (fin_ret ?_)))
                    obtain rfl := Option.some.inj hP
                    have hP := hQ50
                    dsimp only at hP
                    obtain rfl := Option.some.inj hP
                    (try simp only [go_sem, Nat.reduceEqDiff, reduceIte])
                    exact fo []
          · intro j73 hs
            subst hs
            have hP := hQ50
            dsimp only at hP
            clear hQ50
            refine J_seq ?_
            refine J_region (by kernel_rfl) ?_
            (try simp only [go_sem, Nat.reduceEqDiff, reduceIte])
            obtain ⟨r74, hr74, hP⟩ := bind_cases hP
            refine call_ok [.str j73] (head_Request_ok hr74) ⟨argR_m false rfl, trivial⟩ ?_
            (try simp only [go_sem, Nat.reduceEqDiff, reduceIte])
            refine hold2 (then_n ?_)
            refine J_seq ?_
            refine J_region (by kernel_rfl) ?_
            (try simp only [go_sem, Nat.reduceEqDiff, reduceIte])
            refine hold2 (then_n ?_)
            refine J_ret (fin_ret ?_)
            obtain rfl := Option.some.inj hP
            (try simp only [go_sem, Nat.reduceEqDiff, reduceIte])
            exact fo []
end Go.Proofs.YtbcmngnmfneeaaaDoor
