/- Functions of the program, and pure ones that go the same ways: that the program's return what these compute. -/
import Derived.Test.YtbcmngnmfneeaaaDoorGE
import Derived.Test.YtbcmngnmfneeaaaDoorAvY
import Derived.Test.YtbcmngnmfneeaaaDoorAvPj
namespace Go.Proofs.YtbcmngnmfneeaaaDoor
open Go.Av
set_option linter.unusedVariables false
set_option linter.unusedSimpArgs false
/-- (*colander/colanderref05.Reader).Take, handed pointers -/
def ref05_Reader_Take_L110 (b1 : List (UInt8)) : Nat → Int → (List UInt8) → Bool → Int → Option (Int × (List UInt8) × Bool × Int)
  | 0, _, _, _, _ => none
  | k98 + 1, n94, l95, l96, l97 =>
    (show Option (Bool) from
      if decide (n94 < (List.length b1 : Int)) then
        if !l96 then
          some (decide (l97 = 0))
        else
          some false
      else
        some false).bind fun j112 =>
      if j112 then
        (ixL b1 n94).bind fun x113 =>
        (show Option (Bool) from
          if decide (0 < (List.length l95 : Int)) then
            (ixL l95 (isub .i64 (List.length l95 : Int) 1)).bind fun c116 =>
            some (decide (b2i c116 = b2i (bC 13)))
          else
            some false).bind fun j117 =>
          (szC (List.length (l95 ++ [x113]))).bind fun _ =>
          if (decide (b2i x113 = b2i (bC 10))) != j117 then
            ref05_Reader_Take_L110 b1 k98 (iadd .i64 n94 1) (l95 ++ [x113]) l96 10
          else
            (show Option (Bool) from
              if decide ((l95 ++ [x113]) = [13, 10]) then
                some true
              else
                if decide (3 < (List.length (l95 ++ [x113]) : Int)) then
                  (slL (l95 ++ [x113]) (isub .i64 (List.length (l95 ++ [x113]) : Int) 4) (List.length (l95 ++ [x113]) : Int)).bind fun s121 =>
                  some (decide (s121 = [13, 10, 13, 10]))
                else
                  some false).bind fun j122 =>
              if j122 then
                ref05_Reader_Take_L110 b1 k98 (iadd .i64 n94 1) (l95 ++ [x113]) true l97
              else
                if decide ((List.length (l95 ++ [x113]) : Int) = 2048) then
                  ref05_Reader_Take_L110 b1 k98 (iadd .i64 n94 1) (l95 ++ [x113]) l96 17
                else
                  ref05_Reader_Take_L110 b1 k98 (iadd .i64 n94 1) (l95 ++ [x113]) l96 l97
      else
        some (n94, l95, l96, l97)
def ref05_Reader_Take (b1 : List (UInt8)) (c2 : List UInt8) (c3 : Bool) (c4 : Int) : Option (Int × (List UInt8) × Bool × Int) :=
  (ref05_Reader_Take_L110 b1 140737488355328 0 c2 c3 c4).bind fun j124 =>
    some (j124.1, j124.2.1, j124.2.2.1, j124.2.2.2)
set_option maxRecDepth 100000 in
set_option maxHeartbeats 40000000 in
theorem ref05_Reader_Take_ok {b1 : List (UInt8)} {c2 : List UInt8} {c3 : Bool} {c4 : Int} {r : Int × (List UInt8) × Bool × Int} (hP : ref05_Reader_Take b1 c2 c3 c4 = some r) : CallPX Tryd.prog 9 [.bptr 0 0, .view 1 (List.map encB b1)] [.box 38 [.str c2, .bool c3, .int .i64 c4]] [0] (.inr ⟨.int .i64 r.1, [(0, .bptr 0 0)], [.box 38 [.str r.2.1, .bool r.2.2.1, .int .i64 r.2.2.2]]⟩) := by
  unfold ref05_Reader_Take at hP
  refine callPX_of 107 [.tmp 4] Tryd.func9 ?_ (by rintro q (h | h) <;> cases h <;> exact ⟨by (first | (intro x hx; simp at hx; done) | (simp [vfO, AV.vf, AV.vfL, encB, encI, encS, encO, enc_colanderref05_Reader, enc_api_Field, enc_api_Fault, enc_head_text]; done) | (simp [vfO, AV.vf, AV.vfL, encB, encI, encS, encO, enc_colanderref05_Reader, enc_api_Field, enc_api_Fault, enc_head_text]; intros; subst_vars; simp [AV.vf, AV.vfL]) | (simp [vfO, AV.vf, AV.vfL, encB, encI, encS, encO, enc_colanderref05_Reader, enc_api_Field, enc_api_Fault, enc_head_text]; (repeat' apply And.intro) <;> (rintro x (⟨a, _, rfl⟩ | rfl) <;> simp [AV.vf, AV.vfL]))), by simp⟩) (by rintro q h <;> cases h <;> first | rfl | simp [AV.vf, AV.vfL])
  refine J_seq ?_
  refine J_region (by kernel_rfl) ?_
  (try simp only [go_sem, Nat.reduceEqDiff, ↓reduceIte])
  refine hold2 (then_n ?_)
  refine J_seq ?_
  refine J_region (by kernel_rfl) ?_
  (try simp only [go_sem, Nat.reduceEqDiff, ↓reduceIte])
  refine hold2 (then_n ?_)
  refine J_seq ?_
  obtain ⟨o123, hP, hQ110⟩ := bind_cases hP
  refine J_joinK0 (fun (s : Int × (List UInt8) × Bool × Int) => envL [(5, .int .i64 s.1), (107, .bptr 0 0)]) (fun (s : Int × (List UInt8) × Bool × Int) => [.box 38 [.str s.2.1, .bool s.2.2.1, .int .i64 s.2.2.2]]) (fun s => s = o123) ?_ ?_
  · clear hQ110
    refine J_block ?_
    refine J_loop (σ := Nat × Int × (List UInt8) × Bool × Int) (fun (s : Nat × Int × (List UInt8) × Bool × Int) => envL [(0, .bptr 0 0), (1, .view 1 (List.map encB b1)), (5, .int .i64 s.2.1), (107, .bptr 0 0)]) (fun (s : Nat × Int × (List UInt8) × Bool × Int) => [.box 38 [.str s.2.2.1, .bool s.2.2.2.1, .int .i64 s.2.2.2.2]]) (fun s => ref05_Reader_Take_L110 b1 s.1 s.2.1 s.2.2.1 s.2.2.2.1 s.2.2.2.2 = some o123) (fun s => s.1) (140737488355328, 0, c2, c3, c4) hP (so [0]) ?_
    rintro ⟨k98, n94, l95, l96, l97⟩ hP
    dsimp only at hP ⊢
    cases k98 with
    | zero => simp [ref05_Reader_Take_L110] at hP
    | succ k98 =>
      simp only [ref05_Reader_Take_L110] at hP
      refine J_seq ?_
      obtain ⟨o111, hP, hQ111⟩ := bind_cases hP
      refine J_join (fun (s : Bool) => envL [(0, .bptr 0 0), (1, .view 1 (List.map encB b1)), (5, .int .i64 n94), (26, .bool s), (107, .bptr 0 0)]) (fun (s : Bool) => [.box 38 [.str l95, .bool l96, .int .i64 l97]]) (fun s => s = o111) ?_ ?_
      · clear hQ111
        refine J_region (by kernel_rfl) ?_
        (try simp only [go_sem, Nat.reduceEqDiff, ↓reduceIte])
        rcases ite_cases hP with ⟨hc, hP⟩ | ⟨hc, hP⟩
        · refine guard_is hc ?_
          (try simp only [go_sem, Nat.reduceEqDiff, ↓reduceIte])
          rcases ite_cases hP with ⟨hc, hP⟩ | ⟨hc, hP⟩
          · refine guard_is hc ?_
            (try simp only [go_sem, Nat.reduceEqDiff, ↓reduceIte])
            refine hold2 ?_
            exact join_n (decide (l97 = 0)) (Option.some.inj hP) (so [0])
          · refine guard_not hc ?_
            (try simp only [go_sem, Nat.reduceEqDiff, ↓reduceIte])
            refine hold2 ?_
            exact join_n false (Option.some.inj hP) (so [0])
        · refine guard_not hc ?_
          (try simp only [go_sem, Nat.reduceEqDiff, ↓reduceIte])
          refine hold2 ?_
          exact join_n false (Option.some.inj hP) (so [0])
      · intro j112 hs
        subst hs
        have hP := hQ111
        clear hQ111
        refine J_condV rfl ?_
        (try simp only [go_sem, Nat.reduceEqDiff, ↓reduceIte])
        rcases ite_cases hP with ⟨hc, hP⟩ | ⟨hc, hP⟩
        · refine condV_t hc ?_
          refine J_skip (then_n ?_)
          refine J_block ?_
          refine J_seq ?_
          refine J_region (by kernel_rfl) ?_
          (try simp only [go_sem, Nat.reduceEqDiff, ↓reduceIte])
          obtain ⟨x113, hx113, hP⟩ := bind_cases hP
          refine ixV_of hx113 ?_
          (try simp only [go_sem, Nat.reduceEqDiff, ↓reduceIte])
          refine hold2 (then_n ?_)
          refine J_seq ?_
          refine J_region (by kernel_rfl) ?_
          (try simp only [go_sem, Nat.reduceEqDiff, ↓reduceIte])
          refine hold2 (then_n ?_)
          obtain ⟨o115, hP, hQ115⟩ := bind_cases hP
          refine J_join (fun (s : Bool) => envL [(0, .bptr 0 0), (1, .view 1 (List.map encB b1)), (5, .int .i64 (iadd .i64 n94 1)), (6, .int .u8 (b2i x113)), (7, .bool s), (107, .bptr 0 0)]) (fun (s : Bool) => [.box 38 [.str l95, .bool l96, .int .i64 l97]]) (fun s => s = o115) ?_ ?_
          · clear hQ115
            refine J_regionq follows_mixed (by kernel_rfl) (by kernel_rfl) ?_
            (try simp only [go_sem, Nat.reduceEqDiff, ↓reduceIte])
            rcases ite_cases hP with ⟨hc, hP⟩ | ⟨hc, hP⟩
            · refine guard_is hc ?_
              (try simp only [go_sem, Nat.reduceEqDiff, ↓reduceIte])
              obtain ⟨c116, hc116, hP⟩ := bind_cases hP
              refine ixS_of hc116 ?_
              (try simp only [go_sem, Nat.reduceEqDiff, ↓reduceIte])
              refine hold2 ?_
              exact join_n (decide (b2i c116 = b2i (bC 13))) (Option.some.inj hP) (so [0])
            · refine guard_not hc ?_
              (try simp only [go_sem, Nat.reduceEqDiff, ↓reduceIte])
              refine hold2 ?_
              exact join_n false (Option.some.inj hP) (so [0])
          · intro j117 hs
            subst hs
            have hP := hQ115
            clear hQ115
            refine J_seq ?_
            refine J_regionT [(0, none), (1, none), (5, none), (2, some [3, 4, 8, 9, 10, 11]), (3, none), (4, some [8, 9, 10, 11])] (.early 6 (.early 7 (.early 8 (.early 9 (.pure 10 (.step 11 (.done))))))) [11] [53, 54, 55, 56, 57, 58, 59, 60, 61, 62, 63] follows_mixed (by kernel_rfl) (by kernel_rfl) (by kernel_rfl) (by kernel_rfl) (by kernel_rfl) (by kernel_rfl) ?_
            simp only [pickT_cons, pickT_nil, go_sem, Nat.reduceEqDiff, ↓reduceIte]
            (try simp only [go_sem, Nat.reduceEqDiff, ↓reduceIte])
            first | refine bytesK_map ?_ | refine bytesK_of [x113] rfl ?_
            (try simp only [go_sem, Nat.reduceEqDiff, ↓reduceIte])
            obtain ⟨_, hz118, hP⟩ := bind_cases hP
            refine chk_of (by first | exact szC_63 hz118 | (have q := szC_63 hz118; simp only [List.length_append, List.length_cons, List.length_nil] at q ⊢; omega)) ?_
            (try simp only [go_sem, Nat.reduceEqDiff, ↓reduceIte, Nat.reduceAdd, Nat.reduceSub, Nat.reduceLT, Nat.reduceMul, reduceCtorEq, Int.reduceToNat, Int.reduceLE, Int.reduceLT, Nat.reduceLeDiff])
            refine hold2 (then_n ?_)
            refine J_seq ?_
            refine J_region (by kernel_rfl) ?_
            (try simp only [go_sem, Nat.reduceEqDiff, ↓reduceIte])
            refine hold2 (then_n ?_)
            refine J_block ?_
            refine J_seq ?_
            refine J_region (by kernel_rfl) ?_
            (try simp only [go_sem, Nat.reduceEqDiff, ↓reduceIte])
            refine hold2 (then_n ?_)
            refine J_condV rfl ?_
            (try simp only [go_sem, Nat.reduceEqDiff, ↓reduceIte])
            rcases ite_cases hP with ⟨hc, hP⟩ | ⟨hc, hP⟩
            · refine condV_t hc ?_
              refine J_region (by kernel_rfl) ?_
              (try simp only [go_sem, Nat.reduceEqDiff, ↓reduceIte])
              refine hold2 (block_n (block_n ?_))
              exact loop_n (k98, iadd .i64 n94 1, (l95 ++ [x113]), l96, 10) hP (Nat.lt_succ_self _) (so [0])
            · refine condV_f hc ?_
              obtain ⟨o120, hP, hQ120⟩ := bind_cases hP
              refine J_join (fun (s : Bool) => envL [(0, .bptr 0 0), (1, .view 1 (List.map encB b1)), (5, .int .i64 (iadd .i64 n94 1)), (8, .int .i64 (List.length (l95 ++ [x113]) : Int)), (77, .bool s), (107, .bptr 0 0)]) (fun (s : Bool) => [.box 38 [.str (l95 ++ [x113]), .bool l96, .int .i64 l97]]) (fun s => s = o120) ?_ ?_
              · clear hQ120
                refine J_region (by kernel_rfl) ?_
                (try simp only [go_sem, Nat.reduceEqDiff, ↓reduceIte])
                rcases ite_cases hP with ⟨hc, hP⟩ | ⟨hc, hP⟩
                · refine guard_not hc ?_
                  (try simp only [go_sem, Nat.reduceEqDiff, ↓reduceIte])
                  refine hold2 ?_
                  exact join_n true (Option.some.inj hP) (so [0])
                · refine guard_is hc ?_
                  (try simp only [go_sem, Nat.reduceEqDiff, ↓reduceIte])
                  rcases ite_cases hP with ⟨hc, hP⟩ | ⟨hc, hP⟩
                  · refine guard_is hc ?_
                    (try simp only [go_sem, Nat.reduceEqDiff, ↓reduceIte])
                    obtain ⟨s121, hs121, hP⟩ := bind_cases hP
                    refine slS_of hs121 ?_
                    (try simp only [go_sem, Nat.reduceEqDiff, ↓reduceIte])
                    refine hold2 ?_
                    exact join_n (decide (s121 = [13, 10, 13, 10])) (Option.some.inj hP) (so [0])
                  · refine guard_not hc ?_
                    (try simp only [go_sem, Nat.reduceEqDiff, ↓reduceIte])
                    refine hold2 ?_
                    exact join_n false (Option.some.inj hP) (so [0])
              · intro j122 hs
                subst hs
                have hP := hQ120
                clear hQ120
                refine J_condV rfl ?_
                (try simp only [go_sem, Nat.reduceEqDiff, ↓reduceIte])
                rcases ite_cases hP with ⟨hc, hP⟩ | ⟨hc, hP⟩
                · refine condV_t hc ?_
                  refine J_region (by kernel_rfl) ?_
                  (try simp only [go_sem, Nat.reduceEqDiff, ↓reduceIte, Nat.reduceAdd, Nat.reduceSub, Nat.reduceLT, Nat.reduceMul, reduceCtorEq, Int.reduceToNat, Int.reduceLE, Int.reduceLT, Nat.reduceLeDiff])
                  refine hold2 (block_n (block_n ?_))
                  exact loop_n (k98, iadd .i64 n94 1, (l95 ++ [x113]), true, l97) hP (Nat.lt_succ_self _) (so [0])
                · refine condV_f hc ?_
                  refine J_seq ?_
                  refine J_region (by kernel_rfl) ?_
                  (try simp only [go_sem, Nat.reduceEqDiff, ↓reduceIte])
                  refine hold2 (then_n ?_)
                  refine J_condV rfl ?_
                  (try simp only [go_sem, Nat.reduceEqDiff, ↓reduceIte])
                  rcases ite_cases hP with ⟨hc, hP⟩ | ⟨hc, hP⟩
                  · refine condV_t hc ?_
                    refine J_region (by kernel_rfl) ?_
                    (try simp only [go_sem, Nat.reduceEqDiff, ↓reduceIte])
                    refine hold2 (block_n (block_n ?_))
                    exact loop_n (k98, iadd .i64 n94 1, (l95 ++ [x113]), l96, 17) hP (Nat.lt_succ_self _) (so [0])
                  · refine condV_f hc ?_
                    refine J_skip (block_n (block_n ?_))
                    exact loop_n (k98, iadd .i64 n94 1, (l95 ++ [x113]), l96, l97) hP (Nat.lt_succ_self _) (so [0])
        · refine condV_f hc ?_
          refine J_exit (then_exit (loop_exit (block_eq ?_)))
          exact join_n (n94, l95, l96, l97) (Option.some.inj hP) (so [0])
  · intro j124 hs
    subst hs
    have hP := hQ110
    clear hQ110
    refine then_n ?_
    refine J_seq ?_
    refine J_region (by kernel_rfl) ?_
    (try simp only [go_sem, Nat.reduceEqDiff, ↓reduceIte])
    refine hold2 (then_n ?_)
    refine J_ret (finIX_ret ?_)
    obtain rfl := Option.some.inj hP
    exact pk_of rfl (sr [0])
/-- colander/colanderlaw05.HeadReads -/
def law05_HeadReads_L485 : Nat → Int → (List (UInt8)) → Option (Unit)
  | 0, _, _ => none
  | k484 + 1, k482, l483 =>
    if decide (k482 < ((List.length l483 : Nat) : Int)) then
      (ixL l483 k482).bind fun x486 =>
      law05_HeadReads_L485 k484 (iadd .i64 k482 1) (List.set l483 (Int.toNat k482) (bC 1))
    else
      some ()
def law05_HeadReads_L409 (pieces1 : List (List (UInt8))) (others2 : List (List (UInt8))) : Nat → Int → Bool → Int → (List (UInt8)) → Bool → Int → (List (UInt8)) → (List UInt8) → Bool → Int → (List UInt8) → Bool → Int → Option (Sum (Bool) (Unit))
  | 0, _, _, _, _, _, _, _, _, _, _, _, _, _ => none
  | k285 + 1, i272, l273, l274, l275, l276, l277, l278, l279, l280, l281, l282, l283, l284 =>
    (show Option (Bool) from
      if decide (i272 < (List.length pieces1 : Int)) then
        some (decide (i272 < 200))
      else
        if decide (i272 < (List.length others2 : Int)) then
          some (decide (i272 < 200))
        else
          some false).bind fun j411 =>
      if j411 then
        (show Option (Sum (Bool) (Bool × Int × (List (UInt8)) × (List UInt8) × Bool × Int)) from
          if decide (i272 < (List.length pieces1 : Int)) then
            (ixL pieces1 i272).bind fun x451 =>
            (szC (List.length (x451 : List (UInt8)))).bind fun _ =>
            (head_Reader_Take x451 l273 l274 l275).bind fun r454 =>
            (show Option (Bool × (List UInt8) × Bool × Int) from
              (show Option (Bool × (List UInt8) × Bool × Int) from
                (ixL pieces1 i272).bind fun x471 =>
                (ref05_Reader_Take x471 l279 l280 l281).bind fun r473 =>
                if !decide (r454.1 = r473.1) then
                  some (true, r473.2.1, r473.2.2.1, r473.2.2.2)
                else
                  (ixL pieces1 i272).bind fun x474 =>
                  some (!decide (x451 = x474), r473.2.1, r473.2.2.1, r473.2.2.2)).bind fun j475 =>
                some (j475.1, j475.2.1, j475.2.2.1, j475.2.2.2)).bind fun j476 =>
              if j476.1 then
                some (Sum.inl false)
              else
                (law05_HeadReads_L485  140737488355328 0 x451).bind fun j488 =>
                  some (Sum.inr (r454.2.1, r454.2.2.1, r454.2.2.2, j476.2.1, j476.2.2.1, j476.2.2.2))
          else
            some (Sum.inr (l273, l274, l275, l279, l280, l281))).bind fun o450 => match o450 with
        | Sum.inl r => some (Sum.inl r)
        | Sum.inr j489 =>
          (show Option (Bool × Bool × Int × (List (UInt8)) × (List UInt8) × Bool × Int) from
            (show Option (Bool × Bool × Int × (List (UInt8)) × (List UInt8) × Bool × Int) from
              if decide (i272 < (List.length others2 : Int)) then
                (ixL others2 i272).bind fun x512 =>
                (head_Reader_Take x512 l276 l277 l278).bind fun r514 =>
                (ixL others2 i272).bind fun x515 =>
                (ref05_Reader_Take x515 l282 l283 l284).bind fun r517 =>
                some (!decide (r514.1 = r517.1), r514.2.1, r514.2.2.1, r514.2.2.2, r517.2.1, r517.2.2.1, r517.2.2.2)
              else
                some (false, l276, l277, l278, l282, l283, l284)).bind fun j518 =>
              some (j518.1, j518.2.1, j518.2.2.1, j518.2.2.2.1, j518.2.2.2.2.1, j518.2.2.2.2.2.1, j518.2.2.2.2.2.2)).bind fun j519 =>
            if j519.1 then
              some (Sum.inl false)
            else
              (show Option (Bool) from
                (head_Reader_Done (j489.2.2.1, j489.1, j489.2.1)).bind fun r527 =>
                if r527 != j489.2.2.2.2.1 then
                  some true
                else
                  (head_Reader_Err (j489.2.2.1, j489.1, j489.2.1)).bind fun r528 =>
                  if !decide (r528 = j489.2.2.2.2.2) then
                    some true
                  else
                    (head_Reader_Text (j489.2.2.1, j489.1, j489.2.1)).bind fun r529 =>
                    if !decide (r529 = j489.2.2.2.1) then
                      some true
                    else
                      (head_Reader_Done (j519.2.2.2.1, j519.2.1, j519.2.2.1)).bind fun r530 =>
                      if r530 != j519.2.2.2.2.2.1 then
                        some true
                      else
                        (head_Reader_Err (j519.2.2.2.1, j519.2.1, j519.2.2.1)).bind fun r531 =>
                        if !decide (r531 = j519.2.2.2.2.2.2) then
                          some true
                        else
                          (head_Reader_Text (j519.2.2.2.1, j519.2.1, j519.2.2.1)).bind fun r532 =>
                          some (!decide (r532 = j519.2.2.2.2.1))).bind fun j533 =>
                if j533 then
                  some (Sum.inl false)
                else
                  law05_HeadReads_L409 pieces1 others2 k285 (iadd .i64 i272 1) j489.1 j489.2.1 j489.2.2.1 j519.2.1 j519.2.2.1 j519.2.2.2.1 j489.2.2.2.1 j489.2.2.2.2.1 j489.2.2.2.2.2 j519.2.2.2.2.1 j519.2.2.2.2.2.1 j519.2.2.2.2.2.2
      else
        some (Sum.inr ())
def law05_HeadReads (pieces1 : List (List (UInt8))) (others2 : List (List (UInt8))) : Option (Bool) :=
  (law05_shown).bind fun r3 =>
  (head_New).bind fun r5 =>
  (head_New).bind fun r7 =>
  (show Option (Bool) from
    if !r3 then
      some true
    else
      some false).bind fun j9 =>
    if j9 then
      some false
    else
      (law05_HeadReads_L409 pieces1 others2 140737488355328 0 false 0 ([] : List UInt8) false 0 ([] : List UInt8) [] false 0 [] false 0).bind fun o534 => match o534 with
      | Sum.inl r => some r
      | Sum.inr j535 =>
        some true
set_option maxRecDepth 100000 in
set_option maxHeartbeats 40000000 in
theorem law05_HeadReads_ok {pieces1 : List (List (UInt8))} {others2 : List (List (UInt8))} {r : Bool} (hP : law05_HeadReads pieces1 others2 = some r) : CallOK Tryd.prog 4 [.view 1 (List.map (encL 1 encB) pieces1), .view 1 (List.map (encL 1 encB) others2)] (.bool r) [] := by
  unfold law05_HeadReads at hP
  refine co 158 [.tmp 4] Tryd.func4 ?_
  refine J_seq ?_
  refine J_region (by kernel_rfl) ?_
  (try simp only [go_sem, Nat.reduceEqDiff, ↓reduceIte])
  refine hold2 (then_n ?_)
  refine J_seq ?_
  refine J_region (by kernel_rfl) ?_
  (try simp only [go_sem, Nat.reduceEqDiff, ↓reduceIte])
  obtain ⟨r3, hr3, hP⟩ := bind_cases hP
  refine call_ok [] (law05_shown_ok hr3) trivial ?_
  (try simp only [go_sem, Nat.reduceEqDiff, ↓reduceIte])
  refine hold2 (then_n ?_)
  refine J_seq ?_
  refine J_region (by kernel_rfl) ?_
  (try simp only [go_sem, Nat.reduceEqDiff, ↓reduceIte])
  obtain ⟨r5, hr4, hP⟩ := bind_cases hP
  refine call_pt [] [(0, .view 1 (List.map (encL 1 encB) pieces1)), (1, .view 1 (List.map (encL 1 encB) others2)), (5, .bool r3)] [.box 62 [.own 1 0 0 (List.length ([] : List UInt8)), .bool false, .int .i64 0], .slice 0 5 1 (List.map encB ([] : List UInt8))] (.bptr 0 0) (head_New_ok hr4) trivial (told_of (sm [0, 1])) ?_
  (try simp only [go_sem, Nat.reduceEqDiff, ↓reduceIte])
  refine hold2 (then_n ?_)
  refine J_seq ?_
  refine J_region (by kernel_rfl) ?_
  (try simp only [go_sem, Nat.reduceEqDiff, ↓reduceIte])
  obtain ⟨r7, hr6, hP⟩ := bind_cases hP
  refine call_pt [] [(0, .view 1 (List.map (encL 1 encB) pieces1)), (1, .view 1 (List.map (encL 1 encB) others2)), (5, .bool r3), (6, .bptr 0 0)] [.box 62 [.own 1 0 0 (List.length ([] : List UInt8)), .bool false, .int .i64 0], .slice 0 5 1 (List.map encB ([] : List UInt8)), .box 62 [.own 3 0 0 (List.length ([] : List UInt8)), .bool false, .int .i64 0], .slice 0 5 1 (List.map encB ([] : List UInt8))] (.bptr 2 0) (head_New_ok hr6) trivial (told_of (sm [0, 1, 2, 3])) ?_
  (try simp only [go_sem, Nat.reduceEqDiff, ↓reduceIte])
  refine hold2 (then_n ?_)
  refine J_seq ?_
  refine J_region (by kernel_rfl) ?_
  (try simp only [go_sem, Nat.reduceEqDiff, ↓reduceIte])
  refine hold2 (then_n ?_)
  refine J_seq ?_
  refine J_region (by kernel_rfl) ?_
  (try simp only [go_sem, Nat.reduceEqDiff, ↓reduceIte])
  refine hold2 (then_n ?_)
  refine J_seq ?_
  obtain ⟨o8, hP, hQ8⟩ := bind_cases hP
  refine J_join (fun (s : Bool) => envL [(0, .view 1 (List.map (encL 1 encB) pieces1)), (1, .view 1 (List.map (encL 1 encB) others2)), (6, .bptr 0 0), (7, .bptr 2 0), (8, .bptr 4 0), (9, .bptr 5 0), (30, .bool s)]) (fun (s : Bool) => [.box 62 [.own 1 0 0 (List.length ([] : List UInt8)), .bool false, .int .i64 0], .slice 0 5 1 (List.map encB ([] : List UInt8)), .box 62 [.own 3 0 0 (List.length ([] : List UInt8)), .bool false, .int .i64 0], .slice 0 5 1 (List.map encB ([] : List UInt8)), .box 38 [.str [], .bool false, .int .i64 0], .box 38 [.str [], .bool false, .int .i64 0]]) (fun s => s = o8) ?_ ?_
  · clear hQ8
    refine J_region (by kernel_rfl) ?_
    (try simp only [go_sem, Nat.reduceEqDiff, ↓reduceIte])
    rcases ite_cases hP with ⟨hc, hP⟩ | ⟨hc, hP⟩
    · refine guard_not hc ?_
      (try simp only [go_sem, Nat.reduceEqDiff, ↓reduceIte])
      refine hold2 ?_
      exact join_n true (Option.some.inj hP) (so [0, 1, 2, 3, 4, 5])
    · refine guard_is hc ?_
      (try simp only [go_sem, Nat.reduceEqDiff, ↓reduceIte])
      refine hold2 ?_
      exact join_n false (Option.some.inj hP) (so [0, 1, 2, 3, 4, 5])
  · intro j9 hs
    subst hs
    have hP := hQ8
    clear hQ8
    refine J_condV rfl ?_
    (try simp only [go_sem, Nat.reduceEqDiff, ↓reduceIte])
    rcases ite_cases hP with ⟨hc, hP⟩ | ⟨hc, hP⟩
    · refine condV_t hc ?_
      refine J_seq ?_
      refine J_region (by kernel_rfl) ?_
      (try simp only [go_sem, Nat.reduceEqDiff, ↓reduceIte])
      refine hold2 (then_n ?_)
      refine J_ret (then_ret (fin_ret ?_))
      obtain rfl := Option.some.inj hP
      (try simp only [go_sem, Nat.reduceEqDiff, ↓reduceIte])
      exact fo []
    · refine condV_f hc ?_
      refine J_skip (then_n ?_)
      refine J_seq ?_
      refine J_seq ?_
      refine J_region (by kernel_rfl) ?_
      (try simp only [go_sem, Nat.reduceEqDiff, ↓reduceIte])
      refine hold2 (then_n ?_)
      obtain ⟨o534, hP, hQ409⟩ := bind_cases hP
      refine J_joinK0 (fun (s : Unit) => envL []) (fun (s : Unit) => []) (fun s => Sum.inr s = o534) ?_ ?_
      · refine J_block ?_
        refine J_loop (σ := Nat × Int × Bool × Int × (List (UInt8)) × Bool × Int × (List (UInt8)) × (List UInt8) × Bool × Int × (List UInt8) × Bool × Int) (fun (s : Nat × Int × Bool × Int × (List (UInt8)) × Bool × Int × (List (UInt8)) × (List UInt8) × Bool × Int × (List UInt8) × Bool × Int) => envL [(0, .view 1 (List.map (encL 1 encB) pieces1)), (1, .view 1 (List.map (encL 1 encB) others2)), (6, .bptr 0 0), (7, .bptr 2 0), (8, .bptr 4 0), (9, .bptr 5 0), (10, .int .i64 s.2.1)]) (fun (s : Nat × Int × Bool × Int × (List (UInt8)) × Bool × Int × (List (UInt8)) × (List UInt8) × Bool × Int × (List UInt8) × Bool × Int) => [.box 62 [.own 1 0 0 (List.length s.2.2.2.2.1), .bool s.2.2.1, .int .i64 s.2.2.2.1], .slice 0 5 1 (List.map encB s.2.2.2.2.1), .box 62 [.own 3 0 0 (List.length s.2.2.2.2.2.2.2.1), .bool s.2.2.2.2.2.1, .int .i64 s.2.2.2.2.2.2.1], .slice 0 5 1 (List.map encB s.2.2.2.2.2.2.2.1), .box 38 [.str s.2.2.2.2.2.2.2.2.1, .bool s.2.2.2.2.2.2.2.2.2.1, .int .i64 s.2.2.2.2.2.2.2.2.2.2.1], .box 38 [.str s.2.2.2.2.2.2.2.2.2.2.2.1, .bool s.2.2.2.2.2.2.2.2.2.2.2.2.1, .int .i64 s.2.2.2.2.2.2.2.2.2.2.2.2.2]]) (fun s => law05_HeadReads_L409 pieces1 others2 s.1 s.2.1 s.2.2.1 s.2.2.2.1 s.2.2.2.2.1 s.2.2.2.2.2.1 s.2.2.2.2.2.2.1 s.2.2.2.2.2.2.2.1 s.2.2.2.2.2.2.2.2.1 s.2.2.2.2.2.2.2.2.2.1 s.2.2.2.2.2.2.2.2.2.2.1 s.2.2.2.2.2.2.2.2.2.2.2.1 s.2.2.2.2.2.2.2.2.2.2.2.2.1 s.2.2.2.2.2.2.2.2.2.2.2.2.2 = some o534) (fun s => s.1) (140737488355328, 0, false, 0, ([] : List UInt8), false, 0, ([] : List UInt8), [], false, 0, [], false, 0) hP (so [0, 1, 2, 3, 4, 5]) ?_
        rintro ⟨k285, i272, l273, l274, l275, l276, l277, l278, l279, l280, l281, l282, l283, l284⟩ hP
        dsimp only at hP ⊢
        cases k285 with
        | zero => simp [law05_HeadReads_L409] at hP
        | succ k285 =>
          simp only [law05_HeadReads_L409] at hP
          refine J_seq ?_
          obtain ⟨o410, hP, hQ410⟩ := bind_cases hP
          refine J_join (fun (s : Bool) => envL [(0, .view 1 (List.map (encL 1 encB) pieces1)), (1, .view 1 (List.map (encL 1 encB) others2)), (6, .bptr 0 0), (7, .bptr 2 0), (8, .bptr 4 0), (9, .bptr 5 0), (10, .int .i64 i272), (44, .bool s)]) (fun (s : Bool) => [.box 62 [.own 1 0 0 (List.length l275), .bool l273, .int .i64 l274], .slice 0 5 1 (List.map encB l275), .box 62 [.own 3 0 0 (List.length l278), .bool l276, .int .i64 l277], .slice 0 5 1 (List.map encB l278), .box 38 [.str l279, .bool l280, .int .i64 l281], .box 38 [.str l282, .bool l283, .int .i64 l284]]) (fun s => s = o410) ?_ ?_
          · clear hQ410
            refine J_region (by kernel_rfl) ?_
            (try simp only [go_sem, Nat.reduceEqDiff, ↓reduceIte])
            rcases ite_cases hP with ⟨hc, hP⟩ | ⟨hc, hP⟩
            · refine guard_not hc ?_
              (try simp only [go_sem, Nat.reduceEqDiff, ↓reduceIte])
              refine hold2 ?_
              exact join_n (decide (i272 < 200)) (Option.some.inj hP) (so [0, 1, 2, 3, 4, 5])
            · refine guard_is hc ?_
              (try simp only [go_sem, Nat.reduceEqDiff, ↓reduceIte])
              rcases ite_cases hP with ⟨hc, hP⟩ | ⟨hc, hP⟩
              · refine guard_is hc ?_
                (try simp only [go_sem, Nat.reduceEqDiff, ↓reduceIte])
                refine hold2 ?_
                exact join_n (decide (i272 < 200)) (Option.some.inj hP) (so [0, 1, 2, 3, 4, 5])
              · refine guard_not hc ?_
                (try simp only [go_sem, Nat.reduceEqDiff, ↓reduceIte])
                refine hold2 ?_
                exact join_n false (Option.some.inj hP) (so [0, 1, 2, 3, 4, 5])
          · intro j411 hs
            subst hs
            have hP := hQ410
            clear hQ410
            refine J_condV rfl ?_
            (try simp only [go_sem, Nat.reduceEqDiff, ↓reduceIte])
            rcases ite_cases hP with ⟨hc, hP⟩ | ⟨hc, hP⟩
            · refine condV_t hc ?_
              refine J_skip (then_n ?_)
              refine J_seq ?_
              refine J_block ?_
              obtain ⟨o450, hP, hQ450⟩ := bind_cases hP
              refine J_join (fun (s : Bool × Int × (List (UInt8)) × (List UInt8) × Bool × Int) => envL [(0, .view 1 (List.map (encL 1 encB) pieces1)), (1, .view 1 (List.map (encL 1 encB) others2)), (6, .bptr 0 0), (7, .bptr 2 0), (8, .bptr 4 0), (9, .bptr 5 0), (10, .int .i64 i272)]) (fun (s : Bool × Int × (List (UInt8)) × (List UInt8) × Bool × Int) => [.box 62 [.own 1 0 0 (List.length s.2.2.1), .bool s.1, .int .i64 s.2.1], .slice 0 5 1 (List.map encB s.2.2.1), .box 62 [.own 3 0 0 (List.length l278), .bool l276, .int .i64 l277], .slice 0 5 1 (List.map encB l278), .box 38 [.str s.2.2.2.1, .bool s.2.2.2.2.1, .int .i64 s.2.2.2.2.2], .box 38 [.str l282, .bool l283, .int .i64 l284]]) (fun s => Sum.inr s = o450) ?_ ?_
              · refine J_seq ?_
                refine J_region (by kernel_rfl) ?_
                (try simp only [go_sem, Nat.reduceEqDiff, ↓reduceIte])
                refine hold2 (then_n ?_)
                refine J_condV rfl ?_
                (try simp only [go_sem, Nat.reduceEqDiff, ↓reduceIte])
                rcases ite_cases hP with ⟨hc, hP⟩ | ⟨hc, hP⟩
                · refine condV_t hc ?_
                  refine J_seq ?_
                  refine J_region (by kernel_rfl) ?_
                  (try simp only [go_sem, Nat.reduceEqDiff, ↓reduceIte, Nat.reduceAdd, Nat.reduceSub, Nat.reduceLT, Nat.reduceMul, reduceCtorEq, Int.reduceToNat, Int.reduceLE, Int.reduceLT, Nat.reduceLeDiff])
                  obtain ⟨x451, hx451, hP⟩ := bind_cases hP
                  refine ixV_of hx451 ?_
                  (try simp only [go_sem, Nat.reduceEqDiff, ↓reduceIte])
                  obtain ⟨_, hz452, hP⟩ := bind_cases hP
                  refine app_own (f := encB) (([] : List UInt8) : List (UInt8)) (x451 : List (UInt8)) rfl tyS_39 (by decide) (by simp only [go_sem, Nat.reduceEqDiff, ↓reduceIte]; first | done | rfl | exact ⟨rfl, rfl⟩) hz452 ?_
                  (try simp only [go_sem, Nat.reduceEqDiff, ↓reduceIte])
                  refine hold2 (then_n ?_)
                  refine J_seq ?_
                  refine J_region (by kernel_rfl) ?_
                  (try simp only [go_sem, Nat.reduceEqDiff, ↓reduceIte])
                  obtain ⟨r454, hr453, hP⟩ := bind_cases hP
                  refine call_pt [0, 1] [(0, .view 1 (List.map (encL 1 encB) pieces1)), (1, .view 1 (List.map (encL 1 encB) others2)), (6, .bptr 0 0), (7, .bptr 2 0), (8, .bptr 4 0), (9, .bptr 5 0), (10, .int .i64 i272), (11, .own 6 0 0 (List.length x451))] [.box 62 [.own 1 0 0 (List.length r454.2.2.2), .bool r454.2.1, .int .i64 r454.2.2.1], .slice 0 5 1 (List.map encB r454.2.2.2), .box 62 [.own 3 0 0 (List.length l278), .bool l276, .int .i64 l277], .slice 0 5 1 (List.map encB l278), .box 38 [.str l279, .bool l280, .int .i64 l281], .box 38 [.str l282, .bool l283, .int .i64 l284], .slice 0 5 1 (List.map encB x451)] (.int .i64 r454.1) (head_Reader_Take_ok hr453) ⟨argP_r (by rfl), argP_o (by decide) (by simp only [arg, go_sem, Nat.reduceEqDiff, ↓reduceIte]), trivial⟩ (told_of (sm [7, 8, 2, 3, 4, 5, 6])) ?_
                  (try simp only [go_sem, Nat.reduceEqDiff, ↓reduceIte])
                  refine hold2 (then_n ?_)
                  refine J_seq ?_
                  obtain ⟨o465, hP, hQ465⟩ := bind_cases hP
                  refine J_join (fun (s : Bool × (List UInt8) × Bool × Int) => envL [(0, .view 1 (List.map (encL 1 encB) pieces1)), (1, .view 1 (List.map (encL 1 encB) others2)), (6, .bptr 0 0), (7, .bptr 2 0), (8, .bptr 4 0), (9, .bptr 5 0), (10, .int .i64 i272), (11, .own 6 0 0 (List.length x451)), (77, .bool s.1)]) (fun (s : Bool × (List UInt8) × Bool × Int) => [.box 62 [.own 1 0 0 (List.length r454.2.2.2), .bool r454.2.1, .int .i64 r454.2.2.1], .slice 0 5 1 (List.map encB r454.2.2.2), .box 62 [.own 3 0 0 (List.length l278), .bool l276, .int .i64 l277], .slice 0 5 1 (List.map encB l278), .box 38 [.str s.2.1, .bool s.2.2.1, .int .i64 s.2.2.2], .box 38 [.str l282, .bool l283, .int .i64 l284], .slice 0 5 1 (List.map encB x451)]) (fun s => s = o465) ?_ ?_
                  · clear hQ465
                    obtain ⟨o470, hP, hQ470⟩ := bind_cases hP
                    refine J_joinK0 (fun (s : Bool × (List UInt8) × Bool × Int) => envL [(0, .view 1 (List.map (encL 1 encB) pieces1)), (1, .view 1 (List.map (encL 1 encB) others2)), (6, .bptr 0 0), (7, .bptr 2 0), (8, .bptr 4 0), (9, .bptr 5 0), (10, .int .i64 i272), (11, .own 6 0 0 (List.length x451)), (77, .bool s.1)]) (fun (s : Bool × (List UInt8) × Bool × Int) => [.box 62 [.own 1 0 0 (List.length r454.2.2.2), .bool r454.2.1, .int .i64 r454.2.2.1], .slice 0 5 1 (List.map encB r454.2.2.2), .box 62 [.own 3 0 0 (List.length l278), .bool l276, .int .i64 l277], .slice 0 5 1 (List.map encB l278), .box 38 [.str s.2.1, .bool s.2.2.1, .int .i64 s.2.2.2], .box 38 [.str l282, .bool l283, .int .i64 l284], .slice 0 5 1 (List.map encB x451)]) (fun s => s = o470) ?_ ?_
                    · clear hQ470
                      refine J_regionT [(0, none), (1, none), (2, none), (3, none), (4, some [5, 6, 7, 8, 9, 10, 11, 12, 13, 14, 15, 16, 17]), (5, some [6, 7, 8, 9, 10, 11, 12, 13, 14, 15, 16, 17])] (.step 6 (.early 7 (.pure 8 (.pure 9 (.pure 11 (.pure 12 (.alt (.early 10 (.early 13 (.early 14 (.early 15 (.early 16 (.early 17 (.done))))))) (.early 13 (.alt (.early 10 (.early 14 (.early 15 (.early 16 (.early 17 (.done)))))) (.early 14 (.alt (.early 10 (.early 15 (.early 16 (.early 17 (.done))))) (.early 15 (.early 10 (.early 16 (.early 17 (.done)))))))))))))))) [6] [60, 61, 62, 63, 64, 65, 66, 67, 68, 69, 70, 71, 72, 73, 74, 75, 76, 77] follows_mixed (by kernel_rfl) (by kernel_rfl) (by kernel_rfl) (by kernel_rfl) (by kernel_rfl) (by kernel_rfl) ?_
                      simp only [pickT_cons, pickT_nil, go_sem, Nat.reduceEqDiff, ↓reduceIte]
                      (try simp only [go_sem, Nat.reduceEqDiff, ↓reduceIte])
                      obtain ⟨x471, hx471, hP⟩ := bind_cases hP
                      refine ixV_of hx471 ?_
                      (try simp only [go_sem, Nat.reduceEqDiff, ↓reduceIte])
                      obtain ⟨r473, hr472, hP⟩ := bind_cases hP
                      refine callP_n (call_pt [4] [(0, .view 1 (List.map (encL 1 encB) pieces1)), (1, .view 1 (List.map (encL 1 encB) others2)), (6, .bptr 0 0), (7, .bptr 2 0), (8, .bptr 4 0), (9, .bptr 5 0), (10, .int .i64 i272), (11, .own 6 0 0 (List.length x451)), (60, .int .i64 r454.1)] [.box 62 [.own 1 0 0 (List.length r454.2.2.2), .bool r454.2.1, .int .i64 r454.2.2.1], .slice 0 5 1 (List.map encB r454.2.2.2), .box 62 [.own 3 0 0 (List.length l278), .bool l276, .int .i64 l277], .slice 0 5 1 (List.map encB l278), .box 38 [.str r473.2.1, .bool r473.2.2.1, .int .i64 r473.2.2.2], .box 38 [.str l282, .bool l283, .int .i64 l284], .slice 0 5 1 (List.map encB x451)] (.int .i64 r473.1) (ref05_Reader_Take_ok hr472) ⟨argP_r (by rfl), argP_r (by rfl), trivial⟩ (told_of (sm [0, 1, 2, 3, 7, 5, 6])) ?_)
                      (try simp only [go_sem, Nat.reduceEqDiff, ↓reduceIte])
                      rcases ite_cases hP with ⟨hc, hP⟩ | ⟨hc, hP⟩
                      · refine guard_not hc ?_
                        (try conv => arg 5; simp only [go_sem, Nat.reduceEqDiff, ↓reduceIte])
                        (try simp only [go_sem, Nat.reduceEqDiff, ↓reduceIte])
                        refine ⟨?_, ?_⟩
                        · refine hold2 ?_
                          exact join_n (true, r473.2.1, r473.2.2.1, r473.2.2.2) (Option.some.inj hP) (so [0, 1, 2, 3, 4, 5, 6])
                        refine ⟨?_, ?_⟩
                        · refine hold2 ?_
                          exact join_n (true, r473.2.1, r473.2.2.1, r473.2.2.2) (Option.some.inj hP) (so [0, 1, 2, 3, 4, 5, 6])
                        refine ⟨?_, ?_⟩
                        · refine hold2 ?_
                          exact join_n (true, r473.2.1, r473.2.2.1, r473.2.2.2) (Option.some.inj hP) (so [0, 1, 2, 3, 4, 5, 6])
                        refine hold2 ?_
                        exact join_n (true, r473.2.1, r473.2.2.1, r473.2.2.2) (Option.some.inj hP) (so [0, 1, 2, 3, 4, 5, 6])
                      · refine guard_is hc ?_
                        (try conv => arg 5; simp only [go_sem, Nat.reduceEqDiff, ↓reduceIte])
                        (try simp only [go_sem, Nat.reduceEqDiff, ↓reduceIte])
                        refine ⟨?_, ?_⟩
                        · first | refine bytesK_map ?_ | refine bytesK_of x451 rfl ?_
                          (try simp only [go_sem, Nat.reduceEqDiff, ↓reduceIte])
                          obtain ⟨x474, hx474, hP⟩ := bind_cases hP
                          refine ixV_of hx474 ?_
                          (try simp only [go_sem, Nat.reduceEqDiff, ↓reduceIte])
                          first | refine bytesK_map ?_ | refine bytesK_of x474 rfl ?_
                          (try simp only [go_sem, Nat.reduceEqDiff, ↓reduceIte])
                          refine hold2 ?_
                          exact join_n (!decide (x451 = x474), r473.2.1, r473.2.2.1, r473.2.2.2) (Option.some.inj hP) (so [0, 1, 2, 3, 4, 5, 6])
                        obtain ⟨x474, hx474, hP⟩ := bind_cases hP
                        refine ixV_of hx474 ?_
                        (try simp only [go_sem, Nat.reduceEqDiff, ↓reduceIte])
                        refine ⟨?_, ?_⟩
                        · first | refine bytesK_map ?_ | refine bytesK_of x451 rfl ?_
                          (try simp only [go_sem, Nat.reduceEqDiff, ↓reduceIte])
                          first | refine bytesK_map ?_ | refine bytesK_of x474 rfl ?_
                          (try simp only [go_sem, Nat.reduceEqDiff, ↓reduceIte])
                          refine hold2 ?_
                          exact join_n (!decide (x451 = x474), r473.2.1, r473.2.2.1, r473.2.2.2) (Option.some.inj hP) (so [0, 1, 2, 3, 4, 5, 6])
                        refine ⟨?_, ?_⟩
                        · first | refine bytesK_map ?_ | refine bytesK_of x451 rfl ?_
                          (try simp only [go_sem, Nat.reduceEqDiff, ↓reduceIte])
                          first | refine bytesK_map ?_ | refine bytesK_of x474 rfl ?_
                          (try simp only [go_sem, Nat.reduceEqDiff, ↓reduceIte])
                          refine hold2 ?_
                          exact join_n (!decide (x451 = x474), r473.2.1, r473.2.2.1, r473.2.2.2) (Option.some.inj hP) (so [0, 1, 2, 3, 4, 5, 6])
                        first | refine bytesK_map ?_ | refine bytesK_of x474 rfl ?_
                        (try simp only [go_sem, Nat.reduceEqDiff, ↓reduceIte])
                        first | refine bytesK_map ?_ | refine bytesK_of x451 rfl ?_
                        (try simp only [go_sem, Nat.reduceEqDiff, ↓reduceIte])
                        refine hold2 ?_
                        exact join_n (!decide (x451 = x474), r473.2.1, r473.2.2.1, r473.2.2.2) (Option.some.inj hP) (so [0, 1, 2, 3, 4, 5, 6])
                    · intro j475 hs
                      subst hs
                      have hP := hQ470
                      clear hQ470
                      exact join_n (j475.1, j475.2.1, j475.2.2.1, j475.2.2.2) (Option.some.inj hP) (so [0, 1, 2, 3, 4, 5, 6])
                  · intro j476 hs
                    subst hs
                    have hP := hQ465
                    clear hQ465
                    refine J_condV rfl ?_
                    (try simp only [go_sem, Nat.reduceEqDiff, ↓reduceIte])
                    rcases ite_cases hP with ⟨hc, hP⟩ | ⟨hc, hP⟩
                    · refine condV_t hc ?_
                      refine J_seq ?_
                      refine J_region (by kernel_rfl) ?_
                      (try simp only [go_sem, Nat.reduceEqDiff, ↓reduceIte])
                      refine hold2 (then_n ?_)
                      refine J_ret (then_ret (join_ret (block_ret (then_ret (loop_ret (block_ret (join_ret (then_ret (fin_ret ?_)))))))))
                      obtain rfl := Option.some.inj hP
                      have hP := hQ450
                      dsimp only at hP
                      obtain rfl := Option.some.inj hP
                      have hP := hQ409
                      dsimp only at hP
                      obtain rfl := Option.some.inj hP
                      (try simp only [go_sem, Nat.reduceEqDiff, ↓reduceIte])
                      exact fo []
                    · refine condV_f hc ?_
                      refine J_skip (then_n ?_)
                      refine J_seq ?_
                      refine J_region (by kernel_rfl) ?_
                      (try simp only [go_sem, Nat.reduceEqDiff, ↓reduceIte])
                      refine hold2 (then_n ?_)
                      obtain ⟨o487, hP, hQ485⟩ := bind_cases hP
                      refine J_joinK0 (fun (s : Unit) => envL [(0, .view 1 (List.map (encL 1 encB) pieces1)), (1, .view 1 (List.map (encL 1 encB) others2)), (6, .bptr 0 0), (7, .bptr 2 0), (8, .bptr 4 0), (9, .bptr 5 0), (10, .int .i64 i272)]) (fun (s : Unit) => [.box 62 [.own 1 0 0 (List.length r454.2.2.2), .bool r454.2.1, .int .i64 r454.2.2.1], .slice 0 5 1 (List.map encB r454.2.2.2), .box 62 [.own 3 0 0 (List.length l278), .bool l276, .int .i64 l277], .slice 0 5 1 (List.map encB l278), .box 38 [.str j476.2.1, .bool j476.2.2.1, .int .i64 j476.2.2.2], .box 38 [.str l282, .bool l283, .int .i64 l284]]) (fun s => s = o487) ?_ ?_
                      · clear hQ485
                        refine J_block ?_
                        refine J_loop (σ := Nat × Int × (List (UInt8))) (fun (s : Nat × Int × (List (UInt8))) => envL [(0, .view 1 (List.map (encL 1 encB) pieces1)), (1, .view 1 (List.map (encL 1 encB) others2)), (6, .bptr 0 0), (7, .bptr 2 0), (8, .bptr 4 0), (9, .bptr 5 0), (10, .int .i64 i272), (11, .own 6 0 0 (List.length s.2.2)), (13, .int .i64 s.2.1)]) (fun (s : Nat × Int × (List (UInt8))) => [.box 62 [.own 1 0 0 (List.length r454.2.2.2), .bool r454.2.1, .int .i64 r454.2.2.1], .slice 0 5 1 (List.map encB r454.2.2.2), .box 62 [.own 3 0 0 (List.length l278), .bool l276, .int .i64 l277], .slice 0 5 1 (List.map encB l278), .box 38 [.str j476.2.1, .bool j476.2.2.1, .int .i64 j476.2.2.2], .box 38 [.str l282, .bool l283, .int .i64 l284], .slice 0 5 1 (List.map encB s.2.2)]) (fun s => law05_HeadReads_L485  s.1 s.2.1 s.2.2 = some o487) (fun s => s.1) (140737488355328, 0, x451) hP (so [0, 1, 2, 3, 4, 5, 6]) ?_
                        rintro ⟨k484, k482, l483⟩ hP
                        dsimp only at hP ⊢
                        cases k484 with
                        | zero => simp [law05_HeadReads_L485] at hP
                        | succ k484 =>
                          simp only [law05_HeadReads_L485] at hP
                          refine J_seq ?_
                          refine J_seq ?_
                          refine J_region (by kernel_rfl) ?_
                          (try simp only [go_sem, Nat.reduceEqDiff, ↓reduceIte])
                          refine hold2 (then_n ?_)
                          refine J_condV rfl ?_
                          (try simp only [go_sem, Nat.reduceEqDiff, ↓reduceIte])
                          rcases ite_cases hP with ⟨hc, hP⟩ | ⟨hc, hP⟩
                          · refine condV_t hc ?_
                            refine J_skip (then_n ?_)
                            refine J_seq ?_
                            refine J_block ?_
                            refine J_region (by kernel_rfl) ?_
                            (try simp only [go_sem, Nat.reduceEqDiff, ↓reduceIte])
                            obtain ⟨x486, hx486, hP⟩ := bind_cases hP
                            refine ixO_of hx486 ?_
                            (try simp only [go_sem, Nat.reduceEqDiff, ↓reduceIte])
                            refine getK_of (f := encB) hx486 ?_
                            (try simp only [go_sem, Nat.reduceEqDiff, ↓reduceIte])
                            refine hold2 (block_n (then_n ?_))
                            refine J_region (by kernel_rfl) ?_
                            (try simp only [go_sem, Nat.reduceEqDiff, ↓reduceIte])
                            refine hold2 ?_
                            exact loop_n (k484, iadd .i64 k482 1, List.set l483 (Int.toNat k482) (bC 1)) hP (Nat.lt_succ_self _) (so [0, 1, 2, 3, 4, 5, 6])
                          · refine condV_f hc ?_
                            refine J_exit (then_exit (loop_exit (block_eq ?_)))
                            exact join_n () (Option.some.inj hP) (so [0, 1, 2, 3, 4, 5])
                      · intro j488 hs
                        subst hs
                        have hP := hQ485
                        clear hQ485
                        exact join_n (r454.2.1, r454.2.2.1, r454.2.2.2, j476.2.1, j476.2.2.1, j476.2.2.2) (Option.some.inj hP) (so [0, 1, 2, 3, 4, 5])
                · refine condV_f hc ?_
                  refine J_skip ?_
                  exact join_n (l273, l274, l275, l279, l280, l281) (Option.some.inj hP) (so [0, 1, 2, 3, 4, 5])
              · intro j489 hs
                subst hs
                have hP := hQ450
                dsimp only at hP
                clear hQ450
                refine J_seq ?_
                obtain ⟨o504, hP, hQ504⟩ := bind_cases hP
                refine J_join (fun (s : Bool × Bool × Int × (List (UInt8)) × (List UInt8) × Bool × Int) => envL [(0, .view 1 (List.map (encL 1 encB) pieces1)), (1, .view 1 (List.map (encL 1 encB) others2)), (6, .bptr 0 0), (7, .bptr 2 0), (8, .bptr 4 0), (9, .bptr 5 0), (10, .int .i64 i272), (105, .bool s.1)]) (fun (s : Bool × Bool × Int × (List (UInt8)) × (List UInt8) × Bool × Int) => [.box 62 [.own 1 0 0 (List.length j489.2.2.1), .bool j489.1, .int .i64 j489.2.1], .slice 0 5 1 (List.map encB j489.2.2.1), .box 62 [.own 3 0 0 (List.length s.2.2.2.1), .bool s.2.1, .int .i64 s.2.2.1], .slice 0 5 1 (List.map encB s.2.2.2.1), .box 38 [.str j489.2.2.2.1, .bool j489.2.2.2.2.1, .int .i64 j489.2.2.2.2.2], .box 38 [.str s.2.2.2.2.1, .bool s.2.2.2.2.2.1, .int .i64 s.2.2.2.2.2.2]]) (fun s => s = o504) ?_ ?_
                · clear hQ504
                  obtain ⟨o511, hP, hQ511⟩ := bind_cases hP
                  refine J_joinK0 (fun (s : Bool × Bool × Int × (List (UInt8)) × (List UInt8) × Bool × Int) => envL [(0, .view 1 (List.map (encL 1 encB) pieces1)), (1, .view 1 (List.map (encL 1 encB) others2)), (6, .bptr 0 0), (7, .bptr 2 0), (8, .bptr 4 0), (9, .bptr 5 0), (10, .int .i64 i272), (105, .bool s.1)]) (fun (s : Bool × Bool × Int × (List (UInt8)) × (List UInt8) × Bool × Int) => [.box 62 [.own 1 0 0 (List.length j489.2.2.1), .bool j489.1, .int .i64 j489.2.1], .slice 0 5 1 (List.map encB j489.2.2.1), .box 62 [.own 3 0 0 (List.length s.2.2.2.1), .bool s.2.1, .int .i64 s.2.2.1], .slice 0 5 1 (List.map encB s.2.2.2.1), .box 38 [.str j489.2.2.2.1, .bool j489.2.2.2.2.1, .int .i64 j489.2.2.2.2.2], .box 38 [.str s.2.2.2.2.1, .bool s.2.2.2.2.2.1, .int .i64 s.2.2.2.2.2.2]]) (fun s => s = o511) ?_ ?_
                  · clear hQ511
                    refine J_regionT [(0, none), (1, none), (2, some [3, 4, 5, 6, 7, 8, 9, 10, 11, 12, 13, 14, 15, 16, 17, 18]), (3, some [4, 5, 6, 7, 8, 9, 10, 11, 12, 13, 14, 15, 16, 17, 18]), (4, none), (5, none), (6, none), (7, none), (11, none), (12, none), (13, none), (8, some [9, 10, 16, 17, 18]), (9, some [10, 16, 17, 18])] (.alt (.step 10 (.early 14 (.early 15 (.step 16 (.early 17 (.early 18 (.done))))))) (.early 14 (.alt (.step 10 (.early 15 (.step 16 (.early 17 (.early 18 (.done)))))) (.early 15 (.step 10 (.step 16 (.early 17 (.early 18 (.done))))))))) [10, 16] [87, 88, 89, 90, 91, 92, 93, 94, 95, 96, 97, 98, 99, 100, 101, 102, 103, 104, 105] follows_mixed (by kernel_rfl) (by kernel_rfl) (by kernel_rfl) (by kernel_rfl) (by kernel_rfl) (by kernel_rfl) ?_
                    simp only [pickT_cons, pickT_nil, go_sem, Nat.reduceEqDiff, ↓reduceIte]
                    (try simp only [go_sem, Nat.reduceEqDiff, ↓reduceIte])
                    rcases ite_cases hP with ⟨hc, hP⟩ | ⟨hc, hP⟩
                    · refine guard_is hc ?_
                      (try conv => arg 5; simp only [go_sem, Nat.reduceEqDiff, ↓reduceIte])
                      (try simp only [go_sem, Nat.reduceEqDiff, ↓reduceIte])
                      obtain ⟨x512, hx512, hP⟩ := bind_cases hP
                      refine ixV_of hx512 ?_
                      (try simp only [go_sem, Nat.reduceEqDiff, ↓reduceIte])
                      refine ⟨?_, ?_⟩
                      · obtain ⟨r514, hr513, hP⟩ := bind_cases hP
                        refine callP_n (call_pt [2, 3] [(0, .view 1 (List.map (encL 1 encB) pieces1)), (1, .view 1 (List.map (encL 1 encB) others2)), (6, .bptr 0 0), (7, .bptr 2 0), (8, .bptr 4 0), (9, .bptr 5 0), (10, .int .i64 i272), (91, .bool true), (98, .bptr 5 0), (99, .view 1 (List.map (encL 1 encB) others2)), (100, .int .i64 i272)] [.box 62 [.own 1 0 0 (List.length j489.2.2.1), .bool j489.1, .int .i64 j489.2.1], .slice 0 5 1 (List.map encB j489.2.2.1), .box 62 [.own 3 0 0 (List.length r514.2.2.2), .bool r514.2.1, .int .i64 r514.2.2.1], .slice 0 5 1 (List.map encB r514.2.2.2), .box 38 [.str j489.2.2.2.1, .bool j489.2.2.2.2.1, .int .i64 j489.2.2.2.2.2], .box 38 [.str l282, .bool l283, .int .i64 l284]] (.int .i64 r514.1) (head_Reader_Take_ok hr513) ⟨argP_r (by rfl), argP_r (by rfl), trivial⟩ (told_of (sm [0, 1, 6, 7, 4, 5])) ?_)
                        (try simp only [go_sem, Nat.reduceEqDiff, ↓reduceIte])
                        obtain ⟨x515, hx515, hP⟩ := bind_cases hP
                        refine ixV_of hx515 ?_
                        (try simp only [go_sem, Nat.reduceEqDiff, ↓reduceIte])
                        obtain ⟨r517, hr516, hP⟩ := bind_cases hP
                        refine callP_n (call_pt [5] [(0, .view 1 (List.map (encL 1 encB) pieces1)), (1, .view 1 (List.map (encL 1 encB) others2)), (6, .bptr 0 0), (7, .bptr 2 0), (8, .bptr 4 0), (9, .bptr 5 0), (10, .int .i64 i272), (91, .bool true), (97, .int .i64 r514.1)] [.box 62 [.own 1 0 0 (List.length j489.2.2.1), .bool j489.1, .int .i64 j489.2.1], .slice 0 5 1 (List.map encB j489.2.2.1), .box 62 [.own 3 0 0 (List.length r514.2.2.2), .bool r514.2.1, .int .i64 r514.2.2.1], .slice 0 5 1 (List.map encB r514.2.2.2), .box 38 [.str j489.2.2.2.1, .bool j489.2.2.2.2.1, .int .i64 j489.2.2.2.2.2], .box 38 [.str r517.2.1, .bool r517.2.2.1, .int .i64 r517.2.2.2]] (.int .i64 r517.1) (ref05_Reader_Take_ok hr516) ⟨argP_r (by rfl), argP_r (by rfl), trivial⟩ (told_of (sm [0, 1, 2, 3, 4, 6])) ?_)
                        (try simp only [go_sem, Nat.reduceEqDiff, ↓reduceIte])
                        refine hold2 ?_
                        exact join_n (!decide (r514.1 = r517.1), r514.2.1, r514.2.2.1, r514.2.2.2, r517.2.1, r517.2.2.1, r517.2.2.2) (Option.some.inj hP) (so [0, 1, 2, 3, 4, 5])
                      replace hP : (show Option (Bool × Bool × Int × (List (UInt8)) × (List UInt8) × Bool × Int) from
                        (ixL others2 i272).bind fun x513 =>
                        (head_Reader_Take x512 l276 l277 l278).bind fun r515 =>
                        (ref05_Reader_Take x513 l282 l283 l284).bind fun r517 =>
                        some (!decide (r515.1 = r517.1), r515.2.1, r515.2.2.1, r515.2.2.2, r517.2.1, r517.2.2.1, r517.2.2.2)) = some o511 := by first | exact hP | exact (bind_swap _ _ _).trans hP
                      obtain ⟨x513, hx513, hP⟩ := bind_cases hP
                      refine ixV_of hx513 ?_
                      (try simp only [go_sem, Nat.reduceEqDiff, ↓reduceIte])
                      refine ⟨?_, ?_⟩
                      · obtain ⟨r515, hr514, hP⟩ := bind_cases hP
                        refine callP_n (call_pt [2, 3] [(0, .view 1 (List.map (encL 1 encB) pieces1)), (1, .view 1 (List.map (encL 1 encB) others2)), (6, .bptr 0 0), (7, .bptr 2 0), (8, .bptr 4 0), (9, .bptr 5 0), (10, .int .i64 i272), (91, .bool true), (98, .bptr 5 0), (101, .vptr (.view 1 (List.map encB x513)) 0)] [.box 62 [.own 1 0 0 (List.length j489.2.2.1), .bool j489.1, .int .i64 j489.2.1], .slice 0 5 1 (List.map encB j489.2.2.1), .box 62 [.own 3 0 0 (List.length r515.2.2.2), .bool r515.2.1, .int .i64 r515.2.2.1], .slice 0 5 1 (List.map encB r515.2.2.2), .box 38 [.str j489.2.2.2.1, .bool j489.2.2.2.2.1, .int .i64 j489.2.2.2.2.2], .box 38 [.str l282, .bool l283, .int .i64 l284]] (.int .i64 r515.1) (head_Reader_Take_ok hr514) ⟨argP_r (by rfl), argP_r (by rfl), trivial⟩ (told_of (sm [0, 1, 6, 7, 4, 5])) ?_)
                        (try simp only [go_sem, Nat.reduceEqDiff, ↓reduceIte])
                        obtain ⟨r517, hr516, hP⟩ := bind_cases hP
                        refine callP_n (call_pt [5] [(0, .view 1 (List.map (encL 1 encB) pieces1)), (1, .view 1 (List.map (encL 1 encB) others2)), (6, .bptr 0 0), (7, .bptr 2 0), (8, .bptr 4 0), (9, .bptr 5 0), (10, .int .i64 i272), (91, .bool true), (97, .int .i64 r515.1)] [.box 62 [.own 1 0 0 (List.length j489.2.2.1), .bool j489.1, .int .i64 j489.2.1], .slice 0 5 1 (List.map encB j489.2.2.1), .box 62 [.own 3 0 0 (List.length r515.2.2.2), .bool r515.2.1, .int .i64 r515.2.2.1], .slice 0 5 1 (List.map encB r515.2.2.2), .box 38 [.str j489.2.2.2.1, .bool j489.2.2.2.2.1, .int .i64 j489.2.2.2.2.2], .box 38 [.str r517.2.1, .bool r517.2.2.1, .int .i64 r517.2.2.2]] (.int .i64 r517.1) (ref05_Reader_Take_ok hr516) ⟨argP_r (by rfl), argP_r (by rfl), trivial⟩ (told_of (sm [0, 1, 2, 3, 4, 6])) ?_)
                        (try simp only [go_sem, Nat.reduceEqDiff, ↓reduceIte])
                        refine hold2 ?_
                        exact join_n (!decide (r515.1 = r517.1), r515.2.1, r515.2.2.1, r515.2.2.2, r517.2.1, r517.2.2.1, r517.2.2.2) (Option.some.inj hP) (so [0, 1, 2, 3, 4, 5])
                      obtain ⟨r515, hr514, hP⟩ := bind_cases hP
                      refine callP_n (call_pt [2, 3] [(0, .view 1 (List.map (encL 1 encB) pieces1)), (1, .view 1 (List.map (encL 1 encB) others2)), (6, .bptr 0 0), (7, .bptr 2 0), (8, .bptr 4 0), (9, .bptr 5 0), (10, .int .i64 i272), (91, .bool true), (98, .bptr 5 0), (102, .view 1 (List.map encB x513))] [.box 62 [.own 1 0 0 (List.length j489.2.2.1), .bool j489.1, .int .i64 j489.2.1], .slice 0 5 1 (List.map encB j489.2.2.1), .box 62 [.own 3 0 0 (List.length r515.2.2.2), .bool r515.2.1, .int .i64 r515.2.2.1], .slice 0 5 1 (List.map encB r515.2.2.2), .box 38 [.str j489.2.2.2.1, .bool j489.2.2.2.2.1, .int .i64 j489.2.2.2.2.2], .box 38 [.str l282, .bool l283, .int .i64 l284]] (.int .i64 r515.1) (head_Reader_Take_ok hr514) ⟨argP_r (by rfl), argP_r (by rfl), trivial⟩ (told_of (sm [0, 1, 6, 7, 4, 5])) ?_)
                      (try simp only [go_sem, Nat.reduceEqDiff, ↓reduceIte])
                      obtain ⟨r517, hr516, hP⟩ := bind_cases hP
                      refine callP_n (call_pt [5] [(0, .view 1 (List.map (encL 1 encB) pieces1)), (1, .view 1 (List.map (encL 1 encB) others2)), (6, .bptr 0 0), (7, .bptr 2 0), (8, .bptr 4 0), (9, .bptr 5 0), (10, .int .i64 i272), (91, .bool true), (97, .int .i64 r515.1)] [.box 62 [.own 1 0 0 (List.length j489.2.2.1), .bool j489.1, .int .i64 j489.2.1], .slice 0 5 1 (List.map encB j489.2.2.1), .box 62 [.own 3 0 0 (List.length r515.2.2.2), .bool r515.2.1, .int .i64 r515.2.2.1], .slice 0 5 1 (List.map encB r515.2.2.2), .box 38 [.str j489.2.2.2.1, .bool j489.2.2.2.2.1, .int .i64 j489.2.2.2.2.2], .box 38 [.str r517.2.1, .bool r517.2.2.1, .int .i64 r517.2.2.2]] (.int .i64 r517.1) (ref05_Reader_Take_ok hr516) ⟨argP_r (by rfl), argP_r (by rfl), trivial⟩ (told_of (sm [0, 1, 2, 3, 4, 6])) ?_)
                      (try simp only [go_sem, Nat.reduceEqDiff, ↓reduceIte])
                      refine hold2 ?_
                      exact join_n (!decide (r515.1 = r517.1), r515.2.1, r515.2.2.1, r515.2.2.2, r517.2.1, r517.2.2.1, r517.2.2.2) (Option.some.inj hP) (so [0, 1, 2, 3, 4, 5])
                    · refine guard_not hc ?_
                      (try conv => arg 5; simp only [go_sem, Nat.reduceEqDiff, ↓reduceIte])
                      (try simp only [go_sem, Nat.reduceEqDiff, ↓reduceIte])
                      refine ⟨?_, ?_⟩
                      · refine hold2 ?_
                        exact join_n (false, l276, l277, l278, l282, l283, l284) (Option.some.inj hP) (so [0, 1, 2, 3, 4, 5])
                      refine ⟨?_, ?_⟩
                      · refine hold2 ?_
                        exact join_n (false, l276, l277, l278, l282, l283, l284) (Option.some.inj hP) (so [0, 1, 2, 3, 4, 5])
                      refine hold2 ?_
                      exact join_n (false, l276, l277, l278, l282, l283, l284) (Option.some.inj hP) (so [0, 1, 2, 3, 4, 5])
                  · intro j518 hs
                    subst hs
                    have hP := hQ511
                    clear hQ511
                    exact join_n (j518.1, j518.2.1, j518.2.2.1, j518.2.2.2.1, j518.2.2.2.2.1, j518.2.2.2.2.2.1, j518.2.2.2.2.2.2) (Option.some.inj hP) (so [0, 1, 2, 3, 4, 5])
                · intro j519 hs
                  subst hs
                  have hP := hQ504
                  clear hQ504
                  refine J_condV rfl ?_
                  (try simp only [go_sem, Nat.reduceEqDiff, ↓reduceIte])
                  rcases ite_cases hP with ⟨hc, hP⟩ | ⟨hc, hP⟩
                  · refine condV_t hc ?_
                    refine J_seq ?_
                    refine J_region (by kernel_rfl) ?_
                    (try simp only [go_sem, Nat.reduceEqDiff, ↓reduceIte])
                    refine hold2 (then_n ?_)
                    refine J_ret (then_ret (block_ret (then_ret (loop_ret (block_ret (join_ret (then_ret (fin_ret ?_))))))))
                    obtain rfl := Option.some.inj hP
                    have hP := hQ409
                    dsimp only at hP
                    obtain rfl := Option.some.inj hP
                    (try simp only [go_sem, Nat.reduceEqDiff, ↓reduceIte])
                    exact fo []
                  · refine condV_f hc ?_
                    refine J_skip (then_n ?_)
                    obtain ⟨o526, hP, hQ526⟩ := bind_cases hP
                    refine J_join (fun (s : Bool) => envL [(0, .view 1 (List.map (encL 1 encB) pieces1)), (1, .view 1 (List.map (encL 1 encB) others2)), (6, .bptr 0 0), (7, .bptr 2 0), (8, .bptr 4 0), (9, .bptr 5 0), (10, .int .i64 i272), (157, .bool s)]) (fun (s : Bool) => [.box 62 [.own 1 0 0 (List.length j489.2.2.1), .bool j489.1, .int .i64 j489.2.1], .slice 0 5 1 (List.map encB j489.2.2.1), .box 62 [.own 3 0 0 (List.length j519.2.2.2.1), .bool j519.2.1, .int .i64 j519.2.2.1], .slice 0 5 1 (List.map encB j519.2.2.2.1), .box 38 [.str j489.2.2.2.1, .bool j489.2.2.2.2.1, .int .i64 j489.2.2.2.2.2], .box 38 [.str j519.2.2.2.2.1, .bool j519.2.2.2.2.2.1, .int .i64 j519.2.2.2.2.2.2]]) (fun s => s = o526) ?_ ?_
                    · clear hQ526
                      refine J_regionq follows_mixed (by kernel_rfl) (by kernel_rfl) ?_
                      (try simp only [go_sem, Nat.reduceEqDiff, ↓reduceIte])
                      obtain ⟨r527, hr527, hP⟩ := bind_cases hP
                      refine call_okq [.vptr (.agg [.view 1 (List.map encB j489.2.2.1), .bool j489.1, .int .i64 j489.2.1]) 0] (head_Reader_Done_ok hr527) ⟨argR_box rfl ⟨argC_m false (by simp only [arg, go_sem, Nat.reduceEqDiff, ↓reduceIte]), argC_m false rfl, argC_m false rfl, trivial⟩, trivial⟩ rfl ?_
                      (try simp only [go_sem, Nat.reduceEqDiff, ↓reduceIte])
                      rcases ite_cases hP with ⟨hc, hP⟩ | ⟨hc, hP⟩
                      · refine guard_not hc ?_
                        (try conv => arg 5; simp only [go_sem, Nat.reduceEqDiff, ↓reduceIte])
                        (try simp only [go_sem, Nat.reduceEqDiff, ↓reduceIte])
                        refine hold2 ?_
                        exact join_n true (Option.some.inj hP) (so [0, 1, 2, 3, 4, 5])
                      · refine guard_is hc ?_
                        (try conv => arg 5; simp only [go_sem, Nat.reduceEqDiff, ↓reduceIte])
                        (try simp only [go_sem, Nat.reduceEqDiff, ↓reduceIte])
                        obtain ⟨r528, hr528, hP⟩ := bind_cases hP
                        refine call_okq [.vptr (.agg [.view 1 (List.map encB j489.2.2.1), .bool j489.1, .int .i64 j489.2.1]) 0] (head_Reader_Err_ok hr528) ⟨argR_box rfl ⟨argC_m false (by simp only [arg, go_sem, Nat.reduceEqDiff, ↓reduceIte]), argC_m false rfl, argC_m false rfl, trivial⟩, trivial⟩ rfl ?_
                        (try simp only [go_sem, Nat.reduceEqDiff, ↓reduceIte])
                        rcases ite_cases hP with ⟨hc, hP⟩ | ⟨hc, hP⟩
                        · refine guard_not hc ?_
                          (try conv => arg 5; simp only [go_sem, Nat.reduceEqDiff, ↓reduceIte])
                          (try simp only [go_sem, Nat.reduceEqDiff, ↓reduceIte])
                          refine hold2 ?_
                          exact join_n true (Option.some.inj hP) (so [0, 1, 2, 3, 4, 5])
                        · refine guard_is hc ?_
                          (try conv => arg 5; simp only [go_sem, Nat.reduceEqDiff, ↓reduceIte])
                          (try simp only [go_sem, Nat.reduceEqDiff, ↓reduceIte])
                          obtain ⟨r529, hr529, hP⟩ := bind_cases hP
                          refine call_okq [.vptr (.agg [.view 1 (List.map encB j489.2.2.1), .bool j489.1, .int .i64 j489.2.1]) 0] (head_Reader_Text_ok hr529) ⟨argR_box rfl ⟨argC_m false (by simp only [arg, go_sem, Nat.reduceEqDiff, ↓reduceIte]), argC_m false rfl, argC_m false rfl, trivial⟩, trivial⟩ rfl ?_
                          (try simp only [go_sem, Nat.reduceEqDiff, ↓reduceIte])
                          rcases ite_cases hP with ⟨hc, hP⟩ | ⟨hc, hP⟩
                          · refine guard_not hc ?_
                            (try conv => arg 5; simp only [go_sem, Nat.reduceEqDiff, ↓reduceIte])
                            (try simp only [go_sem, Nat.reduceEqDiff, ↓reduceIte])
                            refine hold2 ?_
                            exact join_n true (Option.some.inj hP) (so [0, 1, 2, 3, 4, 5])
                          · refine guard_is hc ?_
                            (try conv => arg 5; simp only [go_sem, Nat.reduceEqDiff, ↓reduceIte])
                            (try simp only [go_sem, Nat.reduceEqDiff, ↓reduceIte])
                            obtain ⟨r530, hr530, hP⟩ := bind_cases hP
                            refine call_okq [.vptr (.agg [.view 1 (List.map encB j519.2.2.2.1), .bool j519.2.1, .int .i64 j519.2.2.1]) 0] (head_Reader_Done_ok hr530) ⟨argR_box rfl ⟨argC_m false (by simp only [arg, go_sem, Nat.reduceEqDiff, ↓reduceIte]), argC_m false rfl, argC_m false rfl, trivial⟩, trivial⟩ rfl ?_
                            (try simp only [go_sem, Nat.reduceEqDiff, ↓reduceIte])
                            rcases ite_cases hP with ⟨hc, hP⟩ | ⟨hc, hP⟩
                            · refine guard_not hc ?_
                              (try conv => arg 5; simp only [go_sem, Nat.reduceEqDiff, ↓reduceIte])
                              (try simp only [go_sem, Nat.reduceEqDiff, ↓reduceIte])
                              refine hold2 ?_
                              exact join_n true (Option.some.inj hP) (so [0, 1, 2, 3, 4, 5])
                            · refine guard_is hc ?_
                              (try conv => arg 5; simp only [go_sem, Nat.reduceEqDiff, ↓reduceIte])
                              (try simp only [go_sem, Nat.reduceEqDiff, ↓reduceIte])
                              obtain ⟨r531, hr531, hP⟩ := bind_cases hP
                              refine call_okq [.vptr (.agg [.view 1 (List.map encB j519.2.2.2.1), .bool j519.2.1, .int .i64 j519.2.2.1]) 0] (head_Reader_Err_ok hr531) ⟨argR_box rfl ⟨argC_m false (by simp only [arg, go_sem, Nat.reduceEqDiff, ↓reduceIte]), argC_m false rfl, argC_m false rfl, trivial⟩, trivial⟩ rfl ?_
                              (try simp only [go_sem, Nat.reduceEqDiff, ↓reduceIte])
                              rcases ite_cases hP with ⟨hc, hP⟩ | ⟨hc, hP⟩
                              · refine guard_not hc ?_
                                (try conv => arg 5; simp only [go_sem, Nat.reduceEqDiff, ↓reduceIte])
                                (try simp only [go_sem, Nat.reduceEqDiff, ↓reduceIte])
                                refine hold2 ?_
                                exact join_n true (Option.some.inj hP) (so [0, 1, 2, 3, 4, 5])
                              · refine guard_is hc ?_
                                (try conv => arg 5; simp only [go_sem, Nat.reduceEqDiff, ↓reduceIte])
                                (try simp only [go_sem, Nat.reduceEqDiff, ↓reduceIte])
                                obtain ⟨r532, hr532, hP⟩ := bind_cases hP
                                refine call_okq [.vptr (.agg [.view 1 (List.map encB j519.2.2.2.1), .bool j519.2.1, .int .i64 j519.2.2.1]) 0] (head_Reader_Text_ok hr532) ⟨argR_box rfl ⟨argC_m false (by simp only [arg, go_sem, Nat.reduceEqDiff, ↓reduceIte]), argC_m false rfl, argC_m false rfl, trivial⟩, trivial⟩ rfl ?_
                                (try simp only [go_sem, Nat.reduceEqDiff, ↓reduceIte])
                                refine hold2 ?_
                                exact join_n (!decide (r532 = j519.2.2.2.2.1)) (Option.some.inj hP) (so [0, 1, 2, 3, 4, 5])
                    · intro j533 hs
                      subst hs
                      have hP := hQ526
                      clear hQ526
                      refine J_condV rfl ?_
                      (try simp only [go_sem, Nat.reduceEqDiff, ↓reduceIte])
                      rcases ite_cases hP with ⟨hc, hP⟩ | ⟨hc, hP⟩
                      · refine condV_t hc ?_
                        refine J_seq ?_
                        refine J_region (by kernel_rfl) ?_
                        (try simp only [go_sem, Nat.reduceEqDiff, ↓reduceIte])
                        refine hold2 (then_n ?_)
                        refine J_ret (block_ret (then_ret (loop_ret (block_ret (join_ret (then_ret (fin_ret ?_)))))))
                        obtain rfl := Option.some.inj hP
                        have hP := hQ409
                        dsimp only at hP
                        obtain rfl := Option.some.inj hP
                        (try simp only [go_sem, Nat.reduceEqDiff, ↓reduceIte])
                        exact fo []
                      · refine condV_f hc ?_
                        refine J_skip (block_n (then_n ?_))
                        refine J_region (by kernel_rfl) ?_
                        (try simp only [go_sem, Nat.reduceEqDiff, ↓reduceIte])
                        refine hold2 ?_
                        exact loop_n (k285, iadd .i64 i272 1, j489.1, j489.2.1, j489.2.2.1, j519.2.1, j519.2.2.1, j519.2.2.2.1, j489.2.2.2.1, j489.2.2.2.2.1, j489.2.2.2.2.2, j519.2.2.2.2.1, j519.2.2.2.2.2.1, j519.2.2.2.2.2.2) hP (Nat.lt_succ_self _) (so [0, 1, 2, 3, 4, 5])
            · refine condV_f hc ?_
              refine J_exit (then_exit (loop_exit (block_eq ?_)))
              exact join_n () (Option.some.inj hP) (so [])
      · intro j535 hs
        subst hs
        have hP := hQ409
        dsimp only at hP
        clear hQ409
        refine then_n ?_
        refine J_seq ?_
        refine J_region (by kernel_rfl) ?_
        (try simp only [go_sem, Nat.reduceEqDiff, ↓reduceIte])
        refine hold2 (then_n ?_)
        refine J_ret (fin_ret ?_)
        obtain rfl := Option.some.inj hP
        (try simp only [go_sem, Nat.reduceEqDiff, ↓reduceIte])
        exact fo []
end Go.Proofs.YtbcmngnmfneeaaaDoor
