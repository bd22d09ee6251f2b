/- Functions of the program, and pure ones that go the same ways: that the program's return what these compute. -/
import Derived.Test.YtbcmngnmfneeaaaGreatDoorGI
import Derived.Test.YtbcmngnmfneeaaaGreatDoorGE
import Derived.Test.YtbcmngnmfneeaaaGreatDoorAvY
import Derived.Test.YtbcmngnmfneeaaaGreatDoorAvJ
namespace Go.Proofs.YtbcmngnmfneeaaaGreatDoor
open Go.Av
set_option linter.unusedVariables false
set_option linter.unusedSimpArgs false
/-- colander/colanderlaw05.HeadOnce -/
def head_Reader_Take_L706 (x535 : List UInt8) (behind4 : List (UInt8)) : Nat → Int → Bool → Int → (List (UInt8)) → Option (Sum (Int × Bool × Int × (List (UInt8))) (Bool × Int × (List (UInt8))))
  | 0, _, _, _, _ => none
  | k685 + 1, v681, l682, l683, l684 =>
    if decide (v681 < ((List.length (x535 ++ behind4) : Nat) : Int)) then
      (ixL (x535 ++ behind4) v681).bind fun x707 =>
      (show Option (Bool) from
        if l682 then
          some true
        else
          some (!decide (l683 = 0))).bind fun j709 =>
        if j709 then
          some (Sum.inl (v681, l682, l683, l684))
        else
          (show Option (Bool × Int) from
            (show Option (Bool) from
              if decide (0 < ((List.length l684 : Nat) : Int)) then
                (ixL l684 (isub .i64 ((List.length l684 : Nat) : Int) 1)).bind fun x720 =>
                some (decide (b2i x720 = b2i (bC 13)))
              else
                some false).bind fun j721 =>
              (szC (List.length (l684 ++ [x707] : List (UInt8)))).bind fun _ =>
              (slL (l684 ++ [x707]) (max 0 (isub .i64 ((List.length (l684 ++ [x707]) : Nat) : Int) 4)) ((List.length (l684 ++ [x707]) : Nat) : Int)).bind fun s723 =>
              if (decide (b2i x707 = b2i (bC 10))) != j721 then
                some (l682, 10)
              else
                (show Option (Bool) from
                  if decide (s723 = [13, 10]) then
                    some true
                  else
                    some (decide (s723 = [13, 10, 13, 10]))).bind fun j725 =>
                  if j725 then
                    some (true, l683)
                  else
                    if decide (((List.length (l684 ++ [x707]) : Nat) : Int) = 2048) then
                      some (l682, 17)
                    else
                      some (l682, l683)).bind fun a726 =>
            head_Reader_Take_L706 x535 behind4 k685 (iadd .i64 v681 1) a726.1 a726.2 (l684 ++ [x707])
    else
      some (Sum.inr (l682, l683, l684))
def law05_HeadOnce_L531 (j22 : (List (List UInt8))) (behind4 : List (UInt8)) (p2 : Int × (List UInt8) × (List ((List UInt8) × (List UInt8)))) (r8 : ((List UInt8) × (List UInt8) × (List ((List UInt8) × (List UInt8)))) × Bool) (q1 : (List UInt8) × (List UInt8) × (List ((List UInt8) × (List UInt8)))) : Nat → Int → Option (Sum (Bool) (Unit))
  | 0, _ => none
  | k278 + 1, i277 =>
    if decide (i277 < ((List.length j22 : Nat) : Int)) then
      (ixL j22 i277).bind fun x532 =>
      if decide (x532 = []) then
        law05_HeadOnce_L531 j22 behind4 p2 r8 q1 k278 (iadd .i64 i277 1)
      else
        (show Option (Unit) from
          some ()).bind fun a533 =>
          (ixL j22 i277).bind fun x535 =>
          (szC (List.length x535)).bind fun _ =>
          (szC (List.length (x535 ++ behind4 : List (UInt8)))).bind fun _ =>
          (show Option (Int × Bool × Int × (List (UInt8))) from
            (head_Reader_Take_L706 x535 behind4 1099511627776 0 false 0 ([] : List UInt8)).bind fun o728 => match o728 with
            | Sum.inl r => some r
            | Sum.inr j729 =>
              some (((List.length (x535 ++ behind4) : Nat) : Int), j729.1, j729.2.1, j729.2.2)).bind fun a730 =>
            (show Option (Bool) from
              (show Option (Bool) from
                (ixL j22 i277).bind fun x760 =>
                if !decide (a730.1 = (List.length x760 : Int)) then
                  some true
                else
                  (show Option (Unit) from
                    some ()).bind fun a761 =>
                    if !a730.2.1 then
                      some true
                    else
                      (show Option (Unit) from
                        some ()).bind fun a763 =>
                        if !decide (a730.2.2.1 = 0) then
                          some true
                        else
                          (show Option (Unit) from
                            some ()).bind fun a765 =>
                            (ixL j22 i277).bind fun x767 =>
                            some (!decide (a730.2.2.2 = x767))).bind fun j768 =>
                some j768).bind fun j769 =>
              if j769 then
                some (Sum.inl false)
              else
                if decide (i277 = 1) then
                  (ixL j22 i277).bind fun x770 =>
                  (head_Response x770).bind fun r771 =>
                  (ref05_SameResponse (r771.1.1, r771.1.2.1, r771.1.2.2) (p2.1, p2.2.1, p2.2.2)).bind fun r772 =>
                  (show Option (Bool) from
                    if !r771.2 then
                      some true
                    else
                      some (!r772)).bind fun j774 =>
                    if j774 then
                      some (Sum.inl false)
                    else
                      law05_HeadOnce_L531 j22 behind4 p2 r8 q1 k278 (iadd .i64 i277 1)
                else
                  if decide (i277 = 2) then
                    (ixL j22 i277).bind fun x775 =>
                    (head_Request x775).bind fun r776 =>
                    (ref05_SameRequest (r776.1.1, r776.1.2.1, r776.1.2.2) (r8.1.1, r8.1.2.1, r8.1.2.2)).bind fun r777 =>
                    (show Option (Bool) from
                      if !r776.2 then
                        some true
                      else
                        some (!r777)).bind fun j779 =>
                      if j779 then
                        some (Sum.inl false)
                      else
                        law05_HeadOnce_L531 j22 behind4 p2 r8 q1 k278 (iadd .i64 i277 1)
                  else
                    (ixL j22 i277).bind fun x780 =>
                    (head_Request x780).bind fun r781 =>
                    (ref05_SameRequest (r781.1.1, r781.1.2.1, r781.1.2.2) (q1.1, q1.2.1, q1.2.2)).bind fun r782 =>
                    (show Option (Bool) from
                      if !r781.2 then
                        some true
                      else
                        some (!r782)).bind fun j784 =>
                      if j784 then
                        some (Sum.inl false)
                      else
                        law05_HeadOnce_L531 j22 behind4 p2 r8 q1 k278 (iadd .i64 i277 1)
    else
      some (Sum.inr ())
def law05_HeadOnce (q1 : (List UInt8) × (List UInt8) × (List ((List UInt8) × (List UInt8)))) (p2 : Int × (List UInt8) × (List ((List UInt8) × (List UInt8)))) (s3 : List UInt8) (behind4 : List (UInt8)) : Option (Bool) :=
  (law05_shown).bind fun r5 =>
  (head_RequestText (q1.1, q1.2.1, q1.2.2)).bind fun r6 =>
  (head_ResponseText (p2.1, p2.2.1, p2.2.2)).bind fun r7 =>
  (head_Request s3).bind fun r8 =>
  (show Option (Sum (Bool) ((List (List UInt8)))) from
    if r8.2 then
      (head_RequestText (r8.1.1, r8.1.2.1, r8.1.2.2)).bind fun r16 =>
      (szC (List.length ([r6, r7] ++ [r16] : List (List UInt8)))).bind fun _ =>
      (show Option (Bool) from
        (ixL ([r6, r7] ++ [r16]) 2).bind fun x20 =>
        if decide (x20 = []) then
          some (decide ((List.length s3 : Int) < 1984))
        else
          some false).bind fun j21 =>
        if j21 then
          some (Sum.inl false)
        else
          some (Sum.inr ([r6, r7] ++ [r16]))
    else
      some (Sum.inr [r6, r7])).bind fun o15 => match o15 with
  | Sum.inl r => some r
  | Sum.inr j22 =>
    if !r5 then
      some false
    else
      (law05_HeadOnce_L531 j22 behind4 p2 r8 q1 1099511627776 0).bind fun o785 => match o785 with
      | Sum.inl r => some r
      | Sum.inr j786 =>
        some true
set_option maxRecDepth 100000 in
set_option maxHeartbeats 40000000 in
theorem law05_HeadOnce_ok {q1 : (List UInt8) × (List UInt8) × (List ((List UInt8) × (List UInt8)))} {p2 : Int × (List UInt8) × (List ((List UInt8) × (List UInt8)))} {s3 : List UInt8} {behind4 : List (UInt8)} {r : Bool} (hP : law05_HeadOnce q1 p2 s3 behind4 = some r) : CallOK Tryz.prog 5 [.agg [.str q1.1, .str q1.2.1, .view 2 (List.map enc_api_Field q1.2.2)], .agg [.int .i64 p2.1, .str p2.2.1, .view 2 (List.map enc_api_Field p2.2.2)], .str s3, .view 1 (List.map encB behind4)] (.bool r) [] := by
  unfold law05_HeadOnce at hP
  refine co 139 [.tmp 8] Tryz.func5 ?_
  refine J_seq ?_
  refine J_region (by kernel_rfl) ?_
  (try simp only [go_sem, Nat.reduceEqDiff, reduceIte])
  refine hold2 (then_n ?_)
  refine J_seq ?_
  refine J_region (by kernel_rfl) ?_
  (try simp only [go_sem, Nat.reduceEqDiff, reduceIte])
  obtain ⟨r5, hr5, hP⟩ := bind_cases hP
  refine call_ok [] (law05_shown_ok hr5) trivial ?_
  (try simp only [go_sem, Nat.reduceEqDiff, reduceIte])
  refine hold2 (then_n ?_)
  refine J_seq ?_
  refine J_regionT [(0, some [1, 3, 4, 5]), (2, some [3, 4, 5])] (.early 1 (.early 3 (.early 4 (.early 5 (.done))))) [] [10, 24, 25, 26, 27, 28] follows_mixed (by kernel_rfl) (by kernel_rfl) (by kernel_rfl) (by kernel_rfl) (by kernel_rfl) (by kernel_rfl) ?_
  simp only [pickT_cons, pickT_nil, go_sem, Nat.reduceEqDiff, reduceIte]
  (try simp only [go_sem, Nat.reduceEqDiff, reduceIte])
  obtain ⟨r6, hr6, hP⟩ := bind_cases hP
  refine callE_ok [.agg [.str q1.1, .str q1.2.1, .view 2 (List.map enc_api_Field q1.2.2)]] (head_RequestText_ok hr6) ⟨argR_m false rfl, trivial⟩ ?_
  (try simp only [go_sem, Nat.reduceEqDiff, reduceIte])
  obtain ⟨r7, hr7, hP⟩ := bind_cases hP
  refine callE_ok [.agg [.int .i64 p2.1, .str p2.2.1, .view 2 (List.map enc_api_Field p2.2.2)]] (head_ResponseText_ok hr7) ⟨argR_m false rfl, trivial⟩ ?_
  (try simp only [go_sem, Nat.reduceEqDiff, reduceIte])
  refine hold2 (then_n ?_)
  refine J_seq ?_
  refine J_region (by kernel_rfl) ?_
  (try simp only [go_sem, Nat.reduceEqDiff, reduceIte])
  obtain ⟨r8, hr8, hP⟩ := bind_cases hP
  refine call_ok [.str s3] (head_Request_ok hr8) ⟨argR_m false rfl, trivial⟩ ?_
  (try simp only [go_sem, Nat.reduceEqDiff, reduceIte])
  refine hold2 (then_n ?_)
  obtain ⟨o15, hP, hQ15⟩ := bind_cases hP
  refine J_join (fun (s : (List (List UInt8))) => envL [(3, .view 1 (List.map encB behind4)), (4, .bptr 0 0), (5, .bptr 1 0), (9, .bool r5), (10, .own 2 0 0 (List.length s)), (11, .bptr 3 0)]) (fun (s : (List (List UInt8))) => [.box 25 [.str q1.1, .str q1.2.1, .view 2 (List.map enc_api_Field q1.2.2)], .box 31 [.int .i64 p2.1, .str p2.2.1, .view 2 (List.map enc_api_Field p2.2.2)], .slice 0 9 1 (List.map encS s), .box 25 [.str r8.1.1, .str r8.1.2.1, .own 4 0 0 (List.length r8.1.2.2)], .slice 0 54 2 (List.map enc_api_Field r8.1.2.2)]) (fun s => Sum.inr s = o15) ?_ ?_
  · refine J_seq ?_
    refine J_region (by kernel_rfl) ?_
    (try simp only [go_sem, Nat.reduceEqDiff, reduceIte])
    refine hold2 (then_n ?_)
    refine J_condV rfl ?_
    (try simp only [go_sem, Nat.reduceEqDiff, reduceIte])
    rcases ite_cases hP with ⟨hc, hP⟩ | ⟨hc, hP⟩
    · refine condV_t hc ?_
      refine J_seq ?_
      refine J_region (by kernel_rfl) ?_
      (try simp only [go_sem, Nat.reduceEqDiff, reduceIte])
      obtain ⟨r16, hr16, hP⟩ := bind_cases hP
      refine call_ok [.agg [.str r8.1.1, .str r8.1.2.1, .view 2 (List.map enc_api_Field r8.1.2.2)]] (head_RequestText_ok hr16) ⟨argR_agg ⟨argC_m false rfl, argC_m false rfl, argC_m false (by simp only [arg, go_sem, Nat.reduceEqDiff, reduceIte]), trivial⟩, trivial⟩ ?_
      (try simp only [go_sem, Nat.reduceEqDiff, reduceIte])
      obtain ⟨_, hz17, hP⟩ := bind_cases hP
      refine app_own (f := encS) ([r6, r7] : List (List UInt8)) ([r16] : List (List UInt8)) rfl tyS_47 (by decide) (by simp only [go_sem, Nat.reduceEqDiff, reduceIte]; first | done | rfl | exact ⟨rfl, rfl⟩) hz17 ?_
      (try simp only [go_sem, Nat.reduceEqDiff, reduceIte])
      refine hold2 (then_n ?_)
      obtain ⟨o19, hP, hQ19⟩ := bind_cases hP
      refine J_join (fun (s : Bool) => envL [(3, .view 1 (List.map encB behind4)), (4, .bptr 0 0), (5, .bptr 1 0), (9, .bool r5), (10, .own 2 0 0 (List.length ([r6, r7] ++ [r16]))), (11, .bptr 3 0), (49, .bool s)]) (fun (s : Bool) => [.box 25 [.str q1.1, .str q1.2.1, .view 2 (List.map enc_api_Field q1.2.2)], .box 31 [.int .i64 p2.1, .str p2.2.1, .view 2 (List.map enc_api_Field p2.2.2)], .slice 0 9 1 (List.map encS ([r6, r7] ++ [r16])), .box 25 [.str r8.1.1, .str r8.1.2.1, .own 4 0 0 (List.length r8.1.2.2)], .slice 0 54 2 (List.map enc_api_Field r8.1.2.2)]) (fun s => s = o19) ?_ ?_
      · clear hQ19
        refine J_region (by kernel_rfl) ?_
        (try simp only [go_sem, Nat.reduceEqDiff, reduceIte])
        obtain ⟨x20, hx20, hP⟩ := bind_cases hP
        refine ixO_of hx20 ?_
        (try simp only [go_sem, Nat.reduceEqDiff, reduceIte])
        refine getK_of (f := encS) hx20 ?_
        (try simp only [go_sem, Nat.reduceEqDiff, reduceIte])
        rcases ite_cases hP with ⟨hc, hP⟩ | ⟨hc, hP⟩
        · refine guard_is hc ?_
          (try simp only [go_sem, Nat.reduceEqDiff, reduceIte])
          refine hold2 ?_
          exact join_n (decide ((List.length s3 : Int) < 1984)) (Option.some.inj hP) (so [0, 1, 2, 4, 3])
        · refine guard_not hc ?_
          (try simp only [go_sem, Nat.reduceEqDiff, reduceIte])
          refine hold2 ?_
          exact join_n false (Option.some.inj hP) (so [0, 1, 2, 4, 3])
      · intro j21 hs
        subst hs
        have hP := hQ19
        clear hQ19
        refine J_condV rfl ?_
        (try simp only [go_sem, Nat.reduceEqDiff, reduceIte])
        rcases ite_cases hP with ⟨hc, hP⟩ | ⟨hc, hP⟩
        · refine condV_t hc ?_
          refine J_seq ?_
          refine J_region (by kernel_rfl) ?_
          (try simp only [go_sem, Nat.reduceEqDiff, reduceIte])
          refine hold2 (then_n ?_)
          refine J_ret (join_ret (fin_ret ?_))
          obtain rfl := Option.some.inj hP
          have hP := hQ15
          dsimp only at hP
          obtain rfl := Option.some.inj hP
          (try simp only [go_sem, Nat.reduceEqDiff, reduceIte])
          exact fo []
        · refine condV_f hc ?_
          refine J_skip ?_
          exact join_n ([r6, r7] ++ [r16]) (Option.some.inj hP) (so [0, 1, 2, 3, 4])
    · refine condV_f hc ?_
      refine J_skip ?_
      exact join_n [r6, r7] (Option.some.inj hP) (so [0, 1, 2, 4, 3])
  · intro j22 hs
    subst hs
    have hP := hQ15
    dsimp only at hP
    clear hQ15
    refine J_seq ?_
    refine J_seq ?_
    refine J_region (by kernel_rfl) ?_
    (try simp only [go_sem, Nat.reduceEqDiff, reduceIte])
    refine hold2 (then_n ?_)
    refine J_condV rfl ?_
    (try simp only [go_sem, Nat.reduceEqDiff, reduceIte])
    rcases ite_cases hP with ⟨hc, hP⟩ | ⟨hc, hP⟩
    · refine condV_t hc ?_
      refine J_seq ?_
      refine J_region (by kernel_rfl) ?_
      (try simp only [go_sem, Nat.reduceEqDiff, reduceIte])
      refine hold2 (then_n ?_)
      refine J_ret (then_ret (fin_ret ?_))
      obtain rfl := Option.some.inj hP
      (try simp only [go_sem, Nat.reduceEqDiff, reduceIte])
      exact fo []
    · refine condV_f hc ?_
      refine J_skip (then_n ?_)
      refine J_seq ?_
      refine J_seq ?_
      refine J_region (by kernel_rfl) ?_
      (try simp only [go_sem, Nat.reduceEqDiff, reduceIte])
      refine hold2 (then_n ?_)
      obtain ⟨o785, hP, hQ531⟩ := bind_cases hP
      refine J_joinK (fun (s : Unit) => envL []) (fun (s : Unit) => []) (fun s => Sum.inr s = o785) (by repeat (first | exact subC_then | refine subC_block ?_)) ?_ ?_
      · refine J_block ?_
        refine J_loop (σ := Nat × Int) (fun (s : Nat × Int) => envL [(3, .view 1 (List.map encB behind4)), (4, .bptr 0 0), (5, .bptr 1 0), (10, .own 2 0 0 (List.length j22)), (11, .bptr 3 0), (13, .int .i64 s.2)]) (fun (s : Nat × Int) => [.box 25 [.str q1.1, .str q1.2.1, .view 2 (List.map enc_api_Field q1.2.2)], .box 31 [.int .i64 p2.1, .str p2.2.1, .view 2 (List.map enc_api_Field p2.2.2)], .slice 0 9 1 (List.map encS j22), .box 25 [.str r8.1.1, .str r8.1.2.1, .own 4 0 0 (List.length r8.1.2.2)], .slice 0 54 2 (List.map enc_api_Field r8.1.2.2)]) (fun s => law05_HeadOnce_L531 j22 behind4 p2 r8 q1 s.1 s.2 = some o785) (fun s => s.1) (1099511627776, 0) hP (so [0, 1, 2, 3, 4]) ?_
        rintro ⟨k278, i277⟩ hP
        dsimp only at hP ⊢
        cases k278 with
        | zero => simp [law05_HeadOnce_L531] at hP
        | succ k278 =>
          simp only [law05_HeadOnce_L531] at hP
          refine J_seq ?_
          refine J_seq ?_
          refine J_region (by kernel_rfl) ?_
          (try simp only [go_sem, Nat.reduceEqDiff, reduceIte])
          refine hold2 (then_n ?_)
          refine J_condV rfl ?_
          (try simp only [go_sem, Nat.reduceEqDiff, reduceIte])
          rcases ite_cases hP with ⟨hc, hP⟩ | ⟨hc, hP⟩
          · refine condV_t hc ?_
            refine J_skip (then_n ?_)
            refine J_seq ?_
            refine J_block ?_
            refine J_seq ?_
            refine J_seq ?_
            refine J_region (by kernel_rfl) ?_
            (try simp only [go_sem, Nat.reduceEqDiff, reduceIte])
            obtain ⟨x532, hx532, hP⟩ := bind_cases hP
            refine ixO_of hx532 ?_
            (try simp only [go_sem, Nat.reduceEqDiff, reduceIte])
            refine getK_of (f := encS) hx532 ?_
            (try simp only [go_sem, Nat.reduceEqDiff, reduceIte])
            refine hold2 (then_n ?_)
            refine J_condV rfl ?_
            (try simp only [go_sem, Nat.reduceEqDiff, reduceIte])
            rcases ite_cases hP with ⟨hc, hP⟩ | ⟨hc, hP⟩
            · refine condV_t hc ?_
              refine J_exit (then_exit (block_eq (then_n ?_)))
              refine J_region (by kernel_rfl) ?_
              (try simp only [go_sem, Nat.reduceEqDiff, reduceIte])
              refine hold2 ?_
              exact loop_n (k278, iadd .i64 i277 1) hP (Nat.lt_succ_self _) (so [0, 1, 2, 3, 4])
            · refine condV_f hc ?_
              refine J_skip (then_n ?_)
              refine J_seq ?_
              refine J_region (by kernel_rfl) ?_
              (try simp only [go_sem, Nat.reduceEqDiff, reduceIte])
              obtain ⟨o534, hP, hQ533⟩ := bind_cases hP
              refine call_join (fun (s : Unit) => .bptr 5 0) (fun (s : Unit) => envL [(3, .view 1 (List.map encB behind4)), (4, .bptr 0 0), (5, .bptr 1 0), (10, .own 2 0 0 (List.length j22)), (11, .bptr 3 0), (13, .int .i64 i277)]) (fun (s : Unit) => [.box 25 [.str q1.1, .str q1.2.1, .view 2 (List.map enc_api_Field q1.2.2)], .box 31 [.int .i64 p2.1, .str p2.2.1, .view 2 (List.map enc_api_Field p2.2.2)], .slice 0 9 1 (List.map encS j22), .box 25 [.str r8.1.1, .str r8.1.2.1, .own 4 0 0 (List.length r8.1.2.2)], .slice 0 54 2 (List.map enc_api_Field r8.1.2.2), .box 72 [.own 6 0 0 (List.length ([] : List UInt8)), .bool false, .int .i64 0], .slice 0 5 1 (List.map encB ([] : List UInt8))]) (fun s => s = o534) (callI_of (n := 3) (rs := [.tmp 0]) Tryz.func9 rfl (by decide) rfl rfl (by simp) rfl ?_) ?_
              · clear hQ533
                refine J_seq ?_
                refine J_region (by kernel_rfl) ?_
                (try simp only [go_sem, Nat.reduceEqDiff, reduceIte])
                refine hold2 (then_n ?_)
                refine J_seq ?_
                refine J_region (by kernel_rfl) ?_
                (try simp only [go_sem, Nat.reduceEqDiff, reduceIte])
                refine hold2 (then_n ?_)
                refine J_prom 5 1 (by decide) 5 0 _ _ rfl rfl ?_
                (try simp only [go_sem, Nat.reduceEqDiff, reduceIte])
                refine J_ret (finI_ret ?_)
                exact told_of ⟨(), Option.some.inj hP, sr [0, 1, 2, 3, 4, 5, 6]⟩
              · intro a533 hs
                subst hs
                have hP := hQ533
                clear hQ533
                (try simp only [go_sem, Nat.reduceEqDiff, reduceIte])
                refine hold2 (then_n ?_)
                refine J_seq ?_
                refine J_region (by kernel_rfl) ?_
                (try simp only [go_sem, Nat.reduceEqDiff, reduceIte])
                obtain ⟨x535, hx535, hP⟩ := bind_cases hP
                refine ixO_of hx535 ?_
                (try simp only [go_sem, Nat.reduceEqDiff, reduceIte])
                refine getK_of (f := encS) hx535 ?_
                (try simp only [go_sem, Nat.reduceEqDiff, reduceIte])
                obtain ⟨_, hz536, hP⟩ := bind_cases hP
                refine chk_of (szC_63 hz536) ?_
                (try simp only [go_sem, Nat.reduceEqDiff, reduceIte])
                obtain ⟨_, hz537, hP⟩ := bind_cases hP
                refine app_own (f := encB) (x535 : List (UInt8)) (behind4 : List (UInt8)) rfl tyS_37 (by decide) (by simp only [go_sem, Nat.reduceEqDiff, reduceIte]; first | done | rfl | exact ⟨rfl, rfl⟩) hz537 ?_
                (try simp only [go_sem, Nat.reduceEqDiff, reduceIte])
                obtain ⟨o731, hP, hQ730⟩ := bind_cases hP
                refine call_join (fun (s : Int × Bool × Int × (List (UInt8))) => .int .i64 s.1) (fun (s : Int × Bool × Int × (List (UInt8))) => envL [(3, .view 1 (List.map encB behind4)), (4, .bptr 0 0), (5, .bptr 1 0), (10, .own 2 0 0 (List.length j22)), (11, .bptr 3 0), (13, .int .i64 i277), (14, .bptr 5 0)]) (fun (s : Int × Bool × Int × (List (UInt8))) => [.box 25 [.str q1.1, .str q1.2.1, .view 2 (List.map enc_api_Field q1.2.2)], .box 31 [.int .i64 p2.1, .str p2.2.1, .view 2 (List.map enc_api_Field p2.2.2)], .slice 0 9 1 (List.map encS j22), .box 25 [.str r8.1.1, .str r8.1.2.1, .own 4 0 0 (List.length r8.1.2.2)], .slice 0 54 2 (List.map enc_api_Field r8.1.2.2), .box 72 [.own 6 0 0 (List.length s.2.2.2), .bool s.2.1, .int .i64 s.2.2.1], .slice 0 5 1 (List.map encB s.2.2.2)]) (fun s => s = o731) (callI_of (n := 32) (rs := [.tmp 4]) Tryz.func10 rfl (by decide) rfl rfl (by simp) rfl ?_) ?_
                · clear hQ730
                  refine J_seq ?_
                  refine J_region (by kernel_rfl) ?_
                  (try simp only [go_sem, Nat.reduceEqDiff, reduceIte])
                  refine hold2 (then_n ?_)
                  refine J_seq ?_
                  refine J_seq ?_
                  refine J_region (by kernel_rfl) ?_
                  (try simp only [go_sem, Nat.reduceEqDiff, reduceIte, Nat.reduceAdd, Nat.reduceSub, Nat.reduceLT, Nat.reduceMul, reduceCtorEq, Int.reduceToNat, Int.reduceLE, Int.reduceLT, Nat.reduceLeDiff])
                  refine hold2 (then_n ?_)
                  obtain ⟨o728, hP, hQ706⟩ := bind_cases hP
                  refine J_joinK (fun (s : Bool × Int × (List (UInt8))) => envL [(1, .own 0 0 0 (List.length (x535 ++ behind4))), (35, .view 1 (List.map encB behind4)), (36, .bptr 1 0), (37, .bptr 2 0), (42, .own 3 0 0 (List.length j22)), (43, .bptr 4 0), (45, .int .i64 i277), (46, .bptr 6 0)]) (fun (s : Bool × Int × (List (UInt8))) => [.slice 0 5 1 (List.map encB (x535 ++ behind4)), .box 25 [.str q1.1, .str q1.2.1, .view 2 (List.map enc_api_Field q1.2.2)], .box 31 [.int .i64 p2.1, .str p2.2.1, .view 2 (List.map enc_api_Field p2.2.2)], .slice 0 9 1 (List.map encS j22), .box 25 [.str r8.1.1, .str r8.1.2.1, .own 5 0 0 (List.length r8.1.2.2)], .slice 0 54 2 (List.map enc_api_Field r8.1.2.2), .box 72 [.own 7 0 0 (List.length s.2.2), .bool s.1, .int .i64 s.2.1], .slice 0 5 1 (List.map encB s.2.2)]) (fun s => Sum.inr s = o728) (by repeat (first | exact subC_then | refine subC_block ?_)) ?_ ?_
                  · refine J_block ?_
                    refine J_loop (σ := Nat × Int × Bool × Int × (List (UInt8))) (fun (s : Nat × Int × Bool × Int × (List (UInt8))) => envL [(0, .bptr 0 0), (1, .own 2 0 0 (List.length (x535 ++ behind4))), (7, .own 2 0 0 (List.length (x535 ++ behind4))), (8, .int .i64 ((List.length (x535 ++ behind4) : Nat) : Int)), (9, .int .i64 s.2.1), (35, .view 1 (List.map encB behind4)), (36, .bptr 3 0), (37, .bptr 4 0), (42, .own 5 0 0 (List.length j22)), (43, .bptr 6 0), (45, .int .i64 i277), (46, .bptr 0 0)]) (fun (s : Nat × Int × Bool × Int × (List (UInt8))) => [.box 72 [.own 1 0 0 (List.length s.2.2.2.2), .bool s.2.2.1, .int .i64 s.2.2.2.1], .slice 0 5 1 (List.map encB s.2.2.2.2), .slice 0 5 1 (List.map encB (x535 ++ behind4)), .box 25 [.str q1.1, .str q1.2.1, .view 2 (List.map enc_api_Field q1.2.2)], .box 31 [.int .i64 p2.1, .str p2.2.1, .view 2 (List.map enc_api_Field p2.2.2)], .slice 0 9 1 (List.map encS j22), .box 25 [.str r8.1.1, .str r8.1.2.1, .own 7 0 0 (List.length r8.1.2.2)], .slice 0 54 2 (List.map enc_api_Field r8.1.2.2)]) (fun s => head_Reader_Take_L706 x535 behind4 s.1 s.2.1 s.2.2.1 s.2.2.2.1 s.2.2.2.2 = some o728) (fun s => s.1) (1099511627776, 0, false, 0, ([] : List UInt8)) hP (so [5, 6, 7, 0, 1, 2, 3, 4]) ?_
                    rintro ⟨k685, v681, l682, l683, l684⟩ hP
                    dsimp only at hP ⊢
                    cases k685 with
                    | zero => simp [head_Reader_Take_L706] at hP
                    | succ k685 =>
                      simp only [head_Reader_Take_L706] at hP
                      refine J_seq ?_
                      refine J_region (by kernel_rfl) ?_
                      (try simp only [go_sem, Nat.reduceEqDiff, reduceIte])
                      refine hold2 (then_n ?_)
                      refine J_seq ?_
                      refine J_condV rfl ?_
                      (try simp only [go_sem, Nat.reduceEqDiff, reduceIte])
                      rcases ite_cases hP with ⟨hc, hP⟩ | ⟨hc, hP⟩
                      · refine condV_t hc ?_
                        refine J_skip (then_n ?_)
                        refine J_seq ?_
                        refine J_block ?_
                        refine J_seq ?_
                        refine J_region (by kernel_rfl) ?_
                        (try simp only [go_sem, Nat.reduceEqDiff, reduceIte])
                        obtain ⟨x707, hx707, hP⟩ := bind_cases hP
                        refine ixO_of hx707 ?_
                        (try simp only [go_sem, Nat.reduceEqDiff, reduceIte])
                        refine getK_of (f := encB) hx707 ?_
                        (try simp only [go_sem, Nat.reduceEqDiff, reduceIte])
                        refine hold2 (then_n ?_)
                        refine J_seq ?_
                        obtain ⟨o708, hP, hQ708⟩ := bind_cases hP
                        refine J_join (fun (s : Bool) => envL [(0, .bptr 0 0), (1, .own 2 0 0 (List.length (x535 ++ behind4))), (5, .int .i64 v681), (6, .int .u8 (b2i x707)), (7, .own 2 0 0 (List.length (x535 ++ behind4))), (8, .int .i64 ((List.length (x535 ++ behind4) : Nat) : Int)), (9, .int .i64 v681), (24, .bool s), (35, .view 1 (List.map encB behind4)), (36, .bptr 3 0), (37, .bptr 4 0), (42, .own 5 0 0 (List.length j22)), (43, .bptr 6 0), (45, .int .i64 i277), (46, .bptr 0 0)]) (fun (s : Bool) => [.box 72 [.own 1 0 0 (List.length l684), .bool l682, .int .i64 l683], .slice 0 5 1 (List.map encB l684), .slice 0 5 1 (List.map encB (x535 ++ behind4)), .box 25 [.str q1.1, .str q1.2.1, .view 2 (List.map enc_api_Field q1.2.2)], .box 31 [.int .i64 p2.1, .str p2.2.1, .view 2 (List.map enc_api_Field p2.2.2)], .slice 0 9 1 (List.map encS j22), .box 25 [.str r8.1.1, .str r8.1.2.1, .own 7 0 0 (List.length r8.1.2.2)], .slice 0 54 2 (List.map enc_api_Field r8.1.2.2)]) (fun s => s = o708) ?_ ?_
                        · clear hQ708
                          refine J_region (by kernel_rfl) ?_
                          (try simp only [go_sem, Nat.reduceEqDiff, reduceIte])
                          rcases ite_cases hP with ⟨hc, hP⟩ | ⟨hc, hP⟩
                          · refine guard_not hc ?_
                            (try simp only [go_sem, Nat.reduceEqDiff, reduceIte])
                            refine hold2 ?_
                            exact join_n true (Option.some.inj hP) (so [0, 1, 2, 3, 4, 5, 6, 7])
                          · refine guard_is hc ?_
                            (try simp only [go_sem, Nat.reduceEqDiff, reduceIte])
                            refine hold2 ?_
                            exact join_n (!decide (l683 = 0)) (Option.some.inj hP) (so [0, 1, 2, 3, 4, 5, 6, 7])
                        · intro j709 hs
                          subst hs
                          have hP := hQ708
                          clear hQ708
                          refine J_condV rfl ?_
                          (try simp only [go_sem, Nat.reduceEqDiff, reduceIte])
                          rcases ite_cases hP with ⟨hc, hP⟩ | ⟨hc, hP⟩
                          · refine condV_t hc ?_
                            refine J_seq ?_
                            refine J_region (by kernel_rfl) ?_
                            (try simp only [go_sem, Nat.reduceEqDiff, reduceIte])
                            refine hold2 (then_n ?_)
                            refine J_ret (then_ret (block_ret (then_ret (loop_ret (block_ret (join_ret (then_ret (finI_ret ?_))))))))
                            obtain rfl := Option.some.inj hP
                            have hP := hQ706
                            dsimp only at hP
                            exact told_of ⟨(v681, l682, l683, l684), Option.some.inj hP, sr [3, 4, 5, 6, 7, 0, 1]⟩
                          · refine condV_f hc ?_
                            refine J_skip (then_n ?_)
                            refine J_region (by kernel_rfl) ?_
                            (try simp only [go_sem, Nat.reduceEqDiff, reduceIte])
                            obtain ⟨o727, hP, hQ726⟩ := bind_cases hP
                            refine call_join (fun (s : Bool × Int) => .tup []) (fun (s : Bool × Int) => envL [(0, .bptr 0 0), (1, .own 2 0 0 (List.length (x535 ++ behind4))), (7, .own 2 0 0 (List.length (x535 ++ behind4))), (8, .int .i64 ((List.length (x535 ++ behind4) : Nat) : Int)), (9, .int .i64 v681), (35, .view 1 (List.map encB behind4)), (36, .bptr 3 0), (37, .bptr 4 0), (42, .own 5 0 0 (List.length j22)), (43, .bptr 6 0), (45, .int .i64 i277), (46, .bptr 0 0)]) (fun (s : Bool × Int) => [.box 72 [.own 1 0 0 (List.length (l684 ++ [x707])), .bool s.1, .int .i64 s.2], .slice 0 5 1 (List.map encB (l684 ++ [x707])), .slice 0 5 1 (List.map encB (x535 ++ behind4)), .box 25 [.str q1.1, .str q1.2.1, .view 2 (List.map enc_api_Field q1.2.2)], .box 31 [.int .i64 p2.1, .str p2.2.1, .view 2 (List.map enc_api_Field p2.2.2)], .slice 0 9 1 (List.map encS j22), .box 25 [.str r8.1.1, .str r8.1.2.1, .own 7 0 0 (List.length r8.1.2.2)], .slice 0 54 2 (List.map enc_api_Field r8.1.2.2)]) (fun s => s = o727) (callI_of (n := 78) (rs := []) Tryz.func36 rfl (by decide) rfl rfl (by simp) rfl ?_) ?_
                            · clear hQ726
                              obtain ⟨o719, hP, hQ719⟩ := bind_cases hP
                              refine J_join (fun (s : Bool) => envL [(0, .bptr 0 0), (1, .int .u8 (b2i x707)), (4, .bool s), (78, .bptr 0 0), (79, .own 2 0 0 (List.length (x535 ++ behind4))), (85, .own 2 0 0 (List.length (x535 ++ behind4))), (86, .int .i64 ((List.length (x535 ++ behind4) : Nat) : Int)), (87, .int .i64 v681), (113, .view 1 (List.map encB behind4)), (114, .bptr 3 0), (115, .bptr 4 0), (120, .own 5 0 0 (List.length j22)), (121, .bptr 6 0), (123, .int .i64 i277), (124, .bptr 0 0)]) (fun (s : Bool) => [.box 72 [.own 1 0 0 (List.length l684), .bool l682, .int .i64 l683], .slice 0 5 1 (List.map encB l684), .slice 0 5 1 (List.map encB (x535 ++ behind4)), .box 25 [.str q1.1, .str q1.2.1, .view 2 (List.map enc_api_Field q1.2.2)], .box 31 [.int .i64 p2.1, .str p2.2.1, .view 2 (List.map enc_api_Field p2.2.2)], .slice 0 9 1 (List.map encS j22), .box 25 [.str r8.1.1, .str r8.1.2.1, .own 7 0 0 (List.length r8.1.2.2)], .slice 0 54 2 (List.map enc_api_Field r8.1.2.2)]) (fun s => s = o719) ?_ ?_
                              · clear hQ719
                                refine J_regionq follows_mixed (by kernel_rfl) (by kernel_rfl) ?_
                                (try simp only [go_sem, Nat.reduceEqDiff, reduceIte, Nat.reduceAdd, Nat.reduceSub, Nat.reduceLT, Nat.reduceMul, reduceCtorEq, Int.reduceToNat, Int.reduceLE, Int.reduceLT, Nat.reduceLeDiff])
                                rcases ite_cases hP with ⟨hc, hP⟩ | ⟨hc, hP⟩
                                · refine guard_is hc ?_
                                  (try simp only [go_sem, Nat.reduceEqDiff, reduceIte, Nat.reduceAdd, Nat.reduceSub, Nat.reduceLT, Nat.reduceMul, reduceCtorEq, Int.reduceToNat, Int.reduceLE, Int.reduceLT, Nat.reduceLeDiff])
                                  obtain ⟨x720, hx720, hP⟩ := bind_cases hP
                                  refine ixO_of hx720 ?_
                                  (try simp only [go_sem, Nat.reduceEqDiff, reduceIte])
                                  refine getK_of (f := encB) hx720 ?_
                                  (try simp only [go_sem, Nat.reduceEqDiff, reduceIte, Nat.reduceAdd, Nat.reduceSub, Nat.reduceLT, Nat.reduceMul, reduceCtorEq, Int.reduceToNat, Int.reduceLE, Int.reduceLT, Nat.reduceLeDiff])
                                  refine hold2 ?_
                                  exact join_n (decide (b2i x720 = b2i (bC 13))) (Option.some.inj hP) (so [0, 1, 2, 3, 4, 5, 6, 7])
                                · refine guard_not hc ?_
                                  (try simp only [go_sem, Nat.reduceEqDiff, reduceIte])
                                  refine hold2 ?_
                                  exact join_n false (Option.some.inj hP) (so [0, 1, 2, 3, 4, 5, 6, 7])
                              · intro j721 hs
                                subst hs
                                have hP := hQ719
                                clear hQ719
                                refine J_seq ?_
                                refine J_region (by kernel_rfl) ?_
                                (try simp only [go_sem, Nat.reduceEqDiff, reduceIte])
                                obtain ⟨_, hz722, hP⟩ := bind_cases hP
                                refine app_own (f := encB) (l684 : List (UInt8)) ([x707] : List (UInt8)) rfl tyS_37 (by decide) (by simp only [go_sem, Nat.reduceEqDiff, reduceIte]; first | done | rfl | exact ⟨rfl, rfl⟩) hz722 ?_
                                (try simp only [go_sem, Nat.reduceEqDiff, reduceIte, Nat.reduceAdd, Nat.reduceSub, Nat.reduceLT, Nat.reduceMul, reduceCtorEq, Int.reduceToNat, Int.reduceLE, Int.reduceLT, Nat.reduceLeDiff])
                                refine hold2 (then_n ?_)
                                refine J_seq ?_
                                refine J_regionq follows_mixed (by kernel_rfl) (by kernel_rfl) ?_
                                (try simp only [go_sem, Nat.reduceEqDiff, reduceIte])
                                obtain ⟨s723, hs723, hP⟩ := bind_cases hP
                                refine slO_of hs723 ?_
                                (try simp only [go_sem, Nat.reduceEqDiff, reduceIte])
                                simp only [own_cut hs723, go_sem, Nat.reduceEqDiff, reduceIte]
                                first | refine bytesK_map ?_ | refine bytesK_of s723 rfl ?_
                                (try simp only [go_sem, Nat.reduceEqDiff, reduceIte])
                                refine hold2 (then_n ?_)
                                refine J_block ?_
                                refine J_seq ?_
                                refine J_region (by kernel_rfl) ?_
                                (try simp only [go_sem, Nat.reduceEqDiff, reduceIte])
                                refine hold2 (then_n ?_)
                                refine J_condV rfl ?_
                                (try simp only [go_sem, Nat.reduceEqDiff, reduceIte])
                                rcases ite_cases hP with ⟨hc, hP⟩ | ⟨hc, hP⟩
                                · refine condV_t hc ?_
                                  refine J_region (by kernel_rfl) ?_
                                  (try simp only [go_sem, Nat.reduceEqDiff, reduceIte])
                                  refine hold2 (block_n (finI_n ?_))
                                  exact told_of ⟨(l682, 10), Option.some.inj hP, sr [0, 1, 2, 3, 4, 5, 6, 7]⟩
                                · refine condV_f hc ?_
                                  obtain ⟨o724, hP, hQ724⟩ := bind_cases hP
                                  refine J_join (fun (s : Bool) => envL [(0, .bptr 0 0), (58, .bool s), (78, .bptr 0 0), (79, .own 2 0 0 (List.length (x535 ++ behind4))), (85, .own 2 0 0 (List.length (x535 ++ behind4))), (86, .int .i64 ((List.length (x535 ++ behind4) : Nat) : Int)), (87, .int .i64 v681), (113, .view 1 (List.map encB behind4)), (114, .bptr 3 0), (115, .bptr 4 0), (120, .own 5 0 0 (List.length j22)), (121, .bptr 6 0), (123, .int .i64 i277), (124, .bptr 0 0)]) (fun (s : Bool) => [.box 72 [.own 1 0 0 (List.length (l684 ++ [x707])), .bool l682, .int .i64 l683], .slice 0 5 1 (List.map encB (l684 ++ [x707])), .slice 0 5 1 (List.map encB (x535 ++ behind4)), .box 25 [.str q1.1, .str q1.2.1, .view 2 (List.map enc_api_Field q1.2.2)], .box 31 [.int .i64 p2.1, .str p2.2.1, .view 2 (List.map enc_api_Field p2.2.2)], .slice 0 9 1 (List.map encS j22), .box 25 [.str r8.1.1, .str r8.1.2.1, .own 7 0 0 (List.length r8.1.2.2)], .slice 0 54 2 (List.map enc_api_Field r8.1.2.2)]) (fun s => s = o724) ?_ ?_
                                  · clear hQ724
                                    refine J_region (by kernel_rfl) ?_
                                    (try simp only [go_sem, Nat.reduceEqDiff, reduceIte])
                                    rcases ite_cases hP with ⟨hc, hP⟩ | ⟨hc, hP⟩
                                    · refine guard_not hc ?_
                                      (try simp only [go_sem, Nat.reduceEqDiff, reduceIte])
                                      refine hold2 ?_
                                      exact join_n true (Option.some.inj hP) (so [0, 1, 2, 3, 4, 5, 6, 7])
                                    · refine guard_is hc ?_
                                      (try simp only [go_sem, Nat.reduceEqDiff, reduceIte])
                                      refine hold2 ?_
                                      exact join_n (decide (s723 = [13, 10, 13, 10])) (Option.some.inj hP) (so [0, 1, 2, 3, 4, 5, 6, 7])
                                  · intro j725 hs
                                    subst hs
                                    have hP := hQ724
                                    clear hQ724
                                    refine J_condV rfl ?_
                                    (try simp only [go_sem, Nat.reduceEqDiff, reduceIte])
                                    rcases ite_cases hP with ⟨hc, hP⟩ | ⟨hc, hP⟩
                                    · refine condV_t hc ?_
                                      refine J_region (by kernel_rfl) ?_
                                      (try simp only [go_sem, Nat.reduceEqDiff, reduceIte, Nat.reduceAdd, Nat.reduceSub, Nat.reduceLT, Nat.reduceMul, reduceCtorEq, Int.reduceToNat, Int.reduceLE, Int.reduceLT, Nat.reduceLeDiff])
                                      refine hold2 (block_n (finI_n ?_))
                                      exact told_of ⟨(true, l683), Option.some.inj hP, sr [0, 1, 2, 3, 4, 5, 6, 7]⟩
                                    · refine condV_f hc ?_
                                      refine J_seq ?_
                                      refine J_region (by kernel_rfl) ?_
                                      (try simp only [go_sem, Nat.reduceEqDiff, reduceIte])
                                      refine hold2 (then_n ?_)
                                      refine J_condV rfl ?_
                                      (try simp only [go_sem, Nat.reduceEqDiff, reduceIte])
                                      rcases ite_cases hP with ⟨hc, hP⟩ | ⟨hc, hP⟩
                                      · refine condV_t hc ?_
                                        refine J_region (by kernel_rfl) ?_
                                        (try simp only [go_sem, Nat.reduceEqDiff, reduceIte])
                                        refine hold2 (block_n (finI_n ?_))
                                        exact told_of ⟨(l682, 17), Option.some.inj hP, sr [0, 1, 2, 3, 4, 5, 6, 7]⟩
                                      · refine condV_f hc ?_
                                        refine J_skip (block_n (finI_n ?_))
                                        exact told_of ⟨(l682, l683), Option.some.inj hP, sr [0, 1, 2, 3, 4, 5, 6, 7]⟩
                            · intro a726 hs
                              subst hs
                              have hP := hQ726
                              clear hQ726
                              (try simp only [go_sem, Nat.reduceEqDiff, reduceIte])
                              refine hold2 (block_n (then_n ?_))
                              refine J_region (by kernel_rfl) ?_
                              (try simp only [go_sem, Nat.reduceEqDiff, reduceIte])
                              refine hold2 ?_
                              exact loop_n (k685, iadd .i64 v681 1, a726.1, a726.2, l684 ++ [x707]) hP (Nat.lt_succ_self _) (so [0, 1, 2, 3, 4, 5, 6, 7])
                      · refine condV_f hc ?_
                        refine J_exit (then_exit (loop_exit (block_eq ?_)))
                        exact join_n (l682, l683, l684) (Option.some.inj hP) (so [2, 3, 4, 5, 6, 7, 0, 1])
                  · intro j729 hs
                    subst hs
                    have hP := hQ706
                    dsimp only at hP
                    clear hQ706
                    refine then_n ?_
                    refine J_seq ?_
                    refine J_region (by kernel_rfl) ?_
                    (try simp only [go_sem, Nat.reduceEqDiff, reduceIte])
                    refine hold2 (then_n ?_)
                    refine J_ret (finI_ret ?_)
                    exact told_of ⟨(((List.length (x535 ++ behind4) : Nat) : Int), j729.1, j729.2.1, j729.2.2), Option.some.inj hP, sr [1, 2, 3, 4, 5, 6, 7]⟩
                · intro a730 hs
                  subst hs
                  have hP := hQ730
                  clear hQ730
                  (try simp only [go_sem, Nat.reduceEqDiff, reduceIte])
                  refine hold2 (then_n ?_)
                  refine J_seq ?_
                  obtain ⟨o750, hP, hQ750⟩ := bind_cases hP
                  refine J_join (fun (s : Bool) => envL [(3, .view 1 (List.map encB behind4)), (4, .bptr 0 0), (5, .bptr 1 0), (10, .own 2 0 0 (List.length j22)), (11, .bptr 3 0), (13, .int .i64 i277), (98, .bool s)]) (fun (s : Bool) => [.box 25 [.str q1.1, .str q1.2.1, .view 2 (List.map enc_api_Field q1.2.2)], .box 31 [.int .i64 p2.1, .str p2.2.1, .view 2 (List.map enc_api_Field p2.2.2)], .slice 0 9 1 (List.map encS j22), .box 25 [.str r8.1.1, .str r8.1.2.1, .own 4 0 0 (List.length r8.1.2.2)], .slice 0 54 2 (List.map enc_api_Field r8.1.2.2)]) (fun s => s = o750) ?_ ?_
                  · clear hQ750
                    obtain ⟨o759, hP, hQ759⟩ := bind_cases hP
                    refine J_joinK0 (fun (s : Bool) => envL [(3, .view 1 (List.map encB behind4)), (4, .bptr 0 0), (5, .bptr 1 0), (10, .own 2 0 0 (List.length j22)), (11, .bptr 3 0), (13, .int .i64 i277), (98, .bool s)]) (fun (s : Bool) => [.box 25 [.str q1.1, .str q1.2.1, .view 2 (List.map enc_api_Field q1.2.2)], .box 31 [.int .i64 p2.1, .str p2.2.1, .view 2 (List.map enc_api_Field p2.2.2)], .slice 0 9 1 (List.map encS j22), .box 25 [.str r8.1.1, .str r8.1.2.1, .own 4 0 0 (List.length r8.1.2.2)], .slice 0 54 2 (List.map enc_api_Field r8.1.2.2)]) (fun s => s = o759) ?_ ?_
                    · clear hQ759
                      refine J_regionT [(0, none), (1, none), (2, none), (3, some [4, 5, 6, 7, 8, 9, 10, 11, 12, 13, 14, 15, 16, 17, 18, 19, 20, 21, 22, 23, 24, 25]), (4, some [5, 6, 7, 8, 9, 10, 11, 12, 13, 14, 15, 16, 17, 18, 19, 20, 21, 22, 23, 24, 25]), (5, some [6, 7, 8, 9, 10, 11, 12, 13, 14, 15, 16, 17, 18, 19, 20, 21, 22, 23, 24, 25]), (6, some [7, 8, 9, 10, 11, 12, 13, 14, 15, 16, 17, 18, 19, 20, 21, 22, 23, 24, 25]), (7, none), (8, none)] (.step 9 (.early 10 (.early 11 (.pure 12 (.pure 13 (.step 14 (.early 15 (.early 16 (.pure 17 (.pure 18 (.pure 20 (.pure 21 (.alt (.step 19 (.early 22 (.early 23 (.early 24 (.early 25 (.done)))))) (.early 22 (.alt (.step 19 (.early 23 (.early 24 (.early 25 (.done))))) (.early 23 (.step 19 (.early 24 (.early 25 (.done)))))))))))))))))))) [9, 14, 19] [73, 74, 75, 76, 77, 78, 79, 80, 81, 82, 83, 84, 85, 86, 87, 88, 89, 90, 91, 92, 93, 94, 95, 96, 97, 98] follows_mixed (by kernel_rfl) (by kernel_rfl) (by kernel_rfl) (by kernel_rfl) (by kernel_rfl) (by kernel_rfl) ?_
                      simp only [pickT_cons, pickT_nil, go_sem, Nat.reduceEqDiff, reduceIte]
                      (try simp only [go_sem, Nat.reduceEqDiff, reduceIte])
                      obtain ⟨x760, hx760, hP⟩ := bind_cases hP
                      refine ixO_of hx760 ?_
                      (try simp only [go_sem, Nat.reduceEqDiff, reduceIte])
                      refine getK_of (f := encS) hx760 ?_
                      (try simp only [go_sem, Nat.reduceEqDiff, reduceIte])
                      rcases ite_cases hP with ⟨hc, hP⟩ | ⟨hc, hP⟩
                      · refine guard_not hc ?_
                        (try simp only [go_sem, Nat.reduceEqDiff, reduceIte])
                        refine ⟨?_, ?_⟩
                        · refine hold2 ?_
                          exact join_n true (Option.some.inj hP) (so [0, 1, 2, 3, 4])
                        refine ⟨?_, ?_⟩
                        · refine hold2 ?_
                          exact join_n true (Option.some.inj hP) (so [0, 1, 2, 3, 4])
                        refine hold2 ?_
                        exact join_n true (Option.some.inj hP) (so [0, 1, 2, 3, 4])
                      · refine guard_is hc ?_
                        (try simp only [go_sem, Nat.reduceEqDiff, reduceIte])
                        obtain ⟨o762, hP, hQ761⟩ := bind_cases hP
                        refine callP_n (call_join (fun (s : Unit) => .bool a730.2.1) (fun (s : Unit) => envL [(3, .view 1 (List.map encB behind4)), (4, .bptr 0 0), (5, .bptr 1 0), (10, .own 2 0 0 (List.length j22)), (11, .bptr 3 0), (13, .int .i64 i277), (14, .bptr 5 0), (80, .bool false)]) (fun (s : Unit) => [.box 25 [.str q1.1, .str q1.2.1, .view 2 (List.map enc_api_Field q1.2.2)], .box 31 [.int .i64 p2.1, .str p2.2.1, .view 2 (List.map enc_api_Field p2.2.2)], .slice 0 9 1 (List.map encS j22), .box 25 [.str r8.1.1, .str r8.1.2.1, .own 4 0 0 (List.length r8.1.2.2)], .slice 0 54 2 (List.map enc_api_Field r8.1.2.2), .box 72 [.own 6 0 0 (List.length a730.2.2.2), .bool a730.2.1, .int .i64 a730.2.2.1], .slice 0 5 1 (List.map encB a730.2.2.2)]) (fun s => s = o762) (callI_of (n := 7) (rs := [.tmp 2]) Tryz.func11 rfl (by decide) rfl rfl (by simp) rfl ?_) ?_)
                        · clear hQ761
                          refine J_seq ?_
                          refine J_region (by kernel_rfl) ?_
                          (try simp only [go_sem, Nat.reduceEqDiff, reduceIte])
                          refine hold2 (then_n ?_)
                          refine J_seq ?_
                          refine J_region (by kernel_rfl) ?_
                          (try simp only [go_sem, Nat.reduceEqDiff, reduceIte])
                          refine hold2 (then_n ?_)
                          refine J_ret (finI_ret ?_)
                          exact told_of ⟨(), Option.some.inj hP, sr [0, 1, 2, 3, 4, 5, 6]⟩
                        · intro a761 hs
                          subst hs
                          have hP := hQ761
                          clear hQ761
                          (try simp only [go_sem, Nat.reduceEqDiff, reduceIte])
                          rcases ite_cases hP with ⟨hc, hP⟩ | ⟨hc, hP⟩
                          · refine guard_not hc ?_
                            (try simp only [go_sem, Nat.reduceEqDiff, reduceIte])
                            refine ⟨?_, ?_⟩
                            · refine hold2 ?_
                              exact join_n true (Option.some.inj hP) (so [0, 1, 2, 3, 4])
                            refine ⟨?_, ?_⟩
                            · refine hold2 ?_
                              exact join_n true (Option.some.inj hP) (so [0, 1, 2, 3, 4])
                            refine hold2 ?_
                            exact join_n true (Option.some.inj hP) (so [0, 1, 2, 3, 4])
                          · refine guard_is hc ?_
                            (try simp only [go_sem, Nat.reduceEqDiff, reduceIte])
                            obtain ⟨o764, hP, hQ763⟩ := bind_cases hP
                            refine callP_n (call_join (fun (s : Unit) => .int .i64 a730.2.2.1) (fun (s : Unit) => envL [(3, .view 1 (List.map encB behind4)), (4, .bptr 0 0), (5, .bptr 1 0), (10, .own 2 0 0 (List.length j22)), (11, .bptr 3 0), (13, .int .i64 i277), (14, .bptr 5 0), (85, .bool false)]) (fun (s : Unit) => [.box 25 [.str q1.1, .str q1.2.1, .view 2 (List.map enc_api_Field q1.2.2)], .box 31 [.int .i64 p2.1, .str p2.2.1, .view 2 (List.map enc_api_Field p2.2.2)], .slice 0 9 1 (List.map encS j22), .box 25 [.str r8.1.1, .str r8.1.2.1, .own 4 0 0 (List.length r8.1.2.2)], .slice 0 54 2 (List.map enc_api_Field r8.1.2.2), .box 72 [.own 6 0 0 (List.length a730.2.2.2), .bool a730.2.1, .int .i64 a730.2.2.1], .slice 0 5 1 (List.map encB a730.2.2.2)]) (fun s => s = o764) (callI_of (n := 7) (rs := [.tmp 2]) Tryz.func18 rfl (by decide) rfl rfl (by simp) rfl ?_) ?_)
                            · clear hQ763
                              refine J_seq ?_
                              refine J_region (by kernel_rfl) ?_
                              (try simp only [go_sem, Nat.reduceEqDiff, reduceIte])
                              refine hold2 (then_n ?_)
                              refine J_seq ?_
                              refine J_region (by kernel_rfl) ?_
                              (try simp only [go_sem, Nat.reduceEqDiff, reduceIte])
                              refine hold2 (then_n ?_)
                              refine J_ret (finI_ret ?_)
                              exact told_of ⟨(), Option.some.inj hP, sr [0, 1, 2, 3, 4, 5, 6]⟩
                            · intro a763 hs
                              subst hs
                              have hP := hQ763
                              clear hQ763
                              (try simp only [go_sem, Nat.reduceEqDiff, reduceIte])
                              rcases ite_cases hP with ⟨hc, hP⟩ | ⟨hc, hP⟩
                              · refine guard_not hc ?_
                                (try simp only [go_sem, Nat.reduceEqDiff, reduceIte])
                                refine ⟨?_, ?_⟩
                                · refine hold2 ?_
                                  exact join_n true (Option.some.inj hP) (so [0, 1, 2, 3, 4])
                                refine ⟨?_, ?_⟩
                                · refine hold2 ?_
                                  exact join_n true (Option.some.inj hP) (so [0, 1, 2, 3, 4])
                                refine hold2 ?_
                                exact join_n true (Option.some.inj hP) (so [0, 1, 2, 3, 4])
                              · refine guard_is hc ?_
                                (try simp only [go_sem, Nat.reduceEqDiff, reduceIte])
                                refine ⟨?_, ?_⟩
                                · obtain ⟨o766, hP, hQ765⟩ := bind_cases hP
                                  refine callP_n (call_join (fun (s : Unit) => .str a730.2.2.2) (fun (s : Unit) => envL [(3, .view 1 (List.map encB behind4)), (4, .bptr 0 0), (5, .bptr 1 0), (10, .own 2 0 0 (List.length j22)), (11, .bptr 3 0), (13, .int .i64 i277), (90, .bool false), (93, .own 2 0 0 (List.length j22)), (94, .int .i64 i277)]) (fun (s : Unit) => [.box 25 [.str q1.1, .str q1.2.1, .view 2 (List.map enc_api_Field q1.2.2)], .box 31 [.int .i64 p2.1, .str p2.2.1, .view 2 (List.map enc_api_Field p2.2.2)], .slice 0 9 1 (List.map encS j22), .box 25 [.str r8.1.1, .str r8.1.2.1, .own 4 0 0 (List.length r8.1.2.2)], .slice 0 54 2 (List.map enc_api_Field r8.1.2.2)]) (fun s => s = o766) (callI_of (n := 8) (rs := [.tmp 2]) Tryz.func19 rfl (by decide) rfl rfl (by simp) rfl ?_) ?_)
                                  · clear hQ765
                                    refine J_seq ?_
                                    refine J_region (by kernel_rfl) ?_
                                    (try simp only [go_sem, Nat.reduceEqDiff, reduceIte])
                                    refine hold2 (then_n ?_)
                                    refine J_seq ?_
                                    refine J_region (by kernel_rfl) ?_
                                    (try simp only [go_sem, Nat.reduceEqDiff, reduceIte, Nat.reduceAdd, Nat.reduceSub, Nat.reduceLT, Nat.reduceMul, reduceCtorEq, Int.reduceToNat, Int.reduceLE, Int.reduceLT, Nat.reduceLeDiff])
                                    first | refine bytesK_map ?_ | refine bytesK_of a730.2.2.2 rfl ?_
                                    (try simp only [go_sem, Nat.reduceEqDiff, reduceIte])
                                    refine hold2 (then_n ?_)
                                    refine J_ret (finI_ret ?_)
                                    exact told_of ⟨(), Option.some.inj hP, sr [0, 1, 2, 3, 4]⟩
                                  · intro a765 hs
                                    subst hs
                                    have hP := hQ765
                                    clear hQ765
                                    (try simp only [go_sem, Nat.reduceEqDiff, reduceIte])
                                    obtain ⟨x767, hx767, hP⟩ := bind_cases hP
                                    refine ixO_of hx767 ?_
                                    (try simp only [go_sem, Nat.reduceEqDiff, reduceIte])
                                    refine getK_of (f := encS) hx767 ?_
                                    (try simp only [go_sem, Nat.reduceEqDiff, reduceIte])
                                    refine hold2 ?_
                                    exact join_n (!decide (a730.2.2.2 = x767)) (Option.some.inj hP) (so [0, 1, 2, 3, 4])
                                replace hP : (show Option (Bool) from
                                  (ixL j22 i277).bind fun x765 =>
                                  (show Option (Unit) from
                                    some ()).bind fun a766 =>
                                    some (!decide (a730.2.2.2 = x765))) = some o759 := hP
                                obtain ⟨x765, hx765, hP⟩ := bind_cases hP
                                refine ixO_of hx765 ?_
                                (try simp only [go_sem, Nat.reduceEqDiff, reduceIte])
                                refine ⟨?_, ?_⟩
                                · obtain ⟨o767, hP, hQ766⟩ := bind_cases hP
                                  refine callP_n (call_join (fun (s : Unit) => .str a730.2.2.2) (fun (s : Unit) => envL [(3, .view 1 (List.map encB behind4)), (4, .bptr 0 0), (5, .bptr 1 0), (10, .own 2 0 0 (List.length j22)), (11, .bptr 3 0), (13, .int .i64 i277), (90, .bool false), (95, .optr 2 0 (Int.toNat i277) 0)]) (fun (s : Unit) => [.box 25 [.str q1.1, .str q1.2.1, .view 2 (List.map enc_api_Field q1.2.2)], .box 31 [.int .i64 p2.1, .str p2.2.1, .view 2 (List.map enc_api_Field p2.2.2)], .slice 0 9 1 (List.map encS j22), .box 25 [.str r8.1.1, .str r8.1.2.1, .own 4 0 0 (List.length r8.1.2.2)], .slice 0 54 2 (List.map enc_api_Field r8.1.2.2)]) (fun s => s = o767) (callI_of (n := 8) (rs := [.tmp 2]) Tryz.func19 rfl (by decide) rfl rfl (by simp) rfl ?_) ?_)
                                  · clear hQ766
                                    refine J_seq ?_
                                    refine J_region (by kernel_rfl) ?_
                                    (try simp only [go_sem, Nat.reduceEqDiff, reduceIte])
                                    refine hold2 (then_n ?_)
                                    refine J_seq ?_
                                    refine J_region (by kernel_rfl) ?_
                                    (try simp only [go_sem, Nat.reduceEqDiff, reduceIte, Nat.reduceAdd, Nat.reduceSub, Nat.reduceLT, Nat.reduceMul, reduceCtorEq, Int.reduceToNat, Int.reduceLE, Int.reduceLT, Nat.reduceLeDiff])
                                    first | refine bytesK_map ?_ | refine bytesK_of a730.2.2.2 rfl ?_
                                    (try simp only [go_sem, Nat.reduceEqDiff, reduceIte])
                                    refine hold2 (then_n ?_)
                                    refine J_ret (finI_ret ?_)
                                    exact told_of ⟨(), Option.some.inj hP, sr [0, 1, 2, 3, 4]⟩
                                  · intro a766 hs
                                    subst hs
                                    have hP := hQ766
                                    clear hQ766
                                    (try simp only [go_sem, Nat.reduceEqDiff, reduceIte])
                                    refine getK_of (f := encS) hx765 ?_
                                    (try simp only [go_sem, Nat.reduceEqDiff, reduceIte])
                                    refine hold2 ?_
                                    exact join_n (!decide (a730.2.2.2 = x765)) (Option.some.inj hP) (so [0, 1, 2, 3, 4])
                                refine getK_of (f := encS) hx765 ?_
                                (try simp only [go_sem, Nat.reduceEqDiff, reduceIte])
                                obtain ⟨o767, hP, hQ766⟩ := bind_cases hP
                                refine callP_n (call_join (fun (s : Unit) => .str a730.2.2.2) (fun (s : Unit) => envL [(3, .view 1 (List.map encB behind4)), (4, .bptr 0 0), (5, .bptr 1 0), (10, .own 2 0 0 (List.length j22)), (11, .bptr 3 0), (13, .int .i64 i277), (90, .bool false), (96, .str x765)]) (fun (s : Unit) => [.box 25 [.str q1.1, .str q1.2.1, .view 2 (List.map enc_api_Field q1.2.2)], .box 31 [.int .i64 p2.1, .str p2.2.1, .view 2 (List.map enc_api_Field p2.2.2)], .slice 0 9 1 (List.map encS j22), .box 25 [.str r8.1.1, .str r8.1.2.1, .own 4 0 0 (List.length r8.1.2.2)], .slice 0 54 2 (List.map enc_api_Field r8.1.2.2)]) (fun s => s = o767) (callI_of (n := 8) (rs := [.tmp 2]) Tryz.func19 rfl (by decide) rfl rfl (by simp) rfl ?_) ?_)
                                · clear hQ766
                                  refine J_seq ?_
                                  refine J_region (by kernel_rfl) ?_
                                  (try simp only [go_sem, Nat.reduceEqDiff, reduceIte])
                                  refine hold2 (then_n ?_)
                                  refine J_seq ?_
                                  refine J_region (by kernel_rfl) ?_
                                  (try simp only [go_sem, Nat.reduceEqDiff, reduceIte, Nat.reduceAdd, Nat.reduceSub, Nat.reduceLT, Nat.reduceMul, reduceCtorEq, Int.reduceToNat, Int.reduceLE, Int.reduceLT, Nat.reduceLeDiff])
                                  first | refine bytesK_map ?_ | refine bytesK_of a730.2.2.2 rfl ?_
                                  (try simp only [go_sem, Nat.reduceEqDiff, reduceIte])
                                  refine hold2 (then_n ?_)
                                  refine J_ret (finI_ret ?_)
                                  exact told_of ⟨(), Option.some.inj hP, sr [0, 1, 2, 3, 4]⟩
                                · intro a766 hs
                                  subst hs
                                  have hP := hQ766
                                  clear hQ766
                                  (try simp only [go_sem, Nat.reduceEqDiff, reduceIte])
                                  refine hold2 ?_
                                  exact join_n (!decide (a730.2.2.2 = x765)) (Option.some.inj hP) (so [0, 1, 2, 3, 4])
                    · intro j768 hs
                      subst hs
                      have hP := hQ759
                      clear hQ759
                      exact join_n j768 (Option.some.inj hP) (so [0, 1, 2, 3, 4])
                  · intro j769 hs
                    subst hs
                    have hP := hQ750
                    clear hQ750
                    refine J_condV rfl ?_
                    (try simp only [go_sem, Nat.reduceEqDiff, reduceIte])
                    rcases ite_cases hP with ⟨hc, hP⟩ | ⟨hc, hP⟩
                    · refine condV_t hc ?_
                      refine J_seq ?_
                      refine J_region (by kernel_rfl) ?_
                      (try simp only [go_sem, Nat.reduceEqDiff, reduceIte])
                      refine hold2 (then_n ?_)
                      refine J_ret (then_ret (block_ret (then_ret (loop_ret (block_ret (join_ret (then_ret (fin_ret ?_))))))))
                      obtain rfl := Option.some.inj hP
                      have hP := hQ531
                      dsimp only at hP
                      obtain rfl := Option.some.inj hP
                      (try simp only [go_sem, Nat.reduceEqDiff, reduceIte])
                      exact fo []
                    · refine condV_f hc ?_
                      refine J_skip (then_n ?_)
                      refine J_seq ?_
                      refine J_seq ?_
                      refine J_region (by kernel_rfl) ?_
                      (try simp only [go_sem, Nat.reduceEqDiff, reduceIte])
                      refine hold2 (then_n ?_)
                      refine J_condV rfl ?_
                      (try simp only [go_sem, Nat.reduceEqDiff, reduceIte])
                      rcases ite_cases hP with ⟨hc, hP⟩ | ⟨hc, hP⟩
                      · refine condV_t hc ?_
                        refine J_seq ?_
                        refine J_region (by kernel_rfl) ?_
                        (try simp only [go_sem, Nat.reduceEqDiff, reduceIte])
                        obtain ⟨x770, hx770, hP⟩ := bind_cases hP
                        refine ixO_of hx770 ?_
                        (try simp only [go_sem, Nat.reduceEqDiff, reduceIte])
                        refine getK_of (f := encS) hx770 ?_
                        (try simp only [go_sem, Nat.reduceEqDiff, reduceIte])
                        obtain ⟨r771, hr771, hP⟩ := bind_cases hP
                        refine call_ok [.str x770] (head_Response_ok hr771) ⟨argR_m false rfl, trivial⟩ ?_
                        (try simp only [go_sem, Nat.reduceEqDiff, reduceIte])
                        refine hold2 (then_n ?_)
                        refine J_seq ?_
                        refine J_region (by kernel_rfl) ?_
                        (try simp only [go_sem, Nat.reduceEqDiff, reduceIte])
                        obtain ⟨r772, hr772, hP⟩ := bind_cases hP
                        refine call_ok [.agg [.int .i64 r771.1.1, .str r771.1.2.1, .view 2 (List.map enc_api_Field r771.1.2.2)], .agg [.int .i64 p2.1, .str p2.2.1, .view 2 (List.map enc_api_Field p2.2.2)]] (ref05_SameResponse_ok hr772) ⟨argR_agg ⟨argC_m false rfl, argC_m false rfl, argC_m false (by simp only [arg, go_sem, Nat.reduceEqDiff, reduceIte]), trivial⟩, argR_m false rfl, trivial⟩ ?_
                        (try simp only [go_sem, Nat.reduceEqDiff, reduceIte])
                        refine hold2 (then_n ?_)
                        refine J_seq ?_
                        obtain ⟨o773, hP, hQ773⟩ := bind_cases hP
                        refine J_join (fun (s : Bool) => envL [(3, .view 1 (List.map encB behind4)), (4, .bptr 0 0), (5, .bptr 1 0), (10, .own 2 0 0 (List.length j22)), (11, .bptr 3 0), (13, .int .i64 i277), (117, .bool s)]) (fun (s : Bool) => [.box 25 [.str q1.1, .str q1.2.1, .view 2 (List.map enc_api_Field q1.2.2)], .box 31 [.int .i64 p2.1, .str p2.2.1, .view 2 (List.map enc_api_Field p2.2.2)], .slice 0 9 1 (List.map encS j22), .box 25 [.str r8.1.1, .str r8.1.2.1, .own 4 0 0 (List.length r8.1.2.2)], .slice 0 54 2 (List.map enc_api_Field r8.1.2.2)]) (fun s => s = o773) ?_ ?_
                        · clear hQ773
                          refine J_region (by kernel_rfl) ?_
                          (try simp only [go_sem, Nat.reduceEqDiff, reduceIte])
                          rcases ite_cases hP with ⟨hc, hP⟩ | ⟨hc, hP⟩
                          · refine guard_not hc ?_
                            (try simp only [go_sem, Nat.reduceEqDiff, reduceIte])
                            refine hold2 ?_
                            exact join_n true (Option.some.inj hP) (so [0, 1, 2, 3, 4])
                          · refine guard_is hc ?_
                            (try simp only [go_sem, Nat.reduceEqDiff, reduceIte])
                            refine hold2 ?_
                            exact join_n (!r772) (Option.some.inj hP) (so [0, 1, 2, 3, 4])
                        · intro j774 hs
                          subst hs
                          have hP := hQ773
                          clear hQ773
                          refine J_condV rfl ?_
                          (try simp only [go_sem, Nat.reduceEqDiff, reduceIte])
                          rcases ite_cases hP with ⟨hc, hP⟩ | ⟨hc, hP⟩
                          · refine condV_t hc ?_
                            refine J_seq ?_
                            refine J_region (by kernel_rfl) ?_
                            (try simp only [go_sem, Nat.reduceEqDiff, reduceIte])
                            refine hold2 (then_n ?_)
                            refine J_ret (then_ret (then_ret (block_ret (then_ret (loop_ret (block_ret (join_ret (then_ret (fin_ret ?_)))))))))
                            obtain rfl := Option.some.inj hP
                            have hP := hQ531
                            dsimp only at hP
                            obtain rfl := Option.some.inj hP
                            (try simp only [go_sem, Nat.reduceEqDiff, reduceIte])
                            exact fo []
                          · refine condV_f hc ?_
                            refine J_skip (then_n ?_)
                            refine J_exit (then_exit (block_eq (then_n ?_)))
                            refine J_region (by kernel_rfl) ?_
                            (try simp only [go_sem, Nat.reduceEqDiff, reduceIte])
                            refine hold2 ?_
                            exact loop_n (k278, iadd .i64 i277 1) hP (Nat.lt_succ_self _) (so [0, 1, 2, 3, 4])
                      · refine condV_f hc ?_
                        refine J_skip (then_n ?_)
                        refine J_seq ?_
                        refine J_region (by kernel_rfl) ?_
                        (try simp only [go_sem, Nat.reduceEqDiff, reduceIte])
                        refine hold2 (then_n ?_)
                        refine J_seq ?_
                        refine J_seq ?_
                        refine J_region (by kernel_rfl) ?_
                        (try simp only [go_sem, Nat.reduceEqDiff, reduceIte])
                        refine hold2 (then_n ?_)
                        refine J_condV rfl ?_
                        (try simp only [go_sem, Nat.reduceEqDiff, reduceIte])
                        rcases ite_cases hP with ⟨hc, hP⟩ | ⟨hc, hP⟩
                        · refine condV_t hc ?_
                          refine J_region (by kernel_rfl) ?_
                          (try simp only [go_sem, Nat.reduceEqDiff, reduceIte])
                          refine hold2 (then_n ?_)
                          refine J_seq ?_
                          refine J_region (by kernel_rfl) ?_
                          (try simp only [go_sem, Nat.reduceEqDiff, reduceIte])
                          obtain ⟨x775, hx775, hP⟩ := bind_cases hP
                          refine ixO_of hx775 ?_
                          (try simp only [go_sem, Nat.reduceEqDiff, reduceIte])
                          refine getK_of (f := encS) hx775 ?_
                          (try simp only [go_sem, Nat.reduceEqDiff, reduceIte])
                          obtain ⟨r776, hr776, hP⟩ := bind_cases hP
                          refine call_ok [.str x775] (head_Request_ok hr776) ⟨argR_m false rfl, trivial⟩ ?_
                          (try simp only [go_sem, Nat.reduceEqDiff, reduceIte])
                          refine hold2 (then_n ?_)
                          refine J_seq ?_
                          refine J_region (by kernel_rfl) ?_
                          (try simp only [go_sem, Nat.reduceEqDiff, reduceIte])
                          obtain ⟨r777, hr777, hP⟩ := bind_cases hP
                          refine call_ok [.agg [.str r776.1.1, .str r776.1.2.1, .view 2 (List.map enc_api_Field r776.1.2.2)], .agg [.str r8.1.1, .str r8.1.2.1, .view 2 (List.map enc_api_Field r8.1.2.2)]] (ref05_SameRequest_ok hr777) ⟨argR_agg ⟨argC_m false rfl, argC_m false rfl, argC_m false (by simp only [arg, go_sem, Nat.reduceEqDiff, reduceIte]), trivial⟩, argR_agg ⟨argC_m false rfl, argC_m false rfl, argC_m false (by simp only [arg, go_sem, Nat.reduceEqDiff, reduceIte]), trivial⟩, trivial⟩ ?_
                          (try simp only [go_sem, Nat.reduceEqDiff, reduceIte])
                          refine hold2 (then_n ?_)
                          obtain ⟨o778, hP, hQ778⟩ := bind_cases hP
                          refine J_join (fun (s : Bool) => envL [(3, .view 1 (List.map encB behind4)), (4, .bptr 0 0), (5, .bptr 1 0), (10, .own 2 0 0 (List.length j22)), (11, .bptr 3 0), (13, .int .i64 i277), (138, .bool s)]) (fun (s : Bool) => [.box 25 [.str q1.1, .str q1.2.1, .view 2 (List.map enc_api_Field q1.2.2)], .box 31 [.int .i64 p2.1, .str p2.2.1, .view 2 (List.map enc_api_Field p2.2.2)], .slice 0 9 1 (List.map encS j22), .box 25 [.str r8.1.1, .str r8.1.2.1, .own 4 0 0 (List.length r8.1.2.2)], .slice 0 54 2 (List.map enc_api_Field r8.1.2.2)]) (fun s => s = o778) ?_ ?_
                          · clear hQ778
                            refine J_region (by kernel_rfl) ?_
                            (try simp only [go_sem, Nat.reduceEqDiff, reduceIte])
                            rcases ite_cases hP with ⟨hc, hP⟩ | ⟨hc, hP⟩
                            · refine guard_not hc ?_
                              (try simp only [go_sem, Nat.reduceEqDiff, reduceIte])
                              refine hold2 ?_
                              exact join_n true (Option.some.inj hP) (so [0, 1, 2, 3, 4])
                            · refine guard_is hc ?_
                              (try simp only [go_sem, Nat.reduceEqDiff, reduceIte])
                              refine hold2 ?_
                              exact join_n (!r777) (Option.some.inj hP) (so [0, 1, 2, 3, 4])
                          · intro j779 hs
                            subst hs
                            have hP := hQ778
                            clear hQ778
                            refine J_condV rfl ?_
                            (try simp only [go_sem, Nat.reduceEqDiff, reduceIte])
                            rcases ite_cases hP with ⟨hc, hP⟩ | ⟨hc, hP⟩
                            · refine condV_t hc ?_
                              refine J_seq ?_
                              refine J_region (by kernel_rfl) ?_
                              (try simp only [go_sem, Nat.reduceEqDiff, reduceIte])
                              refine hold2 (then_n ?_)
                              refine J_ret (block_ret (then_ret (loop_ret (block_ret (join_ret (then_ret (fin_ret ?_)))))))
                              obtain rfl := Option.some.inj hP
                              have hP := hQ531
                              dsimp only at hP
                              obtain rfl := Option.some.inj hP
                              (try simp only [go_sem, Nat.reduceEqDiff, reduceIte])
                              exact fo []
                            · refine condV_f hc ?_
                              refine J_skip (block_n (then_n ?_))
                              refine J_region (by kernel_rfl) ?_
                              (try simp only [go_sem, Nat.reduceEqDiff, reduceIte])
                              refine hold2 ?_
                              exact loop_n (k278, iadd .i64 i277 1) hP (Nat.lt_succ_self _) (so [0, 1, 2, 3, 4])
                        · refine condV_f hc ?_
                          refine J_skip (then_n ?_)
                          refine J_seq ?_
                          refine J_region (by kernel_rfl) ?_
                          (try simp only [go_sem, Nat.reduceEqDiff, reduceIte])
                          obtain ⟨x780, hx780, hP⟩ := bind_cases hP
                          refine ixO_of hx780 ?_
                          (try simp only [go_sem, Nat.reduceEqDiff, reduceIte])
                          refine getK_of (f := encS) hx780 ?_
                          (try simp only [go_sem, Nat.reduceEqDiff, reduceIte])
                          obtain ⟨r781, hr781, hP⟩ := bind_cases hP
                          refine call_ok [.str x780] (head_Request_ok hr781) ⟨argR_m false rfl, trivial⟩ ?_
                          (try simp only [go_sem, Nat.reduceEqDiff, reduceIte])
                          refine hold2 (then_n ?_)
                          refine J_seq ?_
                          refine J_region (by kernel_rfl) ?_
                          (try simp only [go_sem, Nat.reduceEqDiff, reduceIte])
                          obtain ⟨r782, hr782, hP⟩ := bind_cases hP
                          refine call_ok [.agg [.str r781.1.1, .str r781.1.2.1, .view 2 (List.map enc_api_Field r781.1.2.2)], .agg [.str q1.1, .str q1.2.1, .view 2 (List.map enc_api_Field q1.2.2)]] (ref05_SameRequest_ok hr782) ⟨argR_agg ⟨argC_m false rfl, argC_m false rfl, argC_m false (by simp only [arg, go_sem, Nat.reduceEqDiff, reduceIte]), trivial⟩, argR_m false rfl, trivial⟩ ?_
                          (try simp only [go_sem, Nat.reduceEqDiff, reduceIte])
                          refine hold2 (then_n ?_)
                          obtain ⟨o783, hP, hQ783⟩ := bind_cases hP
                          refine J_join (fun (s : Bool) => envL [(3, .view 1 (List.map encB behind4)), (4, .bptr 0 0), (5, .bptr 1 0), (10, .own 2 0 0 (List.length j22)), (11, .bptr 3 0), (13, .int .i64 i277), (138, .bool s)]) (fun (s : Bool) => [.box 25 [.str q1.1, .str q1.2.1, .view 2 (List.map enc_api_Field q1.2.2)], .box 31 [.int .i64 p2.1, .str p2.2.1, .view 2 (List.map enc_api_Field p2.2.2)], .slice 0 9 1 (List.map encS j22), .box 25 [.str r8.1.1, .str r8.1.2.1, .own 4 0 0 (List.length r8.1.2.2)], .slice 0 54 2 (List.map enc_api_Field r8.1.2.2)]) (fun s => s = o783) ?_ ?_
                          · clear hQ783
                            refine J_region (by kernel_rfl) ?_
                            (try simp only [go_sem, Nat.reduceEqDiff, reduceIte])
                            rcases ite_cases hP with ⟨hc, hP⟩ | ⟨hc, hP⟩
                            · refine guard_not hc ?_
                              (try simp only [go_sem, Nat.reduceEqDiff, reduceIte])
                              refine hold2 ?_
                              exact join_n true (Option.some.inj hP) (so [0, 1, 2, 3, 4])
                            · refine guard_is hc ?_
                              (try simp only [go_sem, Nat.reduceEqDiff, reduceIte])
                              refine hold2 ?_
                              exact join_n (!r782) (Option.some.inj hP) (so [0, 1, 2, 3, 4])
                          · intro j784 hs
                            subst hs
                            have hP := hQ783
                            clear hQ783
                            refine J_condV rfl ?_
                            (try simp only [go_sem, Nat.reduceEqDiff, reduceIte])
                            rcases ite_cases hP with ⟨hc, hP⟩ | ⟨hc, hP⟩
                            · refine condV_t hc ?_
                              refine J_seq ?_
                              refine J_region (by kernel_rfl) ?_
                              (try simp only [go_sem, Nat.reduceEqDiff, reduceIte])
                              refine hold2 (then_n ?_)
                              refine J_ret (block_ret (then_ret (loop_ret (block_ret (join_ret (then_ret (fin_ret ?_)))))))
                              obtain rfl := Option.some.inj hP
                              have hP := hQ531
                              dsimp only at hP
                              obtain rfl := Option.some.inj hP
                              (try simp only [go_sem, Nat.reduceEqDiff, reduceIte])
                              exact fo []
                            · refine condV_f hc ?_
                              refine J_skip (block_n (then_n ?_))
                              refine J_region (by kernel_rfl) ?_
                              (try simp only [go_sem, Nat.reduceEqDiff, reduceIte])
                              refine hold2 ?_
                              exact loop_n (k278, iadd .i64 i277 1) hP (Nat.lt_succ_self _) (so [0, 1, 2, 3, 4])
          · refine condV_f hc ?_
            refine J_exit (then_exit (loop_exit (block_eq ?_)))
            exact join_n () (Option.some.inj hP) (so [])
      · intro j786 hs
        subst hs
        have hP := hQ531
        dsimp only at hP
        clear hQ531
        refine then_n ?_
        refine J_seq ?_
        refine J_region (by kernel_rfl) ?_
        (try simp only [go_sem, Nat.reduceEqDiff, reduceIte])
        refine hold2 (then_n ?_)
        refine J_ret (fin_ret ?_)
        obtain rfl := Option.some.inj hP
        (try simp only [go_sem, Nat.reduceEqDiff, reduceIte])
        exact fo []
end Go.Proofs.YtbcmngnmfneeaaaGreatDoor
