/- Functions of the program, and pure ones that go the same ways: that the program's return what these compute. -/
import Derived.Test.YtbcmngnmfneeaaaDoorGK
import Derived.Test.YtbcmngnmfneeaaaDoorAvY
import Derived.Test.YtbcmngnmfneeaaaDoorAvPj
namespace Go.Proofs.YtbcmngnmfneeaaaDoor
open Go.Av
set_option linter.unusedVariables false
set_option linter.unusedSimpArgs false
/-- colander/head.New, handed pointers -/
def head_New : Option (Unit) :=
  some ()
set_option maxRecDepth 100000 in
set_option maxHeartbeats 40000000 in
theorem head_New_ok {r : Unit} (hP : head_New = some r) : CallPX Tryd.prog 7 [] [] [] (.inr ⟨.bptr 0 0, [], [.box 62 [.own 1 0 0 (List.length ([] : List UInt8)), .bool false, .int .i64 0], .slice 0 5 1 (List.map encB ([] : List UInt8))]⟩) := by
  unfold head_New at hP
  refine callPX_of 3 [.tmp 0] Tryd.func7 ?_ (by rintro q (h | h) <;> cases h <;> exact ⟨by (first | (intro x hx; simp at hx; done) | (simp [vfO, AV.vf, AV.vfL, encB, encI, encS, encO, enc_colanderref05_Reader, enc_api_Field, enc_api_Fault, enc_head_text]; done) | (simp [vfO, AV.vf, AV.vfL, encB, encI, encS, encO, enc_colanderref05_Reader, enc_api_Field, enc_api_Fault, enc_head_text]; intros; subst_vars; simp [AV.vf, AV.vfL]) | (simp [vfO, AV.vf, AV.vfL, encB, encI, encS, encO, enc_colanderref05_Reader, enc_api_Field, enc_api_Fault, enc_head_text]; (repeat' apply And.intro) <;> (rintro x (⟨a, _, rfl⟩ | rfl) <;> simp [AV.vf, AV.vfL]))), by simp⟩) (by rintro q h <;> cases h <;> first | rfl | simp [AV.vf, AV.vfL])
  refine J_seq ?_
  refine J_region (by kernel_rfl) ?_
  (try simp only [go_sem, Nat.reduceEqDiff, ↓reduceIte])
  refine hold2 (then_n ?_)
  refine J_seq ?_
  refine J_region (by kernel_rfl) ?_
  (try simp only [go_sem, Nat.reduceEqDiff, ↓reduceIte])
  refine hold2 (then_n ?_)
  refine J_prom 5 1 (by decide) 0 0 _ _ rfl rfl ?_
  (try simp only [go_sem, Nat.reduceEqDiff, ↓reduceIte])
  refine J_ret (finIX_ret ?_)
  obtain rfl := Option.some.inj hP
  exact pk_of rfl (sr [0, 1])
/-- (*colander/head.Reader).one, handed pointers -/
def head_Reader_one (c1 : UInt8) (c2 : Bool) (c3 : Int) (c4 : List (UInt8)) : Option (Bool × Int) :=
  (show Option (Bool) from
    if decide (0 < ((List.length c4 : Nat) : Int)) then
      (ixL c4 (isub .i64 ((List.length c4 : Nat) : Int) 1)).bind fun x15 =>
      some (decide (b2i x15 = b2i (bC 13)))
    else
      some false).bind fun j16 =>
    (szC (List.length (c4 ++ [c1] : List (UInt8)))).bind fun _ =>
    (slL (c4 ++ [c1]) (max 0 (isub .i64 ((List.length (c4 ++ [c1]) : Nat) : Int) 4)) ((List.length (c4 ++ [c1]) : Nat) : Int)).bind fun s18 =>
    if (decide (b2i c1 = b2i (bC 10))) != j16 then
      some (c2, 10)
    else
      (show Option (Bool) from
        if decide (s18 = [13, 10]) then
          some true
        else
          some (decide (s18 = [13, 10, 13, 10]))).bind fun j20 =>
        if j20 then
          some (true, c3)
        else
          if decide (((List.length (c4 ++ [c1]) : Nat) : Int) = 2048) then
            some (c2, 17)
          else
            some (c2, c3)
set_option maxRecDepth 100000 in
set_option maxHeartbeats 40000000 in
theorem head_Reader_one_ok {c1 : UInt8} {c2 : Bool} {c3 : Int} {c4 : List (UInt8)} {r : Bool × Int} (hP : head_Reader_one c1 c2 c3 c4 = some r) : CallPX Tryd.prog 24 [.bptr 0 0, .int .u8 (b2i c1)] [.box 62 [.own 1 0 0 (List.length c4), .bool c2, .int .i64 c3], .slice 0 5 1 (List.map encB c4)] [0] (.inr ⟨.tup [], [(0, .bptr 0 0)], [.box 62 [.own 1 0 0 (List.length (c4 ++ [c1])), .bool r.1, .int .i64 r.2], .slice 0 5 1 (List.map encB (c4 ++ [c1]))]⟩) := by
  unfold head_Reader_one at hP
  refine callPX_of 78 [] Tryd.func24 ?_ (by rintro q (h | h) <;> cases h <;> exact ⟨by (first | (intro x hx; simp at hx; done) | (simp [vfO, AV.vf, AV.vfL, encB, encI, encS, encO, enc_colanderref05_Reader, enc_api_Field, enc_api_Fault, enc_head_text]; done) | (simp [vfO, AV.vf, AV.vfL, encB, encI, encS, encO, enc_colanderref05_Reader, enc_api_Field, enc_api_Fault, enc_head_text]; intros; subst_vars; simp [AV.vf, AV.vfL]) | (simp [vfO, AV.vf, AV.vfL, encB, encI, encS, encO, enc_colanderref05_Reader, enc_api_Field, enc_api_Fault, enc_head_text]; (repeat' apply And.intro) <;> (rintro x (⟨a, _, rfl⟩ | rfl) <;> simp [AV.vf, AV.vfL]))), by simp⟩) (by rintro q h <;> cases h <;> first | rfl | simp [AV.vf, AV.vfL])
  obtain ⟨o14, hP, hQ14⟩ := bind_cases hP
  refine J_join (fun (s : Bool) => envL [(0, .bptr 0 0), (1, .int .u8 (b2i c1)), (4, .bool s), (78, .bptr 0 0)]) (fun (s : Bool) => [.box 62 [.own 1 0 0 (List.length c4), .bool c2, .int .i64 c3], .slice 0 5 1 (List.map encB c4)]) (fun s => s = o14) ?_ ?_
  · clear hQ14
    refine J_regionq follows_mixed (by kernel_rfl) (by kernel_rfl) ?_
    (try simp only [go_sem, Nat.reduceEqDiff, ↓reduceIte, Nat.reduceAdd, Nat.reduceSub, Nat.reduceLT, Nat.reduceMul, reduceCtorEq, Int.reduceToNat, Int.reduceLE, Int.reduceLT, Nat.reduceLeDiff])
    rcases ite_cases hP with ⟨hc, hP⟩ | ⟨hc, hP⟩
    · refine guard_is hc ?_
      (try simp only [go_sem, Nat.reduceEqDiff, ↓reduceIte, Nat.reduceAdd, Nat.reduceSub, Nat.reduceLT, Nat.reduceMul, reduceCtorEq, Int.reduceToNat, Int.reduceLE, Int.reduceLT, Nat.reduceLeDiff])
      obtain ⟨x15, hx15, hP⟩ := bind_cases hP
      refine ixO_of hx15 ?_
      (try simp only [go_sem, Nat.reduceEqDiff, ↓reduceIte])
      refine getK_of (f := encB) hx15 ?_
      (try simp only [go_sem, Nat.reduceEqDiff, ↓reduceIte, Nat.reduceAdd, Nat.reduceSub, Nat.reduceLT, Nat.reduceMul, reduceCtorEq, Int.reduceToNat, Int.reduceLE, Int.reduceLT, Nat.reduceLeDiff])
      refine hold2 ?_
      exact join_n (decide (b2i x15 = b2i (bC 13))) (Option.some.inj hP) (so [0, 1])
    · refine guard_not hc ?_
      (try simp only [go_sem, Nat.reduceEqDiff, ↓reduceIte])
      refine hold2 ?_
      exact join_n false (Option.some.inj hP) (so [0, 1])
  · intro j16 hs
    subst hs
    have hP := hQ14
    clear hQ14
    refine J_seq ?_
    refine J_region (by kernel_rfl) ?_
    (try simp only [go_sem, Nat.reduceEqDiff, ↓reduceIte])
    obtain ⟨_, hz17, hP⟩ := bind_cases hP
    refine app_own (f := encB) (c4 : List (UInt8)) ([c1] : List (UInt8)) rfl tyS_39 (by decide) (by simp only [go_sem, Nat.reduceEqDiff, ↓reduceIte]; first | done | rfl | exact ⟨rfl, rfl⟩) hz17 ?_
    (try simp only [go_sem, Nat.reduceEqDiff, ↓reduceIte, Nat.reduceAdd, Nat.reduceSub, Nat.reduceLT, Nat.reduceMul, reduceCtorEq, Int.reduceToNat, Int.reduceLE, Int.reduceLT, Nat.reduceLeDiff])
    refine hold2 (then_n ?_)
    refine J_seq ?_
    refine J_regionq follows_mixed (by kernel_rfl) (by kernel_rfl) ?_
    (try simp only [go_sem, Nat.reduceEqDiff, ↓reduceIte])
    obtain ⟨s18, hs18, hP⟩ := bind_cases hP
    refine slO_of hs18 ?_
    (try simp only [go_sem, Nat.reduceEqDiff, ↓reduceIte])
    simp only [own_cut hs18, go_sem, Nat.reduceEqDiff, ↓reduceIte]
    first | refine bytesK_map ?_ | refine bytesK_of s18 rfl ?_
    (try simp only [go_sem, Nat.reduceEqDiff, ↓reduceIte])
    refine hold2 (then_n ?_)
    refine J_block ?_
    refine J_seq ?_
    refine J_region (by kernel_rfl) ?_
    (try simp only [go_sem, Nat.reduceEqDiff, ↓reduceIte])
    refine hold2 (then_n ?_)
    refine J_condV rfl ?_
    (try simp only [go_sem, Nat.reduceEqDiff, ↓reduceIte])
    rcases ite_cases hP with ⟨hc, hP⟩ | ⟨hc, hP⟩
    · refine condV_t hc ?_
      refine J_region (by kernel_rfl) ?_
      (try simp only [go_sem, Nat.reduceEqDiff, ↓reduceIte])
      refine hold2 (block_n (finIX_n ?_))
      obtain rfl := Option.some.inj hP
      exact pk_of rfl (sr [0, 1])
    · refine condV_f hc ?_
      obtain ⟨o19, hP, hQ19⟩ := bind_cases hP
      refine J_join (fun (s : Bool) => envL [(0, .bptr 0 0), (58, .bool s), (78, .bptr 0 0)]) (fun (s : Bool) => [.box 62 [.own 1 0 0 (List.length (c4 ++ [c1])), .bool c2, .int .i64 c3], .slice 0 5 1 (List.map encB (c4 ++ [c1]))]) (fun s => s = o19) ?_ ?_
      · clear hQ19
        refine J_region (by kernel_rfl) ?_
        (try simp only [go_sem, Nat.reduceEqDiff, ↓reduceIte])
        rcases ite_cases hP with ⟨hc, hP⟩ | ⟨hc, hP⟩
        · refine guard_not hc ?_
          (try simp only [go_sem, Nat.reduceEqDiff, ↓reduceIte])
          refine hold2 ?_
          exact join_n true (Option.some.inj hP) (so [0, 1])
        · refine guard_is hc ?_
          (try simp only [go_sem, Nat.reduceEqDiff, ↓reduceIte])
          refine hold2 ?_
          exact join_n (decide (s18 = [13, 10, 13, 10])) (Option.some.inj hP) (so [0, 1])
      · intro j20 hs
        subst hs
        have hP := hQ19
        clear hQ19
        refine J_condV rfl ?_
        (try simp only [go_sem, Nat.reduceEqDiff, ↓reduceIte])
        rcases ite_cases hP with ⟨hc, hP⟩ | ⟨hc, hP⟩
        · refine condV_t hc ?_
          refine J_region (by kernel_rfl) ?_
          (try simp only [go_sem, Nat.reduceEqDiff, ↓reduceIte, Nat.reduceAdd, Nat.reduceSub, Nat.reduceLT, Nat.reduceMul, reduceCtorEq, Int.reduceToNat, Int.reduceLE, Int.reduceLT, Nat.reduceLeDiff])
          refine hold2 (block_n (finIX_n ?_))
          obtain rfl := Option.some.inj hP
          exact pk_of rfl (sr [0, 1])
        · refine condV_f hc ?_
          refine J_seq ?_
          refine J_region (by kernel_rfl) ?_
          (try simp only [go_sem, Nat.reduceEqDiff, ↓reduceIte])
          refine hold2 (then_n ?_)
          refine J_condV rfl ?_
          (try simp only [go_sem, Nat.reduceEqDiff, ↓reduceIte])
          rcases ite_cases hP with ⟨hc, hP⟩ | ⟨hc, hP⟩
          · refine condV_t hc ?_
            refine J_region (by kernel_rfl) ?_
            (try simp only [go_sem, Nat.reduceEqDiff, ↓reduceIte])
            refine hold2 (block_n (finIX_n ?_))
            obtain rfl := Option.some.inj hP
            exact pk_of rfl (sr [0, 1])
          · refine condV_f hc ?_
            refine J_skip (block_n (finIX_n ?_))
            obtain rfl := Option.some.inj hP
            exact pk_of rfl (sr [0, 1])
/-- (*colander/head.Reader).Take, handed pointers -/
def head_Reader_Take_L61 (b1 : List (UInt8)) : Nat → Int → Bool → Int → (List (UInt8)) → Option (Sum (Int × Bool × Int × (List (UInt8))) (Bool × Int × (List (UInt8))))
  | 0, _, _, _, _ => none
  | k56 + 1, v52, l53, l54, l55 =>
    if decide (v52 < (List.length b1 : Int)) then
      (ixL b1 v52).bind fun x62 =>
      (show Option (Bool) from
        if l53 then
          some true
        else
          some (!decide (l54 = 0))).bind fun j64 =>
        if j64 then
          some (Sum.inl (v52, l53, l54, l55))
        else
          (head_Reader_one x62 l53 l54 l55).bind fun r66 =>
          head_Reader_Take_L61 b1 k56 (iadd .i64 v52 1) r66.1 r66.2 (l55 ++ [x62])
    else
      some (Sum.inr (l53, l54, l55))
def head_Reader_Take (b1 : List (UInt8)) (c2 : Bool) (c3 : Int) (c4 : List (UInt8)) : Option (Int × Bool × Int × (List (UInt8))) :=
  (head_Reader_Take_L61 b1 140737488355328 0 c2 c3 c4).bind fun o67 => match o67 with
  | Sum.inl r => some r
  | Sum.inr j68 =>
    some ((List.length b1 : Int), j68.1, j68.2.1, j68.2.2)
set_option maxRecDepth 100000 in
set_option maxHeartbeats 40000000 in
theorem head_Reader_Take_ok {b1 : List (UInt8)} {c2 : Bool} {c3 : Int} {c4 : List (UInt8)} {r : Int × Bool × Int × (List (UInt8))} (hP : head_Reader_Take b1 c2 c3 c4 = some r) : CallPX Tryd.prog 8 [.bptr 0 0, .view 1 (List.map encB b1)] [.box 62 [.own 1 0 0 (List.length c4), .bool c2, .int .i64 c3], .slice 0 5 1 (List.map encB c4)] [0] (.inr ⟨.int .i64 r.1, [(0, .bptr 0 0)], [.box 62 [.own 1 0 0 (List.length r.2.2.2), .bool r.2.1, .int .i64 r.2.2.1], .slice 0 5 1 (List.map encB r.2.2.2)]⟩) := by
  unfold head_Reader_Take at hP
  refine callPX_of 32 [.tmp 4] Tryd.func8 ?_ (by rintro q (h | h) <;> cases h <;> exact ⟨by (first | (intro x hx; simp at hx; done) | (simp [vfO, AV.vf, AV.vfL, encB, encI, encS, encO, enc_colanderref05_Reader, enc_api_Field, enc_api_Fault, enc_head_text]; done) | (simp [vfO, AV.vf, AV.vfL, encB, encI, encS, encO, enc_colanderref05_Reader, enc_api_Field, enc_api_Fault, enc_head_text]; intros; subst_vars; simp [AV.vf, AV.vfL]) | (simp [vfO, AV.vf, AV.vfL, encB, encI, encS, encO, enc_colanderref05_Reader, enc_api_Field, enc_api_Fault, enc_head_text]; (repeat' apply And.intro) <;> (rintro x (⟨a, _, rfl⟩ | rfl) <;> simp [AV.vf, AV.vfL]))), by simp⟩) (by rintro q h <;> cases h <;> first | rfl | simp [AV.vf, AV.vfL])
  refine J_seq ?_
  refine J_region (by kernel_rfl) ?_
  (try simp only [go_sem, Nat.reduceEqDiff, ↓reduceIte])
  refine hold2 (then_n ?_)
  refine J_seq ?_
  refine J_seq ?_
  refine J_region (by kernel_rfl) ?_
  (try simp only [go_sem, Nat.reduceEqDiff, ↓reduceIte])
  refine hold2 (then_n ?_)
  obtain ⟨o67, hP, hQ61⟩ := bind_cases hP
  refine J_joinK0 (fun (s : Bool × Int × (List (UInt8))) => envL [(1, .view 1 (List.map encB b1)), (32, .bptr 0 0)]) (fun (s : Bool × Int × (List (UInt8))) => [.box 62 [.own 1 0 0 (List.length s.2.2), .bool s.1, .int .i64 s.2.1], .slice 0 5 1 (List.map encB s.2.2)]) (fun s => Sum.inr s = o67) ?_ ?_
  · refine J_block ?_
    refine J_loop (σ := Nat × Int × Bool × Int × (List (UInt8))) (fun (s : Nat × Int × Bool × Int × (List (UInt8))) => envL [(0, .bptr 0 0), (1, .view 1 (List.map encB b1)), (7, .view 1 (List.map encB b1)), (8, .int .i64 (List.length b1 : Int)), (9, .int .i64 s.2.1), (32, .bptr 0 0)]) (fun (s : Nat × Int × Bool × Int × (List (UInt8))) => [.box 62 [.own 1 0 0 (List.length s.2.2.2.2), .bool s.2.2.1, .int .i64 s.2.2.2.1], .slice 0 5 1 (List.map encB s.2.2.2.2)]) (fun s => head_Reader_Take_L61 b1 s.1 s.2.1 s.2.2.1 s.2.2.2.1 s.2.2.2.2 = some o67) (fun s => s.1) (140737488355328, 0, c2, c3, c4) hP (so [0, 1]) ?_
    rintro ⟨k56, v52, l53, l54, l55⟩ hP
    dsimp only at hP ⊢
    cases k56 with
    | zero => simp [head_Reader_Take_L61] at hP
    | succ k56 =>
      simp only [head_Reader_Take_L61] at hP
      refine J_seq ?_
      refine J_region (by kernel_rfl) ?_
      (try simp only [go_sem, Nat.reduceEqDiff, ↓reduceIte])
      refine hold2 (then_n ?_)
      refine J_seq ?_
      refine J_condV rfl ?_
      (try simp only [go_sem, Nat.reduceEqDiff, ↓reduceIte])
      rcases ite_cases hP with ⟨hc, hP⟩ | ⟨hc, hP⟩
      · refine condV_t hc ?_
        refine J_skip (then_n ?_)
        refine J_seq ?_
        refine J_block ?_
        refine J_seq ?_
        refine J_region (by kernel_rfl) ?_
        (try simp only [go_sem, Nat.reduceEqDiff, ↓reduceIte])
        obtain ⟨x62, hx62, hP⟩ := bind_cases hP
        refine ixV_of hx62 ?_
        (try simp only [go_sem, Nat.reduceEqDiff, ↓reduceIte])
        refine hold2 (then_n ?_)
        refine J_seq ?_
        obtain ⟨o63, hP, hQ63⟩ := bind_cases hP
        refine J_join (fun (s : Bool) => envL [(0, .bptr 0 0), (1, .view 1 (List.map encB b1)), (5, .int .i64 v52), (6, .int .u8 (b2i x62)), (7, .view 1 (List.map encB b1)), (8, .int .i64 (List.length b1 : Int)), (9, .int .i64 v52), (24, .bool s), (32, .bptr 0 0)]) (fun (s : Bool) => [.box 62 [.own 1 0 0 (List.length l55), .bool l53, .int .i64 l54], .slice 0 5 1 (List.map encB l55)]) (fun s => s = o63) ?_ ?_
        · clear hQ63
          refine J_region (by kernel_rfl) ?_
          (try simp only [go_sem, Nat.reduceEqDiff, ↓reduceIte])
          rcases ite_cases hP with ⟨hc, hP⟩ | ⟨hc, hP⟩
          · refine guard_not hc ?_
            (try simp only [go_sem, Nat.reduceEqDiff, ↓reduceIte])
            refine hold2 ?_
            exact join_n true (Option.some.inj hP) (so [0, 1])
          · refine guard_is hc ?_
            (try simp only [go_sem, Nat.reduceEqDiff, ↓reduceIte])
            refine hold2 ?_
            exact join_n (!decide (l54 = 0)) (Option.some.inj hP) (so [0, 1])
        · intro j64 hs
          subst hs
          have hP := hQ63
          clear hQ63
          refine J_condV rfl ?_
          (try simp only [go_sem, Nat.reduceEqDiff, ↓reduceIte])
          rcases ite_cases hP with ⟨hc, hP⟩ | ⟨hc, hP⟩
          · refine condV_t hc ?_
            refine J_seq ?_
            refine J_region (by kernel_rfl) ?_
            (try simp only [go_sem, Nat.reduceEqDiff, ↓reduceIte])
            refine hold2 (then_n ?_)
            refine J_ret (then_ret (block_ret (then_ret (loop_ret (block_ret (join_ret (then_ret (finIX_ret ?_))))))))
            obtain rfl := Option.some.inj hP
            have hP := hQ61
            dsimp only at hP
            obtain rfl := Option.some.inj hP
            exact pk_of rfl (sr [0, 1])
          · refine condV_f hc ?_
            refine J_skip (then_n ?_)
            refine J_region (by kernel_rfl) ?_
            (try simp only [go_sem, Nat.reduceEqDiff, ↓reduceIte])
            obtain ⟨r66, hr65, hP⟩ := bind_cases hP
            refine call_pt [0, 1] [(0, .bptr 0 0), (1, .view 1 (List.map encB b1)), (7, .view 1 (List.map encB b1)), (8, .int .i64 (List.length b1 : Int)), (9, .int .i64 v52), (32, .bptr 0 0)] [.box 62 [.own 1 0 0 (List.length (l55 ++ [x62])), .bool r66.1, .int .i64 r66.2], .slice 0 5 1 (List.map encB (l55 ++ [x62]))] (.tup []) (head_Reader_one_ok hr65) ⟨argP_r (by rfl), argP_r (by rfl), trivial⟩ (told_of (sm [2, 3])) ?_
            (try simp only [go_sem, Nat.reduceEqDiff, ↓reduceIte])
            refine hold2 (block_n (then_n ?_))
            refine J_region (by kernel_rfl) ?_
            (try simp only [go_sem, Nat.reduceEqDiff, ↓reduceIte])
            refine hold2 ?_
            exact loop_n (k56, iadd .i64 v52 1, r66.1, r66.2, l55 ++ [x62]) hP (Nat.lt_succ_self _) (so [0, 1])
      · refine condV_f hc ?_
        refine J_exit (then_exit (loop_exit (block_eq ?_)))
        exact join_n (l53, l54, l55) (Option.some.inj hP) (so [0, 1])
  · intro j68 hs
    subst hs
    have hP := hQ61
    dsimp only at hP
    clear hQ61
    refine then_n ?_
    refine J_seq ?_
    refine J_region (by kernel_rfl) ?_
    (try simp only [go_sem, Nat.reduceEqDiff, ↓reduceIte])
    refine hold2 (then_n ?_)
    refine J_ret (finIX_ret ?_)
    obtain rfl := Option.some.inj hP
    exact pk_of rfl (sr [0, 1])
/-- colander/colanderlaw05.shown -/
def law05_shown : Option (Bool) :=
  (head_Request [71, 69, 84, 32, 47, 97, 32, 72, 84, 84, 80, 47, 49, 46, 49, 13, 10, 72, 111, 115, 116, 58, 32, 120, 58, 56, 48, 13, 10, 65, 58, 32, 98, 32, 13, 10, 13, 10]).bind fun r1 =>
  (head_Response [72, 84, 84, 80, 47, 49, 46, 49, 32, 50, 48, 48, 32, 13, 10, 13, 10]).bind fun r2 =>
  (head_New).bind fun r4 =>
  (show Option (Bool) from
    if !r1.2 then
      some true
    else
      if !r2.2 then
        some true
      else
        if !decide (((List.length r1.1.2.2 : Nat) : Int) = 2) then
          some true
        else
          some (!decide (r2.1.1 = 200))).bind fun j6 =>
    if j6 then
      some false
    else
      (ixL r1.1.2.2 1).bind fun x7 =>
      if (decide (x7.1 = [65]) && decide (x7.2 = [98])) then
        (head_Reader_Take [(bC 97), (bC 13), (bC 10), (bC 13), (bC 10), (bC 98)] false 0 ([] : List UInt8)).bind fun r9 =>
        if decide (r9.1 = 5) then
          (head_Reader_Done (r9.2.2.2, r9.2.1, r9.2.2.1)).bind fun r10 =>
          some r10
        else
          some false
      else
        some false
set_option maxRecDepth 100000 in
set_option maxHeartbeats 40000000 in
theorem law05_shown_ok {r : Bool} (hP : law05_shown = some r) : CallOK Tryd.prog 5 [] (.bool r) [] := by
  unfold law05_shown at hP
  refine co 53 [.tmp 0] Tryd.func5 ?_
  refine J_seq ?_
  refine J_region (by kernel_rfl) ?_
  (try simp only [go_sem, Nat.reduceEqDiff, ↓reduceIte])
  refine hold2 (then_n ?_)
  refine J_seq ?_
  refine J_region (by kernel_rfl) ?_
  (try simp only [go_sem, Nat.reduceEqDiff, ↓reduceIte])
  obtain ⟨r1, hr1, hP⟩ := bind_cases hP
  refine call_ok [.str [71, 69, 84, 32, 47, 97, 32, 72, 84, 84, 80, 47, 49, 46, 49, 13, 10, 72, 111, 115, 116, 58, 32, 120, 58, 56, 48, 13, 10, 65, 58, 32, 98, 32, 13, 10, 13, 10]] (head_Request_ok hr1) ⟨argR_m false rfl, trivial⟩ ?_
  (try simp only [go_sem, Nat.reduceEqDiff, ↓reduceIte])
  refine hold2 (then_n ?_)
  refine J_seq ?_
  refine J_region (by kernel_rfl) ?_
  (try simp only [go_sem, Nat.reduceEqDiff, ↓reduceIte])
  obtain ⟨r2, hr2, hP⟩ := bind_cases hP
  refine call_ok [.str [72, 84, 84, 80, 47, 49, 46, 49, 32, 50, 48, 48, 32, 13, 10, 13, 10]] (head_Response_ok hr2) ⟨argR_m false rfl, trivial⟩ ?_
  (try simp only [go_sem, Nat.reduceEqDiff, ↓reduceIte])
  refine hold2 (then_n ?_)
  refine J_seq ?_
  refine J_region (by kernel_rfl) ?_
  (try simp only [go_sem, Nat.reduceEqDiff, ↓reduceIte])
  obtain ⟨r4, hr3, hP⟩ := bind_cases hP
  refine call_pt [] [(1, .bptr 0 0), (2, errA 74 r1.2), (3, .bptr 2 0), (4, errA 74 r2.2)] [.box 25 [.str r1.1.1, .str r1.1.2.1, .own 1 0 0 (List.length r1.1.2.2)], .slice 0 49 2 (List.map enc_api_Field r1.1.2.2), .box 45 [.int .i64 r2.1.1, .str r2.1.2.1, .own 3 0 0 (List.length r2.1.2.2)], .slice 0 49 2 (List.map enc_api_Field r2.1.2.2), .box 62 [.own 5 0 0 (List.length ([] : List UInt8)), .bool false, .int .i64 0], .slice 0 5 1 (List.map encB ([] : List UInt8))] (.bptr 4 0) (head_New_ok hr3) trivial (told_of (sm [1, 0, 3, 2, 4, 5])) ?_
  (try simp only [go_sem, Nat.reduceEqDiff, ↓reduceIte])
  refine hold2 (then_n ?_)
  refine J_seq ?_
  obtain ⟨o5, hP, hQ5⟩ := bind_cases hP
  refine J_join (fun (s : Bool) => envL [(1, .bptr 0 0), (5, .bptr 2 0), (35, .bool s)]) (fun (s : Bool) => [.box 25 [.str r1.1.1, .str r1.1.2.1, .own 1 0 0 (List.length r1.1.2.2)], .slice 0 49 2 (List.map enc_api_Field r1.1.2.2), .box 62 [.own 3 0 0 (List.length ([] : List UInt8)), .bool false, .int .i64 0], .slice 0 5 1 (List.map encB ([] : List UInt8))]) (fun s => s = o5) ?_ ?_
  · clear hQ5
    refine J_region (by kernel_rfl) ?_
    (try simp only [go_sem, Nat.reduceEqDiff, ↓reduceIte])
    rcases ite_cases hP with ⟨hc, hP⟩ | ⟨hc, hP⟩
    · refine guard_not hc ?_
      (try simp only [go_sem, Nat.reduceEqDiff, ↓reduceIte])
      refine hold2 ?_
      exact join_n true (Option.some.inj hP) (so [0, 1, 4, 5])
    · refine guard_is hc ?_
      (try simp only [go_sem, Nat.reduceEqDiff, ↓reduceIte])
      rcases ite_cases hP with ⟨hc, hP⟩ | ⟨hc, hP⟩
      · refine guard_not hc ?_
        (try simp only [go_sem, Nat.reduceEqDiff, ↓reduceIte])
        refine hold2 ?_
        exact join_n true (Option.some.inj hP) (so [0, 1, 4, 5])
      · refine guard_is hc ?_
        (try simp only [go_sem, Nat.reduceEqDiff, ↓reduceIte])
        rcases ite_cases hP with ⟨hc, hP⟩ | ⟨hc, hP⟩
        · refine guard_not hc ?_
          (try simp only [go_sem, Nat.reduceEqDiff, ↓reduceIte])
          refine hold2 ?_
          exact join_n true (Option.some.inj hP) (so [0, 1, 4, 5])
        · refine guard_is hc ?_
          (try simp only [go_sem, Nat.reduceEqDiff, ↓reduceIte])
          refine hold2 ?_
          exact join_n (!decide (r2.1.1 = 200)) (Option.some.inj hP) (so [0, 1, 4, 5])
  · intro j6 hs
    subst hs
    have hP := hQ5
    clear hQ5
    refine J_condV rfl ?_
    (try simp only [go_sem, Nat.reduceEqDiff, ↓reduceIte])
    rcases ite_cases hP with ⟨hc, hP⟩ | ⟨hc, hP⟩
    · refine condV_t hc ?_
      refine J_seq ?_
      refine J_region (by kernel_rfl) ?_
      (try simp only [go_sem, Nat.reduceEqDiff, ↓reduceIte])
      refine hold2 (then_n ?_)
      refine J_ret (then_ret (fin_ret ?_))
      obtain rfl := Option.some.inj hP
      (try simp only [go_sem, Nat.reduceEqDiff, ↓reduceIte])
      exact fo []
    · refine condV_f hc ?_
      refine J_skip (then_n ?_)
      refine J_seq ?_
      refine J_region (by kernel_rfl) ?_
      (try simp only [go_sem, Nat.reduceEqDiff, ↓reduceIte])
      obtain ⟨x7, hx7, hP⟩ := bind_cases hP
      refine ixO_of hx7 ?_
      (try simp only [go_sem, Nat.reduceEqDiff, ↓reduceIte])
      refine getK_of (f := enc_api_Field) hx7 ?_
      (try simp only [go_sem, Nat.reduceEqDiff, ↓reduceIte, Nat.reduceAdd, Nat.reduceSub, Nat.reduceLT, Nat.reduceMul, reduceCtorEq, Int.reduceToNat, Int.reduceLE, Int.reduceLT, Nat.reduceLeDiff])
      rcases ite_cases hP with ⟨hc, hP⟩ | ⟨hc, hP⟩
      · refine guard_is hc ?_
        (try simp only [go_sem, Nat.reduceEqDiff, ↓reduceIte])
        obtain ⟨r9, hr8, hP⟩ := bind_cases hP
        refine call_pt [2, 3] [(5, .bptr 0 0), (42, .bool true)] [.box 62 [.own 1 0 0 (List.length r9.2.2.2), .bool r9.2.1, .int .i64 r9.2.2.1], .slice 0 5 1 (List.map encB r9.2.2.2)] (.int .i64 r9.1) (head_Reader_Take_ok hr8) ⟨argP_r (by rfl), argP_o (by decide) (by simp only [arg, go_sem, Nat.reduceEqDiff, ↓reduceIte]), trivial⟩ (told_of (sm [5, 6])) ?_
        (try simp only [go_sem, Nat.reduceEqDiff, ↓reduceIte])
        rcases ite_cases hP with ⟨hc, hP⟩ | ⟨hc, hP⟩
        · refine guard_is hc ?_
          (try simp only [go_sem, Nat.reduceEqDiff, ↓reduceIte])
          obtain ⟨r10, hr10, hP⟩ := bind_cases hP
          refine call_ok [.vptr (.agg [.view 1 (List.map encB r9.2.2.2), .bool r9.2.1, .int .i64 r9.2.2.1]) 0] (head_Reader_Done_ok hr10) ⟨argR_box rfl ⟨argC_m false (by simp only [arg, go_sem, Nat.reduceEqDiff, ↓reduceIte]), argC_m false rfl, argC_m false rfl, trivial⟩, trivial⟩ ?_
          (try simp only [go_sem, Nat.reduceEqDiff, ↓reduceIte])
          refine hold2 (then_n ?_)
          refine J_ret (fin_ret ?_)
          obtain rfl := Option.some.inj hP
          (try simp only [go_sem, Nat.reduceEqDiff, ↓reduceIte])
          exact fo []
        · refine guard_not hc ?_
          (try simp only [go_sem, Nat.reduceEqDiff, ↓reduceIte])
          refine hold2 (then_n ?_)
          refine J_ret (fin_ret ?_)
          obtain rfl := Option.some.inj hP
          (try simp only [go_sem, Nat.reduceEqDiff, ↓reduceIte, Nat.reduceAdd, Nat.reduceSub, Nat.reduceLT, Nat.reduceMul, reduceCtorEq, Int.reduceToNat, Int.reduceLE, Int.reduceLT, Nat.reduceLeDiff])
          exact fo []
      · refine guard_not hc ?_
        (try simp only [go_sem, Nat.reduceEqDiff, ↓reduceIte])
        refine hold2 (then_n ?_)
        refine J_ret (fin_ret ?_)
        obtain rfl := Option.some.inj hP
        (try simp only [go_sem, Nat.reduceEqDiff, ↓reduceIte])
        exact fo []
end Go.Proofs.YtbcmngnmfneeaaaDoor
