/- Functions of the program, and pure ones that go the same ways: that the program's return what these compute. -/
import Derived.Test.YtfhlehkgiamejaaGreatDoorLPlain
import Derived.Test.YtfhlehkgiamejaaGreatDoorGE
import Derived.Test.YtfhlehkgiamejaaGreatDoorAvY
import Derived.Test.YtfhlehkgiamejaaGreatDoorAvPj
namespace Go.Proofs.YtfhlehkgiamejaaGreatDoor
open Go.Av
set_option linter.unusedVariables false
set_option linter.unusedSimpArgs false
/-- colander/chunk.New, handed pointers -/
def chunk_New_w6 (c1 : Int) (c2 : Int) : Option (Sum (Unit) (Sum (Unit) (Sum (Unit) (Sum (Unit) (Unit))))) :=
  if decide (c1 = 0) then
    some (Sum.inl ())
  else
    if decide (c1 = 1) then
      (show Option (Bool) from
        if decide (c2 < 0) then
          some true
        else
          some (decide (8192 < c2))).bind fun j6 =>
        if j6 then
          some (Sum.inr (Sum.inl ()))
        else
          some (Sum.inr (Sum.inr (Sum.inl ())))
    else
      if decide (c1 = 2) then
        some (Sum.inr (Sum.inr (Sum.inr (Sum.inl ()))))
      else
        if decide (c1 = 3) then
          some (Sum.inr (Sum.inr (Sum.inr (Sum.inr ()))))
        else
          some (Sum.inr (Sum.inl ()))
set_option maxRecDepth 100000 in
set_option maxHeartbeats 40000000 in
theorem chunk_New_w6_ok {c1 : Int} {c2 : Int} {r : Sum (Unit) (Sum (Unit) (Sum (Unit) (Sum (Unit) (Unit))))} (hP : chunk_New_w6 c1 c2 = some r) : CallPX Tryz.prog 12 [.agg [.int .i64 c1, .int .i64 c2]] [] [] ((match r with | .inl r => .inr ⟨.bptr 0 0, [], [.box 46 [.iface 42 (.agg []), .own 1 0 0 (List.length ([] : List UInt8)), .int .i64 0, .bool true, .int .i64 0], .slice 0 5 1 (List.map encB ([] : List UInt8))]⟩ | .inr r => (match r with | .inl r => .inr ⟨.sc (.pointer none), [], []⟩ | .inr r => (match r with | .inl r => .inr ⟨.bptr 0 0, [], [.box 46 [.iface 47 (.int .i64 c2), .own 1 0 0 (List.length ([] : List UInt8)), .int .i64 0, .bool (decide (c2 = 0)), .int .i64 0], .slice 0 5 1 (List.map encB ([] : List UInt8))]⟩ | .inr r => (match r with | .inl r => .inr ⟨.bptr 0 0, [], [.box 46 [.iface 48 (.bptr 1 0), .own 3 0 0 (List.length ([] : List UInt8)), .int .i64 0, .bool false, .int .i64 0], .box 50 [.own 2 0 0 (List.length ([] : List UInt8)), .int .i64 0, .bool false, .int .i64 0], .slice 0 5 1 (List.map encB ([] : List UInt8)), .slice 0 5 1 (List.map encB ([] : List UInt8))]⟩ | .inr r => .inr ⟨.bptr 0 0, [], [.box 46 [.iface 51 (.agg []), .own 1 0 0 (List.length ([] : List UInt8)), .int .i64 0, .bool false, .int .i64 0], .slice 0 5 1 (List.map encB ([] : List UInt8))]⟩))))) := by
  unfold chunk_New_w6 at hP
  refine callPX_of 42 [.tmp 2] Tryz.func12 ?_ (by rcases r with r | r | r | r | r <;> rintro q (h | h) <;> cases h <;> exact ⟨by (first | (intro x hx; simp at hx; done) | (simp [vfO, AV.vf, AV.vfL, encB, encI, encS, encO, enc_api_Body, enc_api_Fault, enc_head_text, enc_api_Field]; done) | (simp [vfO, AV.vf, AV.vfL, encB, encI, encS, encO, enc_api_Body, enc_api_Fault, enc_head_text, enc_api_Field]; intros; subst_vars; simp [AV.vf, AV.vfL]) | (simp [vfO, AV.vf, AV.vfL, encB, encI, encS, encO, enc_api_Body, enc_api_Fault, enc_head_text, enc_api_Field]; (repeat' apply And.intro) <;> (rintro x (⟨a, _, rfl⟩ | rfl) <;> simp [AV.vf, AV.vfL]))), by simp⟩) (by rcases r with r | r | r | r | r <;> rintro q h <;> cases h <;> first | rfl | simp [AV.vf, AV.vfL])
  refine J_seq ?_
  refine J_region (by kernel_rfl) ?_
  (try simp only [go_sem, Nat.reduceEqDiff, ↓reduceIte, Nat.reduceAdd, Nat.reduceSub, Nat.reduceLT, Nat.reduceMul, reduceCtorEq, Int.reduceToNat, Int.reduceLE, Int.reduceLT, Nat.reduceLeDiff])
  refine hold2 (then_n ?_)
  refine J_seq ?_
  refine J_seq ?_
  refine J_region (by kernel_rfl) ?_
  (try simp only [go_sem, Nat.reduceEqDiff, ↓reduceIte])
  refine hold2 (then_n ?_)
  refine J_block ?_
  refine J_seq ?_
  refine J_region (by kernel_rfl) ?_
  (try simp only [go_sem, Nat.reduceEqDiff, ↓reduceIte])
  refine hold2 (then_n ?_)
  refine J_condV rfl ?_
  (try simp only [go_sem, Nat.reduceEqDiff, ↓reduceIte])
  rcases ite_cases hP with ⟨hc, hP⟩ | ⟨hc, hP⟩
  · refine condV_t hc ?_
    refine J_seq ?_
    refine J_region (by kernel_rfl) ?_
    (try simp only [go_sem, Nat.reduceEqDiff, ↓reduceIte, Nat.reduceAdd, Nat.reduceSub, Nat.reduceLT, Nat.reduceMul, reduceCtorEq, Int.reduceToNat, Int.reduceLE, Int.reduceLT, Nat.reduceLeDiff])
    refine hold2 (then_n ?_)
    refine J_prom 5 1 (by decide) 1 1 _ _ rfl rfl ?_
    (try simp only [go_sem, Nat.reduceEqDiff, ↓reduceIte])
    refine J_ret (block_ret (then_ret (finIX_ret ?_)))
    obtain rfl := Option.some.inj hP
    exact pk_of rfl (sr [1, 2])
  · refine condV_f hc ?_
    refine J_seq ?_
    refine J_region (by kernel_rfl) ?_
    (try simp only [go_sem, Nat.reduceEqDiff, ↓reduceIte])
    refine hold2 (then_n ?_)
    refine J_condV rfl ?_
    (try simp only [go_sem, Nat.reduceEqDiff, ↓reduceIte])
    rcases ite_cases hP with ⟨hc, hP⟩ | ⟨hc, hP⟩
    · refine condV_t hc ?_
      refine J_seq ?_
      obtain ⟨o5, hP, hQ5⟩ := bind_cases hP
      refine J_join (fun (s : Bool) => envL [(1, .bptr 0 0), (20, .bool s)]) (fun (s : Bool) => [.box 32 [.int .i64 c1, .int .i64 c2]]) (fun s => s = o5) ?_ ?_
      · clear hQ5
        refine J_region (by kernel_rfl) ?_
        (try simp only [go_sem, Nat.reduceEqDiff, ↓reduceIte])
        rcases ite_cases hP with ⟨hc, hP⟩ | ⟨hc, hP⟩
        · refine guard_not hc ?_
          (try simp only [go_sem, Nat.reduceEqDiff, ↓reduceIte])
          refine hold2 ?_
          exact join_n true (Option.some.inj hP) (so [0])
        · refine guard_is hc ?_
          (try simp only [go_sem, Nat.reduceEqDiff, ↓reduceIte])
          refine hold2 ?_
          exact join_n (decide (8192 < c2)) (Option.some.inj hP) (so [0])
      · intro j6 hs
        subst hs
        have hP := hQ5
        clear hQ5
        refine J_condV rfl ?_
        (try simp only [go_sem, Nat.reduceEqDiff, ↓reduceIte])
        rcases ite_cases hP with ⟨hc, hP⟩ | ⟨hc, hP⟩
        · refine condV_t hc ?_
          refine J_seq ?_
          refine J_region (by kernel_rfl) ?_
          (try simp only [go_sem, Nat.reduceEqDiff, ↓reduceIte])
          refine hold2 (then_n ?_)
          refine J_ret (then_ret (block_ret (then_ret (finIX_ret ?_))))
          obtain rfl := Option.some.inj hP
          exact pk_of rfl (sr [])
        · refine condV_f hc ?_
          refine J_skip (then_n ?_)
          refine J_seq ?_
          refine J_region (by kernel_rfl) ?_
          (try simp only [go_sem, Nat.reduceEqDiff, ↓reduceIte, Nat.reduceAdd, Nat.reduceSub, Nat.reduceLT, Nat.reduceMul, reduceCtorEq, Int.reduceToNat, Int.reduceLE, Int.reduceLT, Nat.reduceLeDiff])
          refine hold2 (then_n ?_)
          refine J_prom 5 1 (by decide) 1 1 _ _ rfl rfl ?_
          (try simp only [go_sem, Nat.reduceEqDiff, ↓reduceIte])
          refine J_ret (block_ret (then_ret (finIX_ret ?_)))
          obtain rfl := Option.some.inj hP
          exact pk_of rfl (sr [1, 2])
    · refine condV_f hc ?_
      refine J_seq ?_
      refine J_region (by kernel_rfl) ?_
      (try simp only [go_sem, Nat.reduceEqDiff, ↓reduceIte])
      refine hold2 (then_n ?_)
      refine J_condV rfl ?_
      (try simp only [go_sem, Nat.reduceEqDiff, ↓reduceIte])
      rcases ite_cases hP with ⟨hc, hP⟩ | ⟨hc, hP⟩
      · refine condV_t hc ?_
        refine J_seq ?_
        refine J_region (by kernel_rfl) ?_
        (try simp only [go_sem, Nat.reduceEqDiff, ↓reduceIte, Nat.reduceAdd, Nat.reduceSub, Nat.reduceLT, Nat.reduceMul, reduceCtorEq, Int.reduceToNat, Int.reduceLE, Int.reduceLT, Nat.reduceLeDiff])
        refine hold2 (then_n ?_)
        refine J_prom 5 1 (by decide) 1 0 _ _ rfl rfl ?_
        (try simp only [go_sem, Nat.reduceEqDiff, ↓reduceIte])
        refine J_prom 5 1 (by decide) 2 1 _ _ rfl rfl ?_
        (try simp only [go_sem, Nat.reduceEqDiff, ↓reduceIte])
        refine J_ret (block_ret (then_ret (finIX_ret ?_)))
        obtain rfl := Option.some.inj hP
        exact pk_of rfl (sr [2, 1, 3, 4])
      · refine condV_f hc ?_
        refine J_seq ?_
        refine J_region (by kernel_rfl) ?_
        (try simp only [go_sem, Nat.reduceEqDiff, ↓reduceIte])
        refine hold2 (then_n ?_)
        refine J_condV rfl ?_
        (try simp only [go_sem, Nat.reduceEqDiff, ↓reduceIte])
        rcases ite_cases hP with ⟨hc, hP⟩ | ⟨hc, hP⟩
        · refine condV_t hc ?_
          refine J_seq ?_
          refine J_region (by kernel_rfl) ?_
          (try simp only [go_sem, Nat.reduceEqDiff, ↓reduceIte, Nat.reduceAdd, Nat.reduceSub, Nat.reduceLT, Nat.reduceMul, reduceCtorEq, Int.reduceToNat, Int.reduceLE, Int.reduceLT, Nat.reduceLeDiff])
          refine hold2 (then_n ?_)
          refine J_prom 5 1 (by decide) 1 1 _ _ rfl rfl ?_
          (try simp only [go_sem, Nat.reduceEqDiff, ↓reduceIte])
          refine J_ret (block_ret (then_ret (finIX_ret ?_)))
          obtain rfl := Option.some.inj hP
          exact pk_of rfl (sr [1, 2])
        · refine condV_f hc ?_
          refine J_skip (block_n (then_n ?_))
          refine J_seq ?_
          refine J_region (by kernel_rfl) ?_
          (try simp only [go_sem, Nat.reduceEqDiff, ↓reduceIte])
          refine hold2 (then_n ?_)
          refine J_ret (finIX_ret ?_)
          obtain rfl := Option.some.inj hP
          exact pk_of rfl (sr [])
theorem meth_42_50 : MethOK Tryz.prog 42 "colander/chunk.end" 50 := fun _ _ => by kernel_rfl
/-- (colander/chunk.none).end, handed pointers -/
def chunk_none_end (c1 : Int) (c2 : Bool) (c3 : Int) (c4 : List (UInt8)) : Option (Unit) :=
  some ()
set_option maxRecDepth 100000 in
set_option maxHeartbeats 40000000 in
theorem chunk_none_end_ok {c1 : Int} {c2 : Bool} {c3 : Int} {c4 : List (UInt8)} {r : Unit} (hP : chunk_none_end c1 c2 c3 c4 = some r) : CallPX Tryz.prog 50 [.agg [], .bptr 0 0] [.box 46 [.iface 42 (.agg []), .own 1 0 0 (List.length c4), .int .i64 c1, .bool c2, .int .i64 c3], .slice 0 5 1 (List.map encB c4)] [0] (.inr ⟨.tup [], [(0, .bptr 0 0)], [.box 46 [.iface 42 (.agg []), .own 1 0 0 (List.length c4), .int .i64 c1, .bool c2, .int .i64 c3], .slice 0 5 1 (List.map encB c4)]⟩) := by
  unfold chunk_none_end at hP
  refine callPX_of 4 [] Tryz.func50 ?_ (by rintro q (h | h) <;> cases h <;> exact ⟨by (first | (intro x hx; simp at hx; done) | (simp [vfO, AV.vf, AV.vfL, encB, encI, encS, encO, enc_api_Body, enc_api_Fault, enc_head_text, enc_api_Field]; done) | (simp [vfO, AV.vf, AV.vfL, encB, encI, encS, encO, enc_api_Body, enc_api_Fault, enc_head_text, enc_api_Field]; intros; subst_vars; simp [AV.vf, AV.vfL]) | (simp [vfO, AV.vf, AV.vfL, encB, encI, encS, encO, enc_api_Body, enc_api_Fault, enc_head_text, enc_api_Field]; (repeat' apply And.intro) <;> (rintro x (⟨a, _, rfl⟩ | rfl) <;> simp [AV.vf, AV.vfL]))), by simp⟩) (by rintro q h <;> cases h <;> first | rfl | simp [AV.vf, AV.vfL])
  refine J_region (by kernel_rfl) ?_
  (try simp only [go_sem, Nat.reduceEqDiff, ↓reduceIte])
  refine hold2 (finIX_n ?_)
  obtain rfl := Option.some.inj hP
  exact pk_of rfl (sr [0, 1])
/-- (*colander/chunk.Reader).End, handed pointers -/
def chunk_Reader_End_w3 (c1 : Int) (c2 : Bool) (c3 : Int) (c4 : List (UInt8)) : Option (Unit) :=
  (show Option (Bool) from
    if !c2 then
      some (decide (c3 = 0))
    else
      some false).bind fun j10 =>
    if j10 then
      (chunk_none_end c1 c2 c3 c4).bind fun r12 =>
      some ()
    else
      some ()
set_option maxRecDepth 100000 in
set_option maxHeartbeats 40000000 in
theorem chunk_Reader_End_w3_ok {c1 : Int} {c2 : Bool} {c3 : Int} {c4 : List (UInt8)} {r : Unit} (hP : chunk_Reader_End_w3 c1 c2 c3 c4 = some r) : CallPX Tryz.prog 16 [.bptr 0 0] [.box 46 [.iface 42 (.agg []), .own 1 0 0 (List.length c4), .int .i64 c1, .bool c2, .int .i64 c3], .slice 0 5 1 (List.map encB c4)] [0] (.inr ⟨.tup [], [(0, .bptr 0 0)], [.box 46 [.iface 42 (.agg []), .own 1 0 0 (List.length c4), .int .i64 c1, .bool c2, .int .i64 c3], .slice 0 5 1 (List.map encB c4)]⟩) := by
  unfold chunk_Reader_End_w3 at hP
  refine callPX_of 20 [] Tryz.func16 ?_ (by rintro q (h | h) <;> cases h <;> exact ⟨by (first | (intro x hx; simp at hx; done) | (simp [vfO, AV.vf, AV.vfL, encB, encI, encS, encO, enc_api_Body, enc_api_Fault, enc_head_text, enc_api_Field]; done) | (simp [vfO, AV.vf, AV.vfL, encB, encI, encS, encO, enc_api_Body, enc_api_Fault, enc_head_text, enc_api_Field]; intros; subst_vars; simp [AV.vf, AV.vfL]) | (simp [vfO, AV.vf, AV.vfL, encB, encI, encS, encO, enc_api_Body, enc_api_Fault, enc_head_text, enc_api_Field]; (repeat' apply And.intro) <;> (rintro x (⟨a, _, rfl⟩ | rfl) <;> simp [AV.vf, AV.vfL]))), by simp⟩) (by rintro q h <;> cases h <;> first | rfl | simp [AV.vf, AV.vfL])
  obtain ⟨o9, hP, hQ9⟩ := bind_cases hP
  refine J_join (fun (s : Bool) => envL [(0, .bptr 0 0), (13, .bool s), (20, .bptr 0 0)]) (fun (s : Bool) => [.box 46 [.iface 42 (.agg []), .own 1 0 0 (List.length c4), .int .i64 c1, .bool c2, .int .i64 c3], .slice 0 5 1 (List.map encB c4)]) (fun s => s = o9) ?_ ?_
  · clear hQ9
    refine J_region (by kernel_rfl) ?_
    (try simp only [go_sem, Nat.reduceEqDiff, ↓reduceIte])
    rcases ite_cases hP with ⟨hc, hP⟩ | ⟨hc, hP⟩
    · refine guard_is hc ?_
      (try simp only [go_sem, Nat.reduceEqDiff, ↓reduceIte, Nat.reduceAdd, Nat.reduceSub, Nat.reduceLT, Nat.reduceMul, reduceCtorEq, Int.reduceToNat, Int.reduceLE, Int.reduceLT, Nat.reduceLeDiff])
      refine hold2 ?_
      exact join_n (decide (c3 = 0)) (Option.some.inj hP) (so [0, 1])
    · refine guard_not hc ?_
      (try simp only [go_sem, Nat.reduceEqDiff, ↓reduceIte])
      refine hold2 ?_
      exact join_n false (Option.some.inj hP) (so [0, 1])
  · intro j10 hs
    subst hs
    have hP := hQ9
    clear hQ9
    refine J_condV rfl ?_
    (try simp only [go_sem, Nat.reduceEqDiff, ↓reduceIte])
    rcases ite_cases hP with ⟨hc, hP⟩ | ⟨hc, hP⟩
    · refine condV_t hc ?_
      refine J_region (by kernel_rfl) ?_
      (try simp only [go_sem, Nat.reduceEqDiff, ↓reduceIte])
      obtain ⟨r12, hr11, hP⟩ := bind_cases hP
      refine inv_pt meth_42_50 [0, 1] [(20, .bptr 0 0)] [.box 46 [.iface 42 (.agg []), .own 1 0 0 (List.length c4), .int .i64 c1, .bool c2, .int .i64 c3], .slice 0 5 1 (List.map encB c4)] (.tup []) (chunk_none_end_ok hr11) ⟨argP_r (by rfl), argP_r (by rfl), trivial⟩ (told_of (sm [2, 3])) ?_
      (try simp only [go_sem, Nat.reduceEqDiff, ↓reduceIte])
      refine hold2 (finIX_n ?_)
      obtain rfl := Option.some.inj hP
      exact pk_of rfl (sr [0, 1])
    · refine condV_f hc ?_
      refine J_skip (finIX_n ?_)
      obtain rfl := Option.some.inj hP
      exact pk_of rfl (sr [0, 1])
theorem meth_48_55 : MethOK Tryz.prog 48 "colander/chunk.end" 55 := fun _ _ => by kernel_rfl
/-- (*colander/chunk.chunked).end, handed pointers -/
def chunk_chunked_end (c1 : Int) (c2 : Bool) (c3 : Int) (c4 : List (UInt8)) (c5 : Int) (c6 : Bool) (c7 : Int) (c8 : List (UInt8)) : Option (Unit) :=
  some ()
set_option maxRecDepth 100000 in
set_option maxHeartbeats 40000000 in
theorem chunk_chunked_end_ok {c1 : Int} {c2 : Bool} {c3 : Int} {c4 : List (UInt8)} {c5 : Int} {c6 : Bool} {c7 : Int} {c8 : List (UInt8)} {r : Unit} (hP : chunk_chunked_end c1 c2 c3 c4 c5 c6 c7 c8 = some r) : CallPX Tryz.prog 55 [.bptr 0 0, .bptr 2 0] [.box 50 [.own 1 0 0 (List.length c4), .int .i64 c1, .bool c2, .int .i64 c3], .slice 0 5 1 (List.map encB c4), .box 46 [.iface 48 (.bptr 0 0), .own 3 0 0 (List.length c8), .int .i64 c5, .bool c6, .int .i64 c7], .slice 0 5 1 (List.map encB c8)] [0, 2] (.inr ⟨.tup [], [(0, .bptr 0 0), (2, .bptr 2 0)], [.box 50 [.own 1 0 0 (List.length c4), .int .i64 c1, .bool c2, .int .i64 c3], .slice 0 5 1 (List.map encB c4), .box 46 [.iface 48 (.bptr 0 0), .own 3 0 0 (List.length c8), .int .i64 c5, .bool c6, .int .i64 24], .slice 0 5 1 (List.map encB c8)]⟩) := by
  unfold chunk_chunked_end at hP
  refine callPX_of 7 [] Tryz.func55 ?_ (by rintro q (h | h) <;> cases h <;> exact ⟨by (first | (intro x hx; simp at hx; done) | (simp [vfO, AV.vf, AV.vfL, encB, encI, encS, encO, enc_api_Body, enc_api_Fault, enc_head_text, enc_api_Field]; done) | (simp [vfO, AV.vf, AV.vfL, encB, encI, encS, encO, enc_api_Body, enc_api_Fault, enc_head_text, enc_api_Field]; intros; subst_vars; simp [AV.vf, AV.vfL]) | (simp [vfO, AV.vf, AV.vfL, encB, encI, encS, encO, enc_api_Body, enc_api_Fault, enc_head_text, enc_api_Field]; (repeat' apply And.intro) <;> (rintro x (⟨a, _, rfl⟩ | rfl) <;> simp [AV.vf, AV.vfL]))), by simp⟩) (by rintro q h <;> cases h <;> first | rfl | simp [AV.vf, AV.vfL])
  refine J_region (by kernel_rfl) ?_
  (try simp only [go_sem, Nat.reduceEqDiff, ↓reduceIte, Nat.reduceAdd, Nat.reduceSub, Nat.reduceLT, Nat.reduceMul, reduceCtorEq, Int.reduceToNat, Int.reduceLE, Int.reduceLT, Nat.reduceLeDiff])
  refine hold2 (finIX_n ?_)
  obtain rfl := Option.some.inj hP
  exact pk_of rfl (sr [0, 1, 2, 3])
/-- (*colander/chunk.Reader).End, handed pointers -/
def chunk_Reader_End_w4 (c1 : Int) (c2 : Bool) (c3 : Int) (c4 : Int) (c5 : Bool) (c6 : Int) (c7 : List (UInt8)) (c8 : List (UInt8)) : Option (Int) :=
  (show Option (Bool) from
    if !c2 then
      some (decide (c3 = 0))
    else
      some false).bind fun j14 =>
    if j14 then
      (chunk_chunked_end c4 c5 c6 c7 c1 c2 c3 c8).bind fun r16 =>
      some 24
    else
      some c3
set_option maxRecDepth 100000 in
set_option maxHeartbeats 40000000 in
theorem chunk_Reader_End_w4_ok {c1 : Int} {c2 : Bool} {c3 : Int} {c4 : Int} {c5 : Bool} {c6 : Int} {c7 : List (UInt8)} {c8 : List (UInt8)} {r : Int} (hP : chunk_Reader_End_w4 c1 c2 c3 c4 c5 c6 c7 c8 = some r) : CallPX Tryz.prog 16 [.bptr 0 0] [.box 46 [.iface 48 (.bptr 1 0), .own 3 0 0 (List.length c8), .int .i64 c1, .bool c2, .int .i64 c3], .box 50 [.own 2 0 0 (List.length c7), .int .i64 c4, .bool c5, .int .i64 c6], .slice 0 5 1 (List.map encB c7), .slice 0 5 1 (List.map encB c8)] [0, 1] (.inr ⟨.tup [], [(0, .bptr 0 0), (1, .bptr 1 0)], [.box 46 [.iface 48 (.bptr 1 0), .own 3 0 0 (List.length c8), .int .i64 c1, .bool c2, .int .i64 r], .box 50 [.own 2 0 0 (List.length c7), .int .i64 c4, .bool c5, .int .i64 c6], .slice 0 5 1 (List.map encB c7), .slice 0 5 1 (List.map encB c8)]⟩) := by
  unfold chunk_Reader_End_w4 at hP
  refine callPX_of 20 [] Tryz.func16 ?_ (by rintro q (h | h) <;> cases h <;> exact ⟨by (first | (intro x hx; simp at hx; done) | (simp [vfO, AV.vf, AV.vfL, encB, encI, encS, encO, enc_api_Body, enc_api_Fault, enc_head_text, enc_api_Field]; done) | (simp [vfO, AV.vf, AV.vfL, encB, encI, encS, encO, enc_api_Body, enc_api_Fault, enc_head_text, enc_api_Field]; intros; subst_vars; simp [AV.vf, AV.vfL]) | (simp [vfO, AV.vf, AV.vfL, encB, encI, encS, encO, enc_api_Body, enc_api_Fault, enc_head_text, enc_api_Field]; (repeat' apply And.intro) <;> (rintro x (⟨a, _, rfl⟩ | rfl) <;> simp [AV.vf, AV.vfL]))), by simp⟩) (by rintro q h <;> cases h <;> first | rfl | simp [AV.vf, AV.vfL])
  obtain ⟨o13, hP, hQ13⟩ := bind_cases hP
  refine J_join (fun (s : Bool) => envL [(0, .bptr 0 0), (13, .bool s), (20, .bptr 0 0), (21, .bptr 1 0)]) (fun (s : Bool) => [.box 46 [.iface 48 (.bptr 1 0), .own 3 0 0 (List.length c8), .int .i64 c1, .bool c2, .int .i64 c3], .box 50 [.own 2 0 0 (List.length c7), .int .i64 c4, .bool c5, .int .i64 c6], .slice 0 5 1 (List.map encB c7), .slice 0 5 1 (List.map encB c8)]) (fun s => s = o13) ?_ ?_
  · clear hQ13
    refine J_region (by kernel_rfl) ?_
    (try simp only [go_sem, Nat.reduceEqDiff, ↓reduceIte])
    rcases ite_cases hP with ⟨hc, hP⟩ | ⟨hc, hP⟩
    · refine guard_is hc ?_
      (try simp only [go_sem, Nat.reduceEqDiff, ↓reduceIte, Nat.reduceAdd, Nat.reduceSub, Nat.reduceLT, Nat.reduceMul, reduceCtorEq, Int.reduceToNat, Int.reduceLE, Int.reduceLT, Nat.reduceLeDiff])
      refine hold2 ?_
      exact join_n (decide (c3 = 0)) (Option.some.inj hP) (so [0, 1, 2, 3])
    · refine guard_not hc ?_
      (try simp only [go_sem, Nat.reduceEqDiff, ↓reduceIte])
      refine hold2 ?_
      exact join_n false (Option.some.inj hP) (so [0, 1, 2, 3])
  · intro j14 hs
    subst hs
    have hP := hQ13
    clear hQ13
    refine J_condV rfl ?_
    (try simp only [go_sem, Nat.reduceEqDiff, ↓reduceIte])
    rcases ite_cases hP with ⟨hc, hP⟩ | ⟨hc, hP⟩
    · refine condV_t hc ?_
      refine J_region (by kernel_rfl) ?_
      (try simp only [go_sem, Nat.reduceEqDiff, ↓reduceIte])
      obtain ⟨r16, hr15, hP⟩ := bind_cases hP
      refine inv_pt meth_48_55 [1, 2, 0, 3] [(20, .bptr 0 0), (21, .bptr 1 0)] [.box 46 [.iface 48 (.bptr 1 0), .own 3 0 0 (List.length c8), .int .i64 c1, .bool c2, .int .i64 24], .box 50 [.own 2 0 0 (List.length c7), .int .i64 c4, .bool c5, .int .i64 c6], .slice 0 5 1 (List.map encB c7), .slice 0 5 1 (List.map encB c8)] (.tup []) (chunk_chunked_end_ok hr15) ⟨argP_r (by rfl), argP_r (by rfl), trivial⟩ (told_of (sm [6, 4, 5, 7])) ?_
      (try simp only [go_sem, Nat.reduceEqDiff, ↓reduceIte])
      refine hold2 (finIX_n ?_)
      obtain rfl := Option.some.inj hP
      exact pk_of rfl (sr [0, 1, 2, 3])
    · refine condV_f hc ?_
      refine J_skip (finIX_n ?_)
      obtain rfl := Option.some.inj hP
      exact pk_of rfl (sr [0, 1, 2, 3])
/-- colander/colanderlaw07.ChunkCuts -/
def law07_ChunkCuts_L31 (j16 : (List (UInt8))) : Nat → Int → Int → Option (Int)
  | 0, _, _ => none
  | k27 + 1, m25, i26 =>
    if decide (i26 < (List.length j16 : Int)) then
      (slL j16 i26 (iadd .i64 i26 1)).bind fun s32 =>
      (chunk_Reader_Take_w4 s32 0 true 0 ([] : List UInt8)).bind fun r34 =>
      (szC (List.length (([] : List UInt8) : List (UInt8)))).bind fun _ =>
      if decide (r34 = 0) then
        some (iadd .i64 m25 r34)
      else
        law07_ChunkCuts_L31 j16 k27 (iadd .i64 m25 r34) (iadd .i64 i26 1)
    else
      some m25
def law07_ChunkCuts_L112 (j85 : (List (UInt8))) (body1 : Int × Int) : Nat → Int → Int → Int → Bool → (List (UInt8)) → Option (Int × Int × Bool × (List (UInt8)))
  | 0, _, _, _, _, _ => none
  | k108 + 1, m103, i104, l105, l106, l107 =>
    if decide (i104 < (List.length j85 : Int)) then
      (slL j85 i104 (iadd .i64 i104 1)).bind fun s113 =>
      (chunk_Reader_Take_w2 s113 body1.2 l105 l106 0 ([] : List UInt8)).bind fun r115 =>
      (szC (List.length (l107 ++ r115.2.2.2 : List (UInt8)))).bind fun _ =>
      if decide (r115.1 = 0) then
        some (iadd .i64 m103 r115.1, r115.2.1, r115.2.2.1, l107 ++ r115.2.2.2)
      else
        law07_ChunkCuts_L112 j85 body1 k108 (iadd .i64 m103 r115.1) (iadd .i64 i104 1) r115.2.1 r115.2.2.1 (l107 ++ r115.2.2.2)
    else
      some (m103, l105, l106, l107)
def law07_ChunkCuts_L191 (j154 : (List (UInt8))) : Nat → Int → Int → Int → Bool → Int → Int → Bool → Int → (List (UInt8)) → (List (UInt8)) → Option (Int × Int × Bool × Int × Int × Bool × Int × (List (UInt8)) × (List (UInt8)))
  | 0, _, _, _, _, _, _, _, _, _, _ => none
  | k187 + 1, m177, i178, l179, l180, l181, l182, l183, l184, l185, l186 =>
    if decide (i178 < (List.length j154 : Int)) then
      (slL j154 i178 (iadd .i64 i178 1)).bind fun s192 =>
      (chunk_Reader_Take s192 l179 l180 l181 l182 l183 l184 l185 ([] : List UInt8)).bind fun r194 =>
      (szC (List.length (l186 ++ r194.2.2.2.2.2.2.2.2 : List (UInt8)))).bind fun _ =>
      if decide (r194.1 = 0) then
        some (iadd .i64 m177 r194.1, r194.2.1, r194.2.2.1, r194.2.2.2.1, r194.2.2.2.2.1, r194.2.2.2.2.2.1, r194.2.2.2.2.2.2.1, r194.2.2.2.2.2.2.2.1, l186 ++ r194.2.2.2.2.2.2.2.2)
      else
        law07_ChunkCuts_L191 j154 k187 (iadd .i64 m177 r194.1) (iadd .i64 i178 1) r194.2.1 r194.2.2.1 r194.2.2.2.1 r194.2.2.2.2.1 r194.2.2.2.2.2.1 r194.2.2.2.2.2.2.1 r194.2.2.2.2.2.2.2.1 (l186 ++ r194.2.2.2.2.2.2.2.2)
    else
      some (m177, l179, l180, l181, l182, l183, l184, l185, l186)
def law07_ChunkCuts_L260 (j233 : (List (UInt8))) : Nat → Int → Int → Int → Int → (List (UInt8)) → Option (Int × Int × Int × (List (UInt8)))
  | 0, _, _, _, _, _ => none
  | k256 + 1, m251, i252, l253, l254, l255 =>
    if decide (i252 < (List.length j233 : Int)) then
      (slL j233 i252 (iadd .i64 i252 1)).bind fun s261 =>
      (chunk_Reader_Take_w3 s261 l253 false l254 ([] : List UInt8)).bind fun r263 =>
      (szC (List.length (l255 ++ r263.2.2.2 : List (UInt8)))).bind fun _ =>
      if decide (r263.1 = 0) then
        some (iadd .i64 m251 r263.1, r263.2.1, r263.2.2.1, l255 ++ r263.2.2.2)
      else
        law07_ChunkCuts_L260 j233 k256 (iadd .i64 m251 r263.1) (iadd .i64 i252 1) r263.2.1 r263.2.2.1 (l255 ++ r263.2.2.2)
    else
      some (m251, l253, l254, l255)
def law07_ChunkCuts (body1 : Int × Int) (b2 : List (UInt8)) (end3 : Bool) : Option (Bool) :=
  (law07_shown).bind fun r4 =>
  (chunk_New_w6 body1.1 body1.2).bind fun r5 => match r5 with
  | .inl r6 =>
    (chunk_New_w6 body1.1 body1.2).bind fun r7 => match r7 with
    | .inl r8 =>
      (show Option (Bool) from
        if !r4 then
          some true
        else
          some false).bind fun j10 =>
        if j10 then
          (show Option (Bool) from
            if r4 then
              some (false == false)
            else
              some false).bind fun j12 =>
            some j12
        else
          (show Option ((List (UInt8))) from
            if decide (20000 < (List.length b2 : Int)) then
              (slL b2 0 20000).bind fun s15 =>
              some s15
            else
              some b2).bind fun j16 =>
            (chunk_Reader_Take_w4 j16 0 true 0 ([] : List UInt8)).bind fun r18 =>
            (law07_ChunkCuts_L31 j16 1099511627776 0 0).bind fun j37 =>
              (show Option (Unit) from
                if end3 then
                  (chunk_Reader_End_w3 0 true 0 ([] : List UInt8)).bind fun r44 =>
                  (chunk_Reader_End_w3 0 true 0 ([] : List UInt8)).bind fun r46 =>
                  some ()
                else
                  some ()).bind fun j47 =>
                if decide (([] : List UInt8) = ([] : List UInt8)) then
                  if decide (r18 = j37) then
                    (chunk_Reader_Done ((), ([] : List UInt8), 0, true, 0)).bind fun r48 =>
                    (chunk_Reader_Done ((), ([] : List UInt8), 0, true, 0)).bind fun r49 =>
                    if r48 == r49 then
                      (chunk_Reader_Err ((), ([] : List UInt8), 0, true, 0)).bind fun r50 =>
                      (chunk_Reader_Err ((), ([] : List UInt8), 0, true, 0)).bind fun r51 =>
                      if decide (r50 = r51) then
                        (chunk_Reader_Done ((), ([] : List UInt8), 0, true, 0)).bind fun r52 =>
                        if r52 then
                          (chunk_Reader_Err ((), ([] : List UInt8), 0, true, 0)).bind fun r53 =>
                          if !(!decide (r53 = 0)) then
                            if decide (((List.length ([] : List UInt8) : Nat) : Int) ≤ 8192) then
                              if !end3 then
                                some true
                              else
                                (chunk_Reader_Done ((), ([] : List UInt8), 0, true, 0)).bind fun r54 =>
                                if r54 then
                                  some true
                                else
                                  (chunk_Reader_Err ((), ([] : List UInt8), 0, true, 0)).bind fun r55 =>
                                  some (!decide (r55 = 0))
                            else
                              some false
                          else
                            some false
                        else
                          if decide (((List.length ([] : List UInt8) : Nat) : Int) ≤ 8192) then
                            if !end3 then
                              some true
                            else
                              (chunk_Reader_Done ((), ([] : List UInt8), 0, true, 0)).bind fun r56 =>
                              if r56 then
                                some true
                              else
                                (chunk_Reader_Err ((), ([] : List UInt8), 0, true, 0)).bind fun r57 =>
                                some (!decide (r57 = 0))
                          else
                            some false
                      else
                        some false
                    else
                      some false
                  else
                    some false
                else
                  some false
    | .inr (.inl r58) =>
      none
    | .inr (.inr (.inl r59)) =>
      none
    | .inr (.inr (.inr (.inl r60))) =>
      none
    | .inr (.inr (.inr (.inr r61))) =>
      none
  | .inr (.inl r62) =>
    (chunk_New_w6 body1.1 body1.2).bind fun r63 => match r63 with
    | .inl r64 =>
      none
    | .inr (.inl r65) =>
      (show Option (Unit) from
        if !r4 then
          some ()
        else
          some ()).bind fun j67 =>
        (show Option (Bool) from
          if r4 then
            some (true == true)
          else
            some false).bind fun j69 =>
          some j69
    | .inr (.inr (.inl r70)) =>
      none
    | .inr (.inr (.inr (.inl r71))) =>
      none
    | .inr (.inr (.inr (.inr r72))) =>
      none
  | .inr (.inr (.inl r73)) =>
    (chunk_New_w6 body1.1 body1.2).bind fun r74 => match r74 with
    | .inl r75 =>
      none
    | .inr (.inl r76) =>
      none
    | .inr (.inr (.inl r77)) =>
      (show Option (Bool) from
        if !r4 then
          some true
        else
          some false).bind fun j79 =>
        if j79 then
          (show Option (Bool) from
            if r4 then
              some (false == false)
            else
              some false).bind fun j81 =>
            some j81
        else
          (show Option ((List (UInt8))) from
            if decide (20000 < (List.length b2 : Int)) then
              (slL b2 0 20000).bind fun s84 =>
              some s84
            else
              some b2).bind fun j85 =>
            (chunk_Reader_Take_w2 j85 body1.2 0 (decide (body1.2 = 0)) 0 ([] : List UInt8)).bind fun r87 =>
            (law07_ChunkCuts_L112 j85 body1 1099511627776 0 0 0 (decide (body1.2 = 0)) ([] : List UInt8)).bind fun j118 =>
              (show Option (Int × Int) from
                if end3 then
                  (chunk_Reader_End_w2 body1.2 r87.2.1 r87.2.2.1 0 ([] : List UInt8)).bind fun r125 =>
                  (chunk_Reader_End_w2 body1.2 j118.2.1 j118.2.2.1 0 ([] : List UInt8)).bind fun r127 =>
                  some (r125, r127)
                else
                  some (0, 0)).bind fun j128 =>
                if decide (r87.2.2.2 = j118.2.2.2) then
                  if decide (r87.1 = j118.1) then
                    (chunk_Reader_Done ((), ([] : List UInt8), r87.2.1, r87.2.2.1, j128.1)).bind fun r129 =>
                    (chunk_Reader_Done ((), ([] : List UInt8), j118.2.1, j118.2.2.1, j128.2)).bind fun r130 =>
                    if r129 == r130 then
                      (chunk_Reader_Err ((), ([] : List UInt8), r87.2.1, r87.2.2.1, j128.1)).bind fun r131 =>
                      (chunk_Reader_Err ((), ([] : List UInt8), j118.2.1, j118.2.2.1, j128.2)).bind fun r132 =>
                      if decide (r131 = r132) then
                        (chunk_Reader_Done ((), ([] : List UInt8), r87.2.1, r87.2.2.1, j128.1)).bind fun r133 =>
                        if r133 then
                          (chunk_Reader_Err ((), ([] : List UInt8), r87.2.1, r87.2.2.1, j128.1)).bind fun r134 =>
                          if !(!decide (r134 = 0)) then
                            if decide (((List.length r87.2.2.2 : Nat) : Int) ≤ 8192) then
                              if !end3 then
                                some true
                              else
                                (chunk_Reader_Done ((), ([] : List UInt8), r87.2.1, r87.2.2.1, j128.1)).bind fun r135 =>
                                if r135 then
                                  some true
                                else
                                  (chunk_Reader_Err ((), ([] : List UInt8), r87.2.1, r87.2.2.1, j128.1)).bind fun r136 =>
                                  some (!decide (r136 = 0))
                            else
                              some false
                          else
                            some false
                        else
                          if decide (((List.length r87.2.2.2 : Nat) : Int) ≤ 8192) then
                            if !end3 then
                              some true
                            else
                              (chunk_Reader_Done ((), ([] : List UInt8), r87.2.1, r87.2.2.1, j128.1)).bind fun r137 =>
                              if r137 then
                                some true
                              else
                                (chunk_Reader_Err ((), ([] : List UInt8), r87.2.1, r87.2.2.1, j128.1)).bind fun r138 =>
                                some (!decide (r138 = 0))
                          else
                            some false
                      else
                        some false
                    else
                      some false
                  else
                    some false
                else
                  some false
    | .inr (.inr (.inr (.inl r139))) =>
      none
    | .inr (.inr (.inr (.inr r140))) =>
      none
  | .inr (.inr (.inr (.inl r141))) =>
    (chunk_New_w6 body1.1 body1.2).bind fun r142 => match r142 with
    | .inl r143 =>
      none
    | .inr (.inl r144) =>
      none
    | .inr (.inr (.inl r145)) =>
      none
    | .inr (.inr (.inr (.inl r146))) =>
      (show Option (Bool) from
        if !r4 then
          some true
        else
          some false).bind fun j148 =>
        if j148 then
          (show Option (Bool) from
            if r4 then
              some (false == false)
            else
              some false).bind fun j150 =>
            some j150
        else
          (show Option ((List (UInt8))) from
            if decide (20000 < (List.length b2 : Int)) then
              (slL b2 0 20000).bind fun s153 =>
              some s153
            else
              some b2).bind fun j154 =>
            (chunk_Reader_Take j154 0 false 0 0 false 0 ([] : List UInt8) ([] : List UInt8)).bind fun r156 =>
            (law07_ChunkCuts_L191 j154 1099511627776 0 0 0 false 0 0 false 0 ([] : List UInt8) ([] : List UInt8)).bind fun j197 =>
              (show Option (Int × Int) from
                if end3 then
                  (chunk_Reader_End_w4 r156.2.1 r156.2.2.1 r156.2.2.2.1 r156.2.2.2.2.1 r156.2.2.2.2.2.1 r156.2.2.2.2.2.2.1 r156.2.2.2.2.2.2.2.1 ([] : List UInt8)).bind fun r204 =>
                  (chunk_Reader_End_w4 j197.2.1 j197.2.2.1 j197.2.2.2.1 j197.2.2.2.2.1 j197.2.2.2.2.2.1 j197.2.2.2.2.2.2.1 j197.2.2.2.2.2.2.2.1 ([] : List UInt8)).bind fun r206 =>
                  some (r204, r206)
                else
                  some (r156.2.2.2.1, j197.2.2.2.1)).bind fun j207 =>
                if decide (r156.2.2.2.2.2.2.2.2 = j197.2.2.2.2.2.2.2.2) then
                  if decide (r156.1 = j197.1) then
                    (chunk_Reader_Done ((), ([] : List UInt8), r156.2.1, r156.2.2.1, j207.1)).bind fun r208 =>
                    (chunk_Reader_Done ((), ([] : List UInt8), j197.2.1, j197.2.2.1, j207.2)).bind fun r209 =>
                    if r208 == r209 then
                      (chunk_Reader_Err ((), ([] : List UInt8), r156.2.1, r156.2.2.1, j207.1)).bind fun r210 =>
                      (chunk_Reader_Err ((), ([] : List UInt8), j197.2.1, j197.2.2.1, j207.2)).bind fun r211 =>
                      if decide (r210 = r211) then
                        (chunk_Reader_Done ((), ([] : List UInt8), r156.2.1, r156.2.2.1, j207.1)).bind fun r212 =>
                        if r212 then
                          (chunk_Reader_Err ((), ([] : List UInt8), r156.2.1, r156.2.2.1, j207.1)).bind fun r213 =>
                          if !(!decide (r213 = 0)) then
                            if decide (((List.length r156.2.2.2.2.2.2.2.2 : Nat) : Int) ≤ 8192) then
                              if !end3 then
                                some true
                              else
                                (chunk_Reader_Done ((), ([] : List UInt8), r156.2.1, r156.2.2.1, j207.1)).bind fun r214 =>
                                if r214 then
                                  some true
                                else
                                  (chunk_Reader_Err ((), ([] : List UInt8), r156.2.1, r156.2.2.1, j207.1)).bind fun r215 =>
                                  some (!decide (r215 = 0))
                            else
                              some false
                          else
                            some false
                        else
                          if decide (((List.length r156.2.2.2.2.2.2.2.2 : Nat) : Int) ≤ 8192) then
                            if !end3 then
                              some true
                            else
                              (chunk_Reader_Done ((), ([] : List UInt8), r156.2.1, r156.2.2.1, j207.1)).bind fun r216 =>
                              if r216 then
                                some true
                              else
                                (chunk_Reader_Err ((), ([] : List UInt8), r156.2.1, r156.2.2.1, j207.1)).bind fun r217 =>
                                some (!decide (r217 = 0))
                          else
                            some false
                      else
                        some false
                    else
                      some false
                  else
                    some false
                else
                  some false
    | .inr (.inr (.inr (.inr r218))) =>
      none
  | .inr (.inr (.inr (.inr r219))) =>
    (chunk_New_w6 body1.1 body1.2).bind fun r220 => match r220 with
    | .inl r221 =>
      none
    | .inr (.inl r222) =>
      none
    | .inr (.inr (.inl r223)) =>
      none
    | .inr (.inr (.inr (.inl r224))) =>
      none
    | .inr (.inr (.inr (.inr r225))) =>
      (show Option (Bool) from
        if !r4 then
          some true
        else
          some false).bind fun j227 =>
        if j227 then
          (show Option (Bool) from
            if r4 then
              some (false == false)
            else
              some false).bind fun j229 =>
            some j229
        else
          (show Option ((List (UInt8))) from
            if decide (20000 < (List.length b2 : Int)) then
              (slL b2 0 20000).bind fun s232 =>
              some s232
            else
              some b2).bind fun j233 =>
            (chunk_Reader_Take_w3 j233 0 false 0 ([] : List UInt8)).bind fun r235 =>
            (law07_ChunkCuts_L260 j233 1099511627776 0 0 0 0 ([] : List UInt8)).bind fun j266 =>
              (show Option (Bool × Bool) from
                if end3 then
                  (chunk_Reader_End r235.2.1 false r235.2.2.1 ([] : List UInt8)).bind fun r273 =>
                  (chunk_Reader_End j266.2.1 false j266.2.2.1 ([] : List UInt8)).bind fun r275 =>
                  some (r273, r275)
                else
                  some (false, false)).bind fun j276 =>
                if decide (r235.2.2.2 = j266.2.2.2) then
                  if decide (r235.1 = j266.1) then
                    (chunk_Reader_Done ((), ([] : List UInt8), r235.2.1, j276.1, r235.2.2.1)).bind fun r277 =>
                    (chunk_Reader_Done ((), ([] : List UInt8), j266.2.1, j276.2, j266.2.2.1)).bind fun r278 =>
                    if r277 == r278 then
                      (chunk_Reader_Err ((), ([] : List UInt8), r235.2.1, j276.1, r235.2.2.1)).bind fun r279 =>
                      (chunk_Reader_Err ((), ([] : List UInt8), j266.2.1, j276.2, j266.2.2.1)).bind fun r280 =>
                      if decide (r279 = r280) then
                        (chunk_Reader_Done ((), ([] : List UInt8), r235.2.1, j276.1, r235.2.2.1)).bind fun r281 =>
                        if r281 then
                          (chunk_Reader_Err ((), ([] : List UInt8), r235.2.1, j276.1, r235.2.2.1)).bind fun r282 =>
                          if !(!decide (r282 = 0)) then
                            if decide (((List.length r235.2.2.2 : Nat) : Int) ≤ 8192) then
                              if !end3 then
                                some true
                              else
                                (chunk_Reader_Done ((), ([] : List UInt8), r235.2.1, j276.1, r235.2.2.1)).bind fun r283 =>
                                if r283 then
                                  some true
                                else
                                  (chunk_Reader_Err ((), ([] : List UInt8), r235.2.1, j276.1, r235.2.2.1)).bind fun r284 =>
                                  some (!decide (r284 = 0))
                            else
                              some false
                          else
                            some false
                        else
                          if decide (((List.length r235.2.2.2 : Nat) : Int) ≤ 8192) then
                            if !end3 then
                              some true
                            else
                              (chunk_Reader_Done ((), ([] : List UInt8), r235.2.1, j276.1, r235.2.2.1)).bind fun r285 =>
                              if r285 then
                                some true
                              else
                                (chunk_Reader_Err ((), ([] : List UInt8), r235.2.1, j276.1, r235.2.2.1)).bind fun r286 =>
                                some (!decide (r286 = 0))
                          else
                            some false
                      else
                        some false
                    else
                      some false
                  else
                    some false
                else
                  some false
set_option maxRecDepth 100000 in
set_option maxHeartbeats 40000000 in
theorem law07_ChunkCuts_ok {body1 : Int × Int} {b2 : List (UInt8)} {end3 : Bool} {r : Bool} (hP : law07_ChunkCuts body1 b2 end3 = some r) : CallOK Tryz.prog 5 [.agg [.int .i64 body1.1, .int .i64 body1.2], .view 1 (List.map encB b2), .bool end3] (.bool r) [] := by
  unfold law07_ChunkCuts at hP
  refine co 132 [.tmp 6] Tryz.func5 ?_
  refine J_seq ?_
  refine J_region (by kernel_rfl) ?_
  (try simp only [go_sem, Nat.reduceEqDiff, ↓reduceIte])
  refine hold2 (then_n ?_)
  refine J_seq ?_
  refine J_region (by kernel_rfl) ?_
  (try simp only [go_sem, Nat.reduceEqDiff, ↓reduceIte])
  obtain ⟨r4, hr4, hP⟩ := bind_cases hP
  refine call_ok [] (law07_shown_ok hr4) trivial ?_
  (try simp only [go_sem, Nat.reduceEqDiff, ↓reduceIte])
  refine hold2 (then_n ?_)
  refine J_seq ?_
  refine J_region (by kernel_rfl) ?_
  (try simp only [go_sem, Nat.reduceEqDiff, ↓reduceIte])
  obtain ⟨r5, hr5, hP⟩ := bind_cases hP
  rcases r5 with r6 | r62 | r73 | r141 | r219 <;> dsimp only at hP
  · refine call_pt [] [(1, .view 1 (List.map encB b2)), (2, .bool end3), (3, .bptr 0 0), (7, .bool r4)] [.box 32 [.int .i64 body1.1, .int .i64 body1.2], .box 46 [.iface 42 (.agg []), .own 2 0 0 (List.length ([] : List UInt8)), .int .i64 0, .bool true, .int .i64 0], .slice 0 5 1 (List.map encB ([] : List UInt8))] (.bptr 1 0) (chunk_New_w6_ok hr5) ⟨argP_r (by rfl), trivial⟩ (told_of (sm [0, 1, 2])) ?_
    (try simp only [go_sem, Nat.reduceEqDiff, ↓reduceIte])
    refine hold2 (then_n ?_)
    refine J_seq ?_
    refine J_region (by kernel_rfl) ?_
    (try simp only [go_sem, Nat.reduceEqDiff, ↓reduceIte])
    obtain ⟨r7, hr7, hP⟩ := bind_cases hP
    rcases r7 with r8 | r58 | r59 | r60 | r61 <;> dsimp only at hP
    · refine call_pt [] [(1, .view 1 (List.map encB b2)), (2, .bool end3), (7, .bool r4), (8, .bptr 0 0)] [.box 46 [.iface 42 (.agg []), .own 1 0 0 (List.length ([] : List UInt8)), .int .i64 0, .bool true, .int .i64 0], .slice 0 5 1 (List.map encB ([] : List UInt8)), .box 46 [.iface 42 (.agg []), .own 3 0 0 (List.length ([] : List UInt8)), .int .i64 0, .bool true, .int .i64 0], .slice 0 5 1 (List.map encB ([] : List UInt8))] (.bptr 2 0) (chunk_New_w6_ok hr7) ⟨argP_r (by rfl), trivial⟩ (told_of (sm [1, 2, 3, 4])) ?_
      (try simp only [go_sem, Nat.reduceEqDiff, ↓reduceIte])
      refine hold2 (then_n ?_)
      refine J_seq ?_
      obtain ⟨o9, hP, hQ9⟩ := bind_cases hP
      refine J_join (fun (s : Bool) => envL [(1, .view 1 (List.map encB b2)), (2, .bool end3), (7, .bool r4), (8, .bptr 0 0), (9, .bptr 2 0), (31, .bool s)]) (fun (s : Bool) => [.box 46 [.iface 42 (.agg []), .own 1 0 0 (List.length ([] : List UInt8)), .int .i64 0, .bool true, .int .i64 0], .slice 0 5 1 (List.map encB ([] : List UInt8)), .box 46 [.iface 42 (.agg []), .own 3 0 0 (List.length ([] : List UInt8)), .int .i64 0, .bool true, .int .i64 0], .slice 0 5 1 (List.map encB ([] : List UInt8))]) (fun s => s = o9) ?_ ?_
      · clear hQ9
        refine J_region (by kernel_rfl) ?_
        (try simp only [go_sem, Nat.reduceEqDiff, ↓reduceIte])
        rcases ite_cases hP with ⟨hc, hP⟩ | ⟨hc, hP⟩
        · refine guard_not hc ?_
          (try simp only [go_sem, Nat.reduceEqDiff, ↓reduceIte])
          refine hold2 ?_
          exact join_n true (Option.some.inj hP) (so [0, 1, 2, 3])
        · refine guard_is hc ?_
          (try simp only [go_sem, Nat.reduceEqDiff, ↓reduceIte])
          refine hold2 ?_
          exact join_n false (Option.some.inj hP) (so [0, 1, 2, 3])
      · intro j10 hs
        subst hs
        have hP := hQ9
        clear hQ9
        refine J_condV rfl ?_
        (try simp only [go_sem, Nat.reduceEqDiff, ↓reduceIte])
        rcases ite_cases hP with ⟨hc, hP⟩ | ⟨hc, hP⟩
        · refine condV_t hc ?_
          obtain ⟨o11, hP, hQ11⟩ := bind_cases hP
          refine J_join (fun (s : Bool) => envL [(6, .bool s)]) (fun (s : Bool) => []) (fun s => s = o11) ?_ ?_
          · clear hQ11
            refine J_region (by kernel_rfl) ?_
            (try simp only [go_sem, Nat.reduceEqDiff, ↓reduceIte])
            rcases ite_cases hP with ⟨hc, hP⟩ | ⟨hc, hP⟩
            · refine guard_is hc ?_
              (try simp only [go_sem, Nat.reduceEqDiff, ↓reduceIte])
              refine hold2 ?_
              exact join_n (false == false) (Option.some.inj hP) (so [])
            · refine guard_not hc ?_
              (try simp only [go_sem, Nat.reduceEqDiff, ↓reduceIte])
              refine hold2 ?_
              exact join_n false (Option.some.inj hP) (so [])
          · intro j12 hs
            subst hs
            have hP := hQ11
            clear hQ11
            refine J_ret (then_ret (fin_ret ?_))
            obtain rfl := Option.some.inj hP
            (try simp only [go_sem, Nat.reduceEqDiff, ↓reduceIte])
            exact fo []
        · refine condV_f hc ?_
          refine J_skip (then_n ?_)
          obtain ⟨o14, hP, hQ14⟩ := bind_cases hP
          refine J_join (fun (s : (List (UInt8))) => envL [(1, .view 1 (List.map encB s)), (2, .bool end3), (8, .bptr 0 0), (9, .bptr 2 0)]) (fun (s : (List (UInt8))) => [.box 46 [.iface 42 (.agg []), .own 1 0 0 (List.length ([] : List UInt8)), .int .i64 0, .bool true, .int .i64 0], .slice 0 5 1 (List.map encB ([] : List UInt8)), .box 46 [.iface 42 (.agg []), .own 3 0 0 (List.length ([] : List UInt8)), .int .i64 0, .bool true, .int .i64 0], .slice 0 5 1 (List.map encB ([] : List UInt8))]) (fun s => s = o14) ?_ ?_
          · clear hQ14
            refine J_seq ?_
            refine J_region (by kernel_rfl) ?_
            (try simp only [go_sem, Nat.reduceEqDiff, ↓reduceIte])
            refine hold2 (then_n ?_)
            refine J_condV rfl ?_
            (try simp only [go_sem, Nat.reduceEqDiff, ↓reduceIte])
            rcases ite_cases hP with ⟨hc, hP⟩ | ⟨hc, hP⟩
            · refine condV_t hc ?_
              refine J_region (by kernel_rfl) ?_
              (try simp only [go_sem, Nat.reduceEqDiff, ↓reduceIte])
              obtain ⟨s15, hs15, hP⟩ := bind_cases hP
              refine slV_of hs15 ?_
              (try simp only [go_sem, Nat.reduceEqDiff, ↓reduceIte])
              refine hold2 ?_
              exact join_n s15 (Option.some.inj hP) (so [0, 1, 2, 3])
            · refine condV_f hc ?_
              refine J_skip ?_
              exact join_n b2 (Option.some.inj hP) (so [0, 1, 2, 3])
          · intro j16 hs
            subst hs
            have hP := hQ14
            clear hQ14
            refine J_seq ?_
            refine J_region (by kernel_rfl) ?_
            (try simp only [go_sem, Nat.reduceEqDiff, ↓reduceIte])
            obtain ⟨r18, hr17, hP⟩ := bind_cases hP
            refine call_pt [0, 1] [(1, .view 1 (List.map encB j16)), (2, .bool end3), (8, .bptr 0 0), (9, .bptr 2 0)] [.box 46 [.iface 42 (.agg []), .own 1 0 0 (List.length ([] : List UInt8)), .int .i64 0, .bool true, .int .i64 0], .slice 0 5 1 (List.map encB ([] : List UInt8)), .box 46 [.iface 42 (.agg []), .own 3 0 0 (List.length ([] : List UInt8)), .int .i64 0, .bool true, .int .i64 0], .slice 0 5 1 (List.map encB ([] : List UInt8)), .slice 0 5 1 (List.map encB ([] : List UInt8))] (.tup [.own 4 0 0 (List.length ([] : List UInt8)), .int .i64 r18]) (chunk_Reader_Take_w4_ok hr17) ⟨argP_r (by rfl), argP_r (by rfl), trivial⟩ (told_of (sm [4, 5, 2, 3, 6])) ?_
            (try simp only [go_sem, Nat.reduceEqDiff, ↓reduceIte])
            refine hold2 (then_n ?_)
            refine J_seq ?_
            refine J_region (by kernel_rfl) ?_
            (try simp only [go_sem, Nat.reduceEqDiff, ↓reduceIte])
            refine hold2 (then_n ?_)
            refine J_seq ?_
            refine J_region (by kernel_rfl) ?_
            (try simp only [go_sem, Nat.reduceEqDiff, ↓reduceIte])
            refine hold2 (then_n ?_)
            refine J_seq ?_
            refine J_seq ?_
            refine J_region (by kernel_rfl) ?_
            (try simp only [go_sem, Nat.reduceEqDiff, ↓reduceIte])
            refine hold2 (then_n ?_)
            obtain ⟨o36, hP, hQ31⟩ := bind_cases hP
            refine J_joinK0 (fun (s : Int) => envL [(2, .bool end3), (8, .bptr 0 0), (9, .bptr 2 0), (10, .own 4 0 0 (List.length ([] : List UInt8))), (11, .int .i64 r18), (12, .own 5 0 0 (List.length ([] : List UInt8))), (13, .int .i64 s)]) (fun (s : Int) => [.box 46 [.iface 42 (.agg []), .own 1 0 0 (List.length ([] : List UInt8)), .int .i64 0, .bool true, .int .i64 0], .slice 0 5 1 (List.map encB ([] : List UInt8)), .box 46 [.iface 42 (.agg []), .own 3 0 0 (List.length ([] : List UInt8)), .int .i64 0, .bool true, .int .i64 0], .slice 0 5 1 (List.map encB ([] : List UInt8)), .slice 0 5 1 (List.map encB ([] : List UInt8)), .slice 0 5 1 (List.map encB ([] : List UInt8))]) (fun s => s = o36) ?_ ?_
            · clear hQ31
              refine J_block ?_
              refine J_loop (σ := Nat × Int × Int) (fun (s : Nat × Int × Int) => envL [(1, .view 1 (List.map encB j16)), (2, .bool end3), (8, .bptr 0 0), (9, .bptr 2 0), (10, .own 4 0 0 (List.length ([] : List UInt8))), (11, .int .i64 r18), (12, .own 5 0 0 (List.length ([] : List UInt8))), (13, .int .i64 s.2.1), (14, .int .i64 s.2.2)]) (fun (s : Nat × Int × Int) => [.box 46 [.iface 42 (.agg []), .own 1 0 0 (List.length ([] : List UInt8)), .int .i64 0, .bool true, .int .i64 0], .slice 0 5 1 (List.map encB ([] : List UInt8)), .box 46 [.iface 42 (.agg []), .own 3 0 0 (List.length ([] : List UInt8)), .int .i64 0, .bool true, .int .i64 0], .slice 0 5 1 (List.map encB ([] : List UInt8)), .slice 0 5 1 (List.map encB ([] : List UInt8)), .slice 0 5 1 (List.map encB ([] : List UInt8))]) (fun s => law07_ChunkCuts_L31 j16 s.1 s.2.1 s.2.2 = some o36) (fun s => s.1) (1099511627776, 0, 0) hP (so [0, 1, 2, 3, 4, 5]) ?_
              rintro ⟨k27, m25, i26⟩ hP
              dsimp only at hP ⊢
              cases k27 with
              | zero => simp [law07_ChunkCuts_L31] at hP
              | succ k27 =>
                simp only [law07_ChunkCuts_L31] at hP
                refine J_seq ?_
                refine J_seq ?_
                refine J_region (by kernel_rfl) ?_
                (try simp only [go_sem, Nat.reduceEqDiff, ↓reduceIte])
                refine hold2 (then_n ?_)
                refine J_condV rfl ?_
                (try simp only [go_sem, Nat.reduceEqDiff, ↓reduceIte])
                rcases ite_cases hP with ⟨hc, hP⟩ | ⟨hc, hP⟩
                · refine condV_t hc ?_
                  refine J_skip (then_n ?_)
                  refine J_seq ?_
                  refine J_block ?_
                  refine J_seq ?_
                  refine J_region (by kernel_rfl) ?_
                  (try simp only [go_sem, Nat.reduceEqDiff, ↓reduceIte])
                  obtain ⟨s32, hs32, hP⟩ := bind_cases hP
                  refine slV_of hs32 ?_
                  (try simp only [go_sem, Nat.reduceEqDiff, ↓reduceIte])
                  obtain ⟨r34, hr33, hP⟩ := bind_cases hP
                  refine call_pt [2, 3] [(1, .view 1 (List.map encB j16)), (2, .bool end3), (8, .bptr 0 0), (9, .bptr 2 0), (10, .own 4 0 0 (List.length ([] : List UInt8))), (11, .int .i64 r18), (12, .own 5 0 0 (List.length ([] : List UInt8))), (13, .int .i64 m25), (14, .int .i64 i26)] [.box 46 [.iface 42 (.agg []), .own 1 0 0 (List.length ([] : List UInt8)), .int .i64 0, .bool true, .int .i64 0], .slice 0 5 1 (List.map encB ([] : List UInt8)), .box 46 [.iface 42 (.agg []), .own 3 0 0 (List.length ([] : List UInt8)), .int .i64 0, .bool true, .int .i64 0], .slice 0 5 1 (List.map encB ([] : List UInt8)), .slice 0 5 1 (List.map encB ([] : List UInt8)), .slice 0 5 1 (List.map encB ([] : List UInt8)), .slice 0 5 1 (List.map encB ([] : List UInt8))] (.tup [.own 6 0 0 (List.length ([] : List UInt8)), .int .i64 r34]) (chunk_Reader_Take_w4_ok hr33) ⟨argP_r (by rfl), argP_r (by rfl), trivial⟩ (told_of (sm [0, 1, 6, 7, 4, 5, 8])) ?_
                  (try simp only [go_sem, Nat.reduceEqDiff, ↓reduceIte])
                  refine hold2 (then_n ?_)
                  refine J_seq ?_
                  refine J_region (by kernel_rfl) ?_
                  (try simp only [go_sem, Nat.reduceEqDiff, ↓reduceIte])
                  obtain ⟨_, hz35, hP⟩ := bind_cases hP
                  refine app_own (f := encB) (([] : List UInt8) : List (UInt8)) (([] : List UInt8) : List (UInt8)) rfl tyS_22 (by decide) (by simp only [go_sem, Nat.reduceEqDiff, ↓reduceIte]; first | done | rfl | exact ⟨rfl, rfl⟩) hz35 ?_
                  (try simp only [go_sem, Nat.reduceEqDiff, ↓reduceIte])
                  refine hold2 (then_n ?_)
                  refine J_seq ?_
                  refine J_region (by kernel_rfl) ?_
                  (try simp only [go_sem, Nat.reduceEqDiff, ↓reduceIte])
                  refine hold2 (then_n ?_)
                  refine J_seq ?_
                  refine J_region (by kernel_rfl) ?_
                  (try simp only [go_sem, Nat.reduceEqDiff, ↓reduceIte])
                  refine hold2 (then_n ?_)
                  refine J_condV rfl ?_
                  (try simp only [go_sem, Nat.reduceEqDiff, ↓reduceIte])
                  rcases ite_cases hP with ⟨hc, hP⟩ | ⟨hc, hP⟩
                  · refine condV_t hc ?_
                    refine J_exit (block_ne (by decide) (then_exit (loop_exit (block_eq ?_))))
                    exact join_n (iadd .i64 m25 r34) (Option.some.inj hP) (so [0, 1, 2, 3, 4, 5])
                  · refine condV_f hc ?_
                    refine J_skip (block_n (then_n ?_))
                    refine J_region (by kernel_rfl) ?_
                    (try simp only [go_sem, Nat.reduceEqDiff, ↓reduceIte])
                    refine hold2 ?_
                    exact loop_n (k27, iadd .i64 m25 r34, iadd .i64 i26 1) hP (Nat.lt_succ_self _) (so [0, 1, 2, 3, 4, 5])
                · refine condV_f hc ?_
                  refine J_exit (then_exit (loop_exit (block_eq ?_)))
                  exact join_n m25 (Option.some.inj hP) (so [0, 1, 2, 3, 4, 5])
            · intro j37 hs
              subst hs
              have hP := hQ31
              clear hQ31
              refine then_n ?_
              obtain ⟨o42, hP, hQ42⟩ := bind_cases hP
              refine J_join (fun (s : Unit) => envL [(2, .bool end3), (8, .bptr 0 0), (9, .bptr 2 0), (10, .own 4 0 0 (List.length ([] : List UInt8))), (11, .int .i64 r18), (12, .own 5 0 0 (List.length ([] : List UInt8))), (13, .int .i64 j37)]) (fun (s : Unit) => [.box 46 [.iface 42 (.agg []), .own 1 0 0 (List.length ([] : List UInt8)), .int .i64 0, .bool true, .int .i64 0], .slice 0 5 1 (List.map encB ([] : List UInt8)), .box 46 [.iface 42 (.agg []), .own 3 0 0 (List.length ([] : List UInt8)), .int .i64 0, .bool true, .int .i64 0], .slice 0 5 1 (List.map encB ([] : List UInt8)), .slice 0 5 1 (List.map encB ([] : List UInt8)), .slice 0 5 1 (List.map encB ([] : List UInt8))]) (fun s => s = o42) ?_ ?_
              · clear hQ42
                refine J_seq ?_
                refine J_region (by kernel_rfl) ?_
                (try simp only [go_sem, Nat.reduceEqDiff, ↓reduceIte])
                refine hold2 (then_n ?_)
                refine J_condV rfl ?_
                (try simp only [go_sem, Nat.reduceEqDiff, ↓reduceIte])
                rcases ite_cases hP with ⟨hc, hP⟩ | ⟨hc, hP⟩
                · refine condV_t hc ?_
                  refine J_seq ?_
                  refine J_region (by kernel_rfl) ?_
                  (try simp only [go_sem, Nat.reduceEqDiff, ↓reduceIte])
                  obtain ⟨r44, hr43, hP⟩ := bind_cases hP
                  refine call_pt [0, 1] [(2, .bool end3), (8, .bptr 0 0), (9, .bptr 2 0), (10, .own 4 0 0 (List.length ([] : List UInt8))), (11, .int .i64 r18), (12, .own 5 0 0 (List.length ([] : List UInt8))), (13, .int .i64 j37)] [.box 46 [.iface 42 (.agg []), .own 1 0 0 (List.length ([] : List UInt8)), .int .i64 0, .bool true, .int .i64 0], .slice 0 5 1 (List.map encB ([] : List UInt8)), .box 46 [.iface 42 (.agg []), .own 3 0 0 (List.length ([] : List UInt8)), .int .i64 0, .bool true, .int .i64 0], .slice 0 5 1 (List.map encB ([] : List UInt8)), .slice 0 5 1 (List.map encB ([] : List UInt8)), .slice 0 5 1 (List.map encB ([] : List UInt8))] (.tup []) (chunk_Reader_End_w3_ok hr43) ⟨argP_r (by rfl), trivial⟩ (told_of (sm [6, 7, 2, 3, 4, 5])) ?_
                  (try simp only [go_sem, Nat.reduceEqDiff, ↓reduceIte])
                  refine hold2 (then_n ?_)
                  refine J_region (by kernel_rfl) ?_
                  (try simp only [go_sem, Nat.reduceEqDiff, ↓reduceIte])
                  obtain ⟨r46, hr45, hP⟩ := bind_cases hP
                  refine call_pt [2, 3] [(2, .bool end3), (8, .bptr 0 0), (9, .bptr 2 0), (10, .own 4 0 0 (List.length ([] : List UInt8))), (11, .int .i64 r18), (12, .own 5 0 0 (List.length ([] : List UInt8))), (13, .int .i64 j37)] [.box 46 [.iface 42 (.agg []), .own 1 0 0 (List.length ([] : List UInt8)), .int .i64 0, .bool true, .int .i64 0], .slice 0 5 1 (List.map encB ([] : List UInt8)), .box 46 [.iface 42 (.agg []), .own 3 0 0 (List.length ([] : List UInt8)), .int .i64 0, .bool true, .int .i64 0], .slice 0 5 1 (List.map encB ([] : List UInt8)), .slice 0 5 1 (List.map encB ([] : List UInt8)), .slice 0 5 1 (List.map encB ([] : List UInt8))] (.tup []) (chunk_Reader_End_w3_ok hr45) ⟨argP_r (by rfl), trivial⟩ (told_of (sm [0, 1, 6, 7, 4, 5])) ?_
                  (try simp only [go_sem, Nat.reduceEqDiff, ↓reduceIte])
                  refine hold2 ?_
                  exact join_n () (Option.some.inj hP) (so [0, 1, 2, 3, 4, 5])
                · refine condV_f hc ?_
                  refine J_skip ?_
                  exact join_n () (Option.some.inj hP) (so [0, 1, 2, 3, 4, 5])
              · intro j47 hs
                subst hs
                have hP := hQ42
                clear hQ42
                refine J_seq ?_
                refine J_region (by kernel_rfl) ?_
                (try simp only [go_sem, Nat.reduceEqDiff, ↓reduceIte])
                first | refine bytesK_map ?_ | refine bytesK_of ([] : List UInt8) rfl ?_
                (try simp only [go_sem, Nat.reduceEqDiff, ↓reduceIte])
                first | refine bytesK_map ?_ | refine bytesK_of ([] : List UInt8) rfl ?_
                (try simp only [go_sem, Nat.reduceEqDiff, ↓reduceIte])
                rcases ite_cases hP with ⟨hc, hP⟩ | ⟨hc, hP⟩
                · refine guard_is hc ?_
                  (try conv => arg 5; simp only [go_sem, Nat.reduceEqDiff, ↓reduceIte])
                  (try simp only [go_sem, Nat.reduceEqDiff, ↓reduceIte])
                  rcases ite_cases hP with ⟨hc, hP⟩ | ⟨hc, hP⟩
                  · refine guard_is hc ?_
                    (try conv => arg 5; simp only [go_sem, Nat.reduceEqDiff, ↓reduceIte])
                    (try simp only [go_sem, Nat.reduceEqDiff, ↓reduceIte])
                    obtain ⟨r48, hr48, hP⟩ := bind_cases hP
                    refine call_ok [.vptr (.agg [.dead, .view 1 (List.map encB ([] : List UInt8)), .int .i64 0, .bool true, .int .i64 0]) 0] (chunk_Reader_Done_ok hr48) ⟨argR_box rfl ⟨argC_d, argC_m false (by simp only [arg, go_sem, Nat.reduceEqDiff, ↓reduceIte]), argC_m false rfl, argC_m false rfl, argC_m false rfl, trivial⟩, trivial⟩ ?_
                    (try simp only [go_sem, Nat.reduceEqDiff, ↓reduceIte])
                    obtain ⟨r49, hr49, hP⟩ := bind_cases hP
                    refine call_ok [.vptr (.agg [.dead, .view 1 (List.map encB ([] : List UInt8)), .int .i64 0, .bool true, .int .i64 0]) 0] (chunk_Reader_Done_ok hr49) ⟨argR_box rfl ⟨argC_d, argC_m false (by simp only [arg, go_sem, Nat.reduceEqDiff, ↓reduceIte]), argC_m false rfl, argC_m false rfl, argC_m false rfl, trivial⟩, trivial⟩ ?_
                    (try simp only [go_sem, Nat.reduceEqDiff, ↓reduceIte])
                    rcases ite_cases hP with ⟨hc, hP⟩ | ⟨hc, hP⟩
                    · refine guard_is hc ?_
                      (try conv => arg 5; simp only [go_sem, Nat.reduceEqDiff, ↓reduceIte])
                      (try simp only [go_sem, Nat.reduceEqDiff, ↓reduceIte])
                      obtain ⟨r50, hr50, hP⟩ := bind_cases hP
                      refine call_ok [.vptr (.agg [.dead, .view 1 (List.map encB ([] : List UInt8)), .int .i64 0, .bool true, .int .i64 0]) 0] (chunk_Reader_Err_ok hr50) ⟨argR_box rfl ⟨argC_d, argC_m false (by simp only [arg, go_sem, Nat.reduceEqDiff, ↓reduceIte]), argC_m false rfl, argC_m false rfl, argC_m false rfl, trivial⟩, trivial⟩ ?_
                      (try simp only [go_sem, Nat.reduceEqDiff, ↓reduceIte])
                      obtain ⟨r51, hr51, hP⟩ := bind_cases hP
                      refine call_ok [.vptr (.agg [.dead, .view 1 (List.map encB ([] : List UInt8)), .int .i64 0, .bool true, .int .i64 0]) 0] (chunk_Reader_Err_ok hr51) ⟨argR_box rfl ⟨argC_d, argC_m false (by simp only [arg, go_sem, Nat.reduceEqDiff, ↓reduceIte]), argC_m false rfl, argC_m false rfl, argC_m false rfl, trivial⟩, trivial⟩ ?_
                      (try simp only [go_sem, Nat.reduceEqDiff, ↓reduceIte])
                      rcases ite_cases hP with ⟨hc, hP⟩ | ⟨hc, hP⟩
                      · refine guard_is hc ?_
                        (try conv => arg 5; simp only [go_sem, Nat.reduceEqDiff, ↓reduceIte])
                        (try simp only [go_sem, Nat.reduceEqDiff, ↓reduceIte])
                        obtain ⟨r52, hr52, hP⟩ := bind_cases hP
                        refine call_ok [.vptr (.agg [.dead, .view 1 (List.map encB ([] : List UInt8)), .int .i64 0, .bool true, .int .i64 0]) 0] (chunk_Reader_Done_ok hr52) ⟨argR_box rfl ⟨argC_d, argC_m false (by simp only [arg, go_sem, Nat.reduceEqDiff, ↓reduceIte]), argC_m false rfl, argC_m false rfl, argC_m false rfl, trivial⟩, trivial⟩ ?_
                        (try simp only [go_sem, Nat.reduceEqDiff, ↓reduceIte])
                        rcases ite_cases hP with ⟨hc, hP⟩ | ⟨hc, hP⟩
                        · refine guard_is hc ?_
                          (try conv => arg 5; simp only [go_sem, Nat.reduceEqDiff, ↓reduceIte])
                          (try simp only [go_sem, Nat.reduceEqDiff, ↓reduceIte])
                          obtain ⟨r53, hr53, hP⟩ := bind_cases hP
                          refine call_ok [.vptr (.agg [.dead, .view 1 (List.map encB ([] : List UInt8)), .int .i64 0, .bool true, .int .i64 0]) 0] (chunk_Reader_Err_ok hr53) ⟨argR_box rfl ⟨argC_d, argC_m false (by simp only [arg, go_sem, Nat.reduceEqDiff, ↓reduceIte]), argC_m false rfl, argC_m false rfl, argC_m false rfl, trivial⟩, trivial⟩ ?_
                          (try simp only [go_sem, Nat.reduceEqDiff, ↓reduceIte])
                          rcases ite_cases hP with ⟨hc, hP⟩ | ⟨hc, hP⟩
                          · refine guard_is hc ?_
                            (try conv => arg 5; simp only [go_sem, Nat.reduceEqDiff, ↓reduceIte])
                            (try simp only [go_sem, Nat.reduceEqDiff, ↓reduceIte])
                            rcases ite_cases hP with ⟨hc, hP⟩ | ⟨hc, hP⟩
                            · refine guard_is hc ?_
                              (try conv => arg 5; simp only [go_sem, Nat.reduceEqDiff, ↓reduceIte])
                              (try simp only [go_sem, Nat.reduceEqDiff, ↓reduceIte])
                              rcases ite_cases hP with ⟨hc, hP⟩ | ⟨hc, hP⟩
                              · refine guard_not hc ?_
                                (try conv => arg 5; simp only [go_sem, Nat.reduceEqDiff, ↓reduceIte])
                                (try simp only [go_sem, Nat.reduceEqDiff, ↓reduceIte])
                                refine hold2 (then_n ?_)
                                refine J_ret (fin_ret ?_)
                                obtain rfl := Option.some.inj hP
                                (try simp only [go_sem, Nat.reduceEqDiff, ↓reduceIte])
                                exact fo []
                              · refine guard_is hc ?_
                                (try conv => arg 5; simp only [go_sem, Nat.reduceEqDiff, ↓reduceIte])
                                (try simp only [go_sem, Nat.reduceEqDiff, ↓reduceIte])
                                obtain ⟨r54, hr54, hP⟩ := bind_cases hP
                                refine call_ok [.vptr (.agg [.dead, .view 1 (List.map encB ([] : List UInt8)), .int .i64 0, .bool true, .int .i64 0]) 0] (chunk_Reader_Done_ok hr54) ⟨argR_box rfl ⟨argC_d, argC_m false (by simp only [arg, go_sem, Nat.reduceEqDiff, ↓reduceIte]), argC_m false rfl, argC_m false rfl, argC_m false rfl, trivial⟩, trivial⟩ ?_
                                (try simp only [go_sem, Nat.reduceEqDiff, ↓reduceIte])
                                rcases ite_cases hP with ⟨hc, hP⟩ | ⟨hc, hP⟩
                                · refine guard_not hc ?_
                                  (try conv => arg 5; simp only [go_sem, Nat.reduceEqDiff, ↓reduceIte])
                                  (try simp only [go_sem, Nat.reduceEqDiff, ↓reduceIte])
                                  refine hold2 (then_n ?_)
                                  refine J_ret (fin_ret ?_)
                                  obtain rfl := Option.some.inj hP
                                  (try simp only [go_sem, Nat.reduceEqDiff, ↓reduceIte])
                                  exact fo []
                                · refine guard_is hc ?_
                                  (try conv => arg 5; simp only [go_sem, Nat.reduceEqDiff, ↓reduceIte])
                                  (try simp only [go_sem, Nat.reduceEqDiff, ↓reduceIte])
                                  obtain ⟨r55, hr55, hP⟩ := bind_cases hP
                                  refine call_ok [.vptr (.agg [.dead, .view 1 (List.map encB ([] : List UInt8)), .int .i64 0, .bool true, .int .i64 0]) 0] (chunk_Reader_Err_ok hr55) ⟨argR_box rfl ⟨argC_d, argC_m false (by simp only [arg, go_sem, Nat.reduceEqDiff, ↓reduceIte]), argC_m false rfl, argC_m false rfl, argC_m false rfl, trivial⟩, trivial⟩ ?_
                                  (try simp only [go_sem, Nat.reduceEqDiff, ↓reduceIte])
                                  refine hold2 (then_n ?_)
                                  refine J_ret (fin_ret ?_)
                                  obtain rfl := Option.some.inj hP
                                  (try simp only [go_sem, Nat.reduceEqDiff, ↓reduceIte])
                                  exact fo []
                            · refine guard_not hc ?_
                              (try conv => arg 5; simp only [go_sem, Nat.reduceEqDiff, ↓reduceIte])
                              (try simp only [go_sem, Nat.reduceEqDiff, ↓reduceIte])
                              refine hold2 (then_n ?_)
                              refine J_ret (fin_ret ?_)
                              obtain rfl := Option.some.inj hP
                              (try simp only [go_sem, Nat.reduceEqDiff, ↓reduceIte])
                              exact fo []
                          · refine guard_not hc ?_
                            (try conv => arg 5; simp only [go_sem, Nat.reduceEqDiff, ↓reduceIte])
                            (try simp only [go_sem, Nat.reduceEqDiff, ↓reduceIte])
                            refine hold2 (then_n ?_)
                            refine J_ret (fin_ret ?_)
                            obtain rfl := Option.some.inj hP
                            (try simp only [go_sem, Nat.reduceEqDiff, ↓reduceIte])
                            exact fo []
                        · refine guard_not hc ?_
                          (try conv => arg 5; simp only [go_sem, Nat.reduceEqDiff, ↓reduceIte])
                          (try simp only [go_sem, Nat.reduceEqDiff, ↓reduceIte])
                          rcases ite_cases hP with ⟨hc, hP⟩ | ⟨hc, hP⟩
                          · refine guard_is hc ?_
                            (try conv => arg 5; simp only [go_sem, Nat.reduceEqDiff, ↓reduceIte])
                            (try simp only [go_sem, Nat.reduceEqDiff, ↓reduceIte])
                            rcases ite_cases hP with ⟨hc, hP⟩ | ⟨hc, hP⟩
                            · refine guard_not hc ?_
                              (try conv => arg 5; simp only [go_sem, Nat.reduceEqDiff, ↓reduceIte])
                              (try simp only [go_sem, Nat.reduceEqDiff, ↓reduceIte])
                              refine hold2 (then_n ?_)
                              refine J_ret (fin_ret ?_)
                              obtain rfl := Option.some.inj hP
                              (try simp only [go_sem, Nat.reduceEqDiff, ↓reduceIte])
                              exact fo []
                            · refine guard_is hc ?_
                              (try conv => arg 5; simp only [go_sem, Nat.reduceEqDiff, ↓reduceIte])
                              (try simp only [go_sem, Nat.reduceEqDiff, ↓reduceIte])
                              obtain ⟨r56, hr56, hP⟩ := bind_cases hP
                              refine call_ok [.vptr (.agg [.dead, .view 1 (List.map encB ([] : List UInt8)), .int .i64 0, .bool true, .int .i64 0]) 0] (chunk_Reader_Done_ok hr56) ⟨argR_box rfl ⟨argC_d, argC_m false (by simp only [arg, go_sem, Nat.reduceEqDiff, ↓reduceIte]), argC_m false rfl, argC_m false rfl, argC_m false rfl, trivial⟩, trivial⟩ ?_
                              (try simp only [go_sem, Nat.reduceEqDiff, ↓reduceIte])
                              rcases ite_cases hP with ⟨hc, hP⟩ | ⟨hc, hP⟩
                              · refine guard_not hc ?_
                                (try conv => arg 5; simp only [go_sem, Nat.reduceEqDiff, ↓reduceIte])
                                (try simp only [go_sem, Nat.reduceEqDiff, ↓reduceIte])
                                refine hold2 (then_n ?_)
                                refine J_ret (fin_ret ?_)
                                obtain rfl := Option.some.inj hP
                                (try simp only [go_sem, Nat.reduceEqDiff, ↓reduceIte])
                                exact fo []
                              · refine guard_is hc ?_
                                (try conv => arg 5; simp only [go_sem, Nat.reduceEqDiff, ↓reduceIte])
                                (try simp only [go_sem, Nat.reduceEqDiff, ↓reduceIte])
                                obtain ⟨r57, hr57, hP⟩ := bind_cases hP
                                refine call_ok [.vptr (.agg [.dead, .view 1 (List.map encB ([] : List UInt8)), .int .i64 0, .bool true, .int .i64 0]) 0] (chunk_Reader_Err_ok hr57) ⟨argR_box rfl ⟨argC_d, argC_m false (by simp only [arg, go_sem, Nat.reduceEqDiff, ↓reduceIte]), argC_m false rfl, argC_m false rfl, argC_m false rfl, trivial⟩, trivial⟩ ?_
                                (try simp only [go_sem, Nat.reduceEqDiff, ↓reduceIte])
                                refine hold2 (then_n ?_)
                                refine J_ret (fin_ret ?_)
                                obtain rfl := Option.some.inj hP
                                (try simp only [go_sem, Nat.reduceEqDiff, ↓reduceIte])
                                exact fo []
                          · refine guard_not hc ?_
                            (try conv => arg 5; simp only [go_sem, Nat.reduceEqDiff, ↓reduceIte])
                            (try simp only [go_sem, Nat.reduceEqDiff, ↓reduceIte])
                            refine hold2 (then_n ?_)
                            refine J_ret (fin_ret ?_)
                            obtain rfl := Option.some.inj hP
                            (try simp only [go_sem, Nat.reduceEqDiff, ↓reduceIte])
                            exact fo []
                      · refine guard_not hc ?_
                        (try conv => arg 5; simp only [go_sem, Nat.reduceEqDiff, ↓reduceIte])
                        (try simp only [go_sem, Nat.reduceEqDiff, ↓reduceIte])
                        refine hold2 (then_n ?_)
                        refine J_ret (fin_ret ?_)
                        obtain rfl := Option.some.inj hP
                        (try simp only [go_sem, Nat.reduceEqDiff, ↓reduceIte])
                        exact fo []
                    · refine guard_not hc ?_
                      (try conv => arg 5; simp only [go_sem, Nat.reduceEqDiff, ↓reduceIte])
                      (try simp only [go_sem, Nat.reduceEqDiff, ↓reduceIte])
                      refine hold2 (then_n ?_)
                      refine J_ret (fin_ret ?_)
                      obtain rfl := Option.some.inj hP
                      (try simp only [go_sem, Nat.reduceEqDiff, ↓reduceIte])
                      exact fo []
                  · refine guard_not hc ?_
                    (try conv => arg 5; simp only [go_sem, Nat.reduceEqDiff, ↓reduceIte])
                    (try simp only [go_sem, Nat.reduceEqDiff, ↓reduceIte])
                    refine hold2 (then_n ?_)
                    refine J_ret (fin_ret ?_)
                    obtain rfl := Option.some.inj hP
                    (try simp only [go_sem, Nat.reduceEqDiff, ↓reduceIte])
                    exact fo []
                · refine guard_not hc ?_
                  (try conv => arg 5; simp only [go_sem, Nat.reduceEqDiff, ↓reduceIte])
                  (try simp only [go_sem, Nat.reduceEqDiff, ↓reduceIte])
                  refine hold2 (then_n ?_)
                  refine J_ret (fin_ret ?_)
                  obtain rfl := Option.some.inj hP
                  (try simp only [go_sem, Nat.reduceEqDiff, ↓reduceIte])
                  exact fo []
    · cases hP
    · cases hP
    · cases hP
    · cases hP
  · refine call_pt [] [(1, .view 1 (List.map encB b2)), (2, .bool end3), (3, .bptr 0 0), (7, .bool r4)] [.box 32 [.int .i64 body1.1, .int .i64 body1.2]] (.sc (.pointer none)) (chunk_New_w6_ok hr5) ⟨argP_r (by rfl), trivial⟩ (told_of (sm [0])) ?_
    (try simp only [go_sem, Nat.reduceEqDiff, ↓reduceIte])
    refine hold2 (then_n ?_)
    refine J_seq ?_
    refine J_region (by kernel_rfl) ?_
    (try simp only [go_sem, Nat.reduceEqDiff, ↓reduceIte])
    obtain ⟨r63, hr63, hP⟩ := bind_cases hP
    rcases r63 with r64 | r65 | r70 | r71 | r72 <;> dsimp only at hP
    · cases hP
    · refine call_pt [] [(1, .view 1 (List.map encB b2)), (2, .bool end3), (7, .bool r4), (8, .sc (.pointer none))] [] (.sc (.pointer none)) (chunk_New_w6_ok hr63) ⟨argP_r (by rfl), trivial⟩ (told_of (sm [])) ?_
      (try simp only [go_sem, Nat.reduceEqDiff, ↓reduceIte])
      refine hold2 (then_n ?_)
      refine J_seq ?_
      obtain ⟨o66, hP, hQ66⟩ := bind_cases hP
      refine J_join (fun (s : Unit) => envL [(1, .view 1 (List.map encB b2)), (2, .bool end3), (7, .bool r4), (8, .sc (.pointer none)), (9, .sc (.pointer none)), (31, .bool true)]) (fun (s : Unit) => []) (fun s => s = o66) ?_ ?_
      · clear hQ66
        refine J_region (by kernel_rfl) ?_
        (try simp only [go_sem, Nat.reduceEqDiff, ↓reduceIte])
        rcases ite_cases hP with ⟨hc, hP⟩ | ⟨hc, hP⟩
        · refine guard_not hc ?_
          (try simp only [go_sem, Nat.reduceEqDiff, ↓reduceIte])
          refine hold2 ?_
          exact join_n () (Option.some.inj hP) (so [])
        · refine guard_is hc ?_
          (try simp only [go_sem, Nat.reduceEqDiff, ↓reduceIte])
          refine hold2 ?_
          exact join_n () (Option.some.inj hP) (so [])
      · intro j67 hs
        subst hs
        have hP := hQ66
        clear hQ66
        refine J_condV rfl ?_
        (try simp only [go_sem, Nat.reduceEqDiff, ↓reduceIte])
        obtain ⟨o68, hP, hQ68⟩ := bind_cases hP
        refine J_join (fun (s : Bool) => envL [(6, .bool s)]) (fun (s : Bool) => []) (fun s => s = o68) ?_ ?_
        · clear hQ68
          refine J_region (by kernel_rfl) ?_
          (try simp only [go_sem, Nat.reduceEqDiff, ↓reduceIte])
          rcases ite_cases hP with ⟨hc, hP⟩ | ⟨hc, hP⟩
          · refine guard_is hc ?_
            (try simp only [go_sem, Nat.reduceEqDiff, ↓reduceIte])
            refine hold2 ?_
            exact join_n (true == true) (Option.some.inj hP) (so [])
          · refine guard_not hc ?_
            (try simp only [go_sem, Nat.reduceEqDiff, ↓reduceIte])
            refine hold2 ?_
            exact join_n false (Option.some.inj hP) (so [])
        · intro j69 hs
          subst hs
          have hP := hQ68
          clear hQ68
          refine J_ret (then_ret (fin_ret ?_))
          obtain rfl := Option.some.inj hP
          (try simp only [go_sem, Nat.reduceEqDiff, ↓reduceIte])
          exact fo []
    · cases hP
    · cases hP
    · cases hP
  · refine call_pt [] [(1, .view 1 (List.map encB b2)), (2, .bool end3), (3, .bptr 0 0), (7, .bool r4)] [.box 32 [.int .i64 body1.1, .int .i64 body1.2], .box 46 [.iface 47 (.int .i64 body1.2), .own 2 0 0 (List.length ([] : List UInt8)), .int .i64 0, .bool (decide (body1.2 = 0)), .int .i64 0], .slice 0 5 1 (List.map encB ([] : List UInt8))] (.bptr 1 0) (chunk_New_w6_ok hr5) ⟨argP_r (by rfl), trivial⟩ (told_of (sm [0, 1, 2])) ?_
    (try simp only [go_sem, Nat.reduceEqDiff, ↓reduceIte])
    refine hold2 (then_n ?_)
    refine J_seq ?_
    refine J_region (by kernel_rfl) ?_
    (try simp only [go_sem, Nat.reduceEqDiff, ↓reduceIte])
    obtain ⟨r74, hr74, hP⟩ := bind_cases hP
    rcases r74 with r75 | r76 | r77 | r139 | r140 <;> dsimp only at hP
    · cases hP
    · cases hP
    · refine call_pt [] [(1, .view 1 (List.map encB b2)), (2, .bool end3), (7, .bool r4), (8, .bptr 0 0)] [.box 46 [.iface 47 (.int .i64 body1.2), .own 1 0 0 (List.length ([] : List UInt8)), .int .i64 0, .bool (decide (body1.2 = 0)), .int .i64 0], .slice 0 5 1 (List.map encB ([] : List UInt8)), .box 46 [.iface 47 (.int .i64 body1.2), .own 3 0 0 (List.length ([] : List UInt8)), .int .i64 0, .bool (decide (body1.2 = 0)), .int .i64 0], .slice 0 5 1 (List.map encB ([] : List UInt8))] (.bptr 2 0) (chunk_New_w6_ok hr74) ⟨argP_r (by rfl), trivial⟩ (told_of (sm [1, 2, 3, 4])) ?_
      (try simp only [go_sem, Nat.reduceEqDiff, ↓reduceIte])
      refine hold2 (then_n ?_)
      refine J_seq ?_
      obtain ⟨o78, hP, hQ78⟩ := bind_cases hP
      refine J_join (fun (s : Bool) => envL [(1, .view 1 (List.map encB b2)), (2, .bool end3), (7, .bool r4), (8, .bptr 0 0), (9, .bptr 2 0), (31, .bool s)]) (fun (s : Bool) => [.box 46 [.iface 47 (.int .i64 body1.2), .own 1 0 0 (List.length ([] : List UInt8)), .int .i64 0, .bool (decide (body1.2 = 0)), .int .i64 0], .slice 0 5 1 (List.map encB ([] : List UInt8)), .box 46 [.iface 47 (.int .i64 body1.2), .own 3 0 0 (List.length ([] : List UInt8)), .int .i64 0, .bool (decide (body1.2 = 0)), .int .i64 0], .slice 0 5 1 (List.map encB ([] : List UInt8))]) (fun s => s = o78) ?_ ?_
      · clear hQ78
        refine J_region (by kernel_rfl) ?_
        (try simp only [go_sem, Nat.reduceEqDiff, ↓reduceIte])
        rcases ite_cases hP with ⟨hc, hP⟩ | ⟨hc, hP⟩
        · refine guard_not hc ?_
          (try simp only [go_sem, Nat.reduceEqDiff, ↓reduceIte])
          refine hold2 ?_
          exact join_n true (Option.some.inj hP) (so [0, 1, 2, 3])
        · refine guard_is hc ?_
          (try simp only [go_sem, Nat.reduceEqDiff, ↓reduceIte])
          refine hold2 ?_
          exact join_n false (Option.some.inj hP) (so [0, 1, 2, 3])
      · intro j79 hs
        subst hs
        have hP := hQ78
        clear hQ78
        refine J_condV rfl ?_
        (try simp only [go_sem, Nat.reduceEqDiff, ↓reduceIte])
        rcases ite_cases hP with ⟨hc, hP⟩ | ⟨hc, hP⟩
        · refine condV_t hc ?_
          obtain ⟨o80, hP, hQ80⟩ := bind_cases hP
          refine J_join (fun (s : Bool) => envL [(6, .bool s)]) (fun (s : Bool) => []) (fun s => s = o80) ?_ ?_
          · clear hQ80
            refine J_region (by kernel_rfl) ?_
            (try simp only [go_sem, Nat.reduceEqDiff, ↓reduceIte])
            rcases ite_cases hP with ⟨hc, hP⟩ | ⟨hc, hP⟩
            · refine guard_is hc ?_
              (try simp only [go_sem, Nat.reduceEqDiff, ↓reduceIte])
              refine hold2 ?_
              exact join_n (false == false) (Option.some.inj hP) (so [])
            · refine guard_not hc ?_
              (try simp only [go_sem, Nat.reduceEqDiff, ↓reduceIte])
              refine hold2 ?_
              exact join_n false (Option.some.inj hP) (so [])
          · intro j81 hs
            subst hs
            have hP := hQ80
            clear hQ80
            refine J_ret (then_ret (fin_ret ?_))
            obtain rfl := Option.some.inj hP
            (try simp only [go_sem, Nat.reduceEqDiff, ↓reduceIte])
            exact fo []
        · refine condV_f hc ?_
          refine J_skip (then_n ?_)
          obtain ⟨o83, hP, hQ83⟩ := bind_cases hP
          refine J_join (fun (s : (List (UInt8))) => envL [(1, .view 1 (List.map encB s)), (2, .bool end3), (8, .bptr 0 0), (9, .bptr 2 0)]) (fun (s : (List (UInt8))) => [.box 46 [.iface 47 (.int .i64 body1.2), .own 1 0 0 (List.length ([] : List UInt8)), .int .i64 0, .bool (decide (body1.2 = 0)), .int .i64 0], .slice 0 5 1 (List.map encB ([] : List UInt8)), .box 46 [.iface 47 (.int .i64 body1.2), .own 3 0 0 (List.length ([] : List UInt8)), .int .i64 0, .bool (decide (body1.2 = 0)), .int .i64 0], .slice 0 5 1 (List.map encB ([] : List UInt8))]) (fun s => s = o83) ?_ ?_
          · clear hQ83
            refine J_seq ?_
            refine J_region (by kernel_rfl) ?_
            (try simp only [go_sem, Nat.reduceEqDiff, ↓reduceIte])
            refine hold2 (then_n ?_)
            refine J_condV rfl ?_
            (try simp only [go_sem, Nat.reduceEqDiff, ↓reduceIte])
            rcases ite_cases hP with ⟨hc, hP⟩ | ⟨hc, hP⟩
            · refine condV_t hc ?_
              refine J_region (by kernel_rfl) ?_
              (try simp only [go_sem, Nat.reduceEqDiff, ↓reduceIte])
              obtain ⟨s84, hs84, hP⟩ := bind_cases hP
              refine slV_of hs84 ?_
              (try simp only [go_sem, Nat.reduceEqDiff, ↓reduceIte])
              refine hold2 ?_
              exact join_n s84 (Option.some.inj hP) (so [0, 1, 2, 3])
            · refine condV_f hc ?_
              refine J_skip ?_
              exact join_n b2 (Option.some.inj hP) (so [0, 1, 2, 3])
          · intro j85 hs
            subst hs
            have hP := hQ83
            clear hQ83
            refine J_seq ?_
            refine J_region (by kernel_rfl) ?_
            (try simp only [go_sem, Nat.reduceEqDiff, ↓reduceIte])
            obtain ⟨r87, hr86, hP⟩ := bind_cases hP
            refine call_pt [0, 1] [(1, .view 1 (List.map encB j85)), (2, .bool end3), (8, .bptr 0 0), (9, .bptr 2 0)] [.box 46 [.iface 47 (.int .i64 body1.2), .own 1 0 0 (List.length ([] : List UInt8)), .int .i64 r87.2.1, .bool r87.2.2.1, .int .i64 0], .slice 0 5 1 (List.map encB ([] : List UInt8)), .box 46 [.iface 47 (.int .i64 body1.2), .own 3 0 0 (List.length ([] : List UInt8)), .int .i64 0, .bool (decide (body1.2 = 0)), .int .i64 0], .slice 0 5 1 (List.map encB ([] : List UInt8)), .slice 0 5 1 (List.map encB r87.2.2.2)] (.tup [.own 4 0 0 (List.length r87.2.2.2), .int .i64 r87.1]) (chunk_Reader_Take_w2_ok hr86) ⟨argP_r (by rfl), argP_r (by rfl), trivial⟩ (told_of (sm [4, 5, 2, 3, 6])) ?_
            (try simp only [go_sem, Nat.reduceEqDiff, ↓reduceIte])
            refine hold2 (then_n ?_)
            refine J_seq ?_
            refine J_region (by kernel_rfl) ?_
            (try simp only [go_sem, Nat.reduceEqDiff, ↓reduceIte])
            refine hold2 (then_n ?_)
            refine J_seq ?_
            refine J_region (by kernel_rfl) ?_
            (try simp only [go_sem, Nat.reduceEqDiff, ↓reduceIte])
            refine hold2 (then_n ?_)
            refine J_seq ?_
            refine J_seq ?_
            refine J_region (by kernel_rfl) ?_
            (try simp only [go_sem, Nat.reduceEqDiff, ↓reduceIte])
            refine hold2 (then_n ?_)
            obtain ⟨o117, hP, hQ112⟩ := bind_cases hP
            refine J_joinK0 (fun (s : Int × Int × Bool × (List (UInt8))) => envL [(2, .bool end3), (8, .bptr 0 0), (9, .bptr 2 0), (10, .own 4 0 0 (List.length r87.2.2.2)), (11, .int .i64 r87.1), (12, .own 5 0 0 (List.length s.2.2.2)), (13, .int .i64 s.1)]) (fun (s : Int × Int × Bool × (List (UInt8))) => [.box 46 [.iface 47 (.int .i64 body1.2), .own 1 0 0 (List.length ([] : List UInt8)), .int .i64 r87.2.1, .bool r87.2.2.1, .int .i64 0], .slice 0 5 1 (List.map encB ([] : List UInt8)), .box 46 [.iface 47 (.int .i64 body1.2), .own 3 0 0 (List.length ([] : List UInt8)), .int .i64 s.2.1, .bool s.2.2.1, .int .i64 0], .slice 0 5 1 (List.map encB ([] : List UInt8)), .slice 0 5 1 (List.map encB r87.2.2.2), .slice 0 5 1 (List.map encB s.2.2.2)]) (fun s => s = o117) ?_ ?_
            · clear hQ112
              refine J_block ?_
              refine J_loop (σ := Nat × Int × Int × Int × Bool × (List (UInt8))) (fun (s : Nat × Int × Int × Int × Bool × (List (UInt8))) => envL [(1, .view 1 (List.map encB j85)), (2, .bool end3), (8, .bptr 0 0), (9, .bptr 2 0), (10, .own 4 0 0 (List.length r87.2.2.2)), (11, .int .i64 r87.1), (12, .own 5 0 0 (List.length s.2.2.2.2.2)), (13, .int .i64 s.2.1), (14, .int .i64 s.2.2.1)]) (fun (s : Nat × Int × Int × Int × Bool × (List (UInt8))) => [.box 46 [.iface 47 (.int .i64 body1.2), .own 1 0 0 (List.length ([] : List UInt8)), .int .i64 r87.2.1, .bool r87.2.2.1, .int .i64 0], .slice 0 5 1 (List.map encB ([] : List UInt8)), .box 46 [.iface 47 (.int .i64 body1.2), .own 3 0 0 (List.length ([] : List UInt8)), .int .i64 s.2.2.2.1, .bool s.2.2.2.2.1, .int .i64 0], .slice 0 5 1 (List.map encB ([] : List UInt8)), .slice 0 5 1 (List.map encB r87.2.2.2), .slice 0 5 1 (List.map encB s.2.2.2.2.2)]) (fun s => law07_ChunkCuts_L112 j85 body1 s.1 s.2.1 s.2.2.1 s.2.2.2.1 s.2.2.2.2.1 s.2.2.2.2.2 = some o117) (fun s => s.1) (1099511627776, 0, 0, 0, decide (body1.2 = 0), ([] : List UInt8)) hP (so [0, 1, 2, 3, 4, 5]) ?_
              rintro ⟨k108, m103, i104, l105, l106, l107⟩ hP
              dsimp only at hP ⊢
              cases k108 with
              | zero => simp [law07_ChunkCuts_L112] at hP
              | succ k108 =>
                simp only [law07_ChunkCuts_L112] at hP
                refine J_seq ?_
                refine J_seq ?_
                refine J_region (by kernel_rfl) ?_
                (try simp only [go_sem, Nat.reduceEqDiff, ↓reduceIte])
                refine hold2 (then_n ?_)
                refine J_condV rfl ?_
                (try simp only [go_sem, Nat.reduceEqDiff, ↓reduceIte])
                rcases ite_cases hP with ⟨hc, hP⟩ | ⟨hc, hP⟩
                · refine condV_t hc ?_
                  refine J_skip (then_n ?_)
                  refine J_seq ?_
                  refine J_block ?_
                  refine J_seq ?_
                  refine J_region (by kernel_rfl) ?_
                  (try simp only [go_sem, Nat.reduceEqDiff, ↓reduceIte])
                  obtain ⟨s113, hs113, hP⟩ := bind_cases hP
                  refine slV_of hs113 ?_
                  (try simp only [go_sem, Nat.reduceEqDiff, ↓reduceIte])
                  obtain ⟨r115, hr114, hP⟩ := bind_cases hP
                  refine call_pt [2, 3] [(1, .view 1 (List.map encB j85)), (2, .bool end3), (8, .bptr 0 0), (9, .bptr 2 0), (10, .own 4 0 0 (List.length r87.2.2.2)), (11, .int .i64 r87.1), (12, .own 5 0 0 (List.length l107)), (13, .int .i64 m103), (14, .int .i64 i104)] [.box 46 [.iface 47 (.int .i64 body1.2), .own 1 0 0 (List.length ([] : List UInt8)), .int .i64 r87.2.1, .bool r87.2.2.1, .int .i64 0], .slice 0 5 1 (List.map encB ([] : List UInt8)), .box 46 [.iface 47 (.int .i64 body1.2), .own 3 0 0 (List.length ([] : List UInt8)), .int .i64 r115.2.1, .bool r115.2.2.1, .int .i64 0], .slice 0 5 1 (List.map encB ([] : List UInt8)), .slice 0 5 1 (List.map encB r87.2.2.2), .slice 0 5 1 (List.map encB l107), .slice 0 5 1 (List.map encB r115.2.2.2)] (.tup [.own 6 0 0 (List.length r115.2.2.2), .int .i64 r115.1]) (chunk_Reader_Take_w2_ok hr114) ⟨argP_r (by rfl), argP_r (by rfl), trivial⟩ (told_of (sm [0, 1, 6, 7, 4, 5, 8])) ?_
                  (try simp only [go_sem, Nat.reduceEqDiff, ↓reduceIte])
                  refine hold2 (then_n ?_)
                  refine J_seq ?_
                  refine J_region (by kernel_rfl) ?_
                  (try simp only [go_sem, Nat.reduceEqDiff, ↓reduceIte])
                  obtain ⟨_, hz116, hP⟩ := bind_cases hP
                  refine app_own (f := encB) (l107 : List (UInt8)) (r115.2.2.2 : List (UInt8)) rfl tyS_22 (by decide) (by simp only [go_sem, Nat.reduceEqDiff, ↓reduceIte]; first | done | rfl | exact ⟨rfl, rfl⟩) hz116 ?_
                  (try simp only [go_sem, Nat.reduceEqDiff, ↓reduceIte])
                  refine hold2 (then_n ?_)
                  refine J_seq ?_
                  refine J_region (by kernel_rfl) ?_
                  (try simp only [go_sem, Nat.reduceEqDiff, ↓reduceIte])
                  refine hold2 (then_n ?_)
                  refine J_seq ?_
                  refine J_region (by kernel_rfl) ?_
                  (try simp only [go_sem, Nat.reduceEqDiff, ↓reduceIte])
                  refine hold2 (then_n ?_)
                  refine J_condV rfl ?_
                  (try simp only [go_sem, Nat.reduceEqDiff, ↓reduceIte])
                  rcases ite_cases hP with ⟨hc, hP⟩ | ⟨hc, hP⟩
                  · refine condV_t hc ?_
                    refine J_exit (block_ne (by decide) (then_exit (loop_exit (block_eq ?_))))
                    exact join_n (iadd .i64 m103 r115.1, r115.2.1, r115.2.2.1, l107 ++ r115.2.2.2) (Option.some.inj hP) (so [0, 1, 2, 3, 4, 5])
                  · refine condV_f hc ?_
                    refine J_skip (block_n (then_n ?_))
                    refine J_region (by kernel_rfl) ?_
                    (try simp only [go_sem, Nat.reduceEqDiff, ↓reduceIte])
                    refine hold2 ?_
                    exact loop_n (k108, iadd .i64 m103 r115.1, iadd .i64 i104 1, r115.2.1, r115.2.2.1, l107 ++ r115.2.2.2) hP (Nat.lt_succ_self _) (so [0, 1, 2, 3, 4, 5])
                · refine condV_f hc ?_
                  refine J_exit (then_exit (loop_exit (block_eq ?_)))
                  exact join_n (m103, l105, l106, l107) (Option.some.inj hP) (so [0, 1, 2, 3, 4, 5])
            · intro j118 hs
              subst hs
              have hP := hQ112
              clear hQ112
              refine then_n ?_
              obtain ⟨o123, hP, hQ123⟩ := bind_cases hP
              refine J_join (fun (s : Int × Int) => envL [(2, .bool end3), (8, .bptr 0 0), (9, .bptr 2 0), (10, .own 4 0 0 (List.length r87.2.2.2)), (11, .int .i64 r87.1), (12, .own 5 0 0 (List.length j118.2.2.2)), (13, .int .i64 j118.1)]) (fun (s : Int × Int) => [.box 46 [.iface 47 (.int .i64 body1.2), .own 1 0 0 (List.length ([] : List UInt8)), .int .i64 r87.2.1, .bool r87.2.2.1, .int .i64 s.1], .slice 0 5 1 (List.map encB ([] : List UInt8)), .box 46 [.iface 47 (.int .i64 body1.2), .own 3 0 0 (List.length ([] : List UInt8)), .int .i64 j118.2.1, .bool j118.2.2.1, .int .i64 s.2], .slice 0 5 1 (List.map encB ([] : List UInt8)), .slice 0 5 1 (List.map encB r87.2.2.2), .slice 0 5 1 (List.map encB j118.2.2.2)]) (fun s => s = o123) ?_ ?_
              · clear hQ123
                refine J_seq ?_
                refine J_region (by kernel_rfl) ?_
                (try simp only [go_sem, Nat.reduceEqDiff, ↓reduceIte])
                refine hold2 (then_n ?_)
                refine J_condV rfl ?_
                (try simp only [go_sem, Nat.reduceEqDiff, ↓reduceIte])
                rcases ite_cases hP with ⟨hc, hP⟩ | ⟨hc, hP⟩
                · refine condV_t hc ?_
                  refine J_seq ?_
                  refine J_region (by kernel_rfl) ?_
                  (try simp only [go_sem, Nat.reduceEqDiff, ↓reduceIte])
                  obtain ⟨r125, hr124, hP⟩ := bind_cases hP
                  refine call_pt [0, 1] [(2, .bool end3), (8, .bptr 0 0), (9, .bptr 2 0), (10, .own 4 0 0 (List.length r87.2.2.2)), (11, .int .i64 r87.1), (12, .own 5 0 0 (List.length j118.2.2.2)), (13, .int .i64 j118.1)] [.box 46 [.iface 47 (.int .i64 body1.2), .own 1 0 0 (List.length ([] : List UInt8)), .int .i64 r87.2.1, .bool r87.2.2.1, .int .i64 r125], .slice 0 5 1 (List.map encB ([] : List UInt8)), .box 46 [.iface 47 (.int .i64 body1.2), .own 3 0 0 (List.length ([] : List UInt8)), .int .i64 j118.2.1, .bool j118.2.2.1, .int .i64 0], .slice 0 5 1 (List.map encB ([] : List UInt8)), .slice 0 5 1 (List.map encB r87.2.2.2), .slice 0 5 1 (List.map encB j118.2.2.2)] (.tup []) (chunk_Reader_End_w2_ok hr124) ⟨argP_r (by rfl), trivial⟩ (told_of (sm [6, 7, 2, 3, 4, 5])) ?_
                  (try simp only [go_sem, Nat.reduceEqDiff, ↓reduceIte])
                  refine hold2 (then_n ?_)
                  refine J_region (by kernel_rfl) ?_
                  (try simp only [go_sem, Nat.reduceEqDiff, ↓reduceIte])
                  obtain ⟨r127, hr126, hP⟩ := bind_cases hP
                  refine call_pt [2, 3] [(2, .bool end3), (8, .bptr 0 0), (9, .bptr 2 0), (10, .own 4 0 0 (List.length r87.2.2.2)), (11, .int .i64 r87.1), (12, .own 5 0 0 (List.length j118.2.2.2)), (13, .int .i64 j118.1)] [.box 46 [.iface 47 (.int .i64 body1.2), .own 1 0 0 (List.length ([] : List UInt8)), .int .i64 r87.2.1, .bool r87.2.2.1, .int .i64 r125], .slice 0 5 1 (List.map encB ([] : List UInt8)), .box 46 [.iface 47 (.int .i64 body1.2), .own 3 0 0 (List.length ([] : List UInt8)), .int .i64 j118.2.1, .bool j118.2.2.1, .int .i64 r127], .slice 0 5 1 (List.map encB ([] : List UInt8)), .slice 0 5 1 (List.map encB r87.2.2.2), .slice 0 5 1 (List.map encB j118.2.2.2)] (.tup []) (chunk_Reader_End_w2_ok hr126) ⟨argP_r (by rfl), trivial⟩ (told_of (sm [0, 1, 6, 7, 4, 5])) ?_
                  (try simp only [go_sem, Nat.reduceEqDiff, ↓reduceIte])
                  refine hold2 ?_
                  exact join_n (r125, r127) (Option.some.inj hP) (so [0, 1, 2, 3, 4, 5])
                · refine condV_f hc ?_
                  refine J_skip ?_
                  exact join_n (0, 0) (Option.some.inj hP) (so [0, 1, 2, 3, 4, 5])
              · intro j128 hs
                subst hs
                have hP := hQ123
                clear hQ123
                refine J_seq ?_
                refine J_region (by kernel_rfl) ?_
                (try simp only [go_sem, Nat.reduceEqDiff, ↓reduceIte])
                first | refine bytesK_map ?_ | refine bytesK_of r87.2.2.2 rfl ?_
                (try simp only [go_sem, Nat.reduceEqDiff, ↓reduceIte])
                first | refine bytesK_map ?_ | refine bytesK_of j118.2.2.2 rfl ?_
                (try simp only [go_sem, Nat.reduceEqDiff, ↓reduceIte])
                rcases ite_cases hP with ⟨hc, hP⟩ | ⟨hc, hP⟩
                · refine guard_is hc ?_
                  (try conv => arg 5; simp only [go_sem, Nat.reduceEqDiff, ↓reduceIte])
                  (try simp only [go_sem, Nat.reduceEqDiff, ↓reduceIte])
                  rcases ite_cases hP with ⟨hc, hP⟩ | ⟨hc, hP⟩
                  · refine guard_is hc ?_
                    (try conv => arg 5; simp only [go_sem, Nat.reduceEqDiff, ↓reduceIte])
                    (try simp only [go_sem, Nat.reduceEqDiff, ↓reduceIte])
                    obtain ⟨r129, hr129, hP⟩ := bind_cases hP
                    refine call_ok [.vptr (.agg [.dead, .view 1 (List.map encB ([] : List UInt8)), .int .i64 r87.2.1, .bool r87.2.2.1, .int .i64 j128.1]) 0] (chunk_Reader_Done_ok hr129) ⟨argR_box rfl ⟨argC_d, argC_m false (by simp only [arg, go_sem, Nat.reduceEqDiff, ↓reduceIte]), argC_m false rfl, argC_m false rfl, argC_m false rfl, trivial⟩, trivial⟩ ?_
                    (try simp only [go_sem, Nat.reduceEqDiff, ↓reduceIte])
                    obtain ⟨r130, hr130, hP⟩ := bind_cases hP
                    refine call_ok [.vptr (.agg [.dead, .view 1 (List.map encB ([] : List UInt8)), .int .i64 j118.2.1, .bool j118.2.2.1, .int .i64 j128.2]) 0] (chunk_Reader_Done_ok hr130) ⟨argR_box rfl ⟨argC_d, argC_m false (by simp only [arg, go_sem, Nat.reduceEqDiff, ↓reduceIte]), argC_m false rfl, argC_m false rfl, argC_m false rfl, trivial⟩, trivial⟩ ?_
                    (try simp only [go_sem, Nat.reduceEqDiff, ↓reduceIte])
                    rcases ite_cases hP with ⟨hc, hP⟩ | ⟨hc, hP⟩
                    · refine guard_is hc ?_
                      (try conv => arg 5; simp only [go_sem, Nat.reduceEqDiff, ↓reduceIte])
                      (try simp only [go_sem, Nat.reduceEqDiff, ↓reduceIte])
                      obtain ⟨r131, hr131, hP⟩ := bind_cases hP
                      refine call_ok [.vptr (.agg [.dead, .view 1 (List.map encB ([] : List UInt8)), .int .i64 r87.2.1, .bool r87.2.2.1, .int .i64 j128.1]) 0] (chunk_Reader_Err_ok hr131) ⟨argR_box rfl ⟨argC_d, argC_m false (by simp only [arg, go_sem, Nat.reduceEqDiff, ↓reduceIte]), argC_m false rfl, argC_m false rfl, argC_m false rfl, trivial⟩, trivial⟩ ?_
                      (try simp only [go_sem, Nat.reduceEqDiff, ↓reduceIte])
                      obtain ⟨r132, hr132, hP⟩ := bind_cases hP
                      refine call_ok [.vptr (.agg [.dead, .view 1 (List.map encB ([] : List UInt8)), .int .i64 j118.2.1, .bool j118.2.2.1, .int .i64 j128.2]) 0] (chunk_Reader_Err_ok hr132) ⟨argR_box rfl ⟨argC_d, argC_m false (by simp only [arg, go_sem, Nat.reduceEqDiff, ↓reduceIte]), argC_m false rfl, argC_m false rfl, argC_m false rfl, trivial⟩, trivial⟩ ?_
                      (try simp only [go_sem, Nat.reduceEqDiff, ↓reduceIte])
                      rcases ite_cases hP with ⟨hc, hP⟩ | ⟨hc, hP⟩
                      · refine guard_is hc ?_
                        (try conv => arg 5; simp only [go_sem, Nat.reduceEqDiff, ↓reduceIte])
                        (try simp only [go_sem, Nat.reduceEqDiff, ↓reduceIte])
                        obtain ⟨r133, hr133, hP⟩ := bind_cases hP
                        refine call_ok [.vptr (.agg [.dead, .view 1 (List.map encB ([] : List UInt8)), .int .i64 r87.2.1, .bool r87.2.2.1, .int .i64 j128.1]) 0] (chunk_Reader_Done_ok hr133) ⟨argR_box rfl ⟨argC_d, argC_m false (by simp only [arg, go_sem, Nat.reduceEqDiff, ↓reduceIte]), argC_m false rfl, argC_m false rfl, argC_m false rfl, trivial⟩, trivial⟩ ?_
                        (try simp only [go_sem, Nat.reduceEqDiff, ↓reduceIte])
                        rcases ite_cases hP with ⟨hc, hP⟩ | ⟨hc, hP⟩
                        · refine guard_is hc ?_
                          (try conv => arg 5; simp only [go_sem, Nat.reduceEqDiff, ↓reduceIte])
                          (try simp only [go_sem, Nat.reduceEqDiff, ↓reduceIte])
                          obtain ⟨r134, hr134, hP⟩ := bind_cases hP
                          refine call_ok [.vptr (.agg [.dead, .view 1 (List.map encB ([] : List UInt8)), .int .i64 r87.2.1, .bool r87.2.2.1, .int .i64 j128.1]) 0] (chunk_Reader_Err_ok hr134) ⟨argR_box rfl ⟨argC_d, argC_m false (by simp only [arg, go_sem, Nat.reduceEqDiff, ↓reduceIte]), argC_m false rfl, argC_m false rfl, argC_m false rfl, trivial⟩, trivial⟩ ?_
                          (try simp only [go_sem, Nat.reduceEqDiff, ↓reduceIte])
                          rcases ite_cases hP with ⟨hc, hP⟩ | ⟨hc, hP⟩
                          · refine guard_is hc ?_
                            (try conv => arg 5; simp only [go_sem, Nat.reduceEqDiff, ↓reduceIte])
                            (try simp only [go_sem, Nat.reduceEqDiff, ↓reduceIte])
                            rcases ite_cases hP with ⟨hc, hP⟩ | ⟨hc, hP⟩
                            · refine guard_is hc ?_
                              (try conv => arg 5; simp only [go_sem, Nat.reduceEqDiff, ↓reduceIte])
                              (try simp only [go_sem, Nat.reduceEqDiff, ↓reduceIte])
                              rcases ite_cases hP with ⟨hc, hP⟩ | ⟨hc, hP⟩
                              · refine guard_not hc ?_
                                (try conv => arg 5; simp only [go_sem, Nat.reduceEqDiff, ↓reduceIte])
                                (try simp only [go_sem, Nat.reduceEqDiff, ↓reduceIte])
                                refine hold2 (then_n ?_)
                                refine J_ret (fin_ret ?_)
                                obtain rfl := Option.some.inj hP
                                (try simp only [go_sem, Nat.reduceEqDiff, ↓reduceIte])
                                exact fo []
                              · refine guard_is hc ?_
                                (try conv => arg 5; simp only [go_sem, Nat.reduceEqDiff, ↓reduceIte])
                                (try simp only [go_sem, Nat.reduceEqDiff, ↓reduceIte])
                                obtain ⟨r135, hr135, hP⟩ := bind_cases hP
                                refine call_ok [.vptr (.agg [.dead, .view 1 (List.map encB ([] : List UInt8)), .int .i64 r87.2.1, .bool r87.2.2.1, .int .i64 j128.1]) 0] (chunk_Reader_Done_ok hr135) ⟨argR_box rfl ⟨argC_d, argC_m false (by simp only [arg, go_sem, Nat.reduceEqDiff, ↓reduceIte]), argC_m false rfl, argC_m false rfl, argC_m false rfl, trivial⟩, trivial⟩ ?_
                                (try simp only [go_sem, Nat.reduceEqDiff, ↓reduceIte])
                                rcases ite_cases hP with ⟨hc, hP⟩ | ⟨hc, hP⟩
                                · refine guard_not hc ?_
                                  (try conv => arg 5; simp only [go_sem, Nat.reduceEqDiff, ↓reduceIte])
                                  (try simp only [go_sem, Nat.reduceEqDiff, ↓reduceIte])
                                  refine hold2 (then_n ?_)
                                  refine J_ret (fin_ret ?_)
                                  obtain rfl := Option.some.inj hP
                                  (try simp only [go_sem, Nat.reduceEqDiff, ↓reduceIte])
                                  exact fo []
                                · refine guard_is hc ?_
                                  (try conv => arg 5; simp only [go_sem, Nat.reduceEqDiff, ↓reduceIte])
                                  (try simp only [go_sem, Nat.reduceEqDiff, ↓reduceIte])
                                  obtain ⟨r136, hr136, hP⟩ := bind_cases hP
                                  refine call_ok [.vptr (.agg [.dead, .view 1 (List.map encB ([] : List UInt8)), .int .i64 r87.2.1, .bool r87.2.2.1, .int .i64 j128.1]) 0] (chunk_Reader_Err_ok hr136) ⟨argR_box rfl ⟨argC_d, argC_m false (by simp only [arg, go_sem, Nat.reduceEqDiff, ↓reduceIte]), argC_m false rfl, argC_m false rfl, argC_m false rfl, trivial⟩, trivial⟩ ?_
                                  (try simp only [go_sem, Nat.reduceEqDiff, ↓reduceIte])
                                  refine hold2 (then_n ?_)
                                  refine J_ret (fin_ret ?_)
                                  obtain rfl := Option.some.inj hP
                                  (try simp only [go_sem, Nat.reduceEqDiff, ↓reduceIte])
                                  exact fo []
                            · refine guard_not hc ?_
                              (try conv => arg 5; simp only [go_sem, Nat.reduceEqDiff, ↓reduceIte])
                              (try simp only [go_sem, Nat.reduceEqDiff, ↓reduceIte])
                              refine hold2 (then_n ?_)
                              refine J_ret (fin_ret ?_)
                              obtain rfl := Option.some.inj hP
                              (try simp only [go_sem, Nat.reduceEqDiff, ↓reduceIte])
                              exact fo []
                          · refine guard_not hc ?_
                            (try conv => arg 5; simp only [go_sem, Nat.reduceEqDiff, ↓reduceIte])
                            (try simp only [go_sem, Nat.reduceEqDiff, ↓reduceIte])
                            refine hold2 (then_n ?_)
                            refine J_ret (fin_ret ?_)
                            obtain rfl := Option.some.inj hP
                            (try simp only [go_sem, Nat.reduceEqDiff, ↓reduceIte])
                            exact fo []
                        · refine guard_not hc ?_
                          (try conv => arg 5; simp only [go_sem, Nat.reduceEqDiff, ↓reduceIte])
                          (try simp only [go_sem, Nat.reduceEqDiff, ↓reduceIte])
                          rcases ite_cases hP with ⟨hc, hP⟩ | ⟨hc, hP⟩
                          · refine guard_is hc ?_
                            (try conv => arg 5; simp only [go_sem, Nat.reduceEqDiff, ↓reduceIte])
                            (try simp only [go_sem, Nat.reduceEqDiff, ↓reduceIte])
                            rcases ite_cases hP with ⟨hc, hP⟩ | ⟨hc, hP⟩
                            · refine guard_not hc ?_
                              (try conv => arg 5; simp only [go_sem, Nat.reduceEqDiff, ↓reduceIte])
                              (try simp only [go_sem, Nat.reduceEqDiff, ↓reduceIte])
                              refine hold2 (then_n ?_)
                              refine J_ret (fin_ret ?_)
                              obtain rfl := Option.some.inj hP
                              (try simp only [go_sem, Nat.reduceEqDiff, ↓reduceIte])
                              exact fo []
                            · refine guard_is hc ?_
                              (try conv => arg 5; simp only [go_sem, Nat.reduceEqDiff, ↓reduceIte])
                              (try simp only [go_sem, Nat.reduceEqDiff, ↓reduceIte])
                              obtain ⟨r137, hr137, hP⟩ := bind_cases hP
                              refine call_ok [.vptr (.agg [.dead, .view 1 (List.map encB ([] : List UInt8)), .int .i64 r87.2.1, .bool r87.2.2.1, .int .i64 j128.1]) 0] (chunk_Reader_Done_ok hr137) ⟨argR_box rfl ⟨argC_d, argC_m false (by simp only [arg, go_sem, Nat.reduceEqDiff, ↓reduceIte]), argC_m false rfl, argC_m false rfl, argC_m false rfl, trivial⟩, trivial⟩ ?_
                              (try simp only [go_sem, Nat.reduceEqDiff, ↓reduceIte])
                              rcases ite_cases hP with ⟨hc, hP⟩ | ⟨hc, hP⟩
                              · refine guard_not hc ?_
                                (try conv => arg 5; simp only [go_sem, Nat.reduceEqDiff, ↓reduceIte])
                                (try simp only [go_sem, Nat.reduceEqDiff, ↓reduceIte])
                                refine hold2 (then_n ?_)
                                refine J_ret (fin_ret ?_)
                                obtain rfl := Option.some.inj hP
                                (try simp only [go_sem, Nat.reduceEqDiff, ↓reduceIte])
                                exact fo []
                              · refine guard_is hc ?_
                                (try conv => arg 5; simp only [go_sem, Nat.reduceEqDiff, ↓reduceIte])
                                (try simp only [go_sem, Nat.reduceEqDiff, ↓reduceIte])
                                obtain ⟨r138, hr138, hP⟩ := bind_cases hP
                                refine call_ok [.vptr (.agg [.dead, .view 1 (List.map encB ([] : List UInt8)), .int .i64 r87.2.1, .bool r87.2.2.1, .int .i64 j128.1]) 0] (chunk_Reader_Err_ok hr138) ⟨argR_box rfl ⟨argC_d, argC_m false (by simp only [arg, go_sem, Nat.reduceEqDiff, ↓reduceIte]), argC_m false rfl, argC_m false rfl, argC_m false rfl, trivial⟩, trivial⟩ ?_
                                (try simp only [go_sem, Nat.reduceEqDiff, ↓reduceIte])
                                refine hold2 (then_n ?_)
                                refine J_ret (fin_ret ?_)
                                obtain rfl := Option.some.inj hP
                                (try simp only [go_sem, Nat.reduceEqDiff, ↓reduceIte])
                                exact fo []
                          · refine guard_not hc ?_
                            (try conv => arg 5; simp only [go_sem, Nat.reduceEqDiff, ↓reduceIte])
                            (try simp only [go_sem, Nat.reduceEqDiff, ↓reduceIte])
                            refine hold2 (then_n ?_)
                            refine J_ret (fin_ret ?_)
                            obtain rfl := Option.some.inj hP
                            (try simp only [go_sem, Nat.reduceEqDiff, ↓reduceIte])
                            exact fo []
                      · refine guard_not hc ?_
                        (try conv => arg 5; simp only [go_sem, Nat.reduceEqDiff, ↓reduceIte])
                        (try simp only [go_sem, Nat.reduceEqDiff, ↓reduceIte])
                        refine hold2 (then_n ?_)
                        refine J_ret (fin_ret ?_)
                        obtain rfl := Option.some.inj hP
                        (try simp only [go_sem, Nat.reduceEqDiff, ↓reduceIte])
                        exact fo []
                    · refine guard_not hc ?_
                      (try conv => arg 5; simp only [go_sem, Nat.reduceEqDiff, ↓reduceIte])
                      (try simp only [go_sem, Nat.reduceEqDiff, ↓reduceIte])
                      refine hold2 (then_n ?_)
                      refine J_ret (fin_ret ?_)
                      obtain rfl := Option.some.inj hP
                      (try simp only [go_sem, Nat.reduceEqDiff, ↓reduceIte])
                      exact fo []
                  · refine guard_not hc ?_
                    (try conv => arg 5; simp only [go_sem, Nat.reduceEqDiff, ↓reduceIte])
                    (try simp only [go_sem, Nat.reduceEqDiff, ↓reduceIte])
                    refine hold2 (then_n ?_)
                    refine J_ret (fin_ret ?_)
                    obtain rfl := Option.some.inj hP
                    (try simp only [go_sem, Nat.reduceEqDiff, ↓reduceIte])
                    exact fo []
                · refine guard_not hc ?_
                  (try conv => arg 5; simp only [go_sem, Nat.reduceEqDiff, ↓reduceIte])
                  (try simp only [go_sem, Nat.reduceEqDiff, ↓reduceIte])
                  refine hold2 (then_n ?_)
                  refine J_ret (fin_ret ?_)
                  obtain rfl := Option.some.inj hP
                  (try simp only [go_sem, Nat.reduceEqDiff, ↓reduceIte])
                  exact fo []
    · cases hP
    · cases hP
  · refine call_pt [] [(1, .view 1 (List.map encB b2)), (2, .bool end3), (3, .bptr 0 0), (7, .bool r4)] [.box 32 [.int .i64 body1.1, .int .i64 body1.2], .box 46 [.iface 48 (.bptr 2 0), .own 4 0 0 (List.length ([] : List UInt8)), .int .i64 0, .bool false, .int .i64 0], .box 50 [.own 3 0 0 (List.length ([] : List UInt8)), .int .i64 0, .bool false, .int .i64 0], .slice 0 5 1 (List.map encB ([] : List UInt8)), .slice 0 5 1 (List.map encB ([] : List UInt8))] (.bptr 1 0) (chunk_New_w6_ok hr5) ⟨argP_r (by rfl), trivial⟩ (told_of (sm [0, 1, 2, 3, 4])) ?_
    (try simp only [go_sem, Nat.reduceEqDiff, ↓reduceIte])
    refine hold2 (then_n ?_)
    refine J_seq ?_
    refine J_region (by kernel_rfl) ?_
    (try simp only [go_sem, Nat.reduceEqDiff, ↓reduceIte])
    obtain ⟨r142, hr142, hP⟩ := bind_cases hP
    rcases r142 with r143 | r144 | r145 | r146 | r218 <;> dsimp only at hP
    · cases hP
    · cases hP
    · cases hP
    · refine call_pt [] [(1, .view 1 (List.map encB b2)), (2, .bool end3), (7, .bool r4), (8, .bptr 0 0)] [.box 46 [.iface 48 (.bptr 1 0), .own 3 0 0 (List.length ([] : List UInt8)), .int .i64 0, .bool false, .int .i64 0], .box 50 [.own 2 0 0 (List.length ([] : List UInt8)), .int .i64 0, .bool false, .int .i64 0], .slice 0 5 1 (List.map encB ([] : List UInt8)), .slice 0 5 1 (List.map encB ([] : List UInt8)), .box 46 [.iface 48 (.bptr 5 0), .own 7 0 0 (List.length ([] : List UInt8)), .int .i64 0, .bool false, .int .i64 0], .box 50 [.own 6 0 0 (List.length ([] : List UInt8)), .int .i64 0, .bool false, .int .i64 0], .slice 0 5 1 (List.map encB ([] : List UInt8)), .slice 0 5 1 (List.map encB ([] : List UInt8))] (.bptr 4 0) (chunk_New_w6_ok hr142) ⟨argP_r (by rfl), trivial⟩ (told_of (sm [1, 2, 3, 4, 5, 6, 7, 8])) ?_
      (try simp only [go_sem, Nat.reduceEqDiff, ↓reduceIte])
      refine hold2 (then_n ?_)
      refine J_seq ?_
      obtain ⟨o147, hP, hQ147⟩ := bind_cases hP
      refine J_join (fun (s : Bool) => envL [(1, .view 1 (List.map encB b2)), (2, .bool end3), (7, .bool r4), (8, .bptr 0 0), (9, .bptr 4 0), (31, .bool s)]) (fun (s : Bool) => [.box 46 [.iface 48 (.bptr 1 0), .own 3 0 0 (List.length ([] : List UInt8)), .int .i64 0, .bool false, .int .i64 0], .box 50 [.own 2 0 0 (List.length ([] : List UInt8)), .int .i64 0, .bool false, .int .i64 0], .slice 0 5 1 (List.map encB ([] : List UInt8)), .slice 0 5 1 (List.map encB ([] : List UInt8)), .box 46 [.iface 48 (.bptr 5 0), .own 7 0 0 (List.length ([] : List UInt8)), .int .i64 0, .bool false, .int .i64 0], .box 50 [.own 6 0 0 (List.length ([] : List UInt8)), .int .i64 0, .bool false, .int .i64 0], .slice 0 5 1 (List.map encB ([] : List UInt8)), .slice 0 5 1 (List.map encB ([] : List UInt8))]) (fun s => s = o147) ?_ ?_
      · clear hQ147
        refine J_region (by kernel_rfl) ?_
        (try simp only [go_sem, Nat.reduceEqDiff, ↓reduceIte])
        rcases ite_cases hP with ⟨hc, hP⟩ | ⟨hc, hP⟩
        · refine guard_not hc ?_
          (try simp only [go_sem, Nat.reduceEqDiff, ↓reduceIte])
          refine hold2 ?_
          exact join_n true (Option.some.inj hP) (so [0, 1, 2, 3, 4, 5, 6, 7])
        · refine guard_is hc ?_
          (try simp only [go_sem, Nat.reduceEqDiff, ↓reduceIte])
          refine hold2 ?_
          exact join_n false (Option.some.inj hP) (so [0, 1, 2, 3, 4, 5, 6, 7])
      · intro j148 hs
        subst hs
        have hP := hQ147
        clear hQ147
        refine J_condV rfl ?_
        (try simp only [go_sem, Nat.reduceEqDiff, ↓reduceIte])
        rcases ite_cases hP with ⟨hc, hP⟩ | ⟨hc, hP⟩
        · refine condV_t hc ?_
          obtain ⟨o149, hP, hQ149⟩ := bind_cases hP
          refine J_join (fun (s : Bool) => envL [(6, .bool s)]) (fun (s : Bool) => []) (fun s => s = o149) ?_ ?_
          · clear hQ149
            refine J_region (by kernel_rfl) ?_
            (try simp only [go_sem, Nat.reduceEqDiff, ↓reduceIte])
            rcases ite_cases hP with ⟨hc, hP⟩ | ⟨hc, hP⟩
            · refine guard_is hc ?_
              (try simp only [go_sem, Nat.reduceEqDiff, ↓reduceIte])
              refine hold2 ?_
              exact join_n (false == false) (Option.some.inj hP) (so [])
            · refine guard_not hc ?_
              (try simp only [go_sem, Nat.reduceEqDiff, ↓reduceIte])
              refine hold2 ?_
              exact join_n false (Option.some.inj hP) (so [])
          · intro j150 hs
            subst hs
            have hP := hQ149
            clear hQ149
            refine J_ret (then_ret (fin_ret ?_))
            obtain rfl := Option.some.inj hP
            (try simp only [go_sem, Nat.reduceEqDiff, ↓reduceIte])
            exact fo []
        · refine condV_f hc ?_
          refine J_skip (then_n ?_)
          obtain ⟨o152, hP, hQ152⟩ := bind_cases hP
          refine J_join (fun (s : (List (UInt8))) => envL [(1, .view 1 (List.map encB s)), (2, .bool end3), (8, .bptr 0 0), (9, .bptr 4 0)]) (fun (s : (List (UInt8))) => [.box 46 [.iface 48 (.bptr 1 0), .own 3 0 0 (List.length ([] : List UInt8)), .int .i64 0, .bool false, .int .i64 0], .box 50 [.own 2 0 0 (List.length ([] : List UInt8)), .int .i64 0, .bool false, .int .i64 0], .slice 0 5 1 (List.map encB ([] : List UInt8)), .slice 0 5 1 (List.map encB ([] : List UInt8)), .box 46 [.iface 48 (.bptr 5 0), .own 7 0 0 (List.length ([] : List UInt8)), .int .i64 0, .bool false, .int .i64 0], .box 50 [.own 6 0 0 (List.length ([] : List UInt8)), .int .i64 0, .bool false, .int .i64 0], .slice 0 5 1 (List.map encB ([] : List UInt8)), .slice 0 5 1 (List.map encB ([] : List UInt8))]) (fun s => s = o152) ?_ ?_
          · clear hQ152
            refine J_seq ?_
            refine J_region (by kernel_rfl) ?_
            (try simp only [go_sem, Nat.reduceEqDiff, ↓reduceIte])
            refine hold2 (then_n ?_)
            refine J_condV rfl ?_
            (try simp only [go_sem, Nat.reduceEqDiff, ↓reduceIte])
            rcases ite_cases hP with ⟨hc, hP⟩ | ⟨hc, hP⟩
            · refine condV_t hc ?_
              refine J_region (by kernel_rfl) ?_
              (try simp only [go_sem, Nat.reduceEqDiff, ↓reduceIte])
              obtain ⟨s153, hs153, hP⟩ := bind_cases hP
              refine slV_of hs153 ?_
              (try simp only [go_sem, Nat.reduceEqDiff, ↓reduceIte])
              refine hold2 ?_
              exact join_n s153 (Option.some.inj hP) (so [0, 1, 2, 3, 4, 5, 6, 7])
            · refine condV_f hc ?_
              refine J_skip ?_
              exact join_n b2 (Option.some.inj hP) (so [0, 1, 2, 3, 4, 5, 6, 7])
          · intro j154 hs
            subst hs
            have hP := hQ152
            clear hQ152
            refine J_seq ?_
            refine J_region (by kernel_rfl) ?_
            (try simp only [go_sem, Nat.reduceEqDiff, ↓reduceIte])
            obtain ⟨r156, hr155, hP⟩ := bind_cases hP
            refine call_pt [0, 1, 2, 3] [(1, .view 1 (List.map encB j154)), (2, .bool end3), (8, .bptr 0 0), (9, .bptr 4 0)] [.box 46 [.iface 48 (.bptr 1 0), .own 3 0 0 (List.length ([] : List UInt8)), .int .i64 r156.2.1, .bool r156.2.2.1, .int .i64 r156.2.2.2.1], .box 50 [.own 2 0 0 (List.length r156.2.2.2.2.2.2.2.1), .int .i64 r156.2.2.2.2.1, .bool r156.2.2.2.2.2.1, .int .i64 r156.2.2.2.2.2.2.1], .slice 0 5 1 (List.map encB r156.2.2.2.2.2.2.2.1), .slice 0 5 1 (List.map encB ([] : List UInt8)), .box 46 [.iface 48 (.bptr 5 0), .own 7 0 0 (List.length ([] : List UInt8)), .int .i64 0, .bool false, .int .i64 0], .box 50 [.own 6 0 0 (List.length ([] : List UInt8)), .int .i64 0, .bool false, .int .i64 0], .slice 0 5 1 (List.map encB ([] : List UInt8)), .slice 0 5 1 (List.map encB ([] : List UInt8)), .slice 0 5 1 (List.map encB r156.2.2.2.2.2.2.2.2)] (.tup [.own 8 0 0 (List.length r156.2.2.2.2.2.2.2.2), .int .i64 r156.1]) (chunk_Reader_Take_ok hr155) ⟨argP_r (by rfl), argP_r (by rfl), trivial⟩ (told_of (sm [8, 9, 10, 11, 4, 5, 6, 7, 12])) ?_
            (try simp only [go_sem, Nat.reduceEqDiff, ↓reduceIte])
            refine hold2 (then_n ?_)
            refine J_seq ?_
            refine J_region (by kernel_rfl) ?_
            (try simp only [go_sem, Nat.reduceEqDiff, ↓reduceIte])
            refine hold2 (then_n ?_)
            refine J_seq ?_
            refine J_region (by kernel_rfl) ?_
            (try simp only [go_sem, Nat.reduceEqDiff, ↓reduceIte])
            refine hold2 (then_n ?_)
            refine J_seq ?_
            refine J_seq ?_
            refine J_region (by kernel_rfl) ?_
            (try simp only [go_sem, Nat.reduceEqDiff, ↓reduceIte])
            refine hold2 (then_n ?_)
            obtain ⟨o196, hP, hQ191⟩ := bind_cases hP
            refine J_joinK0 (fun (s : Int × Int × Bool × Int × Int × Bool × Int × (List (UInt8)) × (List (UInt8))) => envL [(2, .bool end3), (8, .bptr 0 0), (9, .bptr 4 0), (10, .own 8 0 0 (List.length r156.2.2.2.2.2.2.2.2)), (11, .int .i64 r156.1), (12, .own 9 0 0 (List.length s.2.2.2.2.2.2.2.2)), (13, .int .i64 s.1)]) (fun (s : Int × Int × Bool × Int × Int × Bool × Int × (List (UInt8)) × (List (UInt8))) => [.box 46 [.iface 48 (.bptr 1 0), .own 3 0 0 (List.length ([] : List UInt8)), .int .i64 r156.2.1, .bool r156.2.2.1, .int .i64 r156.2.2.2.1], .box 50 [.own 2 0 0 (List.length r156.2.2.2.2.2.2.2.1), .int .i64 r156.2.2.2.2.1, .bool r156.2.2.2.2.2.1, .int .i64 r156.2.2.2.2.2.2.1], .slice 0 5 1 (List.map encB r156.2.2.2.2.2.2.2.1), .slice 0 5 1 (List.map encB ([] : List UInt8)), .box 46 [.iface 48 (.bptr 5 0), .own 7 0 0 (List.length ([] : List UInt8)), .int .i64 s.2.1, .bool s.2.2.1, .int .i64 s.2.2.2.1], .box 50 [.own 6 0 0 (List.length s.2.2.2.2.2.2.2.1), .int .i64 s.2.2.2.2.1, .bool s.2.2.2.2.2.1, .int .i64 s.2.2.2.2.2.2.1], .slice 0 5 1 (List.map encB s.2.2.2.2.2.2.2.1), .slice 0 5 1 (List.map encB ([] : List UInt8)), .slice 0 5 1 (List.map encB r156.2.2.2.2.2.2.2.2), .slice 0 5 1 (List.map encB s.2.2.2.2.2.2.2.2)]) (fun s => s = o196) ?_ ?_
            · clear hQ191
              refine J_block ?_
              refine J_loop (σ := Nat × Int × Int × Int × Bool × Int × Int × Bool × Int × (List (UInt8)) × (List (UInt8))) (fun (s : Nat × Int × Int × Int × Bool × Int × Int × Bool × Int × (List (UInt8)) × (List (UInt8))) => envL [(1, .view 1 (List.map encB j154)), (2, .bool end3), (8, .bptr 0 0), (9, .bptr 4 0), (10, .own 8 0 0 (List.length r156.2.2.2.2.2.2.2.2)), (11, .int .i64 r156.1), (12, .own 9 0 0 (List.length s.2.2.2.2.2.2.2.2.2.2)), (13, .int .i64 s.2.1), (14, .int .i64 s.2.2.1)]) (fun (s : Nat × Int × Int × Int × Bool × Int × Int × Bool × Int × (List (UInt8)) × (List (UInt8))) => [.box 46 [.iface 48 (.bptr 1 0), .own 3 0 0 (List.length ([] : List UInt8)), .int .i64 r156.2.1, .bool r156.2.2.1, .int .i64 r156.2.2.2.1], .box 50 [.own 2 0 0 (List.length r156.2.2.2.2.2.2.2.1), .int .i64 r156.2.2.2.2.1, .bool r156.2.2.2.2.2.1, .int .i64 r156.2.2.2.2.2.2.1], .slice 0 5 1 (List.map encB r156.2.2.2.2.2.2.2.1), .slice 0 5 1 (List.map encB ([] : List UInt8)), .box 46 [.iface 48 (.bptr 5 0), .own 7 0 0 (List.length ([] : List UInt8)), .int .i64 s.2.2.2.1, .bool s.2.2.2.2.1, .int .i64 s.2.2.2.2.2.1], .box 50 [.own 6 0 0 (List.length s.2.2.2.2.2.2.2.2.2.1), .int .i64 s.2.2.2.2.2.2.1, .bool s.2.2.2.2.2.2.2.1, .int .i64 s.2.2.2.2.2.2.2.2.1], .slice 0 5 1 (List.map encB s.2.2.2.2.2.2.2.2.2.1), .slice 0 5 1 (List.map encB ([] : List UInt8)), .slice 0 5 1 (List.map encB r156.2.2.2.2.2.2.2.2), .slice 0 5 1 (List.map encB s.2.2.2.2.2.2.2.2.2.2)]) (fun s => law07_ChunkCuts_L191 j154 s.1 s.2.1 s.2.2.1 s.2.2.2.1 s.2.2.2.2.1 s.2.2.2.2.2.1 s.2.2.2.2.2.2.1 s.2.2.2.2.2.2.2.1 s.2.2.2.2.2.2.2.2.1 s.2.2.2.2.2.2.2.2.2.1 s.2.2.2.2.2.2.2.2.2.2 = some o196) (fun s => s.1) (1099511627776, 0, 0, 0, false, 0, 0, false, 0, ([] : List UInt8), ([] : List UInt8)) hP (so [0, 1, 2, 3, 4, 5, 6, 7, 8, 9]) ?_
              rintro ⟨k187, m177, i178, l179, l180, l181, l182, l183, l184, l185, l186⟩ hP
              dsimp only at hP ⊢
              cases k187 with
              | zero => simp [law07_ChunkCuts_L191] at hP
              | succ k187 =>
                simp only [law07_ChunkCuts_L191] at hP
                refine J_seq ?_
                refine J_seq ?_
                refine J_region (by kernel_rfl) ?_
                (try simp only [go_sem, Nat.reduceEqDiff, ↓reduceIte])
                refine hold2 (then_n ?_)
                refine J_condV rfl ?_
                (try simp only [go_sem, Nat.reduceEqDiff, ↓reduceIte])
                rcases ite_cases hP with ⟨hc, hP⟩ | ⟨hc, hP⟩
                · refine condV_t hc ?_
                  refine J_skip (then_n ?_)
                  refine J_seq ?_
                  refine J_block ?_
                  refine J_seq ?_
                  refine J_region (by kernel_rfl) ?_
                  (try simp only [go_sem, Nat.reduceEqDiff, ↓reduceIte])
                  obtain ⟨s192, hs192, hP⟩ := bind_cases hP
                  refine slV_of hs192 ?_
                  (try simp only [go_sem, Nat.reduceEqDiff, ↓reduceIte])
                  obtain ⟨r194, hr193, hP⟩ := bind_cases hP
                  refine call_pt [4, 5, 6, 7] [(1, .view 1 (List.map encB j154)), (2, .bool end3), (8, .bptr 0 0), (9, .bptr 4 0), (10, .own 8 0 0 (List.length r156.2.2.2.2.2.2.2.2)), (11, .int .i64 r156.1), (12, .own 9 0 0 (List.length l186)), (13, .int .i64 m177), (14, .int .i64 i178)] [.box 46 [.iface 48 (.bptr 1 0), .own 3 0 0 (List.length ([] : List UInt8)), .int .i64 r156.2.1, .bool r156.2.2.1, .int .i64 r156.2.2.2.1], .box 50 [.own 2 0 0 (List.length r156.2.2.2.2.2.2.2.1), .int .i64 r156.2.2.2.2.1, .bool r156.2.2.2.2.2.1, .int .i64 r156.2.2.2.2.2.2.1], .slice 0 5 1 (List.map encB r156.2.2.2.2.2.2.2.1), .slice 0 5 1 (List.map encB ([] : List UInt8)), .box 46 [.iface 48 (.bptr 5 0), .own 7 0 0 (List.length ([] : List UInt8)), .int .i64 r194.2.1, .bool r194.2.2.1, .int .i64 r194.2.2.2.1], .box 50 [.own 6 0 0 (List.length r194.2.2.2.2.2.2.2.1), .int .i64 r194.2.2.2.2.1, .bool r194.2.2.2.2.2.1, .int .i64 r194.2.2.2.2.2.2.1], .slice 0 5 1 (List.map encB r194.2.2.2.2.2.2.2.1), .slice 0 5 1 (List.map encB ([] : List UInt8)), .slice 0 5 1 (List.map encB r156.2.2.2.2.2.2.2.2), .slice 0 5 1 (List.map encB l186), .slice 0 5 1 (List.map encB r194.2.2.2.2.2.2.2.2)] (.tup [.own 10 0 0 (List.length r194.2.2.2.2.2.2.2.2), .int .i64 r194.1]) (chunk_Reader_Take_ok hr193) ⟨argP_r (by rfl), argP_r (by rfl), trivial⟩ (told_of (sm [0, 1, 2, 3, 10, 11, 12, 13, 8, 9, 14])) ?_
                  (try simp only [go_sem, Nat.reduceEqDiff, ↓reduceIte])
                  refine hold2 (then_n ?_)
                  refine J_seq ?_
                  refine J_region (by kernel_rfl) ?_
                  (try simp only [go_sem, Nat.reduceEqDiff, ↓reduceIte])
                  obtain ⟨_, hz195, hP⟩ := bind_cases hP
                  refine app_own (f := encB) (l186 : List (UInt8)) (r194.2.2.2.2.2.2.2.2 : List (UInt8)) rfl tyS_22 (by decide) (by simp only [go_sem, Nat.reduceEqDiff, ↓reduceIte]; first | done | rfl | exact ⟨rfl, rfl⟩) hz195 ?_
                  (try simp only [go_sem, Nat.reduceEqDiff, ↓reduceIte])
                  refine hold2 (then_n ?_)
                  refine J_seq ?_
                  refine J_region (by kernel_rfl) ?_
                  (try simp only [go_sem, Nat.reduceEqDiff, ↓reduceIte])
                  refine hold2 (then_n ?_)
                  refine J_seq ?_
                  refine J_region (by kernel_rfl) ?_
                  (try simp only [go_sem, Nat.reduceEqDiff, ↓reduceIte])
                  refine hold2 (then_n ?_)
                  refine J_condV rfl ?_
                  (try simp only [go_sem, Nat.reduceEqDiff, ↓reduceIte])
                  rcases ite_cases hP with ⟨hc, hP⟩ | ⟨hc, hP⟩
                  · refine condV_t hc ?_
                    refine J_exit (block_ne (by decide) (then_exit (loop_exit (block_eq ?_))))
                    exact join_n (iadd .i64 m177 r194.1, r194.2.1, r194.2.2.1, r194.2.2.2.1, r194.2.2.2.2.1, r194.2.2.2.2.2.1, r194.2.2.2.2.2.2.1, r194.2.2.2.2.2.2.2.1, l186 ++ r194.2.2.2.2.2.2.2.2) (Option.some.inj hP) (so [0, 1, 2, 3, 4, 5, 6, 7, 8, 9])
                  · refine condV_f hc ?_
                    refine J_skip (block_n (then_n ?_))
                    refine J_region (by kernel_rfl) ?_
                    (try simp only [go_sem, Nat.reduceEqDiff, ↓reduceIte])
                    refine hold2 ?_
                    exact loop_n (k187, iadd .i64 m177 r194.1, iadd .i64 i178 1, r194.2.1, r194.2.2.1, r194.2.2.2.1, r194.2.2.2.2.1, r194.2.2.2.2.2.1, r194.2.2.2.2.2.2.1, r194.2.2.2.2.2.2.2.1, l186 ++ r194.2.2.2.2.2.2.2.2) hP (Nat.lt_succ_self _) (so [0, 1, 2, 3, 4, 5, 6, 7, 8, 9])
                · refine condV_f hc ?_
                  refine J_exit (then_exit (loop_exit (block_eq ?_)))
                  exact join_n (m177, l179, l180, l181, l182, l183, l184, l185, l186) (Option.some.inj hP) (so [0, 1, 2, 3, 4, 5, 6, 7, 8, 9])
            · intro j197 hs
              subst hs
              have hP := hQ191
              clear hQ191
              refine then_n ?_
              obtain ⟨o202, hP, hQ202⟩ := bind_cases hP
              refine J_join (fun (s : Int × Int) => envL [(2, .bool end3), (8, .bptr 0 0), (9, .bptr 4 0), (10, .own 8 0 0 (List.length r156.2.2.2.2.2.2.2.2)), (11, .int .i64 r156.1), (12, .own 9 0 0 (List.length j197.2.2.2.2.2.2.2.2)), (13, .int .i64 j197.1)]) (fun (s : Int × Int) => [.box 46 [.iface 48 (.bptr 1 0), .own 3 0 0 (List.length ([] : List UInt8)), .int .i64 r156.2.1, .bool r156.2.2.1, .int .i64 s.1], .box 50 [.own 2 0 0 (List.length r156.2.2.2.2.2.2.2.1), .int .i64 r156.2.2.2.2.1, .bool r156.2.2.2.2.2.1, .int .i64 r156.2.2.2.2.2.2.1], .slice 0 5 1 (List.map encB r156.2.2.2.2.2.2.2.1), .slice 0 5 1 (List.map encB ([] : List UInt8)), .box 46 [.iface 48 (.bptr 5 0), .own 7 0 0 (List.length ([] : List UInt8)), .int .i64 j197.2.1, .bool j197.2.2.1, .int .i64 s.2], .box 50 [.own 6 0 0 (List.length j197.2.2.2.2.2.2.2.1), .int .i64 j197.2.2.2.2.1, .bool j197.2.2.2.2.2.1, .int .i64 j197.2.2.2.2.2.2.1], .slice 0 5 1 (List.map encB j197.2.2.2.2.2.2.2.1), .slice 0 5 1 (List.map encB ([] : List UInt8)), .slice 0 5 1 (List.map encB r156.2.2.2.2.2.2.2.2), .slice 0 5 1 (List.map encB j197.2.2.2.2.2.2.2.2)]) (fun s => s = o202) ?_ ?_
              · clear hQ202
                refine J_seq ?_
                refine J_region (by kernel_rfl) ?_
                (try simp only [go_sem, Nat.reduceEqDiff, ↓reduceIte])
                refine hold2 (then_n ?_)
                refine J_condV rfl ?_
                (try simp only [go_sem, Nat.reduceEqDiff, ↓reduceIte])
                rcases ite_cases hP with ⟨hc, hP⟩ | ⟨hc, hP⟩
                · refine condV_t hc ?_
                  refine J_seq ?_
                  refine J_region (by kernel_rfl) ?_
                  (try simp only [go_sem, Nat.reduceEqDiff, ↓reduceIte])
                  obtain ⟨r204, hr203, hP⟩ := bind_cases hP
                  refine call_pt [0, 1, 2, 3] [(2, .bool end3), (8, .bptr 0 0), (9, .bptr 4 0), (10, .own 8 0 0 (List.length r156.2.2.2.2.2.2.2.2)), (11, .int .i64 r156.1), (12, .own 9 0 0 (List.length j197.2.2.2.2.2.2.2.2)), (13, .int .i64 j197.1)] [.box 46 [.iface 48 (.bptr 1 0), .own 3 0 0 (List.length ([] : List UInt8)), .int .i64 r156.2.1, .bool r156.2.2.1, .int .i64 r204], .box 50 [.own 2 0 0 (List.length r156.2.2.2.2.2.2.2.1), .int .i64 r156.2.2.2.2.1, .bool r156.2.2.2.2.2.1, .int .i64 r156.2.2.2.2.2.2.1], .slice 0 5 1 (List.map encB r156.2.2.2.2.2.2.2.1), .slice 0 5 1 (List.map encB ([] : List UInt8)), .box 46 [.iface 48 (.bptr 5 0), .own 7 0 0 (List.length ([] : List UInt8)), .int .i64 j197.2.1, .bool j197.2.2.1, .int .i64 j197.2.2.2.1], .box 50 [.own 6 0 0 (List.length j197.2.2.2.2.2.2.2.1), .int .i64 j197.2.2.2.2.1, .bool j197.2.2.2.2.2.1, .int .i64 j197.2.2.2.2.2.2.1], .slice 0 5 1 (List.map encB j197.2.2.2.2.2.2.2.1), .slice 0 5 1 (List.map encB ([] : List UInt8)), .slice 0 5 1 (List.map encB r156.2.2.2.2.2.2.2.2), .slice 0 5 1 (List.map encB j197.2.2.2.2.2.2.2.2)] (.tup []) (chunk_Reader_End_w4_ok hr203) ⟨argP_r (by rfl), trivial⟩ (told_of (sm [10, 11, 12, 13, 4, 5, 6, 7, 8, 9])) ?_
                  (try simp only [go_sem, Nat.reduceEqDiff, ↓reduceIte])
                  refine hold2 (then_n ?_)
                  refine J_region (by kernel_rfl) ?_
                  (try simp only [go_sem, Nat.reduceEqDiff, ↓reduceIte])
                  obtain ⟨r206, hr205, hP⟩ := bind_cases hP
                  refine call_pt [4, 5, 6, 7] [(2, .bool end3), (8, .bptr 0 0), (9, .bptr 4 0), (10, .own 8 0 0 (List.length r156.2.2.2.2.2.2.2.2)), (11, .int .i64 r156.1), (12, .own 9 0 0 (List.length j197.2.2.2.2.2.2.2.2)), (13, .int .i64 j197.1)] [.box 46 [.iface 48 (.bptr 1 0), .own 3 0 0 (List.length ([] : List UInt8)), .int .i64 r156.2.1, .bool r156.2.2.1, .int .i64 r204], .box 50 [.own 2 0 0 (List.length r156.2.2.2.2.2.2.2.1), .int .i64 r156.2.2.2.2.1, .bool r156.2.2.2.2.2.1, .int .i64 r156.2.2.2.2.2.2.1], .slice 0 5 1 (List.map encB r156.2.2.2.2.2.2.2.1), .slice 0 5 1 (List.map encB ([] : List UInt8)), .box 46 [.iface 48 (.bptr 5 0), .own 7 0 0 (List.length ([] : List UInt8)), .int .i64 j197.2.1, .bool j197.2.2.1, .int .i64 r206], .box 50 [.own 6 0 0 (List.length j197.2.2.2.2.2.2.2.1), .int .i64 j197.2.2.2.2.1, .bool j197.2.2.2.2.2.1, .int .i64 j197.2.2.2.2.2.2.1], .slice 0 5 1 (List.map encB j197.2.2.2.2.2.2.2.1), .slice 0 5 1 (List.map encB ([] : List UInt8)), .slice 0 5 1 (List.map encB r156.2.2.2.2.2.2.2.2), .slice 0 5 1 (List.map encB j197.2.2.2.2.2.2.2.2)] (.tup []) (chunk_Reader_End_w4_ok hr205) ⟨argP_r (by rfl), trivial⟩ (told_of (sm [0, 1, 2, 3, 10, 11, 12, 13, 8, 9])) ?_
                  (try simp only [go_sem, Nat.reduceEqDiff, ↓reduceIte])
                  refine hold2 ?_
                  exact join_n (r204, r206) (Option.some.inj hP) (so [0, 1, 2, 3, 4, 5, 6, 7, 8, 9])
                · refine condV_f hc ?_
                  refine J_skip ?_
                  exact join_n (r156.2.2.2.1, j197.2.2.2.1) (Option.some.inj hP) (so [0, 1, 2, 3, 4, 5, 6, 7, 8, 9])
              · intro j207 hs
                subst hs
                have hP := hQ202
                clear hQ202
                refine J_seq ?_
                refine J_region (by kernel_rfl) ?_
                (try simp only [go_sem, Nat.reduceEqDiff, ↓reduceIte])
                first | refine bytesK_map ?_ | refine bytesK_of r156.2.2.2.2.2.2.2.2 rfl ?_
                (try simp only [go_sem, Nat.reduceEqDiff, ↓reduceIte])
                first | refine bytesK_map ?_ | refine bytesK_of j197.2.2.2.2.2.2.2.2 rfl ?_
                (try simp only [go_sem, Nat.reduceEqDiff, ↓reduceIte])
                rcases ite_cases hP with ⟨hc, hP⟩ | ⟨hc, hP⟩
                · refine guard_is hc ?_
                  (try conv => arg 5; simp only [go_sem, Nat.reduceEqDiff, ↓reduceIte])
                  (try simp only [go_sem, Nat.reduceEqDiff, ↓reduceIte])
                  rcases ite_cases hP with ⟨hc, hP⟩ | ⟨hc, hP⟩
                  · refine guard_is hc ?_
                    (try conv => arg 5; simp only [go_sem, Nat.reduceEqDiff, ↓reduceIte])
                    (try simp only [go_sem, Nat.reduceEqDiff, ↓reduceIte])
                    obtain ⟨r208, hr208, hP⟩ := bind_cases hP
                    refine call_ok [.vptr (.agg [.dead, .view 1 (List.map encB ([] : List UInt8)), .int .i64 r156.2.1, .bool r156.2.2.1, .int .i64 j207.1]) 0] (chunk_Reader_Done_ok hr208) ⟨argR_box rfl ⟨argC_d, argC_m false (by simp only [arg, go_sem, Nat.reduceEqDiff, ↓reduceIte]), argC_m false rfl, argC_m false rfl, argC_m false rfl, trivial⟩, trivial⟩ ?_
                    (try simp only [go_sem, Nat.reduceEqDiff, ↓reduceIte])
                    obtain ⟨r209, hr209, hP⟩ := bind_cases hP
                    refine call_ok [.vptr (.agg [.dead, .view 1 (List.map encB ([] : List UInt8)), .int .i64 j197.2.1, .bool j197.2.2.1, .int .i64 j207.2]) 0] (chunk_Reader_Done_ok hr209) ⟨argR_box rfl ⟨argC_d, argC_m false (by simp only [arg, go_sem, Nat.reduceEqDiff, ↓reduceIte]), argC_m false rfl, argC_m false rfl, argC_m false rfl, trivial⟩, trivial⟩ ?_
                    (try simp only [go_sem, Nat.reduceEqDiff, ↓reduceIte])
                    rcases ite_cases hP with ⟨hc, hP⟩ | ⟨hc, hP⟩
                    · refine guard_is hc ?_
                      (try conv => arg 5; simp only [go_sem, Nat.reduceEqDiff, ↓reduceIte])
                      (try simp only [go_sem, Nat.reduceEqDiff, ↓reduceIte])
                      obtain ⟨r210, hr210, hP⟩ := bind_cases hP
                      refine call_ok [.vptr (.agg [.dead, .view 1 (List.map encB ([] : List UInt8)), .int .i64 r156.2.1, .bool r156.2.2.1, .int .i64 j207.1]) 0] (chunk_Reader_Err_ok hr210) ⟨argR_box rfl ⟨argC_d, argC_m false (by simp only [arg, go_sem, Nat.reduceEqDiff, ↓reduceIte]), argC_m false rfl, argC_m false rfl, argC_m false rfl, trivial⟩, trivial⟩ ?_
                      (try simp only [go_sem, Nat.reduceEqDiff, ↓reduceIte])
                      obtain ⟨r211, hr211, hP⟩ := bind_cases hP
                      refine call_ok [.vptr (.agg [.dead, .view 1 (List.map encB ([] : List UInt8)), .int .i64 j197.2.1, .bool j197.2.2.1, .int .i64 j207.2]) 0] (chunk_Reader_Err_ok hr211) ⟨argR_box rfl ⟨argC_d, argC_m false (by simp only [arg, go_sem, Nat.reduceEqDiff, ↓reduceIte]), argC_m false rfl, argC_m false rfl, argC_m false rfl, trivial⟩, trivial⟩ ?_
                      (try simp only [go_sem, Nat.reduceEqDiff, ↓reduceIte])
                      rcases ite_cases hP with ⟨hc, hP⟩ | ⟨hc, hP⟩
                      · refine guard_is hc ?_
                        (try conv => arg 5; simp only [go_sem, Nat.reduceEqDiff, ↓reduceIte])
                        (try simp only [go_sem, Nat.reduceEqDiff, ↓reduceIte])
                        obtain ⟨r212, hr212, hP⟩ := bind_cases hP
                        refine call_ok [.vptr (.agg [.dead, .view 1 (List.map encB ([] : List UInt8)), .int .i64 r156.2.1, .bool r156.2.2.1, .int .i64 j207.1]) 0] (chunk_Reader_Done_ok hr212) ⟨argR_box rfl ⟨argC_d, argC_m false (by simp only [arg, go_sem, Nat.reduceEqDiff, ↓reduceIte]), argC_m false rfl, argC_m false rfl, argC_m false rfl, trivial⟩, trivial⟩ ?_
                        (try simp only [go_sem, Nat.reduceEqDiff, ↓reduceIte])
                        rcases ite_cases hP with ⟨hc, hP⟩ | ⟨hc, hP⟩
                        · refine guard_is hc ?_
                          (try conv => arg 5; simp only [go_sem, Nat.reduceEqDiff, ↓reduceIte])
                          (try simp only [go_sem, Nat.reduceEqDiff, ↓reduceIte])
                          obtain ⟨r213, hr213, hP⟩ := bind_cases hP
                          refine call_ok [.vptr (.agg [.dead, .view 1 (List.map encB ([] : List UInt8)), .int .i64 r156.2.1, .bool r156.2.2.1, .int .i64 j207.1]) 0] (chunk_Reader_Err_ok hr213) ⟨argR_box rfl ⟨argC_d, argC_m false (by simp only [arg, go_sem, Nat.reduceEqDiff, ↓reduceIte]), argC_m false rfl, argC_m false rfl, argC_m false rfl, trivial⟩, trivial⟩ ?_
                          (try simp only [go_sem, Nat.reduceEqDiff, ↓reduceIte])
                          rcases ite_cases hP with ⟨hc, hP⟩ | ⟨hc, hP⟩
                          · refine guard_is hc ?_
                            (try conv => arg 5; simp only [go_sem, Nat.reduceEqDiff, ↓reduceIte])
                            (try simp only [go_sem, Nat.reduceEqDiff, ↓reduceIte])
                            rcases ite_cases hP with ⟨hc, hP⟩ | ⟨hc, hP⟩
                            · refine guard_is hc ?_
                              (try conv => arg 5; simp only [go_sem, Nat.reduceEqDiff, ↓reduceIte])
                              (try simp only [go_sem, Nat.reduceEqDiff, ↓reduceIte])
                              rcases ite_cases hP with ⟨hc, hP⟩ | ⟨hc, hP⟩
                              · refine guard_not hc ?_
                                (try conv => arg 5; simp only [go_sem, Nat.reduceEqDiff, ↓reduceIte])
                                (try simp only [go_sem, Nat.reduceEqDiff, ↓reduceIte])
                                refine hold2 (then_n ?_)
                                refine J_ret (fin_ret ?_)
                                obtain rfl := Option.some.inj hP
                                (try simp only [go_sem, Nat.reduceEqDiff, ↓reduceIte])
                                exact fo []
                              · refine guard_is hc ?_
                                (try conv => arg 5; simp only [go_sem, Nat.reduceEqDiff, ↓reduceIte])
                                (try simp only [go_sem, Nat.reduceEqDiff, ↓reduceIte])
                                obtain ⟨r214, hr214, hP⟩ := bind_cases hP
                                refine call_ok [.vptr (.agg [.dead, .view 1 (List.map encB ([] : List UInt8)), .int .i64 r156.2.1, .bool r156.2.2.1, .int .i64 j207.1]) 0] (chunk_Reader_Done_ok hr214) ⟨argR_box rfl ⟨argC_d, argC_m false (by simp only [arg, go_sem, Nat.reduceEqDiff, ↓reduceIte]), argC_m false rfl, argC_m false rfl, argC_m false rfl, trivial⟩, trivial⟩ ?_
                                (try simp only [go_sem, Nat.reduceEqDiff, ↓reduceIte])
                                rcases ite_cases hP with ⟨hc, hP⟩ | ⟨hc, hP⟩
                                · refine guard_not hc ?_
                                  (try conv => arg 5; simp only [go_sem, Nat.reduceEqDiff, ↓reduceIte])
                                  (try simp only [go_sem, Nat.reduceEqDiff, ↓reduceIte])
                                  refine hold2 (then_n ?_)
                                  refine J_ret (fin_ret ?_)
                                  obtain rfl := Option.some.inj hP
                                  (try simp only [go_sem, Nat.reduceEqDiff, ↓reduceIte])
                                  exact fo []
                                · refine guard_is hc ?_
                                  (try conv => arg 5; simp only [go_sem, Nat.reduceEqDiff, ↓reduceIte])
                                  (try simp only [go_sem, Nat.reduceEqDiff, ↓reduceIte])
                                  obtain ⟨r215, hr215, hP⟩ := bind_cases hP
                                  refine call_ok [.vptr (.agg [.dead, .view 1 (List.map encB ([] : List UInt8)), .int .i64 r156.2.1, .bool r156.2.2.1, .int .i64 j207.1]) 0] (chunk_Reader_Err_ok hr215) ⟨argR_box rfl ⟨argC_d, argC_m false (by simp only [arg, go_sem, Nat.reduceEqDiff, ↓reduceIte]), argC_m false rfl, argC_m false rfl, argC_m false rfl, trivial⟩, trivial⟩ ?_
                                  (try simp only [go_sem, Nat.reduceEqDiff, ↓reduceIte])
                                  refine hold2 (then_n ?_)
                                  refine J_ret (fin_ret ?_)
                                  obtain rfl := Option.some.inj hP
                                  (try simp only [go_sem, Nat.reduceEqDiff, ↓reduceIte])
                                  exact fo []
                            · refine guard_not hc ?_
                              (try conv => arg 5; simp only [go_sem, Nat.reduceEqDiff, ↓reduceIte])
                              (try simp only [go_sem, Nat.reduceEqDiff, ↓reduceIte])
                              refine hold2 (then_n ?_)
                              refine J_ret (fin_ret ?_)
                              obtain rfl := Option.some.inj hP
                              (try simp only [go_sem, Nat.reduceEqDiff, ↓reduceIte])
                              exact fo []
                          · refine guard_not hc ?_
                            (try conv => arg 5; simp only [go_sem, Nat.reduceEqDiff, ↓reduceIte])
                            (try simp only [go_sem, Nat.reduceEqDiff, ↓reduceIte])
                            refine hold2 (then_n ?_)
                            refine J_ret (fin_ret ?_)
                            obtain rfl := Option.some.inj hP
                            (try simp only [go_sem, Nat.reduceEqDiff, ↓reduceIte])
                            exact fo []
                        · refine guard_not hc ?_
                          (try conv => arg 5; simp only [go_sem, Nat.reduceEqDiff, ↓reduceIte])
                          (try simp only [go_sem, Nat.reduceEqDiff, ↓reduceIte])
                          rcases ite_cases hP with ⟨hc, hP⟩ | ⟨hc, hP⟩
                          · refine guard_is hc ?_
                            (try conv => arg 5; simp only [go_sem, Nat.reduceEqDiff, ↓reduceIte])
                            (try simp only [go_sem, Nat.reduceEqDiff, ↓reduceIte])
                            rcases ite_cases hP with ⟨hc, hP⟩ | ⟨hc, hP⟩
                            · refine guard_not hc ?_
                              (try conv => arg 5; simp only [go_sem, Nat.reduceEqDiff, ↓reduceIte])
                              (try simp only [go_sem, Nat.reduceEqDiff, ↓reduceIte])
                              refine hold2 (then_n ?_)
                              refine J_ret (fin_ret ?_)
                              obtain rfl := Option.some.inj hP
                              (try simp only [go_sem, Nat.reduceEqDiff, ↓reduceIte])
                              exact fo []
                            · refine guard_is hc ?_
                              (try conv => arg 5; simp only [go_sem, Nat.reduceEqDiff, ↓reduceIte])
                              (try simp only [go_sem, Nat.reduceEqDiff, ↓reduceIte])
                              obtain ⟨r216, hr216, hP⟩ := bind_cases hP
                              refine call_ok [.vptr (.agg [.dead, .view 1 (List.map encB ([] : List UInt8)), .int .i64 r156.2.1, .bool r156.2.2.1, .int .i64 j207.1]) 0] (chunk_Reader_Done_ok hr216) ⟨argR_box rfl ⟨argC_d, argC_m false (by simp only [arg, go_sem, Nat.reduceEqDiff, ↓reduceIte]), argC_m false rfl, argC_m false rfl, argC_m false rfl, trivial⟩, trivial⟩ ?_
                              (try simp only [go_sem, Nat.reduceEqDiff, ↓reduceIte])
                              rcases ite_cases hP with ⟨hc, hP⟩ | ⟨hc, hP⟩
                              · refine guard_not hc ?_
                                (try conv => arg 5; simp only [go_sem, Nat.reduceEqDiff, ↓reduceIte])
                                (try simp only [go_sem, Nat.reduceEqDiff, ↓reduceIte])
                                refine hold2 (then_n ?_)
                                refine J_ret (fin_ret ?_)
                                obtain rfl := Option.some.inj hP
                                (try simp only [go_sem, Nat.reduceEqDiff, ↓reduceIte])
                                exact fo []
                              · refine guard_is hc ?_
                                (try conv => arg 5; simp only [go_sem, Nat.reduceEqDiff, ↓reduceIte])
                                (try simp only [go_sem, Nat.reduceEqDiff, ↓reduceIte])
                                obtain ⟨r217, hr217, hP⟩ := bind_cases hP
                                refine call_ok [.vptr (.agg [.dead, .view 1 (List.map encB ([] : List UInt8)), .int .i64 r156.2.1, .bool r156.2.2.1, .int .i64 j207.1]) 0] (chunk_Reader_Err_ok hr217) ⟨argR_box rfl ⟨argC_d, argC_m false (by simp only [arg, go_sem, Nat.reduceEqDiff, ↓reduceIte]), argC_m false rfl, argC_m false rfl, argC_m false rfl, trivial⟩, trivial⟩ ?_
                                (try simp only [go_sem, Nat.reduceEqDiff, ↓reduceIte])
                                refine hold2 (then_n ?_)
                                refine J_ret (fin_ret ?_)
                                obtain rfl := Option.some.inj hP
                                (try simp only [go_sem, Nat.reduceEqDiff, ↓reduceIte])
                                exact fo []
                          · refine guard_not hc ?_
                            (try conv => arg 5; simp only [go_sem, Nat.reduceEqDiff, ↓reduceIte])
                            (try simp only [go_sem, Nat.reduceEqDiff, ↓reduceIte])
                            refine hold2 (then_n ?_)
                            refine J_ret (fin_ret ?_)
                            obtain rfl := Option.some.inj hP
                            (try simp only [go_sem, Nat.reduceEqDiff, ↓reduceIte])
                            exact fo []
                      · refine guard_not hc ?_
                        (try conv => arg 5; simp only [go_sem, Nat.reduceEqDiff, ↓reduceIte])
                        (try simp only [go_sem, Nat.reduceEqDiff, ↓reduceIte])
                        refine hold2 (then_n ?_)
                        refine J_ret (fin_ret ?_)
                        obtain rfl := Option.some.inj hP
                        (try simp only [go_sem, Nat.reduceEqDiff, ↓reduceIte])
                        exact fo []
                    · refine guard_not hc ?_
                      (try conv => arg 5; simp only [go_sem, Nat.reduceEqDiff, ↓reduceIte])
                      (try simp only [go_sem, Nat.reduceEqDiff, ↓reduceIte])
                      refine hold2 (then_n ?_)
                      refine J_ret (fin_ret ?_)
                      obtain rfl := Option.some.inj hP
                      (try simp only [go_sem, Nat.reduceEqDiff, ↓reduceIte])
                      exact fo []
                  · refine guard_not hc ?_
                    (try conv => arg 5; simp only [go_sem, Nat.reduceEqDiff, ↓reduceIte])
                    (try simp only [go_sem, Nat.reduceEqDiff, ↓reduceIte])
                    refine hold2 (then_n ?_)
                    refine J_ret (fin_ret ?_)
                    obtain rfl := Option.some.inj hP
                    (try simp only [go_sem, Nat.reduceEqDiff, ↓reduceIte])
                    exact fo []
                · refine guard_not hc ?_
                  (try conv => arg 5; simp only [go_sem, Nat.reduceEqDiff, ↓reduceIte])
                  (try simp only [go_sem, Nat.reduceEqDiff, ↓reduceIte])
                  refine hold2 (then_n ?_)
                  refine J_ret (fin_ret ?_)
                  obtain rfl := Option.some.inj hP
                  (try simp only [go_sem, Nat.reduceEqDiff, ↓reduceIte])
                  exact fo []
    · cases hP
  · refine call_pt [] [(1, .view 1 (List.map encB b2)), (2, .bool end3), (3, .bptr 0 0), (7, .bool r4)] [.box 32 [.int .i64 body1.1, .int .i64 body1.2], .box 46 [.iface 51 (.agg []), .own 2 0 0 (List.length ([] : List UInt8)), .int .i64 0, .bool false, .int .i64 0], .slice 0 5 1 (List.map encB ([] : List UInt8))] (.bptr 1 0) (chunk_New_w6_ok hr5) ⟨argP_r (by rfl), trivial⟩ (told_of (sm [0, 1, 2])) ?_
    (try simp only [go_sem, Nat.reduceEqDiff, ↓reduceIte])
    refine hold2 (then_n ?_)
    refine J_seq ?_
    refine J_region (by kernel_rfl) ?_
    (try simp only [go_sem, Nat.reduceEqDiff, ↓reduceIte])
    obtain ⟨r220, hr220, hP⟩ := bind_cases hP
    rcases r220 with r221 | r222 | r223 | r224 | r225 <;> dsimp only at hP
    · cases hP
    · cases hP
    · cases hP
    · cases hP
    · refine call_pt [] [(1, .view 1 (List.map encB b2)), (2, .bool end3), (7, .bool r4), (8, .bptr 0 0)] [.box 46 [.iface 51 (.agg []), .own 1 0 0 (List.length ([] : List UInt8)), .int .i64 0, .bool false, .int .i64 0], .slice 0 5 1 (List.map encB ([] : List UInt8)), .box 46 [.iface 51 (.agg []), .own 3 0 0 (List.length ([] : List UInt8)), .int .i64 0, .bool false, .int .i64 0], .slice 0 5 1 (List.map encB ([] : List UInt8))] (.bptr 2 0) (chunk_New_w6_ok hr220) ⟨argP_r (by rfl), trivial⟩ (told_of (sm [1, 2, 3, 4])) ?_
      (try simp only [go_sem, Nat.reduceEqDiff, ↓reduceIte])
      refine hold2 (then_n ?_)
      refine J_seq ?_
      obtain ⟨o226, hP, hQ226⟩ := bind_cases hP
      refine J_join (fun (s : Bool) => envL [(1, .view 1 (List.map encB b2)), (2, .bool end3), (7, .bool r4), (8, .bptr 0 0), (9, .bptr 2 0), (31, .bool s)]) (fun (s : Bool) => [.box 46 [.iface 51 (.agg []), .own 1 0 0 (List.length ([] : List UInt8)), .int .i64 0, .bool false, .int .i64 0], .slice 0 5 1 (List.map encB ([] : List UInt8)), .box 46 [.iface 51 (.agg []), .own 3 0 0 (List.length ([] : List UInt8)), .int .i64 0, .bool false, .int .i64 0], .slice 0 5 1 (List.map encB ([] : List UInt8))]) (fun s => s = o226) ?_ ?_
      · clear hQ226
        refine J_region (by kernel_rfl) ?_
        (try simp only [go_sem, Nat.reduceEqDiff, ↓reduceIte])
        rcases ite_cases hP with ⟨hc, hP⟩ | ⟨hc, hP⟩
        · refine guard_not hc ?_
          (try simp only [go_sem, Nat.reduceEqDiff, ↓reduceIte])
          refine hold2 ?_
          exact join_n true (Option.some.inj hP) (so [0, 1, 2, 3])
        · refine guard_is hc ?_
          (try simp only [go_sem, Nat.reduceEqDiff, ↓reduceIte])
          refine hold2 ?_
          exact join_n false (Option.some.inj hP) (so [0, 1, 2, 3])
      · intro j227 hs
        subst hs
        have hP := hQ226
        clear hQ226
        refine J_condV rfl ?_
        (try simp only [go_sem, Nat.reduceEqDiff, ↓reduceIte])
        rcases ite_cases hP with ⟨hc, hP⟩ | ⟨hc, hP⟩
        · refine condV_t hc ?_
          obtain ⟨o228, hP, hQ228⟩ := bind_cases hP
          refine J_join (fun (s : Bool) => envL [(6, .bool s)]) (fun (s : Bool) => []) (fun s => s = o228) ?_ ?_
          · clear hQ228
            refine J_region (by kernel_rfl) ?_
            (try simp only [go_sem, Nat.reduceEqDiff, ↓reduceIte])
            rcases ite_cases hP with ⟨hc, hP⟩ | ⟨hc, hP⟩
            · refine guard_is hc ?_
              (try simp only [go_sem, Nat.reduceEqDiff, ↓reduceIte])
              refine hold2 ?_
              exact join_n (false == false) (Option.some.inj hP) (so [])
            · refine guard_not hc ?_
              (try simp only [go_sem, Nat.reduceEqDiff, ↓reduceIte])
              refine hold2 ?_
              exact join_n false (Option.some.inj hP) (so [])
          · intro j229 hs
            subst hs
            have hP := hQ228
            clear hQ228
            refine J_ret (then_ret (fin_ret ?_))
            obtain rfl := Option.some.inj hP
            (try simp only [go_sem, Nat.reduceEqDiff, ↓reduceIte])
            exact fo []
        · refine condV_f hc ?_
          refine J_skip (then_n ?_)
          obtain ⟨o231, hP, hQ231⟩ := bind_cases hP
          refine J_join (fun (s : (List (UInt8))) => envL [(1, .view 1 (List.map encB s)), (2, .bool end3), (8, .bptr 0 0), (9, .bptr 2 0)]) (fun (s : (List (UInt8))) => [.box 46 [.iface 51 (.agg []), .own 1 0 0 (List.length ([] : List UInt8)), .int .i64 0, .bool false, .int .i64 0], .slice 0 5 1 (List.map encB ([] : List UInt8)), .box 46 [.iface 51 (.agg []), .own 3 0 0 (List.length ([] : List UInt8)), .int .i64 0, .bool false, .int .i64 0], .slice 0 5 1 (List.map encB ([] : List UInt8))]) (fun s => s = o231) ?_ ?_
          · clear hQ231
            refine J_seq ?_
            refine J_region (by kernel_rfl) ?_
            (try simp only [go_sem, Nat.reduceEqDiff, ↓reduceIte])
            refine hold2 (then_n ?_)
            refine J_condV rfl ?_
            (try simp only [go_sem, Nat.reduceEqDiff, ↓reduceIte])
            rcases ite_cases hP with ⟨hc, hP⟩ | ⟨hc, hP⟩
            · refine condV_t hc ?_
              refine J_region (by kernel_rfl) ?_
              (try simp only [go_sem, Nat.reduceEqDiff, ↓reduceIte])
              obtain ⟨s232, hs232, hP⟩ := bind_cases hP
              refine slV_of hs232 ?_
              (try simp only [go_sem, Nat.reduceEqDiff, ↓reduceIte])
              refine hold2 ?_
              exact join_n s232 (Option.some.inj hP) (so [0, 1, 2, 3])
            · refine condV_f hc ?_
              refine J_skip ?_
              exact join_n b2 (Option.some.inj hP) (so [0, 1, 2, 3])
          · intro j233 hs
            subst hs
            have hP := hQ231
            clear hQ231
            refine J_seq ?_
            refine J_region (by kernel_rfl) ?_
            (try simp only [go_sem, Nat.reduceEqDiff, ↓reduceIte])
            obtain ⟨r235, hr234, hP⟩ := bind_cases hP
            refine call_pt [0, 1] [(1, .view 1 (List.map encB j233)), (2, .bool end3), (8, .bptr 0 0), (9, .bptr 2 0)] [.box 46 [.iface 51 (.agg []), .own 1 0 0 (List.length ([] : List UInt8)), .int .i64 r235.2.1, .bool false, .int .i64 r235.2.2.1], .slice 0 5 1 (List.map encB ([] : List UInt8)), .box 46 [.iface 51 (.agg []), .own 3 0 0 (List.length ([] : List UInt8)), .int .i64 0, .bool false, .int .i64 0], .slice 0 5 1 (List.map encB ([] : List UInt8)), .slice 0 5 1 (List.map encB r235.2.2.2)] (.tup [.own 4 0 0 (List.length r235.2.2.2), .int .i64 r235.1]) (chunk_Reader_Take_w3_ok hr234) ⟨argP_r (by rfl), argP_r (by rfl), trivial⟩ (told_of (sm [4, 5, 2, 3, 6])) ?_
            (try simp only [go_sem, Nat.reduceEqDiff, ↓reduceIte])
            refine hold2 (then_n ?_)
            refine J_seq ?_
            refine J_region (by kernel_rfl) ?_
            (try simp only [go_sem, Nat.reduceEqDiff, ↓reduceIte])
            refine hold2 (then_n ?_)
            refine J_seq ?_
            refine J_region (by kernel_rfl) ?_
            (try simp only [go_sem, Nat.reduceEqDiff, ↓reduceIte])
            refine hold2 (then_n ?_)
            refine J_seq ?_
            refine J_seq ?_
            refine J_region (by kernel_rfl) ?_
            (try simp only [go_sem, Nat.reduceEqDiff, ↓reduceIte])
            refine hold2 (then_n ?_)
            obtain ⟨o265, hP, hQ260⟩ := bind_cases hP
            refine J_joinK0 (fun (s : Int × Int × Int × (List (UInt8))) => envL [(2, .bool end3), (8, .bptr 0 0), (9, .bptr 2 0), (10, .own 4 0 0 (List.length r235.2.2.2)), (11, .int .i64 r235.1), (12, .own 5 0 0 (List.length s.2.2.2)), (13, .int .i64 s.1)]) (fun (s : Int × Int × Int × (List (UInt8))) => [.box 46 [.iface 51 (.agg []), .own 1 0 0 (List.length ([] : List UInt8)), .int .i64 r235.2.1, .bool false, .int .i64 r235.2.2.1], .slice 0 5 1 (List.map encB ([] : List UInt8)), .box 46 [.iface 51 (.agg []), .own 3 0 0 (List.length ([] : List UInt8)), .int .i64 s.2.1, .bool false, .int .i64 s.2.2.1], .slice 0 5 1 (List.map encB ([] : List UInt8)), .slice 0 5 1 (List.map encB r235.2.2.2), .slice 0 5 1 (List.map encB s.2.2.2)]) (fun s => s = o265) ?_ ?_
            · clear hQ260
              refine J_block ?_
              refine J_loop (σ := Nat × Int × Int × Int × Int × (List (UInt8))) (fun (s : Nat × Int × Int × Int × Int × (List (UInt8))) => envL [(1, .view 1 (List.map encB j233)), (2, .bool end3), (8, .bptr 0 0), (9, .bptr 2 0), (10, .own 4 0 0 (List.length r235.2.2.2)), (11, .int .i64 r235.1), (12, .own 5 0 0 (List.length s.2.2.2.2.2)), (13, .int .i64 s.2.1), (14, .int .i64 s.2.2.1)]) (fun (s : Nat × Int × Int × Int × Int × (List (UInt8))) => [.box 46 [.iface 51 (.agg []), .own 1 0 0 (List.length ([] : List UInt8)), .int .i64 r235.2.1, .bool false, .int .i64 r235.2.2.1], .slice 0 5 1 (List.map encB ([] : List UInt8)), .box 46 [.iface 51 (.agg []), .own 3 0 0 (List.length ([] : List UInt8)), .int .i64 s.2.2.2.1, .bool false, .int .i64 s.2.2.2.2.1], .slice 0 5 1 (List.map encB ([] : List UInt8)), .slice 0 5 1 (List.map encB r235.2.2.2), .slice 0 5 1 (List.map encB s.2.2.2.2.2)]) (fun s => law07_ChunkCuts_L260 j233 s.1 s.2.1 s.2.2.1 s.2.2.2.1 s.2.2.2.2.1 s.2.2.2.2.2 = some o265) (fun s => s.1) (1099511627776, 0, 0, 0, 0, ([] : List UInt8)) hP (so [0, 1, 2, 3, 4, 5]) ?_
              rintro ⟨k256, m251, i252, l253, l254, l255⟩ hP
              dsimp only at hP ⊢
              cases k256 with
              | zero => simp [law07_ChunkCuts_L260] at hP
              | succ k256 =>
                simp only [law07_ChunkCuts_L260] at hP
                refine J_seq ?_
                refine J_seq ?_
                refine J_region (by kernel_rfl) ?_
                (try simp only [go_sem, Nat.reduceEqDiff, ↓reduceIte])
                refine hold2 (then_n ?_)
                refine J_condV rfl ?_
                (try simp only [go_sem, Nat.reduceEqDiff, ↓reduceIte])
                rcases ite_cases hP with ⟨hc, hP⟩ | ⟨hc, hP⟩
                · refine condV_t hc ?_
                  refine J_skip (then_n ?_)
                  refine J_seq ?_
                  refine J_block ?_
                  refine J_seq ?_
                  refine J_region (by kernel_rfl) ?_
                  (try simp only [go_sem, Nat.reduceEqDiff, ↓reduceIte])
                  obtain ⟨s261, hs261, hP⟩ := bind_cases hP
                  refine slV_of hs261 ?_
                  (try simp only [go_sem, Nat.reduceEqDiff, ↓reduceIte])
                  obtain ⟨r263, hr262, hP⟩ := bind_cases hP
                  refine call_pt [2, 3] [(1, .view 1 (List.map encB j233)), (2, .bool end3), (8, .bptr 0 0), (9, .bptr 2 0), (10, .own 4 0 0 (List.length r235.2.2.2)), (11, .int .i64 r235.1), (12, .own 5 0 0 (List.length l255)), (13, .int .i64 m251), (14, .int .i64 i252)] [.box 46 [.iface 51 (.agg []), .own 1 0 0 (List.length ([] : List UInt8)), .int .i64 r235.2.1, .bool false, .int .i64 r235.2.2.1], .slice 0 5 1 (List.map encB ([] : List UInt8)), .box 46 [.iface 51 (.agg []), .own 3 0 0 (List.length ([] : List UInt8)), .int .i64 r263.2.1, .bool false, .int .i64 r263.2.2.1], .slice 0 5 1 (List.map encB ([] : List UInt8)), .slice 0 5 1 (List.map encB r235.2.2.2), .slice 0 5 1 (List.map encB l255), .slice 0 5 1 (List.map encB r263.2.2.2)] (.tup [.own 6 0 0 (List.length r263.2.2.2), .int .i64 r263.1]) (chunk_Reader_Take_w3_ok hr262) ⟨argP_r (by rfl), argP_r (by rfl), trivial⟩ (told_of (sm [0, 1, 6, 7, 4, 5, 8])) ?_
                  (try simp only [go_sem, Nat.reduceEqDiff, ↓reduceIte])
                  refine hold2 (then_n ?_)
                  refine J_seq ?_
                  refine J_region (by kernel_rfl) ?_
                  (try simp only [go_sem, Nat.reduceEqDiff, ↓reduceIte])
                  obtain ⟨_, hz264, hP⟩ := bind_cases hP
                  refine app_own (f := encB) (l255 : List (UInt8)) (r263.2.2.2 : List (UInt8)) rfl tyS_22 (by decide) (by simp only [go_sem, Nat.reduceEqDiff, ↓reduceIte]; first | done | rfl | exact ⟨rfl, rfl⟩) hz264 ?_
                  (try simp only [go_sem, Nat.reduceEqDiff, ↓reduceIte])
                  refine hold2 (then_n ?_)
                  refine J_seq ?_
                  refine J_region (by kernel_rfl) ?_
                  (try simp only [go_sem, Nat.reduceEqDiff, ↓reduceIte])
                  refine hold2 (then_n ?_)
                  refine J_seq ?_
                  refine J_region (by kernel_rfl) ?_
                  (try simp only [go_sem, Nat.reduceEqDiff, ↓reduceIte])
                  refine hold2 (then_n ?_)
                  refine J_condV rfl ?_
                  (try simp only [go_sem, Nat.reduceEqDiff, ↓reduceIte])
                  rcases ite_cases hP with ⟨hc, hP⟩ | ⟨hc, hP⟩
                  · refine condV_t hc ?_
                    refine J_exit (block_ne (by decide) (then_exit (loop_exit (block_eq ?_))))
                    exact join_n (iadd .i64 m251 r263.1, r263.2.1, r263.2.2.1, l255 ++ r263.2.2.2) (Option.some.inj hP) (so [0, 1, 2, 3, 4, 5])
                  · refine condV_f hc ?_
                    refine J_skip (block_n (then_n ?_))
                    refine J_region (by kernel_rfl) ?_
                    (try simp only [go_sem, Nat.reduceEqDiff, ↓reduceIte])
                    refine hold2 ?_
                    exact loop_n (k256, iadd .i64 m251 r263.1, iadd .i64 i252 1, r263.2.1, r263.2.2.1, l255 ++ r263.2.2.2) hP (Nat.lt_succ_self _) (so [0, 1, 2, 3, 4, 5])
                · refine condV_f hc ?_
                  refine J_exit (then_exit (loop_exit (block_eq ?_)))
                  exact join_n (m251, l253, l254, l255) (Option.some.inj hP) (so [0, 1, 2, 3, 4, 5])
            · intro j266 hs
              subst hs
              have hP := hQ260
              clear hQ260
              refine then_n ?_
              obtain ⟨o271, hP, hQ271⟩ := bind_cases hP
              refine J_join (fun (s : Bool × Bool) => envL [(2, .bool end3), (8, .bptr 0 0), (9, .bptr 2 0), (10, .own 4 0 0 (List.length r235.2.2.2)), (11, .int .i64 r235.1), (12, .own 5 0 0 (List.length j266.2.2.2)), (13, .int .i64 j266.1)]) (fun (s : Bool × Bool) => [.box 46 [.iface 51 (.agg []), .own 1 0 0 (List.length ([] : List UInt8)), .int .i64 r235.2.1, .bool s.1, .int .i64 r235.2.2.1], .slice 0 5 1 (List.map encB ([] : List UInt8)), .box 46 [.iface 51 (.agg []), .own 3 0 0 (List.length ([] : List UInt8)), .int .i64 j266.2.1, .bool s.2, .int .i64 j266.2.2.1], .slice 0 5 1 (List.map encB ([] : List UInt8)), .slice 0 5 1 (List.map encB r235.2.2.2), .slice 0 5 1 (List.map encB j266.2.2.2)]) (fun s => s = o271) ?_ ?_
              · clear hQ271
                refine J_seq ?_
                refine J_region (by kernel_rfl) ?_
                (try simp only [go_sem, Nat.reduceEqDiff, ↓reduceIte])
                refine hold2 (then_n ?_)
                refine J_condV rfl ?_
                (try simp only [go_sem, Nat.reduceEqDiff, ↓reduceIte])
                rcases ite_cases hP with ⟨hc, hP⟩ | ⟨hc, hP⟩
                · refine condV_t hc ?_
                  refine J_seq ?_
                  refine J_region (by kernel_rfl) ?_
                  (try simp only [go_sem, Nat.reduceEqDiff, ↓reduceIte])
                  obtain ⟨r273, hr272, hP⟩ := bind_cases hP
                  refine call_pt [0, 1] [(2, .bool end3), (8, .bptr 0 0), (9, .bptr 2 0), (10, .own 4 0 0 (List.length r235.2.2.2)), (11, .int .i64 r235.1), (12, .own 5 0 0 (List.length j266.2.2.2)), (13, .int .i64 j266.1)] [.box 46 [.iface 51 (.agg []), .own 1 0 0 (List.length ([] : List UInt8)), .int .i64 r235.2.1, .bool r273, .int .i64 r235.2.2.1], .slice 0 5 1 (List.map encB ([] : List UInt8)), .box 46 [.iface 51 (.agg []), .own 3 0 0 (List.length ([] : List UInt8)), .int .i64 j266.2.1, .bool false, .int .i64 j266.2.2.1], .slice 0 5 1 (List.map encB ([] : List UInt8)), .slice 0 5 1 (List.map encB r235.2.2.2), .slice 0 5 1 (List.map encB j266.2.2.2)] (.tup []) (chunk_Reader_End_ok hr272) ⟨argP_r (by rfl), trivial⟩ (told_of (sm [6, 7, 2, 3, 4, 5])) ?_
                  (try simp only [go_sem, Nat.reduceEqDiff, ↓reduceIte])
                  refine hold2 (then_n ?_)
                  refine J_region (by kernel_rfl) ?_
                  (try simp only [go_sem, Nat.reduceEqDiff, ↓reduceIte])
                  obtain ⟨r275, hr274, hP⟩ := bind_cases hP
                  refine call_pt [2, 3] [(2, .bool end3), (8, .bptr 0 0), (9, .bptr 2 0), (10, .own 4 0 0 (List.length r235.2.2.2)), (11, .int .i64 r235.1), (12, .own 5 0 0 (List.length j266.2.2.2)), (13, .int .i64 j266.1)] [.box 46 [.iface 51 (.agg []), .own 1 0 0 (List.length ([] : List UInt8)), .int .i64 r235.2.1, .bool r273, .int .i64 r235.2.2.1], .slice 0 5 1 (List.map encB ([] : List UInt8)), .box 46 [.iface 51 (.agg []), .own 3 0 0 (List.length ([] : List UInt8)), .int .i64 j266.2.1, .bool r275, .int .i64 j266.2.2.1], .slice 0 5 1 (List.map encB ([] : List UInt8)), .slice 0 5 1 (List.map encB r235.2.2.2), .slice 0 5 1 (List.map encB j266.2.2.2)] (.tup []) (chunk_Reader_End_ok hr274) ⟨argP_r (by rfl), trivial⟩ (told_of (sm [0, 1, 6, 7, 4, 5])) ?_
                  (try simp only [go_sem, Nat.reduceEqDiff, ↓reduceIte])
                  refine hold2 ?_
                  exact join_n (r273, r275) (Option.some.inj hP) (so [0, 1, 2, 3, 4, 5])
                · refine condV_f hc ?_
                  refine J_skip ?_
                  exact join_n (false, false) (Option.some.inj hP) (so [0, 1, 2, 3, 4, 5])
              · intro j276 hs
                subst hs
                have hP := hQ271
                clear hQ271
                refine J_seq ?_
                refine J_region (by kernel_rfl) ?_
                (try simp only [go_sem, Nat.reduceEqDiff, ↓reduceIte])
                first | refine bytesK_map ?_ | refine bytesK_of r235.2.2.2 rfl ?_
                (try simp only [go_sem, Nat.reduceEqDiff, ↓reduceIte])
                first | refine bytesK_map ?_ | refine bytesK_of j266.2.2.2 rfl ?_
                (try simp only [go_sem, Nat.reduceEqDiff, ↓reduceIte])
                rcases ite_cases hP with ⟨hc, hP⟩ | ⟨hc, hP⟩
                · refine guard_is hc ?_
                  (try conv => arg 5; simp only [go_sem, Nat.reduceEqDiff, ↓reduceIte])
                  (try simp only [go_sem, Nat.reduceEqDiff, ↓reduceIte])
                  rcases ite_cases hP with ⟨hc, hP⟩ | ⟨hc, hP⟩
                  · refine guard_is hc ?_
                    (try conv => arg 5; simp only [go_sem, Nat.reduceEqDiff, ↓reduceIte])
                    (try simp only [go_sem, Nat.reduceEqDiff, ↓reduceIte])
                    obtain ⟨r277, hr277, hP⟩ := bind_cases hP
                    refine call_ok [.vptr (.agg [.dead, .view 1 (List.map encB ([] : List UInt8)), .int .i64 r235.2.1, .bool j276.1, .int .i64 r235.2.2.1]) 0] (chunk_Reader_Done_ok hr277) ⟨argR_box rfl ⟨argC_d, argC_m false (by simp only [arg, go_sem, Nat.reduceEqDiff, ↓reduceIte]), argC_m false rfl, argC_m false rfl, argC_m false rfl, trivial⟩, trivial⟩ ?_
                    (try simp only [go_sem, Nat.reduceEqDiff, ↓reduceIte])
                    obtain ⟨r278, hr278, hP⟩ := bind_cases hP
                    refine call_ok [.vptr (.agg [.dead, .view 1 (List.map encB ([] : List UInt8)), .int .i64 j266.2.1, .bool j276.2, .int .i64 j266.2.2.1]) 0] (chunk_Reader_Done_ok hr278) ⟨argR_box rfl ⟨argC_d, argC_m false (by simp only [arg, go_sem, Nat.reduceEqDiff, ↓reduceIte]), argC_m false rfl, argC_m false rfl, argC_m false rfl, trivial⟩, trivial⟩ ?_
                    (try simp only [go_sem, Nat.reduceEqDiff, ↓reduceIte])
                    rcases ite_cases hP with ⟨hc, hP⟩ | ⟨hc, hP⟩
                    · refine guard_is hc ?_
                      (try conv => arg 5; simp only [go_sem, Nat.reduceEqDiff, ↓reduceIte])
                      (try simp only [go_sem, Nat.reduceEqDiff, ↓reduceIte])
                      obtain ⟨r279, hr279, hP⟩ := bind_cases hP
                      refine call_ok [.vptr (.agg [.dead, .view 1 (List.map encB ([] : List UInt8)), .int .i64 r235.2.1, .bool j276.1, .int .i64 r235.2.2.1]) 0] (chunk_Reader_Err_ok hr279) ⟨argR_box rfl ⟨argC_d, argC_m false (by simp only [arg, go_sem, Nat.reduceEqDiff, ↓reduceIte]), argC_m false rfl, argC_m false rfl, argC_m false rfl, trivial⟩, trivial⟩ ?_
                      (try simp only [go_sem, Nat.reduceEqDiff, ↓reduceIte])
                      obtain ⟨r280, hr280, hP⟩ := bind_cases hP
                      refine call_ok [.vptr (.agg [.dead, .view 1 (List.map encB ([] : List UInt8)), .int .i64 j266.2.1, .bool j276.2, .int .i64 j266.2.2.1]) 0] (chunk_Reader_Err_ok hr280) ⟨argR_box rfl ⟨argC_d, argC_m false (by simp only [arg, go_sem, Nat.reduceEqDiff, ↓reduceIte]), argC_m false rfl, argC_m false rfl, argC_m false rfl, trivial⟩, trivial⟩ ?_
                      (try simp only [go_sem, Nat.reduceEqDiff, ↓reduceIte])
                      rcases ite_cases hP with ⟨hc, hP⟩ | ⟨hc, hP⟩
                      · refine guard_is hc ?_
                        (try conv => arg 5; simp only [go_sem, Nat.reduceEqDiff, ↓reduceIte])
                        (try simp only [go_sem, Nat.reduceEqDiff, ↓reduceIte])
                        obtain ⟨r281, hr281, hP⟩ := bind_cases hP
                        refine call_ok [.vptr (.agg [.dead, .view 1 (List.map encB ([] : List UInt8)), .int .i64 r235.2.1, .bool j276.1, .int .i64 r235.2.2.1]) 0] (chunk_Reader_Done_ok hr281) ⟨argR_box rfl ⟨argC_d, argC_m false (by simp only [arg, go_sem, Nat.reduceEqDiff, ↓reduceIte]), argC_m false rfl, argC_m false rfl, argC_m false rfl, trivial⟩, trivial⟩ ?_
                        (try simp only [go_sem, Nat.reduceEqDiff, ↓reduceIte])
                        rcases ite_cases hP with ⟨hc, hP⟩ | ⟨hc, hP⟩
                        · refine guard_is hc ?_
                          (try conv => arg 5; simp only [go_sem, Nat.reduceEqDiff, ↓reduceIte])
                          (try simp only [go_sem, Nat.reduceEqDiff, ↓reduceIte])
                          obtain ⟨r282, hr282, hP⟩ := bind_cases hP
                          refine call_ok [.vptr (.agg [.dead, .view 1 (List.map encB ([] : List UInt8)), .int .i64 r235.2.1, .bool j276.1, .int .i64 r235.2.2.1]) 0] (chunk_Reader_Err_ok hr282) ⟨argR_box rfl ⟨argC_d, argC_m false (by simp only [arg, go_sem, Nat.reduceEqDiff, ↓reduceIte]), argC_m false rfl, argC_m false rfl, argC_m false rfl, trivial⟩, trivial⟩ ?_
                          (try simp only [go_sem, Nat.reduceEqDiff, ↓reduceIte])
                          rcases ite_cases hP with ⟨hc, hP⟩ | ⟨hc, hP⟩
                          · refine guard_is hc ?_
                            (try conv => arg 5; simp only [go_sem, Nat.reduceEqDiff, ↓reduceIte])
                            (try simp only [go_sem, Nat.reduceEqDiff, ↓reduceIte])
                            rcases ite_cases hP with ⟨hc, hP⟩ | ⟨hc, hP⟩
                            · refine guard_is hc ?_
                              (try conv => arg 5; simp only [go_sem, Nat.reduceEqDiff, ↓reduceIte])
                              (try simp only [go_sem, Nat.reduceEqDiff, ↓reduceIte])
                              rcases ite_cases hP with ⟨hc, hP⟩ | ⟨hc, hP⟩
                              · refine guard_not hc ?_
                                (try conv => arg 5; simp only [go_sem, Nat.reduceEqDiff, ↓reduceIte])
                                (try simp only [go_sem, Nat.reduceEqDiff, ↓reduceIte])
                                refine hold2 (then_n ?_)
                                refine J_ret (fin_ret ?_)
                                obtain rfl := Option.some.inj hP
                                (try simp only [go_sem, Nat.reduceEqDiff, ↓reduceIte])
                                exact fo []
                              · refine guard_is hc ?_
                                (try conv => arg 5; simp only [go_sem, Nat.reduceEqDiff, ↓reduceIte])
                                (try simp only [go_sem, Nat.reduceEqDiff, ↓reduceIte])
                                obtain ⟨r283, hr283, hP⟩ := bind_cases hP
                                refine call_ok [.vptr (.agg [.dead, .view 1 (List.map encB ([] : List UInt8)), .int .i64 r235.2.1, .bool j276.1, .int .i64 r235.2.2.1]) 0] (chunk_Reader_Done_ok hr283) ⟨argR_box rfl ⟨argC_d, argC_m false (by simp only [arg, go_sem, Nat.reduceEqDiff, ↓reduceIte]), argC_m false rfl, argC_m false rfl, argC_m false rfl, trivial⟩, trivial⟩ ?_
                                (try simp only [go_sem, Nat.reduceEqDiff, ↓reduceIte])
                                rcases ite_cases hP with ⟨hc, hP⟩ | ⟨hc, hP⟩
                                · refine guard_not hc ?_
                                  (try conv => arg 5; simp only [go_sem, Nat.reduceEqDiff, ↓reduceIte])
                                  (try simp only [go_sem, Nat.reduceEqDiff, ↓reduceIte])
                                  refine hold2 (then_n ?_)
                                  refine J_ret (fin_ret ?_)
                                  obtain rfl := Option.some.inj hP
                                  (try simp only [go_sem, Nat.reduceEqDiff, ↓reduceIte])
                                  exact fo []
                                · refine guard_is hc ?_
                                  (try conv => arg 5; simp only [go_sem, Nat.reduceEqDiff, ↓reduceIte])
                                  (try simp only [go_sem, Nat.reduceEqDiff, ↓reduceIte])
                                  obtain ⟨r284, hr284, hP⟩ := bind_cases hP
                                  refine call_ok [.vptr (.agg [.dead, .view 1 (List.map encB ([] : List UInt8)), .int .i64 r235.2.1, .bool j276.1, .int .i64 r235.2.2.1]) 0] (chunk_Reader_Err_ok hr284) ⟨argR_box rfl ⟨argC_d, argC_m false (by simp only [arg, go_sem, Nat.reduceEqDiff, ↓reduceIte]), argC_m false rfl, argC_m false rfl, argC_m false rfl, trivial⟩, trivial⟩ ?_
                                  (try simp only [go_sem, Nat.reduceEqDiff, ↓reduceIte])
                                  refine hold2 (then_n ?_)
                                  refine J_ret (fin_ret ?_)
                                  obtain rfl := Option.some.inj hP
                                  (try simp only [go_sem, Nat.reduceEqDiff, ↓reduceIte])
                                  exact fo []
                            · refine guard_not hc ?_
                              (try conv => arg 5; simp only [go_sem, Nat.reduceEqDiff, ↓reduceIte])
                              (try simp only [go_sem, Nat.reduceEqDiff, ↓reduceIte])
                              refine hold2 (then_n ?_)
                              refine J_ret (fin_ret ?_)
                              obtain rfl := Option.some.inj hP
                              (try simp only [go_sem, Nat.reduceEqDiff, ↓reduceIte])
                              exact fo []
                          · refine guard_not hc ?_
                            (try conv => arg 5; simp only [go_sem, Nat.reduceEqDiff, ↓reduceIte])
                            (try simp only [go_sem, Nat.reduceEqDiff, ↓reduceIte])
                            refine hold2 (then_n ?_)
                            refine J_ret (fin_ret ?_)
                            obtain rfl := Option.some.inj hP
                            (try simp only [go_sem, Nat.reduceEqDiff, ↓reduceIte])
                            exact fo []
                        · refine guard_not hc ?_
                          (try conv => arg 5; simp only [go_sem, Nat.reduceEqDiff, ↓reduceIte])
                          (try simp only [go_sem, Nat.reduceEqDiff, ↓reduceIte])
                          rcases ite_cases hP with ⟨hc, hP⟩ | ⟨hc, hP⟩
                          · refine guard_is hc ?_
                            (try conv => arg 5; simp only [go_sem, Nat.reduceEqDiff, ↓reduceIte])
                            (try simp only [go_sem, Nat.reduceEqDiff, ↓reduceIte])
                            rcases ite_cases hP with ⟨hc, hP⟩ | ⟨hc, hP⟩
                            · refine guard_not hc ?_
                              (try conv => arg 5; simp only [go_sem, Nat.reduceEqDiff, ↓reduceIte])
                              (try simp only [go_sem, Nat.reduceEqDiff, ↓reduceIte])
                              refine hold2 (then_n ?_)
                              refine J_ret (fin_ret ?_)
                              obtain rfl := Option.some.inj hP
                              (try simp only [go_sem, Nat.reduceEqDiff, ↓reduceIte])
                              exact fo []
                            · refine guard_is hc ?_
                              (try conv => arg 5; simp only [go_sem, Nat.reduceEqDiff, ↓reduceIte])
                              (try simp only [go_sem, Nat.reduceEqDiff, ↓reduceIte])
                              obtain ⟨r285, hr285, hP⟩ := bind_cases hP
                              refine call_ok [.vptr (.agg [.dead, .view 1 (List.map encB ([] : List UInt8)), .int .i64 r235.2.1, .bool j276.1, .int .i64 r235.2.2.1]) 0] (chunk_Reader_Done_ok hr285) ⟨argR_box rfl ⟨argC_d, argC_m false (by simp only [arg, go_sem, Nat.reduceEqDiff, ↓reduceIte]), argC_m false rfl, argC_m false rfl, argC_m false rfl, trivial⟩, trivial⟩ ?_
                              (try simp only [go_sem, Nat.reduceEqDiff, ↓reduceIte])
                              rcases ite_cases hP with ⟨hc, hP⟩ | ⟨hc, hP⟩
                              · refine guard_not hc ?_
                                (try conv => arg 5; simp only [go_sem, Nat.reduceEqDiff, ↓reduceIte])
                                (try simp only [go_sem, Nat.reduceEqDiff, ↓reduceIte])
                                refine hold2 (then_n ?_)
                                refine J_ret (fin_ret ?_)
                                obtain rfl := Option.some.inj hP
                                (try simp only [go_sem, Nat.reduceEqDiff, ↓reduceIte])
                                exact fo []
                              · refine guard_is hc ?_
                                (try conv => arg 5; simp only [go_sem, Nat.reduceEqDiff, ↓reduceIte])
                                (try simp only [go_sem, Nat.reduceEqDiff, ↓reduceIte])
                                obtain ⟨r286, hr286, hP⟩ := bind_cases hP
                                refine call_ok [.vptr (.agg [.dead, .view 1 (List.map encB ([] : List UInt8)), .int .i64 r235.2.1, .bool j276.1, .int .i64 r235.2.2.1]) 0] (chunk_Reader_Err_ok hr286) ⟨argR_box rfl ⟨argC_d, argC_m false (by simp only [arg, go_sem, Nat.reduceEqDiff, ↓reduceIte]), argC_m false rfl, argC_m false rfl, argC_m false rfl, trivial⟩, trivial⟩ ?_
                                (try simp only [go_sem, Nat.reduceEqDiff, ↓reduceIte])
                                refine hold2 (then_n ?_)
                                refine J_ret (fin_ret ?_)
                                obtain rfl := Option.some.inj hP
                                (try simp only [go_sem, Nat.reduceEqDiff, ↓reduceIte])
                                exact fo []
                          · refine guard_not hc ?_
                            (try conv => arg 5; simp only [go_sem, Nat.reduceEqDiff, ↓reduceIte])
                            (try simp only [go_sem, Nat.reduceEqDiff, ↓reduceIte])
                            refine hold2 (then_n ?_)
                            refine J_ret (fin_ret ?_)
                            obtain rfl := Option.some.inj hP
                            (try simp only [go_sem, Nat.reduceEqDiff, ↓reduceIte])
                            exact fo []
                      · refine guard_not hc ?_
                        (try conv => arg 5; simp only [go_sem, Nat.reduceEqDiff, ↓reduceIte])
                        (try simp only [go_sem, Nat.reduceEqDiff, ↓reduceIte])
                        refine hold2 (then_n ?_)
                        refine J_ret (fin_ret ?_)
                        obtain rfl := Option.some.inj hP
                        (try simp only [go_sem, Nat.reduceEqDiff, ↓reduceIte])
                        exact fo []
                    · refine guard_not hc ?_
                      (try conv => arg 5; simp only [go_sem, Nat.reduceEqDiff, ↓reduceIte])
                      (try simp only [go_sem, Nat.reduceEqDiff, ↓reduceIte])
                      refine hold2 (then_n ?_)
                      refine J_ret (fin_ret ?_)
                      obtain rfl := Option.some.inj hP
                      (try simp only [go_sem, Nat.reduceEqDiff, ↓reduceIte])
                      exact fo []
                  · refine guard_not hc ?_
                    (try conv => arg 5; simp only [go_sem, Nat.reduceEqDiff, ↓reduceIte])
                    (try simp only [go_sem, Nat.reduceEqDiff, ↓reduceIte])
                    refine hold2 (then_n ?_)
                    refine J_ret (fin_ret ?_)
                    obtain rfl := Option.some.inj hP
                    (try simp only [go_sem, Nat.reduceEqDiff, ↓reduceIte])
                    exact fo []
                · refine guard_not hc ?_
                  (try conv => arg 5; simp only [go_sem, Nat.reduceEqDiff, ↓reduceIte])
                  (try simp only [go_sem, Nat.reduceEqDiff, ↓reduceIte])
                  refine hold2 (then_n ?_)
                  refine J_ret (fin_ret ?_)
                  obtain rfl := Option.some.inj hP
                  (try simp only [go_sem, Nat.reduceEqDiff, ↓reduceIte])
                  exact fo []
end Go.Proofs.YtfhlehkgiamejaaGreatDoor
