/- Functions of the program, and pure ones that go the same ways: that the program's return what these compute. -/
import Derived.Test.YtfhlehkgiamejaaGreatDoorGE
import Derived.Test.YtfhlehkgiamejaaGreatDoorAvY
import Derived.Test.YtfhlehkgiamejaaGreatDoorAvPj
namespace Go.Proofs.YtfhlehkgiamejaaGreatDoor
open Go.Av
set_option linter.unusedVariables false
set_option linter.unusedSimpArgs false
/-- colander/chunk.New, handed pointers -/
def chunk_New_w3 (c1 : Int) : Option (Sum (Unit) (Unit)) :=
  (show Option (Bool) from
    if decide (c1 < 0) then
      some true
    else
      some (decide (8192 < c1))).bind fun j5 =>
    if j5 then
      some (Sum.inl ())
    else
      some (Sum.inr ())
set_option maxRecDepth 100000 in
set_option maxHeartbeats 40000000 in
theorem chunk_New_w3_ok {c1 : Int} {r : Sum (Unit) (Unit)} (hP : chunk_New_w3 c1 = some r) : CallPX Tryz.prog 12 [.agg [.int .i64 1, .int .i64 c1]] [] [] ((match r with | .inl r => .inr ⟨.sc (.pointer none), [], []⟩ | .inr r => .inr ⟨.bptr 0 0, [], [.box 46 [.iface 47 (.int .i64 c1), .own 1 0 0 (List.length ([] : List UInt8)), .int .i64 0, .bool (decide (c1 = 0)), .int .i64 0], .slice 0 5 1 (List.map encB ([] : List UInt8))]⟩)) := by
  unfold chunk_New_w3 at hP
  refine callPX_of 42 [.tmp 2] Tryz.func12 ?_ (by rcases r with r | r <;> rintro q (h | h) <;> cases h <;> exact ⟨by (first | (intro x hx; simp at hx; done) | (simp [vfO, AV.vf, AV.vfL, encB, encI, encS, encO, enc_api_Body, enc_api_Fault, enc_head_text, enc_api_Field]; done) | (simp [vfO, AV.vf, AV.vfL, encB, encI, encS, encO, enc_api_Body, enc_api_Fault, enc_head_text, enc_api_Field]; intros; subst_vars; simp [AV.vf, AV.vfL]) | (simp [vfO, AV.vf, AV.vfL, encB, encI, encS, encO, enc_api_Body, enc_api_Fault, enc_head_text, enc_api_Field]; (repeat' apply And.intro) <;> (rintro x (⟨a, _, rfl⟩ | rfl) <;> simp [AV.vf, AV.vfL]))), by simp⟩) (by rcases r with r | r <;> rintro q h <;> cases h <;> first | rfl | simp [AV.vf, AV.vfL])
  refine J_seq ?_
  refine J_region (by kernel_rfl) ?_
  (try simp only [go_sem, Nat.reduceEqDiff, ↓reduceIte, Nat.reduceAdd, Nat.reduceSub, Nat.reduceLT, Nat.reduceMul, reduceCtorEq, Int.reduceToNat, Int.reduceLE, Int.reduceLT, Nat.reduceLeDiff])
  refine hold2 (then_n ?_)
  refine J_seq ?_
  refine J_seq ?_
  refine J_region (by kernel_rfl) ?_
  (try simp only [go_sem, Nat.reduceEqDiff, ↓reduceIte])
  refine hold2 (then_n ?_)
  refine J_block ?_
  refine J_seq ?_
  refine J_region (by kernel_rfl) ?_
  (try simp only [go_sem, Nat.reduceEqDiff, ↓reduceIte])
  (try simp only [show decide ((1 : Int) = 0) = false from rfl, decide_true, decide_false, Bool.not_true, Bool.not_false, go_sem, Nat.reduceEqDiff, ↓reduceIte])
  refine hold2 (then_n ?_)
  refine J_condV rfl ?_
  (try simp only [go_sem, Nat.reduceEqDiff, ↓reduceIte])
  refine J_seq ?_
  refine J_region (by kernel_rfl) ?_
  (try simp only [go_sem, Nat.reduceEqDiff, ↓reduceIte])
  (try simp only [show decide ((1 : Int) = 1) = true from rfl, decide_true, decide_false, Bool.not_true, Bool.not_false, go_sem, Nat.reduceEqDiff, ↓reduceIte])
  refine hold2 (then_n ?_)
  refine J_condV rfl ?_
  (try simp only [go_sem, Nat.reduceEqDiff, ↓reduceIte])
  refine J_seq ?_
  obtain ⟨o4, hP, hQ4⟩ := bind_cases hP
  refine J_join (fun (s : Bool) => envL [(1, .bptr 0 0), (20, .bool s)]) (fun (s : Bool) => [.box 32 [.int .i64 1, .int .i64 c1]]) (fun s => s = o4) ?_ ?_
  · clear hQ4
    refine J_region (by kernel_rfl) ?_
    (try simp only [go_sem, Nat.reduceEqDiff, ↓reduceIte])
    rcases ite_cases hP with ⟨hc, hP⟩ | ⟨hc, hP⟩
    · refine guard_not hc ?_
      (try simp only [go_sem, Nat.reduceEqDiff, ↓reduceIte])
      refine hold2 ?_
      exact join_n true (Option.some.inj hP) (so [0])
    · refine guard_is hc ?_
      (try simp only [go_sem, Nat.reduceEqDiff, ↓reduceIte])
      refine hold2 ?_
      exact join_n (decide (8192 < c1)) (Option.some.inj hP) (so [0])
  · intro j5 hs
    subst hs
    have hP := hQ4
    clear hQ4
    refine J_condV rfl ?_
    (try simp only [go_sem, Nat.reduceEqDiff, ↓reduceIte])
    rcases ite_cases hP with ⟨hc, hP⟩ | ⟨hc, hP⟩
    · refine condV_t hc ?_
      refine J_seq ?_
      refine J_region (by kernel_rfl) ?_
      (try simp only [go_sem, Nat.reduceEqDiff, ↓reduceIte])
      refine hold2 (then_n ?_)
      refine J_ret (then_ret (block_ret (then_ret (finIX_ret ?_))))
      obtain rfl := Option.some.inj hP
      exact pk_of rfl (sr [])
    · refine condV_f hc ?_
      refine J_skip (then_n ?_)
      refine J_seq ?_
      refine J_region (by kernel_rfl) ?_
      (try simp only [go_sem, Nat.reduceEqDiff, ↓reduceIte, Nat.reduceAdd, Nat.reduceSub, Nat.reduceLT, Nat.reduceMul, reduceCtorEq, Int.reduceToNat, Int.reduceLE, Int.reduceLT, Nat.reduceLeDiff])
      refine hold2 (then_n ?_)
      refine J_prom 5 1 (by decide) 1 1 _ _ rfl rfl ?_
      (try simp only [go_sem, Nat.reduceEqDiff, ↓reduceIte])
      refine J_ret (block_ret (then_ret (finIX_ret ?_)))
      obtain rfl := Option.some.inj hP
      exact pk_of rfl (sr [1, 2])
/-- colander/chunk.New, handed pointers -/
def chunk_New_w4 : Option (Unit) :=
  some ()
set_option maxRecDepth 100000 in
set_option maxHeartbeats 40000000 in
theorem chunk_New_w4_ok {r : Unit} (hP : chunk_New_w4 = some r) : CallPX Tryz.prog 12 [.agg [.int .i64 3, .int .i64 0]] [] [] (.inr ⟨.bptr 0 0, [], [.box 46 [.iface 51 (.agg []), .own 1 0 0 (List.length ([] : List UInt8)), .int .i64 0, .bool false, .int .i64 0], .slice 0 5 1 (List.map encB ([] : List UInt8))]⟩) := by
  unfold chunk_New_w4 at hP
  refine callPX_of 42 [.tmp 2] Tryz.func12 ?_ (by rintro q (h | h) <;> cases h <;> exact ⟨by (first | (intro x hx; simp at hx; done) | (simp [vfO, AV.vf, AV.vfL, encB, encI, encS, encO, enc_api_Body, enc_api_Fault, enc_head_text, enc_api_Field]; done) | (simp [vfO, AV.vf, AV.vfL, encB, encI, encS, encO, enc_api_Body, enc_api_Fault, enc_head_text, enc_api_Field]; intros; subst_vars; simp [AV.vf, AV.vfL]) | (simp [vfO, AV.vf, AV.vfL, encB, encI, encS, encO, enc_api_Body, enc_api_Fault, enc_head_text, enc_api_Field]; (repeat' apply And.intro) <;> (rintro x (⟨a, _, rfl⟩ | rfl) <;> simp [AV.vf, AV.vfL]))), by simp⟩) (by rintro q h <;> cases h <;> first | rfl | simp [AV.vf, AV.vfL])
  refine J_seq ?_
  refine J_region (by kernel_rfl) ?_
  (try simp only [go_sem, Nat.reduceEqDiff, ↓reduceIte, Nat.reduceAdd, Nat.reduceSub, Nat.reduceLT, Nat.reduceMul, reduceCtorEq, Int.reduceToNat, Int.reduceLE, Int.reduceLT, Nat.reduceLeDiff])
  refine hold2 (then_n ?_)
  refine J_seq ?_
  refine J_seq ?_
  refine J_region (by kernel_rfl) ?_
  (try simp only [go_sem, Nat.reduceEqDiff, ↓reduceIte])
  refine hold2 (then_n ?_)
  refine J_block ?_
  refine J_seq ?_
  refine J_region (by kernel_rfl) ?_
  (try simp only [go_sem, Nat.reduceEqDiff, ↓reduceIte])
  (try simp only [show decide ((3 : Int) = 0) = false from rfl, decide_true, decide_false, Bool.not_true, Bool.not_false, go_sem, Nat.reduceEqDiff, ↓reduceIte])
  refine hold2 (then_n ?_)
  refine J_condV rfl ?_
  (try simp only [go_sem, Nat.reduceEqDiff, ↓reduceIte])
  refine J_seq ?_
  refine J_region (by kernel_rfl) ?_
  (try simp only [go_sem, Nat.reduceEqDiff, ↓reduceIte])
  (try simp only [show decide ((3 : Int) = 1) = false from rfl, decide_true, decide_false, Bool.not_true, Bool.not_false, go_sem, Nat.reduceEqDiff, ↓reduceIte])
  refine hold2 (then_n ?_)
  refine J_condV rfl ?_
  (try simp only [go_sem, Nat.reduceEqDiff, ↓reduceIte])
  refine J_seq ?_
  refine J_region (by kernel_rfl) ?_
  (try simp only [go_sem, Nat.reduceEqDiff, ↓reduceIte])
  (try simp only [show decide ((3 : Int) = 2) = false from rfl, decide_true, decide_false, Bool.not_true, Bool.not_false, go_sem, Nat.reduceEqDiff, ↓reduceIte])
  refine hold2 (then_n ?_)
  refine J_condV rfl ?_
  (try simp only [go_sem, Nat.reduceEqDiff, ↓reduceIte])
  refine J_seq ?_
  refine J_region (by kernel_rfl) ?_
  (try simp only [go_sem, Nat.reduceEqDiff, ↓reduceIte])
  (try simp only [show decide ((3 : Int) = 3) = true from rfl, decide_true, decide_false, Bool.not_true, Bool.not_false, go_sem, Nat.reduceEqDiff, ↓reduceIte])
  refine hold2 (then_n ?_)
  refine J_condV rfl ?_
  (try simp only [go_sem, Nat.reduceEqDiff, ↓reduceIte])
  refine J_seq ?_
  refine J_region (by kernel_rfl) ?_
  (try simp only [go_sem, Nat.reduceEqDiff, ↓reduceIte, Nat.reduceAdd, Nat.reduceSub, Nat.reduceLT, Nat.reduceMul, reduceCtorEq, Int.reduceToNat, Int.reduceLE, Int.reduceLT, Nat.reduceLeDiff])
  refine hold2 (then_n ?_)
  refine J_prom 5 1 (by decide) 1 1 _ _ rfl rfl ?_
  (try simp only [go_sem, Nat.reduceEqDiff, ↓reduceIte])
  refine J_ret (block_ret (then_ret (finIX_ret ?_)))
  obtain rfl := Option.some.inj hP
  exact pk_of rfl (sr [1, 2])
/-- colander/chunk.New, handed pointers -/
def chunk_New_w5 : Option (Unit) :=
  some ()
set_option maxRecDepth 100000 in
set_option maxHeartbeats 40000000 in
theorem chunk_New_w5_ok {r : Unit} (hP : chunk_New_w5 = some r) : CallPX Tryz.prog 12 [.agg [.int .i64 0, .int .i64 0]] [] [] (.inr ⟨.bptr 0 0, [], [.box 46 [.iface 42 (.agg []), .own 1 0 0 (List.length ([] : List UInt8)), .int .i64 0, .bool true, .int .i64 0], .slice 0 5 1 (List.map encB ([] : List UInt8))]⟩) := by
  unfold chunk_New_w5 at hP
  refine callPX_of 42 [.tmp 2] Tryz.func12 ?_ (by rintro q (h | h) <;> cases h <;> exact ⟨by (first | (intro x hx; simp at hx; done) | (simp [vfO, AV.vf, AV.vfL, encB, encI, encS, encO, enc_api_Body, enc_api_Fault, enc_head_text, enc_api_Field]; done) | (simp [vfO, AV.vf, AV.vfL, encB, encI, encS, encO, enc_api_Body, enc_api_Fault, enc_head_text, enc_api_Field]; intros; subst_vars; simp [AV.vf, AV.vfL]) | (simp [vfO, AV.vf, AV.vfL, encB, encI, encS, encO, enc_api_Body, enc_api_Fault, enc_head_text, enc_api_Field]; (repeat' apply And.intro) <;> (rintro x (⟨a, _, rfl⟩ | rfl) <;> simp [AV.vf, AV.vfL]))), by simp⟩) (by rintro q h <;> cases h <;> first | rfl | simp [AV.vf, AV.vfL])
  refine J_seq ?_
  refine J_region (by kernel_rfl) ?_
  (try simp only [go_sem, Nat.reduceEqDiff, ↓reduceIte, Nat.reduceAdd, Nat.reduceSub, Nat.reduceLT, Nat.reduceMul, reduceCtorEq, Int.reduceToNat, Int.reduceLE, Int.reduceLT, Nat.reduceLeDiff])
  refine hold2 (then_n ?_)
  refine J_seq ?_
  refine J_seq ?_
  refine J_region (by kernel_rfl) ?_
  (try simp only [go_sem, Nat.reduceEqDiff, ↓reduceIte])
  refine hold2 (then_n ?_)
  refine J_block ?_
  refine J_seq ?_
  refine J_region (by kernel_rfl) ?_
  (try simp only [go_sem, Nat.reduceEqDiff, ↓reduceIte])
  (try simp only [show decide ((0 : Int) = 0) = true from rfl, decide_true, decide_false, Bool.not_true, Bool.not_false, go_sem, Nat.reduceEqDiff, ↓reduceIte])
  refine hold2 (then_n ?_)
  refine J_condV rfl ?_
  (try simp only [go_sem, Nat.reduceEqDiff, ↓reduceIte])
  refine J_seq ?_
  refine J_region (by kernel_rfl) ?_
  (try simp only [go_sem, Nat.reduceEqDiff, ↓reduceIte, Nat.reduceAdd, Nat.reduceSub, Nat.reduceLT, Nat.reduceMul, reduceCtorEq, Int.reduceToNat, Int.reduceLE, Int.reduceLT, Nat.reduceLeDiff])
  refine hold2 (then_n ?_)
  refine J_prom 5 1 (by decide) 1 1 _ _ rfl rfl ?_
  (try simp only [go_sem, Nat.reduceEqDiff, ↓reduceIte])
  refine J_ret (block_ret (then_ret (finIX_ret ?_)))
  obtain rfl := Option.some.inj hP
  exact pk_of rfl (sr [1, 2])
theorem meth_47_53 : MethOK Tryz.prog 47 "colander/chunk.one" 53 := fun _ _ => by kernel_rfl
/-- (*colander/chunk.Reader).means, handed pointers -/
def chunk_Reader_means_w2 (c1 : UInt8) (c2 : Int) (c3 : Int) (c4 : Bool) (c5 : Int) (c6 : List (UInt8)) : Option (Unit) :=
  (szC (List.length (c6 ++ [c1] : List (UInt8)))).bind fun _ =>
  some ()
set_option maxRecDepth 100000 in
set_option maxHeartbeats 40000000 in
theorem chunk_Reader_means_w2_ok {c1 : UInt8} {c2 : Int} {c3 : Int} {c4 : Bool} {c5 : Int} {c6 : List (UInt8)} {r : Unit} (hP : chunk_Reader_means_w2 c1 c2 c3 c4 c5 c6 = some r) : CallPX Tryz.prog 54 [.bptr 0 0, .int .u8 (b2i c1)] [.box 46 [.iface 47 (.int .i64 c2), .own 1 0 0 (List.length c6), .int .i64 c3, .bool c4, .int .i64 c5], .slice 0 5 1 (List.map encB c6)] [0] (.inr ⟨.tup [], [(0, .bptr 0 0)], [.box 46 [.iface 47 (.int .i64 c2), .own 1 0 0 (List.length (c6 ++ [c1])), .int .i64 (iadd .i64 c3 1), .bool c4, .int .i64 c5], .slice 0 5 1 (List.map encB (c6 ++ [c1]))]⟩) := by
  unfold chunk_Reader_means_w2 at hP
  refine callPX_of 21 [] Tryz.func54 ?_ (by rintro q (h | h) <;> cases h <;> exact ⟨by (first | (intro x hx; simp at hx; done) | (simp [vfO, AV.vf, AV.vfL, encB, encI, encS, encO, enc_api_Body, enc_api_Fault, enc_head_text, enc_api_Field]; done) | (simp [vfO, AV.vf, AV.vfL, encB, encI, encS, encO, enc_api_Body, enc_api_Fault, enc_head_text, enc_api_Field]; intros; subst_vars; simp [AV.vf, AV.vfL]) | (simp [vfO, AV.vf, AV.vfL, encB, encI, encS, encO, enc_api_Body, enc_api_Fault, enc_head_text, enc_api_Field]; (repeat' apply And.intro) <;> (rintro x (⟨a, _, rfl⟩ | rfl) <;> simp [AV.vf, AV.vfL]))), by simp⟩) (by rintro q h <;> cases h <;> first | rfl | simp [AV.vf, AV.vfL])
  refine J_seq ?_
  refine J_region (by kernel_rfl) ?_
  (try simp only [go_sem, Nat.reduceEqDiff, ↓reduceIte, Nat.reduceAdd, Nat.reduceSub, Nat.reduceLT, Nat.reduceMul, reduceCtorEq, Int.reduceToNat, Int.reduceLE, Int.reduceLT, Nat.reduceLeDiff])
  obtain ⟨_, hz8, hP⟩ := bind_cases hP
  refine app_own (f := encB) (c6 : List (UInt8)) ([c1] : List (UInt8)) rfl tyS_22 (by decide) (by simp only [go_sem, Nat.reduceEqDiff, ↓reduceIte, Nat.reduceAdd, Nat.reduceSub, Nat.reduceLT, Nat.reduceMul, reduceCtorEq, Int.reduceToNat, Int.reduceLE, Int.reduceLT, Nat.reduceLeDiff]; first | done | rfl | exact ⟨rfl, rfl⟩) hz8 ?_
  (try simp only [go_sem, Nat.reduceEqDiff, ↓reduceIte, Nat.reduceAdd, Nat.reduceSub, Nat.reduceLT, Nat.reduceMul, reduceCtorEq, Int.reduceToNat, Int.reduceLE, Int.reduceLT, Nat.reduceLeDiff])
  refine hold2 (then_n ?_)
  refine J_region (by kernel_rfl) ?_
  (try simp only [go_sem, Nat.reduceEqDiff, ↓reduceIte, Nat.reduceAdd, Nat.reduceSub, Nat.reduceLT, Nat.reduceMul, reduceCtorEq, Int.reduceToNat, Int.reduceLE, Int.reduceLT, Nat.reduceLeDiff])
  refine hold2 (finIX_n ?_)
  obtain rfl := Option.some.inj hP
  exact pk_of rfl (sr [0, 1])
/-- (colander/chunk.length).one, handed pointers -/
def chunk_length_one (n1 : Int) (c2 : UInt8) (c3 : Int) (c4 : Int) (c5 : Bool) (c6 : Int) (c7 : List (UInt8)) : Option (Unit) :=
  (chunk_Reader_means_w2 c2 c3 c4 c5 c6 c7).bind fun r11 =>
  some ()
set_option maxRecDepth 100000 in
set_option maxHeartbeats 40000000 in
theorem chunk_length_one_ok {n1 : Int} {c2 : UInt8} {c3 : Int} {c4 : Int} {c5 : Bool} {c6 : Int} {c7 : List (UInt8)} {r : Unit} (hP : chunk_length_one n1 c2 c3 c4 c5 c6 c7 = some r) : CallPX Tryz.prog 53 [.int .i64 n1, .bptr 0 0, .int .u8 (b2i c2)] [.box 46 [.iface 47 (.int .i64 c3), .own 1 0 0 (List.length c7), .int .i64 c4, .bool c5, .int .i64 c6], .slice 0 5 1 (List.map encB c7)] [0] (.inr ⟨.tup [], [(0, .bptr 0 0)], [.box 46 [.iface 47 (.int .i64 c3), .own 1 0 0 (List.length (c7 ++ [c2])), .int .i64 (iadd .i64 c4 1), .bool (decide (iadd .i64 c4 1 = n1)), .int .i64 c6], .slice 0 5 1 (List.map encB (c7 ++ [c2]))]⟩) := by
  unfold chunk_length_one at hP
  refine callPX_of 18 [] Tryz.func53 ?_ (by rintro q (h | h) <;> cases h <;> exact ⟨by (first | (intro x hx; simp at hx; done) | (simp [vfO, AV.vf, AV.vfL, encB, encI, encS, encO, enc_api_Body, enc_api_Fault, enc_head_text, enc_api_Field]; done) | (simp [vfO, AV.vf, AV.vfL, encB, encI, encS, encO, enc_api_Body, enc_api_Fault, enc_head_text, enc_api_Field]; intros; subst_vars; simp [AV.vf, AV.vfL]) | (simp [vfO, AV.vf, AV.vfL, encB, encI, encS, encO, enc_api_Body, enc_api_Fault, enc_head_text, enc_api_Field]; (repeat' apply And.intro) <;> (rintro x (⟨a, _, rfl⟩ | rfl) <;> simp [AV.vf, AV.vfL]))), by simp⟩) (by rintro q h <;> cases h <;> first | rfl | simp [AV.vf, AV.vfL])
  refine J_seq ?_
  refine J_region (by kernel_rfl) ?_
  (try simp only [go_sem, Nat.reduceEqDiff, ↓reduceIte])
  obtain ⟨r11, hr10, hP⟩ := bind_cases hP
  refine call_pt [0, 1] [(0, .int .i64 n1), (1, .bptr 0 0), (18, .bptr 0 0)] [.box 46 [.iface 47 (.int .i64 c3), .own 1 0 0 (List.length (c7 ++ [c2])), .int .i64 (iadd .i64 c4 1), .bool c5, .int .i64 c6], .slice 0 5 1 (List.map encB (c7 ++ [c2]))] (.tup []) (chunk_Reader_means_w2_ok hr10) ⟨argP_r (by rfl), argP_r (by rfl), trivial⟩ (told_of (sm [2, 3])) ?_
  (try simp only [go_sem, Nat.reduceEqDiff, ↓reduceIte])
  refine hold2 (then_n ?_)
  refine J_region (by kernel_rfl) ?_
  (try simp only [go_sem, Nat.reduceEqDiff, ↓reduceIte, Nat.reduceAdd, Nat.reduceSub, Nat.reduceLT, Nat.reduceMul, reduceCtorEq, Int.reduceToNat, Int.reduceLE, Int.reduceLT, Nat.reduceLeDiff])
  refine hold2 (finIX_n ?_)
  obtain rfl := Option.some.inj hP
  exact pk_of rfl (sr [0, 1])
/-- (*colander/chunk.Reader).Take, handed pointers -/
def chunk_Reader_Take_w2_L63 (b1 : List (UInt8)) (c5 : Int) (c2 : Int) : Nat → Int → Int → Bool → (List (UInt8)) → Option (Int × Int × Bool × (List (UInt8)))
  | 0, _, _, _, _ => none
  | k58 + 1, n54, l55, l56, l57 =>
    (show Option (Bool) from
      if decide (n54 < (List.length b1 : Int)) then
        if !l56 then
          some (decide (c5 = 0))
        else
          some false
      else
        some false).bind fun j65 =>
      if j65 then
        (ixL b1 n54).bind fun x66 =>
        (chunk_length_one c2 x66 c2 l55 l56 c5 l57).bind fun r68 =>
        chunk_Reader_Take_w2_L63 b1 c5 c2 k58 (iadd .i64 n54 1) (iadd .i64 l55 1) (decide (iadd .i64 l55 1 = c2)) (l57 ++ [x66])
      else
        some (n54, l55, l56, l57)
def chunk_Reader_Take_w2 (b1 : List (UInt8)) (c2 : Int) (c3 : Int) (c4 : Bool) (c5 : Int) (c6 : List (UInt8)) : Option (Int × Int × Bool × (List (UInt8))) :=
  (chunk_Reader_Take_w2_L63 b1 c5 c2 1099511627776 0 c3 c4 ([] : List UInt8)).bind fun j70 =>
    some (j70.1, j70.2.1, j70.2.2.1, j70.2.2.2)
set_option maxRecDepth 100000 in
set_option maxHeartbeats 40000000 in
theorem chunk_Reader_Take_w2_ok {b1 : List (UInt8)} {c2 : Int} {c3 : Int} {c4 : Bool} {c5 : Int} {c6 : List (UInt8)} {r : Int × Int × Bool × (List (UInt8))} (hP : chunk_Reader_Take_w2 b1 c2 c3 c4 c5 c6 = some r) : CallPX Tryz.prog 13 [.bptr 0 0, .view 1 (List.map encB b1)] [.box 46 [.iface 47 (.int .i64 c2), .own 1 0 0 (List.length c6), .int .i64 c3, .bool c4, .int .i64 c5], .slice 0 5 1 (List.map encB c6)] [0] (.inr ⟨.tup [.own 2 0 0 (List.length r.2.2.2), .int .i64 r.1], [(0, .bptr 0 0)], [.box 46 [.iface 47 (.int .i64 c2), .own 1 0 0 (List.length ([] : List UInt8)), .int .i64 r.2.1, .bool r.2.2.1, .int .i64 c5], .slice 0 5 1 (List.map encB ([] : List UInt8)), .slice 0 5 1 (List.map encB r.2.2.2)]⟩) := by
  unfold chunk_Reader_Take_w2 at hP
  refine callPX_of 52 [.tmp 4, .tmp 5] Tryz.func13 ?_ (by rintro q (h | h) <;> cases h <;> exact ⟨by (first | (intro x hx; simp at hx; done) | (simp [vfO, AV.vf, AV.vfL, encB, encI, encS, encO, enc_api_Body, enc_api_Fault, enc_head_text, enc_api_Field]; done) | (simp [vfO, AV.vf, AV.vfL, encB, encI, encS, encO, enc_api_Body, enc_api_Fault, enc_head_text, enc_api_Field]; intros; subst_vars; simp [AV.vf, AV.vfL]) | (simp [vfO, AV.vf, AV.vfL, encB, encI, encS, encO, enc_api_Body, enc_api_Fault, enc_head_text, enc_api_Field]; (repeat' apply And.intro) <;> (rintro x (⟨a, _, rfl⟩ | rfl) <;> simp [AV.vf, AV.vfL]))), by simp⟩) (by rintro q h <;> cases h <;> first | rfl | simp [AV.vf, AV.vfL])
  refine J_seq ?_
  refine J_region (by kernel_rfl) ?_
  (try simp only [go_sem, Nat.reduceEqDiff, ↓reduceIte])
  refine hold2 (then_n ?_)
  refine J_seq ?_
  refine J_region (by kernel_rfl) ?_
  (try simp only [go_sem, Nat.reduceEqDiff, ↓reduceIte])
  refine hold2 (then_n ?_)
  refine J_seq ?_
  refine J_seq ?_
  refine J_region (by kernel_rfl) ?_
  (try simp only [go_sem, Nat.reduceEqDiff, ↓reduceIte, Nat.reduceAdd, Nat.reduceSub, Nat.reduceLT, Nat.reduceMul, reduceCtorEq, Int.reduceToNat, Int.reduceLE, Int.reduceLT, Nat.reduceLeDiff])
  refine hold2 (then_n ?_)
  refine J_prom 5 1 (by decide) 0 1 _ _ rfl rfl ?_
  (try simp only [go_sem, Nat.reduceEqDiff, ↓reduceIte])
  obtain ⟨o69, hP, hQ63⟩ := bind_cases hP
  refine J_joinK0 (fun (s : Int × Int × Bool × (List (UInt8))) => envL [(0, .bptr 0 0), (6, .int .i64 s.1), (52, .bptr 0 0)]) (fun (s : Int × Int × Bool × (List (UInt8))) => [.box 46 [.iface 47 (.int .i64 c2), .own 1 0 0 (List.length s.2.2.2), .int .i64 s.2.1, .bool s.2.2.1, .int .i64 c5], .slice 0 5 1 (List.map encB s.2.2.2)]) (fun s => s = o69) ?_ ?_
  · clear hQ63
    refine J_block ?_
    refine J_loop (σ := Nat × Int × Int × Bool × (List (UInt8))) (fun (s : Nat × Int × Int × Bool × (List (UInt8))) => envL [(0, .bptr 0 0), (1, .view 1 (List.map encB b1)), (6, .int .i64 s.2.1), (52, .bptr 0 0)]) (fun (s : Nat × Int × Int × Bool × (List (UInt8))) => [.box 46 [.iface 47 (.int .i64 c2), .own 1 0 0 (List.length s.2.2.2.2), .int .i64 s.2.2.1, .bool s.2.2.2.1, .int .i64 c5], .slice 0 5 1 (List.map encB s.2.2.2.2)]) (fun s => chunk_Reader_Take_w2_L63 b1 c5 c2 s.1 s.2.1 s.2.2.1 s.2.2.2.1 s.2.2.2.2 = some o69) (fun s => s.1) (1099511627776, 0, c3, c4, ([] : List UInt8)) hP (so [0, 3]) ?_
    rintro ⟨k58, n54, l55, l56, l57⟩ hP
    dsimp only at hP ⊢
    cases k58 with
    | zero => simp [chunk_Reader_Take_w2_L63] at hP
    | succ k58 =>
      simp only [chunk_Reader_Take_w2_L63] at hP
      refine J_seq ?_
      obtain ⟨o64, hP, hQ64⟩ := bind_cases hP
      refine J_join (fun (s : Bool) => envL [(0, .bptr 0 0), (1, .view 1 (List.map encB b1)), (6, .int .i64 n54), (28, .bool s), (52, .bptr 0 0)]) (fun (s : Bool) => [.box 46 [.iface 47 (.int .i64 c2), .own 1 0 0 (List.length l57), .int .i64 l55, .bool l56, .int .i64 c5], .slice 0 5 1 (List.map encB l57)]) (fun s => s = o64) ?_ ?_
      · clear hQ64
        refine J_region (by kernel_rfl) ?_
        (try simp only [go_sem, Nat.reduceEqDiff, ↓reduceIte])
        rcases ite_cases hP with ⟨hc, hP⟩ | ⟨hc, hP⟩
        · refine guard_is hc ?_
          (try simp only [go_sem, Nat.reduceEqDiff, ↓reduceIte])
          rcases ite_cases hP with ⟨hc, hP⟩ | ⟨hc, hP⟩
          · refine guard_is hc ?_
            (try simp only [go_sem, Nat.reduceEqDiff, ↓reduceIte])
            refine hold2 ?_
            exact join_n (decide (c5 = 0)) (Option.some.inj hP) (so [0, 1])
          · refine guard_not hc ?_
            (try simp only [go_sem, Nat.reduceEqDiff, ↓reduceIte])
            refine hold2 ?_
            exact join_n false (Option.some.inj hP) (so [0, 1])
        · refine guard_not hc ?_
          (try simp only [go_sem, Nat.reduceEqDiff, ↓reduceIte])
          refine hold2 ?_
          exact join_n false (Option.some.inj hP) (so [0, 1])
      · intro j65 hs
        subst hs
        have hP := hQ64
        clear hQ64
        refine J_condV rfl ?_
        (try simp only [go_sem, Nat.reduceEqDiff, ↓reduceIte])
        rcases ite_cases hP with ⟨hc, hP⟩ | ⟨hc, hP⟩
        · refine condV_t hc ?_
          refine J_skip (then_n ?_)
          refine J_seq ?_
          refine J_block ?_
          refine J_regiont 11 follows_mixed (by kernel_rfl) (by kernel_rfl) (by kernel_rfl) ?_
          (try simp only [go_sem, Nat.reduceEqDiff, ↓reduceIte])
          obtain ⟨x66, hx66, hP⟩ := bind_cases hP
          refine ixV_of hx66 ?_
          (try simp only [go_sem, Nat.reduceEqDiff, ↓reduceIte])
          obtain ⟨r68, hr67, hP⟩ := bind_cases hP
          refine inv_pt meth_47_53 [0, 1] [(0, .bptr 0 0), (1, .view 1 (List.map encB b1)), (6, .int .i64 n54), (52, .bptr 0 0)] [.box 46 [.iface 47 (.int .i64 c2), .own 1 0 0 (List.length (l57 ++ [x66])), .int .i64 (iadd .i64 l55 1), .bool (decide (iadd .i64 l55 1 = c2)), .int .i64 c5], .slice 0 5 1 (List.map encB (l57 ++ [x66]))] (.tup []) (chunk_length_one_ok hr67) ⟨argP_r (by rfl), argP_r (by rfl), argP_r (by rfl), trivial⟩ (told_of (sm [2, 3])) ?_
          (try simp only [go_sem, Nat.reduceEqDiff, ↓reduceIte])
          refine hold2 (block_n (then_n ?_))
          refine J_region (by kernel_rfl) ?_
          (try simp only [go_sem, Nat.reduceEqDiff, ↓reduceIte])
          refine hold2 ?_
          exact loop_n (k58, iadd .i64 n54 1, iadd .i64 l55 1, decide (iadd .i64 l55 1 = c2), l57 ++ [x66]) hP (Nat.lt_succ_self _) (so [0, 1])
        · refine condV_f hc ?_
          refine J_exit (then_exit (loop_exit (block_eq ?_)))
          exact join_n (n54, l55, l56, l57) (Option.some.inj hP) (so [0, 1])
  · intro j70 hs
    subst hs
    have hP := hQ63
    clear hQ63
    refine then_n ?_
    refine J_seq ?_
    refine J_region (by kernel_rfl) ?_
    (try simp only [go_sem, Nat.reduceEqDiff, ↓reduceIte])
    refine hold2 (then_n ?_)
    refine J_seq ?_
    refine J_region (by kernel_rfl) ?_
    (try simp only [go_sem, Nat.reduceEqDiff, ↓reduceIte, Nat.reduceAdd, Nat.reduceSub, Nat.reduceLT, Nat.reduceMul, reduceCtorEq, Int.reduceToNat, Int.reduceLE, Int.reduceLT, Nat.reduceLeDiff])
    refine hold2 (then_n ?_)
    refine J_prom 5 1 (by decide) 0 1 _ _ rfl rfl ?_
    (try simp only [go_sem, Nat.reduceEqDiff, ↓reduceIte])
    refine J_seq ?_
    refine J_region (by kernel_rfl) ?_
    (try simp only [go_sem, Nat.reduceEqDiff, ↓reduceIte])
    refine hold2 (then_n ?_)
    refine J_ret (finIX_ret ?_)
    obtain rfl := Option.some.inj hP
    exact pk_of rfl (sr [0, 2, 1])
theorem meth_51_133 : MethOK Tryz.prog 51 "colander/chunk.one" 133 := fun _ _ => by kernel_rfl
/-- (*colander/chunk.Reader).means, handed pointers -/
def chunk_Reader_means_w3 (c1 : UInt8) (c2 : Int) (c3 : Bool) (c4 : Int) (c5 : List (UInt8)) : Option (Unit) :=
  (szC (List.length (c5 ++ [c1] : List (UInt8)))).bind fun _ =>
  some ()
set_option maxRecDepth 100000 in
set_option maxHeartbeats 40000000 in
theorem chunk_Reader_means_w3_ok {c1 : UInt8} {c2 : Int} {c3 : Bool} {c4 : Int} {c5 : List (UInt8)} {r : Unit} (hP : chunk_Reader_means_w3 c1 c2 c3 c4 c5 = some r) : CallPX Tryz.prog 54 [.bptr 0 0, .int .u8 (b2i c1)] [.box 46 [.iface 51 (.agg []), .own 1 0 0 (List.length c5), .int .i64 c2, .bool c3, .int .i64 c4], .slice 0 5 1 (List.map encB c5)] [0] (.inr ⟨.tup [], [(0, .bptr 0 0)], [.box 46 [.iface 51 (.agg []), .own 1 0 0 (List.length (c5 ++ [c1])), .int .i64 (iadd .i64 c2 1), .bool c3, .int .i64 c4], .slice 0 5 1 (List.map encB (c5 ++ [c1]))]⟩) := by
  unfold chunk_Reader_means_w3 at hP
  refine callPX_of 21 [] Tryz.func54 ?_ (by rintro q (h | h) <;> cases h <;> exact ⟨by (first | (intro x hx; simp at hx; done) | (simp [vfO, AV.vf, AV.vfL, encB, encI, encS, encO, enc_api_Body, enc_api_Fault, enc_head_text, enc_api_Field]; done) | (simp [vfO, AV.vf, AV.vfL, encB, encI, encS, encO, enc_api_Body, enc_api_Fault, enc_head_text, enc_api_Field]; intros; subst_vars; simp [AV.vf, AV.vfL]) | (simp [vfO, AV.vf, AV.vfL, encB, encI, encS, encO, enc_api_Body, enc_api_Fault, enc_head_text, enc_api_Field]; (repeat' apply And.intro) <;> (rintro x (⟨a, _, rfl⟩ | rfl) <;> simp [AV.vf, AV.vfL]))), by simp⟩) (by rintro q h <;> cases h <;> first | rfl | simp [AV.vf, AV.vfL])
  refine J_seq ?_
  refine J_region (by kernel_rfl) ?_
  (try simp only [go_sem, Nat.reduceEqDiff, ↓reduceIte, Nat.reduceAdd, Nat.reduceSub, Nat.reduceLT, Nat.reduceMul, reduceCtorEq, Int.reduceToNat, Int.reduceLE, Int.reduceLT, Nat.reduceLeDiff])
  obtain ⟨_, hz7, hP⟩ := bind_cases hP
  refine app_own (f := encB) (c5 : List (UInt8)) ([c1] : List (UInt8)) rfl tyS_22 (by decide) (by simp only [go_sem, Nat.reduceEqDiff, ↓reduceIte, Nat.reduceAdd, Nat.reduceSub, Nat.reduceLT, Nat.reduceMul, reduceCtorEq, Int.reduceToNat, Int.reduceLE, Int.reduceLT, Nat.reduceLeDiff]; first | done | rfl | exact ⟨rfl, rfl⟩) hz7 ?_
  (try simp only [go_sem, Nat.reduceEqDiff, ↓reduceIte, Nat.reduceAdd, Nat.reduceSub, Nat.reduceLT, Nat.reduceMul, reduceCtorEq, Int.reduceToNat, Int.reduceLE, Int.reduceLT, Nat.reduceLeDiff])
  refine hold2 (then_n ?_)
  refine J_region (by kernel_rfl) ?_
  (try simp only [go_sem, Nat.reduceEqDiff, ↓reduceIte, Nat.reduceAdd, Nat.reduceSub, Nat.reduceLT, Nat.reduceMul, reduceCtorEq, Int.reduceToNat, Int.reduceLE, Int.reduceLT, Nat.reduceLeDiff])
  refine hold2 (finIX_n ?_)
  obtain rfl := Option.some.inj hP
  exact pk_of rfl (sr [0, 1])
/-- (colander/chunk.open).one, handed pointers -/
def chunk_open_one (c1 : UInt8) (c2 : Int) (c3 : Bool) (c4 : Int) (c5 : List (UInt8)) : Option (Int × Int × (List (UInt8))) :=
  if decide (c2 = 8192) then
    some (c2, 23, c5)
  else
    (chunk_Reader_means_w3 c1 c2 c3 c4 c5).bind fun r9 =>
    some (iadd .i64 c2 1, c4, c5 ++ [c1])
set_option maxRecDepth 100000 in
set_option maxHeartbeats 40000000 in
theorem chunk_open_one_ok {c1 : UInt8} {c2 : Int} {c3 : Bool} {c4 : Int} {c5 : List (UInt8)} {r : Int × Int × (List (UInt8))} (hP : chunk_open_one c1 c2 c3 c4 c5 = some r) : CallPX Tryz.prog 133 [.agg [], .bptr 0 0, .int .u8 (b2i c1)] [.box 46 [.iface 51 (.agg []), .own 1 0 0 (List.length c5), .int .i64 c2, .bool c3, .int .i64 c4], .slice 0 5 1 (List.map encB c5)] [0] (.inr ⟨.tup [], [(0, .bptr 0 0)], [.box 46 [.iface 51 (.agg []), .own 1 0 0 (List.length r.2.2), .int .i64 r.1, .bool c3, .int .i64 r.2.1], .slice 0 5 1 (List.map encB r.2.2)]⟩) := by
  unfold chunk_open_one at hP
  refine callPX_of 17 [] Tryz.func133 ?_ (by rintro q (h | h) <;> cases h <;> exact ⟨by (first | (intro x hx; simp at hx; done) | (simp [vfO, AV.vf, AV.vfL, encB, encI, encS, encO, enc_api_Body, enc_api_Fault, enc_head_text, enc_api_Field]; done) | (simp [vfO, AV.vf, AV.vfL, encB, encI, encS, encO, enc_api_Body, enc_api_Fault, enc_head_text, enc_api_Field]; intros; subst_vars; simp [AV.vf, AV.vfL]) | (simp [vfO, AV.vf, AV.vfL, encB, encI, encS, encO, enc_api_Body, enc_api_Fault, enc_head_text, enc_api_Field]; (repeat' apply And.intro) <;> (rintro x (⟨a, _, rfl⟩ | rfl) <;> simp [AV.vf, AV.vfL]))), by simp⟩) (by rintro q h <;> cases h <;> first | rfl | simp [AV.vf, AV.vfL])
  refine J_seq ?_
  refine J_region (by kernel_rfl) ?_
  (try simp only [go_sem, Nat.reduceEqDiff, ↓reduceIte, Nat.reduceAdd, Nat.reduceSub, Nat.reduceLT, Nat.reduceMul, reduceCtorEq, Int.reduceToNat, Int.reduceLE, Int.reduceLT, Nat.reduceLeDiff])
  refine hold2 (then_n ?_)
  refine J_seq ?_
  refine J_seq ?_
  refine J_region (by kernel_rfl) ?_
  (try simp only [go_sem, Nat.reduceEqDiff, ↓reduceIte, Nat.reduceAdd, Nat.reduceSub, Nat.reduceLT, Nat.reduceMul, reduceCtorEq, Int.reduceToNat, Int.reduceLE, Int.reduceLT, Nat.reduceLeDiff])
  refine hold2 (then_n ?_)
  refine J_condV rfl ?_
  (try simp only [go_sem, Nat.reduceEqDiff, ↓reduceIte])
  rcases ite_cases hP with ⟨hc, hP⟩ | ⟨hc, hP⟩
  · refine condV_t hc ?_
    refine J_seq ?_
    refine J_region (by kernel_rfl) ?_
    (try simp only [go_sem, Nat.reduceEqDiff, ↓reduceIte, Nat.reduceAdd, Nat.reduceSub, Nat.reduceLT, Nat.reduceMul, reduceCtorEq, Int.reduceToNat, Int.reduceLE, Int.reduceLT, Nat.reduceLeDiff])
    refine hold2 (then_n ?_)
    refine J_ret (then_ret (finIX_ret ?_))
    obtain rfl := Option.some.inj hP
    exact pk_of rfl (sr [0, 1])
  · refine condV_f hc ?_
    refine J_skip (then_n ?_)
    refine J_region (by kernel_rfl) ?_
    (try simp only [go_sem, Nat.reduceEqDiff, ↓reduceIte])
    obtain ⟨r9, hr8, hP⟩ := bind_cases hP
    refine call_pt [0, 1] [(17, .bptr 0 0)] [.box 46 [.iface 51 (.agg []), .own 1 0 0 (List.length (c5 ++ [c1])), .int .i64 (iadd .i64 c2 1), .bool c3, .int .i64 c4], .slice 0 5 1 (List.map encB (c5 ++ [c1]))] (.tup []) (chunk_Reader_means_w3_ok hr8) ⟨argP_r (by rfl), argP_r (by rfl), trivial⟩ (told_of (sm [3, 4])) ?_
    (try simp only [go_sem, Nat.reduceEqDiff, ↓reduceIte])
    refine hold2 (finIX_n ?_)
    obtain rfl := Option.some.inj hP
    exact pk_of rfl (sr [0, 1])
/-- (*colander/chunk.Reader).Take, handed pointers -/
def chunk_Reader_Take_w3_L62 (b1 : List (UInt8)) (c3 : Bool) : Nat → Int → Int → Int → (List (UInt8)) → Option (Int × Int × Int × (List (UInt8)))
  | 0, _, _, _, _ => none
  | k57 + 1, n53, l54, l55, l56 =>
    (show Option (Bool) from
      if decide (n53 < (List.length b1 : Int)) then
        if !c3 then
          some (decide (l55 = 0))
        else
          some false
      else
        some false).bind fun j64 =>
      if j64 then
        (ixL b1 n53).bind fun x65 =>
        (chunk_open_one x65 l54 c3 l55 l56).bind fun r67 =>
        chunk_Reader_Take_w3_L62 b1 c3 k57 (iadd .i64 n53 1) r67.1 r67.2.1 r67.2.2
      else
        some (n53, l54, l55, l56)
def chunk_Reader_Take_w3 (b1 : List (UInt8)) (c2 : Int) (c3 : Bool) (c4 : Int) (c5 : List (UInt8)) : Option (Int × Int × Int × (List (UInt8))) :=
  (chunk_Reader_Take_w3_L62 b1 c3 1099511627776 0 c2 c4 ([] : List UInt8)).bind fun j69 =>
    some (j69.1, j69.2.1, j69.2.2.1, j69.2.2.2)
set_option maxRecDepth 100000 in
set_option maxHeartbeats 40000000 in
theorem chunk_Reader_Take_w3_ok {b1 : List (UInt8)} {c2 : Int} {c3 : Bool} {c4 : Int} {c5 : List (UInt8)} {r : Int × Int × Int × (List (UInt8))} (hP : chunk_Reader_Take_w3 b1 c2 c3 c4 c5 = some r) : CallPX Tryz.prog 13 [.bptr 0 0, .view 1 (List.map encB b1)] [.box 46 [.iface 51 (.agg []), .own 1 0 0 (List.length c5), .int .i64 c2, .bool c3, .int .i64 c4], .slice 0 5 1 (List.map encB c5)] [0] (.inr ⟨.tup [.own 2 0 0 (List.length r.2.2.2), .int .i64 r.1], [(0, .bptr 0 0)], [.box 46 [.iface 51 (.agg []), .own 1 0 0 (List.length ([] : List UInt8)), .int .i64 r.2.1, .bool c3, .int .i64 r.2.2.1], .slice 0 5 1 (List.map encB ([] : List UInt8)), .slice 0 5 1 (List.map encB r.2.2.2)]⟩) := by
  unfold chunk_Reader_Take_w3 at hP
  refine callPX_of 52 [.tmp 4, .tmp 5] Tryz.func13 ?_ (by rintro q (h | h) <;> cases h <;> exact ⟨by (first | (intro x hx; simp at hx; done) | (simp [vfO, AV.vf, AV.vfL, encB, encI, encS, encO, enc_api_Body, enc_api_Fault, enc_head_text, enc_api_Field]; done) | (simp [vfO, AV.vf, AV.vfL, encB, encI, encS, encO, enc_api_Body, enc_api_Fault, enc_head_text, enc_api_Field]; intros; subst_vars; simp [AV.vf, AV.vfL]) | (simp [vfO, AV.vf, AV.vfL, encB, encI, encS, encO, enc_api_Body, enc_api_Fault, enc_head_text, enc_api_Field]; (repeat' apply And.intro) <;> (rintro x (⟨a, _, rfl⟩ | rfl) <;> simp [AV.vf, AV.vfL]))), by simp⟩) (by rintro q h <;> cases h <;> first | rfl | simp [AV.vf, AV.vfL])
  refine J_seq ?_
  refine J_region (by kernel_rfl) ?_
  (try simp only [go_sem, Nat.reduceEqDiff, ↓reduceIte])
  refine hold2 (then_n ?_)
  refine J_seq ?_
  refine J_region (by kernel_rfl) ?_
  (try simp only [go_sem, Nat.reduceEqDiff, ↓reduceIte])
  refine hold2 (then_n ?_)
  refine J_seq ?_
  refine J_seq ?_
  refine J_region (by kernel_rfl) ?_
  (try simp only [go_sem, Nat.reduceEqDiff, ↓reduceIte, Nat.reduceAdd, Nat.reduceSub, Nat.reduceLT, Nat.reduceMul, reduceCtorEq, Int.reduceToNat, Int.reduceLE, Int.reduceLT, Nat.reduceLeDiff])
  refine hold2 (then_n ?_)
  refine J_prom 5 1 (by decide) 0 1 _ _ rfl rfl ?_
  (try simp only [go_sem, Nat.reduceEqDiff, ↓reduceIte])
  obtain ⟨o68, hP, hQ62⟩ := bind_cases hP
  refine J_joinK0 (fun (s : Int × Int × Int × (List (UInt8))) => envL [(0, .bptr 0 0), (6, .int .i64 s.1), (52, .bptr 0 0)]) (fun (s : Int × Int × Int × (List (UInt8))) => [.box 46 [.iface 51 (.agg []), .own 1 0 0 (List.length s.2.2.2), .int .i64 s.2.1, .bool c3, .int .i64 s.2.2.1], .slice 0 5 1 (List.map encB s.2.2.2)]) (fun s => s = o68) ?_ ?_
  · clear hQ62
    refine J_block ?_
    refine J_loop (σ := Nat × Int × Int × Int × (List (UInt8))) (fun (s : Nat × Int × Int × Int × (List (UInt8))) => envL [(0, .bptr 0 0), (1, .view 1 (List.map encB b1)), (6, .int .i64 s.2.1), (52, .bptr 0 0)]) (fun (s : Nat × Int × Int × Int × (List (UInt8))) => [.box 46 [.iface 51 (.agg []), .own 1 0 0 (List.length s.2.2.2.2), .int .i64 s.2.2.1, .bool c3, .int .i64 s.2.2.2.1], .slice 0 5 1 (List.map encB s.2.2.2.2)]) (fun s => chunk_Reader_Take_w3_L62 b1 c3 s.1 s.2.1 s.2.2.1 s.2.2.2.1 s.2.2.2.2 = some o68) (fun s => s.1) (1099511627776, 0, c2, c4, ([] : List UInt8)) hP (so [0, 3]) ?_
    rintro ⟨k57, n53, l54, l55, l56⟩ hP
    dsimp only at hP ⊢
    cases k57 with
    | zero => simp [chunk_Reader_Take_w3_L62] at hP
    | succ k57 =>
      simp only [chunk_Reader_Take_w3_L62] at hP
      refine J_seq ?_
      obtain ⟨o63, hP, hQ63⟩ := bind_cases hP
      refine J_join (fun (s : Bool) => envL [(0, .bptr 0 0), (1, .view 1 (List.map encB b1)), (6, .int .i64 n53), (28, .bool s), (52, .bptr 0 0)]) (fun (s : Bool) => [.box 46 [.iface 51 (.agg []), .own 1 0 0 (List.length l56), .int .i64 l54, .bool c3, .int .i64 l55], .slice 0 5 1 (List.map encB l56)]) (fun s => s = o63) ?_ ?_
      · clear hQ63
        refine J_region (by kernel_rfl) ?_
        (try simp only [go_sem, Nat.reduceEqDiff, ↓reduceIte])
        rcases ite_cases hP with ⟨hc, hP⟩ | ⟨hc, hP⟩
        · refine guard_is hc ?_
          (try simp only [go_sem, Nat.reduceEqDiff, ↓reduceIte])
          rcases ite_cases hP with ⟨hc, hP⟩ | ⟨hc, hP⟩
          · refine guard_is hc ?_
            (try simp only [go_sem, Nat.reduceEqDiff, ↓reduceIte])
            refine hold2 ?_
            exact join_n (decide (l55 = 0)) (Option.some.inj hP) (so [0, 1])
          · refine guard_not hc ?_
            (try simp only [go_sem, Nat.reduceEqDiff, ↓reduceIte])
            refine hold2 ?_
            exact join_n false (Option.some.inj hP) (so [0, 1])
        · refine guard_not hc ?_
          (try simp only [go_sem, Nat.reduceEqDiff, ↓reduceIte])
          refine hold2 ?_
          exact join_n false (Option.some.inj hP) (so [0, 1])
      · intro j64 hs
        subst hs
        have hP := hQ63
        clear hQ63
        refine J_condV rfl ?_
        (try simp only [go_sem, Nat.reduceEqDiff, ↓reduceIte])
        rcases ite_cases hP with ⟨hc, hP⟩ | ⟨hc, hP⟩
        · refine condV_t hc ?_
          refine J_skip (then_n ?_)
          refine J_seq ?_
          refine J_block ?_
          refine J_regiont 11 follows_mixed (by kernel_rfl) (by kernel_rfl) (by kernel_rfl) ?_
          (try simp only [go_sem, Nat.reduceEqDiff, ↓reduceIte])
          obtain ⟨x65, hx65, hP⟩ := bind_cases hP
          refine ixV_of hx65 ?_
          (try simp only [go_sem, Nat.reduceEqDiff, ↓reduceIte])
          obtain ⟨r67, hr66, hP⟩ := bind_cases hP
          refine inv_pt meth_51_133 [0, 1] [(0, .bptr 0 0), (1, .view 1 (List.map encB b1)), (6, .int .i64 n53), (52, .bptr 0 0)] [.box 46 [.iface 51 (.agg []), .own 1 0 0 (List.length r67.2.2), .int .i64 r67.1, .bool c3, .int .i64 r67.2.1], .slice 0 5 1 (List.map encB r67.2.2)] (.tup []) (chunk_open_one_ok hr66) ⟨argP_r (by rfl), argP_r (by rfl), argP_r (by rfl), trivial⟩ (told_of (sm [2, 3])) ?_
          (try simp only [go_sem, Nat.reduceEqDiff, ↓reduceIte])
          refine hold2 (block_n (then_n ?_))
          refine J_region (by kernel_rfl) ?_
          (try simp only [go_sem, Nat.reduceEqDiff, ↓reduceIte])
          refine hold2 ?_
          exact loop_n (k57, iadd .i64 n53 1, r67.1, r67.2.1, r67.2.2) hP (Nat.lt_succ_self _) (so [0, 1])
        · refine condV_f hc ?_
          refine J_exit (then_exit (loop_exit (block_eq ?_)))
          exact join_n (n53, l54, l55, l56) (Option.some.inj hP) (so [0, 1])
  · intro j69 hs
    subst hs
    have hP := hQ62
    clear hQ62
    refine then_n ?_
    refine J_seq ?_
    refine J_region (by kernel_rfl) ?_
    (try simp only [go_sem, Nat.reduceEqDiff, ↓reduceIte])
    refine hold2 (then_n ?_)
    refine J_seq ?_
    refine J_region (by kernel_rfl) ?_
    (try simp only [go_sem, Nat.reduceEqDiff, ↓reduceIte, Nat.reduceAdd, Nat.reduceSub, Nat.reduceLT, Nat.reduceMul, reduceCtorEq, Int.reduceToNat, Int.reduceLE, Int.reduceLT, Nat.reduceLeDiff])
    refine hold2 (then_n ?_)
    refine J_prom 5 1 (by decide) 0 1 _ _ rfl rfl ?_
    (try simp only [go_sem, Nat.reduceEqDiff, ↓reduceIte])
    refine J_seq ?_
    refine J_region (by kernel_rfl) ?_
    (try simp only [go_sem, Nat.reduceEqDiff, ↓reduceIte])
    refine hold2 (then_n ?_)
    refine J_ret (finIX_ret ?_)
    obtain rfl := Option.some.inj hP
    exact pk_of rfl (sr [0, 2, 1])
theorem meth_42_51 : MethOK Tryz.prog 42 "colander/chunk.one" 51 := fun _ _ => by kernel_rfl
/-- (colander/chunk.none).one, handed pointers -/
def chunk_none_one (v1 : UInt8) (c2 : Int) (c3 : Bool) (c4 : Int) (c5 : List (UInt8)) : Option (Unit) :=
  some ()
set_option maxRecDepth 100000 in
set_option maxHeartbeats 40000000 in
theorem chunk_none_one_ok {v1 : UInt8} {c2 : Int} {c3 : Bool} {c4 : Int} {c5 : List (UInt8)} {r : Unit} (hP : chunk_none_one v1 c2 c3 c4 c5 = some r) : CallPX Tryz.prog 51 [.agg [], .bptr 0 0, .int .u8 (b2i v1)] [.box 46 [.iface 42 (.agg []), .own 1 0 0 (List.length c5), .int .i64 c2, .bool c3, .int .i64 c4], .slice 0 5 1 (List.map encB c5)] [0] (.inr ⟨.tup [], [(0, .bptr 0 0)], [.box 46 [.iface 42 (.agg []), .own 1 0 0 (List.length c5), .int .i64 c2, .bool c3, .int .i64 c4], .slice 0 5 1 (List.map encB c5)]⟩) := by
  unfold chunk_none_one at hP
  refine callPX_of 6 [] Tryz.func51 ?_ (by rintro q (h | h) <;> cases h <;> exact ⟨by (first | (intro x hx; simp at hx; done) | (simp [vfO, AV.vf, AV.vfL, encB, encI, encS, encO, enc_api_Body, enc_api_Fault, enc_head_text, enc_api_Field]; done) | (simp [vfO, AV.vf, AV.vfL, encB, encI, encS, encO, enc_api_Body, enc_api_Fault, enc_head_text, enc_api_Field]; intros; subst_vars; simp [AV.vf, AV.vfL]) | (simp [vfO, AV.vf, AV.vfL, encB, encI, encS, encO, enc_api_Body, enc_api_Fault, enc_head_text, enc_api_Field]; (repeat' apply And.intro) <;> (rintro x (⟨a, _, rfl⟩ | rfl) <;> simp [AV.vf, AV.vfL]))), by simp⟩) (by rintro q h <;> cases h <;> first | rfl | simp [AV.vf, AV.vfL])
  refine J_region (by kernel_rfl) ?_
  (try simp only [go_sem, Nat.reduceEqDiff, ↓reduceIte])
  refine hold2 (finIX_n ?_)
  obtain rfl := Option.some.inj hP
  exact pk_of rfl (sr [0, 1])
/-- (*colander/chunk.Reader).Take, handed pointers -/
def chunk_Reader_Take_w4_L38 (b1 : List (UInt8)) (c3 : Bool) (c4 : Int) (c2 : Int) : Nat → Int → Option (Int)
  | 0, _ => none
  | k33 + 1, n32 =>
    (show Option (Bool) from
      if decide (n32 < (List.length b1 : Int)) then
        if !c3 then
          some (decide (c4 = 0))
        else
          some false
      else
        some false).bind fun j40 =>
      if j40 then
        (ixL b1 n32).bind fun x41 =>
        (chunk_none_one x41 c2 c3 c4 ([] : List UInt8)).bind fun r43 =>
        chunk_Reader_Take_w4_L38 b1 c3 c4 c2 k33 (iadd .i64 n32 1)
      else
        some n32
def chunk_Reader_Take_w4 (b1 : List (UInt8)) (c2 : Int) (c3 : Bool) (c4 : Int) (c5 : List (UInt8)) : Option (Int) :=
  (chunk_Reader_Take_w4_L38 b1 c3 c4 c2 1099511627776 0).bind fun j45 =>
    some j45
set_option maxRecDepth 100000 in
set_option maxHeartbeats 40000000 in
theorem chunk_Reader_Take_w4_ok {b1 : List (UInt8)} {c2 : Int} {c3 : Bool} {c4 : Int} {c5 : List (UInt8)} {r : Int} (hP : chunk_Reader_Take_w4 b1 c2 c3 c4 c5 = some r) : CallPX Tryz.prog 13 [.bptr 0 0, .view 1 (List.map encB b1)] [.box 46 [.iface 42 (.agg []), .own 1 0 0 (List.length c5), .int .i64 c2, .bool c3, .int .i64 c4], .slice 0 5 1 (List.map encB c5)] [0] (.inr ⟨.tup [.own 2 0 0 (List.length ([] : List UInt8)), .int .i64 r], [(0, .bptr 0 0)], [.box 46 [.iface 42 (.agg []), .own 1 0 0 (List.length ([] : List UInt8)), .int .i64 c2, .bool c3, .int .i64 c4], .slice 0 5 1 (List.map encB ([] : List UInt8)), .slice 0 5 1 (List.map encB ([] : List UInt8))]⟩) := by
  unfold chunk_Reader_Take_w4 at hP
  refine callPX_of 52 [.tmp 4, .tmp 5] Tryz.func13 ?_ (by rintro q (h | h) <;> cases h <;> exact ⟨by (first | (intro x hx; simp at hx; done) | (simp [vfO, AV.vf, AV.vfL, encB, encI, encS, encO, enc_api_Body, enc_api_Fault, enc_head_text, enc_api_Field]; done) | (simp [vfO, AV.vf, AV.vfL, encB, encI, encS, encO, enc_api_Body, enc_api_Fault, enc_head_text, enc_api_Field]; intros; subst_vars; simp [AV.vf, AV.vfL]) | (simp [vfO, AV.vf, AV.vfL, encB, encI, encS, encO, enc_api_Body, enc_api_Fault, enc_head_text, enc_api_Field]; (repeat' apply And.intro) <;> (rintro x (⟨a, _, rfl⟩ | rfl) <;> simp [AV.vf, AV.vfL]))), by simp⟩) (by rintro q h <;> cases h <;> first | rfl | simp [AV.vf, AV.vfL])
  refine J_seq ?_
  refine J_region (by kernel_rfl) ?_
  (try simp only [go_sem, Nat.reduceEqDiff, ↓reduceIte])
  refine hold2 (then_n ?_)
  refine J_seq ?_
  refine J_region (by kernel_rfl) ?_
  (try simp only [go_sem, Nat.reduceEqDiff, ↓reduceIte])
  refine hold2 (then_n ?_)
  refine J_seq ?_
  refine J_seq ?_
  refine J_region (by kernel_rfl) ?_
  (try simp only [go_sem, Nat.reduceEqDiff, ↓reduceIte, Nat.reduceAdd, Nat.reduceSub, Nat.reduceLT, Nat.reduceMul, reduceCtorEq, Int.reduceToNat, Int.reduceLE, Int.reduceLT, Nat.reduceLeDiff])
  refine hold2 (then_n ?_)
  refine J_prom 5 1 (by decide) 0 1 _ _ rfl rfl ?_
  (try simp only [go_sem, Nat.reduceEqDiff, ↓reduceIte])
  obtain ⟨o44, hP, hQ38⟩ := bind_cases hP
  refine J_joinK0 (fun (s : Int) => envL [(0, .bptr 0 0), (6, .int .i64 s), (52, .bptr 0 0)]) (fun (s : Int) => [.box 46 [.iface 42 (.agg []), .own 1 0 0 (List.length ([] : List UInt8)), .int .i64 c2, .bool c3, .int .i64 c4], .slice 0 5 1 (List.map encB ([] : List UInt8))]) (fun s => s = o44) ?_ ?_
  · clear hQ38
    refine J_block ?_
    refine J_loop (σ := Nat × Int) (fun (s : Nat × Int) => envL [(0, .bptr 0 0), (1, .view 1 (List.map encB b1)), (6, .int .i64 s.2), (52, .bptr 0 0)]) (fun (s : Nat × Int) => [.box 46 [.iface 42 (.agg []), .own 1 0 0 (List.length ([] : List UInt8)), .int .i64 c2, .bool c3, .int .i64 c4], .slice 0 5 1 (List.map encB ([] : List UInt8))]) (fun s => chunk_Reader_Take_w4_L38 b1 c3 c4 c2 s.1 s.2 = some o44) (fun s => s.1) (1099511627776, 0) hP (so [0, 3]) ?_
    rintro ⟨k33, n32⟩ hP
    dsimp only at hP ⊢
    cases k33 with
    | zero => simp [chunk_Reader_Take_w4_L38] at hP
    | succ k33 =>
      simp only [chunk_Reader_Take_w4_L38] at hP
      refine J_seq ?_
      obtain ⟨o39, hP, hQ39⟩ := bind_cases hP
      refine J_join (fun (s : Bool) => envL [(0, .bptr 0 0), (1, .view 1 (List.map encB b1)), (6, .int .i64 n32), (28, .bool s), (52, .bptr 0 0)]) (fun (s : Bool) => [.box 46 [.iface 42 (.agg []), .own 1 0 0 (List.length ([] : List UInt8)), .int .i64 c2, .bool c3, .int .i64 c4], .slice 0 5 1 (List.map encB ([] : List UInt8))]) (fun s => s = o39) ?_ ?_
      · clear hQ39
        refine J_region (by kernel_rfl) ?_
        (try simp only [go_sem, Nat.reduceEqDiff, ↓reduceIte])
        rcases ite_cases hP with ⟨hc, hP⟩ | ⟨hc, hP⟩
        · refine guard_is hc ?_
          (try simp only [go_sem, Nat.reduceEqDiff, ↓reduceIte])
          rcases ite_cases hP with ⟨hc, hP⟩ | ⟨hc, hP⟩
          · refine guard_is hc ?_
            (try simp only [go_sem, Nat.reduceEqDiff, ↓reduceIte])
            refine hold2 ?_
            exact join_n (decide (c4 = 0)) (Option.some.inj hP) (so [0, 1])
          · refine guard_not hc ?_
            (try simp only [go_sem, Nat.reduceEqDiff, ↓reduceIte])
            refine hold2 ?_
            exact join_n false (Option.some.inj hP) (so [0, 1])
        · refine guard_not hc ?_
          (try simp only [go_sem, Nat.reduceEqDiff, ↓reduceIte])
          refine hold2 ?_
          exact join_n false (Option.some.inj hP) (so [0, 1])
      · intro j40 hs
        subst hs
        have hP := hQ39
        clear hQ39
        refine J_condV rfl ?_
        (try simp only [go_sem, Nat.reduceEqDiff, ↓reduceIte])
        rcases ite_cases hP with ⟨hc, hP⟩ | ⟨hc, hP⟩
        · refine condV_t hc ?_
          refine J_skip (then_n ?_)
          refine J_seq ?_
          refine J_block ?_
          refine J_regiont 11 follows_mixed (by kernel_rfl) (by kernel_rfl) (by kernel_rfl) ?_
          (try simp only [go_sem, Nat.reduceEqDiff, ↓reduceIte])
          obtain ⟨x41, hx41, hP⟩ := bind_cases hP
          refine ixV_of hx41 ?_
          (try simp only [go_sem, Nat.reduceEqDiff, ↓reduceIte])
          obtain ⟨r43, hr42, hP⟩ := bind_cases hP
          refine inv_pt meth_42_51 [0, 1] [(0, .bptr 0 0), (1, .view 1 (List.map encB b1)), (6, .int .i64 n32), (52, .bptr 0 0)] [.box 46 [.iface 42 (.agg []), .own 1 0 0 (List.length ([] : List UInt8)), .int .i64 c2, .bool c3, .int .i64 c4], .slice 0 5 1 (List.map encB ([] : List UInt8))] (.tup []) (chunk_none_one_ok hr42) ⟨argP_r (by rfl), argP_r (by rfl), argP_r (by rfl), trivial⟩ (told_of (sm [2, 3])) ?_
          (try simp only [go_sem, Nat.reduceEqDiff, ↓reduceIte])
          refine hold2 (block_n (then_n ?_))
          refine J_region (by kernel_rfl) ?_
          (try simp only [go_sem, Nat.reduceEqDiff, ↓reduceIte])
          refine hold2 ?_
          exact loop_n (k33, iadd .i64 n32 1) hP (Nat.lt_succ_self _) (so [0, 1])
        · refine condV_f hc ?_
          refine J_exit (then_exit (loop_exit (block_eq ?_)))
          exact join_n n32 (Option.some.inj hP) (so [0, 1])
  · intro j45 hs
    subst hs
    have hP := hQ38
    clear hQ38
    refine then_n ?_
    refine J_seq ?_
    refine J_region (by kernel_rfl) ?_
    (try simp only [go_sem, Nat.reduceEqDiff, ↓reduceIte])
    refine hold2 (then_n ?_)
    refine J_seq ?_
    refine J_region (by kernel_rfl) ?_
    (try simp only [go_sem, Nat.reduceEqDiff, ↓reduceIte, Nat.reduceAdd, Nat.reduceSub, Nat.reduceLT, Nat.reduceMul, reduceCtorEq, Int.reduceToNat, Int.reduceLE, Int.reduceLT, Nat.reduceLeDiff])
    refine hold2 (then_n ?_)
    refine J_prom 5 1 (by decide) 0 1 _ _ rfl rfl ?_
    (try simp only [go_sem, Nat.reduceEqDiff, ↓reduceIte])
    refine J_seq ?_
    refine J_region (by kernel_rfl) ?_
    (try simp only [go_sem, Nat.reduceEqDiff, ↓reduceIte])
    refine hold2 (then_n ?_)
    refine J_ret (finIX_ret ?_)
    obtain rfl := Option.some.inj hP
    exact pk_of rfl (sr [0, 2, 1])
theorem meth_51_132 : MethOK Tryz.prog 51 "colander/chunk.end" 132 := fun _ _ => by kernel_rfl
/-- (colander/chunk.open).end, handed pointers -/
def chunk_open_end (c1 : Int) (c2 : Bool) (c3 : Int) (c4 : List (UInt8)) : Option (Unit) :=
  some ()
set_option maxRecDepth 100000 in
set_option maxHeartbeats 40000000 in
theorem chunk_open_end_ok {c1 : Int} {c2 : Bool} {c3 : Int} {c4 : List (UInt8)} {r : Unit} (hP : chunk_open_end c1 c2 c3 c4 = some r) : CallPX Tryz.prog 132 [.agg [], .bptr 0 0] [.box 46 [.iface 51 (.agg []), .own 1 0 0 (List.length c4), .int .i64 c1, .bool c2, .int .i64 c3], .slice 0 5 1 (List.map encB c4)] [0] (.inr ⟨.tup [], [(0, .bptr 0 0)], [.box 46 [.iface 51 (.agg []), .own 1 0 0 (List.length c4), .int .i64 c1, .bool true, .int .i64 c3], .slice 0 5 1 (List.map encB c4)]⟩) := by
  unfold chunk_open_end at hP
  refine callPX_of 7 [] Tryz.func132 ?_ (by rintro q (h | h) <;> cases h <;> exact ⟨by (first | (intro x hx; simp at hx; done) | (simp [vfO, AV.vf, AV.vfL, encB, encI, encS, encO, enc_api_Body, enc_api_Fault, enc_head_text, enc_api_Field]; done) | (simp [vfO, AV.vf, AV.vfL, encB, encI, encS, encO, enc_api_Body, enc_api_Fault, enc_head_text, enc_api_Field]; intros; subst_vars; simp [AV.vf, AV.vfL]) | (simp [vfO, AV.vf, AV.vfL, encB, encI, encS, encO, enc_api_Body, enc_api_Fault, enc_head_text, enc_api_Field]; (repeat' apply And.intro) <;> (rintro x (⟨a, _, rfl⟩ | rfl) <;> simp [AV.vf, AV.vfL]))), by simp⟩) (by rintro q h <;> cases h <;> first | rfl | simp [AV.vf, AV.vfL])
  refine J_seq ?_
  refine J_region (by kernel_rfl) ?_
  (try simp only [go_sem, Nat.reduceEqDiff, ↓reduceIte, Nat.reduceAdd, Nat.reduceSub, Nat.reduceLT, Nat.reduceMul, reduceCtorEq, Int.reduceToNat, Int.reduceLE, Int.reduceLT, Nat.reduceLeDiff])
  refine hold2 (then_n ?_)
  refine J_region (by kernel_rfl) ?_
  (try simp only [go_sem, Nat.reduceEqDiff, ↓reduceIte, Nat.reduceAdd, Nat.reduceSub, Nat.reduceLT, Nat.reduceMul, reduceCtorEq, Int.reduceToNat, Int.reduceLE, Int.reduceLT, Nat.reduceLeDiff])
  refine hold2 (finIX_n ?_)
  obtain rfl := Option.some.inj hP
  exact pk_of rfl (sr [0, 1])
/-- (*colander/chunk.Reader).End, handed pointers -/
def chunk_Reader_End (c1 : Int) (c2 : Bool) (c3 : Int) (c4 : List (UInt8)) : Option (Bool) :=
  (show Option (Bool) from
    if !c2 then
      some (decide (c3 = 0))
    else
      some false).bind fun j10 =>
    if j10 then
      (chunk_open_end c1 c2 c3 c4).bind fun r12 =>
      some true
    else
      some c2
set_option maxRecDepth 100000 in
set_option maxHeartbeats 40000000 in
theorem chunk_Reader_End_ok {c1 : Int} {c2 : Bool} {c3 : Int} {c4 : List (UInt8)} {r : Bool} (hP : chunk_Reader_End c1 c2 c3 c4 = some r) : CallPX Tryz.prog 16 [.bptr 0 0] [.box 46 [.iface 51 (.agg []), .own 1 0 0 (List.length c4), .int .i64 c1, .bool c2, .int .i64 c3], .slice 0 5 1 (List.map encB c4)] [0] (.inr ⟨.tup [], [(0, .bptr 0 0)], [.box 46 [.iface 51 (.agg []), .own 1 0 0 (List.length c4), .int .i64 c1, .bool r, .int .i64 c3], .slice 0 5 1 (List.map encB c4)]⟩) := by
  unfold chunk_Reader_End at hP
  refine callPX_of 20 [] Tryz.func16 ?_ (by rintro q (h | h) <;> cases h <;> exact ⟨by (first | (intro x hx; simp at hx; done) | (simp [vfO, AV.vf, AV.vfL, encB, encI, encS, encO, enc_api_Body, enc_api_Fault, enc_head_text, enc_api_Field]; done) | (simp [vfO, AV.vf, AV.vfL, encB, encI, encS, encO, enc_api_Body, enc_api_Fault, enc_head_text, enc_api_Field]; intros; subst_vars; simp [AV.vf, AV.vfL]) | (simp [vfO, AV.vf, AV.vfL, encB, encI, encS, encO, enc_api_Body, enc_api_Fault, enc_head_text, enc_api_Field]; (repeat' apply And.intro) <;> (rintro x (⟨a, _, rfl⟩ | rfl) <;> simp [AV.vf, AV.vfL]))), by simp⟩) (by rintro q h <;> cases h <;> first | rfl | simp [AV.vf, AV.vfL])
  obtain ⟨o9, hP, hQ9⟩ := bind_cases hP
  refine J_join (fun (s : Bool) => envL [(0, .bptr 0 0), (13, .bool s), (20, .bptr 0 0)]) (fun (s : Bool) => [.box 46 [.iface 51 (.agg []), .own 1 0 0 (List.length c4), .int .i64 c1, .bool c2, .int .i64 c3], .slice 0 5 1 (List.map encB c4)]) (fun s => s = o9) ?_ ?_
  · clear hQ9
    refine J_region (by kernel_rfl) ?_
    (try simp only [go_sem, Nat.reduceEqDiff, ↓reduceIte])
    rcases ite_cases hP with ⟨hc, hP⟩ | ⟨hc, hP⟩
    · refine guard_is hc ?_
      (try simp only [go_sem, Nat.reduceEqDiff, ↓reduceIte, Nat.reduceAdd, Nat.reduceSub, Nat.reduceLT, Nat.reduceMul, reduceCtorEq, Int.reduceToNat, Int.reduceLE, Int.reduceLT, Nat.reduceLeDiff])
      refine hold2 ?_
      exact join_n (decide (c3 = 0)) (Option.some.inj hP) (so [0, 1])
    · refine guard_not hc ?_
      (try simp only [go_sem, Nat.reduceEqDiff, ↓reduceIte])
      refine hold2 ?_
      exact join_n false (Option.some.inj hP) (so [0, 1])
  · intro j10 hs
    subst hs
    have hP := hQ9
    clear hQ9
    refine J_condV rfl ?_
    (try simp only [go_sem, Nat.reduceEqDiff, ↓reduceIte])
    rcases ite_cases hP with ⟨hc, hP⟩ | ⟨hc, hP⟩
    · refine condV_t hc ?_
      refine J_region (by kernel_rfl) ?_
      (try simp only [go_sem, Nat.reduceEqDiff, ↓reduceIte])
      obtain ⟨r12, hr11, hP⟩ := bind_cases hP
      refine inv_pt meth_51_132 [0, 1] [(20, .bptr 0 0)] [.box 46 [.iface 51 (.agg []), .own 1 0 0 (List.length c4), .int .i64 c1, .bool true, .int .i64 c3], .slice 0 5 1 (List.map encB c4)] (.tup []) (chunk_open_end_ok hr11) ⟨argP_r (by rfl), argP_r (by rfl), trivial⟩ (told_of (sm [2, 3])) ?_
      (try simp only [go_sem, Nat.reduceEqDiff, ↓reduceIte])
      refine hold2 (finIX_n ?_)
      obtain rfl := Option.some.inj hP
      exact pk_of rfl (sr [0, 1])
    · refine condV_f hc ?_
      refine J_skip (finIX_n ?_)
      obtain rfl := Option.some.inj hP
      exact pk_of rfl (sr [0, 1])
theorem meth_47_52 : MethOK Tryz.prog 47 "colander/chunk.end" 52 := fun _ _ => by kernel_rfl
/-- (colander/chunk.length).end, handed pointers -/
def chunk_length_end (v1 : Int) (c2 : Int) (c3 : Int) (c4 : Bool) (c5 : Int) (c6 : List (UInt8)) : Option (Unit) :=
  some ()
set_option maxRecDepth 100000 in
set_option maxHeartbeats 40000000 in
theorem chunk_length_end_ok {v1 : Int} {c2 : Int} {c3 : Int} {c4 : Bool} {c5 : Int} {c6 : List (UInt8)} {r : Unit} (hP : chunk_length_end v1 c2 c3 c4 c5 c6 = some r) : CallPX Tryz.prog 52 [.int .i64 v1, .bptr 0 0] [.box 46 [.iface 47 (.int .i64 c2), .own 1 0 0 (List.length c6), .int .i64 c3, .bool c4, .int .i64 c5], .slice 0 5 1 (List.map encB c6)] [0] (.inr ⟨.tup [], [(0, .bptr 0 0)], [.box 46 [.iface 47 (.int .i64 c2), .own 1 0 0 (List.length c6), .int .i64 c3, .bool c4, .int .i64 24], .slice 0 5 1 (List.map encB c6)]⟩) := by
  unfold chunk_length_end at hP
  refine callPX_of 7 [] Tryz.func52 ?_ (by rintro q (h | h) <;> cases h <;> exact ⟨by (first | (intro x hx; simp at hx; done) | (simp [vfO, AV.vf, AV.vfL, encB, encI, encS, encO, enc_api_Body, enc_api_Fault, enc_head_text, enc_api_Field]; done) | (simp [vfO, AV.vf, AV.vfL, encB, encI, encS, encO, enc_api_Body, enc_api_Fault, enc_head_text, enc_api_Field]; intros; subst_vars; simp [AV.vf, AV.vfL]) | (simp [vfO, AV.vf, AV.vfL, encB, encI, encS, encO, enc_api_Body, enc_api_Fault, enc_head_text, enc_api_Field]; (repeat' apply And.intro) <;> (rintro x (⟨a, _, rfl⟩ | rfl) <;> simp [AV.vf, AV.vfL]))), by simp⟩) (by rintro q h <;> cases h <;> first | rfl | simp [AV.vf, AV.vfL])
  refine J_region (by kernel_rfl) ?_
  (try simp only [go_sem, Nat.reduceEqDiff, ↓reduceIte, Nat.reduceAdd, Nat.reduceSub, Nat.reduceLT, Nat.reduceMul, reduceCtorEq, Int.reduceToNat, Int.reduceLE, Int.reduceLT, Nat.reduceLeDiff])
  refine hold2 (finIX_n ?_)
  obtain rfl := Option.some.inj hP
  exact pk_of rfl (sr [0, 1])
/-- (*colander/chunk.Reader).End, handed pointers -/
def chunk_Reader_End_w2 (c1 : Int) (c2 : Int) (c3 : Bool) (c4 : Int) (c5 : List (UInt8)) : Option (Int) :=
  (show Option (Bool) from
    if !c3 then
      some (decide (c4 = 0))
    else
      some false).bind fun j11 =>
    if j11 then
      (chunk_length_end c1 c1 c2 c3 c4 c5).bind fun r13 =>
      some 24
    else
      some c4
set_option maxRecDepth 100000 in
set_option maxHeartbeats 40000000 in
theorem chunk_Reader_End_w2_ok {c1 : Int} {c2 : Int} {c3 : Bool} {c4 : Int} {c5 : List (UInt8)} {r : Int} (hP : chunk_Reader_End_w2 c1 c2 c3 c4 c5 = some r) : CallPX Tryz.prog 16 [.bptr 0 0] [.box 46 [.iface 47 (.int .i64 c1), .own 1 0 0 (List.length c5), .int .i64 c2, .bool c3, .int .i64 c4], .slice 0 5 1 (List.map encB c5)] [0] (.inr ⟨.tup [], [(0, .bptr 0 0)], [.box 46 [.iface 47 (.int .i64 c1), .own 1 0 0 (List.length c5), .int .i64 c2, .bool c3, .int .i64 r], .slice 0 5 1 (List.map encB c5)]⟩) := by
  unfold chunk_Reader_End_w2 at hP
  refine callPX_of 20 [] Tryz.func16 ?_ (by rintro q (h | h) <;> cases h <;> exact ⟨by (first | (intro x hx; simp at hx; done) | (simp [vfO, AV.vf, AV.vfL, encB, encI, encS, encO, enc_api_Body, enc_api_Fault, enc_head_text, enc_api_Field]; done) | (simp [vfO, AV.vf, AV.vfL, encB, encI, encS, encO, enc_api_Body, enc_api_Fault, enc_head_text, enc_api_Field]; intros; subst_vars; simp [AV.vf, AV.vfL]) | (simp [vfO, AV.vf, AV.vfL, encB, encI, encS, encO, enc_api_Body, enc_api_Fault, enc_head_text, enc_api_Field]; (repeat' apply And.intro) <;> (rintro x (⟨a, _, rfl⟩ | rfl) <;> simp [AV.vf, AV.vfL]))), by simp⟩) (by rintro q h <;> cases h <;> first | rfl | simp [AV.vf, AV.vfL])
  obtain ⟨o10, hP, hQ10⟩ := bind_cases hP
  refine J_join (fun (s : Bool) => envL [(0, .bptr 0 0), (13, .bool s), (20, .bptr 0 0)]) (fun (s : Bool) => [.box 46 [.iface 47 (.int .i64 c1), .own 1 0 0 (List.length c5), .int .i64 c2, .bool c3, .int .i64 c4], .slice 0 5 1 (List.map encB c5)]) (fun s => s = o10) ?_ ?_
  · clear hQ10
    refine J_region (by kernel_rfl) ?_
    (try simp only [go_sem, Nat.reduceEqDiff, ↓reduceIte])
    rcases ite_cases hP with ⟨hc, hP⟩ | ⟨hc, hP⟩
    · refine guard_is hc ?_
      (try simp only [go_sem, Nat.reduceEqDiff, ↓reduceIte, Nat.reduceAdd, Nat.reduceSub, Nat.reduceLT, Nat.reduceMul, reduceCtorEq, Int.reduceToNat, Int.reduceLE, Int.reduceLT, Nat.reduceLeDiff])
      refine hold2 ?_
      exact join_n (decide (c4 = 0)) (Option.some.inj hP) (so [0, 1])
    · refine guard_not hc ?_
      (try simp only [go_sem, Nat.reduceEqDiff, ↓reduceIte])
      refine hold2 ?_
      exact join_n false (Option.some.inj hP) (so [0, 1])
  · intro j11 hs
    subst hs
    have hP := hQ10
    clear hQ10
    refine J_condV rfl ?_
    (try simp only [go_sem, Nat.reduceEqDiff, ↓reduceIte])
    rcases ite_cases hP with ⟨hc, hP⟩ | ⟨hc, hP⟩
    · refine condV_t hc ?_
      refine J_region (by kernel_rfl) ?_
      (try simp only [go_sem, Nat.reduceEqDiff, ↓reduceIte])
      obtain ⟨r13, hr12, hP⟩ := bind_cases hP
      refine inv_pt meth_47_52 [0, 1] [(20, .bptr 0 0)] [.box 46 [.iface 47 (.int .i64 c1), .own 1 0 0 (List.length c5), .int .i64 c2, .bool c3, .int .i64 24], .slice 0 5 1 (List.map encB c5)] (.tup []) (chunk_length_end_ok hr12) ⟨argP_r (by rfl), argP_r (by rfl), trivial⟩ (told_of (sm [2, 3])) ?_
      (try simp only [go_sem, Nat.reduceEqDiff, ↓reduceIte])
      refine hold2 (finIX_n ?_)
      obtain rfl := Option.some.inj hP
      exact pk_of rfl (sr [0, 1])
    · refine condV_f hc ?_
      refine J_skip (finIX_n ?_)
      obtain rfl := Option.some.inj hP
      exact pk_of rfl (sr [0, 1])
/-- colander/colanderlaw07.ChunkPlain -/
def law07_ChunkPlain (b1 : List (UInt8)) (length2 : Int) : Option (Bool) :=
  (law07_shown).bind fun r3 =>
  (show Option (Bool) from
    if decide (length2 < 0) then
      some true
    else
      if decide (8192 < length2) then
        some true
      else
        some (decide (20000 < (List.length b1 : Int)))).bind fun j5 =>
    if j5 then
      some r3
    else
      (chunk_New_w3 length2).bind fun r6 => match r6 with
      | .inl r7 =>
        (chunk_New_w4).bind fun r9 =>
        (chunk_New_w5).bind fun r11 =>
        (show Option (Unit) from
          some ()).bind fun j13 =>
          some false
      | .inr r14 =>
        (chunk_New_w4).bind fun r16 =>
        (chunk_New_w5).bind fun r18 =>
        (show Option (Unit) from
          some ()).bind fun j20 =>
          (chunk_Reader_Take_w2 b1 length2 0 (decide (length2 = 0)) 0 ([] : List UInt8)).bind fun r22 =>
          (chunk_Reader_Take_w3 b1 0 false 0 ([] : List UInt8)).bind fun r24 =>
          (chunk_Reader_Take_w4 b1 0 true 0 ([] : List UInt8)).bind fun r26 =>
          (show Option (Int) from
            if decide (length2 < (List.length b1 : Int)) then
              some length2
            else
              some (List.length b1 : Int)).bind fun j28 =>
            (show Option (Bool) from
              (slL b1 0 j28).bind fun s33 =>
              if !decide (r22.2.2.2 = s33) then
                some true
              else
                if !decide (r22.1 = j28) then
                  some true
                else
                  (chunk_Reader_Done ((), ([] : List UInt8), r22.2.1, r22.2.2.1, 0)).bind fun r34 =>
                  if r34 != (decide (j28 = length2)) then
                    some true
                  else
                    if !decide (((List.length ([] : List UInt8) : Nat) : Int) = 0) then
                      some true
                    else
                      if !decide (r26 = 0) then
                        some true
                      else
                        (chunk_Reader_Done ((), ([] : List UInt8), 0, true, 0)).bind fun r35 =>
                        some (!r35)).bind fun j36 =>
              if j36 then
                some false
              else
                (chunk_Reader_End r24.2.1 false r24.2.2.1 ([] : List UInt8)).bind fun r38 =>
                (chunk_Reader_End_w2 length2 r22.2.1 r22.2.2.1 0 ([] : List UInt8)).bind fun r40 =>
                if decide (8192 < (List.length b1 : Int)) then
                  (show Option (Bool) from
                    if decide (((List.length r24.2.2.2 : Nat) : Int) = 8192) then
                      if decide (r24.1 = 8193) then
                        (chunk_Reader_Err ((), ([] : List UInt8), r24.2.1, r38, r24.2.2.1)).bind fun r44 =>
                        if decide (r44 = 23) then
                          (chunk_Reader_Done ((), ([] : List UInt8), r24.2.1, r38, r24.2.2.1)).bind fun r45 =>
                          some (!r45)
                        else
                          some false
                      else
                        some false
                    else
                      some false).bind fun j46 =>
                    some j46
                else
                  (chunk_Reader_Err ((), ([] : List UInt8), r22.2.1, r22.2.2.1, r40)).bind fun r47 =>
                  if decide (r24.2.2.2 = b1) then
                    if decide (r24.1 = (List.length b1 : Int)) then
                      (chunk_Reader_Done ((), ([] : List UInt8), r24.2.1, r38, r24.2.2.1)).bind fun r48 =>
                      if r48 then
                        (chunk_Reader_Err ((), ([] : List UInt8), r24.2.1, r38, r24.2.2.1)).bind fun r49 =>
                        if decide (r49 = 0) then
                          some ((decide (r47 = 24)) == (decide (j28 < length2)))
                        else
                          some false
                      else
                        some false
                    else
                      some false
                  else
                    some false
set_option maxRecDepth 100000 in
set_option maxHeartbeats 40000000 in
theorem law07_ChunkPlain_ok {b1 : List (UInt8)} {length2 : Int} {r : Bool} (hP : law07_ChunkPlain b1 length2 = some r) : CallOK Tryz.prog 6 [.view 1 (List.map encB b1), .int .i64 length2] (.bool r) [] := by
  unfold law07_ChunkPlain at hP
  refine co 159 [.tmp 4] Tryz.func6 ?_
  refine J_seq ?_
  refine J_region (by kernel_rfl) ?_
  (try simp only [go_sem, Nat.reduceEqDiff, ↓reduceIte])
  refine hold2 (then_n ?_)
  refine J_seq ?_
  refine J_region (by kernel_rfl) ?_
  (try simp only [go_sem, Nat.reduceEqDiff, ↓reduceIte])
  obtain ⟨r3, hr3, hP⟩ := bind_cases hP
  refine call_ok [] (law07_shown_ok hr3) trivial ?_
  (try simp only [go_sem, Nat.reduceEqDiff, ↓reduceIte])
  refine hold2 (then_n ?_)
  refine J_seq ?_
  obtain ⟨o4, hP, hQ4⟩ := bind_cases hP
  refine J_join (fun (s : Bool) => envL [(0, .view 1 (List.map encB b1)), (1, .int .i64 length2), (5, .bool r3), (28, .bool s)]) (fun (s : Bool) => []) (fun s => s = o4) ?_ ?_
  · clear hQ4
    refine J_region (by kernel_rfl) ?_
    (try simp only [go_sem, Nat.reduceEqDiff, ↓reduceIte])
    rcases ite_cases hP with ⟨hc, hP⟩ | ⟨hc, hP⟩
    · refine guard_not hc ?_
      (try simp only [go_sem, Nat.reduceEqDiff, ↓reduceIte])
      refine hold2 ?_
      exact join_n true (Option.some.inj hP) (so [])
    · refine guard_is hc ?_
      (try simp only [go_sem, Nat.reduceEqDiff, ↓reduceIte])
      rcases ite_cases hP with ⟨hc, hP⟩ | ⟨hc, hP⟩
      · refine guard_not hc ?_
        (try simp only [go_sem, Nat.reduceEqDiff, ↓reduceIte])
        refine hold2 ?_
        exact join_n true (Option.some.inj hP) (so [])
      · refine guard_is hc ?_
        (try simp only [go_sem, Nat.reduceEqDiff, ↓reduceIte])
        refine hold2 ?_
        exact join_n (decide (20000 < (List.length b1 : Int))) (Option.some.inj hP) (so [])
  · intro j5 hs
    subst hs
    have hP := hQ4
    clear hQ4
    refine J_condV rfl ?_
    (try simp only [go_sem, Nat.reduceEqDiff, ↓reduceIte])
    rcases ite_cases hP with ⟨hc, hP⟩ | ⟨hc, hP⟩
    · refine condV_t hc ?_
      refine J_seq ?_
      refine J_region (by kernel_rfl) ?_
      (try simp only [go_sem, Nat.reduceEqDiff, ↓reduceIte])
      refine hold2 (then_n ?_)
      refine J_ret (then_ret (fin_ret ?_))
      obtain rfl := Option.some.inj hP
      (try simp only [go_sem, Nat.reduceEqDiff, ↓reduceIte])
      exact fo []
    · refine condV_f hc ?_
      refine J_skip (then_n ?_)
      refine J_seq ?_
      refine J_region (by kernel_rfl) ?_
      (try simp only [go_sem, Nat.reduceEqDiff, ↓reduceIte])
      obtain ⟨r6, hr6, hP⟩ := bind_cases hP
      rcases r6 with r7 | r14 <;> dsimp only at hP
      · refine call_pt [] [(0, .view 1 (List.map encB b1)), (1, .int .i64 length2)] [] (.sc (.pointer none)) (chunk_New_w3_ok hr6) ⟨argP_r (by rfl), trivial⟩ (told_of (sm [])) ?_
        (try simp only [go_sem, Nat.reduceEqDiff, ↓reduceIte])
        refine hold2 (then_n ?_)
        refine J_seq ?_
        refine J_region (by kernel_rfl) ?_
        (try simp only [go_sem, Nat.reduceEqDiff, ↓reduceIte])
        obtain ⟨r9, hr8, hP⟩ := bind_cases hP
        refine call_pt [] [(0, .view 1 (List.map encB b1)), (1, .int .i64 length2), (6, .sc (.pointer none))] [.box 46 [.iface 51 (.agg []), .own 1 0 0 (List.length ([] : List UInt8)), .int .i64 0, .bool false, .int .i64 0], .slice 0 5 1 (List.map encB ([] : List UInt8))] (.bptr 0 0) (chunk_New_w4_ok hr8) ⟨argP_r (by rfl), trivial⟩ (told_of (sm [0, 1])) ?_
        (try simp only [go_sem, Nat.reduceEqDiff, ↓reduceIte])
        refine hold2 (then_n ?_)
        refine J_seq ?_
        refine J_region (by kernel_rfl) ?_
        (try simp only [go_sem, Nat.reduceEqDiff, ↓reduceIte])
        obtain ⟨r11, hr10, hP⟩ := bind_cases hP
        refine call_pt [] [(0, .view 1 (List.map encB b1)), (1, .int .i64 length2), (6, .sc (.pointer none)), (7, .bptr 0 0)] [.box 46 [.iface 51 (.agg []), .own 1 0 0 (List.length ([] : List UInt8)), .int .i64 0, .bool false, .int .i64 0], .slice 0 5 1 (List.map encB ([] : List UInt8)), .box 46 [.iface 42 (.agg []), .own 3 0 0 (List.length ([] : List UInt8)), .int .i64 0, .bool true, .int .i64 0], .slice 0 5 1 (List.map encB ([] : List UInt8))] (.bptr 2 0) (chunk_New_w5_ok hr10) ⟨argP_r (by rfl), trivial⟩ (told_of (sm [0, 1, 2, 3])) ?_
        (try simp only [go_sem, Nat.reduceEqDiff, ↓reduceIte])
        refine hold2 (then_n ?_)
        refine J_seq ?_
        obtain ⟨o12, hP, hQ12⟩ := bind_cases hP
        refine J_join (fun (s : Unit) => envL [(0, .view 1 (List.map encB b1)), (1, .int .i64 length2), (6, .sc (.pointer none)), (7, .bptr 0 0), (8, .bptr 2 0), (46, .bool true)]) (fun (s : Unit) => [.box 46 [.iface 51 (.agg []), .own 1 0 0 (List.length ([] : List UInt8)), .int .i64 0, .bool false, .int .i64 0], .slice 0 5 1 (List.map encB ([] : List UInt8)), .box 46 [.iface 42 (.agg []), .own 3 0 0 (List.length ([] : List UInt8)), .int .i64 0, .bool true, .int .i64 0], .slice 0 5 1 (List.map encB ([] : List UInt8))]) (fun s => s = o12) ?_ ?_
        · clear hQ12
          refine J_region (by kernel_rfl) ?_
          (try simp only [go_sem, Nat.reduceEqDiff, ↓reduceIte])
          refine hold2 ?_
          exact join_n () (Option.some.inj hP) (so [0, 1, 2, 3])
        · intro j13 hs
          subst hs
          have hP := hQ12
          clear hQ12
          refine J_condV rfl ?_
          (try simp only [go_sem, Nat.reduceEqDiff, ↓reduceIte])
          refine J_seq ?_
          refine J_region (by kernel_rfl) ?_
          (try simp only [go_sem, Nat.reduceEqDiff, ↓reduceIte])
          refine hold2 (then_n ?_)
          refine J_ret (then_ret (fin_ret ?_))
          obtain rfl := Option.some.inj hP
          (try simp only [go_sem, Nat.reduceEqDiff, ↓reduceIte])
          exact fo []
      · refine call_pt [] [(0, .view 1 (List.map encB b1)), (1, .int .i64 length2)] [.box 46 [.iface 47 (.int .i64 length2), .own 1 0 0 (List.length ([] : List UInt8)), .int .i64 0, .bool (decide (length2 = 0)), .int .i64 0], .slice 0 5 1 (List.map encB ([] : List UInt8))] (.bptr 0 0) (chunk_New_w3_ok hr6) ⟨argP_r (by rfl), trivial⟩ (told_of (sm [0, 1])) ?_
        (try simp only [go_sem, Nat.reduceEqDiff, ↓reduceIte])
        refine hold2 (then_n ?_)
        refine J_seq ?_
        refine J_region (by kernel_rfl) ?_
        (try simp only [go_sem, Nat.reduceEqDiff, ↓reduceIte])
        obtain ⟨r16, hr15, hP⟩ := bind_cases hP
        refine call_pt [] [(0, .view 1 (List.map encB b1)), (1, .int .i64 length2), (6, .bptr 0 0)] [.box 46 [.iface 47 (.int .i64 length2), .own 1 0 0 (List.length ([] : List UInt8)), .int .i64 0, .bool (decide (length2 = 0)), .int .i64 0], .slice 0 5 1 (List.map encB ([] : List UInt8)), .box 46 [.iface 51 (.agg []), .own 3 0 0 (List.length ([] : List UInt8)), .int .i64 0, .bool false, .int .i64 0], .slice 0 5 1 (List.map encB ([] : List UInt8))] (.bptr 2 0) (chunk_New_w4_ok hr15) ⟨argP_r (by rfl), trivial⟩ (told_of (sm [0, 1, 2, 3])) ?_
        (try simp only [go_sem, Nat.reduceEqDiff, ↓reduceIte])
        refine hold2 (then_n ?_)
        refine J_seq ?_
        refine J_region (by kernel_rfl) ?_
        (try simp only [go_sem, Nat.reduceEqDiff, ↓reduceIte])
        obtain ⟨r18, hr17, hP⟩ := bind_cases hP
        refine call_pt [] [(0, .view 1 (List.map encB b1)), (1, .int .i64 length2), (6, .bptr 0 0), (7, .bptr 2 0)] [.box 46 [.iface 47 (.int .i64 length2), .own 1 0 0 (List.length ([] : List UInt8)), .int .i64 0, .bool (decide (length2 = 0)), .int .i64 0], .slice 0 5 1 (List.map encB ([] : List UInt8)), .box 46 [.iface 51 (.agg []), .own 3 0 0 (List.length ([] : List UInt8)), .int .i64 0, .bool false, .int .i64 0], .slice 0 5 1 (List.map encB ([] : List UInt8)), .box 46 [.iface 42 (.agg []), .own 5 0 0 (List.length ([] : List UInt8)), .int .i64 0, .bool true, .int .i64 0], .slice 0 5 1 (List.map encB ([] : List UInt8))] (.bptr 4 0) (chunk_New_w5_ok hr17) ⟨argP_r (by rfl), trivial⟩ (told_of (sm [0, 1, 2, 3, 4, 5])) ?_
        (try simp only [go_sem, Nat.reduceEqDiff, ↓reduceIte])
        refine hold2 (then_n ?_)
        refine J_seq ?_
        obtain ⟨o19, hP, hQ19⟩ := bind_cases hP
        refine J_join (fun (s : Unit) => envL [(0, .view 1 (List.map encB b1)), (1, .int .i64 length2), (6, .bptr 0 0), (7, .bptr 2 0), (8, .bptr 4 0), (46, .bool false)]) (fun (s : Unit) => [.box 46 [.iface 47 (.int .i64 length2), .own 1 0 0 (List.length ([] : List UInt8)), .int .i64 0, .bool (decide (length2 = 0)), .int .i64 0], .slice 0 5 1 (List.map encB ([] : List UInt8)), .box 46 [.iface 51 (.agg []), .own 3 0 0 (List.length ([] : List UInt8)), .int .i64 0, .bool false, .int .i64 0], .slice 0 5 1 (List.map encB ([] : List UInt8)), .box 46 [.iface 42 (.agg []), .own 5 0 0 (List.length ([] : List UInt8)), .int .i64 0, .bool true, .int .i64 0], .slice 0 5 1 (List.map encB ([] : List UInt8))]) (fun s => s = o19) ?_ ?_
        · clear hQ19
          refine J_region (by kernel_rfl) ?_
          (try simp only [go_sem, Nat.reduceEqDiff, ↓reduceIte])
          refine hold2 ?_
          exact join_n () (Option.some.inj hP) (so [0, 1, 2, 3, 4, 5])
        · intro j20 hs
          subst hs
          have hP := hQ19
          clear hQ19
          refine J_condV rfl ?_
          (try simp only [go_sem, Nat.reduceEqDiff, ↓reduceIte])
          refine J_skip (then_n ?_)
          refine J_seq ?_
          refine J_region (by kernel_rfl) ?_
          (try simp only [go_sem, Nat.reduceEqDiff, ↓reduceIte])
          obtain ⟨r22, hr21, hP⟩ := bind_cases hP
          refine call_pt [0, 1] [(0, .view 1 (List.map encB b1)), (1, .int .i64 length2), (6, .bptr 0 0), (7, .bptr 2 0), (8, .bptr 4 0)] [.box 46 [.iface 47 (.int .i64 length2), .own 1 0 0 (List.length ([] : List UInt8)), .int .i64 r22.2.1, .bool r22.2.2.1, .int .i64 0], .slice 0 5 1 (List.map encB ([] : List UInt8)), .box 46 [.iface 51 (.agg []), .own 3 0 0 (List.length ([] : List UInt8)), .int .i64 0, .bool false, .int .i64 0], .slice 0 5 1 (List.map encB ([] : List UInt8)), .box 46 [.iface 42 (.agg []), .own 5 0 0 (List.length ([] : List UInt8)), .int .i64 0, .bool true, .int .i64 0], .slice 0 5 1 (List.map encB ([] : List UInt8)), .slice 0 5 1 (List.map encB r22.2.2.2)] (.tup [.own 6 0 0 (List.length r22.2.2.2), .int .i64 r22.1]) (chunk_Reader_Take_w2_ok hr21) ⟨argP_r (by rfl), argP_r (by rfl), trivial⟩ (told_of (sm [6, 7, 2, 3, 4, 5, 8])) ?_
          (try simp only [go_sem, Nat.reduceEqDiff, ↓reduceIte])
          refine hold2 (then_n ?_)
          refine J_seq ?_
          refine J_region (by kernel_rfl) ?_
          (try simp only [go_sem, Nat.reduceEqDiff, ↓reduceIte])
          obtain ⟨r24, hr23, hP⟩ := bind_cases hP
          refine call_pt [2, 3] [(0, .view 1 (List.map encB b1)), (1, .int .i64 length2), (6, .bptr 0 0), (7, .bptr 2 0), (8, .bptr 4 0), (9, .own 6 0 0 (List.length r22.2.2.2)), (10, .int .i64 r22.1)] [.box 46 [.iface 47 (.int .i64 length2), .own 1 0 0 (List.length ([] : List UInt8)), .int .i64 r22.2.1, .bool r22.2.2.1, .int .i64 0], .slice 0 5 1 (List.map encB ([] : List UInt8)), .box 46 [.iface 51 (.agg []), .own 3 0 0 (List.length ([] : List UInt8)), .int .i64 r24.2.1, .bool false, .int .i64 r24.2.2.1], .slice 0 5 1 (List.map encB ([] : List UInt8)), .box 46 [.iface 42 (.agg []), .own 5 0 0 (List.length ([] : List UInt8)), .int .i64 0, .bool true, .int .i64 0], .slice 0 5 1 (List.map encB ([] : List UInt8)), .slice 0 5 1 (List.map encB r22.2.2.2), .slice 0 5 1 (List.map encB r24.2.2.2)] (.tup [.own 7 0 0 (List.length r24.2.2.2), .int .i64 r24.1]) (chunk_Reader_Take_w3_ok hr23) ⟨argP_r (by rfl), argP_r (by rfl), trivial⟩ (told_of (sm [0, 1, 7, 8, 4, 5, 6, 9])) ?_
          (try simp only [go_sem, Nat.reduceEqDiff, ↓reduceIte])
          refine hold2 (then_n ?_)
          refine J_seq ?_
          refine J_region (by kernel_rfl) ?_
          (try simp only [go_sem, Nat.reduceEqDiff, ↓reduceIte])
          obtain ⟨r26, hr25, hP⟩ := bind_cases hP
          refine call_pt [4, 5] [(0, .view 1 (List.map encB b1)), (1, .int .i64 length2), (6, .bptr 0 0), (7, .bptr 2 0), (8, .bptr 4 0), (9, .own 6 0 0 (List.length r22.2.2.2)), (10, .int .i64 r22.1), (11, .own 7 0 0 (List.length r24.2.2.2)), (12, .int .i64 r24.1)] [.box 46 [.iface 47 (.int .i64 length2), .own 1 0 0 (List.length ([] : List UInt8)), .int .i64 r22.2.1, .bool r22.2.2.1, .int .i64 0], .slice 0 5 1 (List.map encB ([] : List UInt8)), .box 46 [.iface 51 (.agg []), .own 3 0 0 (List.length ([] : List UInt8)), .int .i64 r24.2.1, .bool false, .int .i64 r24.2.2.1], .slice 0 5 1 (List.map encB ([] : List UInt8)), .box 46 [.iface 42 (.agg []), .own 5 0 0 (List.length ([] : List UInt8)), .int .i64 0, .bool true, .int .i64 0], .slice 0 5 1 (List.map encB ([] : List UInt8)), .slice 0 5 1 (List.map encB r22.2.2.2), .slice 0 5 1 (List.map encB r24.2.2.2), .slice 0 5 1 (List.map encB ([] : List UInt8))] (.tup [.own 8 0 0 (List.length ([] : List UInt8)), .int .i64 r26]) (chunk_Reader_Take_w4_ok hr25) ⟨argP_r (by rfl), argP_r (by rfl), trivial⟩ (told_of (sm [0, 1, 2, 3, 8, 9, 6, 7, 10])) ?_
          (try simp only [go_sem, Nat.reduceEqDiff, ↓reduceIte])
          refine hold2 (then_n ?_)
          refine J_seq ?_
          refine J_region (by kernel_rfl) ?_
          (try simp only [go_sem, Nat.reduceEqDiff, ↓reduceIte])
          refine hold2 (then_n ?_)
          obtain ⟨o27, hP, hQ27⟩ := bind_cases hP
          refine J_join (fun (s : Int) => envL [(0, .view 1 (List.map encB b1)), (1, .int .i64 length2), (6, .bptr 0 0), (7, .bptr 2 0), (8, .bptr 4 0), (9, .own 6 0 0 (List.length r22.2.2.2)), (10, .int .i64 r22.1), (11, .own 7 0 0 (List.length r24.2.2.2)), (12, .int .i64 r24.1), (13, .own 8 0 0 (List.length ([] : List UInt8))), (14, .int .i64 r26), (15, .int .i64 s)]) (fun (s : Int) => [.box 46 [.iface 47 (.int .i64 length2), .own 1 0 0 (List.length ([] : List UInt8)), .int .i64 r22.2.1, .bool r22.2.2.1, .int .i64 0], .slice 0 5 1 (List.map encB ([] : List UInt8)), .box 46 [.iface 51 (.agg []), .own 3 0 0 (List.length ([] : List UInt8)), .int .i64 r24.2.1, .bool false, .int .i64 r24.2.2.1], .slice 0 5 1 (List.map encB ([] : List UInt8)), .box 46 [.iface 42 (.agg []), .own 5 0 0 (List.length ([] : List UInt8)), .int .i64 0, .bool true, .int .i64 0], .slice 0 5 1 (List.map encB ([] : List UInt8)), .slice 0 5 1 (List.map encB r22.2.2.2), .slice 0 5 1 (List.map encB r24.2.2.2), .slice 0 5 1 (List.map encB ([] : List UInt8))]) (fun s => s = o27) ?_ ?_
          · clear hQ27
            refine J_seq ?_
            refine J_region (by kernel_rfl) ?_
            (try simp only [go_sem, Nat.reduceEqDiff, ↓reduceIte])
            refine hold2 (then_n ?_)
            refine J_condV rfl ?_
            (try simp only [go_sem, Nat.reduceEqDiff, ↓reduceIte])
            rcases ite_cases hP with ⟨hc, hP⟩ | ⟨hc, hP⟩
            · refine condV_t hc ?_
              refine J_region (by kernel_rfl) ?_
              (try simp only [go_sem, Nat.reduceEqDiff, ↓reduceIte])
              refine hold2 ?_
              exact join_n length2 (Option.some.inj hP) (so [0, 1, 2, 3, 4, 5, 6, 7, 8])
            · refine condV_f hc ?_
              refine J_skip ?_
              exact join_n (List.length b1 : Int) (Option.some.inj hP) (so [0, 1, 2, 3, 4, 5, 6, 7, 8])
          · intro j28 hs
            subst hs
            have hP := hQ27
            clear hQ27
            refine J_seq ?_
            obtain ⟨o32, hP, hQ32⟩ := bind_cases hP
            refine J_join (fun (s : Bool) => envL [(0, .view 1 (List.map encB b1)), (1, .int .i64 length2), (6, .bptr 0 0), (7, .bptr 2 0), (11, .own 4 0 0 (List.length r24.2.2.2)), (12, .int .i64 r24.1), (15, .int .i64 j28), (104, .bool s)]) (fun (s : Bool) => [.box 46 [.iface 47 (.int .i64 length2), .own 1 0 0 (List.length ([] : List UInt8)), .int .i64 r22.2.1, .bool r22.2.2.1, .int .i64 0], .slice 0 5 1 (List.map encB ([] : List UInt8)), .box 46 [.iface 51 (.agg []), .own 3 0 0 (List.length ([] : List UInt8)), .int .i64 r24.2.1, .bool false, .int .i64 r24.2.2.1], .slice 0 5 1 (List.map encB ([] : List UInt8)), .slice 0 5 1 (List.map encB r24.2.2.2)]) (fun s => s = o32) ?_ ?_
            · clear hQ32
              refine J_regionq follows_mixed (by kernel_rfl) (by kernel_rfl) ?_
              (try simp only [go_sem, Nat.reduceEqDiff, ↓reduceIte])
              first | refine bytesK_map ?_ | refine bytesK_of r22.2.2.2 rfl ?_
              (try simp only [go_sem, Nat.reduceEqDiff, ↓reduceIte])
              obtain ⟨s33, hs33, hP⟩ := bind_cases hP
              refine slV_of hs33 ?_
              (try simp only [go_sem, Nat.reduceEqDiff, ↓reduceIte])
              first | refine bytesK_map ?_ | refine bytesK_of s33 rfl ?_
              (try simp only [go_sem, Nat.reduceEqDiff, ↓reduceIte])
              rcases ite_cases hP with ⟨hc, hP⟩ | ⟨hc, hP⟩
              · refine guard_not hc ?_
                (try simp only [go_sem, Nat.reduceEqDiff, ↓reduceIte])
                refine hold2 ?_
                exact join_n true (Option.some.inj hP) (so [0, 1, 2, 3, 7])
              · refine guard_is hc ?_
                (try simp only [go_sem, Nat.reduceEqDiff, ↓reduceIte])
                rcases ite_cases hP with ⟨hc, hP⟩ | ⟨hc, hP⟩
                · refine guard_not hc ?_
                  (try conv => arg 5; simp only [go_sem, Nat.reduceEqDiff, ↓reduceIte])
                  (try simp only [go_sem, Nat.reduceEqDiff, ↓reduceIte])
                  refine hold2 ?_
                  exact join_n true (Option.some.inj hP) (so [0, 1, 2, 3, 7])
                · refine guard_is hc ?_
                  (try conv => arg 5; simp only [go_sem, Nat.reduceEqDiff, ↓reduceIte])
                  (try simp only [go_sem, Nat.reduceEqDiff, ↓reduceIte])
                  obtain ⟨r34, hr34, hP⟩ := bind_cases hP
                  refine call_okq [.vptr (.agg [.dead, .view 1 (List.map encB ([] : List UInt8)), .int .i64 r22.2.1, .bool r22.2.2.1, .int .i64 0]) 0] (chunk_Reader_Done_ok hr34) ⟨argR_box rfl ⟨argC_d, argC_m false (by simp only [arg, go_sem, Nat.reduceEqDiff, ↓reduceIte]), argC_m false rfl, argC_m false rfl, argC_m false rfl, trivial⟩, trivial⟩ rfl ?_
                  (try simp only [go_sem, Nat.reduceEqDiff, ↓reduceIte])
                  rcases ite_cases hP with ⟨hc, hP⟩ | ⟨hc, hP⟩
                  · refine guard_not hc ?_
                    (try conv => arg 5; simp only [go_sem, Nat.reduceEqDiff, ↓reduceIte])
                    (try simp only [go_sem, Nat.reduceEqDiff, ↓reduceIte])
                    refine hold2 ?_
                    exact join_n true (Option.some.inj hP) (so [0, 1, 2, 3, 7])
                  · refine guard_is hc ?_
                    (try conv => arg 5; simp only [go_sem, Nat.reduceEqDiff, ↓reduceIte])
                    (try simp only [go_sem, Nat.reduceEqDiff, ↓reduceIte])
                    rcases ite_cases hP with ⟨hc, hP⟩ | ⟨hc, hP⟩
                    · refine guard_not hc ?_
                      (try conv => arg 5; simp only [go_sem, Nat.reduceEqDiff, ↓reduceIte])
                      (try simp only [go_sem, Nat.reduceEqDiff, ↓reduceIte])
                      refine hold2 ?_
                      exact join_n true (Option.some.inj hP) (so [0, 1, 2, 3, 7])
                    · refine guard_is hc ?_
                      (try conv => arg 5; simp only [go_sem, Nat.reduceEqDiff, ↓reduceIte])
                      (try simp only [go_sem, Nat.reduceEqDiff, ↓reduceIte])
                      rcases ite_cases hP with ⟨hc, hP⟩ | ⟨hc, hP⟩
                      · refine guard_not hc ?_
                        (try conv => arg 5; simp only [go_sem, Nat.reduceEqDiff, ↓reduceIte])
                        (try simp only [go_sem, Nat.reduceEqDiff, ↓reduceIte])
                        refine hold2 ?_
                        exact join_n true (Option.some.inj hP) (so [0, 1, 2, 3, 7])
                      · refine guard_is hc ?_
                        (try conv => arg 5; simp only [go_sem, Nat.reduceEqDiff, ↓reduceIte])
                        (try simp only [go_sem, Nat.reduceEqDiff, ↓reduceIte])
                        obtain ⟨r35, hr35, hP⟩ := bind_cases hP
                        refine call_okq [.vptr (.agg [.dead, .view 1 (List.map encB ([] : List UInt8)), .int .i64 0, .bool true, .int .i64 0]) 0] (chunk_Reader_Done_ok hr35) ⟨argR_box rfl ⟨argC_d, argC_m false (by simp only [arg, go_sem, Nat.reduceEqDiff, ↓reduceIte]), argC_m false rfl, argC_m false rfl, argC_m false rfl, trivial⟩, trivial⟩ rfl ?_
                        (try simp only [go_sem, Nat.reduceEqDiff, ↓reduceIte])
                        refine hold2 ?_
                        exact join_n (!r35) (Option.some.inj hP) (so [0, 1, 2, 3, 7])
            · intro j36 hs
              subst hs
              have hP := hQ32
              clear hQ32
              refine J_condV rfl ?_
              (try simp only [go_sem, Nat.reduceEqDiff, ↓reduceIte])
              rcases ite_cases hP with ⟨hc, hP⟩ | ⟨hc, hP⟩
              · refine condV_t hc ?_
                refine J_seq ?_
                refine J_region (by kernel_rfl) ?_
                (try simp only [go_sem, Nat.reduceEqDiff, ↓reduceIte])
                refine hold2 (then_n ?_)
                refine J_ret (then_ret (fin_ret ?_))
                obtain rfl := Option.some.inj hP
                (try simp only [go_sem, Nat.reduceEqDiff, ↓reduceIte])
                exact fo []
              · refine condV_f hc ?_
                refine J_skip (then_n ?_)
                refine J_seq ?_
                refine J_region (by kernel_rfl) ?_
                (try simp only [go_sem, Nat.reduceEqDiff, ↓reduceIte])
                obtain ⟨r38, hr37, hP⟩ := bind_cases hP
                refine call_pt [2, 3] [(0, .view 1 (List.map encB b1)), (1, .int .i64 length2), (6, .bptr 0 0), (7, .bptr 2 0), (11, .own 4 0 0 (List.length r24.2.2.2)), (12, .int .i64 r24.1), (15, .int .i64 j28)] [.box 46 [.iface 47 (.int .i64 length2), .own 1 0 0 (List.length ([] : List UInt8)), .int .i64 r22.2.1, .bool r22.2.2.1, .int .i64 0], .slice 0 5 1 (List.map encB ([] : List UInt8)), .box 46 [.iface 51 (.agg []), .own 3 0 0 (List.length ([] : List UInt8)), .int .i64 r24.2.1, .bool r38, .int .i64 r24.2.2.1], .slice 0 5 1 (List.map encB ([] : List UInt8)), .slice 0 5 1 (List.map encB r24.2.2.2)] (.tup []) (chunk_Reader_End_ok hr37) ⟨argP_r (by rfl), trivial⟩ (told_of (sm [0, 1, 5, 6, 4])) ?_
                (try simp only [go_sem, Nat.reduceEqDiff, ↓reduceIte])
                refine hold2 (then_n ?_)
                refine J_seq ?_
                refine J_region (by kernel_rfl) ?_
                (try simp only [go_sem, Nat.reduceEqDiff, ↓reduceIte])
                obtain ⟨r40, hr39, hP⟩ := bind_cases hP
                refine call_pt [0, 1] [(0, .view 1 (List.map encB b1)), (1, .int .i64 length2), (6, .bptr 0 0), (7, .bptr 2 0), (11, .own 4 0 0 (List.length r24.2.2.2)), (12, .int .i64 r24.1), (15, .int .i64 j28)] [.box 46 [.iface 47 (.int .i64 length2), .own 1 0 0 (List.length ([] : List UInt8)), .int .i64 r22.2.1, .bool r22.2.2.1, .int .i64 r40], .slice 0 5 1 (List.map encB ([] : List UInt8)), .box 46 [.iface 51 (.agg []), .own 3 0 0 (List.length ([] : List UInt8)), .int .i64 r24.2.1, .bool r38, .int .i64 r24.2.2.1], .slice 0 5 1 (List.map encB ([] : List UInt8)), .slice 0 5 1 (List.map encB r24.2.2.2)] (.tup []) (chunk_Reader_End_w2_ok hr39) ⟨argP_r (by rfl), trivial⟩ (told_of (sm [5, 6, 2, 3, 4])) ?_
                (try simp only [go_sem, Nat.reduceEqDiff, ↓reduceIte])
                refine hold2 (then_n ?_)
                refine J_seq ?_
                refine J_seq ?_
                refine J_region (by kernel_rfl) ?_
                (try simp only [go_sem, Nat.reduceEqDiff, ↓reduceIte])
                refine hold2 (then_n ?_)
                refine J_condV rfl ?_
                (try simp only [go_sem, Nat.reduceEqDiff, ↓reduceIte])
                rcases ite_cases hP with ⟨hc, hP⟩ | ⟨hc, hP⟩
                · refine condV_t hc ?_
                  obtain ⟨o43, hP, hQ43⟩ := bind_cases hP
                  refine J_join (fun (s : Bool) => envL [(4, .bool s)]) (fun (s : Bool) => []) (fun s => s = o43) ?_ ?_
                  · clear hQ43
                    refine J_region (by kernel_rfl) ?_
                    (try simp only [go_sem, Nat.reduceEqDiff, ↓reduceIte])
                    rcases ite_cases hP with ⟨hc, hP⟩ | ⟨hc, hP⟩
                    · refine guard_is hc ?_
                      (try conv => arg 5; simp only [go_sem, Nat.reduceEqDiff, ↓reduceIte])
                      (try simp only [go_sem, Nat.reduceEqDiff, ↓reduceIte])
                      rcases ite_cases hP with ⟨hc, hP⟩ | ⟨hc, hP⟩
                      · refine guard_is hc ?_
                        (try conv => arg 5; simp only [go_sem, Nat.reduceEqDiff, ↓reduceIte])
                        (try simp only [go_sem, Nat.reduceEqDiff, ↓reduceIte])
                        obtain ⟨r44, hr44, hP⟩ := bind_cases hP
                        refine call_ok [.vptr (.agg [.dead, .view 1 (List.map encB ([] : List UInt8)), .int .i64 r24.2.1, .bool r38, .int .i64 r24.2.2.1]) 0] (chunk_Reader_Err_ok hr44) ⟨argR_box rfl ⟨argC_d, argC_m false (by simp only [arg, go_sem, Nat.reduceEqDiff, ↓reduceIte]), argC_m false rfl, argC_m false rfl, argC_m false rfl, trivial⟩, trivial⟩ ?_
                        (try simp only [go_sem, Nat.reduceEqDiff, ↓reduceIte])
                        rcases ite_cases hP with ⟨hc, hP⟩ | ⟨hc, hP⟩
                        · refine guard_is hc ?_
                          (try conv => arg 5; simp only [go_sem, Nat.reduceEqDiff, ↓reduceIte])
                          (try simp only [go_sem, Nat.reduceEqDiff, ↓reduceIte])
                          obtain ⟨r45, hr45, hP⟩ := bind_cases hP
                          refine call_ok [.vptr (.agg [.dead, .view 1 (List.map encB ([] : List UInt8)), .int .i64 r24.2.1, .bool r38, .int .i64 r24.2.2.1]) 0] (chunk_Reader_Done_ok hr45) ⟨argR_box rfl ⟨argC_d, argC_m false (by simp only [arg, go_sem, Nat.reduceEqDiff, ↓reduceIte]), argC_m false rfl, argC_m false rfl, argC_m false rfl, trivial⟩, trivial⟩ ?_
                          (try simp only [go_sem, Nat.reduceEqDiff, ↓reduceIte])
                          refine hold2 ?_
                          exact join_n (!r45) (Option.some.inj hP) (so [])
                        · refine guard_not hc ?_
                          (try conv => arg 5; simp only [go_sem, Nat.reduceEqDiff, ↓reduceIte])
                          (try simp only [go_sem, Nat.reduceEqDiff, ↓reduceIte])
                          refine hold2 ?_
                          exact join_n false (Option.some.inj hP) (so [])
                      · refine guard_not hc ?_
                        (try conv => arg 5; simp only [go_sem, Nat.reduceEqDiff, ↓reduceIte])
                        (try simp only [go_sem, Nat.reduceEqDiff, ↓reduceIte])
                        refine hold2 ?_
                        exact join_n false (Option.some.inj hP) (so [])
                    · refine guard_not hc ?_
                      (try conv => arg 5; simp only [go_sem, Nat.reduceEqDiff, ↓reduceIte])
                      (try simp only [go_sem, Nat.reduceEqDiff, ↓reduceIte])
                      refine hold2 ?_
                      exact join_n false (Option.some.inj hP) (so [])
                  · intro j46 hs
                    subst hs
                    have hP := hQ43
                    clear hQ43
                    refine J_ret (then_ret (fin_ret ?_))
                    obtain rfl := Option.some.inj hP
                    (try simp only [go_sem, Nat.reduceEqDiff, ↓reduceIte])
                    exact fo []
                · refine condV_f hc ?_
                  refine J_skip (then_n ?_)
                  refine J_seq ?_
                  refine J_region (by kernel_rfl) ?_
                  (try simp only [go_sem, Nat.reduceEqDiff, ↓reduceIte])
                  obtain ⟨r47, hr47, hP⟩ := bind_cases hP
                  refine call_ok [.vptr (.agg [.dead, .view 1 (List.map encB ([] : List UInt8)), .int .i64 r22.2.1, .bool r22.2.2.1, .int .i64 r40]) 0] (chunk_Reader_Err_ok hr47) ⟨argR_box rfl ⟨argC_d, argC_m false (by simp only [arg, go_sem, Nat.reduceEqDiff, ↓reduceIte]), argC_m false rfl, argC_m false rfl, argC_m false rfl, trivial⟩, trivial⟩ ?_
                  (try simp only [go_sem, Nat.reduceEqDiff, ↓reduceIte])
                  refine hold2 (then_n ?_)
                  refine J_seq ?_
                  refine J_region (by kernel_rfl) ?_
                  (try simp only [go_sem, Nat.reduceEqDiff, ↓reduceIte])
                  first | refine bytesK_map ?_ | refine bytesK_of r24.2.2.2 rfl ?_
                  (try simp only [go_sem, Nat.reduceEqDiff, ↓reduceIte])
                  first | refine bytesK_map ?_ | refine bytesK_of b1 rfl ?_
                  (try simp only [go_sem, Nat.reduceEqDiff, ↓reduceIte])
                  rcases ite_cases hP with ⟨hc, hP⟩ | ⟨hc, hP⟩
                  · refine guard_is hc ?_
                    (try conv => arg 5; simp only [go_sem, Nat.reduceEqDiff, ↓reduceIte])
                    (try simp only [go_sem, Nat.reduceEqDiff, ↓reduceIte])
                    rcases ite_cases hP with ⟨hc, hP⟩ | ⟨hc, hP⟩
                    · refine guard_is hc ?_
                      (try conv => arg 5; simp only [go_sem, Nat.reduceEqDiff, ↓reduceIte])
                      (try simp only [go_sem, Nat.reduceEqDiff, ↓reduceIte])
                      obtain ⟨r48, hr48, hP⟩ := bind_cases hP
                      refine call_ok [.vptr (.agg [.dead, .view 1 (List.map encB ([] : List UInt8)), .int .i64 r24.2.1, .bool r38, .int .i64 r24.2.2.1]) 0] (chunk_Reader_Done_ok hr48) ⟨argR_box rfl ⟨argC_d, argC_m false (by simp only [arg, go_sem, Nat.reduceEqDiff, ↓reduceIte]), argC_m false rfl, argC_m false rfl, argC_m false rfl, trivial⟩, trivial⟩ ?_
                      (try simp only [go_sem, Nat.reduceEqDiff, ↓reduceIte])
                      rcases ite_cases hP with ⟨hc, hP⟩ | ⟨hc, hP⟩
                      · refine guard_is hc ?_
                        (try conv => arg 5; simp only [go_sem, Nat.reduceEqDiff, ↓reduceIte])
                        (try simp only [go_sem, Nat.reduceEqDiff, ↓reduceIte])
                        obtain ⟨r49, hr49, hP⟩ := bind_cases hP
                        refine call_ok [.vptr (.agg [.dead, .view 1 (List.map encB ([] : List UInt8)), .int .i64 r24.2.1, .bool r38, .int .i64 r24.2.2.1]) 0] (chunk_Reader_Err_ok hr49) ⟨argR_box rfl ⟨argC_d, argC_m false (by simp only [arg, go_sem, Nat.reduceEqDiff, ↓reduceIte]), argC_m false rfl, argC_m false rfl, argC_m false rfl, trivial⟩, trivial⟩ ?_
                        (try simp only [go_sem, Nat.reduceEqDiff, ↓reduceIte])
                        rcases ite_cases hP with ⟨hc, hP⟩ | ⟨hc, hP⟩
                        · refine guard_is hc ?_
                          (try conv => arg 5; simp only [go_sem, Nat.reduceEqDiff, ↓reduceIte])
                          (try simp only [go_sem, Nat.reduceEqDiff, ↓reduceIte])
                          refine hold2 (then_n ?_)
                          refine J_ret (fin_ret ?_)
                          obtain rfl := Option.some.inj hP
                          (try simp only [go_sem, Nat.reduceEqDiff, ↓reduceIte])
                          exact fo []
                        · refine guard_not hc ?_
                          (try conv => arg 5; simp only [go_sem, Nat.reduceEqDiff, ↓reduceIte])
                          (try simp only [go_sem, Nat.reduceEqDiff, ↓reduceIte])
                          refine hold2 (then_n ?_)
                          refine J_ret (fin_ret ?_)
                          obtain rfl := Option.some.inj hP
                          (try simp only [go_sem, Nat.reduceEqDiff, ↓reduceIte])
                          exact fo []
                      · refine guard_not hc ?_
                        (try conv => arg 5; simp only [go_sem, Nat.reduceEqDiff, ↓reduceIte])
                        (try simp only [go_sem, Nat.reduceEqDiff, ↓reduceIte])
                        refine hold2 (then_n ?_)
                        refine J_ret (fin_ret ?_)
                        obtain rfl := Option.some.inj hP
                        (try simp only [go_sem, Nat.reduceEqDiff, ↓reduceIte])
                        exact fo []
                    · refine guard_not hc ?_
                      (try conv => arg 5; simp only [go_sem, Nat.reduceEqDiff, ↓reduceIte])
                      (try simp only [go_sem, Nat.reduceEqDiff, ↓reduceIte])
                      refine hold2 (then_n ?_)
                      refine J_ret (fin_ret ?_)
                      obtain rfl := Option.some.inj hP
                      (try simp only [go_sem, Nat.reduceEqDiff, ↓reduceIte])
                      exact fo []
                  · refine guard_not hc ?_
                    (try conv => arg 5; simp only [go_sem, Nat.reduceEqDiff, ↓reduceIte])
                    (try simp only [go_sem, Nat.reduceEqDiff, ↓reduceIte])
                    refine hold2 (then_n ?_)
                    refine J_ret (fin_ret ?_)
                    obtain rfl := Option.some.inj hP
                    (try simp only [go_sem, Nat.reduceEqDiff, ↓reduceIte])
                    exact fo []
end Go.Proofs.YtfhlehkgiamejaaGreatDoor
