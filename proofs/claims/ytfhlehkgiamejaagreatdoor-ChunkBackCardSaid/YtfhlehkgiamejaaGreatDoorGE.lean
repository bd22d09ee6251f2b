/- Functions of the program, and pure ones that go the same ways: that the program's return what these compute. -/
import Derived.Test.YtfhlehkgiamejaaGreatDoorGK
import Derived.Test.YtfhlehkgiamejaaGreatDoorAvPj
namespace Go.Proofs.YtfhlehkgiamejaaGreatDoor
open Go.Av
set_option linter.unusedVariables false
set_option linter.unusedSimpArgs false
/-- colander/chunk.New, handed pointers -/
def chunk_New : Option (Unit) :=
  some ()
set_option maxRecDepth 100000 in
set_option maxHeartbeats 40000000 in
theorem chunk_New_ok {r : Unit} (hP : chunk_New = some r) : CallPX Tryz.prog 12 [.agg [.int .i64 2, .int .i64 0]] [] [] (.inr ⟨.bptr 0 0, [], [.box 46 [.iface 48 (.bptr 1 0), .own 3 0 0 (List.length ([] : List UInt8)), .int .i64 0, .bool false, .int .i64 0], .box 50 [.own 2 0 0 (List.length ([] : List UInt8)), .int .i64 0, .bool false, .int .i64 0], .slice 0 5 1 (List.map encB ([] : List UInt8)), .slice 0 5 1 (List.map encB ([] : List UInt8))]⟩) := by
  unfold chunk_New at hP
  refine callPX_of 42 [.tmp 2] Tryz.func12 ?_ (by rintro q (h | h) <;> cases h <;> exact ⟨by (first | (intro x hx; simp at hx; done) | (simp [vfO, AV.vf, AV.vfL, encB, encI, encS, encO, enc_api_Body, enc_api_Fault, enc_head_text, enc_api_Field]; done) | (simp [vfO, AV.vf, AV.vfL, encB, encI, encS, encO, enc_api_Body, enc_api_Fault, enc_head_text, enc_api_Field]; intros; subst_vars; simp [AV.vf, AV.vfL]) | (simp [vfO, AV.vf, AV.vfL, encB, encI, encS, encO, enc_api_Body, enc_api_Fault, enc_head_text, enc_api_Field]; (repeat' apply And.intro) <;> (rintro x (⟨a, _, rfl⟩ | rfl) <;> simp [AV.vf, AV.vfL]))), by simp⟩) (by rintro q h <;> cases h <;> first | rfl | simp [AV.vf, AV.vfL])
  refine J_seq ?_
  refine J_region (by kernel_rfl) ?_
  (try simp only [go_sem, Nat.reduceEqDiff, ↓reduceIte, Nat.reduceAdd, Nat.reduceSub, Nat.reduceLT, Nat.reduceMul, reduceCtorEq, Int.reduceToNat, Int.reduceLE, Int.reduceLT, Nat.reduceLeDiff])
  refine hold2 (then_n ?_)
  refine J_seq ?_
  refine J_seq ?_
  refine J_region (by kernel_rfl) ?_
  (try simp only [go_sem, Nat.reduceEqDiff, ↓reduceIte])
  refine hold2 (then_n ?_)
  refine J_block ?_
  refine J_seq ?_
  refine J_region (by kernel_rfl) ?_
  (try simp only [go_sem, Nat.reduceEqDiff, ↓reduceIte])
  (try simp only [show decide ((2 : Int) = 0) = false from rfl, decide_true, decide_false, Bool.not_true, Bool.not_false, go_sem, Nat.reduceEqDiff, ↓reduceIte])
  refine hold2 (then_n ?_)
  refine J_condV rfl ?_
  (try simp only [go_sem, Nat.reduceEqDiff, ↓reduceIte])
  refine J_seq ?_
  refine J_region (by kernel_rfl) ?_
  (try simp only [go_sem, Nat.reduceEqDiff, ↓reduceIte])
  (try simp only [show decide ((2 : Int) = 1) = false from rfl, decide_true, decide_false, Bool.not_true, Bool.not_false, go_sem, Nat.reduceEqDiff, ↓reduceIte])
  refine hold2 (then_n ?_)
  refine J_condV rfl ?_
  (try simp only [go_sem, Nat.reduceEqDiff, ↓reduceIte])
  refine J_seq ?_
  refine J_region (by kernel_rfl) ?_
  (try simp only [go_sem, Nat.reduceEqDiff, ↓reduceIte])
  (try simp only [show decide ((2 : Int) = 2) = true from rfl, decide_true, decide_false, Bool.not_true, Bool.not_false, go_sem, Nat.reduceEqDiff, ↓reduceIte])
  refine hold2 (then_n ?_)
  refine J_condV rfl ?_
  (try simp only [go_sem, Nat.reduceEqDiff, ↓reduceIte])
  refine J_seq ?_
  refine J_region (by kernel_rfl) ?_
  (try simp only [go_sem, Nat.reduceEqDiff, ↓reduceIte, Nat.reduceAdd, Nat.reduceSub, Nat.reduceLT, Nat.reduceMul, reduceCtorEq, Int.reduceToNat, Int.reduceLE, Int.reduceLT, Nat.reduceLeDiff])
  refine hold2 (then_n ?_)
  refine J_prom 5 1 (by decide) 1 0 _ _ rfl rfl ?_
  (try simp only [go_sem, Nat.reduceEqDiff, ↓reduceIte])
  refine J_prom 5 1 (by decide) 2 1 _ _ rfl rfl ?_
  (try simp only [go_sem, Nat.reduceEqDiff, ↓reduceIte])
  refine J_ret (block_ret (then_ret (finIX_ret ?_)))
  obtain rfl := Option.some.inj hP
  exact pk_of rfl (sr [2, 1, 3, 4])
theorem meth_48_56 : MethOK Tryz.prog 48 "colander/chunk.one" 56 := fun _ _ => by kernel_rfl
/-- (*colander/chunk.Reader).means, handed pointers -/
def chunk_Reader_means (c1 : UInt8) (c2 : Int) (c3 : Bool) (c4 : Int) (c5 : Int) (c6 : Bool) (c7 : Int) (c8 : List (UInt8)) (c9 : List (UInt8)) : Option (Unit) :=
  (szC (List.length (c9 ++ [c1] : List (UInt8)))).bind fun _ =>
  some ()
set_option maxRecDepth 100000 in
set_option maxHeartbeats 40000000 in
theorem chunk_Reader_means_ok {c1 : UInt8} {c2 : Int} {c3 : Bool} {c4 : Int} {c5 : Int} {c6 : Bool} {c7 : Int} {c8 : List (UInt8)} {c9 : List (UInt8)} {r : Unit} (hP : chunk_Reader_means c1 c2 c3 c4 c5 c6 c7 c8 c9 = some r) : CallPX Tryz.prog 54 [.bptr 0 0, .int .u8 (b2i c1)] [.box 46 [.iface 48 (.bptr 1 0), .own 3 0 0 (List.length c9), .int .i64 c2, .bool c3, .int .i64 c4], .box 50 [.own 2 0 0 (List.length c8), .int .i64 c5, .bool c6, .int .i64 c7], .slice 0 5 1 (List.map encB c8), .slice 0 5 1 (List.map encB c9)] [0, 1] (.inr ⟨.tup [], [(0, .bptr 0 0), (1, .bptr 1 0)], [.box 46 [.iface 48 (.bptr 1 0), .own 3 0 0 (List.length (c9 ++ [c1])), .int .i64 (iadd .i64 c2 1), .bool c3, .int .i64 c4], .box 50 [.own 2 0 0 (List.length c8), .int .i64 c5, .bool c6, .int .i64 c7], .slice 0 5 1 (List.map encB c8), .slice 0 5 1 (List.map encB (c9 ++ [c1]))]⟩) := by
  unfold chunk_Reader_means at hP
  refine callPX_of 21 [] Tryz.func54 ?_ (by rintro q (h | h) <;> cases h <;> exact ⟨by (first | (intro x hx; simp at hx; done) | (simp [vfO, AV.vf, AV.vfL, encB, encI, encS, encO, enc_api_Body, enc_api_Fault, enc_head_text, enc_api_Field]; done) | (simp [vfO, AV.vf, AV.vfL, encB, encI, encS, encO, enc_api_Body, enc_api_Fault, enc_head_text, enc_api_Field]; intros; subst_vars; simp [AV.vf, AV.vfL]) | (simp [vfO, AV.vf, AV.vfL, encB, encI, encS, encO, enc_api_Body, enc_api_Fault, enc_head_text, enc_api_Field]; (repeat' apply And.intro) <;> (rintro x (⟨a, _, rfl⟩ | rfl) <;> simp [AV.vf, AV.vfL]))), by simp⟩) (by rintro q h <;> cases h <;> first | rfl | simp [AV.vf, AV.vfL])
  refine J_seq ?_
  refine J_region (by kernel_rfl) ?_
  (try simp only [go_sem, Nat.reduceEqDiff, ↓reduceIte, Nat.reduceAdd, Nat.reduceSub, Nat.reduceLT, Nat.reduceMul, reduceCtorEq, Int.reduceToNat, Int.reduceLE, Int.reduceLT, Nat.reduceLeDiff])
  obtain ⟨_, hz11, hP⟩ := bind_cases hP
  refine app_own (f := encB) (c9 : List (UInt8)) ([c1] : List (UInt8)) rfl tyS_22 (by decide) (by simp only [go_sem, Nat.reduceEqDiff, ↓reduceIte, Nat.reduceAdd, Nat.reduceSub, Nat.reduceLT, Nat.reduceMul, reduceCtorEq, Int.reduceToNat, Int.reduceLE, Int.reduceLT, Nat.reduceLeDiff]; first | done | rfl | exact ⟨rfl, rfl⟩) hz11 ?_
  (try simp only [go_sem, Nat.reduceEqDiff, ↓reduceIte, Nat.reduceAdd, Nat.reduceSub, Nat.reduceLT, Nat.reduceMul, reduceCtorEq, Int.reduceToNat, Int.reduceLE, Int.reduceLT, Nat.reduceLeDiff])
  refine hold2 (then_n ?_)
  refine J_region (by kernel_rfl) ?_
  (try simp only [go_sem, Nat.reduceEqDiff, ↓reduceIte, Nat.reduceAdd, Nat.reduceSub, Nat.reduceLT, Nat.reduceMul, reduceCtorEq, Int.reduceToNat, Int.reduceLE, Int.reduceLT, Nat.reduceLeDiff])
  refine hold2 (finIX_n ?_)
  obtain rfl := Option.some.inj hP
  exact pk_of rfl (sr [0, 1, 2, 3])
/-- (*colander/chunk.chunked).trailer, handed pointers -/
def chunk_chunked_trailer (line1 : List UInt8) (c2 : Int) (c3 : Bool) (c4 : Int) (c5 : List (UInt8)) (c6 : Int) (c7 : Bool) (c8 : Int) (c9 : List (UInt8)) : Option (Int × Bool × Int) :=
  if decide (line1 = []) then
    some (c4, true, c8)
  else
    (szC (List.length ([72, 84, 84, 80, 47, 49, 46, 49, 32, 50, 48, 48, 32, 13, 10] ++ line1))).bind fun _ =>
    (szC (List.length (([72, 84, 84, 80, 47, 49, 46, 49, 32, 50, 48, 48, 32, 13, 10] ++ line1) ++ [13, 10, 13, 10]))).bind fun _ =>
    (head_Response (([72, 84, 84, 80, 47, 49, 46, 49, 32, 50, 48, 48, 32, 13, 10] ++ line1) ++ [13, 10, 13, 10])).bind fun r15 =>
    if !r15.2 then
      some (iadd .i64 c4 1, c7, 22)
    else
      if decide (32 < iadd .i64 c4 1) then
        some (iadd .i64 c4 1, c7, 22)
      else
        some (iadd .i64 c4 1, c7, c8)
set_option maxRecDepth 100000 in
set_option maxHeartbeats 40000000 in
theorem chunk_chunked_trailer_ok {line1 : List UInt8} {c2 : Int} {c3 : Bool} {c4 : Int} {c5 : List (UInt8)} {c6 : Int} {c7 : Bool} {c8 : Int} {c9 : List (UInt8)} {r : Int × Bool × Int} (hP : chunk_chunked_trailer line1 c2 c3 c4 c5 c6 c7 c8 c9 = some r) : CallPX Tryz.prog 58 [.bptr 0 0, .bptr 2 0, .str line1] [.box 50 [.own 1 0 0 (List.length c5), .int .i64 c2, .bool c3, .int .i64 c4], .slice 0 5 1 (List.map encB c5), .box 46 [.iface 48 (.bptr 0 0), .own 3 0 0 (List.length c9), .int .i64 c6, .bool c7, .int .i64 c8], .slice 0 5 1 (List.map encB c9)] [0, 2] (.inr ⟨.tup [], [(0, .bptr 0 0), (2, .bptr 2 0)], [.box 50 [.own 1 0 0 (List.length c5), .int .i64 c2, .bool c3, .int .i64 r.1], .slice 0 5 1 (List.map encB c5), .box 46 [.iface 48 (.bptr 0 0), .own 3 0 0 (List.length c9), .int .i64 c6, .bool r.2.1, .int .i64 r.2.2], .slice 0 5 1 (List.map encB c9)]⟩) := by
  unfold chunk_chunked_trailer at hP
  refine callPX_of 39 [] Tryz.func58 ?_ (by rintro q (h | h) <;> cases h <;> exact ⟨by (first | (intro x hx; simp at hx; done) | (simp [vfO, AV.vf, AV.vfL, encB, encI, encS, encO, enc_api_Body, enc_api_Fault, enc_head_text, enc_api_Field]; done) | (simp [vfO, AV.vf, AV.vfL, encB, encI, encS, encO, enc_api_Body, enc_api_Fault, enc_head_text, enc_api_Field]; intros; subst_vars; simp [AV.vf, AV.vfL]) | (simp [vfO, AV.vf, AV.vfL, encB, encI, encS, encO, enc_api_Body, enc_api_Fault, enc_head_text, enc_api_Field]; (repeat' apply And.intro) <;> (rintro x (⟨a, _, rfl⟩ | rfl) <;> simp [AV.vf, AV.vfL]))), by simp⟩) (by rintro q h <;> cases h <;> first | rfl | simp [AV.vf, AV.vfL])
  refine J_seq ?_
  refine J_seq ?_
  refine J_region (by kernel_rfl) ?_
  (try simp only [go_sem, Nat.reduceEqDiff, ↓reduceIte])
  refine hold2 (then_n ?_)
  refine J_condV rfl ?_
  (try simp only [go_sem, Nat.reduceEqDiff, ↓reduceIte])
  rcases ite_cases hP with ⟨hc, hP⟩ | ⟨hc, hP⟩
  · refine condV_t hc ?_
    refine J_seq ?_
    refine J_region (by kernel_rfl) ?_
    (try simp only [go_sem, Nat.reduceEqDiff, ↓reduceIte, Nat.reduceAdd, Nat.reduceSub, Nat.reduceLT, Nat.reduceMul, reduceCtorEq, Int.reduceToNat, Int.reduceLE, Int.reduceLT, Nat.reduceLeDiff])
    refine hold2 (then_n ?_)
    refine J_ret (then_ret (finIX_ret ?_))
    obtain rfl := Option.some.inj hP
    exact pk_of rfl (sr [0, 1, 2, 3])
  · refine condV_f hc ?_
    refine J_skip (then_n ?_)
    refine J_seq ?_
    refine J_region (by kernel_rfl) ?_
    (try simp only [go_sem, Nat.reduceEqDiff, ↓reduceIte, Nat.reduceAdd, Nat.reduceSub, Nat.reduceLT, Nat.reduceMul, reduceCtorEq, Int.reduceToNat, Int.reduceLE, Int.reduceLT, Nat.reduceLeDiff])
    refine hold2 (then_n ?_)
    refine J_seq ?_
    refine J_region (by kernel_rfl) ?_
    (try simp only [go_sem, Nat.reduceEqDiff, ↓reduceIte])
    obtain ⟨_, hz13, hP⟩ := bind_cases hP
    refine chk_of (by first | exact szC_63 hz13 | (have q := szC_63 hz13; simp only [List.length_append, List.length_cons, List.length_nil] at q ⊢; omega)) ?_
    (try simp only [go_sem, Nat.reduceEqDiff, ↓reduceIte])
    obtain ⟨_, hz14, hP⟩ := bind_cases hP
    refine chk_of (by first | exact szC_63 hz14 | (have q := szC_63 hz14; simp only [List.length_append, List.length_cons, List.length_nil] at q ⊢; omega)) ?_
    (try simp only [go_sem, Nat.reduceEqDiff, ↓reduceIte])
    obtain ⟨r15, hr15, hP⟩ := bind_cases hP
    refine call_ok [.str (([72, 84, 84, 80, 47, 49, 46, 49, 32, 50, 48, 48, 32, 13, 10] ++ line1) ++ [13, 10, 13, 10])] (head_Response_ok hr15) ⟨argR_m false rfl, trivial⟩ ?_
    (try simp only [go_sem, Nat.reduceEqDiff, ↓reduceIte])
    refine hold2 (then_n ?_)
    refine J_seq ?_
    refine J_region (by kernel_rfl) ?_
    (try simp only [go_sem, Nat.reduceEqDiff, ↓reduceIte])
    rcases ite_cases hP with ⟨hc, hP⟩ | ⟨hc, hP⟩
    · refine guard_not hc ?_
      (try simp only [go_sem, Nat.reduceEqDiff, ↓reduceIte])
      refine hold2 (then_n ?_)
      refine J_condV rfl ?_
      (try simp only [go_sem, Nat.reduceEqDiff, ↓reduceIte])
      refine J_region (by kernel_rfl) ?_
      (try simp only [go_sem, Nat.reduceEqDiff, ↓reduceIte, Nat.reduceAdd, Nat.reduceSub, Nat.reduceLT, Nat.reduceMul, reduceCtorEq, Int.reduceToNat, Int.reduceLE, Int.reduceLT, Nat.reduceLeDiff])
      refine hold2 (finIX_n ?_)
      obtain rfl := Option.some.inj hP
      exact pk_of rfl (sr [0, 1, 2, 3])
    · refine guard_is hc ?_
      (try simp only [go_sem, Nat.reduceEqDiff, ↓reduceIte, Nat.reduceAdd, Nat.reduceSub, Nat.reduceLT, Nat.reduceMul, reduceCtorEq, Int.reduceToNat, Int.reduceLE, Int.reduceLT, Nat.reduceLeDiff])
      refine hold2 (then_n ?_)
      refine J_condV rfl ?_
      (try simp only [go_sem, Nat.reduceEqDiff, ↓reduceIte])
      rcases ite_cases hP with ⟨hc, hP⟩ | ⟨hc, hP⟩
      · refine condV_t hc ?_
        refine J_region (by kernel_rfl) ?_
        (try simp only [go_sem, Nat.reduceEqDiff, ↓reduceIte, Nat.reduceAdd, Nat.reduceSub, Nat.reduceLT, Nat.reduceMul, reduceCtorEq, Int.reduceToNat, Int.reduceLE, Int.reduceLT, Nat.reduceLeDiff])
        refine hold2 (finIX_n ?_)
        obtain rfl := Option.some.inj hP
        exact pk_of rfl (sr [0, 1, 2, 3])
      · refine condV_f hc ?_
        refine J_skip (finIX_n ?_)
        obtain rfl := Option.some.inj hP
        exact pk_of rfl (sr [0, 1, 2, 3])
/-- (*colander/chunk.chunked).size, handed pointers -/
def strings_indexFunc_L178 (r100 : (List UInt8) × (List UInt8) × Bool) : Nat → Nat → Option (Sum (Int) (Unit))
  | 0, _ => none
  | k177 + 1, l176 =>
    if decide (l176 < List.length r100.2.1) then
      (chunk_chunked_size_1 (((decR r100.2.1 l176).1 : Nat) : Int)).bind fun r179 =>
      if r179 == true then
        some (Sum.inl ((l176 : Nat) : Int))
      else
        strings_indexFunc_L178 r100 k177 (l176 + (decR r100.2.1 l176).2)
    else
      some (Sum.inr ())
def chunk_chunked_size (line1 : List UInt8) (c2 : Int) (c3 : Bool) (c4 : Int) (c5 : List (UInt8)) (c6 : Int) (c7 : Bool) (c8 : Int) (c9 : List (UInt8)) : Option (Int × Bool × Int) :=
  (cutX line1 [59]).bind fun r100 =>
  (num_Hex r100.1).bind fun r101 =>
  (show Option (Bool) from
    (show Option (Int) from
      (show Option (Int) from
        (strings_indexFunc_L178 r100 141836999983104 0).bind fun o180 => match o180 with
        | Sum.inl r => some r
        | Sum.inr j181 =>
          some (-1)).bind fun a182 =>
        some a182).bind fun a184 =>
      some (decide (0 ≤ a184))).bind fun a186 =>
    (show Option (Bool) from
      if !decide (r101.2 = 0) then
        some true
      else
        some a186).bind fun j189 =>
      if j189 then
        some (c2, c3, 22)
      else
        if decide (isub .i64 8192 c6 < r101.1) then
          some (c2, c3, 23)
        else
          if decide (r101.1 = 0) then
            some (c2, true, c8)
          else
            some (r101.1, c3, c8)
set_option maxRecDepth 100000 in
set_option maxHeartbeats 40000000 in
theorem chunk_chunked_size_ok {line1 : List UInt8} {c2 : Int} {c3 : Bool} {c4 : Int} {c5 : List (UInt8)} {c6 : Int} {c7 : Bool} {c8 : Int} {c9 : List (UInt8)} {r : Int × Bool × Int} (hP : chunk_chunked_size line1 c2 c3 c4 c5 c6 c7 c8 c9 = some r) : CallPX Tryz.prog 59 [.bptr 0 0, .bptr 2 0, .str line1] [.box 50 [.own 1 0 0 (List.length c5), .int .i64 c2, .bool c3, .int .i64 c4], .slice 0 5 1 (List.map encB c5), .box 46 [.iface 48 (.bptr 0 0), .own 3 0 0 (List.length c9), .int .i64 c6, .bool c7, .int .i64 c8], .slice 0 5 1 (List.map encB c9)] [0, 2] (.inr ⟨.tup [], [(0, .bptr 0 0), (2, .bptr 2 0)], [.box 50 [.own 1 0 0 (List.length c5), .int .i64 r.1, .bool r.2.1, .int .i64 c4], .slice 0 5 1 (List.map encB c5), .box 46 [.iface 48 (.bptr 0 0), .own 3 0 0 (List.length c9), .int .i64 c6, .bool c7, .int .i64 r.2.2], .slice 0 5 1 (List.map encB c9)]⟩) := by
  unfold chunk_chunked_size at hP
  refine callPX_of 55 [] Tryz.func59 ?_ (by rintro q (h | h) <;> cases h <;> exact ⟨by (first | (intro x hx; simp at hx; done) | (simp [vfO, AV.vf, AV.vfL, encB, encI, encS, encO, enc_api_Body, enc_api_Fault, enc_head_text, enc_api_Field]; done) | (simp [vfO, AV.vf, AV.vfL, encB, encI, encS, encO, enc_api_Body, enc_api_Fault, enc_head_text, enc_api_Field]; intros; subst_vars; simp [AV.vf, AV.vfL]) | (simp [vfO, AV.vf, AV.vfL, encB, encI, encS, encO, enc_api_Body, enc_api_Fault, enc_head_text, enc_api_Field]; (repeat' apply And.intro) <;> (rintro x (⟨a, _, rfl⟩ | rfl) <;> simp [AV.vf, AV.vfL]))), by simp⟩) (by rintro q h <;> cases h <;> first | rfl | simp [AV.vf, AV.vfL])
  refine J_seq ?_
  refine J_region (by kernel_rfl) ?_
  (try simp only [go_sem, Nat.reduceEqDiff, ↓reduceIte])
  obtain ⟨r100, hr100, hP⟩ := bind_cases hP
  refine call_ok [.str line1, .str [59]] (cutX_ok hr100) ⟨argR_m false rfl, argR_m false rfl, trivial⟩ ?_
  (try simp only [go_sem, Nat.reduceEqDiff, ↓reduceIte])
  refine hold2 (then_n ?_)
  refine J_seq ?_
  refine J_region (by kernel_rfl) ?_
  (try simp only [go_sem, Nat.reduceEqDiff, ↓reduceIte])
  obtain ⟨r101, hr101, hP⟩ := bind_cases hP
  refine call_ok [.str r100.1] (num_Hex_ok hr101) ⟨argR_m false rfl, trivial⟩ ?_
  (try simp only [go_sem, Nat.reduceEqDiff, ↓reduceIte])
  refine hold2 (then_n ?_)
  refine J_seq ?_
  refine J_region (by kernel_rfl) ?_
  (try simp only [go_sem, Nat.reduceEqDiff, ↓reduceIte])
  obtain ⟨o187, hP, hQ186⟩ := bind_cases hP
  refine call_join (fun (s : Bool) => .bool s) (fun (s : Bool) => envL [(0, .bptr 0 0), (1, .bptr 2 0), (9, .int .i64 r101.1), (10, .int .i64 r101.2), (55, .bptr 0 0), (57, .bptr 2 0)]) (fun (s : Bool) => [.box 50 [.own 1 0 0 (List.length c5), .int .i64 c2, .bool c3, .int .i64 c4], .slice 0 5 1 (List.map encB c5), .box 46 [.iface 48 (.bptr 0 0), .own 3 0 0 (List.length c9), .int .i64 c6, .bool c7, .int .i64 c8], .slice 0 5 1 (List.map encB c9)]) (fun s => s = o187) (callI_of (n := 9) (rs := [.tmp 4]) Tryz.func63 rfl (by decide) rfl rfl (by simp) rfl ?_) ?_
  · clear hQ186
    refine J_seq ?_
    refine J_region (by kernel_rfl) ?_
    (try simp only [go_sem, Nat.reduceEqDiff, ↓reduceIte])
    refine hold2 (then_n ?_)
    refine J_seq ?_
    refine J_region (by kernel_rfl) ?_
    (try simp only [go_sem, Nat.reduceEqDiff, ↓reduceIte])
    obtain ⟨o185, hP, hQ184⟩ := bind_cases hP
    refine call_join (fun (s : Int) => .int .i64 s) (fun (s : Int) => envL [(4, .bool false), (9, .bptr 0 0), (10, .bptr 2 0), (18, .int .i64 r101.1), (19, .int .i64 r101.2), (64, .bptr 0 0), (66, .bptr 2 0)]) (fun (s : Int) => [.box 50 [.own 1 0 0 (List.length c5), .int .i64 c2, .bool c3, .int .i64 c4], .slice 0 5 1 (List.map encB c5), .box 46 [.iface 48 (.bptr 0 0), .own 3 0 0 (List.length c9), .int .i64 c6, .bool c7, .int .i64 c8], .slice 0 5 1 (List.map encB c9)]) (fun s => s = o185) (callI_of (n := 8) (rs := [.tmp 4]) Tryz.func76 rfl (by decide) rfl rfl (by simp) rfl ?_) ?_
    · clear hQ184
      refine J_seq ?_
      refine J_region (by kernel_rfl) ?_
      (try simp only [go_sem, Nat.reduceEqDiff, ↓reduceIte])
      refine hold2 (then_n ?_)
      refine J_seq ?_
      refine J_region (by kernel_rfl) ?_
      (try simp only [go_sem, Nat.reduceEqDiff, ↓reduceIte])
      obtain ⟨o183, hP, hQ182⟩ := bind_cases hP
      refine call_join (fun (s : Int) => .int .i64 s) (fun (s : Int) => envL [(4, .int .i64 0), (12, .bool false), (17, .bptr 0 0), (18, .bptr 2 0), (26, .int .i64 r101.1), (27, .int .i64 r101.2), (72, .bptr 0 0), (74, .bptr 2 0)]) (fun (s : Int) => [.box 50 [.own 1 0 0 (List.length c5), .int .i64 c2, .bool c3, .int .i64 c4], .slice 0 5 1 (List.map encB c5), .box 46 [.iface 48 (.bptr 0 0), .own 3 0 0 (List.length c9), .int .i64 c6, .bool c7, .int .i64 c8], .slice 0 5 1 (List.map encB c9)]) (fun s => s = o183) (callI_of (n := 21) (rs := [.tmp 6]) Tryz.func84 rfl (by decide) rfl rfl (by simp) rfl ?_) ?_
      · clear hQ182
        refine J_seq ?_
        refine J_region (by kernel_rfl) ?_
        (try simp only [go_sem, Nat.reduceEqDiff, ↓reduceIte])
        refine hold2 (then_n ?_)
        refine J_seq ?_
        refine J_seq ?_
        refine J_region (by kernel_rfl) ?_
        (try simp only [go_sem, Nat.reduceEqDiff, ↓reduceIte])
        refine hold2 (then_n ?_)
        obtain ⟨o180, hP, hQ178⟩ := bind_cases hP
        refine J_joinK0 (fun (s : Unit) => envL [(25, .int .i64 0), (33, .bool false), (38, .bptr 0 0), (39, .bptr 2 0), (47, .int .i64 r101.1), (48, .int .i64 r101.2), (93, .bptr 0 0), (95, .bptr 2 0)]) (fun (s : Unit) => [.box 50 [.own 1 0 0 (List.length c5), .int .i64 c2, .bool c3, .int .i64 c4], .slice 0 5 1 (List.map encB c5), .box 46 [.iface 48 (.bptr 0 0), .own 3 0 0 (List.length c9), .int .i64 c6, .bool c7, .int .i64 c8], .slice 0 5 1 (List.map encB c9)]) (fun s => Sum.inr s = o180) ?_ ?_
        · refine J_block ?_
          refine J_loop (σ := Nat × Nat) (fun (s : Nat × Nat) => envL [(1, .fn 64 []), (2, .bool true), (10, .bptr 0 0), (25, .int .i64 0), (33, .bool false), (38, .bptr 1 0), (39, .bptr 3 0), (47, .int .i64 r101.1), (48, .int .i64 r101.2), (93, .bptr 1 0), (95, .bptr 3 0)]) (fun (s : Nat × Nat) => [.iter r100.2.1 s.2, .box 50 [.own 2 0 0 (List.length c5), .int .i64 c2, .bool c3, .int .i64 c4], .slice 0 5 1 (List.map encB c5), .box 46 [.iface 48 (.bptr 1 0), .own 4 0 0 (List.length c9), .int .i64 c6, .bool c7, .int .i64 c8], .slice 0 5 1 (List.map encB c9)]) (fun s => strings_indexFunc_L178 r100 s.1 s.2 = some o180) (fun s => s.1) (141836999983104, 0) hP (so [4, 0, 1, 2, 3]) ?_
          rintro ⟨k177, l176⟩ hP
          dsimp only at hP ⊢
          cases k177 with
          | zero => simp [strings_indexFunc_L178] at hP
          | succ k177 =>
            simp only [strings_indexFunc_L178] at hP
            refine J_seq ?_
            refine J_region (by kernel_rfl) ?_
            (try simp only [go_sem, Nat.reduceEqDiff, ↓reduceIte])
            rcases ite_cases hP with ⟨hc, hP⟩ | ⟨hc, hP⟩
            · refine guard_is hc ?_
              (try simp only [go_sem, Nat.reduceEqDiff, ↓reduceIte])
              refine hold2 (then_n ?_)
              refine J_seq ?_
              refine J_condV rfl ?_
              (try simp only [go_sem, Nat.reduceEqDiff, ↓reduceIte])
              refine J_skip (then_n ?_)
              refine J_block ?_
              refine J_seq ?_
              refine J_region (by kernel_rfl) ?_
              (try simp only [go_sem, Nat.reduceEqDiff, ↓reduceIte])
              refine hold2 (then_n ?_)
              refine J_seq ?_
              refine J_region (by kernel_rfl) ?_
              (try simp only [go_sem, Nat.reduceEqDiff, ↓reduceIte])
              obtain ⟨r179, hr179, hP⟩ := bind_cases hP
              refine call_ok [.int .i32 (((decR r100.2.1 l176).1 : Nat) : Int)] (chunk_chunked_size_1_ok hr179) ⟨argR_m false rfl, trivial⟩ ?_
              (try simp only [go_sem, Nat.reduceEqDiff, ↓reduceIte])
              refine hold2 (then_n ?_)
              refine J_condV rfl ?_
              (try simp only [go_sem, Nat.reduceEqDiff, ↓reduceIte])
              rcases ite_cases hP with ⟨hc, hP⟩ | ⟨hc, hP⟩
              · refine condV_t hc ?_
                refine J_seq ?_
                refine J_region (by kernel_rfl) ?_
                (try simp only [go_sem, Nat.reduceEqDiff, ↓reduceIte])
                refine hold2 (then_n ?_)
                refine J_ret (block_ret (loop_ret (block_ret (join_ret (then_ret (finI_ret ?_))))))
                obtain rfl := Option.some.inj hP
                have hP := hQ178
                dsimp only at hP
                exact told_of ⟨((l176 : Nat) : Int), Option.some.inj hP, sr [1, 2, 3, 4]⟩
              · refine condV_f hc ?_
                refine J_skip (block_n ?_)
                exact loop_n (k177, l176 + (decR r100.2.1 l176).2) hP (Nat.lt_succ_self _) (so [0, 1, 2, 3, 4])
            · refine guard_not hc ?_
              (try simp only [go_sem, Nat.reduceEqDiff, ↓reduceIte])
              refine hold2 (then_n ?_)
              refine J_seq ?_
              refine J_condV rfl ?_
              (try simp only [go_sem, Nat.reduceEqDiff, ↓reduceIte])
              refine J_exit (then_exit (loop_exit (block_eq ?_)))
              exact join_n () (Option.some.inj hP) (so [1, 2, 3, 4])
        · intro j181 hs
          subst hs
          have hP := hQ178
          dsimp only at hP
          clear hQ178
          refine then_n ?_
          refine J_seq ?_
          refine J_region (by kernel_rfl) ?_
          (try simp only [go_sem, Nat.reduceEqDiff, ↓reduceIte])
          refine hold2 (then_n ?_)
          refine J_ret (finI_ret ?_)
          exact told_of ⟨(-1), Option.some.inj hP, sr [0, 1, 2, 3]⟩
      · intro a182 hs
        subst hs
        have hP := hQ182
        clear hQ182
        (try simp only [go_sem, Nat.reduceEqDiff, ↓reduceIte])
        refine hold2 (then_n ?_)
        refine J_ret (finI_ret ?_)
        exact told_of ⟨a182, Option.some.inj hP, sr [0, 1, 2, 3]⟩
    · intro a184 hs
      subst hs
      have hP := hQ184
      clear hQ184
      (try simp only [go_sem, Nat.reduceEqDiff, ↓reduceIte])
      refine hold2 (then_n ?_)
      refine J_ret (finI_ret ?_)
      exact told_of ⟨(decide (0 ≤ a184)), Option.some.inj hP, sr [0, 1, 2, 3]⟩
  · intro a186 hs
    subst hs
    have hP := hQ186
    clear hQ186
    (try simp only [go_sem, Nat.reduceEqDiff, ↓reduceIte])
    refine hold2 (then_n ?_)
    refine J_block ?_
    obtain ⟨o188, hP, hQ188⟩ := bind_cases hP
    refine J_join (fun (s : Bool) => envL [(0, .bptr 0 0), (1, .bptr 2 0), (9, .int .i64 r101.1), (29, .bool s), (55, .bptr 0 0), (57, .bptr 2 0)]) (fun (s : Bool) => [.box 50 [.own 1 0 0 (List.length c5), .int .i64 c2, .bool c3, .int .i64 c4], .slice 0 5 1 (List.map encB c5), .box 46 [.iface 48 (.bptr 0 0), .own 3 0 0 (List.length c9), .int .i64 c6, .bool c7, .int .i64 c8], .slice 0 5 1 (List.map encB c9)]) (fun s => s = o188) ?_ ?_
    · clear hQ188
      refine J_region (by kernel_rfl) ?_
      (try simp only [go_sem, Nat.reduceEqDiff, ↓reduceIte])
      rcases ite_cases hP with ⟨hc, hP⟩ | ⟨hc, hP⟩
      · refine guard_not hc ?_
        (try simp only [go_sem, Nat.reduceEqDiff, ↓reduceIte])
        refine hold2 ?_
        exact join_n true (Option.some.inj hP) (so [0, 1, 2, 3])
      · refine guard_is hc ?_
        (try simp only [go_sem, Nat.reduceEqDiff, ↓reduceIte])
        refine hold2 ?_
        exact join_n a186 (Option.some.inj hP) (so [0, 1, 2, 3])
    · intro j189 hs
      subst hs
      have hP := hQ188
      clear hQ188
      refine J_condV rfl ?_
      (try simp only [go_sem, Nat.reduceEqDiff, ↓reduceIte])
      rcases ite_cases hP with ⟨hc, hP⟩ | ⟨hc, hP⟩
      · refine condV_t hc ?_
        refine J_region (by kernel_rfl) ?_
        (try simp only [go_sem, Nat.reduceEqDiff, ↓reduceIte])
        refine hold2 (block_n (finIX_n ?_))
        obtain rfl := Option.some.inj hP
        exact pk_of rfl (sr [0, 1, 2, 3])
      · refine condV_f hc ?_
        refine J_seq ?_
        refine J_region (by kernel_rfl) ?_
        (try simp only [go_sem, Nat.reduceEqDiff, ↓reduceIte])
        refine hold2 (then_n ?_)
        refine J_condV rfl ?_
        (try simp only [go_sem, Nat.reduceEqDiff, ↓reduceIte])
        rcases ite_cases hP with ⟨hc, hP⟩ | ⟨hc, hP⟩
        · refine condV_t hc ?_
          refine J_region (by kernel_rfl) ?_
          (try simp only [go_sem, Nat.reduceEqDiff, ↓reduceIte])
          refine hold2 (block_n (finIX_n ?_))
          obtain rfl := Option.some.inj hP
          exact pk_of rfl (sr [0, 1, 2, 3])
        · refine condV_f hc ?_
          refine J_seq ?_
          refine J_region (by kernel_rfl) ?_
          (try simp only [go_sem, Nat.reduceEqDiff, ↓reduceIte])
          refine hold2 (then_n ?_)
          refine J_condV rfl ?_
          (try simp only [go_sem, Nat.reduceEqDiff, ↓reduceIte])
          rcases ite_cases hP with ⟨hc, hP⟩ | ⟨hc, hP⟩
          · refine condV_t hc ?_
            refine J_region (by kernel_rfl) ?_
            (try simp only [go_sem, Nat.reduceEqDiff, ↓reduceIte, Nat.reduceAdd, Nat.reduceSub, Nat.reduceLT, Nat.reduceMul, reduceCtorEq, Int.reduceToNat, Int.reduceLE, Int.reduceLT, Nat.reduceLeDiff])
            refine hold2 (block_n (finIX_n ?_))
            obtain rfl := Option.some.inj hP
            exact pk_of rfl (sr [0, 1, 2, 3])
          · refine condV_f hc ?_
            refine J_region (by kernel_rfl) ?_
            (try simp only [go_sem, Nat.reduceEqDiff, ↓reduceIte, Nat.reduceAdd, Nat.reduceSub, Nat.reduceLT, Nat.reduceMul, reduceCtorEq, Int.reduceToNat, Int.reduceLE, Int.reduceLT, Nat.reduceLeDiff])
            refine hold2 (block_n (finIX_n ?_))
            obtain rfl := Option.some.inj hP
            exact pk_of rfl (sr [0, 1, 2, 3])
/-- (*colander/chunk.chunked).text, handed pointers -/
def chunk_chunked_text (b1 : UInt8) (c2 : Int) (c3 : Bool) (c4 : Int) (c5 : List (UInt8)) (c6 : Int) (c7 : Bool) (c8 : Int) (c9 : List (UInt8)) : Option (Int × Bool × Int × (List (UInt8)) × Bool × Int) :=
  (show Option (Bool) from
    if decide (0 < ((List.length c5 : Nat) : Int)) then
      (ixL c5 (isub .i64 ((List.length c5 : Nat) : Int) 1)).bind fun x25 =>
      some (decide (b2i x25 = b2i (bC 13)))
    else
      some false).bind fun j26 =>
    (szC (List.length (c5 ++ [b1] : List (UInt8)))).bind fun _ =>
    (show Option (Bool) from
      if (decide (b2i b1 = b2i (bC 10))) != j26 then
        some ((decide (b2i b1 = b2i (bC 10))) != j26)
      else
        if !decide (b2i b1 = b2i (bC 10)) then
          some (decide (((List.length (c5 ++ [b1]) : Nat) : Int) = 64))
        else
          some false).bind fun j29 =>
      if j29 then
        some (c2, c3, c4, c5 ++ [b1], c7, 22)
      else
        if decide (b2i b1 = b2i (bC 10)) then
          (slL (c5 ++ [b1]) 0 (isub .i64 ((List.length (c5 ++ [b1]) : Nat) : Int) 2)).bind fun s30 =>
          (slL (c5 ++ [b1]) 0 0).bind fun s31 =>
          if c3 then
            (chunk_chunked_trailer s30 c2 c3 c4 s31 c6 c7 c8 c9).bind fun r33 =>
            some (c2, c3, r33.1, s31, r33.2.1, r33.2.2)
          else
            (chunk_chunked_size s30 c2 c3 c4 s31 c6 c7 c8 c9).bind fun r35 =>
            some (r35.1, r35.2.1, c4, s31, c7, r35.2.2)
        else
          some (c2, c3, c4, c5 ++ [b1], c7, c8)
set_option maxRecDepth 100000 in
set_option maxHeartbeats 40000000 in
theorem chunk_chunked_text_ok {b1 : UInt8} {c2 : Int} {c3 : Bool} {c4 : Int} {c5 : List (UInt8)} {c6 : Int} {c7 : Bool} {c8 : Int} {c9 : List (UInt8)} {r : Int × Bool × Int × (List (UInt8)) × Bool × Int} (hP : chunk_chunked_text b1 c2 c3 c4 c5 c6 c7 c8 c9 = some r) : CallPX Tryz.prog 57 [.bptr 0 0, .bptr 2 0, .int .u8 (b2i b1)] [.box 50 [.own 1 0 0 (List.length c5), .int .i64 c2, .bool c3, .int .i64 c4], .slice 0 5 1 (List.map encB c5), .box 46 [.iface 48 (.bptr 0 0), .own 3 0 0 (List.length c9), .int .i64 c6, .bool c7, .int .i64 c8], .slice 0 5 1 (List.map encB c9)] [0, 2] (.inr ⟨.tup [], [(0, .bptr 0 0), (2, .bptr 2 0)], [.box 50 [.own 1 0 0 (List.length r.2.2.2.1), .int .i64 r.1, .bool r.2.1, .int .i64 r.2.2.1], .slice 0 5 1 (List.map encB r.2.2.2.1), .box 46 [.iface 48 (.bptr 0 0), .own 3 0 0 (List.length c9), .int .i64 c6, .bool r.2.2.2.2.1, .int .i64 r.2.2.2.2.2], .slice 0 5 1 (List.map encB c9)]⟩) := by
  unfold chunk_chunked_text at hP
  refine callPX_of 92 [] Tryz.func57 ?_ (by rintro q (h | h) <;> cases h <;> exact ⟨by (first | (intro x hx; simp at hx; done) | (simp [vfO, AV.vf, AV.vfL, encB, encI, encS, encO, enc_api_Body, enc_api_Fault, enc_head_text, enc_api_Field]; done) | (simp [vfO, AV.vf, AV.vfL, encB, encI, encS, encO, enc_api_Body, enc_api_Fault, enc_head_text, enc_api_Field]; intros; subst_vars; simp [AV.vf, AV.vfL]) | (simp [vfO, AV.vf, AV.vfL, encB, encI, encS, encO, enc_api_Body, enc_api_Fault, enc_head_text, enc_api_Field]; (repeat' apply And.intro) <;> (rintro x (⟨a, _, rfl⟩ | rfl) <;> simp [AV.vf, AV.vfL]))), by simp⟩) (by rintro q h <;> cases h <;> first | rfl | simp [AV.vf, AV.vfL])
  obtain ⟨o24, hP, hQ24⟩ := bind_cases hP
  refine J_join (fun (s : Bool) => envL [(0, .bptr 0 0), (1, .bptr 2 0), (2, .int .u8 (b2i b1)), (6, .bool s), (92, .bptr 0 0), (94, .bptr 2 0)]) (fun (s : Bool) => [.box 50 [.own 1 0 0 (List.length c5), .int .i64 c2, .bool c3, .int .i64 c4], .slice 0 5 1 (List.map encB c5), .box 46 [.iface 48 (.bptr 0 0), .own 3 0 0 (List.length c9), .int .i64 c6, .bool c7, .int .i64 c8], .slice 0 5 1 (List.map encB c9)]) (fun s => s = o24) ?_ ?_
  · clear hQ24
    refine J_regionq follows_mixed (by kernel_rfl) (by kernel_rfl) ?_
    (try simp only [go_sem, Nat.reduceEqDiff, ↓reduceIte, Nat.reduceAdd, Nat.reduceSub, Nat.reduceLT, Nat.reduceMul, reduceCtorEq, Int.reduceToNat, Int.reduceLE, Int.reduceLT, Nat.reduceLeDiff])
    rcases ite_cases hP with ⟨hc, hP⟩ | ⟨hc, hP⟩
    · refine guard_is hc ?_
      (try simp only [go_sem, Nat.reduceEqDiff, ↓reduceIte, Nat.reduceAdd, Nat.reduceSub, Nat.reduceLT, Nat.reduceMul, reduceCtorEq, Int.reduceToNat, Int.reduceLE, Int.reduceLT, Nat.reduceLeDiff])
      obtain ⟨x25, hx25, hP⟩ := bind_cases hP
      refine ixO_of hx25 ?_
      (try simp only [go_sem, Nat.reduceEqDiff, ↓reduceIte])
      refine getK_of (f := encB) hx25 ?_
      (try simp only [go_sem, Nat.reduceEqDiff, ↓reduceIte, Nat.reduceAdd, Nat.reduceSub, Nat.reduceLT, Nat.reduceMul, reduceCtorEq, Int.reduceToNat, Int.reduceLE, Int.reduceLT, Nat.reduceLeDiff])
      refine hold2 ?_
      exact join_n (decide (b2i x25 = b2i (bC 13))) (Option.some.inj hP) (so [0, 1, 2, 3])
    · refine guard_not hc ?_
      (try simp only [go_sem, Nat.reduceEqDiff, ↓reduceIte])
      refine hold2 ?_
      exact join_n false (Option.some.inj hP) (so [0, 1, 2, 3])
  · intro j26 hs
    subst hs
    have hP := hQ24
    clear hQ24
    refine J_seq ?_
    refine J_region (by kernel_rfl) ?_
    (try simp only [go_sem, Nat.reduceEqDiff, ↓reduceIte])
    obtain ⟨_, hz27, hP⟩ := bind_cases hP
    refine app_own (f := encB) (c5 : List (UInt8)) ([b1] : List (UInt8)) rfl tyS_22 (by decide) (by simp only [go_sem, Nat.reduceEqDiff, ↓reduceIte]; first | done | rfl | exact ⟨rfl, rfl⟩) hz27 ?_
    (try simp only [go_sem, Nat.reduceEqDiff, ↓reduceIte, Nat.reduceAdd, Nat.reduceSub, Nat.reduceLT, Nat.reduceMul, reduceCtorEq, Int.reduceToNat, Int.reduceLE, Int.reduceLT, Nat.reduceLeDiff])
    refine hold2 (then_n ?_)
    refine J_block ?_
    obtain ⟨o28, hP, hQ28⟩ := bind_cases hP
    refine J_join (fun (s : Bool) => envL [(0, .bptr 0 0), (1, .bptr 2 0), (2, .int .u8 (b2i b1)), (39, .bool s), (92, .bptr 0 0), (94, .bptr 2 0)]) (fun (s : Bool) => [.box 50 [.own 1 0 0 (List.length (c5 ++ [b1])), .int .i64 c2, .bool c3, .int .i64 c4], .slice 0 5 1 (List.map encB (c5 ++ [b1])), .box 46 [.iface 48 (.bptr 0 0), .own 3 0 0 (List.length c9), .int .i64 c6, .bool c7, .int .i64 c8], .slice 0 5 1 (List.map encB c9)]) (fun s => s = o28) ?_ ?_
    · clear hQ28
      refine J_seq ?_
      refine J_region (by kernel_rfl) ?_
      (try simp only [go_sem, Nat.reduceEqDiff, ↓reduceIte])
      refine hold2 (then_n ?_)
      refine J_condV rfl ?_
      (try simp only [go_sem, Nat.reduceEqDiff, ↓reduceIte])
      rcases ite_cases hP with ⟨hc, hP⟩ | ⟨hc, hP⟩
      · refine condV_t hc ?_
        refine J_skip ?_
        exact join_n ((decide (b2i b1 = b2i (bC 10))) != j26) (Option.some.inj hP) (so [0, 1, 2, 3])
      · refine condV_f hc ?_
        refine J_region (by kernel_rfl) ?_
        (try simp only [go_sem, Nat.reduceEqDiff, ↓reduceIte])
        rcases ite_cases hP with ⟨hc, hP⟩ | ⟨hc, hP⟩
        · refine guard_is hc ?_
          (try simp only [go_sem, Nat.reduceEqDiff, ↓reduceIte])
          refine hold2 ?_
          exact join_n (decide (((List.length (c5 ++ [b1]) : Nat) : Int) = 64)) (Option.some.inj hP) (so [0, 1, 2, 3])
        · refine guard_not hc ?_
          (try simp only [go_sem, Nat.reduceEqDiff, ↓reduceIte])
          refine hold2 ?_
          exact join_n false (Option.some.inj hP) (so [0, 1, 2, 3])
    · intro j29 hs
      subst hs
      have hP := hQ28
      clear hQ28
      refine J_condV rfl ?_
      (try simp only [go_sem, Nat.reduceEqDiff, ↓reduceIte])
      rcases ite_cases hP with ⟨hc, hP⟩ | ⟨hc, hP⟩
      · refine condV_t hc ?_
        refine J_region (by kernel_rfl) ?_
        (try simp only [go_sem, Nat.reduceEqDiff, ↓reduceIte])
        refine hold2 (block_n (finIX_n ?_))
        obtain rfl := Option.some.inj hP
        exact pk_of rfl (sr [0, 1, 2, 3])
      · refine condV_f hc ?_
        refine J_seq ?_
        refine J_region (by kernel_rfl) ?_
        (try simp only [go_sem, Nat.reduceEqDiff, ↓reduceIte])
        refine hold2 (then_n ?_)
        refine J_condV rfl ?_
        (try simp only [go_sem, Nat.reduceEqDiff, ↓reduceIte])
        rcases ite_cases hP with ⟨hc, hP⟩ | ⟨hc, hP⟩
        · refine condV_t hc ?_
          refine J_seq ?_
          refine J_regionq follows_mixed (by kernel_rfl) (by kernel_rfl) ?_
          (try simp only [go_sem, Nat.reduceEqDiff, ↓reduceIte])
          obtain ⟨s30, hs30, hP⟩ := bind_cases hP
          refine slO_of hs30 ?_
          (try simp only [go_sem, Nat.reduceEqDiff, ↓reduceIte, Nat.reduceAdd, Nat.reduceSub, Nat.reduceLT, Nat.reduceMul, reduceCtorEq, Int.reduceToNat, Int.reduceLE, Int.reduceLT, Nat.reduceLeDiff])
          simp only [own_cut0 hs30, go_sem, Nat.reduceEqDiff, ↓reduceIte]
          first | refine bytesK_map ?_ | refine bytesK_of s30 rfl ?_
          (try simp only [go_sem, Nat.reduceEqDiff, ↓reduceIte])
          refine hold2 (then_n ?_)
          refine J_seq ?_
          refine J_region (by kernel_rfl) ?_
          (try simp only [go_sem, Nat.reduceEqDiff, ↓reduceIte])
          obtain ⟨s31, hs31, hP⟩ := bind_cases hP
          refine slO_of hs31 ?_
          (try simp only [go_sem, Nat.reduceEqDiff, ↓reduceIte, Nat.reduceAdd, Nat.reduceSub, Nat.reduceLT, Nat.reduceMul, reduceCtorEq, Int.reduceToNat, Int.reduceLE, Int.reduceLT, Nat.reduceLeDiff])
          refine hold2 (then_n ?_)
          refine J_trunc (f := encB) 0 0 50 _ 1 0 1 5 hs31 rfl rfl rfl ?_
          (try simp only [go_sem, Nat.reduceEqDiff, ↓reduceIte])
          refine J_seq ?_
          refine J_region (by kernel_rfl) ?_
          (try simp only [go_sem, Nat.reduceEqDiff, ↓reduceIte])
          refine hold2 (then_n ?_)
          refine J_condV rfl ?_
          (try simp only [go_sem, Nat.reduceEqDiff, ↓reduceIte])
          rcases ite_cases hP with ⟨hc, hP⟩ | ⟨hc, hP⟩
          · refine condV_t hc ?_
            refine J_region (by kernel_rfl) ?_
            (try simp only [go_sem, Nat.reduceEqDiff, ↓reduceIte])
            obtain ⟨r33, hr32, hP⟩ := bind_cases hP
            refine call_pt [0, 1, 2, 3] [(92, .bptr 0 0), (94, .bptr 2 0)] [.box 50 [.own 1 0 0 (List.length s31), .int .i64 c2, .bool c3, .int .i64 r33.1], .slice 0 5 1 (List.map encB s31), .box 46 [.iface 48 (.bptr 0 0), .own 3 0 0 (List.length c9), .int .i64 c6, .bool r33.2.1, .int .i64 r33.2.2], .slice 0 5 1 (List.map encB c9)] (.tup []) (chunk_chunked_trailer_ok hr32) ⟨argP_r (by rfl), argP_r (by rfl), argP_r (by rfl), trivial⟩ (told_of (sm [4, 5, 6, 7])) ?_
            (try simp only [go_sem, Nat.reduceEqDiff, ↓reduceIte])
            refine hold2 (block_n (finIX_n ?_))
            obtain rfl := Option.some.inj hP
            exact pk_of rfl (sr [0, 1, 2, 3])
          · refine condV_f hc ?_
            refine J_region (by kernel_rfl) ?_
            (try simp only [go_sem, Nat.reduceEqDiff, ↓reduceIte])
            obtain ⟨r35, hr34, hP⟩ := bind_cases hP
            refine call_pt [0, 1, 2, 3] [(92, .bptr 0 0), (94, .bptr 2 0)] [.box 50 [.own 1 0 0 (List.length s31), .int .i64 r35.1, .bool r35.2.1, .int .i64 c4], .slice 0 5 1 (List.map encB s31), .box 46 [.iface 48 (.bptr 0 0), .own 3 0 0 (List.length c9), .int .i64 c6, .bool c7, .int .i64 r35.2.2], .slice 0 5 1 (List.map encB c9)] (.tup []) (chunk_chunked_size_ok hr34) ⟨argP_r (by rfl), argP_r (by rfl), argP_r (by rfl), trivial⟩ (told_of (sm [4, 5, 6, 7])) ?_
            (try simp only [go_sem, Nat.reduceEqDiff, ↓reduceIte])
            refine hold2 (block_n (finIX_n ?_))
            obtain rfl := Option.some.inj hP
            exact pk_of rfl (sr [0, 1, 2, 3])
        · refine condV_f hc ?_
          refine J_skip (block_n (finIX_n ?_))
          obtain rfl := Option.some.inj hP
          exact pk_of rfl (sr [0, 1, 2, 3])
/-- (*colander/chunk.chunked).one, handed pointers -/
def chunk_chunked_one (b1 : UInt8) (c2 : Int) (c3 : Bool) (c4 : Int) (c5 : List (UInt8)) (c6 : Int) (c7 : Bool) (c8 : Int) (c9 : List (UInt8)) : Option (Int × Bool × Int × (List (UInt8)) × Int × Bool × Int × (List (UInt8))) :=
  if decide (0 < c2) then
    (chunk_Reader_means b1 c6 c7 c8 c2 c3 c4 c5 c9).bind fun r19 =>
    if decide (isub .i64 c2 1 = 0) then
      some ((-2), c3, c4, c5, iadd .i64 c6 1, c7, c8, c9 ++ [b1])
    else
      some (isub .i64 c2 1, c3, c4, c5, iadd .i64 c6 1, c7, c8, c9 ++ [b1])
  else
    if decide (c2 < 0) then
      (show Option (Int) from
        (ixL [10, 13] (isub .i64 (ineg .i64 c2) 1)).bind fun c22 =>
        if !decide (b2i b1 = b2i c22) then
          some 22
        else
          some c8).bind fun j23 =>
        some (iadd .i64 c2 1, c3, c4, c5, c6, c7, j23, c9)
    else
      (chunk_chunked_text b1 c2 c3 c4 c5 c6 c7 c8 c9).bind fun r25 =>
      some (r25.1, r25.2.1, r25.2.2.1, r25.2.2.2.1, c6, r25.2.2.2.2.1, r25.2.2.2.2.2, c9)
set_option maxRecDepth 100000 in
set_option maxHeartbeats 40000000 in
theorem chunk_chunked_one_ok {b1 : UInt8} {c2 : Int} {c3 : Bool} {c4 : Int} {c5 : List (UInt8)} {c6 : Int} {c7 : Bool} {c8 : Int} {c9 : List (UInt8)} {r : Int × Bool × Int × (List (UInt8)) × Int × Bool × Int × (List (UInt8))} (hP : chunk_chunked_one b1 c2 c3 c4 c5 c6 c7 c8 c9 = some r) : CallPX Tryz.prog 56 [.bptr 0 0, .bptr 2 0, .int .u8 (b2i b1)] [.box 50 [.own 1 0 0 (List.length c5), .int .i64 c2, .bool c3, .int .i64 c4], .slice 0 5 1 (List.map encB c5), .box 46 [.iface 48 (.bptr 0 0), .own 3 0 0 (List.length c9), .int .i64 c6, .bool c7, .int .i64 c8], .slice 0 5 1 (List.map encB c9)] [0, 2] (.inr ⟨.tup [], [(0, .bptr 0 0), (2, .bptr 2 0)], [.box 50 [.own 1 0 0 (List.length r.2.2.2.1), .int .i64 r.1, .bool r.2.1, .int .i64 r.2.2.1], .slice 0 5 1 (List.map encB r.2.2.2.1), .box 46 [.iface 48 (.bptr 0 0), .own 3 0 0 (List.length r.2.2.2.2.2.2.2), .int .i64 r.2.2.2.2.1, .bool r.2.2.2.2.2.1, .int .i64 r.2.2.2.2.2.2.1], .slice 0 5 1 (List.map encB r.2.2.2.2.2.2.2)]⟩) := by
  unfold chunk_chunked_one at hP
  refine callPX_of 59 [] Tryz.func56 ?_ (by rintro q (h | h) <;> cases h <;> exact ⟨by (first | (intro x hx; simp at hx; done) | (simp [vfO, AV.vf, AV.vfL, encB, encI, encS, encO, enc_api_Body, enc_api_Fault, enc_head_text, enc_api_Field]; done) | (simp [vfO, AV.vf, AV.vfL, encB, encI, encS, encO, enc_api_Body, enc_api_Fault, enc_head_text, enc_api_Field]; intros; subst_vars; simp [AV.vf, AV.vfL]) | (simp [vfO, AV.vf, AV.vfL, encB, encI, encS, encO, enc_api_Body, enc_api_Fault, enc_head_text, enc_api_Field]; (repeat' apply And.intro) <;> (rintro x (⟨a, _, rfl⟩ | rfl) <;> simp [AV.vf, AV.vfL]))), by simp⟩) (by rintro q h <;> cases h <;> first | rfl | simp [AV.vf, AV.vfL])
  refine J_block ?_
  refine J_seq ?_
  refine J_region (by kernel_rfl) ?_
  (try simp only [go_sem, Nat.reduceEqDiff, ↓reduceIte, Nat.reduceAdd, Nat.reduceSub, Nat.reduceLT, Nat.reduceMul, reduceCtorEq, Int.reduceToNat, Int.reduceLE, Int.reduceLT, Nat.reduceLeDiff])
  refine hold2 (then_n ?_)
  refine J_condV rfl ?_
  (try simp only [go_sem, Nat.reduceEqDiff, ↓reduceIte])
  rcases ite_cases hP with ⟨hc, hP⟩ | ⟨hc, hP⟩
  · refine condV_t hc ?_
    refine J_seq ?_
    refine J_region (by kernel_rfl) ?_
    (try simp only [go_sem, Nat.reduceEqDiff, ↓reduceIte])
    obtain ⟨r19, hr18, hP⟩ := bind_cases hP
    refine call_pt [2, 0, 1, 3] [(0, .bptr 0 0), (59, .bptr 0 0), (61, .bptr 2 0)] [.box 50 [.own 1 0 0 (List.length c5), .int .i64 c2, .bool c3, .int .i64 c4], .slice 0 5 1 (List.map encB c5), .box 46 [.iface 48 (.bptr 0 0), .own 3 0 0 (List.length (c9 ++ [b1])), .int .i64 (iadd .i64 c6 1), .bool c7, .int .i64 c8], .slice 0 5 1 (List.map encB (c9 ++ [b1]))] (.tup []) (chunk_Reader_means_ok hr18) ⟨argP_r (by rfl), argP_r (by rfl), trivial⟩ (told_of (sm [5, 6, 4, 7])) ?_
    (try simp only [go_sem, Nat.reduceEqDiff, ↓reduceIte])
    refine hold2 (then_n ?_)
    refine J_seq ?_
    refine J_region (by kernel_rfl) ?_
    (try simp only [go_sem, Nat.reduceEqDiff, ↓reduceIte, Nat.reduceAdd, Nat.reduceSub, Nat.reduceLT, Nat.reduceMul, reduceCtorEq, Int.reduceToNat, Int.reduceLE, Int.reduceLT, Nat.reduceLeDiff])
    refine hold2 (then_n ?_)
    refine J_seq ?_
    refine J_region (by kernel_rfl) ?_
    (try simp only [go_sem, Nat.reduceEqDiff, ↓reduceIte])
    refine hold2 (then_n ?_)
    refine J_condV rfl ?_
    (try simp only [go_sem, Nat.reduceEqDiff, ↓reduceIte])
    rcases ite_cases hP with ⟨hc, hP⟩ | ⟨hc, hP⟩
    · refine condV_t hc ?_
      refine J_region (by kernel_rfl) ?_
      (try simp only [go_sem, Nat.reduceEqDiff, ↓reduceIte, Nat.reduceAdd, Nat.reduceSub, Nat.reduceLT, Nat.reduceMul, reduceCtorEq, Int.reduceToNat, Int.reduceLE, Int.reduceLT, Nat.reduceLeDiff])
      refine hold2 (block_n (finIX_n ?_))
      obtain rfl := Option.some.inj hP
      exact pk_of rfl (sr [0, 1, 2, 3])
    · refine condV_f hc ?_
      refine J_skip (block_n (finIX_n ?_))
      obtain rfl := Option.some.inj hP
      exact pk_of rfl (sr [0, 1, 2, 3])
  · refine condV_f hc ?_
    refine J_seq ?_
    refine J_region (by kernel_rfl) ?_
    (try simp only [go_sem, Nat.reduceEqDiff, ↓reduceIte, Nat.reduceAdd, Nat.reduceSub, Nat.reduceLT, Nat.reduceMul, reduceCtorEq, Int.reduceToNat, Int.reduceLE, Int.reduceLT, Nat.reduceLeDiff])
    refine hold2 (then_n ?_)
    refine J_condV rfl ?_
    (try simp only [go_sem, Nat.reduceEqDiff, ↓reduceIte])
    rcases ite_cases hP with ⟨hc, hP⟩ | ⟨hc, hP⟩
    · refine condV_t hc ?_
      obtain ⟨o21, hP, hQ21⟩ := bind_cases hP
      refine J_join (fun (s : Int) => envL [(0, .bptr 0 0), (59, .bptr 0 0), (61, .bptr 2 0)]) (fun (s : Int) => [.box 50 [.own 1 0 0 (List.length c5), .int .i64 c2, .bool c3, .int .i64 c4], .slice 0 5 1 (List.map encB c5), .box 46 [.iface 48 (.bptr 0 0), .own 3 0 0 (List.length c9), .int .i64 c6, .bool c7, .int .i64 s], .slice 0 5 1 (List.map encB c9)]) (fun s => s = o21) ?_ ?_
      · clear hQ21
        refine J_seq ?_
        refine J_region (by kernel_rfl) ?_
        (try simp only [go_sem, Nat.reduceEqDiff, ↓reduceIte, Nat.reduceAdd, Nat.reduceSub, Nat.reduceLT, Nat.reduceMul, reduceCtorEq, Int.reduceToNat, Int.reduceLE, Int.reduceLT, Nat.reduceLeDiff])
        obtain ⟨c22, hc22, hP⟩ := bind_cases hP
        refine ixS_of hc22 ?_
        (try simp only [go_sem, Nat.reduceEqDiff, ↓reduceIte, Nat.reduceAdd, Nat.reduceSub, Nat.reduceLT, Nat.reduceMul, reduceCtorEq, Int.reduceToNat, Int.reduceLE, Int.reduceLT, Nat.reduceLeDiff])
        refine hold2 (then_n ?_)
        refine J_condV rfl ?_
        (try simp only [go_sem, Nat.reduceEqDiff, ↓reduceIte])
        rcases ite_cases hP with ⟨hc, hP⟩ | ⟨hc, hP⟩
        · refine condV_t hc ?_
          refine J_region (by kernel_rfl) ?_
          (try simp only [go_sem, Nat.reduceEqDiff, ↓reduceIte, Nat.reduceAdd, Nat.reduceSub, Nat.reduceLT, Nat.reduceMul, reduceCtorEq, Int.reduceToNat, Int.reduceLE, Int.reduceLT, Nat.reduceLeDiff])
          refine hold2 ?_
          exact join_n 22 (Option.some.inj hP) (so [0, 1, 2, 3])
        · refine condV_f hc ?_
          refine J_skip ?_
          exact join_n c8 (Option.some.inj hP) (so [0, 1, 2, 3])
      · intro j23 hs
        subst hs
        have hP := hQ21
        clear hQ21
        refine J_region (by kernel_rfl) ?_
        (try simp only [go_sem, Nat.reduceEqDiff, ↓reduceIte, Nat.reduceAdd, Nat.reduceSub, Nat.reduceLT, Nat.reduceMul, reduceCtorEq, Int.reduceToNat, Int.reduceLE, Int.reduceLT, Nat.reduceLeDiff])
        refine hold2 (block_n (finIX_n ?_))
        obtain rfl := Option.some.inj hP
        exact pk_of rfl (sr [0, 1, 2, 3])
    · refine condV_f hc ?_
      refine J_region (by kernel_rfl) ?_
      (try simp only [go_sem, Nat.reduceEqDiff, ↓reduceIte])
      obtain ⟨r25, hr24, hP⟩ := bind_cases hP
      refine call_pt [0, 1, 2, 3] [(59, .bptr 0 0), (61, .bptr 2 0)] [.box 50 [.own 1 0 0 (List.length r25.2.2.2.1), .int .i64 r25.1, .bool r25.2.1, .int .i64 r25.2.2.1], .slice 0 5 1 (List.map encB r25.2.2.2.1), .box 46 [.iface 48 (.bptr 0 0), .own 3 0 0 (List.length c9), .int .i64 c6, .bool r25.2.2.2.2.1, .int .i64 r25.2.2.2.2.2], .slice 0 5 1 (List.map encB c9)] (.tup []) (chunk_chunked_text_ok hr24) ⟨argP_r (by rfl), argP_r (by rfl), argP_r (by rfl), trivial⟩ (told_of (sm [4, 5, 6, 7])) ?_
      (try simp only [go_sem, Nat.reduceEqDiff, ↓reduceIte])
      refine hold2 (block_n (finIX_n ?_))
      obtain rfl := Option.some.inj hP
      exact pk_of rfl (sr [0, 1, 2, 3])
/-- (*colander/chunk.Reader).Take, handed pointers -/
def chunk_Reader_Take_L86 (b1 : List (UInt8)) : Nat → Int → Int → Bool → Int → Int → Bool → Int → (List (UInt8)) → (List (UInt8)) → Option (Int × Int × Bool × Int × Int × Bool × Int × (List (UInt8)) × (List (UInt8)))
  | 0, _, _, _, _, _, _, _, _, _ => none
  | k81 + 1, n72, l73, l74, l75, l76, l77, l78, l79, l80 =>
    (show Option (Bool) from
      if decide (n72 < (List.length b1 : Int)) then
        if !l74 then
          some (decide (l75 = 0))
        else
          some false
      else
        some false).bind fun j88 =>
      if j88 then
        (ixL b1 n72).bind fun x89 =>
        (chunk_chunked_one x89 l76 l77 l78 l79 l73 l74 l75 l80).bind fun r91 =>
        chunk_Reader_Take_L86 b1 k81 (iadd .i64 n72 1) r91.2.2.2.2.1 r91.2.2.2.2.2.1 r91.2.2.2.2.2.2.1 r91.1 r91.2.1 r91.2.2.1 r91.2.2.2.1 r91.2.2.2.2.2.2.2
      else
        some (n72, l73, l74, l75, l76, l77, l78, l79, l80)
def chunk_Reader_Take (b1 : List (UInt8)) (c2 : Int) (c3 : Bool) (c4 : Int) (c5 : Int) (c6 : Bool) (c7 : Int) (c8 : List (UInt8)) (c9 : List (UInt8)) : Option (Int × Int × Bool × Int × Int × Bool × Int × (List (UInt8)) × (List (UInt8))) :=
  (chunk_Reader_Take_L86 b1 141836999983104 0 c2 c3 c4 c5 c6 c7 c8 ([] : List UInt8)).bind fun j93 =>
    some (j93.1, j93.2.1, j93.2.2.1, j93.2.2.2.1, j93.2.2.2.2.1, j93.2.2.2.2.2.1, j93.2.2.2.2.2.2.1, j93.2.2.2.2.2.2.2.1, j93.2.2.2.2.2.2.2.2)
set_option maxRecDepth 100000 in
set_option maxHeartbeats 40000000 in
theorem chunk_Reader_Take_ok {b1 : List (UInt8)} {c2 : Int} {c3 : Bool} {c4 : Int} {c5 : Int} {c6 : Bool} {c7 : Int} {c8 : List (UInt8)} {c9 : List (UInt8)} {r : Int × Int × Bool × Int × Int × Bool × Int × (List (UInt8)) × (List (UInt8))} (hP : chunk_Reader_Take b1 c2 c3 c4 c5 c6 c7 c8 c9 = some r) : CallPX Tryz.prog 13 [.bptr 0 0, .view 1 (List.map encB b1)] [.box 46 [.iface 48 (.bptr 1 0), .own 3 0 0 (List.length c9), .int .i64 c2, .bool c3, .int .i64 c4], .box 50 [.own 2 0 0 (List.length c8), .int .i64 c5, .bool c6, .int .i64 c7], .slice 0 5 1 (List.map encB c8), .slice 0 5 1 (List.map encB c9)] [0, 1] (.inr ⟨.tup [.own 4 0 0 (List.length r.2.2.2.2.2.2.2.2), .int .i64 r.1], [(0, .bptr 0 0), (1, .bptr 1 0)], [.box 46 [.iface 48 (.bptr 1 0), .own 3 0 0 (List.length ([] : List UInt8)), .int .i64 r.2.1, .bool r.2.2.1, .int .i64 r.2.2.2.1], .box 50 [.own 2 0 0 (List.length r.2.2.2.2.2.2.2.1), .int .i64 r.2.2.2.2.1, .bool r.2.2.2.2.2.1, .int .i64 r.2.2.2.2.2.2.1], .slice 0 5 1 (List.map encB r.2.2.2.2.2.2.2.1), .slice 0 5 1 (List.map encB ([] : List UInt8)), .slice 0 5 1 (List.map encB r.2.2.2.2.2.2.2.2)]⟩) := by
  unfold chunk_Reader_Take at hP
  refine callPX_of 52 [.tmp 4, .tmp 5] Tryz.func13 ?_ (by rintro q (h | h) <;> cases h <;> exact ⟨by (first | (intro x hx; simp at hx; done) | (simp [vfO, AV.vf, AV.vfL, encB, encI, encS, encO, enc_api_Body, enc_api_Fault, enc_head_text, enc_api_Field]; done) | (simp [vfO, AV.vf, AV.vfL, encB, encI, encS, encO, enc_api_Body, enc_api_Fault, enc_head_text, enc_api_Field]; intros; subst_vars; simp [AV.vf, AV.vfL]) | (simp [vfO, AV.vf, AV.vfL, encB, encI, encS, encO, enc_api_Body, enc_api_Fault, enc_head_text, enc_api_Field]; (repeat' apply And.intro) <;> (rintro x (⟨a, _, rfl⟩ | rfl) <;> simp [AV.vf, AV.vfL]))), by simp⟩) (by rintro q h <;> cases h <;> first | rfl | simp [AV.vf, AV.vfL])
  refine J_seq ?_
  refine J_region (by kernel_rfl) ?_
  (try simp only [go_sem, Nat.reduceEqDiff, ↓reduceIte])
  refine hold2 (then_n ?_)
  refine J_seq ?_
  refine J_region (by kernel_rfl) ?_
  (try simp only [go_sem, Nat.reduceEqDiff, ↓reduceIte])
  refine hold2 (then_n ?_)
  refine J_seq ?_
  refine J_seq ?_
  refine J_region (by kernel_rfl) ?_
  (try simp only [go_sem, Nat.reduceEqDiff, ↓reduceIte, Nat.reduceAdd, Nat.reduceSub, Nat.reduceLT, Nat.reduceMul, reduceCtorEq, Int.reduceToNat, Int.reduceLE, Int.reduceLT, Nat.reduceLeDiff])
  refine hold2 (then_n ?_)
  refine J_prom 5 1 (by decide) 0 1 _ _ rfl rfl ?_
  (try simp only [go_sem, Nat.reduceEqDiff, ↓reduceIte])
  obtain ⟨o92, hP, hQ86⟩ := bind_cases hP
  refine J_joinK0 (fun (s : Int × Int × Bool × Int × Int × Bool × Int × (List (UInt8)) × (List (UInt8))) => envL [(0, .bptr 0 0), (6, .int .i64 s.1), (52, .bptr 0 0), (53, .bptr 1 0)]) (fun (s : Int × Int × Bool × Int × Int × Bool × Int × (List (UInt8)) × (List (UInt8))) => [.box 46 [.iface 48 (.bptr 1 0), .own 3 0 0 (List.length s.2.2.2.2.2.2.2.2), .int .i64 s.2.1, .bool s.2.2.1, .int .i64 s.2.2.2.1], .box 50 [.own 2 0 0 (List.length s.2.2.2.2.2.2.2.1), .int .i64 s.2.2.2.2.1, .bool s.2.2.2.2.2.1, .int .i64 s.2.2.2.2.2.2.1], .slice 0 5 1 (List.map encB s.2.2.2.2.2.2.2.1), .slice 0 5 1 (List.map encB s.2.2.2.2.2.2.2.2)]) (fun s => s = o92) ?_ ?_
  · clear hQ86
    refine J_block ?_
    refine J_loop (σ := Nat × Int × Int × Bool × Int × Int × Bool × Int × (List (UInt8)) × (List (UInt8))) (fun (s : Nat × Int × Int × Bool × Int × Int × Bool × Int × (List (UInt8)) × (List (UInt8))) => envL [(0, .bptr 0 0), (1, .view 1 (List.map encB b1)), (6, .int .i64 s.2.1), (52, .bptr 0 0), (53, .bptr 1 0)]) (fun (s : Nat × Int × Int × Bool × Int × Int × Bool × Int × (List (UInt8)) × (List (UInt8))) => [.box 46 [.iface 48 (.bptr 1 0), .own 3 0 0 (List.length s.2.2.2.2.2.2.2.2.2), .int .i64 s.2.2.1, .bool s.2.2.2.1, .int .i64 s.2.2.2.2.1], .box 50 [.own 2 0 0 (List.length s.2.2.2.2.2.2.2.2.1), .int .i64 s.2.2.2.2.2.1, .bool s.2.2.2.2.2.2.1, .int .i64 s.2.2.2.2.2.2.2.1], .slice 0 5 1 (List.map encB s.2.2.2.2.2.2.2.2.1), .slice 0 5 1 (List.map encB s.2.2.2.2.2.2.2.2.2)]) (fun s => chunk_Reader_Take_L86 b1 s.1 s.2.1 s.2.2.1 s.2.2.2.1 s.2.2.2.2.1 s.2.2.2.2.2.1 s.2.2.2.2.2.2.1 s.2.2.2.2.2.2.2.1 s.2.2.2.2.2.2.2.2.1 s.2.2.2.2.2.2.2.2.2 = some o92) (fun s => s.1) (141836999983104, 0, c2, c3, c4, c5, c6, c7, c8, ([] : List UInt8)) hP (so [0, 1, 2, 5]) ?_
    rintro ⟨k81, n72, l73, l74, l75, l76, l77, l78, l79, l80⟩ hP
    dsimp only at hP ⊢
    cases k81 with
    | zero => simp [chunk_Reader_Take_L86] at hP
    | succ k81 =>
      simp only [chunk_Reader_Take_L86] at hP
      refine J_seq ?_
      obtain ⟨o87, hP, hQ87⟩ := bind_cases hP
      refine J_join (fun (s : Bool) => envL [(0, .bptr 0 0), (1, .view 1 (List.map encB b1)), (6, .int .i64 n72), (28, .bool s), (52, .bptr 0 0), (53, .bptr 1 0)]) (fun (s : Bool) => [.box 46 [.iface 48 (.bptr 1 0), .own 3 0 0 (List.length l80), .int .i64 l73, .bool l74, .int .i64 l75], .box 50 [.own 2 0 0 (List.length l79), .int .i64 l76, .bool l77, .int .i64 l78], .slice 0 5 1 (List.map encB l79), .slice 0 5 1 (List.map encB l80)]) (fun s => s = o87) ?_ ?_
      · clear hQ87
        refine J_region (by kernel_rfl) ?_
        (try simp only [go_sem, Nat.reduceEqDiff, ↓reduceIte])
        rcases ite_cases hP with ⟨hc, hP⟩ | ⟨hc, hP⟩
        · refine guard_is hc ?_
          (try simp only [go_sem, Nat.reduceEqDiff, ↓reduceIte])
          rcases ite_cases hP with ⟨hc, hP⟩ | ⟨hc, hP⟩
          · refine guard_is hc ?_
            (try simp only [go_sem, Nat.reduceEqDiff, ↓reduceIte])
            refine hold2 ?_
            exact join_n (decide (l75 = 0)) (Option.some.inj hP) (so [0, 1, 2, 3])
          · refine guard_not hc ?_
            (try simp only [go_sem, Nat.reduceEqDiff, ↓reduceIte])
            refine hold2 ?_
            exact join_n false (Option.some.inj hP) (so [0, 1, 2, 3])
        · refine guard_not hc ?_
          (try simp only [go_sem, Nat.reduceEqDiff, ↓reduceIte])
          refine hold2 ?_
          exact join_n false (Option.some.inj hP) (so [0, 1, 2, 3])
      · intro j88 hs
        subst hs
        have hP := hQ87
        clear hQ87
        refine J_condV rfl ?_
        (try simp only [go_sem, Nat.reduceEqDiff, ↓reduceIte])
        rcases ite_cases hP with ⟨hc, hP⟩ | ⟨hc, hP⟩
        · refine condV_t hc ?_
          refine J_skip (then_n ?_)
          refine J_seq ?_
          refine J_block ?_
          refine J_regiont 11 follows_mixed (by kernel_rfl) (by kernel_rfl) (by kernel_rfl) ?_
          (try simp only [go_sem, Nat.reduceEqDiff, ↓reduceIte])
          obtain ⟨x89, hx89, hP⟩ := bind_cases hP
          refine ixV_of hx89 ?_
          (try simp only [go_sem, Nat.reduceEqDiff, ↓reduceIte])
          obtain ⟨r91, hr90, hP⟩ := bind_cases hP
          refine inv_pt meth_48_56 [1, 2, 0, 3] [(0, .bptr 0 0), (1, .view 1 (List.map encB b1)), (6, .int .i64 n72), (52, .bptr 0 0), (53, .bptr 1 0)] [.box 46 [.iface 48 (.bptr 1 0), .own 3 0 0 (List.length r91.2.2.2.2.2.2.2), .int .i64 r91.2.2.2.2.1, .bool r91.2.2.2.2.2.1, .int .i64 r91.2.2.2.2.2.2.1], .box 50 [.own 2 0 0 (List.length r91.2.2.2.1), .int .i64 r91.1, .bool r91.2.1, .int .i64 r91.2.2.1], .slice 0 5 1 (List.map encB r91.2.2.2.1), .slice 0 5 1 (List.map encB r91.2.2.2.2.2.2.2)] (.tup []) (chunk_chunked_one_ok hr90) ⟨argP_r (by rfl), argP_r (by rfl), argP_r (by rfl), trivial⟩ (told_of (sm [6, 4, 5, 7])) ?_
          (try simp only [go_sem, Nat.reduceEqDiff, ↓reduceIte])
          refine hold2 (block_n (then_n ?_))
          refine J_region (by kernel_rfl) ?_
          (try simp only [go_sem, Nat.reduceEqDiff, ↓reduceIte])
          refine hold2 ?_
          exact loop_n (k81, iadd .i64 n72 1, r91.2.2.2.2.1, r91.2.2.2.2.2.1, r91.2.2.2.2.2.2.1, r91.1, r91.2.1, r91.2.2.1, r91.2.2.2.1, r91.2.2.2.2.2.2.2) hP (Nat.lt_succ_self _) (so [0, 1, 2, 3])
        · refine condV_f hc ?_
          refine J_exit (then_exit (loop_exit (block_eq ?_)))
          exact join_n (n72, l73, l74, l75, l76, l77, l78, l79, l80) (Option.some.inj hP) (so [0, 1, 2, 3])
  · intro j93 hs
    subst hs
    have hP := hQ86
    clear hQ86
    refine then_n ?_
    refine J_seq ?_
    refine J_region (by kernel_rfl) ?_
    (try simp only [go_sem, Nat.reduceEqDiff, ↓reduceIte])
    refine hold2 (then_n ?_)
    refine J_seq ?_
    refine J_region (by kernel_rfl) ?_
    (try simp only [go_sem, Nat.reduceEqDiff, ↓reduceIte, Nat.reduceAdd, Nat.reduceSub, Nat.reduceLT, Nat.reduceMul, reduceCtorEq, Int.reduceToNat, Int.reduceLE, Int.reduceLT, Nat.reduceLeDiff])
    refine hold2 (then_n ?_)
    refine J_prom 5 1 (by decide) 0 1 _ _ rfl rfl ?_
    (try simp only [go_sem, Nat.reduceEqDiff, ↓reduceIte])
    refine J_seq ?_
    refine J_region (by kernel_rfl) ?_
    (try simp only [go_sem, Nat.reduceEqDiff, ↓reduceIte])
    refine hold2 (then_n ?_)
    refine J_ret (finIX_ret ?_)
    obtain rfl := Option.some.inj hP
    exact pk_of rfl (sr [0, 1, 2, 4, 3])
/-- colander/chunk.New, handed pointers -/
def chunk_New_w2 : Option (Unit) :=
  some ()
set_option maxRecDepth 100000 in
set_option maxHeartbeats 40000000 in
theorem chunk_New_w2_ok {r : Unit} (hP : chunk_New_w2 = some r) : CallPX Tryz.prog 12 [.agg [.int .i64 4, .int .i64 0]] [] [] (.inr ⟨.sc (.pointer none), [], []⟩) := by
  unfold chunk_New_w2 at hP
  refine callPX_of 42 [.tmp 2] Tryz.func12 ?_ (by rintro q (h | h) <;> cases h <;> exact ⟨by (first | (intro x hx; simp at hx; done) | (simp [vfO, AV.vf, AV.vfL, encB, encI, encS, encO, enc_api_Body, enc_api_Fault, enc_head_text, enc_api_Field]; done) | (simp [vfO, AV.vf, AV.vfL, encB, encI, encS, encO, enc_api_Body, enc_api_Fault, enc_head_text, enc_api_Field]; intros; subst_vars; simp [AV.vf, AV.vfL]) | (simp [vfO, AV.vf, AV.vfL, encB, encI, encS, encO, enc_api_Body, enc_api_Fault, enc_head_text, enc_api_Field]; (repeat' apply And.intro) <;> (rintro x (⟨a, _, rfl⟩ | rfl) <;> simp [AV.vf, AV.vfL]))), by simp⟩) (by rintro q h <;> cases h <;> first | rfl | simp [AV.vf, AV.vfL])
  refine J_seq ?_
  refine J_region (by kernel_rfl) ?_
  (try simp only [go_sem, Nat.reduceEqDiff, ↓reduceIte, Nat.reduceAdd, Nat.reduceSub, Nat.reduceLT, Nat.reduceMul, reduceCtorEq, Int.reduceToNat, Int.reduceLE, Int.reduceLT, Nat.reduceLeDiff])
  refine hold2 (then_n ?_)
  refine J_seq ?_
  refine J_seq ?_
  refine J_region (by kernel_rfl) ?_
  (try simp only [go_sem, Nat.reduceEqDiff, ↓reduceIte])
  refine hold2 (then_n ?_)
  refine J_block ?_
  refine J_seq ?_
  refine J_region (by kernel_rfl) ?_
  (try simp only [go_sem, Nat.reduceEqDiff, ↓reduceIte])
  (try simp only [show decide ((4 : Int) = 0) = false from rfl, decide_true, decide_false, Bool.not_true, Bool.not_false, go_sem, Nat.reduceEqDiff, ↓reduceIte])
  refine hold2 (then_n ?_)
  refine J_condV rfl ?_
  (try simp only [go_sem, Nat.reduceEqDiff, ↓reduceIte])
  refine J_seq ?_
  refine J_region (by kernel_rfl) ?_
  (try simp only [go_sem, Nat.reduceEqDiff, ↓reduceIte])
  (try simp only [show decide ((4 : Int) = 1) = false from rfl, decide_true, decide_false, Bool.not_true, Bool.not_false, go_sem, Nat.reduceEqDiff, ↓reduceIte])
  refine hold2 (then_n ?_)
  refine J_condV rfl ?_
  (try simp only [go_sem, Nat.reduceEqDiff, ↓reduceIte])
  refine J_seq ?_
  refine J_region (by kernel_rfl) ?_
  (try simp only [go_sem, Nat.reduceEqDiff, ↓reduceIte])
  (try simp only [show decide ((4 : Int) = 2) = false from rfl, decide_true, decide_false, Bool.not_true, Bool.not_false, go_sem, Nat.reduceEqDiff, ↓reduceIte])
  refine hold2 (then_n ?_)
  refine J_condV rfl ?_
  (try simp only [go_sem, Nat.reduceEqDiff, ↓reduceIte])
  refine J_seq ?_
  refine J_region (by kernel_rfl) ?_
  (try simp only [go_sem, Nat.reduceEqDiff, ↓reduceIte])
  (try simp only [show decide ((4 : Int) = 3) = false from rfl, decide_true, decide_false, Bool.not_true, Bool.not_false, go_sem, Nat.reduceEqDiff, ↓reduceIte])
  refine hold2 (then_n ?_)
  refine J_condV rfl ?_
  (try simp only [go_sem, Nat.reduceEqDiff, ↓reduceIte])
  refine J_skip (block_n (then_n ?_))
  refine J_seq ?_
  refine J_region (by kernel_rfl) ?_
  (try simp only [go_sem, Nat.reduceEqDiff, ↓reduceIte])
  refine hold2 (then_n ?_)
  refine J_ret (finIX_ret ?_)
  obtain rfl := Option.some.inj hP
  exact pk_of rfl (sr [])
/-- colander/colanderlaw07.shown -/
def law07_shown : Option (Bool) :=
  (chunk_New).bind fun r2 =>
  (chunk_Reader_Take [(bC 51), (bC 13), (bC 10), (bC 97), (bC 98), (bC 99), (bC 13), (bC 10), (bC 48), (bC 13), (bC 10), (bC 13), (bC 10), (bC 120)] 0 false 0 0 false 0 ([] : List UInt8) ([] : List UInt8)).bind fun r4 =>
  if decide (r4.2.2.2.2.2.2.2.2 = [97, 98, 99]) then
    if decide (r4.1 = 13) then
      (chunk_Reader_Done ((), ([] : List UInt8), r4.2.1, r4.2.2.1, r4.2.2.2.1)).bind fun r5 =>
      if r5 then
        (chunk_Reader_Err ((), ([] : List UInt8), r4.2.1, r4.2.2.1, r4.2.2.2.1)).bind fun r6 =>
        if decide (r6 = 0) then
          (chunk_Chunk [(bC 97), (bC 98)]).bind fun r7 =>
          if decide (r7 = [50, 13, 10, 97, 98, 13, 10]) then
            (chunk_New_w2).bind fun r9 =>
            some true
          else
            some false
        else
          some false
      else
        some false
    else
      some false
  else
    some false
set_option maxRecDepth 100000 in
set_option maxHeartbeats 40000000 in
theorem law07_shown_ok {r : Bool} (hP : law07_shown = some r) : CallOK Tryz.prog 7 [] (.bool r) [] := by
  unfold law07_shown at hP
  refine co 43 [.tmp 0] Tryz.func7 ?_
  refine J_seq ?_
  refine J_region (by kernel_rfl) ?_
  (try simp only [go_sem, Nat.reduceEqDiff, ↓reduceIte])
  refine hold2 (then_n ?_)
  refine J_seq ?_
  refine J_region (by kernel_rfl) ?_
  (try simp only [go_sem, Nat.reduceEqDiff, ↓reduceIte])
  obtain ⟨r2, hr1, hP⟩ := bind_cases hP
  refine call_pt [] [] [.box 46 [.iface 48 (.bptr 1 0), .own 3 0 0 (List.length ([] : List UInt8)), .int .i64 0, .bool false, .int .i64 0], .box 50 [.own 2 0 0 (List.length ([] : List UInt8)), .int .i64 0, .bool false, .int .i64 0], .slice 0 5 1 (List.map encB ([] : List UInt8)), .slice 0 5 1 (List.map encB ([] : List UInt8))] (.bptr 0 0) (chunk_New_ok hr1) ⟨argP_r (by rfl), trivial⟩ (told_of (sm [0, 1, 2, 3])) ?_
  (try simp only [go_sem, Nat.reduceEqDiff, ↓reduceIte])
  refine hold2 (then_n ?_)
  refine J_seq ?_
  refine J_seq ?_
  refine J_region (by kernel_rfl) ?_
  (try simp only [go_sem, Nat.reduceEqDiff, ↓reduceIte, Nat.reduceAdd, Nat.reduceSub, Nat.reduceLT, Nat.reduceMul, reduceCtorEq, Int.reduceToNat, Int.reduceLE, Int.reduceLT, Nat.reduceLeDiff])
  refine hold2 (then_n ?_)
  refine J_condV rfl ?_
  (try simp only [go_sem, Nat.reduceEqDiff, ↓reduceIte, Nat.reduceAdd, Nat.reduceSub, Nat.reduceLT, Nat.reduceMul, reduceCtorEq, Int.reduceToNat, Int.reduceLE, Int.reduceLT, Nat.reduceLeDiff])
  refine J_skip (then_n ?_)
  refine J_seq ?_
  refine J_region (by kernel_rfl) ?_
  (try simp only [go_sem, Nat.reduceEqDiff, ↓reduceIte, Nat.reduceAdd, Nat.reduceSub, Nat.reduceLT, Nat.reduceMul, reduceCtorEq, Int.reduceToNat, Int.reduceLE, Int.reduceLT, Nat.reduceLeDiff])
  obtain ⟨r4, hr3, hP⟩ := bind_cases hP
  refine call_pt [0, 1, 2, 3] [(1, .bptr 0 0)] [.box 46 [.iface 48 (.bptr 1 0), .own 3 0 0 (List.length ([] : List UInt8)), .int .i64 r4.2.1, .bool r4.2.2.1, .int .i64 r4.2.2.2.1], .box 50 [.own 2 0 0 (List.length r4.2.2.2.2.2.2.2.1), .int .i64 r4.2.2.2.2.1, .bool r4.2.2.2.2.2.1, .int .i64 r4.2.2.2.2.2.2.1], .slice 0 5 1 (List.map encB r4.2.2.2.2.2.2.2.1), .slice 0 5 1 (List.map encB ([] : List UInt8)), .slice 0 5 1 (List.map encB r4.2.2.2.2.2.2.2.2)] (.tup [.own 4 0 0 (List.length r4.2.2.2.2.2.2.2.2), .int .i64 r4.1]) (chunk_Reader_Take_ok hr3) ⟨argP_r (by rfl), argP_o (by decide) (by simp only [arg, go_sem, Nat.reduceEqDiff, ↓reduceIte]), trivial⟩ (told_of (sm [5, 6, 7, 8, 9])) ?_
  (try simp only [go_sem, Nat.reduceEqDiff, ↓reduceIte])
  refine hold2 (then_n ?_)
  refine J_seq ?_
  refine J_region (by kernel_rfl) ?_
  (try simp only [go_sem, Nat.reduceEqDiff, ↓reduceIte])
  first | refine bytesK_map ?_ | refine bytesK_of r4.2.2.2.2.2.2.2.2 rfl ?_
  (try simp only [go_sem, Nat.reduceEqDiff, ↓reduceIte])
  rcases ite_cases hP with ⟨hc, hP⟩ | ⟨hc, hP⟩
  · refine guard_is hc ?_
    (try simp only [go_sem, Nat.reduceEqDiff, ↓reduceIte])
    rcases ite_cases hP with ⟨hc, hP⟩ | ⟨hc, hP⟩
    · refine guard_is hc ?_
      (try simp only [go_sem, Nat.reduceEqDiff, ↓reduceIte])
      obtain ⟨r5, hr5, hP⟩ := bind_cases hP
      refine call_ok [.vptr (.agg [.dead, .view 1 (List.map encB ([] : List UInt8)), .int .i64 r4.2.1, .bool r4.2.2.1, .int .i64 r4.2.2.2.1]) 0] (chunk_Reader_Done_ok hr5) ⟨argR_box rfl ⟨argC_d, argC_m false (by simp only [arg, go_sem, Nat.reduceEqDiff, ↓reduceIte]), argC_m false rfl, argC_m false rfl, argC_m false rfl, trivial⟩, trivial⟩ ?_
      (try simp only [go_sem, Nat.reduceEqDiff, ↓reduceIte])
      rcases ite_cases hP with ⟨hc, hP⟩ | ⟨hc, hP⟩
      · refine guard_is hc ?_
        (try simp only [go_sem, Nat.reduceEqDiff, ↓reduceIte])
        obtain ⟨r6, hr6, hP⟩ := bind_cases hP
        refine call_ok [.vptr (.agg [.dead, .view 1 (List.map encB ([] : List UInt8)), .int .i64 r4.2.1, .bool r4.2.2.1, .int .i64 r4.2.2.2.1]) 0] (chunk_Reader_Err_ok hr6) ⟨argR_box rfl ⟨argC_d, argC_m false (by simp only [arg, go_sem, Nat.reduceEqDiff, ↓reduceIte]), argC_m false rfl, argC_m false rfl, argC_m false rfl, trivial⟩, trivial⟩ ?_
        (try simp only [go_sem, Nat.reduceEqDiff, ↓reduceIte])
        rcases ite_cases hP with ⟨hc, hP⟩ | ⟨hc, hP⟩
        · refine guard_is hc ?_
          (try simp only [go_sem, Nat.reduceEqDiff, ↓reduceIte])
          obtain ⟨r7, hr7, hP⟩ := bind_cases hP
          refine call_ok [.view 1 (List.map encB [(bC 97), (bC 98)])] (chunk_Chunk_ok hr7) ⟨argR_m false (by simp only [arg, go_sem, Nat.reduceEqDiff, ↓reduceIte]), trivial⟩ ?_
          (try simp only [go_sem, Nat.reduceEqDiff, ↓reduceIte])
          first | refine bytesK_map ?_ | refine bytesK_of r7 rfl ?_
          (try simp only [go_sem, Nat.reduceEqDiff, ↓reduceIte])
          rcases ite_cases hP with ⟨hc, hP⟩ | ⟨hc, hP⟩
          · refine guard_is hc ?_
            (try simp only [go_sem, Nat.reduceEqDiff, ↓reduceIte])
            obtain ⟨r9, hr8, hP⟩ := bind_cases hP
            refine call_pt [] [(38, .bool true)] [] (.sc (.pointer none)) (chunk_New_w2_ok hr8) ⟨argP_r (by rfl), trivial⟩ (told_of (sm [])) ?_
            (try simp only [go_sem, Nat.reduceEqDiff, ↓reduceIte])
            refine hold2 (then_n ?_)
            refine J_ret (fin_ret ?_)
            obtain rfl := Option.some.inj hP
            (try simp only [go_sem, Nat.reduceEqDiff, ↓reduceIte])
            exact fo []
          · refine guard_not hc ?_
            (try simp only [go_sem, Nat.reduceEqDiff, ↓reduceIte])
            refine hold2 (then_n ?_)
            refine J_ret (fin_ret ?_)
            obtain rfl := Option.some.inj hP
            (try simp only [go_sem, Nat.reduceEqDiff, ↓reduceIte])
            exact fo []
        · refine guard_not hc ?_
          (try simp only [go_sem, Nat.reduceEqDiff, ↓reduceIte])
          refine hold2 (then_n ?_)
          refine J_ret (fin_ret ?_)
          obtain rfl := Option.some.inj hP
          (try simp only [go_sem, Nat.reduceEqDiff, ↓reduceIte])
          exact fo []
      · refine guard_not hc ?_
        (try simp only [go_sem, Nat.reduceEqDiff, ↓reduceIte])
        refine hold2 (then_n ?_)
        refine J_ret (fin_ret ?_)
        obtain rfl := Option.some.inj hP
        (try simp only [go_sem, Nat.reduceEqDiff, ↓reduceIte])
        exact fo []
    · refine guard_not hc ?_
      (try simp only [go_sem, Nat.reduceEqDiff, ↓reduceIte])
      refine hold2 (then_n ?_)
      refine J_ret (fin_ret ?_)
      obtain rfl := Option.some.inj hP
      (try simp only [go_sem, Nat.reduceEqDiff, ↓reduceIte])
      exact fo []
  · refine guard_not hc ?_
    (try simp only [go_sem, Nat.reduceEqDiff, ↓reduceIte])
    refine hold2 (then_n ?_)
    refine J_ret (fin_ret ?_)
    obtain rfl := Option.some.inj hP
    (try simp only [go_sem, Nat.reduceEqDiff, ↓reduceIte])
    exact fo []
end Go.Proofs.YtfhlehkgiamejaaGreatDoor
