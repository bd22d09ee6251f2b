/- Functions of the program, and pure ones that go the same ways: that the program's return what these compute. -/
import Derived.Test.YtfhlehkgiamejaaGreatDoorGB
import Derived.Test.YtfhlehkgiamejaaGreatDoorGN
import Derived.Test.YtfhlehkgiamejaaGreatDoorLibA
import Derived.Test.YtfhlehkgiamejaaGreatDoorFwE
import Derived.Test.YtfhlehkgiamejaaGreatDoorAvPj
namespace Go.Proofs.YtfhlehkgiamejaaGreatDoor
open Go.Av
set_option linter.unusedVariables false
set_option linter.unusedSimpArgs false
/-- colander/head.fail -/
def head_fail (at1 : Int) (e2 : Int) : Option (Sum ((Int × Int)) (Unit)) :=
  some (Sum.inl (at1, e2))
set_option maxRecDepth 100000 in
set_option maxHeartbeats 40000000 in
theorem head_fail_ok {at1 : Int} {e2 : Int} {r : Sum ((Int × Int)) (Unit)} (hP : head_fail at1 e2 = some r) : CallX Tryz.prog 70 [.int .i64 at1, .int .i64 e2] (match r with | .inl p => .inl (.iface 119 (.agg [.int .i64 p.1, .int .i64 p.2])) | .inr r => .inr (.tup [], [])) := by
  unfold head_fail at hP
  refine callX_of (n := 9) (rs := []) Tryz.func70 rfl (by decide) rfl rfl (by simp) rfl (by rcases r with r | r <;> intro p hp <;> cases hp; exact ⟨(by first | rfl | simp [AV.vf, AV.vfL]), (by first | (intro o ho; simp at ho; done) | (simp [vfO, AV.vf, AV.vfL, encB, encI, encS, encO, enc_api_Body, enc_api_Fault, enc_head_text, enc_api_Field]; done) | (simp [vfO, AV.vf, AV.vfL, encB, encI, encS, encO, enc_api_Body, enc_api_Fault, enc_head_text, enc_api_Field]; intros; subst_vars; simp [AV.vf, AV.vfL]))⟩) ?_
  refine J_regionP (by kernel_rfl) ?_
  (try simp only [go_sem, Nat.reduceEqDiff, ↓reduceIte])
  refine pan_of (by simp [AV.pl, AV.plL]) (holdP (?_))
  obtain rfl := Option.some.inj hP
  exact finX_p rfl
/-- colander/head.clean -/
def head_clean_L18 (line1 : List UInt8) (from2 : Int) : Nat → Int → Option (Sum (Sum ((Int × Int)) (Unit)) (Unit))
  | 0, _ => none
  | k12 + 1, i11 =>
    if decide (i11 < (List.length line1 : Int)) then
      (ixL line1 i11).bind fun c19 =>
      (show Option (Bool) from
        if decide (b2i c19 < b2i (bC 32)) then
          if !decide (b2i c19 = b2i (bC 9)) then
            some true
          else
            some (decide (b2i c19 = b2i (bC 127)))
        else
          some (decide (b2i c19 = b2i (bC 127)))).bind fun j21 =>
        if j21 then
          (head_fail (iadd .i64 from2 i11) 8).bind fun r22 => match r22 with
          | Sum.inl p23 =>
            some (Sum.inl (Sum.inl (p23.1, p23.2)))
          | Sum.inr r24 =>
            none
        else
          head_clean_L18 line1 from2 k12 (iadd .i64 i11 1)
    else
      some (Sum.inr ())
def head_clean (line1 : List UInt8) (from2 : Int) (at3 : Int) : Option (Sum ((Int × Int)) (Unit)) :=
  (head_clean_L18 line1 from2 141836999983104 at3).bind fun o25 => match o25 with
  | Sum.inl r => some r
  | Sum.inr j26 =>
    some (Sum.inr ())
set_option maxRecDepth 100000 in
set_option maxHeartbeats 40000000 in
theorem head_clean_ok {line1 : List UInt8} {from2 : Int} {at3 : Int} {r : Sum ((Int × Int)) (Unit)} (hP : head_clean line1 from2 at3 = some r) : CallX Tryz.prog 72 [.str line1, .int .i64 from2, .int .i64 at3] (match r with | .inl p => .inl (.iface 119 (.agg [.int .i64 p.1, .int .i64 p.2])) | .inr r => .inr (.tup [], [])) := by
  unfold head_clean at hP
  refine callX_of (n := 32) (rs := []) Tryz.func72 rfl (by decide) rfl rfl (by simp) rfl (by rcases r with r | r <;> intro p hp <;> cases hp; exact ⟨(by first | rfl | simp [AV.vf, AV.vfL]), (by first | (intro o ho; simp at ho; done) | (simp [vfO, AV.vf, AV.vfL, encB, encI, encS, encO, enc_api_Body, enc_api_Fault, enc_head_text, enc_api_Field]; done) | (simp [vfO, AV.vf, AV.vfL, encB, encI, encS, encO, enc_api_Body, enc_api_Fault, enc_head_text, enc_api_Field]; intros; subst_vars; simp [AV.vf, AV.vfL]))⟩) ?_
  refine J_seq ?_
  refine J_region (by kernel_rfl) ?_
  (try simp only [go_sem, Nat.reduceEqDiff, ↓reduceIte])
  refine hold2 (then_n ?_)
  obtain ⟨o25, hP, hQ18⟩ := bind_cases hP
  refine J_joinK0 (fun (s : Unit) => envL []) (fun (s : Unit) => []) (fun s => Sum.inr s = o25) ?_ ?_
  · refine J_block ?_
    refine J_loop (σ := Nat × Int) (fun (s : Nat × Int) => envL [(0, .str line1), (1, .int .i64 from2), (6, .int .i64 s.2)]) (fun (s : Nat × Int) => []) (fun s => head_clean_L18 line1 from2 s.1 s.2 = some o25) (fun s => s.1) (141836999983104, at3) hP (so []) ?_
    rintro ⟨k12, i11⟩ hP
    dsimp only at hP ⊢
    cases k12 with
    | zero => simp [head_clean_L18] at hP
    | succ k12 =>
      simp only [head_clean_L18] at hP
      refine J_seq ?_
      refine J_seq ?_
      refine J_region (by kernel_rfl) ?_
      (try simp only [go_sem, Nat.reduceEqDiff, ↓reduceIte])
      refine hold2 (then_n ?_)
      refine J_condV rfl ?_
      (try simp only [go_sem, Nat.reduceEqDiff, ↓reduceIte])
      rcases ite_cases hP with ⟨hc, hP⟩ | ⟨hc, hP⟩
      · refine condV_t hc ?_
        refine J_skip (then_n ?_)
        refine J_seq ?_
        refine J_block ?_
        refine J_seq ?_
        refine J_region (by kernel_rfl) ?_
        (try simp only [go_sem, Nat.reduceEqDiff, ↓reduceIte])
        obtain ⟨c19, hc19, hP⟩ := bind_cases hP
        refine ixS_of hc19 ?_
        (try simp only [go_sem, Nat.reduceEqDiff, ↓reduceIte])
        refine hold2 (then_n ?_)
        obtain ⟨o20, hP, hQ20⟩ := bind_cases hP
        refine J_join (fun (s : Bool) => envL [(0, .str line1), (1, .int .i64 from2), (6, .int .i64 i11), (27, .bool s)]) (fun (s : Bool) => []) (fun s => s = o20) ?_ ?_
        · clear hQ20
          refine J_region (by kernel_rfl) ?_
          (try simp only [go_sem, Nat.reduceEqDiff, ↓reduceIte])
          rcases ite_cases hP with ⟨hc, hP⟩ | ⟨hc, hP⟩
          · refine guard_is hc ?_
            (try simp only [go_sem, Nat.reduceEqDiff, ↓reduceIte])
            rcases ite_cases hP with ⟨hc, hP⟩ | ⟨hc, hP⟩
            · refine guard_not hc ?_
              (try simp only [go_sem, Nat.reduceEqDiff, ↓reduceIte])
              refine hold2 ?_
              exact join_n true (Option.some.inj hP) (so [])
            · refine guard_is hc ?_
              (try simp only [go_sem, Nat.reduceEqDiff, ↓reduceIte])
              refine hold2 ?_
              exact join_n (decide (b2i c19 = b2i (bC 127))) (Option.some.inj hP) (so [])
          · refine guard_not hc ?_
            (try simp only [go_sem, Nat.reduceEqDiff, ↓reduceIte])
            refine hold2 ?_
            exact join_n (decide (b2i c19 = b2i (bC 127))) (Option.some.inj hP) (so [])
        · intro j21 hs
          subst hs
          have hP := hQ20
          clear hQ20
          refine J_condV rfl ?_
          (try simp only [go_sem, Nat.reduceEqDiff, ↓reduceIte])
          rcases ite_cases hP with ⟨hc, hP⟩ | ⟨hc, hP⟩
          · refine condV_t hc ?_
            refine J_regionP (by kernel_rfl) ?_
            (try simp only [go_sem, Nat.reduceEqDiff, ↓reduceIte])
            obtain ⟨r22, hr22, hP⟩ := bind_cases hP
            rcases r22 with p23 | r24 <;> dsimp only at hP
            · refine callP_p [.int .i64 (iadd .i64 from2 i11), .int .i64 8] (head_fail_ok hr22) ⟨argR_m false rfl, argR_m false rfl, trivial⟩ (holdP (block_p (then_p (loop_p (block_p (join_p ?_))))))
              obtain rfl := Option.some.inj hP
              have hP := hQ18
              dsimp only at hP
              obtain rfl := Option.some.inj hP
              exact finX_p rfl
            · cases hP
          · refine condV_f hc ?_
            refine J_skip (block_n (then_n ?_))
            refine J_region (by kernel_rfl) ?_
            (try simp only [go_sem, Nat.reduceEqDiff, ↓reduceIte])
            refine hold2 ?_
            exact loop_n (k12, iadd .i64 i11 1) hP (Nat.lt_succ_self _) (so [])
      · refine condV_f hc ?_
        refine J_exit (then_exit (loop_exit (block_eq ?_)))
        exact join_n () (Option.some.inj hP) (so [])
  · intro j26 hs
    subst hs
    have hP := hQ18
    dsimp only at hP
    clear hQ18
    obtain rfl := Option.some.inj hP
    refine finX_n ?_
    (try simp only [go_sem, Nat.reduceEqDiff, ↓reduceIte])
    exact fo []
/-- colander/head.field -/
def head_field (line1 : List UInt8) (from2 : Int) : Option (Sum ((Int × Int)) (((List UInt8) × (List UInt8)))) :=
  (show Option (Bool) from
    (ixL line1 0).bind fun c6 =>
    if decide (b2i c6 = b2i (bC 32)) then
      some true
    else
      (ixL line1 0).bind fun c7 =>
      some (decide (b2i c7 = b2i (bC 9)))).bind fun j8 =>
    if j8 then
      (head_fail from2 9).bind fun r9 => match r9 with
      | Sum.inl p10 =>
        some (Sum.inl (p10.1, p10.2))
      | Sum.inr r11 =>
        none
    else
      (cutX line1 [58]).bind fun r12 =>
      if !r12.2.2 then
        (head_fail from2 7).bind fun r13 => match r13 with
        | Sum.inl p14 =>
          some (Sum.inl (p14.1, p14.2))
        | Sum.inr r15 =>
          none
      else
        (trimRightX r12.1 [32, 9]).bind fun r16 =>
        if !decide (r16 = r12.1) then
          (head_fail (iadd .i64 from2 (List.length r16 : Int)) 11).bind fun r17 => match r17 with
          | Sum.inl p18 =>
            some (Sum.inl (p18.1, p18.2))
          | Sum.inr r19 =>
            none
        else
          (lex_Token r12.1).bind fun r20 =>
          if !r20 then
            (head_fail from2 7).bind fun r21 => match r21 with
            | Sum.inl p22 =>
              some (Sum.inl (p22.1, p22.2))
            | Sum.inr r23 =>
              none
          else
            (head_clean line1 from2 (iadd .i64 (List.length r12.1 : Int) 1)).bind fun r24 => match r24 with
            | Sum.inl p25 =>
              some (Sum.inl (p25.1, p25.2))
            | Sum.inr r26 =>
              (lex_Trim r12.2.1).bind fun r27 =>
              some (Sum.inr (r12.1, r27))
set_option maxRecDepth 100000 in
set_option maxHeartbeats 40000000 in
theorem head_field_ok {line1 : List UInt8} {from2 : Int} {r : Sum ((Int × Int)) (((List UInt8) × (List UInt8)))} (hP : head_field line1 from2 = some r) : CallX Tryz.prog 79 [.str line1, .int .i64 from2] (match r with | .inl p => .inl (.iface 119 (.agg [.int .i64 p.1, .int .i64 p.2])) | .inr r => .inr (.agg [.str r.1, .str r.2], [])) := by
  unfold head_field at hP
  refine callX_of (n := 54) (rs := [.cell 4 126]) Tryz.func79 rfl (by decide) rfl rfl (by simp) rfl (by rcases r with r | r <;> intro p hp <;> cases hp; exact ⟨(by first | rfl | simp [AV.vf, AV.vfL]), (by first | (intro o ho; simp at ho; done) | (simp [vfO, AV.vf, AV.vfL, encB, encI, encS, encO, enc_api_Body, enc_api_Fault, enc_head_text, enc_api_Field]; done) | (simp [vfO, AV.vf, AV.vfL, encB, encI, encS, encO, enc_api_Body, enc_api_Fault, enc_head_text, enc_api_Field]; intros; subst_vars; simp [AV.vf, AV.vfL]))⟩) ?_
  refine J_seq ?_
  refine J_region (by kernel_rfl) ?_
  (try simp only [go_sem, Nat.reduceEqDiff, ↓reduceIte])
  refine hold2 (then_n ?_)
  refine J_seq ?_
  obtain ⟨o5, hP, hQ5⟩ := bind_cases hP
  refine J_join (fun (s : Bool) => envL [(0, .str line1), (1, .int .i64 from2), (4, .bptr 0 0), (16, .bool s)]) (fun (s : Bool) => [.box 126 [.str [], .str []]]) (fun s => s = o5) ?_ ?_
  · clear hQ5
    refine J_region (by kernel_rfl) ?_
    (try simp only [go_sem, Nat.reduceEqDiff, ↓reduceIte])
    obtain ⟨c6, hc6, hP⟩ := bind_cases hP
    refine ixS_of hc6 ?_
    (try simp only [go_sem, Nat.reduceEqDiff, ↓reduceIte])
    rcases ite_cases hP with ⟨hc, hP⟩ | ⟨hc, hP⟩
    · refine guard_not hc ?_
      (try simp only [go_sem, Nat.reduceEqDiff, ↓reduceIte])
      refine hold2 ?_
      exact join_n true (Option.some.inj hP) (so [0])
    · refine guard_is hc ?_
      (try simp only [go_sem, Nat.reduceEqDiff, ↓reduceIte])
      obtain ⟨c7, hc7, hP⟩ := bind_cases hP
      refine ixS_of hc7 ?_
      (try simp only [go_sem, Nat.reduceEqDiff, ↓reduceIte])
      refine hold2 ?_
      exact join_n (decide (b2i c7 = b2i (bC 9))) (Option.some.inj hP) (so [0])
  · intro j8 hs
    subst hs
    have hP := hQ5
    clear hQ5
    refine J_condV rfl ?_
    (try simp only [go_sem, Nat.reduceEqDiff, ↓reduceIte])
    rcases ite_cases hP with ⟨hc, hP⟩ | ⟨hc, hP⟩
    · refine condV_t hc ?_
      refine J_regionP (by kernel_rfl) ?_
      (try simp only [go_sem, Nat.reduceEqDiff, ↓reduceIte])
      obtain ⟨r9, hr9, hP⟩ := bind_cases hP
      rcases r9 with p10 | r11 <;> dsimp only at hP
      · refine callP_p [.int .i64 from2, .int .i64 9] (head_fail_ok hr9) ⟨argR_m false rfl, argR_m false rfl, trivial⟩ (holdP (then_p ?_))
        obtain rfl := Option.some.inj hP
        exact finX_p rfl
      · cases hP
    · refine condV_f hc ?_
      refine J_skip (then_n ?_)
      refine J_seq ?_
      refine J_region (by kernel_rfl) ?_
      (try simp only [go_sem, Nat.reduceEqDiff, ↓reduceIte])
      obtain ⟨r12, hr12, hP⟩ := bind_cases hP
      refine call_ok [.str line1, .str [58]] (cutX_ok hr12) ⟨argR_m false rfl, argR_m false rfl, trivial⟩ ?_
      (try simp only [go_sem, Nat.reduceEqDiff, ↓reduceIte])
      refine hold2 (then_n ?_)
      refine J_seq ?_
      refine J_seq ?_
      refine J_region (by kernel_rfl) ?_
      (try simp only [go_sem, Nat.reduceEqDiff, ↓reduceIte])
      refine hold2 (then_n ?_)
      refine J_condV rfl ?_
      (try simp only [go_sem, Nat.reduceEqDiff, ↓reduceIte])
      rcases ite_cases hP with ⟨hc, hP⟩ | ⟨hc, hP⟩
      · refine condV_t hc ?_
        refine J_regionP (by kernel_rfl) ?_
        (try simp only [go_sem, Nat.reduceEqDiff, ↓reduceIte])
        obtain ⟨r13, hr13, hP⟩ := bind_cases hP
        rcases r13 with p14 | r15 <;> dsimp only at hP
        · refine callP_p [.int .i64 from2, .int .i64 7] (head_fail_ok hr13) ⟨argR_m false rfl, argR_m false rfl, trivial⟩ (holdP (then_p ?_))
          obtain rfl := Option.some.inj hP
          exact finX_p rfl
        · cases hP
      · refine condV_f hc ?_
        refine J_skip (then_n ?_)
        refine J_seq ?_
        refine J_seq ?_
        refine J_region (by kernel_rfl) ?_
        (try simp only [go_sem, Nat.reduceEqDiff, ↓reduceIte])
        obtain ⟨r16, hr16, hP⟩ := bind_cases hP
        refine call_ok [.str r12.1, .str [32, 9]] (trimRightX_ok hr16) ⟨argR_m false rfl, argR_m false rfl, trivial⟩ ?_
        (try simp only [go_sem, Nat.reduceEqDiff, ↓reduceIte])
        refine hold2 (then_n ?_)
        refine J_seq ?_
        refine J_region (by kernel_rfl) ?_
        (try simp only [go_sem, Nat.reduceEqDiff, ↓reduceIte])
        refine hold2 (then_n ?_)
        refine J_condV rfl ?_
        (try simp only [go_sem, Nat.reduceEqDiff, ↓reduceIte])
        rcases ite_cases hP with ⟨hc, hP⟩ | ⟨hc, hP⟩
        · refine condV_t hc ?_
          refine J_regionP (by kernel_rfl) ?_
          (try simp only [go_sem, Nat.reduceEqDiff, ↓reduceIte])
          obtain ⟨r17, hr17, hP⟩ := bind_cases hP
          rcases r17 with p18 | r19 <;> dsimp only at hP
          · refine callP_p [.int .i64 (iadd .i64 from2 (List.length r16 : Int)), .int .i64 11] (head_fail_ok hr17) ⟨argR_m false rfl, argR_m false rfl, trivial⟩ (holdP (then_p ?_))
            obtain rfl := Option.some.inj hP
            exact finX_p rfl
          · cases hP
        · refine condV_f hc ?_
          refine J_skip (then_n ?_)
          refine J_seq ?_
          refine J_seq ?_
          refine J_region (by kernel_rfl) ?_
          (try simp only [go_sem, Nat.reduceEqDiff, ↓reduceIte])
          obtain ⟨r20, hr20, hP⟩ := bind_cases hP
          refine call_ok [.str r12.1] (lex_Token_ok hr20) ⟨argR_m false rfl, trivial⟩ ?_
          (try simp only [go_sem, Nat.reduceEqDiff, ↓reduceIte])
          refine hold2 (then_n ?_)
          refine J_condV rfl ?_
          (try simp only [go_sem, Nat.reduceEqDiff, ↓reduceIte])
          rcases ite_cases hP with ⟨hc, hP⟩ | ⟨hc, hP⟩
          · refine condV_t hc ?_
            refine J_regionP (by kernel_rfl) ?_
            (try simp only [go_sem, Nat.reduceEqDiff, ↓reduceIte])
            obtain ⟨r21, hr21, hP⟩ := bind_cases hP
            rcases r21 with p22 | r23 <;> dsimp only at hP
            · refine callP_p [.int .i64 from2, .int .i64 7] (head_fail_ok hr21) ⟨argR_m false rfl, argR_m false rfl, trivial⟩ (holdP (then_p ?_))
              obtain rfl := Option.some.inj hP
              exact finX_p rfl
            · cases hP
          · refine condV_f hc ?_
            refine J_skip (then_n ?_)
            refine J_seq ?_
            refine J_regionP (by kernel_rfl) ?_
            (try simp only [go_sem, Nat.reduceEqDiff, ↓reduceIte])
            obtain ⟨r24, hr24, hP⟩ := bind_cases hP
            rcases r24 with p25 | r26 <;> dsimp only at hP
            · refine callP_p [.str line1, .int .i64 from2, .int .i64 (iadd .i64 (List.length r12.1 : Int) 1)] (head_clean_ok hr24) ⟨argR_m false rfl, argR_m false rfl, argR_m false rfl, trivial⟩ (holdP (then_p ?_))
              obtain rfl := Option.some.inj hP
              exact finX_p rfl
            · refine callP_n (call_ok [.str line1, .int .i64 from2, .int .i64 (iadd .i64 (List.length r12.1 : Int) 1)] (CallX.ok (head_clean_ok hr24)) ⟨argR_m false rfl, argR_m false rfl, argR_m false rfl, trivial⟩ ?_)
              (try simp only [go_sem, Nat.reduceEqDiff, ↓reduceIte])
              refine hold2 (then_n ?_)
              refine J_seq ?_
              refine J_region (by kernel_rfl) ?_
              (try simp only [go_sem, Nat.reduceEqDiff, ↓reduceIte])
              obtain ⟨r27, hr27, hP⟩ := bind_cases hP
              refine call_ok [.str r12.2.1] (lex_Trim_ok hr27) ⟨argR_m false rfl, trivial⟩ ?_
              (try simp only [go_sem, Nat.reduceEqDiff, ↓reduceIte, Nat.reduceAdd, Nat.reduceSub, Nat.reduceLT, Nat.reduceMul, reduceCtorEq, Int.reduceToNat, Int.reduceLE, Int.reduceLT, Nat.reduceLeDiff])
              refine hold2 (then_n ?_)
              refine J_ret ?_
              obtain rfl := Option.some.inj hP
              refine finX_ret ?_
              (try simp only [go_sem, Nat.reduceEqDiff, ↓reduceIte])
              exact fo []
end Go.Proofs.YtfhlehkgiamejaaGreatDoor
