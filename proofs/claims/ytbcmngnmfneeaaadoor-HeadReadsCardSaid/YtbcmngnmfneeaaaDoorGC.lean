/- Functions of the program, and pure ones that go the same ways: that the program's return what these compute. -/
import Derived.Test.YtbcmngnmfneeaaaDoorGF
import Derived.Test.YtbcmngnmfneeaaaDoorLibA
import Derived.Test.YtbcmngnmfneeaaaDoorFwE
import Derived.Test.YtbcmngnmfneeaaaDoorAvPj
namespace Go.Proofs.YtbcmngnmfneeaaaDoor
open Go.Av
set_option linter.unusedVariables false
set_option linter.unusedSimpArgs false
/-- colander/head.fail -/
def head_fail (at1 : Int) (e2 : Int) : Option (Sum ((Int × Int)) (Unit)) :=
  some (Sum.inl (at1, e2))
set_option maxRecDepth 100000 in
set_option maxHeartbeats 40000000 in
theorem head_fail_ok {at1 : Int} {e2 : Int} {r : Sum ((Int × Int)) (Unit)} (hP : head_fail at1 e2 = some r) : CallX Tryd.prog 20 [.int .i64 at1, .int .i64 e2] (match r with | .inl p => .inl (.iface 72 (.agg [.int .i64 p.1, .int .i64 p.2])) | .inr r => .inr (.tup [], [])) := by
  unfold head_fail at hP
  refine callX_of (n := 9) (rs := []) Tryd.func20 rfl (by decide) rfl rfl (by simp) rfl (by rcases r with r | r <;> intro p hp <;> cases hp; exact ⟨(by first | rfl | simp [AV.vf, AV.vfL]), (by first | (intro o ho; simp at ho; done) | (simp [vfO, AV.vf, AV.vfL, encB, encI, encS, encO, enc_colanderref05_Reader, enc_api_Field, enc_api_Fault, enc_head_text]; done) | (simp [vfO, AV.vf, AV.vfL, encB, encI, encS, encO, enc_colanderref05_Reader, enc_api_Field, enc_api_Fault, enc_head_text]; intros; subst_vars; simp [AV.vf, AV.vfL]))⟩) ?_
  refine J_regionP (by kernel_rfl) ?_
  (try simp only [go_sem, Nat.reduceEqDiff, ↓reduceIte])
  refine pan_of (by simp [AV.pl, AV.plL]) (holdP (?_))
  obtain rfl := Option.some.inj hP
  exact finX_p rfl
/-- colander/head.method -/
def head_method (s1 : List UInt8) : Option (Bool) :=
  (lex_Token s1).bind fun r2 =>
  if r2 then
    if decide ((List.length s1 : Int) ≤ 16) then
      if !decide (s1 = [67, 79, 78, 78, 69, 67, 84]) then
        some (!decide (s1 = [84, 82, 65, 67, 69]))
      else
        some false
    else
      some false
  else
    some false
set_option maxRecDepth 100000 in
set_option maxHeartbeats 40000000 in
theorem head_method_ok {s1 : List UInt8} {r : Bool} (hP : head_method s1 = some r) : CallOK Tryd.prog 19 [.str s1] (.bool r) [] := by
  unfold head_method at hP
  refine co 18 [.tmp 2] Tryd.func19 ?_
  refine J_seq ?_
  refine J_region (by kernel_rfl) ?_
  (try simp only [go_sem, Nat.reduceEqDiff, ↓reduceIte])
  refine hold2 (then_n ?_)
  refine J_seq ?_
  refine J_region (by kernel_rfl) ?_
  (try simp only [go_sem, Nat.reduceEqDiff, ↓reduceIte])
  obtain ⟨r2, hr2, hP⟩ := bind_cases hP
  refine call_ok [.str s1] (lex_Token_ok hr2) ⟨argR_m false rfl, trivial⟩ ?_
  (try simp only [go_sem, Nat.reduceEqDiff, ↓reduceIte])
  rcases ite_cases hP with ⟨hc, hP⟩ | ⟨hc, hP⟩
  · refine guard_is hc ?_
    (try simp only [go_sem, Nat.reduceEqDiff, ↓reduceIte])
    rcases ite_cases hP with ⟨hc, hP⟩ | ⟨hc, hP⟩
    · refine guard_is hc ?_
      (try simp only [go_sem, Nat.reduceEqDiff, ↓reduceIte])
      rcases ite_cases hP with ⟨hc, hP⟩ | ⟨hc, hP⟩
      · refine guard_is hc ?_
        (try simp only [go_sem, Nat.reduceEqDiff, ↓reduceIte])
        refine hold2 (then_n ?_)
        refine J_ret (fin_ret ?_)
        obtain rfl := Option.some.inj hP
        (try simp only [go_sem, Nat.reduceEqDiff, ↓reduceIte])
        exact fo []
      · refine guard_not hc ?_
        (try simp only [go_sem, Nat.reduceEqDiff, ↓reduceIte])
        refine hold2 (then_n ?_)
        refine J_ret (fin_ret ?_)
        obtain rfl := Option.some.inj hP
        (try simp only [go_sem, Nat.reduceEqDiff, ↓reduceIte])
        exact fo []
    · refine guard_not hc ?_
      (try simp only [go_sem, Nat.reduceEqDiff, ↓reduceIte])
      refine hold2 (then_n ?_)
      refine J_ret (fin_ret ?_)
      obtain rfl := Option.some.inj hP
      (try simp only [go_sem, Nat.reduceEqDiff, ↓reduceIte])
      exact fo []
  · refine guard_not hc ?_
    (try simp only [go_sem, Nat.reduceEqDiff, ↓reduceIte])
    refine hold2 (then_n ?_)
    refine J_ret (fin_ret ?_)
    obtain rfl := Option.some.inj hP
    (try simp only [go_sem, Nat.reduceEqDiff, ↓reduceIte])
    exact fo []
/-- colander/head.target$1 -/
def head_target_1 (r1 : Int) : Option (Bool) :=
  if decide (r1 < 33) then
    some true
  else
    if decide (126 < r1) then
      some true
    else
      some (decide (r1 = 35))
set_option maxRecDepth 100000 in
set_option maxHeartbeats 40000000 in
theorem head_target_1_ok {r1 : Int} {r : Bool} (hP : head_target_1 r1 = some r) : CallOK Tryd.prog 34 [.int .i32 r1] (.bool r) [] := by
  unfold head_target_1 at hP
  refine co 13 [.tmp 2] Tryd.func34 ?_
  refine J_seq ?_
  refine J_region (by kernel_rfl) ?_
  (try simp only [go_sem, Nat.reduceEqDiff, ↓reduceIte])
  refine hold2 (then_n ?_)
  refine J_seq ?_
  refine J_region (by kernel_rfl) ?_
  (try simp only [go_sem, Nat.reduceEqDiff, ↓reduceIte])
  rcases ite_cases hP with ⟨hc, hP⟩ | ⟨hc, hP⟩
  · refine guard_not hc ?_
    (try simp only [go_sem, Nat.reduceEqDiff, ↓reduceIte])
    refine hold2 (then_n ?_)
    refine J_ret (fin_ret ?_)
    obtain rfl := Option.some.inj hP
    (try simp only [go_sem, Nat.reduceEqDiff, ↓reduceIte])
    exact fo []
  · refine guard_is hc ?_
    (try simp only [go_sem, Nat.reduceEqDiff, ↓reduceIte])
    rcases ite_cases hP with ⟨hc, hP⟩ | ⟨hc, hP⟩
    · refine guard_not hc ?_
      (try simp only [go_sem, Nat.reduceEqDiff, ↓reduceIte])
      refine hold2 (then_n ?_)
      refine J_ret (fin_ret ?_)
      obtain rfl := Option.some.inj hP
      (try simp only [go_sem, Nat.reduceEqDiff, ↓reduceIte])
      exact fo []
    · refine guard_is hc ?_
      (try simp only [go_sem, Nat.reduceEqDiff, ↓reduceIte])
      refine hold2 (then_n ?_)
      refine J_ret (fin_ret ?_)
      obtain rfl := Option.some.inj hP
      (try simp only [go_sem, Nat.reduceEqDiff, ↓reduceIte])
      exact fo []
/-- colander/head.target -/
def strings_indexFunc_L79 (s1 : List UInt8) : Nat → Nat → Option (Sum (Int) (Unit))
  | 0, _ => none
  | k78 + 1, l77 =>
    if decide (l77 < List.length s1) then
      (head_target_1 (((decR s1 l77).1 : Nat) : Int)).bind fun r80 =>
      if r80 == true then
        some (Sum.inl ((l77 : Nat) : Int))
      else
        strings_indexFunc_L79 s1 k78 (l77 + (decR s1 l77).2)
    else
      some (Sum.inr ())
def head_target (s1 : List UInt8) : Option (Bool) :=
  (strings_HasPrefix s1 [47]).bind fun r2 =>
  if r2 then
    (show Option (Bool) from
      (show Option (Int) from
        (show Option (Int) from
          (strings_indexFunc_L79 s1 140737488355328 0).bind fun o81 => match o81 with
          | Sum.inl r => some r
          | Sum.inr j82 =>
            some (-1)).bind fun a83 =>
          some a83).bind fun a85 =>
        some (decide (0 ≤ a85))).bind fun a87 =>
      some (!a87)
  else
    some false
set_option maxRecDepth 100000 in
set_option maxHeartbeats 40000000 in
theorem head_target_ok {s1 : List UInt8} {r : Bool} (hP : head_target s1 = some r) : CallOK Tryd.prog 21 [.str s1] (.bool r) [] := by
  unfold head_target at hP
  refine co 10 [.tmp 2] Tryd.func21 ?_
  refine J_seq ?_
  refine J_region (by kernel_rfl) ?_
  (try simp only [go_sem, Nat.reduceEqDiff, ↓reduceIte])
  refine hold2 (then_n ?_)
  refine J_seq ?_
  refine J_region (by kernel_rfl) ?_
  (try simp only [go_sem, Nat.reduceEqDiff, ↓reduceIte])
  obtain ⟨r2, hr2, hP⟩ := bind_cases hP
  refine call_ok [.str s1, .str [47]] (strings_HasPrefix_ok hr2) ⟨argR_m false rfl, argR_m false rfl, trivial⟩ ?_
  (try simp only [go_sem, Nat.reduceEqDiff, ↓reduceIte])
  rcases ite_cases hP with ⟨hc, hP⟩ | ⟨hc, hP⟩
  · refine guard_is hc ?_
    (try simp only [go_sem, Nat.reduceEqDiff, ↓reduceIte])
    obtain ⟨o88, hP, hQ87⟩ := bind_cases hP
    refine call_join (fun (s : Bool) => .bool s) (fun (s : Bool) => envL [(2, .bool false), (5, .bool true)]) (fun (s : Bool) => []) (fun s => s = o88) (callI_of (n := 9) (rs := [.tmp 4]) Tryd.func33 rfl (by decide) rfl rfl (by simp) rfl ?_) ?_
    · clear hQ87
      refine J_seq ?_
      refine J_region (by kernel_rfl) ?_
      (try simp only [go_sem, Nat.reduceEqDiff, ↓reduceIte])
      refine hold2 (then_n ?_)
      refine J_seq ?_
      refine J_region (by kernel_rfl) ?_
      (try simp only [go_sem, Nat.reduceEqDiff, ↓reduceIte])
      obtain ⟨o86, hP, hQ85⟩ := bind_cases hP
      refine call_join (fun (s : Int) => .int .i64 s) (fun (s : Int) => envL [(4, .bool false), (11, .bool false), (14, .bool true)]) (fun (s : Int) => []) (fun s => s = o86) (callI_of (n := 8) (rs := [.tmp 4]) Tryd.func49 rfl (by decide) rfl rfl (by simp) rfl ?_) ?_
      · clear hQ85
        refine J_seq ?_
        refine J_region (by kernel_rfl) ?_
        (try simp only [go_sem, Nat.reduceEqDiff, ↓reduceIte])
        refine hold2 (then_n ?_)
        refine J_seq ?_
        refine J_region (by kernel_rfl) ?_
        (try simp only [go_sem, Nat.reduceEqDiff, ↓reduceIte])
        obtain ⟨o84, hP, hQ83⟩ := bind_cases hP
        refine call_join (fun (s : Int) => .int .i64 s) (fun (s : Int) => envL [(4, .int .i64 0), (12, .bool false), (19, .bool false), (22, .bool true)]) (fun (s : Int) => []) (fun s => s = o84) (callI_of (n := 21) (rs := [.tmp 6]) Tryd.func62 rfl (by decide) rfl rfl (by simp) rfl ?_) ?_
        · clear hQ83
          refine J_seq ?_
          refine J_region (by kernel_rfl) ?_
          (try simp only [go_sem, Nat.reduceEqDiff, ↓reduceIte])
          refine hold2 (then_n ?_)
          refine J_seq ?_
          refine J_seq ?_
          refine J_region (by kernel_rfl) ?_
          (try simp only [go_sem, Nat.reduceEqDiff, ↓reduceIte])
          refine hold2 (then_n ?_)
          obtain ⟨o81, hP, hQ79⟩ := bind_cases hP
          refine J_joinK0 (fun (s : Unit) => envL [(25, .int .i64 0), (33, .bool false), (40, .bool false), (43, .bool true)]) (fun (s : Unit) => []) (fun s => Sum.inr s = o81) ?_ ?_
          · refine J_block ?_
            refine J_loop (σ := Nat × Nat) (fun (s : Nat × Nat) => envL [(1, .fn 34 []), (2, .bool true), (10, .bptr 0 0), (25, .int .i64 0), (33, .bool false), (40, .bool false), (43, .bool true)]) (fun (s : Nat × Nat) => [.iter s1 s.2]) (fun s => strings_indexFunc_L79 s1 s.1 s.2 = some o81) (fun s => s.1) (140737488355328, 0) hP (so [0]) ?_
            rintro ⟨k78, l77⟩ hP
            dsimp only at hP ⊢
            cases k78 with
            | zero => simp [strings_indexFunc_L79] at hP
            | succ k78 =>
              simp only [strings_indexFunc_L79] at hP
              refine J_seq ?_
              refine J_region (by kernel_rfl) ?_
              (try simp only [go_sem, Nat.reduceEqDiff, ↓reduceIte])
              rcases ite_cases hP with ⟨hc, hP⟩ | ⟨hc, hP⟩
              · refine guard_is hc ?_
                (try simp only [go_sem, Nat.reduceEqDiff, ↓reduceIte])
                refine hold2 (then_n ?_)
                refine J_seq ?_
                refine J_condV rfl ?_
                (try simp only [go_sem, Nat.reduceEqDiff, ↓reduceIte])
                refine J_skip (then_n ?_)
                refine J_block ?_
                refine J_seq ?_
                refine J_region (by kernel_rfl) ?_
                (try simp only [go_sem, Nat.reduceEqDiff, ↓reduceIte])
                refine hold2 (then_n ?_)
                refine J_seq ?_
                refine J_region (by kernel_rfl) ?_
                (try simp only [go_sem, Nat.reduceEqDiff, ↓reduceIte])
                obtain ⟨r80, hr80, hP⟩ := bind_cases hP
                refine call_ok [.int .i32 (((decR s1 l77).1 : Nat) : Int)] (head_target_1_ok hr80) ⟨argR_m false rfl, trivial⟩ ?_
                (try simp only [go_sem, Nat.reduceEqDiff, ↓reduceIte])
                refine hold2 (then_n ?_)
                refine J_condV rfl ?_
                (try simp only [go_sem, Nat.reduceEqDiff, ↓reduceIte])
                rcases ite_cases hP with ⟨hc, hP⟩ | ⟨hc, hP⟩
                · refine condV_t hc ?_
                  refine J_seq ?_
                  refine J_region (by kernel_rfl) ?_
                  (try simp only [go_sem, Nat.reduceEqDiff, ↓reduceIte])
                  refine hold2 (then_n ?_)
                  refine J_ret (block_ret (loop_ret (block_ret (join_ret (then_ret (finI_ret ?_))))))
                  obtain rfl := Option.some.inj hP
                  have hP := hQ79
                  dsimp only at hP
                  exact told_of ⟨((l77 : Nat) : Int), Option.some.inj hP, sr []⟩
                · refine condV_f hc ?_
                  refine J_skip (block_n ?_)
                  exact loop_n (k78, l77 + (decR s1 l77).2) hP (Nat.lt_succ_self _) (so [0])
              · refine guard_not hc ?_
                (try simp only [go_sem, Nat.reduceEqDiff, ↓reduceIte])
                refine hold2 (then_n ?_)
                refine J_seq ?_
                refine J_condV rfl ?_
                (try simp only [go_sem, Nat.reduceEqDiff, ↓reduceIte])
                refine J_exit (then_exit (loop_exit (block_eq ?_)))
                exact join_n () (Option.some.inj hP) (so [])
          · intro j82 hs
            subst hs
            have hP := hQ79
            dsimp only at hP
            clear hQ79
            refine then_n ?_
            refine J_seq ?_
            refine J_region (by kernel_rfl) ?_
            (try simp only [go_sem, Nat.reduceEqDiff, ↓reduceIte])
            refine hold2 (then_n ?_)
            refine J_ret (finI_ret ?_)
            exact told_of ⟨(-1), Option.some.inj hP, sr []⟩
        · intro a83 hs
          subst hs
          have hP := hQ83
          clear hQ83
          (try simp only [go_sem, Nat.reduceEqDiff, ↓reduceIte])
          refine hold2 (then_n ?_)
          refine J_ret (finI_ret ?_)
          exact told_of ⟨a83, Option.some.inj hP, sr []⟩
      · intro a85 hs
        subst hs
        have hP := hQ85
        clear hQ85
        (try simp only [go_sem, Nat.reduceEqDiff, ↓reduceIte])
        refine hold2 (then_n ?_)
        refine J_ret (finI_ret ?_)
        exact told_of ⟨(decide (0 ≤ a85)), Option.some.inj hP, sr []⟩
    · intro a87 hs
      subst hs
      have hP := hQ87
      clear hQ87
      (try simp only [go_sem, Nat.reduceEqDiff, ↓reduceIte])
      refine hold2 (then_n ?_)
      refine J_ret (fin_ret ?_)
      obtain rfl := Option.some.inj hP
      (try simp only [go_sem, Nat.reduceEqDiff, ↓reduceIte])
      exact fo []
  · refine guard_not hc ?_
    (try simp only [go_sem, Nat.reduceEqDiff, ↓reduceIte])
    refine hold2 (then_n ?_)
    refine J_ret (fin_ret ?_)
    obtain rfl := Option.some.inj hP
    (try simp only [go_sem, Nat.reduceEqDiff, ↓reduceIte])
    exact fo []
/-- colander/head.clean -/
def head_clean_L18 (line1 : List UInt8) (from2 : Int) : Nat → Int → Option (Sum (Sum ((Int × Int)) (Unit)) (Unit))
  | 0, _ => none
  | k12 + 1, i11 =>
    if decide (i11 < (List.length line1 : Int)) then
      (ixL line1 i11).bind fun c19 =>
      (show Option (Bool) from
        if decide (b2i c19 < b2i (bC 32)) then
          if !decide (b2i c19 = b2i (bC 9)) then
            some true
          else
            some (decide (b2i c19 = b2i (bC 127)))
        else
          some (decide (b2i c19 = b2i (bC 127)))).bind fun j21 =>
        if j21 then
          (head_fail (iadd .i64 from2 i11) 8).bind fun r22 => match r22 with
          | Sum.inl p23 =>
            some (Sum.inl (Sum.inl (p23.1, p23.2)))
          | Sum.inr r24 =>
            none
        else
          head_clean_L18 line1 from2 k12 (iadd .i64 i11 1)
    else
      some (Sum.inr ())
def head_clean (line1 : List UInt8) (from2 : Int) (at3 : Int) : Option (Sum ((Int × Int)) (Unit)) :=
  (head_clean_L18 line1 from2 140737488355328 at3).bind fun o25 => match o25 with
  | Sum.inl r => some r
  | Sum.inr j26 =>
    some (Sum.inr ())
set_option maxRecDepth 100000 in
set_option maxHeartbeats 40000000 in
theorem head_clean_ok {line1 : List UInt8} {from2 : Int} {at3 : Int} {r : Sum ((Int × Int)) (Unit)} (hP : head_clean line1 from2 at3 = some r) : CallX Tryd.prog 28 [.str line1, .int .i64 from2, .int .i64 at3] (match r with | .inl p => .inl (.iface 72 (.agg [.int .i64 p.1, .int .i64 p.2])) | .inr r => .inr (.tup [], [])) := by
  unfold head_clean at hP
  refine callX_of (n := 32) (rs := []) Tryd.func28 rfl (by decide) rfl rfl (by simp) rfl (by rcases r with r | r <;> intro p hp <;> cases hp; exact ⟨(by first | rfl | simp [AV.vf, AV.vfL]), (by first | (intro o ho; simp at ho; done) | (simp [vfO, AV.vf, AV.vfL, encB, encI, encS, encO, enc_colanderref05_Reader, enc_api_Field, enc_api_Fault, enc_head_text]; done) | (simp [vfO, AV.vf, AV.vfL, encB, encI, encS, encO, enc_colanderref05_Reader, enc_api_Field, enc_api_Fault, enc_head_text]; intros; subst_vars; simp [AV.vf, AV.vfL]))⟩) ?_
  refine J_seq ?_
  refine J_region (by kernel_rfl) ?_
  (try simp only [go_sem, Nat.reduceEqDiff, ↓reduceIte])
  refine hold2 (then_n ?_)
  obtain ⟨o25, hP, hQ18⟩ := bind_cases hP
  refine J_joinK0 (fun (s : Unit) => envL []) (fun (s : Unit) => []) (fun s => Sum.inr s = o25) ?_ ?_
  · refine J_block ?_
    refine J_loop (σ := Nat × Int) (fun (s : Nat × Int) => envL [(0, .str line1), (1, .int .i64 from2), (6, .int .i64 s.2)]) (fun (s : Nat × Int) => []) (fun s => head_clean_L18 line1 from2 s.1 s.2 = some o25) (fun s => s.1) (140737488355328, at3) hP (so []) ?_
    rintro ⟨k12, i11⟩ hP
    dsimp only at hP ⊢
    cases k12 with
    | zero => simp [head_clean_L18] at hP
    | succ k12 =>
      simp only [head_clean_L18] at hP
      refine J_seq ?_
      refine J_seq ?_
      refine J_region (by kernel_rfl) ?_
      (try simp only [go_sem, Nat.reduceEqDiff, ↓reduceIte])
      refine hold2 (then_n ?_)
      refine J_condV rfl ?_
      (try simp only [go_sem, Nat.reduceEqDiff, ↓reduceIte])
      rcases ite_cases hP with ⟨hc, hP⟩ | ⟨hc, hP⟩
      · refine condV_t hc ?_
        refine J_skip (then_n ?_)
        refine J_seq ?_
        refine J_block ?_
        refine J_seq ?_
        refine J_region (by kernel_rfl) ?_
        (try simp only [go_sem, Nat.reduceEqDiff, ↓reduceIte])
        obtain ⟨c19, hc19, hP⟩ := bind_cases hP
        refine ixS_of hc19 ?_
        (try simp only [go_sem, Nat.reduceEqDiff, ↓reduceIte])
        refine hold2 (then_n ?_)
        obtain ⟨o20, hP, hQ20⟩ := bind_cases hP
        refine J_join (fun (s : Bool) => envL [(0, .str line1), (1, .int .i64 from2), (6, .int .i64 i11), (27, .bool s)]) (fun (s : Bool) => []) (fun s => s = o20) ?_ ?_
        · clear hQ20
          refine J_region (by kernel_rfl) ?_
          (try simp only [go_sem, Nat.reduceEqDiff, ↓reduceIte])
          rcases ite_cases hP with ⟨hc, hP⟩ | ⟨hc, hP⟩
          · refine guard_is hc ?_
            (try simp only [go_sem, Nat.reduceEqDiff, ↓reduceIte])
            rcases ite_cases hP with ⟨hc, hP⟩ | ⟨hc, hP⟩
            · refine guard_not hc ?_
              (try simp only [go_sem, Nat.reduceEqDiff, ↓reduceIte])
              refine hold2 ?_
              exact join_n true (Option.some.inj hP) (so [])
            · refine guard_is hc ?_
              (try simp only [go_sem, Nat.reduceEqDiff, ↓reduceIte])
              refine hold2 ?_
              exact join_n (decide (b2i c19 = b2i (bC 127))) (Option.some.inj hP) (so [])
          · refine guard_not hc ?_
            (try simp only [go_sem, Nat.reduceEqDiff, ↓reduceIte])
            refine hold2 ?_
            exact join_n (decide (b2i c19 = b2i (bC 127))) (Option.some.inj hP) (so [])
        · intro j21 hs
          subst hs
          have hP := hQ20
          clear hQ20
          refine J_condV rfl ?_
          (try simp only [go_sem, Nat.reduceEqDiff, ↓reduceIte])
          rcases ite_cases hP with ⟨hc, hP⟩ | ⟨hc, hP⟩
          · refine condV_t hc ?_
            refine J_regionP (by kernel_rfl) ?_
            (try simp only [go_sem, Nat.reduceEqDiff, ↓reduceIte])
            obtain ⟨r22, hr22, hP⟩ := bind_cases hP
            rcases r22 with p23 | r24 <;> dsimp only at hP
            · refine callP_p [.int .i64 (iadd .i64 from2 i11), .int .i64 8] (head_fail_ok hr22) ⟨argR_m false rfl, argR_m false rfl, trivial⟩ (holdP (block_p (then_p (loop_p (block_p (join_p ?_))))))
              obtain rfl := Option.some.inj hP
              have hP := hQ18
              dsimp only at hP
              obtain rfl := Option.some.inj hP
              exact finX_p rfl
            · cases hP
          · refine condV_f hc ?_
            refine J_skip (block_n (then_n ?_))
            refine J_region (by kernel_rfl) ?_
            (try simp only [go_sem, Nat.reduceEqDiff, ↓reduceIte])
            refine hold2 ?_
            exact loop_n (k12, iadd .i64 i11 1) hP (Nat.lt_succ_self _) (so [])
      · refine condV_f hc ?_
        refine J_exit (then_exit (loop_exit (block_eq ?_)))
        exact join_n () (Option.some.inj hP) (so [])
  · intro j26 hs
    subst hs
    have hP := hQ18
    dsimp only at hP
    clear hQ18
    obtain rfl := Option.some.inj hP
    refine finX_n ?_
    (try simp only [go_sem, Nat.reduceEqDiff, ↓reduceIte])
    exact fo []
/-- colander/head.field -/
def head_field (line1 : List UInt8) (from2 : Int) : Option (Sum ((Int × Int)) (((List UInt8) × (List UInt8)))) :=
  (show Option (Bool) from
    (ixL line1 0).bind fun c6 =>
    if decide (b2i c6 = b2i (bC 32)) then
      some true
    else
      (ixL line1 0).bind fun c7 =>
      some (decide (b2i c7 = b2i (bC 9)))).bind fun j8 =>
    if j8 then
      (head_fail from2 9).bind fun r9 => match r9 with
      | Sum.inl p10 =>
        some (Sum.inl (p10.1, p10.2))
      | Sum.inr r11 =>
        none
    else
      (cutX line1 [58]).bind fun r12 =>
      if !r12.2.2 then
        (head_fail from2 7).bind fun r13 => match r13 with
        | Sum.inl p14 =>
          some (Sum.inl (p14.1, p14.2))
        | Sum.inr r15 =>
          none
      else
        (trimRightX r12.1 [32, 9]).bind fun r16 =>
        if !decide (r16 = r12.1) then
          (head_fail (iadd .i64 from2 (List.length r16 : Int)) 11).bind fun r17 => match r17 with
          | Sum.inl p18 =>
            some (Sum.inl (p18.1, p18.2))
          | Sum.inr r19 =>
            none
        else
          (lex_Token r12.1).bind fun r20 =>
          if !r20 then
            (head_fail from2 7).bind fun r21 => match r21 with
            | Sum.inl p22 =>
              some (Sum.inl (p22.1, p22.2))
            | Sum.inr r23 =>
              none
          else
            (head_clean line1 from2 (iadd .i64 (List.length r12.1 : Int) 1)).bind fun r24 => match r24 with
            | Sum.inl p25 =>
              some (Sum.inl (p25.1, p25.2))
            | Sum.inr r26 =>
              (lex_Trim r12.2.1).bind fun r27 =>
              some (Sum.inr (r12.1, r27))
set_option maxRecDepth 100000 in
set_option maxHeartbeats 40000000 in
theorem head_field_ok {line1 : List UInt8} {from2 : Int} {r : Sum ((Int × Int)) (((List UInt8) × (List UInt8)))} (hP : head_field line1 from2 = some r) : CallX Tryd.prog 35 [.str line1, .int .i64 from2] (match r with | .inl p => .inl (.iface 72 (.agg [.int .i64 p.1, .int .i64 p.2])) | .inr r => .inr (.agg [.str r.1, .str r.2], [])) := by
  unfold head_field at hP
  refine callX_of (n := 54) (rs := [.cell 4 49]) Tryd.func35 rfl (by decide) rfl rfl (by simp) rfl (by rcases r with r | r <;> intro p hp <;> cases hp; exact ⟨(by first | rfl | simp [AV.vf, AV.vfL]), (by first | (intro o ho; simp at ho; done) | (simp [vfO, AV.vf, AV.vfL, encB, encI, encS, encO, enc_colanderref05_Reader, enc_api_Field, enc_api_Fault, enc_head_text]; done) | (simp [vfO, AV.vf, AV.vfL, encB, encI, encS, encO, enc_colanderref05_Reader, enc_api_Field, enc_api_Fault, enc_head_text]; intros; subst_vars; simp [AV.vf, AV.vfL]))⟩) ?_
  refine J_seq ?_
  refine J_region (by kernel_rfl) ?_
  (try simp only [go_sem, Nat.reduceEqDiff, ↓reduceIte])
  refine hold2 (then_n ?_)
  refine J_seq ?_
  obtain ⟨o5, hP, hQ5⟩ := bind_cases hP
  refine J_join (fun (s : Bool) => envL [(0, .str line1), (1, .int .i64 from2), (4, .bptr 0 0), (16, .bool s)]) (fun (s : Bool) => [.box 49 [.str [], .str []]]) (fun s => s = o5) ?_ ?_
  · clear hQ5
    refine J_region (by kernel_rfl) ?_
    (try simp only [go_sem, Nat.reduceEqDiff, ↓reduceIte])
    obtain ⟨c6, hc6, hP⟩ := bind_cases hP
    refine ixS_of hc6 ?_
    (try simp only [go_sem, Nat.reduceEqDiff, ↓reduceIte])
    rcases ite_cases hP with ⟨hc, hP⟩ | ⟨hc, hP⟩
    · refine guard_not hc ?_
      (try simp only [go_sem, Nat.reduceEqDiff, ↓reduceIte])
      refine hold2 ?_
      exact join_n true (Option.some.inj hP) (so [0])
    · refine guard_is hc ?_
      (try simp only [go_sem, Nat.reduceEqDiff, ↓reduceIte])
      obtain ⟨c7, hc7, hP⟩ := bind_cases hP
      refine ixS_of hc7 ?_
      (try simp only [go_sem, Nat.reduceEqDiff, ↓reduceIte])
      refine hold2 ?_
      exact join_n (decide (b2i c7 = b2i (bC 9))) (Option.some.inj hP) (so [0])
  · intro j8 hs
    subst hs
    have hP := hQ5
    clear hQ5
    refine J_condV rfl ?_
    (try simp only [go_sem, Nat.reduceEqDiff, ↓reduceIte])
    rcases ite_cases hP with ⟨hc, hP⟩ | ⟨hc, hP⟩
    · refine condV_t hc ?_
      refine J_regionP (by kernel_rfl) ?_
      (try simp only [go_sem, Nat.reduceEqDiff, ↓reduceIte])
      obtain ⟨r9, hr9, hP⟩ := bind_cases hP
      rcases r9 with p10 | r11 <;> dsimp only at hP
      · refine callP_p [.int .i64 from2, .int .i64 9] (head_fail_ok hr9) ⟨argR_m false rfl, argR_m false rfl, trivial⟩ (holdP (then_p ?_))
        obtain rfl := Option.some.inj hP
        exact finX_p rfl
      · cases hP
    · refine condV_f hc ?_
      refine J_skip (then_n ?_)
      refine J_seq ?_
      refine J_region (by kernel_rfl) ?_
      (try simp only [go_sem, Nat.reduceEqDiff, ↓reduceIte])
      obtain ⟨r12, hr12, hP⟩ := bind_cases hP
      refine call_ok [.str line1, .str [58]] (cutX_ok hr12) ⟨argR_m false rfl, argR_m false rfl, trivial⟩ ?_
      (try simp only [go_sem, Nat.reduceEqDiff, ↓reduceIte])
      refine hold2 (then_n ?_)
      refine J_seq ?_
      refine J_seq ?_
      refine J_region (by kernel_rfl) ?_
      (try simp only [go_sem, Nat.reduceEqDiff, ↓reduceIte])
      refine hold2 (then_n ?_)
      refine J_condV rfl ?_
      (try simp only [go_sem, Nat.reduceEqDiff, ↓reduceIte])
      rcases ite_cases hP with ⟨hc, hP⟩ | ⟨hc, hP⟩
      · refine condV_t hc ?_
        refine J_regionP (by kernel_rfl) ?_
        (try simp only [go_sem, Nat.reduceEqDiff, ↓reduceIte])
        obtain ⟨r13, hr13, hP⟩ := bind_cases hP
        rcases r13 with p14 | r15 <;> dsimp only at hP
        · refine callP_p [.int .i64 from2, .int .i64 7] (head_fail_ok hr13) ⟨argR_m false rfl, argR_m false rfl, trivial⟩ (holdP (then_p ?_))
          obtain rfl := Option.some.inj hP
          exact finX_p rfl
        · cases hP
      · refine condV_f hc ?_
        refine J_skip (then_n ?_)
        refine J_seq ?_
        refine J_seq ?_
        refine J_region (by kernel_rfl) ?_
        (try simp only [go_sem, Nat.reduceEqDiff, ↓reduceIte])
        obtain ⟨r16, hr16, hP⟩ := bind_cases hP
        refine call_ok [.str r12.1, .str [32, 9]] (trimRightX_ok hr16) ⟨argR_m false rfl, argR_m false rfl, trivial⟩ ?_
        (try simp only [go_sem, Nat.reduceEqDiff, ↓reduceIte])
        refine hold2 (then_n ?_)
        refine J_seq ?_
        refine J_region (by kernel_rfl) ?_
        (try simp only [go_sem, Nat.reduceEqDiff, ↓reduceIte])
        refine hold2 (then_n ?_)
        refine J_condV rfl ?_
        (try simp only [go_sem, Nat.reduceEqDiff, ↓reduceIte])
        rcases ite_cases hP with ⟨hc, hP⟩ | ⟨hc, hP⟩
        · refine condV_t hc ?_
          refine J_regionP (by kernel_rfl) ?_
          (try simp only [go_sem, Nat.reduceEqDiff, ↓reduceIte])
          obtain ⟨r17, hr17, hP⟩ := bind_cases hP
          rcases r17 with p18 | r19 <;> dsimp only at hP
          · refine callP_p [.int .i64 (iadd .i64 from2 (List.length r16 : Int)), .int .i64 11] (head_fail_ok hr17) ⟨argR_m false rfl, argR_m false rfl, trivial⟩ (holdP (then_p ?_))
            obtain rfl := Option.some.inj hP
            exact finX_p rfl
          · cases hP
        · refine condV_f hc ?_
          refine J_skip (then_n ?_)
          refine J_seq ?_
          refine J_seq ?_
          refine J_region (by kernel_rfl) ?_
          (try simp only [go_sem, Nat.reduceEqDiff, ↓reduceIte])
          obtain ⟨r20, hr20, hP⟩ := bind_cases hP
          refine call_ok [.str r12.1] (lex_Token_ok hr20) ⟨argR_m false rfl, trivial⟩ ?_
          (try simp only [go_sem, Nat.reduceEqDiff, ↓reduceIte])
          refine hold2 (then_n ?_)
          refine J_condV rfl ?_
          (try simp only [go_sem, Nat.reduceEqDiff, ↓reduceIte])
          rcases ite_cases hP with ⟨hc, hP⟩ | ⟨hc, hP⟩
          · refine condV_t hc ?_
            refine J_regionP (by kernel_rfl) ?_
            (try simp only [go_sem, Nat.reduceEqDiff, ↓reduceIte])
            obtain ⟨r21, hr21, hP⟩ := bind_cases hP
            rcases r21 with p22 | r23 <;> dsimp only at hP
            · refine callP_p [.int .i64 from2, .int .i64 7] (head_fail_ok hr21) ⟨argR_m false rfl, argR_m false rfl, trivial⟩ (holdP (then_p ?_))
              obtain rfl := Option.some.inj hP
              exact finX_p rfl
            · cases hP
          · refine condV_f hc ?_
            refine J_skip (then_n ?_)
            refine J_seq ?_
            refine J_regionP (by kernel_rfl) ?_
            (try simp only [go_sem, Nat.reduceEqDiff, ↓reduceIte])
            obtain ⟨r24, hr24, hP⟩ := bind_cases hP
            rcases r24 with p25 | r26 <;> dsimp only at hP
            · refine callP_p [.str line1, .int .i64 from2, .int .i64 (iadd .i64 (List.length r12.1 : Int) 1)] (head_clean_ok hr24) ⟨argR_m false rfl, argR_m false rfl, argR_m false rfl, trivial⟩ (holdP (then_p ?_))
              obtain rfl := Option.some.inj hP
              exact finX_p rfl
            · refine callP_n (call_ok [.str line1, .int .i64 from2, .int .i64 (iadd .i64 (List.length r12.1 : Int) 1)] (CallX.ok (head_clean_ok hr24)) ⟨argR_m false rfl, argR_m false rfl, argR_m false rfl, trivial⟩ ?_)
              (try simp only [go_sem, Nat.reduceEqDiff, ↓reduceIte])
              refine hold2 (then_n ?_)
              refine J_seq ?_
              refine J_region (by kernel_rfl) ?_
              (try simp only [go_sem, Nat.reduceEqDiff, ↓reduceIte])
              obtain ⟨r27, hr27, hP⟩ := bind_cases hP
              refine call_ok [.str r12.2.1] (lex_Trim_ok hr27) ⟨argR_m false rfl, trivial⟩ ?_
              (try simp only [go_sem, Nat.reduceEqDiff, ↓reduceIte, Nat.reduceAdd, Nat.reduceSub, Nat.reduceLT, Nat.reduceMul, reduceCtorEq, Int.reduceToNat, Int.reduceLE, Int.reduceLT, Nat.reduceLeDiff])
              refine hold2 (then_n ?_)
              refine J_ret ?_
              obtain rfl := Option.some.inj hP
              refine finX_ret ?_
              (try simp only [go_sem, Nat.reduceEqDiff, ↓reduceIte])
              exact fo []
/-- colander/head.host$1 -/
def head_host_1 (r1 : Int) : Option (Bool) :=
  if decide (48 ≤ r1) then
    some (decide (r1 ≤ 57))
  else
    some false
set_option maxRecDepth 100000 in
set_option maxHeartbeats 40000000 in
theorem head_host_1_ok {r1 : Int} {r : Bool} (hP : head_host_1 r1 = some r) : CallOK Tryd.prog 37 [.int .i32 r1] (.bool r) [] := by
  unfold head_host_1 at hP
  refine co 9 [.tmp 2] Tryd.func37 ?_
  refine J_seq ?_
  refine J_region (by kernel_rfl) ?_
  (try simp only [go_sem, Nat.reduceEqDiff, ↓reduceIte])
  refine hold2 (then_n ?_)
  refine J_seq ?_
  refine J_region (by kernel_rfl) ?_
  (try simp only [go_sem, Nat.reduceEqDiff, ↓reduceIte])
  rcases ite_cases hP with ⟨hc, hP⟩ | ⟨hc, hP⟩
  · refine guard_is hc ?_
    (try simp only [go_sem, Nat.reduceEqDiff, ↓reduceIte])
    refine hold2 (then_n ?_)
    refine J_ret (fin_ret ?_)
    obtain rfl := Option.some.inj hP
    (try simp only [go_sem, Nat.reduceEqDiff, ↓reduceIte])
    exact fo []
  · refine guard_not hc ?_
    (try simp only [go_sem, Nat.reduceEqDiff, ↓reduceIte])
    refine hold2 (then_n ?_)
    refine J_ret (fin_ret ?_)
    obtain rfl := Option.some.inj hP
    (try simp only [go_sem, Nat.reduceEqDiff, ↓reduceIte])
    exact fo []
/-- colander/head.host -/
def strings_indexFunc_L1491 (r4 : (List UInt8) × (List UInt8) × Bool) : Nat → Nat → Option (Sum (Int) (Unit))
  | 0, _ => none
  | k1469 + 1, l1468 =>
    if decide (l1468 < List.length r4.1) then
      (show Option (Bool) from
        (show Option (Bool) from
          if decide (97 ≤ (((decR r4.1 l1468).1 : Nat) : Int)) then
            if decide ((((decR r4.1 l1468).1 : Nat) : Int) ≤ 122) then
              some false
            else
              if decide (65 ≤ (((decR r4.1 l1468).1 : Nat) : Int)) then
                if decide ((((decR r4.1 l1468).1 : Nat) : Int) ≤ 90) then
                  some false
                else
                  (head_host_1 (((decR r4.1 l1468).1 : Nat) : Int)).bind fun r1507 =>
                  if r1507 then
                    some false
                  else
                    if decide ((((decR r4.1 l1468).1 : Nat) : Int) = 46) then
                      some false
                    else
                      some (!(decide ((((decR r4.1 l1468).1 : Nat) : Int) = 45)))
              else
                (head_host_1 (((decR r4.1 l1468).1 : Nat) : Int)).bind fun r1508 =>
                if r1508 then
                  some false
                else
                  if decide ((((decR r4.1 l1468).1 : Nat) : Int) = 46) then
                    some false
                  else
                    some (!(decide ((((decR r4.1 l1468).1 : Nat) : Int) = 45)))
          else
            if decide (65 ≤ (((decR r4.1 l1468).1 : Nat) : Int)) then
              if decide ((((decR r4.1 l1468).1 : Nat) : Int) ≤ 90) then
                some false
              else
                (head_host_1 (((decR r4.1 l1468).1 : Nat) : Int)).bind fun r1509 =>
                if r1509 then
                  some false
                else
                  if decide ((((decR r4.1 l1468).1 : Nat) : Int) = 46) then
                    some false
                  else
                    some (!(decide ((((decR r4.1 l1468).1 : Nat) : Int) = 45)))
            else
              (head_host_1 (((decR r4.1 l1468).1 : Nat) : Int)).bind fun r1510 =>
              if r1510 then
                some false
              else
                if decide ((((decR r4.1 l1468).1 : Nat) : Int) = 46) then
                  some false
                else
                  some (!(decide ((((decR r4.1 l1468).1 : Nat) : Int) = 45)))).bind fun j1511 =>
          some j1511).bind fun a1512 =>
        if a1512 == true then
          some (Sum.inl ((l1468 : Nat) : Int))
        else
          strings_indexFunc_L1491 r4 k1469 (l1468 + (decR r4.1 l1468).2)
    else
      some (Sum.inr ())
def strings_indexFunc_L1692 (r4 : (List UInt8) × (List UInt8) × Bool) : Nat → Nat → Option (Sum (Int) (Unit))
  | 0, _ => none
  | k1688 + 1, l1687 =>
    if decide (l1687 < List.length r4.2.1) then
      (show Option (Bool) from
        (head_host_1 (((decR r4.2.1 l1687).1 : Nat) : Int)).bind fun r1694 =>
        some (!r1694)).bind fun a1695 =>
        if a1695 == true then
          some (Sum.inl ((l1687 : Nat) : Int))
        else
          strings_indexFunc_L1692 r4 k1688 (l1687 + (decR r4.2.1 l1687).2)
    else
      some (Sum.inr ())
def head_host (l1 : List ((List UInt8) × (List UInt8))) : Option (Bool) :=
  (fields_All l1 [104, 111, 115, 116]).bind fun r2 =>
  if !decide (((List.length r2 : Nat) : Int) = 1) then
    some false
  else
    (ixL r2 0).bind fun x3 =>
    (cutX x3 [58]).bind fun r4 =>
    (show Option (Bool) from
      if decide (r4.1 = []) then
        some true
      else
        (show Option (Bool) from
          (show Option (Int) from
            (show Option (Int) from
              (strings_indexFunc_L1491 r4 140737488355328 0).bind fun o1514 => match o1514 with
              | Sum.inl r => some r
              | Sum.inr j1515 =>
                some (-1)).bind fun a1516 =>
              some a1516).bind fun a1518 =>
            some (decide (0 ≤ a1518))).bind fun a1520 =>
          some a1520).bind fun j1522 =>
      if j1522 then
        some false
      else
        if !r4.2.2 then
          some true
        else
          if decide (1 ≤ (List.length r4.2.1 : Int)) then
            if decide ((List.length r4.2.1 : Int) ≤ 5) then
              (show Option (Bool) from
                (show Option (Int) from
                  (show Option (Int) from
                    (strings_indexFunc_L1692 r4 140737488355328 0).bind fun o1697 => match o1697 with
                    | Sum.inl r => some r
                    | Sum.inr j1698 =>
                      some (-1)).bind fun a1699 =>
                    some a1699).bind fun a1701 =>
                  some (decide (0 ≤ a1701))).bind fun a1703 =>
                some (!a1703)
            else
              some false
          else
            some false
set_option maxRecDepth 100000 in
set_option maxHeartbeats 40000000 in
theorem head_host_ok {l1 : List ((List UInt8) × (List UInt8))} {r : Bool} (hP : head_host l1 = some r) : CallOK Tryd.prog 23 [.view 2 (List.map enc_api_Field l1)] (.bool r) [] := by
  unfold head_host at hP
  refine co 48 [.tmp 2] Tryd.func23 ?_
  refine J_seq ?_
  refine J_region (by kernel_rfl) ?_
  (try simp only [go_sem, Nat.reduceEqDiff, ↓reduceIte])
  refine hold2 (then_n ?_)
  refine J_seq ?_
  refine J_region (by kernel_rfl) ?_
  (try simp only [go_sem, Nat.reduceEqDiff, ↓reduceIte])
  obtain ⟨r2, hr2, hP⟩ := bind_cases hP
  refine call_ok [.view 2 (List.map enc_api_Field l1), .str [104, 111, 115, 116]] (fields_All_ok hr2) ⟨argR_m false rfl, argR_m false rfl, trivial⟩ ?_
  (try simp only [go_sem, Nat.reduceEqDiff, ↓reduceIte])
  refine hold2 (then_n ?_)
  refine J_seq ?_
  refine J_seq ?_
  refine J_region (by kernel_rfl) ?_
  (try simp only [go_sem, Nat.reduceEqDiff, ↓reduceIte])
  refine hold2 (then_n ?_)
  refine J_condV rfl ?_
  (try simp only [go_sem, Nat.reduceEqDiff, ↓reduceIte])
  rcases ite_cases hP with ⟨hc, hP⟩ | ⟨hc, hP⟩
  · refine condV_t hc ?_
    refine J_seq ?_
    refine J_region (by kernel_rfl) ?_
    (try simp only [go_sem, Nat.reduceEqDiff, ↓reduceIte])
    refine hold2 (then_n ?_)
    refine J_ret (then_ret (fin_ret ?_))
    obtain rfl := Option.some.inj hP
    (try simp only [go_sem, Nat.reduceEqDiff, ↓reduceIte])
    exact fo []
  · refine condV_f hc ?_
    refine J_skip (then_n ?_)
    refine J_seq ?_
    refine J_region (by kernel_rfl) ?_
    (try simp only [go_sem, Nat.reduceEqDiff, ↓reduceIte])
    obtain ⟨x3, hx3, hP⟩ := bind_cases hP
    refine ixO_of hx3 ?_
    (try simp only [go_sem, Nat.reduceEqDiff, ↓reduceIte])
    refine getK_of (f := encS) hx3 ?_
    (try simp only [go_sem, Nat.reduceEqDiff, ↓reduceIte])
    obtain ⟨r4, hr4, hP⟩ := bind_cases hP
    refine call_ok [.str x3, .str [58]] (cutX_ok hr4) ⟨argR_m false rfl, argR_m false rfl, trivial⟩ ?_
    (try simp only [go_sem, Nat.reduceEqDiff, ↓reduceIte])
    refine hold2 (then_n ?_)
    refine J_seq ?_
    refine J_region (by kernel_rfl) ?_
    (try simp only [go_sem, Nat.reduceEqDiff, ↓reduceIte])
    refine hold2 (then_n ?_)
    refine J_seq ?_
    refine J_region (by kernel_rfl) ?_
    (try simp only [go_sem, Nat.reduceEqDiff, ↓reduceIte])
    refine hold2 (then_n ?_)
    refine J_seq ?_
    obtain ⟨o763, hP, hQ763⟩ := bind_cases hP
    refine J_join (fun (s : Bool) => envL [(5, .str r4.2.1), (6, .bool r4.2.2), (7, .bptr 0 0), (29, .bool s)]) (fun (s : Bool) => [.box 80 [.fn 37 []]]) (fun s => s = o763) ?_ ?_
    · clear hQ763
      refine J_region (by kernel_rfl) ?_
      (try simp only [go_sem, Nat.reduceEqDiff, ↓reduceIte])
      rcases ite_cases hP with ⟨hc, hP⟩ | ⟨hc, hP⟩
      · refine guard_not hc ?_
        (try simp only [go_sem, Nat.reduceEqDiff, ↓reduceIte])
        refine hold2 ?_
        exact join_n true (Option.some.inj hP) (so [1])
      · refine guard_is hc ?_
        (try simp only [go_sem, Nat.reduceEqDiff, ↓reduceIte])
        obtain ⟨o1521, hP, hQ1520⟩ := bind_cases hP
        refine call_join (fun (s : Bool) => .bool s) (fun (s : Bool) => envL [(5, .str r4.2.1), (6, .bool r4.2.2), (7, .bptr 0 0), (25, .bool false)]) (fun (s : Bool) => [.box 80 [.fn 37 []]]) (fun s => s = o1521) (callI_of (n := 9) (rs := [.tmp 4]) Tryd.func33 rfl (by decide) rfl rfl (by simp) rfl ?_) ?_
        · clear hQ1520
          refine J_seq ?_
          refine J_region (by kernel_rfl) ?_
          (try simp only [go_sem, Nat.reduceEqDiff, ↓reduceIte])
          refine hold2 (then_n ?_)
          refine J_seq ?_
          refine J_region (by kernel_rfl) ?_
          (try simp only [go_sem, Nat.reduceEqDiff, ↓reduceIte])
          obtain ⟨o1519, hP, hQ1518⟩ := bind_cases hP
          refine call_join (fun (s : Int) => .int .i64 s) (fun (s : Int) => envL [(4, .bool false), (14, .str r4.2.1), (15, .bool r4.2.2), (16, .bptr 0 0), (34, .bool false)]) (fun (s : Int) => [.box 80 [.fn 37 []]]) (fun s => s = o1519) (callI_of (n := 8) (rs := [.tmp 4]) Tryd.func49 rfl (by decide) rfl rfl (by simp) rfl ?_) ?_
          · clear hQ1518
            refine J_seq ?_
            refine J_region (by kernel_rfl) ?_
            (try simp only [go_sem, Nat.reduceEqDiff, ↓reduceIte])
            refine hold2 (then_n ?_)
            refine J_seq ?_
            refine J_region (by kernel_rfl) ?_
            (try simp only [go_sem, Nat.reduceEqDiff, ↓reduceIte])
            obtain ⟨o1517, hP, hQ1516⟩ := bind_cases hP
            refine call_join (fun (s : Int) => .int .i64 s) (fun (s : Int) => envL [(4, .int .i64 0), (12, .bool false), (22, .str r4.2.1), (23, .bool r4.2.2), (24, .bptr 0 0), (42, .bool false)]) (fun (s : Int) => [.box 80 [.fn 37 []]]) (fun s => s = o1517) (callI_of (n := 21) (rs := [.tmp 6]) Tryd.func62 rfl (by decide) rfl rfl (by simp) rfl ?_) ?_
            · clear hQ1516
              refine J_seq ?_
              refine J_region (by kernel_rfl) ?_
              (try simp only [go_sem, Nat.reduceEqDiff, ↓reduceIte])
              refine hold2 (then_n ?_)
              refine J_seq ?_
              refine J_seq ?_
              refine J_region (by kernel_rfl) ?_
              (try simp only [go_sem, Nat.reduceEqDiff, ↓reduceIte])
              refine hold2 (then_n ?_)
              obtain ⟨o1514, hP, hQ1491⟩ := bind_cases hP
              refine J_joinK0 (fun (s : Unit) => envL [(25, .int .i64 0), (33, .bool false), (43, .str r4.2.1), (44, .bool r4.2.2), (45, .bptr 0 0), (63, .bool false)]) (fun (s : Unit) => [.box 80 [.fn 37 []]]) (fun s => Sum.inr s = o1514) ?_ ?_
              · refine J_block ?_
                refine J_loop (σ := Nat × Nat) (fun (s : Nat × Nat) => envL [(1, .fn 38 [.bptr 0 0]), (2, .bool true), (10, .bptr 1 0), (25, .int .i64 0), (33, .bool false), (43, .str r4.2.1), (44, .bool r4.2.2), (45, .bptr 0 0), (63, .bool false)]) (fun (s : Nat × Nat) => [.box 80 [.fn 37 []], .iter r4.1 s.2]) (fun s => strings_indexFunc_L1491 r4 s.1 s.2 = some o1514) (fun s => s.1) (140737488355328, 0) hP (so [1, 2]) ?_
                rintro ⟨k1469, l1468⟩ hP
                dsimp only at hP ⊢
                cases k1469 with
                | zero => simp [strings_indexFunc_L1491] at hP
                | succ k1469 =>
                  simp only [strings_indexFunc_L1491] at hP
                  refine J_seq ?_
                  refine J_region (by kernel_rfl) ?_
                  (try simp only [go_sem, Nat.reduceEqDiff, ↓reduceIte])
                  rcases ite_cases hP with ⟨hc, hP⟩ | ⟨hc, hP⟩
                  · refine guard_is hc ?_
                    (try conv => arg 5; simp only [go_sem, Nat.reduceEqDiff, ↓reduceIte])
                    (try simp only [go_sem, Nat.reduceEqDiff, ↓reduceIte])
                    refine hold2 (then_n ?_)
                    refine J_seq ?_
                    refine J_condV rfl ?_
                    (try simp only [go_sem, Nat.reduceEqDiff, ↓reduceIte])
                    refine J_skip (then_n ?_)
                    refine J_block ?_
                    refine J_seq ?_
                    refine J_region (by kernel_rfl) ?_
                    (try simp only [go_sem, Nat.reduceEqDiff, ↓reduceIte])
                    refine hold2 (then_n ?_)
                    refine J_seq ?_
                    refine J_region (by kernel_rfl) ?_
                    (try simp only [go_sem, Nat.reduceEqDiff, ↓reduceIte])
                    obtain ⟨o1513, hP, hQ1512⟩ := bind_cases hP
                    refine call_join (fun (s : Bool) => .bool s) (fun (s : Bool) => envL [(1, .fn 38 [.bptr 0 0]), (2, .bool true), (7, .int .i64 ((l1468 : Nat) : Int)), (10, .bptr 1 0), (25, .int .i64 0), (33, .bool false), (43, .str r4.2.1), (44, .bool r4.2.2), (45, .bptr 0 0), (63, .bool false)]) (fun (s : Bool) => [.box 80 [.fn 37 []], .iter r4.1 (l1468 + (decR r4.1 l1468).2)]) (fun s => s = o1513) (callI_of (n := 32) (rs := [.tmp 3]) Tryd.func38 rfl (by decide) rfl rfl (by simp) rfl ?_) ?_
                    · clear hQ1512
                      refine J_seq ?_
                      refine J_region (by kernel_rfl) ?_
                      (try simp only [go_sem, Nat.reduceEqDiff, ↓reduceIte])
                      refine hold2 (then_n ?_)
                      obtain ⟨o1506, hP, hQ1506⟩ := bind_cases hP
                      refine J_join (fun (s : Bool) => envL [(3, .bool s), (33, .fn 38 [.bptr 0 0]), (34, .bool true), (39, .int .i64 ((l1468 : Nat) : Int)), (42, .bptr 1 0), (57, .int .i64 0), (65, .bool false), (75, .str r4.2.1), (76, .bool r4.2.2), (77, .bptr 0 0), (95, .bool false)]) (fun (s : Bool) => [.box 80 [.fn 37 []], .iter r4.1 (l1468 + (decR r4.1 l1468).2)]) (fun s => s = o1506) ?_ ?_
                      · clear hQ1506
                        refine J_region (by kernel_rfl) ?_
                        (try simp only [go_sem, Nat.reduceEqDiff, ↓reduceIte, Nat.reduceAdd, Nat.reduceSub, Nat.reduceLT, Nat.reduceMul, reduceCtorEq, Int.reduceToNat, Int.reduceLE, Int.reduceLT, Nat.reduceLeDiff])
                        rcases ite_cases hP with ⟨hc, hP⟩ | ⟨hc, hP⟩
                        · refine guard_is hc ?_
                          (try conv => arg 5; simp only [go_sem, Nat.reduceEqDiff, ↓reduceIte])
                          (try simp only [go_sem, Nat.reduceEqDiff, ↓reduceIte, Nat.reduceAdd, Nat.reduceSub, Nat.reduceLT, Nat.reduceMul, reduceCtorEq, Int.reduceToNat, Int.reduceLE, Int.reduceLT, Nat.reduceLeDiff])
                          rcases ite_cases hP with ⟨hc, hP⟩ | ⟨hc, hP⟩
                          · refine guard_not hc ?_
                            (try conv => arg 5; simp only [go_sem, Nat.reduceEqDiff, ↓reduceIte])
                            (try simp only [go_sem, Nat.reduceEqDiff, ↓reduceIte, Nat.reduceAdd, Nat.reduceSub, Nat.reduceLT, Nat.reduceMul, reduceCtorEq, Int.reduceToNat, Int.reduceLE, Int.reduceLT, Nat.reduceLeDiff])
                            refine hold2 ?_
                            exact join_n false (Option.some.inj hP) (so [0, 1])
                          · refine guard_is hc ?_
                            (try conv => arg 5; simp only [go_sem, Nat.reduceEqDiff, ↓reduceIte])
                            (try simp only [go_sem, Nat.reduceEqDiff, ↓reduceIte, Nat.reduceAdd, Nat.reduceSub, Nat.reduceLT, Nat.reduceMul, reduceCtorEq, Int.reduceToNat, Int.reduceLE, Int.reduceLT, Nat.reduceLeDiff])
                            rcases ite_cases hP with ⟨hc, hP⟩ | ⟨hc, hP⟩
                            · refine guard_is hc ?_
                              (try conv => arg 5; simp only [go_sem, Nat.reduceEqDiff, ↓reduceIte])
                              (try simp only [go_sem, Nat.reduceEqDiff, ↓reduceIte, Nat.reduceAdd, Nat.reduceSub, Nat.reduceLT, Nat.reduceMul, reduceCtorEq, Int.reduceToNat, Int.reduceLE, Int.reduceLT, Nat.reduceLeDiff])
                              rcases ite_cases hP with ⟨hc, hP⟩ | ⟨hc, hP⟩
                              · refine guard_not hc ?_
                                (try conv => arg 5; simp only [go_sem, Nat.reduceEqDiff, ↓reduceIte])
                                (try simp only [go_sem, Nat.reduceEqDiff, ↓reduceIte, Nat.reduceAdd, Nat.reduceSub, Nat.reduceLT, Nat.reduceMul, reduceCtorEq, Int.reduceToNat, Int.reduceLE, Int.reduceLT, Nat.reduceLeDiff])
                                refine hold2 ?_
                                exact join_n false (Option.some.inj hP) (so [0, 1])
                              · refine guard_is hc ?_
                                (try conv => arg 5; simp only [go_sem, Nat.reduceEqDiff, ↓reduceIte])
                                (try simp only [go_sem, Nat.reduceEqDiff, ↓reduceIte])
                                obtain ⟨r1507, hr1507, hP⟩ := bind_cases hP
                                refine call_ok [.int .i32 (((decR r4.1 l1468).1 : Nat) : Int)] (head_host_1_ok hr1507) ⟨argR_m false rfl, trivial⟩ ?_
                                (try simp only [go_sem, Nat.reduceEqDiff, ↓reduceIte])
                                rcases ite_cases hP with ⟨hc, hP⟩ | ⟨hc, hP⟩
                                · refine guard_not hc ?_
                                  (try conv => arg 5; simp only [go_sem, Nat.reduceEqDiff, ↓reduceIte])
                                  (try simp only [go_sem, Nat.reduceEqDiff, ↓reduceIte])
                                  refine hold2 ?_
                                  exact join_n false (Option.some.inj hP) (so [0, 1])
                                · refine guard_is hc ?_
                                  (try conv => arg 5; simp only [go_sem, Nat.reduceEqDiff, ↓reduceIte])
                                  (try simp only [go_sem, Nat.reduceEqDiff, ↓reduceIte, Nat.reduceAdd, Nat.reduceSub, Nat.reduceLT, Nat.reduceMul, reduceCtorEq, Int.reduceToNat, Int.reduceLE, Int.reduceLT, Nat.reduceLeDiff])
                                  rcases ite_cases hP with ⟨hc, hP⟩ | ⟨hc, hP⟩
                                  · refine guard_not hc ?_
                                    (try conv => arg 5; simp only [go_sem, Nat.reduceEqDiff, ↓reduceIte])
                                    (try simp only [go_sem, Nat.reduceEqDiff, ↓reduceIte, Nat.reduceAdd, Nat.reduceSub, Nat.reduceLT, Nat.reduceMul, reduceCtorEq, Int.reduceToNat, Int.reduceLE, Int.reduceLT, Nat.reduceLeDiff])
                                    refine hold2 ?_
                                    exact join_n false (Option.some.inj hP) (so [0, 1])
                                  · refine guard_is hc ?_
                                    (try conv => arg 5; simp only [go_sem, Nat.reduceEqDiff, ↓reduceIte])
                                    (try simp only [go_sem, Nat.reduceEqDiff, ↓reduceIte, Nat.reduceAdd, Nat.reduceSub, Nat.reduceLT, Nat.reduceMul, reduceCtorEq, Int.reduceToNat, Int.reduceLE, Int.reduceLT, Nat.reduceLeDiff])
                                    refine hold2 ?_
                                    exact join_n (!(decide ((((decR r4.1 l1468).1 : Nat) : Int) = 45))) (Option.some.inj hP) (so [0, 1])
                            · refine guard_not hc ?_
                              (try conv => arg 5; simp only [go_sem, Nat.reduceEqDiff, ↓reduceIte])
                              (try simp only [go_sem, Nat.reduceEqDiff, ↓reduceIte])
                              obtain ⟨r1508, hr1508, hP⟩ := bind_cases hP
                              refine call_ok [.int .i32 (((decR r4.1 l1468).1 : Nat) : Int)] (head_host_1_ok hr1508) ⟨argR_m false rfl, trivial⟩ ?_
                              (try simp only [go_sem, Nat.reduceEqDiff, ↓reduceIte])
                              rcases ite_cases hP with ⟨hc, hP⟩ | ⟨hc, hP⟩
                              · refine guard_not hc ?_
                                (try conv => arg 5; simp only [go_sem, Nat.reduceEqDiff, ↓reduceIte])
                                (try simp only [go_sem, Nat.reduceEqDiff, ↓reduceIte])
                                refine hold2 ?_
                                exact join_n false (Option.some.inj hP) (so [0, 1])
                              · refine guard_is hc ?_
                                (try conv => arg 5; simp only [go_sem, Nat.reduceEqDiff, ↓reduceIte])
                                (try simp only [go_sem, Nat.reduceEqDiff, ↓reduceIte, Nat.reduceAdd, Nat.reduceSub, Nat.reduceLT, Nat.reduceMul, reduceCtorEq, Int.reduceToNat, Int.reduceLE, Int.reduceLT, Nat.reduceLeDiff])
                                rcases ite_cases hP with ⟨hc, hP⟩ | ⟨hc, hP⟩
                                · refine guard_not hc ?_
                                  (try conv => arg 5; simp only [go_sem, Nat.reduceEqDiff, ↓reduceIte])
                                  (try simp only [go_sem, Nat.reduceEqDiff, ↓reduceIte, Nat.reduceAdd, Nat.reduceSub, Nat.reduceLT, Nat.reduceMul, reduceCtorEq, Int.reduceToNat, Int.reduceLE, Int.reduceLT, Nat.reduceLeDiff])
                                  refine hold2 ?_
                                  exact join_n false (Option.some.inj hP) (so [0, 1])
                                · refine guard_is hc ?_
                                  (try conv => arg 5; simp only [go_sem, Nat.reduceEqDiff, ↓reduceIte])
                                  (try simp only [go_sem, Nat.reduceEqDiff, ↓reduceIte, Nat.reduceAdd, Nat.reduceSub, Nat.reduceLT, Nat.reduceMul, reduceCtorEq, Int.reduceToNat, Int.reduceLE, Int.reduceLT, Nat.reduceLeDiff])
                                  refine hold2 ?_
                                  exact join_n (!(decide ((((decR r4.1 l1468).1 : Nat) : Int) = 45))) (Option.some.inj hP) (so [0, 1])
                        · refine guard_not hc ?_
                          (try conv => arg 5; simp only [go_sem, Nat.reduceEqDiff, ↓reduceIte])
                          (try simp only [go_sem, Nat.reduceEqDiff, ↓reduceIte, Nat.reduceAdd, Nat.reduceSub, Nat.reduceLT, Nat.reduceMul, reduceCtorEq, Int.reduceToNat, Int.reduceLE, Int.reduceLT, Nat.reduceLeDiff])
                          rcases ite_cases hP with ⟨hc, hP⟩ | ⟨hc, hP⟩
                          · refine guard_is hc ?_
                            (try conv => arg 5; simp only [go_sem, Nat.reduceEqDiff, ↓reduceIte])
                            (try simp only [go_sem, Nat.reduceEqDiff, ↓reduceIte, Nat.reduceAdd, Nat.reduceSub, Nat.reduceLT, Nat.reduceMul, reduceCtorEq, Int.reduceToNat, Int.reduceLE, Int.reduceLT, Nat.reduceLeDiff])
                            rcases ite_cases hP with ⟨hc, hP⟩ | ⟨hc, hP⟩
                            · refine guard_not hc ?_
                              (try conv => arg 5; simp only [go_sem, Nat.reduceEqDiff, ↓reduceIte])
                              (try simp only [go_sem, Nat.reduceEqDiff, ↓reduceIte, Nat.reduceAdd, Nat.reduceSub, Nat.reduceLT, Nat.reduceMul, reduceCtorEq, Int.reduceToNat, Int.reduceLE, Int.reduceLT, Nat.reduceLeDiff])
                              refine hold2 ?_
                              exact join_n false (Option.some.inj hP) (so [0, 1])
                            · refine guard_is hc ?_
                              (try conv => arg 5; simp only [go_sem, Nat.reduceEqDiff, ↓reduceIte])
                              (try simp only [go_sem, Nat.reduceEqDiff, ↓reduceIte])
                              obtain ⟨r1509, hr1509, hP⟩ := bind_cases hP
                              refine call_ok [.int .i32 (((decR r4.1 l1468).1 : Nat) : Int)] (head_host_1_ok hr1509) ⟨argR_m false rfl, trivial⟩ ?_
                              (try simp only [go_sem, Nat.reduceEqDiff, ↓reduceIte])
                              rcases ite_cases hP with ⟨hc, hP⟩ | ⟨hc, hP⟩
                              · refine guard_not hc ?_
                                (try conv => arg 5; simp only [go_sem, Nat.reduceEqDiff, ↓reduceIte])
                                (try simp only [go_sem, Nat.reduceEqDiff, ↓reduceIte])
                                refine hold2 ?_
                                exact join_n false (Option.some.inj hP) (so [0, 1])
                              · refine guard_is hc ?_
                                (try conv => arg 5; simp only [go_sem, Nat.reduceEqDiff, ↓reduceIte])
                                (try simp only [go_sem, Nat.reduceEqDiff, ↓reduceIte, Nat.reduceAdd, Nat.reduceSub, Nat.reduceLT, Nat.reduceMul, reduceCtorEq, Int.reduceToNat, Int.reduceLE, Int.reduceLT, Nat.reduceLeDiff])
                                rcases ite_cases hP with ⟨hc, hP⟩ | ⟨hc, hP⟩
                                · refine guard_not hc ?_
                                  (try conv => arg 5; simp only [go_sem, Nat.reduceEqDiff, ↓reduceIte])
                                  (try simp only [go_sem, Nat.reduceEqDiff, ↓reduceIte, Nat.reduceAdd, Nat.reduceSub, Nat.reduceLT, Nat.reduceMul, reduceCtorEq, Int.reduceToNat, Int.reduceLE, Int.reduceLT, Nat.reduceLeDiff])
                                  refine hold2 ?_
                                  exact join_n false (Option.some.inj hP) (so [0, 1])
                                · refine guard_is hc ?_
                                  (try conv => arg 5; simp only [go_sem, Nat.reduceEqDiff, ↓reduceIte])
                                  (try simp only [go_sem, Nat.reduceEqDiff, ↓reduceIte, Nat.reduceAdd, Nat.reduceSub, Nat.reduceLT, Nat.reduceMul, reduceCtorEq, Int.reduceToNat, Int.reduceLE, Int.reduceLT, Nat.reduceLeDiff])
                                  refine hold2 ?_
                                  exact join_n (!(decide ((((decR r4.1 l1468).1 : Nat) : Int) = 45))) (Option.some.inj hP) (so [0, 1])
                          · refine guard_not hc ?_
                            (try conv => arg 5; simp only [go_sem, Nat.reduceEqDiff, ↓reduceIte])
                            (try simp only [go_sem, Nat.reduceEqDiff, ↓reduceIte])
                            obtain ⟨r1510, hr1510, hP⟩ := bind_cases hP
                            refine call_ok [.int .i32 (((decR r4.1 l1468).1 : Nat) : Int)] (head_host_1_ok hr1510) ⟨argR_m false rfl, trivial⟩ ?_
                            (try simp only [go_sem, Nat.reduceEqDiff, ↓reduceIte])
                            rcases ite_cases hP with ⟨hc, hP⟩ | ⟨hc, hP⟩
                            · refine guard_not hc ?_
                              (try conv => arg 5; simp only [go_sem, Nat.reduceEqDiff, ↓reduceIte])
                              (try simp only [go_sem, Nat.reduceEqDiff, ↓reduceIte])
                              refine hold2 ?_
                              exact join_n false (Option.some.inj hP) (so [0, 1])
                            · refine guard_is hc ?_
                              (try conv => arg 5; simp only [go_sem, Nat.reduceEqDiff, ↓reduceIte])
                              (try simp only [go_sem, Nat.reduceEqDiff, ↓reduceIte, Nat.reduceAdd, Nat.reduceSub, Nat.reduceLT, Nat.reduceMul, reduceCtorEq, Int.reduceToNat, Int.reduceLE, Int.reduceLT, Nat.reduceLeDiff])
                              rcases ite_cases hP with ⟨hc, hP⟩ | ⟨hc, hP⟩
                              · refine guard_not hc ?_
                                (try conv => arg 5; simp only [go_sem, Nat.reduceEqDiff, ↓reduceIte])
                                (try simp only [go_sem, Nat.reduceEqDiff, ↓reduceIte, Nat.reduceAdd, Nat.reduceSub, Nat.reduceLT, Nat.reduceMul, reduceCtorEq, Int.reduceToNat, Int.reduceLE, Int.reduceLT, Nat.reduceLeDiff])
                                refine hold2 ?_
                                exact join_n false (Option.some.inj hP) (so [0, 1])
                              · refine guard_is hc ?_
                                (try conv => arg 5; simp only [go_sem, Nat.reduceEqDiff, ↓reduceIte])
                                (try simp only [go_sem, Nat.reduceEqDiff, ↓reduceIte, Nat.reduceAdd, Nat.reduceSub, Nat.reduceLT, Nat.reduceMul, reduceCtorEq, Int.reduceToNat, Int.reduceLE, Int.reduceLT, Nat.reduceLeDiff])
                                refine hold2 ?_
                                exact join_n (!(decide ((((decR r4.1 l1468).1 : Nat) : Int) = 45))) (Option.some.inj hP) (so [0, 1])
                      · intro j1511 hs
                        subst hs
                        have hP := hQ1506
                        clear hQ1506
                        refine J_ret (finI_ret ?_)
                        exact told_of ⟨j1511, Option.some.inj hP, sr [0, 1]⟩
                    · intro a1512 hs
                      subst hs
                      have hP := hQ1512
                      clear hQ1512
                      (try simp only [go_sem, Nat.reduceEqDiff, ↓reduceIte])
                      refine hold2 (then_n ?_)
                      refine J_condV rfl ?_
                      (try simp only [go_sem, Nat.reduceEqDiff, ↓reduceIte])
                      rcases ite_cases hP with ⟨hc, hP⟩ | ⟨hc, hP⟩
                      · refine condV_t hc ?_
                        refine J_seq ?_
                        refine J_region (by kernel_rfl) ?_
                        (try simp only [go_sem, Nat.reduceEqDiff, ↓reduceIte])
                        refine hold2 (then_n ?_)
                        refine J_ret (block_ret (loop_ret (block_ret (join_ret (then_ret (finI_ret ?_))))))
                        obtain rfl := Option.some.inj hP
                        have hP := hQ1491
                        dsimp only at hP
                        exact told_of ⟨((l1468 : Nat) : Int), Option.some.inj hP, sr [0]⟩
                      · refine condV_f hc ?_
                        refine J_skip (block_n ?_)
                        exact loop_n (k1469, l1468 + (decR r4.1 l1468).2) hP (Nat.lt_succ_self _) (so [0, 1])
                  · refine guard_not hc ?_
                    (try conv => arg 5; simp only [go_sem, Nat.reduceEqDiff, ↓reduceIte])
                    (try simp only [go_sem, Nat.reduceEqDiff, ↓reduceIte])
                    refine hold2 (then_n ?_)
                    refine J_seq ?_
                    refine J_condV rfl ?_
                    (try simp only [go_sem, Nat.reduceEqDiff, ↓reduceIte])
                    refine J_exit (then_exit (loop_exit (block_eq ?_)))
                    exact join_n () (Option.some.inj hP) (so [0])
              · intro j1515 hs
                subst hs
                have hP := hQ1491
                dsimp only at hP
                clear hQ1491
                refine then_n ?_
                refine J_seq ?_
                refine J_region (by kernel_rfl) ?_
                (try simp only [go_sem, Nat.reduceEqDiff, ↓reduceIte])
                refine hold2 (then_n ?_)
                refine J_ret (finI_ret ?_)
                exact told_of ⟨(-1), Option.some.inj hP, sr [0]⟩
            · intro a1516 hs
              subst hs
              have hP := hQ1516
              clear hQ1516
              (try simp only [go_sem, Nat.reduceEqDiff, ↓reduceIte])
              refine hold2 (then_n ?_)
              refine J_ret (finI_ret ?_)
              exact told_of ⟨a1516, Option.some.inj hP, sr [0]⟩
          · intro a1518 hs
            subst hs
            have hP := hQ1518
            clear hQ1518
            (try simp only [go_sem, Nat.reduceEqDiff, ↓reduceIte])
            refine hold2 (then_n ?_)
            refine J_ret (finI_ret ?_)
            exact told_of ⟨(decide (0 ≤ a1518)), Option.some.inj hP, sr [0]⟩
        · intro a1520 hs
          subst hs
          have hP := hQ1520
          clear hQ1520
          (try simp only [go_sem, Nat.reduceEqDiff, ↓reduceIte])
          refine hold2 ?_
          exact join_n a1520 (Option.some.inj hP) (so [0])
    · intro j1522 hs
      subst hs
      have hP := hQ763
      clear hQ763
      refine J_condV rfl ?_
      (try simp only [go_sem, Nat.reduceEqDiff, ↓reduceIte])
      rcases ite_cases hP with ⟨hc, hP⟩ | ⟨hc, hP⟩
      · refine condV_t hc ?_
        refine J_seq ?_
        refine J_region (by kernel_rfl) ?_
        (try simp only [go_sem, Nat.reduceEqDiff, ↓reduceIte])
        refine hold2 (then_n ?_)
        refine J_ret (then_ret (fin_ret ?_))
        obtain rfl := Option.some.inj hP
        (try simp only [go_sem, Nat.reduceEqDiff, ↓reduceIte])
        exact fo []
      · refine condV_f hc ?_
        refine J_skip (then_n ?_)
        refine J_seq ?_
        refine J_region (by kernel_rfl) ?_
        (try simp only [go_sem, Nat.reduceEqDiff, ↓reduceIte])
        rcases ite_cases hP with ⟨hc, hP⟩ | ⟨hc, hP⟩
        · refine guard_not hc ?_
          (try simp only [go_sem, Nat.reduceEqDiff, ↓reduceIte])
          refine hold2 (then_n ?_)
          refine J_ret (fin_ret ?_)
          obtain rfl := Option.some.inj hP
          (try simp only [go_sem, Nat.reduceEqDiff, ↓reduceIte])
          exact fo []
        · refine guard_is hc ?_
          (try simp only [go_sem, Nat.reduceEqDiff, ↓reduceIte])
          rcases ite_cases hP with ⟨hc, hP⟩ | ⟨hc, hP⟩
          · refine guard_is hc ?_
            (try simp only [go_sem, Nat.reduceEqDiff, ↓reduceIte])
            rcases ite_cases hP with ⟨hc, hP⟩ | ⟨hc, hP⟩
            · refine guard_is hc ?_
              (try conv => arg 5; simp only [go_sem, Nat.reduceEqDiff, ↓reduceIte])
              (try simp only [go_sem, Nat.reduceEqDiff, ↓reduceIte])
              obtain ⟨o1704, hP, hQ1703⟩ := bind_cases hP
              refine call_join (fun (s : Bool) => .bool s) (fun (s : Bool) => envL [(32, .bool false), (41, .bool true)]) (fun (s : Bool) => []) (fun s => s = o1704) (callI_of (n := 9) (rs := [.tmp 4]) Tryd.func33 rfl (by decide) rfl rfl (by simp) rfl ?_) ?_
              · clear hQ1703
                refine J_seq ?_
                refine J_region (by kernel_rfl) ?_
                (try simp only [go_sem, Nat.reduceEqDiff, ↓reduceIte])
                refine hold2 (then_n ?_)
                refine J_seq ?_
                refine J_region (by kernel_rfl) ?_
                (try simp only [go_sem, Nat.reduceEqDiff, ↓reduceIte])
                obtain ⟨o1702, hP, hQ1701⟩ := bind_cases hP
                refine call_join (fun (s : Int) => .int .i64 s) (fun (s : Int) => envL [(4, .bool false), (41, .bool false), (50, .bool true)]) (fun (s : Int) => []) (fun s => s = o1702) (callI_of (n := 8) (rs := [.tmp 4]) Tryd.func49 rfl (by decide) rfl rfl (by simp) rfl ?_) ?_
                · clear hQ1701
                  refine J_seq ?_
                  refine J_region (by kernel_rfl) ?_
                  (try simp only [go_sem, Nat.reduceEqDiff, ↓reduceIte])
                  refine hold2 (then_n ?_)
                  refine J_seq ?_
                  refine J_region (by kernel_rfl) ?_
                  (try simp only [go_sem, Nat.reduceEqDiff, ↓reduceIte])
                  obtain ⟨o1700, hP, hQ1699⟩ := bind_cases hP
                  refine call_join (fun (s : Int) => .int .i64 s) (fun (s : Int) => envL [(4, .int .i64 0), (12, .bool false), (49, .bool false), (58, .bool true)]) (fun (s : Int) => []) (fun s => s = o1700) (callI_of (n := 21) (rs := [.tmp 6]) Tryd.func62 rfl (by decide) rfl rfl (by simp) rfl ?_) ?_
                  · clear hQ1699
                    refine J_seq ?_
                    refine J_region (by kernel_rfl) ?_
                    (try simp only [go_sem, Nat.reduceEqDiff, ↓reduceIte])
                    refine hold2 (then_n ?_)
                    refine J_seq ?_
                    refine J_seq ?_
                    refine J_region (by kernel_rfl) ?_
                    (try simp only [go_sem, Nat.reduceEqDiff, ↓reduceIte])
                    refine hold2 (then_n ?_)
                    obtain ⟨o1697, hP, hQ1692⟩ := bind_cases hP
                    refine J_joinK0 (fun (s : Unit) => envL [(25, .int .i64 0), (33, .bool false), (70, .bool false), (79, .bool true)]) (fun (s : Unit) => []) (fun s => Sum.inr s = o1697) ?_ ?_
                    · refine J_block ?_
                      refine J_loop (σ := Nat × Nat) (fun (s : Nat × Nat) => envL [(1, .fn 39 [.bptr 0 0]), (2, .bool true), (10, .bptr 1 0), (25, .int .i64 0), (33, .bool false), (70, .bool false), (79, .bool true)]) (fun (s : Nat × Nat) => [.box 80 [.fn 37 []], .iter r4.2.1 s.2]) (fun s => strings_indexFunc_L1692 r4 s.1 s.2 = some o1697) (fun s => s.1) (140737488355328, 0) hP (so [0, 1]) ?_
                      rintro ⟨k1688, l1687⟩ hP
                      dsimp only at hP ⊢
                      cases k1688 with
                      | zero => simp [strings_indexFunc_L1692] at hP
                      | succ k1688 =>
                        simp only [strings_indexFunc_L1692] at hP
                        refine J_seq ?_
                        refine J_region (by kernel_rfl) ?_
                        (try simp only [go_sem, Nat.reduceEqDiff, ↓reduceIte])
                        rcases ite_cases hP with ⟨hc, hP⟩ | ⟨hc, hP⟩
                        · refine guard_is hc ?_
                          (try conv => arg 5; simp only [go_sem, Nat.reduceEqDiff, ↓reduceIte])
                          (try simp only [go_sem, Nat.reduceEqDiff, ↓reduceIte])
                          refine hold2 (then_n ?_)
                          refine J_seq ?_
                          refine J_condV rfl ?_
                          (try simp only [go_sem, Nat.reduceEqDiff, ↓reduceIte])
                          refine J_skip (then_n ?_)
                          refine J_block ?_
                          refine J_seq ?_
                          refine J_region (by kernel_rfl) ?_
                          (try simp only [go_sem, Nat.reduceEqDiff, ↓reduceIte])
                          refine hold2 (then_n ?_)
                          refine J_seq ?_
                          refine J_region (by kernel_rfl) ?_
                          (try simp only [go_sem, Nat.reduceEqDiff, ↓reduceIte])
                          obtain ⟨o1696, hP, hQ1695⟩ := bind_cases hP
                          refine call_join (fun (s : Bool) => .bool s) (fun (s : Bool) => envL [(1, .fn 39 [.bptr 0 0]), (2, .bool true), (7, .int .i64 ((l1687 : Nat) : Int)), (10, .bptr 1 0), (25, .int .i64 0), (33, .bool false), (70, .bool false), (79, .bool true)]) (fun (s : Bool) => [.box 80 [.fn 37 []], .iter r4.2.1 (l1687 + (decR r4.2.1 l1687).2)]) (fun s => s = o1696) (callI_of (n := 8) (rs := [.tmp 3]) Tryd.func39 rfl (by decide) rfl rfl (by simp) rfl ?_) ?_
                          · clear hQ1695
                            refine J_seq ?_
                            refine J_region (by kernel_rfl) ?_
                            (try simp only [go_sem, Nat.reduceEqDiff, ↓reduceIte])
                            refine hold2 (then_n ?_)
                            refine J_seq ?_
                            refine J_region (by kernel_rfl) ?_
                            (try simp only [go_sem, Nat.reduceEqDiff, ↓reduceIte])
                            obtain ⟨r1694, hr1694, hP⟩ := bind_cases hP
                            refine call_ok [.int .i32 (((decR r4.2.1 l1687).1 : Nat) : Int)] (head_host_1_ok hr1694) ⟨argR_m false rfl, trivial⟩ ?_
                            (try simp only [go_sem, Nat.reduceEqDiff, ↓reduceIte])
                            refine hold2 (then_n ?_)
                            refine J_ret (finI_ret ?_)
                            exact told_of ⟨(!r1694), Option.some.inj hP, sr [0, 1]⟩
                          · intro a1695 hs
                            subst hs
                            have hP := hQ1695
                            clear hQ1695
                            (try simp only [go_sem, Nat.reduceEqDiff, ↓reduceIte])
                            refine hold2 (then_n ?_)
                            refine J_condV rfl ?_
                            (try simp only [go_sem, Nat.reduceEqDiff, ↓reduceIte])
                            rcases ite_cases hP with ⟨hc, hP⟩ | ⟨hc, hP⟩
                            · refine condV_t hc ?_
                              refine J_seq ?_
                              refine J_region (by kernel_rfl) ?_
                              (try simp only [go_sem, Nat.reduceEqDiff, ↓reduceIte])
                              refine hold2 (then_n ?_)
                              refine J_ret (block_ret (loop_ret (block_ret (join_ret (then_ret (finI_ret ?_))))))
                              obtain rfl := Option.some.inj hP
                              have hP := hQ1692
                              dsimp only at hP
                              exact told_of ⟨((l1687 : Nat) : Int), Option.some.inj hP, sr []⟩
                            · refine condV_f hc ?_
                              refine J_skip (block_n ?_)
                              exact loop_n (k1688, l1687 + (decR r4.2.1 l1687).2) hP (Nat.lt_succ_self _) (so [0, 1])
                        · refine guard_not hc ?_
                          (try conv => arg 5; simp only [go_sem, Nat.reduceEqDiff, ↓reduceIte])
                          (try simp only [go_sem, Nat.reduceEqDiff, ↓reduceIte])
                          refine hold2 (then_n ?_)
                          refine J_seq ?_
                          refine J_condV rfl ?_
                          (try simp only [go_sem, Nat.reduceEqDiff, ↓reduceIte])
                          refine J_exit (then_exit (loop_exit (block_eq ?_)))
                          exact join_n () (Option.some.inj hP) (so [])
                    · intro j1698 hs
                      subst hs
                      have hP := hQ1692
                      dsimp only at hP
                      clear hQ1692
                      refine then_n ?_
                      refine J_seq ?_
                      refine J_region (by kernel_rfl) ?_
                      (try simp only [go_sem, Nat.reduceEqDiff, ↓reduceIte])
                      refine hold2 (then_n ?_)
                      refine J_ret (finI_ret ?_)
                      exact told_of ⟨(-1), Option.some.inj hP, sr []⟩
                  · intro a1699 hs
                    subst hs
                    have hP := hQ1699
                    clear hQ1699
                    (try simp only [go_sem, Nat.reduceEqDiff, ↓reduceIte])
                    refine hold2 (then_n ?_)
                    refine J_ret (finI_ret ?_)
                    exact told_of ⟨a1699, Option.some.inj hP, sr []⟩
                · intro a1701 hs
                  subst hs
                  have hP := hQ1701
                  clear hQ1701
                  (try simp only [go_sem, Nat.reduceEqDiff, ↓reduceIte])
                  refine hold2 (then_n ?_)
                  refine J_ret (finI_ret ?_)
                  exact told_of ⟨(decide (0 ≤ a1701)), Option.some.inj hP, sr []⟩
              · intro a1703 hs
                subst hs
                have hP := hQ1703
                clear hQ1703
                (try simp only [go_sem, Nat.reduceEqDiff, ↓reduceIte])
                refine hold2 (then_n ?_)
                refine J_ret (fin_ret ?_)
                obtain rfl := Option.some.inj hP
                (try simp only [go_sem, Nat.reduceEqDiff, ↓reduceIte])
                exact fo []
            · refine guard_not hc ?_
              (try conv => arg 5; simp only [go_sem, Nat.reduceEqDiff, ↓reduceIte])
              (try simp only [go_sem, Nat.reduceEqDiff, ↓reduceIte])
              refine hold2 (then_n ?_)
              refine J_ret (fin_ret ?_)
              obtain rfl := Option.some.inj hP
              (try simp only [go_sem, Nat.reduceEqDiff, ↓reduceIte])
              exact fo []
          · refine guard_not hc ?_
            (try simp only [go_sem, Nat.reduceEqDiff, ↓reduceIte])
            refine hold2 (then_n ?_)
            refine J_ret (fin_ret ?_)
            obtain rfl := Option.some.inj hP
            (try simp only [go_sem, Nat.reduceEqDiff, ↓reduceIte])
            exact fo []
end Go.Proofs.YtbcmngnmfneeaaaDoor
