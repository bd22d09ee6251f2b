/- Functions of the program, and pure ones that go the same ways: that the program's return what these compute. -/
import Derived.Test.YtecpgelhhbbjmaaDoorGE
import Derived.Test.YtecpgelhhbbjmaaDoorAvY
import Derived.Test.YtecpgelhhbbjmaaDoorAvPj
namespace Go.Proofs.YtecpgelhhbbjmaaDoor
open Go.Av
set_option linter.unusedVariables false
set_option linter.unusedSimpArgs false
/-- (*colander/sniff.reader).now, handed pointers -/
def sniff_reader_now (c1 : Int) (c2 : List (UInt8)) : Option (Sum (Unit) (UInt8)) :=
  if decide (((List.length c2 : Nat) : Int) ≤ c1) then
    some (Sum.inl ())
  else
    (ixL c2 c1).bind fun x4 =>
    some (Sum.inr x4)
set_option maxRecDepth 100000 in
set_option maxHeartbeats 40000000 in
theorem sniff_reader_now_ok {c1 : Int} {c2 : List (UInt8)} {r : Sum (Unit) (UInt8)} (hP : sniff_reader_now c1 c2 = some r) : CallPX Tryd.prog 92 [.bptr 0 0] [.box 54 [.own 1 0 0 (List.length c2), .int .i64 c1], .slice 0 5 1 (List.map encB c2)] [0] (match r with | .inl p => .inl ⟨.iface 50 (.agg []), [], []⟩ | .inr r => .inr ⟨.int .u8 (b2i r), [(0, .bptr 0 0)], [.box 54 [.own 1 0 0 (List.length c2), .int .i64 c1], .slice 0 5 1 (List.map encB c2)]⟩) := by
  unfold sniff_reader_now at hP
  refine callPX_of 25 [.tmp 2] Tryd.func92 ?_ (by rcases r with r | r <;> rintro q (h | h) <;> cases h <;> exact ⟨by (first | (intro x hx; simp at hx; done) | (simp [vfO, AV.vf, AV.vfL, encB, encI, encS, encO, enc_colanderref11_Attr]; done) | (simp [vfO, AV.vf, AV.vfL, encB, encI, encS, encO, enc_colanderref11_Attr]; intros; subst_vars; simp [AV.vf, AV.vfL])), by simp⟩) (by rcases r with r | r <;> rintro q h <;> cases h <;> first | rfl | simp [AV.vf, AV.vfL])
  refine J_seq ?_
  refine J_region (by kernel_rfl) ?_
  (try simp only [go_sem, Nat.reduceEqDiff, ↓reduceIte])
  refine hold2 (then_n ?_)
  refine J_seq ?_
  refine J_seq ?_
  refine J_regionq follows_mixed (by kernel_rfl) (by kernel_rfl) ?_
  (try simp only [go_sem, Nat.reduceEqDiff, ↓reduceIte, Nat.reduceAdd, Nat.reduceSub, Nat.reduceLT, Nat.reduceMul, reduceCtorEq, Int.reduceToNat, Int.reduceLE, Int.reduceLT, Nat.reduceLeDiff])
  refine hold2 (then_n ?_)
  refine J_condV rfl ?_
  (try simp only [go_sem, Nat.reduceEqDiff, ↓reduceIte])
  rcases ite_cases hP with ⟨hc, hP⟩ | ⟨hc, hP⟩
  · refine condV_t hc ?_
    refine J_regionP (by kernel_rfl) ?_
    (try simp only [go_sem, Nat.reduceEqDiff, ↓reduceIte])
    refine pan_of (by simp [AV.pl, AV.plL]) (holdP (then_p (finIX_p ?_)))
    obtain rfl := Option.some.inj hP
    exact pp_of rfl (sp [])
  · refine condV_f hc ?_
    refine J_skip (then_n ?_)
    refine J_seq ?_
    refine J_regionq follows_mixed (by kernel_rfl) (by kernel_rfl) ?_
    (try simp only [go_sem, Nat.reduceEqDiff, ↓reduceIte, Nat.reduceAdd, Nat.reduceSub, Nat.reduceLT, Nat.reduceMul, reduceCtorEq, Int.reduceToNat, Int.reduceLE, Int.reduceLT, Nat.reduceLeDiff])
    obtain ⟨x4, hx4, hP⟩ := bind_cases hP
    refine ixO_of hx4 ?_
    (try simp only [go_sem, Nat.reduceEqDiff, ↓reduceIte])
    refine getK_of (f := encB) hx4 ?_
    (try simp only [go_sem, Nat.reduceEqDiff, ↓reduceIte])
    refine hold2 (then_n ?_)
    refine J_ret (finIX_ret ?_)
    obtain rfl := Option.some.inj hP
    exact pk_of rfl (sr [0, 1])
/-- (*colander/sniff.reader).find, handed pointers -/
def sniff_reader_find_L103 (c2 : List (UInt8)) (c3 : Int) : Nat → Int → Option (Sum (Sum (Unit) ((List UInt8) × Int)) (Int))
  | 0, _ => none
  | k90 + 1, l89 =>
    (sniff_reader_now l89 c2).bind fun r104 => match r104 with
    | .inl p105 =>
      some (Sum.inl (Sum.inl ()))
    | .inr r106 =>
      (show Option (Bool) from
        (show Option (Bool) from
          (sniff_space r106).bind fun r113 =>
          if r113 then
            some true
          else
            if decide (b2i r106 = b2i (bC 47)) then
              some true
            else
              if decide (b2i r106 = b2i (bC 62)) then
                some true
              else
                if decide (b2i r106 = b2i (bC 61)) then
                  some (decide (c3 < l89))
                else
                  some false).bind fun j114 =>
          some j114).bind fun a115 =>
        if !a115 then
          sniff_reader_find_L103 c2 c3 k90 (iadd .i64 l89 1)
        else
          some (Sum.inr l89)
def sniff_reader_find (c1 : Int) (c2 : List (UInt8)) (c3 : Int) : Option (Sum (Unit) ((List UInt8) × Int)) :=
  (sniff_reader_find_L103 c2 c3 140737488355328 c1).bind fun o117 => match o117 with
  | Sum.inl r => some r
  | Sum.inr j118 =>
    (slL c2 c1 j118).bind fun s119 =>
    some (Sum.inr (s119, j118))
set_option maxRecDepth 100000 in
set_option maxHeartbeats 40000000 in
theorem sniff_reader_find_ok {c1 : Int} {c2 : List (UInt8)} {c3 : Int} {r : Sum (Unit) ((List UInt8) × Int)} (hP : sniff_reader_find c1 c2 c3 = some r) : CallPX Tryd.prog 67 [.bptr 0 0, .fn 93 [.bptr 2 0, .bptr 3 0]] [.box 54 [.own 1 0 0 (List.length c2), .int .i64 c1], .slice 0 5 1 (List.map encB c2), .box 52 [.bptr 0 0], .box 3 [.int .i64 c3]] [0, 2, 3] (match r with | .inl p => .inl ⟨.iface 50 (.agg []), [], []⟩ | .inr r => .inr ⟨.str r.1, [(0, .bptr 0 0), (2, .bptr 2 0), (3, .bptr 3 0)], [.box 54 [.own 1 0 0 (List.length c2), .int .i64 r.2], .slice 0 5 1 (List.map encB c2), .box 52 [.bptr 0 0], .box 3 [.int .i64 c3]]⟩) := by
  unfold sniff_reader_find at hP
  refine callPX_of 33 [.tmp 4] Tryd.func67 ?_ (by rcases r with r | r <;> rintro q (h | h) <;> cases h <;> exact ⟨by (first | (intro x hx; simp at hx; done) | (simp [vfO, AV.vf, AV.vfL, encB, encI, encS, encO, enc_colanderref11_Attr]; done) | (simp [vfO, AV.vf, AV.vfL, encB, encI, encS, encO, enc_colanderref11_Attr]; intros; subst_vars; simp [AV.vf, AV.vfL])), by simp⟩) (by rcases r with r | r <;> rintro q h <;> cases h <;> first | rfl | simp [AV.vf, AV.vfL])
  refine J_seq ?_
  refine J_region (by kernel_rfl) ?_
  (try simp only [go_sem, Nat.reduceEqDiff, ↓reduceIte])
  refine hold2 (then_n ?_)
  refine J_seq ?_
  refine J_region (by kernel_rfl) ?_
  (try simp only [go_sem, Nat.reduceEqDiff, ↓reduceIte])
  refine hold2 (then_n ?_)
  refine J_seq ?_
  obtain ⟨o117, hP, hQ103⟩ := bind_cases hP
  refine J_joinK0 (fun (s : Int) => envL [(0, .bptr 0 0), (5, .int .i64 c1), (33, .bptr 0 0), (35, .bptr 2 0), (36, .bptr 3 0)]) (fun (s : Int) => [.box 54 [.own 1 0 0 (List.length c2), .int .i64 s], .slice 0 5 1 (List.map encB c2), .box 52 [.bptr 0 0], .box 3 [.int .i64 c3]]) (fun s => Sum.inr s = o117) ?_ ?_
  · refine J_block ?_
    refine J_loop (σ := Nat × Int) (fun (s : Nat × Int) => envL [(0, .bptr 0 0), (1, .fn 93 [.bptr 2 0, .bptr 3 0]), (5, .int .i64 c1), (33, .bptr 0 0), (35, .bptr 2 0), (36, .bptr 3 0)]) (fun (s : Nat × Int) => [.box 54 [.own 1 0 0 (List.length c2), .int .i64 s.2], .slice 0 5 1 (List.map encB c2), .box 52 [.bptr 0 0], .box 3 [.int .i64 c3]]) (fun s => sniff_reader_find_L103 c2 c3 s.1 s.2 = some o117) (fun s => s.1) (140737488355328, c1) hP (so [0, 1, 2, 3]) ?_
    rintro ⟨k90, l89⟩ hP
    dsimp only at hP ⊢
    cases k90 with
    | zero => simp [sniff_reader_find_L103] at hP
    | succ k90 =>
      simp only [sniff_reader_find_L103] at hP
      refine J_seq ?_
      refine J_seq ?_
      refine J_regionP (by kernel_rfl) ?_
      (try simp only [go_sem, Nat.reduceEqDiff, ↓reduceIte])
      obtain ⟨r104, hr104, hP⟩ := bind_cases hP
      rcases r104 with p105 | r106 <;> dsimp only at hP
      · refine callP_pt [0, 1] [] [] (sniff_reader_now_ok hr104) ⟨argP_r (by rfl), trivial⟩ (told_of (smp [])) (holdP (then_p (then_p (loop_p (block_p (join_p (then_p (finIX_p ?_))))))))
        obtain rfl := Option.some.inj hP
        have hP := hQ103
        dsimp only at hP
        obtain rfl := Option.some.inj hP
        exact pp_of rfl (sp [])
      · refine callP_n (call_pt [0, 1] [(0, .bptr 0 0), (1, .fn 93 [.bptr 2 0, .bptr 3 0]), (5, .int .i64 c1), (10, .fn 93 [.bptr 2 0, .bptr 3 0]), (33, .bptr 0 0), (35, .bptr 2 0), (36, .bptr 3 0)] [.box 54 [.own 1 0 0 (List.length c2), .int .i64 l89], .slice 0 5 1 (List.map encB c2), .box 52 [.bptr 0 0], .box 3 [.int .i64 c3]] (.int .u8 (b2i r106)) (sniff_reader_now_ok hr104) ⟨argP_r (by rfl), trivial⟩ (told_of (sm [4, 5, 2, 3])) ?_)
        (try simp only [go_sem, Nat.reduceEqDiff, ↓reduceIte])
        obtain ⟨o116, hP, hQ115⟩ := bind_cases hP
        refine callP_n (call_join (fun (s : Bool) => .bool s) (fun (s : Bool) => envL [(0, .bptr 0 0), (1, .fn 93 [.bptr 2 0, .bptr 3 0]), (5, .int .i64 c1), (33, .bptr 0 0), (35, .bptr 2 0), (36, .bptr 3 0)]) (fun (s : Bool) => [.box 54 [.own 1 0 0 (List.length c2), .int .i64 l89], .slice 0 5 1 (List.map encB c2), .box 52 [.bptr 0 0], .box 3 [.int .i64 c3]]) (fun s => s = o116) (callI_of (n := 27) (rs := [.tmp 4]) Tryd.func93 rfl (by decide) rfl rfl (by simp) rfl ?_) ?_)
        · clear hQ115
          refine J_seq ?_
          refine J_region (by kernel_rfl) ?_
          (try simp only [go_sem, Nat.reduceEqDiff, ↓reduceIte])
          refine hold2 (then_n ?_)
          obtain ⟨o112, hP, hQ112⟩ := bind_cases hP
          refine J_join (fun (s : Bool) => envL [(4, .bool s), (27, .bptr 0 0), (28, .fn 93 [.bptr 2 0, .bptr 3 0]), (32, .int .i64 c1), (60, .bptr 0 0), (62, .bptr 2 0), (63, .bptr 3 0)]) (fun (s : Bool) => [.box 54 [.own 1 0 0 (List.length c2), .int .i64 l89], .slice 0 5 1 (List.map encB c2), .box 52 [.bptr 0 0], .box 3 [.int .i64 c3]]) (fun s => s = o112) ?_ ?_
          · clear hQ112
            refine J_regionq follows_mixed (by kernel_rfl) (by kernel_rfl) ?_
            (try simp only [go_sem, Nat.reduceEqDiff, ↓reduceIte])
            obtain ⟨r113, hr113, hP⟩ := bind_cases hP
            refine call_okq [.int .u8 (b2i r106)] (sniff_space_ok hr113) ⟨argR_m false rfl, trivial⟩ rfl ?_
            (try simp only [go_sem, Nat.reduceEqDiff, ↓reduceIte])
            rcases ite_cases hP with ⟨hc, hP⟩ | ⟨hc, hP⟩
            · refine guard_not hc ?_
              (try simp only [go_sem, Nat.reduceEqDiff, ↓reduceIte])
              refine hold2 ?_
              exact join_n true (Option.some.inj hP) (so [0, 1, 2, 3])
            · refine guard_is hc ?_
              (try simp only [go_sem, Nat.reduceEqDiff, ↓reduceIte, Nat.reduceAdd, Nat.reduceSub, Nat.reduceLT, Nat.reduceMul, reduceCtorEq, Int.reduceToNat, Int.reduceLE, Int.reduceLT, Nat.reduceLeDiff])
              rcases ite_cases hP with ⟨hc, hP⟩ | ⟨hc, hP⟩
              · refine guard_not hc ?_
                (try simp only [go_sem, Nat.reduceEqDiff, ↓reduceIte, Nat.reduceAdd, Nat.reduceSub, Nat.reduceLT, Nat.reduceMul, reduceCtorEq, Int.reduceToNat, Int.reduceLE, Int.reduceLT, Nat.reduceLeDiff])
                refine hold2 ?_
                exact join_n true (Option.some.inj hP) (so [0, 1, 2, 3])
              · refine guard_is hc ?_
                (try simp only [go_sem, Nat.reduceEqDiff, ↓reduceIte, Nat.reduceAdd, Nat.reduceSub, Nat.reduceLT, Nat.reduceMul, reduceCtorEq, Int.reduceToNat, Int.reduceLE, Int.reduceLT, Nat.reduceLeDiff])
                rcases ite_cases hP with ⟨hc, hP⟩ | ⟨hc, hP⟩
                · refine guard_not hc ?_
                  (try simp only [go_sem, Nat.reduceEqDiff, ↓reduceIte, Nat.reduceAdd, Nat.reduceSub, Nat.reduceLT, Nat.reduceMul, reduceCtorEq, Int.reduceToNat, Int.reduceLE, Int.reduceLT, Nat.reduceLeDiff])
                  refine hold2 ?_
                  exact join_n true (Option.some.inj hP) (so [0, 1, 2, 3])
                · refine guard_is hc ?_
                  (try simp only [go_sem, Nat.reduceEqDiff, ↓reduceIte, Nat.reduceAdd, Nat.reduceSub, Nat.reduceLT, Nat.reduceMul, reduceCtorEq, Int.reduceToNat, Int.reduceLE, Int.reduceLT, Nat.reduceLeDiff])
                  rcases ite_cases hP with ⟨hc, hP⟩ | ⟨hc, hP⟩
                  · refine guard_is hc ?_
                    (try simp only [go_sem, Nat.reduceEqDiff, ↓reduceIte, Nat.reduceAdd, Nat.reduceSub, Nat.reduceLT, Nat.reduceMul, reduceCtorEq, Int.reduceToNat, Int.reduceLE, Int.reduceLT, Nat.reduceLeDiff])
                    refine hold2 ?_
                    exact join_n (decide (c3 < l89)) (Option.some.inj hP) (so [0, 1, 2, 3])
                  · refine guard_not hc ?_
                    (try simp only [go_sem, Nat.reduceEqDiff, ↓reduceIte])
                    refine hold2 ?_
                    exact join_n false (Option.some.inj hP) (so [0, 1, 2, 3])
          · intro j114 hs
            subst hs
            have hP := hQ112
            clear hQ112
            refine J_ret (finI_ret ?_)
            exact told_of ⟨j114, Option.some.inj hP, sr [0, 1, 2, 3]⟩
        · intro a115 hs
          subst hs
          have hP := hQ115
          clear hQ115
          (try simp only [go_sem, Nat.reduceEqDiff, ↓reduceIte])
          refine hold2 (then_n ?_)
          refine J_condV rfl ?_
          (try simp only [go_sem, Nat.reduceEqDiff, ↓reduceIte])
          rcases ite_cases hP with ⟨hc, hP⟩ | ⟨hc, hP⟩
          · refine condV_t hc ?_
            refine J_skip (then_n ?_)
            refine J_block ?_
            refine J_region (by kernel_rfl) ?_
            (try simp only [go_sem, Nat.reduceEqDiff, ↓reduceIte])
            refine hold2 (block_n ?_)
            exact loop_n (k90, iadd .i64 l89 1) hP (Nat.lt_succ_self _) (so [0, 1, 2, 3])
          · refine condV_f hc ?_
            refine J_exit (then_exit (loop_exit (block_eq ?_)))
            exact join_n l89 (Option.some.inj hP) (so [0, 1, 2, 3])
  · intro j118 hs
    subst hs
    have hP := hQ103
    dsimp only at hP
    clear hQ103
    refine then_n ?_
    refine J_seq ?_
    refine J_regionq follows_mixed (by kernel_rfl) (by kernel_rfl) ?_
    (try simp only [go_sem, Nat.reduceEqDiff, ↓reduceIte])
    obtain ⟨s119, hs119, hP⟩ := bind_cases hP
    refine slO_of hs119 ?_
    (try simp only [go_sem, Nat.reduceEqDiff, ↓reduceIte])
    simp only [own_cut hs119, go_sem, Nat.reduceEqDiff, ↓reduceIte]
    first | refine bytesK_map ?_ | refine bytesK_of s119 rfl ?_
    (try simp only [go_sem, Nat.reduceEqDiff, ↓reduceIte])
    refine hold2 (then_n ?_)
    refine J_ret (finIX_ret ?_)
    obtain rfl := Option.some.inj hP
    exact pk_of rfl (sr [0, 1, 2, 3])
/-- (*colander/sniff.reader).spaces, handed pointers -/
def sniff_reader_spaces_L38 (c2 : List (UInt8)) : Nat → Int → Option (Sum (Sum (Unit) (Int)) (Int))
  | 0, _ => none
  | k34 + 1, l33 =>
    (sniff_reader_now l33 c2).bind fun r39 => match r39 with
    | .inl p40 =>
      some (Sum.inl (Sum.inl ()))
    | .inr r41 =>
      (sniff_space r41).bind fun r42 =>
      if r42 then
        sniff_reader_spaces_L38 c2 k34 (iadd .i64 l33 1)
      else
        some (Sum.inr l33)
def sniff_reader_spaces (c1 : Int) (c2 : List (UInt8)) : Option (Sum (Unit) (Int)) :=
  (sniff_reader_spaces_L38 c2 140737488355328 c1).bind fun o43 => match o43 with
  | Sum.inl r => some r
  | Sum.inr j44 =>
    some (Sum.inr j44)
set_option maxRecDepth 100000 in
set_option maxHeartbeats 40000000 in
theorem sniff_reader_spaces_ok {c1 : Int} {c2 : List (UInt8)} {r : Sum (Unit) (Int)} (hP : sniff_reader_spaces c1 c2 = some r) : CallPX Tryd.prog 94 [.bptr 0 0] [.box 54 [.own 1 0 0 (List.length c2), .int .i64 c1], .slice 0 5 1 (List.map encB c2)] [0] (match r with | .inl p => .inl ⟨.iface 50 (.agg []), [], []⟩ | .inr r => .inr ⟨.tup [], [(0, .bptr 0 0)], [.box 54 [.own 1 0 0 (List.length c2), .int .i64 r], .slice 0 5 1 (List.map encB c2)]⟩) := by
  unfold sniff_reader_spaces at hP
  refine callPX_of 12 [] Tryd.func94 ?_ (by rcases r with r | r <;> rintro q (h | h) <;> cases h <;> exact ⟨by (first | (intro x hx; simp at hx; done) | (simp [vfO, AV.vf, AV.vfL, encB, encI, encS, encO, enc_colanderref11_Attr]; done) | (simp [vfO, AV.vf, AV.vfL, encB, encI, encS, encO, enc_colanderref11_Attr]; intros; subst_vars; simp [AV.vf, AV.vfL])), by simp⟩) (by rcases r with r | r <;> rintro q h <;> cases h <;> first | rfl | simp [AV.vf, AV.vfL])
  obtain ⟨o43, hP, hQ38⟩ := bind_cases hP
  refine J_joinK0 (fun (s : Int) => envL [(12, .bptr 0 0)]) (fun (s : Int) => [.box 54 [.own 1 0 0 (List.length c2), .int .i64 s], .slice 0 5 1 (List.map encB c2)]) (fun s => Sum.inr s = o43) ?_ ?_
  · refine J_block ?_
    refine J_loop (σ := Nat × Int) (fun (s : Nat × Int) => envL [(0, .bptr 0 0), (12, .bptr 0 0)]) (fun (s : Nat × Int) => [.box 54 [.own 1 0 0 (List.length c2), .int .i64 s.2], .slice 0 5 1 (List.map encB c2)]) (fun s => sniff_reader_spaces_L38 c2 s.1 s.2 = some o43) (fun s => s.1) (140737488355328, c1) hP (so [0, 1]) ?_
    rintro ⟨k34, l33⟩ hP
    dsimp only at hP ⊢
    cases k34 with
    | zero => simp [sniff_reader_spaces_L38] at hP
    | succ k34 =>
      simp only [sniff_reader_spaces_L38] at hP
      refine J_seq ?_
      refine J_seq ?_
      refine J_regionP (by kernel_rfl) ?_
      (try simp only [go_sem, Nat.reduceEqDiff, ↓reduceIte])
      obtain ⟨r39, hr39, hP⟩ := bind_cases hP
      rcases r39 with p40 | r41 <;> dsimp only at hP
      · refine callP_pt [0, 1] [] [] (sniff_reader_now_ok hr39) ⟨argP_r (by rfl), trivial⟩ (told_of (smp [])) (holdP (then_p (then_p (loop_p (block_p (join_p (finIX_p ?_)))))))
        obtain rfl := Option.some.inj hP
        have hP := hQ38
        dsimp only at hP
        obtain rfl := Option.some.inj hP
        exact pp_of rfl (sp [])
      · refine callP_n (call_pt [0, 1] [(0, .bptr 0 0), (12, .bptr 0 0)] [.box 54 [.own 1 0 0 (List.length c2), .int .i64 l33], .slice 0 5 1 (List.map encB c2)] (.int .u8 (b2i r41)) (sniff_reader_now_ok hr39) ⟨argP_r (by rfl), trivial⟩ (told_of (sm [2, 3])) ?_)
        (try simp only [go_sem, Nat.reduceEqDiff, ↓reduceIte])
        obtain ⟨r42, hr42, hP⟩ := bind_cases hP
        refine callP_n (call_ok [.int .u8 (b2i r41)] (sniff_space_ok hr42) ⟨argR_m false rfl, trivial⟩ ?_)
        (try simp only [go_sem, Nat.reduceEqDiff, ↓reduceIte])
        refine hold2 (then_n ?_)
        refine J_condV rfl ?_
        (try simp only [go_sem, Nat.reduceEqDiff, ↓reduceIte])
        rcases ite_cases hP with ⟨hc, hP⟩ | ⟨hc, hP⟩
        · refine condV_t hc ?_
          refine J_skip (then_n ?_)
          refine J_block ?_
          refine J_region (by kernel_rfl) ?_
          (try simp only [go_sem, Nat.reduceEqDiff, ↓reduceIte])
          refine hold2 (block_n ?_)
          exact loop_n (k34, iadd .i64 l33 1) hP (Nat.lt_succ_self _) (so [0, 1])
        · refine condV_f hc ?_
          refine J_exit (then_exit (loop_exit (block_eq ?_)))
          exact join_n l33 (Option.some.inj hP) (so [0, 1])
  · intro j44 hs
    subst hs
    have hP := hQ38
    dsimp only at hP
    clear hQ38
    refine finIX_n ?_
    obtain rfl := Option.some.inj hP
    exact pk_of rfl (sr [0, 1])
/-- (*colander/sniff.reader).find, handed pointers -/
def sniff_reader_find_w2_L47 (c2 : List (UInt8)) (c3 : UInt8) : Nat → Int → Option (Sum (Sum (Unit) ((List UInt8) × Int)) (Int))
  | 0, _ => none
  | k42 + 1, l41 =>
    (sniff_reader_now l41 c2).bind fun r48 => match r48 with
    | .inl p49 =>
      some (Sum.inl (Sum.inl ()))
    | .inr r50 =>
      (show Option (Unit) from
        some ()).bind fun a51 =>
        if !(decide (b2i r50 = b2i c3)) then
          sniff_reader_find_w2_L47 c2 c3 k42 (iadd .i64 l41 1)
        else
          some (Sum.inr l41)
def sniff_reader_find_w2 (c1 : Int) (c2 : List (UInt8)) (c3 : UInt8) : Option (Sum (Unit) ((List UInt8) × Int)) :=
  (sniff_reader_find_w2_L47 c2 c3 140737488355328 c1).bind fun o53 => match o53 with
  | Sum.inl r => some r
  | Sum.inr j54 =>
    (slL c2 c1 j54).bind fun s55 =>
    some (Sum.inr (s55, j54))
set_option maxRecDepth 100000 in
set_option maxHeartbeats 40000000 in
theorem sniff_reader_find_w2_ok {c1 : Int} {c2 : List (UInt8)} {c3 : UInt8} {r : Sum (Unit) ((List UInt8) × Int)} (hP : sniff_reader_find_w2 c1 c2 c3 = some r) : CallPX Tryd.prog 67 [.bptr 0 0, .fn 95 [.bptr 2 0]] [.box 54 [.own 1 0 0 (List.length c2), .int .i64 c1], .slice 0 5 1 (List.map encB c2), .box 5 [.int .u8 (b2i c3)]] [0, 2] (match r with | .inl p => .inl ⟨.iface 50 (.agg []), [], []⟩ | .inr r => .inr ⟨.str r.1, [(0, .bptr 0 0), (2, .bptr 2 0)], [.box 54 [.own 1 0 0 (List.length c2), .int .i64 r.2], .slice 0 5 1 (List.map encB c2), .box 5 [.int .u8 (b2i c3)]]⟩) := by
  unfold sniff_reader_find_w2 at hP
  refine callPX_of 33 [.tmp 4] Tryd.func67 ?_ (by rcases r with r | r <;> rintro q (h | h) <;> cases h <;> exact ⟨by (first | (intro x hx; simp at hx; done) | (simp [vfO, AV.vf, AV.vfL, encB, encI, encS, encO, enc_colanderref11_Attr]; done) | (simp [vfO, AV.vf, AV.vfL, encB, encI, encS, encO, enc_colanderref11_Attr]; intros; subst_vars; simp [AV.vf, AV.vfL])), by simp⟩) (by rcases r with r | r <;> rintro q h <;> cases h <;> first | rfl | simp [AV.vf, AV.vfL])
  refine J_seq ?_
  refine J_region (by kernel_rfl) ?_
  (try simp only [go_sem, Nat.reduceEqDiff, ↓reduceIte])
  refine hold2 (then_n ?_)
  refine J_seq ?_
  refine J_region (by kernel_rfl) ?_
  (try simp only [go_sem, Nat.reduceEqDiff, ↓reduceIte])
  refine hold2 (then_n ?_)
  refine J_seq ?_
  obtain ⟨o53, hP, hQ47⟩ := bind_cases hP
  refine J_joinK0 (fun (s : Int) => envL [(0, .bptr 0 0), (5, .int .i64 c1), (33, .bptr 0 0), (35, .bptr 2 0)]) (fun (s : Int) => [.box 54 [.own 1 0 0 (List.length c2), .int .i64 s], .slice 0 5 1 (List.map encB c2), .box 5 [.int .u8 (b2i c3)]]) (fun s => Sum.inr s = o53) ?_ ?_
  · refine J_block ?_
    refine J_loop (σ := Nat × Int) (fun (s : Nat × Int) => envL [(0, .bptr 0 0), (1, .fn 95 [.bptr 2 0]), (5, .int .i64 c1), (33, .bptr 0 0), (35, .bptr 2 0)]) (fun (s : Nat × Int) => [.box 54 [.own 1 0 0 (List.length c2), .int .i64 s.2], .slice 0 5 1 (List.map encB c2), .box 5 [.int .u8 (b2i c3)]]) (fun s => sniff_reader_find_w2_L47 c2 c3 s.1 s.2 = some o53) (fun s => s.1) (140737488355328, c1) hP (so [0, 1, 2]) ?_
    rintro ⟨k42, l41⟩ hP
    dsimp only at hP ⊢
    cases k42 with
    | zero => simp [sniff_reader_find_w2_L47] at hP
    | succ k42 =>
      simp only [sniff_reader_find_w2_L47] at hP
      refine J_seq ?_
      refine J_seq ?_
      refine J_regionP (by kernel_rfl) ?_
      (try simp only [go_sem, Nat.reduceEqDiff, ↓reduceIte])
      obtain ⟨r48, hr48, hP⟩ := bind_cases hP
      rcases r48 with p49 | r50 <;> dsimp only at hP
      · refine callP_pt [0, 1] [] [] (sniff_reader_now_ok hr48) ⟨argP_r (by rfl), trivial⟩ (told_of (smp [])) (holdP (then_p (then_p (loop_p (block_p (join_p (then_p (finIX_p ?_))))))))
        obtain rfl := Option.some.inj hP
        have hP := hQ47
        dsimp only at hP
        obtain rfl := Option.some.inj hP
        exact pp_of rfl (sp [])
      · refine callP_n (call_pt [0, 1] [(0, .bptr 0 0), (1, .fn 95 [.bptr 2 0]), (5, .int .i64 c1), (10, .fn 95 [.bptr 2 0]), (33, .bptr 0 0), (35, .bptr 2 0)] [.box 54 [.own 1 0 0 (List.length c2), .int .i64 l41], .slice 0 5 1 (List.map encB c2), .box 5 [.int .u8 (b2i c3)]] (.int .u8 (b2i r50)) (sniff_reader_now_ok hr48) ⟨argP_r (by rfl), trivial⟩ (told_of (sm [3, 4, 2])) ?_)
        (try simp only [go_sem, Nat.reduceEqDiff, ↓reduceIte])
        obtain ⟨o52, hP, hQ51⟩ := bind_cases hP
        refine callP_n (call_join (fun (s : Unit) => .bool (decide (b2i r50 = b2i c3))) (fun (s : Unit) => envL [(0, .bptr 0 0), (1, .fn 95 [.bptr 2 0]), (5, .int .i64 c1), (33, .bptr 0 0), (35, .bptr 2 0)]) (fun (s : Unit) => [.box 54 [.own 1 0 0 (List.length c2), .int .i64 l41], .slice 0 5 1 (List.map encB c2), .box 5 [.int .u8 (b2i c3)]]) (fun s => s = o52) (callI_of (n := 7) (rs := [.tmp 3]) Tryd.func95 rfl (by decide) rfl rfl (by simp) rfl ?_) ?_)
        · clear hQ51
          refine J_seq ?_
          refine J_region (by kernel_rfl) ?_
          (try simp only [go_sem, Nat.reduceEqDiff, ↓reduceIte])
          refine hold2 (then_n ?_)
          refine J_seq ?_
          refine J_region (by kernel_rfl) ?_
          (try simp only [go_sem, Nat.reduceEqDiff, ↓reduceIte, Nat.reduceAdd, Nat.reduceSub, Nat.reduceLT, Nat.reduceMul, reduceCtorEq, Int.reduceToNat, Int.reduceLE, Int.reduceLT, Nat.reduceLeDiff])
          refine hold2 (then_n ?_)
          refine J_ret (finI_ret ?_)
          exact told_of ⟨(), Option.some.inj hP, sr [0, 1, 2]⟩
        · intro a51 hs
          subst hs
          have hP := hQ51
          clear hQ51
          (try simp only [go_sem, Nat.reduceEqDiff, ↓reduceIte])
          refine hold2 (then_n ?_)
          refine J_condV rfl ?_
          (try simp only [go_sem, Nat.reduceEqDiff, ↓reduceIte])
          rcases ite_cases hP with ⟨hc, hP⟩ | ⟨hc, hP⟩
          · refine condV_t hc ?_
            refine J_skip (then_n ?_)
            refine J_block ?_
            refine J_region (by kernel_rfl) ?_
            (try simp only [go_sem, Nat.reduceEqDiff, ↓reduceIte])
            refine hold2 (block_n ?_)
            exact loop_n (k42, iadd .i64 l41 1) hP (Nat.lt_succ_self _) (so [0, 1, 2])
          · refine condV_f hc ?_
            refine J_exit (then_exit (loop_exit (block_eq ?_)))
            exact join_n l41 (Option.some.inj hP) (so [0, 1, 2])
  · intro j54 hs
    subst hs
    have hP := hQ47
    dsimp only at hP
    clear hQ47
    refine then_n ?_
    refine J_seq ?_
    refine J_regionq follows_mixed (by kernel_rfl) (by kernel_rfl) ?_
    (try simp only [go_sem, Nat.reduceEqDiff, ↓reduceIte])
    obtain ⟨s55, hs55, hP⟩ := bind_cases hP
    refine slO_of hs55 ?_
    (try simp only [go_sem, Nat.reduceEqDiff, ↓reduceIte])
    simp only [own_cut hs55, go_sem, Nat.reduceEqDiff, ↓reduceIte]
    first | refine bytesK_map ?_ | refine bytesK_of s55 rfl ?_
    (try simp only [go_sem, Nat.reduceEqDiff, ↓reduceIte])
    refine hold2 (then_n ?_)
    refine J_ret (finIX_ret ?_)
    obtain rfl := Option.some.inj hP
    exact pk_of rfl (sr [0, 1, 2])
/-- (*colander/sniff.reader).find, handed pointers -/
def sniff_reader_find_w3_L102 (c2 : List (UInt8)) : Nat → Int → Option (Sum (Sum (Unit) ((List UInt8) × Int)) (Int))
  | 0, _ => none
  | k89 + 1, l88 =>
    (sniff_reader_now l88 c2).bind fun r103 => match r103 with
    | .inl p104 =>
      some (Sum.inl (Sum.inl ()))
    | .inr r105 =>
      (show Option (Bool) from
        (show Option (Bool) from
          (sniff_space r105).bind fun r112 =>
          if r112 then
            some true
          else
            some (decide (b2i r105 = b2i (bC 62)))).bind fun j113 =>
          some j113).bind fun a114 =>
        if !a114 then
          sniff_reader_find_w3_L102 c2 k89 (iadd .i64 l88 1)
        else
          some (Sum.inr l88)
def sniff_reader_find_w3 (c1 : Int) (c2 : List (UInt8)) : Option (Sum (Unit) ((List UInt8) × Int)) :=
  (sniff_reader_find_w3_L102 c2 140737488355328 c1).bind fun o116 => match o116 with
  | Sum.inl r => some r
  | Sum.inr j117 =>
    (slL c2 c1 j117).bind fun s118 =>
    some (Sum.inr (s118, j117))
set_option maxRecDepth 100000 in
set_option maxHeartbeats 40000000 in
theorem sniff_reader_find_w3_ok {c1 : Int} {c2 : List (UInt8)} {r : Sum (Unit) ((List UInt8) × Int)} (hP : sniff_reader_find_w3 c1 c2 = some r) : CallPX Tryd.prog 67 [.bptr 0 0, .fn 96 []] [.box 54 [.own 1 0 0 (List.length c2), .int .i64 c1], .slice 0 5 1 (List.map encB c2)] [0] (match r with | .inl p => .inl ⟨.iface 50 (.agg []), [], []⟩ | .inr r => .inr ⟨.str r.1, [(0, .bptr 0 0)], [.box 54 [.own 1 0 0 (List.length c2), .int .i64 r.2], .slice 0 5 1 (List.map encB c2)]⟩) := by
  unfold sniff_reader_find_w3 at hP
  refine callPX_of 33 [.tmp 4] Tryd.func67 ?_ (by rcases r with r | r <;> rintro q (h | h) <;> cases h <;> exact ⟨by (first | (intro x hx; simp at hx; done) | (simp [vfO, AV.vf, AV.vfL, encB, encI, encS, encO, enc_colanderref11_Attr]; done) | (simp [vfO, AV.vf, AV.vfL, encB, encI, encS, encO, enc_colanderref11_Attr]; intros; subst_vars; simp [AV.vf, AV.vfL])), by simp⟩) (by rcases r with r | r <;> rintro q h <;> cases h <;> first | rfl | simp [AV.vf, AV.vfL])
  refine J_seq ?_
  refine J_region (by kernel_rfl) ?_
  (try simp only [go_sem, Nat.reduceEqDiff, ↓reduceIte])
  refine hold2 (then_n ?_)
  refine J_seq ?_
  refine J_region (by kernel_rfl) ?_
  (try simp only [go_sem, Nat.reduceEqDiff, ↓reduceIte])
  refine hold2 (then_n ?_)
  refine J_seq ?_
  obtain ⟨o116, hP, hQ102⟩ := bind_cases hP
  refine J_joinK0 (fun (s : Int) => envL [(0, .bptr 0 0), (5, .int .i64 c1), (33, .bptr 0 0)]) (fun (s : Int) => [.box 54 [.own 1 0 0 (List.length c2), .int .i64 s], .slice 0 5 1 (List.map encB c2)]) (fun s => Sum.inr s = o116) ?_ ?_
  · refine J_block ?_
    refine J_loop (σ := Nat × Int) (fun (s : Nat × Int) => envL [(0, .bptr 0 0), (1, .fn 96 []), (5, .int .i64 c1), (33, .bptr 0 0)]) (fun (s : Nat × Int) => [.box 54 [.own 1 0 0 (List.length c2), .int .i64 s.2], .slice 0 5 1 (List.map encB c2)]) (fun s => sniff_reader_find_w3_L102 c2 s.1 s.2 = some o116) (fun s => s.1) (140737488355328, c1) hP (so [0, 1]) ?_
    rintro ⟨k89, l88⟩ hP
    dsimp only at hP ⊢
    cases k89 with
    | zero => simp [sniff_reader_find_w3_L102] at hP
    | succ k89 =>
      simp only [sniff_reader_find_w3_L102] at hP
      refine J_seq ?_
      refine J_seq ?_
      refine J_regionP (by kernel_rfl) ?_
      (try simp only [go_sem, Nat.reduceEqDiff, ↓reduceIte])
      obtain ⟨r103, hr103, hP⟩ := bind_cases hP
      rcases r103 with p104 | r105 <;> dsimp only at hP
      · refine callP_pt [0, 1] [] [] (sniff_reader_now_ok hr103) ⟨argP_r (by rfl), trivial⟩ (told_of (smp [])) (holdP (then_p (then_p (loop_p (block_p (join_p (then_p (finIX_p ?_))))))))
        obtain rfl := Option.some.inj hP
        have hP := hQ102
        dsimp only at hP
        obtain rfl := Option.some.inj hP
        exact pp_of rfl (sp [])
      · refine callP_n (call_pt [0, 1] [(0, .bptr 0 0), (1, .fn 96 []), (5, .int .i64 c1), (10, .fn 96 []), (33, .bptr 0 0)] [.box 54 [.own 1 0 0 (List.length c2), .int .i64 l88], .slice 0 5 1 (List.map encB c2)] (.int .u8 (b2i r105)) (sniff_reader_now_ok hr103) ⟨argP_r (by rfl), trivial⟩ (told_of (sm [2, 3])) ?_)
        (try simp only [go_sem, Nat.reduceEqDiff, ↓reduceIte])
        obtain ⟨o115, hP, hQ114⟩ := bind_cases hP
        refine callP_n (call_join (fun (s : Bool) => .bool s) (fun (s : Bool) => envL [(0, .bptr 0 0), (1, .fn 96 []), (5, .int .i64 c1), (33, .bptr 0 0)]) (fun (s : Bool) => [.box 54 [.own 1 0 0 (List.length c2), .int .i64 l88], .slice 0 5 1 (List.map encB c2)]) (fun s => s = o115) (callI_of (n := 9) (rs := [.tmp 2]) Tryd.func96 rfl (by decide) rfl rfl (by simp) rfl ?_) ?_)
        · clear hQ114
          refine J_seq ?_
          refine J_region (by kernel_rfl) ?_
          (try simp only [go_sem, Nat.reduceEqDiff, ↓reduceIte])
          refine hold2 (then_n ?_)
          obtain ⟨o111, hP, hQ111⟩ := bind_cases hP
          refine J_join (fun (s : Bool) => envL [(2, .bool s), (9, .bptr 0 0), (10, .fn 96 []), (14, .int .i64 c1), (42, .bptr 0 0)]) (fun (s : Bool) => [.box 54 [.own 1 0 0 (List.length c2), .int .i64 l88], .slice 0 5 1 (List.map encB c2)]) (fun s => s = o111) ?_ ?_
          · clear hQ111
            refine J_region (by kernel_rfl) ?_
            (try simp only [go_sem, Nat.reduceEqDiff, ↓reduceIte])
            obtain ⟨r112, hr112, hP⟩ := bind_cases hP
            refine call_ok [.int .u8 (b2i r105)] (sniff_space_ok hr112) ⟨argR_m false rfl, trivial⟩ ?_
            (try simp only [go_sem, Nat.reduceEqDiff, ↓reduceIte])
            rcases ite_cases hP with ⟨hc, hP⟩ | ⟨hc, hP⟩
            · refine guard_not hc ?_
              (try simp only [go_sem, Nat.reduceEqDiff, ↓reduceIte])
              refine hold2 ?_
              exact join_n true (Option.some.inj hP) (so [0, 1])
            · refine guard_is hc ?_
              (try simp only [go_sem, Nat.reduceEqDiff, ↓reduceIte, Nat.reduceAdd, Nat.reduceSub, Nat.reduceLT, Nat.reduceMul, reduceCtorEq, Int.reduceToNat, Int.reduceLE, Int.reduceLT, Nat.reduceLeDiff])
              refine hold2 ?_
              exact join_n (decide (b2i r105 = b2i (bC 62))) (Option.some.inj hP) (so [0, 1])
          · intro j113 hs
            subst hs
            have hP := hQ111
            clear hQ111
            refine J_ret (finI_ret ?_)
            exact told_of ⟨j113, Option.some.inj hP, sr [0, 1]⟩
        · intro a114 hs
          subst hs
          have hP := hQ114
          clear hQ114
          (try simp only [go_sem, Nat.reduceEqDiff, ↓reduceIte])
          refine hold2 (then_n ?_)
          refine J_condV rfl ?_
          (try simp only [go_sem, Nat.reduceEqDiff, ↓reduceIte])
          rcases ite_cases hP with ⟨hc, hP⟩ | ⟨hc, hP⟩
          · refine condV_t hc ?_
            refine J_skip (then_n ?_)
            refine J_block ?_
            refine J_region (by kernel_rfl) ?_
            (try simp only [go_sem, Nat.reduceEqDiff, ↓reduceIte])
            refine hold2 (block_n ?_)
            exact loop_n (k89, iadd .i64 l88 1) hP (Nat.lt_succ_self _) (so [0, 1])
          · refine condV_f hc ?_
            refine J_exit (then_exit (loop_exit (block_eq ?_)))
            exact join_n l88 (Option.some.inj hP) (so [0, 1])
  · intro j117 hs
    subst hs
    have hP := hQ102
    dsimp only at hP
    clear hQ102
    refine then_n ?_
    refine J_seq ?_
    refine J_regionq follows_mixed (by kernel_rfl) (by kernel_rfl) ?_
    (try simp only [go_sem, Nat.reduceEqDiff, ↓reduceIte])
    obtain ⟨s118, hs118, hP⟩ := bind_cases hP
    refine slO_of hs118 ?_
    (try simp only [go_sem, Nat.reduceEqDiff, ↓reduceIte])
    simp only [own_cut hs118, go_sem, Nat.reduceEqDiff, ↓reduceIte]
    first | refine bytesK_map ?_ | refine bytesK_of s118 rfl ?_
    (try simp only [go_sem, Nat.reduceEqDiff, ↓reduceIte])
    refine hold2 (then_n ?_)
    refine J_ret (finIX_ret ?_)
    obtain rfl := Option.some.inj hP
    exact pk_of rfl (sr [0, 1])
/-- (*colander/sniff.reader).attribute, handed pointers -/
def sniff_reader_attribute_L148 (c2 : List (UInt8)) : Nat → Int → Option (Sum (Sum (Unit) ((List UInt8) × (List UInt8) × Bool × Int)) (Int))
  | 0, _ => none
  | k132 + 1, l131 =>
    (show Option (Sum (Sum (Unit) ((List UInt8) × (List UInt8) × Bool × Int)) (Bool)) from
      (sniff_reader_now l131 c2).bind fun r157 => match r157 with
      | .inl p158 =>
        some (Sum.inl (Sum.inl ()))
      | .inr r159 =>
        (sniff_space r159).bind fun r160 =>
        if r160 then
          some (Sum.inr true)
        else
          (sniff_reader_now l131 c2).bind fun r161 => match r161 with
          | .inl p162 =>
            some (Sum.inl (Sum.inl ()))
          | .inr r163 =>
            some (Sum.inr (decide (b2i r163 = b2i (bC 47))))).bind fun o156 => match o156 with
    | Sum.inl r => some (Sum.inl r)
    | Sum.inr j164 =>
      if j164 then
        sniff_reader_attribute_L148 c2 k132 (iadd .i64 l131 1)
      else
        some (Sum.inr l131)
def sniff_reader_attribute (c1 : Int) (c2 : List (UInt8)) : Option (Sum (Unit) ((List UInt8) × (List UInt8) × Bool × Int)) :=
  (sniff_reader_attribute_L148 c2 140737488355328 c1).bind fun o165 => match o165 with
  | Sum.inl r => some r
  | Sum.inr j166 =>
    (sniff_reader_now j166 c2).bind fun r167 => match r167 with
    | .inl p168 =>
      some (Sum.inl ())
    | .inr r169 =>
      if decide (b2i r169 = b2i (bC 62)) then
        some (Sum.inr ([], [], false, j166))
      else
        (sniff_reader_find j166 c2 j166).bind fun r170 => match r170 with
        | .inl p171 =>
          some (Sum.inl ())
        | .inr r172 =>
          (sniff_reader_spaces r172.2 c2).bind fun r173 => match r173 with
          | .inl p174 =>
            some (Sum.inl ())
          | .inr r175 =>
            (sniff_reader_now r175 c2).bind fun r176 => match r176 with
            | .inl p177 =>
              some (Sum.inl ())
            | .inr r178 =>
              if !decide (b2i r178 = b2i (bC 61)) then
                some (Sum.inr (r172.1, [], true, r175))
              else
                (sniff_reader_spaces (iadd .i64 r175 1) c2).bind fun r179 => match r179 with
                | .inl p180 =>
                  some (Sum.inl ())
                | .inr r181 =>
                  (sniff_reader_now r181 c2).bind fun r182 => match r182 with
                  | .inl p183 =>
                    some (Sum.inl ())
                  | .inr r184 =>
                    (show Option (Bool) from
                      if decide (b2i r184 = b2i (bC 34)) then
                        some (decide (b2i r184 = b2i (bC 34)))
                      else
                        some (decide (b2i r184 = b2i (bC 39)))).bind fun j186 =>
                      if j186 then
                        (sniff_reader_find_w2 (iadd .i64 r181 1) c2 r184).bind fun r187 => match r187 with
                        | .inl p188 =>
                          some (Sum.inl ())
                        | .inr r189 =>
                          some (Sum.inr (r172.1, r189.1, true, iadd .i64 r189.2 1))
                      else
                        if decide (b2i r184 = b2i (bC 62)) then
                          some (Sum.inr (r172.1, [], true, r181))
                        else
                          (sniff_reader_find_w3 r181 c2).bind fun r190 => match r190 with
                          | .inl p191 =>
                            some (Sum.inl ())
                          | .inr r192 =>
                            some (Sum.inr (r172.1, r192.1, true, r192.2))
set_option maxRecDepth 100000 in
set_option maxHeartbeats 40000000 in
theorem sniff_reader_attribute_ok {c1 : Int} {c2 : List (UInt8)} {r : Sum (Unit) ((List UInt8) × (List UInt8) × Bool × Int)} (hP : sniff_reader_attribute c1 c2 = some r) : CallPX Tryd.prog 69 [.bptr 0 0] [.box 54 [.own 1 0 0 (List.length c2), .int .i64 c1], .slice 0 5 1 (List.map encB c2)] [0] (match r with | .inl p => .inl ⟨.iface 50 (.agg []), [], []⟩ | .inr r => .inr ⟨.tup [.str r.1, .str r.2.1, .bool r.2.2.1], [(0, .bptr 0 0)], [.box 54 [.own 1 0 0 (List.length c2), .int .i64 r.2.2.2], .slice 0 5 1 (List.map encB c2)]⟩) := by
  unfold sniff_reader_attribute at hP
  refine callPX_of 80 [.tmp 2, .tmp 3, .tmp 4] Tryd.func69 ?_ (by rcases r with r | r <;> rintro q (h | h) <;> cases h <;> exact ⟨by (first | (intro x hx; simp at hx; done) | (simp [vfO, AV.vf, AV.vfL, encB, encI, encS, encO, enc_colanderref11_Attr]; done) | (simp [vfO, AV.vf, AV.vfL, encB, encI, encS, encO, enc_colanderref11_Attr]; intros; subst_vars; simp [AV.vf, AV.vfL])), by simp⟩) (by rcases r with r | r <;> rintro q h <;> cases h <;> first | rfl | simp [AV.vf, AV.vfL])
  refine J_seq ?_
  refine J_region (by kernel_rfl) ?_
  (try simp only [go_sem, Nat.reduceEqDiff, ↓reduceIte, Nat.reduceAdd, Nat.reduceSub, Nat.reduceLT, Nat.reduceMul, reduceCtorEq, Int.reduceToNat, Int.reduceLE, Int.reduceLT, Nat.reduceLeDiff])
  refine hold2 (then_n ?_)
  refine J_seq ?_
  obtain ⟨o165, hP, hQ148⟩ := bind_cases hP
  refine J_joinK0 (fun (s : Int) => envL [(1, .bptr 0 0), (80, .bptr 1 0)]) (fun (s : Int) => [.box 52 [.bptr 1 0], .box 54 [.own 2 0 0 (List.length c2), .int .i64 s], .slice 0 5 1 (List.map encB c2)]) (fun s => Sum.inr s = o165) ?_ ?_
  · refine J_block ?_
    refine J_loop (σ := Nat × Int) (fun (s : Nat × Int) => envL [(1, .bptr 0 0), (80, .bptr 1 0)]) (fun (s : Nat × Int) => [.box 52 [.bptr 1 0], .box 54 [.own 2 0 0 (List.length c2), .int .i64 s.2], .slice 0 5 1 (List.map encB c2)]) (fun s => sniff_reader_attribute_L148 c2 s.1 s.2 = some o165) (fun s => s.1) (140737488355328, c1) hP (so [2, 0, 1]) ?_
    rintro ⟨k132, l131⟩ hP
    dsimp only at hP ⊢
    cases k132 with
    | zero => simp [sniff_reader_attribute_L148] at hP
    | succ k132 =>
      simp only [sniff_reader_attribute_L148] at hP
      refine J_seq ?_
      obtain ⟨o156, hP, hQ156⟩ := bind_cases hP
      refine J_join (fun (s : Bool) => envL [(1, .bptr 0 0), (16, .bool s), (80, .bptr 1 0)]) (fun (s : Bool) => [.box 52 [.bptr 1 0], .box 54 [.own 2 0 0 (List.length c2), .int .i64 l131], .slice 0 5 1 (List.map encB c2)]) (fun s => Sum.inr s = o156) ?_ ?_
      · refine J_regionP (by kernel_rfl) ?_
        (try simp only [go_sem, Nat.reduceEqDiff, ↓reduceIte])
        obtain ⟨r157, hr157, hP⟩ := bind_cases hP
        rcases r157 with p158 | r159 <;> dsimp only at hP
        · refine callP_pt [1, 2] [] [] (sniff_reader_now_ok hr157) ⟨argP_r (by rfl), trivial⟩ (told_of (smp [])) (holdP (join_p (then_p (loop_p (block_p (join_p (then_p (finIX_p ?_))))))))
          obtain rfl := Option.some.inj hP
          have hP := hQ156
          dsimp only at hP
          obtain rfl := Option.some.inj hP
          have hP := hQ148
          dsimp only at hP
          obtain rfl := Option.some.inj hP
          exact pp_of rfl (sp [])
        · refine callP_n (call_pt [1, 2] [(1, .bptr 0 0), (80, .bptr 1 0)] [.box 52 [.bptr 1 0], .box 54 [.own 2 0 0 (List.length c2), .int .i64 l131], .slice 0 5 1 (List.map encB c2)] (.int .u8 (b2i r159)) (sniff_reader_now_ok hr157) ⟨argP_r (by rfl), trivial⟩ (told_of (sm [0, 3, 4])) ?_)
          (try simp only [go_sem, Nat.reduceEqDiff, ↓reduceIte])
          obtain ⟨r160, hr160, hP⟩ := bind_cases hP
          refine callP_n (call_ok [.int .u8 (b2i r159)] (sniff_space_ok hr160) ⟨argR_m false rfl, trivial⟩ ?_)
          (try simp only [go_sem, Nat.reduceEqDiff, ↓reduceIte])
          rcases ite_cases hP with ⟨hc, hP⟩ | ⟨hc, hP⟩
          · refine guard_not hc ?_
            (try simp only [go_sem, Nat.reduceEqDiff, ↓reduceIte])
            refine hold2 ?_
            exact join_n true (Option.some.inj hP) (so [0, 1, 2])
          · refine guard_is hc ?_
            (try simp only [go_sem, Nat.reduceEqDiff, ↓reduceIte])
            obtain ⟨r161, hr161, hP⟩ := bind_cases hP
            rcases r161 with p162 | r163 <;> dsimp only at hP
            · refine callP_pt [1, 2] [] [] (sniff_reader_now_ok hr161) ⟨argP_r (by rfl), trivial⟩ (told_of (smp [])) (holdP (join_p (then_p (loop_p (block_p (join_p (then_p (finIX_p ?_))))))))
              obtain rfl := Option.some.inj hP
              have hP := hQ156
              dsimp only at hP
              obtain rfl := Option.some.inj hP
              have hP := hQ148
              dsimp only at hP
              obtain rfl := Option.some.inj hP
              exact pp_of rfl (sp [])
            · refine callP_n (call_pt [1, 2] [(1, .bptr 0 0), (12, .bool false), (80, .bptr 1 0)] [.box 52 [.bptr 1 0], .box 54 [.own 2 0 0 (List.length c2), .int .i64 l131], .slice 0 5 1 (List.map encB c2)] (.int .u8 (b2i r163)) (sniff_reader_now_ok hr161) ⟨argP_r (by rfl), trivial⟩ (told_of (sm [0, 3, 4])) ?_)
              (try simp only [go_sem, Nat.reduceEqDiff, ↓reduceIte])
              refine hold2 ?_
              exact join_n (decide (b2i r163 = b2i (bC 47))) (Option.some.inj hP) (so [0, 1, 2])
      · intro j164 hs
        subst hs
        have hP := hQ156
        dsimp only at hP
        clear hQ156
        refine J_condV rfl ?_
        (try simp only [go_sem, Nat.reduceEqDiff, ↓reduceIte])
        rcases ite_cases hP with ⟨hc, hP⟩ | ⟨hc, hP⟩
        · refine condV_t hc ?_
          refine J_skip (then_n ?_)
          refine J_block ?_
          refine J_region (by kernel_rfl) ?_
          (try simp only [go_sem, Nat.reduceEqDiff, ↓reduceIte])
          refine hold2 (block_n ?_)
          exact loop_n (k132, iadd .i64 l131 1) hP (Nat.lt_succ_self _) (so [0, 1, 2])
        · refine condV_f hc ?_
          refine J_exit (then_exit (loop_exit (block_eq ?_)))
          exact join_n l131 (Option.some.inj hP) (so [0, 1, 2])
  · intro j166 hs
    subst hs
    have hP := hQ148
    dsimp only at hP
    clear hQ148
    refine then_n ?_
    refine J_seq ?_
    refine J_seq ?_
    refine J_regionP (by kernel_rfl) ?_
    (try simp only [go_sem, Nat.reduceEqDiff, ↓reduceIte])
    obtain ⟨r167, hr167, hP⟩ := bind_cases hP
    rcases r167 with p168 | r169 <;> dsimp only at hP
    · refine callP_pt [1, 2] [] [] (sniff_reader_now_ok hr167) ⟨argP_r (by rfl), trivial⟩ (told_of (smp [])) (holdP (then_p (then_p (finIX_p ?_))))
      obtain rfl := Option.some.inj hP
      exact pp_of rfl (sp [])
    · refine callP_n (call_pt [1, 2] [(1, .bptr 0 0), (80, .bptr 1 0)] [.box 52 [.bptr 1 0], .box 54 [.own 2 0 0 (List.length c2), .int .i64 j166], .slice 0 5 1 (List.map encB c2)] (.int .u8 (b2i r169)) (sniff_reader_now_ok hr167) ⟨argP_r (by rfl), trivial⟩ (told_of (sm [0, 3, 4])) ?_)
      (try simp only [go_sem, Nat.reduceEqDiff, ↓reduceIte])
      refine hold2 (then_n ?_)
      refine J_condV rfl ?_
      (try simp only [go_sem, Nat.reduceEqDiff, ↓reduceIte])
      rcases ite_cases hP with ⟨hc, hP⟩ | ⟨hc, hP⟩
      · refine condV_t hc ?_
        refine J_seq ?_
        refine J_region (by kernel_rfl) ?_
        (try simp only [go_sem, Nat.reduceEqDiff, ↓reduceIte])
        refine hold2 (then_n ?_)
        refine J_ret (then_ret (finIX_ret ?_))
        obtain rfl := Option.some.inj hP
        exact pk_of rfl (sr [1, 2])
      · refine condV_f hc ?_
        refine J_skip (then_n ?_)
        refine J_seq ?_
        refine J_region (by kernel_rfl) ?_
        (try simp only [go_sem, Nat.reduceEqDiff, ↓reduceIte])
        refine hold2 (then_n ?_)
        refine J_seq ?_
        refine J_regionP (by kernel_rfl) ?_
        (try simp only [go_sem, Nat.reduceEqDiff, ↓reduceIte])
        obtain ⟨r170, hr170, hP⟩ := bind_cases hP
        rcases r170 with p171 | r172 <;> dsimp only at hP
        · refine callP_pt [1, 2, 0, 3] [] [] (sniff_reader_find_ok hr170) ⟨argP_r (by rfl), argP_r (by rfl), trivial⟩ (told_of (smp [])) (holdP (then_p (finIX_p ?_)))
          obtain rfl := Option.some.inj hP
          exact pp_of rfl (sp [])
        · refine callP_n (call_pt [1, 2, 0, 3] [(1, .bptr 0 0), (80, .bptr 1 0)] [.box 52 [.bptr 1 0], .box 54 [.own 2 0 0 (List.length c2), .int .i64 r172.2], .slice 0 5 1 (List.map encB c2)] (.str r172.1) (sniff_reader_find_ok hr170) ⟨argP_r (by rfl), argP_r (by rfl), trivial⟩ (told_of (sm [6, 4, 5])) ?_)
          (try simp only [go_sem, Nat.reduceEqDiff, ↓reduceIte])
          refine hold2 (then_n ?_)
          refine J_seq ?_
          refine J_regionP (by kernel_rfl) ?_
          (try simp only [go_sem, Nat.reduceEqDiff, ↓reduceIte])
          obtain ⟨r173, hr173, hP⟩ := bind_cases hP
          rcases r173 with p174 | r175 <;> dsimp only at hP
          · refine callP_pt [1, 2] [] [] (sniff_reader_spaces_ok hr173) ⟨argP_r (by rfl), trivial⟩ (told_of (smp [])) (holdP (then_p (finIX_p ?_)))
            obtain rfl := Option.some.inj hP
            exact pp_of rfl (sp [])
          · refine callP_n (call_pt [1, 2] [(1, .bptr 0 0), (6, .str r172.1), (80, .bptr 1 0)] [.box 52 [.bptr 1 0], .box 54 [.own 2 0 0 (List.length c2), .int .i64 r175], .slice 0 5 1 (List.map encB c2)] (.tup []) (sniff_reader_spaces_ok hr173) ⟨argP_r (by rfl), trivial⟩ (told_of (sm [0, 3, 4])) ?_)
            (try simp only [go_sem, Nat.reduceEqDiff, ↓reduceIte])
            refine hold2 (then_n ?_)
            refine J_seq ?_
            refine J_seq ?_
            refine J_regionP (by kernel_rfl) ?_
            (try simp only [go_sem, Nat.reduceEqDiff, ↓reduceIte])
            obtain ⟨r176, hr176, hP⟩ := bind_cases hP
            rcases r176 with p177 | r178 <;> dsimp only at hP
            · refine callP_pt [1, 2] [] [] (sniff_reader_now_ok hr176) ⟨argP_r (by rfl), trivial⟩ (told_of (smp [])) (holdP (then_p (then_p (finIX_p ?_))))
              obtain rfl := Option.some.inj hP
              exact pp_of rfl (sp [])
            · refine callP_n (call_pt [1, 2] [(1, .bptr 0 0), (6, .str r172.1), (80, .bptr 1 0)] [.box 52 [.bptr 1 0], .box 54 [.own 2 0 0 (List.length c2), .int .i64 r175], .slice 0 5 1 (List.map encB c2)] (.int .u8 (b2i r178)) (sniff_reader_now_ok hr176) ⟨argP_r (by rfl), trivial⟩ (told_of (sm [0, 3, 4])) ?_)
              (try simp only [go_sem, Nat.reduceEqDiff, ↓reduceIte])
              refine hold2 (then_n ?_)
              refine J_condV rfl ?_
              (try simp only [go_sem, Nat.reduceEqDiff, ↓reduceIte])
              rcases ite_cases hP with ⟨hc, hP⟩ | ⟨hc, hP⟩
              · refine condV_t hc ?_
                refine J_seq ?_
                refine J_region (by kernel_rfl) ?_
                (try simp only [go_sem, Nat.reduceEqDiff, ↓reduceIte])
                refine hold2 (then_n ?_)
                refine J_ret (then_ret (finIX_ret ?_))
                obtain rfl := Option.some.inj hP
                exact pk_of rfl (sr [1, 2])
              · refine condV_f hc ?_
                refine J_skip (then_n ?_)
                refine J_seq ?_
                refine J_region (by kernel_rfl) ?_
                (try simp only [go_sem, Nat.reduceEqDiff, ↓reduceIte])
                refine hold2 (then_n ?_)
                refine J_seq ?_
                refine J_regionP (by kernel_rfl) ?_
                (try simp only [go_sem, Nat.reduceEqDiff, ↓reduceIte])
                obtain ⟨r179, hr179, hP⟩ := bind_cases hP
                rcases r179 with p180 | r181 <;> dsimp only at hP
                · refine callP_pt [1, 2] [] [] (sniff_reader_spaces_ok hr179) ⟨argP_r (by rfl), trivial⟩ (told_of (smp [])) (holdP (then_p (finIX_p ?_)))
                  obtain rfl := Option.some.inj hP
                  exact pp_of rfl (sp [])
                · refine callP_n (call_pt [1, 2] [(1, .bptr 0 0), (6, .str r172.1), (80, .bptr 1 0)] [.box 52 [.bptr 1 0], .box 54 [.own 2 0 0 (List.length c2), .int .i64 r181], .slice 0 5 1 (List.map encB c2)] (.tup []) (sniff_reader_spaces_ok hr179) ⟨argP_r (by rfl), trivial⟩ (told_of (sm [0, 3, 4])) ?_)
                  (try simp only [go_sem, Nat.reduceEqDiff, ↓reduceIte])
                  refine hold2 (then_n ?_)
                  refine J_seq ?_
                  refine J_regionP (by kernel_rfl) ?_
                  (try simp only [go_sem, Nat.reduceEqDiff, ↓reduceIte])
                  obtain ⟨r182, hr182, hP⟩ := bind_cases hP
                  rcases r182 with p183 | r184 <;> dsimp only at hP
                  · refine callP_pt [1, 2] [] [] (sniff_reader_now_ok hr182) ⟨argP_r (by rfl), trivial⟩ (told_of (smp [])) (holdP (then_p (finIX_p ?_)))
                    obtain rfl := Option.some.inj hP
                    exact pp_of rfl (sp [])
                  · refine callP_n (call_pt [1, 2] [(1, .bptr 0 0), (6, .str r172.1), (80, .bptr 1 0)] [.box 52 [.bptr 1 0], .box 54 [.own 2 0 0 (List.length c2), .int .i64 r181], .slice 0 5 1 (List.map encB c2)] (.int .u8 (b2i r184)) (sniff_reader_now_ok hr182) ⟨argP_r (by rfl), trivial⟩ (told_of (sm [0, 3, 4])) ?_)
                    (try simp only [go_sem, Nat.reduceEqDiff, ↓reduceIte])
                    refine hold2 (then_n ?_)
                    refine J_seq ?_
                    refine J_seq ?_
                    refine J_region (by kernel_rfl) ?_
                    (try simp only [go_sem, Nat.reduceEqDiff, ↓reduceIte])
                    refine hold2 (then_n ?_)
                    refine J_block ?_
                    obtain ⟨o185, hP, hQ185⟩ := bind_cases hP
                    refine J_join (fun (s : Bool) => envL [(1, .bptr 0 0), (6, .str r172.1), (7, .bptr 3 0), (51, .int .u8 (b2i r184)), (52, .bool s), (80, .bptr 1 0)]) (fun (s : Bool) => [.box 52 [.bptr 1 0], .box 54 [.own 2 0 0 (List.length c2), .int .i64 r181], .slice 0 5 1 (List.map encB c2), .box 5 [.int .u8 (b2i r184)]]) (fun s => s = o185) ?_ ?_
                    · clear hQ185
                      refine J_seq ?_
                      refine J_region (by kernel_rfl) ?_
                      (try simp only [go_sem, Nat.reduceEqDiff, ↓reduceIte])
                      refine hold2 (then_n ?_)
                      refine J_condV rfl ?_
                      (try simp only [go_sem, Nat.reduceEqDiff, ↓reduceIte])
                      rcases ite_cases hP with ⟨hc, hP⟩ | ⟨hc, hP⟩
                      · refine condV_t hc ?_
                        refine J_skip ?_
                        exact join_n (decide (b2i r184 = b2i (bC 34))) (Option.some.inj hP) (so [0, 1, 2, 3])
                      · refine condV_f hc ?_
                        refine J_region (by kernel_rfl) ?_
                        (try simp only [go_sem, Nat.reduceEqDiff, ↓reduceIte])
                        refine hold2 ?_
                        exact join_n (decide (b2i r184 = b2i (bC 39))) (Option.some.inj hP) (so [0, 1, 2, 3])
                    · intro j186 hs
                      subst hs
                      have hP := hQ185
                      clear hQ185
                      refine J_condV rfl ?_
                      (try simp only [go_sem, Nat.reduceEqDiff, ↓reduceIte])
                      rcases ite_cases hP with ⟨hc, hP⟩ | ⟨hc, hP⟩
                      · refine condV_t hc ?_
                        refine J_seq ?_
                        refine J_region (by kernel_rfl) ?_
                        (try simp only [go_sem, Nat.reduceEqDiff, ↓reduceIte])
                        refine hold2 (then_n ?_)
                        refine J_seq ?_
                        refine J_regionP (by kernel_rfl) ?_
                        (try simp only [go_sem, Nat.reduceEqDiff, ↓reduceIte])
                        obtain ⟨r187, hr187, hP⟩ := bind_cases hP
                        rcases r187 with p188 | r189 <;> dsimp only at hP
                        · refine callP_pt [1, 2, 3] [] [] (sniff_reader_find_w2_ok hr187) ⟨argP_r (by rfl), argP_r (by rfl), trivial⟩ (told_of (smp [])) (holdP (then_p (block_p (then_p (finIX_p ?_)))))
                          obtain rfl := Option.some.inj hP
                          exact pp_of rfl (sp [])
                        · refine callP_n (call_pt [1, 2, 3] [(1, .bptr 0 0), (6, .str r172.1), (80, .bptr 1 0)] [.box 52 [.bptr 1 0], .box 54 [.own 2 0 0 (List.length c2), .int .i64 r189.2], .slice 0 5 1 (List.map encB c2)] (.str r189.1) (sniff_reader_find_w2_ok hr187) ⟨argP_r (by rfl), argP_r (by rfl), trivial⟩ (told_of (sm [0, 4, 5])) ?_)
                          (try simp only [go_sem, Nat.reduceEqDiff, ↓reduceIte])
                          refine hold2 (then_n ?_)
                          refine J_seq ?_
                          refine J_region (by kernel_rfl) ?_
                          (try simp only [go_sem, Nat.reduceEqDiff, ↓reduceIte])
                          refine hold2 (then_n ?_)
                          refine J_seq ?_
                          refine J_region (by kernel_rfl) ?_
                          (try simp only [go_sem, Nat.reduceEqDiff, ↓reduceIte])
                          refine hold2 (then_n ?_)
                          refine J_ret (block_ret (then_ret (finIX_ret ?_)))
                          obtain rfl := Option.some.inj hP
                          exact pk_of rfl (sr [1, 2])
                      · refine condV_f hc ?_
                        refine J_seq ?_
                        refine J_region (by kernel_rfl) ?_
                        (try simp only [go_sem, Nat.reduceEqDiff, ↓reduceIte])
                        refine hold2 (then_n ?_)
                        refine J_condV rfl ?_
                        (try simp only [go_sem, Nat.reduceEqDiff, ↓reduceIte])
                        rcases ite_cases hP with ⟨hc, hP⟩ | ⟨hc, hP⟩
                        · refine condV_t hc ?_
                          refine J_seq ?_
                          refine J_region (by kernel_rfl) ?_
                          (try simp only [go_sem, Nat.reduceEqDiff, ↓reduceIte])
                          refine hold2 (then_n ?_)
                          refine J_ret (block_ret (then_ret (finIX_ret ?_)))
                          obtain rfl := Option.some.inj hP
                          exact pk_of rfl (sr [1, 2])
                        · refine condV_f hc ?_
                          refine J_skip (block_n (then_n ?_))
                          refine J_seq ?_
                          refine J_regionP (by kernel_rfl) ?_
                          (try simp only [go_sem, Nat.reduceEqDiff, ↓reduceIte])
                          obtain ⟨r190, hr190, hP⟩ := bind_cases hP
                          rcases r190 with p191 | r192 <;> dsimp only at hP
                          · refine callP_pt [1, 2] [] [] (sniff_reader_find_w3_ok hr190) ⟨argP_r (by rfl), argP_r (by rfl), trivial⟩ (told_of (smp [])) (holdP (then_p (finIX_p ?_)))
                            obtain rfl := Option.some.inj hP
                            exact pp_of rfl (sp [])
                          · refine callP_n (call_pt [1, 2] [(77, .str r172.1), (80, .bptr 0 0)] [.box 54 [.own 1 0 0 (List.length c2), .int .i64 r192.2], .slice 0 5 1 (List.map encB c2)] (.str r192.1) (sniff_reader_find_w3_ok hr190) ⟨argP_r (by rfl), argP_r (by rfl), trivial⟩ (told_of (sm [4, 5])) ?_)
                            (try simp only [go_sem, Nat.reduceEqDiff, ↓reduceIte])
                            refine hold2 (then_n ?_)
                            refine J_ret (finIX_ret ?_)
                            obtain rfl := Option.some.inj hP
                            exact pk_of rfl (sr [0, 1])
/-- (*colander/sniff.reader).meta, handed pointers -/
def sniff_reader_meta_L89 (c2 : List (UInt8)) : Nat → Bool → Bool → Bool → Int → Int → (List (List UInt8)) → Option (Sum (Sum (Unit) (Int × Int)) (Bool × Bool × Int × Int))
  | 0, _, _, _, _, _, _ => none
  | k82 + 1, pragma76, need77, any78, code79, l80, l81 =>
    (sniff_reader_attribute l80 c2).bind fun r90 => match r90 with
    | .inl p91 =>
      some (Sum.inl (Sum.inl ()))
    | .inr r92 =>
      if !r92.2.2.1 then
        some (Sum.inr (pragma76, need77, code79, r92.2.2.2))
      else
        (slices_Contains_string_string l81 r92.1).bind fun r93 =>
        if r93 then
          sniff_reader_meta_L89 c2 k82 pragma76 need77 any78 code79 r92.2.2.2 l81
        else
          (szC (16 * List.length (l81 ++ [r92.1] : List (List UInt8)))).bind fun _ =>
          if decide (r92.1 = [104, 116, 116, 112, 45, 101, 113, 117, 105, 118]) then
            sniff_reader_meta_L89 c2 k82 (decide (r92.2.1 = [99, 111, 110, 116, 101, 110, 116, 45, 116, 121, 112, 101])) need77 any78 code79 r92.2.2.2 (l81 ++ [r92.1])
          else
            if decide (r92.1 = [99, 111, 110, 116, 101, 110, 116]) then
              (sniff_Content r92.2.1).bind fun r95 =>
              if !any78 then
                if !decide (r95 = 0) then
                  sniff_reader_meta_L89 c2 k82 pragma76 true true r95 r92.2.2.2 (l81 ++ [r92.1])
                else
                  sniff_reader_meta_L89 c2 k82 pragma76 need77 any78 code79 r92.2.2.2 (l81 ++ [r92.1])
              else
                sniff_reader_meta_L89 c2 k82 pragma76 need77 any78 code79 r92.2.2.2 (l81 ++ [r92.1])
            else
              if decide (r92.1 = [99, 104, 97, 114, 115, 101, 116]) then
                (leaf_Label r92.2.1).bind fun r96 =>
                sniff_reader_meta_L89 c2 k82 pragma76 false true r96 r92.2.2.2 (l81 ++ [r92.1])
              else
                sniff_reader_meta_L89 c2 k82 pragma76 need77 any78 code79 r92.2.2.2 (l81 ++ [r92.1])
def sniff_reader_meta (c1 : Int) (c2 : List (UInt8)) : Option (Sum (Unit) (Int × Int)) :=
  (sniff_reader_meta_L89 c2 140737488355328 false false false 0 c1 ([] : List (List UInt8))).bind fun o97 => match o97 with
  | Sum.inl r => some r
  | Sum.inr j98 =>
    (show Option (Bool) from
      if j98.2.1 then
        some (!j98.1)
      else
        some false).bind fun j100 =>
      if j100 then
        some (Sum.inr (0, j98.2.2.2))
      else
        if decide (j98.2.2.1 = 3) then
          some (Sum.inr (1, j98.2.2.2))
        else
          some (Sum.inr (j98.2.2.1, j98.2.2.2))
set_option maxRecDepth 100000 in
set_option maxHeartbeats 40000000 in
theorem sniff_reader_meta_ok {c1 : Int} {c2 : List (UInt8)} {r : Sum (Unit) (Int × Int)} (hP : sniff_reader_meta c1 c2 = some r) : CallPX Tryd.prog 65 [.bptr 0 0] [.box 54 [.own 1 0 0 (List.length c2), .int .i64 c1], .slice 0 5 1 (List.map encB c2)] [0] (match r with | .inl p => .inl ⟨.iface 50 (.agg []), [], []⟩ | .inr r => .inr ⟨.int .i64 r.1, [(0, .bptr 0 0)], [.box 54 [.own 1 0 0 (List.length c2), .int .i64 r.2], .slice 0 5 1 (List.map encB c2)]⟩) := by
  unfold sniff_reader_meta at hP
  refine callPX_of 55 [.tmp 2] Tryd.func65 ?_ (by rcases r with r | r <;> rintro q (h | h) <;> cases h <;> exact ⟨by (first | (intro x hx; simp at hx; done) | (simp [vfO, AV.vf, AV.vfL, encB, encI, encS, encO, enc_colanderref11_Attr]; done) | (simp [vfO, AV.vf, AV.vfL, encB, encI, encS, encO, enc_colanderref11_Attr]; intros; subst_vars; simp [AV.vf, AV.vfL])), by simp⟩) (by rcases r with r | r <;> rintro q h <;> cases h <;> first | rfl | simp [AV.vf, AV.vfL])
  refine J_seq ?_
  refine J_region (by kernel_rfl) ?_
  (try simp only [go_sem, Nat.reduceEqDiff, ↓reduceIte])
  refine hold2 (then_n ?_)
  refine J_seq ?_
  refine J_region (by kernel_rfl) ?_
  (try simp only [go_sem, Nat.reduceEqDiff, ↓reduceIte])
  refine hold2 (then_n ?_)
  refine J_seq ?_
  refine J_region (by kernel_rfl) ?_
  (try simp only [go_sem, Nat.reduceEqDiff, ↓reduceIte])
  refine hold2 (then_n ?_)
  refine J_seq ?_
  obtain ⟨o97, hP, hQ89⟩ := bind_cases hP
  refine J_joinK0 (fun (s : Bool × Bool × Int × Int) => envL [(4, .bool s.1), (5, .bool s.2.1), (7, .int .i64 s.2.2.1), (55, .bptr 0 0)]) (fun (s : Bool × Bool × Int × Int) => [.box 54 [.own 1 0 0 (List.length c2), .int .i64 s.2.2.2], .slice 0 5 1 (List.map encB c2)]) (fun s => Sum.inr s = o97) ?_ ?_
  · refine J_block ?_
    refine J_loop (σ := Nat × Bool × Bool × Bool × Int × Int × (List (List UInt8))) (fun (s : Nat × Bool × Bool × Bool × Int × Int × (List (List UInt8))) => envL [(0, .bptr 0 0), (3, .own 2 0 0 (List.length s.2.2.2.2.2.2)), (4, .bool s.2.1), (5, .bool s.2.2.1), (6, .bool s.2.2.2.1), (7, .int .i64 s.2.2.2.2.1), (55, .bptr 0 0)]) (fun (s : Nat × Bool × Bool × Bool × Int × Int × (List (List UInt8))) => [.box 54 [.own 1 0 0 (List.length c2), .int .i64 s.2.2.2.2.2.1], .slice 0 5 1 (List.map encB c2), .slice 0 9 1 (List.map encS s.2.2.2.2.2.2)]) (fun s => sniff_reader_meta_L89 c2 s.1 s.2.1 s.2.2.1 s.2.2.2.1 s.2.2.2.2.1 s.2.2.2.2.2.1 s.2.2.2.2.2.2 = some o97) (fun s => s.1) (140737488355328, false, false, false, 0, c1, ([] : List (List UInt8))) hP (so [0, 1, 2]) ?_
    rintro ⟨k82, pragma76, need77, any78, code79, l80, l81⟩ hP
    dsimp only at hP ⊢
    cases k82 with
    | zero => simp [sniff_reader_meta_L89] at hP
    | succ k82 =>
      simp only [sniff_reader_meta_L89] at hP
      refine J_block ?_
      refine J_seq ?_
      refine J_regionP (by kernel_rfl) ?_
      (try simp only [go_sem, Nat.reduceEqDiff, ↓reduceIte])
      obtain ⟨r90, hr90, hP⟩ := bind_cases hP
      rcases r90 with p91 | r92 <;> dsimp only at hP
      · refine callP_pt [0, 1] [] [] (sniff_reader_attribute_ok hr90) ⟨argP_r (by rfl), trivial⟩ (told_of (smp [])) (holdP (then_p (block_p (loop_p (block_p (join_p (then_p (finIX_p ?_))))))))
        obtain rfl := Option.some.inj hP
        have hP := hQ89
        dsimp only at hP
        obtain rfl := Option.some.inj hP
        exact pp_of rfl (sp [])
      · refine callP_n (call_pt [0, 1] [(0, .bptr 0 0), (3, .own 2 0 0 (List.length l81)), (4, .bool pragma76), (5, .bool need77), (6, .bool any78), (7, .int .i64 code79), (55, .bptr 0 0)] [.box 54 [.own 1 0 0 (List.length c2), .int .i64 r92.2.2.2], .slice 0 5 1 (List.map encB c2), .slice 0 9 1 (List.map encS l81)] (.tup [.str r92.1, .str r92.2.1, .bool r92.2.2.1]) (sniff_reader_attribute_ok hr90) ⟨argP_r (by rfl), trivial⟩ (told_of (sm [3, 4, 2])) ?_)
        (try simp only [go_sem, Nat.reduceEqDiff, ↓reduceIte])
        refine hold2 (then_n ?_)
        refine J_seq ?_
        refine J_seq ?_
        refine J_region (by kernel_rfl) ?_
        (try simp only [go_sem, Nat.reduceEqDiff, ↓reduceIte])
        refine hold2 (then_n ?_)
        refine J_condV rfl ?_
        (try simp only [go_sem, Nat.reduceEqDiff, ↓reduceIte])
        rcases ite_cases hP with ⟨hc, hP⟩ | ⟨hc, hP⟩
        · refine condV_t hc ?_
          refine J_exit (then_exit (block_ne (by decide) (loop_exit (block_eq ?_))))
          exact join_n (pragma76, need77, code79, r92.2.2.2) (Option.some.inj hP) (so [0, 1])
        · refine condV_f hc ?_
          refine J_skip (then_n ?_)
          refine J_seq ?_
          refine J_seq ?_
          refine J_region (by kernel_rfl) ?_
          (try simp only [go_sem, Nat.reduceEqDiff, ↓reduceIte])
          obtain ⟨r93, hr93, hP⟩ := bind_cases hP
          refine call_ok [.view 1 (List.map encS l81), .str r92.1] (slices_Contains_string_string_ok hr93) ⟨argR_m false (by simp only [arg, go_sem, Nat.reduceEqDiff, ↓reduceIte]), argR_m false rfl, trivial⟩ ?_
          (try simp only [go_sem, Nat.reduceEqDiff, ↓reduceIte])
          refine hold2 (then_n ?_)
          refine J_condV rfl ?_
          (try simp only [go_sem, Nat.reduceEqDiff, ↓reduceIte])
          rcases ite_cases hP with ⟨hc, hP⟩ | ⟨hc, hP⟩
          · refine condV_t hc ?_
            refine J_exit (then_exit (block_eq ?_))
            exact loop_n (k82, pragma76, need77, any78, code79, r92.2.2.2, l81) hP (Nat.lt_succ_self _) (so [0, 1, 2])
          · refine condV_f hc ?_
            refine J_skip (then_n ?_)
            refine J_seq ?_
            refine J_region (by kernel_rfl) ?_
            (try simp only [go_sem, Nat.reduceEqDiff, ↓reduceIte])
            obtain ⟨_, hz94, hP⟩ := bind_cases hP
            refine app_ownW (f := encS) (l81 : List (List UInt8)) ([r92.1] : List (List UInt8)) rfl tyS_37 (by decide) (by simp only [go_sem, Nat.reduceEqDiff, ↓reduceIte]; first | done | rfl | exact ⟨rfl, rfl⟩) hz94 ?_
            (try simp only [go_sem, Nat.reduceEqDiff, ↓reduceIte])
            refine hold2 (then_n ?_)
            refine J_seq ?_
            refine J_region (by kernel_rfl) ?_
            (try simp only [go_sem, Nat.reduceEqDiff, ↓reduceIte])
            refine hold2 (then_n ?_)
            refine J_block ?_
            refine J_seq ?_
            refine J_region (by kernel_rfl) ?_
            (try simp only [go_sem, Nat.reduceEqDiff, ↓reduceIte])
            refine hold2 (then_n ?_)
            refine J_condV rfl ?_
            (try simp only [go_sem, Nat.reduceEqDiff, ↓reduceIte])
            rcases ite_cases hP with ⟨hc, hP⟩ | ⟨hc, hP⟩
            · refine condV_t hc ?_
              refine J_region (by kernel_rfl) ?_
              (try simp only [go_sem, Nat.reduceEqDiff, ↓reduceIte])
              refine hold2 (block_n (block_n ?_))
              exact loop_n (k82, decide (r92.2.1 = [99, 111, 110, 116, 101, 110, 116, 45, 116, 121, 112, 101]), need77, any78, code79, r92.2.2.2, l81 ++ [r92.1]) hP (Nat.lt_succ_self _) (so [0, 1, 2])
            · refine condV_f hc ?_
              refine J_seq ?_
              refine J_region (by kernel_rfl) ?_
              (try simp only [go_sem, Nat.reduceEqDiff, ↓reduceIte])
              refine hold2 (then_n ?_)
              refine J_condV rfl ?_
              (try simp only [go_sem, Nat.reduceEqDiff, ↓reduceIte])
              rcases ite_cases hP with ⟨hc, hP⟩ | ⟨hc, hP⟩
              · refine condV_t hc ?_
                refine J_seq ?_
                refine J_region (by kernel_rfl) ?_
                (try simp only [go_sem, Nat.reduceEqDiff, ↓reduceIte])
                obtain ⟨r95, hr95, hP⟩ := bind_cases hP
                refine call_ok [.str r92.2.1] (sniff_Content_ok hr95) ⟨argR_m false rfl, trivial⟩ ?_
                (try simp only [go_sem, Nat.reduceEqDiff, ↓reduceIte])
                refine hold2 (then_n ?_)
                refine J_seq ?_
                refine J_region (by kernel_rfl) ?_
                (try simp only [go_sem, Nat.reduceEqDiff, ↓reduceIte])
                rcases ite_cases hP with ⟨hc, hP⟩ | ⟨hc, hP⟩
                · refine guard_is hc ?_
                  (try simp only [go_sem, Nat.reduceEqDiff, ↓reduceIte])
                  refine hold2 (then_n ?_)
                  refine J_condV rfl ?_
                  (try simp only [go_sem, Nat.reduceEqDiff, ↓reduceIte])
                  rcases ite_cases hP with ⟨hc, hP⟩ | ⟨hc, hP⟩
                  · refine condV_t hc ?_
                    refine J_region (by kernel_rfl) ?_
                    (try simp only [go_sem, Nat.reduceEqDiff, ↓reduceIte])
                    refine hold2 (block_n (block_n ?_))
                    exact loop_n (k82, pragma76, true, true, r95, r92.2.2.2, l81 ++ [r92.1]) hP (Nat.lt_succ_self _) (so [0, 1, 2])
                  · refine condV_f hc ?_
                    refine J_skip (block_n (block_n ?_))
                    exact loop_n (k82, pragma76, need77, any78, code79, r92.2.2.2, l81 ++ [r92.1]) hP (Nat.lt_succ_self _) (so [0, 1, 2])
                · refine guard_not hc ?_
                  (try simp only [go_sem, Nat.reduceEqDiff, ↓reduceIte])
                  refine hold2 (then_n ?_)
                  refine J_condV rfl ?_
                  (try simp only [go_sem, Nat.reduceEqDiff, ↓reduceIte])
                  refine J_skip (block_n (block_n ?_))
                  exact loop_n (k82, pragma76, need77, any78, code79, r92.2.2.2, l81 ++ [r92.1]) hP (Nat.lt_succ_self _) (so [0, 1, 2])
              · refine condV_f hc ?_
                refine J_seq ?_
                refine J_region (by kernel_rfl) ?_
                (try simp only [go_sem, Nat.reduceEqDiff, ↓reduceIte])
                refine hold2 (then_n ?_)
                refine J_condV rfl ?_
                (try simp only [go_sem, Nat.reduceEqDiff, ↓reduceIte])
                rcases ite_cases hP with ⟨hc, hP⟩ | ⟨hc, hP⟩
                · refine condV_t hc ?_
                  refine J_region (by kernel_rfl) ?_
                  (try simp only [go_sem, Nat.reduceEqDiff, ↓reduceIte])
                  obtain ⟨r96, hr96, hP⟩ := bind_cases hP
                  refine call_ok [.str r92.2.1] (leaf_Label_ok hr96) ⟨argR_m false rfl, trivial⟩ ?_
                  (try simp only [go_sem, Nat.reduceEqDiff, ↓reduceIte])
                  refine hold2 (block_n (block_n ?_))
                  exact loop_n (k82, pragma76, false, true, r96, r92.2.2.2, l81 ++ [r92.1]) hP (Nat.lt_succ_self _) (so [0, 1, 2])
                · refine condV_f hc ?_
                  refine J_skip (block_n (block_n ?_))
                  exact loop_n (k82, pragma76, need77, any78, code79, r92.2.2.2, l81 ++ [r92.1]) hP (Nat.lt_succ_self _) (so [0, 1, 2])
  · intro j98 hs
    subst hs
    have hP := hQ89
    dsimp only at hP
    clear hQ89
    refine then_n ?_
    refine J_seq ?_
    obtain ⟨o99, hP, hQ99⟩ := bind_cases hP
    refine J_join (fun (s : Bool) => envL [(7, .int .i64 j98.2.2.1), (51, .bool s), (55, .bptr 0 0)]) (fun (s : Bool) => [.box 54 [.own 1 0 0 (List.length c2), .int .i64 j98.2.2.2], .slice 0 5 1 (List.map encB c2)]) (fun s => s = o99) ?_ ?_
    · clear hQ99
      refine J_region (by kernel_rfl) ?_
      (try simp only [go_sem, Nat.reduceEqDiff, ↓reduceIte])
      rcases ite_cases hP with ⟨hc, hP⟩ | ⟨hc, hP⟩
      · refine guard_is hc ?_
        (try simp only [go_sem, Nat.reduceEqDiff, ↓reduceIte])
        refine hold2 ?_
        exact join_n (!j98.1) (Option.some.inj hP) (so [0, 1])
      · refine guard_not hc ?_
        (try simp only [go_sem, Nat.reduceEqDiff, ↓reduceIte])
        refine hold2 ?_
        exact join_n false (Option.some.inj hP) (so [0, 1])
    · intro j100 hs
      subst hs
      have hP := hQ99
      clear hQ99
      refine J_condV rfl ?_
      (try simp only [go_sem, Nat.reduceEqDiff, ↓reduceIte])
      rcases ite_cases hP with ⟨hc, hP⟩ | ⟨hc, hP⟩
      · refine condV_t hc ?_
        refine J_seq ?_
        refine J_region (by kernel_rfl) ?_
        (try simp only [go_sem, Nat.reduceEqDiff, ↓reduceIte])
        refine hold2 (then_n ?_)
        refine J_ret (then_ret (finIX_ret ?_))
        obtain rfl := Option.some.inj hP
        exact pk_of rfl (sr [0, 1])
      · refine condV_f hc ?_
        refine J_skip (then_n ?_)
        refine J_seq ?_
        refine J_seq ?_
        refine J_region (by kernel_rfl) ?_
        (try simp only [go_sem, Nat.reduceEqDiff, ↓reduceIte])
        refine hold2 (then_n ?_)
        refine J_condV rfl ?_
        (try simp only [go_sem, Nat.reduceEqDiff, ↓reduceIte])
        rcases ite_cases hP with ⟨hc, hP⟩ | ⟨hc, hP⟩
        · refine condV_t hc ?_
          refine J_seq ?_
          refine J_region (by kernel_rfl) ?_
          (try simp only [go_sem, Nat.reduceEqDiff, ↓reduceIte])
          refine hold2 (then_n ?_)
          refine J_ret (then_ret (finIX_ret ?_))
          obtain rfl := Option.some.inj hP
          exact pk_of rfl (sr [0, 1])
        · refine condV_f hc ?_
          refine J_skip (then_n ?_)
          refine J_seq ?_
          refine J_region (by kernel_rfl) ?_
          (try simp only [go_sem, Nat.reduceEqDiff, ↓reduceIte])
          refine hold2 (then_n ?_)
          refine J_ret (finIX_ret ?_)
          obtain rfl := Option.some.inj hP
          exact pk_of rfl (sr [0, 1])
/-- (*colander/sniff.reader).find, handed pointers -/
def sniff_reader_find_w4_L102 (c2 : List (UInt8)) : Nat → Int → Option (Sum (Sum (Unit) ((List UInt8) × Int)) (Int))
  | 0, _ => none
  | k89 + 1, l88 =>
    (sniff_reader_now l88 c2).bind fun r103 => match r103 with
    | .inl p104 =>
      some (Sum.inl (Sum.inl ()))
    | .inr r105 =>
      (show Option (Bool) from
        (show Option (Bool) from
          (sniff_space r105).bind fun r112 =>
          if r112 then
            some true
          else
            some (decide (b2i r105 = b2i (bC 62)))).bind fun j113 =>
          some j113).bind fun a114 =>
        if !a114 then
          sniff_reader_find_w4_L102 c2 k89 (iadd .i64 l88 1)
        else
          some (Sum.inr l88)
def sniff_reader_find_w4 (c1 : Int) (c2 : List (UInt8)) : Option (Sum (Unit) ((List UInt8) × Int)) :=
  (sniff_reader_find_w4_L102 c2 140737488355328 c1).bind fun o116 => match o116 with
  | Sum.inl r => some r
  | Sum.inr j117 =>
    (slL c2 c1 j117).bind fun s118 =>
    some (Sum.inr (s118, j117))
set_option maxRecDepth 100000 in
set_option maxHeartbeats 40000000 in
theorem sniff_reader_find_w4_ok {c1 : Int} {c2 : List (UInt8)} {r : Sum (Unit) ((List UInt8) × Int)} (hP : sniff_reader_find_w4 c1 c2 = some r) : CallPX Tryd.prog 67 [.bptr 0 0, .fn 68 []] [.box 54 [.own 1 0 0 (List.length c2), .int .i64 c1], .slice 0 5 1 (List.map encB c2)] [0] (match r with | .inl p => .inl ⟨.iface 50 (.agg []), [], []⟩ | .inr r => .inr ⟨.str r.1, [(0, .bptr 0 0)], [.box 54 [.own 1 0 0 (List.length c2), .int .i64 r.2], .slice 0 5 1 (List.map encB c2)]⟩) := by
  unfold sniff_reader_find_w4 at hP
  refine callPX_of 33 [.tmp 4] Tryd.func67 ?_ (by rcases r with r | r <;> rintro q (h | h) <;> cases h <;> exact ⟨by (first | (intro x hx; simp at hx; done) | (simp [vfO, AV.vf, AV.vfL, encB, encI, encS, encO, enc_colanderref11_Attr]; done) | (simp [vfO, AV.vf, AV.vfL, encB, encI, encS, encO, enc_colanderref11_Attr]; intros; subst_vars; simp [AV.vf, AV.vfL])), by simp⟩) (by rcases r with r | r <;> rintro q h <;> cases h <;> first | rfl | simp [AV.vf, AV.vfL])
  refine J_seq ?_
  refine J_region (by kernel_rfl) ?_
  (try simp only [go_sem, Nat.reduceEqDiff, ↓reduceIte])
  refine hold2 (then_n ?_)
  refine J_seq ?_
  refine J_region (by kernel_rfl) ?_
  (try simp only [go_sem, Nat.reduceEqDiff, ↓reduceIte])
  refine hold2 (then_n ?_)
  refine J_seq ?_
  obtain ⟨o116, hP, hQ102⟩ := bind_cases hP
  refine J_joinK0 (fun (s : Int) => envL [(0, .bptr 0 0), (5, .int .i64 c1), (33, .bptr 0 0)]) (fun (s : Int) => [.box 54 [.own 1 0 0 (List.length c2), .int .i64 s], .slice 0 5 1 (List.map encB c2)]) (fun s => Sum.inr s = o116) ?_ ?_
  · refine J_block ?_
    refine J_loop (σ := Nat × Int) (fun (s : Nat × Int) => envL [(0, .bptr 0 0), (1, .fn 68 []), (5, .int .i64 c1), (33, .bptr 0 0)]) (fun (s : Nat × Int) => [.box 54 [.own 1 0 0 (List.length c2), .int .i64 s.2], .slice 0 5 1 (List.map encB c2)]) (fun s => sniff_reader_find_w4_L102 c2 s.1 s.2 = some o116) (fun s => s.1) (140737488355328, c1) hP (so [0, 1]) ?_
    rintro ⟨k89, l88⟩ hP
    dsimp only at hP ⊢
    cases k89 with
    | zero => simp [sniff_reader_find_w4_L102] at hP
    | succ k89 =>
      simp only [sniff_reader_find_w4_L102] at hP
      refine J_seq ?_
      refine J_seq ?_
      refine J_regionP (by kernel_rfl) ?_
      (try simp only [go_sem, Nat.reduceEqDiff, ↓reduceIte])
      obtain ⟨r103, hr103, hP⟩ := bind_cases hP
      rcases r103 with p104 | r105 <;> dsimp only at hP
      · refine callP_pt [0, 1] [] [] (sniff_reader_now_ok hr103) ⟨argP_r (by rfl), trivial⟩ (told_of (smp [])) (holdP (then_p (then_p (loop_p (block_p (join_p (then_p (finIX_p ?_))))))))
        obtain rfl := Option.some.inj hP
        have hP := hQ102
        dsimp only at hP
        obtain rfl := Option.some.inj hP
        exact pp_of rfl (sp [])
      · refine callP_n (call_pt [0, 1] [(0, .bptr 0 0), (1, .fn 68 []), (5, .int .i64 c1), (10, .fn 68 []), (33, .bptr 0 0)] [.box 54 [.own 1 0 0 (List.length c2), .int .i64 l88], .slice 0 5 1 (List.map encB c2)] (.int .u8 (b2i r105)) (sniff_reader_now_ok hr103) ⟨argP_r (by rfl), trivial⟩ (told_of (sm [2, 3])) ?_)
        (try simp only [go_sem, Nat.reduceEqDiff, ↓reduceIte])
        obtain ⟨o115, hP, hQ114⟩ := bind_cases hP
        refine callP_n (call_join (fun (s : Bool) => .bool s) (fun (s : Bool) => envL [(0, .bptr 0 0), (1, .fn 68 []), (5, .int .i64 c1), (33, .bptr 0 0)]) (fun (s : Bool) => [.box 54 [.own 1 0 0 (List.length c2), .int .i64 l88], .slice 0 5 1 (List.map encB c2)]) (fun s => s = o115) (callI_of (n := 9) (rs := [.tmp 2]) Tryd.func68 rfl (by decide) rfl rfl (by simp) rfl ?_) ?_)
        · clear hQ114
          refine J_seq ?_
          refine J_region (by kernel_rfl) ?_
          (try simp only [go_sem, Nat.reduceEqDiff, ↓reduceIte])
          refine hold2 (then_n ?_)
          obtain ⟨o111, hP, hQ111⟩ := bind_cases hP
          refine J_join (fun (s : Bool) => envL [(2, .bool s), (9, .bptr 0 0), (10, .fn 68 []), (14, .int .i64 c1), (42, .bptr 0 0)]) (fun (s : Bool) => [.box 54 [.own 1 0 0 (List.length c2), .int .i64 l88], .slice 0 5 1 (List.map encB c2)]) (fun s => s = o111) ?_ ?_
          · clear hQ111
            refine J_region (by kernel_rfl) ?_
            (try simp only [go_sem, Nat.reduceEqDiff, ↓reduceIte])
            obtain ⟨r112, hr112, hP⟩ := bind_cases hP
            refine call_ok [.int .u8 (b2i r105)] (sniff_space_ok hr112) ⟨argR_m false rfl, trivial⟩ ?_
            (try simp only [go_sem, Nat.reduceEqDiff, ↓reduceIte])
            rcases ite_cases hP with ⟨hc, hP⟩ | ⟨hc, hP⟩
            · refine guard_not hc ?_
              (try simp only [go_sem, Nat.reduceEqDiff, ↓reduceIte])
              refine hold2 ?_
              exact join_n true (Option.some.inj hP) (so [0, 1])
            · refine guard_is hc ?_
              (try simp only [go_sem, Nat.reduceEqDiff, ↓reduceIte, Nat.reduceAdd, Nat.reduceSub, Nat.reduceLT, Nat.reduceMul, reduceCtorEq, Int.reduceToNat, Int.reduceLE, Int.reduceLT, Nat.reduceLeDiff])
              refine hold2 ?_
              exact join_n (decide (b2i r105 = b2i (bC 62))) (Option.some.inj hP) (so [0, 1])
          · intro j113 hs
            subst hs
            have hP := hQ111
            clear hQ111
            refine J_ret (finI_ret ?_)
            exact told_of ⟨j113, Option.some.inj hP, sr [0, 1]⟩
        · intro a114 hs
          subst hs
          have hP := hQ114
          clear hQ114
          (try simp only [go_sem, Nat.reduceEqDiff, ↓reduceIte])
          refine hold2 (then_n ?_)
          refine J_condV rfl ?_
          (try simp only [go_sem, Nat.reduceEqDiff, ↓reduceIte])
          rcases ite_cases hP with ⟨hc, hP⟩ | ⟨hc, hP⟩
          · refine condV_t hc ?_
            refine J_skip (then_n ?_)
            refine J_block ?_
            refine J_region (by kernel_rfl) ?_
            (try simp only [go_sem, Nat.reduceEqDiff, ↓reduceIte])
            refine hold2 (block_n ?_)
            exact loop_n (k89, iadd .i64 l88 1) hP (Nat.lt_succ_self _) (so [0, 1])
          · refine condV_f hc ?_
            refine J_exit (then_exit (loop_exit (block_eq ?_)))
            exact join_n l88 (Option.some.inj hP) (so [0, 1])
  · intro j117 hs
    subst hs
    have hP := hQ102
    dsimp only at hP
    clear hQ102
    refine then_n ?_
    refine J_seq ?_
    refine J_regionq follows_mixed (by kernel_rfl) (by kernel_rfl) ?_
    (try simp only [go_sem, Nat.reduceEqDiff, ↓reduceIte])
    obtain ⟨s118, hs118, hP⟩ := bind_cases hP
    refine slO_of hs118 ?_
    (try simp only [go_sem, Nat.reduceEqDiff, ↓reduceIte])
    simp only [own_cut hs118, go_sem, Nat.reduceEqDiff, ↓reduceIte]
    first | refine bytesK_map ?_ | refine bytesK_of s118 rfl ?_
    (try simp only [go_sem, Nat.reduceEqDiff, ↓reduceIte])
    refine hold2 (then_n ?_)
    refine J_ret (finIX_ret ?_)
    obtain rfl := Option.some.inj hP
    exact pk_of rfl (sr [0, 1])
/-- (*colander/sniff.reader).find, handed pointers -/
def sniff_reader_find_w5_L46 (c2 : List (UInt8)) : Nat → Int → Option (Sum (Sum (Unit) ((List UInt8) × Int)) (Int))
  | 0, _ => none
  | k41 + 1, l40 =>
    (sniff_reader_now l40 c2).bind fun r47 => match r47 with
    | .inl p48 =>
      some (Sum.inl (Sum.inl ()))
    | .inr r49 =>
      (show Option (Unit) from
        some ()).bind fun a50 =>
        if !(decide (b2i r49 = b2i (bC 62))) then
          sniff_reader_find_w5_L46 c2 k41 (iadd .i64 l40 1)
        else
          some (Sum.inr l40)
def sniff_reader_find_w5 (c1 : Int) (c2 : List (UInt8)) : Option (Sum (Unit) ((List UInt8) × Int)) :=
  (sniff_reader_find_w5_L46 c2 140737488355328 c1).bind fun o52 => match o52 with
  | Sum.inl r => some r
  | Sum.inr j53 =>
    (slL c2 c1 j53).bind fun s54 =>
    some (Sum.inr (s54, j53))
set_option maxRecDepth 100000 in
set_option maxHeartbeats 40000000 in
theorem sniff_reader_find_w5_ok {c1 : Int} {c2 : List (UInt8)} {r : Sum (Unit) ((List UInt8) × Int)} (hP : sniff_reader_find_w5 c1 c2 = some r) : CallPX Tryd.prog 67 [.bptr 0 0, .fn 70 []] [.box 54 [.own 1 0 0 (List.length c2), .int .i64 c1], .slice 0 5 1 (List.map encB c2)] [0] (match r with | .inl p => .inl ⟨.iface 50 (.agg []), [], []⟩ | .inr r => .inr ⟨.str r.1, [(0, .bptr 0 0)], [.box 54 [.own 1 0 0 (List.length c2), .int .i64 r.2], .slice 0 5 1 (List.map encB c2)]⟩) := by
  unfold sniff_reader_find_w5 at hP
  refine callPX_of 33 [.tmp 4] Tryd.func67 ?_ (by rcases r with r | r <;> rintro q (h | h) <;> cases h <;> exact ⟨by (first | (intro x hx; simp at hx; done) | (simp [vfO, AV.vf, AV.vfL, encB, encI, encS, encO, enc_colanderref11_Attr]; done) | (simp [vfO, AV.vf, AV.vfL, encB, encI, encS, encO, enc_colanderref11_Attr]; intros; subst_vars; simp [AV.vf, AV.vfL])), by simp⟩) (by rcases r with r | r <;> rintro q h <;> cases h <;> first | rfl | simp [AV.vf, AV.vfL])
  refine J_seq ?_
  refine J_region (by kernel_rfl) ?_
  (try simp only [go_sem, Nat.reduceEqDiff, ↓reduceIte])
  refine hold2 (then_n ?_)
  refine J_seq ?_
  refine J_region (by kernel_rfl) ?_
  (try simp only [go_sem, Nat.reduceEqDiff, ↓reduceIte])
  refine hold2 (then_n ?_)
  refine J_seq ?_
  obtain ⟨o52, hP, hQ46⟩ := bind_cases hP
  refine J_joinK0 (fun (s : Int) => envL [(0, .bptr 0 0), (5, .int .i64 c1), (33, .bptr 0 0)]) (fun (s : Int) => [.box 54 [.own 1 0 0 (List.length c2), .int .i64 s], .slice 0 5 1 (List.map encB c2)]) (fun s => Sum.inr s = o52) ?_ ?_
  · refine J_block ?_
    refine J_loop (σ := Nat × Int) (fun (s : Nat × Int) => envL [(0, .bptr 0 0), (1, .fn 70 []), (5, .int .i64 c1), (33, .bptr 0 0)]) (fun (s : Nat × Int) => [.box 54 [.own 1 0 0 (List.length c2), .int .i64 s.2], .slice 0 5 1 (List.map encB c2)]) (fun s => sniff_reader_find_w5_L46 c2 s.1 s.2 = some o52) (fun s => s.1) (140737488355328, c1) hP (so [0, 1]) ?_
    rintro ⟨k41, l40⟩ hP
    dsimp only at hP ⊢
    cases k41 with
    | zero => simp [sniff_reader_find_w5_L46] at hP
    | succ k41 =>
      simp only [sniff_reader_find_w5_L46] at hP
      refine J_seq ?_
      refine J_seq ?_
      refine J_regionP (by kernel_rfl) ?_
      (try simp only [go_sem, Nat.reduceEqDiff, ↓reduceIte])
      obtain ⟨r47, hr47, hP⟩ := bind_cases hP
      rcases r47 with p48 | r49 <;> dsimp only at hP
      · refine callP_pt [0, 1] [] [] (sniff_reader_now_ok hr47) ⟨argP_r (by rfl), trivial⟩ (told_of (smp [])) (holdP (then_p (then_p (loop_p (block_p (join_p (then_p (finIX_p ?_))))))))
        obtain rfl := Option.some.inj hP
        have hP := hQ46
        dsimp only at hP
        obtain rfl := Option.some.inj hP
        exact pp_of rfl (sp [])
      · refine callP_n (call_pt [0, 1] [(0, .bptr 0 0), (1, .fn 70 []), (5, .int .i64 c1), (10, .fn 70 []), (33, .bptr 0 0)] [.box 54 [.own 1 0 0 (List.length c2), .int .i64 l40], .slice 0 5 1 (List.map encB c2)] (.int .u8 (b2i r49)) (sniff_reader_now_ok hr47) ⟨argP_r (by rfl), trivial⟩ (told_of (sm [2, 3])) ?_)
        (try simp only [go_sem, Nat.reduceEqDiff, ↓reduceIte])
        obtain ⟨o51, hP, hQ50⟩ := bind_cases hP
        refine callP_n (call_join (fun (s : Unit) => .bool (decide (b2i r49 = b2i (bC 62)))) (fun (s : Unit) => envL [(0, .bptr 0 0), (1, .fn 70 []), (5, .int .i64 c1), (33, .bptr 0 0)]) (fun (s : Unit) => [.box 54 [.own 1 0 0 (List.length c2), .int .i64 l40], .slice 0 5 1 (List.map encB c2)]) (fun s => s = o51) (callI_of (n := 5) (rs := [.tmp 2]) Tryd.func70 rfl (by decide) rfl rfl (by simp) rfl ?_) ?_)
        · clear hQ50
          refine J_seq ?_
          refine J_region (by kernel_rfl) ?_
          (try simp only [go_sem, Nat.reduceEqDiff, ↓reduceIte])
          refine hold2 (then_n ?_)
          refine J_seq ?_
          refine J_region (by kernel_rfl) ?_
          (try simp only [go_sem, Nat.reduceEqDiff, ↓reduceIte])
          refine hold2 (then_n ?_)
          refine J_ret (finI_ret ?_)
          exact told_of ⟨(), Option.some.inj hP, sr [0, 1]⟩
        · intro a50 hs
          subst hs
          have hP := hQ50
          clear hQ50
          (try simp only [go_sem, Nat.reduceEqDiff, ↓reduceIte])
          refine hold2 (then_n ?_)
          refine J_condV rfl ?_
          (try simp only [go_sem, Nat.reduceEqDiff, ↓reduceIte])
          rcases ite_cases hP with ⟨hc, hP⟩ | ⟨hc, hP⟩
          · refine condV_t hc ?_
            refine J_skip (then_n ?_)
            refine J_block ?_
            refine J_region (by kernel_rfl) ?_
            (try simp only [go_sem, Nat.reduceEqDiff, ↓reduceIte])
            refine hold2 (block_n ?_)
            exact loop_n (k41, iadd .i64 l40 1) hP (Nat.lt_succ_self _) (so [0, 1])
          · refine condV_f hc ?_
            refine J_exit (then_exit (loop_exit (block_eq ?_)))
            exact join_n l40 (Option.some.inj hP) (so [0, 1])
  · intro j53 hs
    subst hs
    have hP := hQ46
    dsimp only at hP
    clear hQ46
    refine then_n ?_
    refine J_seq ?_
    refine J_regionq follows_mixed (by kernel_rfl) (by kernel_rfl) ?_
    (try simp only [go_sem, Nat.reduceEqDiff, ↓reduceIte])
    obtain ⟨s54, hs54, hP⟩ := bind_cases hP
    refine slO_of hs54 ?_
    (try simp only [go_sem, Nat.reduceEqDiff, ↓reduceIte])
    simp only [own_cut hs54, go_sem, Nat.reduceEqDiff, ↓reduceIte]
    first | refine bytesK_map ?_ | refine bytesK_of s54 rfl ?_
    (try simp only [go_sem, Nat.reduceEqDiff, ↓reduceIte])
    refine hold2 (then_n ?_)
    refine J_ret (finIX_ret ?_)
    obtain rfl := Option.some.inj hP
    exact pk_of rfl (sr [0, 1])
/-- (*colander/sniff.reader).step, handed pointers -/
def sniff_reader_step_L261 (c2 : List (UInt8)) : Nat → Bool → Int → Option (Sum (Sum (Unit) (Int × Int)) (Int))
  | 0, _, _ => none
  | k258 + 1, more256, l257 =>
    if more256 then
      (sniff_reader_attribute l257 c2).bind fun r262 => match r262 with
      | .inl p263 =>
        some (Sum.inl (Sum.inl ()))
      | .inr r264 =>
        sniff_reader_step_L261 c2 k258 r264.2.2.1 r264.2.2.2
    else
      some (Sum.inr l257)
def sniff_reader_step (c1 : Int) (c2 : List (UInt8)) : Option (Sum (Unit) (Int × Int)) :=
  (show Option (Sum (Sum (Unit) (Int × Int)) (Int)) from
    (sniff_reader_begins (c2, c1) [60, 33, 45, 45]).bind fun r210 =>
    if r210 then
      (slL c2 (iadd .i64 c1 2) ((List.length c2 : Nat) : Int)).bind fun s211 =>
      (bindexX s211 [(bC 45), (bC 45), (bC 62)]).bind fun r212 =>
      if decide (r212 < 0) then
        some (Sum.inl (Sum.inl ()))
      else
        some (Sum.inr (iadd .i64 c1 (iadd .i64 r212 4)))
    else
      (show Option (Bool) from
        (sniff_reader_begins (c2, c1) [60, 109, 101, 116, 97]).bind fun r218 =>
        if r218 then
          if decide (iadd .i64 c1 5 < ((List.length c2 : Nat) : Int)) then
            (ixL c2 (iadd .i64 c1 5)).bind fun x219 =>
            (sniff_space x219).bind fun r220 =>
            if r220 then
              some true
            else
              (ixL c2 (iadd .i64 c1 5)).bind fun x221 =>
              some (decide (b2i x221 = b2i (bC 47)))
          else
            some false
        else
          some false).bind fun j222 =>
        if j222 then
          (sniff_reader_meta (iadd .i64 c1 5) c2).bind fun r223 => match r223 with
          | .inl p224 =>
            some (Sum.inl (Sum.inl ()))
          | .inr r225 =>
            if !decide (r225.1 = 0) then
              some (Sum.inl (Sum.inr (r225.1, r225.2)))
            else
              some (Sum.inr r225.2)
        else
          (show Option (Bool) from
            (show Option (Bool) from
              (sniff_reader_begins (c2, c1) [60]).bind fun r238 =>
              if r238 then
                (sniff_reader_letter (c2, c1) 1).bind fun r239 =>
                some r239
              else
                some false).bind fun j240 =>
              if j240 then
                some j240
              else
                (sniff_reader_begins (c2, c1) [60, 47]).bind fun r241 =>
                if r241 then
                  (sniff_reader_letter (c2, c1) 2).bind fun r242 =>
                  some r242
                else
                  some false).bind fun j243 =>
            if j243 then
              (sniff_reader_find_w4 c1 c2).bind fun r244 => match r244 with
              | .inl p245 =>
                some (Sum.inl (Sum.inl ()))
              | .inr r246 =>
                (sniff_reader_step_L261 c2 140737488355328 true r246.2).bind fun o265 => match o265 with
                | Sum.inl r => some (Sum.inl r)
                | Sum.inr j266 =>
                  some (Sum.inr j266)
            else
              (show Option (Bool) from
                (sniff_reader_begins (c2, c1) [60, 33]).bind fun r271 =>
                if r271 then
                  some r271
                else
                  (sniff_reader_begins (c2, c1) [60, 47]).bind fun r272 =>
                  if r272 then
                    some r272
                  else
                    (sniff_reader_begins (c2, c1) [60, 63]).bind fun r273 =>
                    some r273).bind fun j274 =>
                if j274 then
                  (sniff_reader_find_w5 c1 c2).bind fun r275 => match r275 with
                  | .inl p276 =>
                    some (Sum.inl (Sum.inl ()))
                  | .inr r277 =>
                    some (Sum.inr r277.2)
                else
                  some (Sum.inr c1)).bind fun o209 => match o209 with
  | Sum.inl r => some r
  | Sum.inr j278 =>
    some (Sum.inr (0, iadd .i64 j278 1))
set_option maxRecDepth 100000 in
set_option maxHeartbeats 40000000 in
theorem sniff_reader_step_ok {c1 : Int} {c2 : List (UInt8)} {r : Sum (Unit) (Int × Int)} (hP : sniff_reader_step c1 c2 = some r) : CallPX Tryd.prog 37 [.bptr 0 0] [.box 54 [.own 1 0 0 (List.length c2), .int .i64 c1], .slice 0 5 1 (List.map encB c2)] [0] (match r with | .inl p => .inl ⟨.iface 50 (.agg []), [], []⟩ | .inr r => .inr ⟨.int .i64 r.1, [(0, .bptr 0 0)], [.box 54 [.own 1 0 0 (List.length c2), .int .i64 r.2], .slice 0 5 1 (List.map encB c2)]⟩) := by
  unfold sniff_reader_step at hP
  refine callPX_of 129 [.tmp 2] Tryd.func37 ?_ (by rcases r with r | r <;> rintro q (h | h) <;> cases h <;> exact ⟨by (first | (intro x hx; simp at hx; done) | (simp [vfO, AV.vf, AV.vfL, encB, encI, encS, encO, enc_colanderref11_Attr]; done) | (simp [vfO, AV.vf, AV.vfL, encB, encI, encS, encO, enc_colanderref11_Attr]; intros; subst_vars; simp [AV.vf, AV.vfL])), by simp⟩) (by rcases r with r | r <;> rintro q h <;> cases h <;> first | rfl | simp [AV.vf, AV.vfL])
  refine J_seq ?_
  refine J_region (by kernel_rfl) ?_
  (try simp only [go_sem, Nat.reduceEqDiff, ↓reduceIte])
  refine hold2 (then_n ?_)
  obtain ⟨o209, hP, hQ209⟩ := bind_cases hP
  refine J_join (fun (s : Int) => envL [(0, .bptr 0 0), (129, .bptr 0 0)]) (fun (s : Int) => [.box 54 [.own 1 0 0 (List.length c2), .int .i64 s], .slice 0 5 1 (List.map encB c2)]) (fun s => Sum.inr s = o209) ?_ ?_
  · refine J_block ?_
    refine J_seq ?_
    refine J_region (by kernel_rfl) ?_
    (try simp only [go_sem, Nat.reduceEqDiff, ↓reduceIte])
    obtain ⟨r210, hr210, hP⟩ := bind_cases hP
    refine call_ok [.vptr (.agg [.view 1 (List.map encB c2), .int .i64 c1]) 0, .str [60, 33, 45, 45]] (sniff_reader_begins_ok hr210) ⟨argR_box rfl ⟨argC_m false (by simp only [arg, go_sem, Nat.reduceEqDiff, ↓reduceIte]), argC_m false rfl, trivial⟩, argR_m false rfl, trivial⟩ ?_
    (try simp only [go_sem, Nat.reduceEqDiff, ↓reduceIte])
    refine hold2 (then_n ?_)
    refine J_condV rfl ?_
    (try simp only [go_sem, Nat.reduceEqDiff, ↓reduceIte])
    rcases ite_cases hP with ⟨hc, hP⟩ | ⟨hc, hP⟩
    · refine condV_t hc ?_
      refine J_seq ?_
      refine J_regionT [(0, none), (4, none), (1, some [2, 3, 9, 12, 13]), (2, none), (3, some [9, 12, 13]), (5, some [6, 7, 8, 9, 12, 13]), (6, none), (7, some [8, 9, 12, 13]), (8, some [9, 12, 13]), (9, some [12, 13])] (.early 10 (.early 11 (.early 12 (.early 13 (.done))))) [] [3, 9, 10, 11, 12, 13, 14, 15, 16, 17, 18, 19, 20, 21] follows_mixed (by kernel_rfl) (by kernel_rfl) (by kernel_rfl) (by kernel_rfl) (by kernel_rfl) (by kernel_rfl) ?_
      simp only [pickT_cons, pickT_nil, go_sem, Nat.reduceEqDiff, ↓reduceIte]
      (try simp only [go_sem, Nat.reduceEqDiff, ↓reduceIte, Nat.reduceAdd, Nat.reduceSub, Nat.reduceLT, Nat.reduceMul, reduceCtorEq, Int.reduceToNat, Int.reduceLE, Int.reduceLT, Nat.reduceLeDiff])
      obtain ⟨s211, hs211, hP⟩ := bind_cases hP
      refine slO_of hs211 ?_
      (try simp only [go_sem, Nat.reduceEqDiff, ↓reduceIte])
      obtain ⟨r212, hr212, hP⟩ := bind_cases hP
      refine callE_ok [.view 1 (List.map encB s211), .view 1 (List.map encB [(bC 45), (bC 45), (bC 62)])] (bindexX_ok hr212) ⟨argR_m false (by simp only [arg, own_cut hs211, go_sem, Nat.reduceEqDiff, ↓reduceIte]), argR_m false (by simp only [arg, go_sem, Nat.reduceEqDiff, ↓reduceIte]), trivial⟩ ?_
      (try simp only [go_sem, Nat.reduceEqDiff, ↓reduceIte])
      refine hold2 (then_n ?_)
      refine J_seq ?_
      refine J_seq ?_
      refine J_region (by kernel_rfl) ?_
      (try simp only [go_sem, Nat.reduceEqDiff, ↓reduceIte])
      refine hold2 (then_n ?_)
      refine J_condV rfl ?_
      (try simp only [go_sem, Nat.reduceEqDiff, ↓reduceIte])
      rcases ite_cases hP with ⟨hc, hP⟩ | ⟨hc, hP⟩
      · refine condV_t hc ?_
        refine J_regionP (by kernel_rfl) ?_
        (try simp only [go_sem, Nat.reduceEqDiff, ↓reduceIte])
        refine pan_of (by simp [AV.pl, AV.plL]) (holdP (then_p (block_p (join_p (finIX_p ?_)))))
        obtain rfl := Option.some.inj hP
        have hP := hQ209
        dsimp only at hP
        obtain rfl := Option.some.inj hP
        exact pp_of rfl (sp [])
      · refine condV_f hc ?_
        refine J_skip (then_n ?_)
        refine J_region (by kernel_rfl) ?_
        (try simp only [go_sem, Nat.reduceEqDiff, ↓reduceIte, Nat.reduceAdd, Nat.reduceSub, Nat.reduceLT, Nat.reduceMul, reduceCtorEq, Int.reduceToNat, Int.reduceLE, Int.reduceLT, Nat.reduceLeDiff])
        refine hold2 (block_n ?_)
        exact join_n (iadd .i64 c1 (iadd .i64 r212 4)) (Option.some.inj hP) (so [0, 1])
    · refine condV_f hc ?_
      obtain ⟨o217, hP, hQ217⟩ := bind_cases hP
      refine J_join (fun (s : Bool) => envL [(0, .bptr 0 0), (35, .bool s), (129, .bptr 0 0)]) (fun (s : Bool) => [.box 54 [.own 1 0 0 (List.length c2), .int .i64 c1], .slice 0 5 1 (List.map encB c2)]) (fun s => s = o217) ?_ ?_
      · clear hQ217
        refine J_regionq follows_mixed (by kernel_rfl) (by kernel_rfl) ?_
        (try simp only [go_sem, Nat.reduceEqDiff, ↓reduceIte])
        obtain ⟨r218, hr218, hP⟩ := bind_cases hP
        refine call_okq [.vptr (.agg [.view 1 (List.map encB c2), .int .i64 c1]) 0, .str [60, 109, 101, 116, 97]] (sniff_reader_begins_ok hr218) ⟨argR_box rfl ⟨argC_m false (by simp only [arg, go_sem, Nat.reduceEqDiff, ↓reduceIte]), argC_m false rfl, trivial⟩, argR_m false rfl, trivial⟩ rfl ?_
        (try simp only [go_sem, Nat.reduceEqDiff, ↓reduceIte])
        rcases ite_cases hP with ⟨hc, hP⟩ | ⟨hc, hP⟩
        · refine guard_is hc ?_
          (try simp only [go_sem, Nat.reduceEqDiff, ↓reduceIte, Nat.reduceAdd, Nat.reduceSub, Nat.reduceLT, Nat.reduceMul, reduceCtorEq, Int.reduceToNat, Int.reduceLE, Int.reduceLT, Nat.reduceLeDiff])
          rcases ite_cases hP with ⟨hc, hP⟩ | ⟨hc, hP⟩
          · refine guard_is hc ?_
            (try simp only [go_sem, Nat.reduceEqDiff, ↓reduceIte, Nat.reduceAdd, Nat.reduceSub, Nat.reduceLT, Nat.reduceMul, reduceCtorEq, Int.reduceToNat, Int.reduceLE, Int.reduceLT, Nat.reduceLeDiff])
            obtain ⟨x219, hx219, hP⟩ := bind_cases hP
            refine ixO_of hx219 ?_
            (try simp only [go_sem, Nat.reduceEqDiff, ↓reduceIte])
            refine getK_of (f := encB) hx219 ?_
            (try simp only [go_sem, Nat.reduceEqDiff, ↓reduceIte])
            obtain ⟨r220, hr220, hP⟩ := bind_cases hP
            refine call_okq [.int .u8 (b2i x219)] (sniff_space_ok hr220) ⟨argR_m false rfl, trivial⟩ rfl ?_
            (try simp only [go_sem, Nat.reduceEqDiff, ↓reduceIte])
            rcases ite_cases hP with ⟨hc, hP⟩ | ⟨hc, hP⟩
            · refine guard_not hc ?_
              (try simp only [go_sem, Nat.reduceEqDiff, ↓reduceIte])
              refine hold2 ?_
              exact join_n true (Option.some.inj hP) (so [0, 1])
            · refine guard_is hc ?_
              (try simp only [go_sem, Nat.reduceEqDiff, ↓reduceIte, Nat.reduceAdd, Nat.reduceSub, Nat.reduceLT, Nat.reduceMul, reduceCtorEq, Int.reduceToNat, Int.reduceLE, Int.reduceLT, Nat.reduceLeDiff])
              obtain ⟨x221, hx221, hP⟩ := bind_cases hP
              refine ixO_of hx221 ?_
              (try simp only [go_sem, Nat.reduceEqDiff, ↓reduceIte])
              refine getK_of (f := encB) hx221 ?_
              (try simp only [go_sem, Nat.reduceEqDiff, ↓reduceIte, Nat.reduceAdd, Nat.reduceSub, Nat.reduceLT, Nat.reduceMul, reduceCtorEq, Int.reduceToNat, Int.reduceLE, Int.reduceLT, Nat.reduceLeDiff])
              refine hold2 ?_
              exact join_n (decide (b2i x221 = b2i (bC 47))) (Option.some.inj hP) (so [0, 1])
          · refine guard_not hc ?_
            (try simp only [go_sem, Nat.reduceEqDiff, ↓reduceIte])
            refine hold2 ?_
            exact join_n false (Option.some.inj hP) (so [0, 1])
        · refine guard_not hc ?_
          (try simp only [go_sem, Nat.reduceEqDiff, ↓reduceIte])
          refine hold2 ?_
          exact join_n false (Option.some.inj hP) (so [0, 1])
      · intro j222 hs
        subst hs
        have hP := hQ217
        clear hQ217
        refine J_condV rfl ?_
        (try simp only [go_sem, Nat.reduceEqDiff, ↓reduceIte])
        rcases ite_cases hP with ⟨hc, hP⟩ | ⟨hc, hP⟩
        · refine condV_t hc ?_
          refine J_seq ?_
          refine J_region (by kernel_rfl) ?_
          (try simp only [go_sem, Nat.reduceEqDiff, ↓reduceIte])
          refine hold2 (then_n ?_)
          refine J_seq ?_
          refine J_regionP (by kernel_rfl) ?_
          (try simp only [go_sem, Nat.reduceEqDiff, ↓reduceIte])
          obtain ⟨r223, hr223, hP⟩ := bind_cases hP
          rcases r223 with p224 | r225 <;> dsimp only at hP
          · refine callP_pt [0, 1] [] [] (sniff_reader_meta_ok hr223) ⟨argP_r (by rfl), trivial⟩ (told_of (smp [])) (holdP (then_p (block_p (join_p (finIX_p ?_)))))
            obtain rfl := Option.some.inj hP
            have hP := hQ209
            dsimp only at hP
            obtain rfl := Option.some.inj hP
            exact pp_of rfl (sp [])
          · refine callP_n (call_pt [0, 1] [(0, .bptr 0 0), (129, .bptr 0 0)] [.box 54 [.own 1 0 0 (List.length c2), .int .i64 r225.2], .slice 0 5 1 (List.map encB c2)] (.int .i64 r225.1) (sniff_reader_meta_ok hr223) ⟨argP_r (by rfl), trivial⟩ (told_of (sm [2, 3])) ?_)
            (try simp only [go_sem, Nat.reduceEqDiff, ↓reduceIte])
            refine hold2 (then_n ?_)
            refine J_seq ?_
            refine J_region (by kernel_rfl) ?_
            (try simp only [go_sem, Nat.reduceEqDiff, ↓reduceIte])
            refine hold2 (then_n ?_)
            refine J_condV rfl ?_
            (try simp only [go_sem, Nat.reduceEqDiff, ↓reduceIte])
            rcases ite_cases hP with ⟨hc, hP⟩ | ⟨hc, hP⟩
            · refine condV_t hc ?_
              refine J_seq ?_
              refine J_region (by kernel_rfl) ?_
              (try simp only [go_sem, Nat.reduceEqDiff, ↓reduceIte])
              refine hold2 (then_n ?_)
              refine J_ret (block_ret (join_ret (finIX_ret ?_)))
              obtain rfl := Option.some.inj hP
              have hP := hQ209
              dsimp only at hP
              obtain rfl := Option.some.inj hP
              exact pk_of rfl (sr [0, 1])
            · refine condV_f hc ?_
              refine J_skip (block_n ?_)
              exact join_n r225.2 (Option.some.inj hP) (so [0, 1])
        · refine condV_f hc ?_
          obtain ⟨o234, hP, hQ234⟩ := bind_cases hP
          refine J_join (fun (s : Bool) => envL [(0, .bptr 0 0), (91, .bool s), (129, .bptr 0 0)]) (fun (s : Bool) => [.box 54 [.own 1 0 0 (List.length c2), .int .i64 c1], .slice 0 5 1 (List.map encB c2)]) (fun s => s = o234) ?_ ?_
          · clear hQ234
            obtain ⟨o237, hP, hQ237⟩ := bind_cases hP
            refine J_join (fun (s : Bool) => envL [(0, .bptr 0 0), (91, .bool s), (129, .bptr 0 0)]) (fun (s : Bool) => [.box 54 [.own 1 0 0 (List.length c2), .int .i64 c1], .slice 0 5 1 (List.map encB c2)]) (fun s => s = o237) ?_ ?_
            · clear hQ237
              refine J_region (by kernel_rfl) ?_
              (try simp only [go_sem, Nat.reduceEqDiff, ↓reduceIte])
              obtain ⟨r238, hr238, hP⟩ := bind_cases hP
              refine call_ok [.vptr (.agg [.view 1 (List.map encB c2), .int .i64 c1]) 0, .str [60]] (sniff_reader_begins_ok hr238) ⟨argR_box rfl ⟨argC_m false (by simp only [arg, go_sem, Nat.reduceEqDiff, ↓reduceIte]), argC_m false rfl, trivial⟩, argR_m false rfl, trivial⟩ ?_
              (try simp only [go_sem, Nat.reduceEqDiff, ↓reduceIte])
              rcases ite_cases hP with ⟨hc, hP⟩ | ⟨hc, hP⟩
              · refine guard_is hc ?_
                (try simp only [go_sem, Nat.reduceEqDiff, ↓reduceIte])
                obtain ⟨r239, hr239, hP⟩ := bind_cases hP
                refine call_ok [.vptr (.agg [.view 1 (List.map encB c2), .int .i64 c1]) 0, .int .i64 1] (sniff_reader_letter_ok hr239) ⟨argR_box rfl ⟨argC_m false (by simp only [arg, go_sem, Nat.reduceEqDiff, ↓reduceIte]), argC_m false rfl, trivial⟩, argR_m false rfl, trivial⟩ ?_
                (try simp only [go_sem, Nat.reduceEqDiff, ↓reduceIte])
                refine hold2 ?_
                exact join_n r239 (Option.some.inj hP) (so [0, 1])
              · refine guard_not hc ?_
                (try simp only [go_sem, Nat.reduceEqDiff, ↓reduceIte])
                refine hold2 ?_
                exact join_n false (Option.some.inj hP) (so [0, 1])
            · intro j240 hs
              subst hs
              have hP := hQ237
              clear hQ237
              refine J_condV rfl ?_
              (try simp only [go_sem, Nat.reduceEqDiff, ↓reduceIte])
              rcases ite_cases hP with ⟨hc, hP⟩ | ⟨hc, hP⟩
              · refine condV_t hc ?_
                refine J_skip ?_
                exact join_n j240 (Option.some.inj hP) (so [0, 1])
              · refine condV_f hc ?_
                refine J_region (by kernel_rfl) ?_
                (try simp only [go_sem, Nat.reduceEqDiff, ↓reduceIte])
                obtain ⟨r241, hr241, hP⟩ := bind_cases hP
                refine call_ok [.vptr (.agg [.view 1 (List.map encB c2), .int .i64 c1]) 0, .str [60, 47]] (sniff_reader_begins_ok hr241) ⟨argR_box rfl ⟨argC_m false (by simp only [arg, go_sem, Nat.reduceEqDiff, ↓reduceIte]), argC_m false rfl, trivial⟩, argR_m false rfl, trivial⟩ ?_
                (try simp only [go_sem, Nat.reduceEqDiff, ↓reduceIte])
                rcases ite_cases hP with ⟨hc, hP⟩ | ⟨hc, hP⟩
                · refine guard_is hc ?_
                  (try simp only [go_sem, Nat.reduceEqDiff, ↓reduceIte])
                  obtain ⟨r242, hr242, hP⟩ := bind_cases hP
                  refine call_ok [.vptr (.agg [.view 1 (List.map encB c2), .int .i64 c1]) 0, .int .i64 2] (sniff_reader_letter_ok hr242) ⟨argR_box rfl ⟨argC_m false (by simp only [arg, go_sem, Nat.reduceEqDiff, ↓reduceIte]), argC_m false rfl, trivial⟩, argR_m false rfl, trivial⟩ ?_
                  (try simp only [go_sem, Nat.reduceEqDiff, ↓reduceIte])
                  refine hold2 ?_
                  exact join_n r242 (Option.some.inj hP) (so [0, 1])
                · refine guard_not hc ?_
                  (try simp only [go_sem, Nat.reduceEqDiff, ↓reduceIte])
                  refine hold2 ?_
                  exact join_n false (Option.some.inj hP) (so [0, 1])
          · intro j243 hs
            subst hs
            have hP := hQ234
            clear hQ234
            refine J_condV rfl ?_
            (try simp only [go_sem, Nat.reduceEqDiff, ↓reduceIte])
            rcases ite_cases hP with ⟨hc, hP⟩ | ⟨hc, hP⟩
            · refine condV_t hc ?_
              refine J_seq ?_
              refine J_regionP (by kernel_rfl) ?_
              (try simp only [go_sem, Nat.reduceEqDiff, ↓reduceIte])
              obtain ⟨r244, hr244, hP⟩ := bind_cases hP
              rcases r244 with p245 | r246 <;> dsimp only at hP
              · refine callP_pt [0, 1] [] [] (sniff_reader_find_w4_ok hr244) ⟨argP_r (by rfl), argP_r (by rfl), trivial⟩ (told_of (smp [])) (holdP (then_p (block_p (join_p (finIX_p ?_)))))
                obtain rfl := Option.some.inj hP
                have hP := hQ209
                dsimp only at hP
                obtain rfl := Option.some.inj hP
                exact pp_of rfl (sp [])
              · refine callP_n (call_pt [0, 1] [(0, .bptr 0 0), (129, .bptr 0 0)] [.box 54 [.own 1 0 0 (List.length c2), .int .i64 r246.2], .slice 0 5 1 (List.map encB c2)] (.str r246.1) (sniff_reader_find_w4_ok hr244) ⟨argP_r (by rfl), argP_r (by rfl), trivial⟩ (told_of (sm [2, 3])) ?_)
                (try simp only [go_sem, Nat.reduceEqDiff, ↓reduceIte])
                refine hold2 (then_n ?_)
                refine J_seq ?_
                refine J_region (by kernel_rfl) ?_
                (try simp only [go_sem, Nat.reduceEqDiff, ↓reduceIte])
                refine hold2 (then_n ?_)
                obtain ⟨o265, hP, hQ261⟩ := bind_cases hP
                refine J_joinK0 (fun (s : Int) => envL [(0, .bptr 0 0), (129, .bptr 0 0)]) (fun (s : Int) => [.box 54 [.own 1 0 0 (List.length c2), .int .i64 s], .slice 0 5 1 (List.map encB c2)]) (fun s => Sum.inr s = o265) ?_ ?_
                · refine J_block ?_
                  refine J_loop (σ := Nat × Bool × Int) (fun (s : Nat × Bool × Int) => envL [(0, .bptr 0 0), (5, .bool s.2.1), (129, .bptr 0 0)]) (fun (s : Nat × Bool × Int) => [.box 54 [.own 1 0 0 (List.length c2), .int .i64 s.2.2], .slice 0 5 1 (List.map encB c2)]) (fun s => sniff_reader_step_L261 c2 s.1 s.2.1 s.2.2 = some o265) (fun s => s.1) (140737488355328, true, r246.2) hP (so [0, 1]) ?_
                  rintro ⟨k258, more256, l257⟩ hP
                  dsimp only at hP ⊢
                  cases k258 with
                  | zero => simp [sniff_reader_step_L261] at hP
                  | succ k258 =>
                    simp only [sniff_reader_step_L261] at hP
                    refine J_seq ?_
                    refine J_seq ?_
                    refine J_region (by kernel_rfl) ?_
                    (try simp only [go_sem, Nat.reduceEqDiff, ↓reduceIte])
                    refine hold2 (then_n ?_)
                    refine J_condV rfl ?_
                    (try simp only [go_sem, Nat.reduceEqDiff, ↓reduceIte])
                    rcases ite_cases hP with ⟨hc, hP⟩ | ⟨hc, hP⟩
                    · refine condV_t hc ?_
                      refine J_skip (then_n ?_)
                      refine J_block ?_
                      refine J_regionP (by kernel_rfl) ?_
                      (try simp only [go_sem, Nat.reduceEqDiff, ↓reduceIte])
                      obtain ⟨r262, hr262, hP⟩ := bind_cases hP
                      rcases r262 with p263 | r264 <;> dsimp only at hP
                      · refine callP_pt [0, 1] [] [] (sniff_reader_attribute_ok hr262) ⟨argP_r (by rfl), trivial⟩ (told_of (smp [])) (holdP (block_p (loop_p (block_p (join_p (block_p (join_p (finIX_p ?_))))))))
                        obtain rfl := Option.some.inj hP
                        have hP := hQ261
                        dsimp only at hP
                        obtain rfl := Option.some.inj hP
                        have hP := hQ209
                        dsimp only at hP
                        obtain rfl := Option.some.inj hP
                        exact pp_of rfl (sp [])
                      · refine callP_n (call_pt [0, 1] [(0, .bptr 0 0), (5, .bool more256), (129, .bptr 0 0)] [.box 54 [.own 1 0 0 (List.length c2), .int .i64 r264.2.2.2], .slice 0 5 1 (List.map encB c2)] (.tup [.str r264.1, .str r264.2.1, .bool r264.2.2.1]) (sniff_reader_attribute_ok hr262) ⟨argP_r (by rfl), trivial⟩ (told_of (sm [2, 3])) ?_)
                        (try simp only [go_sem, Nat.reduceEqDiff, ↓reduceIte])
                        refine hold2 (block_n ?_)
                        exact loop_n (k258, r264.2.2.1, r264.2.2.2) hP (Nat.lt_succ_self _) (so [0, 1])
                    · refine condV_f hc ?_
                      refine J_exit (then_exit (loop_exit (block_eq ?_)))
                      exact join_n l257 (Option.some.inj hP) (so [0, 1])
                · intro j266 hs
                  subst hs
                  have hP := hQ261
                  dsimp only at hP
                  clear hQ261
                  refine block_n ?_
                  exact join_n j266 (Option.some.inj hP) (so [0, 1])
            · refine condV_f hc ?_
              obtain ⟨o270, hP, hQ270⟩ := bind_cases hP
              refine J_join (fun (s : Bool) => envL [(0, .bptr 0 0), (113, .bool s), (129, .bptr 0 0)]) (fun (s : Bool) => [.box 54 [.own 1 0 0 (List.length c2), .int .i64 c1], .slice 0 5 1 (List.map encB c2)]) (fun s => s = o270) ?_ ?_
              · clear hQ270
                refine J_seq ?_
                refine J_region (by kernel_rfl) ?_
                (try simp only [go_sem, Nat.reduceEqDiff, ↓reduceIte])
                obtain ⟨r271, hr271, hP⟩ := bind_cases hP
                refine call_ok [.vptr (.agg [.view 1 (List.map encB c2), .int .i64 c1]) 0, .str [60, 33]] (sniff_reader_begins_ok hr271) ⟨argR_box rfl ⟨argC_m false (by simp only [arg, go_sem, Nat.reduceEqDiff, ↓reduceIte]), argC_m false rfl, trivial⟩, argR_m false rfl, trivial⟩ ?_
                (try simp only [go_sem, Nat.reduceEqDiff, ↓reduceIte])
                refine hold2 (then_n ?_)
                refine J_condV rfl ?_
                (try simp only [go_sem, Nat.reduceEqDiff, ↓reduceIte])
                rcases ite_cases hP with ⟨hc, hP⟩ | ⟨hc, hP⟩
                · refine condV_t hc ?_
                  refine J_skip ?_
                  exact join_n r271 (Option.some.inj hP) (so [0, 1])
                · refine condV_f hc ?_
                  refine J_seq ?_
                  refine J_region (by kernel_rfl) ?_
                  (try simp only [go_sem, Nat.reduceEqDiff, ↓reduceIte])
                  obtain ⟨r272, hr272, hP⟩ := bind_cases hP
                  refine call_ok [.vptr (.agg [.view 1 (List.map encB c2), .int .i64 c1]) 0, .str [60, 47]] (sniff_reader_begins_ok hr272) ⟨argR_box rfl ⟨argC_m false (by simp only [arg, go_sem, Nat.reduceEqDiff, ↓reduceIte]), argC_m false rfl, trivial⟩, argR_m false rfl, trivial⟩ ?_
                  (try simp only [go_sem, Nat.reduceEqDiff, ↓reduceIte])
                  refine hold2 (then_n ?_)
                  refine J_condV rfl ?_
                  (try simp only [go_sem, Nat.reduceEqDiff, ↓reduceIte])
                  rcases ite_cases hP with ⟨hc, hP⟩ | ⟨hc, hP⟩
                  · refine condV_t hc ?_
                    refine J_skip ?_
                    exact join_n r272 (Option.some.inj hP) (so [0, 1])
                  · refine condV_f hc ?_
                    refine J_region (by kernel_rfl) ?_
                    (try simp only [go_sem, Nat.reduceEqDiff, ↓reduceIte])
                    obtain ⟨r273, hr273, hP⟩ := bind_cases hP
                    refine call_ok [.vptr (.agg [.view 1 (List.map encB c2), .int .i64 c1]) 0, .str [60, 63]] (sniff_reader_begins_ok hr273) ⟨argR_box rfl ⟨argC_m false (by simp only [arg, go_sem, Nat.reduceEqDiff, ↓reduceIte]), argC_m false rfl, trivial⟩, argR_m false rfl, trivial⟩ ?_
                    (try simp only [go_sem, Nat.reduceEqDiff, ↓reduceIte])
                    refine hold2 ?_
                    exact join_n r273 (Option.some.inj hP) (so [0, 1])
              · intro j274 hs
                subst hs
                have hP := hQ270
                clear hQ270
                refine J_condV rfl ?_
                (try simp only [go_sem, Nat.reduceEqDiff, ↓reduceIte])
                rcases ite_cases hP with ⟨hc, hP⟩ | ⟨hc, hP⟩
                · refine condV_t hc ?_
                  refine J_regionP (by kernel_rfl) ?_
                  (try simp only [go_sem, Nat.reduceEqDiff, ↓reduceIte])
                  obtain ⟨r275, hr275, hP⟩ := bind_cases hP
                  rcases r275 with p276 | r277 <;> dsimp only at hP
                  · refine callP_pt [0, 1] [] [] (sniff_reader_find_w5_ok hr275) ⟨argP_r (by rfl), argP_r (by rfl), trivial⟩ (told_of (smp [])) (holdP (block_p (join_p (finIX_p ?_))))
                    obtain rfl := Option.some.inj hP
                    have hP := hQ209
                    dsimp only at hP
                    obtain rfl := Option.some.inj hP
                    exact pp_of rfl (sp [])
                  · refine callP_n (call_pt [0, 1] [(0, .bptr 0 0), (129, .bptr 0 0)] [.box 54 [.own 1 0 0 (List.length c2), .int .i64 r277.2], .slice 0 5 1 (List.map encB c2)] (.str r277.1) (sniff_reader_find_w5_ok hr275) ⟨argP_r (by rfl), argP_r (by rfl), trivial⟩ (told_of (sm [2, 3])) ?_)
                    (try simp only [go_sem, Nat.reduceEqDiff, ↓reduceIte])
                    refine hold2 (block_n ?_)
                    exact join_n r277.2 (Option.some.inj hP) (so [0, 1])
                · refine condV_f hc ?_
                  refine J_skip (block_n ?_)
                  exact join_n c1 (Option.some.inj hP) (so [0, 1])
  · intro j278 hs
    subst hs
    have hP := hQ209
    dsimp only at hP
    clear hQ209
    refine J_seq ?_
    refine J_region (by kernel_rfl) ?_
    (try simp only [go_sem, Nat.reduceEqDiff, ↓reduceIte])
    refine hold2 (then_n ?_)
    refine J_seq ?_
    refine J_region (by kernel_rfl) ?_
    (try simp only [go_sem, Nat.reduceEqDiff, ↓reduceIte])
    refine hold2 (then_n ?_)
    refine J_ret (finIX_ret ?_)
    obtain rfl := Option.some.inj hP
    exact pk_of rfl (sr [0, 1])
/-- colander/sniff.Prescan -/
def sniff_Prescan_L16 (r3 : (List UInt8)) : Nat → Int → Option (Sum (Int) (Unit))
  | 0, _ => none
  | k13 + 1, l12 =>
    if decide (l12 < ((List.length r3 : Nat) : Int)) then
      (sniff_reader_step l12 r3).bind fun r17 => match r17 with
      | .inl p18 =>
        some (Sum.inl 0)
      | .inr r19 =>
        if !decide (r19.1 = 0) then
          some (Sum.inl r19.1)
        else
          sniff_Prescan_L16 r3 k13 r19.2
    else
      some (Sum.inr ())
def sniff_Prescan (b1 : List (UInt8)) : Option (Int) :=
  (slL b1 0 (min (List.length b1 : Int) 1024)).bind fun s2 =>
  (sniff_small s2).bind fun r3 =>
  (szC (List.length r3)).bind fun _ =>
  (sniff_Prescan_L16 r3 140737488355328 0).bind fun o20 => match o20 with
  | Sum.inl r => some r
  | Sum.inr j21 =>
    some 0
set_option maxRecDepth 100000 in
set_option maxHeartbeats 40000000 in
theorem sniff_Prescan_ok {b1 : List (UInt8)} {r : Int} (hP : sniff_Prescan b1 = some r) : CallOK Tryd.prog 15 [.view 1 (List.map encB b1)] (.int .i64 r) [] := by
  unfold sniff_Prescan at hP
  refine callOK_defers (n := 31) (m := 15) (rs := [.cell 2 3]) (capsT := [2]) Tryd.func15 rfl (by decide) rfl rfl (by simp) rfl (by first | rfl | simp [AV.vf, AV.vfL]) (by first | (intro o ho; simp at ho; done) | (simp [vfO, AV.vf, AV.vfL, encB, encI, encS, encO, enc_colanderref11_Attr]; done) | (simp [vfO, AV.vf, AV.vfL, encB, encI, encS, encO, enc_colanderref11_Attr]; intros; subst_vars; simp [AV.vf, AV.vfL])) Tryd.func36 rfl (by decide) rfl rfl (by decide) (by decide) (by decide) (by decide) ?_
  refine J_region (by kernel_rfl) ?_
  (try simp only [go_sem, Nat.reduceEqDiff, ↓reduceIte])
  refine hold2 (under_n ?_)
  (try simp only [List.map_cons, List.map_nil, go_sem, Nat.reduceEqDiff, ↓reduceIte])
  refine J_seq ?_
  refine J_region (by kernel_rfl) ?_
  (try simp only [go_sem, Nat.reduceEqDiff, ↓reduceIte])
  obtain ⟨s2, hs2, hP⟩ := bind_cases hP
  refine slV_of hs2 ?_
  (try simp only [go_sem, Nat.reduceEqDiff, ↓reduceIte])
  first | refine bytesK_map ?_ | refine bytesK_of s2 rfl ?_
  (try simp only [go_sem, Nat.reduceEqDiff, ↓reduceIte])
  obtain ⟨r3, hr3, hP⟩ := bind_cases hP
  refine call_ok [.str s2] (sniff_small_ok hr3) ⟨argR_m false rfl, trivial⟩ ?_
  (try simp only [go_sem, Nat.reduceEqDiff, ↓reduceIte])
  obtain ⟨_, hz4, hP⟩ := bind_cases hP
  refine chk_of (szC_63 hz4) ?_
  (try simp only [go_sem, Nat.reduceEqDiff, ↓reduceIte, Nat.reduceAdd, Nat.reduceSub, Nat.reduceLT, Nat.reduceMul, reduceCtorEq, Int.reduceToNat, Int.reduceLE, Int.reduceLT, Nat.reduceLeDiff])
  refine hold2 (then_n ?_)
  refine J_seq ?_
  obtain ⟨o20, hP, hQ16⟩ := bind_cases hP
  refine J_joinK0 (fun (s : Unit) => envL [(2, .bptr 0 0), (31, .fn 36 [.bptr 0 0])]) (fun (s : Unit) => [.box 3 [.int .i64 0]]) (fun s => Sum.inr s = o20) ?_ ?_
  · refine J_block ?_
    refine J_loop (σ := Nat × Int) (fun (s : Nat × Int) => envL [(2, .bptr 0 0), (3, .bptr 1 0), (31, .fn 36 [.bptr 0 0])]) (fun (s : Nat × Int) => [.box 3 [.int .i64 0], .box 54 [.own 2 0 0 (List.length r3), .int .i64 s.2], .slice 0 5 1 (List.map encB r3)]) (fun s => sniff_Prescan_L16 r3 s.1 s.2 = some o20) (fun s => s.1) (140737488355328, 0) hP (so [0, 2, 1]) ?_
    rintro ⟨k13, l12⟩ hP
    dsimp only at hP ⊢
    cases k13 with
    | zero => simp [sniff_Prescan_L16] at hP
    | succ k13 =>
      simp only [sniff_Prescan_L16] at hP
      refine J_seq ?_
      refine J_seq ?_
      refine J_regionq follows_mixed (by kernel_rfl) (by kernel_rfl) ?_
      (try simp only [go_sem, Nat.reduceEqDiff, ↓reduceIte])
      refine hold2 (then_n ?_)
      refine J_condV rfl ?_
      (try simp only [go_sem, Nat.reduceEqDiff, ↓reduceIte])
      rcases ite_cases hP with ⟨hc, hP⟩ | ⟨hc, hP⟩
      · refine condV_t hc ?_
        refine J_skip (then_n ?_)
        refine J_block ?_
        refine J_seq ?_
        refine J_regionP (by kernel_rfl) ?_
        (try simp only [go_sem, Nat.reduceEqDiff, ↓reduceIte])
        obtain ⟨r17, hr17, hP⟩ := bind_cases hP
        rcases r17 with p18 | r19 <;> dsimp only at hP
        · refine callP_pt [1, 2] [(2, .bptr 0 0), (31, .fn 36 [.bptr 0 0])] [.box 3 [.int .i64 0]] (sniff_reader_step_ok hr17) ⟨argP_r (by rfl), trivial⟩ (told_of (smp [0])) (holdP (then_p (block_p (loop_p (block_p (join_p (then_p (finD_p _ (by simp [AV.pl, AV.plL]) rfl (by simp) ?_))))))))
          unfold Caught
          refine J_seq ?_
          refine J_region (by kernel_rfl) ?_
          (try simp only [go_sem, Nat.reduceEqDiff, ↓reduceIte])
          refine hold2 (then_n ?_)
          refine J_condV rfl ?_
          (try simp only [go_sem, Nat.reduceEqDiff, ↓reduceIte])
          refine J_seq ?_
          refine J_seq ?_
          refine J_region (by kernel_rfl) ?_
          (try simp only [go_sem, Nat.reduceEqDiff, ↓reduceIte])
          refine hold2 (then_n ?_)
          refine J_seq ?_
          refine J_region (by kernel_rfl) ?_
          (try simp only [go_sem, Nat.reduceEqDiff, ↓reduceIte])
          refine hold2 (then_n ?_)
          refine J_condV rfl ?_
          (try simp only [go_sem, Nat.reduceEqDiff, ↓reduceIte])
          refine J_skip (then_n ?_)
          refine J_region (by kernel_rfl) ?_
          (try simp only [go_sem, Nat.reduceEqDiff, ↓reduceIte, Nat.reduceAdd, Nat.reduceSub, Nat.reduceLT, Nat.reduceMul, reduceCtorEq, Int.reduceToNat, Int.reduceLE, Int.reduceLT, Nat.reduceLeDiff])
          refine hold2 (finC_n ?_)
          obtain rfl := Option.some.inj hP
          have hP := hQ16
          dsimp only at hP
          obtain rfl := Option.some.inj hP
          (try simp only [go_sem, Nat.reduceEqDiff, ↓reduceIte])
          exact fo []
        · refine callP_n (call_pt [1, 2] [(2, .bptr 0 0), (3, .bptr 1 0), (31, .fn 36 [.bptr 0 0])] [.box 3 [.int .i64 0], .box 54 [.own 2 0 0 (List.length r3), .int .i64 r19.2], .slice 0 5 1 (List.map encB r3)] (.int .i64 r19.1) (sniff_reader_step_ok hr17) ⟨argP_r (by rfl), trivial⟩ (told_of (sm [0, 3, 4])) ?_)
          (try simp only [go_sem, Nat.reduceEqDiff, ↓reduceIte])
          refine hold2 (then_n ?_)
          refine J_seq ?_
          refine J_region (by kernel_rfl) ?_
          (try simp only [go_sem, Nat.reduceEqDiff, ↓reduceIte])
          refine hold2 (then_n ?_)
          refine J_condV rfl ?_
          (try simp only [go_sem, Nat.reduceEqDiff, ↓reduceIte])
          rcases ite_cases hP with ⟨hc, hP⟩ | ⟨hc, hP⟩
          · refine condV_t hc ?_
            refine J_seq ?_
            refine J_region (by kernel_rfl) ?_
            (try simp only [go_sem, Nat.reduceEqDiff, ↓reduceIte])
            refine hold2 (then_n ?_)
            refine J_ret (block_ret (loop_ret (block_ret (join_ret (then_ret (finD_ret _ rfl (by simp) ?_))))))
            unfold Caught
            refine J_seq ?_
            refine J_region (by kernel_rfl) ?_
            (try simp only [go_sem, Nat.reduceEqDiff, ↓reduceIte])
            refine hold2 (then_n ?_)
            refine J_condV rfl ?_
            (try simp only [go_sem, Nat.reduceEqDiff, ↓reduceIte])
            refine J_skip (finC_n ?_)
            obtain rfl := Option.some.inj hP
            have hP := hQ16
            dsimp only at hP
            obtain rfl := Option.some.inj hP
            (try simp only [go_sem, Nat.reduceEqDiff, ↓reduceIte])
            exact fo []
          · refine condV_f hc ?_
            refine J_skip (block_n ?_)
            exact loop_n (k13, r19.2) hP (Nat.lt_succ_self _) (so [0, 1, 2])
      · refine condV_f hc ?_
        refine J_exit (then_exit (loop_exit (block_eq ?_)))
        exact join_n () (Option.some.inj hP) (so [0])
  · intro j21 hs
    subst hs
    have hP := hQ16
    dsimp only at hP
    clear hQ16
    refine then_n ?_
    refine J_seq ?_
    refine J_region (by kernel_rfl) ?_
    (try simp only [go_sem, Nat.reduceEqDiff, ↓reduceIte])
    refine hold2 (then_n ?_)
    refine J_ret (finD_ret _ rfl (by simp) ?_)
    unfold Caught
    refine J_seq ?_
    refine J_region (by kernel_rfl) ?_
    (try simp only [go_sem, Nat.reduceEqDiff, ↓reduceIte])
    refine hold2 (then_n ?_)
    refine J_condV rfl ?_
    (try simp only [go_sem, Nat.reduceEqDiff, ↓reduceIte])
    refine J_skip (finC_n ?_)
    obtain rfl := Option.some.inj hP
    (try simp only [go_sem, Nat.reduceEqDiff, ↓reduceIte])
    exact fo []
end Go.Proofs.YtecpgelhhbbjmaaDoor
