/- Functions of the program, and pure ones that go the same ways: that the program's return what these compute. -/
import Derived.Test.YtcmmmomkfamodaaGC
import Derived.Test.YtcmmmomkfamodaaAvY
import Derived.Test.YtcmmmomkfamodaaAvPj
namespace Go.Proofs.Ytcmmmomkfamodaa
open Go.Av
set_option linter.unusedVariables false
set_option linter.unusedSimpArgs false
theorem bind_swap {α β γ : Type} (a : Option α) (b : Option β) (f : α → β → Option γ) : (a.bind fun x => b.bind fun y => f x y) = (b.bind fun y => a.bind fun x => f x y) := by cases a <;> cases b <;> rfl
theorem ixO_of {n m : Nat} {i : Int} {K : Prop} (e : n = m) (h : @IxO n i ⟨K⟩) : @IxO m i ⟨K⟩ := e ▸ h
/-- (*colander/utf8.Decoder).Feed, handed pointers -/
def utf8_Decoder_Feed (b1 : List (UInt8)) (c2 : List (UInt8)) : Option ((List UInt8) × (List (UInt8))) :=
  (szC (List.length (c2 : List (UInt8)))).bind fun _ =>
  (szC (List.length (c2 ++ b1 : List (UInt8)))).bind fun _ =>
  (utf8_held (c2 ++ b1)).bind fun r12 =>
  (slL (c2 ++ b1) (isub .i64 ((List.length (c2 ++ b1) : Nat) : Int) r12) ((List.length (c2 ++ b1) : Nat) : Int)).bind fun s13 =>
  (szC (List.length (s13 : List (UInt8)))).bind fun _ =>
  (slL (c2 ++ b1) 0 (isub .i64 ((List.length (c2 ++ b1) : Nat) : Int) r12)).bind fun s15 =>
  (utf8_Decode s15).bind fun r16 =>
  some (r16, s13)
set_option maxRecDepth 100000 in
set_option maxHeartbeats 40000000 in
theorem utf8_Decoder_Feed_ok {b1 : List (UInt8)} {c2 : List (UInt8)} {r : (List UInt8) × (List (UInt8))} (hP : utf8_Decoder_Feed b1 c2 = some r) : CallPX Try.prog 25 [.bptr 0 0, .view 1 (List.map encB b1)] [.box 58 [.own 1 0 0 (List.length c2)], .slice 0 5 1 (List.map encB c2)] [0] (.inr ⟨.str r.1, [(0, .bptr 0 0)], [.box 58 [.own 1 0 0 (List.length r.2)], .slice 0 5 1 (List.map encB r.2)]⟩) := by
  unfold utf8_Decoder_Feed at hP
  refine callPX_of 32 [.tmp 4] Try.func25 ?_ (by rintro q (h | h) <;> cases h <;> exact ⟨by (first | (intro x hx; simp at hx; done) | (simp [vfO, AV.vf, AV.vfL, encB, encI, encS, encO]; done) | (simp [vfO, AV.vf, AV.vfL, encB, encI, encS, encO]; intros; subst_vars; simp [AV.vf, AV.vfL])), by simp⟩) (by rintro q h <;> cases h <;> first | rfl | simp [AV.vf, AV.vfL])
  refine J_seq ?_
  refine J_region (by kernel_rfl) ?_
  (try simp only [go_sem, Nat.reduceEqDiff, ↓reduceIte, Nat.reduceAdd, Nat.reduceSub, Nat.reduceLT, Nat.reduceMul, reduceCtorEq, Int.reduceToNat, Int.reduceLE, Int.reduceLT, Nat.reduceLeDiff])
  refine hold2 (then_n ?_)
  refine J_seq ?_
  refine J_region (by kernel_rfl) ?_
  (try simp only [go_sem, Nat.reduceEqDiff, ↓reduceIte, Nat.reduceAdd, Nat.reduceSub, Nat.reduceLT, Nat.reduceMul, reduceCtorEq, Int.reduceToNat, Int.reduceLE, Int.reduceLT, Nat.reduceLeDiff])
  obtain ⟨_, hz10, hP⟩ := bind_cases hP
  refine app_own (f := encB) (([] : List UInt8) : List (UInt8)) (c2 : List (UInt8)) rfl tyS_22 (by decide) (by simp only [go_sem, Nat.reduceEqDiff, ↓reduceIte, Nat.reduceAdd, Nat.reduceSub, Nat.reduceLT, Nat.reduceMul, reduceCtorEq, Int.reduceToNat, Int.reduceLE, Int.reduceLT, Nat.reduceLeDiff]; first | done | rfl | exact ⟨rfl, rfl⟩) hz10 ?_
  (try simp only [go_sem, Nat.reduceEqDiff, ↓reduceIte, Nat.reduceAdd, Nat.reduceSub, Nat.reduceLT, Nat.reduceMul, reduceCtorEq, Int.reduceToNat, Int.reduceLE, Int.reduceLT, Nat.reduceLeDiff])
  obtain ⟨_, hz11, hP⟩ := bind_cases hP
  refine app_own (f := encB) (c2 : List (UInt8)) (b1 : List (UInt8)) rfl tyS_22 (by decide) (by simp only [go_sem, Nat.reduceEqDiff, ↓reduceIte, Nat.reduceAdd, Nat.reduceSub, Nat.reduceLT, Nat.reduceMul, reduceCtorEq, Int.reduceToNat, Int.reduceLE, Int.reduceLT, Nat.reduceLeDiff]; first | done | rfl | exact ⟨rfl, rfl⟩) hz11 ?_
  (try simp only [go_sem, Nat.reduceEqDiff, ↓reduceIte, Nat.reduceAdd, Nat.reduceSub, Nat.reduceLT, Nat.reduceMul, reduceCtorEq, Int.reduceToNat, Int.reduceLE, Int.reduceLT, Nat.reduceLeDiff])
  refine hold2 (then_n ?_)
  refine J_seq ?_
  refine J_region (by kernel_rfl) ?_
  (try simp only [go_sem, Nat.reduceEqDiff, ↓reduceIte, Nat.reduceAdd, Nat.reduceSub, Nat.reduceLT, Nat.reduceMul, reduceCtorEq, Int.reduceToNat, Int.reduceLE, Int.reduceLT, Nat.reduceLeDiff])
  obtain ⟨r12, hr12, hP⟩ := bind_cases hP
  refine call_ok [.view 1 (List.map encB (c2 ++ b1))] (utf8_held_ok hr12) ⟨argR_m false (by simp only [arg, go_sem, Nat.reduceEqDiff, ↓reduceIte, Nat.reduceAdd, Nat.reduceSub, Nat.reduceLT, Nat.reduceMul, reduceCtorEq, Int.reduceToNat, Int.reduceLE, Int.reduceLT, Nat.reduceLeDiff]), trivial⟩ ?_
  (try simp only [go_sem, Nat.reduceEqDiff, ↓reduceIte, Nat.reduceAdd, Nat.reduceSub, Nat.reduceLT, Nat.reduceMul, reduceCtorEq, Int.reduceToNat, Int.reduceLE, Int.reduceLT, Nat.reduceLeDiff])
  refine hold2 (then_n ?_)
  refine J_seq ?_
  refine J_region (by kernel_rfl) ?_
  (try simp only [go_sem, Nat.reduceEqDiff, ↓reduceIte, Nat.reduceAdd, Nat.reduceSub, Nat.reduceLT, Nat.reduceMul, reduceCtorEq, Int.reduceToNat, Int.reduceLE, Int.reduceLT, Nat.reduceLeDiff])
  obtain ⟨s13, hs13, hP⟩ := bind_cases hP
  refine slO_of hs13 ?_
  (try simp only [go_sem, Nat.reduceEqDiff, ↓reduceIte, Nat.reduceAdd, Nat.reduceSub, Nat.reduceLT, Nat.reduceMul, reduceCtorEq, Int.reduceToNat, Int.reduceLE, Int.reduceLT, Nat.reduceLeDiff])
  obtain ⟨_, hz14, hP⟩ := bind_cases hP
  refine app_own (f := encB) (([] : List UInt8) : List (UInt8)) (s13 : List (UInt8)) rfl tyS_22 (by decide) (by simp only [own_cut hs13, go_sem, Nat.reduceEqDiff, ↓reduceIte, Nat.reduceAdd, Nat.reduceSub, Nat.reduceLT, Nat.reduceMul, reduceCtorEq, Int.reduceToNat, Int.reduceLE, Int.reduceLT, Nat.reduceLeDiff]; first | done | rfl | exact ⟨rfl, rfl⟩) hz14 ?_
  (try simp only [go_sem, Nat.reduceEqDiff, ↓reduceIte, Nat.reduceAdd, Nat.reduceSub, Nat.reduceLT, Nat.reduceMul, reduceCtorEq, Int.reduceToNat, Int.reduceLE, Int.reduceLT, Nat.reduceLeDiff])
  refine hold2 (then_n ?_)
  refine J_seq ?_
  refine J_region (by kernel_rfl) ?_
  (try simp only [go_sem, Nat.reduceEqDiff, ↓reduceIte, Nat.reduceAdd, Nat.reduceSub, Nat.reduceLT, Nat.reduceMul, reduceCtorEq, Int.reduceToNat, Int.reduceLE, Int.reduceLT, Nat.reduceLeDiff])
  obtain ⟨s15, hs15, hP⟩ := bind_cases hP
  refine slO_of hs15 ?_
  (try simp only [go_sem, Nat.reduceEqDiff, ↓reduceIte, Nat.reduceAdd, Nat.reduceSub, Nat.reduceLT, Nat.reduceMul, reduceCtorEq, Int.reduceToNat, Int.reduceLE, Int.reduceLT, Nat.reduceLeDiff])
  obtain ⟨r16, hr16, hP⟩ := bind_cases hP
  refine call_ok [.view 1 (List.map encB s15)] (utf8_Decode_ok hr16) ⟨argR_m false (by simp only [arg, own_cut0 hs15, go_sem, Nat.reduceEqDiff, ↓reduceIte, Nat.reduceAdd, Nat.reduceSub, Nat.reduceLT, Nat.reduceMul, reduceCtorEq, Int.reduceToNat, Int.reduceLE, Int.reduceLT, Nat.reduceLeDiff]), trivial⟩ ?_
  (try simp only [go_sem, Nat.reduceEqDiff, ↓reduceIte, Nat.reduceAdd, Nat.reduceSub, Nat.reduceLT, Nat.reduceMul, reduceCtorEq, Int.reduceToNat, Int.reduceLE, Int.reduceLT, Nat.reduceLeDiff])
  refine hold2 (then_n ?_)
  refine J_ret (finIX_ret ?_)
  obtain rfl := Option.some.inj hP
  exact pk_of rfl (sr [0, 3])
/-- (*colander/utf8.Decoder).Close, handed pointers -/
def utf8_Decoder_Close (c1 : List (UInt8)) : Option ((List UInt8)) :=
  (utf8_Decode c1).bind fun r3 =>
  some r3
set_option maxRecDepth 100000 in
set_option maxHeartbeats 40000000 in
theorem utf8_Decoder_Close_ok {c1 : List (UInt8)} {r : (List UInt8)} (hP : utf8_Decoder_Close c1 = some r) : CallPX Try.prog 28 [.bptr 0 0] [.box 58 [.own 1 0 0 (List.length c1)], .slice 0 5 1 (List.map encB c1)] [0] (.inr ⟨.str r, [(0, .bptr 0 0)], [.box 58 [.own 1 0 0 (List.length ([] : List UInt8))], .slice 0 5 1 (List.map encB ([] : List UInt8))]⟩) := by
  unfold utf8_Decoder_Close at hP
  refine callPX_of 13 [.tmp 2] Try.func28 ?_ (by rintro q (h | h) <;> cases h <;> exact ⟨by (first | (intro x hx; simp at hx; done) | (simp [vfO, AV.vf, AV.vfL, encB, encI, encS, encO]; done) | (simp [vfO, AV.vf, AV.vfL, encB, encI, encS, encO]; intros; subst_vars; simp [AV.vf, AV.vfL])), by simp⟩) (by rintro q h <;> cases h <;> first | rfl | simp [AV.vf, AV.vfL])
  refine J_seq ?_
  refine J_region (by kernel_rfl) ?_
  (try simp only [go_sem, Nat.reduceEqDiff, ↓reduceIte, Nat.reduceAdd, Nat.reduceSub, Nat.reduceLT, Nat.reduceMul, reduceCtorEq, Int.reduceToNat, Int.reduceLE, Int.reduceLT, Nat.reduceLeDiff])
  refine hold2 (then_n ?_)
  refine J_seq ?_
  refine J_region (by kernel_rfl) ?_
  (try simp only [go_sem, Nat.reduceEqDiff, ↓reduceIte, Nat.reduceAdd, Nat.reduceSub, Nat.reduceLT, Nat.reduceMul, reduceCtorEq, Int.reduceToNat, Int.reduceLE, Int.reduceLT, Nat.reduceLeDiff])
  obtain ⟨r3, hr3, hP⟩ := bind_cases hP
  refine call_ok [.view 1 (List.map encB c1)] (utf8_Decode_ok hr3) ⟨argR_m false (by simp only [arg, go_sem, Nat.reduceEqDiff, ↓reduceIte, Nat.reduceAdd, Nat.reduceSub, Nat.reduceLT, Nat.reduceMul, reduceCtorEq, Int.reduceToNat, Int.reduceLE, Int.reduceLT, Nat.reduceLeDiff]), trivial⟩ ?_
  (try simp only [go_sem, Nat.reduceEqDiff, ↓reduceIte, Nat.reduceAdd, Nat.reduceSub, Nat.reduceLT, Nat.reduceMul, reduceCtorEq, Int.reduceToNat, Int.reduceLE, Int.reduceLT, Nat.reduceLeDiff])
  refine hold2 (then_n ?_)
  refine J_seq ?_
  refine J_region (by kernel_rfl) ?_
  (try simp only [go_sem, Nat.reduceEqDiff, ↓reduceIte, Nat.reduceAdd, Nat.reduceSub, Nat.reduceLT, Nat.reduceMul, reduceCtorEq, Int.reduceToNat, Int.reduceLE, Int.reduceLT, Nat.reduceLeDiff])
  refine hold2 (then_n ?_)
  refine J_prom 5 1 (by decide) 0 0 _ _ rfl rfl ?_
  (try simp only [go_sem, Nat.reduceEqDiff, ↓reduceIte, Nat.reduceAdd, Nat.reduceSub, Nat.reduceLT, Nat.reduceMul, reduceCtorEq, Int.reduceToNat, Int.reduceLE, Int.reduceLT, Nat.reduceLeDiff])
  refine J_seq ?_
  refine J_region (by kernel_rfl) ?_
  (try simp only [go_sem, Nat.reduceEqDiff, ↓reduceIte, Nat.reduceAdd, Nat.reduceSub, Nat.reduceLT, Nat.reduceMul, reduceCtorEq, Int.reduceToNat, Int.reduceLE, Int.reduceLT, Nat.reduceLeDiff])
  refine hold2 (then_n ?_)
  refine J_ret (finIX_ret ?_)
  obtain rfl := Option.some.inj hP
  exact pk_of rfl (sr [0, 2])
/-- colander/colanderlaw08.Utf8Feeds -/
def law08_Utf8Feeds_L306 (s297 : List (UInt8)) : Nat → Int → (List (UInt8)) → Option (Unit)
  | 0, _, _ => none
  | k305 + 1, k303, l304 =>
    if decide (k303 < (List.length s297 : Int)) then
      (ixL s297 k303).bind fun x307 =>
      (ixL l304 k303).bind fun y307 =>
      law08_Utf8Feeds_L306 s297 k305 (iadd .i64 k303 1) (List.set l304 (Int.toNat k303) (bC 120))
    else
      some ()
def law08_Utf8Feeds_L267 (pieces1 : List (List (UInt8))) (ends2 : List (Int)) : Nat → Int → Int → (List (UInt8)) → (List (UInt8)) → Option (Sum (Bool) (Int × (List (UInt8)) × (List (UInt8))))
  | 0, _, _, _, _ => none
  | k184 + 1, told180, i181, l182, l183 =>
    if decide (i181 < (List.length pieces1 : Int)) then
      (ixL pieces1 i181).bind fun x268 =>
      (show Option (Unit) from
        (szC (List.length (x268 : List (UInt8)))).bind fun _ =>
        (szC (List.length (x268 ++ [(bC 191)] : List (UInt8)))).bind fun _ =>
        (slL (x268 ++ [(bC 191)]) 0 (List.length x268 : Int)).bind fun s274 =>
        some ()).bind fun a275 =>
        (slL (x268 ++ [(bC 191)]) 0 (List.length x268 : Int)).bind fun s277 =>
        (utf8_Decoder_Feed s277 l182).bind fun r279 =>
        (ixL pieces1 i181).bind fun x280 =>
        (show Option (Bool) from
          (show Option (Bool) from
            if decide (s277 = x280) then
              (slL (x268 ++ [(bC 191)]) 0 (iadd .i64 (List.length x280 : Int) 1)).bind fun s291 =>
              (ixL s291 (List.length x280 : Int)).bind fun x292 =>
              some (decide (b2i x292 = b2i (bC 191)))
            else
              some false).bind fun j293 =>
            (slL (x268 ++ [(bC 191)]) 0 (List.length x268 : Int)).bind fun s294 =>
            some j293).bind fun a295 =>
          (slL (x268 ++ [(bC 191)]) 0 (List.length x268 : Int)).bind fun s297 =>
          (law08_Utf8Feeds_L306 s297 1099511627776 0 (x268 ++ [(bC 191)])).bind fun j309 =>
            (ixL pieces1 i181).bind fun x310 =>
            (szC (List.length (l183 ++ x310 : List (UInt8)))).bind fun _ =>
            (ref08_Held (l183 ++ x310)).bind fun r312 =>
            (show Option (Bool) from
              if !a295 then
                some true
              else
                (slL (l183 ++ x310) told180 (isub .i64 ((List.length (l183 ++ x310) : Nat) : Int) r312)).bind fun s317 =>
                (ref08_Decode s317).bind fun r318 =>
                if !decide (r279.1 = r318) then
                  some true
                else
                  (utf8_Decoder_Held r279.2).bind fun r319 =>
                  some (!decide (r319 = r312))).bind fun j320 =>
              if j320 then
                some (Sum.inl false)
              else
                (show Option (Bool) from
                  if decide (i181 < (List.length ends2 : Int)) then
                    (ixL ends2 i181).bind fun x323 =>
                    some (decide (iand .i64 x323 1 = 1))
                  else
                    some false).bind fun j324 =>
                  if j324 then
                    (show Option (Bool) from
                      (show Option (Bool) from
                        (utf8_Decoder_Close r279.2).bind fun r345 =>
                        (slL (l183 ++ x310) (isub .i64 ((List.length (l183 ++ x310) : Nat) : Int) r312) ((List.length (l183 ++ x310) : Nat) : Int)).bind fun s346 =>
                        (ref08_Decode s346).bind fun r347 =>
                        if !decide (r345 = r347) then
                          some true
                        else
                          (utf8_Decoder_Held ([] : List UInt8)).bind fun r348 =>
                          some (!decide (r348 = 0))).bind fun j349 =>
                        some j349).bind fun j350 =>
                      if j350 then
                        some (Sum.inl false)
                      else
                        law08_Utf8Feeds_L267 pieces1 ends2 k184 0 (iadd .i64 i181 1) ([] : List UInt8) ([] : List UInt8)
                  else
                    law08_Utf8Feeds_L267 pieces1 ends2 k184 (isub .i64 ((List.length (l183 ++ x310) : Nat) : Int) r312) (iadd .i64 i181 1) r279.2 (l183 ++ x310)
    else
      some (Sum.inr (told180, l182, l183))
def law08_Utf8Feeds (pieces1 : List (List (UInt8))) (ends2 : List (Int)) : Option (Bool) :=
  (law08_shown).bind fun r3 =>
  (show Option (Unit) from
    some ()).bind fun a4 =>
    (show Option (Bool) from
      if !r3 then
        some true
      else
        some false).bind fun j7 =>
      if j7 then
        some false
      else
        (law08_Utf8Feeds_L267 pieces1 ends2 1099511627776 0 0 ([] : List UInt8) ([] : List UInt8)).bind fun o351 => match o351 with
        | Sum.inl r => some r
        | Sum.inr j352 =>
          (show Option (Bool) from
            (utf8_Decoder_Close j352.2.1).bind fun r362 =>
            (slL j352.2.2 j352.1 ((List.length j352.2.2 : Nat) : Int)).bind fun s363 =>
            (ref08_Decode s363).bind fun r364 =>
            if decide (r362 = r364) then
              (utf8_Decoder_Held ([] : List UInt8)).bind fun r365 =>
              if decide (r365 = 0) then
                (utf8_Decoder_Close ([] : List UInt8)).bind fun r367 =>
                some (decide (r367 = []))
              else
                some false
            else
              some false).bind fun j368 =>
            some j368
set_option maxRecDepth 100000 in
set_option maxHeartbeats 40000000 in
theorem law08_Utf8Feeds_ok {pieces1 : List (List (UInt8))} {ends2 : List (Int)} {r : Bool} (hP : law08_Utf8Feeds pieces1 ends2 = some r) : CallOK Try.prog 9 [.view 1 (List.map (encL 1 encB) pieces1), .view 1 (List.map (encI .i64) ends2)] (.bool r) [] := by
  unfold law08_Utf8Feeds at hP
  refine co 125 [.tmp 4] Try.func9 ?_
  refine J_seq ?_
  refine J_region (by kernel_rfl) ?_
  (try simp only [go_sem, Nat.reduceEqDiff, ↓reduceIte, Nat.reduceAdd, Nat.reduceSub, Nat.reduceLT, Nat.reduceMul, reduceCtorEq, Int.reduceToNat, Int.reduceLE, Int.reduceLT, Nat.reduceLeDiff])
  refine hold2 (then_n ?_)
  refine J_seq ?_
  refine J_region (by kernel_rfl) ?_
  (try simp only [go_sem, Nat.reduceEqDiff, ↓reduceIte, Nat.reduceAdd, Nat.reduceSub, Nat.reduceLT, Nat.reduceMul, reduceCtorEq, Int.reduceToNat, Int.reduceLE, Int.reduceLT, Nat.reduceLeDiff])
  obtain ⟨r3, hr3, hP⟩ := bind_cases hP
  refine call_ok [] (law08_shown_ok hr3) trivial ?_
  (try simp only [go_sem, Nat.reduceEqDiff, ↓reduceIte, Nat.reduceAdd, Nat.reduceSub, Nat.reduceLT, Nat.reduceMul, reduceCtorEq, Int.reduceToNat, Int.reduceLE, Int.reduceLT, Nat.reduceLeDiff])
  refine hold2 (then_n ?_)
  refine J_seq ?_
  refine J_region (by kernel_rfl) ?_
  (try simp only [go_sem, Nat.reduceEqDiff, ↓reduceIte, Nat.reduceAdd, Nat.reduceSub, Nat.reduceLT, Nat.reduceMul, reduceCtorEq, Int.reduceToNat, Int.reduceLE, Int.reduceLT, Nat.reduceLeDiff])
  obtain ⟨o5, hP, hQ4⟩ := bind_cases hP
  refine call_join (fun (s : Unit) => .bptr 0 0) (fun (s : Unit) => envL [(0, .view 1 (List.map (encL 1 encB) pieces1)), (1, .view 1 (List.map (encI .i64) ends2)), (5, .bool r3)]) (fun (s : Unit) => [.box 58 [.own 1 0 0 (List.length ([] : List UInt8))], .slice 0 5 1 (List.map encB ([] : List UInt8))]) (fun s => s = o5) (callI_of (n := 3) (rs := [.tmp 0]) Try.func24 rfl (by decide) rfl rfl (by simp) rfl ?_) ?_
  · clear hQ4
    refine J_seq ?_
    refine J_region (by kernel_rfl) ?_
    (try simp only [go_sem, Nat.reduceEqDiff, ↓reduceIte, Nat.reduceAdd, Nat.reduceSub, Nat.reduceLT, Nat.reduceMul, reduceCtorEq, Int.reduceToNat, Int.reduceLE, Int.reduceLT, Nat.reduceLeDiff])
    refine hold2 (then_n ?_)
    refine J_seq ?_
    refine J_region (by kernel_rfl) ?_
    (try simp only [go_sem, Nat.reduceEqDiff, ↓reduceIte, Nat.reduceAdd, Nat.reduceSub, Nat.reduceLT, Nat.reduceMul, reduceCtorEq, Int.reduceToNat, Int.reduceLE, Int.reduceLT, Nat.reduceLeDiff])
    refine hold2 (then_n ?_)
    refine J_prom 5 1 (by decide) 0 0 _ _ rfl rfl ?_
    (try simp only [go_sem, Nat.reduceEqDiff, ↓reduceIte, Nat.reduceAdd, Nat.reduceSub, Nat.reduceLT, Nat.reduceMul, reduceCtorEq, Int.reduceToNat, Int.reduceLE, Int.reduceLT, Nat.reduceLeDiff])
    refine J_ret (finI_ret ?_)
    exact told_of ⟨(), Option.some.inj hP, sr [0, 1]⟩
  · intro a4 hs
    subst hs
    have hP := hQ4
    clear hQ4
    (try simp only [go_sem, Nat.reduceEqDiff, ↓reduceIte, Nat.reduceAdd, Nat.reduceSub, Nat.reduceLT, Nat.reduceMul, reduceCtorEq, Int.reduceToNat, Int.reduceLE, Int.reduceLT, Nat.reduceLeDiff])
    refine hold2 (then_n ?_)
    refine J_seq ?_
    obtain ⟨o6, hP, hQ6⟩ := bind_cases hP
    refine J_join (fun (s : Bool) => envL [(0, .view 1 (List.map (encL 1 encB) pieces1)), (1, .view 1 (List.map (encI .i64) ends2)), (6, .bptr 0 0), (22, .bool s)]) (fun (s : Bool) => [.box 58 [.own 1 0 0 (List.length ([] : List UInt8))], .slice 0 5 1 (List.map encB ([] : List UInt8))]) (fun s => s = o6) ?_ ?_
    · clear hQ6
      refine J_region (by kernel_rfl) ?_
      (try simp only [go_sem, Nat.reduceEqDiff, ↓reduceIte, Nat.reduceAdd, Nat.reduceSub, Nat.reduceLT, Nat.reduceMul, reduceCtorEq, Int.reduceToNat, Int.reduceLE, Int.reduceLT, Nat.reduceLeDiff])
      rcases ite_cases hP with ⟨hc, hP⟩ | ⟨hc, hP⟩
      · refine guard_not hc ?_
        (try simp only [go_sem, Nat.reduceEqDiff, ↓reduceIte, Nat.reduceAdd, Nat.reduceSub, Nat.reduceLT, Nat.reduceMul, reduceCtorEq, Int.reduceToNat, Int.reduceLE, Int.reduceLT, Nat.reduceLeDiff])
        refine hold2 ?_
        exact join_n true (Option.some.inj hP) (so [0, 1])
      · refine guard_is hc ?_
        (try simp only [go_sem, Nat.reduceEqDiff, ↓reduceIte, Nat.reduceAdd, Nat.reduceSub, Nat.reduceLT, Nat.reduceMul, reduceCtorEq, Int.reduceToNat, Int.reduceLE, Int.reduceLT, Nat.reduceLeDiff])
        refine hold2 ?_
        exact join_n false (Option.some.inj hP) (so [0, 1])
    · intro j7 hs
      subst hs
      have hP := hQ6
      clear hQ6
      refine J_condV rfl ?_
      (try simp only [go_sem, Nat.reduceEqDiff, ↓reduceIte, Nat.reduceAdd, Nat.reduceSub, Nat.reduceLT, Nat.reduceMul, reduceCtorEq, Int.reduceToNat, Int.reduceLE, Int.reduceLT, Nat.reduceLeDiff])
      rcases ite_cases hP with ⟨hc, hP⟩ | ⟨hc, hP⟩
      · refine condV_t hc ?_
        refine J_seq ?_
        refine J_region (by kernel_rfl) ?_
        (try simp only [go_sem, Nat.reduceEqDiff, ↓reduceIte, Nat.reduceAdd, Nat.reduceSub, Nat.reduceLT, Nat.reduceMul, reduceCtorEq, Int.reduceToNat, Int.reduceLE, Int.reduceLT, Nat.reduceLeDiff])
        refine hold2 (then_n ?_)
        refine J_ret (then_ret (fin_ret ?_))
        obtain rfl := Option.some.inj hP
        (try simp only [go_sem, Nat.reduceEqDiff, ↓reduceIte, Nat.reduceAdd, Nat.reduceSub, Nat.reduceLT, Nat.reduceMul, reduceCtorEq, Int.reduceToNat, Int.reduceLE, Int.reduceLT, Nat.reduceLeDiff])
        exact fo []
      · refine condV_f hc ?_
        refine J_skip (then_n ?_)
        refine J_seq ?_
        refine J_region (by kernel_rfl) ?_
        (try simp only [go_sem, Nat.reduceEqDiff, ↓reduceIte, Nat.reduceAdd, Nat.reduceSub, Nat.reduceLT, Nat.reduceMul, reduceCtorEq, Int.reduceToNat, Int.reduceLE, Int.reduceLT, Nat.reduceLeDiff])
        refine hold2 (then_n ?_)
        refine J_seq ?_
        refine J_region (by kernel_rfl) ?_
        (try simp only [go_sem, Nat.reduceEqDiff, ↓reduceIte, Nat.reduceAdd, Nat.reduceSub, Nat.reduceLT, Nat.reduceMul, reduceCtorEq, Int.reduceToNat, Int.reduceLE, Int.reduceLT, Nat.reduceLeDiff])
        refine hold2 (then_n ?_)
        refine J_seq ?_
        refine J_seq ?_
        refine J_region (by kernel_rfl) ?_
        (try simp only [go_sem, Nat.reduceEqDiff, ↓reduceIte, Nat.reduceAdd, Nat.reduceSub, Nat.reduceLT, Nat.reduceMul, reduceCtorEq, Int.reduceToNat, Int.reduceLE, Int.reduceLT, Nat.reduceLeDiff])
        refine hold2 (then_n ?_)
        obtain ⟨o351, hP, hQ267⟩ := bind_cases hP
        refine J_joinK0 (fun (s : Int × (List (UInt8)) × (List (UInt8))) => envL [(6, .bptr 0 0), (7, .own 2 0 0 (List.length s.2.2)), (8, .int .i64 s.1)]) (fun (s : Int × (List (UInt8)) × (List (UInt8))) => [.box 58 [.own 1 0 0 (List.length s.2.1)], .slice 0 5 1 (List.map encB s.2.1), .slice 0 5 1 (List.map encB s.2.2)]) (fun s => Sum.inr s = o351) ?_ ?_
        · refine J_block ?_
          refine J_loop (σ := Nat × Int × Int × (List (UInt8)) × (List (UInt8))) (fun (s : Nat × Int × Int × (List (UInt8)) × (List (UInt8))) => envL [(0, .view 1 (List.map (encL 1 encB) pieces1)), (1, .view 1 (List.map (encI .i64) ends2)), (6, .bptr 0 0), (7, .own 2 0 0 (List.length s.2.2.2.2)), (8, .int .i64 s.2.1), (9, .int .i64 s.2.2.1)]) (fun (s : Nat × Int × Int × (List (UInt8)) × (List (UInt8))) => [.box 58 [.own 1 0 0 (List.length s.2.2.2.1)], .slice 0 5 1 (List.map encB s.2.2.2.1), .slice 0 5 1 (List.map encB s.2.2.2.2)]) (fun s => law08_Utf8Feeds_L267 pieces1 ends2 s.1 s.2.1 s.2.2.1 s.2.2.2.1 s.2.2.2.2 = some o351) (fun s => s.1) (1099511627776, 0, 0, ([] : List UInt8), ([] : List UInt8)) hP (so [0, 1, 2]) ?_
          rintro ⟨k184, told180, i181, l182, l183⟩ hP
          dsimp only at hP ⊢
          cases k184 with
          | zero => simp [law08_Utf8Feeds_L267] at hP
          | succ k184 =>
            simp only [law08_Utf8Feeds_L267] at hP
            refine J_seq ?_
            refine J_seq ?_
            refine J_region (by kernel_rfl) ?_
            (try simp only [go_sem, Nat.reduceEqDiff, ↓reduceIte, Nat.reduceAdd, Nat.reduceSub, Nat.reduceLT, Nat.reduceMul, reduceCtorEq, Int.reduceToNat, Int.reduceLE, Int.reduceLT, Nat.reduceLeDiff])
            refine hold2 (then_n ?_)
            refine J_condV rfl ?_
            (try simp only [go_sem, Nat.reduceEqDiff, ↓reduceIte, Nat.reduceAdd, Nat.reduceSub, Nat.reduceLT, Nat.reduceMul, reduceCtorEq, Int.reduceToNat, Int.reduceLE, Int.reduceLT, Nat.reduceLeDiff])
            rcases ite_cases hP with ⟨hc, hP⟩ | ⟨hc, hP⟩
            · refine condV_t hc ?_
              refine J_skip (then_n ?_)
              refine J_seq ?_
              refine J_block ?_
              refine J_seq ?_
              refine J_region (by kernel_rfl) ?_
              (try simp only [go_sem, Nat.reduceEqDiff, ↓reduceIte, Nat.reduceAdd, Nat.reduceSub, Nat.reduceLT, Nat.reduceMul, reduceCtorEq, Int.reduceToNat, Int.reduceLE, Int.reduceLT, Nat.reduceLeDiff])
              obtain ⟨x268, hx268, hP⟩ := bind_cases hP
              refine ixV_of hx268 ?_
              (try simp only [go_sem, Nat.reduceEqDiff, ↓reduceIte, Nat.reduceAdd, Nat.reduceSub, Nat.reduceLT, Nat.reduceMul, reduceCtorEq, Int.reduceToNat, Int.reduceLE, Int.reduceLT, Nat.reduceLeDiff])
              obtain ⟨o276, hP, hQ275⟩ := bind_cases hP
              refine call_join (fun (s : Unit) => .own 3 0 0 (Int.toNat ((List.length x268 : Int) - 0))) (fun (s : Unit) => envL [(0, .view 1 (List.map (encL 1 encB) pieces1)), (1, .view 1 (List.map (encI .i64) ends2)), (6, .bptr 0 0), (7, .own 2 0 0 (List.length l183)), (8, .int .i64 told180), (9, .int .i64 i181)]) (fun (s : Unit) => [.box 58 [.own 1 0 0 (List.length l182)], .slice 0 5 1 (List.map encB l182), .slice 0 5 1 (List.map encB l183), .slice 0 5 1 (List.map encB (x268 ++ [(bC 191)]))]) (fun s => s = o276) (callI_of (n := 13) (rs := [.tmp 2]) Try.func12 rfl (by decide) rfl rfl (by simp) rfl ?_) ?_
              · clear hQ275
                refine J_seq ?_
                refine J_region (by kernel_rfl) ?_
                (try simp only [go_sem, Nat.reduceEqDiff, ↓reduceIte, Nat.reduceAdd, Nat.reduceSub, Nat.reduceLT, Nat.reduceMul, reduceCtorEq, Int.reduceToNat, Int.reduceLE, Int.reduceLT, Nat.reduceLeDiff])
                refine hold2 (then_n ?_)
                refine J_seq ?_
                refine J_region (by kernel_rfl) ?_
                (try simp only [go_sem, Nat.reduceEqDiff, ↓reduceIte, Nat.reduceAdd, Nat.reduceSub, Nat.reduceLT, Nat.reduceMul, reduceCtorEq, Int.reduceToNat, Int.reduceLE, Int.reduceLT, Nat.reduceLeDiff])
                obtain ⟨_, hz272, hP⟩ := bind_cases hP
                refine app_own (f := encB) (([] : List UInt8) : List (UInt8)) (x268 : List (UInt8)) rfl tyS_22 (by decide) (by simp only [go_sem, Nat.reduceEqDiff, ↓reduceIte, Nat.reduceAdd, Nat.reduceSub, Nat.reduceLT, Nat.reduceMul, reduceCtorEq, Int.reduceToNat, Int.reduceLE, Int.reduceLT, Nat.reduceLeDiff]; first | done | rfl | exact ⟨rfl, rfl⟩) hz272 ?_
                (try simp only [go_sem, Nat.reduceEqDiff, ↓reduceIte, Nat.reduceAdd, Nat.reduceSub, Nat.reduceLT, Nat.reduceMul, reduceCtorEq, Int.reduceToNat, Int.reduceLE, Int.reduceLT, Nat.reduceLeDiff])
                obtain ⟨_, hz273, hP⟩ := bind_cases hP
                refine app_own (f := encB) (x268 : List (UInt8)) ([(bC 191)] : List (UInt8)) rfl tyS_22 (by decide) (by simp only [go_sem, Nat.reduceEqDiff, ↓reduceIte, Nat.reduceAdd, Nat.reduceSub, Nat.reduceLT, Nat.reduceMul, reduceCtorEq, Int.reduceToNat, Int.reduceLE, Int.reduceLT, Nat.reduceLeDiff]; first | done | rfl | exact ⟨rfl, rfl⟩) hz273 ?_
                (try simp only [go_sem, Nat.reduceEqDiff, ↓reduceIte, Nat.reduceAdd, Nat.reduceSub, Nat.reduceLT, Nat.reduceMul, reduceCtorEq, Int.reduceToNat, Int.reduceLE, Int.reduceLT, Nat.reduceLeDiff])
                refine hold2 (then_n ?_)
                refine J_seq ?_
                refine J_region (by kernel_rfl) ?_
                (try simp only [go_sem, Nat.reduceEqDiff, ↓reduceIte, Nat.reduceAdd, Nat.reduceSub, Nat.reduceLT, Nat.reduceMul, reduceCtorEq, Int.reduceToNat, Int.reduceLE, Int.reduceLT, Nat.reduceLeDiff])
                obtain ⟨s274, hs274, hP⟩ := bind_cases hP
                refine slO_of hs274 ?_
                (try simp only [go_sem, Nat.reduceEqDiff, ↓reduceIte, Nat.reduceAdd, Nat.reduceSub, Nat.reduceLT, Nat.reduceMul, reduceCtorEq, Int.reduceToNat, Int.reduceLE, Int.reduceLT, Nat.reduceLeDiff])
                refine hold2 (then_n ?_)
                refine J_ret (finI_ret ?_)
                exact told_of ⟨(), Option.some.inj hP, sr [0, 1, 2, 4]⟩
              · intro a275 hs
                subst hs
                have hP := hQ275
                clear hQ275
                (try simp only [go_sem, Nat.reduceEqDiff, ↓reduceIte, Nat.reduceAdd, Nat.reduceSub, Nat.reduceLT, Nat.reduceMul, reduceCtorEq, Int.reduceToNat, Int.reduceLE, Int.reduceLT, Nat.reduceLeDiff])
                obtain ⟨s277, hs277, hP⟩ := bind_cases hP
                refine hold2 (then_n ?_)
                refine J_seq ?_
                refine J_region (by kernel_rfl) ?_
                (try simp only [go_sem, Nat.reduceEqDiff, ↓reduceIte, Nat.reduceAdd, Nat.reduceSub, Nat.reduceLT, Nat.reduceMul, reduceCtorEq, Int.reduceToNat, Int.reduceLE, Int.reduceLT, Nat.reduceLeDiff])
                obtain ⟨r279, hr278, hP⟩ := bind_cases hP
                refine call_pt [0, 1] [(0, .view 1 (List.map (encL 1 encB) pieces1)), (1, .view 1 (List.map (encI .i64) ends2)), (6, .bptr 0 0), (7, .own 2 0 0 (List.length l183)), (8, .int .i64 told180), (9, .int .i64 i181), (10, .own 3 0 0 (Int.toNat ((List.length x268 : Int) - 0)))] [.box 58 [.own 1 0 0 (List.length r279.2)], .slice 0 5 1 (List.map encB r279.2), .slice 0 5 1 (List.map encB l183), .slice 0 5 1 (List.map encB (x268 ++ [(bC 191)]))] (.str r279.1) (utf8_Decoder_Feed_ok hr278) ⟨argP_r (by rfl), argP_o (by decide) (by simp only [arg, own_cut0 hs277, go_sem, Nat.reduceEqDiff, ↓reduceIte, Nat.reduceAdd, Nat.reduceSub, Nat.reduceLT, Nat.reduceMul, reduceCtorEq, Int.reduceToNat, Int.reduceLE, Int.reduceLT, Nat.reduceLeDiff]), trivial⟩ (told_of (sm [4, 5, 2, 3])) ?_
                (try simp only [go_sem, Nat.reduceEqDiff, ↓reduceIte, Nat.reduceAdd, Nat.reduceSub, Nat.reduceLT, Nat.reduceMul, reduceCtorEq, Int.reduceToNat, Int.reduceLE, Int.reduceLT, Nat.reduceLeDiff])
                refine hold2 (then_n ?_)
                refine J_seq ?_
                refine J_region (by kernel_rfl) ?_
                (try simp only [go_sem, Nat.reduceEqDiff, ↓reduceIte, Nat.reduceAdd, Nat.reduceSub, Nat.reduceLT, Nat.reduceMul, reduceCtorEq, Int.reduceToNat, Int.reduceLE, Int.reduceLT, Nat.reduceLeDiff])
                obtain ⟨x280, hx280, hP⟩ := bind_cases hP
                refine ixV_of hx280 ?_
                (try simp only [go_sem, Nat.reduceEqDiff, ↓reduceIte, Nat.reduceAdd, Nat.reduceSub, Nat.reduceLT, Nat.reduceMul, reduceCtorEq, Int.reduceToNat, Int.reduceLE, Int.reduceLT, Nat.reduceLeDiff])
                obtain ⟨o296, hP, hQ295⟩ := bind_cases hP
                refine call_join (fun (s : Bool) => .bool s) (fun (s : Bool) => envL [(0, .view 1 (List.map (encL 1 encB) pieces1)), (1, .view 1 (List.map (encI .i64) ends2)), (6, .bptr 0 0), (7, .own 2 0 0 (List.length l183)), (8, .int .i64 told180), (9, .int .i64 i181), (10, .own 3 0 0 (Int.toNat ((List.length x268 : Int) - 0))), (11, .str r279.1)]) (fun (s : Bool) => [.box 58 [.own 1 0 0 (List.length r279.2)], .slice 0 5 1 (List.map encB r279.2), .slice 0 5 1 (List.map encB l183), .slice 0 5 1 (List.map encB (x268 ++ [(bC 191)]))]) (fun s => s = o296) (callI_of (n := 22) (rs := [.tmp 4]) Try.func16 rfl (by decide) rfl rfl (by simp) rfl ?_) ?_
                · clear hQ295
                  refine J_seq ?_
                  refine J_region (by kernel_rfl) ?_
                  (try simp only [go_sem, Nat.reduceEqDiff, ↓reduceIte, Nat.reduceAdd, Nat.reduceSub, Nat.reduceLT, Nat.reduceMul, reduceCtorEq, Int.reduceToNat, Int.reduceLE, Int.reduceLT, Nat.reduceLeDiff])
                  refine hold2 (then_n ?_)
                  obtain ⟨o290, hP, hQ290⟩ := bind_cases hP
                  refine J_join (fun (s : Bool) => envL [(4, .bool s), (22, .view 1 (List.map (encL 1 encB) pieces1)), (23, .view 1 (List.map (encI .i64) ends2)), (28, .bptr 0 0), (29, .own 2 0 0 (List.length l183)), (30, .int .i64 told180), (31, .int .i64 i181), (32, .own 3 0 0 (Int.toNat ((List.length x268 : Int) - 0))), (33, .str r279.1)]) (fun (s : Bool) => [.box 58 [.own 1 0 0 (List.length r279.2)], .slice 0 5 1 (List.map encB r279.2), .slice 0 5 1 (List.map encB l183), .slice 0 5 1 (List.map encB (x268 ++ [(bC 191)]))]) (fun s => s = o290) ?_ ?_
                  · clear hQ290
                    refine J_region (by kernel_rfl) ?_
                    (try simp only [go_sem, Nat.reduceEqDiff, ↓reduceIte, Nat.reduceAdd, Nat.reduceSub, Nat.reduceLT, Nat.reduceMul, reduceCtorEq, Int.reduceToNat, Int.reduceLE, Int.reduceLT, Nat.reduceLeDiff])
                    simp only [own_cut0 hs277, go_sem, Nat.reduceEqDiff, ↓reduceIte, Nat.reduceAdd, Nat.reduceSub, Nat.reduceLT, Nat.reduceMul, reduceCtorEq, Int.reduceToNat, Int.reduceLE, Int.reduceLT, Nat.reduceLeDiff]
                    first | refine bytesK_map ?_ | refine bytesK_of s277 rfl ?_
                    (try simp only [go_sem, Nat.reduceEqDiff, ↓reduceIte, Nat.reduceAdd, Nat.reduceSub, Nat.reduceLT, Nat.reduceMul, reduceCtorEq, Int.reduceToNat, Int.reduceLE, Int.reduceLT, Nat.reduceLeDiff])
                    first | refine bytesK_map ?_ | refine bytesK_of x280 rfl ?_
                    (try simp only [go_sem, Nat.reduceEqDiff, ↓reduceIte, Nat.reduceAdd, Nat.reduceSub, Nat.reduceLT, Nat.reduceMul, reduceCtorEq, Int.reduceToNat, Int.reduceLE, Int.reduceLT, Nat.reduceLeDiff])
                    rcases ite_cases hP with ⟨hc, hP⟩ | ⟨hc, hP⟩
                    · refine guard_is hc ?_
                      (try conv => arg 5; simp only [go_sem, Nat.reduceEqDiff, ↓reduceIte, Nat.reduceAdd, Nat.reduceSub, Nat.reduceLT, Nat.reduceMul, reduceCtorEq, Int.reduceToNat, Int.reduceLE, Int.reduceLT, Nat.reduceLeDiff])
                      (try simp only [go_sem, Nat.reduceEqDiff, ↓reduceIte, Nat.reduceAdd, Nat.reduceSub, Nat.reduceLT, Nat.reduceMul, reduceCtorEq, Int.reduceToNat, Int.reduceLE, Int.reduceLT, Nat.reduceLeDiff])
                      obtain ⟨s291, hs291, hP⟩ := bind_cases hP
                      refine slO_of hs291 ?_
                      (try simp only [go_sem, Nat.reduceEqDiff, ↓reduceIte, Nat.reduceAdd, Nat.reduceSub, Nat.reduceLT, Nat.reduceMul, reduceCtorEq, Int.reduceToNat, Int.reduceLE, Int.reduceLT, Nat.reduceLeDiff])
                      obtain ⟨x292, hx292, hP⟩ := bind_cases hP
                      first | refine ixO_cut hs291 hx292 ?_ | refine ixO_of (slL_len hs291) (ixO_cut hs291 hx292 ?_)
                      (try simp only [go_sem, Nat.reduceEqDiff, ↓reduceIte, Nat.reduceAdd, Nat.reduceSub, Nat.reduceLT, Nat.reduceMul, reduceCtorEq, Int.reduceToNat, Int.reduceLE, Int.reduceLT, Nat.reduceLeDiff])
                      refine getK_of (f := encB) (cut_ix hs291 hx292) ?_
                      (try simp only [go_sem, Nat.reduceEqDiff, ↓reduceIte, Nat.reduceAdd, Nat.reduceSub, Nat.reduceLT, Nat.reduceMul, reduceCtorEq, Int.reduceToNat, Int.reduceLE, Int.reduceLT, Nat.reduceLeDiff])
                      refine hold2 ?_
                      exact join_n (decide (b2i x292 = b2i (bC 191))) (Option.some.inj hP) (so [0, 1, 2, 3])
                    · refine guard_not hc ?_
                      (try conv => arg 5; simp only [go_sem, Nat.reduceEqDiff, ↓reduceIte, Nat.reduceAdd, Nat.reduceSub, Nat.reduceLT, Nat.reduceMul, reduceCtorEq, Int.reduceToNat, Int.reduceLE, Int.reduceLT, Nat.reduceLeDiff])
                      (try simp only [go_sem, Nat.reduceEqDiff, ↓reduceIte, Nat.reduceAdd, Nat.reduceSub, Nat.reduceLT, Nat.reduceMul, reduceCtorEq, Int.reduceToNat, Int.reduceLE, Int.reduceLT, Nat.reduceLeDiff])
                      refine hold2 ?_
                      exact join_n false (Option.some.inj hP) (so [0, 1, 2, 3])
                  · intro j293 hs
                    subst hs
                    have hP := hQ290
                    clear hQ290
                    obtain ⟨s294, hs294, hP⟩ := bind_cases hP
                    refine J_ret (finI_ret ?_)
                    exact told_of ⟨j293, Option.some.inj hP, sr [0, 1, 2, 3]⟩
                · intro a295 hs
                  subst hs
                  have hP := hQ295
                  clear hQ295
                  (try simp only [go_sem, Nat.reduceEqDiff, ↓reduceIte, Nat.reduceAdd, Nat.reduceSub, Nat.reduceLT, Nat.reduceMul, reduceCtorEq, Int.reduceToNat, Int.reduceLE, Int.reduceLT, Nat.reduceLeDiff])
                  obtain ⟨s297, hs297, hP⟩ := bind_cases hP
                  refine hold2 (then_n ?_)
                  refine J_seq ?_
                  refine J_seq ?_
                  refine J_region (by kernel_rfl) ?_
                  (try simp only [go_sem, Nat.reduceEqDiff, ↓reduceIte, Nat.reduceAdd, Nat.reduceSub, Nat.reduceLT, Nat.reduceMul, reduceCtorEq, Int.reduceToNat, Int.reduceLE, Int.reduceLT, Nat.reduceLeDiff])
                  refine hold2 (then_n ?_)
                  obtain ⟨o308, hP, hQ306⟩ := bind_cases hP
                  refine J_joinK0 (fun (s : Unit) => envL [(0, .view 1 (List.map (encL 1 encB) pieces1)), (1, .view 1 (List.map (encI .i64) ends2)), (6, .bptr 0 0), (7, .own 2 0 0 (List.length l183)), (8, .int .i64 told180), (9, .int .i64 i181), (11, .str r279.1), (12, .bool a295)]) (fun (s : Unit) => [.box 58 [.own 1 0 0 (List.length r279.2)], .slice 0 5 1 (List.map encB r279.2), .slice 0 5 1 (List.map encB l183)]) (fun s => s = o308) ?_ ?_
                  · clear hQ306
                    refine J_block ?_
                    refine J_loop (σ := Nat × Int × (List (UInt8))) (fun (s : Nat × Int × (List (UInt8))) => envL [(0, .view 1 (List.map (encL 1 encB) pieces1)), (1, .view 1 (List.map (encI .i64) ends2)), (6, .bptr 0 0), (7, .own 2 0 0 (List.length l183)), (8, .int .i64 told180), (9, .int .i64 i181), (10, .own 3 0 0 (Int.toNat ((List.length x268 : Int) - 0))), (11, .str r279.1), (12, .bool a295), (13, .int .i64 s.2.1)]) (fun (s : Nat × Int × (List (UInt8))) => [.box 58 [.own 1 0 0 (List.length r279.2)], .slice 0 5 1 (List.map encB r279.2), .slice 0 5 1 (List.map encB l183), .slice 0 5 1 (List.map encB s.2.2)]) (fun s => law08_Utf8Feeds_L306 s297 s.1 s.2.1 s.2.2 = some o308) (fun s => s.1) (1099511627776, 0, x268 ++ [(bC 191)]) hP (so [0, 1, 2, 3]) ?_
                    rintro ⟨k305, k303, l304⟩ hP
                    dsimp only at hP ⊢
                    cases k305 with
                    | zero => simp [law08_Utf8Feeds_L306] at hP
                    | succ k305 =>
                      simp only [law08_Utf8Feeds_L306] at hP
                      refine J_seq ?_
                      refine J_seq ?_
                      refine J_region (by kernel_rfl) ?_
                      (try simp only [go_sem, Nat.reduceEqDiff, ↓reduceIte, Nat.reduceAdd, Nat.reduceSub, Nat.reduceLT, Nat.reduceMul, reduceCtorEq, Int.reduceToNat, Int.reduceLE, Int.reduceLT, Nat.reduceLeDiff])
                      (try rw [slL_len hs297])
                      refine hold2 (then_n ?_)
                      refine J_condV rfl ?_
                      (try simp only [go_sem, Nat.reduceEqDiff, ↓reduceIte, Nat.reduceAdd, Nat.reduceSub, Nat.reduceLT, Nat.reduceMul, reduceCtorEq, Int.reduceToNat, Int.reduceLE, Int.reduceLT, Nat.reduceLeDiff])
                      rcases ite_cases hP with ⟨hc, hP⟩ | ⟨hc, hP⟩
                      · refine condV_t hc ?_
                        refine J_skip (then_n ?_)
                        refine J_seq ?_
                        refine J_block ?_
                        refine J_region (by kernel_rfl) ?_
                        (try simp only [go_sem, Nat.reduceEqDiff, ↓reduceIte, Nat.reduceAdd, Nat.reduceSub, Nat.reduceLT, Nat.reduceMul, reduceCtorEq, Int.reduceToNat, Int.reduceLE, Int.reduceLT, Nat.reduceLeDiff])
                        obtain ⟨x307, hx307, hP⟩ := bind_cases hP
                        first | refine ixO_cut hs297 hx307 ?_ | refine ixO_of (slL_len hs297) (ixO_cut hs297 hx307 ?_)
                        (try simp only [go_sem, Nat.reduceEqDiff, ↓reduceIte, Nat.reduceAdd, Nat.reduceSub, Nat.reduceLT, Nat.reduceMul, reduceCtorEq, Int.reduceToNat, Int.reduceLE, Int.reduceLT, Nat.reduceLeDiff])
                        obtain ⟨y307, hy307, hP⟩ := bind_cases hP
                        refine getK_of (f := encB) hy307 ?_
                        (try simp only [go_sem, Nat.reduceEqDiff, ↓reduceIte, Nat.reduceAdd, Nat.reduceSub, Nat.reduceLT, Nat.reduceMul, reduceCtorEq, Int.reduceToNat, Int.reduceLE, Int.reduceLT, Nat.reduceLeDiff])
                        refine hold2 (block_n (then_n ?_))
                        refine J_region (by kernel_rfl) ?_
                        (try simp only [go_sem, Nat.reduceEqDiff, ↓reduceIte, Nat.reduceAdd, Nat.reduceSub, Nat.reduceLT, Nat.reduceMul, reduceCtorEq, Int.reduceToNat, Int.reduceLE, Int.reduceLT, Nat.reduceLeDiff])
                        refine hold2 ?_
                        exact loop_n (k305, iadd .i64 k303 1, List.set l304 (Int.toNat k303) (bC 120)) hP (Nat.lt_succ_self _) (so [0, 1, 2, 3])
                      · refine condV_f hc ?_
                        refine J_exit (then_exit (loop_exit (block_eq ?_)))
                        exact join_n () (Option.some.inj hP) (so [0, 1, 2])
                  · intro j309 hs
                    subst hs
                    have hP := hQ306
                    clear hQ306
                    refine then_n ?_
                    refine J_seq ?_
                    refine J_region (by kernel_rfl) ?_
                    (try simp only [go_sem, Nat.reduceEqDiff, ↓reduceIte, Nat.reduceAdd, Nat.reduceSub, Nat.reduceLT, Nat.reduceMul, reduceCtorEq, Int.reduceToNat, Int.reduceLE, Int.reduceLT, Nat.reduceLeDiff])
                    obtain ⟨x310, hx310, hP⟩ := bind_cases hP
                    refine ixV_of hx310 ?_
                    (try simp only [go_sem, Nat.reduceEqDiff, ↓reduceIte, Nat.reduceAdd, Nat.reduceSub, Nat.reduceLT, Nat.reduceMul, reduceCtorEq, Int.reduceToNat, Int.reduceLE, Int.reduceLT, Nat.reduceLeDiff])
                    obtain ⟨_, hz311, hP⟩ := bind_cases hP
                    refine app_own (f := encB) (l183 : List (UInt8)) (x310 : List (UInt8)) rfl tyS_22 (by decide) (by simp only [go_sem, Nat.reduceEqDiff, ↓reduceIte, Nat.reduceAdd, Nat.reduceSub, Nat.reduceLT, Nat.reduceMul, reduceCtorEq, Int.reduceToNat, Int.reduceLE, Int.reduceLT, Nat.reduceLeDiff]; first | done | rfl | exact ⟨rfl, rfl⟩) hz311 ?_
                    (try simp only [go_sem, Nat.reduceEqDiff, ↓reduceIte, Nat.reduceAdd, Nat.reduceSub, Nat.reduceLT, Nat.reduceMul, reduceCtorEq, Int.reduceToNat, Int.reduceLE, Int.reduceLT, Nat.reduceLeDiff])
                    refine hold2 (then_n ?_)
                    refine J_seq ?_
                    refine J_region (by kernel_rfl) ?_
                    (try simp only [go_sem, Nat.reduceEqDiff, ↓reduceIte, Nat.reduceAdd, Nat.reduceSub, Nat.reduceLT, Nat.reduceMul, reduceCtorEq, Int.reduceToNat, Int.reduceLE, Int.reduceLT, Nat.reduceLeDiff])
                    obtain ⟨r312, hr312, hP⟩ := bind_cases hP
                    refine call_ok [.view 1 (List.map encB (l183 ++ x310))] (ref08_Held_ok hr312) ⟨argR_m false (by simp only [arg, go_sem, Nat.reduceEqDiff, ↓reduceIte, Nat.reduceAdd, Nat.reduceSub, Nat.reduceLT, Nat.reduceMul, reduceCtorEq, Int.reduceToNat, Int.reduceLE, Int.reduceLT, Nat.reduceLeDiff]), trivial⟩ ?_
                    (try simp only [go_sem, Nat.reduceEqDiff, ↓reduceIte, Nat.reduceAdd, Nat.reduceSub, Nat.reduceLT, Nat.reduceMul, reduceCtorEq, Int.reduceToNat, Int.reduceLE, Int.reduceLT, Nat.reduceLeDiff])
                    refine hold2 (then_n ?_)
                    refine J_seq ?_
                    obtain ⟨o316, hP, hQ316⟩ := bind_cases hP
                    refine J_join (fun (s : Bool) => envL [(0, .view 1 (List.map (encL 1 encB) pieces1)), (1, .view 1 (List.map (encI .i64) ends2)), (6, .bptr 0 0), (7, .own 2 0 0 (List.length (l183 ++ x310))), (9, .int .i64 i181), (14, .int .i64 r312), (79, .bool s)]) (fun (s : Bool) => [.box 58 [.own 1 0 0 (List.length r279.2)], .slice 0 5 1 (List.map encB r279.2), .slice 0 5 1 (List.map encB (l183 ++ x310))]) (fun s => s = o316) ?_ ?_
                    · clear hQ316
                      refine J_region (by kernel_rfl) ?_
                      (try simp only [go_sem, Nat.reduceEqDiff, ↓reduceIte, Nat.reduceAdd, Nat.reduceSub, Nat.reduceLT, Nat.reduceMul, reduceCtorEq, Int.reduceToNat, Int.reduceLE, Int.reduceLT, Nat.reduceLeDiff])
                      rcases ite_cases hP with ⟨hc, hP⟩ | ⟨hc, hP⟩
                      · refine guard_not hc ?_
                        (try conv => arg 5; simp only [go_sem, Nat.reduceEqDiff, ↓reduceIte, Nat.reduceAdd, Nat.reduceSub, Nat.reduceLT, Nat.reduceMul, reduceCtorEq, Int.reduceToNat, Int.reduceLE, Int.reduceLT, Nat.reduceLeDiff])
                        (try simp only [go_sem, Nat.reduceEqDiff, ↓reduceIte, Nat.reduceAdd, Nat.reduceSub, Nat.reduceLT, Nat.reduceMul, reduceCtorEq, Int.reduceToNat, Int.reduceLE, Int.reduceLT, Nat.reduceLeDiff])
                        refine hold2 ?_
                        exact join_n true (Option.some.inj hP) (so [0, 1, 2])
                      · refine guard_is hc ?_
                        (try conv => arg 5; simp only [go_sem, Nat.reduceEqDiff, ↓reduceIte, Nat.reduceAdd, Nat.reduceSub, Nat.reduceLT, Nat.reduceMul, reduceCtorEq, Int.reduceToNat, Int.reduceLE, Int.reduceLT, Nat.reduceLeDiff])
                        (try simp only [go_sem, Nat.reduceEqDiff, ↓reduceIte, Nat.reduceAdd, Nat.reduceSub, Nat.reduceLT, Nat.reduceMul, reduceCtorEq, Int.reduceToNat, Int.reduceLE, Int.reduceLT, Nat.reduceLeDiff])
                        obtain ⟨s317, hs317, hP⟩ := bind_cases hP
                        refine slO_of hs317 ?_
                        (try simp only [go_sem, Nat.reduceEqDiff, ↓reduceIte, Nat.reduceAdd, Nat.reduceSub, Nat.reduceLT, Nat.reduceMul, reduceCtorEq, Int.reduceToNat, Int.reduceLE, Int.reduceLT, Nat.reduceLeDiff])
                        obtain ⟨r318, hr318, hP⟩ := bind_cases hP
                        refine call_ok [.view 1 (List.map encB s317)] (ref08_Decode_ok hr318) ⟨argR_m false (by simp only [arg, own_cut hs317, go_sem, Nat.reduceEqDiff, ↓reduceIte, Nat.reduceAdd, Nat.reduceSub, Nat.reduceLT, Nat.reduceMul, reduceCtorEq, Int.reduceToNat, Int.reduceLE, Int.reduceLT, Nat.reduceLeDiff]), trivial⟩ ?_
                        (try simp only [go_sem, Nat.reduceEqDiff, ↓reduceIte, Nat.reduceAdd, Nat.reduceSub, Nat.reduceLT, Nat.reduceMul, reduceCtorEq, Int.reduceToNat, Int.reduceLE, Int.reduceLT, Nat.reduceLeDiff])
                        rcases ite_cases hP with ⟨hc, hP⟩ | ⟨hc, hP⟩
                        · refine guard_not hc ?_
                          (try conv => arg 5; simp only [go_sem, Nat.reduceEqDiff, ↓reduceIte, Nat.reduceAdd, Nat.reduceSub, Nat.reduceLT, Nat.reduceMul, reduceCtorEq, Int.reduceToNat, Int.reduceLE, Int.reduceLT, Nat.reduceLeDiff])
                          (try simp only [go_sem, Nat.reduceEqDiff, ↓reduceIte, Nat.reduceAdd, Nat.reduceSub, Nat.reduceLT, Nat.reduceMul, reduceCtorEq, Int.reduceToNat, Int.reduceLE, Int.reduceLT, Nat.reduceLeDiff])
                          refine hold2 ?_
                          exact join_n true (Option.some.inj hP) (so [0, 1, 2])
                        · refine guard_is hc ?_
                          (try conv => arg 5; simp only [go_sem, Nat.reduceEqDiff, ↓reduceIte, Nat.reduceAdd, Nat.reduceSub, Nat.reduceLT, Nat.reduceMul, reduceCtorEq, Int.reduceToNat, Int.reduceLE, Int.reduceLT, Nat.reduceLeDiff])
                          (try simp only [go_sem, Nat.reduceEqDiff, ↓reduceIte, Nat.reduceAdd, Nat.reduceSub, Nat.reduceLT, Nat.reduceMul, reduceCtorEq, Int.reduceToNat, Int.reduceLE, Int.reduceLT, Nat.reduceLeDiff])
                          obtain ⟨r319, hr319, hP⟩ := bind_cases hP
                          refine call_ok [.vptr (.agg [.view 1 (List.map encB r279.2)]) 0] (utf8_Decoder_Held_ok hr319) ⟨argR_box rfl ⟨argC_m false (by simp only [arg, go_sem, Nat.reduceEqDiff, ↓reduceIte, Nat.reduceAdd, Nat.reduceSub, Nat.reduceLT, Nat.reduceMul, reduceCtorEq, Int.reduceToNat, Int.reduceLE, Int.reduceLT, Nat.reduceLeDiff]), trivial⟩, trivial⟩ ?_
                          (try simp only [go_sem, Nat.reduceEqDiff, ↓reduceIte, Nat.reduceAdd, Nat.reduceSub, Nat.reduceLT, Nat.reduceMul, reduceCtorEq, Int.reduceToNat, Int.reduceLE, Int.reduceLT, Nat.reduceLeDiff])
                          refine hold2 ?_
                          exact join_n (!decide (r319 = r312)) (Option.some.inj hP) (so [0, 1, 2])
                    · intro j320 hs
                      subst hs
                      have hP := hQ316
                      clear hQ316
                      refine J_condV rfl ?_
                      (try simp only [go_sem, Nat.reduceEqDiff, ↓reduceIte, Nat.reduceAdd, Nat.reduceSub, Nat.reduceLT, Nat.reduceMul, reduceCtorEq, Int.reduceToNat, Int.reduceLE, Int.reduceLT, Nat.reduceLeDiff])
                      rcases ite_cases hP with ⟨hc, hP⟩ | ⟨hc, hP⟩
                      · refine condV_t hc ?_
                        refine J_seq ?_
                        refine J_region (by kernel_rfl) ?_
                        (try simp only [go_sem, Nat.reduceEqDiff, ↓reduceIte, Nat.reduceAdd, Nat.reduceSub, Nat.reduceLT, Nat.reduceMul, reduceCtorEq, Int.reduceToNat, Int.reduceLE, Int.reduceLT, Nat.reduceLeDiff])
                        refine hold2 (then_n ?_)
                        refine J_ret (then_ret (block_ret (then_ret (loop_ret (block_ret (join_ret (then_ret (fin_ret ?_))))))))
                        obtain rfl := Option.some.inj hP
                        have hP := hQ267
                        dsimp only at hP
                        obtain rfl := Option.some.inj hP
                        (try simp only [go_sem, Nat.reduceEqDiff, ↓reduceIte, Nat.reduceAdd, Nat.reduceSub, Nat.reduceLT, Nat.reduceMul, reduceCtorEq, Int.reduceToNat, Int.reduceLE, Int.reduceLT, Nat.reduceLeDiff])
                        exact fo []
                      · refine condV_f hc ?_
                        refine J_skip (then_n ?_)
                        refine J_seq ?_
                        refine J_region (by kernel_rfl) ?_
                        (try simp only [go_sem, Nat.reduceEqDiff, ↓reduceIte, Nat.reduceAdd, Nat.reduceSub, Nat.reduceLT, Nat.reduceMul, reduceCtorEq, Int.reduceToNat, Int.reduceLE, Int.reduceLT, Nat.reduceLeDiff])
                        refine hold2 (then_n ?_)
                        obtain ⟨o322, hP, hQ322⟩ := bind_cases hP
                        refine J_join (fun (s : Bool) => envL [(0, .view 1 (List.map (encL 1 encB) pieces1)), (1, .view 1 (List.map (encI .i64) ends2)), (6, .bptr 0 0), (7, .own 2 0 0 (List.length (l183 ++ x310))), (8, .int .i64 (isub .i64 ((List.length (l183 ++ x310) : Nat) : Int) r312)), (9, .int .i64 i181), (95, .bool s)]) (fun (s : Bool) => [.box 58 [.own 1 0 0 (List.length r279.2)], .slice 0 5 1 (List.map encB r279.2), .slice 0 5 1 (List.map encB (l183 ++ x310))]) (fun s => s = o322) ?_ ?_
                        · clear hQ322
                          refine J_region (by kernel_rfl) ?_
                          (try simp only [go_sem, Nat.reduceEqDiff, ↓reduceIte, Nat.reduceAdd, Nat.reduceSub, Nat.reduceLT, Nat.reduceMul, reduceCtorEq, Int.reduceToNat, Int.reduceLE, Int.reduceLT, Nat.reduceLeDiff])
                          rcases ite_cases hP with ⟨hc, hP⟩ | ⟨hc, hP⟩
                          · refine guard_is hc ?_
                            (try conv => arg 5; simp only [go_sem, Nat.reduceEqDiff, ↓reduceIte, Nat.reduceAdd, Nat.reduceSub, Nat.reduceLT, Nat.reduceMul, reduceCtorEq, Int.reduceToNat, Int.reduceLE, Int.reduceLT, Nat.reduceLeDiff])
                            (try simp only [go_sem, Nat.reduceEqDiff, ↓reduceIte, Nat.reduceAdd, Nat.reduceSub, Nat.reduceLT, Nat.reduceMul, reduceCtorEq, Int.reduceToNat, Int.reduceLE, Int.reduceLT, Nat.reduceLeDiff])
                            obtain ⟨x323, hx323, hP⟩ := bind_cases hP
                            refine ixV_of hx323 ?_
                            (try simp only [go_sem, Nat.reduceEqDiff, ↓reduceIte, Nat.reduceAdd, Nat.reduceSub, Nat.reduceLT, Nat.reduceMul, reduceCtorEq, Int.reduceToNat, Int.reduceLE, Int.reduceLT, Nat.reduceLeDiff])
                            refine hold2 ?_
                            exact join_n (decide (iand .i64 x323 1 = 1)) (Option.some.inj hP) (so [0, 1, 2])
                          · refine guard_not hc ?_
                            (try conv => arg 5; simp only [go_sem, Nat.reduceEqDiff, ↓reduceIte, Nat.reduceAdd, Nat.reduceSub, Nat.reduceLT, Nat.reduceMul, reduceCtorEq, Int.reduceToNat, Int.reduceLE, Int.reduceLT, Nat.reduceLeDiff])
                            (try simp only [go_sem, Nat.reduceEqDiff, ↓reduceIte, Nat.reduceAdd, Nat.reduceSub, Nat.reduceLT, Nat.reduceMul, reduceCtorEq, Int.reduceToNat, Int.reduceLE, Int.reduceLT, Nat.reduceLeDiff])
                            refine hold2 ?_
                            exact join_n false (Option.some.inj hP) (so [0, 1, 2])
                        · intro j324 hs
                          subst hs
                          have hP := hQ322
                          clear hQ322
                          refine J_condV rfl ?_
                          (try simp only [go_sem, Nat.reduceEqDiff, ↓reduceIte, Nat.reduceAdd, Nat.reduceSub, Nat.reduceLT, Nat.reduceMul, reduceCtorEq, Int.reduceToNat, Int.reduceLE, Int.reduceLT, Nat.reduceLeDiff])
                          rcases ite_cases hP with ⟨hc, hP⟩ | ⟨hc, hP⟩
                          · refine condV_t hc ?_
                            refine J_seq ?_
                            obtain ⟨o337, hP, hQ337⟩ := bind_cases hP
                            refine J_join (fun (s : Bool) => envL [(0, .view 1 (List.map (encL 1 encB) pieces1)), (1, .view 1 (List.map (encI .i64) ends2)), (6, .bptr 0 0), (9, .int .i64 i181), (107, .bool s)]) (fun (s : Bool) => [.box 58 [.own 1 0 0 (List.length ([] : List UInt8))], .slice 0 5 1 (List.map encB ([] : List UInt8))]) (fun s => s = o337) ?_ ?_
                            · clear hQ337
                              obtain ⟨o343, hP, hQ343⟩ := bind_cases hP
                              refine J_joinK0 (fun (s : Bool) => envL [(0, .view 1 (List.map (encL 1 encB) pieces1)), (1, .view 1 (List.map (encI .i64) ends2)), (6, .bptr 0 0), (9, .int .i64 i181), (107, .bool s)]) (fun (s : Bool) => [.box 58 [.own 1 0 0 (List.length ([] : List UInt8))], .slice 0 5 1 (List.map encB ([] : List UInt8))]) (fun s => s = o343) ?_ ?_
                              · clear hQ343
                                refine J_regionT [(0, none), (2, none), (3, none)] (.alt (.step 1 (.early 4 (.early 5 (.early 6 (.pure 7 (.pure 8 (.early 9 (.early 10 (.early 11 (.done)))))))))) (.early 4 (.step 1 (.early 5 (.early 6 (.pure 7 (.pure 8 (.early 9 (.early 10 (.early 11 (.done))))))))))) [1] [96, 97, 98, 99, 100, 101, 102, 103, 104, 105, 106, 107] follows_mixed (by kernel_rfl) (by kernel_rfl) (by kernel_rfl) (by kernel_rfl) (by kernel_rfl) (by kernel_rfl) ?_
                                simp only [pickT_cons, pickT_nil, go_sem, Nat.reduceEqDiff, ↓reduceIte, Nat.reduceAdd, Nat.reduceSub, Nat.reduceLT, Nat.reduceMul, reduceCtorEq, Int.reduceToNat, Int.reduceLE, Int.reduceLT, Nat.reduceLeDiff]
                                (try simp only [go_sem, Nat.reduceEqDiff, ↓reduceIte, Nat.reduceAdd, Nat.reduceSub, Nat.reduceLT, Nat.reduceMul, reduceCtorEq, Int.reduceToNat, Int.reduceLE, Int.reduceLT, Nat.reduceLeDiff])
                                refine ⟨?_, ?_⟩
                                · obtain ⟨r345, hr344, hP⟩ := bind_cases hP
                                  refine callP_n (call_pt [0, 1] [(0, .view 1 (List.map (encL 1 encB) pieces1)), (1, .view 1 (List.map (encI .i64) ends2)), (6, .bptr 0 0), (9, .int .i64 i181), (98, .own 2 0 0 (List.length (l183 ++ x310))), (99, .int .i64 (isub .i64 ((List.length (l183 ++ x310) : Nat) : Int) r312))] [.box 58 [.own 1 0 0 (List.length ([] : List UInt8))], .slice 0 5 1 (List.map encB ([] : List UInt8)), .slice 0 5 1 (List.map encB (l183 ++ x310))] (.str r345) (utf8_Decoder_Close_ok hr344) ⟨argP_r (by rfl), trivial⟩ (told_of (sm [3, 4, 2])) ?_)
                                  (try simp only [go_sem, Nat.reduceEqDiff, ↓reduceIte, Nat.reduceAdd, Nat.reduceSub, Nat.reduceLT, Nat.reduceMul, reduceCtorEq, Int.reduceToNat, Int.reduceLE, Int.reduceLT, Nat.reduceLeDiff])
                                  obtain ⟨s346, hs346, hP⟩ := bind_cases hP
                                  refine slO_of hs346 ?_
                                  (try simp only [go_sem, Nat.reduceEqDiff, ↓reduceIte, Nat.reduceAdd, Nat.reduceSub, Nat.reduceLT, Nat.reduceMul, reduceCtorEq, Int.reduceToNat, Int.reduceLE, Int.reduceLT, Nat.reduceLeDiff])
                                  obtain ⟨r347, hr347, hP⟩ := bind_cases hP
                                  refine callE_ok [.view 1 (List.map encB s346)] (ref08_Decode_ok hr347) ⟨argR_m false (by simp only [arg, own_cut hs346, go_sem, Nat.reduceEqDiff, ↓reduceIte, Nat.reduceAdd, Nat.reduceSub, Nat.reduceLT, Nat.reduceMul, reduceCtorEq, Int.reduceToNat, Int.reduceLE, Int.reduceLT, Nat.reduceLeDiff]), trivial⟩ ?_
                                  (try simp only [go_sem, Nat.reduceEqDiff, ↓reduceIte, Nat.reduceAdd, Nat.reduceSub, Nat.reduceLT, Nat.reduceMul, reduceCtorEq, Int.reduceToNat, Int.reduceLE, Int.reduceLT, Nat.reduceLeDiff])
                                  rcases ite_cases hP with ⟨hc, hP⟩ | ⟨hc, hP⟩
                                  · refine guard_not hc ?_
                                    (try conv => arg 5; simp only [go_sem, Nat.reduceEqDiff, ↓reduceIte, Nat.reduceAdd, Nat.reduceSub, Nat.reduceLT, Nat.reduceMul, reduceCtorEq, Int.reduceToNat, Int.reduceLE, Int.reduceLT, Nat.reduceLeDiff])
                                    (try simp only [go_sem, Nat.reduceEqDiff, ↓reduceIte, Nat.reduceAdd, Nat.reduceSub, Nat.reduceLT, Nat.reduceMul, reduceCtorEq, Int.reduceToNat, Int.reduceLE, Int.reduceLT, Nat.reduceLeDiff])
                                    refine hold2 ?_
                                    exact join_n true (Option.some.inj hP) (so [0, 1])
                                  · refine guard_is hc ?_
                                    (try conv => arg 5; simp only [go_sem, Nat.reduceEqDiff, ↓reduceIte, Nat.reduceAdd, Nat.reduceSub, Nat.reduceLT, Nat.reduceMul, reduceCtorEq, Int.reduceToNat, Int.reduceLE, Int.reduceLT, Nat.reduceLeDiff])
                                    (try simp only [go_sem, Nat.reduceEqDiff, ↓reduceIte, Nat.reduceAdd, Nat.reduceSub, Nat.reduceLT, Nat.reduceMul, reduceCtorEq, Int.reduceToNat, Int.reduceLE, Int.reduceLT, Nat.reduceLeDiff])
                                    obtain ⟨r348, hr348, hP⟩ := bind_cases hP
                                    refine callE_ok [.vptr (.agg [.view 1 (List.map encB ([] : List UInt8))]) 0] (utf8_Decoder_Held_ok hr348) ⟨argR_box rfl ⟨argC_m false (by simp only [arg, go_sem, Nat.reduceEqDiff, ↓reduceIte, Nat.reduceAdd, Nat.reduceSub, Nat.reduceLT, Nat.reduceMul, reduceCtorEq, Int.reduceToNat, Int.reduceLE, Int.reduceLT, Nat.reduceLeDiff]), trivial⟩, trivial⟩ ?_
                                    (try simp only [go_sem, Nat.reduceEqDiff, ↓reduceIte, Nat.reduceAdd, Nat.reduceSub, Nat.reduceLT, Nat.reduceMul, reduceCtorEq, Int.reduceToNat, Int.reduceLE, Int.reduceLT, Nat.reduceLeDiff])
                                    refine hold2 ?_
                                    exact join_n (!decide (r348 = 0)) (Option.some.inj hP) (so [0, 1])
                                replace hP : (show Option (Bool) from
                                  (slL (l183 ++ x310) (isub .i64 ((List.length (l183 ++ x310) : Nat) : Int) r312) ((List.length (l183 ++ x310) : Nat) : Int)).bind fun s344 =>
                                  (utf8_Decoder_Close r279.2).bind fun r346 =>
                                  (ref08_Decode s344).bind fun r347 =>
                                  if !decide (r346 = r347) then
                                    some true
                                  else
                                    (utf8_Decoder_Held ([] : List UInt8)).bind fun r348 =>
                                    some (!decide (r348 = 0))) = some o343 := by first | exact hP | exact (bind_swap _ _ _).trans hP
                                obtain ⟨s344, hs344, hP⟩ := bind_cases hP
                                refine slO_of hs344 ?_
                                (try simp only [go_sem, Nat.reduceEqDiff, ↓reduceIte, Nat.reduceAdd, Nat.reduceSub, Nat.reduceLT, Nat.reduceMul, reduceCtorEq, Int.reduceToNat, Int.reduceLE, Int.reduceLT, Nat.reduceLeDiff])
                                obtain ⟨r346, hr345, hP⟩ := bind_cases hP
                                refine callP_n (call_pt [0, 1] [(0, .view 1 (List.map (encL 1 encB) pieces1)), (1, .view 1 (List.map (encI .i64) ends2)), (6, .bptr 0 0), (9, .int .i64 i181), (100, .own 2 0 (0 + Int.toNat (isub .i64 ((List.length (l183 ++ x310) : Nat) : Int) r312)) (Int.toNat (((List.length (l183 ++ x310) : Nat) : Int) - isub .i64 ((List.length (l183 ++ x310) : Nat) : Int) r312)))] [.box 58 [.own 1 0 0 (List.length ([] : List UInt8))], .slice 0 5 1 (List.map encB ([] : List UInt8)), .slice 0 5 1 (List.map encB (l183 ++ x310))] (.str r346) (utf8_Decoder_Close_ok hr345) ⟨argP_r (by rfl), trivial⟩ (told_of (sm [3, 4, 2])) ?_)
                                (try simp only [go_sem, Nat.reduceEqDiff, ↓reduceIte, Nat.reduceAdd, Nat.reduceSub, Nat.reduceLT, Nat.reduceMul, reduceCtorEq, Int.reduceToNat, Int.reduceLE, Int.reduceLT, Nat.reduceLeDiff])
                                obtain ⟨r347, hr347, hP⟩ := bind_cases hP
                                refine callE_ok [.view 1 (List.map encB s344)] (ref08_Decode_ok hr347) ⟨argR_m false (by simp only [arg, own_cut hs344, go_sem, Nat.reduceEqDiff, ↓reduceIte, Nat.reduceAdd, Nat.reduceSub, Nat.reduceLT, Nat.reduceMul, reduceCtorEq, Int.reduceToNat, Int.reduceLE, Int.reduceLT, Nat.reduceLeDiff]), trivial⟩ ?_
                                (try simp only [go_sem, Nat.reduceEqDiff, ↓reduceIte, Nat.reduceAdd, Nat.reduceSub, Nat.reduceLT, Nat.reduceMul, reduceCtorEq, Int.reduceToNat, Int.reduceLE, Int.reduceLT, Nat.reduceLeDiff])
                                rcases ite_cases hP with ⟨hc, hP⟩ | ⟨hc, hP⟩
                                · refine guard_not hc ?_
                                  (try conv => arg 5; simp only [go_sem, Nat.reduceEqDiff, ↓reduceIte, Nat.reduceAdd, Nat.reduceSub, Nat.reduceLT, Nat.reduceMul, reduceCtorEq, Int.reduceToNat, Int.reduceLE, Int.reduceLT, Nat.reduceLeDiff])
                                  (try simp only [go_sem, Nat.reduceEqDiff, ↓reduceIte, Nat.reduceAdd, Nat.reduceSub, Nat.reduceLT, Nat.reduceMul, reduceCtorEq, Int.reduceToNat, Int.reduceLE, Int.reduceLT, Nat.reduceLeDiff])
                                  refine hold2 ?_
                                  exact join_n true (Option.some.inj hP) (so [0, 1])
                                · refine guard_is hc ?_
                                  (try conv => arg 5; simp only [go_sem, Nat.reduceEqDiff, ↓reduceIte, Nat.reduceAdd, Nat.reduceSub, Nat.reduceLT, Nat.reduceMul, reduceCtorEq, Int.reduceToNat, Int.reduceLE, Int.reduceLT, Nat.reduceLeDiff])
                                  (try simp only [go_sem, Nat.reduceEqDiff, ↓reduceIte, Nat.reduceAdd, Nat.reduceSub, Nat.reduceLT, Nat.reduceMul, reduceCtorEq, Int.reduceToNat, Int.reduceLE, Int.reduceLT, Nat.reduceLeDiff])
                                  obtain ⟨r348, hr348, hP⟩ := bind_cases hP
                                  refine callE_ok [.vptr (.agg [.view 1 (List.map encB ([] : List UInt8))]) 0] (utf8_Decoder_Held_ok hr348) ⟨argR_box rfl ⟨argC_m false (by simp only [arg, go_sem, Nat.reduceEqDiff, ↓reduceIte, Nat.reduceAdd, Nat.reduceSub, Nat.reduceLT, Nat.reduceMul, reduceCtorEq, Int.reduceToNat, Int.reduceLE, Int.reduceLT, Nat.reduceLeDiff]), trivial⟩, trivial⟩ ?_
                                  (try simp only [go_sem, Nat.reduceEqDiff, ↓reduceIte, Nat.reduceAdd, Nat.reduceSub, Nat.reduceLT, Nat.reduceMul, reduceCtorEq, Int.reduceToNat, Int.reduceLE, Int.reduceLT, Nat.reduceLeDiff])
                                  refine hold2 ?_
                                  exact join_n (!decide (r348 = 0)) (Option.some.inj hP) (so [0, 1])
                              · intro j349 hs
                                subst hs
                                have hP := hQ343
                                clear hQ343
                                exact join_n j349 (Option.some.inj hP) (so [0, 1])
                            · intro j350 hs
                              subst hs
                              have hP := hQ337
                              clear hQ337
                              refine J_condV rfl ?_
                              (try simp only [go_sem, Nat.reduceEqDiff, ↓reduceIte, Nat.reduceAdd, Nat.reduceSub, Nat.reduceLT, Nat.reduceMul, reduceCtorEq, Int.reduceToNat, Int.reduceLE, Int.reduceLT, Nat.reduceLeDiff])
                              rcases ite_cases hP with ⟨hc, hP⟩ | ⟨hc, hP⟩
                              · refine condV_t hc ?_
                                refine J_seq ?_
                                refine J_region (by kernel_rfl) ?_
                                (try simp only [go_sem, Nat.reduceEqDiff, ↓reduceIte, Nat.reduceAdd, Nat.reduceSub, Nat.reduceLT, Nat.reduceMul, reduceCtorEq, Int.reduceToNat, Int.reduceLE, Int.reduceLT, Nat.reduceLeDiff])
                                refine hold2 (then_n ?_)
                                refine J_ret (then_ret (block_ret (then_ret (loop_ret (block_ret (join_ret (then_ret (fin_ret ?_))))))))
                                obtain rfl := Option.some.inj hP
                                have hP := hQ267
                                dsimp only at hP
                                obtain rfl := Option.some.inj hP
                                (try simp only [go_sem, Nat.reduceEqDiff, ↓reduceIte, Nat.reduceAdd, Nat.reduceSub, Nat.reduceLT, Nat.reduceMul, reduceCtorEq, Int.reduceToNat, Int.reduceLE, Int.reduceLT, Nat.reduceLeDiff])
                                exact fo []
                              · refine condV_f hc ?_
                                refine J_skip (then_n ?_)
                                refine J_seq ?_
                                refine J_region (by kernel_rfl) ?_
                                (try simp only [go_sem, Nat.reduceEqDiff, ↓reduceIte, Nat.reduceAdd, Nat.reduceSub, Nat.reduceLT, Nat.reduceMul, reduceCtorEq, Int.reduceToNat, Int.reduceLE, Int.reduceLT, Nat.reduceLeDiff])
                                refine hold2 (then_n ?_)
                                refine J_region (by kernel_rfl) ?_
                                (try simp only [go_sem, Nat.reduceEqDiff, ↓reduceIte, Nat.reduceAdd, Nat.reduceSub, Nat.reduceLT, Nat.reduceMul, reduceCtorEq, Int.reduceToNat, Int.reduceLE, Int.reduceLT, Nat.reduceLeDiff])
                                refine hold2 (block_n (then_n ?_))
                                refine J_region (by kernel_rfl) ?_
                                (try simp only [go_sem, Nat.reduceEqDiff, ↓reduceIte, Nat.reduceAdd, Nat.reduceSub, Nat.reduceLT, Nat.reduceMul, reduceCtorEq, Int.reduceToNat, Int.reduceLE, Int.reduceLT, Nat.reduceLeDiff])
                                refine hold2 ?_
                                exact loop_n (k184, 0, iadd .i64 i181 1, ([] : List UInt8), ([] : List UInt8)) hP (Nat.lt_succ_self _) (so [0, 1, 2])
                          · refine condV_f hc ?_
                            refine J_skip (block_n (then_n ?_))
                            refine J_region (by kernel_rfl) ?_
                            (try simp only [go_sem, Nat.reduceEqDiff, ↓reduceIte, Nat.reduceAdd, Nat.reduceSub, Nat.reduceLT, Nat.reduceMul, reduceCtorEq, Int.reduceToNat, Int.reduceLE, Int.reduceLT, Nat.reduceLeDiff])
                            refine hold2 ?_
                            exact loop_n (k184, isub .i64 ((List.length (l183 ++ x310) : Nat) : Int) r312, iadd .i64 i181 1, r279.2, l183 ++ x310) hP (Nat.lt_succ_self _) (so [0, 1, 2])
            · refine condV_f hc ?_
              refine J_exit (then_exit (loop_exit (block_eq ?_)))
              exact join_n (told180, l182, l183) (Option.some.inj hP) (so [0, 1, 2])
        · intro j352 hs
          subst hs
          have hP := hQ267
          dsimp only at hP
          clear hQ267
          refine then_n ?_
          refine J_seq ?_
          obtain ⟨o360, hP, hQ360⟩ := bind_cases hP
          refine J_joinK0 (fun (s : Bool) => envL [(4, .bool s)]) (fun (s : Bool) => []) (fun s => s = o360) ?_ ?_
          · clear hQ360
            refine J_regionT [(0, none), (2, none), (3, none)] (.alt (.step 1 (.early 4 (.early 5 (.early 6 (.pure 7 (.pure 8 (.early 9 (.early 10 (.early 11 (.pure 12 (.pure 13 (.step 14 (.early 15 (.early 16 (.early 17 (.done)))))))))))))))) (.early 4 (.step 1 (.early 5 (.early 6 (.pure 7 (.pure 8 (.early 9 (.early 10 (.early 11 (.pure 12 (.pure 13 (.step 14 (.early 15 (.early 16 (.early 17 (.done))))))))))))))))) [1, 14] [4, 108, 109, 110, 111, 112, 113, 114, 115, 116, 117, 118, 119, 120, 121, 122, 123, 124] follows_mixed (by kernel_rfl) (by kernel_rfl) (by kernel_rfl) (by kernel_rfl) (by kernel_rfl) (by kernel_rfl) ?_
            simp only [pickT_cons, pickT_nil, go_sem, Nat.reduceEqDiff, ↓reduceIte, Nat.reduceAdd, Nat.reduceSub, Nat.reduceLT, Nat.reduceMul, reduceCtorEq, Int.reduceToNat, Int.reduceLE, Int.reduceLT, Nat.reduceLeDiff]
            (try simp only [go_sem, Nat.reduceEqDiff, ↓reduceIte, Nat.reduceAdd, Nat.reduceSub, Nat.reduceLT, Nat.reduceMul, reduceCtorEq, Int.reduceToNat, Int.reduceLE, Int.reduceLT, Nat.reduceLeDiff])
            refine ⟨?_, ?_⟩
            · obtain ⟨r362, hr361, hP⟩ := bind_cases hP
              refine callP_n (call_pt [0, 1] [(6, .bptr 0 0), (110, .own 2 0 0 (List.length j352.2.2)), (111, .int .i64 j352.1)] [.box 58 [.own 1 0 0 (List.length ([] : List UInt8))], .slice 0 5 1 (List.map encB ([] : List UInt8)), .slice 0 5 1 (List.map encB j352.2.2)] (.str r362) (utf8_Decoder_Close_ok hr361) ⟨argP_r (by rfl), trivial⟩ (told_of (sm [3, 4, 2])) ?_)
              (try simp only [go_sem, Nat.reduceEqDiff, ↓reduceIte, Nat.reduceAdd, Nat.reduceSub, Nat.reduceLT, Nat.reduceMul, reduceCtorEq, Int.reduceToNat, Int.reduceLE, Int.reduceLT, Nat.reduceLeDiff])
              obtain ⟨s363, hs363, hP⟩ := bind_cases hP
              refine slO_of hs363 ?_
              (try simp only [go_sem, Nat.reduceEqDiff, ↓reduceIte, Nat.reduceAdd, Nat.reduceSub, Nat.reduceLT, Nat.reduceMul, reduceCtorEq, Int.reduceToNat, Int.reduceLE, Int.reduceLT, Nat.reduceLeDiff])
              obtain ⟨r364, hr364, hP⟩ := bind_cases hP
              refine callE_ok [.view 1 (List.map encB s363)] (ref08_Decode_ok hr364) ⟨argR_m false (by simp only [arg, own_cut hs363, go_sem, Nat.reduceEqDiff, ↓reduceIte, Nat.reduceAdd, Nat.reduceSub, Nat.reduceLT, Nat.reduceMul, reduceCtorEq, Int.reduceToNat, Int.reduceLE, Int.reduceLT, Nat.reduceLeDiff]), trivial⟩ ?_
              (try simp only [go_sem, Nat.reduceEqDiff, ↓reduceIte, Nat.reduceAdd, Nat.reduceSub, Nat.reduceLT, Nat.reduceMul, reduceCtorEq, Int.reduceToNat, Int.reduceLE, Int.reduceLT, Nat.reduceLeDiff])
              rcases ite_cases hP with ⟨hc, hP⟩ | ⟨hc, hP⟩
              · refine guard_is hc ?_
                (try simp only [go_sem, Nat.reduceEqDiff, ↓reduceIte, Nat.reduceAdd, Nat.reduceSub, Nat.reduceLT, Nat.reduceMul, reduceCtorEq, Int.reduceToNat, Int.reduceLE, Int.reduceLT, Nat.reduceLeDiff])
                obtain ⟨r365, hr365, hP⟩ := bind_cases hP
                refine callE_ok [.vptr (.agg [.view 1 (List.map encB ([] : List UInt8))]) 0] (utf8_Decoder_Held_ok hr365) ⟨argR_box rfl ⟨argC_m false (by simp only [arg, go_sem, Nat.reduceEqDiff, ↓reduceIte, Nat.reduceAdd, Nat.reduceSub, Nat.reduceLT, Nat.reduceMul, reduceCtorEq, Int.reduceToNat, Int.reduceLE, Int.reduceLT, Nat.reduceLeDiff]), trivial⟩, trivial⟩ ?_
                (try simp only [go_sem, Nat.reduceEqDiff, ↓reduceIte, Nat.reduceAdd, Nat.reduceSub, Nat.reduceLT, Nat.reduceMul, reduceCtorEq, Int.reduceToNat, Int.reduceLE, Int.reduceLT, Nat.reduceLeDiff])
                rcases ite_cases hP with ⟨hc, hP⟩ | ⟨hc, hP⟩
                · refine guard_is hc ?_
                  (try conv => arg 5; simp only [go_sem, Nat.reduceEqDiff, ↓reduceIte, Nat.reduceAdd, Nat.reduceSub, Nat.reduceLT, Nat.reduceMul, reduceCtorEq, Int.reduceToNat, Int.reduceLE, Int.reduceLT, Nat.reduceLeDiff])
                  (try simp only [go_sem, Nat.reduceEqDiff, ↓reduceIte, Nat.reduceAdd, Nat.reduceSub, Nat.reduceLT, Nat.reduceMul, reduceCtorEq, Int.reduceToNat, Int.reduceLE, Int.reduceLT, Nat.reduceLeDiff])
                  obtain ⟨r367, hr366, hP⟩ := bind_cases hP
                  refine callP_n (call_pt [0, 1] [(120, .bool true)] [] (.str r367) (utf8_Decoder_Close_ok hr366) ⟨argP_r (by rfl), trivial⟩ (told_of (sm [])) ?_)
                  (try simp only [go_sem, Nat.reduceEqDiff, ↓reduceIte, Nat.reduceAdd, Nat.reduceSub, Nat.reduceLT, Nat.reduceMul, reduceCtorEq, Int.reduceToNat, Int.reduceLE, Int.reduceLT, Nat.reduceLeDiff])
                  refine hold2 ?_
                  exact join_n (decide (r367 = [])) (Option.some.inj hP) (so [])
                · refine guard_not hc ?_
                  (try conv => arg 5; simp only [go_sem, Nat.reduceEqDiff, ↓reduceIte, Nat.reduceAdd, Nat.reduceSub, Nat.reduceLT, Nat.reduceMul, reduceCtorEq, Int.reduceToNat, Int.reduceLE, Int.reduceLT, Nat.reduceLeDiff])
                  (try simp only [go_sem, Nat.reduceEqDiff, ↓reduceIte, Nat.reduceAdd, Nat.reduceSub, Nat.reduceLT, Nat.reduceMul, reduceCtorEq, Int.reduceToNat, Int.reduceLE, Int.reduceLT, Nat.reduceLeDiff])
                  refine hold2 ?_
                  exact join_n false (Option.some.inj hP) (so [])
              · refine guard_not hc ?_
                (try simp only [go_sem, Nat.reduceEqDiff, ↓reduceIte, Nat.reduceAdd, Nat.reduceSub, Nat.reduceLT, Nat.reduceMul, reduceCtorEq, Int.reduceToNat, Int.reduceLE, Int.reduceLT, Nat.reduceLeDiff])
                refine hold2 ?_
                exact join_n false (Option.some.inj hP) (so [])
            replace hP : (show Option (Bool) from
              (slL j352.2.2 j352.1 ((List.length j352.2.2 : Nat) : Int)).bind fun s361 =>
              (utf8_Decoder_Close j352.2.1).bind fun r363 =>
              (ref08_Decode s361).bind fun r364 =>
              if decide (r363 = r364) then
                (utf8_Decoder_Held ([] : List UInt8)).bind fun r365 =>
                if decide (r365 = 0) then
                  (utf8_Decoder_Close ([] : List UInt8)).bind fun r367 =>
                  some (decide (r367 = []))
                else
                  some false
              else
                some false) = some o360 := by first | exact hP | exact (bind_swap _ _ _).trans hP
            obtain ⟨s361, hs361, hP⟩ := bind_cases hP
            refine slO_of hs361 ?_
            (try simp only [go_sem, Nat.reduceEqDiff, ↓reduceIte, Nat.reduceAdd, Nat.reduceSub, Nat.reduceLT, Nat.reduceMul, reduceCtorEq, Int.reduceToNat, Int.reduceLE, Int.reduceLT, Nat.reduceLeDiff])
            obtain ⟨r363, hr362, hP⟩ := bind_cases hP
            refine callP_n (call_pt [0, 1] [(6, .bptr 0 0), (112, .own 2 0 (0 + Int.toNat j352.1) (Int.toNat (((List.length j352.2.2 : Nat) : Int) - j352.1)))] [.box 58 [.own 1 0 0 (List.length ([] : List UInt8))], .slice 0 5 1 (List.map encB ([] : List UInt8)), .slice 0 5 1 (List.map encB j352.2.2)] (.str r363) (utf8_Decoder_Close_ok hr362) ⟨argP_r (by rfl), trivial⟩ (told_of (sm [3, 4, 2])) ?_)
            (try simp only [go_sem, Nat.reduceEqDiff, ↓reduceIte, Nat.reduceAdd, Nat.reduceSub, Nat.reduceLT, Nat.reduceMul, reduceCtorEq, Int.reduceToNat, Int.reduceLE, Int.reduceLT, Nat.reduceLeDiff])
            obtain ⟨r364, hr364, hP⟩ := bind_cases hP
            refine callE_ok [.view 1 (List.map encB s361)] (ref08_Decode_ok hr364) ⟨argR_m false (by simp only [arg, own_cut hs361, go_sem, Nat.reduceEqDiff, ↓reduceIte, Nat.reduceAdd, Nat.reduceSub, Nat.reduceLT, Nat.reduceMul, reduceCtorEq, Int.reduceToNat, Int.reduceLE, Int.reduceLT, Nat.reduceLeDiff]), trivial⟩ ?_
            (try simp only [go_sem, Nat.reduceEqDiff, ↓reduceIte, Nat.reduceAdd, Nat.reduceSub, Nat.reduceLT, Nat.reduceMul, reduceCtorEq, Int.reduceToNat, Int.reduceLE, Int.reduceLT, Nat.reduceLeDiff])
            rcases ite_cases hP with ⟨hc, hP⟩ | ⟨hc, hP⟩
            · refine guard_is hc ?_
              (try simp only [go_sem, Nat.reduceEqDiff, ↓reduceIte, Nat.reduceAdd, Nat.reduceSub, Nat.reduceLT, Nat.reduceMul, reduceCtorEq, Int.reduceToNat, Int.reduceLE, Int.reduceLT, Nat.reduceLeDiff])
              obtain ⟨r365, hr365, hP⟩ := bind_cases hP
              refine callE_ok [.vptr (.agg [.view 1 (List.map encB ([] : List UInt8))]) 0] (utf8_Decoder_Held_ok hr365) ⟨argR_box rfl ⟨argC_m false (by simp only [arg, go_sem, Nat.reduceEqDiff, ↓reduceIte, Nat.reduceAdd, Nat.reduceSub, Nat.reduceLT, Nat.reduceMul, reduceCtorEq, Int.reduceToNat, Int.reduceLE, Int.reduceLT, Nat.reduceLeDiff]), trivial⟩, trivial⟩ ?_
              (try simp only [go_sem, Nat.reduceEqDiff, ↓reduceIte, Nat.reduceAdd, Nat.reduceSub, Nat.reduceLT, Nat.reduceMul, reduceCtorEq, Int.reduceToNat, Int.reduceLE, Int.reduceLT, Nat.reduceLeDiff])
              rcases ite_cases hP with ⟨hc, hP⟩ | ⟨hc, hP⟩
              · refine guard_is hc ?_
                (try simp only [go_sem, Nat.reduceEqDiff, ↓reduceIte, Nat.reduceAdd, Nat.reduceSub, Nat.reduceLT, Nat.reduceMul, reduceCtorEq, Int.reduceToNat, Int.reduceLE, Int.reduceLT, Nat.reduceLeDiff])
                obtain ⟨r367, hr366, hP⟩ := bind_cases hP
                refine callP_n (call_pt [0, 1] [(120, .bool true)] [] (.str r367) (utf8_Decoder_Close_ok hr366) ⟨argP_r (by rfl), trivial⟩ (told_of (sm [])) ?_)
                (try simp only [go_sem, Nat.reduceEqDiff, ↓reduceIte, Nat.reduceAdd, Nat.reduceSub, Nat.reduceLT, Nat.reduceMul, reduceCtorEq, Int.reduceToNat, Int.reduceLE, Int.reduceLT, Nat.reduceLeDiff])
                refine hold2 ?_
                exact join_n (decide (r367 = [])) (Option.some.inj hP) (so [])
              · refine guard_not hc ?_
                (try simp only [go_sem, Nat.reduceEqDiff, ↓reduceIte, Nat.reduceAdd, Nat.reduceSub, Nat.reduceLT, Nat.reduceMul, reduceCtorEq, Int.reduceToNat, Int.reduceLE, Int.reduceLT, Nat.reduceLeDiff])
                refine hold2 ?_
                exact join_n false (Option.some.inj hP) (so [])
            · refine guard_not hc ?_
              (try simp only [go_sem, Nat.reduceEqDiff, ↓reduceIte, Nat.reduceAdd, Nat.reduceSub, Nat.reduceLT, Nat.reduceMul, reduceCtorEq, Int.reduceToNat, Int.reduceLE, Int.reduceLT, Nat.reduceLeDiff])
              refine hold2 ?_
              exact join_n false (Option.some.inj hP) (so [])
          · intro j368 hs
            subst hs
            have hP := hQ360
            clear hQ360
            refine then_n ?_
            refine J_ret (fin_ret ?_)
            obtain rfl := Option.some.inj hP
            (try simp only [go_sem, Nat.reduceEqDiff, ↓reduceIte, Nat.reduceAdd, Nat.reduceSub, Nat.reduceLT, Nat.reduceMul, reduceCtorEq, Int.reduceToNat, Int.reduceLE, Int.reduceLT, Nat.reduceLeDiff])
            exact fo []
end Go.Proofs.Ytcmmmomkfamodaa
