/- Walks. -/
import Derived.Test.YtecpgelhhbbjmaaGreatDoorGI
import Derived.Test.YtecpgelhhbbjmaaGreatDoorGH
import Derived.Test.YtecpgelhhbbjmaaGreatDoorAvY
import Derived.Test.YtecpgelhhbbjmaaGreatDoorAvPj
namespace Go.Proofs.YtecpgelhhbbjmaaGreatDoor
open Go.Av
set_option linter.unusedVariables false
set_option maxRecDepth 100000
set_option maxHeartbeats 40000000
set_option linter.unusedSimpArgs false
/-- colander/colanderlaw11.SniffPicks -/
def law11_SniffPicks (charset1 : List UInt8) (b2 : List (UInt8)) : Option (Bool) :=
 (law11_shown).bind fun r3 =>
 (szC (List.length (b2 : List (UInt8)))).bind fun _ =>
 (szC (List.length (b2 ++ [(bC 62)] : List (UInt8)))).bind fun _ =>
 (slL (b2 ++ [(bC 62)]) 0 (List.length b2 : Int)).bind fun s6 =>
 (sniff_Pick charset1 s6).bind fun r7 =>
 (ref11_Pick charset1 b2).bind fun r8 =>
 (slL (b2 ++ [(bC 62)]) 0 (List.length b2 : Int)).bind fun s9 =>
 (sniff_Decode charset1 s9).bind fun r10 =>
 (ref11_Decode charset1 b2).bind fun r11 =>
 if r3 then
  if decide (r7.1 = r8.1) then
   if decide (r7.2 = r8.2) then
    if decide (r10.1 = r11.1) then
     if (decide (r10.2 = 0)) == r11.2 then
      if r11.2 then
       (szC (List.length (b2 ++ [62]))).bind fun _ =>
       some (decide (b2 ++ [(bC 62)] = (b2 ++ [62])))
      else
       if decide (r10.2 = 40) then
        (szC (List.length (b2 ++ [62]))).bind fun _ =>
        some (decide (b2 ++ [(bC 62)] = (b2 ++ [62])))
       else
        some false
     else
      some false
    else
     some false
   else
    some false
  else
   some false
 else
  some false
theorem law11_SniffPicks_ok {charset1 : List UInt8} {b2 : List (UInt8)} {r : Bool} (hP : law11_SniffPicks charset1 b2 = some r) : CallOK Tryz.prog 3 [.str charset1, .view 1 (List.map encB b2)] (.bool r) [] := by
 unfold law11_SniffPicks at hP
 refine co 88 [.tmp 4] Tryz.func3 ?_
 refine J_seq ?_
 refine J_region (by kernel_rfl) ?_
 try simp only [go_sem, Nat.reduceEqDiff, ↓reduceIte, Nat.reduceAdd, Nat.reduceSub, Nat.reduceLT, Nat.reduceMul, reduceCtorEq, Int.reduceToNat, Int.reduceLE, Int.reduceLT, Nat.reduceLeDiff]
 refine hold2 (then_n ?_)
 refine J_seq ?_
 refine J_region (by kernel_rfl) ?_
 try simp only [go_sem, Nat.reduceEqDiff, ↓reduceIte, Nat.reduceAdd, Nat.reduceSub, Nat.reduceLT, Nat.reduceMul, reduceCtorEq, Int.reduceToNat, Int.reduceLE, Int.reduceLT, Nat.reduceLeDiff]
 obtain ⟨r3, hr3, hP⟩ := bind_cases hP
 refine call_ok [] (law11_shown_ok hr3) trivial ?_
 try simp only [go_sem, Nat.reduceEqDiff, ↓reduceIte, Nat.reduceAdd, Nat.reduceSub, Nat.reduceLT, Nat.reduceMul, reduceCtorEq, Int.reduceToNat, Int.reduceLE, Int.reduceLT, Nat.reduceLeDiff]
 refine hold2 (then_n ?_)
 refine J_seq ?_
 refine J_region (by kernel_rfl) ?_
 try simp only [go_sem, Nat.reduceEqDiff, ↓reduceIte, Nat.reduceAdd, Nat.reduceSub, Nat.reduceLT, Nat.reduceMul, reduceCtorEq, Int.reduceToNat, Int.reduceLE, Int.reduceLT, Nat.reduceLeDiff]
 obtain ⟨_, hz4, hP⟩ := bind_cases hP
 refine app_own (f := encB) (([] : List UInt8) : List (UInt8)) (b2 : List (UInt8)) rfl tyS_22 (by decide) (by simp only [go_sem, Nat.reduceEqDiff, ↓reduceIte, Nat.reduceAdd, Nat.reduceSub, Nat.reduceLT, Nat.reduceMul, reduceCtorEq, Int.reduceToNat, Int.reduceLE, Int.reduceLT, Nat.reduceLeDiff]; first | done | rfl | exact ⟨rfl, rfl⟩) hz4 ?_
 try simp only [go_sem, Nat.reduceEqDiff, ↓reduceIte, Nat.reduceAdd, Nat.reduceSub, Nat.reduceLT, Nat.reduceMul, reduceCtorEq, Int.reduceToNat, Int.reduceLE, Int.reduceLT, Nat.reduceLeDiff]
 obtain ⟨_, hz5, hP⟩ := bind_cases hP
 refine app_own (f := encB) (b2 : List (UInt8)) ([(bC 62)] : List (UInt8)) rfl tyS_22 (by decide) (by simp only [go_sem, Nat.reduceEqDiff, ↓reduceIte, Nat.reduceAdd, Nat.reduceSub, Nat.reduceLT, Nat.reduceMul, reduceCtorEq, Int.reduceToNat, Int.reduceLE, Int.reduceLT, Nat.reduceLeDiff]; first | done | rfl | exact ⟨rfl, rfl⟩) hz5 ?_
 try simp only [go_sem, Nat.reduceEqDiff, ↓reduceIte, Nat.reduceAdd, Nat.reduceSub, Nat.reduceLT, Nat.reduceMul, reduceCtorEq, Int.reduceToNat, Int.reduceLE, Int.reduceLT, Nat.reduceLeDiff]
 refine hold2 (then_n ?_)
 refine J_seq ?_
 refine J_region (by kernel_rfl) ?_
 try simp only [go_sem, Nat.reduceEqDiff, ↓reduceIte, Nat.reduceAdd, Nat.reduceSub, Nat.reduceLT, Nat.reduceMul, reduceCtorEq, Int.reduceToNat, Int.reduceLE, Int.reduceLT, Nat.reduceLeDiff]
 obtain ⟨s6, hs6, hP⟩ := bind_cases hP
 refine slO_of hs6 ?_
 try simp only [go_sem, Nat.reduceEqDiff, ↓reduceIte, Nat.reduceAdd, Nat.reduceSub, Nat.reduceLT, Nat.reduceMul, reduceCtorEq, Int.reduceToNat, Int.reduceLE, Int.reduceLT, Nat.reduceLeDiff]
 obtain ⟨r7, hr7, hP⟩ := bind_cases hP
 refine call_ok [.str charset1, .view 1 (List.map encB s6)] (sniff_Pick_ok hr7) ⟨argR_m false rfl, argR_m false (by simp only [arg, own_cut0 hs6, go_sem, Nat.reduceEqDiff, ↓reduceIte, Nat.reduceAdd, Nat.reduceSub, Nat.reduceLT, Nat.reduceMul, reduceCtorEq, Int.reduceToNat, Int.reduceLE, Int.reduceLT, Nat.reduceLeDiff]), trivial⟩ ?_
 try simp only [go_sem, Nat.reduceEqDiff, ↓reduceIte]
 refine hold2 (then_n ?_)
 refine J_seq ?_
 refine J_region (by kernel_rfl) ?_
 try simp only [go_sem, Nat.reduceEqDiff, ↓reduceIte]
 obtain ⟨r8, hr8, hP⟩ := bind_cases hP
 refine call_ok [.str charset1, .view 1 (List.map encB b2)] (ref11_Pick_ok hr8) ⟨argR_m false rfl, argR_m false rfl, trivial⟩ ?_
 try simp only [go_sem, Nat.reduceEqDiff, ↓reduceIte]
 refine hold2 (then_n ?_)
 refine J_seq ?_
 refine J_region (by kernel_rfl) ?_
 try simp only [go_sem, Nat.reduceEqDiff, ↓reduceIte]
 obtain ⟨s9, hs9, hP⟩ := bind_cases hP
 refine slO_of hs9 ?_
 try simp only [go_sem, Nat.reduceEqDiff, ↓reduceIte]
 obtain ⟨r10, hr10, hP⟩ := bind_cases hP
 refine call_ok [.str charset1, .view 1 (List.map encB s9)] (sniff_Decode_ok hr10) ⟨argR_m false rfl, argR_m false (by simp only [arg, own_cut0 hs9, go_sem, Nat.reduceEqDiff, ↓reduceIte, Nat.reduceAdd, Nat.reduceSub, Nat.reduceLT, Nat.reduceMul, reduceCtorEq, Int.reduceToNat, Int.reduceLE, Int.reduceLT, Nat.reduceLeDiff]), trivial⟩ ?_
 try simp only [go_sem, Nat.reduceEqDiff, ↓reduceIte]
 refine hold2 (then_n ?_)
 refine J_seq ?_
 refine J_region (by kernel_rfl) ?_
 try simp only [go_sem, Nat.reduceEqDiff, ↓reduceIte]
 obtain ⟨r11, hr11, hP⟩ := bind_cases hP
 refine call_ok [.str charset1, .view 1 (List.map encB b2)] (ref11_Decode_ok hr11) ⟨argR_m false rfl, argR_m false rfl, trivial⟩ ?_
 try simp only [go_sem, Nat.reduceEqDiff, ↓reduceIte]
 refine hold2 (then_n ?_)
 refine J_seq ?_
 refine J_region (by kernel_rfl) ?_
 try simp only [go_sem, Nat.reduceEqDiff, ↓reduceIte]
 rcases ite_cases hP with ⟨hc, hP⟩ | ⟨hc, hP⟩
 ·refine guard_is hc ?_
  (try conv => arg 5; simp only [go_sem, Nat.reduceEqDiff, ↓reduceIte])
  try simp only [go_sem, Nat.reduceEqDiff, ↓reduceIte]
  rcases ite_cases hP with ⟨hc, hP⟩ | ⟨hc, hP⟩
  ·refine guard_is hc ?_
   (try conv => arg 5; simp only [go_sem, Nat.reduceEqDiff, ↓reduceIte])
   try simp only [go_sem, Nat.reduceEqDiff, ↓reduceIte]
   rcases ite_cases hP with ⟨hc, hP⟩ | ⟨hc, hP⟩
   ·refine guard_is hc ?_
    (try conv => arg 5; simp only [go_sem, Nat.reduceEqDiff, ↓reduceIte])
    try simp only [go_sem, Nat.reduceEqDiff, ↓reduceIte]
    rcases ite_cases hP with ⟨hc, hP⟩ | ⟨hc, hP⟩
    ·refine guard_is hc ?_
     (try conv => arg 5; simp only [go_sem, Nat.reduceEqDiff, ↓reduceIte])
     try simp only [go_sem, Nat.reduceEqDiff, ↓reduceIte]
     rcases ite_cases hP with ⟨hc, hP⟩ | ⟨hc, hP⟩
     ·refine guard_is hc ?_
      (try conv => arg 5; simp only [go_sem, Nat.reduceEqDiff, ↓reduceIte])
      try simp only [go_sem, Nat.reduceEqDiff, ↓reduceIte]
      rcases ite_cases hP with ⟨hc, hP⟩ | ⟨hc, hP⟩
      ·refine guard_not hc ?_
       (try conv => arg 5; simp only [go_sem, Nat.reduceEqDiff, ↓reduceIte])
       try simp only [go_sem, Nat.reduceEqDiff, ↓reduceIte]
       first | refine bytesK_map ?_ | refine bytesK_of (b2 ++ [(bC 62)]) rfl ?_
       try simp only [go_sem, Nat.reduceEqDiff, ↓reduceIte]
       first | refine bytesK_map ?_ | refine bytesK_of b2 rfl ?_
       try simp only [go_sem, Nat.reduceEqDiff, ↓reduceIte]
       obtain ⟨_, hz13, hP⟩ := bind_cases hP
       refine chk_of (by first | exact szC_63 hz13 | (have q := szC_63 hz13; simp only [List.length_append, List.length_cons, List.length_nil] at q ⊢; omega)) ?_
       try simp only [go_sem, Nat.reduceEqDiff, ↓reduceIte]
       refine hold2 (then_n ?_)
       refine J_ret (fin_ret ?_)
       obtain rfl := Option.some.inj hP
       try simp only [go_sem, Nat.reduceEqDiff, ↓reduceIte]
       exact fo []
      ·refine guard_is hc ?_
       (try conv => arg 5; simp only [go_sem, Nat.reduceEqDiff, ↓reduceIte])
       try simp only [go_sem, Nat.reduceEqDiff, ↓reduceIte]
       rcases ite_cases hP with ⟨hc, hP⟩ | ⟨hc, hP⟩
       ·refine guard_is hc ?_
        (try conv => arg 5; simp only [go_sem, Nat.reduceEqDiff, ↓reduceIte])
        try simp only [go_sem, Nat.reduceEqDiff, ↓reduceIte]
        first | refine bytesK_map ?_ | refine bytesK_of (b2 ++ [(bC 62)]) rfl ?_
        try simp only [go_sem, Nat.reduceEqDiff, ↓reduceIte]
        first | refine bytesK_map ?_ | refine bytesK_of b2 rfl ?_
        try simp only [go_sem, Nat.reduceEqDiff, ↓reduceIte]
        obtain ⟨_, hz12, hP⟩ := bind_cases hP
        refine chk_of (by first | exact szC_63 hz12 | (have q := szC_63 hz12; simp only [List.length_append, List.length_cons, List.length_nil] at q ⊢; omega)) ?_
        try simp only [go_sem, Nat.reduceEqDiff, ↓reduceIte]
        refine hold2 (then_n ?_)
        refine J_ret (fin_ret ?_)
        obtain rfl := Option.some.inj hP
        try simp only [go_sem, Nat.reduceEqDiff, ↓reduceIte]
        exact fo []
       ·refine guard_not hc ?_
        (try conv => arg 5; simp only [go_sem, Nat.reduceEqDiff, ↓reduceIte])
        try simp only [go_sem, Nat.reduceEqDiff, ↓reduceIte]
        refine hold2 (then_n ?_)
        refine J_ret (fin_ret ?_)
        obtain rfl := Option.some.inj hP
        try simp only [go_sem, Nat.reduceEqDiff, ↓reduceIte]
        exact fo []
     ·refine guard_not hc ?_
      (try conv => arg 5; simp only [go_sem, Nat.reduceEqDiff, ↓reduceIte])
      try simp only [go_sem, Nat.reduceEqDiff, ↓reduceIte]
      refine hold2 (then_n ?_)
      refine J_ret (fin_ret ?_)
      obtain rfl := Option.some.inj hP
      try simp only [go_sem, Nat.reduceEqDiff, ↓reduceIte]
      exact fo []
    ·refine guard_not hc ?_
     (try conv => arg 5; simp only [go_sem, Nat.reduceEqDiff, ↓reduceIte])
     try simp only [go_sem, Nat.reduceEqDiff, ↓reduceIte]
     refine hold2 (then_n ?_)
     refine J_ret (fin_ret ?_)
     obtain rfl := Option.some.inj hP
     try simp only [go_sem, Nat.reduceEqDiff, ↓reduceIte]
     exact fo []
   ·refine guard_not hc ?_
    (try conv => arg 5; simp only [go_sem, Nat.reduceEqDiff, ↓reduceIte])
    try simp only [go_sem, Nat.reduceEqDiff, ↓reduceIte]
    refine hold2 (then_n ?_)
    refine J_ret (fin_ret ?_)
    obtain rfl := Option.some.inj hP
    try simp only [go_sem, Nat.reduceEqDiff, ↓reduceIte]
    exact fo []
  ·refine guard_not hc ?_
   (try conv => arg 5; simp only [go_sem, Nat.reduceEqDiff, ↓reduceIte])
   try simp only [go_sem, Nat.reduceEqDiff, ↓reduceIte]
   refine hold2 (then_n ?_)
   refine J_ret (fin_ret ?_)
   obtain rfl := Option.some.inj hP
   try simp only [go_sem, Nat.reduceEqDiff, ↓reduceIte]
   exact fo []
 ·refine guard_not hc ?_
  (try conv => arg 5; simp only [go_sem, Nat.reduceEqDiff, ↓reduceIte])
  try simp only [go_sem, Nat.reduceEqDiff, ↓reduceIte]
  refine hold2 (then_n ?_)
  refine J_ret (fin_ret ?_)
  obtain rfl := Option.some.inj hP
  try simp only [go_sem, Nat.reduceEqDiff, ↓reduceIte]
  exact fo []
end Go.Proofs.YtecpgelhhbbjmaaGreatDoor
