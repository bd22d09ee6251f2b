/- Walks. -/
import Derived.Test.YtecpgelhhbbjmaaGreatDoorGG
import Derived.Test.YtecpgelhhbbjmaaGreatDoorAvPj
namespace Go.Proofs.YtecpgelhhbbjmaaGreatDoor
open Go.Av
set_option linter.unusedVariables false
set_option maxRecDepth 100000
set_option maxHeartbeats 40000000
set_option linter.unusedSimpArgs false
/-- colander/colanderlaw11.shown -/
def law11_shown : Option (Bool) :=
 (sniff_Pick [108, 97, 116, 105, 110, 49] [(bC 239), (bC 187), (bC 191), (bC 65)]).bind fun r1 =>
 (sniff_Decode [] [(bC 60), (bC 77), (bC 69), (bC 84), (bC 65), (bC 32), (bC 99), (bC 104), (bC 97), (bC 114), (bC 115), (bC 101), (bC 116), (bC 61), (bC 39), (bC 85), (bC 84), (bC 70), (bC 45), (bC 49), (bC 54), (bC 39), (bC 62), (bC 226), (bC 130), (bC 172)]).bind fun r2 =>
 (sniff_Decode [117, 116, 102, 45, 49, 54] ([] : List UInt8)).bind fun r3 =>
 if decide (r1.1 = 1) then
  if decide (r1.2 = 3) then
   (sniff_Content [97, 59, 32, 99, 104, 97, 114, 115, 101, 116, 32, 61, 32, 34, 117, 116, 102, 45, 56, 34]).bind fun r4 =>
   if decide (r4 = 1) then
    (sniff_Prescan [(bC 60), (bC 33), (bC 45), (bC 45), (bC 32), (bC 60), (bC 109), (bC 101), (bC 116), (bC 97), (bC 32), (bC 99), (bC 104), (bC 97), (bC 114), (bC 115), (bC 101), (bC 116), (bC 61), (bC 117), (bC 116), (bC 102), (bC 45), (bC 56), (bC 62), (bC 32), (bC 45), (bC 45), (bC 62), (bC 60), (bC 109), (bC 101), (bC 116), (bC 97), (bC 32), (bC 99), (bC 104), (bC 97), (bC 114), (bC 115), (bC 101), (bC 116), (bC 61), (bC 108), (bC 97), (bC 116), (bC 105), (bC 110), (bC 49), (bC 62)]).bind fun r5 =>
    if decide (r5 = 2) then
     if decide (r2.2 = 0) then
      if decide (r2.1 = [60, 77, 69, 84, 65, 32, 99, 104, 97, 114, 115, 101, 116, 61, 39, 85, 84, 70, 45, 49, 54, 39, 62, 226, 130, 172]) then
       some (decide (r3.2 = 40))
      else
       some false
     else
      some false
    else
     some false
   else
    some false
  else
   some false
 else
  some false
theorem law11_shown_ok {r : Bool} (hP : law11_shown = some r) : CallOK Tryz.prog 4 [] (.bool r) [] := by
 unfold law11_shown at hP
 refine co 51 [.tmp 0] Tryz.func4 ?_
 refine J_seq ?_
 refine J_region (by kernel_rfl) ?_
 try simp only [go_sem, Nat.reduceEqDiff, ↓reduceIte]
 refine hold2 (then_n ?_)
 refine J_seq ?_
 refine J_region (by kernel_rfl) ?_
 try simp only [go_sem, Nat.reduceEqDiff, ↓reduceIte]
 obtain ⟨r1, hr1, hP⟩ := bind_cases hP
 refine call_ok [.str [108, 97, 116, 105, 110, 49], .view 1 (List.map encB [(bC 239), (bC 187), (bC 191), (bC 65)])] (sniff_Pick_ok hr1) ⟨argR_m false rfl, argR_m false (by simp only [arg, go_sem, Nat.reduceEqDiff, ↓reduceIte]), trivial⟩ ?_
 try simp only [go_sem, Nat.reduceEqDiff, ↓reduceIte]
 refine hold2 (then_n ?_)
 refine J_seq ?_
 refine J_region (by kernel_rfl) ?_
 try simp only [go_sem, Nat.reduceEqDiff, ↓reduceIte, Nat.reduceAdd, Nat.reduceSub, Nat.reduceLT, Nat.reduceMul, reduceCtorEq, Int.reduceToNat, Int.reduceLE, Int.reduceLT, Nat.reduceLeDiff]
 obtain ⟨r2, hr2, hP⟩ := bind_cases hP
 refine call_ok [.str [], .view 1 (List.map encB [(bC 60), (bC 77), (bC 69), (bC 84), (bC 65), (bC 32), (bC 99), (bC 104), (bC 97), (bC 114), (bC 115), (bC 101), (bC 116), (bC 61), (bC 39), (bC 85), (bC 84), (bC 70), (bC 45), (bC 49), (bC 54), (bC 39), (bC 62), (bC 226), (bC 130), (bC 172)])] (sniff_Decode_ok hr2) ⟨argR_m false rfl, argR_m false (by simp only [arg, go_sem, Nat.reduceEqDiff, ↓reduceIte]), trivial⟩ ?_
 try simp only [go_sem, Nat.reduceEqDiff, ↓reduceIte]
 refine hold2 (then_n ?_)
 refine J_seq ?_
 refine J_region (by kernel_rfl) ?_
 try simp only [go_sem, Nat.reduceEqDiff, ↓reduceIte]
 obtain ⟨r3, hr3, hP⟩ := bind_cases hP
 refine call_ok [.str [117, 116, 102, 45, 49, 54], .view 1 (List.map encB [])] (sniff_Decode_ok hr3) ⟨argR_m false rfl, argR_nil, trivial⟩ ?_
 try simp only [go_sem, Nat.reduceEqDiff, ↓reduceIte]
 refine hold2 (then_n ?_)
 refine J_seq ?_
 refine J_region (by kernel_rfl) ?_
 try simp only [go_sem, Nat.reduceEqDiff, ↓reduceIte]
 rcases ite_cases hP with ⟨hc, hP⟩ | ⟨hc, hP⟩
 ·refine guard_is hc ?_
  try simp only [go_sem, Nat.reduceEqDiff, ↓reduceIte]
  rcases ite_cases hP with ⟨hc, hP⟩ | ⟨hc, hP⟩
  ·refine guard_is hc ?_
   try simp only [go_sem, Nat.reduceEqDiff, ↓reduceIte]
   obtain ⟨r4, hr4, hP⟩ := bind_cases hP
   refine call_ok [.str [97, 59, 32, 99, 104, 97, 114, 115, 101, 116, 32, 61, 32, 34, 117, 116, 102, 45, 56, 34]] (sniff_Content_ok hr4) ⟨argR_m false rfl, trivial⟩ ?_
   try simp only [go_sem, Nat.reduceEqDiff, ↓reduceIte]
   rcases ite_cases hP with ⟨hc, hP⟩ | ⟨hc, hP⟩
   ·refine guard_is hc ?_
    try simp only [go_sem, Nat.reduceEqDiff, ↓reduceIte, Nat.reduceAdd, Nat.reduceSub, Nat.reduceLT, Nat.reduceMul, reduceCtorEq, Int.reduceToNat, Int.reduceLE, Int.reduceLT, Nat.reduceLeDiff]
    obtain ⟨r5, hr5, hP⟩ := bind_cases hP
    refine call_ok [.view 1 (List.map encB [(bC 60), (bC 33), (bC 45), (bC 45), (bC 32), (bC 60), (bC 109), (bC 101), (bC 116), (bC 97), (bC 32), (bC 99), (bC 104), (bC 97), (bC 114), (bC 115), (bC 101), (bC 116), (bC 61), (bC 117), (bC 116), (bC 102), (bC 45), (bC 56), (bC 62), (bC 32), (bC 45), (bC 45), (bC 62), (bC 60), (bC 109), (bC 101), (bC 116), (bC 97), (bC 32), (bC 99), (bC 104), (bC 97), (bC 114), (bC 115), (bC 101), (bC 116), (bC 61), (bC 108), (bC 97), (bC 116), (bC 105), (bC 110), (bC 49), (bC 62)])] (sniff_Prescan_ok hr5) ⟨argR_m false (by simp only [arg, go_sem, Nat.reduceEqDiff, ↓reduceIte]), trivial⟩ ?_
    try simp only [go_sem, Nat.reduceEqDiff, ↓reduceIte]
    rcases ite_cases hP with ⟨hc, hP⟩ | ⟨hc, hP⟩
    ·refine guard_is hc ?_
     try simp only [go_sem, Nat.reduceEqDiff, ↓reduceIte]
     rcases ite_cases hP with ⟨hc, hP⟩ | ⟨hc, hP⟩
     ·refine guard_is hc ?_
      try simp only [go_sem, Nat.reduceEqDiff, ↓reduceIte]
      rcases ite_cases hP with ⟨hc, hP⟩ | ⟨hc, hP⟩
      ·refine guard_is hc ?_
       try simp only [go_sem, Nat.reduceEqDiff, ↓reduceIte]
       refine hold2 (then_n ?_)
       refine J_ret (fin_ret ?_)
       obtain rfl := Option.some.inj hP
       try simp only [go_sem, Nat.reduceEqDiff, ↓reduceIte]
       exact fo []
      ·refine guard_not hc ?_
       try simp only [go_sem, Nat.reduceEqDiff, ↓reduceIte]
       refine hold2 (then_n ?_)
       refine J_ret (fin_ret ?_)
       obtain rfl := Option.some.inj hP
       try simp only [go_sem, Nat.reduceEqDiff, ↓reduceIte]
       exact fo []
     ·refine guard_not hc ?_
      try simp only [go_sem, Nat.reduceEqDiff, ↓reduceIte]
      refine hold2 (then_n ?_)
      refine J_ret (fin_ret ?_)
      obtain rfl := Option.some.inj hP
      try simp only [go_sem, Nat.reduceEqDiff, ↓reduceIte]
      exact fo []
    ·refine guard_not hc ?_
     try simp only [go_sem, Nat.reduceEqDiff, ↓reduceIte]
     refine hold2 (then_n ?_)
     refine J_ret (fin_ret ?_)
     obtain rfl := Option.some.inj hP
     try simp only [go_sem, Nat.reduceEqDiff, ↓reduceIte]
     exact fo []
   ·refine guard_not hc ?_
    try simp only [go_sem, Nat.reduceEqDiff, ↓reduceIte]
    refine hold2 (then_n ?_)
    refine J_ret (fin_ret ?_)
    obtain rfl := Option.some.inj hP
    try simp only [go_sem, Nat.reduceEqDiff, ↓reduceIte]
    exact fo []
  ·refine guard_not hc ?_
   try simp only [go_sem, Nat.reduceEqDiff, ↓reduceIte]
   refine hold2 (then_n ?_)
   refine J_ret (fin_ret ?_)
   obtain rfl := Option.some.inj hP
   try simp only [go_sem, Nat.reduceEqDiff, ↓reduceIte]
   exact fo []
 ·refine guard_not hc ?_
  try simp only [go_sem, Nat.reduceEqDiff, ↓reduceIte]
  refine hold2 (then_n ?_)
  refine J_ret (fin_ret ?_)
  obtain rfl := Option.some.inj hP
  try simp only [go_sem, Nat.reduceEqDiff, ↓reduceIte]
  exact fo []
end Go.Proofs.YtecpgelhhbbjmaaGreatDoor
