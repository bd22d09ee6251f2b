/- Functions of the program, and pure ones that go the same ways: that the program's return what these compute. -/
import Derived.Test.YtecpgelhhbbjmaaDoorGI
import Derived.Test.YtecpgelhhbbjmaaDoorAvY
import Derived.Test.YtecpgelhhbbjmaaDoorAvPj
namespace Go.Proofs.YtecpgelhhbbjmaaDoor
open Go.Av
set_option linter.unusedVariables false
set_option linter.unusedSimpArgs false
/-- colander/colanderlaw11.SniffMeta -/
def law11_SniffMeta (ahead1 : List UInt8) (which2 : Int) (label3 : Int) (quote4 : Int) (noise5 : Int) : Option (Bool) :=
  (law11_shown).bind fun r6 =>
  (ref09_Labels (iadd .i64 1 (iand .i64 which2 1))).bind fun r7 =>
  (chk (decide (((List.length r7 : Nat) : Int) ≠ 0))).bind fun _ =>
  (ixL r7 (irem (iand .i64 label3 63) ((List.length r7 : Nat) : Int))).bind fun x9 =>
  (ixL [[], [34], [39], [34]] (iand .i64 quote4 3)).bind fun x10 =>
  (law11_tame ahead1).bind fun r11 =>
  (show Option ((List UInt8)) from
    if decide (800 < (List.length r11 : Int)) then
      (slL r11 0 800).bind fun s14 =>
      some s14
    else
      some r11).bind fun j15 =>
    (ixL [[], [60, 112, 62], [60, 33, 45, 45, 32, 60, 109, 101, 116, 97, 32, 99, 104, 97, 114, 115, 101, 116, 61, 117, 116, 102, 45, 49, 54, 108, 101, 62, 32, 45, 45, 62], [60, 47, 112, 47, 62], [60, 109, 101, 116, 97, 32, 99, 104, 97, 114, 115, 101, 116, 61, 110, 111, 110, 101, 62], [60, 33, 100, 111, 99, 116, 121, 112, 101, 32, 104, 116, 109, 108, 62], [60, 98, 32, 116, 105, 116, 108, 101, 61, 39, 60, 109, 101, 116, 97, 32, 99, 104, 97, 114, 115, 101, 116, 61, 108, 97, 116, 105, 110, 49, 62, 39, 62], [60, 63, 120, 32, 99, 104, 97, 114, 115, 101, 116, 61, 117, 116, 102, 45, 56, 63, 62]] (iand .i64 noise5 7)).bind fun x16 =>
    (szC (List.length (j15 ++ x16))).bind fun _ =>
    (szC (List.length ((j15 ++ x16) ++ [60, 77, 101, 84, 97, 32, 110, 97, 109, 101, 61, 120, 32, 99, 104, 97, 114, 115, 101, 116, 32, 61, 32]))).bind fun _ =>
    (szC (List.length (((j15 ++ x16) ++ [60, 77, 101, 84, 97, 32, 110, 97, 109, 101, 61, 120, 32, 99, 104, 97, 114, 115, 101, 116, 32, 61, 32]) ++ x10))).bind fun _ =>
    (szC (List.length ((((j15 ++ x16) ++ [60, 77, 101, 84, 97, 32, 110, 97, 109, 101, 61, 120, 32, 99, 104, 97, 114, 115, 101, 116, 32, 61, 32]) ++ x10) ++ x9))).bind fun _ =>
    (szC (List.length (((((j15 ++ x16) ++ [60, 77, 101, 84, 97, 32, 110, 97, 109, 101, 61, 120, 32, 99, 104, 97, 114, 115, 101, 116, 32, 61, 32]) ++ x10) ++ x9) ++ x10))).bind fun _ =>
    (szC (List.length ((((((j15 ++ x16) ++ [60, 77, 101, 84, 97, 32, 110, 97, 109, 101, 61, 120, 32, 99, 104, 97, 114, 115, 101, 116, 32, 61, 32]) ++ x10) ++ x9) ++ x10) ++ [32, 120, 62]))).bind fun _ =>
    (szC (List.length ((((((j15 ++ x16) ++ [60, 77, 101, 84, 97, 32, 110, 97, 109, 101, 61, 120, 32, 99, 104, 97, 114, 115, 101, 116, 32, 61, 32]) ++ x10) ++ x9) ++ x10) ++ [32, 120, 62]))).bind fun _ =>
    (sniff_Prescan ((((((j15 ++ x16) ++ [60, 77, 101, 84, 97, 32, 110, 97, 109, 101, 61, 120, 32, 99, 104, 97, 114, 115, 101, 116, 32, 61, 32]) ++ x10) ++ x9) ++ x10) ++ [32, 120, 62])).bind fun r24 =>
    (slL ((((((j15 ++ x16) ++ [60, 77, 101, 84, 97, 32, 110, 97, 109, 101, 61, 120, 32, 99, 104, 97, 114, 115, 101, 116, 32, 61, 32]) ++ x10) ++ x9) ++ x10) ++ [32, 120, 62]) 0 (isub .i64 (List.length ((((((j15 ++ x16) ++ [60, 77, 101, 84, 97, 32, 110, 97, 109, 101, 61, 120, 32, 99, 104, 97, 114, 115, 101, 116, 32, 61, 32]) ++ x10) ++ x9) ++ x10) ++ [32, 120, 62]) : Int) 1)).bind fun s25 =>
    (szC (List.length s25)).bind fun _ =>
    (sniff_Prescan s25).bind fun r27 =>
    if r6 then
      if decide (r24 = iadd .i64 1 (iand .i64 which2 1)) then
        some (decide (r27 = 0))
      else
        some false
    else
      some false
set_option maxRecDepth 100000 in
set_option maxHeartbeats 40000000 in
theorem law11_SniffMeta_ok {ahead1 : List UInt8} {which2 : Int} {label3 : Int} {quote4 : Int} {noise5 : Int} {r : Bool} (hP : law11_SniffMeta ahead1 which2 label3 quote4 noise5 = some r) : CallOK Tryd.prog 8 [.str ahead1, .int .i64 which2, .int .i64 label3, .int .i64 quote4, .int .i64 noise5] (.bool r) [] := by
  unfold law11_SniffMeta at hP
  refine co 85 [.tmp 10] Tryd.func8 ?_
  refine J_seq ?_
  refine J_region (by kernel_rfl) ?_
  (try simp only [go_sem, Nat.reduceEqDiff, ↓reduceIte])
  refine hold2 (then_n ?_)
  refine J_seq ?_
  refine J_region (by kernel_rfl) ?_
  (try simp only [go_sem, Nat.reduceEqDiff, ↓reduceIte])
  obtain ⟨r6, hr6, hP⟩ := bind_cases hP
  refine call_ok [] (law11_shown_ok hr6) trivial ?_
  (try simp only [go_sem, Nat.reduceEqDiff, ↓reduceIte])
  refine hold2 (then_n ?_)
  refine J_seq ?_
  refine J_region (by kernel_rfl) ?_
  (try simp only [go_sem, Nat.reduceEqDiff, ↓reduceIte])
  obtain ⟨r7, hr7, hP⟩ := bind_cases hP
  refine call_ok [.int .i64 (iadd .i64 1 (iand .i64 which2 1))] (ref09_Labels_ok hr7) ⟨argR_m false rfl, trivial⟩ ?_
  (try simp only [go_sem, Nat.reduceEqDiff, ↓reduceIte])
  refine hold2 (then_n ?_)
  refine J_seq ?_
  refine J_region (by kernel_rfl) ?_
  (try simp only [go_sem, Nat.reduceEqDiff, ↓reduceIte])
  obtain ⟨_, hz8, hP⟩ := bind_cases hP
  refine chk_of (chk_prop hz8) ?_
  (try simp only [go_sem, Nat.reduceEqDiff, ↓reduceIte])
  obtain ⟨x9, hx9, hP⟩ := bind_cases hP
  refine ixO_of hx9 ?_
  (try simp only [go_sem, Nat.reduceEqDiff, ↓reduceIte])
  refine getK_of (f := encS) hx9 ?_
  (try simp only [go_sem, Nat.reduceEqDiff, ↓reduceIte])
  refine hold2 (then_n ?_)
  refine J_seq ?_
  refine J_region (by kernel_rfl) ?_
  (try simp only [go_sem, Nat.reduceEqDiff, ↓reduceIte])
  refine hold2 (then_n ?_)
  refine J_seq ?_
  refine J_region (by kernel_rfl) ?_
  (try simp only [go_sem, Nat.reduceEqDiff, ↓reduceIte])
  obtain ⟨x10, hx10, hP⟩ := bind_cases hP
  refine ixO_of hx10 ?_
  (try simp only [go_sem, Nat.reduceEqDiff, ↓reduceIte])
  refine getK_of (f := encS) hx10 ?_
  (try simp only [go_sem, Nat.reduceEqDiff, ↓reduceIte])
  refine hold2 (then_n ?_)
  refine J_seq ?_
  refine J_region (by kernel_rfl) ?_
  (try simp only [go_sem, Nat.reduceEqDiff, ↓reduceIte])
  refine hold2 (then_n ?_)
  refine J_seq ?_
  refine J_region (by kernel_rfl) ?_
  (try simp only [go_sem, Nat.reduceEqDiff, ↓reduceIte])
  obtain ⟨r11, hr11, hP⟩ := bind_cases hP
  refine call_ok [.str ahead1] (law11_tame_ok hr11) ⟨argR_m false rfl, trivial⟩ ?_
  (try simp only [go_sem, Nat.reduceEqDiff, ↓reduceIte])
  refine hold2 (then_n ?_)
  obtain ⟨o13, hP, hQ13⟩ := bind_cases hP
  refine J_join (fun (s : (List UInt8)) => envL [(1, .int .i64 which2), (4, .int .i64 noise5), (11, .bool r6), (13, .str x9), (15, .str x10), (16, .own 0 0 0 (List.length [[], [60, 112, 62], [60, 33, 45, 45, 32, 60, 109, 101, 116, 97, 32, 99, 104, 97, 114, 115, 101, 116, 61, 117, 116, 102, 45, 49, 54, 108, 101, 62, 32, 45, 45, 62], [60, 47, 112, 47, 62], [60, 109, 101, 116, 97, 32, 99, 104, 97, 114, 115, 101, 116, 61, 110, 111, 110, 101, 62], [60, 33, 100, 111, 99, 116, 121, 112, 101, 32, 104, 116, 109, 108, 62], [60, 98, 32, 116, 105, 116, 108, 101, 61, 39, 60, 109, 101, 116, 97, 32, 99, 104, 97, 114, 115, 101, 116, 61, 108, 97, 116, 105, 110, 49, 62, 39, 62], [60, 63, 120, 32, 99, 104, 97, 114, 115, 101, 116, 61, 117, 116, 102, 45, 56, 63, 62]])), (17, .str s)]) (fun (s : (List UInt8)) => [.slice 0 9 1 (List.map encS [[], [60, 112, 62], [60, 33, 45, 45, 32, 60, 109, 101, 116, 97, 32, 99, 104, 97, 114, 115, 101, 116, 61, 117, 116, 102, 45, 49, 54, 108, 101, 62, 32, 45, 45, 62], [60, 47, 112, 47, 62], [60, 109, 101, 116, 97, 32, 99, 104, 97, 114, 115, 101, 116, 61, 110, 111, 110, 101, 62], [60, 33, 100, 111, 99, 116, 121, 112, 101, 32, 104, 116, 109, 108, 62], [60, 98, 32, 116, 105, 116, 108, 101, 61, 39, 60, 109, 101, 116, 97, 32, 99, 104, 97, 114, 115, 101, 116, 61, 108, 97, 116, 105, 110, 49, 62, 39, 62], [60, 63, 120, 32, 99, 104, 97, 114, 115, 101, 116, 61, 117, 116, 102, 45, 56, 63, 62]])]) (fun s => s = o13) ?_ ?_
  · clear hQ13
    refine J_seq ?_
    refine J_region (by kernel_rfl) ?_
    (try simp only [go_sem, Nat.reduceEqDiff, ↓reduceIte])
    refine hold2 (then_n ?_)
    refine J_condV rfl ?_
    (try simp only [go_sem, Nat.reduceEqDiff, ↓reduceIte])
    rcases ite_cases hP with ⟨hc, hP⟩ | ⟨hc, hP⟩
    · refine condV_t hc ?_
      refine J_region (by kernel_rfl) ?_
      (try simp only [go_sem, Nat.reduceEqDiff, ↓reduceIte])
      obtain ⟨s14, hs14, hP⟩ := bind_cases hP
      refine slS_of hs14 ?_
      (try simp only [go_sem, Nat.reduceEqDiff, ↓reduceIte])
      refine hold2 ?_
      exact join_n s14 (Option.some.inj hP) (so [2])
    · refine condV_f hc ?_
      refine J_skip ?_
      exact join_n r11 (Option.some.inj hP) (so [2])
  · intro j15 hs
    subst hs
    have hP := hQ13
    clear hQ13
    refine J_seq ?_
    refine J_region (by kernel_rfl) ?_
    (try simp only [go_sem, Nat.reduceEqDiff, ↓reduceIte])
    obtain ⟨x16, hx16, hP⟩ := bind_cases hP
    refine ixO_of hx16 ?_
    (try simp only [go_sem, Nat.reduceEqDiff, ↓reduceIte])
    refine getK_of (f := encS) hx16 ?_
    (try simp only [go_sem, Nat.reduceEqDiff, ↓reduceIte])
    obtain ⟨_, hz17, hP⟩ := bind_cases hP
    refine chk_of (by first | exact szC_63 hz17 | (have q := szC_63 hz17; simp only [List.length_append, List.length_cons, List.length_nil] at q ⊢; omega)) ?_
    (try simp only [go_sem, Nat.reduceEqDiff, ↓reduceIte])
    obtain ⟨_, hz18, hP⟩ := bind_cases hP
    refine chk_of (by first | exact szC_63 hz18 | (have q := szC_63 hz18; simp only [List.length_append, List.length_cons, List.length_nil] at q ⊢; omega)) ?_
    (try simp only [go_sem, Nat.reduceEqDiff, ↓reduceIte])
    obtain ⟨_, hz19, hP⟩ := bind_cases hP
    refine chk_of (by first | exact szC_63 hz19 | (have q := szC_63 hz19; simp only [List.length_append, List.length_cons, List.length_nil] at q ⊢; omega)) ?_
    (try simp only [go_sem, Nat.reduceEqDiff, ↓reduceIte])
    obtain ⟨_, hz20, hP⟩ := bind_cases hP
    refine chk_of (by first | exact szC_63 hz20 | (have q := szC_63 hz20; simp only [List.length_append, List.length_cons, List.length_nil] at q ⊢; omega)) ?_
    (try simp only [go_sem, Nat.reduceEqDiff, ↓reduceIte])
    obtain ⟨_, hz21, hP⟩ := bind_cases hP
    refine chk_of (by first | exact szC_63 hz21 | (have q := szC_63 hz21; simp only [List.length_append, List.length_cons, List.length_nil] at q ⊢; omega)) ?_
    (try simp only [go_sem, Nat.reduceEqDiff, ↓reduceIte])
    obtain ⟨_, hz22, hP⟩ := bind_cases hP
    refine chk_of (by first | exact szC_63 hz22 | (have q := szC_63 hz22; simp only [List.length_append, List.length_cons, List.length_nil] at q ⊢; omega)) ?_
    (try simp only [go_sem, Nat.reduceEqDiff, ↓reduceIte])
    refine hold2 (then_n ?_)
    refine J_seq ?_
    refine J_region (by kernel_rfl) ?_
    (try simp only [go_sem, Nat.reduceEqDiff, ↓reduceIte])
    obtain ⟨_, hz23, hP⟩ := bind_cases hP
    refine chk_of (szC_63 hz23) ?_
    (try simp only [go_sem, Nat.reduceEqDiff, ↓reduceIte])
    obtain ⟨r24, hr24, hP⟩ := bind_cases hP
    refine call_ok [.view 1 (List.map encB ((((((j15 ++ x16) ++ [60, 77, 101, 84, 97, 32, 110, 97, 109, 101, 61, 120, 32, 99, 104, 97, 114, 115, 101, 116, 32, 61, 32]) ++ x10) ++ x9) ++ x10) ++ [32, 120, 62]))] (sniff_Prescan_ok hr24) ⟨argR_m false (by simp only [arg, go_sem, Nat.reduceEqDiff, ↓reduceIte]), trivial⟩ ?_
    (try simp only [go_sem, Nat.reduceEqDiff, ↓reduceIte])
    refine hold2 (then_n ?_)
    refine J_seq ?_
    refine J_region (by kernel_rfl) ?_
    (try simp only [go_sem, Nat.reduceEqDiff, ↓reduceIte])
    obtain ⟨s25, hs25, hP⟩ := bind_cases hP
    refine slS_of hs25 ?_
    (try simp only [go_sem, Nat.reduceEqDiff, ↓reduceIte])
    obtain ⟨_, hz26, hP⟩ := bind_cases hP
    refine chk_of (szC_63 hz26) ?_
    (try simp only [go_sem, Nat.reduceEqDiff, ↓reduceIte])
    obtain ⟨r27, hr27, hP⟩ := bind_cases hP
    refine call_ok [.view 1 (List.map encB s25)] (sniff_Prescan_ok hr27) ⟨argR_m false (by simp only [arg, go_sem, Nat.reduceEqDiff, ↓reduceIte]), trivial⟩ ?_
    (try simp only [go_sem, Nat.reduceEqDiff, ↓reduceIte])
    refine hold2 (then_n ?_)
    refine J_seq ?_
    refine J_region (by kernel_rfl) ?_
    (try simp only [go_sem, Nat.reduceEqDiff, ↓reduceIte])
    rcases ite_cases hP with ⟨hc, hP⟩ | ⟨hc, hP⟩
    · refine guard_is hc ?_
      (try simp only [go_sem, Nat.reduceEqDiff, ↓reduceIte])
      rcases ite_cases hP with ⟨hc, hP⟩ | ⟨hc, hP⟩
      · refine guard_is hc ?_
        (try simp only [go_sem, Nat.reduceEqDiff, ↓reduceIte])
        refine hold2 (then_n ?_)
        refine J_ret (fin_ret ?_)
        obtain rfl := Option.some.inj hP
        (try simp only [go_sem, Nat.reduceEqDiff, ↓reduceIte])
        exact fo []
      · refine guard_not hc ?_
        (try simp only [go_sem, Nat.reduceEqDiff, ↓reduceIte])
        refine hold2 (then_n ?_)
        refine J_ret (fin_ret ?_)
        obtain rfl := Option.some.inj hP
        (try simp only [go_sem, Nat.reduceEqDiff, ↓reduceIte])
        exact fo []
    · refine guard_not hc ?_
      (try simp only [go_sem, Nat.reduceEqDiff, ↓reduceIte])
      refine hold2 (then_n ?_)
      refine J_ret (fin_ret ?_)
      obtain rfl := Option.some.inj hP
      (try simp only [go_sem, Nat.reduceEqDiff, ↓reduceIte])
      exact fo []
end Go.Proofs.YtecpgelhhbbjmaaDoor
