/- Functions of the program, and pure ones that go the same ways: that the program's return what these compute. -/
import Derived.Test.YtgngopfpnidbaaaGreatDoorGI
import Derived.Test.YtgngopfpnidbaaaGreatDoorAvY
import Derived.Test.YtgngopfpnidbaaaGreatDoorAvJ
namespace Go.Proofs.YtgngopfpnidbaaaGreatDoor
open Go.Av
set_option linter.unusedVariables false
set_option linter.unusedSimpArgs false
/-- colander/colanderref21.hop -/
def ref21_hop_L20 (r2 : (List (List UInt8)) × Int) : Nat → Int → (List (List UInt8)) → Option ((List (List UInt8)))
  | 0, _, _ => none
  | k16 + 1, i14, l15 =>
    if decide (i14 < ((List.length r2.1 : Nat) : Int)) then
      (ixL r2.1 i14).bind fun x21 =>
      (ref03_Same x21 [104, 111, 115, 116]).bind fun r22 =>
      if !r22 then
        (ixL r2.1 i14).bind fun x23 =>
        (szC (List.length (l15 ++ [x23] : List (List UInt8)))).bind fun _ =>
        ref21_hop_L20 r2 k16 (iadd .i64 i14 1) (l15 ++ [x23])
      else
        ref21_hop_L20 r2 k16 (iadd .i64 i14 1) l15
    else
      some l15
def ref21_hop (l1 : List ((List UInt8) × (List UInt8))) : Option ((List (List UInt8))) :=
  (ref04_Members l1 [99, 111, 110, 110, 101, 99, 116, 105, 111, 110]).bind fun r2 =>
  if !decide (r2.2 = 0) then
    some [[67, 111, 110, 110, 101, 99, 116, 105, 111, 110], [75, 101, 101, 112, 45, 65, 108, 105, 118, 101], [80, 114, 111, 120, 121, 45, 67, 111, 110, 110, 101, 99, 116, 105, 111, 110], [84, 69], [84, 114, 97, 105, 108, 101, 114], [84, 114, 97, 110, 115, 102, 101, 114, 45, 69, 110, 99, 111, 100, 105, 110, 103], [85, 112, 103, 114, 97, 100, 101], [67, 111, 110, 116, 101, 110, 116, 45, 76, 101, 110, 103, 116, 104]]
  else
    (ref21_hop_L20 r2 1099511627776 0 [[67, 111, 110, 110, 101, 99, 116, 105, 111, 110], [75, 101, 101, 112, 45, 65, 108, 105, 118, 101], [80, 114, 111, 120, 121, 45, 67, 111, 110, 110, 101, 99, 116, 105, 111, 110], [84, 69], [84, 114, 97, 105, 108, 101, 114], [84, 114, 97, 110, 115, 102, 101, 114, 45, 69, 110, 99, 111, 100, 105, 110, 103], [85, 112, 103, 114, 97, 100, 101], [67, 111, 110, 116, 101, 110, 116, 45, 76, 101, 110, 103, 116, 104]]).bind fun j26 =>
      some j26
set_option maxRecDepth 100000 in
set_option maxHeartbeats 40000000 in
theorem ref21_hop_ok {l1 : List ((List UInt8) × (List UInt8))} {r : (List (List UInt8))} (hP : ref21_hop l1 = some r) : CallOK Tryz.prog 45 [.view 2 (List.map enc_api_Field l1)] (.own 0 0 0 (List.length r)) [.slice 0 9 1 (List.map encS r)] := by
  unfold ref21_hop at hP
  refine co 38 [.tmp 2] Tryz.func45 ?_
  refine J_seq ?_
  refine J_region (by kernel_rfl) ?_
  (try simp only [go_sem, Nat.reduceEqDiff, ↓reduceIte])
  refine hold2 (then_n ?_)
  refine J_seq ?_
  refine J_region (by kernel_rfl) ?_
  (try simp only [go_sem, Nat.reduceEqDiff, ↓reduceIte])
  refine hold2 (then_n ?_)
  refine J_seq ?_
  refine J_region (by kernel_rfl) ?_
  (try simp only [go_sem, Nat.reduceEqDiff, ↓reduceIte])
  obtain ⟨r2, hr2, hP⟩ := bind_cases hP
  refine call_ok [.view 2 (List.map enc_api_Field l1), .str [99, 111, 110, 110, 101, 99, 116, 105, 111, 110]] (ref04_Members_ok hr2) ⟨argR_m false rfl, argR_m false rfl, trivial⟩ ?_
  (try simp only [go_sem, Nat.reduceEqDiff, ↓reduceIte])
  refine hold2 (then_n ?_)
  refine J_seq ?_
  refine J_seq ?_
  refine J_region (by kernel_rfl) ?_
  (try simp only [go_sem, Nat.reduceEqDiff, ↓reduceIte])
  refine hold2 (then_n ?_)
  refine J_condV rfl ?_
  (try simp only [go_sem, Nat.reduceEqDiff, ↓reduceIte])
  rcases ite_cases hP with ⟨hc, hP⟩ | ⟨hc, hP⟩
  · refine condV_t hc ?_
    refine J_seq ?_
    refine J_region (by kernel_rfl) ?_
    (try simp only [go_sem, Nat.reduceEqDiff, ↓reduceIte])
    refine hold2 (then_n ?_)
    refine J_ret (then_ret (fin_ret ?_))
    obtain rfl := Option.some.inj hP
    (try simp only [go_sem, Nat.reduceEqDiff, ↓reduceIte])
    exact fo [1]
  · refine condV_f hc ?_
    refine J_skip (then_n ?_)
    refine J_seq ?_
    refine J_seq ?_
    refine J_region (by kernel_rfl) ?_
    (try simp only [go_sem, Nat.reduceEqDiff, ↓reduceIte])
    refine hold2 (then_n ?_)
    obtain ⟨o25, hP, hQ20⟩ := bind_cases hP
    refine J_joinK0 (fun (s : (List (List UInt8))) => envL [(3, .own 0 0 0 (List.length s))]) (fun (s : (List (List UInt8))) => [.slice 0 9 1 (List.map encS s)]) (fun s => s = o25) ?_ ?_
    · clear hQ20
      refine J_block ?_
      refine J_loop (σ := Nat × Int × (List (List UInt8))) (fun (s : Nat × Int × (List (List UInt8))) => envL [(3, .own 0 0 0 (List.length s.2.2)), (4, .own 1 0 0 (List.length r2.1)), (6, .int .i64 s.2.1)]) (fun (s : Nat × Int × (List (List UInt8))) => [.slice 0 9 1 (List.map encS s.2.2), .slice 0 9 1 (List.map encS r2.1)]) (fun s => ref21_hop_L20 r2 s.1 s.2.1 s.2.2 = some o25) (fun s => s.1) (1099511627776, 0, [[67, 111, 110, 110, 101, 99, 116, 105, 111, 110], [75, 101, 101, 112, 45, 65, 108, 105, 118, 101], [80, 114, 111, 120, 121, 45, 67, 111, 110, 110, 101, 99, 116, 105, 111, 110], [84, 69], [84, 114, 97, 105, 108, 101, 114], [84, 114, 97, 110, 115, 102, 101, 114, 45, 69, 110, 99, 111, 100, 105, 110, 103], [85, 112, 103, 114, 97, 100, 101], [67, 111, 110, 116, 101, 110, 116, 45, 76, 101, 110, 103, 116, 104]]) hP (so [1, 2]) ?_
      rintro ⟨k16, i14, l15⟩ hP
      dsimp only at hP ⊢
      cases k16 with
      | zero => simp [ref21_hop_L20] at hP
      | succ k16 =>
        simp only [ref21_hop_L20] at hP
        refine J_seq ?_
        refine J_seq ?_
        refine J_region (by kernel_rfl) ?_
        (try simp only [go_sem, Nat.reduceEqDiff, ↓reduceIte])
        refine hold2 (then_n ?_)
        refine J_condV rfl ?_
        (try simp only [go_sem, Nat.reduceEqDiff, ↓reduceIte])
        rcases ite_cases hP with ⟨hc, hP⟩ | ⟨hc, hP⟩
        · refine condV_t hc ?_
          refine J_skip (then_n ?_)
          refine J_seq ?_
          refine J_block ?_
          refine J_seq ?_
          refine J_region (by kernel_rfl) ?_
          (try simp only [go_sem, Nat.reduceEqDiff, ↓reduceIte])
          obtain ⟨x21, hx21, hP⟩ := bind_cases hP
          refine ixO_of hx21 ?_
          (try simp only [go_sem, Nat.reduceEqDiff, ↓reduceIte])
          refine getK_of (f := encS) hx21 ?_
          (try simp only [go_sem, Nat.reduceEqDiff, ↓reduceIte])
          obtain ⟨r22, hr22, hP⟩ := bind_cases hP
          refine call_ok [.str x21, .str [104, 111, 115, 116]] (ref03_Same_ok hr22) ⟨argR_m false rfl, argR_m false rfl, trivial⟩ ?_
          (try simp only [go_sem, Nat.reduceEqDiff, ↓reduceIte])
          refine hold2 (then_n ?_)
          refine J_seq ?_
          refine J_region (by kernel_rfl) ?_
          (try simp only [go_sem, Nat.reduceEqDiff, ↓reduceIte])
          refine hold2 (then_n ?_)
          refine J_condV rfl ?_
          (try simp only [go_sem, Nat.reduceEqDiff, ↓reduceIte])
          rcases ite_cases hP with ⟨hc, hP⟩ | ⟨hc, hP⟩
          · refine condV_t hc ?_
            refine J_region (by kernel_rfl) ?_
            (try simp only [go_sem, Nat.reduceEqDiff, ↓reduceIte])
            obtain ⟨x23, hx23, hP⟩ := bind_cases hP
            refine ixO_of hx23 ?_
            (try simp only [go_sem, Nat.reduceEqDiff, ↓reduceIte])
            refine getK_of (f := encS) hx23 ?_
            (try simp only [go_sem, Nat.reduceEqDiff, ↓reduceIte])
            obtain ⟨_, hz24, hP⟩ := bind_cases hP
            refine app_own (f := encS) (l15 : List (List UInt8)) ([x23] : List (List UInt8)) rfl tyS_61 (by decide) (by simp only [go_sem, Nat.reduceEqDiff, ↓reduceIte]; first | done | rfl | exact ⟨rfl, rfl⟩) hz24 ?_
            (try simp only [go_sem, Nat.reduceEqDiff, ↓reduceIte])
            refine hold2 (block_n (then_n ?_))
            refine J_region (by kernel_rfl) ?_
            (try simp only [go_sem, Nat.reduceEqDiff, ↓reduceIte])
            refine hold2 ?_
            exact loop_n (k16, iadd .i64 i14 1, l15 ++ [x23]) hP (Nat.lt_succ_self _) (so [0, 1])
          · refine condV_f hc ?_
            refine J_skip (block_n (then_n ?_))
            refine J_region (by kernel_rfl) ?_
            (try simp only [go_sem, Nat.reduceEqDiff, ↓reduceIte])
            refine hold2 ?_
            exact loop_n (k16, iadd .i64 i14 1, l15) hP (Nat.lt_succ_self _) (so [0, 1])
        · refine condV_f hc ?_
          refine J_exit (then_exit (loop_exit (block_eq ?_)))
          exact join_n l15 (Option.some.inj hP) (so [0])
    · intro j26 hs
      subst hs
      have hP := hQ20
      clear hQ20
      refine then_n ?_
      refine J_seq ?_
      refine J_region (by kernel_rfl) ?_
      (try simp only [go_sem, Nat.reduceEqDiff, ↓reduceIte])
      refine hold2 (then_n ?_)
      refine J_ret (fin_ret ?_)
      obtain rfl := Option.some.inj hP
      (try simp only [go_sem, Nat.reduceEqDiff, ↓reduceIte])
      exact fo [0]
/-- colander/colanderref21.Page -/
def ref21_Page (p1 : Int × (List UInt8) × (List ((List UInt8) × (List UInt8)))) (length2 : Int) (last3 : Bool) : Option ((Int × (List UInt8) × (List ((List UInt8) × (List UInt8))))) :=
  (show Option ((List ((List UInt8) × (List UInt8)))) from
    (ref21_hop p1.2.2).bind fun r8 =>
    (szC (List.length (r8 ++ [[67, 111, 110, 116, 101, 110, 116, 45, 84, 121, 112, 101], [67, 111, 110, 116, 101, 110, 116, 45, 69, 110, 99, 111, 100, 105, 110, 103], [67, 111, 110, 116, 101, 110, 116, 45, 83, 101, 99, 117, 114, 105, 116, 121, 45, 80, 111, 108, 105, 99, 121], [88, 45, 67, 111, 110, 116, 101, 110, 116, 45, 84, 121, 112, 101, 45, 79, 112, 116, 105, 111, 110, 115], [69, 84, 97, 103], [67, 111, 110, 116, 101, 110, 116, 45, 77, 68, 53], [65, 99, 99, 101, 112, 116, 45, 82, 97, 110, 103, 101, 115], [67, 111, 110, 116, 101, 110, 116, 45, 82, 97, 110, 103, 101], [82, 101, 102, 114, 101, 115, 104], [76, 105, 110, 107]] : List (List UInt8)))).bind fun _ =>
    (ref04_Without p1.2.2 (r8 ++ [[67, 111, 110, 116, 101, 110, 116, 45, 84, 121, 112, 101], [67, 111, 110, 116, 101, 110, 116, 45, 69, 110, 99, 111, 100, 105, 110, 103], [67, 111, 110, 116, 101, 110, 116, 45, 83, 101, 99, 117, 114, 105, 116, 121, 45, 80, 111, 108, 105, 99, 121], [88, 45, 67, 111, 110, 116, 101, 110, 116, 45, 84, 121, 112, 101, 45, 79, 112, 116, 105, 111, 110, 115], [69, 84, 97, 103], [67, 111, 110, 116, 101, 110, 116, 45, 77, 68, 53], [65, 99, 99, 101, 112, 116, 45, 82, 97, 110, 103, 101, 115], [67, 111, 110, 116, 101, 110, 116, 45, 82, 97, 110, 103, 101], [82, 101, 102, 114, 101, 115, 104], [76, 105, 110, 107]])).bind fun r10 =>
    some r10).bind fun j11 =>
    (szC (List.length (j11 ++ [([67, 111, 110, 116, 101, 110, 116, 45, 84, 121, 112, 101], [116, 101, 120, 116, 47, 104, 116, 109, 108, 59, 32, 99, 104, 97, 114, 115, 101, 116, 61, 117, 116, 102, 45, 56]), ([67, 111, 110, 116, 101, 110, 116, 45, 83, 101, 99, 117, 114, 105, 116, 121, 45, 80, 111, 108, 105, 99, 121], [100, 101, 102, 97, 117, 108, 116, 45, 115, 114, 99, 32, 39, 110, 111, 110, 101, 39, 59, 32, 98, 97, 115, 101, 45, 117, 114, 105, 32, 39, 110, 111, 110, 101, 39, 59, 32, 102, 111, 114, 109, 45, 97, 99, 116, 105, 111, 110, 32, 39, 110, 111, 110, 101, 39, 59, 32, 115, 97, 110, 100, 98, 111, 120]), ([88, 45, 67, 111, 110, 116, 101, 110, 116, 45, 84, 121, 112, 101, 45, 79, 112, 116, 105, 111, 110, 115], [110, 111, 115, 110, 105, 102, 102])] : List ((List UInt8) × (List UInt8))))).bind fun _ =>
    (show Option ((List ((List UInt8) × (List UInt8)))) from
      if decide (0 ≤ length2) then
        (ref02_Digits length2).bind fun r16 =>
        (szC (List.length ((j11 ++ [([67, 111, 110, 116, 101, 110, 116, 45, 84, 121, 112, 101], [116, 101, 120, 116, 47, 104, 116, 109, 108, 59, 32, 99, 104, 97, 114, 115, 101, 116, 61, 117, 116, 102, 45, 56]), ([67, 111, 110, 116, 101, 110, 116, 45, 83, 101, 99, 117, 114, 105, 116, 121, 45, 80, 111, 108, 105, 99, 121], [100, 101, 102, 97, 117, 108, 116, 45, 115, 114, 99, 32, 39, 110, 111, 110, 101, 39, 59, 32, 98, 97, 115, 101, 45, 117, 114, 105, 32, 39, 110, 111, 110, 101, 39, 59, 32, 102, 111, 114, 109, 45, 97, 99, 116, 105, 111, 110, 32, 39, 110, 111, 110, 101, 39, 59, 32, 115, 97, 110, 100, 98, 111, 120]), ([88, 45, 67, 111, 110, 116, 101, 110, 116, 45, 84, 121, 112, 101, 45, 79, 112, 116, 105, 111, 110, 115], [110, 111, 115, 110, 105, 102, 102])]) ++ [([67, 111, 110, 116, 101, 110, 116, 45, 76, 101, 110, 103, 116, 104], r16)] : List ((List UInt8) × (List UInt8))))).bind fun _ =>
        some ((j11 ++ [([67, 111, 110, 116, 101, 110, 116, 45, 84, 121, 112, 101], [116, 101, 120, 116, 47, 104, 116, 109, 108, 59, 32, 99, 104, 97, 114, 115, 101, 116, 61, 117, 116, 102, 45, 56]), ([67, 111, 110, 116, 101, 110, 116, 45, 83, 101, 99, 117, 114, 105, 116, 121, 45, 80, 111, 108, 105, 99, 121], [100, 101, 102, 97, 117, 108, 116, 45, 115, 114, 99, 32, 39, 110, 111, 110, 101, 39, 59, 32, 98, 97, 115, 101, 45, 117, 114, 105, 32, 39, 110, 111, 110, 101, 39, 59, 32, 102, 111, 114, 109, 45, 97, 99, 116, 105, 111, 110, 32, 39, 110, 111, 110, 101, 39, 59, 32, 115, 97, 110, 100, 98, 111, 120]), ([88, 45, 67, 111, 110, 116, 101, 110, 116, 45, 84, 121, 112, 101, 45, 79, 112, 116, 105, 111, 110, 115], [110, 111, 115, 110, 105, 102, 102])]) ++ [([67, 111, 110, 116, 101, 110, 116, 45, 76, 101, 110, 103, 116, 104], r16)])
      else
        some (j11 ++ [([67, 111, 110, 116, 101, 110, 116, 45, 84, 121, 112, 101], [116, 101, 120, 116, 47, 104, 116, 109, 108, 59, 32, 99, 104, 97, 114, 115, 101, 116, 61, 117, 116, 102, 45, 56]), ([67, 111, 110, 116, 101, 110, 116, 45, 83, 101, 99, 117, 114, 105, 116, 121, 45, 80, 111, 108, 105, 99, 121], [100, 101, 102, 97, 117, 108, 116, 45, 115, 114, 99, 32, 39, 110, 111, 110, 101, 39, 59, 32, 98, 97, 115, 101, 45, 117, 114, 105, 32, 39, 110, 111, 110, 101, 39, 59, 32, 102, 111, 114, 109, 45, 97, 99, 116, 105, 111, 110, 32, 39, 110, 111, 110, 101, 39, 59, 32, 115, 97, 110, 100, 98, 111, 120]), ([88, 45, 67, 111, 110, 116, 101, 110, 116, 45, 84, 121, 112, 101, 45, 79, 112, 116, 105, 111, 110, 115], [110, 111, 115, 110, 105, 102, 102])])).bind fun j18 =>
      (show Option ((List ((List UInt8) × (List UInt8)))) from
        if last3 then
          (szC (List.length (j18 ++ [([67, 111, 110, 110, 101, 99, 116, 105, 111, 110], [99, 108, 111, 115, 101])] : List ((List UInt8) × (List UInt8))))).bind fun _ =>
          some (j18 ++ [([67, 111, 110, 110, 101, 99, 116, 105, 111, 110], [99, 108, 111, 115, 101])])
        else
          some j18).bind fun j22 =>
        some (p1.1, p1.2.1, j22)
set_option maxRecDepth 100000 in
set_option maxHeartbeats 40000000 in
theorem ref21_Page_ok {p1 : Int × (List UInt8) × (List ((List UInt8) × (List UInt8)))} {length2 : Int} {last3 : Bool} {r : (Int × (List UInt8) × (List ((List UInt8) × (List UInt8))))} (hP : ref21_Page p1 length2 last3 = some r) : CallOK Tryz.prog 21 [.agg [.int .i64 p1.1, .str p1.2.1, .view 2 (List.map enc_api_Field p1.2.2)], .int .i64 length2, .bool last3] (.agg [.int .i64 r.1, .str r.2.1, .own 0 0 0 (List.length r.2.2)]) [.slice 0 37 2 (List.map enc_api_Field r.2.2)] := by
  unfold ref21_Page at hP
  refine co (hvo := (by first | (intro o ho; simp at ho; done) | (simp [vfO, AV.vf, AV.vfL, encB, encI, encS, encO, enc_api_Field, enc_api_Body, enc_api_Param, enc_api_Fault, enc_head_text]; done) | (simp [vfO, AV.vf, AV.vfL, encB, encI, encS, encO, enc_api_Field, enc_api_Body, enc_api_Param, enc_api_Fault, enc_head_text]; intros; subst_vars; simp [AV.vf, AV.vfL]))) 41 [.cell 6 24] Tryz.func21 ?_
  refine J_seq ?_
  refine J_region (by kernel_rfl) ?_
  (try simp only [go_sem, Nat.reduceEqDiff, ↓reduceIte])
  refine hold2 (then_n ?_)
  refine J_prom 37 2 (by decide) 1 2 _ _ rfl rfl ?_
  (try simp only [go_sem, Nat.reduceEqDiff, ↓reduceIte])
  refine J_seq ?_
  obtain ⟨o7, hP, hQ7⟩ := bind_cases hP
  refine J_joinK0 (fun (s : (List ((List UInt8) × (List UInt8)))) => envL [(1, .int .i64 length2), (2, .bool last3), (3, .bptr 0 0), (6, .bptr 1 0), (7, .own 3 0 0 (List.length s))]) (fun (s : (List ((List UInt8) × (List UInt8)))) => [.box 24 [.int .i64 p1.1, .str p1.2.1, .view 2 (List.map enc_api_Field p1.2.2)], .box 24 [.int .i64 0, .str [], .own 2 0 0 (List.length ([] : List ((List UInt8) × (List UInt8))))], .slice 0 37 2 (List.map enc_api_Field ([] : List ((List UInt8) × (List UInt8)))), .slice 0 37 2 (List.map enc_api_Field s)]) (fun s => s = o7) ?_ ?_
  · clear hQ7
    refine J_regionT [(0, none), (2, none), (3, some [4, 6, 7, 8])] (.alt (.early 1 (.alt (.early 4 (.early 5 (.step 6 (.early 7 (.early 8 (.done)))))) (.early 5 (.early 4 (.step 6 (.early 7 (.early 8 (.done)))))))) (.alt (.early 4 (.alt (.early 1 (.early 5 (.step 6 (.early 7 (.early 8 (.done)))))) (.early 5 (.alt (.early 1 (.step 6 (.early 7 (.early 8 (.done))))) (.step 6 (.early 1 (.early 7 (.early 8 (.done))))))))) (.early 5 (.alt (.early 1 (.early 4 (.step 6 (.early 7 (.early 8 (.done)))))) (.early 4 (.alt (.early 1 (.step 6 (.early 7 (.early 8 (.done))))) (.step 6 (.early 1 (.early 7 (.early 8 (.done))))))))))) [6] [7, 8, 9, 10, 11, 12, 13, 14, 15] follows_mixed (by kernel_rfl) (by kernel_rfl) (by kernel_rfl) (by kernel_rfl) (by kernel_rfl) (by kernel_rfl) ?_
    simp only [pickT_cons, pickT_nil, go_sem, Nat.reduceEqDiff, ↓reduceIte]
    (try simp only [go_sem, Nat.reduceEqDiff, ↓reduceIte, Nat.reduceAdd, Nat.reduceSub, Nat.reduceLT, Nat.reduceMul, reduceCtorEq, Int.reduceToNat, Int.reduceLE, Int.reduceLT, Nat.reduceLeDiff])
    refine ⟨?_, ?_⟩
    · refine ⟨?_, ?_⟩
      · obtain ⟨r8, hr8, hP⟩ := bind_cases hP
        refine callE_ok [.view 2 (List.map enc_api_Field p1.2.2)] (ref21_hop_ok hr8) ⟨argR_m false rfl, trivial⟩ ?_
        (try simp only [go_sem, Nat.reduceEqDiff, ↓reduceIte, Nat.reduceAdd, Nat.reduceSub, Nat.reduceLT, Nat.reduceMul, reduceCtorEq, Int.reduceToNat, Int.reduceLE, Int.reduceLT, Nat.reduceLeDiff])
        obtain ⟨_, hz9, hP⟩ := bind_cases hP
        refine app_own (f := encS) (r8 : List (List UInt8)) ([[67, 111, 110, 116, 101, 110, 116, 45, 84, 121, 112, 101], [67, 111, 110, 116, 101, 110, 116, 45, 69, 110, 99, 111, 100, 105, 110, 103], [67, 111, 110, 116, 101, 110, 116, 45, 83, 101, 99, 117, 114, 105, 116, 121, 45, 80, 111, 108, 105, 99, 121], [88, 45, 67, 111, 110, 116, 101, 110, 116, 45, 84, 121, 112, 101, 45, 79, 112, 116, 105, 111, 110, 115], [69, 84, 97, 103], [67, 111, 110, 116, 101, 110, 116, 45, 77, 68, 53], [65, 99, 99, 101, 112, 116, 45, 82, 97, 110, 103, 101, 115], [67, 111, 110, 116, 101, 110, 116, 45, 82, 97, 110, 103, 101], [82, 101, 102, 114, 101, 115, 104], [76, 105, 110, 107]] : List (List UInt8)) rfl tyS_61 (by decide) (by simp only [go_sem, Nat.reduceEqDiff, ↓reduceIte, Nat.reduceAdd, Nat.reduceSub, Nat.reduceLT, Nat.reduceMul, reduceCtorEq, Int.reduceToNat, Int.reduceLE, Int.reduceLT, Nat.reduceLeDiff]; first | done | rfl | exact ⟨rfl, rfl⟩) hz9 ?_
        (try simp only [go_sem, Nat.reduceEqDiff, ↓reduceIte])
        obtain ⟨r10, hr10, hP⟩ := bind_cases hP
        refine callE_ok [.view 2 (List.map enc_api_Field p1.2.2), .view 1 (List.map encS (r8 ++ [[67, 111, 110, 116, 101, 110, 116, 45, 84, 121, 112, 101], [67, 111, 110, 116, 101, 110, 116, 45, 69, 110, 99, 111, 100, 105, 110, 103], [67, 111, 110, 116, 101, 110, 116, 45, 83, 101, 99, 117, 114, 105, 116, 121, 45, 80, 111, 108, 105, 99, 121], [88, 45, 67, 111, 110, 116, 101, 110, 116, 45, 84, 121, 112, 101, 45, 79, 112, 116, 105, 111, 110, 115], [69, 84, 97, 103], [67, 111, 110, 116, 101, 110, 116, 45, 77, 68, 53], [65, 99, 99, 101, 112, 116, 45, 82, 97, 110, 103, 101, 115], [67, 111, 110, 116, 101, 110, 116, 45, 82, 97, 110, 103, 101], [82, 101, 102, 114, 101, 115, 104], [76, 105, 110, 107]]))] (ref04_Without_ok hr10) ⟨argR_m false rfl, argR_m false (by simp only [arg, go_sem, Nat.reduceEqDiff, ↓reduceIte]), trivial⟩ ?_
        (try simp only [go_sem, Nat.reduceEqDiff, ↓reduceIte, Nat.reduceAdd, Nat.reduceSub, Nat.reduceLT, Nat.reduceMul, reduceCtorEq, Int.reduceToNat, Int.reduceLE, Int.reduceLT, Nat.reduceLeDiff])
        refine hold2 ?_
        exact join_n r10 (Option.some.inj hP) (so [0, 1, 2, 5])
      obtain ⟨r8, hr8, hP⟩ := bind_cases hP
      refine callE_ok [.view 2 (List.map enc_api_Field p1.2.2)] (ref21_hop_ok hr8) ⟨argR_m false rfl, trivial⟩ ?_
      (try simp only [go_sem, Nat.reduceEqDiff, ↓reduceIte])
      obtain ⟨_, hz9, hP⟩ := bind_cases hP
      refine app_own (f := encS) (r8 : List (List UInt8)) ([[67, 111, 110, 116, 101, 110, 116, 45, 84, 121, 112, 101], [67, 111, 110, 116, 101, 110, 116, 45, 69, 110, 99, 111, 100, 105, 110, 103], [67, 111, 110, 116, 101, 110, 116, 45, 83, 101, 99, 117, 114, 105, 116, 121, 45, 80, 111, 108, 105, 99, 121], [88, 45, 67, 111, 110, 116, 101, 110, 116, 45, 84, 121, 112, 101, 45, 79, 112, 116, 105, 111, 110, 115], [69, 84, 97, 103], [67, 111, 110, 116, 101, 110, 116, 45, 77, 68, 53], [65, 99, 99, 101, 112, 116, 45, 82, 97, 110, 103, 101, 115], [67, 111, 110, 116, 101, 110, 116, 45, 82, 97, 110, 103, 101], [82, 101, 102, 114, 101, 115, 104], [76, 105, 110, 107]] : List (List UInt8)) rfl tyS_61 (by decide) (by simp only [go_sem, Nat.reduceEqDiff, ↓reduceIte, Nat.reduceAdd, Nat.reduceSub, Nat.reduceLT, Nat.reduceMul, reduceCtorEq, Int.reduceToNat, Int.reduceLE, Int.reduceLT, Nat.reduceLeDiff]; first | done | rfl | exact ⟨rfl, rfl⟩) hz9 ?_
      (try simp only [go_sem, Nat.reduceEqDiff, ↓reduceIte, Nat.reduceAdd, Nat.reduceSub, Nat.reduceLT, Nat.reduceMul, reduceCtorEq, Int.reduceToNat, Int.reduceLE, Int.reduceLT, Nat.reduceLeDiff])
      obtain ⟨r10, hr10, hP⟩ := bind_cases hP
      refine callE_ok [.view 2 (List.map enc_api_Field p1.2.2), .view 1 (List.map encS (r8 ++ [[67, 111, 110, 116, 101, 110, 116, 45, 84, 121, 112, 101], [67, 111, 110, 116, 101, 110, 116, 45, 69, 110, 99, 111, 100, 105, 110, 103], [67, 111, 110, 116, 101, 110, 116, 45, 83, 101, 99, 117, 114, 105, 116, 121, 45, 80, 111, 108, 105, 99, 121], [88, 45, 67, 111, 110, 116, 101, 110, 116, 45, 84, 121, 112, 101, 45, 79, 112, 116, 105, 111, 110, 115], [69, 84, 97, 103], [67, 111, 110, 116, 101, 110, 116, 45, 77, 68, 53], [65, 99, 99, 101, 112, 116, 45, 82, 97, 110, 103, 101, 115], [67, 111, 110, 116, 101, 110, 116, 45, 82, 97, 110, 103, 101], [82, 101, 102, 114, 101, 115, 104], [76, 105, 110, 107]]))] (ref04_Without_ok hr10) ⟨argR_m false rfl, argR_m false (by simp only [arg, go_sem, Nat.reduceEqDiff, ↓reduceIte]), trivial⟩ ?_
      (try simp only [go_sem, Nat.reduceEqDiff, ↓reduceIte, Nat.reduceAdd, Nat.reduceSub, Nat.reduceLT, Nat.reduceMul, reduceCtorEq, Int.reduceToNat, Int.reduceLE, Int.reduceLT, Nat.reduceLeDiff])
      refine hold2 ?_
      exact join_n r10 (Option.some.inj hP) (so [0, 1, 2, 5])
    refine ⟨?_, ?_⟩
    · obtain ⟨r8, hr8, hP⟩ := bind_cases hP
      refine callE_ok [.view 2 (List.map enc_api_Field p1.2.2)] (ref21_hop_ok hr8) ⟨argR_m false rfl, trivial⟩ ?_
      (try simp only [go_sem, Nat.reduceEqDiff, ↓reduceIte, Nat.reduceAdd, Nat.reduceSub, Nat.reduceLT, Nat.reduceMul, reduceCtorEq, Int.reduceToNat, Int.reduceLE, Int.reduceLT, Nat.reduceLeDiff])
      refine ⟨?_, ?_⟩
      · obtain ⟨_, hz9, hP⟩ := bind_cases hP
        refine app_own (f := encS) (r8 : List (List UInt8)) ([[67, 111, 110, 116, 101, 110, 116, 45, 84, 121, 112, 101], [67, 111, 110, 116, 101, 110, 116, 45, 69, 110, 99, 111, 100, 105, 110, 103], [67, 111, 110, 116, 101, 110, 116, 45, 83, 101, 99, 117, 114, 105, 116, 121, 45, 80, 111, 108, 105, 99, 121], [88, 45, 67, 111, 110, 116, 101, 110, 116, 45, 84, 121, 112, 101, 45, 79, 112, 116, 105, 111, 110, 115], [69, 84, 97, 103], [67, 111, 110, 116, 101, 110, 116, 45, 77, 68, 53], [65, 99, 99, 101, 112, 116, 45, 82, 97, 110, 103, 101, 115], [67, 111, 110, 116, 101, 110, 116, 45, 82, 97, 110, 103, 101], [82, 101, 102, 114, 101, 115, 104], [76, 105, 110, 107]] : List (List UInt8)) rfl tyS_61 (by decide) (by simp only [go_sem, Nat.reduceEqDiff, ↓reduceIte, Nat.reduceAdd, Nat.reduceSub, Nat.reduceLT, Nat.reduceMul, reduceCtorEq, Int.reduceToNat, Int.reduceLE, Int.reduceLT, Nat.reduceLeDiff]; first | done | rfl | exact ⟨rfl, rfl⟩) hz9 ?_
        (try simp only [go_sem, Nat.reduceEqDiff, ↓reduceIte, Nat.reduceAdd, Nat.reduceSub, Nat.reduceLT, Nat.reduceMul, reduceCtorEq, Int.reduceToNat, Int.reduceLE, Int.reduceLT, Nat.reduceLeDiff])
        obtain ⟨r10, hr10, hP⟩ := bind_cases hP
        refine callE_ok [.view 2 (List.map enc_api_Field p1.2.2), .view 1 (List.map encS (r8 ++ [[67, 111, 110, 116, 101, 110, 116, 45, 84, 121, 112, 101], [67, 111, 110, 116, 101, 110, 116, 45, 69, 110, 99, 111, 100, 105, 110, 103], [67, 111, 110, 116, 101, 110, 116, 45, 83, 101, 99, 117, 114, 105, 116, 121, 45, 80, 111, 108, 105, 99, 121], [88, 45, 67, 111, 110, 116, 101, 110, 116, 45, 84, 121, 112, 101, 45, 79, 112, 116, 105, 111, 110, 115], [69, 84, 97, 103], [67, 111, 110, 116, 101, 110, 116, 45, 77, 68, 53], [65, 99, 99, 101, 112, 116, 45, 82, 97, 110, 103, 101, 115], [67, 111, 110, 116, 101, 110, 116, 45, 82, 97, 110, 103, 101], [82, 101, 102, 114, 101, 115, 104], [76, 105, 110, 107]]))] (ref04_Without_ok hr10) ⟨argR_m false rfl, argR_m false (by simp only [arg, go_sem, Nat.reduceEqDiff, ↓reduceIte]), trivial⟩ ?_
        (try simp only [go_sem, Nat.reduceEqDiff, ↓reduceIte, Nat.reduceAdd, Nat.reduceSub, Nat.reduceLT, Nat.reduceMul, reduceCtorEq, Int.reduceToNat, Int.reduceLE, Int.reduceLT, Nat.reduceLeDiff])
        refine hold2 ?_
        exact join_n r10 (Option.some.inj hP) (so [0, 1, 2, 5])
      refine ⟨?_, ?_⟩
      · obtain ⟨_, hz9, hP⟩ := bind_cases hP
        refine app_own (f := encS) (r8 : List (List UInt8)) ([[67, 111, 110, 116, 101, 110, 116, 45, 84, 121, 112, 101], [67, 111, 110, 116, 101, 110, 116, 45, 69, 110, 99, 111, 100, 105, 110, 103], [67, 111, 110, 116, 101, 110, 116, 45, 83, 101, 99, 117, 114, 105, 116, 121, 45, 80, 111, 108, 105, 99, 121], [88, 45, 67, 111, 110, 116, 101, 110, 116, 45, 84, 121, 112, 101, 45, 79, 112, 116, 105, 111, 110, 115], [69, 84, 97, 103], [67, 111, 110, 116, 101, 110, 116, 45, 77, 68, 53], [65, 99, 99, 101, 112, 116, 45, 82, 97, 110, 103, 101, 115], [67, 111, 110, 116, 101, 110, 116, 45, 82, 97, 110, 103, 101], [82, 101, 102, 114, 101, 115, 104], [76, 105, 110, 107]] : List (List UInt8)) rfl tyS_61 (by decide) (by simp only [go_sem, Nat.reduceEqDiff, ↓reduceIte, Nat.reduceAdd, Nat.reduceSub, Nat.reduceLT, Nat.reduceMul, reduceCtorEq, Int.reduceToNat, Int.reduceLE, Int.reduceLT, Nat.reduceLeDiff]; first | done | rfl | exact ⟨rfl, rfl⟩) hz9 ?_
        (try simp only [go_sem, Nat.reduceEqDiff, ↓reduceIte, Nat.reduceAdd, Nat.reduceSub, Nat.reduceLT, Nat.reduceMul, reduceCtorEq, Int.reduceToNat, Int.reduceLE, Int.reduceLT, Nat.reduceLeDiff])
        obtain ⟨r10, hr10, hP⟩ := bind_cases hP
        refine callE_ok [.view 2 (List.map enc_api_Field p1.2.2), .view 1 (List.map encS (r8 ++ [[67, 111, 110, 116, 101, 110, 116, 45, 84, 121, 112, 101], [67, 111, 110, 116, 101, 110, 116, 45, 69, 110, 99, 111, 100, 105, 110, 103], [67, 111, 110, 116, 101, 110, 116, 45, 83, 101, 99, 117, 114, 105, 116, 121, 45, 80, 111, 108, 105, 99, 121], [88, 45, 67, 111, 110, 116, 101, 110, 116, 45, 84, 121, 112, 101, 45, 79, 112, 116, 105, 111, 110, 115], [69, 84, 97, 103], [67, 111, 110, 116, 101, 110, 116, 45, 77, 68, 53], [65, 99, 99, 101, 112, 116, 45, 82, 97, 110, 103, 101, 115], [67, 111, 110, 116, 101, 110, 116, 45, 82, 97, 110, 103, 101], [82, 101, 102, 114, 101, 115, 104], [76, 105, 110, 107]]))] (ref04_Without_ok hr10) ⟨argR_m false rfl, argR_m false (by simp only [arg, go_sem, Nat.reduceEqDiff, ↓reduceIte]), trivial⟩ ?_
        (try simp only [go_sem, Nat.reduceEqDiff, ↓reduceIte, Nat.reduceAdd, Nat.reduceSub, Nat.reduceLT, Nat.reduceMul, reduceCtorEq, Int.reduceToNat, Int.reduceLE, Int.reduceLT, Nat.reduceLeDiff])
        refine hold2 ?_
        exact join_n r10 (Option.some.inj hP) (so [0, 1, 2, 5])
      obtain ⟨_, hz9, hP⟩ := bind_cases hP
      refine app_own (f := encS) (r8 : List (List UInt8)) ([[67, 111, 110, 116, 101, 110, 116, 45, 84, 121, 112, 101], [67, 111, 110, 116, 101, 110, 116, 45, 69, 110, 99, 111, 100, 105, 110, 103], [67, 111, 110, 116, 101, 110, 116, 45, 83, 101, 99, 117, 114, 105, 116, 121, 45, 80, 111, 108, 105, 99, 121], [88, 45, 67, 111, 110, 116, 101, 110, 116, 45, 84, 121, 112, 101, 45, 79, 112, 116, 105, 111, 110, 115], [69, 84, 97, 103], [67, 111, 110, 116, 101, 110, 116, 45, 77, 68, 53], [65, 99, 99, 101, 112, 116, 45, 82, 97, 110, 103, 101, 115], [67, 111, 110, 116, 101, 110, 116, 45, 82, 97, 110, 103, 101], [82, 101, 102, 114, 101, 115, 104], [76, 105, 110, 107]] : List (List UInt8)) rfl tyS_61 (by decide) (by simp only [go_sem, Nat.reduceEqDiff, ↓reduceIte, Nat.reduceAdd, Nat.reduceSub, Nat.reduceLT, Nat.reduceMul, reduceCtorEq, Int.reduceToNat, Int.reduceLE, Int.reduceLT, Nat.reduceLeDiff]; first | done | rfl | exact ⟨rfl, rfl⟩) hz9 ?_
      (try simp only [go_sem, Nat.reduceEqDiff, ↓reduceIte])
      obtain ⟨r10, hr10, hP⟩ := bind_cases hP
      refine callE_ok [.view 2 (List.map enc_api_Field p1.2.2), .view 1 (List.map encS (r8 ++ [[67, 111, 110, 116, 101, 110, 116, 45, 84, 121, 112, 101], [67, 111, 110, 116, 101, 110, 116, 45, 69, 110, 99, 111, 100, 105, 110, 103], [67, 111, 110, 116, 101, 110, 116, 45, 83, 101, 99, 117, 114, 105, 116, 121, 45, 80, 111, 108, 105, 99, 121], [88, 45, 67, 111, 110, 116, 101, 110, 116, 45, 84, 121, 112, 101, 45, 79, 112, 116, 105, 111, 110, 115], [69, 84, 97, 103], [67, 111, 110, 116, 101, 110, 116, 45, 77, 68, 53], [65, 99, 99, 101, 112, 116, 45, 82, 97, 110, 103, 101, 115], [67, 111, 110, 116, 101, 110, 116, 45, 82, 97, 110, 103, 101], [82, 101, 102, 114, 101, 115, 104], [76, 105, 110, 107]]))] (ref04_Without_ok hr10) ⟨argR_m false rfl, argR_m false (by simp only [arg, go_sem, Nat.reduceEqDiff, ↓reduceIte]), trivial⟩ ?_
      (try simp only [go_sem, Nat.reduceEqDiff, ↓reduceIte, Nat.reduceAdd, Nat.reduceSub, Nat.reduceLT, Nat.reduceMul, reduceCtorEq, Int.reduceToNat, Int.reduceLE, Int.reduceLT, Nat.reduceLeDiff])
      refine hold2 ?_
      exact join_n r10 (Option.some.inj hP) (so [0, 1, 2, 5])
    refine ⟨?_, ?_⟩
    · obtain ⟨r8, hr8, hP⟩ := bind_cases hP
      refine callE_ok [.view 2 (List.map enc_api_Field p1.2.2)] (ref21_hop_ok hr8) ⟨argR_m false rfl, trivial⟩ ?_
      (try simp only [go_sem, Nat.reduceEqDiff, ↓reduceIte])
      obtain ⟨_, hz9, hP⟩ := bind_cases hP
      refine app_own (f := encS) (r8 : List (List UInt8)) ([[67, 111, 110, 116, 101, 110, 116, 45, 84, 121, 112, 101], [67, 111, 110, 116, 101, 110, 116, 45, 69, 110, 99, 111, 100, 105, 110, 103], [67, 111, 110, 116, 101, 110, 116, 45, 83, 101, 99, 117, 114, 105, 116, 121, 45, 80, 111, 108, 105, 99, 121], [88, 45, 67, 111, 110, 116, 101, 110, 116, 45, 84, 121, 112, 101, 45, 79, 112, 116, 105, 111, 110, 115], [69, 84, 97, 103], [67, 111, 110, 116, 101, 110, 116, 45, 77, 68, 53], [65, 99, 99, 101, 112, 116, 45, 82, 97, 110, 103, 101, 115], [67, 111, 110, 116, 101, 110, 116, 45, 82, 97, 110, 103, 101], [82, 101, 102, 114, 101, 115, 104], [76, 105, 110, 107]] : List (List UInt8)) rfl tyS_61 (by decide) (by simp only [go_sem, Nat.reduceEqDiff, ↓reduceIte]; first | done | rfl | exact ⟨rfl, rfl⟩) hz9 ?_
      (try simp only [go_sem, Nat.reduceEqDiff, ↓reduceIte])
      obtain ⟨r10, hr10, hP⟩ := bind_cases hP
      refine callE_ok [.view 2 (List.map enc_api_Field p1.2.2), .view 1 (List.map encS (r8 ++ [[67, 111, 110, 116, 101, 110, 116, 45, 84, 121, 112, 101], [67, 111, 110, 116, 101, 110, 116, 45, 69, 110, 99, 111, 100, 105, 110, 103], [67, 111, 110, 116, 101, 110, 116, 45, 83, 101, 99, 117, 114, 105, 116, 121, 45, 80, 111, 108, 105, 99, 121], [88, 45, 67, 111, 110, 116, 101, 110, 116, 45, 84, 121, 112, 101, 45, 79, 112, 116, 105, 111, 110, 115], [69, 84, 97, 103], [67, 111, 110, 116, 101, 110, 116, 45, 77, 68, 53], [65, 99, 99, 101, 112, 116, 45, 82, 97, 110, 103, 101, 115], [67, 111, 110, 116, 101, 110, 116, 45, 82, 97, 110, 103, 101], [82, 101, 102, 114, 101, 115, 104], [76, 105, 110, 107]]))] (ref04_Without_ok hr10) ⟨argR_m false rfl, argR_m false (by simp only [arg, go_sem, Nat.reduceEqDiff, ↓reduceIte]), trivial⟩ ?_
      (try simp only [go_sem, Nat.reduceEqDiff, ↓reduceIte, Nat.reduceAdd, Nat.reduceSub, Nat.reduceLT, Nat.reduceMul, reduceCtorEq, Int.reduceToNat, Int.reduceLE, Int.reduceLT, Nat.reduceLeDiff])
      refine hold2 ?_
      exact join_n r10 (Option.some.inj hP) (so [0, 1, 2, 5])
    obtain ⟨r8, hr8, hP⟩ := bind_cases hP
    refine callE_ok [.view 2 (List.map enc_api_Field p1.2.2)] (ref21_hop_ok hr8) ⟨argR_m false rfl, trivial⟩ ?_
    (try simp only [go_sem, Nat.reduceEqDiff, ↓reduceIte])
    refine ⟨?_, ?_⟩
    · obtain ⟨_, hz9, hP⟩ := bind_cases hP
      refine app_own (f := encS) (r8 : List (List UInt8)) ([[67, 111, 110, 116, 101, 110, 116, 45, 84, 121, 112, 101], [67, 111, 110, 116, 101, 110, 116, 45, 69, 110, 99, 111, 100, 105, 110, 103], [67, 111, 110, 116, 101, 110, 116, 45, 83, 101, 99, 117, 114, 105, 116, 121, 45, 80, 111, 108, 105, 99, 121], [88, 45, 67, 111, 110, 116, 101, 110, 116, 45, 84, 121, 112, 101, 45, 79, 112, 116, 105, 111, 110, 115], [69, 84, 97, 103], [67, 111, 110, 116, 101, 110, 116, 45, 77, 68, 53], [65, 99, 99, 101, 112, 116, 45, 82, 97, 110, 103, 101, 115], [67, 111, 110, 116, 101, 110, 116, 45, 82, 97, 110, 103, 101], [82, 101, 102, 114, 101, 115, 104], [76, 105, 110, 107]] : List (List UInt8)) rfl tyS_61 (by decide) (by simp only [go_sem, Nat.reduceEqDiff, ↓reduceIte]; first | done | rfl | exact ⟨rfl, rfl⟩) hz9 ?_
      (try simp only [go_sem, Nat.reduceEqDiff, ↓reduceIte])
      obtain ⟨r10, hr10, hP⟩ := bind_cases hP
      refine callE_ok [.view 2 (List.map enc_api_Field p1.2.2), .view 1 (List.map encS (r8 ++ [[67, 111, 110, 116, 101, 110, 116, 45, 84, 121, 112, 101], [67, 111, 110, 116, 101, 110, 116, 45, 69, 110, 99, 111, 100, 105, 110, 103], [67, 111, 110, 116, 101, 110, 116, 45, 83, 101, 99, 117, 114, 105, 116, 121, 45, 80, 111, 108, 105, 99, 121], [88, 45, 67, 111, 110, 116, 101, 110, 116, 45, 84, 121, 112, 101, 45, 79, 112, 116, 105, 111, 110, 115], [69, 84, 97, 103], [67, 111, 110, 116, 101, 110, 116, 45, 77, 68, 53], [65, 99, 99, 101, 112, 116, 45, 82, 97, 110, 103, 101, 115], [67, 111, 110, 116, 101, 110, 116, 45, 82, 97, 110, 103, 101], [82, 101, 102, 114, 101, 115, 104], [76, 105, 110, 107]]))] (ref04_Without_ok hr10) ⟨argR_m false rfl, argR_m false (by simp only [arg, go_sem, Nat.reduceEqDiff, ↓reduceIte]), trivial⟩ ?_
      (try simp only [go_sem, Nat.reduceEqDiff, ↓reduceIte])
      refine hold2 ?_
      exact join_n r10 (Option.some.inj hP) (so [0, 1, 2, 5])
    obtain ⟨_, hz9, hP⟩ := bind_cases hP
    refine app_own (f := encS) (r8 : List (List UInt8)) ([[67, 111, 110, 116, 101, 110, 116, 45, 84, 121, 112, 101], [67, 111, 110, 116, 101, 110, 116, 45, 69, 110, 99, 111, 100, 105, 110, 103], [67, 111, 110, 116, 101, 110, 116, 45, 83, 101, 99, 117, 114, 105, 116, 121, 45, 80, 111, 108, 105, 99, 121], [88, 45, 67, 111, 110, 116, 101, 110, 116, 45, 84, 121, 112, 101, 45, 79, 112, 116, 105, 111, 110, 115], [69, 84, 97, 103], [67, 111, 110, 116, 101, 110, 116, 45, 77, 68, 53], [65, 99, 99, 101, 112, 116, 45, 82, 97, 110, 103, 101, 115], [67, 111, 110, 116, 101, 110, 116, 45, 82, 97, 110, 103, 101], [82, 101, 102, 114, 101, 115, 104], [76, 105, 110, 107]] : List (List UInt8)) rfl tyS_61 (by decide) (by simp only [go_sem, Nat.reduceEqDiff, ↓reduceIte]; first | done | rfl | exact ⟨rfl, rfl⟩) hz9 ?_
    (try simp only [go_sem, Nat.reduceEqDiff, ↓reduceIte])
    obtain ⟨r10, hr10, hP⟩ := bind_cases hP
    refine callE_ok [.view 2 (List.map enc_api_Field p1.2.2), .view 1 (List.map encS (r8 ++ [[67, 111, 110, 116, 101, 110, 116, 45, 84, 121, 112, 101], [67, 111, 110, 116, 101, 110, 116, 45, 69, 110, 99, 111, 100, 105, 110, 103], [67, 111, 110, 116, 101, 110, 116, 45, 83, 101, 99, 117, 114, 105, 116, 121, 45, 80, 111, 108, 105, 99, 121], [88, 45, 67, 111, 110, 116, 101, 110, 116, 45, 84, 121, 112, 101, 45, 79, 112, 116, 105, 111, 110, 115], [69, 84, 97, 103], [67, 111, 110, 116, 101, 110, 116, 45, 77, 68, 53], [65, 99, 99, 101, 112, 116, 45, 82, 97, 110, 103, 101, 115], [67, 111, 110, 116, 101, 110, 116, 45, 82, 97, 110, 103, 101], [82, 101, 102, 114, 101, 115, 104], [76, 105, 110, 107]]))] (ref04_Without_ok hr10) ⟨argR_m false rfl, argR_m false (by simp only [arg, go_sem, Nat.reduceEqDiff, ↓reduceIte]), trivial⟩ ?_
    (try simp only [go_sem, Nat.reduceEqDiff, ↓reduceIte, Nat.reduceAdd, Nat.reduceSub, Nat.reduceLT, Nat.reduceMul, reduceCtorEq, Int.reduceToNat, Int.reduceLE, Int.reduceLT, Nat.reduceLeDiff])
    refine hold2 ?_
    exact join_n r10 (Option.some.inj hP) (so [0, 1, 2, 5])
  · intro j11 hs
    subst hs
    have hP := hQ7
    clear hQ7
    refine then_n ?_
    refine J_seq ?_
    refine J_region (by kernel_rfl) ?_
    (try simp only [go_sem, Nat.reduceEqDiff, ↓reduceIte, Nat.reduceAdd, Nat.reduceSub, Nat.reduceLT, Nat.reduceMul, reduceCtorEq, Int.reduceToNat, Int.reduceLE, Int.reduceLT, Nat.reduceLeDiff])
    obtain ⟨_, hz12, hP⟩ := bind_cases hP
    refine app_own (f := enc_api_Field) (j11 : List ((List UInt8) × (List UInt8))) ([([67, 111, 110, 116, 101, 110, 116, 45, 84, 121, 112, 101], [116, 101, 120, 116, 47, 104, 116, 109, 108, 59, 32, 99, 104, 97, 114, 115, 101, 116, 61, 117, 116, 102, 45, 56]), ([67, 111, 110, 116, 101, 110, 116, 45, 83, 101, 99, 117, 114, 105, 116, 121, 45, 80, 111, 108, 105, 99, 121], [100, 101, 102, 97, 117, 108, 116, 45, 115, 114, 99, 32, 39, 110, 111, 110, 101, 39, 59, 32, 98, 97, 115, 101, 45, 117, 114, 105, 32, 39, 110, 111, 110, 101, 39, 59, 32, 102, 111, 114, 109, 45, 97, 99, 116, 105, 111, 110, 32, 39, 110, 111, 110, 101, 39, 59, 32, 115, 97, 110, 100, 98, 111, 120]), ([88, 45, 67, 111, 110, 116, 101, 110, 116, 45, 84, 121, 112, 101, 45, 79, 112, 116, 105, 111, 110, 115], [110, 111, 115, 110, 105, 102, 102])] : List ((List UInt8) × (List UInt8))) rfl tyS_22 (by decide) (by simp only [go_sem, Nat.reduceEqDiff, ↓reduceIte, Nat.reduceAdd, Nat.reduceSub, Nat.reduceLT, Nat.reduceMul, reduceCtorEq, Int.reduceToNat, Int.reduceLE, Int.reduceLT, Nat.reduceLeDiff]; first | done | rfl | exact ⟨rfl, rfl⟩) hz12 ?_
    (try simp only [go_sem, Nat.reduceEqDiff, ↓reduceIte])
    refine hold2 (then_n ?_)
    obtain ⟨o15, hP, hQ15⟩ := bind_cases hP
    refine J_join (fun (s : (List ((List UInt8) × (List UInt8)))) => envL [(2, .bool last3), (3, .bptr 0 0), (6, .bptr 1 0), (7, .own 3 0 0 (List.length s))]) (fun (s : (List ((List UInt8) × (List UInt8)))) => [.box 24 [.int .i64 p1.1, .str p1.2.1, .view 2 (List.map enc_api_Field p1.2.2)], .box 24 [.int .i64 0, .str [], .own 2 0 0 (List.length ([] : List ((List UInt8) × (List UInt8))))], .slice 0 37 2 (List.map enc_api_Field ([] : List ((List UInt8) × (List UInt8)))), .slice 0 37 2 (List.map enc_api_Field s)]) (fun s => s = o15) ?_ ?_
    · clear hQ15
      refine J_seq ?_
      refine J_region (by kernel_rfl) ?_
      (try simp only [go_sem, Nat.reduceEqDiff, ↓reduceIte, Nat.reduceAdd, Nat.reduceSub, Nat.reduceLT, Nat.reduceMul, reduceCtorEq, Int.reduceToNat, Int.reduceLE, Int.reduceLT, Nat.reduceLeDiff])
      refine hold2 (then_n ?_)
      refine J_condV rfl ?_
      (try simp only [go_sem, Nat.reduceEqDiff, ↓reduceIte, Nat.reduceAdd, Nat.reduceSub, Nat.reduceLT, Nat.reduceMul, reduceCtorEq, Int.reduceToNat, Int.reduceLE, Int.reduceLT, Nat.reduceLeDiff])
      rcases ite_cases hP with ⟨hc, hP⟩ | ⟨hc, hP⟩
      · refine condV_t hc ?_
        refine J_region (by kernel_rfl) ?_
        (try simp only [go_sem, Nat.reduceEqDiff, ↓reduceIte, Nat.reduceAdd, Nat.reduceSub, Nat.reduceLT, Nat.reduceMul, reduceCtorEq, Int.reduceToNat, Int.reduceLE, Int.reduceLT, Nat.reduceLeDiff])
        obtain ⟨r16, hr16, hP⟩ := bind_cases hP
        refine call_ok [.int .i64 length2] (ref02_Digits_ok hr16) ⟨argR_m false rfl, trivial⟩ ?_
        (try simp only [go_sem, Nat.reduceEqDiff, ↓reduceIte, Nat.reduceAdd, Nat.reduceSub, Nat.reduceLT, Nat.reduceMul, reduceCtorEq, Int.reduceToNat, Int.reduceLE, Int.reduceLT, Nat.reduceLeDiff])
        obtain ⟨_, hz17, hP⟩ := bind_cases hP
        refine app_own (f := enc_api_Field) (j11 ++ [([67, 111, 110, 116, 101, 110, 116, 45, 84, 121, 112, 101], [116, 101, 120, 116, 47, 104, 116, 109, 108, 59, 32, 99, 104, 97, 114, 115, 101, 116, 61, 117, 116, 102, 45, 56]), ([67, 111, 110, 116, 101, 110, 116, 45, 83, 101, 99, 117, 114, 105, 116, 121, 45, 80, 111, 108, 105, 99, 121], [100, 101, 102, 97, 117, 108, 116, 45, 115, 114, 99, 32, 39, 110, 111, 110, 101, 39, 59, 32, 98, 97, 115, 101, 45, 117, 114, 105, 32, 39, 110, 111, 110, 101, 39, 59, 32, 102, 111, 114, 109, 45, 97, 99, 116, 105, 111, 110, 32, 39, 110, 111, 110, 101, 39, 59, 32, 115, 97, 110, 100, 98, 111, 120]), ([88, 45, 67, 111, 110, 116, 101, 110, 116, 45, 84, 121, 112, 101, 45, 79, 112, 116, 105, 111, 110, 115], [110, 111, 115, 110, 105, 102, 102])] : List ((List UInt8) × (List UInt8))) ([([67, 111, 110, 116, 101, 110, 116, 45, 76, 101, 110, 103, 116, 104], r16)] : List ((List UInt8) × (List UInt8))) rfl tyS_22 (by decide) (by simp only [go_sem, Nat.reduceEqDiff, ↓reduceIte, Nat.reduceAdd, Nat.reduceSub, Nat.reduceLT, Nat.reduceMul, reduceCtorEq, Int.reduceToNat, Int.reduceLE, Int.reduceLT, Nat.reduceLeDiff]; first | done | rfl | exact ⟨rfl, rfl⟩) hz17 ?_
        (try simp only [go_sem, Nat.reduceEqDiff, ↓reduceIte])
        refine hold2 ?_
        exact join_n ((j11 ++ [([67, 111, 110, 116, 101, 110, 116, 45, 84, 121, 112, 101], [116, 101, 120, 116, 47, 104, 116, 109, 108, 59, 32, 99, 104, 97, 114, 115, 101, 116, 61, 117, 116, 102, 45, 56]), ([67, 111, 110, 116, 101, 110, 116, 45, 83, 101, 99, 117, 114, 105, 116, 121, 45, 80, 111, 108, 105, 99, 121], [100, 101, 102, 97, 117, 108, 116, 45, 115, 114, 99, 32, 39, 110, 111, 110, 101, 39, 59, 32, 98, 97, 115, 101, 45, 117, 114, 105, 32, 39, 110, 111, 110, 101, 39, 59, 32, 102, 111, 114, 109, 45, 97, 99, 116, 105, 111, 110, 32, 39, 110, 111, 110, 101, 39, 59, 32, 115, 97, 110, 100, 98, 111, 120]), ([88, 45, 67, 111, 110, 116, 101, 110, 116, 45, 84, 121, 112, 101, 45, 79, 112, 116, 105, 111, 110, 115], [110, 111, 115, 110, 105, 102, 102])]) ++ [([67, 111, 110, 116, 101, 110, 116, 45, 76, 101, 110, 103, 116, 104], r16)]) (Option.some.inj hP) (so [0, 1, 2, 3])
      · refine condV_f hc ?_
        refine J_skip ?_
        exact join_n (j11 ++ [([67, 111, 110, 116, 101, 110, 116, 45, 84, 121, 112, 101], [116, 101, 120, 116, 47, 104, 116, 109, 108, 59, 32, 99, 104, 97, 114, 115, 101, 116, 61, 117, 116, 102, 45, 56]), ([67, 111, 110, 116, 101, 110, 116, 45, 83, 101, 99, 117, 114, 105, 116, 121, 45, 80, 111, 108, 105, 99, 121], [100, 101, 102, 97, 117, 108, 116, 45, 115, 114, 99, 32, 39, 110, 111, 110, 101, 39, 59, 32, 98, 97, 115, 101, 45, 117, 114, 105, 32, 39, 110, 111, 110, 101, 39, 59, 32, 102, 111, 114, 109, 45, 97, 99, 116, 105, 111, 110, 32, 39, 110, 111, 110, 101, 39, 59, 32, 115, 97, 110, 100, 98, 111, 120]), ([88, 45, 67, 111, 110, 116, 101, 110, 116, 45, 84, 121, 112, 101, 45, 79, 112, 116, 105, 111, 110, 115], [110, 111, 115, 110, 105, 102, 102])]) (Option.some.inj hP) (so [0, 1, 2, 3])
    · intro j18 hs
      subst hs
      have hP := hQ15
      clear hQ15
      obtain ⟨o20, hP, hQ20⟩ := bind_cases hP
      refine J_join (fun (s : (List ((List UInt8) × (List UInt8)))) => envL [(3, .bptr 0 0), (6, .bptr 1 0), (7, .own 3 0 0 (List.length s))]) (fun (s : (List ((List UInt8) × (List UInt8)))) => [.box 24 [.int .i64 p1.1, .str p1.2.1, .view 2 (List.map enc_api_Field p1.2.2)], .box 24 [.int .i64 0, .str [], .own 2 0 0 (List.length ([] : List ((List UInt8) × (List UInt8))))], .slice 0 37 2 (List.map enc_api_Field ([] : List ((List UInt8) × (List UInt8)))), .slice 0 37 2 (List.map enc_api_Field s)]) (fun s => s = o20) ?_ ?_
      · clear hQ20
        refine J_seq ?_
        refine J_region (by kernel_rfl) ?_
        (try simp only [go_sem, Nat.reduceEqDiff, ↓reduceIte, Nat.reduceAdd, Nat.reduceSub, Nat.reduceLT, Nat.reduceMul, reduceCtorEq, Int.reduceToNat, Int.reduceLE, Int.reduceLT, Nat.reduceLeDiff])
        refine hold2 (then_n ?_)
        refine J_condV rfl ?_
        (try simp only [go_sem, Nat.reduceEqDiff, ↓reduceIte, Nat.reduceAdd, Nat.reduceSub, Nat.reduceLT, Nat.reduceMul, reduceCtorEq, Int.reduceToNat, Int.reduceLE, Int.reduceLT, Nat.reduceLeDiff])
        rcases ite_cases hP with ⟨hc, hP⟩ | ⟨hc, hP⟩
        · refine condV_t hc ?_
          refine J_region (by kernel_rfl) ?_
          (try simp only [go_sem, Nat.reduceEqDiff, ↓reduceIte, Nat.reduceAdd, Nat.reduceSub, Nat.reduceLT, Nat.reduceMul, reduceCtorEq, Int.reduceToNat, Int.reduceLE, Int.reduceLT, Nat.reduceLeDiff])
          obtain ⟨_, hz21, hP⟩ := bind_cases hP
          refine app_own (f := enc_api_Field) (j18 : List ((List UInt8) × (List UInt8))) ([([67, 111, 110, 110, 101, 99, 116, 105, 111, 110], [99, 108, 111, 115, 101])] : List ((List UInt8) × (List UInt8))) rfl tyS_22 (by decide) (by simp only [go_sem, Nat.reduceEqDiff, ↓reduceIte, Nat.reduceAdd, Nat.reduceSub, Nat.reduceLT, Nat.reduceMul, reduceCtorEq, Int.reduceToNat, Int.reduceLE, Int.reduceLT, Nat.reduceLeDiff]; first | done | rfl | exact ⟨rfl, rfl⟩) hz21 ?_
          (try simp only [go_sem, Nat.reduceEqDiff, ↓reduceIte])
          refine hold2 ?_
          exact join_n (j18 ++ [([67, 111, 110, 110, 101, 99, 116, 105, 111, 110], [99, 108, 111, 115, 101])]) (Option.some.inj hP) (so [0, 1, 2, 3])
        · refine condV_f hc ?_
          refine J_skip ?_
          exact join_n j18 (Option.some.inj hP) (so [0, 1, 2, 3])
      · intro j22 hs
        subst hs
        have hP := hQ20
        clear hQ20
        refine J_seq ?_
        refine J_region (by kernel_rfl) ?_
        (try simp only [go_sem, Nat.reduceEqDiff, ↓reduceIte, Nat.reduceAdd, Nat.reduceSub, Nat.reduceLT, Nat.reduceMul, reduceCtorEq, Int.reduceToNat, Int.reduceLE, Int.reduceLT, Nat.reduceLeDiff])
        refine hold2 (then_n ?_)
        refine J_ret (fin_ret ?_)
        obtain rfl := Option.some.inj hP
        (try simp only [go_sem, Nat.reduceEqDiff, ↓reduceIte])
        exact fo [3]
/-- colander/colanderref21.Plain -/
def ref21_Plain (p1 : Int × (List UInt8) × (List ((List UInt8) × (List UInt8)))) (b2 : Int × Int) (last3 : Bool) : Option ((Int × (List UInt8) × (List ((List UInt8) × (List UInt8))))) :=
  (show Option ((List ((List UInt8) × (List UInt8)))) from
    (ref21_hop p1.2.2).bind fun r8 =>
    (szC (List.length (r8 ++ [[88, 45, 67, 111, 110, 116, 101, 110, 116, 45, 84, 121, 112, 101, 45, 79, 112, 116, 105, 111, 110, 115]] : List (List UInt8)))).bind fun _ =>
    (ref04_Without p1.2.2 (r8 ++ [[88, 45, 67, 111, 110, 116, 101, 110, 116, 45, 84, 121, 112, 101, 45, 79, 112, 116, 105, 111, 110, 115]])).bind fun r10 =>
    some r10).bind fun j11 =>
    (szC (List.length (j11 ++ [([88, 45, 67, 111, 110, 116, 101, 110, 116, 45, 84, 121, 112, 101, 45, 79, 112, 116, 105, 111, 110, 115], [110, 111, 115, 110, 105, 102, 102])] : List ((List UInt8) × (List UInt8))))).bind fun _ =>
    (show Option ((List ((List UInt8) × (List UInt8)))) from
      (show Option (Bool) from
        if decide (b2.1 = 1) then
          some (decide (0 ≤ b2.2))
        else
          some false).bind fun j19 =>
        if j19 then
          (ref02_Digits b2.2).bind fun r20 =>
          (szC (List.length ((j11 ++ [([88, 45, 67, 111, 110, 116, 101, 110, 116, 45, 84, 121, 112, 101, 45, 79, 112, 116, 105, 111, 110, 115], [110, 111, 115, 110, 105, 102, 102])]) ++ [([67, 111, 110, 116, 101, 110, 116, 45, 76, 101, 110, 103, 116, 104], r20)] : List ((List UInt8) × (List UInt8))))).bind fun _ =>
          some ((j11 ++ [([88, 45, 67, 111, 110, 116, 101, 110, 116, 45, 84, 121, 112, 101, 45, 79, 112, 116, 105, 111, 110, 115], [110, 111, 115, 110, 105, 102, 102])]) ++ [([67, 111, 110, 116, 101, 110, 116, 45, 76, 101, 110, 103, 116, 104], r20)])
        else
          some (j11 ++ [([88, 45, 67, 111, 110, 116, 101, 110, 116, 45, 84, 121, 112, 101, 45, 79, 112, 116, 105, 111, 110, 115], [110, 111, 115, 110, 105, 102, 102])])).bind fun j22 =>
      (show Option ((List ((List UInt8) × (List UInt8)))) from
        (show Option (Bool) from
          if decide (b2.1 = 2) then
            some true
          else
            some (decide (b2.1 = 3))).bind fun j28 =>
          if j28 then
            (szC (List.length (j22 ++ [([84, 114, 97, 110, 115, 102, 101, 114, 45, 69, 110, 99, 111, 100, 105, 110, 103], [99, 104, 117, 110, 107, 101, 100])] : List ((List UInt8) × (List UInt8))))).bind fun _ =>
            some (j22 ++ [([84, 114, 97, 110, 115, 102, 101, 114, 45, 69, 110, 99, 111, 100, 105, 110, 103], [99, 104, 117, 110, 107, 101, 100])])
          else
            some j22).bind fun j30 =>
        (show Option ((List ((List UInt8) × (List UInt8)))) from
          if last3 then
            (szC (List.length (j30 ++ [([67, 111, 110, 110, 101, 99, 116, 105, 111, 110], [99, 108, 111, 115, 101])] : List ((List UInt8) × (List UInt8))))).bind fun _ =>
            some (j30 ++ [([67, 111, 110, 110, 101, 99, 116, 105, 111, 110], [99, 108, 111, 115, 101])])
          else
            some j30).bind fun j34 =>
          some (p1.1, p1.2.1, j34)
set_option maxRecDepth 100000 in
set_option maxHeartbeats 40000000 in
theorem ref21_Plain_ok {p1 : Int × (List UInt8) × (List ((List UInt8) × (List UInt8)))} {b2 : Int × Int} {last3 : Bool} {r : (Int × (List UInt8) × (List ((List UInt8) × (List UInt8))))} (hP : ref21_Plain p1 b2 last3 = some r) : CallOK Tryz.prog 22 [.agg [.int .i64 p1.1, .str p1.2.1, .view 2 (List.map enc_api_Field p1.2.2)], .agg [.int .i64 b2.1, .int .i64 b2.2], .bool last3] (.agg [.int .i64 r.1, .str r.2.1, .own 0 0 0 (List.length r.2.2)]) [.slice 0 37 2 (List.map enc_api_Field r.2.2)] := by
  unfold ref21_Plain at hP
  refine co (hvo := (by first | (intro o ho; simp at ho; done) | (simp [vfO, AV.vf, AV.vfL, encB, encI, encS, encO, enc_api_Field, enc_api_Body, enc_api_Param, enc_api_Fault, enc_head_text]; done) | (simp [vfO, AV.vf, AV.vfL, encB, encI, encS, encO, enc_api_Field, enc_api_Body, enc_api_Param, enc_api_Fault, enc_head_text]; intros; subst_vars; simp [AV.vf, AV.vfL]))) 58 [.cell 6 24] Tryz.func22 ?_
  refine J_seq ?_
  refine J_region (by kernel_rfl) ?_
  (try simp only [go_sem, Nat.reduceEqDiff, ↓reduceIte])
  refine hold2 (then_n ?_)
  refine J_prom 37 2 (by decide) 2 2 _ _ rfl rfl ?_
  (try simp only [go_sem, Nat.reduceEqDiff, ↓reduceIte])
  refine J_seq ?_
  obtain ⟨o7, hP, hQ7⟩ := bind_cases hP
  refine J_joinK0 (fun (s : (List ((List UInt8) × (List UInt8)))) => envL [(2, .bool last3), (3, .bptr 0 0), (4, .bptr 1 0), (6, .bptr 2 0), (7, .own 4 0 0 (List.length s))]) (fun (s : (List ((List UInt8) × (List UInt8)))) => [.box 24 [.int .i64 p1.1, .str p1.2.1, .view 2 (List.map enc_api_Field p1.2.2)], .box 41 [.int .i64 b2.1, .int .i64 b2.2], .box 24 [.int .i64 0, .str [], .own 3 0 0 (List.length ([] : List ((List UInt8) × (List UInt8))))], .slice 0 37 2 (List.map enc_api_Field ([] : List ((List UInt8) × (List UInt8)))), .slice 0 37 2 (List.map enc_api_Field s)]) (fun s => s = o7) ?_ ?_
  · clear hQ7
    refine J_regionT [(0, none), (2, none), (3, some [4, 6, 7, 8])] (.alt (.early 1 (.alt (.early 4 (.early 5 (.step 6 (.early 7 (.early 8 (.done)))))) (.early 5 (.early 4 (.step 6 (.early 7 (.early 8 (.done)))))))) (.alt (.early 4 (.alt (.early 1 (.early 5 (.step 6 (.early 7 (.early 8 (.done)))))) (.early 5 (.alt (.early 1 (.step 6 (.early 7 (.early 8 (.done))))) (.step 6 (.early 1 (.early 7 (.early 8 (.done))))))))) (.early 5 (.alt (.early 1 (.early 4 (.step 6 (.early 7 (.early 8 (.done)))))) (.early 4 (.alt (.early 1 (.step 6 (.early 7 (.early 8 (.done))))) (.step 6 (.early 1 (.early 7 (.early 8 (.done))))))))))) [6] [7, 8, 9, 10, 11, 12, 13, 14, 15] follows_mixed (by kernel_rfl) (by kernel_rfl) (by kernel_rfl) (by kernel_rfl) (by kernel_rfl) (by kernel_rfl) ?_
    simp only [pickT_cons, pickT_nil, go_sem, Nat.reduceEqDiff, ↓reduceIte]
    (try simp only [go_sem, Nat.reduceEqDiff, ↓reduceIte])
    refine ⟨?_, ?_⟩
    · refine ⟨?_, ?_⟩
      · obtain ⟨r8, hr8, hP⟩ := bind_cases hP
        refine callE_ok [.view 2 (List.map enc_api_Field p1.2.2)] (ref21_hop_ok hr8) ⟨argR_m false rfl, trivial⟩ ?_
        (try simp only [go_sem, Nat.reduceEqDiff, ↓reduceIte])
        obtain ⟨_, hz9, hP⟩ := bind_cases hP
        refine app_own (f := encS) (r8 : List (List UInt8)) ([[88, 45, 67, 111, 110, 116, 101, 110, 116, 45, 84, 121, 112, 101, 45, 79, 112, 116, 105, 111, 110, 115]] : List (List UInt8)) rfl tyS_61 (by decide) (by simp only [go_sem, Nat.reduceEqDiff, ↓reduceIte]; first | done | rfl | exact ⟨rfl, rfl⟩) hz9 ?_
        (try simp only [go_sem, Nat.reduceEqDiff, ↓reduceIte])
        obtain ⟨r10, hr10, hP⟩ := bind_cases hP
        refine callE_ok [.view 2 (List.map enc_api_Field p1.2.2), .view 1 (List.map encS (r8 ++ [[88, 45, 67, 111, 110, 116, 101, 110, 116, 45, 84, 121, 112, 101, 45, 79, 112, 116, 105, 111, 110, 115]]))] (ref04_Without_ok hr10) ⟨argR_m false rfl, argR_m false (by simp only [arg, go_sem, Nat.reduceEqDiff, ↓reduceIte]), trivial⟩ ?_
        (try simp only [go_sem, Nat.reduceEqDiff, ↓reduceIte])
        refine hold2 ?_
        exact join_n r10 (Option.some.inj hP) (so [0, 1, 2, 3, 6])
      obtain ⟨r8, hr8, hP⟩ := bind_cases hP
      refine callE_ok [.view 2 (List.map enc_api_Field p1.2.2)] (ref21_hop_ok hr8) ⟨argR_m false rfl, trivial⟩ ?_
      (try simp only [go_sem, Nat.reduceEqDiff, ↓reduceIte])
      obtain ⟨_, hz9, hP⟩ := bind_cases hP
      refine app_own (f := encS) (r8 : List (List UInt8)) ([[88, 45, 67, 111, 110, 116, 101, 110, 116, 45, 84, 121, 112, 101, 45, 79, 112, 116, 105, 111, 110, 115]] : List (List UInt8)) rfl tyS_61 (by decide) (by simp only [go_sem, Nat.reduceEqDiff, ↓reduceIte]; first | done | rfl | exact ⟨rfl, rfl⟩) hz9 ?_
      (try simp only [go_sem, Nat.reduceEqDiff, ↓reduceIte])
      obtain ⟨r10, hr10, hP⟩ := bind_cases hP
      refine callE_ok [.view 2 (List.map enc_api_Field p1.2.2), .view 1 (List.map encS (r8 ++ [[88, 45, 67, 111, 110, 116, 101, 110, 116, 45, 84, 121, 112, 101, 45, 79, 112, 116, 105, 111, 110, 115]]))] (ref04_Without_ok hr10) ⟨argR_m false rfl, argR_m false (by simp only [arg, go_sem, Nat.reduceEqDiff, ↓reduceIte]), trivial⟩ ?_
      (try simp only [go_sem, Nat.reduceEqDiff, ↓reduceIte])
      refine hold2 ?_
      exact join_n r10 (Option.some.inj hP) (so [0, 1, 2, 3, 6])
    refine ⟨?_, ?_⟩
    · obtain ⟨r8, hr8, hP⟩ := bind_cases hP
      refine callE_ok [.view 2 (List.map enc_api_Field p1.2.2)] (ref21_hop_ok hr8) ⟨argR_m false rfl, trivial⟩ ?_
      (try simp only [go_sem, Nat.reduceEqDiff, ↓reduceIte])
      refine ⟨?_, ?_⟩
      · obtain ⟨_, hz9, hP⟩ := bind_cases hP
        refine app_own (f := encS) (r8 : List (List UInt8)) ([[88, 45, 67, 111, 110, 116, 101, 110, 116, 45, 84, 121, 112, 101, 45, 79, 112, 116, 105, 111, 110, 115]] : List (List UInt8)) rfl tyS_61 (by decide) (by simp only [go_sem, Nat.reduceEqDiff, ↓reduceIte]; first | done | rfl | exact ⟨rfl, rfl⟩) hz9 ?_
        (try simp only [go_sem, Nat.reduceEqDiff, ↓reduceIte])
        obtain ⟨r10, hr10, hP⟩ := bind_cases hP
        refine callE_ok [.view 2 (List.map enc_api_Field p1.2.2), .view 1 (List.map encS (r8 ++ [[88, 45, 67, 111, 110, 116, 101, 110, 116, 45, 84, 121, 112, 101, 45, 79, 112, 116, 105, 111, 110, 115]]))] (ref04_Without_ok hr10) ⟨argR_m false rfl, argR_m false (by simp only [arg, go_sem, Nat.reduceEqDiff, ↓reduceIte]), trivial⟩ ?_
        (try simp only [go_sem, Nat.reduceEqDiff, ↓reduceIte])
        refine hold2 ?_
        exact join_n r10 (Option.some.inj hP) (so [0, 1, 2, 3, 6])
      refine ⟨?_, ?_⟩
      · obtain ⟨_, hz9, hP⟩ := bind_cases hP
        refine app_own (f := encS) (r8 : List (List UInt8)) ([[88, 45, 67, 111, 110, 116, 101, 110, 116, 45, 84, 121, 112, 101, 45, 79, 112, 116, 105, 111, 110, 115]] : List (List UInt8)) rfl tyS_61 (by decide) (by simp only [go_sem, Nat.reduceEqDiff, ↓reduceIte]; first | done | rfl | exact ⟨rfl, rfl⟩) hz9 ?_
        (try simp only [go_sem, Nat.reduceEqDiff, ↓reduceIte])
        obtain ⟨r10, hr10, hP⟩ := bind_cases hP
        refine callE_ok [.view 2 (List.map enc_api_Field p1.2.2), .view 1 (List.map encS (r8 ++ [[88, 45, 67, 111, 110, 116, 101, 110, 116, 45, 84, 121, 112, 101, 45, 79, 112, 116, 105, 111, 110, 115]]))] (ref04_Without_ok hr10) ⟨argR_m false rfl, argR_m false (by simp only [arg, go_sem, Nat.reduceEqDiff, ↓reduceIte]), trivial⟩ ?_
        (try simp only [go_sem, Nat.reduceEqDiff, ↓reduceIte])
        refine hold2 ?_
        exact join_n r10 (Option.some.inj hP) (so [0, 1, 2, 3, 6])
      obtain ⟨_, hz9, hP⟩ := bind_cases hP
      refine app_own (f := encS) (r8 : List (List UInt8)) ([[88, 45, 67, 111, 110, 116, 101, 110, 116, 45, 84, 121, 112, 101, 45, 79, 112, 116, 105, 111, 110, 115]] : List (List UInt8)) rfl tyS_61 (by decide) (by simp only [go_sem, Nat.reduceEqDiff, ↓reduceIte]; first | done | rfl | exact ⟨rfl, rfl⟩) hz9 ?_
      (try simp only [go_sem, Nat.reduceEqDiff, ↓reduceIte])
      obtain ⟨r10, hr10, hP⟩ := bind_cases hP
      refine callE_ok [.view 2 (List.map enc_api_Field p1.2.2), .view 1 (List.map encS (r8 ++ [[88, 45, 67, 111, 110, 116, 101, 110, 116, 45, 84, 121, 112, 101, 45, 79, 112, 116, 105, 111, 110, 115]]))] (ref04_Without_ok hr10) ⟨argR_m false rfl, argR_m false (by simp only [arg, go_sem, Nat.reduceEqDiff, ↓reduceIte]), trivial⟩ ?_
      (try simp only [go_sem, Nat.reduceEqDiff, ↓reduceIte])
      refine hold2 ?_
      exact join_n r10 (Option.some.inj hP) (so [0, 1, 2, 3, 6])
    refine ⟨?_, ?_⟩
    · obtain ⟨r8, hr8, hP⟩ := bind_cases hP
      refine callE_ok [.view 2 (List.map enc_api_Field p1.2.2)] (ref21_hop_ok hr8) ⟨argR_m false rfl, trivial⟩ ?_
      (try simp only [go_sem, Nat.reduceEqDiff, ↓reduceIte])
      obtain ⟨_, hz9, hP⟩ := bind_cases hP
      refine app_own (f := encS) (r8 : List (List UInt8)) ([[88, 45, 67, 111, 110, 116, 101, 110, 116, 45, 84, 121, 112, 101, 45, 79, 112, 116, 105, 111, 110, 115]] : List (List UInt8)) rfl tyS_61 (by decide) (by simp only [go_sem, Nat.reduceEqDiff, ↓reduceIte]; first | done | rfl | exact ⟨rfl, rfl⟩) hz9 ?_
      (try simp only [go_sem, Nat.reduceEqDiff, ↓reduceIte])
      obtain ⟨r10, hr10, hP⟩ := bind_cases hP
      refine callE_ok [.view 2 (List.map enc_api_Field p1.2.2), .view 1 (List.map encS (r8 ++ [[88, 45, 67, 111, 110, 116, 101, 110, 116, 45, 84, 121, 112, 101, 45, 79, 112, 116, 105, 111, 110, 115]]))] (ref04_Without_ok hr10) ⟨argR_m false rfl, argR_m false (by simp only [arg, go_sem, Nat.reduceEqDiff, ↓reduceIte]), trivial⟩ ?_
      (try simp only [go_sem, Nat.reduceEqDiff, ↓reduceIte])
      refine hold2 ?_
      exact join_n r10 (Option.some.inj hP) (so [0, 1, 2, 3, 6])
    obtain ⟨r8, hr8, hP⟩ := bind_cases hP
    refine callE_ok [.view 2 (List.map enc_api_Field p1.2.2)] (ref21_hop_ok hr8) ⟨argR_m false rfl, trivial⟩ ?_
    (try simp only [go_sem, Nat.reduceEqDiff, ↓reduceIte])
    refine ⟨?_, ?_⟩
    · obtain ⟨_, hz9, hP⟩ := bind_cases hP
      refine app_own (f := encS) (r8 : List (List UInt8)) ([[88, 45, 67, 111, 110, 116, 101, 110, 116, 45, 84, 121, 112, 101, 45, 79, 112, 116, 105, 111, 110, 115]] : List (List UInt8)) rfl tyS_61 (by decide) (by simp only [go_sem, Nat.reduceEqDiff, ↓reduceIte]; first | done | rfl | exact ⟨rfl, rfl⟩) hz9 ?_
      (try simp only [go_sem, Nat.reduceEqDiff, ↓reduceIte])
      obtain ⟨r10, hr10, hP⟩ := bind_cases hP
      refine callE_ok [.view 2 (List.map enc_api_Field p1.2.2), .view 1 (List.map encS (r8 ++ [[88, 45, 67, 111, 110, 116, 101, 110, 116, 45, 84, 121, 112, 101, 45, 79, 112, 116, 105, 111, 110, 115]]))] (ref04_Without_ok hr10) ⟨argR_m false rfl, argR_m false (by simp only [arg, go_sem, Nat.reduceEqDiff, ↓reduceIte]), trivial⟩ ?_
      (try simp only [go_sem, Nat.reduceEqDiff, ↓reduceIte])
      refine hold2 ?_
      exact join_n r10 (Option.some.inj hP) (so [0, 1, 2, 3, 6])
    obtain ⟨_, hz9, hP⟩ := bind_cases hP
    refine app_own (f := encS) (r8 : List (List UInt8)) ([[88, 45, 67, 111, 110, 116, 101, 110, 116, 45, 84, 121, 112, 101, 45, 79, 112, 116, 105, 111, 110, 115]] : List (List UInt8)) rfl tyS_61 (by decide) (by simp only [go_sem, Nat.reduceEqDiff, ↓reduceIte]; first | done | rfl | exact ⟨rfl, rfl⟩) hz9 ?_
    (try simp only [go_sem, Nat.reduceEqDiff, ↓reduceIte])
    obtain ⟨r10, hr10, hP⟩ := bind_cases hP
    refine callE_ok [.view 2 (List.map enc_api_Field p1.2.2), .view 1 (List.map encS (r8 ++ [[88, 45, 67, 111, 110, 116, 101, 110, 116, 45, 84, 121, 112, 101, 45, 79, 112, 116, 105, 111, 110, 115]]))] (ref04_Without_ok hr10) ⟨argR_m false rfl, argR_m false (by simp only [arg, go_sem, Nat.reduceEqDiff, ↓reduceIte]), trivial⟩ ?_
    (try simp only [go_sem, Nat.reduceEqDiff, ↓reduceIte, Nat.reduceAdd, Nat.reduceSub, Nat.reduceLT, Nat.reduceMul, reduceCtorEq, Int.reduceToNat, Int.reduceLE, Int.reduceLT, Nat.reduceLeDiff])
    refine hold2 ?_
    exact join_n r10 (Option.some.inj hP) (so [0, 1, 2, 3, 6])
  · intro j11 hs
    subst hs
    have hP := hQ7
    clear hQ7
    refine then_n ?_
    refine J_seq ?_
    refine J_region (by kernel_rfl) ?_
    (try simp only [go_sem, Nat.reduceEqDiff, ↓reduceIte, Nat.reduceAdd, Nat.reduceSub, Nat.reduceLT, Nat.reduceMul, reduceCtorEq, Int.reduceToNat, Int.reduceLE, Int.reduceLT, Nat.reduceLeDiff])
    obtain ⟨_, hz12, hP⟩ := bind_cases hP
    refine app_own (f := enc_api_Field) (j11 : List ((List UInt8) × (List UInt8))) ([([88, 45, 67, 111, 110, 116, 101, 110, 116, 45, 84, 121, 112, 101, 45, 79, 112, 116, 105, 111, 110, 115], [110, 111, 115, 110, 105, 102, 102])] : List ((List UInt8) × (List UInt8))) rfl tyS_22 (by decide) (by simp only [go_sem, Nat.reduceEqDiff, ↓reduceIte, Nat.reduceAdd, Nat.reduceSub, Nat.reduceLT, Nat.reduceMul, reduceCtorEq, Int.reduceToNat, Int.reduceLE, Int.reduceLT, Nat.reduceLeDiff]; first | done | rfl | exact ⟨rfl, rfl⟩) hz12 ?_
    (try simp only [go_sem, Nat.reduceEqDiff, ↓reduceIte])
    refine hold2 (then_n ?_)
    obtain ⟨o17, hP, hQ17⟩ := bind_cases hP
    refine J_join (fun (s : (List ((List UInt8) × (List UInt8)))) => envL [(2, .bool last3), (3, .bptr 0 0), (4, .bptr 1 0), (6, .bptr 2 0), (7, .own 4 0 0 (List.length s))]) (fun (s : (List ((List UInt8) × (List UInt8)))) => [.box 24 [.int .i64 p1.1, .str p1.2.1, .view 2 (List.map enc_api_Field p1.2.2)], .box 41 [.int .i64 b2.1, .int .i64 b2.2], .box 24 [.int .i64 0, .str [], .own 3 0 0 (List.length ([] : List ((List UInt8) × (List UInt8))))], .slice 0 37 2 (List.map enc_api_Field ([] : List ((List UInt8) × (List UInt8)))), .slice 0 37 2 (List.map enc_api_Field s)]) (fun s => s = o17) ?_ ?_
    · clear hQ17
      obtain ⟨o18, hP, hQ18⟩ := bind_cases hP
      refine J_join (fun (s : Bool) => envL [(2, .bool last3), (3, .bptr 0 0), (4, .bptr 1 0), (6, .bptr 2 0), (7, .own 4 0 0 (List.length (j11 ++ [([88, 45, 67, 111, 110, 116, 101, 110, 116, 45, 84, 121, 112, 101, 45, 79, 112, 116, 105, 111, 110, 115], [110, 111, 115, 110, 105, 102, 102])]))), (27, .bool s)]) (fun (s : Bool) => [.box 24 [.int .i64 p1.1, .str p1.2.1, .view 2 (List.map enc_api_Field p1.2.2)], .box 41 [.int .i64 b2.1, .int .i64 b2.2], .box 24 [.int .i64 0, .str [], .own 3 0 0 (List.length ([] : List ((List UInt8) × (List UInt8))))], .slice 0 37 2 (List.map enc_api_Field ([] : List ((List UInt8) × (List UInt8)))), .slice 0 37 2 (List.map enc_api_Field (j11 ++ [([88, 45, 67, 111, 110, 116, 101, 110, 116, 45, 84, 121, 112, 101, 45, 79, 112, 116, 105, 111, 110, 115], [110, 111, 115, 110, 105, 102, 102])]))]) (fun s => s = o18) ?_ ?_
      · clear hQ18
        refine J_region (by kernel_rfl) ?_
        (try simp only [go_sem, Nat.reduceEqDiff, ↓reduceIte])
        rcases ite_cases hP with ⟨hc, hP⟩ | ⟨hc, hP⟩
        · refine guard_is hc ?_
          (try simp only [go_sem, Nat.reduceEqDiff, ↓reduceIte])
          refine hold2 ?_
          exact join_n (decide (0 ≤ b2.2)) (Option.some.inj hP) (so [0, 1, 2, 3, 4])
        · refine guard_not hc ?_
          (try simp only [go_sem, Nat.reduceEqDiff, ↓reduceIte])
          refine hold2 ?_
          exact join_n false (Option.some.inj hP) (so [0, 1, 2, 3, 4])
      · intro j19 hs
        subst hs
        have hP := hQ18
        clear hQ18
        refine J_condV rfl ?_
        (try simp only [go_sem, Nat.reduceEqDiff, ↓reduceIte, Nat.reduceAdd, Nat.reduceSub, Nat.reduceLT, Nat.reduceMul, reduceCtorEq, Int.reduceToNat, Int.reduceLE, Int.reduceLT, Nat.reduceLeDiff])
        rcases ite_cases hP with ⟨hc, hP⟩ | ⟨hc, hP⟩
        · refine condV_t hc ?_
          refine J_region (by kernel_rfl) ?_
          (try simp only [go_sem, Nat.reduceEqDiff, ↓reduceIte, Nat.reduceAdd, Nat.reduceSub, Nat.reduceLT, Nat.reduceMul, reduceCtorEq, Int.reduceToNat, Int.reduceLE, Int.reduceLT, Nat.reduceLeDiff])
          obtain ⟨r20, hr20, hP⟩ := bind_cases hP
          refine call_ok [.int .i64 b2.2] (ref02_Digits_ok hr20) ⟨argR_m false rfl, trivial⟩ ?_
          (try simp only [go_sem, Nat.reduceEqDiff, ↓reduceIte, Nat.reduceAdd, Nat.reduceSub, Nat.reduceLT, Nat.reduceMul, reduceCtorEq, Int.reduceToNat, Int.reduceLE, Int.reduceLT, Nat.reduceLeDiff])
          obtain ⟨_, hz21, hP⟩ := bind_cases hP
          refine app_own (f := enc_api_Field) (j11 ++ [([88, 45, 67, 111, 110, 116, 101, 110, 116, 45, 84, 121, 112, 101, 45, 79, 112, 116, 105, 111, 110, 115], [110, 111, 115, 110, 105, 102, 102])] : List ((List UInt8) × (List UInt8))) ([([67, 111, 110, 116, 101, 110, 116, 45, 76, 101, 110, 103, 116, 104], r20)] : List ((List UInt8) × (List UInt8))) rfl tyS_22 (by decide) (by simp only [go_sem, Nat.reduceEqDiff, ↓reduceIte, Nat.reduceAdd, Nat.reduceSub, Nat.reduceLT, Nat.reduceMul, reduceCtorEq, Int.reduceToNat, Int.reduceLE, Int.reduceLT, Nat.reduceLeDiff]; first | done | rfl | exact ⟨rfl, rfl⟩) hz21 ?_
          (try simp only [go_sem, Nat.reduceEqDiff, ↓reduceIte])
          refine hold2 ?_
          exact join_n ((j11 ++ [([88, 45, 67, 111, 110, 116, 101, 110, 116, 45, 84, 121, 112, 101, 45, 79, 112, 116, 105, 111, 110, 115], [110, 111, 115, 110, 105, 102, 102])]) ++ [([67, 111, 110, 116, 101, 110, 116, 45, 76, 101, 110, 103, 116, 104], r20)]) (Option.some.inj hP) (so [0, 1, 2, 3, 4])
        · refine condV_f hc ?_
          refine J_skip ?_
          exact join_n (j11 ++ [([88, 45, 67, 111, 110, 116, 101, 110, 116, 45, 84, 121, 112, 101, 45, 79, 112, 116, 105, 111, 110, 115], [110, 111, 115, 110, 105, 102, 102])]) (Option.some.inj hP) (so [0, 1, 2, 3, 4])
    · intro j22 hs
      subst hs
      have hP := hQ17
      clear hQ17
      obtain ⟨o26, hP, hQ26⟩ := bind_cases hP
      refine J_join (fun (s : (List ((List UInt8) × (List UInt8)))) => envL [(2, .bool last3), (3, .bptr 0 0), (6, .bptr 1 0), (7, .own 3 0 0 (List.length s))]) (fun (s : (List ((List UInt8) × (List UInt8)))) => [.box 24 [.int .i64 p1.1, .str p1.2.1, .view 2 (List.map enc_api_Field p1.2.2)], .box 24 [.int .i64 0, .str [], .own 2 0 0 (List.length ([] : List ((List UInt8) × (List UInt8))))], .slice 0 37 2 (List.map enc_api_Field ([] : List ((List UInt8) × (List UInt8)))), .slice 0 37 2 (List.map enc_api_Field s)]) (fun s => s = o26) ?_ ?_
      · clear hQ26
        obtain ⟨o27, hP, hQ27⟩ := bind_cases hP
        refine J_join (fun (s : Bool) => envL [(2, .bool last3), (3, .bptr 0 0), (6, .bptr 1 0), (7, .own 3 0 0 (List.length j22)), (42, .bool s)]) (fun (s : Bool) => [.box 24 [.int .i64 p1.1, .str p1.2.1, .view 2 (List.map enc_api_Field p1.2.2)], .box 24 [.int .i64 0, .str [], .own 2 0 0 (List.length ([] : List ((List UInt8) × (List UInt8))))], .slice 0 37 2 (List.map enc_api_Field ([] : List ((List UInt8) × (List UInt8)))), .slice 0 37 2 (List.map enc_api_Field j22)]) (fun s => s = o27) ?_ ?_
        · clear hQ27
          refine J_region (by kernel_rfl) ?_
          (try simp only [go_sem, Nat.reduceEqDiff, ↓reduceIte])
          rcases ite_cases hP with ⟨hc, hP⟩ | ⟨hc, hP⟩
          · refine guard_not hc ?_
            (try simp only [go_sem, Nat.reduceEqDiff, ↓reduceIte])
            refine hold2 ?_
            exact join_n true (Option.some.inj hP) (so [0, 2, 3, 4])
          · refine guard_is hc ?_
            (try simp only [go_sem, Nat.reduceEqDiff, ↓reduceIte])
            refine hold2 ?_
            exact join_n (decide (b2.1 = 3)) (Option.some.inj hP) (so [0, 2, 3, 4])
        · intro j28 hs
          subst hs
          have hP := hQ27
          clear hQ27
          refine J_condV rfl ?_
          (try simp only [go_sem, Nat.reduceEqDiff, ↓reduceIte, Nat.reduceAdd, Nat.reduceSub, Nat.reduceLT, Nat.reduceMul, reduceCtorEq, Int.reduceToNat, Int.reduceLE, Int.reduceLT, Nat.reduceLeDiff])
          rcases ite_cases hP with ⟨hc, hP⟩ | ⟨hc, hP⟩
          · refine condV_t hc ?_
            refine J_region (by kernel_rfl) ?_
            (try simp only [go_sem, Nat.reduceEqDiff, ↓reduceIte, Nat.reduceAdd, Nat.reduceSub, Nat.reduceLT, Nat.reduceMul, reduceCtorEq, Int.reduceToNat, Int.reduceLE, Int.reduceLT, Nat.reduceLeDiff])
            obtain ⟨_, hz29, hP⟩ := bind_cases hP
            refine app_own (f := enc_api_Field) (j22 : List ((List UInt8) × (List UInt8))) ([([84, 114, 97, 110, 115, 102, 101, 114, 45, 69, 110, 99, 111, 100, 105, 110, 103], [99, 104, 117, 110, 107, 101, 100])] : List ((List UInt8) × (List UInt8))) rfl tyS_22 (by decide) (by simp only [go_sem, Nat.reduceEqDiff, ↓reduceIte, Nat.reduceAdd, Nat.reduceSub, Nat.reduceLT, Nat.reduceMul, reduceCtorEq, Int.reduceToNat, Int.reduceLE, Int.reduceLT, Nat.reduceLeDiff]; first | done | rfl | exact ⟨rfl, rfl⟩) hz29 ?_
            (try simp only [go_sem, Nat.reduceEqDiff, ↓reduceIte])
            refine hold2 ?_
            exact join_n (j22 ++ [([84, 114, 97, 110, 115, 102, 101, 114, 45, 69, 110, 99, 111, 100, 105, 110, 103], [99, 104, 117, 110, 107, 101, 100])]) (Option.some.inj hP) (so [0, 1, 2, 3])
          · refine condV_f hc ?_
            refine J_skip ?_
            exact join_n j22 (Option.some.inj hP) (so [0, 1, 2, 3])
      · intro j30 hs
        subst hs
        have hP := hQ26
        clear hQ26
        obtain ⟨o32, hP, hQ32⟩ := bind_cases hP
        refine J_join (fun (s : (List ((List UInt8) × (List UInt8)))) => envL [(3, .bptr 0 0), (6, .bptr 1 0), (7, .own 3 0 0 (List.length s))]) (fun (s : (List ((List UInt8) × (List UInt8)))) => [.box 24 [.int .i64 p1.1, .str p1.2.1, .view 2 (List.map enc_api_Field p1.2.2)], .box 24 [.int .i64 0, .str [], .own 2 0 0 (List.length ([] : List ((List UInt8) × (List UInt8))))], .slice 0 37 2 (List.map enc_api_Field ([] : List ((List UInt8) × (List UInt8)))), .slice 0 37 2 (List.map enc_api_Field s)]) (fun s => s = o32) ?_ ?_
        · clear hQ32
          refine J_seq ?_
          refine J_region (by kernel_rfl) ?_
          (try simp only [go_sem, Nat.reduceEqDiff, ↓reduceIte, Nat.reduceAdd, Nat.reduceSub, Nat.reduceLT, Nat.reduceMul, reduceCtorEq, Int.reduceToNat, Int.reduceLE, Int.reduceLT, Nat.reduceLeDiff])
          refine hold2 (then_n ?_)
          refine J_condV rfl ?_
          (try simp only [go_sem, Nat.reduceEqDiff, ↓reduceIte, Nat.reduceAdd, Nat.reduceSub, Nat.reduceLT, Nat.reduceMul, reduceCtorEq, Int.reduceToNat, Int.reduceLE, Int.reduceLT, Nat.reduceLeDiff])
          rcases ite_cases hP with ⟨hc, hP⟩ | ⟨hc, hP⟩
          · refine condV_t hc ?_
            refine J_region (by kernel_rfl) ?_
            (try simp only [go_sem, Nat.reduceEqDiff, ↓reduceIte, Nat.reduceAdd, Nat.reduceSub, Nat.reduceLT, Nat.reduceMul, reduceCtorEq, Int.reduceToNat, Int.reduceLE, Int.reduceLT, Nat.reduceLeDiff])
            obtain ⟨_, hz33, hP⟩ := bind_cases hP
            refine app_own (f := enc_api_Field) (j30 : List ((List UInt8) × (List UInt8))) ([([67, 111, 110, 110, 101, 99, 116, 105, 111, 110], [99, 108, 111, 115, 101])] : List ((List UInt8) × (List UInt8))) rfl tyS_22 (by decide) (by simp only [go_sem, Nat.reduceEqDiff, ↓reduceIte, Nat.reduceAdd, Nat.reduceSub, Nat.reduceLT, Nat.reduceMul, reduceCtorEq, Int.reduceToNat, Int.reduceLE, Int.reduceLT, Nat.reduceLeDiff]; first | done | rfl | exact ⟨rfl, rfl⟩) hz33 ?_
            (try simp only [go_sem, Nat.reduceEqDiff, ↓reduceIte])
            refine hold2 ?_
            exact join_n (j30 ++ [([67, 111, 110, 110, 101, 99, 116, 105, 111, 110], [99, 108, 111, 115, 101])]) (Option.some.inj hP) (so [0, 1, 2, 3])
          · refine condV_f hc ?_
            refine J_skip ?_
            exact join_n j30 (Option.some.inj hP) (so [0, 1, 2, 3])
        · intro j34 hs
          subst hs
          have hP := hQ32
          clear hQ32
          refine J_seq ?_
          refine J_region (by kernel_rfl) ?_
          (try simp only [go_sem, Nat.reduceEqDiff, ↓reduceIte, Nat.reduceAdd, Nat.reduceSub, Nat.reduceLT, Nat.reduceMul, reduceCtorEq, Int.reduceToNat, Int.reduceLE, Int.reduceLT, Nat.reduceLeDiff])
          refine hold2 (then_n ?_)
          refine J_ret (fin_ret ?_)
          obtain rfl := Option.some.inj hP
          (try simp only [go_sem, Nat.reduceEqDiff, ↓reduceIte])
          exact fo [3]
end Go.Proofs.YtgngopfpnidbaaaGreatDoor
