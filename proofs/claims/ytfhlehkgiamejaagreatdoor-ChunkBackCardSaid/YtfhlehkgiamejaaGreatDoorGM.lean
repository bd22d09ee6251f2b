/- Functions of the program, and pure ones that go the same ways: that the program's return what these compute. -/
import Derived.Test.YtfhlehkgiamejaaGreatDoorLibN
import Derived.Test.YtfhlehkgiamejaaGreatDoorAvPj
namespace Go.Proofs.YtfhlehkgiamejaaGreatDoor
open Go.Av
set_option linter.unusedVariables false
set_option linter.unusedSimpArgs false
/-- internal/strconv.isPowerOfTwo -/
def istrconv_isPowerOfTwo (x1 : Int) : Option (Bool) :=
  some (decide (iand .i64 x1 (isub .i64 x1 1) = 0))
set_option maxRecDepth 100000 in
set_option maxHeartbeats 40000000 in
theorem istrconv_isPowerOfTwo_ok {x1 : Int} {r : Bool} (hP : istrconv_isPowerOfTwo x1 = some r) : CallOK Tryz.prog 30 [.int .i64 x1] (.bool r) [] := by
  unfold istrconv_isPowerOfTwo at hP
  refine co 8 [.tmp 2] Tryz.func30 ?_
  refine J_seq ?_
  refine J_region (by kernel_rfl) ?_
  (try simp only [go_sem, Nat.reduceEqDiff, ↓reduceIte])
  refine hold2 (then_n ?_)
  refine J_seq ?_
  refine J_region (by kernel_rfl) ?_
  (try simp only [go_sem, Nat.reduceEqDiff, ↓reduceIte])
  refine hold2 (then_n ?_)
  refine J_ret (fin_ret ?_)
  obtain rfl := Option.some.inj hP
  (try simp only [go_sem, Nat.reduceEqDiff, ↓reduceIte])
  exact fo []
/-- math/bits.TrailingZeros32 -/
def bits_TrailingZeros32 (x1 : Int) : Option (Int) :=
  if decide (x1 = 0) then
    some 32
  else
    none
set_option maxRecDepth 100000 in
set_option maxHeartbeats 40000000 in
theorem bits_TrailingZeros32_ok {x1 : Int} {r : Int} (hP : bits_TrailingZeros32 x1 = some r) : CallOK Tryz.prog 32 [.int .u32 x1] (.int .i64 r) [] := by
  unfold bits_TrailingZeros32 at hP
  refine co 14 [.tmp 2] Tryz.func32 ?_
  refine J_seq ?_
  refine J_region (by kernel_rfl) ?_
  (try simp only [go_sem, Nat.reduceEqDiff, ↓reduceIte])
  refine hold2 (then_n ?_)
  refine J_seq ?_
  refine J_seq ?_
  refine J_region (by kernel_rfl) ?_
  (try simp only [go_sem, Nat.reduceEqDiff, ↓reduceIte])
  refine hold2 (then_n ?_)
  refine J_condV rfl ?_
  (try simp only [go_sem, Nat.reduceEqDiff, ↓reduceIte])
  rcases ite_cases hP with ⟨hc, hP⟩ | ⟨hc, hP⟩
  · refine condV_t hc ?_
    refine J_seq ?_
    refine J_region (by kernel_rfl) ?_
    (try simp only [go_sem, Nat.reduceEqDiff, ↓reduceIte])
    refine hold2 (then_n ?_)
    refine J_ret (then_ret (fin_ret ?_))
    obtain rfl := Option.some.inj hP
    (try simp only [go_sem, Nat.reduceEqDiff, ↓reduceIte])
    exact fo []
  · refine condV_f hc ?_
    refine J_skip (then_n ?_)
    refine J_seq ?_
    refine J_region (by kernel_rfl) ?_
    (try simp only [go_sem, Nat.reduceEqDiff, ↓reduceIte])
    refine chk_of (by decide) ?_
    (try simp only [go_sem, Nat.reduceEqDiff, ↓reduceIte])
    cases hP
/-- math/bits.TrailingZeros -/
def bits_TrailingZeros (x1 : Int) : Option (Int) :=
  (tzX x1).bind fun r2 =>
  some r2
set_option maxRecDepth 100000 in
set_option maxHeartbeats 40000000 in
theorem bits_TrailingZeros_ok {x1 : Int} {r : Int} (hP : bits_TrailingZeros x1 = some r) : CallOK Tryz.prog 31 [.int .u64 x1] (.int .i64 r) [] := by
  unfold bits_TrailingZeros at hP
  refine co 8 [.tmp 2] Tryz.func31 ?_
  refine J_seq ?_
  refine J_region (by kernel_rfl) ?_
  (try simp only [go_sem, Nat.reduceEqDiff, ↓reduceIte])
  refine hold2 (then_n ?_)
  refine J_seq ?_
  refine J_condV rfl ?_
  (try simp only [go_sem, Nat.reduceEqDiff, ↓reduceIte])
  refine J_skip (then_n ?_)
  refine J_seq ?_
  refine J_region (by kernel_rfl) ?_
  (try simp only [go_sem, Nat.reduceEqDiff, ↓reduceIte])
  obtain ⟨r2, hr2, hP⟩ := bind_cases hP
  refine call_ok [.int .u64 x1] (tzX_ok hr2) ⟨argR_m false rfl, trivial⟩ ?_
  (try simp only [go_sem, Nat.reduceEqDiff, ↓reduceIte])
  refine hold2 (then_n ?_)
  refine J_ret (fin_ret ?_)
  obtain rfl := Option.some.inj hP
  (try simp only [go_sem, Nat.reduceEqDiff, ↓reduceIte])
  exact fo []
/-- internal/strconv.formatBits -/
def istrconv_formatBits_L99 (base3 : Int) (r78 : Int) : Nat → Int → Int → (List (UInt8)) → Option (Int × Int × (List (UInt8)))
  | 0, _, _, _ => none
  | k95 + 1, u92, i93, l94 =>
    if decide (icv .i64 .u64 base3 ≤ u92) then
      (ixL [48, 49, 50, 51, 52, 53, 54, 55, 56, 57, 97, 98, 99, 100, 101, 102, 103, 104, 105, 106, 107, 108, 109, 110, 111, 112, 113, 114, 115, 116, 117, 118, 119, 120, 121, 122] (iand .u64 u92 (isub .u64 (icv .i64 .u64 base3) 1))).bind fun c100 =>
      (chk (decide (List.length l94 = 65))).bind fun _ =>
      (ixL l94 (isub .i64 i93 1)).bind fun x102 =>
      (chk (decide (0 ≤ icv .i64 .u64 r78))).bind fun _ =>
      istrconv_formatBits_L99 base3 r78 k95 (ishr .u64 u92 (icv .i64 .u64 r78)) (isub .i64 i93 1) (List.set l94 (Int.toNat (isub .i64 i93 1)) c100)
    else
      some (u92, i93, l94)
def istrconv_formatBits_L129 (base3 : Int) : Nat → Int → Int → (List (UInt8)) → Option (Int × Int × (List (UInt8)))
  | 0, _, _, _ => none
  | k125 + 1, u122, i123, l124 =>
    if decide (icv .i64 .u64 base3 ≤ u122) then
      (chk (decide (icv .i64 .u64 base3 ≠ 0))).bind fun _ =>
      (ixL [48, 49, 50, 51, 52, 53, 54, 55, 56, 57, 97, 98, 99, 100, 101, 102, 103, 104, 105, 106, 107, 108, 109, 110, 111, 112, 113, 114, 115, 116, 117, 118, 119, 120, 121, 122] (isub .u64 u122 (imul .u64 (iquo .u64 u122 (icv .i64 .u64 base3)) (icv .i64 .u64 base3)))).bind fun c131 =>
      (chk (decide (List.length l124 = 65))).bind fun _ =>
      (ixL l124 (isub .i64 i123 1)).bind fun x133 =>
      istrconv_formatBits_L129 base3 k125 (iquo .u64 u122 (icv .i64 .u64 base3)) (isub .i64 i123 1) (List.set l124 (Int.toNat (isub .i64 i123 1)) c131)
    else
      some (u122, i123, l124)
def istrconv_formatBits (dst1 : List (UInt8)) (u2 : Int) (base3 : Int) (neg4 : Bool) (append5 : Bool) : Option ((List (UInt8)) × (List UInt8)) :=
  (show Option (Unit) from
    (show Option (Bool) from
      if decide (base3 < 2) then
        some true
      else
        if decide (base3 = 10) then
          some true
        else
          some (decide (36 < base3))).bind fun j10 =>
      if j10 then
        none
      else
        some ()).bind fun j11 =>
    (show Option (Int) from
      if neg4 then
        some (ineg .u64 u2)
      else
        some u2).bind fun j13 =>
      (show Option (Int × (List (UInt8))) from
        (istrconv_isPowerOfTwo base3).bind fun r77 =>
        if r77 then
          (bits_TrailingZeros (icv .i64 .u64 base3)).bind fun r78 =>
          (istrconv_formatBits_L99 base3 r78 141836999983104 j13 65 (List.replicate 65 (bC 0))).bind fun j105 =>
            (ixL [48, 49, 50, 51, 52, 53, 54, 55, 56, 57, 97, 98, 99, 100, 101, 102, 103, 104, 105, 106, 107, 108, 109, 110, 111, 112, 113, 114, 115, 116, 117, 118, 119, 120, 121, 122] j105.1).bind fun c106 =>
            (chk (decide (List.length j105.2.2 = 65))).bind fun _ =>
            (ixL j105.2.2 (isub .i64 j105.2.1 1)).bind fun x108 =>
            some (isub .i64 j105.2.1 1, List.set j105.2.2 (Int.toNat (isub .i64 j105.2.1 1)) c106)
        else
          (istrconv_formatBits_L129 base3 141836999983104 j13 65 (List.replicate 65 (bC 0))).bind fun j135 =>
            (ixL [48, 49, 50, 51, 52, 53, 54, 55, 56, 57, 97, 98, 99, 100, 101, 102, 103, 104, 105, 106, 107, 108, 109, 110, 111, 112, 113, 114, 115, 116, 117, 118, 119, 120, 121, 122] j135.1).bind fun c136 =>
            (chk (decide (List.length j135.2.2 = 65))).bind fun _ =>
            (ixL j135.2.2 (isub .i64 j135.2.1 1)).bind fun x138 =>
            some (isub .i64 j135.2.1 1, List.set j135.2.2 (Int.toNat (isub .i64 j135.2.1 1)) c136)).bind fun j139 =>
        (show Option (Int × (List (UInt8))) from
          if neg4 then
            (chk (decide (List.length j139.2 = 65))).bind fun _ =>
            (ixL j139.2 (isub .i64 j139.1 1)).bind fun x144 =>
            some (isub .i64 j139.1 1, List.set j139.2 (Int.toNat (isub .i64 j139.1 1)) (bC 45))
          else
            some (j139.1, j139.2)).bind fun j145 =>
          if append5 then
            (chk (decide (List.length j145.2 = 65))).bind fun _ =>
            (slL j145.2 j145.1 ((List.length j145.2 : Nat) : Int)).bind fun s147 =>
            none
          else
            (chk (decide (List.length j145.2 = 65))).bind fun _ =>
            (slL j145.2 j145.1 ((List.length j145.2 : Nat) : Int)).bind fun s149 =>
            some (([] : List UInt8), s149)
set_option maxRecDepth 100000 in
set_option maxHeartbeats 40000000 in
theorem istrconv_formatBits_ok {dst1 : List (UInt8)} {u2 : Int} {base3 : Int} {neg4 : Bool} {append5 : Bool} {r : (List (UInt8)) × (List UInt8)} (hP : istrconv_formatBits dst1 u2 base3 neg4 append5 = some r) : CallOK Tryz.prog 26 [.view 1 (List.map encB dst1), .int .u64 u2, .int .i64 base3, .bool neg4, .bool append5] (.tup [.own 0 0 0 (List.length r.1), .str r.2]) [.slice 0 5 1 (List.map encB r.1)] := by
  unfold istrconv_formatBits at hP
  refine co 102 [.tmp 10, .tmp 11] Tryz.func26 ?_
  refine J_seq ?_
  refine J_region (by kernel_rfl) ?_
  (try simp only [go_sem, Nat.reduceEqDiff, ↓reduceIte])
  refine hold2 (then_n ?_)
  obtain ⟨o8, hP, hQ8⟩ := bind_cases hP
  refine J_join (fun (s : Unit) => envL [(0, .view 1 (List.map encB dst1)), (1, .int .u64 u2), (2, .int .i64 base3), (3, .bool neg4), (4, .bool append5), (10, .own 0 0 0 (List.length ([] : List UInt8))), (11, .str [])]) (fun (s : Unit) => [.slice 0 5 1 (List.map encB ([] : List UInt8))]) (fun s => s = o8) ?_ ?_
  · clear hQ8
    obtain ⟨o9, hP, hQ9⟩ := bind_cases hP
    refine J_join (fun (s : Bool) => envL [(0, .view 1 (List.map encB dst1)), (1, .int .u64 u2), (2, .int .i64 base3), (3, .bool neg4), (4, .bool append5), (10, .own 0 0 0 (List.length ([] : List UInt8))), (11, .str []), (28, .bool s)]) (fun (s : Bool) => [.slice 0 5 1 (List.map encB ([] : List UInt8))]) (fun s => s = o9) ?_ ?_
    · clear hQ9
      refine J_region (by kernel_rfl) ?_
      (try simp only [go_sem, Nat.reduceEqDiff, ↓reduceIte])
      rcases ite_cases hP with ⟨hc, hP⟩ | ⟨hc, hP⟩
      · refine guard_not hc ?_
        (try simp only [go_sem, Nat.reduceEqDiff, ↓reduceIte])
        refine hold2 ?_
        exact join_n true (Option.some.inj hP) (so [0])
      · refine guard_is hc ?_
        (try simp only [go_sem, Nat.reduceEqDiff, ↓reduceIte])
        rcases ite_cases hP with ⟨hc, hP⟩ | ⟨hc, hP⟩
        · refine guard_not hc ?_
          (try simp only [go_sem, Nat.reduceEqDiff, ↓reduceIte])
          refine hold2 ?_
          exact join_n true (Option.some.inj hP) (so [0])
        · refine guard_is hc ?_
          (try simp only [go_sem, Nat.reduceEqDiff, ↓reduceIte])
          refine hold2 ?_
          exact join_n (decide (36 < base3)) (Option.some.inj hP) (so [0])
    · intro j10 hs
      subst hs
      have hP := hQ9
      clear hQ9
      refine J_condV rfl ?_
      (try simp only [go_sem, Nat.reduceEqDiff, ↓reduceIte])
      rcases ite_cases hP with ⟨hc, hP⟩ | ⟨hc, hP⟩
      · refine condV_t hc ?_
        refine J_region (by kernel_rfl) ?_
        (try simp only [go_sem, Nat.reduceEqDiff, ↓reduceIte])
        cases hP
      · refine condV_f hc ?_
        refine J_skip ?_
        exact join_n () (Option.some.inj hP) (so [0])
  · intro j11 hs
    subst hs
    have hP := hQ8
    clear hQ8
    refine J_seq ?_
    refine J_region (by kernel_rfl) ?_
    (try simp only [go_sem, Nat.reduceEqDiff, ↓reduceIte])
    refine hold2 (then_n ?_)
    refine J_arr 1 12 67 (List.map encB (List.replicate 65 (bC 0))) rfl rfl (cl_map (fun _ => ⟨rfl, rfl⟩)) (by simp only [List.length_map, List.length_replicate]; decide) ?_
    (try simp only [go_sem, Nat.reduceEqDiff, ↓reduceIte])
    refine J_seq ?_
    refine J_region (by kernel_rfl) ?_
    (try simp only [go_sem, Nat.reduceEqDiff, ↓reduceIte])
    refine hold2 (then_n ?_)
    obtain ⟨o12, hP, hQ12⟩ := bind_cases hP
    refine J_join (fun (s : Int) => envL [(0, .view 1 (List.map encB dst1)), (1, .int .u64 s), (2, .int .i64 base3), (3, .bool neg4), (4, .bool append5), (10, .own 0 0 0 (List.length ([] : List UInt8))), (11, .str []), (12, .optr 1 0 0 0), (13, .int .i64 65)]) (fun (s : Int) => [.slice 0 5 1 (List.map encB ([] : List UInt8)), .slice 0 67 1 (List.map encB (List.replicate 65 (bC 0)))]) (fun s => s = o12) ?_ ?_
    · clear hQ12
      refine J_seq ?_
      refine J_region (by kernel_rfl) ?_
      (try simp only [go_sem, Nat.reduceEqDiff, ↓reduceIte])
      refine hold2 (then_n ?_)
      refine J_condV rfl ?_
      (try simp only [go_sem, Nat.reduceEqDiff, ↓reduceIte])
      rcases ite_cases hP with ⟨hc, hP⟩ | ⟨hc, hP⟩
      · refine condV_t hc ?_
        refine J_region (by kernel_rfl) ?_
        (try simp only [go_sem, Nat.reduceEqDiff, ↓reduceIte])
        refine hold2 ?_
        exact join_n (ineg .u64 u2) (Option.some.inj hP) (so [0, 2])
      · refine condV_f hc ?_
        refine J_skip ?_
        exact join_n u2 (Option.some.inj hP) (so [0, 2])
    · intro j13 hs
      subst hs
      have hP := hQ12
      clear hQ12
      obtain ⟨o76, hP, hQ76⟩ := bind_cases hP
      refine J_join (fun (s : Int × (List (UInt8))) => envL [(0, .view 1 (List.map encB dst1)), (3, .bool neg4), (4, .bool append5), (10, .own 0 0 0 (List.length ([] : List UInt8))), (11, .str []), (12, .optr 1 0 0 0), (13, .int .i64 s.1)]) (fun (s : Int × (List (UInt8))) => [.slice 0 5 1 (List.map encB ([] : List UInt8)), .slice 0 67 1 (List.map encB s.2)]) (fun s => s = o76) ?_ ?_
      · clear hQ76
        refine J_seq ?_
        refine J_region (by kernel_rfl) ?_
        (try simp only [go_sem, Nat.reduceEqDiff, ↓reduceIte])
        obtain ⟨r77, hr77, hP⟩ := bind_cases hP
        refine call_ok [.int .i64 base3] (istrconv_isPowerOfTwo_ok hr77) ⟨argR_m false rfl, trivial⟩ ?_
        (try simp only [go_sem, Nat.reduceEqDiff, ↓reduceIte])
        refine hold2 (then_n ?_)
        refine J_condV rfl ?_
        (try simp only [go_sem, Nat.reduceEqDiff, ↓reduceIte])
        rcases ite_cases hP with ⟨hc, hP⟩ | ⟨hc, hP⟩
        · refine condV_t hc ?_
          refine J_seq ?_
          refine J_region (by kernel_rfl) ?_
          (try simp only [go_sem, Nat.reduceEqDiff, ↓reduceIte])
          obtain ⟨r78, hr78, hP⟩ := bind_cases hP
          refine call_ok [.int .u64 (icv .i64 .u64 base3)] (bits_TrailingZeros_ok hr78) ⟨argR_m false rfl, trivial⟩ ?_
          (try simp only [go_sem, Nat.reduceEqDiff, ↓reduceIte])
          refine hold2 (then_n ?_)
          refine J_seq ?_
          refine J_region (by kernel_rfl) ?_
          (try simp only [go_sem, Nat.reduceEqDiff, ↓reduceIte])
          refine hold2 (then_n ?_)
          refine J_seq ?_
          refine J_region (by kernel_rfl) ?_
          (try simp only [go_sem, Nat.reduceEqDiff, ↓reduceIte])
          refine hold2 (then_n ?_)
          refine J_seq ?_
          obtain ⟨o104, hP, hQ99⟩ := bind_cases hP
          refine J_joinK0 (fun (s : Int × Int × (List (UInt8))) => envL [(0, .view 1 (List.map encB dst1)), (1, .int .u64 s.1), (3, .bool neg4), (4, .bool append5), (10, .own 0 0 0 (List.length ([] : List UInt8))), (11, .str []), (12, .optr 1 0 0 0), (13, .int .i64 s.2.1)]) (fun (s : Int × Int × (List (UInt8))) => [.slice 0 5 1 (List.map encB ([] : List UInt8)), .slice 0 67 1 (List.map encB s.2.2)]) (fun s => s = o104) ?_ ?_
          · clear hQ99
            refine J_block ?_
            refine J_loop (σ := Nat × Int × Int × (List (UInt8))) (fun (s : Nat × Int × Int × (List (UInt8))) => envL [(0, .view 1 (List.map encB dst1)), (1, .int .u64 s.2.1), (3, .bool neg4), (4, .bool append5), (10, .own 0 0 0 (List.length ([] : List UInt8))), (11, .str []), (12, .optr 1 0 0 0), (13, .int .i64 s.2.2.1), (14, .int .u64 (icv .i64 .u64 r78)), (15, .int .u64 (icv .i64 .u64 base3)), (16, .int .u64 (isub .u64 (icv .i64 .u64 base3) 1))]) (fun (s : Nat × Int × Int × (List (UInt8))) => [.slice 0 5 1 (List.map encB ([] : List UInt8)), .slice 0 67 1 (List.map encB s.2.2.2)]) (fun s => istrconv_formatBits_L99 base3 r78 s.1 s.2.1 s.2.2.1 s.2.2.2 = some o104) (fun s => s.1) (141836999983104, j13, 65, List.replicate 65 (bC 0)) hP (so [0, 1]) ?_
            rintro ⟨k95, u92, i93, l94⟩ hP
            dsimp only at hP ⊢
            cases k95 with
            | zero => simp [istrconv_formatBits_L99] at hP
            | succ k95 =>
              simp only [istrconv_formatBits_L99] at hP
              refine J_seq ?_
              refine J_seq ?_
              refine J_region (by kernel_rfl) ?_
              (try simp only [go_sem, Nat.reduceEqDiff, ↓reduceIte])
              refine hold2 (then_n ?_)
              refine J_condV rfl ?_
              (try simp only [go_sem, Nat.reduceEqDiff, ↓reduceIte])
              rcases ite_cases hP with ⟨hc, hP⟩ | ⟨hc, hP⟩
              · refine condV_t hc ?_
                refine J_skip (then_n ?_)
                refine J_block ?_
                refine J_seq ?_
                refine J_region (by kernel_rfl) ?_
                (try simp only [go_sem, Nat.reduceEqDiff, ↓reduceIte])
                refine hold2 (then_n ?_)
                refine J_seq ?_
                refine J_region (by kernel_rfl) ?_
                (try simp only [go_sem, Nat.reduceEqDiff, ↓reduceIte])
                obtain ⟨c100, hc100, hP⟩ := bind_cases hP
                refine ixS_of hc100 ?_
                (try simp only [go_sem, Nat.reduceEqDiff, ↓reduceIte])
                obtain ⟨_, hz101, hP⟩ := bind_cases hP
                refine arK_of hz101 (fun _ => rfl) ?_
                (try simp only [go_sem, Nat.reduceEqDiff, ↓reduceIte])
                obtain ⟨x102, hx102, hP⟩ := bind_cases hP
                refine ixO_of hx102 ?_
                (try simp only [go_sem, Nat.reduceEqDiff, ↓reduceIte])
                refine getK_of (f := encB) hx102 ?_
                (try simp only [go_sem, Nat.reduceEqDiff, ↓reduceIte])
                refine hold2 (then_n ?_)
                refine J_region (by kernel_rfl) ?_
                (try simp only [go_sem, Nat.reduceEqDiff, ↓reduceIte])
                obtain ⟨_, hz103, hP⟩ := bind_cases hP
                refine chk_of (chk_prop hz103) ?_
                (try simp only [go_sem, Nat.reduceEqDiff, ↓reduceIte])
                refine hold2 (block_n ?_)
                exact loop_n (k95, ishr .u64 u92 (icv .i64 .u64 r78), isub .i64 i93 1, List.set l94 (Int.toNat (isub .i64 i93 1)) c100) hP (Nat.lt_succ_self _) (so [0, 1])
              · refine condV_f hc ?_
                refine J_exit (then_exit (loop_exit (block_eq ?_)))
                exact join_n (u92, i93, l94) (Option.some.inj hP) (so [0, 1])
          · intro j105 hs
            subst hs
            have hP := hQ99
            clear hQ99
            refine then_n ?_
            refine J_seq ?_
            refine J_region (by kernel_rfl) ?_
            (try simp only [go_sem, Nat.reduceEqDiff, ↓reduceIte])
            refine hold2 (then_n ?_)
            refine J_region (by kernel_rfl) ?_
            (try simp only [go_sem, Nat.reduceEqDiff, ↓reduceIte])
            obtain ⟨c106, hc106, hP⟩ := bind_cases hP
            refine ixS_of hc106 ?_
            (try simp only [go_sem, Nat.reduceEqDiff, ↓reduceIte])
            obtain ⟨_, hz107, hP⟩ := bind_cases hP
            refine arK_of hz107 (fun _ => rfl) ?_
            (try simp only [go_sem, Nat.reduceEqDiff, ↓reduceIte])
            obtain ⟨x108, hx108, hP⟩ := bind_cases hP
            refine ixO_of hx108 ?_
            (try simp only [go_sem, Nat.reduceEqDiff, ↓reduceIte])
            refine getK_of (f := encB) hx108 ?_
            (try simp only [go_sem, Nat.reduceEqDiff, ↓reduceIte])
            refine hold2 ?_
            exact join_n (isub .i64 j105.2.1 1, List.set j105.2.2 (Int.toNat (isub .i64 j105.2.1 1)) c106) (Option.some.inj hP) (so [0, 1])
        · refine condV_f hc ?_
          refine J_seq ?_
          refine J_region (by kernel_rfl) ?_
          (try simp only [go_sem, Nat.reduceEqDiff, ↓reduceIte])
          refine hold2 (then_n ?_)
          refine J_seq ?_
          obtain ⟨o134, hP, hQ129⟩ := bind_cases hP
          refine J_joinK0 (fun (s : Int × Int × (List (UInt8))) => envL [(0, .view 1 (List.map encB dst1)), (1, .int .u64 s.1), (3, .bool neg4), (4, .bool append5), (10, .own 0 0 0 (List.length ([] : List UInt8))), (11, .str []), (12, .optr 1 0 0 0), (13, .int .i64 s.2.1)]) (fun (s : Int × Int × (List (UInt8))) => [.slice 0 5 1 (List.map encB ([] : List UInt8)), .slice 0 67 1 (List.map encB s.2.2)]) (fun s => s = o134) ?_ ?_
          · clear hQ129
            refine J_block ?_
            refine J_loop (σ := Nat × Int × Int × (List (UInt8))) (fun (s : Nat × Int × Int × (List (UInt8))) => envL [(0, .view 1 (List.map encB dst1)), (1, .int .u64 s.2.1), (3, .bool neg4), (4, .bool append5), (10, .own 0 0 0 (List.length ([] : List UInt8))), (11, .str []), (12, .optr 1 0 0 0), (13, .int .i64 s.2.2.1), (17, .int .u64 (icv .i64 .u64 base3))]) (fun (s : Nat × Int × Int × (List (UInt8))) => [.slice 0 5 1 (List.map encB ([] : List UInt8)), .slice 0 67 1 (List.map encB s.2.2.2)]) (fun s => istrconv_formatBits_L129 base3 s.1 s.2.1 s.2.2.1 s.2.2.2 = some o134) (fun s => s.1) (141836999983104, j13, 65, List.replicate 65 (bC 0)) hP (so [0, 1]) ?_
            rintro ⟨k125, u122, i123, l124⟩ hP
            dsimp only at hP ⊢
            cases k125 with
            | zero => simp [istrconv_formatBits_L129] at hP
            | succ k125 =>
              simp only [istrconv_formatBits_L129] at hP
              refine J_seq ?_
              refine J_seq ?_
              refine J_region (by kernel_rfl) ?_
              (try simp only [go_sem, Nat.reduceEqDiff, ↓reduceIte])
              refine hold2 (then_n ?_)
              refine J_condV rfl ?_
              (try simp only [go_sem, Nat.reduceEqDiff, ↓reduceIte])
              rcases ite_cases hP with ⟨hc, hP⟩ | ⟨hc, hP⟩
              · refine condV_t hc ?_
                refine J_skip (then_n ?_)
                refine J_block ?_
                refine J_seq ?_
                refine J_region (by kernel_rfl) ?_
                (try simp only [go_sem, Nat.reduceEqDiff, ↓reduceIte])
                refine hold2 (then_n ?_)
                refine J_seq ?_
                refine J_region (by kernel_rfl) ?_
                (try simp only [go_sem, Nat.reduceEqDiff, ↓reduceIte])
                obtain ⟨_, hz130, hP⟩ := bind_cases hP
                refine chk_of (chk_prop hz130) ?_
                (try simp only [go_sem, Nat.reduceEqDiff, ↓reduceIte])
                refine hold2 (then_n ?_)
                refine J_seq ?_
                refine J_region (by kernel_rfl) ?_
                (try simp only [go_sem, Nat.reduceEqDiff, ↓reduceIte])
                obtain ⟨c131, hc131, hP⟩ := bind_cases hP
                refine ixS_of hc131 ?_
                (try simp only [go_sem, Nat.reduceEqDiff, ↓reduceIte])
                obtain ⟨_, hz132, hP⟩ := bind_cases hP
                refine arK_of hz132 (fun _ => rfl) ?_
                (try simp only [go_sem, Nat.reduceEqDiff, ↓reduceIte])
                obtain ⟨x133, hx133, hP⟩ := bind_cases hP
                refine ixO_of hx133 ?_
                (try simp only [go_sem, Nat.reduceEqDiff, ↓reduceIte])
                refine getK_of (f := encB) hx133 ?_
                (try simp only [go_sem, Nat.reduceEqDiff, ↓reduceIte])
                refine hold2 (then_n ?_)
                refine J_region (by kernel_rfl) ?_
                (try simp only [go_sem, Nat.reduceEqDiff, ↓reduceIte])
                refine hold2 (block_n ?_)
                exact loop_n (k125, iquo .u64 u122 (icv .i64 .u64 base3), isub .i64 i123 1, List.set l124 (Int.toNat (isub .i64 i123 1)) c131) hP (Nat.lt_succ_self _) (so [0, 1])
              · refine condV_f hc ?_
                refine J_exit (then_exit (loop_exit (block_eq ?_)))
                exact join_n (u122, i123, l124) (Option.some.inj hP) (so [0, 1])
          · intro j135 hs
            subst hs
            have hP := hQ129
            clear hQ129
            refine then_n ?_
            refine J_seq ?_
            refine J_region (by kernel_rfl) ?_
            (try simp only [go_sem, Nat.reduceEqDiff, ↓reduceIte])
            refine hold2 (then_n ?_)
            refine J_region (by kernel_rfl) ?_
            (try simp only [go_sem, Nat.reduceEqDiff, ↓reduceIte])
            obtain ⟨c136, hc136, hP⟩ := bind_cases hP
            refine ixS_of hc136 ?_
            (try simp only [go_sem, Nat.reduceEqDiff, ↓reduceIte])
            obtain ⟨_, hz137, hP⟩ := bind_cases hP
            refine arK_of hz137 (fun _ => rfl) ?_
            (try simp only [go_sem, Nat.reduceEqDiff, ↓reduceIte])
            obtain ⟨x138, hx138, hP⟩ := bind_cases hP
            refine ixO_of hx138 ?_
            (try simp only [go_sem, Nat.reduceEqDiff, ↓reduceIte])
            refine getK_of (f := encB) hx138 ?_
            (try simp only [go_sem, Nat.reduceEqDiff, ↓reduceIte])
            refine hold2 ?_
            exact join_n (isub .i64 j135.2.1 1, List.set j135.2.2 (Int.toNat (isub .i64 j135.2.1 1)) c136) (Option.some.inj hP) (so [0, 1])
      · intro j139 hs
        subst hs
        have hP := hQ76
        clear hQ76
        obtain ⟨o142, hP, hQ142⟩ := bind_cases hP
        refine J_join (fun (s : Int × (List (UInt8))) => envL [(0, .view 1 (List.map encB dst1)), (4, .bool append5), (10, .own 0 0 0 (List.length ([] : List UInt8))), (11, .str []), (12, .optr 1 0 0 0), (13, .int .i64 s.1)]) (fun (s : Int × (List (UInt8))) => [.slice 0 5 1 (List.map encB ([] : List UInt8)), .slice 0 67 1 (List.map encB s.2)]) (fun s => s = o142) ?_ ?_
        · clear hQ142
          refine J_seq ?_
          refine J_region (by kernel_rfl) ?_
          (try simp only [go_sem, Nat.reduceEqDiff, ↓reduceIte])
          refine hold2 (then_n ?_)
          refine J_condV rfl ?_
          (try simp only [go_sem, Nat.reduceEqDiff, ↓reduceIte])
          rcases ite_cases hP with ⟨hc, hP⟩ | ⟨hc, hP⟩
          · refine condV_t hc ?_
            refine J_seq ?_
            refine J_region (by kernel_rfl) ?_
            (try simp only [go_sem, Nat.reduceEqDiff, ↓reduceIte])
            refine hold2 (then_n ?_)
            refine J_region (by kernel_rfl) ?_
            (try simp only [go_sem, Nat.reduceEqDiff, ↓reduceIte])
            obtain ⟨_, hz143, hP⟩ := bind_cases hP
            refine arK_of hz143 (fun _ => rfl) ?_
            (try simp only [go_sem, Nat.reduceEqDiff, ↓reduceIte])
            obtain ⟨x144, hx144, hP⟩ := bind_cases hP
            refine ixO_of hx144 ?_
            (try simp only [go_sem, Nat.reduceEqDiff, ↓reduceIte])
            refine getK_of (f := encB) hx144 ?_
            (try simp only [go_sem, Nat.reduceEqDiff, ↓reduceIte])
            refine hold2 ?_
            exact join_n (isub .i64 j139.1 1, List.set j139.2 (Int.toNat (isub .i64 j139.1 1)) (bC 45)) (Option.some.inj hP) (so [0, 1])
          · refine condV_f hc ?_
            refine J_skip ?_
            exact join_n (j139.1, j139.2) (Option.some.inj hP) (so [0, 1])
        · intro j145 hs
          subst hs
          have hP := hQ142
          clear hQ142
          refine J_seq ?_
          refine J_seq ?_
          refine J_region (by kernel_rfl) ?_
          (try simp only [go_sem, Nat.reduceEqDiff, ↓reduceIte])
          refine hold2 (then_n ?_)
          refine J_condV rfl ?_
          (try simp only [go_sem, Nat.reduceEqDiff, ↓reduceIte])
          rcases ite_cases hP with ⟨hc, hP⟩ | ⟨hc, hP⟩
          · refine condV_t hc ?_
            refine J_seq ?_
            refine J_freeze 1 12 0 _ _ rfl rfl (ce_map (fun _ => rfl)) ?_
            (try simp only [go_sem, Nat.reduceEqDiff, ↓reduceIte])
            refine J_region (by kernel_rfl) ?_
            (try simp only [go_sem, Nat.reduceEqDiff, ↓reduceIte])
            obtain ⟨_, hz146, hP⟩ := bind_cases hP
            refine arK_of hz146 (fun _ => rfl) ?_
            (try simp only [go_sem, Nat.reduceEqDiff, ↓reduceIte])
            obtain ⟨s147, hs147, hP⟩ := bind_cases hP
            refine slV_of hs147 ?_
            (try simp only [go_sem, Nat.reduceEqDiff, ↓reduceIte])
            cases hP
          · refine condV_f hc ?_
            refine J_skip (then_n ?_)
            refine J_seq ?_
            refine J_freeze 1 12 0 _ _ rfl rfl (ce_map (fun _ => rfl)) ?_
            (try simp only [go_sem, Nat.reduceEqDiff, ↓reduceIte])
            refine J_region (by kernel_rfl) ?_
            (try simp only [go_sem, Nat.reduceEqDiff, ↓reduceIte])
            obtain ⟨_, hz148, hP⟩ := bind_cases hP
            refine arK_of hz148 (fun _ => rfl) ?_
            (try simp only [go_sem, Nat.reduceEqDiff, ↓reduceIte])
            obtain ⟨s149, hs149, hP⟩ := bind_cases hP
            refine slV_of hs149 ?_
            (try simp only [go_sem, Nat.reduceEqDiff, ↓reduceIte])
            first | refine bytesK_map ?_ | refine bytesK_of s149 rfl ?_
            (try simp only [go_sem, Nat.reduceEqDiff, ↓reduceIte])
            refine hold2 (then_n ?_)
            refine J_ret (fin_ret ?_)
            obtain rfl := Option.some.inj hP
            (try simp only [go_sem, Nat.reduceEqDiff, ↓reduceIte])
            exact fo [0]
/-- internal/strconv.FormatInt -/
def istrconv_FormatInt (i1 : Int) (base2 : Int) : Option ((List UInt8)) :=
  if decide (base2 = 10) then
    (show Option (Bool) from
      if decide (0 ≤ i1) then
        some (decide (i1 < 100))
      else
        some false).bind fun j4 =>
      if j4 then
        none
      else
        (show Option (Int) from
          if decide (i1 < 0) then
            some (ineg .u64 (icv .i64 .u64 i1))
          else
            some (icv .i64 .u64 i1)).bind fun j6 =>
          none
  else
    (istrconv_formatBits ([] : List UInt8) (icv .i64 .u64 i1) base2 (decide (i1 < 0)) false).bind fun r7 =>
    some r7.2
set_option maxRecDepth 100000 in
set_option maxHeartbeats 40000000 in
theorem istrconv_FormatInt_ok {i1 : Int} {base2 : Int} {r : (List UInt8)} (hP : istrconv_FormatInt i1 base2 = some r) : CallOK Tryz.prog 22 [.int .i64 i1, .int .i64 base2] (.str r) [] := by
  unfold istrconv_FormatInt at hP
  refine co 54 [.tmp 4] Tryz.func22 ?_
  refine J_seq ?_
  refine J_region (by kernel_rfl) ?_
  (try simp only [go_sem, Nat.reduceEqDiff, ↓reduceIte])
  refine hold2 (then_n ?_)
  refine J_seq ?_
  refine J_seq ?_
  refine J_region (by kernel_rfl) ?_
  (try simp only [go_sem, Nat.reduceEqDiff, ↓reduceIte])
  refine hold2 (then_n ?_)
  refine J_condV rfl ?_
  (try simp only [go_sem, Nat.reduceEqDiff, ↓reduceIte])
  rcases ite_cases hP with ⟨hc, hP⟩ | ⟨hc, hP⟩
  · refine condV_t hc ?_
    refine J_seq ?_
    obtain ⟨o3, hP, hQ3⟩ := bind_cases hP
    refine J_join (fun (s : Bool) => envL [(0, .int .i64 i1), (17, .bool s)]) (fun (s : Bool) => []) (fun s => s = o3) ?_ ?_
    · clear hQ3
      refine J_region (by kernel_rfl) ?_
      (try simp only [go_sem, Nat.reduceEqDiff, ↓reduceIte])
      rcases ite_cases hP with ⟨hc, hP⟩ | ⟨hc, hP⟩
      · refine guard_is hc ?_
        (try simp only [go_sem, Nat.reduceEqDiff, ↓reduceIte])
        refine hold2 ?_
        exact join_n (decide (i1 < 100)) (Option.some.inj hP) (so [])
      · refine guard_not hc ?_
        (try simp only [go_sem, Nat.reduceEqDiff, ↓reduceIte])
        refine hold2 ?_
        exact join_n false (Option.some.inj hP) (so [])
    · intro j4 hs
      subst hs
      have hP := hQ3
      clear hQ3
      refine J_condV rfl ?_
      (try simp only [go_sem, Nat.reduceEqDiff, ↓reduceIte])
      rcases ite_cases hP with ⟨hc, hP⟩ | ⟨hc, hP⟩
      · refine condV_t hc ?_
        refine J_seq ?_
        refine J_region (by kernel_rfl) ?_
        (try simp only [go_sem, Nat.reduceEqDiff, ↓reduceIte])
        cases hP
      · refine condV_f hc ?_
        refine J_skip (then_n ?_)
        refine J_seq ?_
        refine J_region (by kernel_rfl) ?_
        (try simp only [go_sem, Nat.reduceEqDiff, ↓reduceIte])
        refine hold2 (then_n ?_)
        refine J_seq ?_
        refine J_region (by kernel_rfl) ?_
        (try simp only [go_sem, Nat.reduceEqDiff, ↓reduceIte])
        refine hold2 (then_n ?_)
        obtain ⟨o5, hP, hQ5⟩ := bind_cases hP
        refine J_join (fun (s : Int) => envL [(0, .int .i64 i1), (5, .bptr 0 0), (6, .int .u64 s)]) (fun (s : Int) => [.box 57 [.int .u8 (b2i (bC 0)), .int .u8 (b2i (bC 0)), .int .u8 (b2i (bC 0)), .int .u8 (b2i (bC 0)), .int .u8 (b2i (bC 0)), .int .u8 (b2i (bC 0)), .int .u8 (b2i (bC 0)), .int .u8 (b2i (bC 0)), .int .u8 (b2i (bC 0)), .int .u8 (b2i (bC 0)), .int .u8 (b2i (bC 0)), .int .u8 (b2i (bC 0)), .int .u8 (b2i (bC 0)), .int .u8 (b2i (bC 0)), .int .u8 (b2i (bC 0)), .int .u8 (b2i (bC 0)), .int .u8 (b2i (bC 0)), .int .u8 (b2i (bC 0)), .int .u8 (b2i (bC 0)), .int .u8 (b2i (bC 0)), .int .u8 (b2i (bC 0)), .int .u8 (b2i (bC 0)), .int .u8 (b2i (bC 0)), .int .u8 (b2i (bC 0))]]) (fun s => s = o5) ?_ ?_
        · clear hQ5
          refine J_seq ?_
          refine J_region (by kernel_rfl) ?_
          (try simp only [go_sem, Nat.reduceEqDiff, ↓reduceIte])
          refine hold2 (then_n ?_)
          refine J_condV rfl ?_
          (try simp only [go_sem, Nat.reduceEqDiff, ↓reduceIte])
          rcases ite_cases hP with ⟨hc, hP⟩ | ⟨hc, hP⟩
          · refine condV_t hc ?_
            refine J_region (by kernel_rfl) ?_
            (try simp only [go_sem, Nat.reduceEqDiff, ↓reduceIte])
            refine hold2 ?_
            exact join_n (ineg .u64 (icv .i64 .u64 i1)) (Option.some.inj hP) (so [0])
          · refine condV_f hc ?_
            refine J_skip ?_
            exact join_n (icv .i64 .u64 i1) (Option.some.inj hP) (so [0])
        · intro j6 hs
          subst hs
          have hP := hQ5
          clear hQ5
          refine J_seq ?_
          refine J_region (by kernel_rfl) ?_
          (try simp only [go_sem, Nat.reduceEqDiff, ↓reduceIte])
          cases hP
  · refine condV_f hc ?_
    refine J_skip (then_n ?_)
    refine J_seq ?_
    refine J_region (by kernel_rfl) ?_
    (try simp only [go_sem, Nat.reduceEqDiff, ↓reduceIte])
    obtain ⟨r7, hr7, hP⟩ := bind_cases hP
    refine call_ok [.view 1 (List.map encB []), .int .u64 (icv .i64 .u64 i1), .int .i64 base2, .bool (decide (i1 < 0)), .bool false] (istrconv_formatBits_ok hr7) ⟨argR_nil, argR_m false rfl, argR_m false rfl, argR_m false rfl, argR_m false rfl, trivial⟩ ?_
    (try simp only [go_sem, Nat.reduceEqDiff, ↓reduceIte])
    refine hold2 (then_n ?_)
    refine J_seq ?_
    refine J_region (by kernel_rfl) ?_
    (try simp only [go_sem, Nat.reduceEqDiff, ↓reduceIte])
    refine hold2 (then_n ?_)
    refine J_ret (fin_ret ?_)
    obtain rfl := Option.some.inj hP
    (try simp only [go_sem, Nat.reduceEqDiff, ↓reduceIte])
    exact fo []
end Go.Proofs.YtfhlehkgiamejaaGreatDoor
