/- Functions of the program, and pure ones that go the same ways: that the program's return what these compute. -/
import Derived.Test.YtbcmngnmfneeaaaGreatDoorGI
import Derived.Test.YtbcmngnmfneeaaaGreatDoorAvJ
namespace Go.Proofs.YtbcmngnmfneeaaaGreatDoor
open Go.Av
set_option linter.unusedVariables false
set_option linter.unusedSimpArgs false
/-- colander/colanderref05.host -/
def ref05_host_L128 (s1 : List UInt8) : Nat → Int → Option (Int)
  | 0, _ => none
  | k66 + 1, n65 =>
    (show Option (Bool) from
      if decide (n65 < (List.length s1 : Int)) then
        (ixL s1 n65).bind fun c160 =>
        if decide (b2i (bC 97) ≤ b2i c160) then
          (ixL s1 n65).bind fun c161 =>
          if decide (b2i c161 ≤ b2i (bC 122)) then
            some true
          else
            (ixL s1 n65).bind fun c162 =>
            if decide (b2i (bC 65) ≤ b2i c162) then
              (ixL s1 n65).bind fun c163 =>
              if decide (b2i c163 ≤ b2i (bC 90)) then
                some true
              else
                (ixL s1 n65).bind fun c164 =>
                if decide (b2i (bC 48) ≤ b2i c164) then
                  (ixL s1 n65).bind fun c165 =>
                  if decide (b2i c165 ≤ b2i (bC 57)) then
                    some true
                  else
                    (ixL s1 n65).bind fun c166 =>
                    if decide (b2i c166 = b2i (bC 46)) then
                      some true
                    else
                      (ixL s1 n65).bind fun c167 =>
                      some (decide (b2i c167 = b2i (bC 45)))
                else
                  (ixL s1 n65).bind fun c168 =>
                  if decide (b2i c168 = b2i (bC 46)) then
                    some true
                  else
                    (ixL s1 n65).bind fun c169 =>
                    some (decide (b2i c169 = b2i (bC 45)))
            else
              (ixL s1 n65).bind fun c170 =>
              if decide (b2i (bC 48) ≤ b2i c170) then
                (ixL s1 n65).bind fun c171 =>
                if decide (b2i c171 ≤ b2i (bC 57)) then
                  some true
                else
                  (ixL s1 n65).bind fun c172 =>
                  if decide (b2i c172 = b2i (bC 46)) then
                    some true
                  else
                    (ixL s1 n65).bind fun c173 =>
                    some (decide (b2i c173 = b2i (bC 45)))
              else
                (ixL s1 n65).bind fun c174 =>
                if decide (b2i c174 = b2i (bC 46)) then
                  some true
                else
                  (ixL s1 n65).bind fun c175 =>
                  some (decide (b2i c175 = b2i (bC 45)))
        else
          (ixL s1 n65).bind fun c176 =>
          if decide (b2i (bC 65) ≤ b2i c176) then
            (ixL s1 n65).bind fun c177 =>
            if decide (b2i c177 ≤ b2i (bC 90)) then
              some true
            else
              (ixL s1 n65).bind fun c178 =>
              if decide (b2i (bC 48) ≤ b2i c178) then
                (ixL s1 n65).bind fun c179 =>
                if decide (b2i c179 ≤ b2i (bC 57)) then
                  some true
                else
                  (ixL s1 n65).bind fun c180 =>
                  if decide (b2i c180 = b2i (bC 46)) then
                    some true
                  else
                    (ixL s1 n65).bind fun c181 =>
                    some (decide (b2i c181 = b2i (bC 45)))
              else
                (ixL s1 n65).bind fun c182 =>
                if decide (b2i c182 = b2i (bC 46)) then
                  some true
                else
                  (ixL s1 n65).bind fun c183 =>
                  some (decide (b2i c183 = b2i (bC 45)))
          else
            (ixL s1 n65).bind fun c184 =>
            if decide (b2i (bC 48) ≤ b2i c184) then
              (ixL s1 n65).bind fun c185 =>
              if decide (b2i c185 ≤ b2i (bC 57)) then
                some true
              else
                (ixL s1 n65).bind fun c186 =>
                if decide (b2i c186 = b2i (bC 46)) then
                  some true
                else
                  (ixL s1 n65).bind fun c187 =>
                  some (decide (b2i c187 = b2i (bC 45)))
            else
              (ixL s1 n65).bind fun c188 =>
              if decide (b2i c188 = b2i (bC 46)) then
                some true
              else
                (ixL s1 n65).bind fun c189 =>
                some (decide (b2i c189 = b2i (bC 45)))
      else
        some false).bind fun j190 =>
      if j190 then
        ref05_host_L128 s1 k66 (iadd .i64 n65 1)
      else
        some n65
def ref05_host_L213 (s1 : List UInt8) : Nat → Int → Option (Sum (Bool) (Unit))
  | 0, _ => none
  | k207 + 1, i206 =>
    if decide (i206 < (List.length s1 : Int)) then
      (show Option (Bool) from
        (ixL s1 i206).bind fun c217 =>
        if decide (b2i c217 < b2i (bC 48)) then
          some true
        else
          (ixL s1 i206).bind fun c218 =>
          some (decide (b2i (bC 57) < b2i c218))).bind fun j219 =>
        if j219 then
          some (Sum.inl false)
        else
          ref05_host_L213 s1 k207 (iadd .i64 i206 1)
    else
      some (Sum.inr ())
def ref05_host (s1 : List UInt8) : Option (Bool) :=
  (ref05_host_L128 s1 1099511627776 0).bind fun j192 =>
    (show Option (Bool) from
      if decide (j192 = 0) then
        some true
      else
        some (decide (j192 = (List.length s1 : Int)))).bind fun j194 =>
      if j194 then
        some (decide (0 < j192))
      else
        (show Option (Bool) from
          (ixL s1 j192).bind fun c197 =>
          if !decide (b2i c197 = b2i (bC 58)) then
            some true
          else
            if decide (isub .i64 (isub .i64 (List.length s1 : Int) j192) 1 < 1) then
              some true
            else
              some (decide (5 < isub .i64 (isub .i64 (List.length s1 : Int) j192) 1))).bind fun j198 =>
          if j198 then
            some false
          else
            (ref05_host_L213 s1 1099511627776 (iadd .i64 j192 1)).bind fun o220 => match o220 with
            | Sum.inl r => some r
            | Sum.inr j221 =>
              some true
set_option maxRecDepth 100000 in
set_option maxHeartbeats 40000000 in
theorem ref05_host_ok {s1 : List UInt8} {r : Bool} (hP : ref05_host s1 = some r) : CallOK Tryz.prog 75 [.str s1] (.bool r) [] := by
  unfold ref05_host at hP
  refine co 107 [.tmp 2] Tryz.func75 ?_
  refine J_seq ?_
  refine J_region (by kernel_rfl) ?_
  (try simp only [go_sem, Nat.reduceEqDiff, ↓reduceIte])
  refine hold2 (then_n ?_)
  refine J_seq ?_
  refine J_region (by kernel_rfl) ?_
  (try simp only [go_sem, Nat.reduceEqDiff, ↓reduceIte])
  refine hold2 (then_n ?_)
  refine J_seq ?_
  obtain ⟨o191, hP, hQ128⟩ := bind_cases hP
  refine J_joinK0 (fun (s : Int) => envL [(0, .str s1), (3, .int .i64 s)]) (fun (s : Int) => []) (fun s => s = o191) ?_ ?_
  · clear hQ128
    refine J_block ?_
    refine J_loop (σ := Nat × Int) (fun (s : Nat × Int) => envL [(0, .str s1), (3, .int .i64 s.2)]) (fun (s : Nat × Int) => []) (fun s => ref05_host_L128 s1 s.1 s.2 = some o191) (fun s => s.1) (1099511627776, 0) hP (so []) ?_
    rintro ⟨k66, n65⟩ hP
    dsimp only at hP ⊢
    cases k66 with
    | zero => simp [ref05_host_L128] at hP
    | succ k66 =>
      simp only [ref05_host_L128] at hP
      refine J_seq ?_
      obtain ⟨o159, hP, hQ159⟩ := bind_cases hP
      refine J_join (fun (s : Bool) => envL [(0, .str s1), (3, .int .i64 n65), (56, .bool s)]) (fun (s : Bool) => []) (fun s => s = o159) ?_ ?_
      · clear hQ159
        refine J_region (by kernel_rfl) ?_
        (try simp only [go_sem, Nat.reduceEqDiff, ↓reduceIte])
        rcases ite_cases hP with ⟨hc, hP⟩ | ⟨hc, hP⟩
        · refine guard_is hc ?_
          (try simp only [go_sem, Nat.reduceEqDiff, ↓reduceIte])
          obtain ⟨c160, hc160, hP⟩ := bind_cases hP
          refine ixS_of hc160 ?_
          (try simp only [go_sem, Nat.reduceEqDiff, ↓reduceIte])
          rcases ite_cases hP with ⟨hc, hP⟩ | ⟨hc, hP⟩
          · refine guard_is hc ?_
            (try simp only [go_sem, Nat.reduceEqDiff, ↓reduceIte])
            obtain ⟨c161, hc161, hP⟩ := bind_cases hP
            refine ixS_of hc161 ?_
            (try simp only [go_sem, Nat.reduceEqDiff, ↓reduceIte])
            rcases ite_cases hP with ⟨hc, hP⟩ | ⟨hc, hP⟩
            · refine guard_not hc ?_
              (try conv => arg 5; simp only [go_sem, Nat.reduceEqDiff, ↓reduceIte])
              (try simp only [go_sem, Nat.reduceEqDiff, ↓reduceIte])
              refine hold2 ?_
              exact join_n true (Option.some.inj hP) (so [])
            · refine guard_is hc ?_
              (try conv => arg 5; simp only [go_sem, Nat.reduceEqDiff, ↓reduceIte])
              (try simp only [go_sem, Nat.reduceEqDiff, ↓reduceIte])
              obtain ⟨c162, hc162, hP⟩ := bind_cases hP
              refine ixS_of hc162 ?_
              (try simp only [go_sem, Nat.reduceEqDiff, ↓reduceIte])
              rcases ite_cases hP with ⟨hc, hP⟩ | ⟨hc, hP⟩
              · refine guard_is hc ?_
                (try conv => arg 5; simp only [go_sem, Nat.reduceEqDiff, ↓reduceIte])
                (try simp only [go_sem, Nat.reduceEqDiff, ↓reduceIte])
                obtain ⟨c163, hc163, hP⟩ := bind_cases hP
                refine ixS_of hc163 ?_
                (try simp only [go_sem, Nat.reduceEqDiff, ↓reduceIte])
                rcases ite_cases hP with ⟨hc, hP⟩ | ⟨hc, hP⟩
                · refine guard_not hc ?_
                  (try conv => arg 5; simp only [go_sem, Nat.reduceEqDiff, ↓reduceIte])
                  (try simp only [go_sem, Nat.reduceEqDiff, ↓reduceIte])
                  refine hold2 ?_
                  exact join_n true (Option.some.inj hP) (so [])
                · refine guard_is hc ?_
                  (try conv => arg 5; simp only [go_sem, Nat.reduceEqDiff, ↓reduceIte])
                  (try simp only [go_sem, Nat.reduceEqDiff, ↓reduceIte])
                  obtain ⟨c164, hc164, hP⟩ := bind_cases hP
                  refine ixS_of hc164 ?_
                  (try simp only [go_sem, Nat.reduceEqDiff, ↓reduceIte])
                  rcases ite_cases hP with ⟨hc, hP⟩ | ⟨hc, hP⟩
                  · refine guard_is hc ?_
                    (try conv => arg 5; simp only [go_sem, Nat.reduceEqDiff, ↓reduceIte])
                    (try simp only [go_sem, Nat.reduceEqDiff, ↓reduceIte])
                    obtain ⟨c165, hc165, hP⟩ := bind_cases hP
                    refine ixS_of hc165 ?_
                    (try simp only [go_sem, Nat.reduceEqDiff, ↓reduceIte])
                    rcases ite_cases hP with ⟨hc, hP⟩ | ⟨hc, hP⟩
                    · refine guard_not hc ?_
                      (try conv => arg 5; simp only [go_sem, Nat.reduceEqDiff, ↓reduceIte])
                      (try simp only [go_sem, Nat.reduceEqDiff, ↓reduceIte])
                      refine hold2 ?_
                      exact join_n true (Option.some.inj hP) (so [])
                    · refine guard_is hc ?_
                      (try conv => arg 5; simp only [go_sem, Nat.reduceEqDiff, ↓reduceIte])
                      (try simp only [go_sem, Nat.reduceEqDiff, ↓reduceIte])
                      obtain ⟨c166, hc166, hP⟩ := bind_cases hP
                      refine ixS_of hc166 ?_
                      (try simp only [go_sem, Nat.reduceEqDiff, ↓reduceIte])
                      rcases ite_cases hP with ⟨hc, hP⟩ | ⟨hc, hP⟩
                      · refine guard_not hc ?_
                        (try conv => arg 5; simp only [go_sem, Nat.reduceEqDiff, ↓reduceIte])
                        (try simp only [go_sem, Nat.reduceEqDiff, ↓reduceIte])
                        refine hold2 ?_
                        exact join_n true (Option.some.inj hP) (so [])
                      · refine guard_is hc ?_
                        (try conv => arg 5; simp only [go_sem, Nat.reduceEqDiff, ↓reduceIte])
                        (try simp only [go_sem, Nat.reduceEqDiff, ↓reduceIte])
                        obtain ⟨c167, hc167, hP⟩ := bind_cases hP
                        refine ixS_of hc167 ?_
                        (try simp only [go_sem, Nat.reduceEqDiff, ↓reduceIte])
                        refine hold2 ?_
                        exact join_n (decide (b2i c167 = b2i (bC 45))) (Option.some.inj hP) (so [])
                  · refine guard_not hc ?_
                    (try conv => arg 5; simp only [go_sem, Nat.reduceEqDiff, ↓reduceIte])
                    (try simp only [go_sem, Nat.reduceEqDiff, ↓reduceIte])
                    obtain ⟨c168, hc168, hP⟩ := bind_cases hP
                    refine ixS_of hc168 ?_
                    (try simp only [go_sem, Nat.reduceEqDiff, ↓reduceIte])
                    rcases ite_cases hP with ⟨hc, hP⟩ | ⟨hc, hP⟩
                    · refine guard_not hc ?_
                      (try conv => arg 5; simp only [go_sem, Nat.reduceEqDiff, ↓reduceIte])
                      (try simp only [go_sem, Nat.reduceEqDiff, ↓reduceIte])
                      refine hold2 ?_
                      exact join_n true (Option.some.inj hP) (so [])
                    · refine guard_is hc ?_
                      (try conv => arg 5; simp only [go_sem, Nat.reduceEqDiff, ↓reduceIte])
                      (try simp only [go_sem, Nat.reduceEqDiff, ↓reduceIte])
                      obtain ⟨c169, hc169, hP⟩ := bind_cases hP
                      refine ixS_of hc169 ?_
                      (try simp only [go_sem, Nat.reduceEqDiff, ↓reduceIte])
                      refine hold2 ?_
                      exact join_n (decide (b2i c169 = b2i (bC 45))) (Option.some.inj hP) (so [])
              · refine guard_not hc ?_
                (try conv => arg 5; simp only [go_sem, Nat.reduceEqDiff, ↓reduceIte])
                (try simp only [go_sem, Nat.reduceEqDiff, ↓reduceIte])
                obtain ⟨c170, hc170, hP⟩ := bind_cases hP
                refine ixS_of hc170 ?_
                (try simp only [go_sem, Nat.reduceEqDiff, ↓reduceIte])
                rcases ite_cases hP with ⟨hc, hP⟩ | ⟨hc, hP⟩
                · refine guard_is hc ?_
                  (try conv => arg 5; simp only [go_sem, Nat.reduceEqDiff, ↓reduceIte])
                  (try simp only [go_sem, Nat.reduceEqDiff, ↓reduceIte])
                  obtain ⟨c171, hc171, hP⟩ := bind_cases hP
                  refine ixS_of hc171 ?_
                  (try simp only [go_sem, Nat.reduceEqDiff, ↓reduceIte])
                  rcases ite_cases hP with ⟨hc, hP⟩ | ⟨hc, hP⟩
                  · refine guard_not hc ?_
                    (try conv => arg 5; simp only [go_sem, Nat.reduceEqDiff, ↓reduceIte])
                    (try simp only [go_sem, Nat.reduceEqDiff, ↓reduceIte])
                    refine hold2 ?_
                    exact join_n true (Option.some.inj hP) (so [])
                  · refine guard_is hc ?_
                    (try conv => arg 5; simp only [go_sem, Nat.reduceEqDiff, ↓reduceIte])
                    (try simp only [go_sem, Nat.reduceEqDiff, ↓reduceIte])
                    obtain ⟨c172, hc172, hP⟩ := bind_cases hP
                    refine ixS_of hc172 ?_
                    (try simp only [go_sem, Nat.reduceEqDiff, ↓reduceIte])
                    rcases ite_cases hP with ⟨hc, hP⟩ | ⟨hc, hP⟩
                    · refine guard_not hc ?_
                      (try conv => arg 5; simp only [go_sem, Nat.reduceEqDiff, ↓reduceIte])
                      (try simp only [go_sem, Nat.reduceEqDiff, ↓reduceIte])
                      refine hold2 ?_
                      exact join_n true (Option.some.inj hP) (so [])
                    · refine guard_is hc ?_
                      (try conv => arg 5; simp only [go_sem, Nat.reduceEqDiff, ↓reduceIte])
                      (try simp only [go_sem, Nat.reduceEqDiff, ↓reduceIte])
                      obtain ⟨c173, hc173, hP⟩ := bind_cases hP
                      refine ixS_of hc173 ?_
                      (try simp only [go_sem, Nat.reduceEqDiff, ↓reduceIte])
                      refine hold2 ?_
                      exact join_n (decide (b2i c173 = b2i (bC 45))) (Option.some.inj hP) (so [])
                · refine guard_not hc ?_
                  (try conv => arg 5; simp only [go_sem, Nat.reduceEqDiff, ↓reduceIte])
                  (try simp only [go_sem, Nat.reduceEqDiff, ↓reduceIte])
                  obtain ⟨c174, hc174, hP⟩ := bind_cases hP
                  refine ixS_of hc174 ?_
                  (try simp only [go_sem, Nat.reduceEqDiff, ↓reduceIte])
                  rcases ite_cases hP with ⟨hc, hP⟩ | ⟨hc, hP⟩
                  · refine guard_not hc ?_
                    (try conv => arg 5; simp only [go_sem, Nat.reduceEqDiff, ↓reduceIte])
                    (try simp only [go_sem, Nat.reduceEqDiff, ↓reduceIte])
                    refine hold2 ?_
                    exact join_n true (Option.some.inj hP) (so [])
                  · refine guard_is hc ?_
                    (try conv => arg 5; simp only [go_sem, Nat.reduceEqDiff, ↓reduceIte])
                    (try simp only [go_sem, Nat.reduceEqDiff, ↓reduceIte])
                    obtain ⟨c175, hc175, hP⟩ := bind_cases hP
                    refine ixS_of hc175 ?_
                    (try simp only [go_sem, Nat.reduceEqDiff, ↓reduceIte])
                    refine hold2 ?_
                    exact join_n (decide (b2i c175 = b2i (bC 45))) (Option.some.inj hP) (so [])
          · refine guard_not hc ?_
            (try simp only [go_sem, Nat.reduceEqDiff, ↓reduceIte])
            obtain ⟨c176, hc176, hP⟩ := bind_cases hP
            refine ixS_of hc176 ?_
            (try simp only [go_sem, Nat.reduceEqDiff, ↓reduceIte])
            rcases ite_cases hP with ⟨hc, hP⟩ | ⟨hc, hP⟩
            · refine guard_is hc ?_
              (try conv => arg 5; simp only [go_sem, Nat.reduceEqDiff, ↓reduceIte])
              (try simp only [go_sem, Nat.reduceEqDiff, ↓reduceIte])
              obtain ⟨c177, hc177, hP⟩ := bind_cases hP
              refine ixS_of hc177 ?_
              (try simp only [go_sem, Nat.reduceEqDiff, ↓reduceIte])
              rcases ite_cases hP with ⟨hc, hP⟩ | ⟨hc, hP⟩
              · refine guard_not hc ?_
                (try conv => arg 5; simp only [go_sem, Nat.reduceEqDiff, ↓reduceIte])
                (try simp only [go_sem, Nat.reduceEqDiff, ↓reduceIte])
                refine hold2 ?_
                exact join_n true (Option.some.inj hP) (so [])
              · refine guard_is hc ?_
                (try conv => arg 5; simp only [go_sem, Nat.reduceEqDiff, ↓reduceIte])
                (try simp only [go_sem, Nat.reduceEqDiff, ↓reduceIte])
                obtain ⟨c178, hc178, hP⟩ := bind_cases hP
                refine ixS_of hc178 ?_
                (try simp only [go_sem, Nat.reduceEqDiff, ↓reduceIte])
                rcases ite_cases hP with ⟨hc, hP⟩ | ⟨hc, hP⟩
                · refine guard_is hc ?_
                  (try conv => arg 5; simp only [go_sem, Nat.reduceEqDiff, ↓reduceIte])
                  (try simp only [go_sem, Nat.reduceEqDiff, ↓reduceIte])
                  obtain ⟨c179, hc179, hP⟩ := bind_cases hP
                  refine ixS_of hc179 ?_
                  (try simp only [go_sem, Nat.reduceEqDiff, ↓reduceIte])
                  rcases ite_cases hP with ⟨hc, hP⟩ | ⟨hc, hP⟩
                  · refine guard_not hc ?_
                    (try conv => arg 5; simp only [go_sem, Nat.reduceEqDiff, ↓reduceIte])
                    (try simp only [go_sem, Nat.reduceEqDiff, ↓reduceIte])
                    refine hold2 ?_
                    exact join_n true (Option.some.inj hP) (so [])
                  · refine guard_is hc ?_
                    (try conv => arg 5; simp only [go_sem, Nat.reduceEqDiff, ↓reduceIte])
                    (try simp only [go_sem, Nat.reduceEqDiff, ↓reduceIte])
                    obtain ⟨c180, hc180, hP⟩ := bind_cases hP
                    refine ixS_of hc180 ?_
                    (try simp only [go_sem, Nat.reduceEqDiff, ↓reduceIte])
                    rcases ite_cases hP with ⟨hc, hP⟩ | ⟨hc, hP⟩
                    · refine guard_not hc ?_
                      (try conv => arg 5; simp only [go_sem, Nat.reduceEqDiff, ↓reduceIte])
                      (try simp only [go_sem, Nat.reduceEqDiff, ↓reduceIte])
                      refine hold2 ?_
                      exact join_n true (Option.some.inj hP) (so [])
                    · refine guard_is hc ?_
                      (try conv => arg 5; simp only [go_sem, Nat.reduceEqDiff, ↓reduceIte])
                      (try simp only [go_sem, Nat.reduceEqDiff, ↓reduceIte])
                      obtain ⟨c181, hc181, hP⟩ := bind_cases hP
                      refine ixS_of hc181 ?_
                      (try simp only [go_sem, Nat.reduceEqDiff, ↓reduceIte])
                      refine hold2 ?_
                      exact join_n (decide (b2i c181 = b2i (bC 45))) (Option.some.inj hP) (so [])
                · refine guard_not hc ?_
                  (try conv => arg 5; simp only [go_sem, Nat.reduceEqDiff, ↓reduceIte])
                  (try simp only [go_sem, Nat.reduceEqDiff, ↓reduceIte])
                  obtain ⟨c182, hc182, hP⟩ := bind_cases hP
                  refine ixS_of hc182 ?_
                  (try simp only [go_sem, Nat.reduceEqDiff, ↓reduceIte])
                  rcases ite_cases hP with ⟨hc, hP⟩ | ⟨hc, hP⟩
                  · refine guard_not hc ?_
                    (try conv => arg 5; simp only [go_sem, Nat.reduceEqDiff, ↓reduceIte])
                    (try simp only [go_sem, Nat.reduceEqDiff, ↓reduceIte])
                    refine hold2 ?_
                    exact join_n true (Option.some.inj hP) (so [])
                  · refine guard_is hc ?_
                    (try conv => arg 5; simp only [go_sem, Nat.reduceEqDiff, ↓reduceIte])
                    (try simp only [go_sem, Nat.reduceEqDiff, ↓reduceIte])
                    obtain ⟨c183, hc183, hP⟩ := bind_cases hP
                    refine ixS_of hc183 ?_
                    (try simp only [go_sem, Nat.reduceEqDiff, ↓reduceIte])
                    refine hold2 ?_
                    exact join_n (decide (b2i c183 = b2i (bC 45))) (Option.some.inj hP) (so [])
            · refine guard_not hc ?_
              (try conv => arg 5; simp only [go_sem, Nat.reduceEqDiff, ↓reduceIte])
              (try simp only [go_sem, Nat.reduceEqDiff, ↓reduceIte])
              obtain ⟨c184, hc184, hP⟩ := bind_cases hP
              refine ixS_of hc184 ?_
              (try simp only [go_sem, Nat.reduceEqDiff, ↓reduceIte])
              rcases ite_cases hP with ⟨hc, hP⟩ | ⟨hc, hP⟩
              · refine guard_is hc ?_
                (try conv => arg 5; simp only [go_sem, Nat.reduceEqDiff, ↓reduceIte])
                (try simp only [go_sem, Nat.reduceEqDiff, ↓reduceIte])
                obtain ⟨c185, hc185, hP⟩ := bind_cases hP
                refine ixS_of hc185 ?_
                (try simp only [go_sem, Nat.reduceEqDiff, ↓reduceIte])
                rcases ite_cases hP with ⟨hc, hP⟩ | ⟨hc, hP⟩
                · refine guard_not hc ?_
                  (try conv => arg 5; simp only [go_sem, Nat.reduceEqDiff, ↓reduceIte])
                  (try simp only [go_sem, Nat.reduceEqDiff, ↓reduceIte])
                  refine hold2 ?_
                  exact join_n true (Option.some.inj hP) (so [])
                · refine guard_is hc ?_
                  (try conv => arg 5; simp only [go_sem, Nat.reduceEqDiff, ↓reduceIte])
                  (try simp only [go_sem, Nat.reduceEqDiff, ↓reduceIte])
                  obtain ⟨c186, hc186, hP⟩ := bind_cases hP
                  refine ixS_of hc186 ?_
                  (try simp only [go_sem, Nat.reduceEqDiff, ↓reduceIte])
                  rcases ite_cases hP with ⟨hc, hP⟩ | ⟨hc, hP⟩
                  · refine guard_not hc ?_
                    (try conv => arg 5; simp only [go_sem, Nat.reduceEqDiff, ↓reduceIte])
                    (try simp only [go_sem, Nat.reduceEqDiff, ↓reduceIte])
                    refine hold2 ?_
                    exact join_n true (Option.some.inj hP) (so [])
                  · refine guard_is hc ?_
                    (try conv => arg 5; simp only [go_sem, Nat.reduceEqDiff, ↓reduceIte])
                    (try simp only [go_sem, Nat.reduceEqDiff, ↓reduceIte])
                    obtain ⟨c187, hc187, hP⟩ := bind_cases hP
                    refine ixS_of hc187 ?_
                    (try simp only [go_sem, Nat.reduceEqDiff, ↓reduceIte])
                    refine hold2 ?_
                    exact join_n (decide (b2i c187 = b2i (bC 45))) (Option.some.inj hP) (so [])
              · refine guard_not hc ?_
                (try conv => arg 5; simp only [go_sem, Nat.reduceEqDiff, ↓reduceIte])
                (try simp only [go_sem, Nat.reduceEqDiff, ↓reduceIte])
                obtain ⟨c188, hc188, hP⟩ := bind_cases hP
                refine ixS_of hc188 ?_
                (try simp only [go_sem, Nat.reduceEqDiff, ↓reduceIte])
                rcases ite_cases hP with ⟨hc, hP⟩ | ⟨hc, hP⟩
                · refine guard_not hc ?_
                  (try conv => arg 5; simp only [go_sem, Nat.reduceEqDiff, ↓reduceIte])
                  (try simp only [go_sem, Nat.reduceEqDiff, ↓reduceIte])
                  refine hold2 ?_
                  exact join_n true (Option.some.inj hP) (so [])
                · refine guard_is hc ?_
                  (try conv => arg 5; simp only [go_sem, Nat.reduceEqDiff, ↓reduceIte])
                  (try simp only [go_sem, Nat.reduceEqDiff, ↓reduceIte])
                  obtain ⟨c189, hc189, hP⟩ := bind_cases hP
                  refine ixS_of hc189 ?_
                  (try simp only [go_sem, Nat.reduceEqDiff, ↓reduceIte])
                  refine hold2 ?_
                  exact join_n (decide (b2i c189 = b2i (bC 45))) (Option.some.inj hP) (so [])
        · refine guard_not hc ?_
          (try simp only [go_sem, Nat.reduceEqDiff, ↓reduceIte])
          refine hold2 ?_
          exact join_n false (Option.some.inj hP) (so [])
      · intro j190 hs
        subst hs
        have hP := hQ159
        clear hQ159
        refine J_condV rfl ?_
        (try simp only [go_sem, Nat.reduceEqDiff, ↓reduceIte])
        rcases ite_cases hP with ⟨hc, hP⟩ | ⟨hc, hP⟩
        · refine condV_t hc ?_
          refine J_skip (then_n ?_)
          refine J_block ?_
          refine J_region (by kernel_rfl) ?_
          (try simp only [go_sem, Nat.reduceEqDiff, ↓reduceIte])
          refine hold2 (block_n ?_)
          exact loop_n (k66, iadd .i64 n65 1) hP (Nat.lt_succ_self _) (so [])
        · refine condV_f hc ?_
          refine J_exit (then_exit (loop_exit (block_eq ?_)))
          exact join_n n65 (Option.some.inj hP) (so [])
  · intro j192 hs
    subst hs
    have hP := hQ128
    clear hQ128
    refine then_n ?_
    refine J_seq ?_
    obtain ⟨o193, hP, hQ193⟩ := bind_cases hP
    refine J_join (fun (s : Bool) => envL [(0, .str s1), (3, .int .i64 j192), (66, .bool s)]) (fun (s : Bool) => []) (fun s => s = o193) ?_ ?_
    · clear hQ193
      refine J_region (by kernel_rfl) ?_
      (try simp only [go_sem, Nat.reduceEqDiff, ↓reduceIte])
      rcases ite_cases hP with ⟨hc, hP⟩ | ⟨hc, hP⟩
      · refine guard_not hc ?_
        (try simp only [go_sem, Nat.reduceEqDiff, ↓reduceIte])
        refine hold2 ?_
        exact join_n true (Option.some.inj hP) (so [])
      · refine guard_is hc ?_
        (try simp only [go_sem, Nat.reduceEqDiff, ↓reduceIte])
        refine hold2 ?_
        exact join_n (decide (j192 = (List.length s1 : Int))) (Option.some.inj hP) (so [])
    · intro j194 hs
      subst hs
      have hP := hQ193
      clear hQ193
      refine J_condV rfl ?_
      (try simp only [go_sem, Nat.reduceEqDiff, ↓reduceIte])
      rcases ite_cases hP with ⟨hc, hP⟩ | ⟨hc, hP⟩
      · refine condV_t hc ?_
        refine J_seq ?_
        refine J_region (by kernel_rfl) ?_
        (try simp only [go_sem, Nat.reduceEqDiff, ↓reduceIte])
        refine hold2 (then_n ?_)
        refine J_ret (then_ret (fin_ret ?_))
        obtain rfl := Option.some.inj hP
        (try simp only [go_sem, Nat.reduceEqDiff, ↓reduceIte])
        exact fo []
      · refine condV_f hc ?_
        refine J_skip (then_n ?_)
        refine J_seq ?_
        obtain ⟨o196, hP, hQ196⟩ := bind_cases hP
        refine J_join (fun (s : Bool) => envL [(0, .str s1), (3, .int .i64 j192), (88, .bool s)]) (fun (s : Bool) => []) (fun s => s = o196) ?_ ?_
        · clear hQ196
          refine J_region (by kernel_rfl) ?_
          (try simp only [go_sem, Nat.reduceEqDiff, ↓reduceIte])
          obtain ⟨c197, hc197, hP⟩ := bind_cases hP
          refine ixS_of hc197 ?_
          (try simp only [go_sem, Nat.reduceEqDiff, ↓reduceIte])
          rcases ite_cases hP with ⟨hc, hP⟩ | ⟨hc, hP⟩
          · refine guard_not hc ?_
            (try simp only [go_sem, Nat.reduceEqDiff, ↓reduceIte])
            refine hold2 ?_
            exact join_n true (Option.some.inj hP) (so [])
          · refine guard_is hc ?_
            (try simp only [go_sem, Nat.reduceEqDiff, ↓reduceIte])
            rcases ite_cases hP with ⟨hc, hP⟩ | ⟨hc, hP⟩
            · refine guard_not hc ?_
              (try conv => arg 5; simp only [go_sem, Nat.reduceEqDiff, ↓reduceIte])
              (try simp only [go_sem, Nat.reduceEqDiff, ↓reduceIte])
              refine hold2 ?_
              exact join_n true (Option.some.inj hP) (so [])
            · refine guard_is hc ?_
              (try conv => arg 5; simp only [go_sem, Nat.reduceEqDiff, ↓reduceIte])
              (try simp only [go_sem, Nat.reduceEqDiff, ↓reduceIte])
              refine hold2 ?_
              exact join_n (decide (5 < isub .i64 (isub .i64 (List.length s1 : Int) j192) 1)) (Option.some.inj hP) (so [])
        · intro j198 hs
          subst hs
          have hP := hQ196
          clear hQ196
          refine J_condV rfl ?_
          (try simp only [go_sem, Nat.reduceEqDiff, ↓reduceIte])
          rcases ite_cases hP with ⟨hc, hP⟩ | ⟨hc, hP⟩
          · refine condV_t hc ?_
            refine J_seq ?_
            refine J_region (by kernel_rfl) ?_
            (try simp only [go_sem, Nat.reduceEqDiff, ↓reduceIte])
            refine hold2 (then_n ?_)
            refine J_ret (then_ret (fin_ret ?_))
            obtain rfl := Option.some.inj hP
            (try simp only [go_sem, Nat.reduceEqDiff, ↓reduceIte])
            exact fo []
          · refine condV_f hc ?_
            refine J_skip (then_n ?_)
            refine J_seq ?_
            refine J_seq ?_
            refine J_region (by kernel_rfl) ?_
            (try simp only [go_sem, Nat.reduceEqDiff, ↓reduceIte])
            refine hold2 (then_n ?_)
            obtain ⟨o220, hP, hQ213⟩ := bind_cases hP
            refine J_joinK0 (fun (s : Unit) => envL []) (fun (s : Unit) => []) (fun s => Sum.inr s = o220) ?_ ?_
            · refine J_block ?_
              refine J_loop (σ := Nat × Int) (fun (s : Nat × Int) => envL [(0, .str s1), (4, .int .i64 s.2)]) (fun (s : Nat × Int) => []) (fun s => ref05_host_L213 s1 s.1 s.2 = some o220) (fun s => s.1) (1099511627776, iadd .i64 j192 1) hP (so []) ?_
              rintro ⟨k207, i206⟩ hP
              dsimp only at hP ⊢
              cases k207 with
              | zero => simp [ref05_host_L213] at hP
              | succ k207 =>
                simp only [ref05_host_L213] at hP
                refine J_seq ?_
                refine J_seq ?_
                refine J_region (by kernel_rfl) ?_
                (try simp only [go_sem, Nat.reduceEqDiff, ↓reduceIte])
                refine hold2 (then_n ?_)
                refine J_condV rfl ?_
                (try simp only [go_sem, Nat.reduceEqDiff, ↓reduceIte])
                rcases ite_cases hP with ⟨hc, hP⟩ | ⟨hc, hP⟩
                · refine condV_t hc ?_
                  refine J_skip (then_n ?_)
                  refine J_seq ?_
                  refine J_block ?_
                  obtain ⟨o216, hP, hQ216⟩ := bind_cases hP
                  refine J_join (fun (s : Bool) => envL [(0, .str s1), (4, .int .i64 i206), (106, .bool s)]) (fun (s : Bool) => []) (fun s => s = o216) ?_ ?_
                  · clear hQ216
                    refine J_region (by kernel_rfl) ?_
                    (try simp only [go_sem, Nat.reduceEqDiff, ↓reduceIte])
                    obtain ⟨c217, hc217, hP⟩ := bind_cases hP
                    refine ixS_of hc217 ?_
                    (try simp only [go_sem, Nat.reduceEqDiff, ↓reduceIte])
                    rcases ite_cases hP with ⟨hc, hP⟩ | ⟨hc, hP⟩
                    · refine guard_not hc ?_
                      (try conv => arg 5; simp only [go_sem, Nat.reduceEqDiff, ↓reduceIte])
                      (try simp only [go_sem, Nat.reduceEqDiff, ↓reduceIte])
                      refine hold2 ?_
                      exact join_n true (Option.some.inj hP) (so [])
                    · refine guard_is hc ?_
                      (try conv => arg 5; simp only [go_sem, Nat.reduceEqDiff, ↓reduceIte])
                      (try simp only [go_sem, Nat.reduceEqDiff, ↓reduceIte])
                      obtain ⟨c218, hc218, hP⟩ := bind_cases hP
                      refine ixS_of hc218 ?_
                      (try simp only [go_sem, Nat.reduceEqDiff, ↓reduceIte])
                      refine hold2 ?_
                      exact join_n (decide (b2i (bC 57) < b2i c218)) (Option.some.inj hP) (so [])
                  · intro j219 hs
                    subst hs
                    have hP := hQ216
                    clear hQ216
                    refine J_condV rfl ?_
                    (try simp only [go_sem, Nat.reduceEqDiff, ↓reduceIte])
                    rcases ite_cases hP with ⟨hc, hP⟩ | ⟨hc, hP⟩
                    · refine condV_t hc ?_
                      refine J_seq ?_
                      refine J_region (by kernel_rfl) ?_
                      (try simp only [go_sem, Nat.reduceEqDiff, ↓reduceIte])
                      refine hold2 (then_n ?_)
                      refine J_ret (block_ret (then_ret (loop_ret (block_ret (join_ret (then_ret (fin_ret ?_)))))))
                      obtain rfl := Option.some.inj hP
                      have hP := hQ213
                      dsimp only at hP
                      obtain rfl := Option.some.inj hP
                      (try simp only [go_sem, Nat.reduceEqDiff, ↓reduceIte])
                      exact fo []
                    · refine condV_f hc ?_
                      refine J_skip (block_n (then_n ?_))
                      refine J_region (by kernel_rfl) ?_
                      (try simp only [go_sem, Nat.reduceEqDiff, ↓reduceIte])
                      refine hold2 ?_
                      exact loop_n (k207, iadd .i64 i206 1) hP (Nat.lt_succ_self _) (so [])
                · refine condV_f hc ?_
                  refine J_exit (then_exit (loop_exit (block_eq ?_)))
                  exact join_n () (Option.some.inj hP) (so [])
            · intro j221 hs
              subst hs
              have hP := hQ213
              dsimp only at hP
              clear hQ213
              refine then_n ?_
              refine J_seq ?_
              refine J_region (by kernel_rfl) ?_
              (try simp only [go_sem, Nat.reduceEqDiff, ↓reduceIte])
              refine hold2 (then_n ?_)
              refine J_ret (fin_ret ?_)
              obtain rfl := Option.some.inj hP
              (try simp only [go_sem, Nat.reduceEqDiff, ↓reduceIte])
              exact fo []
/-- colander/colanderref05.Host -/
def ref05_Host (l1 : List ((List UInt8) × (List UInt8))) : Option (Bool) :=
  (ref04_All l1 [104, 111, 115, 116]).bind fun r2 =>
  if decide (((List.length r2 : Nat) : Int) = 1) then
    (ixL r2 0).bind fun x3 =>
    (ref05_host x3).bind fun r4 =>
    some r4
  else
    some false
set_option maxRecDepth 100000 in
set_option maxHeartbeats 40000000 in
theorem ref05_Host_ok {l1 : List ((List UInt8) × (List UInt8))} {r : Bool} (hP : ref05_Host l1 = some r) : CallOK Tryz.prog 47 [.view 2 (List.map enc_api_Field l1)] (.bool r) [] := by
  unfold ref05_Host at hP
  refine co 15 [.tmp 2] Tryz.func47 ?_
  refine J_seq ?_
  refine J_region (by kernel_rfl) ?_
  (try simp only [go_sem, Nat.reduceEqDiff, ↓reduceIte])
  refine hold2 (then_n ?_)
  refine J_seq ?_
  refine J_region (by kernel_rfl) ?_
  (try simp only [go_sem, Nat.reduceEqDiff, ↓reduceIte])
  obtain ⟨r2, hr2, hP⟩ := bind_cases hP
  refine call_ok [.view 2 (List.map enc_api_Field l1), .str [104, 111, 115, 116]] (ref04_All_ok hr2) ⟨argR_m false rfl, argR_m false rfl, trivial⟩ ?_
  (try simp only [go_sem, Nat.reduceEqDiff, ↓reduceIte])
  refine hold2 (then_n ?_)
  refine J_seq ?_
  refine J_region (by kernel_rfl) ?_
  (try simp only [go_sem, Nat.reduceEqDiff, ↓reduceIte])
  rcases ite_cases hP with ⟨hc, hP⟩ | ⟨hc, hP⟩
  · refine guard_is hc ?_
    (try simp only [go_sem, Nat.reduceEqDiff, ↓reduceIte])
    obtain ⟨x3, hx3, hP⟩ := bind_cases hP
    refine ixO_of hx3 ?_
    (try simp only [go_sem, Nat.reduceEqDiff, ↓reduceIte])
    refine getK_of (f := encS) hx3 ?_
    (try simp only [go_sem, Nat.reduceEqDiff, ↓reduceIte])
    obtain ⟨r4, hr4, hP⟩ := bind_cases hP
    refine call_ok [.str x3] (ref05_host_ok hr4) ⟨argR_m false rfl, trivial⟩ ?_
    (try simp only [go_sem, Nat.reduceEqDiff, ↓reduceIte])
    refine hold2 (then_n ?_)
    refine J_ret (fin_ret ?_)
    obtain rfl := Option.some.inj hP
    (try simp only [go_sem, Nat.reduceEqDiff, ↓reduceIte])
    exact fo []
  · refine guard_not hc ?_
    (try simp only [go_sem, Nat.reduceEqDiff, ↓reduceIte])
    refine hold2 (then_n ?_)
    refine J_ret (fin_ret ?_)
    obtain rfl := Option.some.inj hP
    (try simp only [go_sem, Nat.reduceEqDiff, ↓reduceIte])
    exact fo []
/-- colander/colanderref05.RequestText -/
def ref05_RequestText (q1 : (List UInt8) × (List UInt8) × (List ((List UInt8) × (List UInt8)))) : Option ((List UInt8)) :=
  (ref05_Method q1.1).bind fun r2 =>
  (ref05_Target q1.2.1).bind fun r3 =>
  (ref04_Right q1.2.2).bind fun r4 =>
  (ref05_Host q1.2.2).bind fun r5 =>
  (show Option (Bool) from
    if !r2 then
      some true
    else
      if !r3 then
        some true
      else
        if !decide (r4.2 = 0) then
          some true
        else
          some (!r5)).bind fun j7 =>
    if j7 then
      some []
    else
      (szC (List.length (q1.1 ++ [32]))).bind fun _ =>
      (szC (List.length ((q1.1 ++ [32]) ++ q1.2.1))).bind fun _ =>
      (szC (List.length (((q1.1 ++ [32]) ++ q1.2.1) ++ [32, 72, 84, 84, 80, 47, 49, 46, 49, 13, 10]))).bind fun _ =>
      (ref04_Text q1.2.2).bind fun r11 =>
      (szC (List.length ((((q1.1 ++ [32]) ++ q1.2.1) ++ [32, 72, 84, 84, 80, 47, 49, 46, 49, 13, 10]) ++ r11))).bind fun _ =>
      (szC (List.length (((((q1.1 ++ [32]) ++ q1.2.1) ++ [32, 72, 84, 84, 80, 47, 49, 46, 49, 13, 10]) ++ r11) ++ [13, 10]))).bind fun _ =>
      if decide (2048 < (List.length (((((q1.1 ++ [32]) ++ q1.2.1) ++ [32, 72, 84, 84, 80, 47, 49, 46, 49, 13, 10]) ++ r11) ++ [13, 10]) : Int)) then
        some []
      else
        some (((((q1.1 ++ [32]) ++ q1.2.1) ++ [32, 72, 84, 84, 80, 47, 49, 46, 49, 13, 10]) ++ r11) ++ [13, 10])
set_option maxRecDepth 100000 in
set_option maxHeartbeats 40000000 in
theorem ref05_RequestText_ok {q1 : (List UInt8) × (List UInt8) × (List ((List UInt8) × (List UInt8)))} {r : (List UInt8)} (hP : ref05_RequestText q1 = some r) : CallOK Tryz.prog 16 [.agg [.str q1.1, .str q1.2.1, .view 2 (List.map enc_api_Field q1.2.2)]] (.str r) [] := by
  unfold ref05_RequestText at hP
  refine co 54 [.tmp 2] Tryz.func16 ?_
  refine J_seq ?_
  refine J_region (by kernel_rfl) ?_
  (try simp only [go_sem, Nat.reduceEqDiff, ↓reduceIte])
  refine hold2 (then_n ?_)
  refine J_seq ?_
  refine J_region (by kernel_rfl) ?_
  (try simp only [go_sem, Nat.reduceEqDiff, ↓reduceIte])
  obtain ⟨r2, hr2, hP⟩ := bind_cases hP
  refine call_ok [.str q1.1] (ref05_Method_ok hr2) ⟨argR_m false rfl, trivial⟩ ?_
  (try simp only [go_sem, Nat.reduceEqDiff, ↓reduceIte])
  refine hold2 (then_n ?_)
  refine J_seq ?_
  refine J_region (by kernel_rfl) ?_
  (try simp only [go_sem, Nat.reduceEqDiff, ↓reduceIte])
  obtain ⟨r3, hr3, hP⟩ := bind_cases hP
  refine call_ok [.str q1.2.1] (ref05_Target_ok hr3) ⟨argR_m false rfl, trivial⟩ ?_
  (try simp only [go_sem, Nat.reduceEqDiff, ↓reduceIte])
  refine hold2 (then_n ?_)
  refine J_seq ?_
  refine J_region (by kernel_rfl) ?_
  (try simp only [go_sem, Nat.reduceEqDiff, ↓reduceIte])
  obtain ⟨r4, hr4, hP⟩ := bind_cases hP
  refine call_ok [.view 2 (List.map enc_api_Field q1.2.2)] (ref04_Right_ok hr4) ⟨argR_m false rfl, trivial⟩ ?_
  (try simp only [go_sem, Nat.reduceEqDiff, ↓reduceIte])
  refine hold2 (then_n ?_)
  refine J_seq ?_
  refine J_region (by kernel_rfl) ?_
  (try simp only [go_sem, Nat.reduceEqDiff, ↓reduceIte])
  obtain ⟨r5, hr5, hP⟩ := bind_cases hP
  refine call_ok [.view 2 (List.map enc_api_Field q1.2.2)] (ref05_Host_ok hr5) ⟨argR_m false rfl, trivial⟩ ?_
  (try simp only [go_sem, Nat.reduceEqDiff, ↓reduceIte])
  refine hold2 (then_n ?_)
  refine J_seq ?_
  obtain ⟨o6, hP, hQ6⟩ := bind_cases hP
  refine J_join (fun (s : Bool) => envL [(1, .bptr 0 0), (37, .bool s)]) (fun (s : Bool) => [.box 25 [.str q1.1, .str q1.2.1, .view 2 (List.map enc_api_Field q1.2.2)]]) (fun s => s = o6) ?_ ?_
  · clear hQ6
    refine J_region (by kernel_rfl) ?_
    (try simp only [go_sem, Nat.reduceEqDiff, ↓reduceIte])
    rcases ite_cases hP with ⟨hc, hP⟩ | ⟨hc, hP⟩
    · refine guard_not hc ?_
      (try simp only [go_sem, Nat.reduceEqDiff, ↓reduceIte])
      refine hold2 ?_
      exact join_n true (Option.some.inj hP) (so [0])
    · refine guard_is hc ?_
      (try simp only [go_sem, Nat.reduceEqDiff, ↓reduceIte])
      rcases ite_cases hP with ⟨hc, hP⟩ | ⟨hc, hP⟩
      · refine guard_not hc ?_
        (try simp only [go_sem, Nat.reduceEqDiff, ↓reduceIte])
        refine hold2 ?_
        exact join_n true (Option.some.inj hP) (so [0])
      · refine guard_is hc ?_
        (try simp only [go_sem, Nat.reduceEqDiff, ↓reduceIte])
        rcases ite_cases hP with ⟨hc, hP⟩ | ⟨hc, hP⟩
        · refine guard_not hc ?_
          (try simp only [go_sem, Nat.reduceEqDiff, ↓reduceIte])
          refine hold2 ?_
          exact join_n true (Option.some.inj hP) (so [0])
        · refine guard_is hc ?_
          (try simp only [go_sem, Nat.reduceEqDiff, ↓reduceIte])
          refine hold2 ?_
          exact join_n (!r5) (Option.some.inj hP) (so [0])
  · intro j7 hs
    subst hs
    have hP := hQ6
    clear hQ6
    refine J_condV rfl ?_
    (try simp only [go_sem, Nat.reduceEqDiff, ↓reduceIte])
    rcases ite_cases hP with ⟨hc, hP⟩ | ⟨hc, hP⟩
    · refine condV_t hc ?_
      refine J_seq ?_
      refine J_region (by kernel_rfl) ?_
      (try simp only [go_sem, Nat.reduceEqDiff, ↓reduceIte])
      refine hold2 (then_n ?_)
      refine J_ret (then_ret (fin_ret ?_))
      obtain rfl := Option.some.inj hP
      (try simp only [go_sem, Nat.reduceEqDiff, ↓reduceIte])
      exact fo []
    · refine condV_f hc ?_
      refine J_skip (then_n ?_)
      refine J_seq ?_
      refine J_regionq follows_mixed (by kernel_rfl) (by kernel_rfl) ?_
      (try simp only [go_sem, Nat.reduceEqDiff, ↓reduceIte])
      obtain ⟨_, hz8, hP⟩ := bind_cases hP
      refine chk_of (by first | exact szC_63 hz8 | (have q := szC_63 hz8; simp only [List.length_append, List.length_cons, List.length_nil] at q ⊢; omega)) ?_
      (try simp only [go_sem, Nat.reduceEqDiff, ↓reduceIte])
      obtain ⟨_, hz9, hP⟩ := bind_cases hP
      refine chk_of (by first | exact szC_63 hz9 | (have q := szC_63 hz9; simp only [List.length_append, List.length_cons, List.length_nil] at q ⊢; omega)) ?_
      (try simp only [go_sem, Nat.reduceEqDiff, ↓reduceIte])
      obtain ⟨_, hz10, hP⟩ := bind_cases hP
      refine chk_of (by first | exact szC_63 hz10 | (have q := szC_63 hz10; simp only [List.length_append, List.length_cons, List.length_nil] at q ⊢; omega)) ?_
      (try simp only [go_sem, Nat.reduceEqDiff, ↓reduceIte])
      obtain ⟨r11, hr11, hP⟩ := bind_cases hP
      refine call_okq [.view 2 (List.map enc_api_Field q1.2.2)] (ref04_Text_ok hr11) ⟨argR_m false rfl, trivial⟩ rfl ?_
      (try simp only [go_sem, Nat.reduceEqDiff, ↓reduceIte])
      obtain ⟨_, hz12, hP⟩ := bind_cases hP
      refine chk_of (by first | exact szC_63 hz12 | (have q := szC_63 hz12; simp only [List.length_append, List.length_cons, List.length_nil] at q ⊢; omega)) ?_
      (try simp only [go_sem, Nat.reduceEqDiff, ↓reduceIte])
      obtain ⟨_, hz13, hP⟩ := bind_cases hP
      refine chk_of (by first | exact szC_63 hz13 | (have q := szC_63 hz13; simp only [List.length_append, List.length_cons, List.length_nil] at q ⊢; omega)) ?_
      (try simp only [go_sem, Nat.reduceEqDiff, ↓reduceIte])
      refine hold2 (then_n ?_)
      refine J_seq ?_
      refine J_seq ?_
      refine J_region (by kernel_rfl) ?_
      (try simp only [go_sem, Nat.reduceEqDiff, ↓reduceIte])
      refine hold2 (then_n ?_)
      refine J_condV rfl ?_
      (try simp only [go_sem, Nat.reduceEqDiff, ↓reduceIte])
      rcases ite_cases hP with ⟨hc, hP⟩ | ⟨hc, hP⟩
      · refine condV_t hc ?_
        refine J_seq ?_
        refine J_region (by kernel_rfl) ?_
        (try simp only [go_sem, Nat.reduceEqDiff, ↓reduceIte])
        refine hold2 (then_n ?_)
        refine J_ret (then_ret (fin_ret ?_))
        obtain rfl := Option.some.inj hP
        (try simp only [go_sem, Nat.reduceEqDiff, ↓reduceIte])
        exact fo []
      · refine condV_f hc ?_
        refine J_skip (then_n ?_)
        refine J_seq ?_
        refine J_region (by kernel_rfl) ?_
        (try simp only [go_sem, Nat.reduceEqDiff, ↓reduceIte])
        refine hold2 (then_n ?_)
        refine J_ret (fin_ret ?_)
        obtain rfl := Option.some.inj hP
        (try simp only [go_sem, Nat.reduceEqDiff, ↓reduceIte])
        exact fo []
end Go.Proofs.YtbcmngnmfneeaaaGreatDoor
