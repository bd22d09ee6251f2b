/- LexJoined, plain. -/
import Derived.Test.YteahieldmfehlaaDoorPWords
import Derived.Test.YteahieldmfehlaaDoorU3D
import Derived.Test.YteahieldmfehlaaDoorLJoined
import Derived.Test.YteahieldmfehlaaDoorRow
namespace Go.Proofs.YteahieldmfehlaaDoor
open Go.Av
set_option linter.unusedVariables false
set_option linter.unusedSimpArgs false
set_option maxRecDepth 100000
def runT : Nat → List UInt8 → Option Nat
  | m, [] => some m
  | m, c :: r =>
    if m = 0 then if c = 34 then runT 1 r else if c = 44 then none else runT 0 r
    else if m = 1 then if c = 34 then runT 0 r else if c = 92 then runT 2 r else if quoT c then runT 1 r else none
    else if quoT c then runT 1 r else none
theorem ls_run : ∀ (a : List UInt8) (m m' : Nat) (cur r : List UInt8), runT m a = some m' → lsT m cur (a ++ r) = lsT m' (cur ++ a) r
  | [], m, m', cur, r, h => by cases (Option.some.inj h); simp
  | c :: a, m, m', cur, r, h => by
    have ih := fun m cur (h : runT m a = some m') => ls_run a m m' cur r h
    rw [runT] at h
    rw [List.cons_append, lsT]
    have e : cur ++ c :: a = cur ++ [c] ++ a := by simp
    rw [e]
    by_cases h0 : m = 0
    · rw [if_pos h0] at h ⊢
      by_cases h1 : c = 34
      · rw [if_pos h1] at h ⊢; exact ih _ _ h
      · rw [if_neg h1] at h ⊢
        by_cases h2 : c = 44
        · rw [if_pos h2] at h; exact absurd h (by simp)
        · rw [if_neg h2] at h ⊢; exact ih _ _ h
    · rw [if_neg h0] at h ⊢
      by_cases h1 : m = 1
      · rw [if_pos h1] at h ⊢
        by_cases h2 : c = 34
        · rw [if_pos h2] at h ⊢; exact ih _ _ h
        · rw [if_neg h2] at h ⊢
          by_cases h3 : c = 92
          · rw [if_pos h3] at h ⊢; exact ih _ _ h
          · rw [if_neg h3] at h ⊢
            by_cases h4 : quoT c = true
            · rw [if_pos h4] at h ⊢; exact ih _ _ h
            · rw [if_neg h4] at h; exact absurd h (by simp)
      · rw [if_neg h1] at h ⊢
        by_cases h4 : quoT c = true
        · rw [if_pos h4] at h ⊢; exact ih _ _ h
        · rw [if_neg h4] at h; exact absurd h (by simp)
theorem run_app : ∀ (a b : List UInt8) (m : Nat), runT m (a ++ b) = (runT m a).bind fun q => runT q b
  | [], b, m => rfl
  | c :: a, b, m => by
    have ih := fun m => run_app a b m
    rw [List.cons_append, runT, runT]
    repeat' split
    all_goals first | exact ih _ | rfl
theorem run_le : ∀ (a : List UInt8) (m q : Nat), m ≤ 2 → runT m a = some q → q ≤ 2
  | [], m, q, hm, h => by cases (Option.some.inj h); exact hm
  | c :: a, m, q, hm, h => by
    have ih := fun m hm h => run_le a m q hm h
    rw [runT] at h
    repeat' split at h
    all_goals first | exact ih _ (by omega) h | exact absurd h (by simp)
theorem bl_facts (c : UInt8) (h : blT c = true) : c ≠ 34 ∧ c ≠ 44 ∧ c ≠ 92 ∧ quoT c = true := by
  have := of_decide_eq_true (all256 (p := fun c => decide (blT c = true → c ≠ 34 ∧ c ≠ 44 ∧ c ≠ 92 ∧ quoT c = true)) (by kernel_rfl) c)
  exact this h
theorem run_bl0 : ∀ b : List UInt8, (∀ c ∈ b, blT c = true) → runT 0 b = some 0
  | [], _ => rfl
  | c :: b, h => by
    have := bl_facts c (h c (by simp))
    rw [runT, if_pos rfl, if_neg this.1, if_neg this.2.1]
    exact run_bl0 b fun d hd => h d (by simp [hd])
theorem run_bl1 : ∀ b : List UInt8, (∀ c ∈ b, blT c = true) → runT 1 b = some 1
  | [], _ => rfl
  | c :: b, h => by
    have := bl_facts c (h c (by simp))
    rw [runT, if_neg (by decide), if_pos rfl, if_neg this.1, if_neg this.2.2.1, if_pos this.2.2.2]
    exact run_bl1 b fun d hd => h d (by simp [hd])
theorem run_trim {c : List UInt8} (h : runT 0 c = some 0) : runT 0 (trimT c) = some 0 := by
  obtain ⟨a, b, hc, ha, hb, _, _⟩ := trim_parts c
  rw [hc, List.append_assoc, run_app, run_bl0 a ha] at h
  simp only [Option.bind_some] at h
  rw [run_app] at h
  cases hq : runT 0 (trimT c) with
  | none => rw [hq] at h; exact absurd h (by simp)
  | some q =>
    have hle := run_le _ _ _ (by omega) hq
    rw [hq] at h
    simp only [Option.bind_some] at h
    cases b with
    | nil => cases (Option.some.inj h); rfl
    | cons d b =>
      have hbd := bl_facts d (hb d (by simp))
      have h1 := run_bl1 b fun e he => hb e (by simp [he])
      obtain rfl | rfl | rfl : q = 0 ∨ q = 1 ∨ q = 2 := by omega
      · rfl
      · rw [run_bl1 _ hb] at h; exact absurd h (by simp)
      · rw [runT, if_neg (by decide), if_neg (by decide), if_pos hbd.2.2.2, h1] at h; exact absurd h (by simp)
/-- what every piece of a list is -/
def memT (x : List UInt8) : Prop := runT 0 x = some 0 ∧ trimT x = x ∧ x ≠ []
theorem add_mem {cur : List UInt8} {l : List (List UInt8)} (hc : runT 0 cur = some 0) (hl : ∀ x ∈ l, memT x) : ∀ x ∈ addT cur l, memT x := by
  unfold addT
  split
  · exact hl
  · rename_i hn
    intro x hx
    rcases List.mem_cons.1 hx with rfl | hx
    · exact ⟨run_trim hc, trim_trim _, hn⟩
    · exact hl x hx
theorem ls_mem : ∀ (r : List UInt8) (m : Nat) (cur : List UInt8) (l : List (List UInt8)), runT 0 cur = some m → lsT m cur r = some l →
    (∀ x ∈ l, memT x) ∧ l.flatten.length + l.length ≤ cur.length + r.length + 1
  | [], m, cur, l, hm, h => by
    rw [lsT] at h
    split at h
    · rename_i h0
      subst h0
      rw [← Option.some.inj h]
      refine ⟨add_mem hm (by simp), ?_⟩
      have := trimT_len cur
      unfold addT
      split <;> simp <;> omega
    · exact absurd h (by simp)
  | c :: r, m, cur, l, hm, h => by
    have key : ∀ m', runT m [c] = some m' → lsT m' (cur ++ [c]) r = some l → (∀ x ∈ l, memT x) ∧ l.flatten.length + l.length ≤ cur.length + (c :: r).length + 1 := by
      intro m' h1 h2
      have := ls_mem r m' (cur ++ [c]) l (by rw [run_app, hm]; exact h1) h2
      simp at this ⊢
      refine ⟨this.1, by omega⟩
    by_cases h44 : m = 0 ∧ c = 44
    · obtain ⟨rfl, rfl⟩ := h44
      rw [ls0c] at h
      obtain ⟨l', h1, h2⟩ := Option.map_eq_some_iff.1 h
      have := ls_mem r 0 [] l' rfl h1
      rw [← h2]
      refine ⟨add_mem hm this.1, ?_⟩
      have h3 := trimT_len cur
      have h4 := this.2
      unfold addT
      simp at h4
      split <;> simp <;> omega
    · rw [lsT] at h
      have hr := runT.eq_def m [c]
      simp only at hr
      split at h
      · rename_i h0
        rw [if_pos h0] at hr
        split at h
        · rename_i h1; rw [if_pos h1] at hr; exact key 1 (by rw [hr]; rfl) h
        · rename_i h1
          rw [if_neg h1] at hr
          have h2 : c ≠ 44 := fun e => h44 ⟨h0, e⟩
          rw [if_neg h2] at h hr
          exact key 0 (by rw [hr]; rfl) h
      · rename_i h0
        rw [if_neg h0] at hr
        split at h
        · rename_i h1
          rw [if_pos h1] at hr
          split at h
          · rename_i h2; rw [if_pos h2] at hr; exact key 0 (by rw [hr]; rfl) h
          · rename_i h2
            rw [if_neg h2] at hr
            split at h
            · rename_i h3; rw [if_pos h3] at hr; exact key 2 (by rw [hr]; rfl) h
            · rename_i h3
              rw [if_neg h3] at hr
              split at h
              · rename_i h4; rw [if_pos h4] at hr; exact key 1 (by rw [hr]; rfl) h
              · exact absurd h (by simp)
        · rename_i h1
          rw [if_neg h1] at hr
          split at h
          · rename_i h4; rw [if_pos h4] at hr; exact key 1 (by rw [hr]; rfl) h
          · exact absurd h (by simp)
/-- what a text so far means -/
def StT (t : List UInt8) (A : List (List UInt8)) (cur : List UInt8) : Prop := ∀ r, lsT 0 [] (t ++ r) = (lsT 0 cur r).map (A ++ ·)
theorem St_app {t cur : List UInt8} {A : List (List UInt8)} (h : StT t A cur) {a : List UInt8} (ha : runT 0 a = some 0) : StT (t ++ a) A (cur ++ a) := fun r => by
  rw [List.append_assoc, h, ls_run a 0 0 cur r ha]
theorem St_comma {t cur : List UInt8} {A : List (List UInt8)} (h : StT t A cur) : StT (t ++ [44]) (A ++ addT cur []) [] := fun r => by
  rw [List.append_assoc, h, List.singleton_append, ls0c, Option.map_map]
  congr 1
  funext l
  simp only [Function.comp, addT]
  split <;> simp
theorem trim_bl {b : List UInt8} (h : ∀ c ∈ b, blT c = true) : trimT b = [] := by
  have := trim_mid (a := b) (m := []) (b := []) h (by simp) (by simp) (by simp)
  simpa using this
theorem St_blcomma {t cur : List UInt8} {A : List (List UInt8)} (h : StT t A cur) (hc : ∀ c ∈ cur, blT c = true) : StT (t ++ [44]) A [] := by
  have := St_comma h
  have e : addT cur [] = [] := by unfold addT; rw [if_pos (trim_bl hc)]
  rwa [e, List.append_nil] at this
theorem irem_nat (a n : Nat) : irem (a : Int) (n : Int) = ((a % n : Nat) : Int) := rfl
theorem flat_take (ms : List (List UInt8)) (i : Nat) (h : i < ms.length) : (ms.take (i + 1)).flatten.length = (ms.take i).flatten.length + ms[i].length := by
  rw [List.take_add_one, List.getElem?_eq_getElem h, List.flatten_append, List.length_append]
  simp
theorem flat_le (ms : List (List UInt8)) (i : Nat) : (ms.take i).flatten.length ≤ ms.flatten.length := by
  conv => rhs; rw [← List.take_append_drop i ms]
  rw [List.flatten_append, List.length_append]
  omega
theorem joined_loop (ms : List (List UInt8)) (code : Int) (noise : List Int) (hm : ∀ x ∈ ms, memT x) (hsum : ms.flatten.length + ms.length ≤ 1048577) :
    ∀ (k i : Nat) (t : List UInt8) (A : List (List UInt8)) (cur : List UInt8), i ≤ ms.length → ms.length - i < k → StT t A cur → A ++ addT cur [] = ms.take i → (i = 0 → cur = []) →
    t.length ≤ 8 * ((ms.take i).flatten.length + i) →
    ∃ t', law03_LexJoined_L81 (ms, code) noise k t (i : Int) = some (Sum.inr t') ∧ lsT 0 [] t' = some ms ∧ t'.length ≤ 8 * (ms.flatten.length + ms.length)
  | 0, i, t, A, cur, _, hk, _, _, _, _ => by omega
  | k + 1, i, t, A, cur, hi, hk, hS, hA, h0, hT => by
    have hfl := flat_le ms i
    by_cases hlt : i < ms.length
    · have hx := hm ms[i] (List.getElem_mem hlt)
      obtain ⟨hx1, hx2, hx3⟩ := hx
      have hfe := flat_take ms i hlt
      have hfl' := flat_le ms (i + 1)
      rw [law03_LexJoined_L81, if_pos (decide_eq_true (show (i : Int) < ((List.length (ms, code).1 : Nat) : Int) by show (i : Int) < (ms.length : Int); omega))]
      obtain ⟨v, hv⟩ : ∃ v, (show Option (Int) from
        if decide (0 < (List.length noise : Int)) then
          (chk (decide ((List.length noise : Int) ≠ 0))).bind fun _ =>
          (ixL noise (irem (i : Int) (List.length noise : Int))).bind fun x86 =>
          some x86
        else
          some (i : Int)) = some v := by
        by_cases hn : 0 < noise.length
        · have : i % noise.length < noise.length := Nat.mod_lt _ hn
          refine ⟨noise[i % noise.length], ?_⟩
          show (if decide (0 < (List.length noise : Int)) then _ else _) = _
          rw [if_pos (decide_eq_true (by omega)), decide_eq_true (show (List.length noise : Int) ≠ 0 by omega), irem_nat, ixL_in this]
          rfl
        · refine ⟨(i : Int), ?_⟩
          show (if decide (0 < (List.length noise : Int)) then _ else _) = _
          rw [if_neg (by rw [decide_eq_true_eq]; omega)]
      rw [hv, Option.bind_some]
      obtain ⟨t1, e1, s1, l1⟩ : ∃ t1, (show Option ((List UInt8)) from
          if decide (0 < (i : Int)) then
            (szC (List.length (t ++ [44]))).bind fun _ =>
            some (t ++ [44])
          else
            some t) = some t1 ∧ StT t1 (ms.take i) [] ∧ t1.length ≤ t.length + 1 := by
        by_cases hp : 0 < i
        · refine ⟨t ++ [44], ?_, ?_, by simp⟩
          · show (if decide (0 < (i : Int)) then _ else _) = _
            rw [if_pos (decide_eq_true (by omega)), szC_ok (by simp; omega)]; rfl
          · rw [← hA]; exact St_comma hS
        · refine ⟨t, ?_, ?_, by omega⟩
          · show (if decide (0 < (i : Int)) then _ else _) = _
            rw [if_neg (by simp; omega)]
          · have hc := h0 (by omega)
            subst hc
            have e : addT [] [] = [] := rfl
            rw [← hA, e, List.append_nil]; exact hS
      rw [e1, Option.bind_some]
      obtain ⟨t2, c2, e2, s2, b2, l2⟩ : ∃ t2 c2, (show Option ((List UInt8)) from
            if decide (iand .i64 v 1 = 1) then
              (szC (List.length (t1 ++ [32, 9]))).bind fun _ =>
              some (t1 ++ [32, 9])
            else
              some t1) = some t2 ∧ StT t2 (ms.take i) c2 ∧ (∀ c ∈ c2, blT c = true) ∧ t2.length ≤ t1.length + 2 := by
        by_cases hp : iand .i64 v 1 = 1
        · refine ⟨t1 ++ [32, 9], [] ++ [32, 9], ?_, St_app s1 (by decide), by decide, by simp⟩
          show (if decide (iand .i64 v 1 = 1) then _ else _) = _
          rw [if_pos (decide_eq_true hp), szC_ok (by simp; omega)]; rfl
        · refine ⟨t1, [], ?_, s1, by simp, by omega⟩
          show (if decide (iand .i64 v 1 = 1) then _ else _) = _
          rw [if_neg (by simp [hp])]
      rw [e2, Option.bind_some]
      obtain ⟨t3, c3, e3, s3, b3, l3⟩ : ∃ t3 c3, (show Option ((List UInt8)) from
              if decide (iand .i64 v 2 = 2) then
                (szC (List.length (t2 ++ [44, 32, 44]))).bind fun _ =>
                some (t2 ++ [44, 32, 44])
              else
                some t2) = some t3 ∧ StT t3 (ms.take i) c3 ∧ (∀ c ∈ c3, blT c = true) ∧ t3.length ≤ t2.length + 3 := by
        by_cases hp : iand .i64 v 2 = 2
        · refine ⟨t2 ++ [44, 32, 44], [], ?_, ?_, by simp, by simp⟩
          · show (if decide (iand .i64 v 2 = 2) then _ else _) = _
            rw [if_pos (decide_eq_true hp), szC_ok (by simp; omega)]; rfl
          · have q1 := St_app (St_blcomma s2 b2) (a := [32]) (by decide)
            have q2 := St_blcomma q1 (by decide)
            have e : t2 ++ [44, 32, 44] = t2 ++ [44] ++ [32] ++ [44] := by simp
            rw [e]; exact q2
        · refine ⟨t2, c2, ?_, s2, b2, by omega⟩
          show (if decide (iand .i64 v 2 = 2) then _ else _) = _
          rw [if_neg (by simp [hp])]
      rw [e3, Option.bind_some, show ixL (ms, code).1 (i : Int) = some ms[i] from ixL_in hlt, Option.bind_some, szC_ok (by rw [List.length_append]; omega), Option.bind_some]
      obtain ⟨t4, c4, e4, s4, b4, l4⟩ : ∃ t4 c4, (show Option ((List UInt8)) from
                if decide (iand .i64 v 4 = 4) then
                  (szC (List.length ((t3 ++ ms[i]) ++ [9, 32]))).bind fun _ =>
                  some ((t3 ++ ms[i]) ++ [9, 32])
                else
                  some (t3 ++ ms[i])) = some t4 ∧ StT t4 (ms.take i) (c3 ++ ms[i] ++ c4) ∧ (∀ c ∈ c4, blT c = true) ∧ t4.length ≤ t3.length + ms[i].length + 2 := by
        by_cases hp : iand .i64 v 4 = 4
        · refine ⟨(t3 ++ ms[i]) ++ [9, 32], [9, 32], ?_, St_app (St_app s3 hx1) (by decide), by decide, by rw [List.length_append, List.length_append]; exact Nat.le_refl _⟩
          show (if decide (iand .i64 v 4 = 4) then _ else _) = _
          rw [if_pos (decide_eq_true hp), szC_ok (by simp; omega)]; rfl
        · refine ⟨t3 ++ ms[i], [], ?_, by rw [List.append_nil]; exact St_app s3 hx1, by simp, by rw [List.length_append]; omega⟩
          show (if decide (iand .i64 v 4 = 4) then _ else _) = _
          rw [if_neg (by simp [hp])]
      rw [e4, Option.bind_some]
      have hml : ms[i].length ≤ 16777216 := by omega
      have e5 : (show Option (Bool) from
                  (some ms[i]).bind fun x111 =>
                  (lex_Trim x111).bind fun r112 =>
                  (some ms[i]).bind fun x113 =>
                  if !decide (r112 = x113) then
                    some true
                  else
                    (some ms[i]).bind fun x114 =>
                    some (decide (x114 = []))) = some false := by
        show ((some ms[i]).bind fun x111 =>
                  (lex_Trim x111).bind fun r112 =>
                  (some ms[i]).bind fun x113 =>
                  if !decide (r112 = x113) then
                    some true
                  else
                    (some ms[i]).bind fun x114 =>
                    some (decide (x114 = []))) = some false
        simp only [Option.bind_some]
        rw [Trim_eq hml, hx2]
        simp [hx3]
      rw [e5, Option.bind_some, if_neg (by decide), iadd64 (by omega) (by omega), ← Int.natCast_add_one]
      obtain ⟨_, _, _, _, _, p1, p2⟩ := trim_parts ms[i]
      rw [hx2] at p1 p2
      have htr : trimT (c3 ++ ms[i] ++ c4) = ms[i] := trim_mid b3 b4 p1 p2
      refine joined_loop ms code noise hm hsum k (i + 1) t4 (ms.take i) _ (by omega) (by omega) s4 ?_ (by omega) (by rw [hfe]; omega)
      unfold addT
      rw [htr, if_neg hx3, List.take_add_one, List.getElem?_eq_getElem hlt]
      rfl
    · rw [law03_LexJoined_L81, if_neg (by simp; omega)]
      have hie : i = ms.length := by omega
      refine ⟨t, rfl, ?_, by rw [hie, List.take_length] at hT; exact hT⟩
      have := hS []
      rw [List.append_nil, ls0n] at this
      rw [this]
      simp only [Option.map_some]
      rw [hA, hie, List.take_length]
theorem sum_one {α : Type} : ∀ l : List α, sumM (fun _ => 1) l = l.length
  | [] => rfl
  | x :: l => by simp only [sumM, List.length_cons]; rw [sum_one l]; omega
theorem law_LexJoined (s : List UInt8) (noise : List Int) (_hs : True) (_hn : ∀ x ∈ noise, inR .i64 x) (hb : s.length + 1 + (sumM (fun _ => 1) noise + 1) ≤ 1048576) : law03_LexJoined s noise = some true := by
  unfold law03_LexJoined
  rw [shown3, List_eq (by omega)]
  simp only [Option.bind_some, Bool.not_true, Bool.false_eq_true, if_false]
  cases h : lsT 0 [] s with
  | none =>
    have e : listT s = ([], 5) := by unfold listT; rw [h]; rfl
    rw [e]; rfl
  | some ms =>
    have e : listT s = (ms, 0) := by unfold listT; rw [h]; rfl
    obtain ⟨hm, hsum⟩ := ls_mem s 0 [] ms rfl h
    simp only [List.length_nil] at hsum
    obtain ⟨t', h1, h2, h3⟩ := joined_loop ms 0 noise hm (by omega) 1099511627776 0 [] [] [] (by omega) (by omega) (fun r => by simp) rfl (fun _ => rfl) (by simp)
    rw [e]
    simp only [decide_true, Bool.not_true, Bool.false_eq_true, if_false]
    rw [show law03_LexJoined_L81 (ms, 0) noise 1099511627776 [] 0 = _ from h1]
    simp only [Option.bind_some]
    rw [List_eq (by omega)]
    have e2 : listT t' = (ms, 0) := by unfold listT; rw [h2]; rfl
    rw [e2]
    simp only [Option.bind_some]
    rw [SameList_eq (by omega)]
    simp
end Go.Proofs.YteahieldmfehlaaDoor
