/- The law ChunkCuts, in plain Lean. -/
import Derived.Test.YtfhlehkgiamejaaGreatDoorU7E
import Derived.Test.YtfhlehkgiamejaaGreatDoorU7B
import Derived.Test.YtfhlehkgiamejaaGreatDoorU7S
import Derived.Test.YtfhlehkgiamejaaGreatDoorLCuts
namespace Go.Proofs.YtfhlehkgiamejaaGreatDoor
open Go.Av Go.RowKit
set_option linter.unusedVariables false
set_option linter.unusedSimpArgs false
set_option maxRecDepth 100000
theorem byte_at {j : List UInt8} {i : Nat} (h : i < j.length) (hj : j.length ≤ 20000) : slL j (i : Int) (iadd .i64 (i : Int) 1) = some [j[i]] := by
  rw [iadd64 (by omega) (by omega), show (i : Int) + 1 = ((i + 1 : Nat) : Int) by omega, slL_nat (by omega) (by omega), List.drop_take, Nat.add_sub_cancel_left, List.drop_eq_getElem_cons h]
  rfl
/-! no body -/
theorem none_cuts (j : List UInt8) (hj : j.length ≤ 20000) (k : Nat) : law07_ChunkCuts_L31 j (k + 1) 0 0 = some 0 := by
  simp only [law07_ChunkCuts_L31]
  by_cases h : 0 < j.length
  · rw [if_pos (decide_eq_true (by omega)), show (0 : Int) = ((0 : Nat) : Int) from rfl, byte_at h hj]
    simp only [Option.bind_some]
    rw [show chunk_Reader_Take_w4 [j[0]] ((0 : Nat) : Int) true ((0 : Nat) : Int) [] = some 0 from none_take _]
    rfl
  · rw [if_neg (fun e => h (by have := of_decide_eq_true e; omega))]
/-! a body of a length -/
theorem len_cuts (j : List UInt8) (hj : j.length ≤ 20000) (body : Int × Int) (N : Nat) (hN : N ≤ 8192) (hb : body.2 = (N : Int)) : ∀ (k m i a : Nat) (y : List UInt8), i ≤ j.length → j.length - i < k → m ≤ i → a ≤ N → y.length ≤ i →
    law07_ChunkCuts_L112 j body k (m : Int) (i : Int) (a : Int) (decide (a = N)) y = some (((m + min (j.length - i) (N - a) : Nat) : Int), ((a + min (j.length - i) (N - a) : Nat) : Int), decide (a + min (j.length - i) (N - a) = N), y ++ (j.drop i).take (min (j.length - i) (N - a)))
  | 0, _, _, _, _, _, hk, _, _, _ => by omega
  | k + 1, m, i, a, y, hi, hk, hm, ha, hy => by
    simp only [law07_ChunkCuts_L112]
    by_cases hlt : i < j.length
    · rw [if_pos (decide_eq_true (by omega)), byte_at hlt hj]
      simp only [Option.bind_some]
      have e := len_loop [j[i]] N hN (by simp) 1099511627776 0 a [] (by simp) (by simp) ha (by simp)
      rw [List.drop_zero, Nat.zero_add, Nat.sub_zero, List.nil_append, List.length_singleton] at e
      have e2 : chunk_Reader_Take_w2 [j[i]] body.2 (a : Int) (decide (a = N)) 0 [] = some (((min 1 (N - a) : Nat) : Int), ((a + min 1 (N - a) : Nat) : Int), decide (a + min 1 (N - a) = N), [j[i]].take (min 1 (N - a))) := by
        unfold chunk_Reader_Take_w2
        rw [hb]
        rw [show ((0 : Nat) : Int) = 0 from rfl] at e
        rw [e]
        rfl
      rw [e2]
      simp only [Option.bind_some]
      rw [szC_ok (by simp; omega)]
      simp only [Option.bind_some]
      by_cases hd : a = N
      · subst hd
        rw [if_pos (by simp), iadd64 (by omega) (by omega)]
        simp
      · rw [show min 1 (N - a) = 1 by omega, if_neg (by simp), iadd64 (by omega) (by omega), iadd64 (by omega) (by omega), show (m : Int) + ((1 : Nat) : Int) = ((m + 1 : Nat) : Int) by omega, show (i : Int) + 1 = ((i + 1 : Nat) : Int) by omega]
        rw [len_cuts j hj body N hN hb k (m + 1) (i + 1) (a + 1) _ hlt (by omega) (by omega) (by omega) (by simp; omega)]
        have em : min (j.length - i) (N - a) = min (j.length - (i + 1)) (N - (a + 1)) + 1 := by omega
        rw [em, drop_at hlt, List.take_succ_cons]
        simp only [Option.some.injEq, Prod.mk.injEq]
        refine ⟨by omega, by omega, decide_eq_decide.2 (by omega), by rw [List.append_assoc]; rfl⟩
    · rw [if_neg (by simp; omega)]
      have : j.length - i = 0 := by omega
      simp [this]
/-! a body that ends with the connection -/
theorem open_cut0 (j : List UInt8) (hj : j.length ≤ 20000) (k i : Nat) (m : Nat) (hm : m ≤ 30000) (a : Int) (y : List UInt8) (hi : i ≤ j.length) (hy : y.length ≤ 30000) : law07_ChunkCuts_L260 j (k + 1) (m : Int) (i : Int) a 23 y = some ((m : Int), a, 23, y) := by
  simp only [law07_ChunkCuts_L260]
  by_cases hlt : i < j.length
  · rw [if_pos (decide_eq_true (by omega)), byte_at hlt hj]
    simp only [Option.bind_some]
    have e : chunk_Reader_Take_w3 [j[i]] a false 23 [] = some (0, a, 23, []) := by
      unfold chunk_Reader_Take_w3
      rw [open_stop _ 1099511627775]
      rfl
    rw [e]
    simp only [Option.bind_some, List.append_nil]
    rw [szC_ok (by omega)]
    simp only [Option.bind_some, decide_true, if_true]
    rw [iadd64 (by omega) (by omega), Int.add_zero]
  · rw [if_neg (by simp; omega)]
theorem open_cuts (j : List UInt8) (hj : j.length ≤ 20000) : ∀ (k m i a : Nat) (y : List UInt8), i ≤ j.length → j.length - i < k → m ≤ i → a ≤ 8192 → y.length ≤ i →
    law07_ChunkCuts_L260 j k (m : Int) (i : Int) (a : Int) 0 y = some (if j.length - i ≤ 8192 - a then (((m + (j.length - i) : Nat) : Int), ((a + (j.length - i) : Nat) : Int), 0, y ++ j.drop i) else (((m + (8192 - a) + 1 : Nat) : Int), 8192, 23, y ++ (j.drop i).take (8192 - a)))
  | 0, _, _, _, _, _, hk, _, _, _ => by omega
  | k + 1, m, i, a, y, hi, hk, hm, ha, hy => by
    by_cases hlt : i < j.length
    · simp only [law07_ChunkCuts_L260]
      rw [if_pos (decide_eq_true (by omega)), byte_at hlt hj]
      simp only [Option.bind_some]
      have e := open_loop [j[i]] (by simp) 1099511627776 0 a [] (by simp) (by simp) ha (by simp)
      rw [List.drop_zero, Nat.zero_add, Nat.sub_zero, List.nil_append, List.nil_append, List.length_singleton] at e
      have e2 : chunk_Reader_Take_w3 [j[i]] (a : Int) false 0 [] = some (if 1 ≤ 8192 - a then (((1 : Nat) : Int), ((a + 1 : Nat) : Int), 0, [j[i]]) else (((8192 - a + 1 : Nat) : Int), 8192, 23, [j[i]].take (8192 - a))) := by
        unfold chunk_Reader_Take_w3
        rw [show ((0 : Nat) : Int) = 0 from rfl] at e
        rw [e]
        split <;> rfl
      rw [e2]
      simp only [Option.bind_some]
      obtain ⟨k', rfl⟩ : ∃ k', k = k' + 1 := ⟨k - 1, by omega⟩
      by_cases hf : a = 8192
      · subst hf
        rw [if_neg (show ¬ 1 ≤ 8192 - 8192 by decide)]
        simp only [Nat.sub_self, List.take_zero, List.append_nil, Nat.zero_add]
        rw [szC_ok (by omega)]
        simp only [Option.bind_some]
        rw [if_neg (by simp), iadd64 (by omega) (by omega), iadd64 (by omega) (by omega), show (m : Int) + ((1 : Nat) : Int) = ((m + 1 : Nat) : Int) by omega, show (i : Int) + 1 = ((i + 1 : Nat) : Int) by omega,
          open_cut0 j hj k' (i + 1) (m + 1) (by omega) 8192 y hlt (by omega), if_neg (by omega)]
      · rw [if_pos (by omega)]
        simp only []
        rw [szC_ok (by simp; omega)]
        simp only [Option.bind_some]
        rw [if_neg (by simp), iadd64 (by omega) (by omega), iadd64 (by omega) (by omega), show (m : Int) + ((1 : Nat) : Int) = ((m + 1 : Nat) : Int) by omega, show (i : Int) + 1 = ((i + 1 : Nat) : Int) by omega,
          open_cuts j hj (k' + 1) (m + 1) (i + 1) (a + 1) _ hlt (by omega) (by omega) (by omega) (by simp; omega)]
        by_cases hq : j.length - i ≤ 8192 - a
        · rw [if_pos (by omega), if_pos hq, drop_at hlt]
          simp
          omega
        · rw [if_neg (by omega), if_neg hq, drop_at hlt, show 8192 - a = 8192 - (a + 1) + 1 by omega, List.take_succ_cons]
          simp
          omega
    · simp only [law07_ChunkCuts_L260]
      rw [if_neg (by simp; omega)]
      have hd : j.drop i = [] := List.drop_eq_nil_of_le (by omega)
      rw [if_pos (by omega), hd]
      simp
      omega
/-! a body of chunks -/
theorem chunk_cuts (j : List UInt8) (hj : j.length ≤ 20000) : ∀ (k m i : Nat) (c : Cst) (y : List UInt8), i ≤ j.length → j.length - i < k → m ≤ i → y.length ≤ i →
    law07_ChunkCuts_L191 j k (m : Int) (i : Int) c.2.2.2.2.1 c.2.2.2.2.2.1 c.2.2.2.2.2.2 c.1 c.2.1 c.2.2.1 c.2.2.2.1 y =
      (runS (j.drop i) c).map fun z => (((m + z.1 : Nat) : Int), z.2.1.2.2.2.2.1, z.2.1.2.2.2.2.2.1, z.2.1.2.2.2.2.2.2, z.2.1.1, z.2.1.2.1, z.2.1.2.2.1, z.2.1.2.2.2.1, y ++ z.2.2)
  | 0, _, _, _, _, _, hk, _, _ => by omega
  | k + 1, m, i, c, y, hi, hk, hm, hy => by
    simp only [law07_ChunkCuts_L191]
    by_cases hlt : i < j.length
    · rw [if_pos (decide_eq_true (by omega)), byte_at hlt hj]
      simp only [Option.bind_some]
      rw [take_eq (by simp) c [], drop_at hlt]
      simp only [runS]
      cases hs : stopS c with
      | true =>
        simp only [if_true, Option.map_some, Option.bind_some, List.append_nil]
        rw [szC_ok (by omega)]
        simp only [Option.bind_some]
        rw [if_pos (by simp), iadd64 (by omega) (by omega)]
        simp
      | false =>
        simp only [Bool.false_eq_true, if_false]
        cases hq : oneS c j[i] with
        | none => rfl
        | some q =>
          have := one_len hq
          simp only [Option.map_some, Option.bind_some, List.append_nil, Nat.zero_add]
          rw [szC_ok (by simp; omega)]
          simp only [Option.bind_some]
          rw [if_neg (by simp), iadd64 (by omega) (by omega), iadd64 (by omega) (by omega), show (m : Int) + ((1 : Nat) : Int) = ((m + 1 : Nat) : Int) by omega, show (i : Int) + 1 = ((i + 1 : Nat) : Int) by omega,
            chunk_cuts j hj k (m + 1) (i + 1) q.1 _ hlt (by omega) (by omega) (by simp; omega)]
          cases runS (j.drop (i + 1)) q.1 with
          | none => rfl
          | some z =>
            simp only [Option.map_some, Option.some.injEq, Prod.mk.injEq, List.append_assoc, and_true, true_and]
            omega
    · rw [if_neg (by simp; omega), List.drop_eq_nil_of_le (by omega)]
      simp [runS]
/-- what is asked at the end -/
theorem tail7 (d : Bool) (e : Int) (n : Nat) (en : Bool) (h1 : d = true → e = 0) (h2 : n ≤ 8192) (h3 : en = true → d = true ∨ e ≠ 0) :
    (if d then (if !(!decide (e = 0)) then (if decide ((n : Int) ≤ 8192) then (if !en then some true else if d then some true else some (!decide (e = 0))) else some false) else some false)
      else (if decide ((n : Int) ≤ 8192) then (if !en then some true else if d then some true else some (!decide (e = 0))) else some false)) = some true := by
  have hn : decide ((n : Int) ≤ 8192) = true := decide_eq_true (by omega)
  rw [hn]
  cases d with
  | true =>
    rw [h1 rfl]
    cases en <;> rfl
  | false =>
    cases en with
    | false => rfl
    | true =>
      rcases h3 rfl with h | h
      · cases h
      · simp [h]
theorem cut_b (b : List UInt8) : ∃ j : List UInt8, j.length ≤ 20000 ∧ (if decide (20000 < (List.length b : Int)) then (slL b 0 20000).bind fun s => some s else some b) = some j := by
  by_cases h : 20000 < b.length
  · rw [if_pos (decide_eq_true (by omega)), show (20000 : Int) = ((20000 : Nat) : Int) from rfl, slL_to (by omega)]
    exact ⟨_, by simp; omega, rfl⟩
  · rw [if_neg (by simp; omega)]
    exact ⟨b, by omega, rfl⟩
theorem law_ChunkCuts_all (body : Int × Int) (b : List UInt8) (en : Bool) (_h1 : inR .i64 body.1 ∧ inR .i64 body.2) (_h2 : ∀ x ∈ b, True) (_h3 : True) : law07_ChunkCuts body b en = some true := by
  obtain ⟨j, hj, ej⟩ := cut_b b
  unfold law07_ChunkCuts
  rw [shown07]
  simp only [Option.bind_some]
  have hnew : chunk_New_w6 body.1 body.2 = some (.inl ()) ∨ chunk_New_w6 body.1 body.2 = some (.inr (.inl ())) ∨ (∃ N : Nat, N ≤ 8192 ∧ body.2 = (N : Int) ∧ chunk_New_w6 body.1 body.2 = some (.inr (.inr (.inl ())))) ∨
      chunk_New_w6 body.1 body.2 = some (.inr (.inr (.inr (.inl ())))) ∨ chunk_New_w6 body.1 body.2 = some (.inr (.inr (.inr (.inr ())))) := by
    unfold chunk_New_w6
    by_cases h0 : body.1 = 0
    · rw [if_pos (decide_eq_true h0)]; exact .inl rfl
    rw [if_neg (by simpa using h0)]
    by_cases h1 : body.1 = 1
    · rw [if_pos (decide_eq_true h1)]
      by_cases h2 : body.2 < 0
      · rw [if_pos (decide_eq_true h2)]; exact .inr (.inl rfl)
      rw [if_neg (by simpa using h2)]
      by_cases h3 : 8192 < body.2
      · rw [decide_eq_true h3]; exact .inr (.inl rfl)
      rw [decide_eq_false h3]
      exact .inr (.inr (.inl ⟨body.2.toNat, by omega, by omega, rfl⟩))
    rw [if_neg (by simpa using h1)]
    by_cases h2 : body.1 = 2
    · rw [if_pos (decide_eq_true h2)]; exact .inr (.inr (.inr (.inl rfl)))
    rw [if_neg (by simpa using h2)]
    by_cases h3 : body.1 = 3
    · rw [if_pos (decide_eq_true h3)]; exact .inr (.inr (.inr (.inr rfl)))
    rw [if_neg (by simpa using h3)]
    exact .inr (.inl rfl)
  rcases hnew with h | h | ⟨N, hN, hb, h⟩ | h | h <;> rw [h] <;> simp only [Option.bind_some]
  · show (Option.bind (if decide (20000 < (List.length b : Int)) then (slL b 0 20000).bind fun s => some s else some b) _) = _
    rw [ej]
    simp only [Option.bind_some]
    rw [none_take, none_cuts j hj 1099511627775]
    cases en <;> rfl
  · rfl
  · show (Option.bind (if decide (20000 < (List.length b : Int)) then (slL b 0 20000).bind fun s => some s else some b) _) = _
    rw [ej]
    simp only [Option.bind_some]
    have e1 := len_loop j N hN (by omega) 1099511627776 0 0 [] (by omega) (by omega) (by omega) (by simp)
    have e2 := len_cuts j hj body N hN hb 1099511627776 0 0 0 [] (by omega) (by omega) (by omega) (by omega) (by simp)
    have hd0 : decide (body.2 = 0) = decide (0 = N) := decide_eq_decide.2 (by omega)
    simp only [Nat.sub_zero, Nat.zero_add, List.drop_zero, List.nil_append] at e1 e2
    rw [show ((0 : Nat) : Int) = 0 from rfl] at e1 e2
    have e1' : chunk_Reader_Take_w2 j body.2 0 (decide (body.2 = 0)) 0 [] = some (((min j.length N : Nat) : Int), ((min j.length N : Nat) : Int), decide (min j.length N = N), j.take (min j.length N)) := by
      unfold chunk_Reader_Take_w2
      rw [hd0, hb, e1]
      rfl
    rw [e1', hd0, e2]
    simp only [Option.bind_some]
    have hE : ∀ d : Bool, chunk_Reader_End_w2 body.2 ((min j.length N : Nat) : Int) d 0 [] = some (if d then 0 else 24) := fun d => by
      unfold chunk_Reader_End_w2
      cases d <;> rfl
    rw [hE]
    have hl : (j.take (min j.length N)).length ≤ 8192 := by simp; omega
    generalize decide (min j.length N = N) = d
    cases en with
    | false =>
      simp only [Bool.false_eq_true, if_false, Option.bind_some, decide_true, if_true, chunk_Reader_Done, chunk_Reader_Err, beq_self_eq_true]
      exact tail7 d 0 _ false (fun _ => rfl) hl (fun h => by cases h)
    | true =>
      simp only [if_true, Option.bind_some, decide_true, chunk_Reader_Done, chunk_Reader_Err, beq_self_eq_true]
      exact tail7 d (if d = true then 0 else 24) _ true (fun h => by rw [if_pos h]) hl (fun _ => by cases d; exact .inr (by decide); exact .inl rfl)
  · show (Option.bind (if decide (20000 < (List.length b : Int)) then (slL b 0 20000).bind fun s => some s else some b) _) = _
    rw [ej]
    simp only [Option.bind_some]
    have hi : Inv7 ((0, false, 0, [], 0, false, 0) : Cst) := ⟨by decide, by decide, by decide, by decide, fun h => (by cases h), by decide, by decide, by decide, fun _ => (by decide), fun h => (by cases h)⟩
    obtain ⟨z, f1, f2, f3⟩ := run_total j hi
    have e1 := take_eq (b := j) (by omega) ((0, false, 0, [], 0, false, 0) : Cst) []
    have e2 := chunk_cuts j hj 1099511627776 0 0 ((0, false, 0, [], 0, false, 0) : Cst) [] (by omega) (by omega) (by omega) (by simp)
    rw [List.drop_zero] at e2
    rw [f1] at e1 e2
    simp only [Option.map_some, Nat.zero_add, List.nil_append] at e1 e2
    rw [show ((0 : Nat) : Int) = 0 from rfl] at e2
    have e1' : chunk_Reader_Take j 0 false 0 0 false 0 [] [] = _ := e1
    have e2' : law07_ChunkCuts_L191 j 1099511627776 0 0 0 false 0 0 false 0 [] [] = _ := e2
    rw [e1', e2']
    simp only [Option.bind_some]
    obtain ⟨zn, ⟨zleft, zlast, zrows, zline, zall, zdone, zerr⟩, zo⟩ := z
    have hdn := f2.dn
    have ha1 := f2.a1
    dsimp only at f3 hdn ha1 ⊢
    have hE : chunk_Reader_End_w4 zall zdone zerr zleft zlast zrows zline [] = some (if zdone = false ∧ zerr = 0 then 24 else zerr) := by
      unfold chunk_Reader_End_w4
      cases zdone with
      | true => rfl
      | false =>
        by_cases h : zerr = 0
        · have : (if (false : Bool) = false ∧ zerr = 0 then (24 : Int) else zerr) = 24 := if_pos ⟨rfl, h⟩
          rw [this, decide_eq_true h]; rfl
        · have : (if (false : Bool) = false ∧ zerr = 0 then (24 : Int) else zerr) = zerr := if_neg (fun e => h e.2)
          rw [this, decide_eq_false h]; rfl
    rw [hE]
    have hl : zo.length ≤ 8192 := by omega
    cases en with
    | false =>
      simp only [Bool.false_eq_true, if_false, Option.bind_some, decide_true, if_true, chunk_Reader_Done, chunk_Reader_Err, beq_self_eq_true]
      exact tail7 zdone zerr _ false hdn hl (fun h => by cases h)
    | true =>
      simp only [if_true, Option.bind_some, decide_true, chunk_Reader_Done, chunk_Reader_Err, beq_self_eq_true]
      refine tail7 zdone (if zdone = false ∧ zerr = 0 then 24 else zerr) _ true (fun h => ?_) hl (fun _ => ?_)
      · rw [if_neg (fun e => by rw [h] at e; cases e.1)]; exact hdn h
      · cases zdone with
        | true => exact .inl rfl
        | false =>
          by_cases h : zerr = 0
          · rw [if_pos ⟨rfl, h⟩]; exact .inr (by decide)
          · rw [if_neg (fun e => h e.2)]; exact .inr h
  · show (Option.bind (if decide (20000 < (List.length b : Int)) then (slL b 0 20000).bind fun s => some s else some b) _) = _
    rw [ej]
    simp only [Option.bind_some]
    have e1 := open_loop j (by omega) 1099511627776 0 0 [] (by omega) (by omega) (by omega) (by simp)
    have e2 := open_cuts j hj 1099511627776 0 0 0 [] (by omega) (by omega) (by omega) (by omega) (by simp)
    simp only [Nat.sub_zero, Nat.zero_add, List.drop_zero, List.nil_append] at e1 e2
    rw [show ((0 : Nat) : Int) = 0 from rfl] at e1 e2
    have e1' : chunk_Reader_Take_w3 j 0 false 0 [] = some (if j.length ≤ 8192 then ((j.length : Int), (j.length : Int), 0, j) else (8193, 8192, 23, j.take 8192)) := by
      unfold chunk_Reader_Take_w3
      rw [e1]
      split <;> rfl
    rw [e1', e2]
    simp only [Option.bind_some]
    by_cases hq : j.length ≤ 8192
    · simp only [if_pos hq]
      rw [show chunk_Reader_End (j.length : Int) false 0 [] = some true from rfl]
      cases en with
      | false =>
        simp only [Bool.false_eq_true, if_false, Option.bind_some, decide_true, if_true, chunk_Reader_Done, chunk_Reader_Err, beq_self_eq_true]
        exact tail7 false 0 _ false (fun _ => rfl) hq (fun h => by cases h)
      | true =>
        simp only [if_true, Option.bind_some, decide_true, chunk_Reader_Done, chunk_Reader_Err, beq_self_eq_true]
        exact tail7 true 0 _ true (fun _ => rfl) hq (fun h => .inl rfl)
    · simp only [if_neg hq]
      rw [show chunk_Reader_End 8192 false 23 [] = some false from rfl]
      have hl : (j.take 8192).length ≤ 8192 := by simp; omega
      cases en with
      | false =>
        simp only [Bool.false_eq_true, if_false, Option.bind_some, decide_true, if_true, chunk_Reader_Done, chunk_Reader_Err, beq_self_eq_true]
        exact tail7 false 23 _ false (fun h => by cases h) hl (fun h => by cases h)
      | true =>
        simp only [if_true, Option.bind_some, decide_true, chunk_Reader_Done, chunk_Reader_Err, beq_self_eq_true]
        exact tail7 false 23 _ true (fun h => by cases h) hl (fun h => .inr (by decide))
end Go.Proofs.YtfhlehkgiamejaaGreatDoor
