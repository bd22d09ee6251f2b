/- head, plain: the program's reader and the reference's take the same. -/
import Derived.Test.YtbcmngnmfneeaaaDoorPu
import Derived.Test.YtbcmngnmfneeaaaDoorLReads
import Derived.KernelRfl
namespace Go.Proofs.YtbcmngnmfneeaaaDoor
open Go.Av
set_option linter.unusedVariables false
set_option linter.unusedSimpArgs false
set_option maxRecDepth 100000
theorem shown05 : law05_shown = some true := by kernel_rfl
def tail4 (x : List UInt8) : List UInt8 := x.drop (x.length - 4)
def last13 (b : List UInt8) : Bool := decide (b.getLast? = some 13)
/-- a byte more: is it done, is it wrong? -/
def rdS (b : List UInt8) (c : UInt8) : Bool × Int :=
  if (decide (c = 10)) != last13 b then (false, 10)
  else if tail4 (b ++ [c]) = [13, 10] ∨ tail4 (b ++ [c]) = [13, 10, 13, 10] then (true, 0)
  else if (b ++ [c]).length = 2048 then (false, 17) else (false, 0)
theorem rd10 (c : UInt8) : decide (b2i c = b2i (bC 10)) = decide (c = 10) := decide_eq_decide.2 ⟨fun h => b2i_inj.1 h, fun h => by rw [h]; rfl⟩
theorem rd13 (c : UInt8) : decide (b2i c = b2i (bC 13)) = decide (c = 13) := decide_eq_decide.2 ⟨fun h => b2i_inj.1 h, fun h => by rw [h]; rfl⟩
theorem last_ix {b : List UInt8} (hb : b.length ≤ 1000000000) : (if decide (0 < ((List.length b : Nat) : Int)) then
    (ixL b (isub .i64 ((List.length b : Nat) : Int) 1)).bind fun x => some (decide (b2i x = b2i (bC 13))) else some false) = some (last13 b) := by
  unfold last13
  by_cases h : b = []
  · subst h; rfl
  · have hl : 0 < b.length := List.length_pos_iff.2 h
    rw [if_pos (by rw [decide_eq_true_eq]; omega), isub64 (by omega) (by omega), show ((b.length : Nat) : Int) - 1 = ((b.length - 1 : Nat) : Int) by omega, ixL_nat, List.getLast?_eq_getElem?, List.getElem?_eq_getElem (by omega)]
    simp only [Option.bind_some, rd13]
    congr 1
    exact decide_eq_decide.2 ⟨fun e => by rw [e], fun e => by simpa using e⟩
theorem tail_sl {b : List UInt8} (hb : b.length ≤ 1000000000) : slL b (max 0 (isub .i64 ((List.length b : Nat) : Int) 4)) ((List.length b : Nat) : Int) = some (tail4 b) := by
  rw [isub64 (by omega) (by omega), show max 0 (((b.length : Nat) : Int) - 4) = ((b.length - 4 : Nat) : Int) by omega, slL_from (by omega)]
  rfl
theorem one_rd {t : List UInt8} (ht : t.length ≤ 900000000) (c : UInt8) : head_Reader_one c false 0 t = some (rdS t c) := by
  unfold head_Reader_one rdS
  rw [last_ix (by omega)]
  simp only [Option.bind_some]
  rw [szC_ok (by simp; omega), tail_sl (by simp; omega)]
  simp only [Option.bind_some]
  rw [rd10]
  by_cases h1 : ((decide (c = 10)) != last13 t) = true
  · rw [if_pos h1, if_pos h1]
  · rw [if_neg h1, if_neg h1]
    by_cases h2 : tail4 (t ++ [c]) = [13, 10]
    · rw [if_pos (show tail4 (t ++ [c]) = [13, 10] ∨ tail4 (t ++ [c]) = [13, 10, 13, 10] from .inl h2), h2]
      rfl
    · by_cases h3 : tail4 (t ++ [c]) = [13, 10, 13, 10]
      · rw [if_pos (show tail4 (t ++ [c]) = [13, 10] ∨ tail4 (t ++ [c]) = [13, 10, 13, 10] from .inr h3), h3]
        rfl
      · rw [if_neg (show ¬ (tail4 (t ++ [c]) = [13, 10] ∨ tail4 (t ++ [c]) = [13, 10, 13, 10]) from fun e => e.elim h2 h3), decide_eq_false h2, decide_eq_false h3]
        by_cases h4 : (t ++ [c]).length = 2048
        · rw [if_pos h4]
          simp only [Bool.false_eq_true, if_false, Option.bind_some]
          rw [if_pos (by rw [decide_eq_true_eq]; omega)]
        · rw [if_neg h4]
          simp only [Bool.false_eq_true, if_false, Option.bind_some]
          rw [if_neg (by rw [decide_eq_true_eq]; omega)]
def stopR (s : Bool × Int × List UInt8) : Bool := s.1 || !decide (s.2.1 = 0)
/-- how many bytes are taken, and how it stands then -/
def rdM : List UInt8 → Bool × Int × List UInt8 → Nat × (Bool × Int × List UInt8)
  | [], s => (0, s)
  | c :: r, s => if stopR s then (0, s) else ((rdM r ((rdS s.2.2 c).1, (rdS s.2.2 c).2, s.2.2 ++ [c])).1 + 1, (rdM r ((rdS s.2.2 c).1, (rdS s.2.2 c).2, s.2.2 ++ [c])).2)
/-- it holds at most 2048 bytes, fewer while it goes on -/
def okR (s : Bool × Int × List UInt8) : Prop := s.2.2.length ≤ 2048 ∧ (stopR s = false → s.2.2.length < 2048)
theorem okR_step {d : Bool} {e : Int} {t : List UInt8} (c : UInt8) (h : okR (d, e, t)) (hs : stopR (d, e, t) = false) : okR ((rdS t c).1, (rdS t c).2, t ++ [c]) := by
  have ht : t.length < 2048 := h.2 hs
  refine ⟨by simp; omega, fun hn => ?_⟩
  unfold rdS at hn
  split at hn
  · simp [stopR] at hn
  · split at hn
    · simp [stopR] at hn
    · split at hn
      · simp [stopR] at hn
      · rename_i h3
        simp at h3 ⊢; omega
theorem rdM_ok : ∀ (r : List UInt8) (s : Bool × Int × List UInt8), okR s → okR (rdM r s).2
  | [], s, h => h
  | c :: r, s, h => by
    unfold rdM
    split
    · exact h
    · rename_i hs
      exact rdM_ok r _ (okR_step c h (by simpa using hs))
theorem go_in {d : Bool} {e : Int} {t : List UInt8} (h : stopR (d, e, t) = false) : d = false ∧ e = 0 := by
  simpa [stopR] using h
theorem head_loop (b : List UInt8) (hb : b.length ≤ 140737488351232) : ∀ (k v : Nat) (d : Bool) (e : Int) (t : List UInt8), v ≤ b.length → b.length - v < k → okR (d, e, t) →
    ∃ o, head_Reader_Take_L61 b k (v : Int) d e t = some o ∧ (match o with
      | Sum.inl r => r = (((v + (rdM (b.drop v) (d, e, t)).1 : Nat) : Int), (rdM (b.drop v) (d, e, t)).2.1, (rdM (b.drop v) (d, e, t)).2.2.1, (rdM (b.drop v) (d, e, t)).2.2.2)
      | Sum.inr r => r = (rdM (b.drop v) (d, e, t)).2 ∧ v + (rdM (b.drop v) (d, e, t)).1 = b.length)
  | 0, v, d, e, t, _, hk, _ => by omega
  | k + 1, v, d, e, t, hv, hk, ht => by
    simp only [head_Reader_Take_L61]
    by_cases hlt : v < b.length
    · rw [if_pos (decide_eq_true (by omega)), ixL_in hlt, List.drop_eq_getElem_cons hlt]
      simp only [Option.bind_some]
      have hs : (if d then some true else some (!decide (e = 0))) = some (stopR (d, e, t)) := by cases d <;> simp [stopR]
      rw [hs]
      simp only [Option.bind_some, rdM]
      cases hst : stopR (d, e, t) with
      | true => exact ⟨_, rfl, by simp⟩
      | false =>
        obtain ⟨rfl, rfl⟩ := go_in hst
        have htl : t.length ≤ 2048 := ht.1
        simp only [Bool.false_eq_true, if_false]
        rw [one_rd (by omega)]
        simp only [Option.bind_some]
        rw [iadd64 (by omega) (by omega), show (v : Int) + 1 = ((v + 1 : Nat) : Int) by omega]
        obtain ⟨o, h1, h2⟩ := head_loop b hb k (v + 1) (rdS t b[v]).1 (rdS t b[v]).2 (t ++ [b[v]]) hlt (by omega) (okR_step b[v] ht hst)
        refine ⟨o, h1, ?_⟩
        rcases o with r | r
        · dsimp only at h2 ⊢
          rw [h2, show v + ((rdM (b.drop (v + 1)) ((rdS t b[v]).1, (rdS t b[v]).2, t ++ [b[v]])).1 + 1) = v + 1 + (rdM (b.drop (v + 1)) ((rdS t b[v]).1, (rdS t b[v]).2, t ++ [b[v]])).1 by omega]
        · dsimp only at h2 ⊢
          exact ⟨h2.1, by omega⟩
    · rw [if_neg (fun e => hlt (by have := of_decide_eq_true e; omega)), List.drop_eq_nil_of_le (by omega)]
      exact ⟨_, rfl, rfl, by simp only [rdM]; omega⟩
theorem head_take {b : List UInt8} (hb : b.length ≤ 140737488351232) {d : Bool} {e : Int} {t : List UInt8} (ht : okR (d, e, t)) :
    head_Reader_Take b d e t = some (((rdM b (d, e, t)).1 : Int), (rdM b (d, e, t)).2.1, (rdM b (d, e, t)).2.2.1, (rdM b (d, e, t)).2.2.2) := by
  unfold head_Reader_Take
  obtain ⟨o, h1, h2⟩ := head_loop b hb 140737488355328 0 d e t (by omega) (by omega) ht
  rw [show ((0 : Nat) : Int) = 0 from rfl] at h1
  rw [h1, List.drop_zero] at *
  rcases o with r | r
  · dsimp only at h2
    rw [Nat.zero_add] at h2
    rw [h2]; rfl
  · dsimp only at h2
    rw [Nat.zero_add] at h2
    rw [h2.1, ← h2.2]; rfl
/-- the reference's test -/
theorem ref_end (u : List UInt8) (hu : u.length ≤ 1000000000) : (if decide (u = [13, 10]) then some true else if decide (3 < (List.length u : Int)) then
    (slL u (isub .i64 (List.length u : Int) 4) (List.length u : Int)).bind fun s => some (decide (s = [13, 10, 13, 10])) else some false) = some (decide (tail4 u = [13, 10] ∨ tail4 u = [13, 10, 13, 10])) := by
  by_cases h3 : 3 < u.length
  · have hl : (tail4 u).length = 4 := by unfold tail4; simp; omega
    have h0 : u ≠ [13, 10] := fun e => by rw [e] at h3; simp at h3
    have h1 : tail4 u ≠ [13, 10] := fun e => by rw [e] at hl; simp at hl
    rw [if_neg (by simpa using h0), if_pos (decide_eq_true (by omega)), isub64 (by omega) (by omega), show (u.length : Int) - 4 = ((u.length - 4 : Nat) : Int) by omega, slL_from (by omega)]
    simp only [Option.bind_some]
    congr 1
    exact decide_eq_decide.2 ⟨fun e => .inr e, fun e => e.elim (fun e => absurd e h1) id⟩
  · have ht : tail4 u = u := by unfold tail4; rw [show u.length - 4 = 0 by omega, List.drop_zero]
    rw [ht]
    have h1 : u ≠ [13, 10, 13, 10] := fun e => by rw [e] at h3; simp at h3
    by_cases h0 : u = [13, 10]
    · rw [if_pos (decide_eq_true h0), decide_eq_true (.inl h0)]
    · rw [if_neg (by simpa using h0), if_neg (fun e => h3 (by have := of_decide_eq_true e; omega)), decide_eq_false (fun e => e.elim h0 h1)]
theorem ref_loop (b : List UInt8) (hb : b.length ≤ 140737488351232) : ∀ (k v : Nat) (d : Bool) (e : Int) (t : List UInt8), v ≤ b.length → b.length - v < k → okR (d, e, t) →
    ref05_Reader_Take_L110 b k (v : Int) t d e = some (((v + (rdM (b.drop v) (d, e, t)).1 : Nat) : Int), (rdM (b.drop v) (d, e, t)).2.2.2, (rdM (b.drop v) (d, e, t)).2.1, (rdM (b.drop v) (d, e, t)).2.2.1)
  | 0, v, d, e, t, _, hk, _ => by omega
  | k + 1, v, d, e, t, hv, hk, ht => by
    simp only [ref05_Reader_Take_L110]
    by_cases hlt : v < b.length
    · rw [if_pos (decide_eq_true (by omega)), List.drop_eq_getElem_cons hlt]
      have hs : (if (!d) = true then some (decide (e = 0)) else some false) = some (!stopR (d, e, t)) := by cases d <;> simp [stopR]
      rw [hs]
      simp only [Option.bind_some, rdM]
      cases hst : stopR (d, e, t) with
      | true => simp
      | false =>
        obtain ⟨rfl, rfl⟩ := go_in hst
        have htl : t.length ≤ 2048 := ht.1
        simp only [Bool.not_false, if_true, Bool.false_eq_true, if_false]
        rw [ixL_in hlt]
        simp only [Option.bind_some]
        rw [last_ix (by omega), rd10]
        simp only [Option.bind_some]
        rw [szC_ok (by simp; omega), iadd64 (by omega) (by omega), show (v : Int) + 1 = ((v + 1 : Nat) : Int) by omega]
        simp only [Option.bind_some]
        have ih := ref_loop b hb k (v + 1) (rdS t b[v]).1 (rdS t b[v]).2 (t ++ [b[v]]) hlt (by omega) (okR_step b[v] ht hst)
        rw [ref_end _ (by simp; omega)]
        simp only [Option.bind_some]
        rw [show v + ((rdM (b.drop (v + 1)) ((rdS t b[v]).1, (rdS t b[v]).2, t ++ [b[v]])).1 + 1) = v + 1 + (rdM (b.drop (v + 1)) ((rdS t b[v]).1, (rdS t b[v]).2, t ++ [b[v]])).1 by omega, ← ih]
        unfold rdS
        by_cases h1 : ((decide (b[v] = 10)) != last13 t) = true
        · simp only [h1, if_true]
        · have h1' : ((decide (b[v] = 10)) != last13 t) = false := by simpa using h1
          simp only [h1', Bool.false_eq_true, if_false]
          by_cases h2 : tail4 (t ++ [b[v]]) = [13, 10] ∨ tail4 (t ++ [b[v]]) = [13, 10, 13, 10]
          · simp only [h2, decide_true, if_true]
          · simp only [h2, decide_false, Bool.false_eq_true, if_false]
            by_cases h3 : (t ++ [b[v]]).length = 2048
            · rw [if_pos (decide_eq_true (by omega))]
              simp only [h3, if_true]
            · rw [if_neg (fun e => h3 (by have := of_decide_eq_true e; omega))]
              simp only [h3, if_false]
    · rw [if_neg (fun e => hlt (by have := of_decide_eq_true e; omega)), List.drop_eq_nil_of_le (by omega)]
      simp [rdM]
theorem ref_take {b : List UInt8} (hb : b.length ≤ 140737488351232) {d : Bool} {e : Int} {t : List UInt8} (ht : okR (d, e, t)) :
    ref05_Reader_Take b t d e = some (((rdM b (d, e, t)).1 : Int), (rdM b (d, e, t)).2.2.2, (rdM b (d, e, t)).2.1, (rdM b (d, e, t)).2.2.1) := by
  unfold ref05_Reader_Take
  have := ref_loop b hb 140737488355328 0 d e t (by omega) (by omega) ht
  rw [show ((0 : Nat) : Int) = 0 from rfl, List.drop_zero, Nat.zero_add] at this
  rw [this]; rfl
end Go.Proofs.YtbcmngnmfneeaaaDoor
