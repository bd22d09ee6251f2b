/- head, plain: a head that is read ends a reader at its last byte; no beginning of it is read; with a byte more it is refused at its end. -/
import Derived.Test.YtbcmngnmfneeaaaGreatDoorW5R
import Derived.Test.YtbcmngnmfneeaaaGreatDoorGE
import Derived.KernelRfl
namespace Go.Proofs.YtbcmngnmfneeaaaGreatDoor
open Go.Av
set_option linter.unusedVariables false
set_option linter.unusedSimpArgs false
set_option maxRecDepth 100000
theorem shown05 : law05_shown = some true := by kernel_rfl
def tail4 (x : List UInt8) : List UInt8 := x.drop (x.length - 4)
def last13 (b : List UInt8) : Bool := decide (b.getLast? = some 13)
/-- a byte more: is it done, is it wrong? -/
def rdS (b : List UInt8) (c : UInt8) : Bool × Int :=
  if (decide (c = 10)) != last13 b then (false, 10)
  else if tail4 (b ++ [c]) = [13, 10] ∨ tail4 (b ++ [c]) = [13, 10, 13, 10] then (true, 0)
  else if (b ++ [c]).length = 2048 then (false, 17) else (false, 0)
theorem rd10 (c : UInt8) : decide (b2i c = b2i (bC 10)) = decide (c = 10) := decide_eq_decide.2 ⟨fun h => b2i_inj.1 h, fun h => by rw [h]; rfl⟩
theorem rd13 (c : UInt8) : decide (b2i c = b2i (bC 13)) = decide (c = 13) := decide_eq_decide.2 ⟨fun h => b2i_inj.1 h, fun h => by rw [h]; rfl⟩
theorem last_ix {b : List UInt8} (hb : b.length ≤ 1000000000) : (if decide (0 < ((List.length b : Nat) : Int)) then
    (ixL b (isub .i64 ((List.length b : Nat) : Int) 1)).bind fun x => some (decide (b2i x = b2i (bC 13))) else some false) = some (last13 b) := by
  unfold last13
  by_cases h : b = []
  · subst h; rfl
  · have hl : 0 < b.length := List.length_pos_iff.2 h
    rw [if_pos (by rw [decide_eq_true_eq]; omega), isub64 (by omega) (by omega), show ((b.length : Nat) : Int) - 1 = ((b.length - 1 : Nat) : Int) by omega, ixL_nat, List.getLast?_eq_getElem?, List.getElem?_eq_getElem (by omega)]
    simp only [Option.bind_some, rd13]
    congr 1
    exact decide_eq_decide.2 ⟨fun e => by rw [e], fun e => by simpa using e⟩
theorem tail_sl {b : List UInt8} (hb : b.length ≤ 1000000000) : slL b (max 0 (isub .i64 ((List.length b : Nat) : Int) 4)) ((List.length b : Nat) : Int) = some (tail4 b) := by
  rw [isub64 (by omega) (by omega), show max 0 (((b.length : Nat) : Int) - 4) = ((b.length - 4 : Nat) : Int) by omega, slL_from (by omega)]
  rfl
theorem one_rd {t : List UInt8} (ht : t.length ≤ 900000000) (c : UInt8) : head_Reader_one c false 0 t = some (rdS t c) := by
  unfold head_Reader_one rdS
  rw [last_ix (by omega)]
  simp only [Option.bind_some]
  rw [szC_ok (by simp; omega), tail_sl (by simp; omega)]
  simp only [Option.bind_some]
  rw [rd10]
  by_cases h1 : ((decide (c = 10)) != last13 t) = true
  · rw [if_pos h1, if_pos h1]
  · rw [if_neg h1, if_neg h1]
    by_cases h2 : tail4 (t ++ [c]) = [13, 10]
    · rw [if_pos (show tail4 (t ++ [c]) = [13, 10] ∨ tail4 (t ++ [c]) = [13, 10, 13, 10] from .inl h2), h2]
      rfl
    · by_cases h3 : tail4 (t ++ [c]) = [13, 10, 13, 10]
      · rw [if_pos (show tail4 (t ++ [c]) = [13, 10] ∨ tail4 (t ++ [c]) = [13, 10, 13, 10] from .inr h3), h3]
        rfl
      · rw [if_neg (show ¬ (tail4 (t ++ [c]) = [13, 10] ∨ tail4 (t ++ [c]) = [13, 10, 13, 10]) from fun e => e.elim h2 h3), decide_eq_false h2, decide_eq_false h3]
        by_cases h4 : (t ++ [c]).length = 2048
        · rw [if_pos h4]
          simp only [Bool.false_eq_true, if_false, Option.bind_some]
          rw [if_pos (by rw [decide_eq_true_eq]; omega)]
        · rw [if_neg h4]
          simp only [Bool.false_eq_true, if_false, Option.bind_some]
          rw [if_neg (by rw [decide_eq_true_eq]; omega)]
def stopR (s : Bool × Int × List UInt8) : Bool := s.1 || !decide (s.2.1 = 0)
/-- how many bytes are taken, and how it stands then -/
def rdM : List UInt8 → Bool × Int × List UInt8 → Nat × (Bool × Int × List UInt8)
  | [], s => (0, s)
  | c :: r, s => if stopR s then (0, s) else ((rdM r ((rdS s.2.2 c).1, (rdS s.2.2 c).2, s.2.2 ++ [c])).1 + 1, (rdM r ((rdS s.2.2 c).1, (rdS s.2.2 c).2, s.2.2 ++ [c])).2)
theorem rdM_len : ∀ (r : List UInt8) (s : Bool × Int × List UInt8), (rdM r s).1 ≤ r.length ∧ (rdM r s).2.2.2.length ≤ s.2.2.length + r.length
  | [], s => ⟨Nat.le_refl _, Nat.le_refl _⟩
  | c :: r, s => by
    unfold rdM
    split
    · simp
    · have := rdM_len r ((rdS s.2.2 c).1, (rdS s.2.2 c).2, s.2.2 ++ [c])
      simp at this ⊢; omega
theorem go_in {d : Bool} {e : Int} {t : List UInt8} (h : stopR (d, e, t) = false) : d = false ∧ e = 0 := by
  simpa [stopR] using h
theorem head_loop (b : List UInt8) (hb : b.length ≤ 100000000) : ∀ (k v : Nat) (d : Bool) (e : Int) (t : List UInt8), v ≤ b.length → b.length - v < k → t.length + b.length ≤ 800000000 + v →
    ∃ o, head_Reader_Take_L61 b k (v : Int) d e t = some o ∧ (match o with
      | Sum.inl r => r = (((v + (rdM (b.drop v) (d, e, t)).1 : Nat) : Int), (rdM (b.drop v) (d, e, t)).2.1, (rdM (b.drop v) (d, e, t)).2.2.1, (rdM (b.drop v) (d, e, t)).2.2.2)
      | Sum.inr r => r = (rdM (b.drop v) (d, e, t)).2 ∧ v + (rdM (b.drop v) (d, e, t)).1 = b.length)
  | 0, v, d, e, t, _, hk, _ => by omega
  | k + 1, v, d, e, t, hv, hk, ht => by
    simp only [head_Reader_Take_L61]
    by_cases hlt : v < b.length
    · rw [if_pos (decide_eq_true (by omega)), ixL_in hlt, List.drop_eq_getElem_cons hlt]
      simp only [Option.bind_some]
      have hs : (if d then some true else some (!decide (e = 0))) = some (stopR (d, e, t)) := by cases d <;> simp [stopR]
      rw [hs]
      simp only [Option.bind_some, rdM]
      cases hst : stopR (d, e, t) with
      | true => exact ⟨_, rfl, by simp⟩
      | false =>
        obtain ⟨rfl, rfl⟩ := go_in hst
        simp only [Bool.false_eq_true, if_false]
        rw [one_rd (by omega)]
        simp only [Option.bind_some]
        rw [iadd64 (by omega) (by omega), show (v : Int) + 1 = ((v + 1 : Nat) : Int) by omega]
        obtain ⟨o, h1, h2⟩ := head_loop b hb k (v + 1) (rdS t b[v]).1 (rdS t b[v]).2 (t ++ [b[v]]) hlt (by omega) (by simp; omega)
        refine ⟨o, h1, ?_⟩
        rcases o with r | r
        · dsimp only at h2 ⊢
          rw [h2, show v + ((rdM (b.drop (v + 1)) ((rdS t b[v]).1, (rdS t b[v]).2, t ++ [b[v]])).1 + 1) = v + 1 + (rdM (b.drop (v + 1)) ((rdS t b[v]).1, (rdS t b[v]).2, t ++ [b[v]])).1 by omega]
        · dsimp only at h2 ⊢
          exact ⟨h2.1, by omega⟩
    · rw [if_neg (fun e => hlt (by have := of_decide_eq_true e; omega)), List.drop_eq_nil_of_le (by omega)]
      exact ⟨_, rfl, rfl, by simp only [rdM]; omega⟩
theorem head_take {b : List UInt8} (hb : b.length ≤ 100000000) {d : Bool} {e : Int} {t : List UInt8} (ht : t.length ≤ 700000000) :
    head_Reader_Take b d e t = some (((rdM b (d, e, t)).1 : Int), (rdM b (d, e, t)).2.1, (rdM b (d, e, t)).2.2.1, (rdM b (d, e, t)).2.2.2) := by
  unfold head_Reader_Take
  obtain ⟨o, h1, h2⟩ := head_loop b hb 1099511627776 0 d e t (by omega) (by omega) (by omega)
  rw [show ((0 : Nat) : Int) = 0 from rfl] at h1
  rw [h1, List.drop_zero] at *
  rcases o with r | r
  · dsimp only at h2
    rw [Nat.zero_add] at h2
    rw [h2]; rfl
  · dsimp only at h2
    rw [Nat.zero_add] at h2
    rw [h2.1, ← h2.2]; rfl
def RunTo : List UInt8 → List UInt8 → Prop
  | _, [] => True
  | b, c :: u => rdS b c = (false, 0) ∧ RunTo (b ++ [c]) u
theorem runTo_app : ∀ {u v b : List UInt8}, RunTo b u → RunTo (b ++ u) v → RunTo b (u ++ v)
  | [], v, b, _, h => by simpa using h
  | c :: u, v, b, h, k => ⟨h.1, runTo_app h.2 (by simpa using k)⟩
theorem tail_app {z u : List UInt8} (h : u.length ≤ 4) : tail4 (z ++ u) = z.drop (z.length + u.length - 4) ++ u := by
  unfold tail4
  rw [List.length_append, List.drop_append_of_le_length (by omega)]
theorem tail_end {z : List UInt8} {c : UInt8} {v : List UInt8} {d : UInt8} (h : tail4 (z ++ [c]) = v ++ [d]) : c = d := by
  rw [tail_app (by simp)] at h
  have := congrArg List.getLast? h
  simpa using this
/-- a byte of a line -/
theorem rd_in {b : List UInt8} {c : UInt8} (h1 : last13 b = false) (h2 : c ≠ 10) (h3 : (b ++ [c]).length ≠ 2048) : rdS b c = (false, 0) := by
  unfold rdS
  rw [if_neg (by rw [h1, decide_eq_false h2]; simp), if_neg ?_, if_neg h3]
  rintro (e | e)
  · exact h2 (tail_end (v := [13]) (d := 10) e)
  · exact h2 (tail_end (v := [13, 10, 13]) (d := 10) e)
theorem last_app (b : List UInt8) (c : UInt8) : last13 (b ++ [c]) = decide (c = 13) := by
  unfold last13
  simp
theorem run_line : ∀ (a b : List UInt8), (∀ c ∈ a, c ≠ 10 ∧ c ≠ 13) → last13 b = false → b.length + a.length < 2048 → RunTo b a ∧ last13 (b ++ a) = false
  | [], b, _, h, _ => ⟨trivial, by simpa using h⟩
  | c :: a, b, hc, h, hl => by
    have h1 := hc c (by simp)
    simp only [List.length_cons] at hl
    obtain ⟨i1, i2⟩ := run_line a (b ++ [c]) (fun x hx => hc x (by simp [hx])) (by rw [last_app]; exact decide_eq_false h1.2) (by simp; omega)
    exact ⟨⟨rd_in h h1.1 (by simp; omega), i1⟩, by simpa using i2⟩
/-- a whole line that is not empty -/
theorem run_full {a b : List UInt8} (ha : a ≠ []) (hc : ∀ c ∈ a, c ≠ 10 ∧ c ≠ 13) (hb : last13 b = false) (hl : b.length + a.length + 2 < 2048) : RunTo b (a ++ [13, 10]) ∧ last13 (b ++ (a ++ [13, 10])) = false := by
  obtain ⟨h1, h2⟩ := run_line a b hc hb (by omega)
  refine ⟨runTo_app h1 ⟨rd_in h2 (by decide) (by simp; omega), ?_, trivial⟩, ?_⟩
  · unfold rdS
    rw [last_app, if_neg (by decide), if_neg ?_, if_neg (by simp; omega)]
    obtain ⟨y, x, rfl⟩ : ∃ y x, a = y ++ [x] := ⟨_, _, (List.dropLast_concat_getLast ha).symm⟩
    have hx := (hc x (by simp)).1
    rw [show b ++ (y ++ [x]) ++ [13] ++ [10] = (b ++ y) ++ [x, 13, 10] by simp, tail_app (by simp)]
    rintro (e | e)
    · have := congrArg List.length e
      simp at this
    · generalize (b ++ y).drop _ = w at e
      rcases w with _ | ⟨w1, w⟩
      · simp at e
      · rcases w with _ | ⟨w2, w⟩
        · simp at e; exact hx e.2
        · have := congrArg List.length e; simp at this
  · rw [show b ++ (a ++ [13, 10]) = (b ++ (a ++ [13])) ++ [10] by simp, last_app]; rfl
theorem run_lines : ∀ (ls : List (List UInt8)) (b : List UInt8), (∀ a ∈ ls, a ≠ [] ∧ ∀ c ∈ a, c ≠ 10 ∧ c ≠ 13) → last13 b = false → b.length + (ls.flatMap (· ++ [13, 10])).length < 2048 →
    RunTo b (ls.flatMap (· ++ [13, 10])) ∧ last13 (b ++ ls.flatMap (· ++ [13, 10])) = false
  | [], b, _, h, _ => ⟨trivial, by simpa using h⟩
  | a :: ls, b, ha, hb, hl => by
    rw [List.flatMap_cons] at hl ⊢
    rw [List.length_append, List.length_append] at hl
    have hl : b.length + (a.length + 2 + (ls.flatMap (· ++ [13, 10])).length) < 2048 := hl
    have h0 := ha a (by simp)
    obtain ⟨h1, h2⟩ := run_full h0.1 h0.2 hb (by omega)
    obtain ⟨i1, i2⟩ := run_lines ls (b ++ (a ++ [13, 10])) (fun x hx => ha x (by simp [hx])) h2 (by rw [List.length_append, List.length_append]; show b.length + (a.length + 2) + _ < 2048; omega)
    exact ⟨runTo_app h1 i1, by simpa using i2⟩
def cr2 (L : List (List UInt8)) : List UInt8 := L.flatMap (· ++ [13, 10])
theorem cr2_cons (a : List UInt8) (L : List (List UInt8)) : cr2 (a :: L) = a ++ 13 :: 10 :: cr2 L := by unfold cr2; rw [List.flatMap_cons]; simp
theorem cr2_app (L M : List (List UInt8)) : cr2 (L ++ M) = cr2 L ++ cr2 M := by unfold cr2; rw [List.flatMap_append]
def noCR (a : List UInt8) : Prop := ∀ c ∈ a, c ≠ 10 ∧ c ≠ 13
def fOK (a : List UInt8) : Prop := a ≠ [] ∧ noCR a ∧ ∃ f, fldT a = some f
theorem rowsT_lines : ∀ (k n : Nat) (r : List UInt8) (fs : List Fld), rowsT k n r = some fs → ∃ fls, r = cr2 (fls ++ [[]]) ∧ ∀ a ∈ fls, fOK a
  | 0, n, r, fs, h => by simp [rowsT] at h
  | k + 1, n, r, fs, h => by
    unfold rowsT at h
    rcases hw : lnT r with _ | ⟨l, q⟩
    · rw [hw] at h; cases h
    · rw [hw] at h
      dsimp only at h
      obtain ⟨e1, e2⟩ := lnT_len hw
      by_cases hl : l = []
      · rw [if_pos hl] at h
        split at h
        · rename_i hr
          exact ⟨[], by rw [e1, hl, hr]; rfl, by simp⟩
        · cases h
      · rw [if_neg hl] at h
        by_cases h32 : n = 32
        · rw [if_pos h32] at h; cases h
        · rw [if_neg h32] at h
          rcases hf : fldT l with _ | f
          · rw [hf] at h; cases h
          · rw [hf] at h
            simp only [Option.map_eq_some_iff] at h
            obtain ⟨gs, hg, rfl⟩ := h
            obtain ⟨fls, i1, i2⟩ := rowsT_lines k (n + 1) q gs hg
            refine ⟨l :: fls, by rw [e1, i1, List.cons_append, cr2_cons], fun a ha => ?_⟩
            rcases List.mem_cons.1 ha with rfl | ha
            · exact ⟨hl, e2, f, hf⟩
            · exact i2 a ha
theorem reqS_lines {s : List UInt8} {x : List UInt8 × List UInt8 × List Fld} (h : reqS s = some x) : s.length ≤ 2048 ∧ ∃ l fls, s = cr2 (l :: fls ++ [[]]) ∧ noCR l ∧ ∀ a ∈ fls, fOK a := by
  unfold reqS at h
  split at h
  · cases h
  · rename_i hl
    rcases hw : lnT s with _ | ⟨l, r⟩
    · rw [hw] at h; cases h
    · rw [hw] at h
      dsimp only at h
      split at h
      · obtain ⟨e1, e2⟩ := lnT_len hw
        rcases hr : rowsT 1099511627776 0 r with _ | fs
        · rw [hr] at h; cases h
        · obtain ⟨fls, i1, i2⟩ := rowsT_lines _ _ r fs hr
          exact ⟨by omega, l, fls, by rw [e1, i1, List.cons_append, cr2_cons], e2, i2⟩
      · cases h
theorem cut_nil32 : (Lib.cut [] [32]).2.2 = false := by rw [cutc_nil]
/-- a whole head: lines that are not empty, and one that is -/
def Whole (s : List UInt8) : Prop := s.length ≤ 2048 ∧ ∃ ls : List (List UInt8), ls ≠ [] ∧ (∀ a ∈ ls, a ≠ [] ∧ noCR a) ∧ s = cr2 ls ++ [13, 10]
theorem cr2_end (L : List (List UInt8)) : cr2 (L ++ [[]]) = cr2 L ++ [13, 10] := by rw [cr2_app]; rfl
theorem reqS_whole {s : List UInt8} {x : List UInt8 × List UInt8 × List Fld} (h : reqS s = some x) : Whole s := by
  unfold reqS at h
  split at h
  · cases h
  · rename_i hl
    rcases hw : lnT s with _ | ⟨l, r⟩
    · rw [hw] at h; cases h
    · rw [hw] at h
      dsimp only at h
      split at h
      · rename_i hc
        obtain ⟨e1, e2⟩ := lnT_len hw
        have hne : l ≠ [] := fun e => by
          rw [e, cut_nil32] at hc
          simp at hc
        rcases hr : rowsT 1099511627776 0 r with _ | fs
        · rw [hr] at h; cases h
        · obtain ⟨fls, i1, i2⟩ := rowsT_lines _ _ r fs hr
          refine ⟨by omega, l :: fls, by simp, fun a ha => ?_, by rw [e1, i1, cr2_end, cr2_cons]; simp⟩
          rcases List.mem_cons.1 ha with rfl | ha
          · exact ⟨hne, e2⟩
          · exact ⟨(i2 a ha).1, (i2 a ha).2.1⟩
      · cases h
theorem respS_whole {s : List UInt8} {x : Int × List UInt8 × List Fld} (h : respS s = some x) : Whole s := by
  unfold respS at h
  split at h
  · cases h
  · rename_i hl
    rcases hw : lnT s with _ | ⟨l, r⟩
    · rw [hw] at h; cases h
    · rw [hw] at h
      dsimp only at h
      split at h
      · rename_i hc
        obtain ⟨e1, e2⟩ := lnT_len hw
        have hne : l ≠ [] := fun e => by
          have := hc.2.1
          rw [e] at this
          simp at this
        rcases hr : rowsT 1099511627776 0 r with _ | fs
        · rw [hr] at h; cases h
        · obtain ⟨fls, i1, i2⟩ := rowsT_lines _ _ r fs hr
          refine ⟨by omega, l :: fls, by simp, fun a ha => ?_, by rw [e1, i1, cr2_end, cr2_cons]; simp⟩
          rcases List.mem_cons.1 ha with rfl | ha
          · exact ⟨hne, e2⟩
          · exact ⟨(i2 a ha).1, (i2 a ha).2.1⟩
      · cases h
theorem rdM_run : ∀ (u b v : List UInt8), RunTo b u → rdM (u ++ v) (false, 0, b) = (u.length + (rdM v (false, 0, b ++ u)).1, (rdM v (false, 0, b ++ u)).2)
  | [], b, v, _ => by simp
  | c :: u, b, v, h => by
    have ih := rdM_run u (b ++ [c]) v h.2
    rw [List.cons_append]
    simp only [rdM]
    rw [if_neg (by simp [stopR]), h.1, ih]
    simp only [List.length_cons, List.append_assoc, List.singleton_append]
    rw [show u.length + (rdM v (false, 0, b ++ c :: u)).1 + 1 = u.length + 1 + (rdM v (false, 0, b ++ c :: u)).1 by omega]
theorem rdM_stop {v : List UInt8} {st : Bool × Int × List UInt8} (h : stopR st = true) : rdM v st = (0, st) := by
  cases v with
  | nil => rfl
  | cons c v => simp only [rdM]; rw [if_pos h]
theorem rd_whole {t : List UInt8} (hw : Whole t) (h : List UInt8) : rdM (t ++ h) (false, 0, []) = (t.length, (true, 0, t)) := by
  obtain ⟨hl, ls, hne, hls, ht⟩ := hw
  obtain ⟨B, hB⟩ : ∃ B, B = ls.flatMap (· ++ [13, 10]) := ⟨_, rfl⟩
  have ht : t = B ++ [13, 10] := by rw [hB]; exact ht
  have htl : t.length = B.length + 2 := by rw [ht, List.length_append]; rfl
  obtain ⟨r1, r2⟩ := run_lines ls [] hls rfl (by rw [← hB]; simp; omega)
  rw [← hB] at r1 r2
  rw [List.nil_append] at r2
  obtain ⟨B', hB'⟩ : ∃ B', B = B' ++ [13, 10] := by
    obtain ⟨y, x, rfl⟩ : ∃ y x, ls = y ++ [x] := ⟨_, _, (List.dropLast_concat_getLast hne).symm⟩
    exact ⟨y.flatMap (· ++ [13, 10]) ++ x, by rw [hB, List.flatMap_append]; simp⟩
  have r3 : RunTo [] (B ++ [13]) := by
    refine runTo_app r1 ⟨?_, trivial⟩
    rw [List.nil_append]
    unfold rdS
    rw [if_neg (by rw [r2]; decide), if_neg ?_, if_neg (by simp; omega)]
    rintro (e | e)
    · exact absurd (tail_end (v := [13]) (d := 10) e) (by decide)
    · exact absurd (tail_end (v := [13, 10, 13]) (d := 10) e) (by decide)
  have r4 : rdS (B ++ [13]) 10 = (true, 0) := by
    unfold rdS
    rw [last_app, if_neg (by decide), if_pos]
    right
    rw [hB', show B' ++ [13, 10] ++ [13] ++ [10] = B' ++ [13, 10, 13, 10] by simp, tail_app (by simp)]
    simp
  have e : t ++ h = (B ++ [13]) ++ (10 :: h) := by rw [ht]; simp
  have e2 : B ++ [13] ++ [10] = t := by rw [ht]; simp
  rw [e, rdM_run (B ++ [13]) [] (10 :: h) r3, List.nil_append]
  have h1 : rdM (10 :: h) (false, 0, B ++ [13]) = (1, (true, 0, t)) := by
    simp only [rdM]
    rw [if_neg (by simp [stopR]), r4, e2, rdM_stop (by rfl)]
  rw [h1]
  simp; omega
theorem pre_none {s : List UInt8} (hw : Whole s) {c : Nat} (hc : c < s.length) : ¬ Whole (s.take c) := fun h => by
  have h1 := rd_whole hw []
  have h2 := rd_whole h (s.drop c)
  rw [List.append_nil] at h1
  rw [List.take_append_drop, h1] at h2
  have := congrArg Prod.fst h2
  simp at this
  omega
theorem lnT_more {s l r : List UInt8} (h : lnT s = some (l, r)) (u : List UInt8) : lnT (s ++ u) = some (l, r ++ u) := by
  obtain ⟨e1, e2⟩ := lnT_len h
  rw [e1, List.append_assoc, List.cons_append, List.cons_append]
  exact lnT_app (r ++ u) e2
theorem rows_tail {s : List UInt8} {x : UInt8} (hl : s.length ≤ 16000000) {L : Nat → Int → List Fld → Option (Sum (Int × Int) (List Fld))} (hL : ∀ k f acc, L (k + 1) f acc = rowsStep (s ++ [x]) (L k) f acc) :
    ∀ (k f : Nat) (acc : List Fld) (k' : Nat) (fs : List Fld), f ≤ s.length → s.length - f < k → acc.length ≤ 32 → rowsT k' acc.length (s.drop f) = some fs → L k (f : Int) acc = some (Sum.inl ((s.length : Int), 1))
  | 0, f, acc, _, fs, _, hk, _, _ => by omega
  | k + 1, f, acc, 0, fs, _, _, _, h => by simp [rowsT] at h
  | k + 1, f, acc, k' + 1, fs, hf, hk, ha, h => by
    rw [hL]
    unfold rowsStep
    have hsx : (s ++ [x]).length = s.length + 1 := by simp
    obtain ⟨o, h1, h2⟩ := line_eq (s := s ++ [x]) (by omega) (f := f) (by omega)
    rw [h1]
    simp only [rowsT] at h
    rcases hw : lnT (s.drop f) with _ | ⟨l, r⟩
    · rw [hw] at h; cases h
    · rw [hw] at h
      dsimp only at h
      obtain ⟨e1, e2⟩ := lnT_len hw
      have hlen := congrArg List.length e1
      simp only [List.length_drop, List.length_append, List.length_cons] at hlen
      rw [List.drop_append_of_le_length hf, lnT_more hw] at h2
      rcases o with p | p
      · exact h2.elim
      · obtain ⟨p1, p2⟩ := p
        simp only [lineR] at h2
        obtain ⟨rfl, rfl, h4, h3⟩ := h2
        simp only [Option.bind_some]
        by_cases hp : p1 = []
        · subst hp
          rw [if_pos rfl] at h
          split at h
          · rename_i hr
            subst hr
            simp only [List.length_nil] at hlen
            simp only [decide_true, if_true, Option.bind_some, List.length_nil, Nat.add_zero]
            rw [if_pos (by rw [decide_eq_true_eq]; omega)]
            show some (Sum.inl (((f + 2 : Nat) : Int), (1 : Int))) = _
            rw [show f + 2 = s.length by omega]
          · cases h
        · rw [if_neg hp] at h
          simp only [decide_eq_false hp, Bool.false_eq_true, if_false, Option.bind_some]
          by_cases hn : acc.length = 32
          · rw [if_pos hn] at h; cases h
          · rw [if_neg hn] at h
            rw [if_neg (by rw [decide_eq_true_eq]; omega)]
            obtain ⟨o, g1, g2⟩ := field_eq (s := p1) (f := (f : Int)) (by omega) ⟨by omega, by omega⟩ hp
            rw [g1]
            rcases hF : fldT p1 with _ | g
            · rw [hF] at h; cases h
            · rw [hF] at h g2
              rcases o with q | q
              · exact g2.elim
              · simp only [Option.map_eq_some_iff] at h
                obtain ⟨gs, hg, _⟩ := h
                simp only [Option.bind_some]
                rw [szC_ok (by simp; omega)]
                simp only [Option.bind_some]
                have hr : s.drop (f + p1.length + 2) = r := by
                  rw [show f + p1.length + 2 = f + (p1.length + 2) by omega, ← List.drop_drop, e1, ← List.drop_drop, List.drop_left]
                  rfl
                exact rows_tail hl hL k (f + p1.length + 2) (acc ++ [(q.1, q.2)]) k' gs (by omega) (by omega) (by simp; omega) (by rw [hr, List.length_append, List.length_singleton]; exact hg)
theorem reqF_tail {s : List UInt8} {z : List UInt8 × List UInt8 × List Fld} (h : reqS s = some z) (hlt : s.length < 2048) (x : UInt8) : head_Request (s ++ [x]) = some (([], [], []), some ((s.length : Int), 1)) := by
  have hsx : (s ++ [x]).length = s.length + 1 := by simp
  unfold reqS at h
  rw [if_neg (by omega)] at h
  rcases hw : lnT s with _ | ⟨l, r⟩
  · rw [hw] at h; cases h
  · rw [hw] at h
    dsimp only at h
    split at h
    · rename_i hc
      simp only [Bool.and_eq_true, decide_eq_true_eq] at hc
      obtain ⟨c1, c2, c3, c4, c5⟩ := hc
      rcases hr : rowsT 1099511627776 0 r with _ | fs
      · rw [hr] at h; cases h
      · obtain ⟨E1, E2⟩ := lnT_len hw
        have hlen := congrArg List.length E1
        simp only [List.length_append, List.length_cons] at hlen
        unfold head_Request
        rw [if_neg (by rw [decide_eq_true_eq]; omega)]
        obtain ⟨o, g1, g2⟩ := line_eq (s := s ++ [x]) (f := 0) (by omega) (Nat.zero_le _)
        rw [List.drop_zero, lnT_more hw] at g2
        have g1 : lineG (s ++ [x]) 0 = some o := g1
        show (lineG (s ++ [x]) 0).bind _ = _
        rw [g1]
        rcases o with p | p
        · exact g2.elim
        · obtain ⟨p1, p2⟩ := p
          simp only [lineR] at g2
          obtain ⟨rfl, rfl, h4, h3⟩ := g2
          have e1 := cut_len p1 32
          have e2 := cut_len (Lib.cut p1 [32]).2.1 32
          simp only [Option.bind_some]
          rw [cutX_eq (by omega)]
          simp only [Option.bind_some]
          rw [c1]
          simp only [Bool.not_true, Bool.false_eq_true, if_false]
          rw [method_eq (by omega)]
          simp only [Option.bind_some]
          rw [c2]
          simp only [Bool.not_true, Bool.false_eq_true, if_false]
          rw [cutX_eq (by omega)]
          simp only [Option.bind_some]
          rw [c3]
          simp only [Bool.not_true, Bool.false_eq_true, if_false]
          rw [target_eq (by omega)]
          simp only [Option.bind_some]
          rw [c4]
          simp only [Bool.not_true, Bool.false_eq_true, if_false]
          rw [if_neg (by rw [decide_eq_true (show (Lib.cut (Lib.cut p1 [32]).2.1 [32]).2.1 = [72, 84, 84, 80, 47, 49, 46, 49] from c5)]; simp)]
          have hd : s.drop (0 + p1.length + 2) = r := by
            rw [Nat.zero_add, E1, ← List.drop_drop, List.drop_left]; rfl
          rw [rows_tail (s := s) (x := x) (by omega) (L := head_text_rows_L363 (s ++ [x])) (fun _ _ _ => rfl) 1099511627776 (0 + p1.length + 2) [] 1099511627776 fs (by omega) (by omega) (by simp) (by rw [hd]; exact hr)]
          rfl
    · cases h
theorem long_err {s : List UInt8} (h : 2048 < s.length) : head_Request s = some (([], [], []), some (2048, 17)) := by
  unfold head_Request
  rw [if_pos (by rw [decide_eq_true_eq]; omega)]
  rfl
end Go.Proofs.YtbcmngnmfneeaaaGreatDoor
