/- head, plain: a head whose lines are touched is not read. -/
import Derived.Test.YtbcmngnmfneeaaaDoorU5E
namespace Go.Proofs.YtbcmngnmfneeaaaDoor
open Go.Av
set_option linter.unusedVariables false
set_option linter.unusedSimpArgs false
set_option maxRecDepth 100000
def cr2 (L : List (List UInt8)) : List UInt8 := L.flatMap (· ++ [13, 10])
theorem cr2_cons (a : List UInt8) (L : List (List UInt8)) : cr2 (a :: L) = a ++ 13 :: 10 :: cr2 L := by unfold cr2; rw [List.flatMap_cons]; simp
theorem cr2_app (L M : List (List UInt8)) : cr2 (L ++ M) = cr2 L ++ cr2 M := by unfold cr2; rw [List.flatMap_append]
def noCR (a : List UInt8) : Prop := ∀ c ∈ a, c ≠ 10 ∧ c ≠ 13
def fOK (a : List UInt8) : Prop := a ≠ [] ∧ noCR a ∧ ∃ f, fldT a = some f
theorem rowsT_lines : ∀ (k n : Nat) (r : List UInt8) (fs : List Fld), rowsT k n r = some fs → ∃ fls, r = cr2 (fls ++ [[]]) ∧ ∀ a ∈ fls, fOK a
  | 0, n, r, fs, h => by simp [rowsT] at h
  | k + 1, n, r, fs, h => by
    unfold rowsT at h
    rcases hw : lnT r with _ | ⟨l, q⟩
    · rw [hw] at h; cases h
    · rw [hw] at h
      dsimp only at h
      obtain ⟨e1, e2⟩ := lnT_len hw
      by_cases hl : l = []
      · rw [if_pos hl] at h
        split at h
        · rename_i hr
          exact ⟨[], by rw [e1, hl, hr]; rfl, by simp⟩
        · cases h
      · rw [if_neg hl] at h
        by_cases h32 : n = 32
        · rw [if_pos h32] at h; cases h
        · rw [if_neg h32] at h
          rcases hf : fldT l with _ | f
          · rw [hf] at h; cases h
          · rw [hf] at h
            simp only [Option.map_eq_some_iff] at h
            obtain ⟨gs, hg, rfl⟩ := h
            obtain ⟨fls, i1, i2⟩ := rowsT_lines k (n + 1) q gs hg
            refine ⟨l :: fls, by rw [e1, i1, List.cons_append, cr2_cons], fun a ha => ?_⟩
            rcases List.mem_cons.1 ha with rfl | ha
            · exact ⟨hl, e2, f, hf⟩
            · exact i2 a ha
theorem reqS_lines {s : List UInt8} {x : List UInt8 × List UInt8 × List Fld} (h : reqS s = some x) : s.length ≤ 2048 ∧ ∃ l fls, s = cr2 (l :: fls ++ [[]]) ∧ noCR l ∧ ∀ a ∈ fls, fOK a := by
  unfold reqS at h
  split at h
  · cases h
  · rename_i hl
    rcases hw : lnT s with _ | ⟨l, r⟩
    · rw [hw] at h; cases h
    · rw [hw] at h
      dsimp only at h
      split at h
      · obtain ⟨e1, e2⟩ := lnT_len hw
        rcases hr : rowsT 1099511627776 0 r with _ | fs
        · rw [hr] at h; cases h
        · obtain ⟨fls, i1, i2⟩ := rowsT_lines _ _ r fs hr
          exact ⟨by omega, l, fls, by rw [e1, i1, List.cons_append, cr2_cons], e2, i2⟩
      · cases h
theorem rows_skip {X : List UInt8} (hX : ∀ k n, rowsT k n X = none) : ∀ (ls : List (List UInt8)), (∀ a ∈ ls, a ≠ [] ∧ noCR a) → ∀ k n, rowsT k n (cr2 ls ++ X) = none
  | [], _, k, n => hX k n
  | a :: ls, h, 0, n => rfl
  | a :: ls, h, k + 1, n => by
    have h0 := h a (by simp)
    have ih := rows_skip hX ls (fun b hb => h b (by simp [hb])) k (n + 1)
    rw [cr2_cons, show a ++ 13 :: 10 :: cr2 ls ++ X = a ++ 13 :: 10 :: (cr2 ls ++ X) by simp]
    unfold rowsT
    rw [lnT_app _ h0.2]
    dsimp only
    rw [if_neg h0.1]
    split
    · rfl
    · split
      · rfl
      · rw [ih]; rfl
theorem rows_ln {X : List UInt8} (h : lnT X = none) : ∀ k n, rowsT k n X = none
  | 0, n => rfl
  | k + 1, n => by unfold rowsT; rw [h]
theorem rows_bad {a R : List UInt8} (h1 : a ≠ []) (h2 : noCR a) (h3 : fldT a = none) : ∀ k n, rowsT k n (a ++ 13 :: 10 :: R) = none
  | 0, n => rfl
  | k + 1, n => by
    unfold rowsT
    rw [lnT_app _ h2]
    dsimp only
    rw [if_neg h1]
    split
    · rfl
    · rw [h3]
theorem reqS_ln {s : List UInt8} (h : lnT s = none) : reqS s = none := by
  unfold reqS
  rw [h]
  split <;> rfl
theorem reqS_rows {l R : List UInt8} (h2 : noCR l) (hX : ∀ k n, rowsT k n R = none) : reqS (l ++ 13 :: 10 :: R) = none := by
  unfold reqS
  split
  · rfl
  · rw [lnT_app _ h2]
    dsimp only
    rw [hX]
    split <;> rfl
theorem lnT_lf : ∀ {a : List UInt8} (b : List UInt8), noCR a → lnT (a ++ 10 :: b) = none
  | [], b, _ => by simp [lnT]
  | c :: a, b, h => by
    have h1 := h c (by simp)
    rw [List.cons_append]
    unfold lnT
    rw [if_neg h1.1, if_neg h1.2, lnT_lf b (fun x hx => h x (by simp [hx]))]
    rfl
theorem lnT_cr : ∀ {a b : List UInt8}, noCR a → b.head? ≠ some 10 → lnT (a ++ 13 :: b) = none
  | [], [], _, _ => rfl
  | [], d :: q, _, hb => by
    have hd : d ≠ 10 := fun e => hb (by rw [e]; rfl)
    simp [lnT, hd]
  | c :: a, b, h, hb => by
    have h1 := h c (by simp)
    rw [List.cons_append]
    unfold lnT
    rw [if_neg h1.1, if_neg h1.2, lnT_cr (fun x hx => h x (by simp [hx])) hb]
    rfl
theorem cr2_head {M : List (List UInt8)} (h : ∀ a ∈ M, noCR a) : (cr2 M).head? ≠ some 10 := by
  cases M with
  | nil => simp [cr2]
  | cons a M =>
    rw [cr2_cons]
    cases a with
    | nil => simp
    | cons c a =>
      have := h (c :: a) (by simp) c (by simp)
      simpa using this.1
theorem bad_at {l : List UInt8} {fls : List (List UInt8)} (hl : noCR l) (hf : ∀ a ∈ fls, fOK a) {m : Nat} (hm : m ≤ fls.length + 1) {X : List UInt8} (h0 : m = 0 → lnT X = none) (hX : ∀ k n, rowsT k n X = none) : reqS (cr2 ((l :: fls ++ [[]]).take m) ++ X) = none := by
  cases m with
  | zero => exact reqS_ln (h0 rfl)
  | succ m =>
    rw [List.cons_append, List.take_succ_cons, List.take_append_of_le_length (by omega), cr2_cons, show l ++ 13 :: 10 :: cr2 (fls.take m) ++ X = l ++ 13 :: 10 :: (cr2 (fls.take m) ++ X) by simp]
    refine reqS_rows hl (rows_skip hX _ fun a ha => ?_)
    have := hf a (List.mem_of_mem_take ha)
    exact ⟨this.1, this.2.1⟩
/-- where the line ends stand -/
def crs : Nat → List UInt8 → List Int
  | _, [] => []
  | i, c :: r => if r = [] then [] else if c = 13 then (i : Int) :: crs (i + 1) r else crs (i + 1) r
def atsT : Nat → List (List UInt8) → List Int
  | _, [] => []
  | i, a :: L => ((i + a.length : Nat) : Int) :: atsT (i + a.length + 2) L
theorem crs_line : ∀ (a : List UInt8) (i : Nat) (R : List UInt8), noCR a → crs i (a ++ 13 :: 10 :: R) = ((i + a.length : Nat) : Int) :: crs (i + a.length + 2) R
  | [], i, R, _ => by
    rw [List.nil_append, crs, if_neg (by simp), if_pos rfl, crs]
    cases R with
    | nil => rfl
    | cons d r => rw [if_neg (by simp), if_neg (by decide)]; rfl
  | c :: a, i, R, h => by
    have h1 := h c (by simp)
    rw [List.cons_append, crs, if_neg (by simp), if_neg h1.2, crs_line a (i + 1) R (fun x hx => h x (by simp [hx]))]
    rw [List.length_cons, show i + 1 + a.length = i + (a.length + 1) by omega]
theorem crs_cr2 : ∀ (L : List (List UInt8)) (i : Nat), (∀ a ∈ L, noCR a) → crs i (cr2 L) = atsT i L
  | [], i, _ => rfl
  | a :: L, i, h => by
    rw [cr2_cons, crs_line a i _ (h a (by simp)), crs_cr2 L _ (fun b hb => h b (by simp [hb]))]
    rfl
theorem atsT_len : ∀ (L : List (List UInt8)) (i : Nat), (atsT i L).length = L.length
  | [], i => rfl
  | a :: L, i => by rw [atsT, List.length_cons, atsT_len L, List.length_cons]
theorem atsT_get : ∀ (L : List (List UInt8)) (i k : Nat) (h : k < L.length), (atsT i L)[k]? = some ((i + (cr2 (L.take k)).length + L[k].length : Nat) : Int)
  | [], i, k, h => by simp at h
  | a :: L, i, 0, h => by simp [atsT, cr2]
  | a :: L, i, k + 1, h => by
    rw [atsT, List.getElem?_cons_succ, atsT_get L _ k (by simpa using h), List.take_succ_cons, cr2_cons]
    congr 2
    simp
    omega
theorem cr2_split (L : List (List UInt8)) (k : Nat) (h : k < L.length) : cr2 L = cr2 (L.take k) ++ (L[k] ++ 13 :: 10 :: cr2 (L.drop (k + 1))) := by
  conv => lhs; rw [← List.take_append_drop k L, drop_step h, cr2_app, cr2_cons]
theorem fld_sp (a : List UInt8) : fldT (32 :: a) = none := by
  unfold fldT
  have : tokT (Lib.cut (32 :: a) [58]).1 = false := by
    rw [cutc_cons, if_neg (by decide)]
    unfold tokT
    have : tchT 32 = false := by decide
    simp [this]
  rw [this]
  simp
theorem fld_sp2 {n r : List UInt8} (h : (58 : UInt8) ∉ n) : fldT (n ++ 32 :: 58 :: r) = none := by
  unfold fldT
  have hn : (58 : UInt8) ∉ n ++ [32] := by simp [h]
  have := cut_at (b := r) hn
  rw [List.append_assoc, List.singleton_append] at this
  rw [this]
  have : tokT (n ++ [32]) = false := by
    unfold tokT
    have : tchT 32 = false := by decide
    simp [this]
  dsimp only
  rw [this]
  simp
theorem fld_colon {a : List UInt8} (h : fOK a) : ∃ n r, a = n ++ 58 :: r ∧ (58 : UInt8) ∉ n := by
  obtain ⟨h1, h2, f, h3⟩ := h
  rcases cut_spec 58 a with ⟨k1, k2⟩ | ⟨n, r, k1, k2, k3⟩
  · unfold fldT at h3
    rw [k1] at h3
    simp at h3
  · exact ⟨n, r, k1, k2⟩
/-- what the four ways of touching a head make of it -/
theorem touch_lf {l : List UInt8} {fls : List (List UInt8)} (hl : noCR l) (hf : ∀ a ∈ fls, fOK a) {k : Nat} {a R : List UInt8} (hk : k ≤ fls.length + 1) (ha : noCR a) : reqS (cr2 ((l :: fls ++ [[]]).take k) ++ (a ++ 10 :: R)) = none :=
  bad_at hl hf hk (fun _ => lnT_lf R ha) (rows_ln (lnT_lf R ha))
theorem touch_cr {l : List UInt8} {fls : List (List UInt8)} (hl : noCR l) (hf : ∀ a ∈ fls, fOK a) {k : Nat} {a R : List UInt8} (hk : k ≤ fls.length + 1) (ha : noCR a) (hR : R.head? ≠ some 10) : reqS (cr2 ((l :: fls ++ [[]]).take k) ++ (a ++ 13 :: R)) = none :=
  bad_at hl hf hk (fun _ => lnT_cr ha hR) (rows_ln (lnT_cr ha hR))
theorem touch_row {l : List UInt8} {fls : List (List UInt8)} (hl : noCR l) (hf : ∀ a ∈ fls, fOK a) {k : Nat} {a R : List UInt8} (hk : k ≤ fls.length) (h1 : a ≠ []) (ha : noCR a) (h3 : fldT a = none) : reqS (cr2 ((l :: fls ++ [[]]).take (k + 1)) ++ (a ++ 13 :: 10 :: R)) = none :=
  bad_at hl hf (by omega) (fun e => by cases e) (rows_bad h1 ha h3)
end Go.Proofs.YtbcmngnmfneeaaaDoor
