/- head, plain: what is written is read back. -/
import Derived.Test.YtgngopfpnidbaaaGreatDoorU5E
import Derived.Test.YtgngopfpnidbaaaGreatDoorU5C
import Derived.Test.YtgngopfpnidbaaaGreatDoorGC
import Derived.Test.YtgngopfpnidbaaaGreatDoorAvJ
import Derived.Test.YtgngopfpnidbaaaGreatDoorU2A
namespace Go.Proofs.YtgngopfpnidbaaaGreatDoor
open Go.Av
set_option linter.unusedVariables false
set_option linter.unusedSimpArgs false
set_option maxRecDepth 100000
theorem tch_in (c : UInt8) (h : tchT c = true) : c ≠ 58 ∧ c ≠ 32 ∧ c ≠ 10 ∧ c ≠ 13 := by
  have := all256 (p := fun c => decide (tchT c = true → c ≠ 58 ∧ c ≠ 32 ∧ c ≠ 10 ∧ c ≠ 13)) (by kernel_rfl) c
  exact of_decide_eq_true this h
theorem quo_in (c : UInt8) (h : quoT c = true) : c ≠ 10 ∧ c ≠ 13 := by
  have := all256 (p := fun c => decide (quoT c = true → c ≠ 10 ∧ c ≠ 13)) (by kernel_rfl) c
  exact of_decide_eq_true this h
theorem tg_in (c : UInt8) (h : tgC c = true) : c ≠ 32 ∧ c ≠ 10 ∧ c ≠ 13 := by
  have := all256 (p := fun c => decide (tgC c = true → c ≠ 32 ∧ c ≠ 10 ∧ c ≠ 13)) (by kernel_rfl) c
  exact of_decide_eq_true this h
theorem tok_mem {s : List UInt8} (h : tokT s = true) : s ≠ [] ∧ ∀ c ∈ s, c ≠ 58 ∧ c ≠ 32 ∧ c ≠ 10 ∧ c ≠ 13 := by
  simp only [tokT, Bool.and_eq_true, Bool.not_eq_true', decide_eq_false_iff_not] at h
  exact ⟨h.1, fun c hc => tch_in c (List.all_eq_true.1 h.2 c hc)⟩
theorem vOK_mem {s : List UInt8} (h : vOK s = true) : trimT s = s ∧ s.all quoT = true ∧ ∀ c ∈ s, c ≠ 10 ∧ c ≠ 13 := by
  simp only [vOK, plainT, Bool.and_eq_true, decide_eq_true_eq] at h
  exact ⟨h.1, h.2, fun c hc => quo_in c (List.all_eq_true.1 h.2 c hc)⟩
def lnF (f : Fld) : List UInt8 := f.1 ++ 58 :: (if f.2 = [] then [] else 32 :: f.2)
theorem lineT_ln (f : Fld) : lineT f = lnF f ++ [13, 10] := by
  unfold lineT lnF
  split <;> simp
theorem lnF_ok {f : Fld} (h1 : tokT f.1 = true) (h2 : vOK f.2 = true) : lnF f ≠ [] ∧ ∀ c ∈ lnF f, c ≠ 10 ∧ c ≠ 13 := by
  obtain ⟨a1, a2⟩ := tok_mem h1
  obtain ⟨b1, b2, b3⟩ := vOK_mem h2
  refine ⟨by unfold lnF; simp, fun c hc => ?_⟩
  unfold lnF at hc
  rcases List.mem_append.1 hc with hc | hc
  · exact ⟨(a2 c hc).2.2.1, (a2 c hc).2.2.2⟩
  · rcases List.mem_cons.1 hc with rfl | hc
    · decide
    · split at hc
      · simp at hc
      · rcases List.mem_cons.1 hc with rfl | hc
        · decide
        · exact b3 c hc
theorem trim_sp {v : List UInt8} (h : trimT v = v) : trimT (32 :: v) = v := by
  obtain ⟨a, b, _, _, _, h1, h2⟩ := trim_parts v
  rw [h] at h1 h2
  have := trim_mid (a := [32]) (m := v) (b := []) (by intro c hc; simp at hc; subst hc; rfl) (by simp) h1 h2
  simpa using this
theorem fld_read {f : Fld} (h1 : tokT f.1 = true) (h2 : vOK f.2 = true) : fldT (lnF f) = some f := by
  obtain ⟨a1, a2⟩ := tok_mem h1
  obtain ⟨b1, b2, b3⟩ := vOK_mem h2
  have hn : (58 : UInt8) ∉ f.1 := fun hc => (a2 _ hc).1 rfl
  unfold fldT
  rw [show Lib.cut (lnF f) [58] = (f.1, (if f.2 = [] then [] else 32 :: f.2), true) from cut_at hn]
  dsimp only
  by_cases he : f.2 = []
  · rw [if_pos he, h1]
    show (if true = true then some (f.1, trimT []) else none) = some f
    rw [if_pos rfl]
    have : trimT [] = [] := rfl
    rw [this, ← he]
  · rw [if_neg he, h1, List.all_cons, b2, trim_sp b1]
    rfl
theorem rows_read : ∀ (fs : List Fld) (k n : Nat), fs.length < k → n + fs.length ≤ 32 → (∀ f ∈ fs, tokT f.1 = true ∧ vOK f.2 = true) → rowsT k n (linesT fs ++ [13, 10]) = some fs
  | fs, 0, n, hk, _, _ => by omega
  | [], k + 1, n, _, _, _ => rfl
  | f :: fs, k + 1, n, hk, hn, hf => by
    have h0 := hf f (by simp)
    obtain ⟨c1, c2⟩ := lnF_ok h0.1 h0.2
    simp only [List.length_cons] at hk hn
    have e : linesT (f :: fs) ++ [13, 10] = lnF f ++ 13 :: 10 :: (linesT fs ++ [13, 10]) := by rw [linesT_cons, lineT_ln]; simp
    unfold rowsT
    rw [e, lnT_app _ c2]
    dsimp only
    rw [if_neg c1, if_neg (by omega), fld_read h0.1 h0.2]
    dsimp only
    rw [rows_read fs k (n + 1) (by omega) (by omega) (fun g hg => hf g (by simp [hg]))]
    rfl
theorem rgF_none : ∀ (l : List Fld) (i : Nat), ((rgF i l).getD (0, 0)).2 = 0 ↔ ∀ f ∈ l, tokT f.1 = true ∧ vOK f.2 = true
  | [], i => by simp [rgF]
  | f :: r, i => by
    unfold rgF
    by_cases h1 : tokT f.1 = true
    · by_cases h2 : vOK f.2 = true
      · rw [if_pos h1, if_pos h2, rgF_none r (i + 1)]
        simp [h1, h2]
      · rw [if_pos h1, if_neg h2]
        simp [h2]
    · rw [if_neg h1]
      simp [h1]
theorem right_iff (l : List Fld) : (rightT l).2 = 0 ↔ l.length ≤ 32 ∧ ∀ f ∈ l, tokT f.1 = true ∧ vOK f.2 = true := by
  unfold rightT
  by_cases h : 32 < l.length
  · rw [if_pos h]
    simp
    omega
  · rw [if_neg h, rgF_none]
    exact ⟨fun g => ⟨by omega, g⟩, fun g => g.2⟩
def reqL (q : List UInt8 × List UInt8 × List Fld) : List UInt8 := q.1 ++ 32 :: (q.2.1 ++ 32 :: verT)
theorem bound_ne {s : List UInt8} (h : boundT s ≠ []) : boundT s = s ∧ s.length ≤ 2048 := by
  unfold boundT at h ⊢
  split at h
  · exact absurd rfl h
  · rename_i g
    exact ⟨if_neg g, by omega⟩
theorem meth_mem {s : List UInt8} (h : methT s = true) : ∀ c ∈ s, c ≠ 58 ∧ c ≠ 32 ∧ c ≠ 10 ∧ c ≠ 13 := by
  simp only [methT, Bool.and_eq_true] at h
  exact (tok_mem h.1).2
theorem targ_mem {s : List UInt8} (h : targT s = true) : ∀ c ∈ s, c ≠ 32 ∧ c ≠ 10 ∧ c ≠ 13 := by
  simp only [targT, Bool.and_eq_true] at h
  exact fun c hc => tg_in c (List.all_eq_true.1 h.2 c hc)
theorem reqL_ok {q : List UInt8 × List UInt8 × List Fld} (h1 : methT q.1 = true) (h2 : targT q.2.1 = true) : reqL q ≠ [] ∧ ∀ c ∈ reqL q, c ≠ 10 ∧ c ≠ 13 := by
  refine ⟨by unfold reqL; simp, fun c hc => ?_⟩
  unfold reqL at hc
  rcases List.mem_append.1 hc with hc | hc
  · exact ⟨(meth_mem h1 c hc).2.2.1, (meth_mem h1 c hc).2.2.2⟩
  · rcases List.mem_cons.1 hc with rfl | hc
    · decide
    · rcases List.mem_append.1 hc with hc | hc
      · exact ⟨(targ_mem h2 c hc).2.1, (targ_mem h2 c hc).2.2⟩
      · have : ∀ c ∈ (32 :: verT : List UInt8), c ≠ 10 ∧ c ≠ 13 := by decide
        exact this c hc
/-- what is known of a request that is written -/
theorem reqT_parts {q : List UInt8 × List UInt8 × List Fld} (h : reqT q ≠ []) : reqT q = reqL q ++ 13 :: 10 :: (linesT q.2.2 ++ [13, 10]) ∧ (reqT q).length ≤ 2048 ∧ methT q.1 = true ∧ targT q.2.1 = true ∧ hostT q.2.2 = true ∧ (rightT q.2.2).2 = 0 := by
  unfold reqT at h ⊢
  split at h
  · rename_i g
    rw [if_pos g]
    obtain ⟨e1, e2⟩ := bound_ne h
    simp only [Bool.and_eq_true, decide_eq_true_eq] at g
    obtain ⟨g1, g2, g3, g4⟩ := g
    rw [e1]
    refine ⟨?_, e2, g2, g3, g4, g1⟩
    unfold ftextT reqL verT
    rw [if_pos g1]
    simp
  · exact absurd rfl h
theorem req_read {q : List UInt8 × List UInt8 × List Fld} (h : reqT q ≠ []) : reqS (reqT q) = some q := by
  obtain ⟨e, hl, h1, h2, h3, h4⟩ := reqT_parts h
  obtain ⟨l1, l2⟩ := reqL_ok h1 h2
  obtain ⟨r1, r2⟩ := (right_iff _).1 h4
  unfold reqS
  rw [if_neg (by omega), e, lnT_app _ l2]
  dsimp only
  rw [show Lib.cut (reqL q) [32] = (q.1, q.2.1 ++ 32 :: verT, true) from cut_at (fun hc => (meth_mem h1 _ hc).2.1 rfl)]
  dsimp only
  rw [show Lib.cut (q.2.1 ++ 32 :: verT) [32] = (q.2.1, verT, true) from cut_at (fun hc => (targ_mem h2 _ hc).1 rfl)]
  dsimp only
  rw [h1, h2, rows_read q.2.2 1099511627776 0 (by omega) (by omega) r2]
  dsimp only
  rw [h3]
  rfl
/-! responses -/
end Go.Proofs.YtgngopfpnidbaaaGreatDoor
