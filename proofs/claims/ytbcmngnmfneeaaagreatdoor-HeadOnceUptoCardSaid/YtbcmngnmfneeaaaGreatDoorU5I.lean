/- head, plain: what is written is read back. -/
import Derived.Test.YtbcmngnmfneeaaaGreatDoorU5E
import Derived.Test.YtbcmngnmfneeaaaGreatDoorU5C
import Derived.Test.YtbcmngnmfneeaaaGreatDoorGCc
import Derived.Test.YtbcmngnmfneeaaaGreatDoorU2A
namespace Go.Proofs.YtbcmngnmfneeaaaGreatDoor
open Go.Av
set_option linter.unusedVariables false
set_option linter.unusedSimpArgs false
set_option maxRecDepth 100000
theorem tch_in (c : UInt8) (h : tchT c = true) : c ≠ 58 ∧ c ≠ 32 ∧ c ≠ 10 ∧ c ≠ 13 := by
  have := all256 (p := fun c => decide (tchT c = true → c ≠ 58 ∧ c ≠ 32 ∧ c ≠ 10 ∧ c ≠ 13)) (by kernel_rfl) c
  exact of_decide_eq_true this h
theorem quo_in (c : UInt8) (h : quoT c = true) : c ≠ 10 ∧ c ≠ 13 := by
  have := all256 (p := fun c => decide (quoT c = true → c ≠ 10 ∧ c ≠ 13)) (by kernel_rfl) c
  exact of_decide_eq_true this h
theorem tg_in (c : UInt8) (h : tgC c = true) : c ≠ 32 ∧ c ≠ 10 ∧ c ≠ 13 := by
  have := all256 (p := fun c => decide (tgC c = true → c ≠ 32 ∧ c ≠ 10 ∧ c ≠ 13)) (by kernel_rfl) c
  exact of_decide_eq_true this h
theorem tok_mem {s : List UInt8} (h : tokT s = true) : s ≠ [] ∧ ∀ c ∈ s, c ≠ 58 ∧ c ≠ 32 ∧ c ≠ 10 ∧ c ≠ 13 := by
  simp only [tokT, Bool.and_eq_true, Bool.not_eq_true', decide_eq_false_iff_not] at h
  exact ⟨h.1, fun c hc => tch_in c (List.all_eq_true.1 h.2 c hc)⟩
theorem vOK_mem {s : List UInt8} (h : vOK s = true) : trimT s = s ∧ s.all quoT = true ∧ ∀ c ∈ s, c ≠ 10 ∧ c ≠ 13 := by
  simp only [vOK, plainT, Bool.and_eq_true, decide_eq_true_eq] at h
  exact ⟨h.1, h.2, fun c hc => quo_in c (List.all_eq_true.1 h.2 c hc)⟩
def lnF (f : Fld) : List UInt8 := f.1 ++ 58 :: (if f.2 = [] then [] else 32 :: f.2)
theorem lineT_ln (f : Fld) : lineT f = lnF f ++ [13, 10] := by
  unfold lineT lnF
  split <;> simp
theorem lnF_ok {f : Fld} (h1 : tokT f.1 = true) (h2 : vOK f.2 = true) : lnF f ≠ [] ∧ ∀ c ∈ lnF f, c ≠ 10 ∧ c ≠ 13 := by
  obtain ⟨a1, a2⟩ := tok_mem h1
  obtain ⟨b1, b2, b3⟩ := vOK_mem h2
  refine ⟨by unfold lnF; simp, fun c hc => ?_⟩
  unfold lnF at hc
  rcases List.mem_append.1 hc with hc | hc
  · exact ⟨(a2 c hc).2.2.1, (a2 c hc).2.2.2⟩
  · rcases List.mem_cons.1 hc with rfl | hc
    · decide
    · split at hc
      · simp at hc
      · rcases List.mem_cons.1 hc with rfl | hc
        · decide
        · exact b3 c hc
theorem trim_sp {v : List UInt8} (h : trimT v = v) : trimT (32 :: v) = v := by
  obtain ⟨a, b, _, _, _, h1, h2⟩ := trim_parts v
  rw [h] at h1 h2
  have := trim_mid (a := [32]) (m := v) (b := []) (by intro c hc; simp at hc; subst hc; rfl) (by simp) h1 h2
  simpa using this
theorem fld_read {f : Fld} (h1 : tokT f.1 = true) (h2 : vOK f.2 = true) : fldT (lnF f) = some f := by
  obtain ⟨a1, a2⟩ := tok_mem h1
  obtain ⟨b1, b2, b3⟩ := vOK_mem h2
  have hn : (58 : UInt8) ∉ f.1 := fun hc => (a2 _ hc).1 rfl
  unfold fldT
  rw [show Lib.cut (lnF f) [58] = (f.1, (if f.2 = [] then [] else 32 :: f.2), true) from cut_at hn]
  dsimp only
  by_cases he : f.2 = []
  · rw [if_pos he, h1]
    show (if true = true then some (f.1, trimT []) else none) = some f
    rw [if_pos rfl]
    have : trimT [] = [] := rfl
    rw [this, ← he]
  · rw [if_neg he, h1, List.all_cons, b2, trim_sp b1]
    rfl
theorem rows_read : ∀ (fs : List Fld) (k n : Nat), fs.length < k → n + fs.length ≤ 32 → (∀ f ∈ fs, tokT f.1 = true ∧ vOK f.2 = true) → rowsT k n (linesT fs ++ [13, 10]) = some fs
  | fs, 0, n, hk, _, _ => by omega
  | [], k + 1, n, _, _, _ => rfl
  | f :: fs, k + 1, n, hk, hn, hf => by
    have h0 := hf f (by simp)
    obtain ⟨c1, c2⟩ := lnF_ok h0.1 h0.2
    simp only [List.length_cons] at hk hn
    have e : linesT (f :: fs) ++ [13, 10] = lnF f ++ 13 :: 10 :: (linesT fs ++ [13, 10]) := by rw [linesT_cons, lineT_ln]; simp
    unfold rowsT
    rw [e, lnT_app _ c2]
    dsimp only
    rw [if_neg c1, if_neg (by omega), fld_read h0.1 h0.2]
    dsimp only
    rw [rows_read fs k (n + 1) (by omega) (by omega) (fun g hg => hf g (by simp [hg]))]
    rfl
theorem rgF_none : ∀ (l : List Fld) (i : Nat), ((rgF i l).getD (0, 0)).2 = 0 ↔ ∀ f ∈ l, tokT f.1 = true ∧ vOK f.2 = true
  | [], i => by simp [rgF]
  | f :: r, i => by
    unfold rgF
    by_cases h1 : tokT f.1 = true
    · by_cases h2 : vOK f.2 = true
      · rw [if_pos h1, if_pos h2, rgF_none r (i + 1)]
        simp [h1, h2]
      · rw [if_pos h1, if_neg h2]
        simp [h2]
    · rw [if_neg h1]
      simp [h1]
theorem right_iff (l : List Fld) : (rightT l).2 = 0 ↔ l.length ≤ 32 ∧ ∀ f ∈ l, tokT f.1 = true ∧ vOK f.2 = true := by
  unfold rightT
  by_cases h : 32 < l.length
  · rw [if_pos h]
    simp
    omega
  · rw [if_neg h, rgF_none]
    exact ⟨fun g => ⟨by omega, g⟩, fun g => g.2⟩
def reqL (q : List UInt8 × List UInt8 × List Fld) : List UInt8 := q.1 ++ 32 :: (q.2.1 ++ 32 :: verT)
theorem bound_ne {s : List UInt8} (h : boundT s ≠ []) : boundT s = s ∧ s.length ≤ 2048 := by
  unfold boundT at h ⊢
  split at h
  · exact absurd rfl h
  · rename_i g
    exact ⟨if_neg g, by omega⟩
theorem lines_flat (fs : List Fld) : linesT fs = (fs.map lnF).flatMap (· ++ [13, 10]) := by
  unfold linesT
  rw [List.flatMap_map]
  congr 1
  funext f
  exact lineT_ln f
theorem meth_mem {s : List UInt8} (h : methT s = true) : ∀ c ∈ s, c ≠ 58 ∧ c ≠ 32 ∧ c ≠ 10 ∧ c ≠ 13 := by
  simp only [methT, Bool.and_eq_true] at h
  exact (tok_mem h.1).2
theorem targ_mem {s : List UInt8} (h : targT s = true) : ∀ c ∈ s, c ≠ 32 ∧ c ≠ 10 ∧ c ≠ 13 := by
  simp only [targT, Bool.and_eq_true] at h
  exact fun c hc => tg_in c (List.all_eq_true.1 h.2 c hc)
theorem reqL_ok {q : List UInt8 × List UInt8 × List Fld} (h1 : methT q.1 = true) (h2 : targT q.2.1 = true) : reqL q ≠ [] ∧ ∀ c ∈ reqL q, c ≠ 10 ∧ c ≠ 13 := by
  refine ⟨by unfold reqL; simp, fun c hc => ?_⟩
  unfold reqL at hc
  rcases List.mem_append.1 hc with hc | hc
  · exact ⟨(meth_mem h1 c hc).2.2.1, (meth_mem h1 c hc).2.2.2⟩
  · rcases List.mem_cons.1 hc with rfl | hc
    · decide
    · rcases List.mem_append.1 hc with hc | hc
      · exact ⟨(targ_mem h2 c hc).2.1, (targ_mem h2 c hc).2.2⟩
      · have : ∀ c ∈ (32 :: verT : List UInt8), c ≠ 10 ∧ c ≠ 13 := by decide
        exact this c hc
/-- what is known of a request that is written -/
theorem reqT_parts {q : List UInt8 × List UInt8 × List Fld} (h : reqT q ≠ []) : reqT q = reqL q ++ 13 :: 10 :: (linesT q.2.2 ++ [13, 10]) ∧ (reqT q).length ≤ 2048 ∧ methT q.1 = true ∧ targT q.2.1 = true ∧ hostT q.2.2 = true ∧ (rightT q.2.2).2 = 0 := by
  unfold reqT at h ⊢
  split at h
  · rename_i g
    rw [if_pos g]
    obtain ⟨e1, e2⟩ := bound_ne h
    simp only [Bool.and_eq_true, decide_eq_true_eq] at g
    obtain ⟨g1, g2, g3, g4⟩ := g
    rw [e1]
    refine ⟨?_, e2, g2, g3, g4, g1⟩
    unfold ftextT reqL verT
    rw [if_pos g1]
    simp
  · exact absurd rfl h
theorem req_read {q : List UInt8 × List UInt8 × List Fld} (h : reqT q ≠ []) : reqS (reqT q) = some q := by
  obtain ⟨e, hl, h1, h2, h3, h4⟩ := reqT_parts h
  obtain ⟨l1, l2⟩ := reqL_ok h1 h2
  obtain ⟨r1, r2⟩ := (right_iff _).1 h4
  unfold reqS
  rw [if_neg (by omega), e, lnT_app _ l2]
  dsimp only
  rw [show Lib.cut (reqL q) [32] = (q.1, q.2.1 ++ 32 :: verT, true) from cut_at (fun hc => (meth_mem h1 _ hc).2.1 rfl)]
  dsimp only
  rw [show Lib.cut (q.2.1 ++ 32 :: verT) [32] = (q.2.1, verT, true) from cut_at (fun hc => (targ_mem h2 _ hc).1 rfl)]
  dsimp only
  rw [h1, h2, rows_read q.2.2 1099511627776 0 (by omega) (by omega) r2]
  dsimp only
  rw [h3]
  rfl
/-- what a request is read of: it can be written, if that is not too long -/
theorem reqS_parts {s : List UInt8} {x : List UInt8 × List UInt8 × List Fld} (h : reqS s = some x) : methT x.1 = true ∧ targT x.2.1 = true ∧ hostT x.2.2 = true ∧ (rightT x.2.2).2 = 0 ∧ okF x.2.2 ∧ s.length ≤ 2048 ∧ x.1.length + x.2.1.length ≤ s.length ∧ x.1.length + x.2.1.length + (linesT x.2.2).length + 14 ≤ s.length + 32 := by
  unfold reqS at h
  split at h
  · cases h
  · rename_i hl
    rcases hw : lnT s with _ | ⟨l, r⟩
    · rw [hw] at h; cases h
    · rw [hw] at h
      dsimp only at h
      split at h
      · rename_i hc
        simp only [Bool.and_eq_true, decide_eq_true_eq] at hc
        obtain ⟨c1, c2, c3, c4, c5⟩ := hc
        obtain ⟨e1, e2⟩ := lnT_len hw
        rcases hr : rowsT 1099511627776 0 r with _ | fs
        · rw [hr] at h; cases h
        · rw [hr] at h
          dsimp only at h
          split at h
          · rename_i hh
            obtain rfl := Option.some.inj h
            obtain ⟨i1, i2, i3, i4⟩ := rowsT_ok 1099511627776 0 r fs (by omega) hr
            have hs : s.length = l.length + r.length + 2 := by rw [e1]; simp; omega
            have hok := okF_rows (by omega) hr
            have hcut : (Lib.cut l [32]).1.length + (Lib.cut l [32]).2.1.length + 1 = l.length := by
              rcases cut_spec 32 l with ⟨k1, k2⟩ | ⟨a, b, k1, k2, k3⟩
              · rw [k1] at c1; cases c1
              · rw [k3]; conv => rhs; rw [k1]
                simp; omega
            have hcut2 : (Lib.cut (Lib.cut l [32]).2.1 [32]).1.length + 9 = (Lib.cut l [32]).2.1.length := by
              rcases cut_spec 32 (Lib.cut l [32]).2.1 with ⟨k1, k2⟩ | ⟨a, b, k1, k2, k3⟩
              · rw [k1] at c3; cases c3
              · rw [k3] at c5 ⊢
                dsimp only at c5 ⊢
                conv => rhs; rw [k1]
                rw [c5]
                simp [verT]
            refine ⟨c2, c4, hh, (right_iff _).2 ⟨by omega, i2⟩, hok, by omega, ?_, ?_⟩
            · dsimp only; omega
            · dsimp only; omega
          · cases h
      · cases h
theorem reqT_of {s : List UInt8} {x : List UInt8 × List UInt8 × List Fld} (h : reqS s = some x) (hs : s.length < 1984) : reqT x ≠ [] := by
  obtain ⟨h1, h2, h3, h4, _, _, _, h5⟩ := reqS_parts h
  unfold reqT
  rw [h1, h2, h3, decide_eq_true h4]
  simp only [Bool.and_self, if_true]
  unfold boundT ftextT
  rw [if_pos h4, if_neg (by simp; omega)]
  simp
/-! responses -/
def respL (p : Int × List UInt8 × List Fld) : List UInt8 := [72, 84, 84, 80, 47, 49, 46, 49, 32] ++ (textS 10 p.1 ++ 32 :: p.2.1)
theorem stat3 {n : Int} (h0 : ¬ n < 200) (h1 : ¬ 599 < n) : (textS 10 n).length = 3 ∧ numS 10 (textS 10 n) = (n, 0) ∧ (textS 10 n).all quoT = true := by
  have : ∀ k : _root_.Fin 400, (textS 10 ((k.val + 200 : Nat) : Int)).length = 3 ∧ numS 10 (textS 10 ((k.val + 200 : Nat) : Int)) = (((k.val + 200 : Nat) : Int), 0) ∧ (textS 10 ((k.val + 200 : Nat) : Int)).all quoT = true := by decide +kernel
  have := this ⟨n.toNat - 200, by omega⟩
  dsimp only at this
  rw [show ((n.toNat - 200 + 200 : Nat) : Int) = n by omega] at this
  exact this
theorem respT_parts {p : Int × List UInt8 × List Fld} (h : respT5 p ≠ []) : respT5 p = respL p ++ 13 :: 10 :: (linesT p.2.2 ++ [13, 10]) ∧ (respT5 p).length ≤ 2048 ∧ ¬ p.1 < 200 ∧ ¬ 599 < p.1 ∧ p.2.1.all quoT = true ∧ (rightT p.2.2).2 = 0 := by
  unfold respT5 at h ⊢
  split at h
  · rename_i g
    rw [if_pos g]
    obtain ⟨e1, e2⟩ := bound_ne h
    simp only [Bool.and_eq_true, decide_eq_true_eq, Bool.not_eq_true', decide_eq_false_iff_not] at g
    obtain ⟨g1, g2, g3, g4⟩ := g
    rw [e1]
    refine ⟨?_, e2, g2, g3, g4, g1⟩
    unfold ftextT respL
    rw [if_pos g1]
    simp
  · exact absurd rfl h
theorem cutPre (p s : List UInt8) : strings_CutPrefix (p ++ s) p = some (s, true) := by
  unfold strings_CutPrefix stringslite_CutPrefix stringslite_HasPrefix
  rw [if_pos (by simp; omega), slL_to (by simp), slL_from (by simp)]
  simp
theorem respL_ok {p : Int × List UInt8 × List Fld} (h0 : ¬ p.1 < 200) (h1 : ¬ 599 < p.1) (h2 : p.2.1.all quoT = true) : respL p ≠ [] ∧ (respL p).all quoT = true ∧ ∀ c ∈ respL p, c ≠ 10 ∧ c ≠ 13 := by
  obtain ⟨s1, s2, s3⟩ := stat3 h0 h1
  have ha : (respL p).all quoT = true := by
    unfold respL
    rw [List.all_append, List.all_append, s3]
    show (([72, 84, 84, 80, 47, 49, 46, 49, 32] : List UInt8).all quoT && (true && (quoT 32 && p.2.1.all quoT))) = true
    rw [h2]
    decide
  exact ⟨by unfold respL; simp, ha, fun c hc => quo_in c (List.all_eq_true.1 ha c hc)⟩
theorem resp_read {p : Int × List UInt8 × List Fld} (h : respT5 p ≠ []) : head_Response (respT5 p) = some (p, true) := by
  obtain ⟨e, hl, h1, h2, h3, h4⟩ := respT_parts h
  obtain ⟨s1, s2, s3⟩ := stat3 h1 h2
  obtain ⟨l1, l2, l3⟩ := respL_ok h1 h2 h3
  obtain ⟨r1, r2⟩ := (right_iff _).1 h4
  generalize ht : respT5 p = t at e hl
  unfold head_Response
  rw [if_neg (by simp; omega)]
  obtain ⟨o, g1, g2⟩ := line_eq (s := t) (f := 0) (by omega) (Nat.zero_le _)
  rw [List.drop_zero] at g2
  have g1 : lineG t 0 = some o := g1
  show (lineG t 0).bind _ = _
  rw [g1]
  rw [e, lnT_app _ l3] at g2
  rw [← e] at g2
  rcases o with z | z
  · exact g2.elim
  · obtain ⟨z1, z2⟩ := z
    obtain ⟨k1, k2, k3, k4⟩ := g2
    dsimp only at k1 k2 k3 k4
    subst k1 k2
    simp only [Option.bind_some]
    have hlen : (respL p).length = 13 + p.2.1.length := by unfold respL; simp [s1]; omega
    rw [show respL p = [72, 84, 84, 80, 47, 49, 46, 49, 32] ++ (textS 10 p.1 ++ 32 :: p.2.1) from rfl, cutPre]
    simp only [Option.bind_some, Bool.not_true, Bool.false_eq_true, if_false]
    rw [if_neg (by simp [s1]; omega), show (3 : Int) = ((3 : Nat) : Int) from rfl, ixL_in (show 3 < (textS 10 p.1 ++ 32 :: p.2.1).length by simp [s1])]
    have hb : (textS 10 p.1 ++ 32 :: p.2.1)[3]'(by simp [s1]) = 32 := by
      rw [List.getElem_append_right (by omega)]
      simp [s1]
    have hb3 : (textS 10 p.1 ++ 32 :: p.2.1).take 3 = textS 10 p.1 := by rw [← s1, List.take_left]
    have hb4 : (textS 10 p.1 ++ 32 :: p.2.1).drop 4 = p.2.1 := by rw [show 4 = 3 + 1 from rfl, ← List.drop_drop, ← s1, List.drop_left]; rfl
    rw [hb]
    simp only [Option.bind_some]
    rw [if_neg (by decide), slL_to (by simp [s1]), hb3]
    simp only [Option.bind_some]
    rw [decimal_eq _ (by omega), s2]
    simp only [Option.bind_some]
    rw [if_neg (by simp), if_neg (by simpa using h1), decide_eq_false h2]
    simp only [Option.bind_some, Bool.false_eq_true, if_false]
    obtain ⟨o, q1, q2⟩ := clean_eq (s := [72, 84, 84, 80, 47, 49, 46, 49, 32] ++ (textS 10 p.1 ++ 32 :: p.2.1)) (f := 0) (i := 13) (by rw [show [72, 84, 84, 80, 47, 49, 46, 49, 32] ++ (textS 10 p.1 ++ 32 :: p.2.1) = respL p from rfl]; omega) (by rw [show [72, 84, 84, 80, 47, 49, 46, 49, 32] ++ (textS 10 p.1 ++ 32 :: p.2.1) = respL p from rfl]; omega)
    have hd13 : ([72, 84, 84, 80, 47, 49, 46, 49, 32] ++ (textS 10 p.1 ++ 32 :: p.2.1)).drop 13 = p.2.1 := by
      rw [show 13 = 9 + 4 from rfl, ← List.drop_drop, show List.drop 9 (([72, 84, 84, 80, 47, 49, 46, 49, 32] : List UInt8) ++ (textS 10 p.1 ++ 32 :: p.2.1)) = textS 10 p.1 ++ 32 :: p.2.1 from rfl, hb4]
    rw [hd13] at q2
    have q1 : head_clean ([72, 84, 84, 80, 47, 49, 46, 49, 32] ++ (textS 10 p.1 ++ 32 :: p.2.1)) 0 13 = some o := q1
    rw [q1]
    cases o with
    | inl v => dsimp only at q2; rw [h3] at q2; cases q2
    | inr v =>
      simp only [Option.bind_some]
      rw [show (4 : Int) = ((4 : Nat) : Int) from rfl, slL_from (by simp [s1]; omega), hb4]
      simp only [Option.bind_some]
      obtain ⟨o, w1, w2⟩ := rows_eq (s := t) (by omega) (L := head_text_rows_L368 t) (fun _ _ _ => rfl) 1099511627776 (0 + (respL p).length + 2) [] k4 (by omega) (by simp)
      have w1 : head_text_rows_L368 t 1099511627776 ((0 + (respL p).length + 2 : Nat) : Int) [] = some o := w1
      rw [show respL p = [72, 84, 84, 80, 47, 49, 46, 49, 32] ++ (textS 10 p.1 ++ 32 :: p.2.1) from rfl] at w1
      rw [w1]
      rw [← k3, List.length_nil, rows_read p.2.2 1099511627776 0 (by omega) (by omega) r2] at w2
      rcases o with y | y
      · exact w2.elim
      · have w2 : y = [] ++ p.2.2 := w2
        rw [List.nil_append] at w2
        subst w2
        rfl
end Go.Proofs.YtbcmngnmfneeaaaGreatDoor
