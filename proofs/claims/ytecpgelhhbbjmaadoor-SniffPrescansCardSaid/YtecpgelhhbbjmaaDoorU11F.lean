/- sniff, plain: the document's answer: marks, content types. -/
import Derived.Test.YtecpgelhhbbjmaaDoorU11E
import Derived.Test.YtecpgelhhbbjmaaDoorGH
namespace Go.Proofs.YtecpgelhhbbjmaaDoor
open Go.Av
set_option linter.unusedVariables false
set_option linter.unusedSimpArgs false
set_option maxRecDepth 100000
theorem ref_begins_loop {b t : List UInt8} (w : List UInt8) (hL : b.length ≤ 4194304) (h : t <:+ b) (hw : w.length ≤ t.length) (hw1 : w.length ≤ 100) : ∀ (k i : Nat), i ≤ w.length → w.length - i < k →
    ref11_begins_L14 w b (pos b t) k (i : Int) = some (if (w.drop i).isPrefixOf ((t.drop i).map smT) = true then Sum.inr () else Sum.inl false)
  | 0, i, _, hk => by omega
  | k + 1, i, hi, hk => by
    simp only [ref11_begins_L14, decide_eq_true_eq]
    by_cases hlt : i < w.length
    · have hti : i < t.length := by omega
      rw [if_pos (by omega), pos_add hL h i (by omega), ixL_nat, pos_get h, List.getElem?_eq_getElem hti]
      simp only [Option.bind_some, Small_eq]
      rw [ixL_in hlt]
      simp only [Option.bind_some]
      rw [drop_step hlt, drop_step hti, List.map_cons, List.isPrefixOf_cons_cons]
      by_cases he : w[i] = smT t[i]
      · have : ¬ (!decide (b2i (smT t[i]) = b2i w[i])) = true := by rw [he]; simp
        rw [if_neg this, iadd64 (by omega) (by omega), ← Int.natCast_add_one, ref_begins_loop w hL h hw hw1 k (i + 1) (by omega) (by omega)]
        simp [he]
      · have : (!decide (b2i (smT t[i]) = b2i w[i])) = true := by
          simp only [Bool.not_eq_true', decide_eq_false_iff_not, b2i_inj]
          exact fun e => he e.symm
        rw [if_pos this]
        simp [he]
    · rw [if_neg (by omega), List.drop_eq_nil_of_le (by omega)]
      rfl
theorem ref_begins_eq {b t : List UInt8} (w : List UInt8) (hL : b.length ≤ 4194304) (h : t <:+ b) (hw1 : w.length ≤ 100) : ref11_begins b (pos b t) w = some (w.isPrefixOf (t.map smT)) := by
  have hl := suf_len h
  unfold ref11_begins
  have e : isub .i64 ((b.length : Nat) : Int) (pos b t) = ((t.length : Nat) : Int) := by
    unfold pos
    rw [isub64 (by omega) (by omega)]
    omega
  have hp : ¬ pos b t < 0 := by unfold pos; omega
  rw [e, if_neg (by simpa using hp)]
  simp only [Option.bind_some, decide_eq_true_eq]
  by_cases hw : t.length < w.length
  · rw [if_pos (by omega)]
    congr 1
    symm
    rw [Bool.eq_false_iff]
    intro hq
    have := (List.isPrefixOf_iff_prefix.1 hq).length_le
    rw [List.length_map] at this
    omega
  · rw [if_neg (by omega)]
    have := ref_begins_loop w hL h (by omega) hw1 140737488355328 0 (by omega) (by omega)
    simp only [Int.natCast_zero, List.drop_zero] at this
    rw [this]
    cases w.isPrefixOf (t.map smT) <;> rfl
theorem ref_pass_loop {L : List UInt8} (hL : L.length ≤ 4194304) : ∀ (k : Nat) (t : List UInt8), t <:+ L → t.length < k → ref11_pass_L9 L k (pos L t) = some (pos L (t.dropWhile spT))
  | 0, t, _, hk => by omega
  | k + 1, [], h, hk => by simp only [ref11_pass_L9, pos_nil]; simp [pos_nil]
  | k + 1, c :: r, h, hk => by
    simp only [List.length_cons] at hk
    simp only [ref11_pass_L9, decide_eq_true (pos_lt h), if_true, pos_ix h, Option.bind_some, Space_eq]
    cases hs : spT c with
    | true => rw [if_pos rfl, pos_tl h hL, ref_pass_loop hL k r (suf_tl h) (by omega), List.dropWhile_cons_of_pos hs]
    | false => rw [if_neg (by simp), List.dropWhile_cons_of_neg (by simp [hs])]
theorem ref_pass_eq {L t : List UInt8} (hL : L.length ≤ 4194304) (h : t <:+ L) : ref11_pass L (pos L t) = some (pos L (t.dropWhile spT)) := by
  have := suf_len h
  unfold ref11_pass
  rw [ref_pass_loop hL _ t h (by omega)]
  rfl
theorem ref_quote_loop {s : List UInt8} {q : UInt8} {r : List UInt8} (hL : s.length ≤ 4194304) (h : (q :: r) <:+ s) : ∀ (k : Nat) (pre x : List UInt8), r = pre ++ x → (∀ c ∈ pre, c ≠ q) → x.length < k →
    ref11_Content_L121 s (pos s (q :: r)) k (pos s x) = some (if q ∈ x then Sum.inl (lblT (pre ++ x.takeWhile fun c => !decide (c = q))) else Sum.inr ())
  | 0, _, x, _, _, hk => by omega
  | k + 1, pre, [], e, hp, hk => by
    simp only [ref11_Content_L121, pos_nil]
    simp
  | k + 1, pre, c :: x, e, hp, hk => by
    simp only [List.length_cons] at hk
    have hr := suf_tl h
    have hx : (c :: x) <:+ s := (by rw [e] at hr; exact (List.suffix_append pre (c :: x)).trans hr)
    have hlen := suf_len hr
    have hle : pre.length ≤ r.length := by rw [e, List.length_append]; omega
    simp only [ref11_Content_L121, decide_eq_true (pos_lt hx), if_true, pos_ix hx, pos_ix h, Option.bind_some, b2i_inj, decide_eq_true_eq]
    by_cases hq : c = q
    · rw [if_pos hq, pos_tl h hL, pos_cut hr e]
      simp only [Option.bind_some]
      rw [ref_LabelT_eq (by omega)]
      subst hq
      simp
    · rw [if_neg hq, pos_tl hx hL, ref_quote_loop hL h k (pre ++ [c]) x (by rw [e]; simp) (fun d hd => by
        rcases List.mem_append.1 hd with hd | hd
        · exact hp d hd
        · rw [List.mem_singleton.1 hd]; exact hq) (by omega)]
      have hq' : ¬ q = c := fun e => hq e.symm
      simp [hq, hq', List.takeWhile_cons]
theorem sem_eq (c : UInt8) : (ref09_Space c).bind (fun r138 => if (!r138) = true then some (!decide (b2i c = b2i (bC 59))) else some false) = some (!semB c) :=
  of_decide_eq_true (all256 (p := fun c => decide ((ref09_Space c).bind (fun r138 => if (!r138) = true then some (!decide (b2i c = b2i (bC 59))) else some false) = some (!semB c))) (by kernel_rfl) c)
theorem ref_bare_loop {L : List UInt8} (hL : L.length ≤ 4194304) : ∀ (k : Nat) (t : List UInt8), t <:+ L → t.length < k → ref11_Content_L136 L k (pos L t) = some (pos L (t.dropWhile fun c => !semB c))
  | 0, t, _, hk => by omega
  | k + 1, [], h, hk => by simp only [ref11_Content_L136, pos_nil]; simp [pos_nil]
  | k + 1, c :: r, h, hk => by
    simp only [List.length_cons] at hk
    simp only [ref11_Content_L136, decide_eq_true (pos_lt h), if_true, pos_ix h, Option.bind_some]
    have hs := sem_eq c
    rw [Space_eq] at hs ⊢
    simp only [Option.bind_some] at hs ⊢
    cases h1 : spT c with
    | true =>
      rw [h1] at hs
      simp only [Bool.not_true, Bool.false_eq_true, if_false, Option.some.injEq] at hs ⊢
      rw [List.dropWhile_cons_of_neg (by simp [← hs])]
    | false =>
      rw [h1] at hs
      simp only [Bool.not_false, if_true, Option.some.injEq] at hs ⊢
      rw [hs]
      cases h2 : semB c with
      | true =>
        rw [List.dropWhile_cons_of_neg (by simp [h2])]
        rfl
      | false =>
        rw [List.dropWhile_cons_of_pos (by simp [h2])]
        simp only [Bool.not_false, if_true]
        rw [pos_tl h hL, ref_bare_loop hL k r (suf_tl h) (by omega)]
theorem ref_val_eq {s : List UInt8} {e : List UInt8} (hL : s.length ≤ 4194304) (h : e <:+ s) :
    ((if decide (pos s e < ((List.length s : Nat) : Int)) = true then
        (ixL s (pos s e)).bind fun x108 => if decide (b2i x108 = b2i (bC 34)) = true then some true else (ixL s (pos s e)).bind fun x109 => some (decide (b2i x109 = b2i (bC 39)))
      else some false).bind fun j110 =>
        if j110 = true then (ref11_Content_L121 s (pos s e) 140737488355328 (iadd .i64 (pos s e) 1)).bind fun o126 => match o126 with
          | Sum.inl r => some (Sum.inl r)
          | Sum.inr j127 => some (Sum.inl 0)
        else (ref11_Content_L136 s 140737488355328 (pos s e)).bind fun j141 => (slL s (pos s e) j141).bind fun s142 => (ref09_Label s142).bind fun r143 => some (Sum.inl r143)) = some (Sum.inl (valC e) : Sum Int Unit) := by
  have hl := suf_len h
  have bare : ((ref11_Content_L136 s 140737488355328 (pos s e)).bind fun j141 => (slL s (pos s e) j141).bind fun s142 => (ref09_Label s142).bind fun r143 => some (Sum.inl r143)) = some (Sum.inl (lblT (e.takeWhile fun c => !semB c)) : Sum Int Unit) := by
    have hp := (List.takeWhile_prefix (fun c => !semB c) (l := e)).length_le
    rw [ref_bare_loop hL _ e h (by omega)]
    simp only [Option.bind_some]
    rw [pos_cut h (a := e.takeWhile fun c => !semB c) List.takeWhile_append_dropWhile.symm]
    simp only [Option.bind_some]
    rw [ref_LabelT_eq (by omega)]
    rfl
  rcases e with _ | ⟨q, r⟩
  · rw [if_neg (by rw [pos_nil]; simp)]
    simp only [Option.bind_some, Bool.false_eq_true, if_false]
    rw [bare]
    rfl
  · rw [if_pos (decide_eq_true (pos_lt h)), pos_ix h]
    simp only [Option.bind_some, eqB q 34 34 rfl, eqB q 39 39 rfl]
    have eq1 : (if decide (q = 34) = true then some true else some (decide (q = 39))) = some (decide (q = 34 ∨ q = 39)) := by
      by_cases a : q = 34 <;> simp [a]
    rw [eq1]
    simp only [Option.bind_some, decide_eq_true_eq, valC]
    by_cases hq : q = 34 ∨ q = 39
    · rw [if_pos hq, if_pos hq, pos_tl h hL, ref_quote_loop hL h 140737488355328 [] r rfl (by simp) (by simp only [List.length_cons] at hl; omega)]
      by_cases hm : q ∈ r
      · rw [if_pos hm, if_pos hm]; rfl
      · rw [if_neg hm, if_neg hm]; rfl
    · rw [if_neg hq, if_neg hq, bare]
theorem ref_cont_loop {s : List UInt8} (hL : s.length ≤ 4194304) : ∀ (k f : Nat) (t : List UInt8), t <:+ s → t.length < k → t.length < f →
    ref11_Content_L97 s k (pos s t) = some (match eqT f t with | none => Sum.inr () | some e => Sum.inl (valC ((e.drop 1).dropWhile spT)))
  | 0, _, t, _, hk, _ => by omega
  | k + 1, 0, t, _, _, hf => by omega
  | k + 1, f + 1, [], h, hk, hf => by
    simp only [ref11_Content_L97, pos_nil]
    simp [eqT, csT]
  | k + 1, f + 1, c :: r, h, hk, hf => by
    have hl := suf_len h
    simp only [List.length_cons] at hk hf hl
    simp only [ref11_Content_L97, decide_eq_true (pos_lt h), if_true, ref_begins_eq [99, 104, 97, 114, 115, 101, 116] hL h (by decide), Option.bind_some]
    by_cases hp : ([99, 104, 97, 114, 115, 101, 116] : List UInt8).isPrefixOf ((c :: r).map smT) = true
    · have l7 := pre_len hp
      simp only [List.length_cons, List.length_nil, List.length_map] at l7
      have hcs : csT (c :: r) = some ((c :: r).drop 7) := by unfold csT; rw [if_pos hp]
      have h7 : (c :: r).drop 7 <:+ s := (List.drop_suffix 7 _).trans h
      have e7 : iadd .i64 (pos s (c :: r)) 7 = pos s ((c :: r).drop 7) := pos_drop hL h 7 (by omega) (by simp only [List.length_cons]; omega)
      rw [hp]
      simp only [Bool.not_true, Bool.false_eq_true, if_false]
      rw [e7, ref_pass_eq hL h7]
      simp only [eqT, hcs]
      have hd := suf_dw (p := spT) h7
      have hdl : (((c :: r).drop 7).dropWhile spT).length ≤ r.length + 1 - 7 := by
        have := suf_len (List.dropWhile_suffix spT (l := (c :: r).drop 7))
        rw [List.length_drop] at this
        simpa using this
      simp only [Option.bind_some]
      generalize ((c :: r).drop 7).dropWhile spT = d at hd hdl ⊢
      rcases d with _ | ⟨x, y⟩
      · have e0 : iadd .i64 (isub .i64 (pos s []) 1) 1 = pos s [] := by
          rw [pos_nil, isub64 (by omega) (by omega), iadd64 (by omega) (by omega)]; omega
        rw [if_pos (by rw [pos_nil]; simp)]
        simp only [Option.bind_some, if_true]
        rw [e0]
        obtain ⟨k', rfl⟩ : ∃ k', k = k' + 1 := ⟨k - 1, by omega⟩
        simp only [ref11_Content_L97, pos_nil]
        simp
      · have hxl := suf_len hd
        simp only [List.length_cons] at hdl hxl
        have hpl := pos_lt hd
        have e0 : iadd .i64 (isub .i64 (pos s (x :: y)) 1) 1 = pos s (x :: y) := by
          unfold pos at hpl ⊢
          rw [isub64 (by omega) (by omega), iadd64 (by omega) (by omega)]; omega
        rw [if_neg (by simp; omega), pos_ix hd]
        simp only [Option.bind_some, eqB x 61 61 rfl]
        by_cases x61 : x = 61
        · rw [if_neg (by simp [x61]), if_pos x61, pos_tl hd hL, ref_pass_eq hL (suf_tl hd)]
          simp only [Option.bind_some, List.drop_succ_cons, List.drop_zero]
          exact ref_val_eq hL (suf_dw (p := spT) (suf_tl hd))
        · rw [if_pos (by simp [x61]), if_neg x61, e0]
          exact ref_cont_loop hL k f (x :: y) hd (by simp only [List.length_cons]; omega) (by simp only [List.length_cons]; omega)
    · have hcs : csT (c :: r) = csT r := by rw [csT, if_neg hp]
      have he : eqT (f + 1) (c :: r) = eqT (f + 1) r := by simp only [eqT, hcs]
      rw [Bool.not_eq_true] at hp
      rw [hp, he, pos_tl h hL]
      simp only [Bool.not_false, if_true]
      exact ref_cont_loop hL k (f + 1) r (suf_tl h) (by omega) (by omega)
theorem ref_Content_eq {s : List UInt8} (hl : s.length ≤ 4194304) : ref11_Content s = some (cntT s) := by
  unfold ref11_Content cntT
  have := ref_cont_loop hl 140737488355328 (s.length + 1) s (List.suffix_refl _) (by omega) (by omega)
  rw [pos_all] at this
  rw [szC_ok (by omega)]
  simp only [Option.bind_some, this]
  cases eqT (s.length + 1) s <;> rfl
theorem ref_Bom_eq (b : List UInt8) : ref11_Bom b = some (bomT b) := by
  unfold ref11_Bom bomT
  rcases b with _ | ⟨x, _ | ⟨y, _ | ⟨z, r⟩⟩⟩
  · rfl
  · simp [List.isPrefixOf]
  · have e0 : ixL [x, y] 0 = some x := rfl
    have e1 : ixL [x, y] 1 = some y := rfl
    simp only [List.length_cons, List.length_nil, e0, e1, Option.bind_some, eqB x 254 254 rfl, eqB x 255 255 rfl, eqB y 254 254 rfl, eqB y 255 255 rfl]
    by_cases a : x = 254
    · subst a
      by_cases c : y = 255 <;> simp [c, List.isPrefixOf]
      exact fun e => c e.symm
    · by_cases a2 : x = 255
      · subst a2
        by_cases c : y = 254 <;> simp [c, List.isPrefixOf]
        exact fun e => c e.symm
      · have a' : ¬ 254 = x := fun e => a e.symm
        have a2' : ¬ 255 = x := fun e => a2 e.symm
        simp [a, a2, a', a2', List.isPrefixOf]
  · have e0 : ixL (x :: y :: z :: r) 0 = some x := by have := ixL_nat (x :: y :: z :: r) 0; simpa using this
    have e1 : ixL (x :: y :: z :: r) 1 = some y := by have := ixL_nat (x :: y :: z :: r) 1; simpa using this
    have e2 : ixL (x :: y :: z :: r) 2 = some z := by have := ixL_nat (x :: y :: z :: r) 2; simpa using this
    have h3 : decide ((3 : Int) ≤ (((x :: y :: z :: r).length : Nat) : Int)) = true := by simp; omega
    have h2 : decide ((2 : Int) ≤ (((x :: y :: z :: r).length : Nat) : Int)) = true := by simp; omega
    simp only [h3, h2, if_true, e0, e1, e2, Option.bind_some, eqB x 254 254 rfl, eqB x 255 255 rfl, eqB y 254 254 rfl, eqB y 255 255 rfl, eqB x 239 239 rfl, eqB y 187 187 rfl, eqB z 191 191 rfl, List.take_succ_cons, List.take_zero, List.cons.injEq, and_true]
    by_cases a : x = 239
    · subst a
      by_cases c : y = 187
      · by_cases d : z = 191
        · simp [c, d]
        · simp [c, d, List.isPrefixOf]
      · simp [c, List.isPrefixOf]
    · have a0 : ¬ (x = 239 ∧ y = 187 ∧ z = 191) := fun h => a h.1
      rw [if_neg (by simpa using a)]
      simp only [Option.bind_some, Bool.false_eq_true, if_false, if_neg a0]
      by_cases b1 : x = 254
      · subst b1
        by_cases c : y = 255
        · simp [c, List.isPrefixOf]
        · have c' : ¬ 255 = y := fun e => c e.symm
          simp [c, c', List.isPrefixOf]
      · by_cases b2 : x = 255
        · subst b2
          by_cases c : y = 254
          · simp [c, List.isPrefixOf]
          · have c' : ¬ 254 = y := fun e => c e.symm
            simp [c, c', List.isPrefixOf]
        · have b1' : ¬ 254 = x := fun e => b1 e.symm
          have b2' : ¬ 255 = x := fun e => b2 e.symm
          simp [b1, b2, b1', b2', List.isPrefixOf]
end Go.Proofs.YtecpgelhhbbjmaaDoor
