/- sniff, plain: one thing of a page, and all of it. -/
import Derived.Test.YtecpgelhhbbjmaaDoorU11C
import Derived.Test.YtecpgelhhbbjmaaDoorU11A
namespace Go.Proofs.YtecpgelhhbbjmaaDoor
open Go.Av
set_option linter.unusedVariables false
set_option linter.unusedSimpArgs false
set_option maxRecDepth 100000
theorem attr_len {t : List UInt8} {a b : List UInt8} {o : Bool} {t' : List UInt8} (h : attrT t = some (a, b, o, t')) : a.length ≤ t.length ∧ b.length ≤ t.length := by
  have tw : ∀ (p : UInt8 → Bool) (l : List UInt8), (l.takeWhile p).length ≤ l.length := fun p l => (List.takeWhile_prefix p).length_le
  unfold attrT at h
  have l0 := suf_len (List.dropWhile_suffix (fun c => spT c || decide (c = 47)) (l := t))
  generalize t.dropWhile (fun c => spT c || decide (c = 47)) = t1 at l0 h
  rcases t1 with _ | ⟨c, r⟩
  · cases h
  simp only [List.length_cons] at l0
  dsimp only at h
  by_cases c62 : c = 62
  · rw [if_pos c62] at h
    simp only [Option.some.injEq, Prod.mk.injEq] at h
    obtain ⟨rfl, rfl, _⟩ := h
    simp
  rw [if_neg c62] at h
  have ln : (c :: r.takeWhile nmT).length ≤ t.length := by simp only [List.length_cons]; have := tw nmT r; omega
  have l1 : ((r.dropWhile nmT).dropWhile spT).length ≤ r.length := suf_len ((List.dropWhile_suffix spT).trans (List.dropWhile_suffix nmT))
  generalize (c :: r.takeWhile nmT) = nm at h ln
  generalize (r.dropWhile nmT).dropWhile spT = t2 at l1 h
  have key : ∀ (v : List UInt8) (o' : Bool) (x : List UInt8), v.length ≤ t.length → some (nm, v, o', x) = some (a, b, o, t') → a.length ≤ t.length ∧ b.length ≤ t.length := fun v o' x hv e => by
    simp only [Option.some.injEq, Prod.mk.injEq] at e
    obtain ⟨rfl, rfl, _⟩ := e
    exact ⟨ln, hv⟩
  rcases t2 with _ | ⟨d, r2⟩
  · cases h
  simp only [List.length_cons] at l1
  dsimp only at h
  by_cases d61 : d = 61
  · rw [if_neg (by simp [d61])] at h
    have l3 := suf_len (List.dropWhile_suffix spT (l := r2))
    generalize r2.dropWhile spT = t3 at l3 h
    rcases t3 with _ | ⟨q, r3⟩
    · cases h
    simp only [List.length_cons] at l3
    dsimp only at h
    by_cases hq : q = 34 ∨ q = 39
    · rw [if_pos hq] at h
      have l5 := tw (fun c => !decide (c = q)) r3
      generalize r3.takeWhile (fun c => !decide (c = q)) = v at h l5
      generalize r3.dropWhile (fun c => !decide (c = q)) = t4 at h
      rcases t4 with _ | ⟨e, r4⟩
      · cases h
      · exact key _ _ _ (by omega) h
    · rw [if_neg hq] at h
      by_cases q62 : q = 62
      · rw [if_pos q62] at h; exact key _ _ _ (by simp) h
      · rw [if_neg q62] at h
        have l5 := tw gtT (q :: r3)
        simp only [List.length_cons] at l5
        generalize (q :: r3).takeWhile gtT = v at h l5
        generalize (q :: r3).dropWhile gtT = t4 at h
        rcases t4 with _ | ⟨e, r4⟩
        · cases h
        · exact key _ _ _ (by omega) h
  · rw [if_pos d61] at h; exact key _ _ _ (by simp) h
/-! names that were met -/
theorem index_loop (s : List (List UInt8)) (v : List UInt8) (hs : s.length ≤ 9000000) : ∀ (k i : Nat), i ≤ s.length → s.length - i < k → ∃ o, slices_Index_string_string_L7 s v k (i : Int) = some o ∧ (match o with | Sum.inl r => v ∈ s.drop i ∧ 0 ≤ r | Sum.inr _ => v ∉ s.drop i)
  | 0, i, _, hk => by omega
  | k + 1, i, hi, hk => by
    simp only [slices_Index_string_string_L7, decide_eq_true_eq]
    by_cases hlt : i < s.length
    · rw [if_pos (by omega), ixL_in hlt]
      simp only [Option.bind_some]
      rw [drop_step hlt]
      by_cases he : v = s[i]
      · rw [if_pos he]; exact ⟨_, rfl, by rw [he]; exact List.mem_cons_self .., by omega⟩
      · rw [if_neg he, iadd64 (by omega) (by omega), ← Int.natCast_add_one]
        obtain ⟨o, h1, h2⟩ := index_loop s v hs k (i + 1) (by omega) (by omega)
        refine ⟨o, h1, ?_⟩
        cases o with
        | inl r => exact ⟨List.mem_cons_of_mem _ h2.1, h2.2⟩
        | inr r => exact fun hm => (List.mem_cons.1 hm).elim he h2
    · rw [if_neg (by omega), List.drop_eq_nil_of_le (by omega)]
      exact ⟨_, rfl, by simp⟩
theorem contains_eq {s : List (List UInt8)} (v : List UInt8) (hs : s.length ≤ 9000000) : slices_Contains_string_string s v = some (decide (v ∈ s)) := by
  unfold slices_Contains_string_string slices_Index_string_string
  obtain ⟨o, h1, h2⟩ := index_loop s v hs 140737488355328 0 (by omega) (by omega)
  rw [List.drop_zero] at h2
  simp only [Int.natCast_zero] at h1
  rw [h1]
  cases o with
  | inl r => simp only [Option.bind_some, decide_eq_true h2.1, decide_eq_true h2.2]
  | inr r => dsimp only at h2; simp only [Option.bind_some, decide_eq_false h2]; rfl
/-! a meta -/
def metaT : Nat → Bool → Bool → Bool → Int → List UInt8 → List (List UInt8) → Option (Bool × Bool × Int × List UInt8)
  | 0, _, _, _, _, _, _ => none
  | f + 1, pr, nd, an, cd, t, ns => match attrT t with
    | none => none
    | some (nm, v, ok, t') =>
      if ok = false then some (pr, nd, cd, t')
      else if nm ∈ ns then metaT f pr nd an cd t' ns
      else if nm = [104, 116, 116, 112, 45, 101, 113, 117, 105, 118] then metaT f (decide (v = [99, 111, 110, 116, 101, 110, 116, 45, 116, 121, 112, 101])) nd an cd t' (ns ++ [nm])
      else if nm = [99, 111, 110, 116, 101, 110, 116] then
        (if an = false then (if cntT v ≠ 0 then metaT f pr true true (cntT v) t' (ns ++ [nm]) else metaT f pr nd an cd t' (ns ++ [nm])) else metaT f pr nd an cd t' (ns ++ [nm]))
      else if nm = [99, 104, 97, 114, 115, 101, 116] then metaT f pr false true (lblT v) t' (ns ++ [nm])
      else metaT f pr nd an cd t' (ns ++ [nm])
def metE (L : List UInt8) : Option (Bool × Bool × Int × List UInt8) → Sum (Sum Unit (Int × Int)) (Bool × Bool × Int × Int)
  | none => .inl (.inl ())
  | some (pr, nd, cd, t) => .inr (pr, nd, cd, pos L t)
theorem meta_loop {L : List UInt8} (hL : L.length ≤ 4194304) : ∀ (k f : Nat) (t : List UInt8) (pr nd an : Bool) (cd : Int) (ns : List (List UInt8)), t <:+ L → t.length < k → t.length < f → ns.length + t.length ≤ 8388608 →
    sniff_reader_meta_L89 L k pr nd an cd (pos L t) ns = some (metE L (metaT f pr nd an cd t ns))
  | 0, _, t, _, _, _, _, _, _, hk, _, _ => by omega
  | k + 1, 0, t, _, _, _, _, _, _, _, hf, _ => by omega
  | k + 1, f + 1, t, pr, nd, an, cd, ns, h, hk, hf, hn => by
    simp only [sniff_reader_meta_L89, metaT, attribute_eq hL h, Option.bind_some]
    rcases ha : attrT t with _ | ⟨nm, v, ok, t'⟩
    · rfl
    obtain ⟨s1, s2, s3⟩ := attr_suf ha
    obtain ⟨n1, n2⟩ := attr_len ha
    have hl := suf_len h
    have h' := s1.trans h
    simp only [attE]
    cases ok with
    | false => rfl
    | true =>
      have hlt := s2 rfl
      have IH := fun pr nd an cd ns hn => meta_loop hL k f t' pr nd an cd ns h' (by omega) (by omega) hn
      simp only [Bool.not_true, Bool.false_eq_true, if_false, contains_eq nm (show ns.length ≤ 9000000 by omega), Option.bind_some, decide_eq_true_eq, reduceCtorEq]
      by_cases hm : nm ∈ ns
      · rw [if_pos hm, if_pos hm]; exact IH _ _ _ _ _ (by omega)
      rw [if_neg hm, if_neg hm, szC_ok (by simp; omega)]
      have hn' : (ns ++ [nm]).length + t'.length ≤ 8388608 := by simp; omega
      simp only [Option.bind_some]
      by_cases c1 : nm = [104, 116, 116, 112, 45, 101, 113, 117, 105, 118]
      · rw [if_pos c1, if_pos c1]; exact IH _ _ _ _ _ hn'
      rw [if_neg c1, if_neg c1]
      by_cases c2 : nm = [99, 111, 110, 116, 101, 110, 116]
      · rw [if_pos c2, if_pos c2, Content_eq (by omega)]
        simp only [Option.bind_some]
        cases an with
        | true => exact IH _ _ _ _ _ hn'
        | false =>
          simp only [Bool.not_false, if_true]
          by_cases c0 : cntT v = 0
          · rw [if_neg (by simp [c0]), if_neg (by simp [c0])]; exact IH _ _ _ _ _ hn'
          · rw [if_pos (by simp [c0]), if_pos c0]; exact IH _ _ _ _ _ hn'
      rw [if_neg c2, if_neg c2]
      by_cases c3 : nm = [99, 104, 97, 114, 115, 101, 116]
      · rw [if_pos c3, if_pos c3, LabelT_eq (by omega)]
        simp only [Option.bind_some]
        exact IH _ _ _ _ _ hn'
      rw [if_neg c3, if_neg c3]
      exact IH _ _ _ _ _ hn'
theorem meta_suf : ∀ (f : Nat) (t : List UInt8) (pr nd an : Bool) (cd : Int) (ns : List (List UInt8)) {pr' nd' : Bool} {cd' : Int} {t' : List UInt8}, metaT f pr nd an cd t ns = some (pr', nd', cd', t') → t' <:+ t ∧ ∃ r, t' = 62 :: r
  | 0, t, _, _, _, _, _, _, _, _, _, h => by cases h
  | f + 1, t, pr, nd, an, cd, ns, pr', nd', cd', t', h => by
    simp only [metaT] at h
    rcases ha : attrT t with _ | ⟨nm, v, ok, t2⟩
    · rw [ha] at h; cases h
    rw [ha] at h
    obtain ⟨s1, s2, s3⟩ := attr_suf ha
    dsimp only at h
    have key : ∀ pr nd an cd ns, metaT f pr nd an cd t2 ns = some (pr', nd', cd', t') → t' <:+ t ∧ ∃ r, t' = 62 :: r := fun _ _ _ _ _ h => by
      obtain ⟨a, b⟩ := meta_suf f t2 _ _ _ _ _ h
      exact ⟨a.trans s1, b⟩
    cases ok with
    | false =>
      simp only [if_true, Option.some.injEq, Prod.mk.injEq] at h
      obtain ⟨_, _, _, rfl⟩ := h
      exact ⟨s1, s3 rfl⟩
    | true =>
      simp only [reduceCtorEq, if_false] at h
      repeat' split at h
      all_goals exact key _ _ _ _ _ h
def metaR (t : List UInt8) : Option (Int × List UInt8) := match metaT (t.length + 1) false false false 0 t [] with
  | none => none
  | some (pr, nd, cd, t') => some (if nd = true ∧ pr = false then 0 else if cd = 3 then 1 else cd, t')
def retE (L : List UInt8) : Option (Int × List UInt8) → Sum Unit (Int × Int)
  | none => .inl ()
  | some (c, t) => .inr (c, pos L t)
theorem meta_eq {L t : List UInt8} (hL : L.length ≤ 4194304) (h : t <:+ L) : sniff_reader_meta (pos L t) L = some (retE L (metaR t)) := by
  have hl := suf_len h
  unfold sniff_reader_meta metaR
  rw [meta_loop hL 140737488355328 (t.length + 1) t false false false 0 [] h (by omega) (by omega) (by simp; omega)]
  rcases metaT (t.length + 1) false false false 0 t [] with _ | ⟨pr, nd, cd, t'⟩
  · rfl
  simp only [Option.bind_some, metE]
  cases nd <;> cases pr <;> simp [retE] <;> split <;> rfl
/-! a tag's attributes -/
def tagsT : Nat → List UInt8 → Option (List UInt8)
  | 0, _ => none
  | f + 1, t => match attrT t with
    | none => none
    | some (_, _, ok, t') => if ok = true then tagsT f t' else some t'
theorem tags_loop {L : List UInt8} (hL : L.length ≤ 4194304) : ∀ (k f : Nat) (t : List UInt8), t <:+ L → t.length + 1 < k → t.length < f → sniff_reader_step_L261 L k true (pos L t) = some (match tagsT f t with | none => Sum.inl (Sum.inl ()) | some t' => Sum.inr (pos L t'))
  | 0, _, t, _, hk, _ => by omega
  | k + 1, 0, t, _, _, hf => by omega
  | k + 1, f + 1, t, h, hk, hf => by
    simp only [sniff_reader_step_L261, tagsT, attribute_eq hL h, Option.bind_some, if_true]
    rcases ha : attrT t with _ | ⟨nm, v, ok, t'⟩
    · rfl
    obtain ⟨s1, s2, s3⟩ := attr_suf ha
    simp only [attE]
    cases ok with
    | true =>
      have := s2 rfl
      exact tags_loop hL k f t' (s1.trans h) (by omega) (by omega)
    | false =>
      obtain ⟨k', rfl⟩ : ∃ k', k = k' + 1 := ⟨k - 1, by omega⟩
      simp [sniff_reader_step_L261]
theorem tags_suf : ∀ (f : Nat) (t : List UInt8) {t' : List UInt8}, tagsT f t = some t' → t' <:+ t ∧ ∃ r, t' = 62 :: r
  | 0, t, t', h => by cases h
  | f + 1, t, t', h => by
    simp only [tagsT] at h
    rcases ha : attrT t with _ | ⟨nm, v, ok, t2⟩
    · rw [ha] at h; cases h
    rw [ha] at h
    obtain ⟨s1, s2, s3⟩ := attr_suf ha
    dsimp only at h
    cases ok with
    | true =>
      obtain ⟨a, b⟩ := tags_suf f t2 (by simpa using h)
      exact ⟨a.trans s1, b⟩
    | false =>
      simp only [Bool.false_eq_true, if_false, Option.some.injEq] at h
      subst h
      exact ⟨s1, s3 rfl⟩
/-! one thing -/
theorem sbegins_eq {L t : List UInt8} (w : List UInt8) (hw : w.length ≤ 100) (h : t <:+ L) : sniff_reader_begins (L, pos L t) w = some (w.isPrefixOf t) := by
  unfold sniff_reader_begins
  simp only [pos_rest h, Option.bind_some, szC_ok (show w.length ≤ 140737488355328 by omega), bytes_HasPrefix, bytes_Equal, decide_eq_true_eq]
  by_cases hl : w.length ≤ t.length
  · rw [if_pos (by omega), slL_to hl]
    simp only [Option.bind_some]
    congr 1
    rw [Bool.eq_iff_iff, decide_eq_true_eq, List.isPrefixOf_iff_prefix, List.prefix_iff_eq_take]
    exact eq_comm
  · rw [if_neg (by omega)]
    have : w.isPrefixOf t = false := by
      rw [Bool.eq_false_iff]
      exact fun hp => hl (List.isPrefixOf_iff_prefix.1 hp).length_le
    rw [this]
    rfl
def ltrT (t : List UInt8) (n : Nat) : Bool := match t[n]? with
  | none => false
  | some c => decide (97 ≤ b2i c ∧ b2i c ≤ 122)
theorem pos_add {L t : List UInt8} (hL : L.length ≤ 4194304) (h : t <:+ L) (n : Nat) (hn : n ≤ 100) : iadd .i64 (pos L t) (n : Int) = ((L.length - t.length + n : Nat) : Int) := by
  have := suf_len h
  unfold pos
  rw [iadd64 (by omega) (by omega)]
  omega
theorem pos_get {L t : List UInt8} (h : t <:+ L) (n : Nat) : L[L.length - t.length + n]? = t[n]? := by
  have := suf_drop h
  conv => rhs; rw [← this]
  rw [List.getElem?_drop]
theorem pos_drop {L t : List UInt8} (hL : L.length ≤ 4194304) (h : t <:+ L) (n : Nat) (hn : n ≤ 100) (hl : n ≤ t.length) : iadd .i64 (pos L t) (n : Int) = pos L (t.drop n) := by
  have h2 := suf_len h
  rw [pos_add hL h n hn]
  unfold pos
  rw [List.length_drop]
  omega
theorem letter_eq {L t : List UInt8} (hL : L.length ≤ 4194304) (h : t <:+ L) (n : Nat) (hn : n ≤ 100) : sniff_reader_letter (L, pos L t) (n : Int) = some (ltrT t n) := by
  have hl := suf_len h
  unfold sniff_reader_letter ltrT
  simp only [pos_add hL h n hn, decide_eq_true_eq]
  by_cases hlt : n < t.length
  · rw [if_pos (by omega), ixL_nat, pos_get h, List.getElem?_eq_getElem hlt]
    simp only [Option.bind_some, show b2i (bC 97) = 97 from rfl, show b2i (bC 122) = 122 from rfl]
    by_cases a : 97 ≤ b2i t[n] <;> simp [a]
  · rw [if_neg (by omega), List.getElem?_eq_none (by omega)]
/-- the first place where w stands -/
def occT (w : List UInt8) : List UInt8 → Option (List UInt8)
  | [] => if w.isEmpty then some [] else none
  | c :: r => if w.isPrefixOf (c :: r) then some (c :: r) else occT w r
theorem occ_index (w : List UInt8) : ∀ t : List UInt8, match occT w t with
    | none => Lib.index t w = -1
    | some s => s <:+ t ∧ w.isPrefixOf s = true ∧ Lib.index t w = ((t.length - s.length : Nat) : Int)
  | [] => by
    unfold occT Lib.index
    cases hw : w.isEmpty with
    | true =>
      cases w with
      | nil => exact ⟨List.suffix_refl _, rfl, rfl⟩
      | cons a b => cases hw
    | false => rfl
  | c :: r => by
    unfold occT Lib.index
    by_cases hp : w.isPrefixOf (c :: r) = true
    · rw [if_pos hp, if_pos hp]; exact ⟨List.suffix_refl _, hp, by simp⟩
    · rw [if_neg hp, if_neg hp]
      have ih := occ_index w r
      rcases ho : occT w r with _ | s
      · rw [ho] at ih; dsimp only at ih ⊢; rw [ih]; rfl
      · rw [ho] at ih
        dsimp only at ih ⊢
        obtain ⟨h1, h2, h3⟩ := ih
        have hl := suf_len h1
        refine ⟨h1.trans (List.suffix_cons c r), h2, ?_⟩
        rw [h3, if_neg (by simp), List.length_cons]
        omega
def mtT (t : List UInt8) : Bool := ([60, 109, 101, 116, 97] : List UInt8).isPrefixOf t && (match t[5]? with | none => false | some c => spT c || decide (c = 47))
def stepT (t : List UInt8) : Option (Int × List UInt8) :=
  if ([60, 33, 45, 45] : List UInt8).isPrefixOf t = true then
    (match occT [45, 45, 62] (t.drop 2) with
    | none => none
    | some s => some (0, s.drop 3))
  else if mtT t = true then
    (match metaR (t.drop 5) with
    | none => none
    | some (c, t') => if c ≠ 0 then some (c, t') else some (0, t'.drop 1))
  else if (([60] : List UInt8).isPrefixOf t && ltrT t 1) = true ∨ (([60, 47] : List UInt8).isPrefixOf t && ltrT t 2) = true then
    (match t.dropWhile gtT with
    | [] => none
    | c :: r => match tagsT (r.length + 2) (c :: r) with
      | none => none
      | some t' => some (0, t'.drop 1))
  else if ([60, 33] : List UInt8).isPrefixOf t = true ∨ ([60, 47] : List UInt8).isPrefixOf t = true ∨ ([60, 63] : List UInt8).isPrefixOf t = true then
    (match t.dropWhile (fun c => !decide (c = 62)) with
    | [] => none
    | c :: r => some (0, r))
  else some (0, t.drop 1)
theorem pre_len {w t : List UInt8} (h : w.isPrefixOf t = true) : w.length ≤ t.length := (List.isPrefixOf_iff_prefix.1 h).length_le
theorem metaR_suf {t t' : List UInt8} {c : Int} (h : metaR t = some (c, t')) : t' <:+ t ∧ ∃ r, t' = 62 :: r := by
  unfold metaR at h
  rcases hm : metaT (t.length + 1) false false false 0 t [] with _ | ⟨pr, nd, cd, t2⟩
  · rw [hm] at h; cases h
  · rw [hm] at h
    simp only [Option.some.injEq, Prod.mk.injEq] at h
    obtain ⟨_, rfl⟩ := h
    exact meta_suf _ _ _ _ _ _ _ hm
theorem step_eq {L t : List UInt8} (hL : L.length ≤ 4194304) (h : t <:+ L) (hne : t ≠ []) : sniff_reader_step (pos L t) L = some (retE L (stepT t)) := by
  have hl := suf_len h
  unfold sniff_reader_step stepT mtT
  have tl : ∀ {x : List UInt8}, x <:+ L → x ≠ [] → iadd .i64 (pos L x) 1 = pos L (x.drop 1) := fun {x} hx hx0 => by
    cases x with
    | nil => exact absurd rfl hx0
    | cons c r => exact pos_tl hx hL
  simp only [sbegins_eq [60, 33, 45, 45] (by decide) h, Option.bind_some]
  by_cases a1 : ([60, 33, 45, 45] : List UInt8).isPrefixOf t = true
  · have l4 := pre_len a1
    simp only [List.length_cons, List.length_nil] at l4
    have h2 : t.drop 2 <:+ L := (List.drop_suffix 2 t).trans h
    have o := occ_index [45, 45, 62] (t.drop 2)
    have e2 : iadd .i64 (pos L t) 2 = pos L (t.drop 2) := pos_drop hL h 2 (by omega) (by omega)
    have hb : bindexX (t.drop 2) [(bC 45), (bC 45), (bC 62)] = some (Lib.index (t.drop 2) [45, 45, 62]) := by
      unfold bindexX
      rw [if_pos (by simp only [List.length_drop, List.length_cons, List.length_nil]; omega)]
      rfl
    rw [if_pos a1, if_pos a1, e2, pos_rest h2]
    simp only [Option.bind_some, hb]
    rcases ho : occT [45, 45, 62] (t.drop 2) with _ | s
    · rw [ho] at o; dsimp only at o; rw [o]; rfl
    · rw [ho] at o
      dsimp only at o
      obtain ⟨o1, o2, o3⟩ := o
      have l3 := pre_len o2
      have ls := suf_len o1
      simp only [List.length_cons, List.length_nil, List.length_drop] at l3 ls
      rw [o3, if_neg (by simp)]
      simp only [Option.bind_some, retE]
      have e3 : iadd .i64 (((t.drop 2).length - s.length : Nat) : Int) 4 = ((t.length - 2 - s.length + 4 : Nat) : Int) := by
        rw [List.length_drop, iadd64 (by omega) (by omega)]
        omega
      have e4 : iadd .i64 (pos L t) (iadd .i64 (((t.drop 2).length - s.length : Nat) : Int) 4) = pos L (s.drop 2) := by
        rw [e3]
        unfold pos
        rw [iadd64 (by omega) (by omega), List.length_drop]
        omega
      have hs : s <:+ L := o1.trans h2
      rw [e4, tl ((List.drop_suffix 2 s).trans hs) (by intro e; have := congrArg List.length e; simp at this; omega), List.drop_drop]
  rw [if_neg a1, if_neg a1]
  have e5 : iadd .i64 (pos L t) 5 = ((L.length - t.length + 5 : Nat) : Int) := pos_add hL h 5 (by omega)
  have hmeta : ((some (([60, 109, 101, 116, 97] : List UInt8).isPrefixOf t)).bind fun r218 =>
      if r218 = true then
        if decide (iadd .i64 (pos L t) 5 < ((L.length : Nat) : Int)) = true then
          (ixL L (iadd .i64 (pos L t) 5)).bind fun x219 => (sniff_space x219).bind fun r220 => if r220 = true then some true else (ixL L (iadd .i64 (pos L t) 5)).bind fun x221 => some (decide (b2i x221 = b2i (bC 47)))
        else some false
      else some false) = some (([60, 109, 101, 116, 97] : List UInt8).isPrefixOf t && (match t[5]? with | none => false | some c => spT c || decide (c = 47))) := by
    simp only [Option.bind_some]
    cases ([60, 109, 101, 116, 97] : List UInt8).isPrefixOf t with
    | false => rfl
    | true =>
      rw [e5, ixL_nat, pos_get h]
      by_cases hlt : 5 < t.length
      · rw [List.getElem?_eq_getElem hlt, decide_eq_true (by omega : ((L.length - t.length + 5 : Nat) : Int) < ((L.length : Nat) : Int))]
        simp only [Option.bind_some, if_true, space_eq, Bool.true_and, eqB _ 47 47 rfl]
        cases spT t[5] <;> simp
      · rw [List.getElem?_eq_none (by omega), decide_eq_false (by omega : ¬ ((L.length - t.length + 5 : Nat) : Int) < ((L.length : Nat) : Int))]
        rfl
  rw [sbegins_eq [60, 109, 101, 116, 97] (by decide) h]
  rw [hmeta]
  simp only [Option.bind_some]
  by_cases a2 : (([60, 109, 101, 116, 97] : List UInt8).isPrefixOf t && (match t[5]? with | none => false | some c => spT c || decide (c = 47))) = true
  · rw [if_pos a2, if_pos a2]
    have l5 := pre_len (Bool.and_eq_true_iff.1 a2).1
    simp only [List.length_cons, List.length_nil] at l5
    have h5 : t.drop 5 <:+ L := (List.drop_suffix 5 t).trans h
    have e5' : iadd .i64 (pos L t) 5 = pos L (t.drop 5) := pos_drop hL h 5 (by omega) (by omega)
    rw [e5', meta_eq hL h5]
    simp only [Option.bind_some]
    rcases hm : metaR (t.drop 5) with _ | ⟨c, t'⟩
    · rfl
    · simp only [retE]
      by_cases c0 : c = 0
      · rw [if_neg (by simp [c0]), if_neg (by simp [c0])]
        obtain ⟨s1, r, hr⟩ := metaR_suf hm
        simp only [Option.bind_some]
        rw [tl (s1.trans h5) (by rw [hr]; simp)]
      · rw [if_pos (by simp [c0]), if_pos c0]; rfl
  rw [if_neg a2, if_neg a2, sbegins_eq [60] (by decide) h, sbegins_eq [60, 47] (by decide) h, sbegins_eq [60, 33] (by decide) h, sbegins_eq [60, 63] (by decide) h,
    show sniff_reader_letter (L, pos L t) 1 = some (ltrT t 1) from letter_eq hL h 1 (by omega), show sniff_reader_letter (L, pos L t) 2 = some (ltrT t 2) from letter_eq hL h 2 (by omega)]
  generalize ([60] : List UInt8).isPrefixOf t = p1
  generalize ([60, 47] : List UInt8).isPrefixOf t = p2
  generalize ([60, 33] : List UInt8).isPrefixOf t = p3
  generalize ([60, 63] : List UInt8).isPrefixOf t = p4
  generalize ltrT t 1 = l1
  generalize ltrT t 2 = l2
  simp only [Option.bind_some]
  have hA : ((if p1 = true then some l1 else some false).bind fun j240 => if j240 = true then some j240 else if p2 = true then some l2 else some false) = some ((p1 && l1) || (p2 && l2)) := by
    cases p1 <;> cases p2 <;> cases l1 <;> cases l2 <;> rfl
  rw [hA]
  simp only [Option.bind_some]
  by_cases a3 : (p1 && l1) = true ∨ (p2 && l2) = true
  · rw [if_pos (by simpa using a3), if_pos a3, find4_eq hL h]
    simp only [Option.bind_some, fndT]
    have hd := suf_dw (p := gtT) h
    generalize t.dropWhile gtT = t1 at hd ⊢
    rcases t1 with _ | ⟨c, r⟩
    · rfl
    · have lh := suf_len hd
      simp only [List.length_cons] at lh
      dsimp only
      rw [tags_loop hL 140737488355328 (r.length + 2) (c :: r) hd (by simp only [List.length_cons]; omega) (by simp only [List.length_cons]; omega)]
      rcases ht : tagsT (r.length + 2) (c :: r) with _ | t'
      · rfl
      · obtain ⟨s1, r', hr⟩ := tags_suf _ _ ht
        simp only [Option.bind_some]
        rw [tl (s1.trans hd) (by rw [hr]; simp)]
        rfl
  rw [if_neg (by simpa using a3), if_neg a3]
  have hB : (if p3 = true then some p3 else if p2 = true then some p2 else some p4) = some (p3 || p2 || p4) := by
    cases p3 <;> cases p2 <;> rfl
  rw [hB]
  simp only [Option.bind_some]
  by_cases a4 : p3 = true ∨ p2 = true ∨ p4 = true
  · rw [if_pos (by simpa [or_assoc] using a4), if_pos a4, find5_eq hL h]
    simp only [Option.bind_some, fndT]
    have hd := suf_dw (p := fun c => !decide (c = 62)) h
    generalize t.dropWhile (fun c => !decide (c = 62)) = t1 at hd ⊢
    rcases t1 with _ | ⟨c, r⟩
    · rfl
    · simp only [Option.bind_some, pos_tl hd hL]; rfl
  rw [if_neg (by simpa [or_assoc] using a4), if_neg a4]
  simp only [Option.bind_some]
  rw [tl h hne]
  rfl
theorem step_suf {t : List UInt8} (hne : t ≠ []) {c : Int} {t' : List UInt8} (h : stepT t = some (c, t')) : t' <:+ t ∧ t'.length < t.length := by
  have d1 : ∀ x : List UInt8, x <:+ t → x.drop 1 <:+ t ∧ (x.drop 1).length < t.length := fun x hx => by
    have := suf_len hx
    have h0 : 0 < t.length := List.length_pos_iff.2 hne
    exact ⟨(List.drop_suffix 1 x).trans hx, by rw [List.length_drop]; omega⟩
  have fin : ∀ (a : Int) (x : List UInt8), some (a, x) = some (c, t') → x <:+ t ∧ x.length < t.length → t' <:+ t ∧ t'.length < t.length := fun a x e hx => by
    simp only [Option.some.injEq, Prod.mk.injEq] at e
    rw [← e.2]; exact hx
  unfold stepT at h
  split at h
  · have o := occ_index [45, 45, 62] (t.drop 2)
    rcases ho : occT [45, 45, 62] (t.drop 2) with _ | s
    · rw [ho] at h; cases h
    · rw [ho] at h o
      dsimp only at h o
      have hs := o.1.trans (List.drop_suffix 2 t)
      refine fin _ _ h ⟨(List.drop_suffix 3 s).trans hs, ?_⟩
      have := suf_len hs
      have h0 : 0 < t.length := List.length_pos_iff.2 hne
      rw [List.length_drop]; omega
  · split at h
    · rename_i hm
      unfold mtT at hm
      have l5 := pre_len (Bool.and_eq_true_iff.1 hm).1
      simp only [List.length_cons, List.length_nil] at l5
      rcases hr : metaR (t.drop 5) with _ | ⟨c', t2⟩
      · rw [hr] at h; cases h
      · rw [hr] at h
        obtain ⟨s1, _⟩ := metaR_suf hr
        have s2 := s1.trans (List.drop_suffix 5 t)
        dsimp only at h
        have hl := suf_len s1
        rw [List.length_drop] at hl
        split at h
        · exact fin _ _ h ⟨s2, by omega⟩
        · exact fin _ _ h (d1 _ s2)
    · split at h
      · have hd := List.dropWhile_suffix gtT (l := t)
        generalize t.dropWhile gtT = t1 at h hd
        rcases t1 with _ | ⟨q, r⟩
        · cases h
        · dsimp only at h
          rcases ht : tagsT (r.length + 2) (q :: r) with _ | t2
          · rw [ht] at h; cases h
          · rw [ht] at h
            exact fin _ _ h (d1 _ ((tags_suf _ _ ht).1.trans hd))
      · split at h
        · have hd := List.dropWhile_suffix (fun c => !decide (c = 62)) (l := t)
          generalize t.dropWhile (fun c => !decide (c = 62)) = t1 at h hd
          rcases t1 with _ | ⟨q, r⟩
          · cases h
          · have := suf_len hd
            simp only [List.length_cons] at this
            exact fin _ _ h ⟨suf_tl hd, by omega⟩
        · exact fin _ _ h (d1 _ (List.suffix_refl t))
def scanT : Nat → List UInt8 → Int
  | 0, _ => 0
  | _ + 1, [] => 0
  | f + 1, c :: r => match stepT (c :: r) with
    | none => 0
    | some (e, t') => if e = 0 then scanT f t' else e
theorem scan_loop {L : List UInt8} (hL : L.length ≤ 4194304) : ∀ (k f : Nat) (t : List UInt8), t <:+ L → t.length < k → t.length < f → ∃ o, sniff_Prescan_L16 L k (pos L t) = some o ∧ (match o with | Sum.inl r => r | Sum.inr _ => 0) = scanT f t
  | 0, _, t, _, hk, _ => by omega
  | k + 1, 0, t, _, _, hf => by omega
  | k + 1, f + 1, [], h, hk, hf => by
    simp only [sniff_Prescan_L16, pos_nil]
    exact ⟨Sum.inr (), by simp, rfl⟩
  | k + 1, f + 1, c :: r, h, hk, hf => by
    have hs := step_eq hL h (by simp)
    simp only [sniff_Prescan_L16, decide_eq_true (pos_lt h), if_true, hs, Option.bind_some, scanT]
    rcases he : stepT (c :: r) with _ | ⟨e, t'⟩
    · exact ⟨_, rfl, rfl⟩
    · obtain ⟨s1, s2⟩ := step_suf (by simp) he
      simp only [retE]
      by_cases e0 : e = 0
      · rw [if_neg (by simp [e0]), if_pos e0]
        exact scan_loop hL k f t' (s1.trans h) (by omega) (by omega)
      · rw [if_pos (by simp [e0]), if_neg e0]
        exact ⟨_, rfl, rfl⟩
theorem scan_fuel : ∀ (f g : Nat) (t : List UInt8), t.length < f → t.length < g → scanT f t = scanT g t
  | 0, _, t, hf, _ => by omega
  | _ + 1, 0, t, _, hg => by omega
  | f + 1, g + 1, [], _, _ => rfl
  | f + 1, g + 1, c :: r, hf, hg => by
    simp only [scanT]
    rcases he : stepT (c :: r) with _ | ⟨e, t'⟩
    · rfl
    · obtain ⟨s1, s2⟩ := step_suf (by simp) he
      dsimp only
      by_cases e0 : e = 0
      · rw [if_pos e0, if_pos e0]; exact scan_fuel f g t' (by omega) (by omega)
      · rw [if_neg e0, if_neg e0]
/-- the encoding that a page names itself -/
def preT (b : List UInt8) : Int := scanT 1025 ((b.take 1024).map smT)
theorem Prescan_eq {b : List UInt8} (hl : b.length ≤ 140737488355328) : sniff_Prescan b = some (preT b) := by
  unfold sniff_Prescan preT
  have e : min ((b.length : Nat) : Int) 1024 = ((min b.length 1024 : Nat) : Int) := by omega
  have ht : b.take (min b.length 1024) = b.take 1024 := by
    rcases Nat.le_total b.length 1024 with h | h
    · rw [Nat.min_eq_left h, List.take_of_length_le (Nat.le_refl _), List.take_of_length_le h]
    · rw [Nat.min_eq_right h]
  rw [e, slL_to (by omega), ht]
  have h1 : (b.take 1024).length ≤ 1024 := by rw [List.length_take]; omega
  simp only [Option.bind_some]
  rw [ssmall_eq (by omega)]
  simp only [Option.bind_some]
  have h2 : ((b.take 1024).map smT).length ≤ 1024 := by rw [List.length_map]; exact h1
  rw [szC_ok (by omega)]
  obtain ⟨o, o1, o2⟩ := scan_loop (L := (b.take 1024).map smT) (by omega) 140737488355328 1025 _ (List.suffix_refl _) (by omega) (by omega)
  rw [pos_all] at o1
  simp only [Option.bind_some, o1, ← o2]
  cases o <;> rfl
end Go.Proofs.YtecpgelhhbbjmaaDoor
