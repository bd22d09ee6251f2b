/- sniff, plain: the encoding that a content type names. -/
import Derived.Test.YtecpgelhhbbjmaaDoorU11A
import Derived.Test.YtecpgelhhbbjmaaDoorU4A
namespace Go.Proofs.YtecpgelhhbbjmaaDoor
open Go.Av
set_option linter.unusedVariables false
set_option linter.unusedSimpArgs false
set_option maxRecDepth 100000
def lblT (s : List UInt8) : Int := labT ((Lib.trimS s [9, 10, 12, 13, 32]).map smT)
theorem LabelT_eq {s : List UInt8} (hl : s.length ≤ 4194304) : leaf_Label s = some (lblT s) := Label_eq (by omega)
/-! strings.IndexAny -/
theorem irune {ds : List UInt8} {c : UInt8} (h : c.toNat < 128) : strings_IndexRune ds ((c.toNat : Nat) : Int) = some (Lib.indexByte ds c) := by
  have e : toB ((c.toNat : Nat) : Int) = c := by
    have := toB_b2i c
    unfold b2i at this
    exact this
  unfold strings_IndexRune indexByteX
  rw [show decide (0 ≤ ((c.toNat : Nat) : Int)) = true from by simp, show decide (((c.toNat : Nat) : Int) < 128) = true from by simp; omega, e]
  rfl
def semB (c : UInt8) : Bool := ([9, 10, 12, 13, 32, 59] : List UInt8).contains c
theorem sem_hi {c : UInt8} (h : 128 ≤ c.toNat) : semB c = false := by
  have := of_decide_eq_true (all256 (p := fun c => decide (128 ≤ c.toNat → semB c = false)) (by kernel_rfl) c)
  exact this h
theorem any6_cons (c : UInt8) (r : List UInt8) : Lib.indexAny (c :: r) [9, 10, 12, 13, 32, 59] = if semB c = true then 0 else if Lib.indexAny r [9, 10, 12, 13, 32, 59] = -1 then -1 else Lib.indexAny r [9, 10, 12, 13, 32, 59] + 1 := by
  rw [Lib.indexAny]
  unfold semB
  simp only [beq_iff_eq]
theorem any_skip6 {s : List UInt8} : ∀ (w p : Nat), (∀ j, p ≤ j → j < p + w → ∃ hj : j < s.length, 128 ≤ (s[j]'hj).toNat) →
    Lib.indexAny (s.drop p) [9, 10, 12, 13, 32, 59] = if Lib.indexAny (s.drop (p + w)) [9, 10, 12, 13, 32, 59] = -1 then -1 else Lib.indexAny (s.drop (p + w)) [9, 10, 12, 13, 32, 59] + (w : Int)
  | 0, p, _ => by
    rw [Nat.add_zero]
    by_cases h : Lib.indexAny (s.drop p) [9, 10, 12, 13, 32, 59] = -1
    · rw [if_pos h, h]
    · rw [if_neg h]; simp
  | w + 1, p, h => by
    obtain ⟨h1, h2⟩ := h p (Nat.le_refl _) (by omega)
    have ih := any_skip6 w (p + 1) (fun j j1 j2 => h j (by omega) (by omega))
    have hc : ([9, 10, 12, 13, 32, 59] : List UInt8).contains s[p] = false := sem_hi h2
    rw [show p + (w + 1) = p + 1 + w by omega, drop_step h1, Lib.indexAny, hc, ih]
    have hge := Lib.indexAny_ge [9, 10, 12, 13, 32, 59] (s.drop (p + 1 + w))
    by_cases hm : Lib.indexAny (s.drop (p + 1 + w)) [9, 10, 12, 13, 32, 59] = -1
    · simp [hm]
    · rw [if_neg hm, if_neg hm, if_neg (by simp), if_neg (by simp; omega)]; omega
theorem irune_lo6 (c : UInt8) (h : c.toNat < 128) : ∃ v, iruneX [9, 10, 12, 13, 32, 59] ((c.toNat : Nat) : Int) = some v ∧ decide (0 ≤ v) = semB c := by
  unfold iruneX
  rw [if_neg (by omega), irune h]
  have e : ∀ c : UInt8, decide (0 ≤ Lib.indexByte [9, 10, 12, 13, 32, 59] c) = semB c := fun c => of_decide_eq_true (all256 (p := fun c => decide (decide (0 ≤ Lib.indexByte [9, 10, 12, 13, 32, 59] c) = semB c)) (by kernel_rfl) c)
  exact ⟨_, rfl, e c⟩
theorem irune_hi6' {r : Nat} (h : 128 ≤ r) : iruneX [9, 10, 12, 13, 32, 59] (r : Int) = some (-1) := by
  unfold iruneX
  by_cases h2 : (r : Int) = 65533
  · rw [if_neg (by omega), h2]; kernel_rfl
  · rw [if_pos ⟨rfl, by omega, h2⟩]
theorem any6_loop (s : List UInt8) (hl : s.length ≤ 16777216) : ∀ (k p : Nat), s.length - p < k → strings_IndexAny_L16 s [9, 10, 12, 13, 32, 59] k p = some (if 0 ≤ Lib.indexAny (s.drop p) [9, 10, 12, 13, 32, 59] then Sum.inl ((p : Int) + Lib.indexAny (s.drop p) [9, 10, 12, 13, 32, 59]) else Sum.inr ())
  | 0, p, hk => by omega
  | k + 1, p, hk => by
    simp only [strings_IndexAny_L16]
    by_cases hlt : p < s.length
    · rw [if_pos (by simpa using hlt)]
      by_cases h : s[p].toNat < 128
      · have d := decR_lo hlt h
        rw [d]
        dsimp only
        obtain ⟨v, hv, hv2⟩ := irune_lo6 _ h
        rw [hv, drop_step hlt, any6_cons]
        simp only [Option.bind_some]
        rw [hv2]
        have ih := any6_loop s hl k (p + 1) (by omega)
        have hge := Lib.indexAny_ge [9, 10, 12, 13, 32, 59] (s.drop (p + 1))
        generalize Lib.indexAny (s.drop (p + 1)) [9, 10, 12, 13, 32, 59] = m at ih hge ⊢
        cases semB s[p] with
        | true => simp
        | false =>
          simp only [Bool.false_eq_true, if_false]
          rw [ih]
          by_cases hm : m = -1
          · subst hm; simp
          · simp only [hm, if_false]
            rw [if_pos (by omega), if_pos (by omega)]
            congr 2
            omega
      · obtain ⟨d1, d2, d3⟩ := decR_hi hlt (by omega)
        rw [irune_hi6' d1]
        simp only [Option.bind_some]
        rw [if_neg (by simp)]
        have ih := any6_loop s hl k (p + (decR s p).2) (by omega)
        have hs := any_skip6 (s := s) (decR s p).2 p (fun j j1 j2 => by
          by_cases hj : j = p
          · subst hj; exact ⟨hlt, by omega⟩
          · exact d3 j (by omega) j2)
        have hge := Lib.indexAny_ge [9, 10, 12, 13, 32, 59] (s.drop (p + (decR s p).2))
        rw [ih, hs]
        by_cases hm : Lib.indexAny (s.drop (p + (decR s p).2)) [9, 10, 12, 13, 32, 59] = -1
        · simp [hm]
        · rw [if_neg hm, if_pos (by omega), if_pos (by omega)]
          congr 2
          omega
    · rw [if_neg (by simpa using hlt), List.drop_eq_nil_of_le (by omega)]
      rfl
theorem any6_eq {s : List UInt8} (hl : s.length ≤ 16777216) : indexAnyY s [9, 10, 12, 13, 32, 59] = some (Lib.indexAny s [9, 10, 12, 13, 32, 59]) := by
  unfold indexAnyY
  rcases h : indexAnyX s [9, 10, 12, 13, 32, 59] with _ | q
  · dsimp only
    unfold indexAnyX at h
    split at h
    · cases h
    · rename_i hc
      have hs : ¬ 8 < s.length := fun h8 => hc ⟨rfl, by decide, by decide, by omega, .inl h8⟩
      unfold strings_IndexAny strings_shouldUseASCIISet
      rw [if_neg (by simp), if_neg (by simp)]
      simp only [Option.bind_some]
      rw [if_neg (by simp; omega)]
      simp only [Option.bind_some]
      rw [any6_loop s hl 140737488355328 0 (by omega)]
      have hge := Lib.indexAny_ge [9, 10, 12, 13, 32, 59] s
      rw [List.drop_zero]
      by_cases hm : 0 ≤ Lib.indexAny s [9, 10, 12, 13, 32, 59]
      · rw [if_pos hm]; simp
      · rw [if_neg hm]
        simp only [Option.bind_some]
        congr 1
        omega
  · dsimp only
    unfold indexAnyX at h
    split at h
    · exact h.symm
    · cases h
/-- what is ahead of the first byte of W -/
theorem any6_take : ∀ s : List UInt8, (if 0 ≤ Lib.indexAny s [9, 10, 12, 13, 32, 59] then s.take (Lib.indexAny s [9, 10, 12, 13, 32, 59]).toNat else s) = s.takeWhile fun c => !semB c
  | [] => rfl
  | c :: r => by
    have ih := any6_take r
    have hge := Lib.indexAny_ge [9, 10, 12, 13, 32, 59] r
    rw [any6_cons, List.takeWhile_cons]
    generalize Lib.indexAny r [9, 10, 12, 13, 32, 59] = m at ih hge ⊢
    cases semB c with
    | true => simp
    | false =>
      simp only [Bool.false_eq_true, if_false, Bool.not_false, if_true]
      by_cases hm : m = -1
      · subst hm
        rw [if_neg (by decide)] at ih
        simp only [if_true]
        rw [if_neg (by decide), ← ih]
      · rw [if_pos (by omega)] at ih
        rw [← ih]
        simp only [hm, if_false]
        rw [if_pos (by omega), show (m + 1).toNat = m.toNat + 1 by omega, List.take_succ_cons]
theorem any6_le : ∀ s : List UInt8, Lib.indexAny s [9, 10, 12, 13, 32, 59] ≤ ((s.length : Nat) : Int)
  | [] => by simp [Lib.indexAny]
  | c :: r => by
    have ih := any6_le r
    rw [any6_cons, List.length_cons]
    repeat' split
    all_goals omega
/-! small letters -/
theorem ssmall_loop (s : List UInt8) (hl : s.length ≤ 4194304) : ∀ (k i : Nat) (l : List UInt8), i ≤ s.length → s.length - i < k → l = (s.take i).map smT ++ s.drop i → sniff_small_L20 s k (i : Int) l = some (s.map smT)
  | 0, i, l, _, hk, _ => by omega
  | k + 1, i, l, hi, hk, ht => by
    simp only [sniff_small_L20, decide_eq_true_eq]
    have hlen : ((s.take i).map smT).length = i := by simp; omega
    by_cases hlt : i < s.length
    · have hx : l[i]? = some s[i] := by
        rw [ht, List.getElem?_append_right (by omega), hlen, Nat.sub_self, drop_step hlt]; rfl
      have hnx : (s.take (i + 1)).map smT ++ s.drop (i + 1) = l.set i (smT s[i]) := by
        rw [ht, List.set_append_right _ _ (by omega), hlen, Nat.sub_self, drop_step hlt, List.set_cons_zero, List.take_add_one, List.getElem?_eq_getElem hlt, List.map_append]
        simp
      have hsame : smT s[i] = s[i] → l.set i (smT s[i]) = l := fun e => by
        rw [e]; exact (List.getElem?_eq_some_iff.1 hx).2 ▸ List.set_getElem_self _
      have ih := fun (l' : List UInt8) (e : l' = l.set i (smT s[i])) => ssmall_loop s hl k (i + 1) l' (by omega) (by omega) (by rw [e, hnx])
      rw [if_pos (by omega), ixL_nat, hx]
      simp only [Option.bind_some, Int.toNat_natCast]
      have e1 : b2i (bC 65) = 65 := rfl
      have e2 : b2i (bC 90) = 90 := rfl
      rw [e1, e2, iadd64 (by omega) (by omega), ← Int.natCast_add_one]
      by_cases h : 65 ≤ b2i s[i] ∧ b2i s[i] ≤ 90
      · have hs : smT s[i] = s[i] + bC 32 := by unfold smT; rw [if_pos h]
        rw [if_pos h.1, decide_eq_true h.2]
        simp only [Option.bind_some, if_true]
        exact ih _ (by rw [hs])
      · have hs : smT s[i] = s[i] := by unfold smT; rw [if_neg h]
        by_cases h1 : 65 ≤ b2i s[i]
        · rw [if_pos h1, decide_eq_false (fun h2 => h ⟨h1, h2⟩)]
          simp only [Option.bind_some, Bool.false_eq_true, if_false]
          exact ih _ (hsame hs).symm
        · rw [if_neg h1]
          simp only [Option.bind_some, Bool.false_eq_true, if_false]
          exact ih _ (hsame hs).symm
    · rw [if_neg (by omega)]
      rw [ht, List.take_of_length_le (by omega), List.drop_eq_nil_of_le (by omega), List.append_nil]
theorem ssmall_eq {s : List UInt8} (hl : s.length ≤ 4194304) : sniff_small s = some (s.map smT) := by
  unfold sniff_small
  rw [szC_ok (by omega)]
  have := ssmall_loop s hl 140737488355328 0 s (by omega) (by omega) (by simp)
  simp only [Int.natCast_zero] at this
  simp only [Option.bind_some, this]
/-- what stands behind the first 'charset' -/
def csT : List UInt8 → Option (List UInt8)
  | [] => none
  | c :: r => if ([99, 104, 97, 114, 115, 101, 116] : List UInt8).isPrefixOf ((c :: r).map smT) = true then some ((c :: r).drop 7) else csT r
theorem cs_spec : ∀ t : List UInt8, match csT t with
    | none => Lib.index (t.map smT) [99, 104, 97, 114, 115, 101, 116] = -1
    | some u => u <:+ t ∧ u.length + 7 ≤ t.length ∧ Lib.index (t.map smT) [99, 104, 97, 114, 115, 101, 116] = ((t.length - u.length - 7 : Nat) : Int)
  | [] => rfl
  | c :: r => by
    unfold csT
    rw [List.map_cons, Lib.index]
    by_cases hp : ([99, 104, 97, 114, 115, 101, 116] : List UInt8).isPrefixOf (smT c :: r.map smT) = true
    · rw [if_pos hp, if_pos hp]
      have hl := (List.isPrefixOf_iff_prefix.1 hp).length_le
      simp only [List.length_cons, List.length_map, List.length_nil] at hl
      refine ⟨List.drop_suffix _ _, by rw [List.length_drop]; simp only [List.length_cons]; omega, ?_⟩
      rw [List.length_drop]
      simp only [List.length_cons]
      omega
    · rw [if_neg hp, if_neg hp]
      have ih := cs_spec r
      rcases hc : csT r with _ | u
      · rw [hc] at ih; dsimp only at ih ⊢; rw [ih]; rfl
      · rw [hc] at ih
        dsimp only at ih ⊢
        obtain ⟨h1, h2, h3⟩ := ih
        refine ⟨h1.trans (List.suffix_cons c r), by simp only [List.length_cons]; omega, ?_⟩
        rw [h3, if_neg (by simp), List.length_cons]
        omega
/-- from the first = behind a 'charset' on -/
def eqT : Nat → List UInt8 → Option (List UInt8)
  | 0, _ => none
  | f + 1, t => match csT t with
    | none => none
    | some u => match u.dropWhile spT with
      | [] => none
      | c :: r => if c = 61 then some (c :: r) else eqT f (c :: r)
def valC : List UInt8 → Int
  | [] => lblT []
  | q :: r => if q = 34 ∨ q = 39 then (if q ∈ r then lblT (r.takeWhile fun c => !decide (c = q)) else 0) else lblT ((q :: r).takeWhile fun c => !semB c)
def cntT (s : List UInt8) : Int := match eqT (s.length + 1) s with
  | none => 0
  | some t => valC ((t.drop 1).dropWhile spT)
theorem sp_loop {L : List UInt8} (hL : L.length ≤ 4194304) : ∀ (k : Nat) (t : List UInt8), t <:+ L → t.length < k → sniff_Content_L42 L k (pos L t) = some (pos L (t.dropWhile spT))
  | 0, t, _, hk => by omega
  | k + 1, [], h, hk => by simp only [sniff_Content_L42, pos_nil]; simp [pos_nil]
  | k + 1, c :: r, h, hk => by
    simp only [List.length_cons] at hk
    simp only [sniff_Content_L42, decide_eq_true (pos_lt h), if_true, pos_ix h, Option.bind_some, space_eq]
    cases hs : spT c with
    | true => rw [if_pos rfl, pos_tl h hL, sp_loop hL k r (suf_tl h) (by omega), List.dropWhile_cons_of_pos hs]
    | false => rw [if_neg (by simp), List.dropWhile_cons_of_neg (by simp [hs])]
theorem eq_suf : ∀ (f : Nat) (t : List UInt8) {e : List UInt8}, eqT f t = some e → e <:+ t ∧ ∃ r, e = 61 :: r
  | 0, t, e, h => by cases h
  | f + 1, t, e, h => by
    simp only [eqT] at h
    have o := cs_spec t
    rcases hc : csT t with _ | u
    · rw [hc] at h; cases h
    rw [hc] at h o
    dsimp only at h o
    have hd := (List.dropWhile_suffix spT (l := u)).trans o.1
    generalize u.dropWhile spT = d at h hd
    rcases d with _ | ⟨c, r⟩
    · cases h
    dsimp only at h
    by_cases c61 : c = 61
    · rw [if_pos c61] at h
      simp only [Option.some.injEq] at h
      subst h c61
      exact ⟨hd, r, rfl⟩
    · rw [if_neg c61] at h
      obtain ⟨a, b⟩ := eq_suf f _ h
      exact ⟨a.trans hd, b⟩
theorem slL_smT {s r : List UInt8} {a b : Int} (h : slL s a b = some r) : slL (s.map smT) a b = some (r.map smT) := by
  unfold slL at h ⊢
  rw [List.length_map]
  split at h
  · rename_i hh
    rw [if_pos hh]
    simp only [Option.some.injEq] at h
    subst h
    simp [List.map_take, List.map_drop]
  · cases h
theorem cont_loop {s : List UInt8} (hL : s.length ≤ 4194304) : ∀ (k f : Nat) (t : List UInt8), t <:+ s → t.length < k → t.length < f →
    sniff_Content_L33 (s.map smT) s k (pos s t) = some (match eqT f t with | none => Sum.inl 0 | some e => Sum.inr (pos s e))
  | 0, _, t, _, hk, _ => by omega
  | k + 1, 0, t, _, _, hf => by omega
  | k + 1, f + 1, t, h, hk, hf => by
    have hl := suf_len h
    have e1 : slL (s.map smT) (pos s t) ((List.length (s.map smT) : Nat) : Int) = some (t.map smT) := by
      have h2 := pos_rest h
      have := slL_smT h2
      rw [List.length_map]
      exact this
    have o := cs_spec t
    have hi : indexX (t.map smT) [99, 104, 97, 114, 115, 101, 116] = some (Lib.index (t.map smT) [99, 104, 97, 114, 115, 101, 116]) := by
      unfold indexX; rw [if_pos (by rw [List.length_map]; omega)]
    simp only [sniff_Content_L33, e1, Option.bind_some, hi, eqT]
    rcases hc : csT t with _ | u
    · rw [hc] at o; dsimp only at o; rw [o]; rfl
    rw [hc] at o
    dsimp only at o ⊢
    obtain ⟨o1, o2, o3⟩ := o
    have hu := o1.trans h
    have e7 : iadd .i64 (pos s t) (iadd .i64 (((t.length - u.length - 7 : Nat) : Int)) 7) = pos s u := by
      rw [iadd64 (a := ((t.length - u.length - 7 : Nat) : Int)) (by omega) (by omega)]
      unfold pos
      rw [iadd64 (by omega) (by omega)]
      omega
    rw [o3, if_neg (by simp), e7, sp_loop hL 140737488355328 u hu (by have := suf_len hu; omega)]
    have hd := suf_dw (p := spT) hu
    have hdl := suf_len (List.dropWhile_suffix spT (l := u))
    simp only [Option.bind_some]
    generalize u.dropWhile spT = d at hd hdl ⊢
    rcases d with _ | ⟨c, r⟩
    · rw [if_neg (by rw [pos_nil]; simp)]
      obtain ⟨k', rfl⟩ : ∃ k', k = k' + 1 := ⟨k - 1, by omega⟩
      have e0 : slL (s.map smT) (pos s []) ((List.length (s.map smT) : Nat) : Int) = some [] := by
        have := slL_smT (pos_rest (L := s) (List.nil_suffix))
        rw [List.length_map]
        exact this
      simp only [sniff_Content_L33, e0, Option.bind_some]
      rfl
    · simp only [decide_eq_true (pos_lt hd), if_true, pos_ix hd, Option.bind_some, eqB c 61 61 rfl]
      simp only [decide_eq_true_eq]
      by_cases c61 : c = 61
      · rw [if_pos c61, if_pos c61]
      · rw [if_neg c61, if_neg c61]
        simp only [List.length_cons] at hdl
        exact cont_loop hL k f (c :: r) hd (by simp only [List.length_cons]; omega) (by simp only [List.length_cons]; omega)
theorem cut1 (q : UInt8) : ∀ r : List UInt8, Lib.index r [q] = if q ∈ r then (((r.takeWhile fun c => !decide (c = q)).length : Nat) : Int) else -1
  | [] => rfl
  | c :: r => by
    have ih := cut1 q r
    rw [Lib.index, List.takeWhile_cons]
    by_cases h : c = q
    · subst h; simp [List.isPrefixOf]
    · have hq : ¬ q = c := fun e => h e.symm
      have : ([q] : List UInt8).isPrefixOf (c :: r) = false := by simp [List.isPrefixOf, hq]
      rw [this, ih]
      by_cases hm : q ∈ r
      · simp only [hm, if_true, Bool.false_eq_true, if_false, List.mem_cons, hq, false_or, h, decide_false, Bool.not_false, List.length_cons]
        rw [if_neg (by simp)]
        omega
      · simp [hm, hq]
theorem takeWhile_pre (p : UInt8 → Bool) (r : List UInt8) : r.take (r.takeWhile p).length = r.takeWhile p := by
  have := (List.takeWhile_prefix p (l := r))
  exact (List.prefix_iff_eq_take.1 this).symm
theorem Content_eq {s : List UInt8} (hl : s.length ≤ 4194304) : sniff_Content s = some (cntT s) := by
  unfold sniff_Content cntT
  have h0 := cont_loop hl 140737488355328 (s.length + 1) s (List.suffix_refl _) (by omega) (by omega)
  rw [pos_all] at h0
  rw [ssmall_eq hl]
  simp only [Option.bind_some, h0]
  rcases he : eqT (s.length + 1) s with _ | e
  · rfl
  obtain ⟨s1, r0, rfl⟩ := eq_suf _ _ he
  have hr := suf_tl s1
  have hrl := suf_len hr
  simp only [pos_tl s1 hl, pos_rest hr, Option.bind_some, List.drop_succ_cons, List.drop_zero]
  have ht : trimLeftX r0 [9, 10, 12, 13, 32] = some (r0.dropWhile spT) := by
    unfold trimLeftX; rw [if_pos ⟨rfl, by decide⟩]; rfl
  rw [ht]
  have hdl := suf_len (List.dropWhile_suffix spT (l := r0))
  simp only [Option.bind_some]
  generalize r0.dropWhile spT = d at hdl ⊢
  rcases d with _ | ⟨q, r⟩
  · simp only [decide_true, Bool.not_true, Bool.false_eq_true, if_false, Option.bind_some]
    rw [any6_eq (s := []) (by simp)]
    simp only [Option.bind_some, Lib.indexAny]
    rw [if_neg (by decide)]
    simp only [Option.bind_some]
    rw [LabelT_eq (by simp)]
    rfl
  simp only [List.length_cons] at hdl
  have e0 : ixL (q :: r) 0 = some q := by have := ixL_nat (q :: r) 0; simpa using this
  simp only [reduceCtorEq, decide_false, Bool.not_false, if_true, e0, Option.bind_some, eqB q 34 34 rfl, eqB q 39 39 rfl, valC]
  simp only [decide_eq_true_eq]
  have eq1 : (if q = 34 then some true else some (decide (q = 39))) = some (decide (q = 34 ∨ q = 39)) := by
    by_cases a : q = 34 <;> simp [a]
  rw [eq1]
  simp only [Option.bind_some, decide_eq_true_eq]
  by_cases hq : q = 34 ∨ q = 39
  · rw [if_pos hq, if_pos hq]
    have e1 : slL (q :: r) 1 ((List.length (q :: r) : Nat) : Int) = some r := slL_from (xs := q :: r) (a := 1) (by simp)
    have e2 : slL (q :: r) 0 1 = some [q] := slL_to (xs := q :: r) (b := 1) (by simp)
    have e3 : cutX r [q] = some (Lib.cut r [q]) := by unfold cutX; rw [if_pos (by omega)]
    rw [e1, e2]
    simp only [Option.bind_some, e3]
    unfold Lib.cut
    rw [cut1]
    by_cases hm : q ∈ r
    · have hnn := Int.natCast_nonneg (r.takeWhile fun c => !decide (c = q)).length
      rw [if_pos hm, if_pos hm, if_pos hnn]
      simp only [Bool.not_true, Bool.false_eq_true, if_false, Int.toNat_natCast, takeWhile_pre]
      rw [LabelT_eq (by have := (List.takeWhile_prefix (fun c => !decide (c = q)) (l := r)).length_le; omega)]
      rfl
    · rw [if_neg hm, if_neg hm, if_neg (show ¬ (0 : Int) ≤ -1 by decide)]
      rfl
  · rw [if_neg hq, if_neg hq, any6_eq (by simp only [List.length_cons]; omega)]
    simp only [Option.bind_some]
    have hge := Lib.indexAny_ge [9, 10, 12, 13, 32, 59] (q :: r)
    have hv := any6_take (q :: r)
    have hpre := (List.takeWhile_prefix (fun c => !semB c) (l := q :: r)).length_le
    simp only [List.length_cons] at hpre
    by_cases hi : 0 ≤ Lib.indexAny (q :: r) [9, 10, 12, 13, 32, 59]
    · rw [if_pos hi] at hv ⊢
      obtain ⟨n, hn⟩ := Int.eq_ofNat_of_zero_le hi
      rw [hn] at hv ⊢
      rw [Int.toNat_natCast] at hv
      have hnl : n ≤ (q :: r).length := by have := any6_le (q :: r); rw [hn] at this; omega
      rw [slL_to hnl, hv]
      simp only [Option.bind_some]
      rw [LabelT_eq (by omega)]
      rfl
    · rw [if_neg hi] at hv ⊢
      simp only [Option.bind_some]
      rw [LabelT_eq (by simp only [List.length_cons]; omega), ← hv]
      rfl
end Go.Proofs.YtecpgelhhbbjmaaDoor
