/- sniff, plain: the reader of tags, told of what is left of a page. -/
import Derived.Test.YtecpgelhhbbjmaaDoorU9C
import Derived.Test.YtecpgelhhbbjmaaDoorGF
namespace Go.Proofs.YtecpgelhhbbjmaaDoor
open Go.Av
set_option linter.unusedVariables false
set_option linter.unusedSimpArgs false
set_option maxRecDepth 100000
/-- where t begins, if L ends with it -/
def pos (L t : List UInt8) : Int := ((L.length - t.length : Nat) : Int)
theorem pos_all (L : List UInt8) : pos L L = 0 := by unfold pos; simp
theorem suf_drop {t L : List UInt8} (h : t <:+ L) : L.drop (L.length - t.length) = t := (List.suffix_iff_eq_drop.1 h).symm
theorem suf_tl {c : UInt8} {r L : List UInt8} (h : (c :: r) <:+ L) : r <:+ L := (List.suffix_cons c r).trans h
theorem suf_dw {p : UInt8 → Bool} {t L : List UInt8} (h : t <:+ L) : t.dropWhile p <:+ L := (List.dropWhile_suffix p).trans h
theorem suf_len {t L : List UInt8} (h : t <:+ L) : t.length ≤ L.length := h.length_le
theorem pos_ix {c : UInt8} {r L : List UInt8} (h : (c :: r) <:+ L) : ixL L (pos L (c :: r)) = some c := by
  have h1 := suf_drop h
  have h2 := suf_len h
  simp only [List.length_cons] at h2
  unfold pos
  rw [ixL_nat]
  have : (L.drop (L.length - (c :: r).length))[0]? = some c := by rw [h1]; rfl
  rw [List.getElem?_drop] at this
  simpa using this
theorem pos_tl {c : UInt8} {r L : List UInt8} (h : (c :: r) <:+ L) (hL : L.length ≤ 4194304) : iadd .i64 (pos L (c :: r)) 1 = pos L r := by
  have h2 := suf_len h
  simp only [List.length_cons] at h2
  unfold pos
  rw [iadd64 (by omega) (by omega)]
  simp only [List.length_cons]
  omega
theorem pos_lt {c : UInt8} {r L : List UInt8} (h : (c :: r) <:+ L) : pos L (c :: r) < ((L.length : Nat) : Int) := by
  have h2 := suf_len h
  simp only [List.length_cons] at h2
  unfold pos
  simp only [List.length_cons]
  omega
theorem pos_nil (L : List UInt8) : pos L [] = ((L.length : Nat) : Int) := by unfold pos; simp
theorem pos_rest {t L : List UInt8} (h : t <:+ L) : slL L (pos L t) ((L.length : Nat) : Int) = some t := by
  unfold pos
  rw [slL_from (by omega), suf_drop h]
theorem pos_cut {a t t' L : List UInt8} (h : t <:+ L) (e : t = a ++ t') : slL L (pos L t) (pos L t') = some a := by
  subst e
  have h1 := suf_drop h
  have h2 := suf_len h
  simp only [List.length_append] at h1 h2
  unfold pos
  simp only [List.length_append]
  rw [slL_nat (by omega) (by omega), List.drop_take, h1, show L.length - t'.length - (L.length - (a.length + t'.length)) = a.length by omega, List.take_left]
theorem now_eq {L : List UInt8} : ∀ {t : List UInt8}, t <:+ L → sniff_reader_now (pos L t) L = some (match t with | [] => Sum.inl () | c :: _ => Sum.inr c)
  | [], h => by unfold sniff_reader_now; rw [pos_nil]; simp
  | c :: r, h => by
    unfold sniff_reader_now
    have := pos_lt h
    rw [if_neg (by simp; omega), pos_ix h]
    rfl
theorem space_eq (c : UInt8) : sniff_space c = some (spT c) := of_decide_eq_true (all256 (p := fun c => decide (sniff_space c = some (spT c))) (by kernel_rfl) c)
def endP {α : Type} (L : List UInt8) (e : α) : List UInt8 → Sum α Int
  | [] => .inl e
  | c :: r => .inr (pos L (c :: r))
theorem loop_drop {α : Type} {L : List UInt8} {p : UInt8 → Bool} {e : α} {F : Nat → Int → Option (Sum α Int)} {n : Nat}
    (hF : ∀ k t, t <:+ L → t.length ≤ n → F (k + 1) (pos L t) = match t with | [] => some (.inl e) | c :: r => if p c = true then F k (pos L r) else some (.inr (pos L (c :: r)))) :
    ∀ (k : Nat) (t : List UInt8), t <:+ L → t.length ≤ n → t.length < k → F k (pos L t) = some (endP L e (t.dropWhile p))
  | 0, t, _, _, hk => by omega
  | k + 1, [], h, hn, hk => by rw [hF k [] h hn]; rfl
  | k + 1, c :: r, h, hn, hk => by
    simp only [List.length_cons] at hn hk
    rw [hF k (c :: r) h (by simpa using hn)]
    dsimp only
    by_cases hp : p c = true
    · rw [if_pos hp, loop_drop hF k r (suf_tl h) (by omega) (by omega), List.dropWhile_cons_of_pos hp]
    · rw [if_neg hp, List.dropWhile_cons_of_neg hp]; rfl
theorem eqB (c d : UInt8) (n : Nat) (h : bC n = d) : decide (b2i c = b2i (bC n)) = decide (c = d) := by
  subst h
  exact decide_eq_decide.2 b2i_inj
theorem spaces_eq {L t : List UInt8} (hL : L.length ≤ 4194304) (h : t <:+ L) : sniff_reader_spaces (pos L t) L = some (endP L () (t.dropWhile spT)) := by
  have hl := suf_len h
  unfold sniff_reader_spaces
  rw [loop_drop (F := sniff_reader_spaces_L38 L) (L := L) (p := spT) (e := Sum.inl ()) (n := t.length) (fun k s hs _ => by
    simp only [sniff_reader_spaces_L38, now_eq hs]
    cases s with
    | nil => rfl
    | cons c r => simp only [Option.bind_some, space_eq, pos_tl hs hL]) 140737488355328 t h (Nat.le_refl _) (by omega)]
  rcases t.dropWhile spT with _ | ⟨c, r⟩ <;> rfl
/-- how a search ends: at the page's end, or with what was passed, and the place -/
def fndT (L : List UInt8) (p : UInt8 → Bool) (t : List UInt8) : Sum Unit (List UInt8 × Int) := match t.dropWhile p with
  | [] => .inl ()
  | c :: r => .inr (t.takeWhile p, pos L (c :: r))
theorem fnd_end {L t : List UInt8} {p : UInt8 → Bool} (h : t <:+ L) :
    ((some (endP L (Sum.inl ()) (t.dropWhile p))).bind fun (o : Sum (Sum Unit (List UInt8 × Int)) Int) => match o with | Sum.inl r => some r | Sum.inr j => (slL L (pos L t) j).bind fun s => some (Sum.inr (s, j))) = some (fndT L p t) := by
  unfold fndT
  rcases hd : t.dropWhile p with _ | ⟨c, r⟩
  · rfl
  · simp only [endP, Option.bind_some]
    rw [pos_cut h (a := t.takeWhile p) (by rw [← hd]; exact (List.takeWhile_append_dropWhile).symm)]
    rfl
/-- what ends a tag's name, or a value that is not quoted -/
def gtT (c : UInt8) : Bool := !(spT c || decide (c = 62))
theorem gt_eq (c : UInt8) : ((sniff_space c).bind fun r112 => if r112 = true then some true else some (decide (b2i c = b2i (bC 62)))) = some (!gtT c) := by
  rw [space_eq, eqB c 62 62 rfl]
  unfold gtT
  cases spT c <;> simp
theorem find3_eq {L t : List UInt8} (hL : L.length ≤ 4194304) (h : t <:+ L) : sniff_reader_find_w3 (pos L t) L = some (fndT L gtT t) := by
  have hl := suf_len h
  unfold sniff_reader_find_w3
  rw [loop_drop (F := (sniff_reader_find_w3_L102 L)) (L := L) (p := gtT) (e := Sum.inl ()) (n := t.length) (fun k s hs _ => by
    simp only [sniff_reader_find_w3_L102, now_eq hs]
    cases s with
    | nil => rfl
    | cons c r => simp only [Option.bind_some]; rw [gt_eq]; simp only [Option.bind_some, Bool.not_not, pos_tl hs hL]) 140737488355328 t h (Nat.le_refl _) (by omega)]
  exact fnd_end h
theorem find4_eq {L t : List UInt8} (hL : L.length ≤ 4194304) (h : t <:+ L) : sniff_reader_find_w4 (pos L t) L = some (fndT L gtT t) := by
  have hl := suf_len h
  unfold sniff_reader_find_w4
  rw [loop_drop (F := (sniff_reader_find_w4_L102 L)) (L := L) (p := gtT) (e := Sum.inl ()) (n := t.length) (fun k s hs _ => by
    simp only [sniff_reader_find_w4_L102, now_eq hs]
    cases s with
    | nil => rfl
    | cons c r => simp only [Option.bind_some]; rw [gt_eq]; simp only [Option.bind_some, Bool.not_not, pos_tl hs hL]) 140737488355328 t h (Nat.le_refl _) (by omega)]
  exact fnd_end h
theorem find2_eq {L t : List UInt8} (q : UInt8) (hL : L.length ≤ 4194304) (h : t <:+ L) : sniff_reader_find_w2 (pos L t) L q = some (fndT L (fun c => !decide (c = q)) t) := by
  have hl := suf_len h
  unfold sniff_reader_find_w2
  rw [loop_drop (F := (sniff_reader_find_w2_L47 L q)) (L := L) (p := fun c => !decide (c = q)) (e := Sum.inl ()) (n := t.length) (fun k s hs _ => by
    simp only [sniff_reader_find_w2_L47, now_eq hs]
    cases s with
    | nil => rfl
    | cons c r => simp only [Option.bind_some, b2i_inj, pos_tl hs hL]) 140737488355328 t h (Nat.le_refl _) (by omega)]
  exact fnd_end h
theorem find5_eq {L t : List UInt8} (hL : L.length ≤ 4194304) (h : t <:+ L) : sniff_reader_find_w5 (pos L t) L = some (fndT L (fun c => !decide (c = 62)) t) := by
  have hl := suf_len h
  unfold sniff_reader_find_w5
  rw [loop_drop (F := (sniff_reader_find_w5_L46 L)) (L := L) (p := fun c => !decide (c = 62)) (e := Sum.inl ()) (n := t.length) (fun k s hs _ => by
    simp only [sniff_reader_find_w5_L46, now_eq hs]
    cases s with
    | nil => rfl
    | cons c r => simp only [Option.bind_some, eqB c 62 62 rfl, pos_tl hs hL]) 140737488355328 t h (Nat.le_refl _) (by omega)]
  exact fnd_end h
/-- what an attribute's name is made of, behind its first byte -/
def nmT (c : UInt8) : Bool := !(spT c || decide (c = 47) || decide (c = 62) || decide (c = 61))
theorem nm_eq (c : UInt8) (b : Bool) : ((sniff_space c).bind fun r113 => if r113 = true then some true else if decide (b2i c = b2i (bC 47)) = true then some true else if decide (b2i c = b2i (bC 62)) = true then some true
      else if decide (b2i c = b2i (bC 61)) = true then some b else some false) = some (spT c || decide (c = 47) || decide (c = 62) || (decide (c = 61) && b)) := by
  rw [space_eq, eqB c 47 47 rfl, eqB c 62 62 rfl, eqB c 61 61 rfl]
  cases spT c with
  | true => rfl
  | false =>
    by_cases a : c = 47
    · subst a; rfl
    by_cases a2 : c = 62
    · subst a2; rfl
    by_cases a3 : c = 61
    · subst a3; cases b <;> rfl
    · simp [a, a2, a3]
theorem find1_eq {L : List UInt8} {c : UInt8} {r : List UInt8} (hL : L.length ≤ 4194304) (h : (c :: r) <:+ L) (h1 : spT c = false) (h2 : c ≠ 47) (h3 : c ≠ 62) :
    sniff_reader_find (pos L (c :: r)) L (pos L (c :: r)) = some (match r.dropWhile nmT with | [] => Sum.inl () | d :: r2 => Sum.inr (c :: r.takeWhile nmT, pos L (d :: r2))) := by
  have hl := suf_len h
  simp only [List.length_cons] at hl
  unfold sniff_reader_find
  have e0 : ∀ k, sniff_reader_find_L103 L (pos L (c :: r)) (k + 1) (pos L (c :: r)) = sniff_reader_find_L103 L (pos L (c :: r)) k (pos L r) := fun k => by
    simp only [sniff_reader_find_L103, now_eq h, Option.bind_some]
    rw [nm_eq]
    simp only [Option.bind_some, h1, h2, h3, decide_false, Bool.false_or, Int.lt_irrefl, Bool.and_false, Bool.not_false, if_true, pos_tl h hL]
  rw [show sniff_reader_find_L103 L (pos L (c :: r)) 140737488355328 (pos L (c :: r)) = sniff_reader_find_L103 L (pos L (c :: r)) 140737488355327 (pos L r) from e0 140737488355327, loop_drop (F := sniff_reader_find_L103 L (pos L (c :: r))) (L := L) (p := nmT) (e := Sum.inl ()) (n := r.length) (fun k s hs hn => by
    simp only [sniff_reader_find_L103, now_eq hs]
    cases s with
    | nil => rfl
    | cons d s =>
      have hlt : pos L (c :: r) < pos L (d :: s) := by
        have h4 := suf_len hs
        simp only [List.length_cons] at hn h4
        unfold pos
        simp only [List.length_cons]
        omega
      simp only [Option.bind_some]
      rw [nm_eq]
      simp only [Option.bind_some, pos_tl hs hL, decide_eq_true hlt, Bool.and_true]
      rfl) 140737488355327 r (suf_tl h) (Nat.le_refl _) (by omega)]
  rcases hd : r.dropWhile nmT with _ | ⟨d, r2⟩
  · rfl
  · simp only [endP, Option.bind_some]
    rw [pos_cut h (a := c :: r.takeWhile nmT) (by rw [← hd, List.cons_append, List.takeWhile_append_dropWhile])]
    rfl
/-- an attribute; none: the page ends in it -/
def attrT (t : List UInt8) : Option (List UInt8 × List UInt8 × Bool × List UInt8) := match t.dropWhile (fun c => spT c || decide (c = 47)) with
  | [] => none
  | c :: r => if c = 62 then some ([], [], false, c :: r) else
    match (r.dropWhile nmT).dropWhile spT with
    | [] => none
    | d :: r2 => if d ≠ 61 then some (c :: r.takeWhile nmT, [], true, d :: r2) else
      match r2.dropWhile spT with
      | [] => none
      | q :: r3 => if q = 34 ∨ q = 39 then
          (match r3.dropWhile (fun c => !decide (c = q)) with
          | [] => none
          | _ :: r4 => some (c :: r.takeWhile nmT, r3.takeWhile (fun c => !decide (c = q)), true, r4))
        else if q = 62 then some (c :: r.takeWhile nmT, [], true, q :: r3)
        else match (q :: r3).dropWhile gtT with
          | [] => none
          | e :: r4 => some (c :: r.takeWhile nmT, (q :: r3).takeWhile gtT, true, e :: r4)
def attE (L : List UInt8) : Option (List UInt8 × List UInt8 × Bool × List UInt8) → Sum Unit (List UInt8 × List UInt8 × Bool × Int)
  | none => .inl ()
  | some (a, b, o, t) => .inr (a, b, o, pos L t)
theorem att_skip {L t : List UInt8} (hL : L.length ≤ 4194304) (h : t <:+ L) : sniff_reader_attribute_L148 L 140737488355328 (pos L t) = some (endP L (Sum.inl ()) (t.dropWhile (fun c => spT c || decide (c = 47)))) := by
  have hl := suf_len h
  exact loop_drop (F := sniff_reader_attribute_L148 L) (L := L) (p := fun c => spT c || decide (c = 47)) (e := Sum.inl ()) (n := t.length) (fun k s hs _ => by
    simp only [sniff_reader_attribute_L148, now_eq hs]
    cases s with
    | nil => rfl
    | cons c r =>
      simp only [Option.bind_some, space_eq, eqB c 47 47 rfl, pos_tl hs hL]
      cases spT c <;> simp) 140737488355328 t h (Nat.le_refl _) (by omega)
theorem attribute_eq {L t : List UInt8} (hL : L.length ≤ 4194304) (h : t <:+ L) : sniff_reader_attribute (pos L t) L = some (attE L (attrT t)) := by
  unfold sniff_reader_attribute attrT
  rw [att_skip hL h]
  have h0 := suf_dw (p := fun c => spT c || decide (c = 47)) h
  have hfst : ∀ c r, t.dropWhile (fun c => spT c || decide (c = 47)) = c :: r → spT c = false ∧ c ≠ 47 := fun c r e => by
    have := List.head?_dropWhile_not (fun c => spT c || decide (c = 47)) t
    rw [e] at this
    simpa using this
  generalize t.dropWhile (fun c => spT c || decide (c = 47)) = t1 at h0 hfst ⊢
  rcases t1 with _ | ⟨c, r⟩
  · rfl
  obtain ⟨f1, f2⟩ := hfst c r rfl
  simp only [endP, Option.bind_some, now_eq h0, eqB c 62 62 rfl]
  by_cases c62 : c = 62
  · rw [if_pos (decide_eq_true c62), if_pos c62]; rfl
  rw [if_neg (by simpa using c62), if_neg c62, find1_eq hL h0 f1 f2 c62]
  simp only [Option.bind_some]
  have h1 := suf_dw (p := nmT) (suf_tl h0)
  generalize r.takeWhile nmT = nm
  generalize r.dropWhile nmT = t0 at h1 ⊢
  rcases t0 with _ | ⟨d0, s0⟩
  · rfl
  dsimp only
  simp only [spaces_eq hL h1, Option.bind_some]
  have h2 := suf_dw (p := spT) h1
  generalize (d0 :: s0).dropWhile spT = t2 at h2 ⊢
  rcases t2 with _ | ⟨d, r2⟩
  · rfl
  simp only [endP, Option.bind_some, now_eq h2, eqB d 61 61 rfl]
  by_cases d61 : d = 61
  · rw [if_neg (by simp [d61]), if_neg (by simp [d61]), pos_tl h2 hL]
    simp only [spaces_eq hL (suf_tl h2), Option.bind_some]
    have h3 := suf_dw (p := spT) (suf_tl h2)
    generalize r2.dropWhile spT = t3 at h3 ⊢
    rcases t3 with _ | ⟨q, r3⟩
    · rfl
    simp only [endP, Option.bind_some, now_eq h3, eqB q 34 34 rfl, eqB q 39 39 rfl, eqB q 62 62 rfl, pos_tl h3 hL]
    have eq1 : (if decide (q = 34) = true then some (decide (q = 34)) else some (decide (q = 39))) = some (decide (q = 34 ∨ q = 39)) := by
      by_cases a : q = 34 <;> simp [a]
    rw [eq1]
    simp only [Option.bind_some]
    by_cases hq : q = 34 ∨ q = 39
    · rw [if_pos (decide_eq_true hq), if_pos hq]
      have h4 := suf_tl h3
      simp only [find2_eq q hL h4, Option.bind_some, fndT]
      have h5 := suf_dw (p := fun c => !decide (c = q)) h4
      generalize r3.dropWhile (fun c => !decide (c = q)) = t4 at h5 ⊢
      rcases t4 with _ | ⟨e, r4⟩
      · rfl
      · simp only [pos_tl h5 hL]; rfl
    · rw [if_neg (by simpa using hq), if_neg hq]
      by_cases q62 : q = 62
      · rw [if_pos (decide_eq_true q62), if_pos q62]; rfl
      · rw [if_neg (by simpa using q62), if_neg q62]
        simp only [find3_eq hL h3, Option.bind_some, fndT]
        rcases (q :: r3).dropWhile gtT with _ | ⟨e, r4⟩ <;> rfl
  · rw [if_pos (by simp [d61]), if_pos d61]; rfl
/-- it goes on, and stays within the page -/
theorem attr_suf {t : List UInt8} {a b : List UInt8} {o : Bool} {t' : List UInt8} (h : attrT t = some (a, b, o, t')) : t' <:+ t ∧ (o = true → t'.length < t.length) ∧ (o = false → ∃ r, t' = 62 :: r) := by
  unfold attrT at h
  have h0 : t.dropWhile (fun c => spT c || decide (c = 47)) <:+ t := List.dropWhile_suffix _
  generalize t.dropWhile (fun c => spT c || decide (c = 47)) = t1 at h0 h
  rcases t1 with _ | ⟨c, r⟩
  · cases h
  have l0 := suf_len h0
  simp only [List.length_cons] at l0
  by_cases c62 : c = 62
  · simp only [c62, if_true, Option.some.injEq, Prod.mk.injEq] at h
    obtain ⟨_, _, rfl, rfl⟩ := h
    subst c62
    exact ⟨h0, ⟨fun h => (by cases h), fun _ => ⟨r, rfl⟩⟩⟩
  simp only [c62, if_false] at h
  have hr : (r.dropWhile nmT).dropWhile spT <:+ r := suf_dw (List.dropWhile_suffix _)
  generalize r.takeWhile nmT = nm at h
  generalize (r.dropWhile nmT).dropWhile spT = t2 at hr h
  have key : ∀ (x a' b' : List UInt8), x <:+ r → some (a', b', true, x) = some (a, b, o, t') → t' <:+ t ∧ (o = true → t'.length < t.length) ∧ (o = false → ∃ r, t' = 62 :: r) := fun x a' b' hx e => by
    simp only [Option.some.injEq, Prod.mk.injEq] at e
    obtain ⟨_, _, rfl, rfl⟩ := e
    exact ⟨hx.trans (suf_tl h0), fun _ => by have := suf_len hx; omega, fun h => by cases h⟩
  rcases t2 with _ | ⟨d, r2⟩
  · cases h
  dsimp only at h
  by_cases d61 : d = 61
  · rw [if_neg (by simp [d61])] at h
    have h3 := suf_dw (p := spT) (suf_tl hr)
    generalize r2.dropWhile spT = t3 at h3 h
    rcases t3 with _ | ⟨q, r3⟩
    · cases h
    dsimp only at h
    by_cases hq : q = 34 ∨ q = 39
    · rw [if_pos hq] at h
      have h5 := suf_dw (p := fun c => !decide (c = q)) (suf_tl h3)
      generalize r3.takeWhile (fun c => !decide (c = q)) = v at h
      generalize r3.dropWhile (fun c => !decide (c = q)) = t4 at h5 h
      rcases t4 with _ | ⟨e, r4⟩
      · cases h
      · exact key _ _ _ (suf_tl h5) h
    · rw [if_neg hq] at h
      by_cases q62 : q = 62
      · rw [if_pos q62] at h; exact key _ _ _ h3 h
      · rw [if_neg q62] at h
        have h5 := suf_dw (p := gtT) h3
        generalize (q :: r3).takeWhile gtT = v at h
        generalize (q :: r3).dropWhile gtT = t4 at h5 h
        rcases t4 with _ | ⟨e, r4⟩
        · cases h
        · exact key _ _ _ h5 h
  · rw [if_pos d61] at h; exact key _ _ _ hr h
end Go.Proofs.YtecpgelhhbbjmaaDoor
