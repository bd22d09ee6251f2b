/- sniff, plain: the document's answer: attributes. -/
import Derived.Test.YtecpgelhhbbjmaaDoorU11F
namespace Go.Proofs.YtecpgelhhbbjmaaDoor
open Go.Av
set_option linter.unusedVariables false
set_option linter.unusedSimpArgs false
set_option maxRecDepth 100000
theorem sm_sp (c : UInt8) : spT (smT c) = spT c := of_decide_eq_true (all256 (p := fun c => decide (spT (smT c) = spT c)) (by kernel_rfl) c)
theorem sm_id (d : UInt8) (hm : d ∈ ([34, 39, 45, 47, 60, 61, 62, 33, 63] : List UInt8)) (c : UInt8) : decide (smT c = d) = decide (c = d) := by
  have h : ∀ c : UInt8, (([34, 39, 45, 47, 60, 61, 62, 33, 63] : List UInt8).all fun d => decide (decide (smT c = d) = decide (c = d))) = true := fun c => all256 (p := fun c => ([34, 39, 45, 47, 60, 61, 62, 33, 63] : List UInt8).all fun d => decide (decide (smT c = d) = decide (c = d))) (by kernel_rfl) c
  exact of_decide_eq_true (List.all_eq_true.1 (h c) d hm)
theorem sm_eq {d : UInt8} (hd : d ∈ ([34, 39, 45, 47, 60, 61, 62, 33, 63] : List UInt8)) {c : UInt8} : smT c = d ↔ c = d := decide_eq_decide.1 (sm_id d hd c)
def skT (c : UInt8) : Bool := spT c || decide (c = 47)
theorem sm_sk (c : UInt8) : skT (smT c) = skT c := by unfold skT; rw [sm_sp, sm_id 47 (by decide)]
theorem sm_nm (c : UInt8) : nmT (smT c) = nmT c := by unfold nmT; rw [sm_sp, sm_id 47 (by decide), sm_id 61 (by decide), sm_id 62 (by decide)]
theorem sm_gt (c : UInt8) : gtT (smT c) = gtT c := by unfold gtT; rw [sm_sp, sm_id 62 (by decide)]
theorem dw_lo {p : UInt8 → Bool} (hp : ∀ c, p (smT c) = p c) : ∀ t : List UInt8, (t.map smT).dropWhile p = (t.dropWhile p).map smT
  | [] => rfl
  | c :: r => by
    rw [List.map_cons, List.dropWhile_cons, List.dropWhile_cons, hp, dw_lo hp r]
    cases p c <;> rfl
theorem tw_lo {p : UInt8 → Bool} (hp : ∀ c, p (smT c) = p c) : ∀ t : List UInt8, (t.map smT).takeWhile p = (t.takeWhile p).map smT
  | [] => rfl
  | c :: r => by
    rw [List.map_cons, List.takeWhile_cons, List.takeWhile_cons, hp, tw_lo hp r]
    cases p c <;> rfl
/-- an attribute of a page that is written as it is -/
def attrO (t : List UInt8) : Option (List UInt8 × List UInt8 × Bool × List UInt8) := match t.dropWhile skT with
  | [] => none
  | c :: r => if c = 62 then some ([], [], false, c :: r) else
    match (r.dropWhile nmT).dropWhile spT with
    | [] => none
    | d :: r2 => if d ≠ 61 then some ((c :: r.takeWhile nmT).map smT, [], true, d :: r2) else
      match r2.dropWhile spT with
      | [] => none
      | q :: r3 => if q = 34 ∨ q = 39 then
          (match r3.dropWhile (fun c => !decide (c = q)) with
          | [] => none
          | _ :: r4 => some ((c :: r.takeWhile nmT).map smT, (r3.takeWhile (fun c => !decide (c = q))).map smT, true, r4))
        else if q = 62 then some ((c :: r.takeWhile nmT).map smT, [], true, q :: r3)
        else match (q :: r3).dropWhile gtT with
          | [] => none
          | e :: r4 => some ((c :: r.takeWhile nmT).map smT, ((q :: r3).takeWhile gtT).map smT, true, e :: r4)
def loA : Option (List UInt8 × List UInt8 × Bool × List UInt8) → Option (List UInt8 × List UInt8 × Bool × List UInt8)
  | none => none
  | some (a, v, o, t) => some (a, v, o, t.map smT)
theorem attr_lo (t : List UInt8) : attrT (t.map smT) = loA (attrO t) := by
  unfold attrT attrO
  rw [show (fun c => spT c || decide (c = 47)) = skT from rfl, dw_lo sm_sk]
  rcases t.dropWhile skT with _ | ⟨c, r⟩
  · rfl
  simp only [List.map_cons]
  by_cases c62 : c = 62
  · subst c62; rfl
  rw [if_neg (fun e => c62 ((sm_eq (by decide)).1 e)), if_neg c62, dw_lo sm_nm, dw_lo sm_sp, tw_lo sm_nm]
  rcases (r.dropWhile nmT).dropWhile spT with _ | ⟨d, r2⟩
  · rfl
  simp only [List.map_cons]
  by_cases d61 : d = 61
  · rw [if_neg (by rw [d61]; decide), if_neg (by simp [d61]), dw_lo sm_sp]
    rcases r2.dropWhile spT with _ | ⟨q, r3⟩
    · rfl
    simp only [List.map_cons]
    by_cases hq : q = 34 ∨ q = 39
    · have hq' : smT q = q := by rcases hq with rfl | rfl <;> rfl
      have hp : ∀ c, (fun c => !decide (c = q)) (smT c) = (fun c => !decide (c = q)) c := fun c => by
        rcases hq with rfl | rfl
        · simp only [sm_id 34 (by decide)]
        · simp only [sm_id 39 (by decide)]
      rw [hq', if_pos hq, if_pos hq, dw_lo hp, tw_lo hp]
      rcases r3.dropWhile (fun c => !decide (c = q)) with _ | ⟨e, r4⟩ <;> rfl
    · rw [if_neg (fun e => hq (e.imp (sm_eq (by decide)).1 (sm_eq (by decide)).1)), if_neg hq]
      by_cases q62 : q = 62
      · subst q62; rfl
      · rw [if_neg (fun e => q62 ((sm_eq (by decide)).1 e)), if_neg q62, ← List.map_cons, dw_lo sm_gt, tw_lo sm_gt]
        rcases (q :: r3).dropWhile gtT with _ | ⟨e, r4⟩ <;> rfl
  · rw [if_pos (fun e => d61 ((sm_eq (by decide)).1 e)), if_pos d61]
    rfl
def attE' (b : List UInt8) : Option (List UInt8 × List UInt8 × Bool × List UInt8) → List UInt8 × List UInt8 × Int × Bool × Bool
  | none => ([], [], 0, true, false)
  | some (a, v, o, t) => (a, v, pos b t, false, !o)
theorem ref_skip_loop {L : List UInt8} (hL : L.length ≤ 4194304) : ∀ (k : Nat) (t : List UInt8), t <:+ L → t.length < k → ref11_attr_L11 L k (pos L t) = some (pos L (t.dropWhile skT))
  | 0, t, _, hk => by omega
  | k + 1, [], h, hk => by simp only [ref11_attr_L11, pos_nil]; simp [pos_nil]
  | k + 1, c :: r, h, hk => by
    simp only [List.length_cons] at hk
    simp only [ref11_attr_L11, decide_eq_true (pos_lt h), if_true, pos_ix h, Option.bind_some, Space_eq, eqB c 47 47 rfl, pos_tl h hL]
    have ih := ref_skip_loop hL k r (suf_tl h) (by omega)
    cases hs : spT c with
    | true => rw [if_pos rfl, ih, List.dropWhile_cons_of_pos (by unfold skT; rw [hs]; rfl)]
    | false =>
      rw [if_neg (by simp)]
      by_cases h7 : c = 47
      · rw [if_pos (decide_eq_true h7), ih, List.dropWhile_cons_of_pos (by unfold skT; simp [h7])]
      · rw [if_neg (by simpa using h7), List.dropWhile_cons_of_neg (by unfold skT; simp [hs, h7])]
theorem ref_name_loop {L : List UInt8} {p : Int} (hL : L.length ≤ 4194304) : ∀ (k : Nat) (t : List UInt8), t <:+ L → p < pos L t → t.length < k → ref11_attr_L30 L p k (pos L t) = some (pos L (t.dropWhile nmT))
  | 0, t, _, _, hk => by omega
  | k + 1, [], h, hp, hk => by simp only [ref11_attr_L30, pos_nil]; simp [pos_nil]
  | k + 1, c :: r, h, hp, hk => by
    simp only [List.length_cons] at hk
    simp only [ref11_attr_L30, decide_eq_true (pos_lt h), if_true, pos_ix h, Option.bind_some, Space_eq, eqB c 47 47 rfl, eqB c 61 61 rfl, eqB c 62 62 rfl, pos_tl h hL]
    have hp2 : p < pos L r := by
      have h4 := suf_len h
      unfold pos at hp ⊢
      simp only [List.length_cons] at hp h4
      omega
    have ih := ref_name_loop hL k r (suf_tl h) hp2 (by omega)
    have hne : decide (pos L (c :: r) = p) = false := decide_eq_false (by omega)
    rw [ih, hne]
    by_cases hn : nmT c = true
    · rw [List.dropWhile_cons_of_pos hn]
      unfold nmT at hn
      simp only [Bool.not_eq_true', Bool.or_eq_false_iff] at hn
      obtain ⟨⟨⟨h1, h2⟩, h3⟩, h4⟩ := hn
      simp [h1, h2, h3, h4]
    · rw [List.dropWhile_cons_of_neg hn]
      unfold nmT at hn
      cases h1 : spT c with
      | true => simp
      | false =>
        by_cases h2 : c = 47
        · simp [h2]
        · by_cases h3 : c = 62
          · simp [h3]
          · by_cases h4 : c = 61
            · simp [h4]
            · simp [h1, h2, h3, h4] at hn
theorem ref_qv_loop {s nm : List UInt8} {q : UInt8} {r : List UInt8} (hL : s.length ≤ 4194304) (h : (q :: r) <:+ s) : ∀ (k : Nat) (pre x : List UInt8), r = pre ++ x → (∀ c ∈ pre, c ≠ q) → x.length < k →
    ref11_attr_L55 s q (pos s (q :: r)) nm k (pos s x) = some (match x.dropWhile (fun c => !decide (c = q)) with | [] => Sum.inr () | _ :: r4 => Sum.inl (nm, (pre ++ x.takeWhile (fun c => !decide (c = q))).map smT, pos s r4, false, false))
  | 0, _, x, _, _, hk => by omega
  | k + 1, pre, [], e, hp, hk => by
    simp only [ref11_attr_L55, pos_nil]
    simp
  | k + 1, pre, c :: x, e, hp, hk => by
    simp only [List.length_cons] at hk
    have hr := suf_tl h
    have hx : (c :: x) <:+ s := (by rw [e] at hr; exact (List.suffix_append pre (c :: x)).trans hr)
    have hlen := suf_len hr
    have hle : pre.length ≤ r.length := by rw [e, List.length_append]; omega
    simp only [ref11_attr_L55, decide_eq_true (pos_lt hx), if_true, pos_ix hx, Option.bind_some, b2i_inj, decide_eq_true_eq]
    by_cases hq : c = q
    · rw [if_pos hq, pos_tl h hL, pos_cut hr e, pos_tl hx hL]
      simp only [Option.bind_some]
      rw [Lower_eq (by omega), List.dropWhile_cons_of_neg (by simp [hq]), List.takeWhile_cons_of_neg (by simp [hq]), List.append_nil]
      rfl
    · rw [if_neg hq, pos_tl hx hL, ref_qv_loop hL h k (pre ++ [c]) x (by rw [e]; simp) (fun d hd => by
        rcases List.mem_append.1 hd with hd | hd
        · exact hp d hd
        · rw [List.mem_singleton.1 hd]; exact hq) (by omega), List.dropWhile_cons_of_pos (by simp [hq]), List.takeWhile_cons_of_pos (by simp [hq]), List.append_assoc]
      rfl
theorem ref_uv_loop {L : List UInt8} (hL : L.length ≤ 4194304) : ∀ (k : Nat) (t : List UInt8), t <:+ L → t.length < k → ref11_attr_L69 L k (pos L t) = some (pos L (t.dropWhile gtT))
  | 0, t, _, hk => by omega
  | k + 1, [], h, hk => by simp only [ref11_attr_L69, pos_nil]; simp [pos_nil]
  | k + 1, c :: r, h, hk => by
    simp only [List.length_cons] at hk
    simp only [ref11_attr_L69, decide_eq_true (pos_lt h), if_true, pos_ix h, Option.bind_some, Space_eq, eqB c 62 62 rfl, pos_tl h hL]
    have ih := ref_uv_loop hL k r (suf_tl h) (by omega)
    rw [ih]
    cases hs : spT c with
    | true => rw [List.dropWhile_cons_of_neg (by unfold gtT; simp [hs])]; rfl
    | false =>
      by_cases h6 : c = 62
      · rw [List.dropWhile_cons_of_neg (by unfold gtT; simp [h6])]; simp [h6]
      · rw [List.dropWhile_cons_of_pos (by unfold gtT; simp [hs, h6])]; simp [h6]
theorem pos_end {L t : List UInt8} (h : t <:+ L) : decide (pos L t = ((L.length : Nat) : Int)) = decide (t = []) := by
  have hl := suf_len h
  rw [decide_eq_decide]
  constructor
  · intro e
    unfold pos at e
    exact List.eq_nil_of_length_eq_zero (by omega)
  · rintro rfl; exact pos_nil L
theorem ref_attr_eq {b t : List UInt8} (hL : b.length ≤ 4194304) (h : t <:+ b) : ref11_attr b (pos b t) = some (attE' b (attrO t)) := by
  have hl := suf_len h
  unfold ref11_attr attrO
  rw [ref_skip_loop hL _ t h (by omega)]
  have h0 := suf_dw (p := skT) h
  have hfst : ∀ c r, t.dropWhile skT = c :: r → spT c = false ∧ c ≠ 47 := fun c r e => by
    have := List.head?_dropWhile_not skT t
    rw [e] at this
    unfold skT at this
    simpa using this
  generalize t.dropWhile skT = t1 at h0 hfst ⊢
  simp only [Option.bind_some, pos_end h0]
  rcases t1 with _ | ⟨c, r⟩
  · rfl
  obtain ⟨f1, f2⟩ := hfst c r rfl
  rw [if_neg (by simp), pos_ix h0]
  simp only [Option.bind_some, eqB c 62 62 rfl]
  by_cases c62 : c = 62
  · rw [if_pos (decide_eq_true c62), if_pos c62]; rfl
  rw [if_neg (by simpa using c62), if_neg c62]
  have hr := suf_tl h0
  have hrl := suf_len hr
  have h0l := suf_len h0
  simp only [List.length_cons] at h0l
  have e0 : ∀ k, ref11_attr_L30 b (pos b (c :: r)) (k + 1) (pos b (c :: r)) = ref11_attr_L30 b (pos b (c :: r)) k (pos b r) := fun k => by
    simp only [ref11_attr_L30, decide_eq_true (pos_lt h0), if_true, pos_ix h0, Option.bind_some, Space_eq, f1, eqB c 47 47 rfl, eqB c 61 61 rfl, eqB c 62 62 rfl, f2, c62, decide_false, Bool.not_false, pos_tl h0 hL, decide_true]
    by_cases h61 : c = 61 <;> simp [h61]
  have hlt : pos b (c :: r) < pos b r := by
    have h4 := suf_len h0
    unfold pos
    simp only [List.length_cons] at h4 ⊢
    omega
  rw [show ref11_attr_L30 b (pos b (c :: r)) 140737488355328 (pos b (c :: r)) = ref11_attr_L30 b (pos b (c :: r)) 140737488355327 (pos b r) from e0 140737488355327, ref_name_loop hL _ r hr hlt (by omega)]
  simp only [Option.bind_some]
  have h1 := suf_dw (p := nmT) hr
  rw [pos_cut h0 (a := c :: r.takeWhile nmT) (by rw [List.cons_append, List.takeWhile_append_dropWhile])]
  have htw := (List.takeWhile_prefix nmT (l := r)).length_le
  simp only [Option.bind_some]
  rw [Lower_eq (by simp only [List.length_cons]; omega)]
  simp only [Option.bind_some]
  generalize (c :: r.takeWhile nmT).map smT = nm
  rw [ref_pass_eq hL h1]
  have h2 := suf_dw (p := spT) h1
  generalize (r.dropWhile nmT).dropWhile spT = t2 at h2 ⊢
  simp only [Option.bind_some, pos_end h2]
  rcases t2 with _ | ⟨d, r2⟩
  · rfl
  rw [if_neg (by simp), pos_ix h2]
  simp only [Option.bind_some, eqB d 61 61 rfl]
  by_cases d61 : d = 61
  · rw [if_neg (by simp [d61]), if_neg (by simp [d61]), pos_tl h2 hL, ref_pass_eq hL (suf_tl h2)]
    have h3 := suf_dw (p := spT) (suf_tl h2)
    generalize r2.dropWhile spT = t3 at h3 ⊢
    simp only [Option.bind_some, pos_end h3]
    rcases t3 with _ | ⟨q, r3⟩
    · rfl
    have h3l := suf_len h3
    simp only [List.length_cons] at h3l
    rw [if_neg (by simp), pos_ix h3]
    simp only [Option.bind_some, eqB q 34 34 rfl, eqB q 39 39 rfl, eqB q 62 62 rfl]
    have eq1 : (if decide (q = 34) = true then some true else some (decide (q = 39))) = some (decide (q = 34 ∨ q = 39)) := by
      by_cases a : q = 34 <;> simp [a]
    rw [eq1]
    simp only [Option.bind_some]
    by_cases q62 : q = 62
    · have hq : ¬ (q = 34 ∨ q = 39) := by rw [q62]; decide
      rw [if_pos (decide_eq_true q62), if_neg hq, if_pos q62]
      rfl
    rw [if_neg (by simpa using q62)]
    by_cases hq : q = 34 ∨ q = 39
    · rw [if_pos (decide_eq_true hq), if_pos hq, pos_tl h3 hL, ref_qv_loop hL h3 140737488355328 [] r3 rfl (by simp) (by omega)]
      simp only [List.nil_append]
      rcases r3.dropWhile (fun c => !decide (c = q)) with _ | ⟨e, r4⟩ <;> rfl
    · rw [if_neg (by simpa using hq), if_neg hq, if_neg q62, ref_uv_loop hL _ (q :: r3) h3 (by simp only [List.length_cons]; omega)]
      have h5 := suf_dw (p := gtT) h3
      have hcut := pos_cut h3 (a := (q :: r3).takeWhile gtT) List.takeWhile_append_dropWhile.symm
      have htw2 := (List.takeWhile_prefix gtT (l := q :: r3)).length_le
      simp only [List.length_cons] at htw2
      generalize (q :: r3).takeWhile gtT = v at hcut htw2 ⊢
      generalize (q :: r3).dropWhile gtT = t4 at h5 hcut ⊢
      simp only [Option.bind_some, pos_end h5]
      rcases t4 with _ | ⟨e, r4⟩
      · rfl
      · rw [if_neg (by simp), hcut]
        simp only [Option.bind_some]
        rw [Lower_eq (by omega)]
        rfl
  · rw [if_pos (by simp [d61]), if_pos d61]; rfl
theorem attrO_suf {t a v : List UInt8} {o : Bool} {t' : List UInt8} (h : attrO t = some (a, v, o, t')) : t' <:+ t := by
  unfold attrO at h
  have h0 : t.dropWhile skT <:+ t := List.dropWhile_suffix _
  generalize t.dropWhile skT = t1 at h0 h
  rcases t1 with _ | ⟨c, r⟩
  · cases h
  have fin : ∀ (a' v' : List UInt8) (o' : Bool) (x : List UInt8), x <:+ t → some (a', v', o', x) = some (a, v, o, t') → t' <:+ t := fun a' v' o' x hx e => by
    simp only [Option.some.injEq, Prod.mk.injEq] at e
    obtain ⟨_, _, _, rfl⟩ := e
    exact hx
  dsimp only at h
  by_cases c62 : c = 62
  · rw [if_pos c62] at h; exact fin _ _ _ _ h0 h
  rw [if_neg c62] at h
  have hr : (r.dropWhile nmT).dropWhile spT <:+ t := suf_dw (suf_dw (suf_tl h0))
  generalize (c :: r.takeWhile nmT).map smT = nm at h
  generalize (r.dropWhile nmT).dropWhile spT = t2 at hr h
  rcases t2 with _ | ⟨d, r2⟩
  · cases h
  dsimp only at h
  by_cases d61 : d = 61
  · rw [if_neg (by simp [d61])] at h
    have h3 := suf_dw (p := spT) (suf_tl hr)
    generalize r2.dropWhile spT = t3 at h3 h
    rcases t3 with _ | ⟨q, r3⟩
    · cases h
    dsimp only at h
    by_cases hq : q = 34 ∨ q = 39
    · rw [if_pos hq] at h
      have h5 := suf_dw (p := fun c => !decide (c = q)) (suf_tl h3)
      generalize r3.takeWhile (fun c => !decide (c = q)) = w at h
      generalize r3.dropWhile (fun c => !decide (c = q)) = t4 at h5 h
      rcases t4 with _ | ⟨e, r4⟩
      · cases h
      · exact fin _ _ _ _ (suf_tl h5) h
    · rw [if_neg hq] at h
      by_cases q62 : q = 62
      · rw [if_pos q62] at h; exact fin _ _ _ _ h3 h
      · rw [if_neg q62] at h
        have h5 := suf_dw (p := gtT) h3
        generalize (q :: r3).takeWhile gtT = w at h
        generalize (q :: r3).dropWhile gtT = t4 at h5 h
        rcases t4 with _ | ⟨e, r4⟩
        · cases h
        · exact fin _ _ _ _ h5 h
  · rw [if_pos d61] at h; exact fin _ _ _ _ hr h
end Go.Proofs.YtecpgelhhbbjmaaDoor
namespace Go.Proofs.YtecpgelhhbbjmaaDoor
open Go.Av
set_option linter.unusedVariables false
set_option linter.unusedSimpArgs false
set_option maxRecDepth 100000
abbrev Att := List UInt8 × List UInt8
/-- what one attribute turns: pragma, need, any, code -/
def stpA (s : Bool × Bool × Bool × Int) (x : Att) : Bool × Bool × Bool × Int :=
  if x.1 = [104, 116, 116, 112, 45, 101, 113, 117, 105, 118] then (decide (x.2 = [99, 111, 110, 116, 101, 110, 116, 45, 116, 121, 112, 101]), s.2.1, s.2.2.1, s.2.2.2)
  else if x.1 = [99, 111, 110, 116, 101, 110, 116] then (if s.2.2.1 = false then (if cntT x.2 ≠ 0 then (s.1, true, true, cntT x.2) else s) else s)
  else if x.1 = [99, 104, 97, 114, 115, 101, 116] then (s.1, false, true, lblT x.2)
  else s
def fldA : List Att → Bool × Bool × Bool × Int → Bool × Bool × Bool × Int
  | [], s => s
  | x :: l, s => fldA l (stpA s x)
/-- the attributes that count, and what stands behind them -/
def colT : Nat → List UInt8 → List (List UInt8) → Option (List Att × List UInt8)
  | 0, _, _ => none
  | f + 1, t, ns => match attrT t with
    | none => none
    | some (nm, v, ok, t') => if ok = false then some ([], t') else if nm ∈ ns then colT f t' ns else (colT f t' (ns ++ [nm])).map fun p => ((nm, v) :: p.1, p.2)
theorem meta_col : ∀ (f : Nat) (t : List UInt8) (s : Bool × Bool × Bool × Int) (ns : List (List UInt8)),
    metaT f s.1 s.2.1 s.2.2.1 s.2.2.2 t ns = (colT f t ns).map fun p => ((fldA p.1 s).1, (fldA p.1 s).2.1, (fldA p.1 s).2.2.2, p.2)
  | 0, t, s, ns => rfl
  | f + 1, t, s, ns => by
    simp only [metaT, colT]
    rcases ha : attrT t with _ | ⟨nm, v, ok, t'⟩
    · rfl
    dsimp only
    cases ok with
    | false => rfl
    | true =>
      simp only [reduceCtorEq, if_false]
      by_cases hm : nm ∈ ns
      · rw [if_pos hm, if_pos hm]; exact meta_col f t' s ns
      · rw [if_neg hm, if_neg hm, Option.map_map]
        have ih := meta_col f t' (stpA s (nm, v)) (ns ++ [nm])
        have e : (colT f t' (ns ++ [nm])).map ((fun p => ((fldA p.1 s).1, (fldA p.1 s).2.1, (fldA p.1 s).2.2.2, p.2)) ∘ fun p => ((nm, v) :: p.1, p.2)) = metaT f (stpA s (nm, v)).1 (stpA s (nm, v)).2.1 (stpA s (nm, v)).2.2.1 (stpA s (nm, v)).2.2.2 t' (ns ++ [nm]) := by rw [ih]; rfl
        rw [e]
        unfold stpA
        dsimp only
        repeat' split
        all_goals first | rfl | simp_all
abbrev Tup := List UInt8 × List UInt8 × Int × Bool × Bool
theorem old_loop (l : List Tup) (x : Tup) (hl : l.length ≤ 9000000) : ∀ (k i : Nat) (o : Bool), i ≤ l.length → l.length - i < k → ref11_meta_L52 l x k o (i : Int) = some (o || (l.drop i).any fun y => decide (y.1 = x.1))
  | 0, i, o, _, hk => by omega
  | k + 1, i, o, hi, hk => by
    simp only [ref11_meta_L52, decide_eq_true_eq]
    by_cases hlt : i < l.length
    · rw [if_pos (by omega), iadd64 (by omega) (by omega), ← Int.natCast_add_one, drop_step hlt, List.any_cons]
      cases o with
      | true =>
        rw [if_pos rfl, old_loop l x hl k (i + 1) true (by omega) (by omega)]
        rfl
      | false =>
        rw [if_neg (by simp), ixL_in hlt]
        simp only [Option.bind_some]
        rw [old_loop l x hl k (i + 1) _ (by omega) (by omega)]
        rfl
    · rw [if_neg (by omega), List.drop_eq_nil_of_le (by omega)]
      simp
theorem col_loop {b : List UInt8} (hL : b.length ≤ 4194304) : ∀ (k f : Nat) (t : List UInt8) (l : List Tup) (ns : List (List UInt8)), t <:+ b → t.length < k → t.length < f → l.map (·.1) = ns → l.length + t.length ≤ 8388608 →
    ∃ o, ref11_meta_L44 b k (pos b t) l = some o ∧ (match colT f (t.map smT) ns with
      | none => o = Sum.inl (0, -1)
      | some (n, r) => ∃ l' t', o = Sum.inr (pos b t', l ++ l') ∧ l'.map (fun x => (x.1, x.2.1)) = n ∧ t'.map smT = r ∧ t' <:+ t ∧ (l ++ l').length ≤ 8388608 ∧ ∀ x ∈ l', x.2.1.length ≤ 4194304)
  | 0, _, t, _, _, _, hk, _, _, _ => by omega
  | k + 1, 0, t, _, _, _, _, hf, _, _ => by omega
  | k + 1, f + 1, t, l, ns, h, hk, hf, hn, hs => by
    simp only [ref11_meta_L44, ref_attr_eq hL h, Option.bind_some, colT, attr_lo]
    rcases ha : attrO t with _ | ⟨nm, v, ok, t'⟩
    · exact ⟨_, rfl, rfl⟩
    have hat := attr_lo t
    rw [ha] at hat
    obtain ⟨s1, s2, s3⟩ := attr_suf hat
    have hsuf : t' <:+ t := attrO_suf ha
    have htl := suf_len h
    cases ok with
    | false =>
      refine ⟨Sum.inr (pos b t', l), rfl, ?_⟩
      simp only [loA, if_true]
      exact ⟨[], t', by simp, rfl, rfl, hsuf, by simp; omega, fun x hx => by cases hx⟩
    | true =>
      have hlt := s2 rfl
      rw [List.length_map, List.length_map] at hlt
      simp only [loA, attE', Bool.false_eq_true, if_false, Bool.not_true, reduceCtorEq]
      have ho := old_loop l (nm, v, pos b t', false, false) (by omega) 140737488355328 0 false (by omega) (by omega)
      simp only [Int.natCast_zero, List.drop_zero, Bool.false_or] at ho
      have hany : (l.any fun y => decide (y.1 = nm)) = decide (nm ∈ ns) := by
        rw [← hn, Bool.eq_iff_iff, List.any_eq_true, decide_eq_true_eq, List.mem_map]
        constructor
        · rintro ⟨y, hy, e⟩; exact ⟨y, hy, of_decide_eq_true e⟩
        · rintro ⟨y, hy, e⟩; exact ⟨y, hy, decide_eq_true e⟩
      rw [ho]
      simp only [Option.bind_some, hany]
      by_cases hm : nm ∈ ns
      · rw [if_neg (by simp [hm]), if_pos hm]
        obtain ⟨o, o1, o2⟩ := col_loop hL k f t' l ns (hsuf.trans h) (by omega) (by omega) hn (by omega)
        refine ⟨o, o1, ?_⟩
        rcases hc : colT f (t'.map smT) ns with _ | ⟨n, r⟩
        · rw [hc] at o2; exact o2
        · rw [hc] at o2
          obtain ⟨l', t2, q1, q2, q3, q4, q5, q6⟩ := o2
          exact ⟨l', t2, q1, q2, q3, q4.trans hsuf, q5, q6⟩
      · rw [if_pos (by simp [hm]), if_neg hm, szC_ok (by rw [List.length_append, List.length_singleton]; omega)]
        simp only [Option.bind_some]
        obtain ⟨o, o1, o2⟩ := col_loop hL k f t' (l ++ [(nm, v, pos b t', false, false)]) (ns ++ [nm]) (hsuf.trans h) (by omega) (by omega) (by rw [List.map_append, hn]; rfl) (by rw [List.length_append, List.length_singleton]; omega)
        refine ⟨o, o1, ?_⟩
        rcases hc : colT f (t'.map smT) (ns ++ [nm]) with _ | ⟨n, r⟩
        · rw [hc] at o2; exact o2
        · rw [hc] at o2
          obtain ⟨l', t2, q1, q2, q3, q4, q5, q6⟩ := o2
          refine ⟨(nm, v, pos b t', false, false) :: l', t2, by rw [q1]; simp, by rw [List.map_cons, q2], q3, q4.trans hsuf, by simpa using q5, fun x hx => ?_⟩
          rcases List.mem_cons.1 hx with rfl | hx
          · have := (attr_len hat).2
            rw [List.length_map] at this
            dsimp only
            omega
          · exact q6 x hx
end Go.Proofs.YtecpgelhhbbjmaaDoor
namespace Go.Proofs.YtecpgelhhbbjmaaDoor
open Go.Av
set_option linter.unusedVariables false
set_option linter.unusedSimpArgs false
set_option maxRecDepth 100000
def codeR (s : Bool × Bool × Bool × Int) : Int := if s.2.2.1 = true then s.2.2.2 else -1
def invR (s : Bool × Bool × Bool × Int) : Prop := 0 ≤ s.2.2.2 ∧ (s.2.2.1 = false → s.2.2.2 = 0)
theorem stp_inv {s : Bool × Bool × Bool × Int} (h : invR s) (x : Att) : invR (stpA s x) := by
  have hc := cnt_rng x.2
  have hl := lbl_rng x.2
  unfold invR rngE at *
  unfold stpA
  repeat' split
  all_goals first | exact h | exact ⟨hc.1, fun e => by cases e⟩ | exact ⟨hl.1, fun e => by cases e⟩
theorem fld_loop (j : Int × List Tup) (hl : j.2.length ≤ 9000000) (hv : ∀ x ∈ j.2, x.2.1.length ≤ 4194304) : ∀ (k i : Nat) (s : Bool × Bool × Bool × Int), i ≤ j.2.length → j.2.length - i < k → invR s →
    ref11_meta_L83 j k (codeR s) s.1 s.2.1 (i : Int) = some (codeR (fldA ((j.2.drop i).map fun x => (x.1, x.2.1)) s), (fldA ((j.2.drop i).map fun x => (x.1, x.2.1)) s).1, (fldA ((j.2.drop i).map fun x => (x.1, x.2.1)) s).2.1) ∧ invR (fldA ((j.2.drop i).map fun x => (x.1, x.2.1)) s)
  | 0, i, s, _, hk, _ => by omega
  | k + 1, i, s, hi, hk, hs => by
    simp only [ref11_meta_L83, decide_eq_true_eq]
    by_cases hlt : i < j.2.length
    · have hx := hv _ (List.getElem_mem hlt)
      rw [if_pos (by omega), ixL_in hlt, iadd64 (by omega) (by omega), ← Int.natCast_add_one, drop_step hlt, List.map_cons, fldA]
      generalize j.2[i] = x at hx
      have ih := fld_loop j hl hv k (i + 1) (stpA s (x.1, x.2.1)) (by omega) (by omega) (stp_inv hs _)
      refine ⟨?_, ih.2⟩
      rw [← ih.1]
      simp only [Option.bind_some]
      by_cases c1 : x.1 = [104, 116, 116, 112, 45, 101, 113, 117, 105, 118]
      · rw [if_pos c1]
        have e : stpA s (x.1, x.2.1) = (decide (x.2.1 = [99, 111, 110, 116, 101, 110, 116, 45, 116, 121, 112, 101]), s.2.1, s.2.2.1, s.2.2.2) := by unfold stpA; rw [if_pos c1]
        rw [e]; rfl
      rw [if_neg c1]
      by_cases c2 : x.1 = [99, 111, 110, 116, 101, 110, 116]
      · rw [if_pos c2, ref_Content_eq hx]
        have e : stpA s (x.1, x.2.1) = if s.2.2.1 = false then (if cntT x.2.1 ≠ 0 then (s.1, true, true, cntT x.2.1) else s) else s := by unfold stpA; rw [if_neg c1, if_pos c2]
        rw [e]
        simp only [Option.bind_some]
        cases ha : s.2.2.1 with
        | false =>
          have hcd : codeR s = -1 := by unfold codeR; rw [ha]; rfl
          rw [hcd]
          simp only [show ((-1 : Int) < 0) from by decide, if_true]
          by_cases c0 : cntT x.2.1 = 0
          · simp only [c0, decide_true, Bool.not_true, Option.bind_some, Bool.false_eq_true, if_false, ne_eq, not_true]
            rw [← hcd]
          · simp only [c0, decide_false, Bool.not_false, Option.bind_some, if_true, ne_eq, not_false_eq_true]
            rfl
        | true =>
          have hcd : ¬ codeR s < 0 := by
            have := hs.1
            unfold codeR
            rw [ha]
            simp only [if_true]
            omega
          rw [if_neg hcd]
          simp only [Option.bind_some, Bool.false_eq_true, if_false, reduceCtorEq]
      rw [if_neg c2]
      by_cases c3 : x.1 = [99, 104, 97, 114, 115, 101, 116]
      · rw [if_pos c3, ref_LabelT_eq hx]
        have e : stpA s (x.1, x.2.1) = (s.1, false, true, lblT x.2.1) := by unfold stpA; rw [if_neg c1, if_neg c2, if_pos c3]
        rw [e]; rfl
      · rw [if_neg c3]
        have e : stpA s (x.1, x.2.1) = s := by unfold stpA; rw [if_neg c1, if_neg c2, if_neg c3]
        rw [e]
    · rw [if_neg (by omega), List.drop_eq_nil_of_le (by omega)]
      exact ⟨rfl, hs⟩
theorem ref_meta_eq {b t : List UInt8} (hL : b.length ≤ 4194304) (h : t <:+ b) : ∃ p, ref11_meta b (pos b t) = some p ∧ (match metaR (t.map smT) with
    | none => p = (0, -1)
    | some (c, r) => ∃ t', p = (c, pos b t') ∧ t'.map smT = r ∧ t' <:+ t) := by
  have hl := suf_len h
  obtain ⟨o, o1, o2⟩ := col_loop hL 140737488355328 (t.length + 1) t [] [] h (by omega) (by omega) rfl (by simp; omega)
  have hm := meta_col (t.length + 1) (t.map smT) (false, false, false, 0) []
  dsimp only at hm
  unfold ref11_meta metaR
  rw [o1, List.length_map, hm]
  rcases hc : colT (t.length + 1) (t.map smT) [] with _ | ⟨n, r⟩
  · rw [hc] at o2
    dsimp only at o2
    subst o2
    exact ⟨_, rfl, rfl⟩
  · rw [hc] at o2
    obtain ⟨l', t', rfl, q2, q3, q4, q5, q6⟩ := o2
    rw [List.nil_append] at q5 ⊢
    obtain ⟨f1, f2⟩ := fld_loop (pos b t', l') (by dsimp only; omega) q6 140737488355328 0 (false, false, false, 0) (by omega) (by dsimp only; omega) ⟨by decide, fun _ => rfl⟩
    dsimp only at f1 f2
    rw [List.drop_zero, q2] at f1 f2
    have f1' : ref11_meta_L83 (pos b t', l') 140737488355328 (-1) false false 0 = some (codeR (fldA n (false, false, false, 0)), (fldA n (false, false, false, 0)).1, (fldA n (false, false, false, 0)).2.1) := f1
    simp only [Option.bind_some, f1', Option.map_some]
    generalize fldA n (false, false, false, 0) = s at f2
    obtain ⟨pr, nd, an, cd⟩ := s
    obtain ⟨i1, i2⟩ := f2
    dsimp only at i1 i2 ⊢
    unfold codeR
    dsimp only
    refine ⟨(if nd = true ∧ pr = false then 0 else if cd = 3 then 1 else cd, pos b t'), ?_, t', rfl, q3, q4⟩
    cases an with
    | false =>
      rw [i2 rfl]
      cases nd <;> cases pr <;> rfl
    | true =>
      simp only [if_true]
      by_cases c0 : cd ≤ 0
      · have : cd = 0 := by omega
        subst this
        cases nd <;> cases pr <;> rfl
      · rw [if_neg (by simpa using c0)]
        cases nd <;> cases pr <;> simp <;> split <;> rfl
/-! what ends a comment, and other things -/
theorem pos_up {c : UInt8} {r L : List UInt8} (h : (c :: r) <:+ L) (hL : L.length ≤ 4194304) : isub .i64 (pos L r) 1 = pos L (c :: r) := by
  have h2 := suf_len h
  simp only [List.length_cons] at h2
  unfold pos
  rw [isub64 (by omega) (by omega)]
  simp only [List.length_cons]
  omega
theorem pos_up2 {c d : UInt8} {r L : List UInt8} (h : (c :: d :: r) <:+ L) (hL : L.length ≤ 4194304) : isub .i64 (pos L r) 2 = pos L (c :: d :: r) := by
  have h2 := suf_len h
  simp only [List.length_cons] at h2
  unfold pos
  rw [isub64 (by omega) (by omega)]
  simp only [List.length_cons]
  omega
theorem close_plain {L : List UInt8} (hL : L.length ≤ 4194304) : ∀ (k : Nat) (t : List UInt8), t <:+ L → t.length < k → ref11_close_L22 L false k (pos L t) = some (match t.dropWhile (fun c => !decide (c = 62)) with | [] => Sum.inr () | c :: r => Sum.inl (pos L (c :: r)))
  | 0, t, _, hk => by omega
  | k + 1, [], h, hk => by simp only [ref11_close_L22, pos_nil]; simp
  | k + 1, c :: r, h, hk => by
    simp only [List.length_cons] at hk
    simp only [ref11_close_L22, decide_eq_true (pos_lt h), if_true, pos_ix h, Option.bind_some, eqB c 62 62 rfl, pos_tl h hL, close_plain hL k r (suf_tl h) (by omega), Bool.not_false]
    by_cases h6 : c = 62
    · rw [List.dropWhile_cons_of_neg (by simp [h6])]; simp [h6]
    · rw [List.dropWhile_cons_of_pos (by simp [h6])]; simp [h6]
theorem beq_dec (x y : UInt8) : (x == y) = decide (y = x) := by
  by_cases h : x = y
  · subst h; simp
  · rw [beq_eq_false_iff_ne.2 h, decide_eq_false (fun e => h e.symm)]
theorem close_dash {L : List UInt8} (hL : L.length ≤ 4194304) : ∀ (k : Nat) (y : List UInt8), y <:+ L → y.length < k → ref11_close_L22 L true k (pos L (y.drop 2)) = some (match occT [45, 45, 62] y with | none => Sum.inr () | some s => Sum.inl (pos L (s.drop 2)))
  | 0, t, _, hk => by omega
  | k + 1, [], h, hk => by simp only [ref11_close_L22, List.drop_nil, pos_nil]; simp [occT]
  | k + 1, [a], h, hk => by simp only [ref11_close_L22, List.drop_succ_cons, List.drop_nil, pos_nil]; simp [occT]
  | k + 1, [a, b], h, hk => by simp only [ref11_close_L22, List.drop_succ_cons, List.drop_zero, pos_nil]; simp [occT]
  | k + 1, a :: b :: c :: r, h, hk => by
    simp only [List.length_cons] at hk
    have hb := suf_tl h
    have hc := suf_tl hb
    have ih := close_dash hL k (b :: c :: r) hb (by simp only [List.length_cons]; omega)
    simp only [List.drop_succ_cons, List.drop_zero] at ih ⊢
    simp only [ref11_close_L22, decide_eq_true (pos_lt hc), if_true, pos_ix hc, Option.bind_some, eqB c 62 62 rfl, pos_tl hc hL, Bool.not_true, Bool.false_eq_true, if_false, pos_up hb hL, pos_up2 h hL, pos_ix hb, pos_ix h, eqB b 45 45 rfl, eqB a 45 45 rfl, ih]
    have hp : ([45, 45, 62] : List UInt8).isPrefixOf (a :: b :: c :: r) = (decide (a = 45) && (decide (b = 45) && decide (c = 62))) := by
      simp only [List.isPrefixOf_cons_cons, List.isPrefixOf_nil_left, Bool.and_true, beq_dec]
    have ho : occT [45, 45, 62] (a :: b :: c :: r) = if ([45, 45, 62] : List UInt8).isPrefixOf (a :: b :: c :: r) = true then some (a :: b :: c :: r) else occT [45, 45, 62] (b :: c :: r) := rfl
    rw [ho, hp]
    generalize occT [45, 45, 62] (b :: c :: r) = x
    by_cases h6 : c = 62
    · by_cases h5 : b = 45
      · by_cases h4 : a = 45
        · simp [h6, h5, h4]
        · simp [h6, h5, h4]
      · simp [h6, h5]
    · simp [h6]
theorem occ_lo : ∀ t : List UInt8, occT [45, 45, 62] (t.map smT) = (occT [45, 45, 62] t).map (·.map smT)
  | [] => rfl
  | c :: r => by
    have hp : ([45, 45, 62] : List UInt8).isPrefixOf ((c :: r).map smT) = ([45, 45, 62] : List UInt8).isPrefixOf (c :: r) := by
      have e : ∀ (x y : UInt8), x ∈ ([34, 39, 45, 47, 60, 61, 62, 33, 63] : List UInt8) → (x == smT y) = (x == y) := fun x y hx => by
        have := sm_id x hx y
        rw [beq_dec, beq_dec, this]
      rcases r with _ | ⟨d, _ | ⟨g, r⟩⟩
      · simp [List.isPrefixOf]
      · simp [List.isPrefixOf]
      · simp only [List.map_cons, List.isPrefixOf_cons_cons, List.isPrefixOf_nil_left, e 45 _ (by decide), e 62 _ (by decide)]
    rw [List.map_cons, occT, occT, ← List.map_cons, hp]
    split
    · rfl
    · exact occ_lo r
theorem ref_close_plain {L t : List UInt8} (hL : L.length ≤ 4194304) (h : t <:+ L) : ref11_close L (pos L t) false = some (match t.dropWhile (fun c => !decide (c = 62)) with | [] => -1 | c :: r => pos L (c :: r)) := by
  have := suf_len h
  unfold ref11_close
  rw [close_plain hL _ t h (by omega)]
  rcases t.dropWhile (fun c => !decide (c = 62)) with _ | ⟨c, r⟩ <;> rfl
theorem ref_close_dash {L y : List UInt8} (hL : L.length ≤ 4194304) (h : y <:+ L) : ref11_close L (pos L (y.drop 2)) true = some (match occT [45, 45, 62] y with | none => -1 | some s => pos L (s.drop 2)) := by
  have := suf_len h
  unfold ref11_close
  rw [close_dash hL _ y h (by omega)]
  rcases occT [45, 45, 62] y with _ | s <;> rfl
theorem ref_letter_eq {L t : List UInt8} (hL : L.length ≤ 4194304) (h : t <:+ L) (n : Nat) (hn : n ≤ 100) : ref11_letter L (iadd .i64 (pos L t) (n : Int)) = some (ltrT (t.map smT) n) := by
  have hl := suf_len h
  unfold ref11_letter ltrT
  simp only [pos_add hL h n hn, decide_eq_true_eq, List.getElem?_map]
  by_cases hlt : n < t.length
  · rw [if_neg (by omega), ixL_nat, pos_get h, List.getElem?_eq_getElem hlt]
    simp only [Option.bind_some, Option.map_some, Small_eq, show b2i (bC 97) = 97 from rfl, show b2i (bC 122) = 122 from rfl]
    by_cases a : 97 ≤ b2i (smT t[n]) <;> simp [a]
  · rw [if_pos (by omega), List.getElem?_eq_none (by omega)]
    rfl
theorem ref_tag_loop {L : List UInt8} (hL : L.length ≤ 4194304) : ∀ (k : Nat) (t : List UInt8), t <:+ L → t.length < k → ref11_Prescan_L372 L k (pos L t) = some (pos L (t.dropWhile gtT))
  | 0, t, _, hk => by omega
  | k + 1, [], h, hk => by simp only [ref11_Prescan_L372, pos_nil]; simp [pos_nil]
  | k + 1, c :: r, h, hk => by
    simp only [List.length_cons] at hk
    simp only [ref11_Prescan_L372, decide_eq_true (pos_lt h), if_true, pos_ix h, Option.bind_some, Space_eq, eqB c 62 62 rfl, pos_tl h hL]
    have ih := ref_tag_loop hL k r (suf_tl h) (by omega)
    rw [ih]
    cases hs : spT c with
    | true => rw [List.dropWhile_cons_of_neg (by unfold gtT; simp [hs])]; rfl
    | false =>
      by_cases h6 : c = 62
      · rw [List.dropWhile_cons_of_neg (by unfold gtT; simp [h6])]; simp [h6]
      · rw [List.dropWhile_cons_of_pos (by unfold gtT; simp [hs, h6])]; simp [h6]
theorem ref_tags_loop {b : List UInt8} (hL : b.length ≤ 4194304) : ∀ (k f : Nat) (t : List UInt8) (at0 : Int) (x y : List UInt8) (e : Bool), t <:+ b → t.length + 1 < k → t.length < f →
    ∃ o, ref11_Prescan_L394 b k at0 x y (pos b t) e false = some o ∧ (match tagsT f (t.map smT) with
      | none => o = Sum.inl 0
      | some r => ∃ t', o = Sum.inr (pos b t') ∧ t'.map smT = r ∧ t' <:+ t)
  | 0, _, t, _, _, _, _, _, hk, _ => by omega
  | k + 1, 0, t, _, _, _, _, _, _, hf => by omega
  | k + 1, f + 1, t, at0, x, y, e, h, hk, hf => by
    simp only [ref11_Prescan_L394, ref_attr_eq hL h, Option.bind_some, tagsT, attr_lo, Bool.not_false, if_true]
    rcases ha : attrO t with _ | ⟨nm, v, ok, t'⟩
    · exact ⟨_, rfl, rfl⟩
    have hat := attr_lo t
    rw [ha] at hat
    obtain ⟨s1, s2, s3⟩ := attr_suf hat
    have hsuf : t' <:+ t := attrO_suf ha
    cases ok with
    | false =>
      obtain ⟨k', rfl⟩ : ∃ k', k = k' + 1 := ⟨k - 1, by omega⟩
      refine ⟨Sum.inr (pos b t'), ?_, ?_⟩
      · simp only [attE', Bool.false_eq_true, if_false, ref11_Prescan_L394, Bool.not_false, Bool.not_true]
      · simp only [loA, Bool.false_eq_true, if_false]
        exact ⟨t', rfl, rfl, hsuf⟩
    | true =>
      have hlt := s2 rfl
      rw [List.length_map, List.length_map] at hlt
      simp only [loA, attE', Bool.false_eq_true, if_false, if_true, Bool.not_true]
      obtain ⟨o, o1, o2⟩ := ref_tags_loop hL k f t' (pos b t') nm v false (hsuf.trans h) (by omega) (by omega)
      refine ⟨o, o1, ?_⟩
      rcases hc : tagsT f (t'.map smT) with _ | r
      · rw [hc] at o2; exact o2
      · rw [hc] at o2
        obtain ⟨t2, q1, q2, q3⟩ := o2
        exact ⟨t2, q1, q2, q3.trans hsuf⟩
end Go.Proofs.YtecpgelhhbbjmaaDoor
namespace Go.Proofs.YtecpgelhhbbjmaaDoor
open Go.Av
set_option linter.unusedVariables false
set_option linter.unusedSimpArgs false
set_option maxRecDepth 100000
/-- the two answers to one thing agree -/
def relS (b t : List UInt8) (q : Sum Int Int) (x : Option (Int × List UInt8)) : Prop := match x with
  | none => q = Sum.inl 0 ∨ ∃ j, q = Sum.inr j ∧ j < 0
  | some (e, r) => if e = 0 then ∃ j t', q = Sum.inr j ∧ 0 ≤ j ∧ iadd .i64 j 1 = pos b t' ∧ t'.map smT = r ∧ t' <:+ t else q = Sum.inl e
def valS (o : Sum Int Unit) : Int := match o with | Sum.inl r => r | Sum.inr _ => 0
def goK (F : Int → Option (Sum Int Unit)) (q : Sum Int Int) : Option (Sum Int Unit) := match q with | Sum.inl r => some (Sum.inl r) | Sum.inr j => if decide (j < 0) = true then some (Sum.inl 0) else F (iadd .i64 j 1)
theorem pos_nn (b t : List UInt8) : 0 ≤ pos b t := by unfold pos; omega
theorem rel_tail {b t : List UInt8} (hL : b.length ≤ 4194304) {r : List UInt8} (h : t <:+ b) (ht : t.map smT = 62 :: r) : ∃ t', iadd .i64 (pos b t) 1 = pos b t' ∧ t'.map smT = (t.map smT).drop 1 ∧ t' <:+ t := by
  rcases t with _ | ⟨c, s⟩
  · cases ht
  · exact ⟨s, pos_tl h hL, rfl, List.suffix_cons c s⟩
theorem ref_scan_loop {b : List UInt8} (hL : b.length ≤ 4194304) : ∀ (k f : Nat) (t : List UInt8), t <:+ b → t.length < k → t.length < f →
    ∃ o, ref11_Prescan_L274 b k (pos b t) = some o ∧ valS o = scanT f (t.map smT)
  | 0, _, t, _, hk, _ => by omega
  | k + 1, 0, t, _, _, hf => by omega
  | k + 1, f + 1, [], h, hk, hf => by
    refine ⟨Sum.inr (), ?_, rfl⟩
    simp only [ref11_Prescan_L274, pos_nil]
    simp
  | k + 1, f + 1, c :: r, h, hk, hf => by
    have hl := suf_len h
    simp only [List.length_cons] at hk hf hl
    simp only [ref11_Prescan_L274, decide_eq_true (pos_lt h), if_true, decide_eq_true (pos_nn b (c :: r)), Option.bind_some, pos_ix h, eqB c 60 60 rfl]
    by_cases c60 : ¬ c = 60
    · rw [if_pos (by simp [c60]), pos_tl h hL, List.map_cons]
      simp only [scanT, step_plain (fun e => c60 ((sm_eq (by decide)).1 e)), if_true]
      exact ref_scan_loop hL k f r (suf_tl h) (by omega) (by omega)
    replace c60 : c = 60 := Decidable.not_not.1 c60
    rw [if_neg (by simp [c60])]
    have hT : (c :: r).map smT = 60 :: r.map smT := by rw [c60]; rfl
    have tail : ∀ q : Sum Int Int, relS b (c :: r) q (stepT (60 :: r.map smT)) →
        ∃ o, goK (ref11_Prescan_L274 b k) q = some o ∧ valS o = scanT (f + 1) ((c :: r).map smT) := fun q hq => by
      rw [hT]
      simp only [scanT]
      rcases hs : stepT (60 :: r.map smT) with _ | ⟨e, x⟩
      · rw [hs] at hq
        rcases hq with rfl | ⟨j, rfl, hj⟩
        · exact ⟨_, rfl, rfl⟩
        · refine ⟨Sum.inl 0, ?_, rfl⟩
          unfold goK
          dsimp only
          rw [if_pos (decide_eq_true hj)]
      · rw [hs] at hq
        have hsuf := step_suf (by simp) hs
        unfold relS at hq
        dsimp only at hq ⊢
        by_cases e0 : e = 0
        · rw [if_pos e0] at hq ⊢
          obtain ⟨j, t', rfl, hj, hp, hx, hsu⟩ := hq
          have hlx := hsuf.2
          rw [← hx] at hlx ⊢
          simp only [List.length_cons, List.length_map] at hlx
          unfold goK
          dsimp only
          rw [if_neg (by simp only [decide_eq_true_eq]; omega), hp]
          exact ref_scan_loop hL k f t' (hsu.trans h) (by omega) (by omega)
        · rw [if_neg e0] at hq ⊢
          subst hq
          exact ⟨_, rfl, rfl⟩
    have e1 := ref_begins_eq [60, 33, 45, 45] hL h (by decide)
    have e2 := ref_begins_eq [60, 109, 101, 116, 97] hL h (by decide)
    rw [hT] at e1 e2
    rw [e1]
    simp only [Option.bind_some]
    obtain ⟨S, hst⟩ : ∃ S, S = stepT (60 :: r.map smT) := ⟨_, rfl⟩
    rw [← hst] at tail
    unfold stepT at hst
    by_cases a1 : ([60, 33, 45, 45] : List UInt8).isPrefixOf (60 :: r.map smT) = true
    · rw [if_pos a1]
      have l4 := pre_len a1
      simp only [List.length_cons, List.length_nil, List.length_map] at l4
      have h2 : (c :: r).drop 2 <:+ b := (List.drop_suffix 2 _).trans h
      have e4 : iadd .i64 (pos b (c :: r)) 4 = pos b (((c :: r).drop 2).drop 2) := by
        rw [List.drop_drop]
        exact pos_drop hL h 4 (by omega) (by simp only [List.length_cons]; omega)
      rw [e4, ref_close_dash hL h2]
      simp only [Option.bind_some]
      refine tail (Sum.inr (match occT [45, 45, 62] ((c :: r).drop 2) with | none => -1 | some s => pos b (s.drop 2))) ?_
      rw [if_pos a1] at hst
      have hd : (60 :: r.map smT).drop 2 = ((c :: r).drop 2).map smT := by rw [← hT, List.map_drop]
      rw [hd, occ_lo] at hst
      have o := occ_index [45, 45, 62] ((c :: r).drop 2)
      rcases ho : occT [45, 45, 62] ((c :: r).drop 2) with _ | s
      · rw [ho] at hst
        rw [hst]
        exact .inr ⟨-1, rfl, by decide⟩
      · rw [ho] at hst o
        rw [hst]
        dsimp only at o
        obtain ⟨o1, o2, _⟩ := o
        have l3 := pre_len o2
        simp only [List.length_cons, List.length_nil] at l3
        have hs2 := o1.trans (List.drop_suffix 2 _)
        refine ⟨pos b (s.drop 2), s.drop 3, rfl, pos_nn _ _, ?_, ?_, (List.drop_suffix 3 s).trans hs2⟩
        · have := pos_drop hL ((List.drop_suffix 2 s).trans (o1.trans h2)) 1 (by omega) (by rw [List.length_drop]; omega)
          rw [List.drop_drop] at this
          exact this
        · rw [List.map_drop]
    rw [if_neg a1]
    rw [if_neg a1] at hst
    have hend : isub .i64 (isub .i64 ((b.length : Nat) : Int) 1) 4 = ((b.length : Nat) : Int) - 5 := by
      rw [isub64 (a := ((b.length : Nat) : Int)) (by omega) (by omega), isub64 (by omega) (by omega)]; omega
    have hmt : ((some (([60, 109, 101, 116, 97] : List UInt8).isPrefixOf (60 :: r.map smT))).bind fun r350 => if r350 = true then
          if decide (pos b (c :: r) < isub .i64 (isub .i64 ((b.length : Nat) : Int) 1) 4) = true then
            (ixL b (iadd .i64 (pos b (c :: r)) 5)).bind fun x351 => (ref09_Space x351).bind fun r352 => if r352 = true then some true else (ixL b (iadd .i64 (pos b (c :: r)) 5)).bind fun x353 => some (decide (b2i x353 = b2i (bC 47)))
          else some false
        else some false) = some (mtT (60 :: r.map smT)) := by
      unfold mtT
      rw [← hT]
      cases ([60, 109, 101, 116, 97] : List UInt8).isPrefixOf ((c :: r).map smT) with
      | false => rfl
      | true =>
        have e5 : iadd .i64 (pos b (c :: r)) 5 = ((b.length - (c :: r).length + 5 : Nat) : Int) := pos_add hL h 5 (by omega)
        rw [e5, hend, ixL_nat, pos_get h, List.getElem?_map]
        simp only [Option.bind_some, if_true, Bool.true_and]
        by_cases hlt : 5 < (c :: r).length
        · have hc : decide (pos b (c :: r) < ((b.length : Nat) : Int) - 5) = true := decide_eq_true (by unfold pos; simp only [List.length_cons] at hlt ⊢; omega)
          rw [hc, List.getElem?_eq_getElem hlt]
          simp only [if_true, Option.bind_some, Option.map_some, Space_eq, eqB _ 47 47 rfl, sm_sp, sm_id 47 (by decide)]
          cases spT (c :: r)[5] <;> simp
        · have hc : decide (pos b (c :: r) < ((b.length : Nat) : Int) - 5) = false := decide_eq_false (by unfold pos; simp only [List.length_cons] at hlt ⊢; omega)
          rw [hc, List.getElem?_eq_none (by omega)]
          rfl
    rw [e2, hmt]
    simp only [Option.bind_some]
    by_cases a2 : mtT (60 :: r.map smT) = true
    · rw [if_pos a2]
      rw [if_pos a2] at hst
      have l5 : 5 ≤ (c :: r).length := by
        unfold mtT at a2
        have := pre_len (Bool.and_eq_true_iff.1 a2).1
        simp only [List.length_cons, List.length_nil, List.length_map] at this ⊢
        omega
      have h5 : (c :: r).drop 5 <:+ b := (List.drop_suffix 5 _).trans h
      have e5 : iadd .i64 (pos b (c :: r)) 5 = pos b ((c :: r).drop 5) := pos_drop hL h 5 (by omega) l5
      have hd : (60 :: r.map smT).drop 5 = ((c :: r).drop 5).map smT := by rw [← hT, List.map_drop]
      rw [hd] at hst
      obtain ⟨p, p1, p2⟩ := ref_meta_eq hL h5
      rw [e5, p1]
      simp only [Option.bind_some]
      rcases hm : metaR (((c :: r).drop 5).map smT) with _ | ⟨e, x⟩
      · rw [hm] at p2 hst
        dsimp only at p2
        subst p2
        refine tail (Sum.inr (-1)) ?_
        rw [hst]
        exact .inr ⟨-1, rfl, by decide⟩
      · rw [hm] at p2 hst
        obtain ⟨t', rfl, q2, q3⟩ := p2
        have hsf := metaR_suf hm
        obtain ⟨_, y, hy⟩ := hsf
        have ht' := (q3.trans (List.drop_suffix 5 _))
        dsimp only at hst ⊢
        by_cases e0 : e = 0
        · rw [if_neg (by simp [e0])]
          rw [if_neg (by simp [e0])] at hst
          refine tail (Sum.inr (pos b t')) ?_
          rw [hst]
          obtain ⟨t2, u1, u2, u3⟩ := rel_tail hL (ht'.trans h) (q2.trans hy)
          rw [q2] at u2
          exact ⟨_, t2, rfl, pos_nn _ _, u1, u2, u3.trans ht'⟩
        · rw [if_pos (by simp [e0])]
          rw [if_pos e0] at hst
          refine tail (Sum.inl e) ?_
          rw [hst]
          unfold relS
          dsimp only
          rw [if_neg e0]
    rw [if_neg a2]
    rw [if_neg a2] at hst
    have hlen1 : isub .i64 ((b.length : Nat) : Int) 1 = ((b.length : Nat) : Int) - 1 := isub64 (by omega) (by omega)
    have g1 : iadd .i64 (pos b (c :: r)) 1 = pos b r := pos_tl h hL
    have hr := suf_tl h
    have hlet : ((ref11_letter b (iadd .i64 (pos b (c :: r)) 1)).bind fun r360 => if r360 = true then some true else
          if decide (pos b (c :: r) < isub .i64 ((b.length : Nat) : Int) 1) = true then
            (ixL b (iadd .i64 (pos b (c :: r)) 1)).bind fun x361 => if decide (b2i x361 = b2i (bC 47)) = true then (ref11_letter b (iadd .i64 (pos b (c :: r)) 2)).bind fun r362 => some r362 else some false
          else some false) = some (decide ((([60] : List UInt8).isPrefixOf (60 :: r.map smT) && ltrT (60 :: r.map smT) 1) = true ∨ (([60, 47] : List UInt8).isPrefixOf (60 :: r.map smT) && ltrT (60 :: r.map smT) 2) = true)) := by
      have k1 : ref11_letter b (iadd .i64 (pos b (c :: r)) 1) = some (ltrT ((c :: r).map smT) 1) := ref_letter_eq hL h 1 (by omega)
      have k2 : ref11_letter b (iadd .i64 (pos b (c :: r)) 2) = some (ltrT ((c :: r).map smT) 2) := ref_letter_eq hL h 2 (by omega)
      rw [k1, k2, hT, hlen1, g1]
      generalize ltrT (60 :: r.map smT) 1 = x1
      generalize ltrT (60 :: r.map smT) 2 = x2
      rcases r with _ | ⟨d, s⟩
      · have hc : decide (pos b [c] < ((b.length : Nat) : Int) - 1) = false := decide_eq_false (by unfold pos; simp; omega)
        rw [hc]
        cases x1 <;> simp [List.isPrefixOf]
      · have hc : decide (pos b (c :: d :: s) < ((b.length : Nat) : Int) - 1) = true := decide_eq_true (by unfold pos; simp only [List.length_cons] at hl ⊢; omega)
        rw [hc, pos_ix hr]
        simp only [Option.bind_some, if_true, eqB d 47 47 rfl, List.map_cons, List.isPrefixOf_cons_cons, List.isPrefixOf_nil_left, beq_self_eq_true, Bool.true_and, Bool.and_true, beq_dec, sm_id 47 (by decide)]
        cases x1 <;> cases x2 <;> by_cases hd : d = 47 <;> simp [hd]
    rw [hlet]
    simp only [Option.bind_some]
    by_cases a3 : (([60] : List UInt8).isPrefixOf (60 :: r.map smT) && ltrT (60 :: r.map smT) 1) = true ∨ (([60, 47] : List UInt8).isPrefixOf (60 :: r.map smT) && ltrT (60 :: r.map smT) 2) = true
    · rw [if_pos (decide_eq_true a3)]
      rw [if_pos a3, ← hT, dw_lo sm_gt] at hst
      have hd := suf_dw (p := gtT) h
      have hds := List.dropWhile_suffix gtT (l := c :: r)
      have hdl := suf_len hds
      rw [ref_tag_loop hL _ (c :: r) h (by simp only [List.length_cons]; omega)]
      simp only [Option.bind_some]
      generalize (c :: r).dropWhile gtT = t1 at hd hds hdl hst ⊢
      rcases t1 with _ | ⟨x, y⟩
      · have hz : ref11_Prescan_L394 b 140737488355328 (pos b []) [] [] (pos b []) false false = some (Sum.inl 0) := by
          obtain ⟨o, o1, o2⟩ := ref_tags_loop hL 140737488355328 1 [] (pos b []) [] [] false (List.nil_suffix) (by simp) (by simp)
          rw [o1]
          exact congrArg some o2
        rw [hz]
        refine tail (Sum.inl 0) ?_
        rw [hst]
        exact .inl rfl
      · simp only [List.length_cons] at hdl
        obtain ⟨o, o1, o2⟩ := ref_tags_loop hL 140737488355328 (y.length + 2) (x :: y) (pos b (x :: y)) [] [] false hd (by simp only [List.length_cons]; omega) (by simp only [List.length_cons]; omega)
        rw [o1]
        simp only [Option.bind_some]
        simp only [List.map_cons, List.length_map] at hst
        rw [List.map_cons] at o2
        rcases htg : tagsT (y.length + 2) (smT x :: y.map smT) with _ | z
        · rw [htg] at o2 hst
          dsimp only at o2
          subst o2
          refine tail (Sum.inl 0) ?_
          rw [hst]
          exact .inl rfl
        · rw [htg] at o2 hst
          obtain ⟨t', rfl, q2, q3⟩ := o2
          obtain ⟨_, w, hw⟩ := tags_suf _ _ htg
          have ht' := q3.trans hds
          refine tail (Sum.inr (pos b t')) ?_
          rw [hst]
          obtain ⟨t2, u1, u2, u3⟩ := rel_tail hL (ht'.trans h) (q2.trans hw)
          rw [q2] at u2
          exact ⟨_, t2, rfl, pos_nn _ _, u1, u2, u3.trans ht'⟩
    rw [if_neg (by simpa using a3)]
    rw [if_neg a3] at hst
    have hoth : (if decide (pos b (c :: r) < isub .i64 ((b.length : Nat) : Int) 1) = true then
          (ixL b (iadd .i64 (pos b (c :: r)) 1)).bind fun x402 => if decide (b2i x402 = b2i (bC 33)) = true then some true else
            (ixL b (iadd .i64 (pos b (c :: r)) 1)).bind fun x403 => if decide (b2i x403 = b2i (bC 47)) = true then some true else
              (ixL b (iadd .i64 (pos b (c :: r)) 1)).bind fun x404 => some (decide (b2i x404 = b2i (bC 63)))
        else some false) = some (decide (([60, 33] : List UInt8).isPrefixOf (60 :: r.map smT) = true ∨ ([60, 47] : List UInt8).isPrefixOf (60 :: r.map smT) = true ∨ ([60, 63] : List UInt8).isPrefixOf (60 :: r.map smT) = true)) := by
      rw [hlen1, g1]
      rcases r with _ | ⟨d, s⟩
      · have hc : decide (pos b [c] < ((b.length : Nat) : Int) - 1) = false := decide_eq_false (by unfold pos; simp; omega)
        rw [hc]
        simp [List.isPrefixOf]
      · have hc : decide (pos b (c :: d :: s) < ((b.length : Nat) : Int) - 1) = true := decide_eq_true (by unfold pos; simp only [List.length_cons] at hl ⊢; omega)
        rw [hc, pos_ix hr]
        simp only [Option.bind_some, if_true, eqB d 47 47 rfl, eqB d 33 33 rfl, eqB d 63 63 rfl, List.map_cons, List.isPrefixOf_cons_cons, List.isPrefixOf_nil_left, beq_self_eq_true, Bool.true_and, Bool.and_true, beq_dec, sm_id 47 (by decide), sm_id 33 (by decide), sm_id 63 (by decide)]
        by_cases u1 : d = 33
        · simp [u1]
        · by_cases u2 : d = 47
          · simp [u2]
          · simp [u1, u2]
    rw [hoth]
    simp only [Option.bind_some]
    by_cases a4 : ([60, 33] : List UInt8).isPrefixOf (60 :: r.map smT) = true ∨ ([60, 47] : List UInt8).isPrefixOf (60 :: r.map smT) = true ∨ ([60, 63] : List UInt8).isPrefixOf (60 :: r.map smT) = true
    · rw [if_pos (decide_eq_true a4), ref_close_plain hL h]
      have hp : ∀ c, (fun c => !decide (c = (62 : UInt8))) (smT c) = (fun c => !decide (c = (62 : UInt8))) c := fun c => by simp only [sm_id 62 (by decide)]
      rw [if_pos a4, ← hT, dw_lo hp] at hst
      have hd := suf_dw (p := fun c => !decide (c = (62 : UInt8))) h
      have hds := List.dropWhile_suffix (fun c => !decide (c = (62 : UInt8))) (l := c :: r)
      simp only [Option.bind_some]
      refine tail (Sum.inr (match (c :: r).dropWhile (fun c => !decide (c = (62 : UInt8))) with | [] => -1 | c :: r => pos b (c :: r))) ?_
      rw [hst]
      generalize (c :: r).dropWhile (fun c => !decide (c = (62 : UInt8))) = t1 at hd hds ⊢
      rcases t1 with _ | ⟨x, y⟩
      · exact .inr ⟨-1, rfl, by decide⟩
      · exact ⟨_, y, rfl, pos_nn _ _, pos_tl hd hL, rfl, suf_tl hds⟩
    rw [if_neg (by simpa using a4)]
    rw [if_neg a4] at hst
    simp only [Option.bind_some]
    refine tail (Sum.inr (pos b (c :: r))) ?_
    rw [hst]
    exact ⟨_, r, rfl, pos_nn _ _, g1, rfl, List.suffix_cons c r⟩
theorem ref_Prescan_eq {b : List UInt8} (hl : b.length ≤ 140737488351232) : ref11_Prescan b = some (preT b) := by
  unfold ref11_Prescan preT
  have hj : (if decide ((1024 : Int) < (b.length : Int)) = true then (slL b 0 1024).bind fun s4 => some s4 else some b) = some (b.take 1024) := by
    by_cases h : 1024 < b.length
    · rw [if_pos (by simp only [decide_eq_true_eq]; omega), show slL b 0 1024 = some (b.take 1024) from slL_to (b := 1024) (by omega)]
      rfl
    · rw [if_neg (by simp only [decide_eq_true_eq]; omega), List.take_of_length_le (by omega)]
  rw [hj]
  have h1 : (b.take 1024).length ≤ 1024 := by rw [List.length_take]; omega
  obtain ⟨o, o1, o2⟩ := ref_scan_loop (b := b.take 1024) (by omega) 140737488355328 1025 _ (List.suffix_refl _) (by omega) (by omega)
  rw [pos_all] at o1
  simp only [Option.bind_some, o1, ← o2]
  cases o <;> rfl
end Go.Proofs.YtecpgelhhbbjmaaDoor
