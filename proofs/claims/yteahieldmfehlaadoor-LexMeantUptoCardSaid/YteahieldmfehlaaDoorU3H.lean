/- lex, plain: what is written of a media type is read as it. -/
import Derived.Test.YteahieldmfehlaaDoorU3G
namespace Go.Proofs.YteahieldmfehlaaDoor
open Go.Av
set_option linter.unusedVariables false
set_option linter.unusedSimpArgs false
set_option maxRecDepth 100000
theorem tch_facts (c : UInt8) (h : tchT c = true) : c ≠ 34 ∧ c ≠ 47 ∧ c ≠ 59 ∧ c ≠ 61 ∧ blT c = false ∧ quoT c = true :=
  (of_decide_eq_true (all256 (p := fun c => decide (tchT c = true → c ≠ 34 ∧ c ≠ 47 ∧ c ≠ 59 ∧ c ≠ 61 ∧ blT c = false ∧ quoT c = true)) (by kernel_rfl) c) : _) h
theorem tch_lo (c : UInt8) : tchT (loT c) = tchT c ∧ loT (loT c) = loT c :=
  of_decide_eq_true (all256 (p := fun c => decide (tchT (loT c) = tchT c ∧ loT (loT c) = loT c)) (by kernel_rfl) c)
theorem tch_59 : tchT 59 = false := by kernel_rfl
theorem tch_61 : tchT 61 = false := by kernel_rfl
theorem lw_facts {s : List UInt8} (h : lwT s = true) : s ≠ [] ∧ s.all tchT = true ∧ lowT s = s := by
  unfold lwT tokT at h
  simp only [Bool.and_eq_true, Bool.not_eq_true', decide_eq_false_iff_not, decide_eq_true_eq] at h
  exact ⟨h.1.1, h.1.2, h.2⟩
theorem lw_mk {s : List UInt8} (h0 : s ≠ []) (h : s.all tchT = true) : lwT (lowT s) = true := by
  unfold lwT tokT lowT
  simp only [Bool.and_eq_true, Bool.not_eq_true', decide_eq_false_iff_not, decide_eq_true_eq]
  refine ⟨⟨by simpa using h0, ?_⟩, ?_⟩
  · rw [List.all_map]
    rw [List.all_eq_true] at h ⊢
    intro c hc
    show tchT (loT c) = true
    rw [(tch_lo c).1]; exact h c hc
  · rw [List.map_map]
    apply List.map_congr_left
    intro c _
    exact (tch_lo c).2
theorem word_app {y : List UInt8} (hy : ∀ c r, y = c :: r → tchT c = false) : ∀ x : List UInt8, x.all tchT = true → wordT (x ++ y) = x.length
  | [], _ => by
    cases y with
    | nil => rfl
    | cons c r => rw [List.nil_append, wordT_cons, hy c r rfl]; rfl
  | c :: x, h => by
    rw [List.all_cons, Bool.and_eq_true] at h
    rw [List.cons_append, wordT_cons, if_pos h.1, word_app hy x h.2]; rfl
theorem word_take : ∀ x : List UInt8, (x.take (wordT x)).all tchT = true
  | [] => rfl
  | c :: x => by
    rw [wordT_cons]
    split
    · rename_i h
      rw [List.take_succ_cons, List.all_cons, h, word_take x]; rfl
    · rfl
theorem take_ne {x : List UInt8} (h : wordT x ≠ 0) : x.take (wordT x) ≠ [] := fun e => by
  have := congrArg List.length e
  have hw := wordT_le x
  simp at this
  rcases this with h1 | h1
  · exact h h1
  · subst h1; exact h rfl
theorem all_quo {x : List UInt8} (h : x.all tchT = true) : plainT x = true := by
  unfold plainT
  rw [List.all_eq_true] at h ⊢
  exact fun c hc => (tch_facts c (h c hc)).2.2.2.2.2
theorem hd_app (q : List UInt8) : ∀ a : List UInt8, a.all tchT = true → hdT (a ++ 47 :: q) = some (a, q)
  | [], _ => by rw [List.nil_append, hdT, if_pos rfl]
  | c :: a, h => by
    rw [List.all_cons, Bool.and_eq_true] at h
    rw [List.cons_append, hdT, if_neg (tch_facts c h.1).2.1, if_pos h.1, hd_app q a h.2]; rfl
theorem hd_all {r a q : List UInt8} (h : hdT r = some (a, q)) : a.all tchT = true := by
  have hh := hd_word r
  rw [h] at hh
  split at hh
  · split at hh
    · have := Option.some.inj hh
      simp only [Prod.mk.injEq] at this
      rw [this.1]; exact word_take r
    · exact absurd hh (by simp)
  · exact absurd hh (by simp)
theorem par_facts {s rest : List UInt8} {p : List UInt8 × List UInt8} (h0 : wordT s ≠ 0) (h : parT s = some (p, rest)) : lwT p.1 = true ∧ plainT p.2 = true := by
  unfold parT at h
  split at h
  · exact absurd h (by simp)
  · rename_i e r hd
    split at h
    · unfold parV at h
      split at h
      · exact absurd h (by simp)
      · rename_i d q
        split at h
        · obtain ⟨x, hx, he⟩ := Option.map_eq_some_iff.1 h
          simp only [Prod.mk.injEq] at he
          obtain ⟨rfl, rfl⟩ := he
          exact ⟨lw_mk (take_ne h0) (word_take s), uq_plain _ _ _ _ (Nat.le_refl _) hx⟩
        · split at h
          · exact absurd h (by simp)
          · have he := Option.some.inj h
            simp only [Prod.mk.injEq] at he
            obtain ⟨rfl, rfl⟩ := he
            exact ⟨lw_mk (take_ne h0) (word_take s), all_quo (word_take _)⟩
    · exact absurd h (by simp)
/-- what is read can be written -/
theorem mpF_tx : ∀ (n : Nat) (rest : List UInt8) (ps : List (List UInt8 × List UInt8)), mpF n rest = some ps → ∃ b, txF ps = some b
  | 0, rest, ps, h => by rw [← Option.some.inj h]; exact ⟨_, rfl⟩
  | n + 1, rest, ps, h => by
    rw [mpF] at h
    split at h
    · rw [← Option.some.inj h]; exact ⟨_, rfl⟩
    · split at h
      · exact absurd h (by simp)
      · split at h
        · split at h
          · exact mpF_tx n _ _ h
          · rename_i h0
            obtain ⟨p, hp, h2⟩ := Option.bind_eq_some_iff.1 h
            obtain ⟨ps', h3, rfl⟩ := Option.map_eq_some_iff.1 h2
            obtain ⟨b, hb⟩ := mpF_tx n _ _ h3
            have hf := par_facts (p := p.1) (rest := p.2) h0 hp
            exact ⟨oneT p.1 ++ b, by rw [txF, if_pos hf, hb]; rfl⟩
        · exact absurd h (by simp)
theorem media_written {s : List UInt8} (h : (mediaT s).2 = 0) : lwT (mediaT s).1.1 = true ∧ lwT (mediaT s).1.2.1 = true ∧ ∃ b, txF (mediaT s).1.2.2 = some b := by
  unfold mediaT at h ⊢
  split at h
  · exact absurd h (by decide)
  · rename_i a q hd
    split at h
    · exact absurd h (by decide)
    · rename_i ha
      split at h
      · exact absurd h (by decide)
      · rename_i hq
        split at h
        · exact absurd h (by decide)
        · rename_i ps hps
          rw [if_neg ha, if_neg hq]
          exact ⟨lw_mk ha (hd_all hd), lw_mk (take_ne hq) (word_take q), mpF_tx _ _ _ hps⟩
theorem tx_len : ∀ (ps : List (List UInt8 × List UInt8)) (b : List UInt8), txF ps = some b → b.length ≤ wtP ps
  | [], b, h => by rw [← Option.some.inj h]; simp [wtP]
  | p :: ps, b, h => by
    rw [txF] at h
    split at h
    · obtain ⟨b', h1, rfl⟩ := Option.map_eq_some_iff.1 h
      have := tx_len ps b' h1
      have := oneT_len p
      rw [wtP, List.length_append]
      omega
    · exact absurd h (by simp)
/-- a written rest begins with a semicolon, if at all -/
theorem tx_head {ps : List (List UInt8 × List UInt8)} {b : List UInt8} (h : txF ps = some b) : ∀ c r, b = c :: r → tchT c = false := by
  intro c r e
  cases ps with
  | nil => rw [← Option.some.inj h] at e; exact absurd e (by simp)
  | cons p ps =>
    rw [txF] at h
    split at h
    · obtain ⟨b', h1, rfl⟩ := Option.map_eq_some_iff.1 h
      unfold oneT at e
      simp only [List.cons_append] at e
      rw [← (List.cons.inj e).1]; exact tch_59
    · exact absurd h (by simp)
theorem cutL_tch {x y : List UInt8} (h0 : x ≠ []) (h : x.all tchT = true) : cutL (x ++ y) = x ++ y := by
  cases x with
  | nil => exact absurd rfl h0
  | cons c x =>
    rw [List.all_cons, Bool.and_eq_true] at h
    unfold cutL
    rw [List.cons_append, List.dropWhile_cons, (tch_facts c h.1).2.2.2.2.1]; rfl
theorem par_read {p : List UInt8 × List UInt8} {b : List UInt8} (h1 : lwT p.1 = true) (h2 : plainT p.2 = true) (hb : ∀ c r, b = c :: r → tchT c = false) :
    parT (p.1 ++ 61 :: (valT p.2 ++ b)) = some (p, b) := by
  obtain ⟨f0, f1, f2⟩ := lw_facts h1
  have hw : wordT (p.1 ++ 61 :: (valT p.2 ++ b)) = p.1.length := word_app (fun c r e => by rw [← (List.cons.inj e).1]; exact tch_61) p.1 f1
  unfold parT
  rw [hw, List.drop_left]
  simp only [if_true]
  unfold parV valT
  by_cases ht : tokT p.2 = true
  · rw [if_pos ht]
    unfold tokT at ht
    simp only [Bool.and_eq_true, Bool.not_eq_true', decide_eq_false_iff_not] at ht
    have hw2 := word_app hb p.2 ht.2
    have ht1 := ht.1
    have ht2 := ht.2
    obtain ⟨n, v⟩ := p
    simp only at *
    cases v with
    | nil => exact absurd rfl ht1
    | cons d q =>
      rw [List.all_cons, Bool.and_eq_true] at ht2
      simp only [List.cons_append] at hw2 ⊢
      rw [if_neg (tch_facts d ht2.1).1, hw2, if_neg (by simp)]
      have e1 : (d :: (q ++ b)).take (d :: q).length = d :: q := by rw [← List.cons_append, List.take_left]
      have e2 : (d :: (q ++ b)).drop (d :: q).length = b := by rw [← List.cons_append, List.drop_left]
      rw [e1, e2]
      have hw' : wordT (n ++ 61 :: (d :: (q ++ b))) = n.length := word_app (fun c r e => by rw [← (List.cons.inj e).1]; exact tch_61) n f1
      rw [hw', List.take_left, f2]
  · rw [if_neg ht]
    unfold quoteT
    rw [if_pos h2]
    simp only [List.cons_append, List.nil_append, List.append_assoc, List.singleton_append, if_true]
    rw [uq_esc b p.2 h2]
    have hw' : wordT (p.1 ++ 61 :: (34 :: (escT p.2 ++ 34 :: b))) = p.1.length := word_app (fun c r e => by rw [← (List.cons.inj e).1]; exact tch_61) p.1 f1
    simp only [Option.map_some]
    rw [hw', List.take_left, f2, ← List.drop_drop, List.drop_left]
    rfl
theorem mpF_read : ∀ (ps : List (List UInt8 × List UInt8)) (b : List UInt8) (n : Nat), txF ps = some b → b.length < n → mpF n b = some ps
  | _, b, 0, _, h => by omega
  | [], b, n + 1, h, _ => by rw [← Option.some.inj h]; rfl
  | p :: ps, b, n + 1, h, hn => by
    rw [txF] at h
    split at h
    · rename_i hp
      obtain ⟨b', h1, rfl⟩ := Option.map_eq_some_iff.1 h
      obtain ⟨f0, f1, f2⟩ := lw_facts hp.1
      have e : oneT p ++ b' = 59 :: 32 :: (p.1 ++ 61 :: (valT p.2 ++ b')) := by unfold oneT; simp
      rw [e] at hn ⊢
      have c1 : cutL (59 :: 32 :: (p.1 ++ 61 :: (valT p.2 ++ b'))) = 59 :: 32 :: (p.1 ++ 61 :: (valT p.2 ++ b')) := rfl
      have c2 : cutL (32 :: (p.1 ++ 61 :: (valT p.2 ++ b'))) = p.1 ++ 61 :: (valT p.2 ++ b') := by
        have : cutL (32 :: (p.1 ++ 61 :: (valT p.2 ++ b'))) = cutL (p.1 ++ 61 :: (valT p.2 ++ b')) := rfl
        rw [this]; exact cutL_tch f0 f1
      have hw : wordT (p.1 ++ 61 :: (valT p.2 ++ b')) = p.1.length := word_app (fun c r e => by rw [← (List.cons.inj e).1]; exact tch_61) p.1 f1
      have hl : p.1.length ≠ 0 := fun e => f0 (List.length_eq_zero_iff.1 e)
      rw [mpF, if_neg (by simp), c1]
      simp only [if_true, c2]
      rw [hw, if_neg hl, par_read hp.1 hp.2 (tx_head h1)]
      simp only [Option.bind_some]
      rw [mpF_read ps b' n h1 (by simp at hn; omega)]
      rfl
    · exact absurd h (by simp)
/-- ends in no blank -/
def lastT (x : List UInt8) : Prop := ∃ q c, x = q ++ [c] ∧ blT c = false
theorem last_app {x y : List UInt8} (h : lastT y) : lastT (x ++ y) := by
  obtain ⟨q, c, rfl, h2⟩ := h
  exact ⟨x ++ q, c, by simp, h2⟩
theorem last_tch {x : List UInt8} (h0 : x ≠ []) (h : x.all tchT = true) : lastT x := by
  rcases List.eq_nil_or_concat x with rfl | ⟨q, c, rfl⟩
  · exact absurd rfl h0
  · rw [List.all_eq_true] at h
    exact ⟨q, c, by simp, (tch_facts c (h c (by simp))).2.2.2.2.1⟩
theorem last_val {v : List UInt8} (h : plainT v = true) : lastT (valT v) := by
  unfold valT
  by_cases ht : tokT v = true
  · rw [if_pos ht]
    unfold tokT at ht
    simp only [Bool.and_eq_true, Bool.not_eq_true', decide_eq_false_iff_not] at ht
    exact last_tch ht.1 ht.2
  · rw [if_neg ht]
    unfold quoteT
    rw [if_pos h]
    exact ⟨[34] ++ escT v, 34, rfl, rfl⟩
theorem last_tx : ∀ (ps : List (List UInt8 × List UInt8)) (b x : List UInt8), txF ps = some b → lastT x → lastT (x ++ b)
  | [], b, x, h, hx => by rw [← Option.some.inj h, List.append_nil]; exact hx
  | p :: ps, b, x, h, hx => by
    rw [txF] at h
    split at h
    · rename_i hp
      obtain ⟨b', h1, rfl⟩ := Option.map_eq_some_iff.1 h
      rw [← List.append_assoc]
      refine last_tx ps b' _ h1 (last_app ?_)
      unfold oneT
      exact last_app (last_val hp.2)
    · exact absurd h (by simp)
theorem media_read {m : Med} {t x y : List UInt8} (ht : textT m = t) (h0 : t ≠ []) (hx : ∀ c ∈ x, blT c = true) (hy : ∀ c ∈ y, blT c = true) : mediaT (x ++ t ++ y) = (m, 0) := by
  unfold textT at ht
  by_cases hm : lwT m.1 = true ∧ lwT m.2.1 = true
  · rw [if_pos hm] at ht
    cases hb : txF m.2.2 with
    | none => rw [hb] at ht; exact absurd ht.symm h0
    | some b =>
      rw [hb] at ht
      simp only at ht
      obtain ⟨f0, f1, f2⟩ := lw_facts hm.1
      obtain ⟨g0, g1, g2⟩ := lw_facts hm.2
      have e : t = m.1 ++ 47 :: (m.2.1 ++ b) := by rw [← ht]; simp
      have htrim : trimT (x ++ t ++ y) = t := by
        refine trim_mid hx hy ?_ ?_
        · intro c p he
          cases hm1 : m.1 with
          | nil => exact absurd hm1 f0
          | cons d r =>
            rw [hm1, List.all_cons, Bool.and_eq_true] at f1
            rw [e, hm1] at he
            rw [← (List.cons.inj he).1]
            exact (tch_facts d f1.1).2.2.2.2.1
        · intro q c he
          have hl : lastT t := by
            rw [← ht]
            exact last_tx _ _ _ hb (last_app (last_tch g0 g1))
          obtain ⟨q', c', h1, h2⟩ := hl
          rw [h1] at he
          have := (List.append_inj' he rfl).2
          rw [← (List.cons.inj this).1]; exact h2
      have hw : wordT (m.2.1 ++ b) = m.2.1.length := word_app (tx_head hb) _ g1
      unfold mediaT
      rw [htrim, e, hd_app _ _ f1]
      simp only
      rw [if_neg f0, hw, if_neg (fun e => g0 (List.length_eq_zero_iff.1 e)), List.drop_left, List.take_left, mpF_read _ _ _ hb (by simp; omega), f2, g2]
  · rw [if_neg hm] at ht
    exact absurd ht.symm h0
theorem textT_len (m : Med) : (textT m).length ≤ m.1.length + m.2.1.length + 1 + wtP m.2.2 := by
  unfold textT
  split
  · split
    · simp
    · rename_i b hb
      have := tx_len _ _ hb
      simp
      omega
  · simp
end Go.Proofs.YteahieldmfehlaaDoor
