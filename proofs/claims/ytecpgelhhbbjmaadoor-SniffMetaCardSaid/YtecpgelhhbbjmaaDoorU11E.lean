/- sniff, plain: which encodings there are; tame texts. -/
import Derived.Test.YtecpgelhhbbjmaaDoorU11D
namespace Go.Proofs.YtecpgelhhbbjmaaDoor
open Go.Av
set_option linter.unusedVariables false
set_option linter.unusedSimpArgs false
set_option maxRecDepth 100000
def rngE (x : Int) : Prop := 0 ≤ x ∧ x ≤ 3
theorem lbl_rng (s : List UInt8) : rngE (lblT s) := by
  unfold lblT labT rngE
  repeat' split
  all_goals omega
theorem val_rng (s : List UInt8) : rngE (valC s) := by
  unfold valC
  split
  · exact lbl_rng _
  · split
    · split
      · exact lbl_rng _
      · unfold rngE; omega
    · exact lbl_rng _
theorem cnt_rng (s : List UInt8) : rngE (cntT s) := by
  unfold cntT
  split
  · unfold rngE; omega
  · exact val_rng _
theorem metaT_rng : ∀ (f : Nat) (t : List UInt8) (pr nd an : Bool) (cd : Int) (ns : List (List UInt8)) {pr' nd' : Bool} {cd' : Int} {t' : List UInt8}, rngE cd → metaT f pr nd an cd t ns = some (pr', nd', cd', t') → rngE cd'
  | 0, t, _, _, _, _, _, _, _, _, _, _, h => by cases h
  | f + 1, t, pr, nd, an, cd, ns, pr', nd', cd', t', hc, h => by
    simp only [metaT] at h
    rcases ha : attrT t with _ | ⟨nm, v, ok, t2⟩
    · rw [ha] at h; cases h
    rw [ha] at h
    dsimp only at h
    have key : ∀ pr nd an cd ns, rngE cd → metaT f pr nd an cd t2 ns = some (pr', nd', cd', t') → rngE cd' := fun _ _ _ _ _ hc h => metaT_rng f t2 _ _ _ _ _ hc h
    cases ok with
    | false =>
      simp only [if_true, Option.some.injEq, Prod.mk.injEq] at h
      obtain ⟨_, _, rfl, _⟩ := h
      exact hc
    | true =>
      simp only [reduceCtorEq, if_false] at h
      repeat' split at h
      all_goals first | exact key _ _ _ _ _ hc h | exact key _ _ _ _ _ (cnt_rng _) h | exact key _ _ _ _ _ (lbl_rng _) h
theorem metaR_rng {t t' : List UInt8} {c : Int} (h : metaR t = some (c, t')) : rngE c := by
  unfold metaR at h
  rcases hm : metaT (t.length + 1) false false false 0 t [] with _ | ⟨pr, nd, cd, t2⟩
  · rw [hm] at h; cases h
  · rw [hm] at h
    have := metaT_rng _ _ _ _ _ _ _ (by unfold rngE; omega) hm
    simp only [Option.some.injEq, Prod.mk.injEq] at h
    obtain ⟨rfl, _⟩ := h
    unfold rngE at this ⊢
    repeat' split
    all_goals omega
theorem step_rng {t t' : List UInt8} {c : Int} (h : stepT t = some (c, t')) : rngE c := by
  have fin : ∀ (a : Int) (x : List UInt8), rngE a → some (a, x) = some (c, t') → rngE c := fun a x ha e => by
    simp only [Option.some.injEq, Prod.mk.injEq] at e
    rw [← e.1]; exact ha
  have z : rngE 0 := by unfold rngE; omega
  unfold stepT at h
  split at h
  · split at h
    · cases h
    · exact fin _ _ z h
  · split at h
    · rcases hr : metaR (t.drop 5) with _ | ⟨c', t2⟩
      · rw [hr] at h; cases h
      · rw [hr] at h
        dsimp only at h
        split at h
        · exact fin _ _ (metaR_rng hr) h
        · exact fin _ _ z h
    · split at h
      · split at h
        · cases h
        · split at h
          · cases h
          · exact fin _ _ z h
      · split at h
        · split at h
          · cases h
          · exact fin _ _ z h
        · exact fin _ _ z h
theorem scan_rng : ∀ (f : Nat) (t : List UInt8), rngE (scanT f t)
  | 0, t => by simp only [scanT]; unfold rngE; omega
  | f + 1, [] => by simp only [scanT]; unfold rngE; omega
  | f + 1, c :: r => by
    simp only [scanT]
    rcases he : stepT (c :: r) with _ | ⟨e, t'⟩
    · dsimp only; unfold rngE; omega
    · dsimp only
      split
      · exact scan_rng f t'
      · exact step_rng he
theorem pick_rng (cs b : List UInt8) : (pickT cs b).1 = 1 ∨ (pickT cs b).1 = 2 ∨ (pickT cs b).1 = 3 := by
  have h1 := bom_len b
  have h2 := lbl_rng cs
  have h3 : rngE (preT b) := scan_rng _ _
  unfold rngE at h2 h3
  unfold pickT
  repeat' split
  all_goals (try dsimp only)
  all_goals omega
/-! tame texts -/
def tmT (c : UInt8) : UInt8 := if c = 60 ∨ c = 62 then 46 else c
theorem tame_loop (s : List UInt8) (hl : s.length ≤ 140737488351232) : ∀ (k i : Nat) (l : List UInt8), i ≤ s.length → s.length - i < k → l = (s.take i).map tmT ++ s.drop i → law11_tame_L30 k (i : Int) l = some (s.map tmT)
  | 0, i, l, _, hk, _ => by omega
  | k + 1, i, l, hi, hk, ht => by
    simp only [law11_tame_L30]
    have hlen : ((s.take i).map tmT).length = i := by simp; omega
    have hll : l.length = s.length := by rw [ht, List.length_append, hlen, List.length_drop]; omega
    rw [hll]
    by_cases hlt : i < s.length
    · have hx : l[i]? = some s[i] := by
        rw [ht, List.getElem?_append_right (by omega), hlen, Nat.sub_self, drop_step hlt]; rfl
      have hnx : (s.take (i + 1)).map tmT ++ s.drop (i + 1) = l.set i (tmT s[i]) := by
        rw [ht, List.set_append_right _ _ (by omega), hlen, Nat.sub_self, drop_step hlt, List.set_cons_zero, List.take_add_one, List.getElem?_eq_getElem hlt, List.map_append]
        simp
      have hsame : tmT s[i] = s[i] → l.set i (tmT s[i]) = l := fun e => by
        rw [e]; exact (List.getElem?_eq_some_iff.1 hx).2 ▸ List.set_getElem_self _
      have ih := fun (l' : List UInt8) (e : l' = l.set i (tmT s[i])) => tame_loop s hl k (i + 1) l' (by omega) (by omega) (by rw [e, hnx])
      rw [if_pos (by simp; omega), ixL_nat, hx]
      simp only [Option.bind_some, Int.toNat_natCast, eqB _ 60 60 rfl, eqB _ 62 62 rfl]
      rw [iadd64 (by omega) (by omega), ← Int.natCast_add_one]
      have e1 : (if decide (s[i] = 60) = true then some true else some (decide (s[i] = 62))) = some (decide (s[i] = 60 ∨ s[i] = 62)) := by
        by_cases a : s[i] = 60 <;> simp [a]
      rw [e1]
      simp only [Option.bind_some, decide_eq_true_eq]
      by_cases h : s[i] = 60 ∨ s[i] = 62
      · rw [if_pos h]
        exact ih _ (by unfold tmT; rw [if_pos h]; rfl)
      · rw [if_neg h]
        exact ih _ (hsame (by unfold tmT; rw [if_neg h])).symm
    · rw [if_neg (by simp; omega)]
      rw [ht, List.take_of_length_le (by omega), List.drop_eq_nil_of_le (by omega), List.append_nil]
theorem tame_eq {s : List UInt8} (hl : s.length ≤ 140737488351232) : law11_tame s = some ((s.map smT).map tmT) := by
  unfold law11_tame
  rw [Lower_eq hl]
  have := tame_loop (s.map smT) (by rw [List.length_map]; exact hl) 140737488355328 0 (s.map smT) (by omega) (by rw [List.length_map]; omega) (by simp)
  simp only [Int.natCast_zero] at this
  simp only [Option.bind_some]
  rw [szC_ok (by rw [List.length_map]; omega)]
  simp only [Option.bind_some, this]
theorem pre_ne {c : UInt8} {r : List UInt8} (h : c ≠ 60) (w : List UInt8) : (60 :: w : List UInt8).isPrefixOf (c :: r) = false := by
  have : ¬ (60 : UInt8) = c := fun e => h e.symm
  simp [List.isPrefixOf, this]
theorem step_plain {c : UInt8} {r : List UInt8} (h : c ≠ 60) : stepT (c :: r) = some (0, r) := by
  unfold stepT mtT
  simp only [pre_ne h, Bool.false_and, Bool.false_eq_true, if_false, or_self, List.drop_succ_cons, List.drop_zero]
/-- a text without < ahead changes nothing -/
theorem scan_skip : ∀ (a t : List UInt8) (f g : Nat), (∀ c ∈ a, c ≠ 60) → (a ++ t).length < f → t.length < g → scanT f (a ++ t) = scanT g t
  | [], t, f, g, _, hf, hg => scan_fuel f g t hf hg
  | c :: a, t, 0, g, _, hf, _ => by omega
  | c :: a, t, f + 1, g, h, hf, hg => by
    simp only [List.cons_append, List.length_cons] at hf
    rw [List.cons_append]
    simp only [scanT, step_plain (h c (List.mem_cons_self ..)), if_true]
    exact scan_skip a t f g (fun x hx => h x (List.mem_cons_of_mem _ hx)) (by omega) hg
end Go.Proofs.YtecpgelhhbbjmaaDoor
