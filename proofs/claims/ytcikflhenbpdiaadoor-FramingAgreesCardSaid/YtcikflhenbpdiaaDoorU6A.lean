/- How a body ends: the program's answer and the reference's, of the values of two names. -/
import Derived.Test.YtcikflhenbpdiaaDoorU4D
import Derived.Test.YtcikflhenbpdiaaDoorU2B
import Derived.Test.YtcikflhenbpdiaaDoorGG
import Derived.Test.YtcikflhenbpdiaaDoorGI
namespace Go.Proofs.YtcikflhenbpdiaaDoor
open Go.Av
set_option linter.unusedVariables false
set_option linter.unusedSimpArgs false
set_option maxRecDepth 100000
/-- the letters of a list's members are the list's -/
theorem lsT_mem : ∀ (n : Nat) (m : Nat) (r cur : List UInt8) (l : List (List UInt8)), r.length ≤ n → lsT m cur r = some l → ∀ x ∈ l, x.length ≤ cur.length + r.length
  | n, m, [], cur, l, _, h => by
    rw [lsT] at h
    split at h
    · rw [← Option.some.inj h]; unfold addT; split
      · simp
      · intro x hx; simp at hx; subst hx; have := trimT_len cur; simp; exact this
    · exact absurd h (by simp)
  | 0, m, c :: r, cur, l, hn, _ => by simp at hn
  | n + 1, m, c :: r, cur, l, hn, h => by
    have hl : r.length ≤ n := by simpa using hn
    have ih := fun m cur l => lsT_mem n m r cur l hl
    rw [lsT] at h
    have key : ∀ {m : Nat}, lsT m (cur ++ [c]) r = some l → ∀ x ∈ l, x.length ≤ cur.length + (c :: r).length := fun e x hx => by have := ih _ _ _ e x hx; simp at this ⊢; omega
    split at h
    · split at h
      · exact key h
      · split at h
        · obtain ⟨l', h1, h2⟩ := Option.map_eq_some_iff.1 h
          have := ih _ _ _ h1
          rw [← h2]
          unfold addT
          have ht := trimT_len cur
          split
          · intro x hx; have := this x hx; simp at this ⊢; omega
          · intro x hx
            rcases List.mem_cons.1 hx with rfl | hx
            · omega
            · have := this x hx; simp at this ⊢; omega
        · exact key h
    · split at h
      · split at h
        · exact key h
        · split at h
          · exact key h
          · split at h
            · exact key h
            · exact absurd h (by simp)
      · split at h
        · exact key h
        · exact absurd h (by simp)
theorem mbF_mem : ∀ (vs : List (List UInt8)) (l : List (List UInt8)), mbF vs = some l → ∀ x ∈ l, x.length ≤ wtV vs
  | [], l, h => by simp [mbF] at h; subst h; simp
  | v :: vs, l, h => by
    simp only [mbF] at h
    obtain ⟨m, h1, h2⟩ := Option.bind_eq_some_iff.1 h
    obtain ⟨l', h3, rfl⟩ := Option.map_eq_some_iff.1 h2
    intro x hx
    simp only [wtV]
    rcases List.mem_append.1 hx with hx | hx
    · have := lsT_mem _ _ _ _ _ (Nat.le_refl _) h1 x hx; simp at this; omega
    · have := mbF_mem vs l' h3 x hx; omega
theorem membT_mem {vs : List (List UInt8)} : ∀ x ∈ (membT vs).1, x.length ≤ wtV vs := by
  unfold membT
  cases h : mbF vs with
  | none => simp [lsR]
  | some l => simpa [lsR] using mbF_mem vs l h
theorem mbF_len : ∀ (vs : List (List UInt8)) (l : List (List UInt8)), mbF vs = some l → l.length ≤ wtV vs
  | [], l, h => by simp [mbF] at h; subst h; simp
  | v :: vs, l, h => by
    simp only [mbF] at h
    obtain ⟨m, h1, h2⟩ := Option.bind_eq_some_iff.1 h
    obtain ⟨l', h3, rfl⟩ := Option.map_eq_some_iff.1 h2
    have a := lsT_len _ _ _ _ _ (Nat.le_refl _) h1
    have b := mbF_len vs l' h3
    simp only [wtV, List.length_append]; omega
theorem membT_len {vs : List (List UInt8)} : (membT vs).1.length ≤ wtV vs := by
  unfold membT
  cases h : mbF vs with
  | none => simp [lsR]
  | some l => simpa [lsR] using mbF_len vs l h
theorem numS_nonneg (b : Nat) (s : List UInt8) : 0 ≤ (numS b s).1 := by
  unfold numS; repeat' split
  all_goals simp
/-- lengths that are one -/
def lenT : Int → List (List UInt8) → Int × Int
  | n, [] => (n, 0)
  | n, s :: r => if (numS 10 s).2 ≠ 0 ∨ (0 ≤ n ∧ (numS 10 s).1 ≠ n) then (0, 20) else lenT (numS 10 s).1 r
def lengthT (vs : List (List UInt8)) : Int × Int := if (membT vs).2 ≠ 0 ∨ (membT vs).1 = [] then (0, 20) else lenT (-1) (membT vs).1
def teN : List UInt8 := [116, 114, 97, 110, 115, 102, 101, 114, 45, 101, 110, 99, 111, 100, 105, 110, 103]
def clN : List UInt8 := [99, 111, 110, 116, 101, 110, 116, 45, 108, 101, 110, 103, 116, 104]
def chN : List UInt8 := [99, 104, 117, 110, 107, 101, 100]
def isChunked (vs : List (List UInt8)) : Bool := decide ((membT vs).2 = 0) && (match (membT vs).1 with | [x] => sameT x chN | _ => false)
def saidT (C L : List (List UInt8)) (op : Int) : (Int × Int) × Int :=
  if C ≠ [] ∧ L ≠ [] then ((0, 0), 19)
  else if C ≠ [] then (if isChunked C then ((2, 0), 0) else ((0, 0), 21))
  else if L ≠ [] then (if (lengthT L).2 ≠ 0 then ((0, 0), (lengthT L).2) else if 8192 < (lengthT L).1 then ((0, 0), 23) else ((1, (lengthT L).1), 0))
  else ((op, 0), 0)
/-- what a value leaves of fuel and room -/
structure RoomF (l : List Fld) : Prop where
  ok : okF l
  te : wtV (allT l teN) ≤ 16777216
  cl : wtV (allT l clN) ≤ 16777216
theorem roomF_of {l : List Fld} (h : sumM mFld l ≤ 16777216) : RoomF l := ⟨okF_of h, Nat.le_trans (wtV_all _ l) h, Nat.le_trans (wtV_all _ l) h⟩
theorem outL {r : List (List UInt8)} (hr : r.length ≤ 16777216) (hm : ∀ x ∈ r, x.length ≤ 16777216) (e : Int) : ∀ (k i : Nat) (n : Int), i ≤ r.length → r.length - i < k →
    ((framing_length_L17 (r, e) k n (i : Int)).bind fun o22 => match o22 with
      | Sum.inl r => some r
      | Sum.inr j23 => some (j23, (0 : Int))) = some (lenT n (r.drop i)) := by
  intro k
  induction k with
  | zero => intro i n _ h; omega
  | succ k ih =>
    intro i n hi hk
    simp only [framing_length_L17]
    by_cases hlt : i < r.length
    · rw [if_pos (decide_eq_true (by omega)), ixL_in hlt, drop_step hlt]
      have hx := hm r[i] (List.getElem_mem hlt)
      simp only [Option.bind_some, lenT]
      rw [decimal_eq _ (by omega)]
      simp only [Option.bind_some]
      generalize numS 10 r[i] = q
      by_cases h1 : q.2 = 0
      · by_cases h2 : 0 ≤ n
        · by_cases h3 : q.1 = n
          · simp only [h1, h2, h3, decide_true, Bool.not_true, Bool.false_eq_true, if_false, if_true, Option.bind_some, ne_eq, not_true, and_false, or_self]
            rw [iadd64 (by omega) (by omega), show (i : Int) + 1 = ((i + 1 : Nat) : Int) by omega]
            exact ih (i + 1) n hlt (by omega)
          · simp [h1, h2, h3]
        · simp only [h1, h2, decide_true, decide_false, Bool.not_true, Bool.false_eq_true, if_false, Option.bind_some, ne_eq, not_true, false_and, or_self]
          rw [iadd64 (by omega) (by omega), show (i : Int) + 1 = ((i + 1 : Nat) : Int) by omega]
          exact ih (i + 1) q.1 hlt (by omega)
      · simp [h1]
    · rw [if_neg (by simp; omega), List.drop_eq_nil_of_le (by omega)]
      rfl
theorem length_eq {l : List Fld} (h : RoomF l) : framing_length l = some (lengthT (allT l clN)) := by
  unfold framing_length lengthT
  rw [show ([99, 111, 110, 116, 101, 110, 116, 45, 108, 101, 110, 103, 116, 104] : List UInt8) = clN from rfl, Members_eq h.ok (by decide) h.cl]
  have hm := membT_mem (vs := allT l clN)
  have hl := membT_len (vs := allT l clN)
  have hc := h.cl
  generalize allT l clN = vs at *
  rcases hq : membT vs with ⟨r, e⟩
  rw [hq] at hm hl
  simp only [Option.bind_some]
  by_cases h1 : e = 0
  · by_cases h2 : r = []
    · simp [h1, h2]
    · have := outL (r := r) (by simp at hl; omega) (fun x hx => Nat.le_trans (hm x hx) hc) e 1099511627776 0 (-1) (by omega) (by simp at hl; omega)
      rw [List.drop_zero, show ((0 : Nat) : Int) = 0 from rfl] at this
      simp only [h1] at this ⊢
      have hl0 : ¬ ((List.length r : Nat) : Int) = 0 := by have := List.length_pos_iff.2 h2; omega
      simp only [hl0, h2, decide_true, decide_false, Bool.not_true, Bool.false_eq_true, if_false, Option.bind_some, ne_eq, not_true, or_self]
      exact this
  · simp [h1]
theorem chunk_same {vs : List (List UInt8)} (hm : ∀ x ∈ (membT vs).1, x.length ≤ 16777216) : ((show Option Bool from
          if !decide ((membT vs).2 = 0) then
            some true
          else
            if !decide (((List.length (membT vs).1 : Nat) : Int) = 1) then
              some true
            else
              (ixL (membT vs).1 0).bind fun x11 =>
              (lex_Same x11 chN).bind fun r12 =>
              some (!r12))) = some (!isChunked vs) := by
  unfold isChunked
  rcases hq : membT vs with ⟨r, e⟩
  rw [hq] at hm
  by_cases h1 : e = 0
  · subst h1
    match r, hm with
    | [], _ => simp
    | [x], hm =>
      have hx := hm x (by simp)
      have : ixL [x] (0 : Int) = some x := rfl
      simp only [decide_true, Bool.not_true, Bool.false_eq_true, if_false, List.length_cons, List.length_nil, Nat.zero_add, Int.ofNat_one, this, Option.bind_some, Same_eq hx (show chN.length ≤ 16777216 by decide), Bool.true_and]
    | x :: y :: t, _ => simp; omega
  · simp [h1]
theorem said_eq {l : List Fld} (h : RoomF l) (op : Int) : framing_said l op = some (saidT (allT l teN) (allT l clN) op) := by
  unfold framing_said saidT
  rw [show ([99, 111, 110, 116, 101, 110, 116, 45, 108, 101, 110, 103, 116, 104] : List UInt8) = clN from rfl, show ([116, 114, 97, 110, 115, 102, 101, 114, 45, 101, 110, 99, 111, 100, 105, 110, 103] : List UInt8) = teN from rfl, show ([99, 104, 117, 110, 107, 101, 100] : List UInt8) = chN from rfl]
  rw [Count_eq h.ok (by decide), Count_eq h.ok (by decide), Members_eq h.ok (by decide) h.te, length_eq h]
  have hcs := chunk_same (vs := allT l teN) (fun x hx => Nat.le_trans (membT_mem x hx) h.te)
  have hz : ∀ vs : List (List UInt8), decide ((0 : Int) < ((vs.length : Nat) : Int)) = decide (vs ≠ []) := fun vs => by
    cases vs with
    | nil => rfl
    | cons a r => simp
  simp only [Option.bind_some, hz]
  generalize allT l teN = C at *
  generalize allT l clN = L at *
  by_cases hC : C = []
  · by_cases hL : L = []
    · simp [hC, hL]
    · simp only [hC, hL, ne_eq, not_true, not_false_iff, decide_true, decide_false, Bool.false_eq_true, if_false, if_true, Option.bind_some, false_and]
      generalize lengthT L = q
      by_cases h1 : q.2 = 0
      · simp only [h1, decide_true, Bool.not_true, Bool.false_eq_true, if_false, ne_eq, not_true]
        by_cases h2 : 8192 < q.1 <;> simp [h2]
      · simp [h1]
  · by_cases hL : L = []
    · simp only [hC, hL, ne_eq, not_true, not_false_iff, decide_true, decide_false, Bool.false_eq_true, if_false, if_true, Option.bind_some, and_false]
      replace hcs := hcs
      dsimp only at hcs
      rw [hcs]
      cases isChunked C <;> rfl
    · simp [hC, hL]
/-! the reference's -/
def lenOK (f : Int) (s : List UInt8) : Bool := decide ((numS 10 s).2 = 0) && decide ((numS 10 s).1 = f)
theorem lenT_ref (f : Int) (hf : 0 ≤ f) : ∀ r : List (List UInt8), lenT f r = cond (r.all (lenOK f)) (f, 0) (0, 20)
  | [] => rfl
  | s :: r => by
    have ih := lenT_ref f hf r
    simp only [lenT, List.all_cons]
    have e : lenOK f s = (decide ((numS 10 s).2 = 0) && decide ((numS 10 s).1 = f)) := rfl
    rw [e]
    clear e
    generalize r.all (lenOK f) = A at *
    generalize numS 10 s = q
    by_cases h1 : q.2 = 0
    · by_cases h2 : q.1 = f
      · rw [if_neg (by simp [h1, h2]), h2, ih]
        simp [h1]
      · rw [if_pos (.inr ⟨hf, h2⟩)]
        simp [h2]
    · rw [if_pos (.inl h1)]
      simp [h1]
theorem ref_outL {r : List (List UInt8)} (hr : r.length ≤ 16777216) (hm : ∀ x ∈ r, x.length ≤ 16777216) (e : Int) (q : Int × Int) : ∀ (k i : Nat), i ≤ r.length → r.length - i < k →
    ref06_length_L17 (r, e) q k (i : Int) = some (cond ((r.drop i).all (lenOK q.1)) (Sum.inr ()) (Sum.inl (0, 20))) := by
  intro k
  induction k with
  | zero => intro i _ h; omega
  | succ k ih =>
    intro i hi hk
    simp only [ref06_length_L17]
    by_cases hlt : i < r.length
    · rw [if_pos (decide_eq_true (by omega)), ixL_in hlt, drop_step hlt]
      have hx := hm r[i] (List.getElem_mem hlt)
      simp only [Option.bind_some, List.all_cons]
      rw [refDecimal_eq _ (by omega)]
      have e2 : lenOK q.1 r[i] = (decide ((numS 10 r[i]).2 = 0) && decide ((numS 10 r[i]).1 = q.1)) := rfl
      rw [e2]
      have hn := ih (i + 1) hlt (by omega)
      generalize (r.drop (i + 1)).all (lenOK q.1) = A at *
      simp only [Option.bind_some]
      generalize numS 10 r[i] = p
      by_cases h1 : p.2 = 0
      · by_cases h2 : p.1 = q.1
        · rw [iadd64 (by omega) (by omega), show (i : Int) + 1 = ((i + 1 : Nat) : Int) by omega, hn]
          simp [h1, h2]
        · simp [h1, h2]
      · simp [h1]
    · rw [if_neg (by simp; omega), List.drop_eq_nil_of_le (by omega)]
      rfl
theorem ref_length_eq {l : List Fld} (h : RoomF l) : ref06_length l = some (lengthT (allT l clN)) := by
  unfold ref06_length lengthT
  rw [show ([99, 111, 110, 116, 101, 110, 116, 45, 108, 101, 110, 103, 116, 104] : List UInt8) = clN from rfl, ref_Members_eq h.ok (by decide) h.cl]
  have hm := membT_mem (vs := allT l clN)
  have hl := membT_len (vs := allT l clN)
  have hc := h.cl
  generalize allT l clN = vs at *
  rcases hq : membT vs with ⟨r, e⟩
  rw [hq] at hm hl
  simp only [Option.bind_some]
  by_cases h1 : e = 0
  · match r, hm, hl with
    | [], _, _ => simp [h1]
    | s :: r, hm, hl =>
      have hs := hm s (by simp)
      have h0 : ixL (s :: r) (0 : Int) = some s := rfl
      have hl0 : ¬ ((List.length (s :: r) : Nat) : Int) = 0 := by simp; omega
      simp only [h1, hl0, h0, decide_true, decide_false, Bool.not_true, Bool.false_eq_true, if_false, Option.bind_some, ne_eq, not_true, or_self, reduceCtorEq]
      rw [refDecimal_eq _ (by omega)]
      simp only [Option.bind_some, lenT]
      have hn := numS_nonneg 10 s
      have hall : ∀ f, List.all (s :: r) (lenOK f) = (lenOK f s && r.all (lenOK f)) := fun f => List.all_cons
      simp only at hl
      have := ref_outL (r := s :: r) (by omega) (fun x hx => Nat.le_trans (hm x hx) hc) 0 (numS 10 s) 1099511627776 1 (by simp) (by omega)
      rw [show ((1 : Nat) : Int) = 1 from rfl, List.drop_succ_cons, List.drop_zero] at this
      rw [lenT_ref _ hn]
      generalize r.all (lenOK (numS 10 s).1) = A at *
      rw [this]
      clear this hall
      generalize numS 10 s = p at *
      by_cases h2 : p.2 = 0
      · rw [if_neg (by simp [h2]), if_neg (by simp [h2])]
        cases A <;> simp
      · simp [h2]
  · simp [h1]
theorem ref_chunked_eq {l : List Fld} (h : RoomF l) : ref06_chunked l = some (isChunked (allT l teN)) := by
  unfold ref06_chunked isChunked
  rw [show ([116, 114, 97, 110, 115, 102, 101, 114, 45, 101, 110, 99, 111, 100, 105, 110, 103] : List UInt8) = teN from rfl, show ([99, 104, 117, 110, 107, 101, 100] : List UInt8) = chN from rfl, ref_Members_eq h.ok (by decide) h.te]
  have hm : ∀ x ∈ (membT (allT l teN)).1, x.length ≤ 16777216 := fun x hx => Nat.le_trans (membT_mem x hx) h.te
  generalize allT l teN = vs at *
  rcases hq : membT vs with ⟨r, e⟩
  rw [hq] at hm
  by_cases h1 : e = 0
  · subst h1
    match r, hm with
    | [], _ => simp
    | [x], hm =>
      have hx := hm x (by simp)
      have : ixL [x] (0 : Int) = some x := rfl
      simp only [decide_true, Bool.not_true, Bool.false_eq_true, if_false, List.length_cons, List.length_nil, Nat.zero_add, Int.ofNat_one, this, Option.bind_some, ref_Same_eq hx (show chN.length ≤ 16777216 by decide), Bool.true_and]
    | x :: y :: t, _ => simp; omega
  · simp [h1]
def bodyT (C L : List (List UInt8)) (no : Bool) (op : Int) : (Int × Int) × Int :=
  if C ≠ [] ∧ L ≠ [] then ((0, 0), 19)
  else if C ≠ [] then (if isChunked C then (if no then ((0, 0), 0) else ((2, 0), 0)) else ((0, 0), 21))
  else if L ≠ [] then (if (lengthT L).2 ≠ 0 then ((0, 0), (lengthT L).2) else if no then ((0, 0), 0) else if 8192 < (lengthT L).1 then ((0, 0), 23) else ((1, (lengthT L).1), 0))
  else if no then ((0, 0), 0) else ((op, 0), 0)
theorem body_eq {l : List Fld} (h : RoomF l) (no : Bool) (op : Int) : ref06_body l no op = some (bodyT (allT l teN) (allT l clN) no op) := by
  unfold ref06_body bodyT
  rw [show ([99, 111, 110, 116, 101, 110, 116, 45, 108, 101, 110, 103, 116, 104] : List UInt8) = clN from rfl, show ([116, 114, 97, 110, 115, 102, 101, 114, 45, 101, 110, 99, 111, 100, 105, 110, 103] : List UInt8) = teN from rfl]
  rw [ref_All_eq h.ok (by decide), ref_All_eq h.ok (by decide), ref_length_eq h, ref_chunked_eq h]
  have hz : ∀ vs : List (List UInt8), decide ((0 : Int) < ((vs.length : Nat) : Int)) = decide (vs ≠ []) := fun vs => by
    cases vs with
    | nil => rfl
    | cons a r => simp
  simp only [Option.bind_some, hz]
  generalize allT l teN = C at *
  generalize allT l clN = L at *
  by_cases hC : C = []
  · by_cases hL : L = []
    · cases no <;> simp [hC, hL]
    · simp only [hC, hL, ne_eq, not_true, not_false_iff, decide_true, decide_false, Bool.false_eq_true, if_false, if_true, Option.bind_some, false_and]
      generalize lengthT L = q
      by_cases h1 : q.2 = 0
      · simp only [h1, decide_true, Bool.not_true, Bool.false_eq_true, if_false, ne_eq, not_true, Option.bind_some]
        cases no
        · by_cases h2 : 8192 < q.1 <;> simp [h2]
        · simp
      · simp [h1]
  · by_cases hL : L = []
    · simp only [hC, hL, ne_eq, not_true, not_false_iff, decide_true, decide_false, Bool.false_eq_true, if_false, if_true, Option.bind_some, and_false]
      cases isChunked C <;> cases no <;> rfl
    · simp [hC, hL]
/-! both -/
theorem req_eq {l : List Fld} (h : RoomF l) (m t : List UInt8) : framing_Request (m, t, l) = some (saidT (allT l teN) (allT l clN) 0) := by
  unfold framing_Request
  simp only [said_eq h, Option.bind_some]
def bareT (method : List UInt8) (status : Int) : Bool := decide (method = [72, 69, 65, 68]) || decide (status = 204) || decide (status = 304)
def respT (C L : List (List UInt8)) (method : List UInt8) (status : Int) : (Int × Int) × Int :=
  let r := saidT C L 3
  if bareT method status = true ∧ (r.2 = 0 ∨ r.2 = 23) then ((0, 0), 0) else r
theorem resp_eq {l : List Fld} (h : RoomF l) (m : List UInt8) (st : Int) (re : List UInt8) : framing_Response m (st, re, l) = some (respT (allT l teN) (allT l clN) m st) := by
  unfold framing_Response respT bareT
  simp only [said_eq h, Option.bind_some]
  generalize saidT (allT l teN) (allT l clN) 3 = r
  obtain ⟨⟨r1, r2⟩, r3⟩ := r
  by_cases h1 : m = [72, 69, 65, 68] <;> by_cases h2 : st = 204 <;> by_cases h3 : st = 304 <;> by_cases h4 : r3 = 0 <;> by_cases h5 : r3 = 23 <;> simp [h1, h2, h3, h4, h5]
theorem ref_req_eq {l : List Fld} (h : RoomF l) (m t : List UInt8) : ref06_Request (m, t, l) = some (bodyT (allT l teN) (allT l clN) false 0) := by
  unfold ref06_Request
  simp only [body_eq h, Option.bind_some]
theorem ref_resp_eq {l : List Fld} (h : RoomF l) (m : List UInt8) (st : Int) (re : List UInt8) : ref06_Response m (st, re, l) = some (bodyT (allT l teN) (allT l clN) (bareT m st) 3) := by
  unfold ref06_Response bareT
  simp only [body_eq h, Option.bind_some]
  by_cases h1 : m = [72, 69, 65, 68]
  · simp [h1]
  · by_cases h2 : st = 204
    · simp [h1, h2]
    · simp [h1, h2]
theorem body_said (C L : List (List UInt8)) (op : Int) : bodyT C L false op = saidT C L op := by
  unfold bodyT saidT
  simp
theorem lengthT_err (L : List (List UInt8)) : (lengthT L).2 = 0 ∨ (lengthT L).2 = 20 := by
  have : ∀ (r : List (List UInt8)) (n : Int), (lenT n r).2 = 0 ∨ (lenT n r).2 = 20 := fun r => by
    induction r with
    | nil => intro n; exact .inl rfl
    | cons s r ih =>
      intro n
      simp only [lenT]
      split
      · exact .inr rfl
      · exact ih _
  unfold lengthT
  split
  · exact .inr rfl
  · exact this _ _
theorem body_resp (C L : List (List UInt8)) (m : List UInt8) (st : Int) : bodyT C L (bareT m st) 3 = respT C L m st := by
  unfold respT bodyT saidT
  have he := lengthT_err L
  cases bareT m st
  · simp
  · by_cases hC : C = [] <;> by_cases hL : L = []
    · simp [hC, hL]
    · simp only [hC, hL, ne_eq, not_true, not_false_iff, false_and, if_false, if_true, true_and]
      generalize lengthT L = q at *
      rcases he with h | h
      · by_cases h2 : 8192 < q.1 <;> simp [h, h2]
      · simp [h]
    · simp only [hC, hL, ne_eq, not_true, not_false_iff, and_false, if_false, if_true, true_and]
      cases isChunked C <;> simp
    · simp [hC, hL]
end Go.Proofs.YtcikflhenbpdiaaDoor
