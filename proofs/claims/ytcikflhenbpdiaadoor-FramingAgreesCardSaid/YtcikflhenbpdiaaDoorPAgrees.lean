/- Lengths that agree are one length, others none. -/
import Derived.Test.YtcikflhenbpdiaaDoorPFraming
import Derived.Test.YtcikflhenbpdiaaDoorLAgrees
namespace Go.Proofs.YtcikflhenbpdiaaDoor
open Go.Av
set_option linter.unusedVariables false
set_option linter.unusedSimpArgs false
set_option maxRecDepth 100000
/-- bytes that are no quote and no comma -/
def flatB (w : List UInt8) : Prop := ∀ c ∈ w, c ≠ 34 ∧ c ≠ 44
theorem ls_flat : ∀ (w : List UInt8) (cur r : List UInt8), flatB w → lsT 0 cur (w ++ r) = lsT 0 (cur ++ w) r
  | [], cur, r, _ => by simp
  | c :: w, cur, r, h => by
    have hc := h c (by simp)
    rw [List.cons_append, ls0o cur _ hc.1 hc.2, ls_flat w _ r (fun d hd => h d (List.mem_cons_of_mem _ hd))]
    simp
/-- no blank at its ends -/
def firmB (m : List UInt8) : Prop := m ≠ [] ∧ ∀ c ∈ m, blT c = false ∧ c ≠ 34 ∧ c ≠ 44
theorem firm_trim {a m b : List UInt8} (ha : ∀ c ∈ a, blT c = true) (hb : ∀ c ∈ b, blT c = true) (hm : firmB m) : trimT (a ++ m ++ b) = m :=
  trim_mid ha hb (fun c p e => (hm.2 c (by rw [e]; simp)).1) (fun q c e => (hm.2 c (by rw [e]; simp)).1)
theorem add_firm {a m b : List UInt8} {l : List (List UInt8)} (ha : ∀ c ∈ a, blT c = true) (hb : ∀ c ∈ b, blT c = true) (hm : firmB m) : addT (a ++ m ++ b) l = m :: l := by
  unfold addT
  rw [firm_trim ha hb hm, if_neg hm.1]
def sepB : List UInt8 := [32, 44, 44, 32, 48]
def restB (ds : List (List UInt8)) : List UInt8 := ds.flatMap fun d => sepB ++ d
theorem bl32 : blT 32 = true := by decide +kernel
theorem bl48 : blT 48 = false := by decide +kernel
theorem ls_rest : ∀ (ds : List (List UInt8)) (a m : List UInt8), (∀ d ∈ ds, firmB d) → firmB m → (a = [] ∨ a = [32]) → lsT 0 [] (a ++ m ++ restB ds) = some (m :: ds.map (48 :: ·))
  | [], a, m, hd, hm, ha => by
    have hab : ∀ c ∈ a, blT c = true := fun c hc => by rcases ha with rfl | rfl <;> simp at hc; subst hc; exact bl32
    have hf : flatB (a ++ m) := fun c hc => by
      rcases List.mem_append.1 hc with h | h
      · rcases ha with rfl | rfl <;> simp at h; subst h; decide
      · exact (hm.2 c h).2
    have := ls_flat (a ++ m) [] [] hf
    rw [show restB [] = [] from rfl, this, ls0n, List.nil_append]
    have e := add_firm (l := []) hab (b := []) (by simp) hm
    rw [List.append_nil] at e
    rw [e]; rfl
  | d :: ds, a, m, hd, hm, ha => by
    have hab : ∀ c ∈ a, blT c = true := fun c hc => by rcases ha with rfl | rfl <;> simp at hc; subst hc; exact bl32
    have hf : flatB (a ++ m ++ [32]) := fun c hc => by
      rcases List.mem_append.1 hc with h | h
      · rcases List.mem_append.1 h with h | h
        · rcases ha with rfl | rfl <;> simp at h; subst h; decide
        · exact (hm.2 c h).2
      · simp at h; subst h; decide
    have hd0 := hd d (by simp)
    have hm2 : firmB (48 :: d) := ⟨by simp, fun c hc => by
      rcases List.mem_cons.1 hc with rfl | h
      · exact ⟨bl48, by decide, by decide⟩
      · exact hd0.2 c h⟩
    have ih := ls_rest ds [32] (48 :: d) (fun x hx => hd x (List.mem_cons_of_mem _ hx)) hm2 (.inr rfl)
    have e : a ++ m ++ restB (d :: ds) = (a ++ m ++ [32]) ++ 44 :: (44 :: ([32] ++ (48 :: d) ++ restB ds)) := by
      unfold restB sepB; rw [List.flatMap_cons]; simp
    rw [e, ls_flat _ [] _ hf, ls0c, ls0c, ih, List.nil_append]
    simp only [Option.map_some]
    have e1 : addT [] ((48 :: d) :: ds.map (48 :: ·)) = (48 :: d) :: ds.map (48 :: ·) := rfl
    rw [e1, add_firm hab (b := [32]) (by intro c hc; simp at hc; subst hc; exact bl32) hm]
    rfl
theorem firm_dig {d : List UInt8} (h0 : d ≠ []) (h : ∀ c ∈ d, hexV c < 10) : firmB d := ⟨h0, fun c hc => by
  have : ∀ n : _root_.Fin 256, hexV (UInt8.ofNat n.val) < 10 → blT (UInt8.ofNat n.val) = false ∧ UInt8.ofNat n.val ≠ 34 ∧ UInt8.ofNat n.val ≠ 44 := by decide +kernel
  have := this ⟨c.toNat, c.toNat_lt⟩
  simp only [UInt8.ofNat_toNat] at this
  exact this (h c hc)⟩
def dgI (n : Int) : List UInt8 := txt 10 n.toNat
theorem dgI_firm (n : Int) : firmB (dgI n) := firm_dig (txt_ne 10 _) (txt_dig 10 (.inl rfl) _)
theorem dgI_eq {n : Int} (h0 : 0 ≤ n) (h1 : n ≤ 9223372036854775807) : num_Digits n = some (dgI n) := by
  rw [digits_eq n h1]; unfold textS dgI; rw [if_neg (by omega)]
theorem dgI_len {n : Int} (h0 : 0 ≤ n) (h1 : n ≤ 9223372036854775807) : (dgI n).length ≤ 19 := txt_short (.inl rfl) (by unfold MX; omega)
theorem numS_dg {n : Int} (h0 : 0 ≤ n) (h1 : n ≤ 9223372036854775807) : numS 10 (dgI n) = (n, 0) ∧ numS 10 (48 :: dgI n) = (n, 0) := by
  have hv : valF 10 0 (dgI n) = n.toNat := valF_txt 10 (.inl rfl) _
  have hmx : n.toNat ≤ MX := by unfold MX; omega
  have hall : ∀ c ∈ dgI n, hexV c < 10 := txt_dig 10 (.inl rfl) _
  have hz : hexV 48 = 0 := by decide +kernel
  have hv2 : valF 10 0 (48 :: dgI n) = n.toNat := by simp only [valF, hz]; exact hv
  constructor
  · unfold numS
    rw [if_neg (fun h => h.elim (txt_ne 10 _) fun h => by obtain ⟨c, hc, h2⟩ := List.any_eq_true.1 h; have := hall c hc; simp at h2; omega), hv, if_pos hmx, Int.toNat_of_nonneg h0]
  · unfold numS
    rw [if_neg (fun h => h.elim (by simp) fun h => by
      obtain ⟨c, hc, h2⟩ := List.any_eq_true.1 h
      rcases List.mem_cons.1 hc with rfl | hc
      · rw [hz] at h2; simp at h2
      · have := hall c hc; simp at h2; omega), hv2, if_pos hmx, Int.toNat_of_nonneg h0]
/-- lengths told by numbers -/
theorem lenT_nums (l : List (List UInt8)) (ns : List Int) (n0 : Int) (hn : 0 ≤ n0) (h : l.map (numS 10) = ns.map fun n => (n, (0 : Int))) : lenT n0 l = cond (ns.all fun n => decide (n = n0)) (n0, 0) (0, 20) := by
  rw [lenT_ref n0 hn]
  congr 1
  induction l generalizing ns with
  | nil => cases ns with
    | nil => rfl
    | cons a b => simp at h
  | cons s r ih => cases ns with
    | nil => simp at h
    | cons a b =>
      simp only [List.map_cons, List.cons.injEq] at h
      rw [List.all_cons, List.all_cons, ih b h.2]
      unfold lenOK
      rw [h.1]; simp
theorem lengthT_nums (vs : List (List UInt8)) (l : List (List UInt8)) (n0 : Int) (ns : List Int) (hm : membT vs = (l, 0)) (hn : 0 ≤ n0) (h : l.map (numS 10) = (n0 :: ns).map fun n => (n, (0 : Int))) : lengthT vs = cond (ns.all fun n => decide (n = n0)) (n0, 0) (0, 20) := by
  cases l with
  | nil => simp at h
  | cons s r =>
    simp only [List.map_cons, List.cons.injEq] at h
    unfold lengthT
    rw [hm]
    have e : lenT (-1) (s :: r) = lenT n0 r := by
      simp only [lenT, h.1]
      rw [if_neg]
      rintro (h | ⟨h, _⟩)
      · exact h rfl
      · exact absurd h (by decide)
    simp only [ne_eq, not_true, reduceCtorEq, or_self, if_false]
    rw [e]
    exact lenT_nums r ns n0 hn h.2
theorem memb_alone : ∀ ds : List (List UInt8), (∀ d ∈ ds, firmB d) → membT ds = (ds, 0) := by
  have key : ∀ ds : List (List UInt8), (∀ d ∈ ds, firmB d) → mbF ds = some ds := fun ds => by
    induction ds with
    | nil => intro _; rfl
    | cons d ds ih =>
      intro h
      have h1 := ls_rest [] [] d (by simp) (h d (by simp)) (.inl rfl)
      simp only [List.nil_append, show restB [] = [] from rfl, List.append_nil, List.map_nil] at h1
      simp only [mbF, h1, Option.bind_some, ih (fun x hx => h x (List.mem_cons_of_mem _ hx)), Option.map_some]
      rfl
  intro ds h
  unfold membT
  rw [key ds h]; rfl
theorem memb_text (d : List UInt8) (ds : List (List UInt8)) (h0 : firmB d) (h : ∀ x ∈ ds, firmB x) : membT [d ++ restB ds] = (d :: ds.map (48 :: ·), 0) := by
  unfold membT
  have h1 := ls_rest ds [] d h h0 (.inl rfl)
  rw [List.nil_append] at h1
  simp only [mbF, h1, Option.bind_some, Option.map_some, lsR, List.append_nil, List.nil_append]
/-! the loop -/
def clA : List UInt8 := [67, 111, 110, 116, 101, 110, 116, 45, 76, 101, 110, 103, 116, 104]
def textI : List Int → List UInt8
  | [] => []
  | n :: ns => dgI n ++ restB (ns.map dgI)
theorem restB_app (a b : List (List UInt8)) : restB (a ++ b) = restB a ++ restB b := by unfold restB; simp
theorem textI_snoc (n : Int) : ∀ ns : List Int, ns ≠ [] → textI (ns ++ [n]) = (textI ns ++ sepB) ++ dgI n
  | [], h => absurd rfl h
  | m :: ns, _ => by
    simp only [List.cons_append, textI, List.map_append, restB_app, List.map_cons, List.map_nil]
    simp [restB]
theorem textI_nil {ns : List Int} : textI ns = [] ↔ ns = [] := by
  cases ns with
  | nil => simp [textI]
  | cons n ns => simp [textI, dgI, txt_ne]
theorem restB_len : ∀ (ds : List (List UInt8)), (∀ d ∈ ds, d.length ≤ 19) → (restB ds).length ≤ 24 * ds.length
  | [], _ => by simp [restB]
  | d :: ds, h => by
    have h1 := h d (by simp)
    have h2 := restB_len ds (fun x hx => h x (List.mem_cons_of_mem _ hx))
    unfold restB at h2 ⊢
    rw [List.flatMap_cons]
    have h3 : sepB.length = 5 := rfl
    simp only [List.length_append, List.length_cons]; omega
theorem textI_len {ns : List Int} (h : ∀ n ∈ ns, 0 ≤ n ∧ n ≤ 9223372036854775807) : (textI ns).length ≤ 24 * ns.length + 24 := by
  cases ns with
  | nil => simp [textI]
  | cons n ns =>
    have h1 := dgI_len (h n (by simp)).1 (h n (by simp)).2
    have h2 := restB_len (ns.map dgI) (fun d hd => by obtain ⟨x, hx, rfl⟩ := List.mem_map.1 hd; exact dgI_len (h x (List.mem_cons_of_mem _ hx)).1 (h x (List.mem_cons_of_mem _ hx)).2)
    simp only [textI, List.length_append, List.length_map, List.length_cons] at h2 ⊢; omega
theorem take_snoc {α : Type} {l : List α} {i : Nat} (h : i < l.length) : l.take (i + 1) = l.take i ++ [l[i]] := by
  rw [List.take_add_one, List.getElem?_eq_getElem h]; rfl
theorem agree_loop (l : List Int) (alone : Bool) (hl : ∀ n ∈ l, n ≤ 9223372036854775807) (x0 : Int) (hx0 : l[0]? = some x0 ∨ l = []) : ∀ (k i : Nat) (text : List UInt8), i ≤ l.length → i ≤ 12 → 12 - i < k →
    (∀ n ∈ l.take i, 0 ≤ n) → (alone = false → text = textI (l.take i)) →
    (law06_FramingAgrees_L81 l true alone k ((l.take i).all fun n => decide (n = x0)) text (i : Int) (if alone then (l.take i).map (fun n => (clA, dgI n)) else []) = some (Sum.inl true)) ∨
    ((∀ n ∈ l.take 12, 0 ≤ n) ∧ ∃ text', (alone = false → text' = textI (l.take 12)) ∧ law06_FramingAgrees_L81 l true alone k ((l.take i).all fun n => decide (n = x0)) text (i : Int) (if alone then (l.take i).map (fun n => (clA, dgI n)) else []) = some (Sum.inr ((l.take 12).all fun n => decide (n = x0), text', if alone then (l.take 12).map (fun n => (clA, dgI n)) else []))) := by
  intro k
  induction k with
  | zero => intro i text _ _ h; omega
  | succ k ih =>
    intro i text hi h12 hk hpos htx
    simp only [law06_FramingAgrees_L81]
    by_cases hlt : i < l.length
    · by_cases h2 : i < 12
      · rw [if_pos (decide_eq_true (by omega)), show decide ((i : Int) < 12) = true from decide_eq_true (by omega)]
        simp only [Option.bind_some, if_true]
        rw [ixL_in hlt]
        have hx : l[0]? = some x0 := by
          rcases hx0 with h | h
          · exact h
          · subst h; simp at hlt
        have hz : ixL l (0 : Int) = some x0 := by have := ixL_nat l 0; rw [show ((0 : Nat) : Int) = 0 from rfl] at this; rw [this, hx]
        simp only [Option.bind_some]
        by_cases hneg : l[i] < 0
        · exact .inl (by rw [if_pos (decide_eq_true hneg)])
        · rw [if_neg (by simpa using hneg)]
          have hle := hl l[i] (List.getElem_mem hlt)
          rw [dgI_eq (by omega) hle]
          have hdl := dgI_len (n := l[i]) (by omega) hle
          have hpos' : ∀ n ∈ l.take (i + 1), 0 ≤ n := fun n hn => by
            rw [take_snoc hlt] at hn
            rcases List.mem_append.1 hn with h | h
            · exact hpos n h
            · simp at h; subst h; omega
          have hsame : (if (List.take i l).all (fun n => decide (n = x0)) = true then (some l[i]).bind fun x90 => (ixL l 0).bind fun x91 => some (decide (x90 = x91)) else some false) = some ((l.take (i + 1)).all fun n => decide (n = x0)) := by
            rw [take_snoc hlt, List.all_append, hz]
            cases (List.take i l).all fun n => decide (n = x0) <;> simp
          simp only [Option.bind_some] at hsame ⊢
          rw [hsame]
          have hn : iadd .i64 (i : Int) 1 = ((i + 1 : Nat) : Int) := by rw [iadd64 (by omega) (by omega)]; omega
          simp only [Option.bind_some, hn]
          cases alone with
          | true =>
            simp only [if_true, Option.bind_some]
            rw [szC_ok (by simp; omega)]
            simp only [Option.bind_some]
            have := ih (i + 1) (dgI l[i]) hlt (by omega) (by omega) hpos' (fun h => by cases h)
            simp only [if_true] at this
            rw [show List.map (fun n => (clA, dgI n)) (List.take (i + 1) l) = List.map (fun n => (clA, dgI n)) (List.take i l) ++ [(clA, dgI l[i])] by rw [take_snoc hlt, List.map_append]; rfl] at this
            exact this
          | false =>
            have ht := htx rfl
            have htl : text.length ≤ 24 * 12 + 24 := by
              rw [ht]
              have := textI_len (ns := l.take i) (fun n hn => ⟨hpos n hn, hl n (List.mem_of_mem_take hn)⟩)
              have h3 : (l.take i).length ≤ 12 := by simp; omega
              omega
            have hstep : (show Option (List UInt8) from (if decide (text = []) = true then some (dgI l[i]) else (szC (List.length (text ++ [32, 44, 44, 32, 48]))).bind fun _ => (szC (List.length ((text ++ [32, 44, 44, 32, 48]) ++ dgI l[i]))).bind fun _ => some ((text ++ [32, 44, 44, 32, 48]) ++ dgI l[i]))) = some (textI (l.take (i + 1))) := by
              show (if decide (text = []) = true then some (dgI l[i]) else (szC (List.length (text ++ [32, 44, 44, 32, 48]))).bind fun _ => (szC (List.length ((text ++ [32, 44, 44, 32, 48]) ++ dgI l[i]))).bind fun _ => some ((text ++ [32, 44, 44, 32, 48]) ++ dgI l[i])) = _
              rw [take_snoc hlt]
              by_cases he : text = []
              · rw [if_pos (decide_eq_true he)]
                have : l.take i = [] := textI_nil.1 (by rw [← ht]; exact he)
                rw [this]; simp [textI, restB]
              · rw [if_neg (by simpa using he), szC_ok (by simp; omega), szC_ok (by simp; omega)]
                rw [textI_snoc _ _ (fun h => he (by rw [ht, h]; rfl)), ← ht]
                rfl
            replace hstep : (if decide (text = []) = true then some (dgI l[i]) else (szC (List.length (text ++ [32, 44, 44, 32, 48]))).bind fun _ => (szC (List.length ((text ++ [32, 44, 44, 32, 48]) ++ dgI l[i]))).bind fun _ => some ((text ++ [32, 44, 44, 32, 48]) ++ dgI l[i])) = some (textI (l.take (i + 1))) := hstep
            simp only [Bool.false_eq_true, if_false, Option.bind_some]
            rw [hstep]
            simp only [Option.bind_some]
            have := ih (i + 1) (textI (l.take (i + 1))) hlt (by omega) (by omega) hpos' (fun _ => rfl)
            simp only [Bool.false_eq_true, if_false] at this
            exact this
      · have h12' : i = 12 := by omega
        subst h12'
        rw [if_pos (decide_eq_true (by omega)), show decide (((12 : Nat) : Int) < 12) = false from rfl]
        exact .inr ⟨hpos, text, htx, rfl⟩
    · rw [if_neg (by simp; omega)]
      have e : l.take i = l.take 12 := by rw [List.take_of_length_le (by omega), List.take_of_length_le (by omega)]
      rw [e] at hpos htx ⊢
      exact .inr ⟨hpos, text, htx, rfl⟩
theorem law_FramingAgrees_all (l : List Int) (alone : Bool) (hl : ∀ y ∈ l, inR .i64 y) (_ : True) : law06_FramingAgrees l alone = some true := by
  have hmx : ∀ n ∈ l, n ≤ 9223372036854775807 := fun n hn => (hl n hn).2
  unfold law06_FramingAgrees
  rw [shown6]
  simp only [Option.bind_some]
  cases l with
  | nil =>
    have : ∀ k, law06_FramingAgrees_L81 [] true alone (k + 1) true [] 0 [] = some (Sum.inr (true, [], [])) := fun k => by
      simp [law06_FramingAgrees_L81]
    rw [this 1099511627775]
    rfl
  | cons x0 t =>
    have hloop := agree_loop (x0 :: t) alone hmx x0 (.inl rfl) 1099511627776 0 [] (by omega) (by omega) (by omega) (by simp) (fun _ => rfl)
    simp only [List.take_zero, List.all_nil, List.map_nil, ite_self, show ((0 : Nat) : Int) = 0 from rfl] at hloop
    rcases hloop with h | ⟨hpos, text', htx, h⟩
    · rw [h]; rfl
    · rw [h]
      have hl0 : decide (((x0 :: t).length : Int) = 0) = false := by simp; omega
      have h12 : (x0 :: t).take 12 = x0 :: t.take 11 := rfl
      rw [h12] at hpos htx ⊢
      have hx0 : 0 ≤ x0 := hpos x0 (by simp)
      have hx1 := hmx x0 (by simp)
      generalize hns : t.take 11 = ns at *
      have hnl : ns.length ≤ 11 := by rw [← hns]; simp; omega
      have hnm : ∀ n ∈ ns, 0 ≤ n ∧ n ≤ 9223372036854775807 := fun n hn => ⟨hpos n (List.mem_cons_of_mem _ hn), hmx n (List.mem_cons_of_mem _ (by rw [← hns] at hn; exact List.mem_of_mem_take hn))⟩
      have hsame : ((x0 :: ns).all fun n => decide (n = x0)) = ns.all fun n => decide (n = x0) := by simp
      rw [hsame]
      simp only [Option.bind_some, hl0, Bool.false_eq_true, if_false]
      -- the fields
      obtain ⟨M, hM, hC, hL, hsum⟩ : ∃ M : List Fld, (if (!alone) = true then some [(([99, 111, 110, 116, 101, 110, 116, 45, 108, 101, 110, 103, 116, 104] : List UInt8), text')] else some (if alone = true then List.map (fun n => (clA, dgI n)) (x0 :: ns) else [])) = some M ∧ allT M teN = [] ∧ (allT M clN ≠ [] ∧ lengthT (allT M clN) = cond (ns.all fun n => decide (n = x0)) (x0, 0) (0, 20)) ∧ sumM mFld M ≤ 16777216 := by
        have hc1 : sameT clA teN = false := by decide +kernel
        have hc2 : sameT clA clN = true := by decide +kernel
        have hc3 : sameT clN teN = false := by decide +kernel
        have hc4 : sameT clN clN = true := by decide +kernel
        cases alone with
        | true =>
          have ht : ∀ ns : List Int, allT (ns.map fun n => (clA, dgI n)) teN = [] := fun ns => by
            induction ns with
            | nil => rfl
            | cons n ns ih => rw [List.map_cons, allT_cons, hc1]; exact ih
          have hc : ∀ ns : List Int, allT (ns.map fun n => (clA, dgI n)) clN = ns.map dgI := fun ns => by
            induction ns with
            | nil => rfl
            | cons n ns ih => rw [List.map_cons, allT_cons, hc2, if_pos rfl, ih]; rfl
          refine ⟨(x0 :: ns).map fun n => (clA, dgI n), rfl, ht _, ⟨by rw [hc]; simp, ?_⟩, ?_⟩
          · rw [hc]
            refine lengthT_nums _ ((x0 :: ns).map dgI) x0 ns (memb_alone _ (fun d hd => by obtain ⟨n, _, rfl⟩ := List.mem_map.1 hd; exact dgI_firm n)) hx0 ?_
            rw [List.map_map]
            apply List.map_congr_left
            intro n hn
            rcases List.mem_cons.1 hn with rfl | hn
            · exact (numS_dg hx0 hx1).1
            · exact (numS_dg (hnm n hn).1 (hnm n hn).2).1
          · have : ∀ ns : List Int, (∀ n ∈ ns, 0 ≤ n ∧ n ≤ 9223372036854775807) → sumM mFld (ns.map fun n => (clA, dgI n)) ≤ 100 * ns.length := fun ns => by
              induction ns with
              | nil => intro _; simp [sumM]
              | cons n ns ih =>
                intro h
                have h1 := dgI_len (h n (by simp)).1 (h n (by simp)).2
                have h2 := ih (fun x hx => h x (List.mem_cons_of_mem _ hx))
                have h3 : clA.length = 14 := rfl
                simp only [List.map_cons, sumM, mFld, List.length_cons]; omega
            have := this (x0 :: ns) (fun n hn => by
              rcases List.mem_cons.1 hn with rfl | hn
              · exact ⟨hx0, hx1⟩
              · exact hnm n hn)
            simp only [List.length_cons] at this; omega
        | false =>
          have ht := htx rfl
          refine ⟨[(clN, text')], rfl, by rw [allT_cons, hc3]; rfl, ⟨by rw [allT_cons, hc4]; simp, ?_⟩, ?_⟩
          · rw [show allT [(clN, text')] clN = [text'] by rw [allT_cons, hc4]; rfl, ht]
            refine lengthT_nums _ (dgI x0 :: (ns.map dgI).map (48 :: ·)) x0 ns (memb_text _ _ (dgI_firm _) (fun d hd => by obtain ⟨n, _, rfl⟩ := List.mem_map.1 hd; exact dgI_firm n)) hx0 ?_
            rw [List.map_cons, List.map_cons, (numS_dg hx0 hx1).1, List.map_map, List.map_map]
            congr 1
            apply List.map_congr_left
            intro n hn
            exact (numS_dg (hnm n hn).1 (hnm n hn).2).2
          · have := textI_len (ns := x0 :: ns) (fun n hn => by
              rcases List.mem_cons.1 hn with rfl | hn
              · exact ⟨hx0, hx1⟩
              · exact hnm n hn)
            rw [← ht] at this
            have h3 : clN.length = 14 := rfl
            simp only [sumM, mFld, List.length_cons] at this ⊢; omega
      rw [hM]
      have hr := roomF_of hsum
      simp only [Option.bind_some]
      rw [req_eq hr, resp_eq hr, resp_eq hr]
      have hsaid : ∀ op, saidT (allT M teN) (allT M clN) op = if ns.all (fun n => decide (n = x0)) = true then (if 8192 < x0 then ((0, 0), 23) else ((1, x0), 0)) else ((0, 0), 20) := fun op => by
        unfold saidT
        rw [hC, hL.2]
        rw [if_neg (by simp), if_neg (by simp), if_pos hL.1]
        cases ns.all fun n => decide (n = x0)
        · rfl
        · rfl
      have hz : ixL (x0 :: t) (0 : Int) = some x0 := rfl
      unfold respT
      rw [hsaid, hsaid]
      have hb1 : bareT [71, 69, 84] 200 = false := by decide +kernel
      have hb2 : bareT [72, 69, 65, 68] 200 = true := by decide +kernel
      rw [hb1, hb2]
      cases ns.all fun n => decide (n = x0)
      · simp
      · by_cases hbig : 8192 < x0
        · simp [hbig, hz]
        · simp [hbig, hz]
end Go.Proofs.YtcikflhenbpdiaaDoor
