/- Av, part S: a region that draws its order and makes variables: the first operations in whatever order, those behind them one after the other. -/
import Derived.Test.YteahieldmfehlaaDoorAvR
namespace Go.Av
open Go.RowKit
set_option linter.unusedVariables false

/-- the slots behind the first operations: a new variable is an object of ours, what names memory is forgotten -/
def endE : List Oper → Nat → Env → Env
  | [], _, e => e
  | o :: r, k, e => match o.dst with
    | none => endE r k e
    | some d => (match o.op with
      | .alloc _ => endE r (k + 1) (upd e d (.bptr k 0))
      | _ => endE r k (upd e d (if flat2 (e d) then e d else .dead)))
def endH (P : Program) : List Oper → List AO
  | [] => []
  | o :: r => (match o.dst, o.op with
    | some _, .alloc T => .box T ((zeroA P T).getD []) :: endH P r
    | _, _ => endH P r)
/-- each slot is written once; a variable is made without a condition -/
def dstsOK (P : Program) (ops : Array Oper) (m : Nat) : Bool := decide ((ops.toList.filterMap (·.dst)).Nodup) && (ops.toList.take m).all fun o => match o.op with
  | .alloc T => o.guard.isNone && o.dst.isSome && (match zeroA P T with
    | some zs => zs.all AV.one
    | none => false)
  | _ => true

section
variable {P : Program} {H : List AO} {ops : Array Oper} {n : Nat} {B : Nat} {X : Nat → Prop} {w0 w : World} {φ : Nat → Value} {md : Region.Mode}

def AnyL (P : Program) (md : Region.Mode) (ops : Array Oper) (H : List AO) (m : Nat) (L : Array Bool → Env → Prop) : Nat → Array Bool → Env → Prop
  | 0, listed, E => L listed E
  | f + 1, listed, E => Region.ready md ops listed ≠ [] ∧ ∀ i ∈ Region.ready md ops listed, i < m ∧ ∀ o, ops[i]? = some o → ∃ x, FY P ops H o E x ∧ AnyL P md ops H m L f (listed.setIfInBounds i true) (put E o.dst x)

theorem AnyL_first {m i : Nat} {oi : Oper} {x : AV} {L : Array Bool → Env → Prop} (hi : ops[i]? = some oi)
    (hs : Region.sinkB md ops m = true) (hc : Region.chainB md ops m = true) (hm : m < ops.size) (him : i < m) (hdone : ∀ listed E, L listed E → ∀ j ∈ Region.ready md ops listed, m ≤ j) :
    ∀ (f : Nat) (listed : Array Bool) (E : Env), HeadInv md ops m listed →
      (∀ j oj, ops[j]? = some oj → j ≠ i → listed.getD j true = false → (∀ e ∈ oj.after, Region.binds md e = true → e.on ≠ i) → oi.apart ops oj = true) →
      i ∈ Region.ready md ops listed → FY P ops H oi E x → AnyL P md ops H m L f (listed.setIfInBounds i true) (put E oi.dst x) → AnyL P md ops H m L (f + 1) listed E := by
  intro f
  induction f with
  | zero =>
    intro listed E inv _ hr hy hA
    have hun := (mem_ready.1 hr).1
    refine ⟨fun h => (by rw [h] at hr; cases hr), fun j hj => ?_⟩
    have hjm : j < m := by
      rcases Nat.lt_or_ge j m with h | h
      · exact h
      · exact absurd hj (tail_waits hs hc hm inv _ i rfl him hun j h)
    refine ⟨hjm, fun oj hoj => ?_⟩
    by_cases hji : j = i
    · subst hji
      rw [hi] at hoj; cases hoj
      exact ⟨x, hy, hA⟩
    · have := hdone _ _ hA j (ready_mono hj hji)
      omega
  | succ f ih =>
    intro listed E inv hfree hr hy hA
    have hun := (mem_ready.1 hr).1
    refine ⟨fun h => (by rw [h] at hr; cases hr), fun j hj => ?_⟩
    have hjm : j < m := by
      rcases Nat.lt_or_ge j m with h | h
      · exact h
      · exact absurd hj (tail_waits hs hc hm inv _ i rfl him hun j h)
    refine ⟨hjm, fun oj hoj => ?_⟩
    by_cases hji : j = i
    · subst hji
      rw [hi] at hoj; cases hoj
      exact ⟨x, hy, hA⟩
    · obtain ⟨y, h1, h2⟩ := (hA.2 j (ready_mono hj hji)).2 oj hoj
      obtain ⟨hjun, oj', hoj', hall⟩ := mem_ready.1 hj
      rw [hoj] at hoj'; cases hoj'
      have hnot : ∀ e ∈ oj.after, Region.binds md e = true → e.on ≠ i := fun e he hb heq => by
        have h1 := hall e he hb
        rw [heq, getD_both hun] at h1
        cases h1
      obtain ⟨a1, a2, a3⟩ := Oper.apart_spec (hfree j oj hoj hji hjun hnot)
      have hfree' : ∀ k ok, ops[k]? = some ok → k ≠ i → (listed.setIfInBounds j true).getD k true = false →
          (∀ e ∈ ok.after, Region.binds md e = true → e.on ≠ i) → oi.apart ops ok = true := fun k ok hk hki hun hno => by
        refine hfree k ok hk hki ?_ hno
        by_cases hjk : j = k
        · subst hjk; exact hjun
        · rw [getD_set_ne true hjk] at hun; exact hun
      refine ⟨y, FY_local (fun t ht => put_off fun e => a1 t e ht) h1, ih (listed.setIfInBounds j true) _ (inv.set hj hjm) hfree' (ready_mono hr (Ne.symm hji)) (FY_local (fun t ht => (put_off fun e => a3 t e ht).symm) hy) ?_⟩
      rw [Array.setIfInBounds_comm _ _ hji, ← put_comm a2]
      exact h2

theorem AnyL_lex {m g : Nat} {Q : Env → Prop} (hsel : Region.noSelect ops = true) (hs : Region.sinkB md ops m = true) (hc : Region.chainB md ops m = true) (hm : m < ops.size) :
    ∀ (l : List Oper) (k : Nat) (listed : Array Bool) (E : Env), (∀ j, j < l.length → l[j]? = ops[k + j]?) → k + l.length = m → HeadInv md ops m listed →
    Region.lexHead md ops g l.length k listed = true → FO P ops l E H Q →
    AnyL P md ops H m (fun listed' E' => Region.seqB md ops g m listed' = true ∧ Q E') l.length listed E
  | [], k, listed, E, _, hk, _, hB, h => by
    have : k = m := by simpa using hk
    subst this
    exact ⟨by simpa [Region.lexHead] using hB, h⟩
  | o :: l, k, listed, E, hl, hk, inv, hB, h => by
    have h0 : ops[k]? = some o := by simpa using (hl 0 (by simp)).symm
    simp only [List.length_cons, Region.lexHead, Bool.and_eq_true] at hB
    obtain ⟨⟨hr, hf⟩, hB'⟩ := hB
    have hkm : k < m := by simp only [List.length_cons] at hk; omega
    have hr' : k ∈ Region.ready md ops listed := by simpa using hr
    obtain ⟨x, hy, hK⟩ := FO_step h
    exact AnyL_first h0 hs hc hm hkm (fun listed' E' hL => seqB_ready hL.1) l.length listed E inv (Region.free_spec h0 hf) hr' hy
      (AnyL_lex hsel hs hc hm l (k + 1) _ _ (fun j hj => by have := hl (j + 1) (by simp; omega); simpa [Nat.add_assoc, Nat.add_comm 1 j] using this) (by simp only [List.length_cons] at hk; omega) (inv.set hr' hkm) hB' hK)

/-- the new variables: each lies where its slot says, in a block of its own -/
def NewV (P : Program) (ops : Array Oper) (m : Nat) (w1 : World) (listed : Array Bool) (a : Act) (w : World) (β : Nat → Nat) : Prop :=
  (∀ (i : Nat) (o : Oper) (T : TypeId) (d : Nat), ops[i]? = some o → i < m → o.op = .alloc T → o.dst = some d → listed.getD i false = true → ∃ j z, P.info? T = some j ∧ j.zero = some z ∧
    a.tmps.getD d undef = .pointer (some ⟨β i, 0, none⟩) ∧ w.heap[β i]? = some (.cells z.cells T (0, 0)) ∧ w1.heap.size ≤ β i ∧ β i < w.heap.size) ∧
  ∀ (i i' : Nat) (o o' : Oper) (T T' : TypeId), ops[i]? = some o → i < m → o.op = .alloc T → listed.getD i false = true → ops[i']? = some o' → i' < m → o'.op = .alloc T' → listed.getD i' false = true → β i = β i' → i = i'

theorem filterMap_nodup {l : List Oper} (h : (l.filterMap (·.dst)).Nodup) : ∀ (i j : Nat) (o o' : Oper) (d : Nat), l[i]? = some o → l[j]? = some o' → o.dst = some d → o'.dst = some d → i = j := by
  induction l with
  | nil => intro i j o o' d h1; simp at h1
  | cons x l ih =>
    intro i j o o' d h1 h2 h3 h4
    have hl : (l.filterMap (·.dst)).Nodup := by
      cases hx : x.dst with
      | none => rwa [List.filterMap_cons_none hx] at h
      | some y => rw [List.filterMap_cons_some hx] at h; exact (List.nodup_cons.1 h).2
    have hout : ∀ (k : Nat) (q : Oper), x.dst = some d → l[k]? = some q → q.dst = some d → False := fun k q hx hk hq => by
      rw [List.filterMap_cons_some hx] at h
      exact (List.nodup_cons.1 h).1 (List.mem_filterMap.2 ⟨q, List.mem_of_getElem? hk, hq⟩)
    cases i with
    | zero =>
      cases j with
      | zero => rfl
      | succ j => simp at h1 h2; subst h1; exact (hout j o' h3 h2 h4).elim
    | succ i =>
      cases j with
      | zero => simp at h1 h2; subst h2; exact (hout i o h4 h1 h3).elim
      | succ j => simp at h1 h2; rw [ih hl i j o o' d h1 h2 h3 h4]

theorem tmps_put {a : Act} {dst : Option Tmp} {v : Value} {d : Nat} (h : dst ≠ some d) : (a.put dst v).tmps.getD d undef = a.tmps.getD d undef := by
  cases dst with
  | none => rfl
  | some t =>
    have : t ≠ d := fun e => h (by rw [e])
    simp only [Act.put]
    rw [Array.getD_eq_getD_getElem?, Array.getElem?_setIfInBounds_ne this, ← Array.getD_eq_getD_getElem?]

theorem AnyL_sound {m : Nat} {g : Nat → Value} (hok : regOK n ops = true) (hD : dstsOK P ops m = true) (hs : Region.sinkB md ops m = true) (hc : Region.chainB md ops m = true) (hm : m < ops.size) {Qc : Exit → Act → World → Prop} (st : St B X w0 w φ H) {E0 : Env} {a0 : Act} {L : Array Bool → Env → Prop} {r : Nat}
    (hL : ∀ listed E a w' β, L listed E → HeadInv md ops m listed → Gr w w' → EnvOK w' φ H E a n g → NewV P ops m w listed a w' β →
      (∀ t, (∀ o ∈ ops.toList.take m, o.dst ≠ some t) → a.tmps.getD t undef = a0.tmps.getD t undef ∧ E t = E0 t) → wpAny P md ops Qc r listed a w') :
    ∀ (f : Nat) (listed : Array Bool) (E : Env) (a : Act) (w' : World) (β : Nat → Nat), AnyL P md ops H m L f listed E → HeadInv md ops m listed → Gr w w' → EnvOK w' φ H E a n g → NewV P ops m w listed a w' β →
      (∀ t, (∀ o ∈ ops.toList.take m, o.dst ≠ some t) → a.tmps.getD t undef = a0.tmps.getD t undef ∧ E t = E0 t) → wpAny P md ops Qc (f + r) listed a w'
  | 0, listed, E, a, w', β, h, inv, gr, eo, nv, un => by rw [Nat.zero_add]; exact hL listed E a w' β h inv gr eo nv un
  | f + 1, listed, E, a, w', β, h, inv, gr, eo, nv, un => by
    rw [show f + 1 + r = (f + r) + 1 by omega]
    refine ⟨fun h0 => absurd h0 h.1, fun i hi => ?_⟩
    obtain ⟨him, hstep⟩ := h.2 i hi
    obtain ⟨hun, o, ho, _⟩ := mem_ready.1 hi
    obtain ⟨x, hy, hn⟩ := hstep o ho
    have hmem : o ∈ ops.toList := Array.mem_toList_iff.2 (Array.mem_of_getElem? ho)
    have hmt : o ∈ ops.toList.take m := by
      refine List.mem_of_getElem? (i := i) ?_
      rw [List.getElem?_take, if_pos him]; simpa using ho
    have hon := List.all_eq_true.1 hok o hmem
    simp only [Bool.and_eq_true] at hon
    simp only [dstsOK, Bool.and_eq_true, decide_eq_true_eq] at hD
    have hnd := filterMap_nodup hD.1
    have hlt : i < listed.size := by rw [inv.size]; exact (Array.getElem?_eq_some_iff.1 ho).1
    have hset : ∀ k, (listed.setIfInBounds i true).getD k false = true → k = i ∨ listed.getD k false = true := fun k hk => by
      by_cases e : k = i
      · exact .inl e
      · rw [getD_set_ne false (Ne.symm e)] at hk; exact .inr hk
    have hunl : listed.getD i false = false := getD_both hun
    have un' : ∀ v t, (∀ o ∈ ops.toList.take m, o.dst ≠ some t) → (a.put o.dst v).tmps.getD t undef = a0.tmps.getD t undef ∧ put E o.dst x t = E0 t := fun v t ht => by
      have hne := ht o hmt
      rw [tmps_put hne, put_off hne]
      exact un t ht
    unfold wpOp
    simp only [ho]
    -- what was made stays
    have keep : ∀ v w'', Gr w' w'' → (∀ T, o.op ≠ .alloc T) → NewV P ops m w (listed.setIfInBounds i true) (a.put o.dst v) w'' β := fun v w'' gr' hna => by
      refine ⟨fun k ok T d hk hkm hop hd hl => ?_, fun k k' ok ok' T T' hk hkm hop hl hk' hkm' hop' hl' e => ?_⟩
      · rcases hset k hl with rfl | hl
        · rw [ho] at hk; cases hk; exact absurd hop (hna T)
        · obtain ⟨j, z, h1, h2, h3, h4, h5, h6⟩ := nv.1 k ok T d hk hkm hop hd hl
          refine ⟨j, z, h1, h2, ?_, ?_, h5, Nat.lt_of_lt_of_le h6 gr'.size⟩
          · rw [tmps_put fun e => ?_]
            · exact h3
            · have := hnd i k o ok d (by simpa using ho) (by simpa using hk) e hd
              subst this
              rw [ho] at hk; cases hk; exact absurd hop (hna T)
          · rw [gr'.block _ h6 (fun h => h)]; exact h4
      · rcases hset k hl with rfl | hl
        · rw [ho] at hk; cases hk; exact absurd hop (hna T)
        rcases hset k' hl' with rfl | hl'
        · rw [ho] at hk'; cases hk'; exact absurd hop' (hna T')
        exact nv.2 k k' ok ok' T T' hk hkm hop hl hk' hkm' hop' hl' e
    by_cases hal : ∃ T, o.op = .alloc T
    · obtain ⟨T, hop⟩ := hal
      have hgd := List.all_eq_true.1 hD.2 o hmt
      rw [hop] at hgd
      simp only [Bool.and_eq_true, Option.isNone_iff_eq_none, Option.isSome_iff_exists] at hgd
      obtain ⟨⟨hg, d, hd⟩, _⟩ := hgd
      unfold FY at hy
      rw [hg] at hy
      dsimp only at hy
      rw [hop] at hy
      simp only [fOp] at hy
      split at hy
      · rename_i zs hz
        obtain ⟨j, z, hj, hjz, rfl⟩ : ∃ i z, P.info? T = some i ∧ i.zero = some z ∧ z.cells.toList.map constA = zs := by
          unfold zeroA at hz
          simp only [Option.map_eq_some_iff, Option.bind_eq_some_iff] at hz
          obtain ⟨z, ⟨i, hi, hiz⟩, e⟩ := hz
          exact ⟨i, z, hi, hiz, e⟩
        rw [if_pos (by simp [Region.wanted, hg])]
        refine .inl ?_
        unfold Oper.wp
        rw [show (execOp a.eval o).run P w' = .ok (.value (.pointer (some ⟨w'.heap.size, 0, none⟩))) (w'.alloc (.cells z.cells T)) by simp [execOp, hop, Instr.alloc, zeroValue, typeInfo, hj, hjz, newVar, newRow]]
        have gr' := Gr.alloc w' (.cells z.cells T)
        have hdn : d < n := by have := hon.1.2; rw [hd] at this; simpa [dstOK] using this
        refine AnyL_sound hok (by simp only [dstsOK, Bool.and_eq_true, decide_eq_true_eq]; exact hD) hs hc hm st hL f _ _ _ _ (fun k => if k = i then w'.heap.size else β k) hn (inv.set hi him) (gr.trans gr') ((eo.le ((st.ext gr).1.ext gr').2).put o.dst hon.1.2 (by rw [← hy.2]; exact .dead _)) ⟨fun k ok T' d' hk hkm hop' hd' hl => ?_, fun k k' ok ok' T1 T2 hk hkm hop1 hl hk' hkm' hop2 hl' e => ?_⟩ (un' _)
        · by_cases e : k = i
          · subst e
            rw [ho] at hk; cases hk
            rw [hop] at hop'; cases hop'
            rw [hd] at hd'; cases hd'
            refine ⟨j, z, hj, hjz, ?_, ?_, ?_, ?_⟩
            · have : d < a.tmps.size := by rw [eo.size]; exact hdn
              simp [Act.put, hd, this]
            · simp only [if_true]; exact heap_alloc_new w' _
            · simp only [if_true]; exact gr.size
            · simp
          · rcases hset k hl with e' | hl
            · exact absurd e' e
            · obtain ⟨j', z', h1, h2, h3, h4, h5, h6⟩ := nv.1 k ok T' d' hk hkm hop' hd' hl
              simp only [if_neg e]
              refine ⟨j', z', h1, h2, ?_, ?_, h5, Nat.lt_of_lt_of_le h6 gr'.size⟩
              · rw [tmps_put fun e' => e (hnd k i ok o d' (by simpa using hk) (by simpa using ho) hd' e')]; exact h3
              · rw [gr'.block _ h6 (fun h => h)]; exact h4
        · have hb : ∀ (q : Nat) oq Tq, ops[q]? = some oq → q < m → oq.op = .alloc Tq → q ≠ i → (listed.setIfInBounds i true).getD q false = true → β q < w'.heap.size := fun q oq Tq hq hqm hopq hqi hlq => by
            rcases hset q hlq with e' | hlq
            · exact absurd e' hqi
            · have hgq := List.all_eq_true.1 hD.2 oq (List.mem_of_getElem? (i := q) (by rw [List.getElem?_take, if_pos hqm]; simpa using hq))
              rw [hopq] at hgq
              simp only [Bool.and_eq_true, Option.isSome_iff_exists] at hgq
              obtain ⟨⟨_, dq, hdq⟩, _⟩ := hgq
              obtain ⟨_, _, _, _, _, _, _, h6⟩ := nv.1 q oq Tq dq hq hqm hopq hdq hlq
              exact h6
          by_cases e1 : k = i <;> by_cases e2 : k' = i
          · rw [e1, e2]
          · simp only [if_pos e1, if_neg e2] at e
            have := hb k' ok' T2 hk' hkm' hop2 e2 hl'
            omega
          · simp only [if_neg e1, if_pos e2] at e
            have := hb k ok T1 hk hkm hop1 e1 hl
            omega
          · simp only [if_neg e1, if_neg e2] at e
            rcases hset k hl with e' | hl
            · exact absurd e' e1
            rcases hset k' hl' with e' | hl'
            · exact absurd e' e2
            exact nv.2 k k' ok ok' T1 T2 hk hkm hop1 hl hk' hkm' hop2 hl' e
      · exact hy.elim
    · have hna : ∀ T, o.op ≠ .alloc T := fun T e => hal ⟨T, e⟩
      refine FY_sound (st.ext gr).1 eo hok hmem hy fun v w'' gr' rv => ?_
      exact AnyL_sound hok (by simp only [dstsOK, Bool.and_eq_true, decide_eq_true_eq]; exact hD) hs hc hm st hL f _ _ _ w'' β hn (inv.set hi him) (gr.trans gr') ((eo.le ((st.ext gr).1.ext gr').2).put o.dst hon.1.2 rv) (keep v w'' gr' hna) (un' v)

/-- the places of the operations that make a variable -/
def alL : Nat → List Oper → List (Nat × TypeId)
  | _, [] => []
  | p, o :: r => match o.dst, o.op with
    | some _, .alloc T => (p, T) :: alL (p + 1) r
    | _, _ => alL (p + 1) r
theorem alL_cons_al {p : Nat} {o : Oper} {r : List Oper} {d : Nat} {T : TypeId} (hd : o.dst = some d) (ho : o.op = .alloc T) : alL p (o :: r) = (p, T) :: alL (p + 1) r := by simp [alL, hd, ho]
theorem alL_cons_no {p : Nat} {o : Oper} {r : List Oper} (h : ∀ d T, ¬ (o.dst = some d ∧ o.op = .alloc T)) : alL p (o :: r) = alL (p + 1) r := by
  rw [alL]
  split
  · rename_i d T hd ho; exact absurd ⟨hd, ho⟩ (h d T)
  · rfl
theorem endH_eq (P : Program) : ∀ (l : List Oper) (p : Nat), endH P l = (alL p l).map fun x => .box x.2 ((zeroA P x.2).getD [])
  | [], p => rfl
  | o :: r, p => by
    rw [endH, alL]
    split
    · rw [List.map_cons, endH_eq P r (p + 1)]
    · exact endH_eq P r (p + 1)
theorem alL_ge : ∀ (l : List Oper) (p j i : Nat) (T : TypeId), (alL p l)[j]? = some (i, T) → p ≤ i ∧ ∃ o d, l[i - p]? = some o ∧ o.op = .alloc T ∧ o.dst = some d
  | [], p, j, i, T, h => by simp [alL] at h
  | o :: r, p, j, i, T, h => by
    have rest : ∀ j', (alL (p + 1) r)[j']? = some (i, T) → p ≤ i ∧ ∃ q d, (o :: r)[i - p]? = some q ∧ q.op = .alloc T ∧ q.dst = some d := fun j' h => by
      obtain ⟨h1, q, d, h2, h3, h4⟩ := alL_ge r (p + 1) j' i T h
      refine ⟨by omega, q, d, ?_, h3, h4⟩
      rw [show i - p = (i - (p + 1)) + 1 by omega]
      exact h2
    rw [alL] at h
    split at h
    · rename_i d T' hd ho
      cases j with
      | zero => simp at h; obtain ⟨rfl, rfl⟩ := h; exact ⟨Nat.le_refl _, o, d, by simp, ho, hd⟩
      | succ j => exact rest j (by simpa using h)
    · exact rest j h
theorem alL_inj : ∀ (l : List Oper) (p j j' i : Nat) (T T' : TypeId), (alL p l)[j]? = some (i, T) → (alL p l)[j']? = some (i, T') → j = j'
  | [], p, j, j', i, T, T', h, _ => by simp [alL] at h
  | o :: r, p, j, j', i, T, T', h, h' => by
    rw [alL] at h h'
    split at h
    · rename_i d T0 hd ho
      rw [hd, ho] at h'
      dsimp only at h'
      cases j with
      | zero =>
        cases j' with
        | zero => rfl
        | succ j' =>
          simp at h h'
          have := (alL_ge r (p + 1) j' i T' h').1
          omega
      | succ j =>
        cases j' with
        | zero =>
          simp at h h'
          have := (alL_ge r (p + 1) j i T h).1
          omega
        | succ j' => rw [alL_inj r (p + 1) j j' i T T' (by simpa using h) (by simpa using h')]
    · rename_i hno
      split at h'
      · rename_i d T0 hd ho; exact absurd ho (hno d T0 hd)
      · exact alL_inj r (p + 1) j j' i T T' h h'

theorem endE_spec : ∀ (l : List Oper) (p k : Nat) (E : Env), (l.filterMap (·.dst)).Nodup → ∀ t,
    ((∀ o ∈ l, o.dst ≠ some t) ∧ endE l k E t = E t) ∨ (endE l k E t = if flat2 (E t) then E t else .dead) ∧ (∃ o ∈ l, o.dst = some t) ∨
    ∃ j i T o, (alL p l)[j]? = some (i, T) ∧ p ≤ i ∧ l[i - p]? = some o ∧ o.op = .alloc T ∧ o.dst = some t ∧ endE l k E t = .bptr (k + j) 0
  | [], p, k, E, _, t => .inl ⟨fun o ho => by simp at ho, rfl⟩
  | o :: r, p, k, E, hnd, t => by
    rcases hd : o.dst with _ | d
    · rw [List.filterMap_cons_none hd] at hnd
      have e1 : endE (o :: r) k E = endE r k E := by rw [endE]; simp only [hd]
      have e2 : alL p (o :: r) = alL (p + 1) r := alL_cons_no fun d T h => by rw [hd] at h; cases h.1
      rw [e1, e2]
      rcases endE_spec r (p + 1) k E hnd t with ⟨h1, h2⟩ | ⟨h1, q, hq, hqt⟩ | ⟨j, i, T, q, h1, h2, h3, h4, h5, h6⟩
      · exact .inl ⟨fun q hq => by rcases List.mem_cons.1 hq with rfl | hq; rw [hd]; simp; exact h1 q hq, h2⟩
      · exact .inr (.inl ⟨h1, q, by simp [hq], hqt⟩)
      · refine .inr (.inr ⟨j, i, T, q, h1, by omega, ?_, h4, h5, h6⟩)
        rw [show i - p = (i - (p + 1)) + 1 by omega]; exact h3
    · rw [List.filterMap_cons_some hd] at hnd
      obtain ⟨hnm, hnd'⟩ := List.nodup_cons.1 hnd
      have hout : ∀ q ∈ r, q.dst = some t → t ≠ d := fun q hq hqt e => hnm (List.mem_filterMap.2 ⟨q, hq, by rw [hqt, e]⟩)
      by_cases hal : ∃ T, o.op = .alloc T
      · obtain ⟨T, ho⟩ := hal
        have e1 : endE (o :: r) k E = endE r (k + 1) (upd E d (.bptr k 0)) := by rw [endE]; simp only [hd, ho]
        rw [e1, alL_cons_al hd ho]
        rcases endE_spec r (p + 1) (k + 1) (upd E d (.bptr k 0)) hnd' t with ⟨h1, h2⟩ | ⟨h1, q, hq, hqt⟩ | ⟨j, i, T', q, h1, h2, h3, h4, h5, h6⟩
        · by_cases e : t = d
          · subst e
            refine .inr (.inr ⟨0, p, T, o, rfl, Nat.le_refl _, by simp, ho, hd, ?_⟩)
            rw [h2, upd_same, Nat.add_zero]
          · refine .inl ⟨fun q hq => ?_, by rw [h2, upd_ne _ _ _ _ e]⟩
            rcases List.mem_cons.1 hq with rfl | hq
            · rw [hd]; simp; exact Ne.symm e
            · exact h1 q hq
        · refine .inr (.inl ⟨?_, q, by simp [hq], hqt⟩)
          rw [h1, upd_ne _ _ _ _ (hout q hq hqt)]
        · refine .inr (.inr ⟨j + 1, i, T', q, by simpa using h1, by omega, ?_, h4, h5, ?_⟩)
          · rw [show i - p = (i - (p + 1)) + 1 by omega]; exact h3
          · rw [h6]; congr 1; omega
      · have e1 : endE (o :: r) k E = endE r k (upd E d (if flat2 (E d) then E d else .dead)) := by
          rw [endE]; simp only [hd]
          split
          · rename_i T ho; exact absurd ⟨T, ho⟩ hal
          · rfl
        rw [e1, alL_cons_no fun d' T h => hal ⟨T, h.2⟩]
        rcases endE_spec r (p + 1) k (upd E d (if flat2 (E d) then E d else .dead)) hnd' t with ⟨h1, h2⟩ | ⟨h1, q, hq, hqt⟩ | ⟨j, i, T', q, h1, h2, h3, h4, h5, h6⟩
        · by_cases e : t = d
          · subst e
            exact .inr (.inl ⟨by rw [h2, upd_same], o, by simp, hd⟩)
          · refine .inl ⟨fun q hq => ?_, by rw [h2, upd_ne _ _ _ _ e]⟩
            rcases List.mem_cons.1 hq with rfl | hq
            · rw [hd]; simp; exact Ne.symm e
            · exact h1 q hq
        · refine .inr (.inl ⟨?_, q, by simp [hq], hqt⟩)
          rw [h1, upd_ne _ _ _ _ (hout q hq hqt)]
        · refine .inr (.inr ⟨j, i, T', q, h1, by omega, ?_, h4, h5, h6⟩)
          rw [show i - p = (i - (p + 1)) + 1 by omega]; exact h3

theorem constA_closed (v : Value) : (constA v).closed = true := by cases v <;> rfl
theorem constA_vf (v : Value) : (constA v).vf = true := by cases v <;> rfl
theorem sh1_constA (k : Nat) (v : Value) : sh1 k (constA v) = constA v := by
  have h := constA_closed v
  cases v <;> first | rfl | (simp only [constA, sh1] at h ⊢; first | rfl | (rw [if_pos h]))

/-- what stands behind the first operations -/
theorem end_sound {m : Nat} {g : Nat → Value} (hD : dstsOK P ops m = true) (st : St B X w0 w φ H) {E0 E : Env} {a0 a : Act} (eo0 : EnvOK w φ H E0 a0 n g) {w' : World} (gr : Gr w w') (eo : EnvOK w' φ H E a n g) {listed : Array Bool} {β : Nat → Nat}
    (hall : ∀ i, i < m → i < ops.size → listed.getD i false = true) (nv : NewV P ops m w listed a w' β) (hdst : ∀ o ∈ ops.toList, dstOK n o.dst = true)
    (un : ∀ t, (∀ o ∈ ops.toList.take m, o.dst ≠ some t) → a.tmps.getD t undef = a0.tmps.getD t undef ∧ E t = E0 t) :
    ∃ φ2, St B X w0 w' φ2 (H ++ endH P (ops.toList.take m)) ∧ EnvOK w' φ2 (H ++ endH P (ops.toList.take m)) (endE (ops.toList.take m) H.length E) a n g := by
  simp only [dstsOK, Bool.and_eq_true, decide_eq_true_eq] at hD
  have hnd : ((ops.toList.take m).filterMap (·.dst)).Nodup := by
    refine List.Sublist.nodup ?_ hD.1
    exact (List.take_sublist m ops.toList).filterMap _
  generalize hal : alL 0 (ops.toList.take m) = al
  have hH := endH_eq P (ops.toList.take m) 0
  rw [hal] at hH
  have hop : ∀ j i T, al[j]? = some (i, T) → i < m ∧ ∃ o d, ops[i]? = some o ∧ o.op = .alloc T ∧ o.dst = some d := fun j i T h => by
    rw [← hal] at h
    obtain ⟨_, o, d, h1, h2, h3⟩ := alL_ge _ 0 j i T h
    rw [Nat.sub_zero, List.getElem?_take] at h1
    split at h1
    · rename_i him; exact ⟨him, o, d, by simpa using h1, h2, h3⟩
    · cases h1
  have hnew : ∀ j i T, al[j]? = some (i, T) → ∃ (z : Value) (zs : List AV), zeroA P T = some zs ∧ zs = z.cells.toList.map constA ∧ zs.all AV.one = true ∧ w'.heap[β i]? = some (.cells z.cells T (0, 0)) ∧ w.heap.size ≤ β i ∧ β i < w'.heap.size ∧
      ∀ o d, ops[i]? = some o → o.dst = some d → a.tmps.getD d undef = .pointer (some ⟨β i, 0, none⟩) := fun j i T h => by
    obtain ⟨him, o, d, h1, h2, h3⟩ := hop j i T h
    obtain ⟨q, z, e1, e2, e3, e4, e5, e6⟩ := nv.1 i o T d h1 him h2 h3 (hall i him (Array.getElem?_eq_some_iff.1 h1).1)
    have hz : zeroA P T = some (z.cells.toList.map constA) := by simp [zeroA, e1, e2]
    have hgd := List.all_eq_true.1 hD.2 o (List.mem_of_getElem? (i := i) (by rw [List.getElem?_take, if_pos him]; simpa using h1))
    rw [h2] at hgd
    simp only [Bool.and_eq_true, hz] at hgd
    exact ⟨z, _, hz, rfl, hgd.2, e4, e5, e6, fun o' d' ho' hd' => by rw [h1] at ho'; cases ho'; rw [h3] at hd'; cases hd'; exact e3⟩
  let φc : Nat → Value := fun j => match al[j]? with
    | some x => .pointer (some ⟨β x.1, 0, none⟩)
    | none => undef
  have hφc : ∀ j i T, al[j]? = some (i, T) → φc j = .pointer (some ⟨β i, 0, none⟩) := fun j i T h => by show (match al[j]? with | some x => _ | none => _) = _; rw [h]
  have hobj : ∀ id o, (endH P (ops.toList.take m))[id]? = some o → ∃ (i : Nat) (T : TypeId), al[id]? = some (i, T) ∧ o = AO.box T ((zeroA P T).getD []) := fun id o h => by
    rw [hH, List.getElem?_map, Option.map_eq_some_iff] at h
    obtain ⟨⟨i, T⟩, h1, h2⟩ := h
    exact ⟨i, T, h1, h2.symm⟩
  have hvf : ∀ o ∈ endH P (ops.toList.take m), vfO o := fun o ho => by
    obtain ⟨id, hid⟩ := List.mem_iff_getElem?.1 ho
    obtain ⟨i, T, h1, rfl⟩ := hobj id o hid
    obtain ⟨z, zs, hz, rfl, _⟩ := hnew id i T h1
    simp only [vfO, hz, Option.getD_some]
    intro x hx
    obtain ⟨v, _, rfl⟩ := List.mem_map.1 hx
    exact constA_vf v
  have hp : HeapOK w' w.heap.size φc (endH P (ops.toList.take m)) := by
    refine ⟨fun id o b h hl hv => ?_, fun id id' o o' b h hl h' hl' hv hv' => ?_, fun id o h => ?_⟩
    · obtain ⟨i, T, h1, rfl⟩ := hobj id o h
      obtain ⟨z, zs, _, _, _, _, e5, e6, _⟩ := hnew id i T h1
      rw [hφc id i T h1] at hv
      simp [vblk] at hv
      subst hv
      exact ⟨e5, e6⟩
    · obtain ⟨i, T, h1, rfl⟩ := hobj id o h
      obtain ⟨i', T', h1', rfl⟩ := hobj id' o' h'
      rw [hφc id i T h1] at hv
      rw [hφc id' i' T' h1'] at hv'
      simp [vblk] at hv hv'
      obtain ⟨him, q, d, q1, q2, q3⟩ := hop id i T h1
      obtain ⟨him', q', d', q1', q2', q3'⟩ := hop id' i' T' h1'
      have e := nv.2 i i' q q' T T' q1 him q2 (hall i him (Array.getElem?_eq_some_iff.1 q1).1) q1' him' q2' (hall i' him' (Array.getElem?_eq_some_iff.1 q1').1) (by rw [hv, hv'])
      subst e
      rw [← hal] at h1 h1'
      exact alL_inj _ _ _ _ _ _ _ h1 h1'
    · obtain ⟨i, T, h1, rfl⟩ := hobj id o h
      obtain ⟨z, zs, hz, rfl, hone, e4, _⟩ := hnew id i T h1
      refine ⟨β i, z.cells, hφc id i T h1, e4, by simp [hz], fun j c u hc hu => ?_⟩
      simp only [hz, Option.getD_some, List.getElem?_map, Option.map_eq_some_iff] at hc
      obtain ⟨y, hy, rfl⟩ := hc
      simp at hy
      rw [hy] at hu
      have e := Option.some.inj hu
      rw [← e]
      refine ⟨constA_R y, (constA_R (w := w') (φ := φc) (H := []) y).one (List.all_eq_true.1 hone _ (List.mem_map.2 ⟨y, ?_, rfl⟩))⟩
      exact Array.mem_toList_iff.2 (Array.mem_of_getElem? hy)
  obtain ⟨st2, le2⟩ := st.join gr hvf hp
  have hsh : (endH P (ops.toList.take m)).map (shO H.length) = endH P (ops.toList.take m) := by
    conv => rhs; rw [← List.map_id (endH P (ops.toList.take m))]
    refine List.map_congr_left fun o ho => ?_
    obtain ⟨id, hid⟩ := List.mem_iff_getElem?.1 ho
    obtain ⟨i, T, h1, rfl⟩ := hobj id o hid
    obtain ⟨z, zs, hz, rfl, _⟩ := hnew id i T h1
    simp only [shO, hz, Option.getD_some, id_eq, List.map_map]
    congr 1
    exact List.map_congr_left fun v _ => sh1_constA _ v
  rw [hsh] at st2 le2
  refine ⟨_, st2, eo.size, eo.defers, fun t ht => ?_, fun t ht => ?_⟩
  · rcases endE_spec (ops.toList.take m) 0 H.length E hnd t with ⟨h1, h2⟩ | ⟨h1, _⟩ | ⟨j, i, T, o, h1, h2, h3, h4, h5, h6⟩
    · obtain ⟨e1, e2⟩ := un t h1
      rw [h2, e1, e2]
      exact (eo0.slot t ht).le le2
    · rw [h1]
      by_cases hf : flat2 (E t) = true
      · rw [if_pos hf]; exact flat2_R (eo.slot t ht) hf
      · rw [if_neg hf]; exact .dead _
    · rw [hal] at h1
      obtain ⟨him, q, d, q1, q2, q3⟩ := hop j i T h1
      obtain ⟨z, zs, _, _, _, _, _, _, hs⟩ := hnew j i T h1
      have hq : q = o := by
        rw [Nat.sub_zero, List.getElem?_take, if_pos him] at h3
        have : ops[i]? = some o := by simpa using h3
        rw [q1] at this; exact Option.some.inj this
      subst hq
      rw [h6, hs q t q1 h5]
      have hlen : (endH P (ops.toList.take m)).length = al.length := by rw [hH, List.length_map]
      have hj : j < al.length := (List.getElem?_eq_some_iff.1 h1).1
      refine .bptr _ _ _ (by rw [List.length_append, hlen]; omega) rfl fun o' ho' hp' => ⟨β i, ?_, rfl⟩
      rw [joinφ_ge (by omega), Nat.add_sub_cancel_left]
      exact hφc j i T h1
  · rcases endE_spec (ops.toList.take m) 0 H.length E hnd t with ⟨h1, h2⟩ | ⟨h1, q, hq, hqt⟩ | ⟨j, i, T, o, h1, h2, h3, h4, h5, h6⟩
    · rw [h2, (un t h1).2]
      exact (eo0.ghost t ht).le le2
    · have := hdst q (List.mem_of_mem_take hq)
      rw [hqt] at this
      exact absurd (of_decide_eq_true this) (Nat.not_lt.2 ht)
    · have := hdst o (List.mem_of_mem_take (List.mem_of_getElem? h3))
      rw [h5] at this
      exact absurd (of_decide_eq_true this) (Nat.not_lt.2 ht)

/-- a region that draws its order: the first m operations come in whatever order, and make memory and variables; the others come behind them one after the other -/
theorem J_regiong {id : Nat} {env : Env} {K : Post} (m : Nat) (hm : P.follows .mixedOrders = true) (hB : Region.lexTailB .any ops m = true) (hok : regOK n ops = true) (hD : dstsOK P ops m = true)
    (h : FO P ops (ops.toList.take m) env H fun e => VO P false ops (ops.toList.drop m) (endE (ops.toList.take m) H.length e) (H ++ endH P (ops.toList.take m)) fun e h => @Hold2 e h ⟨fun e h => K .normal e h⟩) : J P n (.region id ops true) env H K := by
  intro B X w0 w φ a g st eo
  simp only [Region.lexTailB, Bool.and_eq_true, decide_eq_true_eq] at hB
  obtain ⟨⟨⟨⟨hsel, hn⟩, hs⟩, hc⟩, hlex⟩ := hB
  generalize hl : ops.toList = l at *
  have hlen : l.length = ops.size := by rw [← hl]; simp
  have hget : ∀ j : Nat, l[j]? = ops[j]? := fun j => by rw [← hl]; simp
  have htl : (l.take m).length = m := by rw [List.length_take]; omega
  have hdl : (l.drop m).length = ops.size - m := by rw [List.length_drop, hlen]
  have inv0 : HeadInv .any ops m (Array.replicate ops.size false) :=
    ⟨by simp, fun j oj _ hl => (by rw [getD_replicate_false] at hl; cases hl), fun t _ ht => getD_in (by simpa using ht) (getD_replicate_false _ _)⟩
  obtain ⟨st1, le1⟩ := st.ext (Gr.drew w)
  have hA := AnyL_lex (md := .any) (g := ops.size - m) hsel hs hc hn (l.take m) 0 _ env (fun j hj => by
    have hj' : j < m := by rw [htl] at hj; exact hj
    rw [List.getElem?_take, if_pos hj', hget, Nat.zero_add]) (by simpa using htl) inv0 (by rw [htl]; exact hlex) h
  have hdst : ∀ o ∈ l, dstOK n o.dst = true := fun o ho => by
    have := List.all_eq_true.1 hok o (by rw [hl]; exact ho)
    simp only [Bool.and_eq_true] at this
    exact this.1.2
  refine wp_region_any hm ?_
  have := AnyL_sound (P := P) (g := g) (Qc := Lift B X w0 n g K) (E0 := env) (a0 := a) (r := ops.size - m) (L := fun listed' E' => Region.seqB .any ops (ops.size - m) m listed' = true ∧ VO P false ops (l.drop m) (endE (l.take m) H.length E') (H ++ endH P (l.take m)) fun e h => K .normal e h) hok hD hs hc hn st1 (fun listed E a' w' β hL inv gr eo' nv un => by
    rw [hl] at un
    have hall : ∀ i, i < m → i < ops.size → listed.getD i false = true := fun i him hil => by
      cases hg : listed.getD i false with
      | true => rfl
      | false =>
        have hun := getD_in (listed := listed) (by rw [inv.size]; exact hil) hg
        have hr : m ∈ Region.ready .any ops listed := by
          have h1 := hL.1
          rw [show ops.size - m = (ops.size - m - 1) + 1 by omega] at h1
          simp only [Region.seqB, Bool.and_eq_true, decide_eq_true_eq] at h1
          rw [h1.1]; simp
        exact absurd hr (tail_waits hs hc hn inv _ i rfl him hun m (Nat.le_refl _))
    obtain ⟨φ2, s2, e2⟩ := end_sound (P := P) hD st1 (eo.le le1) gr eo' hall nv (by rw [hl]; exact hdst) (by rw [hl]; exact un)
    rw [hl] at s2 e2
    have := wpAny_of_seq (md := .any) (Q' := Lift B X w0 n g K) (l.drop m) m listed a' w' (fun j => by rw [List.getElem?_drop, hget]) (by rw [hdl]; exact hL.1)
      (VO_sound (g := g) (K := fun e h => K .normal e h) (fun env H φ w a k st eo => ⟨env, H, φ, k, st, eo⟩) (l.drop m) (fun o ho => by rw [hl]; exact List.mem_of_mem_drop ho) hok _ _ _ φ2 a' hL.2 s2 e2)
    rwa [hdl] at this) _ _ _ a _ (fun _ => 0) (by exact hA) inv0 (Gr.refl _) (eo.le le1) ⟨fun i o T d _ _ _ _ hl => (by rw [getD_replicate_false] at hl; cases hl), fun i i' o o' T T' _ _ _ hl => (by rw [getD_replicate_false] at hl; cases hl)⟩ (fun t _ => ⟨rfl, rfl⟩)
  rw [htl, show m + (ops.size - m) = ops.size by omega] at this
  exact this
attribute [go_sem] endE endH
end
end Go.Av
