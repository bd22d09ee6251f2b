/- Av, part B: renaming the objects (what a loop's head and a result keep of the memory), the judgement J on a function's text and its rules, and what a call's contract is. -/
import Derived.Test.YteahieldmfehlaaDoorAvA
import Derived.LoopN
namespace Go.Av
open Go.RowKit
set_option linter.unusedVariables false

theorem R.closed_to {w : World} {φ φ' : Nat → Value} {H H' : List AO} (hnl : ∀ b, NL φ H b → NL φ' H' b) {x : AV} {v : Value} (r : R w φ H x v) : x.closed = true → R w φ' H' x v := by
  induction r with
  | dead v => exact fun _ => .dead v
  | sc v => exact fun _ => .sc v
  | int k n => exact fun _ => .int k n
  | bool b => exact fun _ => .bool b
  | str s => exact fun _ => .str s
  | view0 s ad cap => exact fun _ => .view0 s ad cap
  | viewx xs n b off size cap u hn hcap hb hl hcl hs hc hr ih =>
    exact fun _ => .viewx xs n b off size cap u hn hcap hb (hnl b hl) hcl hs hc (fun i x j c hi hj => ih i x j c hi hj (AV.closed_cells (hcl i x hi) hj))
  | view xs b off size cap u hcap hb hl hcl hs hc hr ih =>
    exact fun _ => .view xs b off size cap u hcap hb (hnl b hl) hcl hs hc (fun i x j c hi hj => ih i x j c hi hj (AV.closed_cells (hcl i x hi) hj))
  | own id ver off len v hid ho hv hh => intro h; simp [AV.closed] at h
  | vptr x off b o u hcl hb hl hc hr ih =>
    exact fun _ => .vptr x off b o u hcl hb (hnl b hl) hc (fun j c hj => ih j c hj (AV.closed_cells hcl hj))
  | optr id ver i off v hid ho hv hh => intro h; simp [AV.closed] at h
  | bptr id off v hid ho hh => intro h; simp [AV.closed] at h
  | agg xs us hs hr ih => exact fun h => .agg xs us hs (fun i x u hi hu => ih i x u hi hu (AV.closedL_get xs i x (by simpa [AV.closed] using h) hi))
  | tup xs us hs hr ih => exact fun h => .tup xs us hs (fun i x u hi hu => ih i x u hi hu (AV.closedL_get xs i x (by simpa [AV.closed] using h) hi))
  | fn f xs us hs hr ih => exact fun h => .fn f xs us hs (fun i x u hi hu => ih i x u hi hu (AV.closedL_get xs i x (by simpa [AV.closed] using h) hi))
  | iface t x u hr ih => exact fun h => .iface t x u (ih (by simpa [AV.closed] using h))

def ren1 (ids : List Nat) (H : List AO) : AV → AV
  | .own id ver off len => if id ∈ ids then (match H[id]? with | some (.slice v _ _ _) => if v = ver then .own (ids.idxOf id) 0 off len else .dead | _ => .dead) else .dead
  | .bptr id off => if id ∈ ids then (match H[id]? with | some (.box _ _) => .bptr (ids.idxOf id) off | some (.iter _ _) => .bptr (ids.idxOf id) off | _ => .dead) else .dead
  | x => if x.closed then x else .dead
def ren2 (ids : List Nat) (H : List AO) : AV → AV
  | .agg xs => .agg (xs.map (ren1 ids H))
  | .fn f xs => .fn f (xs.map (ren1 ids H))
  | x => ren1 ids H x
def ren (ids : List Nat) (H : List AO) : AV → AV
  | .tup xs => .tup (xs.map (ren2 ids H))
  | x => ren2 ids H x
def renO (ids : List Nat) (H : List AO) : AO → AO
  | .slice _ E size xs => .slice 0 E size xs
  | .box T cs => .box T (cs.map (ren1 ids H))
  | .iter s p => .iter s p
  | .gone => .gone
def renH (ids : List Nat) (H : List AO) : List AO := ids.map fun i => renO ids H (H.getD i .gone)
def renφ (ids : List Nat) (φ : Nat → Value) : Nat → Value := fun k => φ (ids.getD k 0)

theorem renH_get {ids : List Nat} {H : List AO} {k : Nat} {o : AO} (h : (renH ids H)[k]? = some o) : ∃ i, ids[k]? = some i ∧ o = renO ids H (H.getD i .gone) := by
  simp only [renH, List.getElem?_map, Option.map_eq_some_iff] at h
  obtain ⟨i, h1, h2⟩ := h
  exact ⟨i, h1, h2.symm⟩

theorem renH_live {ids : List Nat} {H : List AO} {k : Nat} {o : AO} (h : (renH ids H)[k]? = some o) (hl : o.live = true) : ∃ i o', ids[k]? = some i ∧ H[i]? = some o' ∧ o'.live = true ∧ o = renO ids H o' ∧ ∀ φ, renφ ids φ k = φ i := by
  obtain ⟨i, h1, h2⟩ := renH_get h
  rcases hx : H[i]? with _ | o'
  · rw [List.getD_eq_getElem?_getD, hx] at h2; subst h2; simp [renO, AO.live] at hl
  · rw [List.getD_eq_getElem?_getD, hx] at h2
    simp only [Option.getD_some] at h2
    refine ⟨i, o', h1, hx, ?_, h2, fun φ => by simp [renφ, List.getD_eq_getElem?_getD, h1]⟩
    subst h2
    cases o' <;> simp_all [renO, AO.live]

theorem renNL {ids : List Nat} {H : List AO} {φ : Nat → Value} {b : Nat} (h : NL φ H b) : NL (renφ ids φ) (renH ids H) b := by
  intro k o hk hl
  obtain ⟨i, o', h1, h2, h3, _, h5⟩ := renH_live hk hl
  rw [h5]
  exact h i o' h2 h3

theorem idxOf_get {ids : List Nat} {i : Nat} (h : i ∈ ids) : ids[ids.idxOf i]? = some i := by
  have hlt := List.idxOf_lt_length_of_mem h
  rw [List.getElem?_eq_getElem hlt, List.getElem_idxOf]

theorem renH_idx {ids : List Nat} {H : List AO} {i : Nat} (h : i ∈ ids) : (renH ids H)[ids.idxOf i]? = some (renO ids H (H.getD i .gone)) := by
  simp [renH, idxOf_get h]

theorem ren1_R {w : World} {φ : Nat → Value} {H : List AO} (ids : List Nat) {x : AV} {v : Value} (r : R w φ H x v) : R w (renφ ids φ) (renH ids H) (ren1 ids H x) v := by
  have hcl : ∀ y, R w φ H y v → R w (renφ ids φ) (renH ids H) (if y.closed then y else .dead) v := by
    intro y ry
    by_cases hy : y.closed = true
    · rw [if_pos hy]; exact ry.closed_to (fun b => renNL) hy
    · rw [if_neg hy]; exact .dead v
  cases x with
  | own id ver off len =>
    simp only [ren1]
    by_cases hm : id ∈ ids
    · rw [if_pos hm]
      rcases hx : H[id]? with _ | o
      · exact .dead v
      · cases o with
        | slice v' E size xs =>
          dsimp only
          by_cases hv : v' = ver
          · rw [if_pos hv]
            subst hv
            cases r with
            | own _ _ _ _ _ hid ho _ hh =>
              have hlen : ids.idxOf id < (renH ids H).length := by simp [renH]; exact List.idxOf_lt_length_of_mem hm
              refine .own _ _ _ _ v hlen ho (fun _ _ _ _ _ => Nat.zero_le _) fun E' size' xs' he => ?_
              rw [renH_idx hm, List.getD_eq_getElem?_getD, hx] at he
              simp [renO] at he
              obtain ⟨rfl, rfl, rfl⟩ := he
              have := hh E size xs hx
              simpa [renφ, List.getD_eq_getElem?_getD, idxOf_get hm] using this
          · rw [if_neg hv]; exact .dead v
        | box T cs => exact .dead v
        | iter s p => exact .dead v
        | gone => exact .dead v
    · rw [if_neg hm]; exact .dead v
  | bptr id off =>
    simp only [ren1]
    by_cases hm : id ∈ ids
    · rw [if_pos hm]
      rcases hx : H[id]? with _ | o
      · exact .dead v
      · cases o with
        | box T cs =>
          dsimp only
          cases r with
          | bptr _ _ _ hid ho hh =>
            have hlen : ids.idxOf id < (renH ids H).length := by simp [renH]; exact List.idxOf_lt_length_of_mem hm
            refine .bptr _ _ v hlen ho fun o' he hp => ?_
            have := hh _ hx rfl
            simpa [renφ, List.getD_eq_getElem?_getD, idxOf_get hm] using this
        | iter s p =>
          dsimp only
          cases r with
          | bptr _ _ _ hid ho hh =>
            have hlen : ids.idxOf id < (renH ids H).length := by simp [renH]; exact List.idxOf_lt_length_of_mem hm
            refine .bptr _ _ v hlen ho fun o' he hp => ?_
            have := hh _ hx rfl
            simpa [renφ, List.getD_eq_getElem?_getD, idxOf_get hm] using this
        | slice v' E size xs => exact .dead v
        | gone => exact .dead v
    · rw [if_neg hm]; exact .dead v
  | _ => exact hcl _ r

theorem ren2_R {w : World} {φ : Nat → Value} {H : List AO} (ids : List Nat) {x : AV} {v : Value} (r : R w φ H x v) : R w (renφ ids φ) (renH ids H) (ren2 ids H x) v := by
  cases x with
  | agg xs =>
    cases r with
    | agg _ us hs hr =>
      refine .agg _ us (by simp [hs]) fun i x u hi hu => ?_
      simp only [List.getElem?_map, Option.map_eq_some_iff] at hi
      obtain ⟨y, hy, rfl⟩ := hi
      exact ren1_R ids (hr i y u hy hu)
  | fn f xs =>
    cases r with
    | fn _ _ us hs hr =>
      refine .fn _ _ us (by simp [hs]) fun i x u hi hu => ?_
      simp only [List.getElem?_map, Option.map_eq_some_iff] at hi
      obtain ⟨y, hy, rfl⟩ := hi
      exact ren1_R ids (hr i y u hy hu)
  | _ => exact ren1_R ids r

theorem ren_R {w : World} {φ : Nat → Value} {H : List AO} (ids : List Nat) {x : AV} {v : Value} (r : R w φ H x v) : R w (renφ ids φ) (renH ids H) (ren ids H x) v := by
  cases x with
  | tup xs =>
    cases r with
    | tup _ us hs hr =>
      refine .tup _ us (by simp [hs]) fun i x u hi hu => ?_
      simp only [List.getElem?_map, Option.map_eq_some_iff] at hi
      obtain ⟨y, hy, rfl⟩ := hi
      exact ren2_R ids (hr i y u hy hu)
  | _ => exact ren2_R ids r

theorem St.ren {B : Nat} {X : Nat → Prop} {w0 w : World} {φ : Nat → Value} {H : List AO} (st : St B X w0 w φ H) {ids : List Nat} (nd : ids.Nodup) : St B X w0 w (renφ ids φ) (renH ids H) := by
  refine ⟨st.frame, st.base, st.glob, fun k o b hk hl hb => ?_, fun k k' o o' b hk hl hk' hl' hb hb' => ?_, fun k o hk => ?_⟩
  · obtain ⟨i, o', h1, h2, h3, _, h5⟩ := renH_live hk hl
    exact st.live i o' b h2 h3 (by rw [← h5 φ]; exact hb)
  · obtain ⟨i, p, h1, h2, h3, _, h5⟩ := renH_live hk hl
    obtain ⟨i', p', h1', h2', h3', _, h5'⟩ := renH_live hk' hl'
    have e : i = i' := st.inj i i' p p' b h2 h3 h2' h3' (by rw [← h5 φ]; exact hb) (by rw [← h5' φ]; exact hb')
    subst e
    obtain ⟨hlt, _⟩ := List.getElem?_eq_some_iff.1 h1
    exact (List.getElem?_inj hlt nd).1 (h1.trans h1'.symm)
  · cases o with
    | gone => trivial
    | slice ver E size xs =>
      obtain ⟨i, o', h1, h2, h3, h4, h5⟩ := renH_live hk rfl
      cases o' with
      | slice ver' E' size' xs' =>
        simp only [renO, AO.slice.injEq] at h4
        obtain ⟨_, rfl, rfl, rfl⟩ := h4
        obtain ⟨cs, c1, c2, c3, c4⟩ := st.chunk i _ h2
        refine ⟨cs, by rw [h5]; exact c1, c2, c3, fun a x j c u hx hj hu => ?_⟩
        exact (c4 a x j c u hx hj hu).closed_to (fun b => renNL) (AV.closed_cells (c3 a x hx).1 hj)
      | box T cs => simp [renO] at h4
      | iter s p => simp [renO] at h4
      | gone => simp [renO] at h4
    | iter s p =>
      obtain ⟨i, o', h1, h2, h3, h4, h5⟩ := renH_live hk rfl
      cases o' with
      | iter s' p' =>
        simp only [renO, AO.iter.injEq] at h4
        obtain ⟨rfl, rfl⟩ := h4
        obtain ⟨g, c1, c2⟩ := st.chunk i _ h2
        exact ⟨g, by rw [h5]; exact c1, c2⟩
      | slice v' E' size' xs' => simp [renO] at h4
      | box T cs => simp [renO] at h4
      | gone => simp [renO] at h4
    | box T cs =>
      obtain ⟨i, o', h1, h2, h3, h4, h5⟩ := renH_live hk rfl
      cases o' with
      | box T' cs' =>
        simp only [renO, AO.box.injEq] at h4
        obtain ⟨rfl, rfl⟩ := h4
        obtain ⟨g, arr, c1, c2, c3, c4⟩ := st.chunk i _ h2
        refine ⟨g, arr, by rw [h5]; exact c1, c2, by simp [c3], fun a c u hc hu => ?_⟩
        simp only [List.getElem?_map, Option.map_eq_some_iff] at hc
        obtain ⟨y, hy, rfl⟩ := hc
        exact ⟨ren1_R ids (c4 a y u hy hu).1, (c4 a y u hy hu).2⟩
      | slice ver' E' size' xs' => simp [renO] at h4
      | iter _ _ => simp [renO] at h4
      | gone => simp [renO] at h4

/-- (env, H) may be told as (env', H'): fewer slots, fewer objects, other numbers -/
def Sub (env : Env) (H : List AO) (env' : Env) (H' : List AO) : Prop := ∃ ids : List Nat, ids.Nodup ∧ H' = renH ids H ∧ ∀ t, env' t = .dead ∨ env' t = ren ids H (env t)

def envL (l : List (Nat × AV)) : Env := fun t => (l.lookup t).getD .dead
theorem Sub.of {env : Env} {H : List AO} (l : List (Nat × AV)) (H' : List AO) (ids : List Nat) (nd : ids.Nodup) (hH : H' = renH ids H) (h : ∀ p ∈ l, p.2 = Av.ren ids H (env p.1)) : Sub env H (envL l) H' := by
  refine ⟨ids, nd, hH, fun t => ?_⟩
  unfold envL
  induction l with
  | nil => exact .inl rfl
  | cons p l ih =>
    obtain ⟨k, v⟩ := p
    rw [List.lookup_cons]
    by_cases hk : t = k
    · subst hk
      have := h (t, v) (by simp)
      right; simpa using this
    · have : (t == k) = false := by simpa using hk
      rw [this]
      exact ih fun p hp => h p (List.mem_cons_of_mem _ hp)

theorem Sub.st {B : Nat} {X : Nat → Prop} {w0 w : World} {φ : Nat → Value} {H H' : List AO} {env env' : Env} {a : Act} {n : Nat} {g : Nat → Value} (s : Sub env H env' H') (st : St B X w0 w φ H) (e : EnvOK w φ H env a n g) :
    ∃ φ', St B X w0 w φ' H' ∧ EnvOK w φ' H' env' a n g := by
  obtain ⟨ids, nd, rfl, h⟩ := s
  refine ⟨renφ ids φ, st.ren nd, e.size, e.defers, fun t ht => ?_, fun t ht => ?_⟩
  · rcases h t with h | h
    · rw [h]; exact .dead _
    · rw [h]; exact ren_R ids (e.slot t ht)
  · rcases h t with h | h
    · rw [h]; exact .dead _
    · rw [h]; exact ren_R ids (e.ghost t ht)

section
variable {P : Program} {n : Nat}
abbrev Post := Exit → Env → List AO → Prop
def Lift (B : Nat) (X : Nat → Prop) (w0 : World) (n : Nat) (g : Nat → Value) (K : Post) : Exit → Act → World → Prop :=
  fun ex a w => ∃ env H φ, K ex env H ∧ St B X w0 w φ H ∧ EnvOK w φ H env a n g
/-- from every state that (env, H) tells of, the text c comes to an end that K tells of -/
def J (P : Program) (n : Nat) (c : Code) (env : Env) (H : List AO) (K : Post) : Prop :=
  ∀ (B : Nat) (X : Nat → Prop) (w0 w : World) (φ : Nat → Value) (a : Act) (g : Nat → Value), St B X w0 w φ H → EnvOK w φ H env a n g → c.wp P (Lift B X w0 n g K) a w

def Then (P : Program) (n : Nat) (y : Code) (K : Post) : Post := fun ex e h => match ex with
  | .normal => J P n y e h K
  | ex => K ex e h

variable {env : Env} {H : List AO} {K : Post}
theorem J.mono {c : Code} {K' : Post} (h : J P n c env H K) (hk : ∀ ex e h, K ex e h → K' ex e h) : J P n c env H K' :=
  fun B X w0 w φ a g st eo => wp_mono (h B X w0 w φ a g st eo) fun ex a w ⟨e, h, φ, k, r⟩ => ⟨e, h, φ, hk _ _ _ k, r⟩
theorem J.sub {c : Code} {env' : Env} {H' : List AO} (s : Sub env H env' H') (h : J P n c env' H' K) : J P n c env H K :=
  fun B X w0 w φ a g st eo => let ⟨φ', st', eo'⟩ := s.st st eo; h B X w0 w φ' a g st' eo'
theorem J_seq {x y : Code} (h : J P n x env H (Then P n y K)) : J P n (.seq x y) env H K := by
  intro B X w0 w φ a g st eo
  refine wp_seq (wp_mono (h B X w0 w φ a g st eo) ?_)
  rintro ex a w ⟨e, H, φ, k, st, eo⟩
  cases ex with
  | normal => exact k B X w0 w φ a g st eo
  | _ => exact ⟨e, H, φ, k, st, eo⟩
theorem J_skip (h : K .normal env H) : J P n .skip env H K := fun B X w0 w φ a g st eo => wp_skip ⟨env, H, φ, h, st, eo⟩
theorem J_exit {id : Nat} (h : K (.exit id) env H) : J P n (.exit id) env H K := fun B X w0 w φ a g st eo => wp_exit ⟨env, H, φ, h, st, eo⟩
theorem J_ret (h : K .ret env H) : J P n .ret env H K := fun B X w0 w φ a g st eo => wp_ret ⟨env, H, φ, h, st, eo⟩
def Block (id : Nat) (K : Post) : Post := fun ex e h => match ex with
  | .exit id' => if id' = id then K .normal e h else K (.exit id') e h
  | ex => K ex e h
theorem J_block {id : Nat} {c : Code} (h : J P n c env H (Block id K)) : J P n (.block id c) env H K := by
  intro B X w0 w φ a g st eo
  refine wp_block (wp_mono (h B X w0 w φ a g st eo) ?_)
  rintro ex a w ⟨e, H, φ, k, st, eo⟩
  cases ex with
  | exit id' =>
    simp only [Block, Exit.inBlock] at k ⊢
    by_cases hi : id' = id
    · rw [if_pos hi] at k ⊢; exact ⟨e, H, φ, k, st, eo⟩
    · rw [if_neg hi] at k ⊢; exact ⟨e, H, φ, k, st, eo⟩
  | _ => exact ⟨e, H, φ, k, st, eo⟩

/-! bytes as numbers; arithmetic as the machine does it -/
def b2i (b : UInt8) : Int := b.toNat
def bC (n : Nat) : UInt8 := UInt8.ofNat n
/-- a constant -/
def intC (k : IntKind) (n : Int) : AV := .int k n
theorem intC_u8 (n : Int) (h0 : 0 ≤ n) (h : n < 256) : intC .u8 n = .int .u8 (b2i (bC n.toNat)) := by
  have : n = b2i (bC n.toNat) := by
    show n = ((UInt8.ofNat n.toNat).toNat : Int)
    rw [UInt8.toNat_ofNat']
    omega
  rw [← this]; rfl
theorem intC_i8 (n : Int) : intC .i8 n = .int .i8 n := rfl
theorem intC_i16 (n : Int) : intC .i16 n = .int .i16 n := rfl
theorem intC_i32 (n : Int) : intC .i32 n = .int .i32 n := rfl
theorem intC_i64 (n : Int) : intC .i64 n = .int .i64 n := rfl
theorem intC_u16 (n : Int) : intC .u16 n = .int .u16 n := rfl
theorem intC_u32 (n : Int) : intC .u32 n = .int .u32 n := rfl
theorem intC_u64 (n : Int) : intC .u64 n = .int .u64 n := rfl
/-- what a constant's cell reads as -/
def constA : Value → AV
  | .int k n => intC k n
  | .bool b => .bool b
  | .string s => .str s.data.toList
  | v => .sc v
theorem constA_R {w : World} {φ : Nat → Value} {H : List AO} (v : Value) : R w φ H (constA v) v := by
  cases v <;> simp only [constA, intC] <;> constructor
def evO (env : Env) : Operand → AV
  | .tmp t => env t
  | .const v => match v with
    | .int k n => intC k n
    | .bool b => .bool b
    | .string s => .str s.data.toList
    | .agg cs => .agg (cs.toList.map constA)
    | v => .sc v
  | .global _ => .dead
  | .func f => .fn f []
def okO (n : Nat) : Operand → Bool
  | .tmp t => decide (t < n)
  | _ => true
theorem evO_R {w : World} {φ : Nat → Value} {a : Act} {g : Nat → Value} (eo : EnvOK w φ H env a n g) (x : Operand) (hx : okO n x = true) : R w φ H (evO env x) (a.eval x) := by
  cases x with
  | tmp t => exact eo.slot t (by simpa [okO] using hx)
  | const v =>
    cases v <;> simp only [evO, Act.eval, intC]
    case agg cs =>
      refine .agg _ _ (by simp) fun i x u hi hu => ?_
      simp only [List.getElem?_map, Option.map_eq_some_iff] at hi
      obtain ⟨y, hy, rfl⟩ := hi
      have : y = u := by
        have e : cs.toList[i]? = cs[i]? := by simp
        rw [e, hu] at hy
        exact (Option.some.inj hy).symm
      subst this
      exact constA_R _
    all_goals constructor
  | global g => exact .dead _
  | func f => exact .fn f [] #[] rfl (fun i x u h => by simp at h)

theorem J_cond {c : Operand} {x y : Code} {b : Bool} (hn : okO n c = true) (hb : evO env c = .bool b) (h1 : b = true → J P n x env H K) (h2 : b = false → J P n y env H K) : J P n (.cond c x y) env H K := by
  intro B X w0 w φ a g st eo
  have hr := evO_R eo c hn
  rw [hb] at hr
  have : a.eval c = .bool b := by generalize a.eval c = v at hr; cases hr; rfl
  exact wp_cond_split this (fun h => h1 h B X w0 w φ a g st eo) (fun h => h2 h B X w0 w φ a g st eo)

def LoopK {σ : Type} (E : σ → Env) (Hs : σ → List AO) (I : σ → Prop) (m : σ → Nat) (s : σ) (K : Post) : Post := fun ex e h => match ex with
  | .normal => ∃ s', I s' ∧ m s' < m s ∧ Sub e h (E s') (Hs s')
  | ex => K ex e h
/-- a loop: it is told by a state s of your own; each round lowers m -/
theorem J_loop {σ : Type} {body : Code} (E : σ → Env) (Hs : σ → List AO) (I : σ → Prop) (m : σ → Nat) (s0 : σ) (h0 : I s0) (hin : Sub env H (E s0) (Hs s0))
    (round : ∀ s, I s → J P n body (E s) (Hs s) (LoopK E Hs I m s K)) : J P n (.loop body) env H K := by
  intro B X w0 w φ a g st eo
  have key : ∀ k s, m s < k → I s → ∀ w φ a, St B X w0 w φ (Hs s) → EnvOK w φ (Hs s) (E s) a n g → Code.rounds P body (Lift B X w0 n g K) k a w := by
    intro k
    induction k with
    | zero => intro s hs; omega
    | succ k ih =>
      intro s hs hi w φ a st eo
      rw [rounds_succ]
      refine wp_mono (round s hi B X w0 w φ a g st eo) ?_
      rintro ex a w ⟨e, H, φ, hk, st, eo⟩
      cases ex with
      | normal =>
        obtain ⟨s', h1, h2, h3⟩ := hk
        obtain ⟨φ', st', eo'⟩ := h3.st st eo
        exact ih s' (by omega) h1 w φ' a st' eo'
      | _ => exact ⟨e, H, φ, hk, st, eo⟩
  obtain ⟨φ', st', eo'⟩ := hin.st st eo
  exact wp_loop_rounds (m s0 + 1) (key _ s0 (Nat.lt_succ_self _) h0 w φ' a st' eo')
end
end Go.Av
