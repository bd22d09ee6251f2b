/- Av, part Pa: a call that is told of a part of the caller's memory: what it is handed by pointers it may turn; all else of the caller's stays. -/
import Derived.Test.YtecpgelhhbbjmaaDoorFwE
namespace Go.Av
open Go.RowKit
set_option linter.unusedVariables false

def bxAt (H : List AO) (t : Nat) : Bool := match H[t]? with
  | some o => o.pb
  | none => false
/-- the roots: the t-th object of the part is remembered by a pointer to it -/
def rootE (rs : List Nat) : Env := fun t => if t ∈ rs then .bptr t 0 else .dead
/-- how a call ends: its result (or what it gave up with), where the roots are then, the part's objects then -/
structure PE where
  ret : AV
  roots : List (Nat × AV)
  objs : List AO
def PE.vf (q : PE) : Prop := q.ret.vf = true ∧ ∀ o ∈ q.objs, vfO o
/-- THE CONTRACT of a call that is handed pointers: the part H0 of the memory is told, nothing else turns -/
def CallPX (P : Program) (f : FuncId) (args : List AV) (H0 : List AO) (rs : List Nat) (o : Sum PE PE) : Prop :=
  plainFn P f ∧ (rs.all (bxAt H0)) = true ∧ (∀ q, (o = .inl q ∨ o = .inr q) → (∀ x ∈ q.objs, vfO x) ∧ ∀ p ∈ q.roots, p.1 ∈ rs) ∧ (∀ q, o = .inr q → q.ret.vf = true) ∧
  ∀ (B : Nat) (X : Nat → Prop) (w0 w : World) (φ : Nat → Value) (vals : Array Value) (g : Nat → Value), St B X w0 w φ H0 → vals.size = args.length →
    (∀ (i : Nat) (x : AV) (v : Value), args[i]? = some x → vals[i]? = some v → R w φ H0 x v) → (∀ t, R w φ H0 (rootE rs t) (g t)) →
    Calls P f vals w fun e w' => ∃ φ', match o with
      | .inl q => e = .panicked [{ v := pv q.ret, recovered := false }] ∧ St B X w0 w' φ' q.objs ∧ ∀ t, R w' φ' q.objs (envL q.roots t) (g t)
      | .inr q => ∃ v, e = .returned v ∧ St B X w0 w' φ' q.objs ∧ R w' φ' q.objs q.ret v ∧ ∀ t, R w' φ' q.objs (envL q.roots t) (g t)

/-- what an argument is told as: a part's own by its new number, other slices of ours as views -/
def argP0 (ids : List Nat) (H : List AO) (x y : AV) : Prop := y = ren ids H x ∨ (∃ id ver off len, x = .own id ver off len ∧ id ∉ ids ∧ y = arg false H x) ∨ (x = .sc (.slice none 0 0) ∧ ∃ s, y = .view s [])
def argsP0 (ids : List Nat) (H : List AO) : List AV → List AV → Prop
  | [], [] => True
  | x :: xs, y :: ys => argP0 ids H x y ∧ argsP0 ids H xs ys
  | _, _ => False
def argP (ids : List Nat) (H : List AO) (x y : AV) : Prop := argP0 ids H x y ∨ ∃ xs ys, x = .agg xs ∧ y = .agg ys ∧ argsP0 ids H xs ys
def argsP (ids : List Nat) (H : List AO) : List AV → List AV → Prop
  | [], [] => True
  | x :: xs, y :: ys => argP ids H x y ∧ argsP ids H xs ys
  | _, _ => False
theorem argsP0_get {ids : List Nat} {H : List AO} : ∀ {xs ys : List AV}, argsP0 ids H xs ys → ys.length = xs.length ∧ ∀ (i : Nat) (y : AV), ys[i]? = some y → ∃ x, xs[i]? = some x ∧ argP0 ids H x y
  | [], [], _ => ⟨rfl, fun i y h => by simp at h⟩
  | x :: xs, y :: ys, h => by
    obtain ⟨h1, h2⟩ := argsP0_get h.2
    refine ⟨by simp [h1], fun i z hz => ?_⟩
    cases i with
    | zero => simp at hz; subst hz; exact ⟨x, rfl, h.1⟩
    | succ i => exact h2 i z (by simpa using hz)
  | [], _ :: _, h => h.elim
  | _ :: _, [], h => h.elim
theorem argsP_get {ids : List Nat} {H : List AO} : ∀ {xs ys : List AV}, argsP ids H xs ys → ys.length = xs.length ∧ ∀ (i : Nat) (y : AV), ys[i]? = some y → ∃ x, xs[i]? = some x ∧ argP ids H x y
  | [], [], _ => ⟨rfl, fun i y h => by simp at h⟩
  | x :: xs, y :: ys, h => by
    obtain ⟨h1, h2⟩ := argsP_get h.2
    refine ⟨by simp [h1], fun i z hz => ?_⟩
    cases i with
    | zero => simp at hz; subst hz; exact ⟨x, rfl, h.1⟩
    | succ i => exact h2 i z (by simpa using hz)
  | [], _ :: _, h => h.elim
  | _ :: _, [], h => h.elim

/-- where the caller's pointers into the part lead then -/
def mv0 (ids : List Nat) (n : Nat) (E1 : Env) : AV → AV
  | .bptr id off => if id ∈ ids then (match E1 (ids.idxOf id) with
    | .bptr id' 0 => .bptr (id' + n) off
    | _ => .bptr id off) else .bptr id off
  | x => x
def mv1 (ids : List Nat) (n : Nat) (E1 : Env) : AV → AV
  | .iface t x => .iface t (mv0 ids n E1 x)
  | x => mv0 ids n E1 x
def mv2 (ids : List Nat) (n : Nat) (E1 : Env) : AV → AV
  | .agg xs => .agg (xs.map (mv1 ids n E1))
  | .fn f xs => .fn f (xs.map (mv1 ids n E1))
  | x => mv1 ids n E1 x
def mv3 (ids : List Nat) (n : Nat) (E1 : Env) : AV → AV
  | .tup xs => .tup (xs.map (mv2 ids n E1))
  | x => mv2 ids n E1 x
def mvO (ids : List Nat) (n : Nat) (E1 : Env) : AO → AO
  | .box T cs => .box T (cs.map (mv1 ids n E1))
  | o => o
def goneL (ids : List Nat) (n : Nat) (E1 : Env) : Nat → List AO → List AO
  | _, [] => []
  | i, o :: r => (if i ∈ ids then .gone else mvO ids n E1 o) :: goneL ids n E1 (i + 1) r
theorem goneL_len (ids : List Nat) (n : Nat) (E1 : Env) : ∀ (i : Nat) (H : List AO), (goneL ids n E1 i H).length = H.length
  | _, [] => rfl
  | i, o :: r => by simp [goneL, goneL_len ids n E1 (i + 1) r]
theorem goneL_get (ids : List Nat) (n : Nat) (E1 : Env) : ∀ (i : Nat) (H : List AO) (k : Nat) (o : AO), (goneL ids n E1 i H)[k]? = some o → (i + k ∈ ids ∧ o = .gone) ∨ (i + k ∉ ids ∧ ∃ o', H[k]? = some o' ∧ o = mvO ids n E1 o')
  | _, [], k, o, h => by simp [goneL] at h
  | i, p :: r, 0, o, h => by
    simp only [goneL, List.getElem?_cons_zero, Option.some.injEq] at h
    by_cases hi : i ∈ ids
    · rw [if_pos hi] at h; exact .inl ⟨hi, h.symm⟩
    · rw [if_neg hi] at h; exact .inr ⟨hi, p, rfl, h.symm⟩
  | i, p :: r, k + 1, o, h => by
    simp only [goneL, List.getElem?_cons_succ] at h
    have := goneL_get ids n E1 (i + 1) r k o h
    rw [show i + 1 + k = i + (k + 1) by omega] at this
    simpa using this

def sp1 (k : Nat) : AV → AV
  | .iface t x => if x.closed then .iface t x else .iface t (sh1 k x)
  | x => sh1 k x
def sp2 (k : Nat) : AV → AV
  | .agg xs => .agg (xs.map (sp1 k))
  | .fn f xs => .fn f (xs.map (sp1 k))
  | x => sp1 k x
def sp3 (k : Nat) : AV → AV
  | .tup xs => .tup (xs.map (sp2 k))
  | x => sp2 k x
def spO (k : Nat) : AO → AO
  | .box T cs => .box T (cs.map (sp1 k))
  | o => o
theorem spO_live (k : Nat) (o : AO) : (spO k o).live = o.live := by cases o <;> rfl
theorem mvO_live (ids : List Nat) (n : Nat) (E1 : Env) (o : AO) : (mvO ids n E1 o).live = o.live := by cases o <;> rfl

section
variable {P : Program} {B : Nat} {X : Nat → Prop} {w0 w : World} {φ : Nat → Value} {H : List AO}

/-- the caller's memory behind the call -/
def partH (ids : List Nat) (H : List AO) (E1 : Env) (H1 : List AO) : List AO := goneL ids H.length E1 0 H ++ H1.map (spO H.length)
theorem part_get {ids : List Nat} {H H1 : List AO} {E1 : Env} {id : Nat} {o : AO} (h : (partH ids H E1 H1)[id]? = some o) :
    (id < H.length ∧ id ∈ ids ∧ o = .gone) ∨ (id < H.length ∧ id ∉ ids ∧ ∃ o', H[id]? = some o' ∧ o = mvO ids H.length E1 o') ∨ (H.length ≤ id ∧ ∃ o', H1[id - H.length]? = some o' ∧ o = spO H.length o') := by
  unfold partH at h
  have hl := goneL_len ids H.length E1 0 H
  rcases Nat.lt_or_ge id H.length with hlt | hge
  · rw [List.getElem?_append_left (by omega)] at h
    have := goneL_get ids H.length E1 0 H id o h
    rw [Nat.zero_add] at this
    rcases this with ⟨h1, h2⟩ | ⟨h1, h2⟩
    · exact .inl ⟨hlt, h1, h2⟩
    · exact .inr (.inl ⟨hlt, h1, h2⟩)
  · rw [List.getElem?_append_right (by omega), hl, List.getElem?_map, Option.map_eq_some_iff] at h
    obtain ⟨o', h1, h2⟩ := h
    exact .inr (.inr ⟨hge, o', h1, h2.symm⟩)

theorem sp1_R {ids : List Nat} {E1 : Env} {w' : World} {φc : Nat → Value} {H1 : List AO} {c : AV} {u : Value} (r : R w' φc H1 c u) (hv : c.vf = true) : R w' (joinφ H.length φ φc) (partH ids H E1 H1) (sp1 H.length c) u := by
  have hcl : ∀ y u, R w' φc H1 y u → y.vf = true → R w' (joinφ H.length φ φc) (partH ids H E1 H1) (if y.closed then y else .dead) u := fun y u ry hy => by
    by_cases h : y.closed = true
    · rw [if_pos h]; exact ry.free h hy
    · rw [if_neg h]; exact .dead u
  have hlen : (partH ids H E1 H1).length = H.length + H1.length := by simp [partH, goneL_len]
  have base : ∀ c u, R w' φc H1 c u → c.vf = true → R w' (joinφ H.length φ φc) (partH ids H E1 H1) (sh1 H.length c) u := fun c u r hv => by
    cases c
    case own id ver off len =>
      cases r with
      | own _ _ _ _ _ hid ho hvv hh =>
        refine .own _ _ _ _ _ (by omega) ho (fun v' E s xs h => ?_) fun E s xs h => ?_
        · rcases part_get h with ⟨h1, _⟩ | ⟨h1, _⟩ | ⟨h1, o', h2, h3⟩
          · omega
          · omega
          · rw [Nat.add_sub_cancel] at h2
            cases o' <;> simp [spO] at h3
            obtain ⟨rfl, rfl, rfl, rfl⟩ := h3
            exact hvv _ _ _ _ h2
        · rcases part_get h with ⟨h1, _⟩ | ⟨h1, _⟩ | ⟨h1, o', h2, h3⟩
          · omega
          · omega
          · rw [Nat.add_sub_cancel] at h2
            cases o' <;> simp [spO] at h3
            obtain ⟨rfl, rfl, rfl, rfl⟩ := h3
            rw [joinφ_ge (by omega), Nat.add_sub_cancel]
            exact hh _ _ _ h2
    case bptr id off =>
      cases r with
      | bptr _ _ _ hid ho hh =>
        refine .bptr _ _ _ (by omega) ho fun o h hp => ?_
        rcases part_get h with ⟨h1, _⟩ | ⟨h1, _⟩ | ⟨h1, o', h2, h3⟩
        · omega
        · omega
        · rw [Nat.add_sub_cancel] at h2
          have : o'.pb = true := by rw [h3] at hp; cases o' <;> first | rfl | (simp [spO, AO.pb] at hp)
          rw [joinφ_ge (by omega), Nat.add_sub_cancel]
          exact hh _ h2 this
    all_goals exact hcl _ _ r hv
  cases c
  case iface t x =>
    simp only [sp1]
    by_cases hx : x.closed = true
    · rw [if_pos hx]; exact r.free (by simpa [AV.closed] using hx) hv
    · rw [if_neg hx]
      cases r with
      | iface _ _ u hr => exact .iface t _ u (base x u hr (by simpa [AV.vf] using hv))
  all_goals exact base _ _ r hv

theorem sp2_R {ids : List Nat} {E1 : Env} {w' : World} {φc : Nat → Value} {H1 : List AO} {c : AV} {u : Value} (r : R w' φc H1 c u) (hv : c.vf = true) : R w' (joinφ H.length φ φc) (partH ids H E1 H1) (sp2 H.length c) u := by
  cases c
  case agg xs =>
    cases r with
    | agg _ us hs hr =>
      refine .agg _ us (by simp [hs]) fun i x u hi hu => ?_
      simp only [List.getElem?_map, Option.map_eq_some_iff] at hi
      obtain ⟨y, hy, rfl⟩ := hi
      exact sp1_R (hr i y u hy hu) (AV.vfL_get xs i y (by simpa [AV.vf] using hv) hy)
  case fn f xs =>
    cases r with
    | fn _ _ us hs hr =>
      refine .fn _ _ us (by simp [hs]) fun i x u hi hu => ?_
      simp only [List.getElem?_map, Option.map_eq_some_iff] at hi
      obtain ⟨y, hy, rfl⟩ := hi
      exact sp1_R (hr i y u hy hu) (AV.vfL_get xs i y (by simpa [AV.vf] using hv) hy)
  all_goals exact sp1_R r hv
theorem sp3_R {ids : List Nat} {E1 : Env} {w' : World} {φc : Nat → Value} {H1 : List AO} {c : AV} {u : Value} (r : R w' φc H1 c u) (hv : c.vf = true) : R w' (joinφ H.length φ φc) (partH ids H E1 H1) (sp3 H.length c) u := by
  cases c
  case tup xs =>
    cases r with
    | tup _ us hs hr =>
      refine .tup _ us (by simp [hs]) fun i x u hi hu => ?_
      simp only [List.getElem?_map, Option.map_eq_some_iff] at hi
      obtain ⟨y, hy, rfl⟩ := hi
      exact sp2_R (hr i y u hy hu) (AV.vfL_get xs i y (by simpa [AV.vf] using hv) hy)
  all_goals exact sp2_R r hv

/-- the blocks of the part's live objects -/
def PB (φ : Nat → Value) (H : List AO) (ids : List Nat) (b : Nat) : Prop := ∃ i ∈ ids, ∃ o, H[i]? = some o ∧ o.live = true ∧ vblk (φ i) = some b

theorem St.part0 (st : St B X w0 w φ H) {ids : List Nat} (nd : ids.Nodup) : St w.heap.size (PB φ H ids) w w (renφ ids φ) (renH ids H) := by
  have hbase : B ≤ w.heap.size := Nat.le_trans st.base st.frame.size
  have s2 := st.ren nd
  refine ⟨Frame.refl _ _ w, Nat.le_refl _, ⟨st.gw, fun b hb => ?_⟩, fun k o b hk hl hv => ?_, s2.inj, s2.chunk⟩
  · obtain ⟨h1, h2⟩ := st.glob.lt b hb
    refine ⟨by omega, fun ⟨i, _, o, h3, h4, h5⟩ => ?_⟩
    rcases (st.live i o b h3 h4 h5).1 with h | h
    · omega
    · exact h2 h
  · obtain ⟨i, o', h1, h2, h3, _, h5⟩ := renH_live hk hl
    rw [h5 φ] at hv
    exact ⟨.inr ⟨i, List.mem_of_getElem? h1, o', h2, h3, hv⟩, (st.live i o' b h2 h3 hv).2⟩

theorem part_le (st : St B X w0 w φ H) {ids : List Nat} {w' : World} {φ1 : Nat → Value} {H1 : List AO} (E1 : Env) (s1 : St w.heap.size (PB φ H ids) w w' φ1 H1) :
    Le w φ H w' (joinφ H.length φ φ1) (partH ids H E1 H1) := by
  have hn : ∀ b, b < w.heap.size → NL φ H b → ¬ PB φ H ids b := fun b _ hnl ⟨i, _, o, h3, h4, h5⟩ => hnl i o h3 h4 h5
  refine ⟨s1.frame.size, fun b hbs hnl => ⟨fun id o h hl => ?_, fun k => World.cell?_of_block (s1.frame.block b hbs (hn b hbs hnl))⟩, by simp [partH, goneL_len], fun id v' E s xs' hid h => ?_, fun id ver E s xs' hid _ h => ?_, fun id o' hid h hp => ?_⟩
  · rcases part_get h with ⟨h1, _, rfl⟩ | ⟨h1, _, o', h2, rfl⟩ | ⟨h1, o', h2, rfl⟩
    · simp [AO.live] at hl
    · rw [joinφ_lt h1]; rw [mvO_live] at hl; exact hnl id o' h2 hl
    · rw [joinφ_ge h1]; intro e
      rw [spO_live] at hl
      rcases (s1.live _ o' b h2 hl e).1 with h | h
      · omega
      · exact hn b hbs hnl h
  · rcases part_get h with ⟨h1, _, h3⟩ | ⟨h1, _, o', h2, h3⟩ | ⟨h1, _⟩
    · cases h3
    · cases o' <;> simp [mvO] at h3
      obtain ⟨rfl, rfl, rfl, rfl⟩ := h3
      exact ⟨_, _, _, _, h2, Nat.le_refl _⟩
    · omega
  · rcases part_get h with ⟨h1, _, h3⟩ | ⟨h1, _, o', h2, h3⟩ | ⟨h1, _⟩
    · cases h3
    · cases o' <;> simp [mvO] at h3
      obtain ⟨rfl, rfl, rfl, rfl⟩ := h3
      exact ⟨_, h2, rfl, joinφ_lt hid⟩
    · omega
  · rcases part_get h with ⟨h1, _, rfl⟩ | ⟨h1, _, o2, h2, rfl⟩ | ⟨h1, _⟩
    · simp [AO.pb] at hp
    · exact ⟨o2, h2, by cases o2 <;> first | rfl | (simp [mvO, AO.pb] at hp), joinφ_lt hid⟩
    · omega

theorem mv0_R (st : St B X w0 w φ H) {ids : List Nat} {rs : List Nat} (hb : rs.all (bxAt (renH ids H)) = true) {w' : World} {φ1 : Nat → Value} {H1 : List AO} {E1 : Env} (s1 : St w.heap.size (PB φ H ids) w w' φ1 H1)
    (hE : ∀ t, E1 t = .dead ∨ t ∈ rs) (hr : ∀ t, R w' φ1 H1 (E1 t) (φ (ids.getD t 0))) {x : AV} {v : Value} (r : R w φ H x v) : R w' (joinφ H.length φ φ1) (partH ids H E1 H1) (mv0 ids H.length E1 x) v := by
  have le := part_le st E1 s1
  cases x
  case bptr id off =>
    simp only [mv0]
    by_cases hm : id ∈ ids
    · rw [if_pos hm]
      have hk := idxOf_get hm
      have hφ : φ (ids.getD (ids.idxOf id) 0) = φ id := by rw [List.getD_eq_getElem?_getD, hk]; rfl
      have hr' := hr (ids.idxOf id)
      rw [hφ] at hr'
      have hE' := hE (ids.idxOf id)
      generalize hq : E1 (ids.idxOf id) = q at hr' hE'
      cases q <;> (try exact r.le le)
      rename_i id' o'
      cases o' with
      | succ _ => exact r.le le
      | zero =>
        rcases hE' with h | hrs
        · cases h
        have hbx : bxAt (renH ids H) (ids.idxOf id) = true := List.all_eq_true.1 hb _ hrs
        cases r with
        | bptr _ _ _ hid ho hh =>
          cases hr' with
          | bptr _ _ _ hid1 ho1 hh1 =>
            refine .bptr _ _ _ (by simp [partH, goneL_len]; omega) ho fun o h hp => ?_
            rcases part_get h with ⟨h1, _⟩ | ⟨h1, _⟩ | ⟨h1, o2, h2, h3⟩
            · omega
            · omega
            · rw [Nat.add_sub_cancel] at h2
              have hp2 : o2.pb = true := by rw [h3] at hp; cases o2 <;> first | rfl | (simp [spO, AO.pb] at hp)
              obtain ⟨g, e1, e2⟩ := hh1 o2 h2 hp2
              rw [joinφ_ge (by omega), Nat.add_sub_cancel]
              unfold bxAt at hbx
              rw [renH_idx hm, List.getD_eq_getElem?_getD] at hbx
              rcases hH : H[id]? with _ | o3
              · rw [hH] at hbx; simp [renO, AO.pb] at hbx
              · rw [hH] at hbx
                have hp3 : o3.pb = true := by simp only [Option.getD_some] at hbx; cases o3 <;> first | rfl | (simp [renO, AO.pb] at hbx)
                obtain ⟨g2, f1, f2⟩ := hh o3 hH hp3
                rw [f1] at e2
                simp at e2
                subst e2
                exact ⟨g2, e1, f2⟩
    · rw [if_neg hm]; exact r.le le
  all_goals exact r.le le
theorem mv1_R (st : St B X w0 w φ H) {ids : List Nat} {rs : List Nat} (hb : rs.all (bxAt (renH ids H)) = true) {w' : World} {φ1 : Nat → Value} {H1 : List AO} {E1 : Env} (s1 : St w.heap.size (PB φ H ids) w w' φ1 H1)
    (hE : ∀ t, E1 t = .dead ∨ t ∈ rs) (hr : ∀ t, R w' φ1 H1 (E1 t) (φ (ids.getD t 0))) {x : AV} {v : Value} (r : R w φ H x v) : R w' (joinφ H.length φ φ1) (partH ids H E1 H1) (mv1 ids H.length E1 x) v := by
  cases x
  case iface t y =>
    cases r with
    | iface _ _ u h => exact .iface t _ u (mv0_R st hb s1 hE hr h)
  all_goals exact mv0_R st hb s1 hE hr r
theorem mv2_R (st : St B X w0 w φ H) {ids : List Nat} {rs : List Nat} (hb : rs.all (bxAt (renH ids H)) = true) {w' : World} {φ1 : Nat → Value} {H1 : List AO} {E1 : Env} (s1 : St w.heap.size (PB φ H ids) w w' φ1 H1)
    (hE : ∀ t, E1 t = .dead ∨ t ∈ rs) (hr : ∀ t, R w' φ1 H1 (E1 t) (φ (ids.getD t 0))) {x : AV} {v : Value} (r : R w φ H x v) : R w' (joinφ H.length φ φ1) (partH ids H E1 H1) (mv2 ids H.length E1 x) v := by
  cases x
  case agg xs =>
    cases r with
    | agg _ us hs hrr =>
      refine .agg _ us (by simp [hs]) fun i x u hi hu => ?_
      simp only [List.getElem?_map, Option.map_eq_some_iff] at hi
      obtain ⟨y, hy, rfl⟩ := hi
      exact mv1_R st hb s1 hE hr (hrr i y u hy hu)
  case fn f xs =>
    cases r with
    | fn _ _ us hs hrr =>
      refine .fn _ _ us (by simp [hs]) fun i x u hi hu => ?_
      simp only [List.getElem?_map, Option.map_eq_some_iff] at hi
      obtain ⟨y, hy, rfl⟩ := hi
      exact mv1_R st hb s1 hE hr (hrr i y u hy hu)
  all_goals exact mv1_R st hb s1 hE hr r
theorem mv3_R (st : St B X w0 w φ H) {ids : List Nat} {rs : List Nat} (hb : rs.all (bxAt (renH ids H)) = true) {w' : World} {φ1 : Nat → Value} {H1 : List AO} {E1 : Env} (s1 : St w.heap.size (PB φ H ids) w w' φ1 H1)
    (hE : ∀ t, E1 t = .dead ∨ t ∈ rs) (hr : ∀ t, R w' φ1 H1 (E1 t) (φ (ids.getD t 0))) {x : AV} {v : Value} (r : R w φ H x v) : R w' (joinφ H.length φ φ1) (partH ids H E1 H1) (mv3 ids H.length E1 x) v := by
  cases x
  case tup xs =>
    cases r with
    | tup _ us hs hrr =>
      refine .tup _ us (by simp [hs]) fun i x u hi hu => ?_
      simp only [List.getElem?_map, Option.map_eq_some_iff] at hi
      obtain ⟨y, hy, rfl⟩ := hi
      exact mv2_R st hb s1 hE hr (hrr i y u hy hu)
  all_goals exact mv2_R st hb s1 hE hr r

/-- the caller's state behind the call -/
theorem St.part (st : St B X w0 w φ H) {ids : List Nat} {rs : List Nat} (hb : rs.all (bxAt (renH ids H)) = true) {w' : World} {φ1 : Nat → Value} {H1 : List AO} {E1 : Env} (s1 : St w.heap.size (PB φ H ids) w w' φ1 H1) (hvf : ∀ o ∈ H1, vfO o)
    (hE : ∀ t, E1 t = .dead ∨ t ∈ rs) (hr : ∀ t, R w' φ1 H1 (E1 t) (φ (ids.getD t 0))) : St B X w0 w' (joinφ H.length φ φ1) (partH ids H E1 H1) := by
  have hbase : B ≤ w.heap.size := Nat.le_trans st.base st.frame.size
  have le := part_le st E1 s1
  have hPB : ∀ b, PB φ H ids b → (B ≤ b ∨ X b) ∧ b < w.heap.size := fun b ⟨i, _, o, h3, h4, h5⟩ => st.live i o b h3 h4 h5
  have out : ∀ i o b, i ∉ ids → H[i]? = some o → o.live = true → vblk (φ i) = some b → b < w.heap.size ∧ ¬ PB φ H ids b := fun i o b hi h1 h2 h3 =>
    ⟨(st.live i o b h1 h2 h3).2, fun ⟨i', hi', o', h4, h5, h6⟩ => hi (st.inj i i' o o' b h1 h2 h4 h5 h3 h6 ▸ hi')⟩
  have keep : ∀ i o b, i ∉ ids → H[i]? = some o → o.live = true → vblk (φ i) = some b → w'.heap[b]? = w.heap[b]? := fun i o b hi h1 h2 h3 => s1.frame.block b (out i o b hi h1 h2 h3).1 (out i o b hi h1 h2 h3).2
  have fr : Frame B X w w' := ⟨s1.frame.os, s1.frame.tape, s1.frame.output, s1.frame.size, fun k hk hx => s1.frame.block k (by omega) fun hp => by
    rcases (hPB k hp).1 with h | h
    · omega
    · exact hx h⟩
  refine ⟨st.frame.trans fr, st.base, st.glob, fun id o b h hl hv => ?_, fun id id' o1 o2 b h hl h' hl' hv hv' => ?_, fun id o h => ?_⟩
  · rcases part_get h with ⟨h1, _, rfl⟩ | ⟨h1, _, o', h2, rfl⟩ | ⟨h1, o', h2, rfl⟩
    · simp [AO.live] at hl
    · rw [joinφ_lt h1] at hv; rw [mvO_live] at hl
      have := st.live id o' b h2 hl hv
      exact ⟨this.1, Nat.lt_of_lt_of_le this.2 s1.frame.size⟩
    · rw [joinφ_ge h1] at hv; rw [spO_live] at hl
      have := s1.live _ o' b h2 hl hv
      refine ⟨?_, this.2⟩
      rcases this.1 with h | h
      · exact .inl (by omega)
      · exact (hPB b h).1
  · rcases part_get h with ⟨h1, _, rfl⟩ | ⟨h1, hi1, p1, h2, rfl⟩ | ⟨h1, p1, h2, rfl⟩ <;> rcases part_get h' with ⟨h1', _, rfl⟩ | ⟨h1', hi1', p2, h2', rfl⟩ | ⟨h1', p2, h2', rfl⟩ <;> (try (simp [AO.live] at hl; done)) <;> (try (simp [AO.live] at hl'; done))
    · rw [joinφ_lt h1] at hv
      rw [joinφ_lt h1'] at hv'
      rw [mvO_live] at hl hl'
      exact st.inj id id' p1 p2 b h2 hl h2' hl' hv hv'
    · rw [joinφ_lt h1] at hv
      rw [joinφ_ge h1'] at hv'
      rw [mvO_live] at hl
      rw [spO_live] at hl'
      obtain ⟨q1, q2⟩ := out id p1 b hi1 h2 hl hv
      rcases (s1.live _ p2 b h2' hl' hv').1 with h | h
      · omega
      · exact absurd h q2
    · rw [joinφ_ge h1] at hv
      rw [joinφ_lt h1'] at hv'
      rw [spO_live] at hl
      rw [mvO_live] at hl'
      obtain ⟨q1, q2⟩ := out id' p2 b hi1' h2' hl' hv'
      rcases (s1.live _ p1 b h2 hl hv).1 with h | h
      · omega
      · exact absurd h q2
    · rw [joinφ_ge h1] at hv
      rw [joinφ_ge h1'] at hv'
      rw [spO_live] at hl hl'
      have := s1.inj _ _ p1 p2 b h2 hl h2' hl' hv hv'
      omega
  · rcases part_get h with ⟨h1, _, rfl⟩ | ⟨h1, hi1, p1, h2, rfl⟩ | ⟨h1, p1, h2, rfl⟩
    · trivial
    · have hc := st.chunk id _ h2
      cases p1 with
      | iter s p => exact hc.keep le (joinφ_lt h1) fun b hv => keep id _ b hi1 h2 rfl hv
      | gone => trivial
      | slice v E s xs => exact hc.keep le (joinφ_lt h1) fun b hv => keep id _ b hi1 h2 rfl hv
      | box T cs =>
        obtain ⟨g, arr, c1, c2, c3, c4⟩ := hc
        refine ⟨g, arr, by rw [joinφ_lt h1]; exact c1, by rw [keep id _ g hi1 h2 rfl (by rw [c1]; rfl)]; exact c2, by simp [c3], fun i c u hc hu => ?_⟩
        simp only [List.getElem?_map, Option.map_eq_some_iff] at hc
        obtain ⟨y, hy, rfl⟩ := hc
        exact ⟨mv1_R st hb s1 hE hr (c4 i y u hy hu).1, (c4 i y u hy hu).2⟩
    · have hvo := hvf p1 (List.mem_of_getElem? h2)
      have hc := s1.chunk _ p1 h2
      cases p1 with
      | iter s p =>
        obtain ⟨g', c1, c2⟩ := hc
        exact ⟨g', by rw [joinφ_ge h1]; exact c1, c2⟩
      | gone => trivial
      | slice v E s xs =>
        obtain ⟨cs, c1, c2, c3, c4⟩ := hc
        refine ⟨cs, by rw [joinφ_ge h1]; exact c1, c2, c3, fun i x j c u hx hj hu => ?_⟩
        exact (c4 i x j c u hx hj hu).free (AV.closed_cells (c3 i x hx).1 hj) (AV.vf_cells (hvo x (List.mem_of_getElem? hx)) hj)
      | box T cs =>
        obtain ⟨g', arr, c1, c2, c3, c4⟩ := hc
        refine ⟨g', arr, by rw [joinφ_ge h1]; exact c1, c2, by simp [c3], fun i c u hc hu => ?_⟩
        simp only [List.getElem?_map, Option.map_eq_some_iff] at hc
        obtain ⟨y, hy, rfl⟩ := hc
        exact ⟨sp1_R (c4 i y u hy hu).1 (hvo y (List.mem_of_getElem? hy)), (c4 i y u hy hu).2⟩

/-- an own slice that is not of the part, told as a view -/
theorem argP0_R (st : St B X w0 w φ H) {ids : List Nat} {x y : AV} {v : Value} (r : R w φ H x v) (h : argP0 ids H x y) : R w (renφ ids φ) (renH ids H) y v := by
  rcases h with rfl | ⟨id, ver, off, len, rfl, hid, rfl⟩ | ⟨rfl, s, rfl⟩
  · exact ren_R ids r
  · simp only [arg]
    rcases hH : H[id]? with _ | o
    · exact .dead v
    cases o with
    | box _ _ => exact .dead v
    | iter _ _ => exact .dead v
    | gone => exact .dead v
    | slice ver' E s xs =>
      dsimp only
      by_cases hv : ver' = ver
      · rw [if_pos hv]
        subst hv
        obtain ⟨cs, c1, c2, c3, c4⟩ := st.chunk id _ hH
        simp only [Bool.false_eq_true, if_false]
        obtain ⟨s', ys, hys, rd⟩ := elemsV_sound (K := fun s' ys => s' = s ∧ ys = (xs.drop off).take len) st r (by simp [elemsV, hH])
        obtain ⟨rfl, rfl⟩ := hys
        have hel := rd
        obtain ⟨_, _, _, _, hel, _⟩ := hel
        obtain ⟨ad, cap, rfl, hcap, hne⟩ := rd.choose
        by_cases he : (xs.drop off).take len = []
        · rw [he]; exact .view0 _ _ _
        · obtain ⟨b, o, u, rfl, h1, h2⟩ := hne he
          have hb := RdS.lt c2 hel he h1
          have hblk : vblk (φ id) = some b := by
            cases r with
            | own _ _ _ _ _ _ _ hvv hh =>
              obtain ⟨o1, o2⟩ := hh E s' xs hH
              rcases o2 with ⟨f1, f2, f3⟩ | ⟨g, cp, f1, f2, ad, f3, f4, f5⟩
              · simp at f2
              · simp only [Value.slice.injEq] at f3
                obtain ⟨q1, q2, q3⟩ := f3
                subst q1
                by_cases hlt : off < cp
                · have q := f4 hlt
                  simp only [Option.some.injEq, Addr.mk.injEq] at q
                  obtain ⟨q4, _⟩ := q
                  rw [f1, ← q4]; rfl
                · exfalso; apply he
                  have : ((xs.drop off).take len).length = 0 := by simp; omega
                  exact List.eq_nil_of_length_eq_zero this
          have hnl : NL (renφ ids φ) (renH ids H) b := fun k o2 hk hl hvb => by
            obtain ⟨i, o', e1, e2, e3, _, e5⟩ := renH_live hk hl
            rw [e5 φ] at hvb
            have := st.inj i id o' _ b e2 e3 hH rfl hvb hblk
            exact hid (this ▸ List.mem_of_getElem? e1)
          exact .view _ b o s' cap u hcap hb hnl (fun i x hi => (hel i x hi).1) (fun i x hi => (hel i x hi).2) h1 (fun i x j c hi hj => (h2 i x j c hi hj).closed_to (fun b => renNL) (AV.closed_cells (hel i x hi).1 hj))
      · rw [if_neg hv]; exact .dead v
  · cases r; exact .view0 s none 0
theorem argP_R (st : St B X w0 w φ H) {ids : List Nat} {x y : AV} {v : Value} (r : R w φ H x v) (h : argP ids H x y) : R w (renφ ids φ) (renH ids H) y v := by
  rcases h with h | ⟨xs, ys, rfl, rfl, h⟩
  · exact argP0_R st r h
  · obtain ⟨h1, h2⟩ := argsP0_get h
    cases r with
    | agg _ us hs hr =>
      refine .agg _ us (by rw [hs, h1]) fun i z u hz hu => ?_
      obtain ⟨x, hx, hc⟩ := h2 i z hz
      exact argP0_R st (hr i x u hx hu) hc

theorem root_R (st : St B X w0 w φ H) {ids rs : List Nat} (nd : ids.Nodup) (hb : rs.all (bxAt (renH ids H)) = true) (t : Nat) : R w (renφ ids φ) (renH ids H) (rootE rs t) (φ (ids.getD t 0)) := by
  unfold rootE
  by_cases ht : t ∈ rs
  · rw [if_pos ht]
    have hbx : bxAt (renH ids H) t = true := List.all_eq_true.1 hb _ ht
    unfold bxAt at hbx
    rcases hk : (renH ids H)[t]? with _ | o
    · rw [hk] at hbx; simp at hbx
    rw [hk] at hbx
    dsimp only at hbx
    have hl : o.live = true := by cases o <;> first | rfl | (simp [AO.pb] at hbx)
    obtain ⟨i, o', h1, h2, h3, h4, h5⟩ := renH_live hk hl
    have hi : φ (ids.getD t 0) = φ i := by rw [List.getD_eq_getElem?_getD, h1]; rfl
    have hc := st.chunk i o' h2
    have hg : ∃ g, φ i = .pointer (some ⟨g, 0, none⟩) := by
      cases o' with
      | box T cs => obtain ⟨g, _, c1, _⟩ := hc; exact ⟨g, c1⟩
      | iter s p => obtain ⟨g, c1, _⟩ := hc; exact ⟨g, c1⟩
      | slice _ _ _ _ => subst h4; simp [renO, AO.pb] at hbx
      | gone => subst h4; simp [renO, AO.pb] at hbx
    obtain ⟨g, hg⟩ := hg
    rw [hi, hg]
    refine .bptr t 0 _ (List.getElem?_eq_some_iff.1 hk).1 rfl fun o2 h hp => ⟨g, ?_, rfl⟩
    rw [h5 φ, hg]
  · rw [if_neg ht]; exact .dead _

/-- a call that is told of a part, out of a contract -/
theorem callIX_part {f : FuncId} {xs args0 : List AV} {H0 : List AO} {rs : List Nat} {o : Sum PE PE} (c : CallPX P f args0 H0 rs o) {E0 : Env} (ids : List Nat) (nd : ids.Nodup) (hH : H0 = renH ids H) (ha : argsP ids H xs args0) :
    CallIX P f xs H E0 (fun ret e h => ∃ q, o = .inr q ∧ ret = sp3 H.length q.ret ∧ e = (fun t => mv3 ids H.length (envL q.roots) (E0 t)) ∧ h = partH ids H (envL q.roots) q.objs)
      (fun ret e h => ∃ q, o = .inl q ∧ ret = q.ret ∧ e = (fun t => mv3 ids H.length (envL q.roots) (E0 t)) ∧ h = partH ids H (envL q.roots) q.objs) := by
  subst hH
  obtain ⟨c1, c2, c3, c4, c5⟩ := c
  refine ⟨c1, fun B X w0 w φ vals g st hs hr hg => ?_⟩
  have lst : ∀ l : List (Nat × AV), (∀ p ∈ l, p.1 ∈ rs) → ∀ t, envL l t = .dead ∨ t ∈ rs := fun l hl t => by
    unfold envL
    rcases hk : l.lookup t with _ | v
    · exact .inl rfl
    · exact .inr (by
        have : (t, v) ∈ l := by
          clear hl
          induction l with
          | nil => simp at hk
          | cons p l ih =>
            obtain ⟨k, u⟩ := p
            rw [List.lookup_cons] at hk
            by_cases e : t = k
            · subst e; simp at hk; subst hk; simp
            · have e2 : (t == k) = false := by simpa using e
              rw [e2] at hk
              exact List.mem_cons_of_mem _ (ih hk)
        exact hl _ this)
  refine (c5 w.heap.size (PB φ H ids) w w (renφ ids φ) vals (fun t => φ (ids.getD t 0)) (st.part0 nd) (by rw [hs]; exact (argsP_get ha).1.symm) (fun i y v hy hv => ?_) (fun t => root_R st nd c2 t)).mono fun e w' ⟨φ', h⟩ => ?_
  · obtain ⟨x, hx, hc⟩ := (argsP_get ha).2 i y hy
    exact argP_R st (hr i x v hx hv) hc
  · cases o with
    | inl q =>
      obtain ⟨d1, d2⟩ := c3 q (.inl rfl)
      obtain ⟨h1, h2, h3⟩ := h
      exact ⟨_, _, _, _, .inr ⟨h1, q, rfl, rfl, rfl, rfl⟩, st.part c2 h2 d1 (lst _ d2) h3, fun t => mv3_R st c2 h2 (lst _ d2) h3 (hg t)⟩
    | inr q =>
      obtain ⟨d1, d2⟩ := c3 q (.inr rfl)
      obtain ⟨v, h1, h2, h4, h3⟩ := h
      exact ⟨_, _, _, _, .inl ⟨v, h1, ⟨q, rfl, rfl, rfl, rfl⟩, sp3_R h4 (c4 q rfl)⟩, st.part c2 h2 d1 (lst _ d2) h3, fun t => mv3_R st c2 h2 (lst _ d2) h3 (hg t)⟩

/-- it comes back, and the caller's state is told anew -/
theorem callIn_pt {g : FuncId} {xs args0 : List AV} {H0 : List AO} {rs : List Nat} {q : PE} {E0 : Env} {K : AV → Env → List AO → Prop} (ids : List Nat) (l : List (Nat × AV)) (H' : List AO) (rv : AV) (c : CallPX P g args0 H0 rs (.inr q))
    (ha : argsP ids H xs args0) (ht : @ToldK (sp3 H.length q.ret) (fun t => mv3 ids H.length (envL q.roots) (E0 t)) (partH ids H (envL q.roots) q.objs) ⟨fun ret e h => ∃ ids : List Nat, ids.Nodup ∧ H' = renH ids h ∧ rv = ren ids h ret ∧ ∀ t, envL l t = .dead ∨ envL l t = ren ids h (e t)⟩)
    (k : K rv (envL l) H') (nd : ids.Nodup) (hH : H0 = renH ids H) : CallIn P g xs H E0 K := by
  have h := callIX_part c (E0 := E0) ids nd hH ha
  refine ⟨h.1, fun B X w0 w φ vals gg st hs hr hg => (h.2 B X w0 w φ vals gg st hs hr hg).mono ?_⟩
  rintro e w' ⟨ret, E', H2, φ', ho, st', hE⟩
  rcases ho with ⟨v, he, ⟨q', hq, rfl, rfl, rfl⟩, hv⟩ | ⟨he, ⟨q', hq, _⟩⟩
  · cases hq
    obtain ⟨ids2, nd2, e1, e2, e3⟩ := ht
    refine ⟨v, rv, envL l, H', renφ ids2 φ', he, k, by rw [e1]; exact st'.ren nd2, by rw [e1, e2]; exact ren_R ids2 hv, fun t => ?_⟩
    rw [e1]
    rcases e3 t with h3 | h3
    · rw [h3]; exact .dead _
    · rw [h3]; exact ren_R ids2 (hE t)
  · cases hq
theorem call_pt {g : FuncId} {caps xs args0 : List AV} {H0 : List AO} {rs : List Nat} {q : PE} {E0 : Env} {K : AV → Env → List AO → Prop} (ids : List Nat) (l : List (Nat × AV)) (H' : List AO) (rv : AV) (c : CallPX P g args0 H0 rs (.inr q))
    (ha : argsP ids H (xs ++ caps) args0) (ht : @ToldK (sp3 H.length q.ret) (fun t => mv3 ids H.length (envL q.roots) (E0 t)) (partH ids H (envL q.roots) q.objs) ⟨fun ret e h => ∃ ids : List Nat, ids.Nodup ∧ H' = renH ids h ∧ rv = ren ids h ret ∧ ∀ t, envL l t = .dead ∨ envL l t = ren ids h (e t)⟩)
    (k : K rv (envL l) H') (nd : ids.Nodup := by decide) (hH : H0 = renH ids H := by first | rfl | (simp only [List.length_set, List.length_replicate]; rfl)) : @callK P false H E0 (.fn g caps) xs ⟨K⟩ :=
  call_in (callIn_pt ids l H' rv c ha ht k nd hH)
/-- the same through an interface -/
theorem inv_pt {g : FuncId} {T : TypeId} {y : AV} {m : String} {xs args0 : List AV} {H0 : List AO} {rs : List Nat} {q : PE} {E0 : Env} {K : AV → Env → List AO → Prop} (hm : MethOK P T m g) (ids : List Nat) (l : List (Nat × AV)) (H' : List AO) (rv : AV) (c : CallPX P g args0 H0 rs (.inr q))
    (ha : argsP ids H (y :: xs) args0) (ht : @ToldK (sp3 H.length q.ret) (fun t => mv3 ids H.length (envL q.roots) (E0 t)) (partH ids H (envL q.roots) q.objs) ⟨fun ret e h => ∃ ids : List Nat, ids.Nodup ∧ H' = renH ids h ∧ rv = ren ids h ret ∧ ∀ t, envL l t = .dead ∨ envL l t = ren ids h (e t)⟩)
    (k : K rv (envL l) H') (nd : ids.Nodup := by decide) (hH : H0 = renH ids H := by first | rfl | (simp only [List.length_set, List.length_replicate]; rfl)) : @invK P false H E0 (.iface T y) m xs ⟨K⟩ :=
  ⟨rfl, g, hm, callIn_pt ids l H' rv c ha ht k nd hH⟩
/-- it gives up -/
theorem callP_pt {g : FuncId} {caps xs args0 : List AV} {H0 : List AO} {rs : List Nat} {q : PE} {E0 : Env} {K Kp : AV → Env → List AO → Prop} (ids : List Nat) (l : List (Nat × AV)) (H' : List AO) (c : CallPX P g args0 H0 rs (.inl q))
    (ha : argsP ids H (xs ++ caps) args0) (ht : @ToldK q.ret (fun t => mv3 ids H.length (envL q.roots) (E0 t)) (partH ids H (envL q.roots) q.objs) ⟨fun ret e h => ∃ ids : List Nat, ids.Nodup ∧ H' = renH ids h ∧ q.ret = ret ∧ ∀ t, envL l t = .dead ∨ envL l t = ren ids h (e t)⟩)
    (k : Kp q.ret (envL l) H') (nd : ids.Nodup := by decide) (hH : H0 = renH ids H := by rfl) : @callKP P H E0 (.fn g caps) xs ⟨K⟩ ⟨Kp⟩ := by
  have h := callIX_part c (E0 := E0) ids nd hH ha
  refine callP_in ⟨h.1, fun B X w0 w φ vals gg st hs hr hg => (h.2 B X w0 w φ vals gg st hs hr hg).mono ?_⟩
  rintro e w' ⟨ret, E', H2, φ', ho, st', hE⟩
  rcases ho with ⟨v, he, ⟨q', hq, _⟩, hv⟩ | ⟨he, ⟨q', hq, rfl, rfl, rfl⟩⟩
  · cases hq
  · cases hq
    obtain ⟨ids2, nd2, e1, e2, e3⟩ := ht
    refine ⟨q.ret, envL l, H', renφ ids2 φ', .inr ⟨he, k⟩, by rw [e1]; exact st'.ren nd2, fun t => ?_⟩
    rw [e1]
    rcases e3 t with h3 | h3
    · rw [h3]; exact .dead _
    · rw [h3]; exact ren_R ids2 (hE t)

/-- a contract out of a text -/
def FinPK (o : Sum PE PE) (ret : AV) (e : Env) (h : List AO) : Prop := @ToldK ret e h ⟨fun ret e h => match o with
  | .inr q => ∃ ids : List Nat, ids.Nodup ∧ q.objs = renH ids h ∧ q.ret = ren ids h ret ∧ ∀ t, envL q.roots t = .dead ∨ envL q.roots t = ren ids h (e t)
  | .inl _ => False⟩
def FinPP (o : Sum PE PE) (ret : AV) (e : Env) (h : List AO) : Prop := @ToldK ret e h ⟨fun ret e h => match o with
  | .inl q => ∃ ids : List Nat, ids.Nodup ∧ q.objs = renH ids h ∧ q.ret = ret ∧ ∀ t, envL q.roots t = .dead ∨ envL q.roots t = ren ids h (e t)
  | .inr _ => False⟩
theorem pk_of {q : PE} {o : Sum PE PE} {ret : AV} {e : Env} {h : List AO} (ho : o = .inr q) (k : ∃ ids : List Nat, ids.Nodup ∧ q.objs = renH ids h ∧ q.ret = ren ids h ret ∧ ∀ t, envL q.roots t = .dead ∨ envL q.roots t = ren ids h (e t)) : FinPK o ret e h := by
  subst ho; exact k
theorem pp_of {q : PE} {o : Sum PE PE} {ret : AV} {e : Env} {h : List AO} (ho : o = .inl q) (k : ∃ ids : List Nat, ids.Nodup ∧ q.objs = renH ids h ∧ q.ret = ret ∧ ∀ t, envL q.roots t = .dead ∨ envL q.roots t = ren ids h (e t)) : FinPP o ret e h := by
  subst ho; exact k
theorem argP_r {ids : List Nat} {x y : AV} (h : ren ids H x = y) : argP ids H x y := .inl (.inl h.symm)
theorem argP_o {ids : List Nat} {id ver off len : Nat} {y : AV} (hid : id ∉ ids) (h : arg false H (.own id ver off len) = y) : argP ids H (.own id ver off len) y := .inl (.inr (.inl ⟨id, ver, off, len, rfl, hid, h.symm⟩))
theorem argP_n {ids : List Nat} {s : Nat} : argP ids H (.sc (.slice none 0 0)) (.view s []) := .inl (.inr (.inr ⟨rfl, s, rfl⟩))
theorem argP_a {ids : List Nat} {xs ys : List AV} (h : argsP0 ids H xs ys) : argP ids H (.agg xs) (.agg ys) := .inr ⟨xs, ys, rfl, rfl, h⟩
theorem argC_r {ids : List Nat} {x y : AV} (h : ren ids H x = y) : argP0 ids H x y := .inl h.symm
theorem argC_o {ids : List Nat} {id ver off len : Nat} {y : AV} (hid : id ∉ ids) (h : arg false H (.own id ver off len) = y) : argP0 ids H (.own id ver off len) y := .inr (.inl ⟨id, ver, off, len, rfl, hid, h.symm⟩)
theorem argC_n {ids : List Nat} {s : Nat} : argP0 ids H (.sc (.slice none 0 0)) (.view s []) := .inr (.inr ⟨rfl, s, rfl⟩)
theorem callPX_of {f : FuncId} {fn : Func} {args : List AV} {H0 : List AO} {rs : List Nat} {o : Sum PE PE} (n : Nat) (rsv : List ResultVar) (hf : P.funcs[f]? = some fn)
    (h : J P n (fn.body.getD .skip) (argEnvG n args (rootE rs)) H0 (FinIX P n rsv (FinPK o) (FinPP o)))
    (hq : ∀ q, (o = .inl q ∨ o = .inr q) → (∀ x ∈ q.objs, vfO x) ∧ ∀ p ∈ q.roots, p.1 ∈ rs) (hv : ∀ q, o = .inr q → q.ret.vf = true)
    (hbs : fn.body.isSome = true := by decide) (hname : (fn.name == "runtime.NumGoroutine") = false := by rfl) (hnt : fn.ntmps = n := by rfl) (hrs : fn.results.toList = rsv := by rfl)
    (hlen : args.length ≤ n := by simp) (hres : resOK n rsv = true := by rfl) (hb : (rs.all (bxAt H0)) = true := by rfl) : CallPX P f args H0 rs o := by
  obtain ⟨c1, c2⟩ := callIX_of (E := rootE rs) hf hbs hname hnt hrs hlen hres h
  refine ⟨c1, hb, hq, hv, fun B X w0 w φ vals g st hs hr hg => (c2 B X w0 w φ vals g st hs hr hg).mono ?_⟩
  rintro e w' ⟨ret, E', H2, φ', ho, st', hE⟩
  rcases ho with ⟨v, he, hk, hrv⟩ | ⟨he, hk⟩
  · cases o with
    | inl q => exact hk.elim
    | inr q =>
      obtain ⟨ids2, nd2, e1, e2, e3⟩ := hk
      refine ⟨renφ ids2 φ', v, he, by rw [e1]; exact st'.ren nd2, by rw [e1, e2]; exact ren_R ids2 hrv, fun t => ?_⟩
      rw [e1]
      rcases e3 t with h3 | h3
      · rw [h3]; exact .dead _
      · rw [h3]; exact ren_R ids2 (hE t)
  · cases o with
    | inr q => exact hk.elim
    | inl q =>
      obtain ⟨ids2, nd2, e1, e2, e3⟩ := hk
      refine ⟨renφ ids2 φ', by rw [he, e2], by rw [e1]; exact st'.ren nd2, fun t => ?_⟩
      rw [e1]
      rcases e3 t with h3 | h3
      · rw [h3]; exact .dead _
      · rw [h3]; exact ren_R ids2 (hE t)
end
end Go.Av
