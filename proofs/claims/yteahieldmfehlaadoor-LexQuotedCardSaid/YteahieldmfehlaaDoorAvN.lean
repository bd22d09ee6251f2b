/- Av, part N: a call; a region's operations one behind the other ('VO'). -/
import Derived.Test.YteahieldmfehlaaDoorAvM
namespace Go.Av
open Go.RowKit
set_option linter.unusedVariables false

section
variable {P : Program} {B : Nat} {X : Nat → Prop} {w0 w : World} {φ : Nat → Value} {H : List AO}

def joinφ (n : Nat) (φ φc : Nat → Value) : Nat → Value := fun k => if k < n then φ k else φc (k - n)
theorem joinφ_lt {n : Nat} {φ φc : Nat → Value} {k : Nat} (h : k < n) : joinφ n φ φc k = φ k := by simp [joinφ, h]
theorem joinφ_ge {n : Nat} {φ φc : Nat → Value} {k : Nat} (h : n ≤ k) : joinφ n φ φc k = φc (k - n) := by simp [joinφ]; omega
theorem join_get {H objs : List AO} {id : Nat} {o : AO} (h : (H ++ objs.map (shO H.length))[id]? = some o) : (id < H.length ∧ H[id]? = some o) ∨ (H.length ≤ id ∧ ∃ o', objs[id - H.length]? = some o' ∧ o = shO H.length o') := by
  rcases Nat.lt_or_ge id H.length with hlt | hge
  · rw [List.getElem?_append_left hlt] at h; exact .inl ⟨hlt, h⟩
  · rw [List.getElem?_append_right hge, List.getElem?_map, Option.map_eq_some_iff] at h
    obtain ⟨o', h1, h2⟩ := h
    exact .inr ⟨hge, o', h1, h2.symm⟩

theorem sh1_R {w' : World} {φc : Nat → Value} {objs : List AO} {c : AV} {u : Value} (r : R w' φc objs c u) (hv : c.vf = true) : R w' (joinφ H.length φ φc) (H ++ objs.map (shO H.length)) (sh1 H.length c) u := by
  have hcl : ∀ y, R w' φc objs y u → y.vf = true → R w' (joinφ H.length φ φc) (H ++ objs.map (shO H.length)) (if y.closed then y else .dead) u := fun y ry hy => by
    by_cases h : y.closed = true
    · rw [if_pos h]; exact ry.free h hy
    · rw [if_neg h]; exact .dead u
  cases c
  case own id ver off len =>
    cases r with
    | own _ _ _ _ _ hid ho hvv hh =>
      refine .own _ _ _ _ _ (by simp; omega) ho (fun v' E s xs h => ?_) fun E s xs h => ?_
      · rcases join_get h with ⟨h1, _⟩ | ⟨h1, o', h2, h3⟩
        · omega
        · rw [Nat.add_sub_cancel] at h2
          cases o' <;> simp [shO] at h3
          obtain ⟨rfl, rfl, rfl, rfl⟩ := h3
          exact hvv _ _ _ _ h2
      · rcases join_get h with ⟨h1, _⟩ | ⟨h1, o', h2, h3⟩
        · omega
        · rw [Nat.add_sub_cancel] at h2
          cases o' <;> simp [shO] at h3
          obtain ⟨rfl, rfl, rfl, rfl⟩ := h3
          rw [joinφ_ge (by omega), Nat.add_sub_cancel]
          exact hh _ _ _ h2
  case bptr id off =>
    cases r with
    | bptr _ _ _ hid ho hh =>
      refine .bptr _ _ _ (by simp; omega) ho fun o h hp => ?_
      rcases join_get h with ⟨h1, _⟩ | ⟨h1, o', h2, h3⟩
      · omega
      · rw [Nat.add_sub_cancel] at h2
        have : o'.pb = true := by rw [h3] at hp; cases o' <;> first | rfl | (simp [shO, AO.pb] at hp)
        rw [joinφ_ge (by omega), Nat.add_sub_cancel]
        exact hh _ h2 this
  all_goals exact hcl _ r hv

theorem sh2_R {w' : World} {φc : Nat → Value} {objs : List AO} {c : AV} {u : Value} (r : R w' φc objs c u) (hv : c.vf = true) : R w' (joinφ H.length φ φc) (H ++ objs.map (shO H.length)) (sh2 H.length c) u := by
  cases c
  case agg xs =>
    cases r with
    | agg _ us hs hr =>
      refine .agg _ us (by simp [hs]) fun i x u hi hu => ?_
      simp only [List.getElem?_map, Option.map_eq_some_iff] at hi
      obtain ⟨y, hy, rfl⟩ := hi
      exact sh1_R (hr i y u hy hu) (AV.vfL_get xs i y (by simpa [AV.vf] using hv) hy)
  all_goals exact sh1_R r hv

theorem sh_R {w' : World} {φc : Nat → Value} {objs : List AO} {c : AV} {u : Value} (r : R w' φc objs c u) (hv : c.vf = true) : R w' (joinφ H.length φ φc) (H ++ objs.map (shO H.length)) (sh H.length c) u := by
  cases c
  case tup xs =>
    cases r with
    | tup _ us hs hr =>
      refine .tup _ us (by simp [hs]) fun i x u hi hu => ?_
      simp only [List.getElem?_map, Option.map_eq_some_iff] at hi
      obtain ⟨y, hy, rfl⟩ := hi
      exact sh2_R (hr i y u hy hu) (AV.vfL_get xs i y (by simpa [AV.vf] using hv) hy)
  all_goals exact sh2_R r hv

/-- the caller's state behind a call -/
theorem St.join (st : St B X w0 w φ H) {w' : World} (g : Gr w w') {φc : Nat → Value} {objs : List AO} (hv : ∀ o ∈ objs, vfO o) (hp : HeapOK w' w.heap.size φc objs) :
    St B X w0 w' (joinφ H.length φ φc) (H ++ objs.map (shO H.length)) ∧ Le w φ H w' (joinφ H.length φ φc) (H ++ objs.map (shO H.length)) := by
  have hbase : B ≤ w.heap.size := Nat.le_trans st.base st.frame.size
  have le : Le w φ H w' (joinφ H.length φ φc) (H ++ objs.map (shO H.length)) := by
    refine ⟨g.size, fun b hbs hn => ⟨fun id o h hl => ?_, fun k => g.cell hbs k⟩, by simp, fun id v' E s xs' hid h => ?_, fun id ver E s xs' hid _ h => ?_, fun id o' hid h hp => ?_⟩
    · rcases join_get h with ⟨h1, h2⟩ | ⟨h1, o', h2, rfl⟩
      · rw [joinφ_lt h1]; exact hn id o h2 hl
      · rw [joinφ_ge h1]; intro e
        rw [shO_live] at hl
        have := (hp.live _ o' b h2 hl e).1
        omega
    · rw [List.getElem?_append_left hid] at h; exact ⟨v', E, s, xs', h, Nat.le_refl _⟩
    · rw [List.getElem?_append_left hid] at h; exact ⟨xs', h, rfl, joinφ_lt hid⟩
    · rw [List.getElem?_append_left hid] at h; exact ⟨o', h, hp, joinφ_lt hid⟩
  refine ⟨⟨st.frame.trans ⟨g.os, g.tape, g.output, g.size, fun k hk _ => g.block k (by omega) (fun h => h)⟩, st.base, st.glob, fun id o b h hl hv => ?_, fun id id' o1 o2 b h hl h' hl' hv hv' => ?_, fun id o h => ?_⟩, le⟩
  · rcases join_get h with ⟨h1, h2⟩ | ⟨h1, o', h2, rfl⟩
    · rw [joinφ_lt h1] at hv
      have := st.live id o b h2 hl hv
      exact ⟨this.1, Nat.lt_of_lt_of_le this.2 g.size⟩
    · rw [joinφ_ge h1] at hv
      rw [shO_live] at hl
      have := hp.live _ o' b h2 hl hv
      exact ⟨.inl (by omega), this.2⟩
  · rcases join_get h with ⟨h1, h2⟩ | ⟨h1, o1', h2, rfl⟩ <;> rcases join_get h' with ⟨h1', h2'⟩ | ⟨h1', o2', h2', rfl⟩
    · rw [joinφ_lt h1] at hv
      rw [joinφ_lt h1'] at hv'
      exact st.inj id id' o1 o2 b h2 hl h2' hl' hv hv'
    · rw [joinφ_lt h1] at hv
      rw [joinφ_ge h1'] at hv'
      rw [shO_live] at hl'
      have := st.live id o1 b h2 hl hv
      have := hp.live _ o2' b h2' hl' hv'
      omega
    · rw [joinφ_ge h1] at hv
      rw [joinφ_lt h1'] at hv'
      rw [shO_live] at hl
      have := st.live id' o2 b h2' hl' hv'
      have := hp.live _ o1' b h2 hl hv
      omega
    · rw [joinφ_ge h1] at hv
      rw [joinφ_ge h1'] at hv'
      rw [shO_live] at hl hl'
      have := hp.inj _ _ o1' o2' b h2 hl h2' hl' hv hv'
      omega
  · rcases join_get h with ⟨h1, h2⟩ | ⟨h1, o', h2, rfl⟩
    · cases o with
      | iter s p => exact (st.chunk id _ h2).keep le (joinφ_lt h1) fun b hv => g.block b (st.live id _ b h2 rfl hv).2 (fun h => h)
      | gone => trivial
      | slice v E s xs => exact (st.chunk id _ h2).keep le (joinφ_lt h1) fun b hv => g.block b (st.live id _ b h2 rfl hv).2 (fun h => h)
      | box T cs => exact (st.chunk id _ h2).keep le (joinφ_lt h1) fun b hv => g.block b (st.live id _ b h2 rfl hv).2 (fun h => h)
    · have hvo := hv o' (List.mem_of_getElem? h2)
      have hc := hp.chunk _ o' h2
      cases o' with
      | iter s p =>
        obtain ⟨g', c1, c2⟩ := hc
        exact ⟨g', by rw [joinφ_ge h1]; exact c1, c2⟩
      | gone => trivial
      | slice v E s xs =>
        obtain ⟨cs, c1, c2, c3, c4⟩ := hc
        refine ⟨cs, by rw [joinφ_ge h1]; exact c1, c2, c3, fun i x j c u hx hj hu => ?_⟩
        exact (c4 i x j c u hx hj hu).free (AV.closed_cells (c3 i x hx).1 hj) (AV.vf_cells (hvo x (List.mem_of_getElem? hx)) hj)
      | box T cs =>
        obtain ⟨g', arr, c1, c2, c3, c4⟩ := hc
        refine ⟨g', arr, by rw [joinφ_ge h1]; exact c1, c2, by simp [c3], fun i c u hc hu => ?_⟩
        simp only [List.getElem?_map, Option.map_eq_some_iff] at hc
        obtain ⟨y, hy, rfl⟩ := hc
        exact ⟨sh1_R (c4 i y u hy hu).1 (hvo y (List.mem_of_getElem? hy)), (c4 i y u hy hu).2⟩

theorem run_callFunc {f : FuncId} (h : plainFn P f) (args : Array Value) (w : World) : (callFunc f args).run P w = .ok (.enter f args) w := by
  obtain ⟨fn, h1, h2, h3⟩ := h
  simp [callFunc, h1, h3]
  intro h
  simp [h] at h2
end

def AV.flat : AV → Bool
  | .sc _ | .int _ _ | .bool _ | .str _ => true
  | _ => false
def AV.flatT : AV → Bool
  | .tup xs => xs.all AV.flat
  | x => x.flat
/-- a call that may turn what the caller has: its objects H, its slots E -/
def CallIn (P : Program) (f : FuncId) (args : List AV) (H : List AO) (E : Env) (K : AV → Env → List AO → Prop) : Prop :=
  plainFn P f ∧ ∀ (B : Nat) (X : Nat → Prop) (w0 w : World) (φ : Nat → Value) (vals : Array Value) (g : Nat → Value), St B X w0 w φ H → vals.size = args.length →
    (∀ (i : Nat) (x : AV) (v : Value), args[i]? = some x → vals[i]? = some v → R w φ H x v) → (∀ t, R w φ H (E t) (g t)) →
    Calls P f vals w fun e w' => ∃ v ret E' H' φ', e = .returned v ∧ K ret E' H' ∧ St B X w0 w' φ' H' ∧ R w' φ' H' ret v ∧ ∀ t, R w' φ' H' (E' t) (g t)
/-- a function without a text, that hands back what it is given -/
def NoEsc (P : Program) (f : FuncId) : Prop := ∀ x w, (callFunc f #[x]).run P w = .ok (.value x) w
/-- how an argument may be told -/
def argC (H : List AO) (x y : AV) : Prop := (∃ m, y = arg m H x) ∨ (x = .sc (.slice none 0 0) ∧ ∃ s, y = .view s [])
def argsC (H : List AO) : List AV → List AV → Prop
  | [], [] => True
  | x :: xs, y :: ys => argC H x y ∧ argsC H xs ys
  | _, _ => False
/-- a struct may be told field by field -/
def argR (H : List AO) (x y : AV) : Prop := argC H x y ∨ ∃ xs ys, x = .agg xs ∧ y = .agg ys ∧ argsC H xs ys
theorem argsC_get {H : List AO} : ∀ {xs ys : List AV}, argsC H xs ys → ys.length = xs.length ∧ ∀ (i : Nat) (y : AV), ys[i]? = some y → ∃ x, xs[i]? = some x ∧ argC H x y
  | [], [], _ => ⟨rfl, fun i y h => by simp at h⟩
  | x :: xs, y :: ys, h => by
    obtain ⟨h1, h2⟩ := argsC_get h.2
    refine ⟨by simp [h1], fun i z hz => ?_⟩
    cases i with
    | zero => simp at hz; subst hz; exact ⟨x, rfl, h.1⟩
    | succ i => exact h2 i z (by simpa using hz)
  | [], _ :: _, h => h.elim
  | _ :: _, [], h => h.elim
def argsR (H : List AO) : List AV → List AV → Prop
  | [], [] => True
  | x :: xs, y :: ys => argR H x y ∧ argsR H xs ys
  | _, _ => False
theorem argsR_get {H : List AO} : ∀ {xs ys : List AV}, argsR H xs ys → ys.length = xs.length ∧ ∀ (i : Nat) (y : AV), ys[i]? = some y → ∃ x, xs[i]? = some x ∧ argR H x y
  | [], [], _ => ⟨rfl, fun i y h => by simp at h⟩
  | x :: xs, y :: ys, h => by
    obtain ⟨h1, h2⟩ := argsR_get h.2
    refine ⟨by simp [h1], fun i z hz => ?_⟩
    cases i with
    | zero => simp at hz; subst hz; exact ⟨x, rfl, h.1⟩
    | succ i => exact h2 i z (by simpa using hz)
  | [], _ :: _, h => h.elim
  | _ :: _, [], h => h.elim
theorem argC_R {B : Nat} {X : Nat → Prop} {w0 w : World} {φ : Nat → Value} {H : List AO} (st : St B X w0 w φ H) {x y : AV} {v : Value} (r : R w φ H x v) (h : argC H x y) : R w (fun _ => .tuple #[]) [] y v := by
  rcases h with ⟨m, rfl⟩ | ⟨rfl, s, rfl⟩
  · exact arg_R st m r
  · cases r; exact .view0 s none 0
theorem argR_R {B : Nat} {X : Nat → Prop} {w0 w : World} {φ : Nat → Value} {H : List AO} (st : St B X w0 w φ H) {x y : AV} {v : Value} (r : R w φ H x v) (h : argR H x y) : R w (fun _ => .tuple #[]) [] y v := by
  rcases h with h | ⟨xs, ys, rfl, rfl, h⟩
  · exact argC_R st r h
  · obtain ⟨h1, h2⟩ := argsC_get h
    cases r with
    | agg _ us hs hr =>
      refine .agg _ us (by rw [hs, h1]) fun i z u hz hu => ?_
      obtain ⟨x, hx, hc⟩ := h2 i z hz
      exact argC_R st (hr i x u hx hu) hc
def callV (P : Program) (q : Bool) (H : List AO) (E : Env) (f : AV) (xs : List AV) (K : AV → Env → List AO → Prop) : Prop := match f with
  | .fn g caps => if q then ∃ args' ret, argsR H (xs ++ caps) args' ∧ CallOK P g args' ret [] ∧ ret.flatT = true ∧ K ret E H
    else (∃ args' ret objs, argsR H (xs ++ caps) args' ∧ CallOK P g args' ret objs ∧ K (sh H.length ret) E (H ++ objs.map (shO H.length))) ∨ CallIn P g (xs ++ caps) H E K ∨ (NoEsc P g ∧ ∃ x, xs ++ caps = [x] ∧ K x E H)
  | _ => False
def callK (P : Program) (q : Bool) (H : List AO) (E : Env) (f : AV) (xs : List AV) [K : Ko (AV → Env → List AO → Prop)] : Prop := callV P q H E f xs K.k
def effOp (P : Program) (op : Op) (env : Env) : Bool := match op with
  | .assign (.const (.slice none 0 0)) => true
  | .box _ _ | .alloc _ | .store _ _ _ | .buildSlice _ _ _ | .makeSlice _ _ _ | .range _ _ | .next _ _ => true
  | .call { callee := .builtin .append, args := _, argTypes := _ } => true
  | .call { callee := .builtin .unsafeString, args := _, argTypes := _ } => true
  | .convert _ dst x => (match evO env x with
    | .str _ => !(isStr P dst)
    | _ => false)
  | _ => false
def vOp (P : Program) (q : Bool) (op : Op) (ty : TypeId) (env : Env) (H : List AO) (K : AV → Env → List AO → Prop) : Prop := match op with
  | .call { callee := .value f, args, argTypes := _ } => @callK P q H env (evO env f) (args.toList.map (evO env)) ⟨K⟩
  | .build T parts => buildV P T (parts.toList.map fun p => (p.1, evO env p.2)) fun x => K x env H
  | op => if effOp P op env then q = false ∧ eOp P op ty env H (fun x h => K x env h) else sOp P op env H fun x => K x env H
def VO (P : Program) (q : Bool) (ops : Array Oper) : List Oper → Env → List AO → (Env → List AO → Prop) → Prop
  | [], env, H, K => K env H
  | o :: rest, env, H, K => match o.guard with
    | none => vOp P q o.op o.type env H fun x e h => VO P q ops rest (put e o.dst x) h K
    | some (j, want) => match (ops[j]?).bind (·.dst) with
      | some d => (match env d with
        | .bool b => @guardK b want ⟨vOp P q o.op o.type (upd env d (.bool want)) H fun x e h => VO P q ops rest (put e o.dst x) h K⟩
            ⟨VO P q ops rest (put (upd env d (.bool (!want))) o.dst (.sc (.tuple #[]))) H K⟩
        | .sc (.tuple _) => VO P q ops rest (put env o.dst (.sc (.tuple #[]))) H K
        | _ => False)
      | none => False

def regOK (n : Nat) (ops : Array Oper) : Bool := ops.toList.all fun o => opOK n o.op && dstOK n o.dst && (match o.guard with
  | none => true
  | some (j, _) => match (ops[j]?).bind (·.dst) with
    | some d => decide (d < n)
    | none => false)

section
variable {P : Program} {B : Nat} {X : Nat → Prop} {w0 w : World} {φ : Nat → Value} {H : List AO} {n : Nat}

theorem put_dead {env : Env} {a : Act} {g : Nat → Value} (eo : EnvOK w φ H env a n g) (dst : Option Tmp) (hd : dstOK n dst = true) : EnvOK w φ H (put env dst (.sc (.tuple #[]))) (a.put dst undef) n g := eo.put dst hd (.sc _)

/-- what an operation does, of abstract values: if its wp is asked -/
theorem vOp_sound (st : St B X w0 w φ H) {env : Env} {a : Act} {g : Nat → Value} (eo : EnvOK w φ H env a n g) {o : Oper} (hn : opOK n o.op = true) {K : AV → Env → List AO → Prop} (h : vOp P false o.op o.type env H K)
    {next : Act → World → Prop} {Q : Exit → Act → World → Prop} (hk : ∀ x env' H' φ' w' v, K x env' H' → St B X w0 w' φ' H' → EnvOK w' φ' H' env' a n g → R w' φ' H' x v → next (a.put o.dst v) w') : o.wp P a w next Q := by
  have other : (if effOp P o.op env then false = false ∧ eOp P o.op o.type env H (fun x h => K x env h) else sOp P o.op env H fun x => K x env H) → o.wp P a w next Q := fun h => by
    by_cases he : effOp P o.op env = true
    · rw [if_pos he] at h
      obtain ⟨x, H', φ', v, nx, w', h1, h2, h3, h4, h5, h6⟩ := eOp_sound st eo hn h.2
      unfold Oper.wp
      rw [h2]
      rcases h3 with rfl | ⟨rfl, rfl⟩
      · exact hk x env H' φ' w' v h1 h4 (eo.le h5) h6
      · exact hk x env H' φ' w' undef h1 h4 (eo.le h5) h6
    · rw [if_neg he] at h
      obtain ⟨x, v, h1, h2, h3⟩ := sOp_sound st eo hn h
      unfold Oper.wp
      rw [h3 w (Ext.refl w)]
      exact hk x env H φ w v h1 st eo h2
  obtain ⟨dst, op, ty, pos, after, guard⟩ := o
  dsimp only at h other hk
  cases op
  case call c =>
    obtain ⟨callee, args, argTypes⟩ := c
    cases callee
    case value f =>
      simp only [vOp, callK] at h
      have ev : ∀ x, x ∈ (Op.call { callee := .value f, args := args, argTypes := argTypes }).operands.toList → R w φ H (evO env x) (a.eval x) := fun x hx => evO_R eo x (List.all_eq_true.1 hn x hx)
      have rf := ev f (by simp [Op.operands, Call.operands])
      generalize hfe : a.eval f = vf at rf
      generalize evO env f = ef at h rf
      cases ef <;> (try exact h.elim)
      rename_i g' caps
      cases rf with
      | fn _ _ us hs hr =>
        simp only [callV, Bool.false_eq_true, if_false] at h
        have hargs : ∀ (i : Nat) (x : AV) (v : Value), (args.toList.map (evO env) ++ caps)[i]? = some x → (args.map a.eval ++ us)[i]? = some v → R w φ H x v := fun i y v hy hv => by
          rcases Nat.lt_or_ge i args.size with hlt | hge
          · rw [List.getElem?_append_left (by simpa using hlt), List.getElem?_map, Option.map_eq_some_iff] at hy
            obtain ⟨z, hz, rfl⟩ := hy
            rw [Array.getElem?_append_left (by simpa using hlt), Array.getElem?_map, Option.map_eq_some_iff] at hv
            obtain ⟨z', hz', rfl⟩ := hv
            simp at hz
            rw [hz] at hz'
            simp at hz'
            subst hz'
            exact ev z (by simp [Op.operands, Call.operands]; exact .inr (Array.mem_of_getElem? hz))
          · rw [List.getElem?_append_right (by simpa using hge)] at hy
            rw [Array.getElem?_append_right (by simpa using hge)] at hv
            simp at hy hv
            exact hr _ y v hy hv
        have hrun : plainFn P g' → (execOp a.eval { dst := dst, op := Op.call { callee := .value f, args := args, argTypes := argTypes }, type := ty, pos := pos, after := after, guard := guard }).run P w = .ok (.enter g' (args.map a.eval ++ us)) w := fun hpf => by
          simp [execOp, resolve, hfe, Deferred.ofValue, invoke, run_callFunc hpf]
        rcases h with ⟨args', ret, objs, har, ⟨hpf, hrv, hov, hc⟩, hk'⟩ | ⟨hpf, hc⟩ | ⟨hne, x, hx, hk'⟩
        · have hcall := hc w (args.map a.eval ++ us) st.gw (by rw [(argsR_get har).1]; simp [hs]) (fun i x v hx hv => by
            obtain ⟨y, hy, hxy⟩ := (argsR_get har).2 i x hx
            exact argR_R st (hargs i y v hy hv) hxy)
          unfold Oper.wp
          rw [hrun hpf]
          show Calls P g' _ w _
          refine hcall.mono fun e w' ⟨v, φc, he, hg, hh, hret⟩ => ?_
          subst he
          obtain ⟨s1, s2⟩ := st.join hg hov hh
          exact hk _ _ _ _ w' v hk' s1 (eo.le s2) (sh_R hret hrv)
        · unfold Oper.wp
          rw [hrun hpf]
          show Calls P g' _ w _
          refine (hc B X w0 w φ (args.map a.eval ++ us) (fun t => if t < n then a.tmps.getD t undef else g t) st (by simp [hs]) hargs (fun t => ?_)).mono fun e w' ⟨v, ret, E', H', φ', he, hk', s1, s2, s3⟩ => ?_
          · by_cases ht : t < n
            · rw [if_pos ht]; exact eo.slot t ht
            · rw [if_neg ht]; exact eo.ghost t (by omega)
          · subst he
            refine hk _ _ _ _ w' v hk' s1 ⟨eo.size, eo.defers, fun t ht => ?_, fun t ht => ?_⟩ s2
            · have := s3 t; rwa [if_pos ht] at this
            · have := s3 t; rwa [if_neg (by omega)] at this
        · obtain ⟨v, hv⟩ : ∃ v, args.map a.eval ++ us = #[v] := by
            have hl : (args.map a.eval ++ us).size = 1 := by have := congrArg List.length hx; simp at this ⊢; omega
            generalize args.map a.eval ++ us = q at hl
            obtain ⟨l⟩ := q
            match l, hl with
            | [v], _ => exact ⟨v, rfl⟩
          have r := hargs 0 x v (by rw [hx]; rfl) (by rw [hv]; rfl)
          unfold Oper.wp
          have : (execOp a.eval { dst := dst, op := Op.call { callee := .value f, args := args, argTypes := argTypes }, type := ty, pos := pos, after := after, guard := guard }).run P w = .ok (.value v) w := by
            simp [execOp, resolve, hfe, Deferred.ofValue, invoke, hv, hne v w]
          rw [this]
          exact hk _ _ _ _ w v hk' st eo r
    case invoke r m => exact other h
    case builtin b => exact other h
  case build T parts =>
    obtain ⟨x, v, h1, h2, h3⟩ := build_sound (ρ := a.eval) (fun p hp => evO_R eo p.2 (List.all_eq_true.1 hn _ (by simp only [Op.operands]; exact List.mem_map.2 ⟨p, hp, rfl⟩))) (by first | exact h | (simp only [vOp] at h; exact h) | (simp only [fOp] at h; exact h))
    unfold Oper.wp
    rw [show (execOp a.eval { dst := dst, op := Op.build T parts, type := ty, pos := pos, after := after, guard := guard }).run P w = .ok (.value v) w by simp only [execOp, Sem.run_bind, h3, Result.andThen_ok, Sem.run_pure]]
    exact hk x env H φ w v h1 st eo h2
  all_goals exact other h

theorem VO_sound {g : Nat → Value} {ops : Array Oper} {Q : Exit → Act → World → Prop} {K : Env → List AO → Prop} (hq : ∀ env H φ w a, K env H → St B X w0 w φ H → EnvOK w φ H env a n g → Q .normal a w) :
    ∀ (l : List Oper), (∀ o ∈ l, o ∈ ops.toList) → regOK n ops = true → ∀ (env : Env) (H : List AO) (w : World) (φ : Nat → Value) (a : Act), VO P false ops l env H K → St B X w0 w φ H → EnvOK w φ H env a n g → wpList P ops Q l a w
  | [], _, _, env, H, w, φ, a, h, st, eo => hq env H φ w a h st eo
  | o :: rest, hmem, hok, env, H, w, φ, a, h, st, eo => by
    have hon := List.all_eq_true.1 hok o (hmem o (by simp))
    simp only [Bool.and_eq_true] at hon
    have step : ∀ env, EnvOK w φ H env a n g → vOp P false o.op o.type env H (fun x e h => VO P false ops rest (put e o.dst x) h K) → o.wp P a w (wpList P ops Q rest) Q := fun env eo h =>
      vOp_sound st eo hon.1.1 h fun x env' H' φ' w' v hk st' eo' r => VO_sound hq rest (fun o ho => hmem o (by simp [ho])) hok _ H' w' φ' _ hk st' (eo'.put o.dst hon.1.2 r)
    unfold wpList
    unfold VO at h
    rcases hg : o.guard with _ | ⟨j, want⟩
    · rw [hg] at h
      rw [if_pos (by simp [Region.wanted, hg])]
      exact .inl (step env eo h)
    · rw [hg] at h
      dsimp only at h
      rcases hd : (ops[j]?).bind (·.dst) with _ | d
      · rw [hd] at h; exact h.elim
      · rw [hd] at h
        dsimp only at h
        have hdn : d < n := by
          have := hon.2
          rw [hg] at this
          dsimp only at this
          rw [hd] at this
          simpa using this
        have hy : ∀ v, a.tmps.getD d undef = v → yielded ops a.tmps j = (match v with | .bool b => some b | _ => none) := fun v hv => by
          have hlt : d < a.tmps.size := by rw [eo.size]; exact hdn
          unfold yielded
          rw [hd]
          have : a.tmps[d]? = some v := by rw [← hv, Array.getD_eq_getD_getElem?, Array.getElem?_eq_getElem hlt]; rfl
          simp only [Option.bind_some, this]
          cases v <;> rfl
        have hr := eo.slot d hdn
        have skip : ∀ env', EnvOK w φ H env' a n g → VO P false ops rest (put env' o.dst (.sc (.tuple #[]))) H K → wpList P ops Q rest (a.put o.dst undef) w := fun env' eo' h' =>
          VO_sound hq rest (fun o ho => hmem o (by simp [ho])) hok _ H w φ _ h' st (put_dead eo' o.dst hon.1.2)
        generalize hed : env d = ed at h hr
        cases ed <;> (try exact h.elim)
        case bool b =>
          dsimp only at h
          have hv : a.tmps.getD d undef = .bool b := by generalize a.tmps.getD d undef = v at hr; cases hr; rfl
          have hyb := hy _ hv
          dsimp only at hyb
          by_cases hb : b = want
          · rw [if_pos (by simp [Region.wanted, hg, hyb, hb])]
            refine .inl (step _ (eo.say d hdn ?_) (h.1 hb))
            rw [hv, hb]; exact .bool _
          · rw [if_neg (by simp [Region.wanted, hg, hyb, hb])]
            have hb' : b = !want := by cases b <;> cases want <;> simp_all
            refine skip _ (eo.say d hdn ?_) (h.2 hb')
            rw [hv, hb']; exact .bool _
        case sc u =>
          cases u <;> (try exact h.elim)
          rename_i us
          have hv : a.tmps.getD d undef = .tuple us := by generalize a.tmps.getD d undef = v at hr; cases hr; rfl
          have hyb := hy _ hv
          dsimp only at hyb
          rw [if_neg (by simp [Region.wanted, hg, hyb])]
          exact skip _ eo h

theorem J_region {id : Nat} {ops : Array Oper} {env : Env} {K : Post} (hok : regOK n ops = true) (h : VO P false ops ops.toList env H fun e h => @Hold2 e h ⟨fun e h => K .normal e h⟩) : J P n (.region id ops false) env H K := by
  intro B X w0 w φ a g st eo
  refine wp_region_list (VO_sound (g := g) (K := fun e h => K .normal e h) (fun env H φ w a k st eo => ⟨env, H, φ, k, st, eo⟩) ops.toList (fun o ho => ho) hok env H w φ a h st eo)
end
end Go.Av
