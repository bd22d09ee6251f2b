/- Av, part P: a region that draws its order: every operation leaves the memory alone, or is a call that hands back a plain value. -/
import Derived.Test.YteahieldmfehlaaDoorAvO
import Derived.StillTail
namespace Go.Av
open Go.RowKit
set_option linter.unusedVariables false

section
variable {P : Program} {B : Nat} {X : Nat → Prop} {w0 w : World} {φ : Nat → Value} {H : List AO} {n : Nat}

theorem Ext.trans {a b c : World} (h : Ext a b) (k : Ext b c) : Ext a c := ⟨Nat.le_trans h.size k.size, fun i hi => (k.block i (Nat.lt_of_lt_of_le hi h.size)).trans (h.block i hi)⟩

/-- the class of worlds of a region: all that were there before are as they were -/
def Cls (w : World) (w' : World) : Prop := Gr w w'

theorem St.ext (st : St B X w0 w φ H) {w' : World} (g : Gr w w') : St B X w0 w' φ H ∧ Le w φ H w' φ H := by
  have hbase : B ≤ w.heap.size := Nat.le_trans st.base st.frame.size
  have le : Le w φ H w' φ H := ⟨g.size, fun b hb hn => ⟨hn, fun o => g.cell hb o⟩, Nat.le_refl _, fun id v E s xs _ h => ⟨v, E, s, xs, h, Nat.le_refl _⟩, fun _ _ _ _ xs' _ _ h => ⟨xs', h, rfl, rfl⟩, fun _ o _ h hp => ⟨o, h, hp, rfl⟩⟩
  refine ⟨⟨st.frame.trans ⟨g.os, g.tape, g.output, g.size, fun k hk _ => g.block k (by omega) (fun h => h)⟩, st.base, st.glob, fun id o b h hl hv => ?_, st.inj, fun id o h => ?_⟩, le⟩
  · have := st.live id o b h hl hv
    exact ⟨this.1, Nat.lt_of_lt_of_le this.2 g.size⟩
  · cases o with
    | iter s p => exact (st.chunk id _ h).keep le rfl fun b hv => g.block b (st.live id _ b h rfl hv).2 (fun h => h)
    | gone => trivial
    | slice v E s xs => exact (st.chunk id _ h).keep le rfl fun b hv => g.block b (st.live id _ b h rfl hv).2 (fun h => h)
    | box T cs => exact (st.chunk id _ h).keep le rfl fun b hv => g.block b (st.live id _ b h rfl hv).2 (fun h => h)

/-- a plain value is told by its description -/
def flatV : AV → Value
  | .sc v => v
  | .int k n => .int k n
  | .bool b => .bool b
  | .str s => .string ⟨s.toArray⟩
  | .tup xs => .tuple (xs.map fun | .sc v => v | .int k n => .int k n | .bool b => .bool b | .str s => .string ⟨s.toArray⟩ | _ => undef).toArray
  | _ => undef
theorem flat_eq {x : AV} {v : Value} (r : R w φ H x v) (h : x.flat = true) : v = flatV x := by
  cases x <;> simp [AV.flat] at h <;> (cases r; rfl)
theorem flatT_eq {x : AV} {v : Value} (r : R w φ H x v) (h : x.flatT = true) : v = flatV x := by
  cases x
  case tup xs =>
    cases r with
    | tup _ us hs hr =>
      simp only [AV.flatT] at h
      simp only [flatV]
      congr 1
      apply Array.ext (by simp [hs])
      intro i h1 h2
      have hx : xs[i]? = some (xs[i]'(by omega)) := List.getElem?_eq_getElem (by omega)
      have := flat_eq (hr i _ _ hx (Array.getElem?_eq_getElem h1)) (List.all_eq_true.1 h _ (List.getElem_mem _))
      rw [this]
      simp
      have hfl := List.all_eq_true.1 h (xs[i]'(by omega)) (List.getElem_mem _)
      generalize xs[i]'(by omega) = x at hfl
      cases x <;> simp [AV.flat] at hfl <;> rfl
  all_goals exact flat_eq r h
theorem flatT_R (w' : World) (φ' : Nat → Value) (H' : List AO) {x : AV} (h : x.flatT = true) : R w' φ' H' x (flatV x) := by
  have hf : ∀ y : AV, y.flat = true → R w' φ' H' y (flatV y) := fun y hy => by cases y <;> simp [AV.flat] at hy <;> constructor
  cases x
  case tup xs =>
    simp only [AV.flatT] at h
    refine .tup _ _ (by simp) fun i x u hi hu => ?_
    simp [hi] at hu
    have hfl := List.all_eq_true.1 h x (List.mem_of_getElem? hi)
    subst hu
    cases x <;> simp [AV.flat] at hfl <;> constructor
  all_goals exact hf _ h

/-- one operation, in every world of the class -/
theorem vOp_quiet (st : St B X w0 w φ H) {env : Env} {a : Act} {g : Nat → Value} (eo : EnvOK w φ H env a n g) {o : Oper} (hn : opOK n o.op = true) {K : AV → Env → List AO → Prop} (h : vOp P true o.op o.type env H K)
    {next : Act → Prop} (hk : ∀ x v, K x env H → R w φ H x v → next (a.put o.dst v)) : o.quiet P a (Cls w) next := by
  have other : (if effOp P o.op env then true = false ∧ eOp P o.op o.type env H (fun x h => K x env h) else sOp P o.op env H fun x => K x env H) → o.quiet P a (Cls w) next := fun h => by
    by_cases he : effOp P o.op env = true
    · rw [if_pos he] at h; exact absurd h.1 (by simp)
    · rw [if_neg he] at h
      obtain ⟨x, v, h1, h2, h3⟩ := sOp_sound st eo hn h
      refine ⟨v, fun w' hw => ?_, hk x v h1 h2⟩
      unfold Oper.quietAt
      rw [h3 w' hw.ext]
      exact ⟨rfl, rfl⟩
  obtain ⟨dst, op, ty, pos, after, guard⟩ := o
  dsimp only at h other hk
  cases op
  case call c =>
    obtain ⟨callee, args, argTypes⟩ := c
    cases callee
    case value f =>
      simp only [vOp, callK] at h
      have ev : ∀ x, x ∈ (Op.call { callee := .value f, args := args, argTypes := argTypes }).operands.toList → R w φ H (evO env x) (a.eval x) := fun x hx => evO_R eo x (List.all_eq_true.1 hn x hx)
      have rf := ev f (by simp [Op.operands, Call.operands])
      generalize hfe : a.eval f = vf at rf
      generalize evO env f = ef at h rf
      cases ef <;> (try exact h.elim)
      rename_i g caps
      cases rf with
      | fn _ _ us hs hr =>
        simp only [callV, if_true] at h
        obtain ⟨args', ret, har, ⟨hpf, hrv, hov, hc⟩, hfl, hk'⟩ := h
        refine ⟨flatV ret, fun w' hw => ?_, hk ret _ hk' (flatT_R w φ H hfl)⟩
        obtain ⟨st', le⟩ := st.ext hw
        have hargs := hc w' (args.map a.eval ++ us) st'.gw (by rw [(argsR_get har).1]; simp [hs]) (fun i x v hx hv => by
          obtain ⟨y, hy, hxy⟩ := (argsR_get har).2 i x hx
          refine argR_R st' ?_ hxy
          rcases Nat.lt_or_ge i args.size with hlt | hge
          · rw [List.getElem?_append_left (by simpa using hlt), List.getElem?_map, Option.map_eq_some_iff] at hy
            obtain ⟨z, hz, rfl⟩ := hy
            rw [Array.getElem?_append_left (by simpa using hlt), Array.getElem?_map, Option.map_eq_some_iff] at hv
            obtain ⟨z', hz', rfl⟩ := hv
            simp at hz
            rw [hz] at hz'
            simp at hz'
            subst hz'
            exact (ev z (by simp [Op.operands, Call.operands]; exact .inr (Array.mem_of_getElem? hz))).le le
          · rw [List.getElem?_append_right (by simpa using hge)] at hy
            rw [Array.getElem?_append_right (by simpa using hge)] at hv
            simp at hy hv
            exact (hr _ y v hy hv).le le)
        have hrun : (execOp a.eval { dst := dst, op := Op.call { callee := .value f, args := args, argTypes := argTypes }, type := ty, pos := pos, after := after, guard := guard }).run P w' = .ok (.enter g (args.map a.eval ++ us)) w' := by
          simp [execOp, resolve, hfe, Deferred.ofValue, invoke, run_callFunc hpf]
        unfold Oper.quietAt
        rw [hrun]
        refine ⟨rfl, hargs.mono fun e w'' ⟨v, φc, he, hg, hh, hret⟩ => ?_⟩
        exact ⟨by rw [he, flatT_eq hret hfl], Gr.trans hw hg⟩
    case invoke r m => exact other h
    case builtin b => exact other h
  case build T parts =>
    obtain ⟨x, v, h1, h2, h3⟩ := build_sound (ρ := a.eval) (fun p hp => evO_R eo p.2 (List.all_eq_true.1 hn _ (by simp only [Op.operands]; exact List.mem_map.2 ⟨p, hp, rfl⟩))) (by first | exact h | (simp only [vOp] at h; exact h) | (simp only [fOp] at h; exact h))
    refine ⟨v, fun w' hw => ?_, hk x v h1 h2⟩
    unfold Oper.quietAt
    rw [show (execOp a.eval { dst := dst, op := Op.build T parts, type := ty, pos := pos, after := after, guard := guard }).run P w' = .ok (.value v) w' by simp only [execOp, Sem.run_bind, h3, Result.andThen_ok, Sem.run_pure]]
    exact ⟨rfl, rfl⟩
  all_goals exact other h

theorem VO_quiet {g : Nat → Value} {ops : Array Oper} {Q : Act → Prop} {K : Env → List AO → Prop} (st : St B X w0 w φ H) (hq : ∀ env a, K env H → EnvOK w φ H env a n g → Q a) :
    ∀ (l : List Oper), (∀ o ∈ l, o ∈ ops.toList) → regOK n ops = true → ∀ (env : Env) (a : Act), VO P true ops l env H K → (∀ o ∈ l, True) → EnvOK w φ H env a n g → wpQuiet P ops (Cls w) Q l a
  | [], _, _, env, a, h, _, eo => hq env a h eo
  | o :: rest, hmem, hok, env, a, h, ht, eo => by
    have hon := List.all_eq_true.1 hok o (hmem o (by simp))
    simp only [Bool.and_eq_true] at hon
    have step : ∀ env, EnvOK w φ H env a n g → vOp P true o.op o.type env H (fun x e h => VO P true ops rest (put e o.dst x) h K) → o.quiet P a (Cls w) (wpQuiet P ops (Cls w) Q rest) := fun env eo h =>
      vOp_quiet st eo hon.1.1 h fun x v hk r => VO_quiet st hq rest (fun o ho => hmem o (by simp [ho])) hok _ _ hk (fun _ _ => trivial) (eo.put o.dst hon.1.2 r)
    unfold wpQuiet
    unfold VO at h
    rcases hg : o.guard with _ | ⟨j, want⟩
    · rw [hg] at h
      rw [if_pos (by simp [Region.wanted, hg])]
      exact step env eo h
    · rw [hg] at h
      dsimp only at h
      rcases hd : (ops[j]?).bind (·.dst) with _ | d
      · rw [hd] at h; exact h.elim
      · rw [hd] at h
        dsimp only at h
        have hdn : d < n := by
          have := hon.2
          rw [hg] at this
          dsimp only at this
          rw [hd] at this
          simpa using this
        have hy : ∀ v, a.tmps.getD d undef = v → yielded ops a.tmps j = (match v with | .bool b => some b | _ => none) := fun v hv => by
          have hlt : d < a.tmps.size := by rw [eo.size]; exact hdn
          unfold yielded
          rw [hd]
          have : a.tmps[d]? = some v := by rw [← hv, Array.getD_eq_getD_getElem?, Array.getElem?_eq_getElem hlt]; rfl
          simp only [Option.bind_some, this]
          cases v <;> rfl
        have hr := eo.slot d hdn
        have skip : ∀ env', EnvOK w φ H env' a n g → VO P true ops rest (put env' o.dst (.sc (.tuple #[]))) H K → wpQuiet P ops (Cls w) Q rest (a.put o.dst undef) := fun env' eo' h' =>
          VO_quiet st hq rest (fun o ho => hmem o (by simp [ho])) hok _ _ h' (fun _ _ => trivial) (put_dead eo' o.dst hon.1.2)
        generalize hed : env d = ed at h hr
        cases ed <;> (try exact h.elim)
        case bool b =>
          dsimp only at h
          have hv : a.tmps.getD d undef = .bool b := by generalize a.tmps.getD d undef = v at hr; cases hr; rfl
          have hyb := hy _ hv
          dsimp only at hyb
          by_cases hb : b = want
          · rw [if_pos (by simp [Region.wanted, hg, hyb, hb])]
            refine step _ (eo.say d hdn ?_) (h.1 hb)
            rw [hv, hb]; exact .bool _
          · rw [if_neg (by simp [Region.wanted, hg, hyb, hb])]
            have hb' : b = !want := by cases b <;> cases want <;> simp_all
            refine skip _ (eo.say d hdn ?_) (h.2 hb')
            rw [hv, hb']; exact .bool _
        case sc u =>
          cases u <;> (try exact h.elim)
          rename_i us
          have hv : a.tmps.getD d undef = .tuple us := by generalize a.tmps.getD d undef = v at hr; cases hr; rfl
          have hyb := hy _ hv
          dsimp only at hyb
          rw [if_neg (by simp [Region.wanted, hg, hyb])]
          exact skip _ eo h

theorem J_regionq {id : Nat} {ops : Array Oper} {env : Env} {K : Post} (hm : P.follows .mixedOrders = true) (hB : Region.lexB .any ops = true) (hok : regOK n ops = true) (h : VO P true ops ops.toList env H fun e h => @Hold2 e h ⟨fun e h => K .normal e h⟩) : J P n (.region id ops true) env H K := by
  intro B X w0 w φ a g st eo
  refine wp_region_quiet (C := Cls w) hm hB (Gr.drew w) ?_
  refine VO_quiet (g := g) (K := fun e h => K .normal e h) st (fun env a k eo w' hw => ?_) ops.toList (fun o ho => ho) hok env a h (fun _ _ => trivial) eo
  obtain ⟨st', le⟩ := st.ext hw
  exact ⟨env, H, φ, k, st', eo.le le⟩
/-- the same, held against 'wpStill' -/
theorem vOp_still (st : St B X w0 w φ H) {env : Env} {a : Act} {g : Nat → Value} (eo : EnvOK w φ H env a n g) {o : Oper} (hn : opOK n o.op = true) (hc : (match o.op with
    | .call { callee := .value _, args := _, argTypes := _ } => false
    | _ => true) = true) {K : AV → Env → List AO → Prop} (h : vOp P true o.op o.type env H K) : ∃ x v, K x env H ∧ R w φ H x v ∧ (execOp a.eval o).run P w = .ok (.value v) w := by
  have other : (if effOp P o.op env then true = false ∧ eOp P o.op o.type env H (fun x h => K x env h) else sOp P o.op env H fun x => K x env H) → ∃ x v, K x env H ∧ R w φ H x v ∧ (execOp a.eval o).run P w = .ok (.value v) w := fun h => by
    by_cases he : effOp P o.op env = true
    · rw [if_pos he] at h; exact absurd h.1 (by simp)
    · rw [if_neg he] at h
      obtain ⟨x, v, h1, h2, h3⟩ := sOp_sound st eo hn h
      exact ⟨x, v, h1, h2, h3 w (Ext.refl w)⟩
  obtain ⟨dst, op, ty, pos, after, guard⟩ := o
  dsimp only at h other hc
  cases op
  case call c =>
    obtain ⟨callee, args, argTypes⟩ := c
    cases callee
    case value f => simp at hc
    case invoke r m => exact other h
    case builtin b => exact other h
  case build T parts =>
    obtain ⟨x, v, h1, h2, h3⟩ := build_sound (ρ := a.eval) (fun p hp => evO_R eo p.2 (List.all_eq_true.1 hn _ (by simp only [Op.operands]; exact List.mem_map.2 ⟨p, hp, rfl⟩))) (by first | exact h | (simp only [vOp] at h; exact h) | (simp only [fOp] at h; exact h))
    exact ⟨x, v, h1, h2, by simp only [execOp, Sem.run_bind, h3, Result.andThen_ok, Sem.run_pure]⟩
  all_goals exact other h

def noCall (o : Oper) : Bool := match o.op with
  | .call { callee := .value _, args := _, argTypes := _ } => false
  | _ => true
theorem VO_still {g : Nat → Value} {ops : Array Oper} {Q : Act → Prop} {K : Env → List AO → Prop} (st : St B X w0 w φ H) (hq : ∀ env a, K env H → EnvOK w φ H env a n g → Q a) :
    ∀ (l : List Oper), (∀ o ∈ l, o ∈ ops.toList) → regOK n ops = true → l.all noCall = true → ∀ (env : Env) (a : Act), VO P true ops l env H K → EnvOK w φ H env a n g → wpStill P ops w Q l a
  | [], _, _, _, env, a, h, eo => hq env a h eo
  | o :: rest, hmem, hok, hnc, env, a, h, eo => by
    have hon := List.all_eq_true.1 hok o (hmem o (by simp))
    simp only [Bool.and_eq_true] at hon
    simp only [List.all_cons, Bool.and_eq_true] at hnc
    have step : ∀ env, EnvOK w φ H env a n g → vOp P true o.op o.type env H (fun x e h => VO P true ops rest (put e o.dst x) h K) → o.still P a w (wpStill P ops w Q rest) := fun env eo h => by
      obtain ⟨x, v, hk, r, hrun⟩ := vOp_still st eo hon.1.1 hnc.1 h
      unfold Oper.still
      rw [hrun, Oper.stillUpon_value]
      exact VO_still st hq rest (fun o ho => hmem o (by simp [ho])) hok hnc.2 _ _ hk (eo.put o.dst hon.1.2 r)
    unfold wpStill
    unfold VO at h
    rcases hg : o.guard with _ | ⟨j, want⟩
    · rw [hg] at h
      rw [if_pos (by simp [Region.wanted, hg])]
      exact step env eo h
    · rw [hg] at h
      dsimp only at h
      rcases hd : (ops[j]?).bind (·.dst) with _ | d
      · rw [hd] at h; exact h.elim
      · rw [hd] at h
        dsimp only at h
        have hdn : d < n := by
          have := hon.2
          rw [hg] at this
          dsimp only at this
          rw [hd] at this
          simpa using this
        have hy : ∀ v, a.tmps.getD d undef = v → yielded ops a.tmps j = (match v with | .bool b => some b | _ => none) := fun v hv => by
          have hlt : d < a.tmps.size := by rw [eo.size]; exact hdn
          unfold yielded
          rw [hd]
          have : a.tmps[d]? = some v := by rw [← hv, Array.getD_eq_getD_getElem?, Array.getElem?_eq_getElem hlt]; rfl
          simp only [Option.bind_some, this]
          cases v <;> rfl
        have hr := eo.slot d hdn
        have skip : ∀ env', EnvOK w φ H env' a n g → VO P true ops rest (put env' o.dst (.sc (.tuple #[]))) H K → wpStill P ops w Q rest (a.put o.dst undef) := fun env' eo' h' =>
          VO_still st hq rest (fun o ho => hmem o (by simp [ho])) hok hnc.2 _ _ h' (put_dead eo' o.dst hon.1.2)
        generalize hed : env d = ed at h hr
        cases ed <;> (try exact h.elim)
        case bool b =>
          dsimp only at h
          have hv : a.tmps.getD d undef = .bool b := by generalize a.tmps.getD d undef = v at hr; cases hr; rfl
          have hyb := hy _ hv
          dsimp only at hyb
          by_cases hb : b = want
          · rw [if_pos (by simp [Region.wanted, hg, hyb, hb])]
            refine step _ (eo.say d hdn ?_) (h.1 hb)
            rw [hv, hb]; exact .bool _
          · rw [if_neg (by simp [Region.wanted, hg, hyb, hb])]
            have hb' : b = !want := by cases b <;> cases want <;> simp_all
            refine skip _ (eo.say d hdn ?_) (h.2 hb')
            rw [hv, hb']; exact .bool _
        case sc u =>
          cases u <;> (try exact h.elim)
          rename_i us
          have hv : a.tmps.getD d undef = .tuple us := by generalize a.tmps.getD d undef = v at hr; cases hr; rfl
          have hyb := hy _ hv
          dsimp only at hyb
          rw [if_neg (by simp [Region.wanted, hg, hyb])]
          exact skip _ eo h

/-- a region that draws its order: the first m operations leave the memory alone and call nothing, the others come behind them in their order -/
theorem J_regiont {id : Nat} {ops : Array Oper} {env : Env} {K : Post} (m : Nat) (hm : P.follows .mixedOrders = true) (hB : Region.lexTailB .any ops m = true) (hok : regOK n ops = true) (hnc : (ops.toList.take m).all noCall = true)
    (h : VO P true ops (ops.toList.take m) env H fun e h => VO P false ops (ops.toList.drop m) e h fun e h => @Hold2 e h ⟨fun e h => K .normal e h⟩) : J P n (.region id ops true) env H K := by
  intro B X w0 w φ a g st eo
  obtain ⟨l⟩ := ops
  refine wp_region_still_tail m hm hB ?_
  obtain ⟨st', le⟩ := st.ext (Gr.drew w)
  refine VO_still (g := g) (K := fun e h => VO P false l.toArray (l.drop m) e h fun e h => K .normal e h) st' (fun env a k eo => ?_) (l.take m) (fun o ho => List.mem_of_mem_take ho) hok hnc env a h (eo.le le)
  exact VO_sound (g := g) (K := fun e h => K .normal e h) (fun env H φ w a k st eo => ⟨env, H, φ, k, st, eo⟩) (l.drop m) (fun o ho => List.mem_of_mem_drop ho) hok env H _ φ a k st' eo
end
end Go.Av
