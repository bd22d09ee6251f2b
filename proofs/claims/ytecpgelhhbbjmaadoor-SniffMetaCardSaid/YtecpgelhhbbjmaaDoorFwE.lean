/- Av, part U: functions that may give up by a panic of a plain value, and those that catch it. -/
import Derived.Test.YtecpgelhhbbjmaaDoorFwD
import Derived.Recover
import Derived.Orders
namespace Go.Av
open Go.RowKit
set_option linter.unusedVariables false

mutual
/-- it names no memory: the value is all of it -/
def AV.pl : AV → Bool
  | .int _ _ | .bool _ | .str _ => true
  | .agg xs => AV.plL xs
  | .iface _ x => x.pl
  | _ => false
def AV.plL : List AV → Bool
  | [] => true
  | x :: r => x.pl && AV.plL r
end
mutual
def pv : AV → Value
  | .int k n => .int k n
  | .bool b => .bool b
  | .str s => .string ⟨s.toArray⟩
  | .agg xs => .agg (pvL xs).toArray
  | .iface t x => .iface t (pv x)
  | _ => undef
def pvL : List AV → List Value
  | [] => []
  | x :: r => pv x :: pvL r
end
theorem pvL_map : ∀ xs : List AV, pvL xs = xs.map pv
  | [] => rfl
  | x :: r => by simp [pvL, pvL_map r]
theorem plL_get : ∀ (xs : List AV) (i : Nat) (x : AV), AV.plL xs = true → xs[i]? = some x → x.pl = true
  | [], i, x, _, h => by simp at h
  | y :: r, 0, x, hc, h => by simp [AV.plL] at hc h; rw [← h]; exact hc.1
  | y :: r, i + 1, x, hc, h => by simp [AV.plL] at hc h; exact plL_get r i x hc.2 h
theorem R.plain {w : World} {φ : Nat → Value} {H : List AO} {x : AV} {v : Value} (r : R w φ H x v) : x.pl = true → v = pv x := by
  induction r with
  | int k n => exact fun _ => rfl
  | bool b => exact fun _ => rfl
  | str s => exact fun _ => rfl
  | agg xs us hs hr ih =>
    intro h
    simp only [pv, pvL_map]
    congr 1
    apply Array.ext'
    apply List.ext_getElem?
    intro i
    simp only [Array.getElem?_toList, List.getElem?_map]
    rcases hi : xs[i]? with _ | x
    · have : us.size ≤ i := by rw [hs]; exact List.getElem?_eq_none_iff.1 hi
      simp [Array.getElem?_eq_none this]
    · have hlt : i < us.size := by rw [hs]; exact (List.getElem?_eq_some_iff.1 hi).1
      have := ih i x us[i] hi (Array.getElem?_eq_getElem hlt) (plL_get xs i x (by simpa [AV.pl] using h) hi)
      simp [Array.getElem?_eq_getElem hlt, this]
  | iface t x u hr ih => intro h; rw [pv, ih (by simpa [AV.pl] using h)]
  | _ => intro h; simp [AV.pl] at h
mutual
theorem pl_R (w : World) (φ : Nat → Value) (H : List AO) : ∀ x : AV, x.pl = true → R w φ H x (pv x)
  | .int k n, _ => .int k n
  | .bool b, _ => .bool b
  | .str s, _ => .str s
  | .agg xs, h => by
    simp only [pv]
    refine .agg _ _ (by simp [pvL_map]) fun i x u hx hu => ?_
    have := pl_RL w φ H xs (by simpa [AV.pl] using h) i x hx
    have e : (pvL xs).toArray[i]? = some (pv x) := by simp [pvL_map, hx]
    rw [e] at hu
    cases hu
    exact this
  | .iface t x, h => .iface t x _ (pl_R w φ H x (by simpa [AV.pl] using h))
theorem pl_RL (w : World) (φ : Nat → Value) (H : List AO) : ∀ xs : List AV, AV.plL xs = true → ∀ (i : Nat) (x : AV), xs[i]? = some x → R w φ H x (pv x)
  | [], _, i, x, h => by simp at h
  | y :: r, hc, 0, x, h => by simp [AV.plL] at hc h; rw [← h]; exact pl_R w φ H y hc.1
  | y :: r, hc, i + 1, x, h => by simp [AV.plL] at hc h; exact pl_RL w φ H r hc.2 i x h
end

/-- the end by a panic of x -/
def panE (x : AV) : Exit := .panic [{ v := pv x, recovered := false }]

section
variable {P : Program} {n : Nat} {env : Env} {H : List AO} {K : Post}
theorem then_p {y : Code} {x : AV} (h : K (panE x) env H) : Then P n y K (panE x) env H := h
theorem block_p {id : Nat} {x : AV} (h : K (panE x) env H) : Block id K (panE x) env H := h
theorem loop_p {σ : Type} {E : σ → Env} {Hs : σ → List AO} {I : σ → Prop} {m : σ → Nat} {s : σ} {x : AV} (h : K (panE x) env H) : LoopK E Hs I m s K (panE x) env H := h
theorem join_p {σ : Type} {E : σ → Env} {Hs : σ → List AO} {I : σ → Prop} {x : AV} (h : K (panE x) env H) : JoinK E Hs I K (panE x) env H := h
end

/-- a call: it comes back, or it gives up -/
def CallX (P : Program) (f : FuncId) (args : List AV) (o : Sum AV (AV × List AO)) : Prop :=
  plainFn P f ∧ (∀ p, o = .inr p → p.1.vf = true ∧ ∀ ob ∈ p.2, vfO ob) ∧ ∀ (w : World) (vals : Array Value), GW w → vals.size = args.length → (∀ (i : Nat) (x : AV) (v : Value), args[i]? = some x → vals[i]? = some v → R w (fun _ => .tuple #[]) [] x v) →
    Calls P f vals w fun e w' => Gr w w' ∧ match o with
      | .inl x => e = .panicked [{ v := pv x, recovered := false }]
      | .inr p => ∃ v φ, e = .returned v ∧ HeapOK w' w.heap.size φ p.2 ∧ R w' φ p.2 p.1 v
theorem CallX.ok {P : Program} {f : FuncId} {args : List AV} {ret : AV} {objs : List AO} (h : CallX P f args (.inr (ret, objs))) : CallOK P f args ret objs := by
  obtain ⟨h1, h2, h3⟩ := h
  obtain ⟨h4, h5⟩ := h2 _ rfl
  exact ⟨h1, h4, h5, fun w vals hG hs hr => (h3 w vals hG hs hr).mono fun e w' ⟨hg, v, φ, a, b, c⟩ => ⟨v, φ, a, hg, b, c⟩⟩
theorem CallOK.x {P : Program} {f : FuncId} {args : List AV} {ret : AV} {objs : List AO} (h : CallOK P f args ret objs) : CallX P f args (.inr (ret, objs)) := by
  obtain ⟨h1, h2, h3, h4⟩ := h
  exact ⟨h1, fun p hp => by cases hp; exact ⟨h2, h3⟩, fun w vals hG hs hr => (h4 w vals hG hs hr).mono fun e w' ⟨v, φ, a, hg, b, c⟩ => ⟨hg, v, φ, a, b, c⟩⟩
/-- a call in place: it comes back, or it gives up -/
def CallIX (P : Program) (f : FuncId) (args : List AV) (H : List AO) (E : Env) (K Kp : AV → Env → List AO → Prop) : Prop :=
  plainFn P f ∧ ∀ (B : Nat) (X : Nat → Prop) (w0 w : World) (φ : Nat → Value) (vals : Array Value) (g : Nat → Value), St B X w0 w φ H → vals.size = args.length →
    (∀ (i : Nat) (x : AV) (v : Value), args[i]? = some x → vals[i]? = some v → R w φ H x v) → (∀ t, R w φ H (E t) (g t)) →
    Calls P f vals w fun e w' => ∃ ret E' H' φ', ((∃ v, e = .returned v ∧ K ret E' H' ∧ R w' φ' H' ret v) ∨ (e = .panicked [{ v := pv ret, recovered := false }] ∧ Kp ret E' H')) ∧ St B X w0 w' φ' H' ∧ ∀ t, R w' φ' H' (E' t) (g t)

def callKP (P : Program) (H : List AO) (E : Env) (f : AV) (xs : List AV) [K : Ko (AV → Env → List AO → Prop)] [Kp : Ko (AV → Env → List AO → Prop)] : Prop :=
  callV P false H E f xs K.k ∨ ∃ g caps, f = .fn g caps ∧ ((∃ args' x, argsR H (xs ++ caps) args' ∧ CallX P g args' (.inl x) ∧ Kp.k x E H) ∨ CallIX P g (xs ++ caps) H E K.k Kp.k)
def PanK (x : AV) (E : Env) (H : List AO) [Kp : Ko (AV → Env → List AO → Prop)] : Prop := ∃ T y, x = .iface T y ∧ y.pl = true ∧ Kp.k x E H
def HoldP (x : AV) (E : Env) (H : List AO) [Kp : Ko (AV → Env → List AO → Prop)] : Prop := Kp.k x E H
theorem holdP {x : AV} {E : Env} {H : List AO} {k : AV → Env → List AO → Prop} (h : k x E H) : @HoldP x E H ⟨k⟩ := h
section
variable {P : Program} {H : List AO} {E : Env} {K Kp : AV → Env → List AO → Prop}
theorem callP_n {f : AV} {xs : List AV} (h : @callK P false H E f xs ⟨K⟩) : @callKP P H E f xs ⟨K⟩ ⟨Kp⟩ := .inl h
theorem callP_p {g : FuncId} {caps xs : List AV} (args' : List AV) {x : AV} (h : CallX P g args' (.inl x)) (ha : argsR H (xs ++ caps) args') (k : Kp x E H) : @callKP P H E (.fn g caps) xs ⟨K⟩ ⟨Kp⟩ := .inr ⟨g, caps, rfl, .inl ⟨args', x, ha, h, k⟩⟩
theorem callP_in {g : FuncId} {caps xs : List AV} (h : CallIX P g (xs ++ caps) H E K Kp) : @callKP P H E (.fn g caps) xs ⟨K⟩ ⟨Kp⟩ := .inr ⟨g, caps, rfl, .inr h⟩
theorem pan_of {T : TypeId} {y : AV} (h : y.pl = true) (k : Kp (.iface T y) E H) : @PanK (.iface T y) E H ⟨Kp⟩ := ⟨T, y, rfl, h, k⟩
theorem callP_join {σ τ : Type} {g : FuncId} {caps xs : List AV} {E0 : Env} (RV : σ → AV) (Es : σ → Env) (Hs : σ → List AO) (I : σ → Prop) (RVp : τ → AV) (Ep : τ → Env) (Hp : τ → List AO) (Ip : τ → Prop)
    (h : CallIX P g (xs ++ caps) H E0 (fun ret e h => @ToldK ret e h ⟨fun ret e h => ∃ s, I s ∧ ∃ ids : List Nat, ids.Nodup ∧ Hs s = renH ids h ∧ RV s = ren ids h ret ∧ ∀ t, Es s t = .dead ∨ Es s t = ren ids h (e t)⟩)
      (fun ret e h => @ToldK ret e h ⟨fun ret e h => ∃ s, Ip s ∧ ∃ ids : List Nat, ids.Nodup ∧ Hp s = renH ids h ∧ RVp s = ret ∧ ∀ t, Ep s t = .dead ∨ Ep s t = ren ids h (e t)⟩))
    (k : ∀ s, I s → K (RV s) (Es s) (Hs s)) (kp : ∀ s, Ip s → Kp (RVp s) (Ep s) (Hp s)) : @callKP P H E0 (.fn g caps) xs ⟨K⟩ ⟨Kp⟩ := by
  refine callP_in ⟨h.1, fun B X w0 w φ vals gg st hs hr hg => (h.2 B X w0 w φ vals gg st hs hr hg).mono ?_⟩
  rintro e w' ⟨ret, E', H', φ', ho, st', hE⟩
  have env : ∀ (ids : List Nat) (e2 : Env), (∀ t, e2 t = .dead ∨ e2 t = ren ids H' (E' t)) → ∀ t, R w' (renφ ids φ') (renH ids H') (e2 t) (gg t) := fun ids e2 h3 t => by
    rcases h3 t with h3 | h3
    · rw [h3]; exact .dead _
    · rw [h3]; exact ren_R ids (hE t)
  rcases ho with ⟨v, he, ⟨s, hs, ids, nd, e1, e2, e3⟩, hv⟩ | ⟨he, ⟨s, hs, ids, nd, e1, e2, e3⟩⟩
  · exact ⟨RV s, Es s, Hs s, renφ ids φ', .inl ⟨v, he, k s hs, by rw [e1, e2]; exact ren_R ids hv⟩, by rw [e1]; exact st'.ren nd, by rw [e1]; exact env ids _ e3⟩
  · exact ⟨RVp s, Ep s, Hp s, renφ ids φ', .inr ⟨by rw [he, e2], kp s hs⟩, by rw [e1]; exact st'.ren nd, by rw [e1]; exact env ids _ e3⟩
end

def vPp (P : Program) (op : Op) (ty : TypeId) (env : Env) (H : List AO) (K Kp : AV → Env → List AO → Prop) : Prop := match op with
  | .call { callee := .value f, args, argTypes := _ } => @callKP P H env (evO env f) (args.toList.map (evO env)) ⟨K⟩ ⟨Kp⟩
  | .panic x => @PanK (evO env x) env H ⟨Kp⟩
  | op => vOp P false op ty env H K
def VP (P : Program) (ops : Array Oper) : List Oper → Env → List AO → (Env → List AO → Prop) → (AV → Env → List AO → Prop) → Prop
  | [], env, H, K, _ => K env H
  | o :: rest, env, H, K, Kp => match o.guard with
    | none => vPp P o.op o.type env H (fun x e h => VP P ops rest (put e o.dst x) h K Kp) (fun x e h => @HoldP x e h ⟨Kp⟩)
    | some (j, want) => match (ops[j]?).bind (·.dst) with
      | some d => (match env d with
        | .bool b => @guardK b want ⟨vPp P o.op o.type (upd env d (.bool want)) H (fun x e h => VP P ops rest (put e o.dst x) h K Kp) (fun x e h => @HoldP x e h ⟨Kp⟩)⟩
            ⟨VP P ops rest (put (upd env d (.bool (!want))) o.dst (.sc (.tuple #[]))) H K Kp⟩
        | .sc (.tuple _) => VP P ops rest (put env o.dst (.sc (.tuple #[]))) H K Kp
        | _ => False)
      | none => False

section
variable {P : Program} {B : Nat} {X : Nat → Prop} {w0 w : World} {φ : Nat → Value} {H : List AO} {n : Nat}
theorem vPp_sound (st : St B X w0 w φ H) {env : Env} {a : Act} {g : Gh} (eo : EnvOK w φ H env a n g) {o : Oper} (hn : opOK n o.op = true) {K Kp : AV → Env → List AO → Prop} (h : vPp P o.op o.type env H K Kp)
    {next : Act → World → Prop} {Q : Exit → Act → World → Prop} (hk : ∀ x env' H' φ' w' v, K x env' H' → St B X w0 w' φ' H' → EnvOK w' φ' H' env' a n g → R w' φ' H' x v → next (a.put o.dst v) w')
    (hp : ∀ x env' H' φ' w', Kp x env' H' → St B X w0 w' φ' H' → EnvOK w' φ' H' env' a n g → Q (panE x) a w') : o.wp P a w next Q := by
  obtain ⟨dst, op, ty, pos, after, guard⟩ := o
  cases op
  case call c =>
    obtain ⟨callee, args, argTypes⟩ := c
    cases callee
    case value f =>
      simp only [vPp, callKP] at h
      rcases h with h | ⟨g', caps, hf, h⟩
      · exact vOp_sound st eo hn (by simp only [vOp, callK]; exact h) hk
      have ev : ∀ x, x ∈ (Op.call { callee := .value f, args := args, argTypes := argTypes }).operands.toList → R w φ H (evO env x) (a.eval x) := fun x hx => evO_R eo x (List.all_eq_true.1 hn x hx)
      have rf := ev f (by simp [Op.operands, Call.operands])
      generalize hfe : a.eval f = vf at rf
      rw [hf] at rf
      cases rf with
      | fn _ _ us hs hr =>
        have hargs : ∀ (i : Nat) (x : AV) (v : Value), (args.toList.map (evO env) ++ caps)[i]? = some x → (args.map a.eval ++ us)[i]? = some v → R w φ H x v := fun i y v hy hv => by
          rcases Nat.lt_or_ge i args.size with hlt | hge
          · rw [List.getElem?_append_left (by simpa using hlt), List.getElem?_map, Option.map_eq_some_iff] at hy
            obtain ⟨z, hz, rfl⟩ := hy
            rw [Array.getElem?_append_left (by simpa using hlt), Array.getElem?_map, Option.map_eq_some_iff] at hv
            obtain ⟨z', hz', rfl⟩ := hv
            simp at hz
            rw [hz] at hz'
            simp at hz'
            subst hz'
            exact ev z (by simp [Op.operands, Call.operands]; exact .inr (Array.mem_of_getElem? hz))
          · rw [List.getElem?_append_right (by simpa using hge)] at hy
            rw [Array.getElem?_append_right (by simpa using hge)] at hv
            simp at hy hv
            exact hr _ y v hy hv
        have hrun : plainFn P g' → (execOp a.eval { dst := dst, op := Op.call { callee := .value f, args := args, argTypes := argTypes }, type := ty, pos := pos, after := after, guard := guard }).run P w = .ok (.enter g' (args.map a.eval ++ us)) w := fun hpf => by
          simp [execOp, resolve, hfe, Deferred.ofValue, invoke, run_callFunc hpf]
        rcases h with ⟨args', x, har, ⟨hpf, _, hc⟩, hk'⟩ | ⟨hpf, hc⟩
        · have hcall := hc w (args.map a.eval ++ us) st.gw (by rw [(argsR_get har).1]; simp [hs]) (fun i x v hx hv => by
            obtain ⟨y, hy, hxy⟩ := (argsR_get har).2 i x hx
            exact argR_R st (hargs i y v hy hv) hxy)
          unfold Oper.wp
          rw [hrun hpf]
          show Calls P g' _ w _
          refine hcall.mono fun e w' ⟨hg, he⟩ => ?_
          subst he
          obtain ⟨s1, s2⟩ := st.ext hg
          exact hp x env H φ w' hk' s1 (eo.le s2)
        · unfold Oper.wp
          rw [hrun hpf]
          show Calls P g' _ w _
          refine (hc B X w0 w φ (args.map a.eval ++ us) (fun t => if t < n then a.tmps.getD t undef else g t) st (by simp [hs]) hargs (fun t => ?_)).mono fun e w' ⟨ret, E', H', φ', ho, s1, s3⟩ => ?_
          · by_cases ht : t < n
            · rw [if_pos ht]; exact eo.slot t ht
            · rw [if_neg ht]; exact eo.ghost t (by omega)
          · have eo' : EnvOK w' φ' H' E' a n g := ⟨eo.size, eo.defers, fun t ht => (by have := s3 t; rwa [if_pos ht] at this), fun t ht => (by have := s3 t; rwa [if_neg (by omega)] at this)⟩
            rcases ho with ⟨v, rfl, hk', s2⟩ | ⟨rfl, hk'⟩
            · exact hk _ _ _ _ w' v hk' s1 eo' s2
            · exact hp _ _ _ _ w' hk' s1 eo'
    case invoke r m => exact vOp_sound st eo hn h hk
    case builtin b => exact vOp_sound st eo hn h hk
  case panic x =>
    simp only [vPp, PanK] at h
    obtain ⟨T, y, hx, hy, hk'⟩ := h
    have rx := evO_R eo x (List.all_eq_true.1 hn _ (by simp [Op.operands]))
    rw [hx] at rx
    have hv := rx.plain (by simpa [AV.pl] using hy)
    unfold Oper.wp
    have hrun : (execOp a.eval { dst := dst, op := Op.panic x, type := ty, pos := pos, after := after, guard := guard }).run P w = .halt (.panic (pv (.iface T y))) w := by
      simp [execOp, hv, pv, Instr.panic, goPanic]
    rw [hrun, Oper.upon_panic]
    exact hp _ _ _ _ w (by rw [hx] at hk'; exact hk') st eo
  all_goals exact vOp_sound st eo hn h hk

theorem VP_sound {g : Gh} {ops : Array Oper} {Q : Exit → Act → World → Prop} {K : Env → List AO → Prop} {Kp : AV → Env → List AO → Prop} (hq : ∀ env H φ w a, K env H → St B X w0 w φ H → EnvOK w φ H env a n g → Q .normal a w) (hp : ∀ x env H φ w a, Kp x env H → St B X w0 w φ H → EnvOK w φ H env a n g → Q (panE x) a w) :
    ∀ (l : List Oper), (∀ o ∈ l, o ∈ ops.toList) → regOK n ops = true → ∀ (env : Env) (H : List AO) (w : World) (φ : Nat → Value) (a : Act), VP P ops l env H K Kp → St B X w0 w φ H → EnvOK w φ H env a n g → wpList P ops Q l a w
  | [], _, _, env, H, w, φ, a, h, st, eo => hq env H φ w a h st eo
  | o :: rest, hmem, hok, env, H, w, φ, a, h, st, eo => by
    have hon := List.all_eq_true.1 hok o (hmem o (by simp))
    simp only [Bool.and_eq_true] at hon
    have step : ∀ env, EnvOK w φ H env a n g → vPp P o.op o.type env H (fun x e h => VP P ops rest (put e o.dst x) h K Kp) (fun x e h => @HoldP x e h ⟨Kp⟩) → o.wp P a w (wpList P ops Q rest) Q := fun env eo h =>
      vPp_sound st eo hon.1.1 h (fun x env' H' φ' w' v hk st' eo' r => VP_sound hq hp rest (fun o ho => hmem o (by simp [ho])) hok _ H' w' φ' _ hk st' (eo'.put o.dst hon.1.2 r)) (fun x env' H' φ' w' hk st' eo' => hp x env' H' φ' w' a hk st' eo')
    unfold wpList
    unfold VP at h
    rcases hg : o.guard with _ | ⟨j, want⟩
    · rw [hg] at h
      rw [if_pos (by simp [Region.wanted, hg])]
      exact .inl (step env eo h)
    · rw [hg] at h
      dsimp only at h
      rcases hd : (ops[j]?).bind (·.dst) with _ | d
      · rw [hd] at h; exact h.elim
      · rw [hd] at h
        dsimp only at h
        have hdn : d < n := by
          have := hon.2
          rw [hg] at this
          dsimp only at this
          rw [hd] at this
          simpa using this
        have hy : ∀ v, a.tmps.getD d undef = v → yielded ops a.tmps j = (match v with | .bool b => some b | _ => none) := fun v hv => by
          have hlt : d < a.tmps.size := by rw [eo.size]; exact hdn
          unfold yielded
          rw [hd]
          have : a.tmps[d]? = some v := by rw [← hv, Array.getD_eq_getD_getElem?, Array.getElem?_eq_getElem hlt]; rfl
          simp only [Option.bind_some, this]
          cases v <;> rfl
        have hr := eo.slot d hdn
        have skip : ∀ env', EnvOK w φ H env' a n g → VP P ops rest (put env' o.dst (.sc (.tuple #[]))) H K Kp → wpList P ops Q rest (a.put o.dst undef) w := fun env' eo' h' =>
          VP_sound hq hp rest (fun o ho => hmem o (by simp [ho])) hok _ H w φ _ h' st (put_dead eo' o.dst hon.1.2)
        generalize hed : env d = ed at h hr
        cases ed <;> (try exact h.elim)
        case bool b =>
          dsimp only at h
          have hv : a.tmps.getD d undef = .bool b := by generalize a.tmps.getD d undef = v at hr; cases hr; rfl
          have hyb := hy _ hv
          dsimp only at hyb
          by_cases hb : b = want
          · rw [if_pos (by simp [Region.wanted, hg, hyb, hb])]
            refine .inl (step _ (eo.say d hdn ?_) (h.1 hb))
            rw [hv, hb]; exact .bool _
          · rw [if_neg (by simp [Region.wanted, hg, hyb, hb])]
            have hb' : b = !want := by cases b <;> cases want <;> simp_all
            refine skip _ (eo.say d hdn ?_) (h.2 hb')
            rw [hv, hb']; exact .bool _
        case sc u =>
          cases u <;> (try exact h.elim)
          rename_i us
          have hv : a.tmps.getD d undef = .tuple us := by generalize a.tmps.getD d undef = v at hr; cases hr; rfl
          have hyb := hy _ hv
          dsimp only at hyb
          rw [if_neg (by simp [Region.wanted, hg, hyb])]
          exact skip _ eo h
theorem J_regionP {id : Nat} {ops : Array Oper} {env : Env} {K : Post} (hok : regOK n ops = true) (h : VP P ops ops.toList env H (fun e h => @Hold2 e h ⟨fun e h => K .normal e h⟩) (fun x e h => K (panE x) e h)) : J P n (.region id ops false) env H K := by
  intro B X w0 w φ a g st eo
  refine wp_region_list (VP_sound (g := g) (K := fun e h => K .normal e h) (Kp := fun x e h => K (panE x) e h) (fun env H φ w a k st eo => ⟨env, H, φ, k, st, eo⟩) (fun x env H φ w a k st eo => ⟨env, H, φ, k, st, eo⟩) ops.toList (fun o ho => ho) hok env H w φ a h st eo)
end
attribute [go_sem ↓] VP vPp
end Go.Av
namespace Go.Av
open Go.RowKit
set_option linter.unusedVariables false

/-- an error of which is told only whether it is nil -/
def errA (T : TypeId) (b : Bool) : AV := match b with
  | true => .sc .nilIface
  | false => .iface T .dead
@[simp] theorem errA_vf (T : TypeId) (b : Bool) : (errA T b).vf = true := by cases b <;> rfl
theorem errA_t (T : TypeId) : errA T true = .sc .nilIface := rfl
theorem errA_f (T : TypeId) : errA T false = .iface T .dead := rfl
theorem ren_errA (ids : List Nat) (H : List AO) (T : TypeId) (b : Bool) : ren ids H (errA T b) = errA T b := by cases b <;> rfl
theorem ren2_errA (ids : List Nat) (H : List AO) (T : TypeId) (b : Bool) : ren2 ids H (errA T b) = errA T b := by cases b <;> rfl
theorem ren1_errA (ids : List Nat) (H : List AO) (T : TypeId) (b : Bool) : ren1 ids H (errA T b) = errA T b := by cases b <;> rfl
theorem sh2_errA (n : Nat) (T : TypeId) (b : Bool) : sh2 n (errA T b) = errA T b := by cases b <;> rfl
theorem sh1_errA (n : Nat) (T : TypeId) (b : Bool) : sh1 n (errA T b) = errA T b := by cases b <;> rfl
theorem nilV_err (P : Program) (H : List AO) (op : BinOp) (T' T : TypeId) (b : Bool) (K : AV → Prop) : nilV P H op T' (errA T b) (.sc .nilIface) K = (isIf P T' = true ∧ eqB op b K) := by
  cases b <;> rfl
attribute [go_sem ↓] ren_errA ren2_errA ren1_errA sh2_errA sh1_errA nilV_err
attribute [go_sem] errA_t errA_f

section
variable {P : Program} {B : Nat} {X : Nat → Prop} {w0 w : World} {φ : Nat → Value} {H : List AO} {n : Nat} {env : Env}
theorem argEnvG_ok {w : World} {φ : Nat → Value} {H : List AO} {args : List AV} {E : Env} {g : Nat → Value} {vals : Array Value} {m : Nat} {G : Gh} (hG : G = ⟨fun t => g (t - m), []⟩) (hsz : vals.size = args.length) (hlen : args.length ≤ m)
    (hr : ∀ (i : Nat) (x : AV) (v : Value), args[i]? = some x → vals[i]? = some v → R w φ H x v) (hg : ∀ t, R w φ H (E t) (g t)) :
    EnvOK w φ H (argEnvG m args E) { tmps := vals ++ Array.replicate (m - vals.size) undef, defers := [] } m G := by
  subst hG
  refine ⟨by simp; omega, rfl, fun t ht => ?_, fun t ht => by unfold argEnvG; rw [if_neg (by omega)]; exact hg _⟩
  dsimp only
  unfold argEnvG
  rw [if_pos ht]
  rcases Nat.lt_or_ge t args.length with hlt | hge
  · have h1 : args[t]? = some args[t] := List.getElem?_eq_getElem hlt
    have h2 : vals[t]? = some vals[t] := Array.getElem?_eq_getElem (by omega)
    have e1 : args.getD t (.sc (.tuple #[])) = args[t] := by rw [List.getD_eq_getElem?_getD, h1]; rfl
    have e2 : (vals ++ Array.replicate (m - vals.size) undef).getD t undef = vals[t] := by
      rw [Array.getD_eq_getD_getElem?, Array.getElem?_append_left (by omega), h2]; rfl
    rw [e1, e2]
    exact hr t _ _ h1 h2
  · have e1 : args.getD t (.sc (.tuple #[])) = .sc (.tuple #[]) := by rw [List.getD_eq_getElem?_getD, List.getElem?_eq_none hge]; rfl
    have e2 : (vals ++ Array.replicate (m - vals.size) undef).getD t undef = undef := by
      rw [Array.getD_eq_getD_getElem?, Array.getElem?_append_right (by omega)]
      simp [Array.getElem?_replicate]
      split <;> rfl
    rw [e1, e2]
    exact .sc _
theorem argEnv_ok {w : World} {φ : Nat → Value} {H : List AO} {args : List AV} {vals : Array Value} {m : Nat} {G : Gh} (hG : G = ⟨fun _ => undef, []⟩) (hsz : vals.size = args.length) (hlen : args.length ≤ m)
    (hr : ∀ (i : Nat) (x : AV) (v : Value), args[i]? = some x → vals[i]? = some v → R w φ H x v) :
    EnvOK w φ H (argEnv args) { tmps := vals ++ Array.replicate (m - vals.size) undef, defers := [] } m G := by
  subst hG
  have h := argEnvG_ok (G := ⟨fun t => undef, []⟩) (g := fun _ => undef) (E := fun _ => .sc (.tuple #[])) rfl hsz hlen hr (fun _ => .sc _)
  have e : argEnvG m args (fun _ => .sc (.tuple #[])) = argEnv args := by
    funext t
    unfold argEnvG argEnv
    split
    · rfl
    · rw [List.getD_eq_getElem?_getD, List.getElem?_eq_none (by omega)]; rfl
  rwa [e] at h
/-- the end of a function that may give up -/
def FinX (P : Program) (rs : List ResultVar) (o : Sum AV (AV × List AO)) : Post := fun ex env H => match o with
  | .inl x => ex = panE x
  | .inr p => Fin P rs p.1 p.2 ex env H
theorem finX_ret {rs : List ResultVar} {ret : AV} {objs : List AO} (h : resK P rs env H fun xs => ∃ ids : List Nat, ids.Nodup ∧ ret = ren ids H (oneOf xs) ∧ objs = renH ids H) : FinX P rs (.inr (ret, objs)) .ret env H := ⟨trivial, h⟩
theorem finX_n {rs : List ResultVar} {ret : AV} {objs : List AO} (h : resK P rs env H fun xs => ∃ ids : List Nat, ids.Nodup ∧ ret = ren ids H (oneOf xs) ∧ objs = renH ids H) : FinX P rs (.inr (ret, objs)) .normal env H := ⟨trivial, h⟩
theorem finX_p {rs : List ResultVar} {x y : AV} (h : x = y) : FinX P rs (.inl y) (panE x) env H := by subst h; rfl
theorem callX_of {f : FuncId} {fn : Func} {args : List AV} {o : Sum AV (AV × List AO)} {n : Nat} {rs : List ResultVar} (hf : P.funcs[f]? = some fn) (hbs : fn.body.isSome = true) (hname : (fn.name == "runtime.NumGoroutine") = false) (hnt : fn.ntmps = n) (hrs : fn.results.toList = rs)
    (hlen : args.length ≤ n) (hres' : resOK n rs = true) (hv : ∀ p, o = .inr p → p.1.vf = true ∧ ∀ ob ∈ p.2, vfO ob)
    (h : J P n (fn.body.getD .skip) (argEnv args) [] (FinX P rs o)) : CallX P f args o := by
  rcases o with x | ⟨ret, objs⟩
  · subst hnt hrs
    have hname : fn.name ≠ "runtime.NumGoroutine" := by simpa using hname
    obtain ⟨c, hb⟩ := Option.isSome_iff_exists.1 hbs
    rw [hb] at h
    simp only [Option.getD_some] at h
    refine ⟨⟨fn, hf, by simp [hb], hname⟩, hv, fun w vals hG hsz hr => ?_⟩
    refine calls_of_wp hf hb ?_
    have st : St w.heap.size (fun _ => False) w w (fun _ => .tuple #[]) [] :=
      ⟨Frame.refl _ _ w, Nat.le_refl _, GK.of hG, fun id o b h => by simp at h, fun id id' o o' b h => by simp at h, fun id o h => by simp at h⟩
    refine wp_mono (h _ _ w w _ _ _ st (argEnv_ok (G := ⟨fun _ => undef, []⟩) rfl hsz hlen hr)) ?_
    rintro ex a w' ⟨env, H, φ, hex, st', eo'⟩
    have hex : ex = panE x := hex
    subst hex
    exact ⟨eo'.defers, st'.frame, rfl⟩
  · exact CallOK.x (callOK_of hf hbs hname hnt hrs hlen hres' (hv _ rfl).1 (hv _ rfl).2 h)

/-- the end of a call in place that may give up -/
def FinIX (P : Program) (n : Nat) (rs : List ResultVar) (K Kp : AV → Env → List AO → Prop) : Post := fun ex env H =>
  FinI P n rs K ex env H ∨ ∃ x, ex = panE x ∧ Kp x (fun t => env (t + n)) H
theorem finIX_ret {rs : List ResultVar} {K Kp : AV → Env → List AO → Prop} (h : resK P rs env H fun xs => K (oneOf xs) (fun t => env (t + n)) H) : FinIX P n rs K Kp .ret env H := .inl ⟨trivial, h⟩
theorem finIX_n {rs : List ResultVar} {K Kp : AV → Env → List AO → Prop} (h : resK P rs env H fun xs => K (oneOf xs) (fun t => env (t + n)) H) : FinIX P n rs K Kp .normal env H := .inl ⟨trivial, h⟩
theorem finIX_p {rs : List ResultVar} {K Kp : AV → Env → List AO → Prop} {x : AV} (h : Kp x (fun t => env (t + n)) H) : FinIX P n rs K Kp (panE x) env H := .inr ⟨x, rfl, h⟩
theorem callIX_of {f : FuncId} {fn : Func} {args : List AV} {E : Env} {K Kp : AV → Env → List AO → Prop} {n : Nat} {rs : List ResultVar} (hf : P.funcs[f]? = some fn) (hbs : fn.body.isSome = true) (hname : (fn.name == "runtime.NumGoroutine") = false) (hnt : fn.ntmps = n) (hrs : fn.results.toList = rs)
    (hlen : args.length ≤ n) (hres' : resOK n rs = true)
    (h : J P n (fn.body.getD .skip) (argEnvG n args E) H (FinIX P n rs K Kp)) : CallIX P f args H E K Kp := by
  subst hnt hrs
  have hres := hres'
  have hname : fn.name ≠ "runtime.NumGoroutine" := by simpa using hname
  obtain ⟨c, hb⟩ := Option.isSome_iff_exists.1 hbs
  rw [hb] at h
  simp only [Option.getD_some] at h
  refine ⟨⟨fn, hf, by simp [hb], hname⟩, fun B X w0 w φ vals g st hsz hr hg => ?_⟩
  refine calls_of_wp hf hb ?_
  refine wp_mono (h _ _ w0 w _ _ _ st (argEnvG_ok (G := ⟨fun t => g (t - fn.ntmps), []⟩) rfl hsz hlen hr hg)) ?_
  rintro ex a w' ⟨env, H9, φ', hk, st', eo'⟩
  have gh : ∀ t, R w' φ' H9 (env (t + fn.ntmps)) (g t) := fun t => by
    have := eo'.ghost (t + fn.ntmps) (by omega)
    dsimp only at this
    rwa [Nat.add_sub_cancel] at this
  rcases hk with ⟨hex, hk⟩ | ⟨x, rfl, hk⟩
  · have key : a.defers = [] ∧ ∃ v, (results fn a.tmps).run P w' = .ok v w' ∧ ∃ ret E' H' φ', ((∃ v2, Ending.returned v = .returned v2 ∧ K ret E' H' ∧ R w' φ' H' ret v2) ∨ (Ending.returned v = .panicked [{ v := pv ret, recovered := false }] ∧ Kp ret E' H')) ∧ St B X w0 w' φ' H' ∧ ∀ t, R w' φ' H' (E' t) (g t) := by
      refine ⟨eo'.defers, ?_⟩
      obtain ⟨xs, vs, hk, h2, h3, h4⟩ := resK_sound (P := P) st' eo' fn.results.toList hres hk
      have hrun : (results fn a.tmps).run P w' = .ok (if h : vs.toArray.size = 1 then vs.toArray[0] else .tuple vs.toArray) w' := by
        unfold results
        rw [← Array.toArray_toList (xs := fn.results), List.mapM_toArray]
        simp only [Sem.run_bind, Sem.run_map, Sem.run_pure]
        erw [h4]
        rfl
      refine ⟨_, hrun, _, _, _, _, .inl ⟨_, rfl, hk, ?_⟩, st', gh⟩
      match xs, vs, h2, h3 with
      | [], [], _, h3 => exact .tup _ _ rfl (fun i x u hx => by simp at hx)
      | [x], [v], _, h3 => exact h3 0 x v rfl rfl
      | x :: y :: xs, v :: v' :: vs, h2, h3 =>
        have hne : ¬ ((v :: v' :: vs).toArray.size = 1) := by simp
        rw [dif_neg hne]
        exact .tup _ _ (by simpa using h2) (fun i x u hx hu => h3 i x u hx (by simpa using hu))
    cases ex with
    | ret => exact key
    | normal => exact key
    | exit id => exact hex.elim
    | goto l => exact hex.elim
    | panic c => exact hex.elim
    | outgrown => exact hex.elim
  · exact ⟨eo'.defers, _, _, _, _, .inr ⟨rfl, hk⟩, st', gh⟩
/-- the state may be told so, too -/
def Alt (e : Env) (h : List AO) (e' : Env) (h' : List AO) : Prop := ∀ (B : Nat) (X : Nat → Prop) (w0 w : World) (φ : Nat → Value) (a : Act) (n : Nat) (g : Gh), St B X w0 w φ h → EnvOK w φ h e a n g → ∃ φ', St B X w0 w φ' h' ∧ EnvOK w φ' h' e' a n g
theorem Alt.refl (e : Env) (h : List AO) : Alt e h e h := fun B X w0 w φ a n g st eo => ⟨φ, st, eo⟩
theorem alt_prom {env : Env} {H : List AO} (E : TypeId) (s : Nat) (hs : 0 < s) (id i : Nat) (T : TypeId) (cs : List AV) (hH : H[id]? = some (.box T cs)) (hc : cs[i]? = some (.sc (.slice none 0 0))) :
    Alt env H env (H.set id (.box T (cs.set i (.own H.length 0 0 0))) ++ [.slice 0 E s []]) := by
  intro B X w0 w φ a n g st eo
  have hid : id < H.length := (List.getElem?_eq_some_iff.1 hH).1
  have le1 : Le w φ H w (updφ φ H.length (.slice none 0 0)) (H ++ [.slice 0 E s []]) := Le_new (Gr.refl w) _ _ (fun b hb => by simp [vblk] at hb)
  have st1 : St B X w0 w (updφ φ H.length (.slice none 0 0)) (H ++ [.slice 0 E s []]) := St.new st (Gr.refl w) (.slice none 0 0) (.slice 0 E s []) (fun b hb => by simp [vblk] at hb)
    ⟨[], ⟨by simp, by simp, .inl ⟨by rw [updφ_same], rfl⟩⟩, hs, fun i x hx => by simp at hx, fun i x j c u hx => by simp at hx⟩
  generalize hφ : updφ φ H.length (.slice none 0 0) = φ1 at *
  have hH1 : (H ++ [AO.slice 0 E s []])[id]? = some (.box T cs) := by rw [List.getElem?_append_left hid]; exact hH
  have hlive : AO.live (.box T cs) = true := rfl
  have e0 : (H ++ [AO.slice 0 E s []]).set id (.box T (cs.set i (.own H.length 0 0 0))) = H.set id (.box T (cs.set i (.own H.length 0 0 0))) ++ [.slice 0 E s []] := by rw [List.set_append_left _ _ hid]
  obtain ⟨gg, arr, c1, c2, c3, c4⟩ := st1.chunk id _ hH1
  have le2 : Le w φ1 (H ++ [AO.slice 0 E s []]) w (updφ φ1 id (φ1 id)) ((H ++ [AO.slice 0 E s []]).set id (.box T (cs.set i (.own H.length 0 0 0)))) :=
    Le_upd st1 hH1 hlive (Nat.le_refl _) (fun k _ _ => rfl) (φ1 id) (fun b hb => .inl hb) ⟨rfl, rfl⟩
  have st2 : St B X w0 w (updφ φ1 id (φ1 id)) ((H ++ [AO.slice 0 E s []]).set id (.box T (cs.set i (.own H.length 0 0 0)))) :=
    St.upd st1 hH1 hlive rfl rfl rfl (Nat.le_refl _) (fun k _ _ => rfl) (φ1 id) (fun b hb => ⟨.inl hb, (st1.live id _ b hH1 hlive hb).2⟩) ⟨rfl, rfl⟩ (by
      refine ⟨gg, arr, by rw [updφ_same]; exact c1, c2, by rw [List.length_set]; exact c3, fun k c u hk hu => ?_⟩
      by_cases e : k = i
      · subst e
        have hik : k < cs.length := (List.getElem?_eq_some_iff.1 hc).1
        rw [List.getElem?_set_self hik] at hk
        simp only [Option.some.injEq] at hk
        subst hk
        have hv := (c4 k _ u hc hu)
        have hu0 : u = .slice none 0 0 := by
          have := hv.1
          generalize u = z at this
          cases this
          rfl
        subst hu0
        refine ⟨.own _ _ _ _ _ (by simp) rfl (fun _ _ _ _ _ => Nat.zero_le _) fun E' s' xs' hx => ?_, rfl⟩
        have hne : H.length ≠ id := by omega
        rw [List.getElem?_set_ne (Ne.symm hne)] at hx
        simp at hx
        obtain ⟨rfl, rfl, rfl⟩ := hx
        refine ⟨by simp, .inl ⟨?_, rfl, rfl⟩⟩
        rw [updφ_ne _ _ _ _ hne, ← hφ, updφ_same]
      · rw [List.getElem?_set_ne (Ne.symm e)] at hk
        exact ⟨(c4 k c u hk hu).1.le le2, (c4 k c u hk hu).2⟩)
  rw [e0] at st2 le2
  exact ⟨_, st2, (eo.le le1).le le2⟩
/-- the end of a closure that caught: the results of the function that deferred it -/
def FinC (P : Program) (m : Nat) (rs : List ResultVar) (ret : AV) (objs : List AO) : Post := fun ex env H =>
  (match ex with
    | .ret | .normal => True
    | _ => False) ∧ ∃ env' H', Alt env H env' H' ∧ resK P rs (fun t => env' (t + m)) H' fun xs => ∃ ids : List Nat, ids.Nodup ∧ ret = ren ids H' (oneOf xs) ∧ objs = renH ids H'
theorem finC_prom {m : Nat} {rs : List ResultVar} {ret : AV} {objs : List AO} {ex : Exit} (E : TypeId) (s : Nat) (hs : 0 < s) (id i : Nat) (T : TypeId) (cs : List AV) (hH : H[id]? = some (.box T cs)) (hc : cs[i]? = some (.sc (.slice none 0 0)))
    (h : FinC P m rs ret objs ex env (H.set id (.box T (cs.set i (.own H.length 0 0 0))) ++ [.slice 0 E s []])) : FinC P m rs ret objs ex env H :=
  let ⟨hx, e', h', alt, hk⟩ := h
  ⟨hx, e', h', fun B X w0 w φ a n g st eo => let ⟨_, st1, eo1⟩ := alt_prom E s hs id i T cs hH hc B X w0 w φ a n g st eo; alt B X w0 w _ a n g st1 eo1, hk⟩
theorem finC_ret {m : Nat} {rs : List ResultVar} {ret : AV} {objs : List AO} (h : resK P rs (fun t => env (t + m)) H fun xs => ∃ ids : List Nat, ids.Nodup ∧ ret = ren ids H (oneOf xs) ∧ objs = renH ids H) : FinC P m rs ret objs .ret env H := ⟨trivial, env, H, Alt.refl env H, h⟩
theorem finC_n {m : Nat} {rs : List ResultVar} {ret : AV} {objs : List AO} (h : resK P rs (fun t => env (t + m)) H fun xs => ∃ ids : List Nat, ids.Nodup ∧ ret = ren ids H (oneOf xs) ∧ objs = renH ids H) : FinC P m rs ret objs .normal env H := ⟨trivial, env, H, Alt.refl env H, h⟩
/-- the closure's walk behind 'x := recover()' -/
def Caught (P : Program) (m : Nat) (t1 t2 : Tmp) (c : Code) (caps : List AV) (pay : AV) (rs : List ResultVar) (ret : AV) (objs : List AO) (env : Env) (H : List AO) : Prop :=
  J P m c (upd (upd (argEnvG m caps env) t1 pay) t2 pay) H (FinC P m rs ret objs)
/-- the end of a function that has deferred a closure: the closure stands in the slot n -/
def FinD (P : Program) (n m : Nat) (f : FuncId) (t1 t2 : Tmp) (c : Code) (rs : List ResultVar) (ret : AV) (objs : List AO) : Post := fun ex env H =>
  ∃ caps pay, env n = .fn f caps ∧ caps.length ≤ m ∧ ((((ex = .ret) ∨ ex = .normal) ∧ pay = .sc .nilIface) ∨ ∃ T y, y.pl = true ∧ pay = .iface T y ∧ ex = panE pay) ∧ Caught P m t1 t2 c caps pay rs ret objs env H
section
variable {m : Nat} {f : FuncId} {t1 t2 : Tmp} {c : Code} {rs : List ResultVar} {ret : AV} {objs : List AO}
theorem finD_ret (caps : List AV) (hc : env n = .fn f caps) (hl : caps.length ≤ m) (h : Caught P m t1 t2 c caps (.sc .nilIface) rs ret objs env H) : FinD P n m f t1 t2 c rs ret objs .ret env H := ⟨caps, _, hc, hl, .inl ⟨.inl rfl, rfl⟩, h⟩
theorem finD_n (caps : List AV) (hc : env n = .fn f caps) (hl : caps.length ≤ m) (h : Caught P m t1 t2 c caps (.sc .nilIface) rs ret objs env H) : FinD P n m f t1 t2 c rs ret objs .normal env H := ⟨caps, _, hc, hl, .inl ⟨.inr rfl, rfl⟩, h⟩
theorem finD_p {T : TypeId} {y : AV} (caps : List AV) (hy : y.pl = true) (hc : env n = .fn f caps) (hl : caps.length ≤ m) (h : Caught P m t1 t2 c caps (.iface T y) rs ret objs env H) : FinD P n m f t1 t2 c rs ret objs (panE (.iface T y)) env H := ⟨caps, _, hc, hl, .inr ⟨T, y, hy, rfl, rfl⟩, h⟩
end
/-- what is told ahead of the text that runs under a deferred closure -/
def Under (P : Program) (n : Nat) (td : Tmp) (f : FuncId) (caps : List Tmp) (rest : Code) (K : Post) : Post := fun ex e H =>
  ex = .normal ∧ J P n rest (upd (upd e td (.fn f (caps.map e))) n (.fn f (caps.map e))) H K
theorem under_n {td : Tmp} {f : FuncId} {caps : List Tmp} {rest : Code} {K : Post} (h : J P n rest (upd (upd env td (.fn f (caps.map env))) n (.fn f (caps.map env))) H K) : Under P n td f caps rest K .normal env H := ⟨rfl, h⟩
/-- where the closure's body leads to -/
theorem callsD_of_caught {f : FuncId} {fc : Func} {m : Nat} {id : Nat} {t1 t2 : Nat} {ty1 ty2 : TypeId} {p1 p2 : String} {af1 af2 : Array Edge} {c : Code} {caps : Array Value} {u : FrameMode} {w : World} {pay : Value} {R' : Ending → FrameMode → World → Prop}
    (hf : P.funcs[f]? = some fc) (hb : fc.body = some (.seq (.region id #[⟨some t1, .call { callee := .builtin .recover, args := #[], argTypes := #[] }, ty1, p1, af1, none⟩, ⟨some t2, .assign (.tmp t1), ty2, p2, af2, none⟩] false) c)) (hm : fc.ntmps = m)
    (hres : fc.results.toList = []) (ht1 : t1 < m) (ht2 : t2 < m)
    {u' : FrameMode} (hu : (u = .returning ∧ pay = .nilIface ∧ u' = .returning) ∨ (u = .panicking [{ v := pay, recovered := false }] ∧ u' = .panicking [{ v := pay, recovered := true }]))
    (h : c.wp P (fun ex a w' => (ex = .ret ∨ ex = .normal) ∧ a.defers = [] ∧ R' (.returned (.tuple #[])) u' w')
      { tmps := ((caps ++ Array.replicate (m - caps.size) undef).setIfInBounds t1 pay).setIfInBounds t2 pay, defers := [] } w) : CallsD P f caps u w R' := by
  refine callsD_of_wpS hf hb fun c₀ cs hc => ?_
  have hr : ∀ tm w, (results fc tm).run P w = .ok (.tuple #[]) w := fun tm w => by
    unfold results
    rw [← Array.toArray_toList (xs := fc.results), hres]
    simp
  have fin : ∀ cs' : List Go.Frame, cs' = { c₀ with mode := u' } :: cs →
      c.wpS P (bodyPostS P fc c₀ cs R') { tmps := ((caps ++ Array.replicate (m - caps.size) undef).setIfInBounds t1 pay).setIfInBounds t2 pay, defers := [] } cs' w := fun cs' hcs => by
    refine wpS_of_wp (wp_mono h ?_)
    rintro ex a w' ⟨he, hd, hk⟩
    rcases he with rfl | rfl
    · exact ⟨hd, u', hcs, _, hr _ _, hk⟩
    · exact ⟨hd, u', hcs, _, hr _ _, hk⟩
  refine wpS_seq (wpS_region ?_)
  have g1 : ((caps ++ Array.replicate (m - caps.size) undef).setIfInBounds t1 pay).getD t1 undef = pay := by
    have : t1 < caps.size + (m - caps.size) := by omega
    simp [Array.getD_eq_getD_getElem?, Array.getElem?_setIfInBounds, this]
  subst hm
  rcases hu with ⟨rfl, rfl, rfl⟩ | ⟨rfl, rfl⟩
  · have e0 : recoverD (c₀ :: cs) = none := by simp [recoverD, hc]
    have := fin (c₀ :: cs) (by rw [← hc])
    simp [wpOpsS, List.range_succ, Region.wanted, execOp, resolve, Deferred.ofValue, invoke, builtin, e0, Act.put, Oper.upon, Act.eval, g1, Exit.thenS]
    exact this
  · have e0 : recoverD (c₀ :: cs) = some (pay, { c₀ with mode := .panicking [{ v := pay, recovered := true }] } :: cs) := by simp [recoverD, hc]
    have := fin _ rfl
    simp [wpOpsS, List.range_succ, Region.wanted, execOp, resolve, Deferred.ofValue, invoke, builtin, e0, Act.put, Oper.upon, Act.eval, g1, Exit.thenS]
    exact this
theorem callOK_defers {f fd : FuncId} {fn fc : Func} {args : List AV} {ret : AV} {objs : List AO} {n m : Nat} {rs : List ResultVar} {c0 rest c : Code} {id idc : Nat} {td t1 t2 : Nat} {capsT : List Nat}
    {ty1 ty2 ty3 ty4 : TypeId} {p1 p2 p3 p4 : String} {af1 af2 af3 af4 : Array Edge}
    (hf : P.funcs[f]? = some fn) (hb : fn.body = some (.seq c0 (.seq (.region id #[⟨some td, .makeFunc (.func fd) #[] (capsT.map Operand.tmp).toArray, ty1, p1, af1, none⟩, ⟨none, .defer { callee := .value (.tmp td), args := #[], argTypes := #[] }, ty2, p2, af2, none⟩] false) rest)))
    (hname : (fn.name == "runtime.NumGoroutine") = false) (hnt : fn.ntmps = n) (hrs : fn.results.toList = rs) (hlen : args.length ≤ n) (hres' : resOK n rs = true) (hv : ret.vf = true) (hvo : ∀ o ∈ objs, vfO o)
    (hfc : P.funcs[fd]? = some fc) (hbc : fc.body = some (.seq (.region idc #[⟨some t1, .call { callee := .builtin .recover, args := #[], argTypes := #[] }, ty3, p3, af3, none⟩, ⟨some t2, .assign (.tmp t1), ty4, p4, af4, none⟩] false) c))
    (hnamec : (fc.name == "runtime.NumGoroutine") = false) (hm : fc.ntmps = m) (hresc : fc.results.toList = []) (ht1 : t1 < m) (ht2 : t2 < m) (htd : td < n) (hcaps : ∀ t ∈ capsT, t < n)
    (h : J P n c0 (argEnv args) [] (Under P n td fd capsT rest (FinD P n m fd t1 t2 c rs ret objs))) : CallOK P f args ret objs := by
  subst hnt hrs
  have hres := hres'
  have hname : fn.name ≠ "runtime.NumGoroutine" := by simpa using hname
  have hpl : plainFn P fd := ⟨fc, hfc, by simp [hbc], by simpa using hnamec⟩
  refine ⟨⟨fn, hf, by simp [hb], hname⟩, hv, hvo, fun w vals hG hsz hr => ?_⟩
  refine calls_of_wp_defers hf hb ?_
  have st : St w.heap.size (fun _ => False) w w (fun _ => .tuple #[]) [] :=
    ⟨Frame.refl _ _ w, Nat.le_refl _, GK.of hG, fun id o b h => by simp at h, fun id id' o o' b h => by simp at h, fun id o h => by simp at h⟩
  refine wp_seq (wp_mono (h _ _ w w _ _ _ st (argEnv_ok (G := ⟨fun _ => undef, []⟩) rfl hsz hlen hr)) ?_)
  rintro ex a w1 ⟨e1, H1, φ1, ⟨rfl, hJ⟩, st1, eo1⟩
  refine wp_seq (wp_region_list ?_)
  let capv : Array Value := (capsT.map fun t => a.tmps.getD t undef).toArray
  let cv : Value := .func (.func fd) #[] capv
  have hcv : R w1 φ1 H1 (.fn fd (capsT.map e1)) cv := by
    refine .fn _ _ _ (by simp [capv]) fun i x u hx hu => ?_
    simp only [capv, List.getElem?_map, Option.map_eq_some_iff, List.getElem?_toArray] at hx hu
    obtain ⟨t, ht, rfl⟩ := hx
    obtain ⟨t', ht', rfl⟩ := hu
    rw [ht] at ht'
    cases ht'
    exact eo1.slot t (hcaps t (List.mem_of_getElem? ht))
  let d : Deferred := { target := .fn (.func fd) capv, args := #[] }
  let a2 : Act := { tmps := a.tmps.setIfInBounds td cv, defers := [d] }
  have hd1 : a.defers = [] := eo1.defers
  have hsz1 : a.tmps.size = fn.ntmps := eo1.size
  have hstep : rest.wp P (bodyPostD P fn fun e w' => ∃ v φ, e = .returned v ∧ Gr w w' ∧ HeapOK w' w.heap.size φ objs ∧ R w' φ objs ret v) a2 w1 := by
    have eo2 : EnvOK w1 φ1 H1 (upd (upd e1 td (.fn fd (capsT.map e1))) fn.ntmps (.fn fd (capsT.map e1))) a2 fn.ntmps ⟨fun t => if t = fn.ntmps then cv else undef, [d]⟩ := by
      refine ⟨by simp [a2, hsz1], rfl, fun t ht => ?_, fun t ht => ?_⟩
      · have hne : ¬ t = fn.ntmps := by omega
        simp only [upd, if_neg hne, a2]
        by_cases h2 : t = td
        · subst h2
          have : t < a.tmps.size := by omega
          simpa [Array.getD_eq_getD_getElem?, Array.getElem?_setIfInBounds, this] using hcv
        · have h3 : ¬ td = t := fun e => h2 e.symm
          have := eo1.slot t ht
          simpa [Array.getD_eq_getD_getElem?, Array.getElem?_setIfInBounds, h2, h3] using this
      · by_cases h2 : t = fn.ntmps
        · simp only [upd, if_pos h2]; exact hcv
        · have h3 : ¬ t = td := by omega
          simp only [upd, if_neg h2, if_neg h3]; exact eo1.ghost t ht
    refine wp_mono (hJ _ _ w w1 φ1 a2 _ st1 eo2) ?_
    rintro ex a3 w3 ⟨e3, H3, φ3, ⟨caps', pay, hcn, hcl, hcase, hC⟩, st3, eo3⟩
    have r3 := eo3.ghost fn.ntmps (Nat.le_refl _)
    rw [hcn] at r3
    simp only [if_true] at r3
    have hd3 : a3.defers = [d] := eo3.defers
    obtain ⟨hcs, hcr⟩ : capv.size = caps'.length ∧ ∀ (i : Nat) (x : AV) (v : Value), caps'[i]? = some x → capv[i]? = some v → R w3 φ3 H3 x v := by
      have r4 : R w3 φ3 H3 (.fn fd caps') (.func (.func fd) #[] capv) := r3
      clear_value capv
      cases r4 with
      | fn _ _ us hs hr => exact ⟨hs, hr⟩
    have main : ∀ (u u' : FrameMode) (pv' : Value), R w3 φ3 H3 pay pv' → ((u = .returning ∧ pv' = .nilIface ∧ u' = .returning) ∨ (u = .panicking [{ v := pv', recovered := false }] ∧ u' = .panicking [{ v := pv', recovered := true }])) →
        Leaves P fn a3.tmps (fun e w' => ∃ v φ, e = .returned v ∧ Gr w w' ∧ HeapOK w' w.heap.size φ objs ∧ R w' φ objs ret v) [d] u w3 := fun u u' pv' hp hu => by
      refine leaves_cons (by rcases hu with ⟨rfl, _⟩ | ⟨rfl, _⟩ <;> simp) (f := fd) (args := capv) (by simp [invoke, run_callFunc hpl]) ?_
      refine callsD_of_caught hfc hbc hm hresc ht1 ht2 hu ?_
      have eo4 := argEnvG_ok (G := ⟨fun t => (fun t => if t < fn.ntmps then a3.tmps.getD t undef else (if t = fn.ntmps then cv else undef)) (t - m), []⟩) (g := fun t => if t < fn.ntmps then a3.tmps.getD t undef else (if t = fn.ntmps then cv else undef)) (E := e3) (vals := capv) (args := caps') (m := m) rfl hcs hcl hcr (fun t => by
        by_cases ht : t < fn.ntmps
        · rw [if_pos ht]; exact eo3.slot t ht
        · rw [if_neg ht]; exact eo3.ghost t (by omega))
      have eo5 := (eo4.put (some t1) (by simpa [dstOK] using ht1) hp).put (some t2) (by simpa [dstOK] using ht2) hp
      refine wp_mono (hC _ _ w w3 φ3 _ _ st3 eo5) ?_
      rintro ex a5 w5 ⟨e6, H6, φ6, ⟨hex, e5, H5, halt, hk⟩, st6, eo7⟩
      obtain ⟨φ5, st5, eo6⟩ := halt _ _ _ _ _ _ _ _ st6 eo7
      have hx : ex = .ret ∨ ex = .normal := by cases ex <;> first | exact .inl rfl | exact .inr rfl | exact hex.elim
      refine ⟨hx, eo6.defers, ?_⟩
      have hse : settle u' = .returning := by rcases hu with ⟨_, _, rfl⟩ | ⟨_, rfl⟩ <;> rfl
      show Leaves P fn a3.tmps _ [] (settle u') w5
      rw [hse]
      have eoX : EnvOK w5 φ5 H5 (fun t => e5 (t + m)) a3 fn.ntmps ⟨fun t => if t = fn.ntmps then cv else undef, [d]⟩ := by
        refine ⟨eo3.size, eo3.defers, fun t ht => ?_, fun t ht => ?_⟩
        · have := eo6.ghost (t + m) (by omega)
          dsimp only at this
          rwa [Nat.add_sub_cancel, if_pos ht] at this
        · have := eo6.ghost (t + m) (by omega)
          dsimp only at this
          rwa [Nat.add_sub_cancel, if_neg (by omega)] at this
      obtain ⟨xs, vs, ⟨ids, nd, rfl, rfl⟩, h2, h3, h4⟩ := resK_sound (P := P) st5 eoX fn.results.toList hres hk
      have hrun : (results fn a3.tmps).run P w5 = .ok (if h : vs.toArray.size = 1 then vs.toArray[0] else .tuple vs.toArray) w5 := by
        unfold results
        rw [← Array.toArray_toList (xs := fn.results), List.mapM_toArray]
        simp only [Sem.run_bind, Sem.run_map, Sem.run_pure]
        erw [h4]
        rfl
      refine ⟨_, hrun, _, renφ ids φ5, rfl, st5.frame, ?_, ?_⟩
      · have s2 := st5.ren nd
        exact ⟨fun id o b h hl hv => by
          have := s2.live id o b h hl hv
          exact ⟨this.1.resolve_right (fun h => h), this.2⟩, s2.inj, s2.chunk⟩
      · refine ren_R ids ?_
        match xs, vs, h2, h3 with
        | [], [], _, h3 => exact .tup _ _ rfl (fun i x u hx => by simp at hx)
        | [x], [v], _, h3 => exact h3 0 x v rfl rfl
        | x :: y :: xs, v :: v' :: vs, h2, h3 =>
          have hne : ¬ ((v :: v' :: vs).toArray.size = 1) := by simp
          rw [dif_neg hne]
          exact .tup _ _ (by simpa using h2) (fun i x u hx hu => h3 i x u hx (by simpa using hu))
    rcases hcase with ⟨hex, rfl⟩ | ⟨T, y, hy, rfl, rfl⟩
    · have hl := main .returning .returning .nilIface (.sc _) (.inl ⟨rfl, rfl, rfl⟩)
      rcases hex with rfl | rfl
      · show Leaves P fn a3.tmps _ a3.defers .returning w3
        rw [hd3]; exact hl
      · show Leaves P fn a3.tmps _ a3.defers .returning w3
        rw [hd3]; exact hl
    · have hl := main (.panicking [{ v := pv (.iface T y), recovered := false }]) _ (pv (.iface T y)) (pl_R w3 φ3 H3 _ (by simpa [AV.pl] using hy)) (.inr ⟨rfl, rfl⟩)
      show Leaves P fn a3.tmps _ a3.defers (.panicking [{ v := pv (.iface T y), recovered := false }]) w3
      rw [hd3]; exact hl
  have e1 : (capsT.map Operand.tmp).toArray.map a.eval = capv := by simp [capv, Act.eval, Function.comp_def]
  have htd' : td < a.tmps.size := by omega
  have g1 : (a.tmps.setIfInBounds td cv).getD td undef = cv := by simp [Array.getD_eq_getD_getElem?, Array.getElem?_setIfInBounds, htd']
  have r1 : (execOp a.eval ⟨some td, .makeFunc (.func fd) #[] (capsT.map Operand.tmp).toArray, ty1, p1, af1, none⟩).run P w1 = .ok (.value cv) w1 := by
    simp only [execOp, Instr.makeFunc, e1, Sem.run_bind, Sem.run_pure, Result.andThen_ok]
    simp [cv]
  have r2 : (execOp (a.put (some td) cv).eval ⟨none, .defer { callee := .value (.tmp td), args := #[], argTypes := #[] }, ty2, p2, af2, none⟩).run P w1 = .ok (.defer d) w1 := by
    have g2 : (a.put (some td) cv).eval (.tmp td) = cv := g1
    simp [execOp, resolve, g2, Deferred.ofValue, cv, d]
  have h2 : Oper.wp P ⟨none, .defer { callee := .value (.tmp td), args := #[], argTypes := #[] }, ty2, p2, af2, none⟩ (a.put (some td) cv) w1 (fun a' w' => rest.wp P (bodyPostD P fn fun e w' => ∃ v φ, e = .returned v ∧ Gr w w' ∧ HeapOK w' w.heap.size φ objs ∧ R w' φ objs ret v) a' w') (bodyPostD P fn fun e w' => ∃ v φ, e = .returned v ∧ Gr w w' ∧ HeapOK w' w.heap.size φ objs ∧ R w' φ objs ret v) := by
    unfold Oper.wp
    rw [r2]
    show rest.wp P _ { tmps := a.tmps.setIfInBounds td cv, defers := d :: a.defers } w1
    rw [hd1]
    exact hstep
  unfold wpList
  rw [if_pos (by simp [Region.wanted])]
  refine .inl ?_
  unfold Oper.wp
  rw [r1]
  show wpList P _ _ _ (a.put (some td) cv) w1
  unfold wpList
  rw [if_pos (by simp [Region.wanted])]
  exact .inl h2
end
theorem subP_of {H : List AO} {e : Env} {ret : AV} (l : List (Nat × AV)) (H' : List AO) (rv : AV) (ids : List Nat) (nd : ids.Nodup) (hH : H' = renH ids H) (hr : rv = ret) (hl : ∀ p ∈ l, p.2 = Av.ren ids H (e p.1)) :
    ∃ ids : List Nat, ids.Nodup ∧ H' = renH ids H ∧ rv = ret ∧ ∀ t, envL l t = .dead ∨ envL l t = ren ids H (e t) :=
  let ⟨ids', nd', h1, _, h4⟩ := subR_of (ret := ret) l H' (ren ids H ret) ids nd hH rfl hl
  ⟨ids', nd', h1, hr, h4⟩
end Go.Av
namespace Go.Av
open Go.RowKit
set_option linter.unusedVariables false

/-- plain operations, that look at no memory and always go through once they are told -/
def tkB (P : Program) (o : Oper) : Bool := o.guard.isNone && (match o.op with
  | .move _ => true
  | .slice T _ _ _ none => isStr P T
  | _ => false)
def pickL (ops : Array Oper) : List (Nat × Bool) → List Oper
  | [] => []
  | p :: r => match ops[p.1]? with
    | some o => o :: pickL ops r
    | none => pickL ops r
theorem pickL_nil (ops : Array Oper) : pickL ops [] = [] := rfl
theorem pickL_cons (ops : Array Oper) (p : Nat × Bool) (r : List (Nat × Bool)) : pickL ops (p :: r) = match ops[p.1]? with
    | some o => o :: pickL ops r
    | none => pickL ops r := rfl
def dropL : List Nat → Env → Env
  | [], e => e
  | d :: l, e => dropL l (upd e d .dead)
theorem dropL_nil (e : Env) : dropL [] e = e := rfl
theorem dropL_cons (d : Nat) (l : List Nat) (e : Env) : dropL (d :: l) e = dropL l (upd e d .dead) := rfl
theorem dropL_eq (l : List Nat) : ∀ (e : Env) (t : Nat), dropL l e t = .dead ∨ (t ∉ l ∧ dropL l e t = e t) := by
  induction l with
  | nil => exact fun e t => .inr ⟨by simp, rfl⟩
  | cons d l ih =>
    intro e t
    rcases ih (upd e d .dead) t with h | ⟨h1, h2⟩
    · exact .inl h
    · by_cases ht : t = d
      · left
        show dropL l (upd e d .dead) t = .dead
        rw [h2, ht, upd_same]
      · right
        refine ⟨by simp [ht, h1], ?_⟩
        show dropL l (upd e d .dead) t = e t
        rw [h2, upd_ne _ _ _ _ ht]
theorem dropL_mem {l : List Nat} (e : Env) {t : Nat} (h : t ∈ l) : dropL l e t = .dead := by
  rcases dropL_eq l e t with h' | ⟨h', _⟩
  · exact h'
  · exact absurd h h'
/-- the order: plain operations may be taken, others must be the only ones that are ready -/
def schedB (P : Program) (ops : Array Oper) : Array Bool → List (Nat × Bool) → Bool
  | listed, [] => Region.ready .any ops listed == []
  | listed, (i, true) :: r => (match ops[i]? with
    | some o => tkB P o
    | none => false) && Region.free .any ops listed i && (Region.ready .any ops listed).contains i && schedB P ops (listed.setIfInBounds i true) r
  | listed, (i, false) :: r => (ops[i]?).isSome && Region.ready .any ops listed == [i] && schedB P ops (listed.setIfInBounds i true) r

section
variable {P : Program} {B : Nat} {X : Nat → Prop} {w0 w : World} {φ : Nat → Value} {H : List AO} {n : Nat}
theorem VP_step {g : Gh} {ops : Array Oper} {Q : Exit → Act → World → Prop} {next : Act → World → Prop} {K : Env → List AO → Prop} {Kp : AV → Env → List AO → Prop} (hp : ∀ x env H φ w a, Kp x env H → St B X w0 w φ H → EnvOK w φ H env a n g → Q (panE x) a w)
    {o : Oper} {rest : List Oper} (hmem : o ∈ ops.toList) (hok : regOK n ops = true) {env : Env} {a : Act} (h : VP P ops (o :: rest) env H K Kp) (st : St B X w0 w φ H) (eo : EnvOK w φ H env a n g)
    (hnext : ∀ env' H' φ' w' a', VP P ops rest env' H' K Kp → St B X w0 w' φ' H' → EnvOK w' φ' H' env' a' n g → next a' w') :
    if Region.wanted o (yielded ops a.tmps) then o.wp P a w next Q ∨ (o.asks P a w ∧ LetsOut Q) else next (a.put o.dst undef) w := by
  have hon := List.all_eq_true.1 hok o hmem
  simp only [Bool.and_eq_true] at hon
  have step : ∀ env, EnvOK w φ H env a n g → vPp P o.op o.type env H (fun x e h => VP P ops rest (put e o.dst x) h K Kp) (fun x e h => @HoldP x e h ⟨Kp⟩) → o.wp P a w next Q := fun env eo h =>
    vPp_sound st eo hon.1.1 h (fun x env' H' φ' w' v hk st' eo' r => hnext _ H' φ' w' _ hk st' (eo'.put o.dst hon.1.2 r)) (fun x env' H' φ' w' hk st' eo' => hp x env' H' φ' w' a hk st' eo')
  unfold VP at h
  rcases hg : o.guard with _ | ⟨j, want⟩
  · rw [hg] at h
    rw [if_pos (by simp [Region.wanted, hg])]
    exact .inl (step env eo h)
  · rw [hg] at h
    dsimp only at h
    rcases hd : (ops[j]?).bind (·.dst) with _ | d
    · rw [hd] at h; exact h.elim
    · rw [hd] at h
      dsimp only at h
      have hdn : d < n := by
        have := hon.2
        rw [hg] at this
        dsimp only at this
        rw [hd] at this
        simpa using this
      have hy : ∀ v, a.tmps.getD d undef = v → yielded ops a.tmps j = (match v with | .bool b => some b | _ => none) := fun v hv => by
        have hlt : d < a.tmps.size := by rw [eo.size]; exact hdn
        unfold yielded
        rw [hd]
        have : a.tmps[d]? = some v := by rw [← hv, Array.getD_eq_getD_getElem?, Array.getElem?_eq_getElem hlt]; rfl
        simp only [Option.bind_some, this]
        cases v <;> rfl
      have hr := eo.slot d hdn
      have skip : ∀ env', EnvOK w φ H env' a n g → VP P ops rest (put env' o.dst (.sc (.tuple #[]))) H K Kp → next (a.put o.dst undef) w := fun env' eo' h' =>
        hnext _ H φ w _ h' st (put_dead eo' o.dst hon.1.2)
      generalize hed : env d = ed at h hr
      cases ed <;> (try exact h.elim)
      case bool b =>
        dsimp only at h
        have hv : a.tmps.getD d undef = .bool b := by generalize a.tmps.getD d undef = v at hr; cases hr; rfl
        have hyb := hy _ hv
        dsimp only at hyb
        by_cases hb : b = want
        · rw [if_pos (by simp [Region.wanted, hg, hyb, hb])]
          refine .inl (step _ (eo.say d hdn ?_) (h.1 hb))
          rw [hv, hb]; exact .bool _
        · rw [if_neg (by simp [Region.wanted, hg, hyb, hb])]
          have hb' : b = !want := by cases b <;> cases want <;> simp_all
          refine skip _ (eo.say d hdn ?_) (h.2 hb')
          rw [hv, hb']; exact .bool _
      case sc u =>
        cases u <;> (try exact h.elim)
        rename_i us
        have hv : a.tmps.getD d undef = .tuple us := by generalize a.tmps.getD d undef = v at hr; cases hr; rfl
        have hyb := hy _ hv
        dsimp only at hyb
        rw [if_neg (by simp [Region.wanted, hg, hyb])]
        exact skip _ eo h

theorem slV_all {K : AV → Prop} {T : TypeId} (hT : isStr P T = true) {x : AV} {v : Value} (r : R w φ H x v) {lo hi : Option AV} {lv hv : Option Value}
    (hlr : ∀ y u, lo = some y → lv = some u → R w φ H y u) (hln : lo = none ↔ lv = none) (hhr : ∀ y u, hi = some y → hv = some u → R w φ H y u) (hhn : hi = none ↔ hv = none)
    (h : slV P T H x lo hi K) : ∃ y u, K y ∧ R w φ H y u ∧ ∀ w', (Instr.sliceAt T v lv hv none).run P w' = .ok u w' := by
  have hu : P.underlying T = some .string := by
    unfold isStr at hT
    split at hT
    · assumption
    · cases hT
  have hz : szE P T = none := by simp [szE, elT, hu]
  have ha : arN P T = none := by simp [arN, hu]
  cases x <;> simp only [slV, ivl_eq] at h
  case str s =>
    cases r
    obtain ⟨hT, h⟩ := h
    rcases hL : iv lo 0 with _ | l
    · simp [hL] at h
    rcases hI : iv hi s.length with _ | hh
    · simp [hL, hI] at h
    simp only [hL, hI] at h
    obtain ⟨r0, h, hk⟩ := h
    unfold slL at h
    split at h <;> simp only [Option.some.injEq, reduceCtorEq] at h
    rename_i h012
    obtain ⟨h0, h1, h2⟩ := h012
    subst h
    have e1 := iv_spec hlr hln hL
    have e2 := iv_spec hhr hhn hI
    refine ⟨_, _, hk, .str _, fun w' => ?_⟩
    rw [run_sliceAt_str hT w' ⟨s.toArray⟩ lv hv l hh (by simpa using e1) (by simpa [ByteArray.size] using e2) h0 h1 (by simpa [ByteArray.size] using h2)]
    congr 2
    apply ByteArray.ext
    apply Array.ext'
    simp [ByteArray.data_extract, List.take_drop]
    congr 2
    omega
  case own id ver off len =>
    exfalso
    rw [hz] at h
    split at h
    · simp at h
    · exact h
  case vptr x off =>
    exfalso
    rw [ha] at h
    obtain ⟨_, h⟩ := h
    simp [ArK] at h
  all_goals first | exact h.elim | (rw [hz] at h; simp at h)

theorem take_step {g : Gh} {ops : Array Oper} {K : Env → List AO → Prop} {Kp : AV → Env → List AO → Prop} {o : Oper} {rest : List Oper} (ht : tkB P o = true) (hmem : o ∈ ops.toList) (hok : regOK n ops = true) {env : Env} {a : Act} (h : VP P ops (o :: rest) env H K Kp) (eo : EnvOK w φ H env a n g) :
    ∃ x v, VP P ops rest (put env o.dst x) H K Kp ∧ R w φ H x v ∧ Yields P ops o v a := by
  have hon := List.all_eq_true.1 hok o hmem
  simp only [Bool.and_eq_true] at hon
  have ev : ∀ x, x ∈ o.op.operands.toList → R w φ H (evO env x) (a.eval x) := fun x hx => evO_R eo x (List.all_eq_true.1 hon.1.1 x hx)
  obtain ⟨dst, op, ty, pos, after, guard⟩ := o
  simp only [tkB, Bool.and_eq_true, Option.isNone_iff_eq_none] at ht
  obtain ⟨rfl, ht⟩ := ht
  have hw : Region.wanted ⟨dst, op, ty, pos, after, none⟩ (yielded ops a.tmps) = true := by simp [Region.wanted]
  unfold VP at h
  dsimp only at h ev
  cases op <;> (try (cases ht; done))
  case move x =>
    simp only [vPp, vOp, effOp, Bool.false_eq_true, if_false, sOp] at h
    exact ⟨_, _, h, ev x (by simp [Op.operands]), .inl ⟨hw, fun w' => by simp [execOp]⟩⟩
  case slice T x lo hi mx =>
    cases mx with
    | some m => cases ht
    | none =>
      simp only [vPp, vOp, effOp, Bool.false_eq_true, if_false, sOp] at h
      have hm : ∀ (l : Option Operand), (∀ z, l = some z → z ∈ (Op.slice T x lo hi none).operands.toList) → (∀ y u, l.map (evO env) = some y → l.map a.eval = some u → R w φ H y u) ∧ (l.map (evO env) = none ↔ l.map a.eval = none) := fun l hl => by
        cases l with
        | none => simp
        | some z => simp; exact ev z (hl z rfl)
      have hlo := hm lo (fun z hz => by subst hz; simp [Op.operands])
      have hhi := hm hi (fun z hz => by subst hz; simp [Op.operands])
      obtain ⟨y, u, h1, h2, h3⟩ := slV_all ht (ev x (by simp [Op.operands])) hlo.1 hlo.2 hhi.1 hhi.2 h
      exact ⟨y, u, h1, h2, .inl ⟨hw, fun w' => by simp only [execOp, Option.map_none, Sem.run_bind, h3 w', Result.andThen_ok, Sem.run_pure]⟩⟩

/-- the post of a region that draws: where it gives up, its own slots are told no more -/
def LiftD (B : Nat) (X : Nat → Prop) (w0 : World) (n : Nat) (g : Gh) (K : Post) (ds : List Nat) : Exit → Act → World → Prop := fun ex a w => match ex with
  | .panic c => ∃ env H φ, K (.panic c) env H ∧ St B X w0 w φ H ∧ EnvOK w φ H env a n g ∧ ∀ d ∈ ds, env d = .dead
  | ex => ∃ env H φ, K ex env H ∧ St B X w0 w φ H ∧ EnvOK w φ H env a n g
theorem any_of_VP {g : Gh} {ops : Array Oper} {K : Post} {ds : List Nat} (hs : Region.noSelect ops = true) (hok : regOK n ops = true) (hds : (ops.toList.all fun o => match o.dst with | some d => ds.contains d | none => true) = true) (hdn : ∀ d ∈ ds, d < n) :
    ∀ (l : List (Nat × Bool)) (listed : Array Bool) (fuel : Nat), l.length ≤ fuel → schedB P ops listed l = true → ∀ (env : Env) (H : List AO) (w : World) (φ : Nat → Value) (a : Act),
      VP P ops (pickL ops l) env H (fun e h => K .normal e h) (fun x e h => K (panE x) (dropL ds e) h) → St B X w0 w φ H → EnvOK w φ H env a n g → wpAny P .any ops (LiftD B X w0 n g K ds) fuel listed a w := by
  have hp : ∀ x env H φ w a, K (panE x) (dropL ds env) H → St B X w0 w φ H → EnvOK w φ H env a n g → LiftD B X w0 n g K ds (panE x) a w := fun x env H φ w a hk st eo => by
    refine ⟨dropL ds env, H, φ, hk, st, ⟨eo.size, eo.defers, fun t ht => ?_, fun t ht => ?_⟩, fun d hd => dropL_mem env hd⟩
    · rcases dropL_eq ds env t with h | ⟨_, h⟩
      · rw [h]; exact .dead _
      · rw [h]; exact eo.slot t ht
    · rcases dropL_eq ds env t with h | ⟨_, h⟩
      · rw [h]; exact .dead _
      · rw [h]; exact eo.ghost t ht
  intro l
  induction l with
  | nil =>
    intro listed fuel hf hsch env H w φ a h st eo
    simp only [schedB, beq_iff_eq] at hsch
    exact wpAny_done hsch ⟨env, H, φ, h, st, eo⟩ fuel
  | cons p l ih =>
    obtain ⟨i, b⟩ := p
    intro listed fuel hf hsch env H w φ a h st eo
    obtain ⟨fuel, rfl⟩ : ∃ f, fuel = f + 1 := ⟨fuel - 1, by simp at hf; omega⟩
    have hf' : l.length ≤ fuel := by simpa using hf
    cases b with
    | true =>
      simp only [schedB, Bool.and_eq_true] at hsch
      obtain ⟨⟨⟨htk, hfr⟩, hre⟩, hsch⟩ := hsch
      rcases hi : ops[i]? with _ | o
      · rw [hi] at htk; cases htk
      · rw [hi] at htk
        have hm : o ∈ ops.toList := by simpa using Array.mem_of_getElem? hi
        simp only [pickL, hi] at h
        obtain ⟨x, v, h1, h2, h3⟩ := take_step htk hm hok h eo
        have hon := List.all_eq_true.1 hok o hm
        simp only [Bool.and_eq_true] at hon
        refine wpAny_take hi hs hfr hre (fun c a' w' hq => ?_) h3 (ih _ _ hf' hsch _ H w φ _ h1 st (eo.put o.dst hon.1.2 h2))
        obtain ⟨env, H, φ, hk, st, eo, hd⟩ := hq
        refine ⟨env, H, φ, hk, st, ?_, hd⟩
        have hc := List.all_eq_true.1 hds o hm
        rcases hdst : o.dst with _ | d
        · rw [hdst] at eo; exact eo
        · rw [hdst] at eo hc
          have hdm : d ∈ ds := by simpa using hc
          refine ⟨by simpa [Act.put] using eo.size, eo.defers, fun t ht => ?_, eo.ghost⟩
          by_cases htd : t = d
          · rw [htd, hd d hdm]; exact .dead _
          · have := eo.slot t ht
            simp only [Act.put] at this
            rwa [Array.getD_eq_getD_getElem?, Array.getElem?_setIfInBounds_ne (by omega), ← Array.getD_eq_getD_getElem?] at this
    | false =>
      simp only [schedB, Bool.and_eq_true, beq_iff_eq] at hsch
      obtain ⟨⟨hso, hre⟩, hsch⟩ := hsch
      obtain ⟨o, hi⟩ := Option.isSome_iff_exists.1 hso
      have hm : o ∈ ops.toList := by simpa using Array.mem_of_getElem? hi
      simp only [pickL, hi] at h
      refine wpAny_all hre (by simp) fun j hj => ?_
      obtain rfl : j = i := by simpa using hj
      unfold wpOp
      rw [hi]
      exact VP_step hp hm hok h st eo fun env' H' φ' w' a' h' st' eo' => ih _ _ hf' hsch env' H' w' φ' a' h' st' eo'
theorem J_regionW {id : Nat} {ops : Array Oper} {env : Env} {K : Post} (is : List (Nat × Bool)) (ds : List Nat) (hm : P.follows .mixedOrders = true) (hok : regOK n ops = true) (hs : Region.noSelect ops = true)
    (hds : (ops.toList.all fun o => match o.dst with | some d => ds.contains d | none => true) = true) (hdn : (ds.all fun d => decide (d < n)) = true) (hlen : is.length ≤ ops.size) (hsch : schedB P ops (Array.replicate ops.size false) is = true)
    (h : VP P ops (pickL ops is) env H (fun e h => @Hold2 e h ⟨fun e h => K .normal e h⟩) (fun x e h => K (panE x) (dropL ds e) h)) : J P n (.region id ops true) env H K := by
  intro B X w0 w φ a g st eo
  obtain ⟨st1, le1⟩ := st.ext (Gr.drew w)
  refine wp_mono (wp_region_any hm (any_of_VP (K := K) hs hok hds (fun d hd => by simpa using List.all_eq_true.1 hdn d hd) is _ _ hlen hsch env H _ φ a h st1 (eo.le le1))) ?_
  rintro ex a w hq
  cases ex with
  | panic c => obtain ⟨env, H, φ, hk, st, eo, _⟩ := hq; exact ⟨env, H, φ, hk, st, eo⟩
  | _ => exact hq
end
/-- a meeting place whose end is the text's end -/
theorem J_joinK0 {P : Program} {n : Nat} {env : Env} {H : List AO} {K : Post} {σ : Type} {x : Code} (E : σ → Env) (Hs : σ → List AO) (I : σ → Prop) (h1 : J P n x env H (JoinK E Hs I K)) (h2 : ∀ s, I s → K .normal (E s) (Hs s)) : J P n x env H K := by
  intro B X w0 w φ a g st eo
  refine wp_mono (h1 B X w0 w φ a g st eo) ?_
  rintro ex a w ⟨e, h, φ, k, st, eo⟩
  cases ex with
  | normal =>
    obtain ⟨s, hs, sub⟩ := k
    obtain ⟨φ', st', eo'⟩ := sub.st st eo
    exact ⟨E s, Hs s, φ', h2 s hs, st', eo'⟩
  | _ => exact ⟨e, h, φ, k, st, eo⟩
attribute [go_sem] dropL_nil dropL_cons
end Go.Av
