/- Av, part Y: regions that draw their order: what looks at the memory of before is taken first, new memory and calls by contract may come in several orders. -/
import Derived.Test.YtecpgelhhbbjmaaDoorFwE
import Derived.OrdersHeld
namespace Go.Av
open Go.RowKit
set_option linter.unusedVariables false

section
variable {P : Program} {ops : Array Oper} {Q : Exit → Act → World → Prop} {md : Region.Mode} {S : World → Prop} {N : List Nat}
def lateS (N : List Nat) (listed : Array Bool) : Bool := N.any fun k => listed.getD k false
/-- whatever order is picked: and S holds behind every operation until one of N has come up -/
def wpAnyE (P : Program) (md : Region.Mode) (ops : Array Oper) (Q : Exit → Act → World → Prop) (S : World → Prop) (N : List Nat) : Nat → Array Bool → Act → World → Prop
  | 0, listed, a, w => Region.ready md ops listed = [] ∧ Q .normal a w
  | fuel + 1, listed, a, w => (Region.ready md ops listed = [] → Q .normal a w) ∧
    ∀ i ∈ Region.ready md ops listed, wpOp P ops Q i (fun a' w' => (lateS N (listed.setIfInBounds i true) = true ∨ S w') ∧ wpAnyE P md ops Q S N fuel (listed.setIfInBounds i true) a' w') a w
theorem wpAny_of_E : ∀ (fuel : Nat) (listed : Array Bool) (a : Act) (w : World), wpAnyE P md ops Q S N fuel listed a w → wpAny P md ops Q fuel listed a w
  | 0, _, _, _, h => h
  | fuel + 1, _, _, _, h => ⟨h.1, fun i hi => wpOp_mono (fun a' w' h' => wpAny_of_E fuel _ a' w' h'.2) (h.2 i hi)⟩
theorem lateS_false {listed : Array Bool} : lateS N listed = false ↔ ∀ k ∈ N, listed.getD k false = false := by
  unfold lateS
  rw [List.any_eq_false]
  simp
theorem lateS_set {listed : Array Bool} {j : Nat} (h : j ∉ N) : lateS N (listed.setIfInBounds j true) = lateS N listed := by
  unfold lateS
  rw [Bool.eq_iff_iff, List.any_eq_true, List.any_eq_true]
  constructor
  · rintro ⟨k, hk, h1⟩
    have hjk : j ≠ k := fun e => h (by rw [e]; exact hk)
    exact ⟨k, hk, by rwa [getD_set_ne false hjk] at h1⟩
  · rintro ⟨k, hk, h1⟩
    exact ⟨k, hk, getD_set_true h1⟩
theorem lateS_mono {listed : Array Bool} {j : Nat} (h : lateS N listed = true) : lateS N (listed.setIfInBounds j true) = true := by
  unfold lateS at *
  rw [List.any_eq_true] at *
  obtain ⟨k, hk, h1⟩ := h
  exact ⟨k, hk, getD_set_true h1⟩
theorem ready_unlisted {i : Nat} {listed : Array Bool} (h : i ∈ Region.ready md ops listed) : listed.getD i false = false := by
  have h0 := (mem_ready.1 h).1
  rcases Nat.lt_or_ge i listed.size with h' | h'
  · simp [h'] at h0 ⊢; exact h0
  · simp [Array.getElem?_eq_none h'] at h0
/-- an operation that yields its value in every world that meets S may be taken first; M: those that wait for it, N among them -/
theorem wpAnyE_first {i : Nat} {oi : Oper} {v : Value} {M : List Nat} (hi : ops[i]? = some oi) (hsel : ∀ (j : Nat) (o : Oper) cs b, ops[j]? = some o → o.op ≠ .select cs b)
    (hQ : ∀ c a w, Q (.panic c) (a.put oi.dst v) w → Q (.panic c) a w) (hNM : ∀ k ∈ N, k ∈ M)
    (hM : ∀ j ∈ M, ∃ oj, ops[j]? = some oj ∧ ∃ e ∈ oj.after, Region.binds md e = true ∧ (e.on = i ∨ e.on ∈ M)) :
    ∀ (fuel : Nat) (listed : Array Bool) (a : Act) (w : World),
      (∀ j oj, ops[j]? = some oj → j ≠ i → listed.getD j true = false → (∀ e ∈ oj.after, Region.binds md e = true → e.on ≠ i) → oi.apart ops oj = true) →
      i ∈ Region.ready md ops listed → (∀ j ∈ M, listed.getD j false = false) → YieldsIf P ops S oi v a → S w →
      wpAnyE P md ops Q S N fuel (listed.setIfInBounds i true) (a.put oi.dst v) w → wpAnyE P md ops Q S N (fuel + 1) listed a w := by
  intro fuel
  induction fuel with
  | zero =>
    intro listed a w _ hr hMl hy hS H
    refine ⟨fun h => (by rw [h] at hr; cases hr), fun j hj => ?_⟩
    by_cases hji : j = i
    · subst hji; exact hy.wpOp hi hS ⟨.inr hS, H⟩
    · have := ready_mono hj hji
      rw [H.1] at this
      cases this
  | succ fuel ih =>
    intro listed a w hfree hr hMl hy hS H
    refine ⟨fun h => (by rw [h] at hr; cases hr), fun j hj => ?_⟩
    by_cases hji : j = i
    · subst hji; exact hy.wpOp hi hS ⟨.inr hS, H⟩
    · have h1 := H.2 j (ready_mono hj hji)
      obtain ⟨hjun, oj, hoj, hall⟩ := mem_ready.1 hj
      have hiu := ready_unlisted hr
      have hnot : ∀ e ∈ oj.after, Region.binds md e = true → e.on ≠ i := fun e he hb heq => by
        have h1 := hall e he hb
        rw [heq, hiu] at h1
        cases h1
      have hjM : j ∉ M := fun hm => by
        obtain ⟨oj', hoj', e, he, hb, hc⟩ := hM j hm
        rw [hoj] at hoj'
        cases hoj'
        have h1 := hall e he hb
        rcases hc with hc | hc
        · exact hnot e he hb hc
        · rw [hMl _ hc] at h1; cases h1
      have hjN : j ∉ N := fun h => hjM (hNM j h)
      have h2 := wpOp_putIf hoj (hfree j oj hoj hji hjun hnot) (fun cs b => hsel i oi cs b hi) (fun cs b => hsel j oj cs b hoj) hQ hy h1
      have hfree' : ∀ k ok, ops[k]? = some ok → k ≠ i → (listed.setIfInBounds j true).getD k true = false →
          (∀ e ∈ ok.after, Region.binds md e = true → e.on ≠ i) → oi.apart ops ok = true := fun k ok hk hki hun hno => by
        refine hfree k ok hk hki ?_ hno
        by_cases hjk : j = k
        · subst hjk; exact hjun
        · rw [getD_set_ne true hjk] at hun; exact hun
      have hMl' : ∀ k ∈ M, (listed.setIfInBounds j true).getD k false = false := fun k hk => by
        have hjk : j ≠ k := fun e => hjM (by rw [e]; exact hk)
        rw [getD_set_ne false hjk]; exact hMl k hk
      have hl : lateS N (listed.setIfInBounds j true) = false := lateS_false.2 fun k hk => hMl' k (hNM k hk)
      have hiN : i ∉ N := fun h => by
        obtain ⟨oj', hoj', e, he, hb, hc⟩ := hM i (hNM i h)
        have h3 := (mem_ready.1 hr)
        obtain ⟨_, o3, ho3, hall3⟩ := h3
        rw [ho3] at hoj'
        cases hoj'
        have h1 := hall3 e he hb
        rcases hc with hc | hc
        · rw [hc, hiu] at h1; cases h1
        · rw [hMl _ hc] at h1; cases h1
      have hl2 : lateS N ((listed.setIfInBounds i true).setIfInBounds j true) = false := by
        rw [lateS_set hjN, lateS_set hiN, ← lateS_set hjN]; exact hl
      refine wpOp_mono (fun a' w' h3 => ?_) h2
      obtain ⟨h31, h32, h33⟩ := h3
      have hS' : S w' := h32.resolve_left (by rw [hl2]; simp)
      refine ⟨.inr hS', ih (listed.setIfInBounds j true) a' w' hfree' (ready_mono hr (Ne.symm hji)) hMl' h31 hS' ?_⟩
      rw [Array.setIfInBounds_comm _ _ hji]
      exact h33
/-- an operation that yields its value in whatever world may be taken first -/
theorem wpAnyE_pure {i : Nat} {oi : Oper} {v : Value} (hi : ops[i]? = some oi) (hsel : ∀ (j : Nat) (o : Oper) cs b, ops[j]? = some o → o.op ≠ .select cs b)
    (hQ : ∀ c a w, Q (.panic c) (a.put oi.dst v) w → Q (.panic c) a w) :
    ∀ (fuel : Nat) (listed : Array Bool) (a : Act) (w : World),
      (∀ j oj, ops[j]? = some oj → j ≠ i → listed.getD j true = false → (∀ e ∈ oj.after, Region.binds md e = true → e.on ≠ i) → oi.apart ops oj = true) →
      i ∈ Region.ready md ops listed → (i ∉ N ∨ lateS N listed = true) → Yields P ops oi v a → (lateS N listed = true ∨ S w) →
      wpAnyE P md ops Q S N fuel (listed.setIfInBounds i true) (a.put oi.dst v) w → wpAnyE P md ops Q S N (fuel + 1) listed a w := by
  intro fuel
  induction fuel with
  | zero =>
    intro listed a w _ hr hiN hy hS H
    refine ⟨fun h => (by rw [h] at hr; cases hr), fun j hj => ?_⟩
    by_cases hji : j = i
    · subst hji; exact hy.wpOp hi ⟨hS.imp lateS_mono id, H⟩
    · have := ready_mono hj hji
      rw [H.1] at this
      cases this
  | succ fuel ih =>
    intro listed a w hfree hr hiN hy hS H
    refine ⟨fun h => (by rw [h] at hr; cases hr), fun j hj => ?_⟩
    by_cases hji : j = i
    · subst hji; exact hy.wpOp hi ⟨hS.imp lateS_mono id, H⟩
    · have h1 := H.2 j (ready_mono hj hji)
      obtain ⟨hjun, oj, hoj, hall⟩ := mem_ready.1 hj
      have hiu := ready_unlisted hr
      have hnot : ∀ e ∈ oj.after, Region.binds md e = true → e.on ≠ i := fun e he hb heq => by
        have h1 := hall e he hb
        rw [heq, hiu] at h1
        cases h1
      have h2 := wpOp_put hoj (hfree j oj hoj hji hjun hnot) (fun cs b => hsel i oi cs b hi) (fun cs b => hsel j oj cs b hoj) hQ hy h1
      have hfree' : ∀ k ok, ops[k]? = some ok → k ≠ i → (listed.setIfInBounds j true).getD k true = false →
          (∀ e ∈ ok.after, Region.binds md e = true → e.on ≠ i) → oi.apart ops ok = true := fun k ok hk hki hun hno => by
        refine hfree k ok hk hki ?_ hno
        by_cases hjk : j = k
        · subst hjk; exact hjun
        · rw [getD_set_ne true hjk] at hun; exact hun
      refine wpOp_mono (fun a' w' h3 => ?_) h2
      obtain ⟨h31, h32, h33⟩ := h3
      have hS' : lateS N (listed.setIfInBounds j true) = true ∨ S w' := by
        rcases hiN with hiN | hiN
        · refine h32.imp (fun h => ?_) id
          rw [Array.setIfInBounds_comm _ _ (Ne.symm hji), lateS_set hiN] at h
          exact h
        · exact .inl (lateS_mono hiN)
      refine ⟨hS', ih (listed.setIfInBounds j true) a' w' hfree' (ready_mono hr (Ne.symm hji)) (hiN.imp id lateS_mono) h31 hS' ?_⟩
      rw [Array.setIfInBounds_comm _ _ hji]
      exact h33
end

/-- operations that make new memory, and look at none -/
def newB : Op → Bool
  | .assign (.const (.slice none 0 0)) => true
  | .box _ _ | .alloc _ | .buildSlice _ _ _ | .convert _ _ _ => true
  | _ => false
def callE (P : Program) (H : List AO) (E : Env) (f : AV) (xs : List AV) [K : Ko (AV → Env → List AO → Prop)] : Prop := match f with
  | .fn g caps => ∃ args' ret objs, argsR H (xs ++ caps) args' ∧ CallOK P g args' ret objs ∧ K.k (sh H.length ret) E (H ++ objs.map (shO H.length))
  | _ => False
theorem callE_ok {P : Program} {H : List AO} {g : FuncId} {E : Env} {caps xs : List AV} {K : AV → Env → List AO → Prop} (args' : List AV) {ret : AV} {objs : List AO} (h : CallOK P g args' ret objs) (ha : argsR H (xs ++ caps) args') (k : K (sh H.length ret) E (H ++ objs.map (shO H.length))) : @callE P H E (.fn g caps) xs ⟨K⟩ := ⟨args', ret, objs, ha, h, k⟩
/-- an operation that leaves the memory of before as it is -/
def vE (P : Program) (op : Op) (ty : TypeId) (env : Env) (H : List AO) (K : AV → Env → List AO → Prop) : Prop := match op with
  | .call { callee := .value f, args, argTypes := _ } => @callE P H env (evO env f) (args.toList.map (evO env)) ⟨K⟩
  | .build T parts => buildV P T (parts.toList.map fun p => (p.1, evO env p.2)) fun x => K x env H
  | op => if effOp P op env then newB op = true ∧ eOp P op ty env H (fun x h => K x env h) else sOp P op env H fun x => K x env H
def VE1 (P : Program) (ops : Array Oper) (o : Oper) (env : Env) (H : List AO) (C : Env → List AO → Prop) : Prop := match o.guard with
  | none => vE P o.op o.type env H fun x e h => C (put e o.dst x) h
  | some (j, want) => match (ops[j]?).bind (·.dst) with
    | some d => (match env d with
      | .bool b => @guardK b want ⟨vE P o.op o.type (upd env d (.bool want)) H fun x e h => C (put e o.dst x) h⟩
          ⟨C (put (upd env d (.bool (!want))) o.dst (.sc (.tuple #[]))) H⟩
      | .sc (.tuple _) => C (put env o.dst (.sc (.tuple #[]))) H
      | _ => False)
    | none => False
section
variable {P : Program} {B : Nat} {X : Nat → Prop} {w0 w : World} {φ : Nat → Value} {H : List AO} {n : Nat}
theorem gone_all (st : St B X w0 w φ H) : St w.heap.size (fun _ => False) w w φ (H.map fun _ => .gone) ∧ Le w φ H w φ (H.map fun _ => .gone) := by
  have hg : ∀ {id : Nat} {o : AO}, (H.map fun _ => AO.gone)[id]? = some o → o = .gone := fun h => by
    simp only [List.getElem?_map, Option.map_eq_some_iff] at h
    obtain ⟨_, _, h⟩ := h
    exact h.symm
  refine ⟨⟨Frame.refl _ _ w, Nat.le_refl _, GK.of st.gw, fun id o b h hl => ?_, fun id id' o o' b h hl => ?_, fun id o h => ?_⟩, ⟨Nat.le_refl _, fun b hb hn => ⟨fun id o h hl => ?_, fun _ => rfl⟩, by simp, fun id v' E s xs' _ h => ?_, fun id ver E s xs' _ _ h => ?_, fun id o' _ h hp => ?_⟩⟩
  · rw [hg h] at hl; cases hl
  · rw [hg h] at hl; cases hl
  · rw [hg h]; trivial
  · rw [hg h] at hl; cases hl
  · cases hg h
  · cases hg h
  · rw [hg h] at hp; cases hp
theorem new_ext {g : Gh} (st : St B X w0 w φ H) {env : Env} {a : Act} (eo : EnvOK w φ H env a n g) {o : Oper} (hn : opOK n o.op = true) (hb : newB o.op = true) {K : AV → List AO → Prop} (h : eOp P o.op o.type env H K) {nx : Next} {w' : World} (hr : (execOp a.eval o).run P w = .ok nx w') : Ext w w' := by
  obtain ⟨s1, l1⟩ := gone_all st
  have conv : (∃ src dst x, o.op = .convert src dst x ∧ ∃ id ver off len, evO env x = .own id ver off len) → Ext w w' := fun ⟨src, dst', x, ho, id, ver, off, len, hx⟩ => by
    have rx : R w φ H (evO env x) (a.eval x) := evO_R eo x (List.all_eq_true.1 hn x (by rw [ho]; simp [Op.operands]))
    rw [ho] at h
    simp only [eOp, hx] at h
    rw [hx] at rx
    rcases hH : H[id]? with _ | ob
    · simp [hH] at h
    cases ob <;> simp only [hH] at h
    rename_i v' E0 s0 xs
    cases xs with
    | nil => exact h.elim
    | cons y ys =>
    obtain ⟨rfl, hs1, hoff, rfl, hT, hik, hk⟩ := h
    subst hs1 hoff
    obtain ⟨hu, hsz, hs0, z, ti⟩ := tyS_spec hT
    have hik' := und_of_ikT hik
    obtain ⟨cs, c1, c2, c3, c4⟩ := st.chunk id _ hH
    generalize hve : a.eval x = vx at rx
    cases rx with
    | own _ _ _ _ _ hid ho' hv hown =>
      obtain ⟨eo1, e | ⟨g', cap, e1, e2, ad, rfl, e3, e4⟩⟩ := hown _ _ _ hH
      · have := e.2.2; simp at this
      rcases c1.2.2 with ⟨hn', _⟩ | ⟨g2, cap', cur, fz, f1, f2, f3, f4, f5, f6, f7⟩
      · rw [hn'] at e1; simp at e1
      have hgg : g2 = g' ∧ cap' = cap := by rw [f1] at e1; simpa using e1
      obtain ⟨rfl, rfl⟩ := hgg
      obtain rfl := e4 rfl
      have hrun : (execOp a.eval o).run P w = .ok (.value (.slice (some ⟨g2, 0, none⟩) len (cap' - 0))) (w.freeze ⟨g2, cur.size, none⟩ 1) := by
        obtain ⟨dst, op, ty, pos, after, guard⟩ := o
        dsimp only at ho
        subst ho
        simp only [execOp, hve, Sem.run_bind, run_conv_mark hu hik' f2, Result.andThen_ok, Sem.run_pure]
      rw [hr] at hrun
      cases hrun
      exact Ext.freeze _ _ _
  by_cases hcv : ∃ src dst x, o.op = .convert src dst x ∧ ∃ id ver off len, evO env x = .own id ver off len
  · exact conv hcv
  have h' : eOp P o.op o.type env (H.map fun _ => .gone) (fun _ _ => True) := by
    obtain ⟨dst, op, ty, pos, after, guard⟩ := o
    dsimp only at h hb ⊢
    cases op <;> (try (cases hb; done))
    case assign x =>
      unfold newB at hb
      split at hb <;> (try (cases hb; done))
      all_goals (rename_i heq; try (cases heq; done))
      · cases heq
        simp only [eOp] at h ⊢
        split at h
        · first | trivial | (rename_i e; rw [e]; trivial)
        · exact h.elim
    case box T x =>
      simp only [eOp] at h ⊢
      exact ⟨h.1, trivial⟩
    case alloc T =>
      simp only [eOp] at h ⊢
      split at h
      · exact ⟨h.1, trivial⟩
      · exact h.elim
    case buildSlice T len parts =>
      simp only [eOp] at h ⊢
      split at h
      · exact ⟨h.1, h.2.1, h.2.2.1, trivial⟩
      · exact h.elim
    case convert src dst' x =>
      simp only [eOp] at h ⊢
      split at h
      · exact ⟨h.1, h.2.1, h.2.2.1, h.2.2.2.1, trivial⟩
      · rename_i e; exact absurd ⟨src, dst', x, rfl, _, _, _, _, e⟩ hcv
      · exact h.elim
  obtain ⟨x, H', φ', v, nx', w2, _, h2, _, h4, _, _⟩ := eOp_sound s1 (eo.le l1) hn h'
  rw [hr] at h2
  cases h2
  exact Gr.ext h4.frame
theorem vE_sound (st : St B X w0 w φ H) {env : Env} {a : Act} {g : Gh} (eo : EnvOK w φ H env a n g) {o : Oper} (hn : opOK n o.op = true) {K : AV → Env → List AO → Prop} (h : vE P o.op o.type env H K)
    {next : Act → World → Prop} {Q : Exit → Act → World → Prop} (hk : ∀ x env' H' φ' w' v, K x env' H' → St B X w0 w' φ' H' → EnvOK w' φ' H' env' a n g → R w' φ' H' x v → Ext w w' → next (a.put o.dst v) w') : o.wp P a w next Q := by
  have other : (if effOp P o.op env then newB o.op = true ∧ eOp P o.op o.type env H (fun x h => K x env h) else sOp P o.op env H fun x => K x env H) → o.wp P a w next Q := fun h => by
    by_cases he : effOp P o.op env = true
    · rw [if_pos he] at h
      obtain ⟨x, H', φ', v, nx, w', h1, h2, h3, h4, h5, h6⟩ := eOp_sound st eo hn h.2
      have hx := new_ext st eo hn h.1 h.2 h2
      unfold Oper.wp
      rw [h2]
      rcases h3 with rfl | ⟨rfl, rfl⟩
      · exact hk x env H' φ' w' v h1 h4 (eo.le h5) h6 hx
      · exact hk x env H' φ' w' undef h1 h4 (eo.le h5) h6 hx
    · rw [if_neg he] at h
      obtain ⟨x, v, h1, h2, h3⟩ := sOp_sound st eo hn h
      unfold Oper.wp
      rw [h3 w (Ext.refl w)]
      exact hk x env H φ w v h1 st eo h2 (Ext.refl w)
  obtain ⟨dst, op, ty, pos, after, guard⟩ := o
  dsimp only at h other hk
  cases op
  case call c =>
    obtain ⟨callee, args, argTypes⟩ := c
    cases callee
    case value f =>
      simp only [vE, callE] at h
      have ev : ∀ x, x ∈ (Op.call { callee := .value f, args := args, argTypes := argTypes }).operands.toList → R w φ H (evO env x) (a.eval x) := fun x hx => evO_R eo x (List.all_eq_true.1 hn x hx)
      have rf := ev f (by simp [Op.operands, Call.operands])
      generalize hfe : a.eval f = vf at rf
      generalize evO env f = ef at h rf
      cases ef <;> (try exact h.elim)
      rename_i g' caps
      cases rf with
      | fn _ _ us hs hr =>
        have hargs : ∀ (i : Nat) (x : AV) (v : Value), (args.toList.map (evO env) ++ caps)[i]? = some x → (args.map a.eval ++ us)[i]? = some v → R w φ H x v := fun i y v hy hv => by
          rcases Nat.lt_or_ge i args.size with hlt | hge
          · rw [List.getElem?_append_left (by simpa using hlt), List.getElem?_map, Option.map_eq_some_iff] at hy
            obtain ⟨z, hz, rfl⟩ := hy
            rw [Array.getElem?_append_left (by simpa using hlt), Array.getElem?_map, Option.map_eq_some_iff] at hv
            obtain ⟨z', hz', rfl⟩ := hv
            simp at hz
            rw [hz] at hz'
            simp at hz'
            subst hz'
            exact ev z (by simp [Op.operands, Call.operands]; exact .inr (Array.mem_of_getElem? hz))
          · rw [List.getElem?_append_right (by simpa using hge)] at hy
            rw [Array.getElem?_append_right (by simpa using hge)] at hv
            simp at hy hv
            exact hr _ y v hy hv
        obtain ⟨args', ret, objs, har, ⟨hpf, hrv, hov, hc⟩, hk'⟩ := h
        have hrun : (execOp a.eval { dst := dst, op := Op.call { callee := .value f, args := args, argTypes := argTypes }, type := ty, pos := pos, after := after, guard := guard }).run P w = .ok (.enter g' (args.map a.eval ++ us)) w := by
          simp [execOp, resolve, hfe, Deferred.ofValue, invoke, run_callFunc hpf]
        have hcall := hc w (args.map a.eval ++ us) st.gw (by rw [(argsR_get har).1]; simp [hs]) (fun i x v hx hv => by
          obtain ⟨y, hy, hxy⟩ := (argsR_get har).2 i x hx
          exact argR_R st (hargs i y v hy hv) hxy)
        unfold Oper.wp
        rw [hrun]
        show Calls P g' _ w _
        refine hcall.mono fun e w' ⟨v, φc, he, hg, hh, hret⟩ => ?_
        subst he
        obtain ⟨s1, s2⟩ := st.join hg hov hh
        exact hk _ _ _ _ w' v hk' s1 (eo.le s2) (sh_R hret hrv) hg.ext
    case invoke r m => exact other h
    case builtin b => exact other h
  case build T parts =>
    obtain ⟨x, v, h1, h2, h3⟩ := build_sound (ρ := a.eval) (fun p hp => evO_R eo p.2 (List.all_eq_true.1 hn _ (by simp only [Op.operands]; exact List.mem_map.2 ⟨p, hp, rfl⟩))) (by first | exact h | (simp only [vE] at h; exact h))
    unfold Oper.wp
    rw [show (execOp a.eval { dst := dst, op := Op.build T parts, type := ty, pos := pos, after := after, guard := guard }).run P w = .ok (.value v) w by simp only [execOp, Sem.run_bind, h3, Result.andThen_ok, Sem.run_pure]]
    exact hk x env H φ w v h1 st eo h2 (Ext.refl w)
  all_goals exact other h

/-- the guard of an operation: it is wanted, or it is passed -/
theorem guard_step {g : Gh} {ops : Array Oper} {o : Oper} (hmem : o ∈ ops.toList) (hok : regOK n ops = true) {env : Env} {a : Act} (eo : EnvOK w φ H env a n g) {V : Env → Prop} {C : Env → Prop}
    (h : match o.guard with
      | none => V env
      | some (j, want) => match (ops[j]?).bind (·.dst) with
        | some d => (match env d with
          | .bool b => @guardK b want ⟨V (upd env d (.bool want))⟩ ⟨C (put (upd env d (.bool (!want))) o.dst (.sc (.tuple #[])))⟩
          | .sc (.tuple _) => C (put env o.dst (.sc (.tuple #[])))
          | _ => False)
        | none => False) :
    (Region.wanted o (yielded ops a.tmps) = true ∧ ∃ env', V env' ∧ EnvOK w φ H env' a n g) ∨
    (Region.wanted o (yielded ops a.tmps) = false ∧ ∃ env', C env' ∧ EnvOK w φ H env' (a.put o.dst undef) n g) := by
  have hon := List.all_eq_true.1 hok o hmem
  simp only [Bool.and_eq_true] at hon
  rcases hg : o.guard with _ | ⟨j, want⟩
  · rw [hg] at h
    exact .inl ⟨by simp [Region.wanted, hg], env, h, eo⟩
  · rw [hg] at h
    dsimp only at h
    rcases hd : (ops[j]?).bind (·.dst) with _ | d
    · rw [hd] at h; exact h.elim
    · rw [hd] at h
      dsimp only at h
      have hdn : d < n := by
        have := hon.2
        rw [hg] at this
        dsimp only at this
        rw [hd] at this
        simpa using this
      have hy : ∀ v, a.tmps.getD d undef = v → yielded ops a.tmps j = (match v with | .bool b => some b | _ => none) := fun v hv => by
        have hlt : d < a.tmps.size := by rw [eo.size]; exact hdn
        unfold yielded
        rw [hd]
        have : a.tmps[d]? = some v := by rw [← hv, Array.getD_eq_getD_getElem?, Array.getElem?_eq_getElem hlt]; rfl
        simp only [Option.bind_some, this]
        cases v <;> rfl
      have hr := eo.slot d hdn
      generalize hed : env d = ed at h hr
      cases ed <;> (try exact h.elim)
      case bool b =>
        dsimp only at h
        have hv : a.tmps.getD d undef = .bool b := by generalize a.tmps.getD d undef = v at hr; cases hr; rfl
        have hyb := hy _ hv
        dsimp only at hyb
        by_cases hb : b = want
        · refine .inl ⟨by simp [Region.wanted, hg, hyb, hb], _, h.1 hb, eo.say d hdn ?_⟩
          rw [hv, hb]; exact .bool _
        · have hb' : b = !want := by cases b <;> cases want <;> simp_all
          refine .inr ⟨by simp [Region.wanted, hg, hyb, hb], _, h.2 hb', put_dead (eo.say d hdn ?_) o.dst hon.1.2⟩
          rw [hv, hb']; exact .bool _
      case sc u =>
        cases u <;> (try exact h.elim)
        rename_i us
        have hv : a.tmps.getD d undef = .tuple us := by generalize a.tmps.getD d undef = v at hr; cases hr; rfl
        have hyb := hy _ hv
        dsimp only at hyb
        exact .inr ⟨by simp [Region.wanted, hg, hyb], _, h, put_dead eo o.dst hon.1.2⟩
theorem VE1_step {g : Gh} {ops : Array Oper} {Q : Exit → Act → World → Prop} {next : Act → World → Prop} {C : Env → List AO → Prop}
    {o : Oper} (hmem : o ∈ ops.toList) (hok : regOK n ops = true) {env : Env} {a : Act} (h : VE1 P ops o env H C) (st : St B X w0 w φ H) (eo : EnvOK w φ H env a n g)
    (hnext : ∀ env' H' φ' w' a', C env' H' → St B X w0 w' φ' H' → EnvOK w' φ' H' env' a' n g → Ext w w' → next a' w') :
    if Region.wanted o (yielded ops a.tmps) then o.wp P a w next Q ∨ (o.asks P a w ∧ LetsOut Q) else next (a.put o.dst undef) w := by
  have hon := List.all_eq_true.1 hok o hmem
  simp only [Bool.and_eq_true] at hon
  unfold VE1 at h
  rcases guard_step (V := fun env => vE P o.op o.type env H fun x e h => C (put e o.dst x) h) (C := fun env => C env H) hmem hok eo h with ⟨hw, env', hv, eo'⟩ | ⟨hw, env', hv, eo'⟩
  · rw [if_pos hw]
    exact .inl (vE_sound st eo' hon.1.1 hv fun x env2 H' φ' w' v hk st' eo2 r hx => hnext _ H' φ' w' _ hk st' (eo2.put o.dst hon.1.2 r) hx)
  · rw [hw]
    exact hnext env' H φ w _ hv st eo' (Ext.refl w)

/-- what may be taken first, held against worlds in which the memory of before is as it was -/
theorem takeS_step {g : Gh} {ops : Array Oper} {K : Env → List AO → Prop} {o : Oper} {rest : List Oper} (hmem : o ∈ ops.toList) (hok : regOK n ops = true) (hnc : noCall o = true) {env : Env} {a : Act} (h : VO P true ops (o :: rest) env H K) (st : St B X w0 w φ H) (eo : EnvOK w φ H env a n g) :
    ∃ env' v, VO P true ops rest env' H K ∧ EnvOK w φ H env' (a.put o.dst v) n g ∧ YieldsIf P ops (Ext w) o v a := by
  have hon := List.all_eq_true.1 hok o hmem
  simp only [Bool.and_eq_true] at hon
  unfold VO at h
  rcases guard_step (V := fun env => vOp P true o.op o.type env H fun x e h => VO P true ops rest (put e o.dst x) h K) (C := fun env => VO P true ops rest env H K) hmem hok eo h with ⟨hw, env', hv, eo'⟩ | ⟨hw, env', hv, eo'⟩
  · have : ∃ x v, VO P true ops rest (put env' o.dst x) H K ∧ R w φ H x v ∧ ∀ w', Ext w w' → (execOp a.eval o).run P w' = .ok (.value v) w' := by
      have other : (if effOp P o.op env' then true = false ∧ eOp P o.op o.type env' H (fun x h => VO P true ops rest (put env' o.dst x) h K) else sOp P o.op env' H fun x => VO P true ops rest (put env' o.dst x) H K) → ∃ x v, VO P true ops rest (put env' o.dst x) H K ∧ R w φ H x v ∧ ∀ w', Ext w w' → (execOp a.eval o).run P w' = .ok (.value v) w' := fun h => by
        by_cases he : effOp P o.op env' = true
        · rw [if_pos he] at h; exact absurd h.1 (by simp)
        · rw [if_neg he] at h
          obtain ⟨x, v, h1, h2, h3⟩ := sOp_sound st eo' hon.1.1 h
          exact ⟨x, v, h1, h2, h3⟩
      obtain ⟨dst, op, ty, pos, after, guard⟩ := o
      dsimp only at hv other hnc
      cases op
      case call c =>
        obtain ⟨callee, args, argTypes⟩ := c
        cases callee
        case value f => simp [noCall] at hnc
        case invoke r m => exact absurd hv vOp_inv_q
        case builtin b => exact other hv
      case build T parts =>
        obtain ⟨x, v, h1, h2, h3⟩ := build_sound (ρ := a.eval) (fun p hp => evO_R eo' p.2 (List.all_eq_true.1 hon.1.1 _ (by simp only [Op.operands]; exact List.mem_map.2 ⟨p, hp, rfl⟩))) (by first | exact hv | (simp only [vOp] at hv; exact hv))
        exact ⟨x, v, h1, h2, fun w' _ => by simp only [execOp, Sem.run_bind, h3, Result.andThen_ok, Sem.run_pure]⟩
      all_goals exact other hv
    obtain ⟨x, v, h1, h2, h3⟩ := this
    exact ⟨_, v, h1, eo'.put o.dst hon.1.2 h2, .inl ⟨hw, h3⟩⟩
  · exact ⟨env', undef, hv, eo', .inr ⟨hw, rfl⟩⟩
/-- plain operations: they look at no memory -/
def tkP (P : Program) (o : Oper) : Bool := match o.op with
  | .move _ => true
  | .slice T _ _ _ none => isStr P T
  | .fieldAddr _ _ _ => true
  | _ => false
theorem faV_all (st : St B X w0 w φ H) {K : AV → Prop} {T : TypeId} {p : AV} {v : Value} {i : Nat} (r : R w φ H p v) (h : faV P H T p i K) : ∃ x u, K x ∧ R w φ H x u ∧ ∀ w', (Instr.fieldAt T v i).run P w' = .ok u w' := by
  obtain ⟨x, u, h1, h2, h3⟩ := faV_sound st r h
  refine ⟨x, u, h1, h2, fun w' => ?_⟩
  unfold faV at h
  rcases hf : fldI P T i with _ | ⟨off, ft⟩
  · simp [hf] at h
  simp only [hf] at h
  rcases hs : szT P ft with _ | _ | n
  · simp [hs] at h
  · simp [hs] at h
  simp only [hs] at h
  obtain ⟨cs, hk, b, o, rfl, _⟩ := ldP_sound st r h
  obtain ⟨fs, f, hu, hfi, e1, e2⟩ : ∃ fs f, P.underlying T = some (.struct fs) ∧ fs[i]? = some f ∧ f.offset = off ∧ f.type = ft := by
    unfold fldI at hf
    split at hf
    · rename_i fs hu
      simp only [Option.map_eq_some_iff] at hf
      obtain ⟨f, hfi, he⟩ := hf
      simp at he
      exact ⟨fs, f, hu, hfi, he.1, he.2⟩
    · simp at hf
  have hrun : ∀ w', (Instr.fieldAt T (.pointer (some ⟨b, o, none⟩)) i).run P w' = .ok (.pointer (some ⟨b, o + off, none⟩)) w' := fun w' => by
    subst e1 e2
    simp [Instr.fieldAt, run_underlying hu, hfi, Instr.sureAddr, fieldPlace, run_sizeOf' hs, add_lit]
  have h4 := h3 w (Ext.refl w)
  rw [hrun w] at h4
  cases h4
  exact hrun w'
theorem takeP_run {g : Gh} {o : Oper} (ht : tkP P o = true) (hn : opOK n o.op = true) {env : Env} {a : Act} {K : AV → Prop} (st : St B X w0 w φ H) (eo : EnvOK w φ H env a n g) (h : sOp P o.op env H K) :
    ∃ x v, K x ∧ R w φ H x v ∧ ∀ w', (execOp a.eval o).run P w' = .ok (.value v) w' := by
  have ev : ∀ x, x ∈ o.op.operands.toList → R w φ H (evO env x) (a.eval x) := fun x hx => evO_R eo x (List.all_eq_true.1 hn x hx)
  obtain ⟨dst, op, ty, pos, after, guard⟩ := o
  simp only [tkP] at ht
  dsimp only at h ev
  cases op <;> (try (cases ht; done))
  case move x =>
    simp only [sOp] at h
    exact ⟨_, _, h, ev x (by simp [Op.operands]), fun w' => by simp [execOp]⟩
  case fieldAddr T p i =>
    simp only [sOp] at h
    obtain ⟨x, u, h1, h2, h3⟩ := faV_all st (ev p (by simp [Op.operands])) h
    exact ⟨x, u, h1, h2, fun w' => by simp only [execOp, Sem.run_bind, h3 w', Result.andThen_ok, Sem.run_pure]⟩
  case slice T x lo hi mx =>
    cases mx with
    | some m => cases ht
    | none =>
      simp only [sOp] at h
      have hm : ∀ (l : Option Operand), (∀ z, l = some z → z ∈ (Op.slice T x lo hi none).operands.toList) → (∀ y u, l.map (evO env) = some y → l.map a.eval = some u → R w φ H y u) ∧ (l.map (evO env) = none ↔ l.map a.eval = none) := fun l hl => by
        cases l with
        | none => simp
        | some z => simp; exact ev z (hl z rfl)
      have hlo := hm lo (fun z hz => by subst hz; simp [Op.operands])
      have hhi := hm hi (fun z hz => by subst hz; simp [Op.operands])
      obtain ⟨y, u, h1, h2, h3⟩ := slV_all ht (ev x (by simp [Op.operands])) hlo.1 hlo.2 hhi.1 hhi.2 h
      exact ⟨y, u, h1, h2, fun w' => by simp only [execOp, Option.map_none, Sem.run_bind, h3 w', Result.andThen_ok, Sem.run_pure]⟩
theorem tkP_eff {o : Oper} (ht : tkP P o = true) (env : Env) : effOp P o.op env = false := by
  obtain ⟨dst, op, ty, pos, after, guard⟩ := o
  simp only [tkP] at ht
  cases op <;> first | rfl | (cases ht; done)
theorem tkP_v {q : Bool} {o : Oper} (ht : tkP P o = true) {env : Env} {K : AV → Env → List AO → Prop} (h : vOp P q o.op o.type env H K) : sOp P o.op env H fun x => K x env H := by
  have he := tkP_eff ht env
  obtain ⟨dst, op, ty, pos, after, guard⟩ := o
  simp only [tkP] at ht
  cases op <;> (try (cases ht; done)) <;> (simp only [vOp] at h; rw [if_neg (by rw [he]; simp)] at h; exact h)
def VS1 (P : Program) (ops : Array Oper) (o : Oper) (env : Env) (H : List AO) (C : Env → Prop) : Prop := match o.guard with
  | none => sOp P o.op env H fun x => C (put env o.dst x)
  | some (j, want) => match (ops[j]?).bind (·.dst) with
    | some d => (match env d with
      | .bool b => @guardK b want ⟨sOp P o.op (upd env d (.bool want)) H fun x => C (put (upd env d (.bool want)) o.dst x)⟩
          ⟨C (put (upd env d (.bool (!want))) o.dst (.sc (.tuple #[])))⟩
      | .sc (.tuple _) => C (put env o.dst (.sc (.tuple #[])))
      | _ => False)
    | none => False
theorem VS1_step {g : Gh} {ops : Array Oper} {C : Env → Prop} {o : Oper} (ht : tkP P o = true) (hmem : o ∈ ops.toList) (hok : regOK n ops = true) {env : Env} {a : Act} (h : VS1 P ops o env H C) (st : St B X w0 w φ H) (eo : EnvOK w φ H env a n g) :
    ∃ env' v, C env' ∧ EnvOK w φ H env' (a.put o.dst v) n g ∧ Yields P ops o v a := by
  have hon := List.all_eq_true.1 hok o hmem
  simp only [Bool.and_eq_true] at hon
  unfold VS1 at h
  rcases guard_step (V := fun env => sOp P o.op env H fun x => C (put env o.dst x)) (C := C) hmem hok eo h with ⟨hw, env', hv, eo'⟩ | ⟨hw, env', hv, eo'⟩
  · obtain ⟨x, v, h1, h2, h3⟩ := takeP_run ht hon.1.1 st eo' hv
    exact ⟨_, v, h1, eo'.put o.dst hon.1.2 h2, .inl ⟨hw, h3⟩⟩
  · exact ⟨env', undef, hv, eo', .inr ⟨hw, rfl⟩⟩
theorem VO_VS1 {ops : Array Oper} {o : Oper} {rest : List Oper} (ht : tkP P o = true) {env : Env} {K : Env → List AO → Prop} (h : VO P true ops (o :: rest) env H K) : VS1 P ops o env H fun e => VO P true ops rest e H K := by
  unfold VO at h
  unfold VS1
  rcases hg : o.guard with _ | ⟨j, want⟩
  · rw [hg] at h
    exact tkP_v ht h
  · rw [hg] at h
    dsimp only at h ⊢
    rcases hd : (ops[j]?).bind (·.dst) with _ | d
    · rw [hd] at h; exact h
    · rw [hd] at h
      dsimp only at h ⊢
      generalize env d = ed at h ⊢
      cases ed <;> (try exact h)
      case bool b => exact ⟨fun e => tkP_v ht (h.1 e), h.2⟩
      case sc u => cases u <;> exact h
/-- the orders in which a region may go, behind what is taken first -/
inductive Br where
  | done
  | pure (i : Nat) (r : Br)
  | early (i : Nat) (r : Br)
  | step (i : Nat) (r : Br)
  | alt (a b : Br)
def Br.len : Br → Nat
  | .done => 0
  | .pure _ r | .early _ r | .step _ r => r.len + 1
  | .alt a b => max a.len b.len
def Br.heads : Br → List Nat
  | .early i _ | .step i _ => [i]
  | .alt a b => a.heads ++ b.heads
  | _ => []
def VB (P : Program) (ops : Array Oper) : Br → Env → List AO → (Env → List AO → Prop) → (AV → Env → List AO → Prop) → Prop
  | .done, env, H, K, _ => K env H
  | .pure i r, env, H, K, Kp => (match ops[i]? with
    | some o => VS1 P ops o env H fun e => VB P ops r e H K Kp
    | none => False)
  | .early i r, env, H, K, Kp => (match ops[i]? with
    | some o => VE1 P ops o env H fun e h => VB P ops r e h K Kp
    | none => False)
  | .step i r, env, H, K, Kp => (match ops[i]? with
    | some o => VP P ops [o] env H (fun e h => VB P ops r e h K Kp) Kp
    | none => False)
  | .alt a b, env, H, K, Kp => VB P ops a env H K Kp ∧ VB P ops b env H K Kp
def takeOK (P : Program) (ops : Array Oper) (listed : Array Bool) (i : Nat) : Bool := Region.free .any ops listed i && (Region.ready .any ops listed).contains i
def brB (P : Program) (ops : Array Oper) (N : List Nat) : Bool → Array Bool → Br → Bool
  | sub, listed, .done => !sub && Region.ready .any ops listed == []
  | sub, listed, .pure i r => !sub && (match ops[i]? with
    | some o => tkP P o
    | none => false) && takeOK P ops listed i && (!N.contains i || lateS N listed) && brB P ops N false (listed.setIfInBounds i true) r
  | sub, listed, .early i r => (sub || Region.ready .any ops listed == [i]) && !N.contains i && brB P ops N false (listed.setIfInBounds i true) r
  | sub, listed, .step i r => (sub || Region.ready .any ops listed == [i]) && (N.contains i && decide (i < listed.size) || lateS N listed) && brB P ops N false (listed.setIfInBounds i true) r
  | sub, listed, .alt a b => (sub || ((Region.ready .any ops listed).all fun i => (a.heads ++ b.heads).contains i) && !(Region.ready .any ops listed == [])) && brB P ops N true listed a && brB P ops N true listed b

theorem anyE_of_VB {g : Gh} {ops : Array Oper} {K : Post} {ds : List Nat} {N : List Nat} {S0 : World} (hs : Region.noSelect ops = true) (hok : regOK n ops = true) (hds : (ops.toList.all fun o => match o.dst with | some d => ds.contains d | none => true) = true) :
    ∀ (br : Br) (sub : Bool) (listed : Array Bool) (fuel : Nat), br.len ≤ fuel → brB P ops N sub listed br = true → ∀ (env : Env) (H : List AO) (w : World) (φ : Nat → Value) (a : Act),
      VB P ops br env H (fun e h => K .normal e h) (fun x e h => K (panE x) (dropL ds e) h) → St B X w0 w φ H → EnvOK w φ H env a n g → (lateS N listed = true ∨ Ext S0 w) →
      if sub then ∃ f, fuel = f + 1 ∧ ∀ i ∈ br.heads, wpOp P ops (LiftD B X w0 n g K ds) i (fun a' w' => (lateS N (listed.setIfInBounds i true) = true ∨ Ext S0 w') ∧ wpAnyE P .any ops (LiftD B X w0 n g K ds) (Ext S0) N f (listed.setIfInBounds i true) a' w') a w
      else wpAnyE P .any ops (LiftD B X w0 n g K ds) (Ext S0) N fuel listed a w := by
  have hp : ∀ x env H φ w a, K (panE x) (dropL ds env) H → St B X w0 w φ H → EnvOK w φ H env a n g → LiftD B X w0 n g K ds (panE x) a w := fun x env H φ w a hk st eo => by
    refine ⟨dropL ds env, H, φ, hk, st, ⟨eo.size, eo.defers, fun t ht => ?_, fun t ht => ?_⟩, fun d hd => dropL_mem env hd⟩
    · rcases dropL_eq ds env t with h | ⟨_, h⟩
      · rw [h]; exact .dead _
      · rw [h]; exact eo.slot t ht
    · rcases dropL_eq ds env t with h | ⟨_, h⟩
      · rw [h]; exact .dead _
      · rw [h]; exact eo.ghost t ht
  have ext : ∀ {a b : World}, Ext S0 a → Ext a b → Ext S0 b := fun h k => h.trans k
  intro br
  induction br with
  | done =>
    intro sub listed fuel hf hb env H w φ a h st eo hS
    simp only [brB, Bool.and_eq_true, Bool.not_eq_true', beq_iff_eq] at hb
    obtain ⟨rfl, hb⟩ := hb
    rw [if_neg (by simp)]
    have hq : LiftD B X w0 n g K ds .normal a w := ⟨env, H, φ, h, st, eo⟩
    cases fuel with
    | zero => exact ⟨hb, hq⟩
    | succ f => exact ⟨fun _ => hq, by rw [hb]; simp⟩
  | pure i r ih =>
    intro sub listed fuel hf hb env H w φ a h st eo hS
    simp only [brB, takeOK, Bool.and_eq_true, Bool.not_eq_true', Bool.or_eq_true] at hb
    obtain ⟨⟨⟨⟨rfl, htk⟩, hfr, hre⟩, hN⟩, hb⟩ := hb
    rw [if_neg (by simp)]
    obtain ⟨fuel, rfl⟩ : ∃ f, fuel = f + 1 := ⟨fuel - 1, by simp [Br.len] at hf; omega⟩
    have hf' : r.len ≤ fuel := by simpa [Br.len] using hf
    rcases hi : ops[i]? with _ | o
    · rw [hi] at htk; cases htk
    · rw [hi] at htk
      have hm : o ∈ ops.toList := by simpa using Array.mem_of_getElem? hi
      have hon := List.all_eq_true.1 hok o hm
      simp only [Bool.and_eq_true] at hon
      simp only [VB, hi] at h
      obtain ⟨env', v, h1, h2, h3⟩ := VS1_step htk hm hok h st eo
      have hN' : i ∉ N ∨ lateS N listed = true := hN.imp (fun h => by simpa using h) id
      have := ih false (listed.setIfInBounds i true) fuel hf' hb _ H w φ _ h1 st h2 (hS.imp lateS_mono id)
      rw [if_neg (by simp)] at this
      refine wpAnyE_pure hi (Region.noSelect_spec hs) (fun c a' w' hq => ?_) fuel listed a w (Region.free_spec hi hfr) (by simpa using hre) hN' h3 hS this
      obtain ⟨env, H, φ, hk, st, eo, hd⟩ := hq
      refine ⟨env, H, φ, hk, st, ?_, hd⟩
      have hc := List.all_eq_true.1 hds o hm
      rcases hdst : o.dst with _ | d
      · rw [hdst] at eo; exact eo
      · rw [hdst] at eo hc
        have hdm : d ∈ ds := by simpa using hc
        refine ⟨by simpa [Act.put] using eo.size, eo.defers, fun t ht => ?_, eo.ghost⟩
        by_cases htd : t = d
        · rw [htd, hd d hdm]; exact .dead _
        · have := eo.slot t ht
          simp only [Act.put] at this
          rwa [Array.getD_eq_getD_getElem?, Array.getElem?_setIfInBounds_ne (by omega), ← Array.getD_eq_getD_getElem?] at this
  | early i r ih =>
    intro sub listed fuel hf hb env H w φ a h st eo hS
    simp only [brB, Bool.and_eq_true, Bool.not_eq_true', Bool.or_eq_true, beq_iff_eq] at hb
    obtain ⟨⟨hre, hN⟩, hb⟩ := hb
    obtain ⟨fuel, rfl⟩ : ∃ f, fuel = f + 1 := ⟨fuel - 1, by simp [Br.len] at hf; omega⟩
    have hf' : r.len ≤ fuel := by simpa [Br.len] using hf
    have key : wpOp P ops (LiftD B X w0 n g K ds) i (fun a' w' => (lateS N (listed.setIfInBounds i true) = true ∨ Ext S0 w') ∧ wpAnyE P .any ops (LiftD B X w0 n g K ds) (Ext S0) N fuel (listed.setIfInBounds i true) a' w') a w := by
      rcases hi : ops[i]? with _ | o
      · simp only [VB, hi] at h
      · have hm : o ∈ ops.toList := by simpa using Array.mem_of_getElem? hi
        simp only [VB, hi] at h
        unfold wpOp
        rw [hi]
        refine VE1_step hm hok h st eo fun env' H' φ' w' a' h' st' eo' hx => ?_
        have hS' : lateS N (listed.setIfInBounds i true) = true ∨ Ext S0 w' := hS.imp lateS_mono (fun h => ext h hx)
        refine ⟨hS', ?_⟩
        have := ih false (listed.setIfInBounds i true) fuel hf' hb env' H' w' φ' a' h' st' eo' hS'
        rwa [if_neg (by simp)] at this
    cases sub with
    | true =>
      rw [if_pos rfl]
      exact ⟨fuel, rfl, fun j hj => by simp only [Br.heads, List.mem_singleton] at hj; subst hj; exact key⟩
    | false =>
      rw [if_neg (by simp)]
      have hre : Region.ready .any ops listed = [i] := hre.resolve_left (by simp)
      exact ⟨fun h0 => (by rw [hre] at h0; cases h0), fun j hj => by rw [hre, List.mem_singleton] at hj; subst hj; exact key⟩
  | step i r ih =>
    intro sub listed fuel hf hb env H w φ a h st eo hS
    simp only [brB, Bool.and_eq_true, Bool.not_eq_true', Bool.or_eq_true, beq_iff_eq, decide_eq_true_eq] at hb
    obtain ⟨⟨hre, hN⟩, hb⟩ := hb
    obtain ⟨fuel, rfl⟩ : ∃ f, fuel = f + 1 := ⟨fuel - 1, by simp [Br.len] at hf; omega⟩
    have hf' : r.len ≤ fuel := by simpa [Br.len] using hf
    have hl : lateS N (listed.setIfInBounds i true) = true := by
      rcases hN with ⟨hN, hsz⟩ | hN
      · unfold lateS
        rw [List.any_eq_true]
        exact ⟨i, by simpa using hN, by simp [hsz]⟩
      · exact lateS_mono hN
    have key : wpOp P ops (LiftD B X w0 n g K ds) i (fun a' w' => (lateS N (listed.setIfInBounds i true) = true ∨ Ext S0 w') ∧ wpAnyE P .any ops (LiftD B X w0 n g K ds) (Ext S0) N fuel (listed.setIfInBounds i true) a' w') a w := by
      rcases hi : ops[i]? with _ | o
      · simp only [VB, hi] at h
      · have hm : o ∈ ops.toList := by simpa using Array.mem_of_getElem? hi
        simp only [VB, hi] at h
        unfold wpOp
        rw [hi]
        refine VP_step (next := fun a' w' => (lateS N (listed.setIfInBounds i true) = true ∨ Ext S0 w') ∧ wpAnyE P .any ops (LiftD B X w0 n g K ds) (Ext S0) N fuel (listed.setIfInBounds i true) a' w') hp hm hok h st eo fun env' H' φ' w' a' h' st' eo' => ?_
        refine ⟨.inl hl, ?_⟩
        have := ih false (listed.setIfInBounds i true) fuel hf' hb env' H' w' φ' a' h' st' eo' (.inl hl)
        rwa [if_neg (by simp)] at this
    cases sub with
    | true =>
      rw [if_pos rfl]
      exact ⟨fuel, rfl, fun j hj => by simp only [Br.heads, List.mem_singleton] at hj; subst hj; exact key⟩
    | false =>
      rw [if_neg (by simp)]
      have hre : Region.ready .any ops listed = [i] := hre.resolve_left (by simp)
      exact ⟨fun h0 => (by rw [hre] at h0; cases h0), fun j hj => by rw [hre, List.mem_singleton] at hj; subst hj; exact key⟩
  | alt x y ih1 ih2 =>
    intro sub listed fuel hf hb env H w φ a h st eo hS
    simp only [brB, Bool.and_eq_true, Bool.or_eq_true] at hb
    obtain ⟨⟨hre, hb1⟩, hb2⟩ := hb
    simp only [Br.len] at hf
    have h1 := ih1 true listed fuel (by omega) hb1 env H w φ a h.1 st eo hS
    have h2 := ih2 true listed fuel (by omega) hb2 env H w φ a h.2 st eo hS
    rw [if_pos rfl] at h1 h2
    obtain ⟨f, rfl, h1⟩ := h1
    obtain ⟨f', e, h2⟩ := h2
    obtain rfl : f = f' := by omega
    have key : ∀ i ∈ (Br.alt x y).heads, wpOp P ops (LiftD B X w0 n g K ds) i (fun a' w' => (lateS N (listed.setIfInBounds i true) = true ∨ Ext S0 w') ∧ wpAnyE P .any ops (LiftD B X w0 n g K ds) (Ext S0) N f (listed.setIfInBounds i true) a' w') a w := fun i hi => by
      simp only [Br.heads, List.mem_append] at hi
      exact hi.elim (h1 i) (h2 i)
    cases sub with
    | true => rw [if_pos rfl]; exact ⟨f, rfl, key⟩
    | false =>
      rw [if_neg (by simp)]
      have hre := hre.resolve_left (by simp)
      refine ⟨fun h0 => ?_, fun i hi => key i ?_⟩
      · rw [h0] at hre; simp at hre
      · have := List.all_eq_true.1 hre.1 i hi
        simpa [Br.heads] using this
/-- what is taken first: in whatever world (no list), or held against the memory of before; then the list tells those that wait for it -/
def tsB (P : Program) (ops : Array Oper) (N : List Nat) : Array Bool → List (Nat × Option (List Nat)) → Bool
  | _, [] => true
  | listed, (i, m) :: r => (match ops[i]? with
    | some o => (match m with
      | none => tkP P o && !N.contains i
      | some M => noCall o && (N.all fun k => M.contains k) && (M.all fun j => !listed.getD j false && (match ops[j]? with
        | some oj => oj.after.any fun e => Region.binds .any e && (e.on == i || M.contains e.on)
        | none => false)))
    | none => false) && takeOK P ops listed i && tsB P ops N (listed.setIfInBounds i true) r
def listT : Array Bool → List (Nat × Option (List Nat)) → Array Bool
  | listed, [] => listed
  | listed, (i, _) :: r => listT (listed.setIfInBounds i true) r
def pickT (ops : Array Oper) : List (Nat × Option (List Nat)) → List Oper
  | [] => []
  | p :: r => match ops[p.1]? with
    | some o => o :: pickT ops r
    | none => pickT ops r
theorem pickT_nil (ops : Array Oper) : pickT ops [] = [] := rfl
theorem pickT_cons (ops : Array Oper) (p : Nat × Option (List Nat)) (r : List (Nat × Option (List Nat))) : pickT ops (p :: r) = match ops[p.1]? with
    | some o => o :: pickT ops r
    | none => pickT ops r := rfl
theorem anyE_of_ts {g : Gh} {ops : Array Oper} {Q : Exit → Act → World → Prop} {N : List Nat} {K : Env → List AO → Prop} (hs : Region.noSelect ops = true) (hok : regOK n ops = true)
    (hQ : ∀ o ∈ ops.toList, ∀ v c a w, Q (.panic c) (a.put o.dst v) w → Q (.panic c) a w) (st : St B X w0 w φ H) {f0 : Nat} :
    ∀ (l : List (Nat × Option (List Nat))) (listed : Array Bool), tsB P ops N listed l = true → lateS N listed = false → ∀ (env : Env) (a : Act), VO P true ops (pickT ops l) env H K → EnvOK w φ H env a n g →
      (∀ env a, K env H → EnvOK w φ H env a n g → wpAnyE P .any ops Q (Ext w) N f0 (listT listed l) a w) → wpAnyE P .any ops Q (Ext w) N (f0 + l.length) listed a w := by
  intro l
  induction l with
  | nil => intro listed _ _ env a h eo hk; exact hk env a h eo
  | cons p l ih =>
    obtain ⟨i, m⟩ := p
    intro listed hb hl env a h eo hk
    simp only [tsB, takeOK, Bool.and_eq_true] at hb
    obtain ⟨⟨hc, hfr, hre⟩, hb⟩ := hb
    rcases hi : ops[i]? with _ | o
    · rw [hi] at hc; cases hc
    rw [hi] at hc
    have hm : o ∈ ops.toList := by simpa using Array.mem_of_getElem? hi
    have hon := List.all_eq_true.1 hok o hm
    simp only [Bool.and_eq_true] at hon
    simp only [pickT, hi] at h
    rw [List.length_cons, ← Nat.add_assoc]
    cases m with
    | none =>
      simp only [Bool.and_eq_true, Bool.not_eq_true'] at hc
      obtain ⟨htk, hN⟩ := hc
      have hN : i ∉ N := by simpa using hN
      obtain ⟨env', v, h1, h2, h3⟩ := VS1_step htk hm hok (VO_VS1 htk h) st eo
      exact wpAnyE_pure hi (Region.noSelect_spec hs) (hQ o hm v) _ listed a w (Region.free_spec hi hfr) (by simpa using hre) (.inl hN) h3 (.inr (Ext.refl w))
        (ih _ hb (by rw [lateS_set hN]; exact hl) _ _ h1 h2 hk)
    | some M =>
      simp only [Bool.and_eq_true] at hc
      obtain ⟨⟨hnc, hNM⟩, hM⟩ := hc
      obtain ⟨env', v, h1, h2, h3⟩ := takeS_step hm hok hnc h st eo
      have hM' : ∀ j ∈ M, listed.getD j false = false ∧ ∃ oj, ops[j]? = some oj ∧ ∃ e ∈ oj.after, Region.binds .any e = true ∧ (e.on = i ∨ e.on ∈ M) := fun j hj => by
        have := List.all_eq_true.1 hM j hj
        simp only [Bool.and_eq_true, Bool.not_eq_true'] at this
        refine ⟨this.1, ?_⟩
        have h2 := this.2
        rcases hj2 : ops[j]? with _ | oj
        · rw [hj2] at h2; cases h2
        · rw [hj2] at h2
          obtain ⟨e, he, hb⟩ := Array.any_eq_true'.1 h2
          simp only [Bool.and_eq_true, Bool.or_eq_true, beq_iff_eq] at hb
          exact ⟨oj, rfl, e, he, hb.1, hb.2.imp id (fun h => by simpa using h)⟩
      have hNM' : ∀ k ∈ N, k ∈ M := fun k hk => by simpa using List.all_eq_true.1 hNM k hk
      have hiu : listed.getD i false = false := ready_unlisted (md := .any) (ops := ops) (by simpa using hre)
      have hiN : i ∉ N := fun h => by
        obtain ⟨_, oj, hoj, e, he, hb, hc⟩ := hM' i (hNM' i h)
        obtain ⟨_, o3, ho3, hall⟩ := mem_ready.1 (show i ∈ Region.ready .any ops listed by simpa using hre)
        rw [ho3] at hoj
        cases hoj
        have h1 := hall e he hb
        rcases hc with hc | hc
        · rw [hc, hiu] at h1; cases h1
        · rw [(hM' _ hc).1] at h1; cases h1
      exact wpAnyE_first (M := M) hi (Region.noSelect_spec hs) (hQ o hm v) hNM' (fun j hj => (hM' j hj).2) _ listed a w (Region.free_spec hi hfr) (by simpa using hre) (fun j hj => (hM' j hj).1) h3 (Ext.refl w)
        (ih _ hb (by rw [lateS_set hiN]; exact hl) _ _ h1 h2 hk)
theorem J_regionT {id : Nat} {ops : Array Oper} {env : Env} {K : Post} (ts : List (Nat × Option (List Nat))) (br : Br) (N ds : List Nat) (hm : P.follows .mixedOrders = true) (hok : regOK n ops = true) (hs : Region.noSelect ops = true)
    (hds : (ops.toList.all fun o => match o.dst with | some d => ds.contains d | none => true) = true) (hlen : decide (br.len + ts.length = ops.size) = true) (hts : tsB P ops N (Array.replicate ops.size false) ts = true) (hbr : brB P ops N false (listT (Array.replicate ops.size false) ts) br = true)
    (h : VO P true ops (pickT ops ts) env H fun e h => VB P ops br e h (fun e h => @Hold2 e h ⟨fun e h => K .normal e h⟩) (fun x e h => K (panE x) (dropL ds e) h)) : J P n (.region id ops true) env H K := by
  intro B X w0 w φ a g st eo
  obtain ⟨st1, le1⟩ := st.ext (Gr.drew w)
  have hlen : br.len + ts.length = ops.size := by simpa using hlen
  have hl0 : lateS N (Array.replicate ops.size false) = false := lateS_false.2 fun k _ => by
    rcases Nat.lt_or_ge k ops.size with h | h <;> simp [h]
  refine wp_mono (wp_region_any hm (wpAny_of_E (S := Ext { w with drawn := w.drawn + 1 }) (N := N) _ _ _ _ ?_)) (Q := LiftD B X w0 n g K ds) ?_
  · have hQ : ∀ o ∈ ops.toList, ∀ v c (a : Act) w, LiftD B X w0 n g K ds (.panic c) (a.put o.dst v) w → LiftD B X w0 n g K ds (.panic c) a w := fun o hmo v c a' w' hq => by
      obtain ⟨env, H, φ, hk, st, eo, hd⟩ := hq
      refine ⟨env, H, φ, hk, st, ?_, hd⟩
      have hc := List.all_eq_true.1 hds o hmo
      rcases hdst : o.dst with _ | d
      · rw [hdst] at eo; exact eo
      · rw [hdst] at eo hc
        have hdm : d ∈ ds := by simpa using hc
        refine ⟨by simpa [Act.put] using eo.size, eo.defers, fun t ht => ?_, eo.ghost⟩
        by_cases htd : t = d
        · rw [htd, hd d hdm]; exact .dead _
        · have := eo.slot t ht
          simp only [Act.put] at this
          rwa [Array.getD_eq_getD_getElem?, Array.getElem?_setIfInBounds_ne (by omega), ← Array.getD_eq_getD_getElem?] at this
    rw [← hlen]
    have h' : VO P true ops (pickT ops ts) env H (fun e h => VB P ops br e h (fun e h => K .normal e h) (fun x e h => K (panE x) (dropL ds e) h)) := h
    refine anyE_of_ts hs hok hQ st1 ts _ (by rw [hlen]; exact hts) (by rw [hlen]; exact hl0) env a h' (eo.le le1) fun env' a' hk eo' => ?_
    have := anyE_of_VB (g := g) (K := K) (S0 := { w with drawn := w.drawn + 1 }) hs hok hds br false (listT (Array.replicate ops.size false) ts) br.len (Nat.le_refl _) hbr env' H _ φ a' hk st1 eo' (.inr (Ext.refl _))
    rw [if_neg (by simp)] at this
    rw [hlen]
    exact this
  · rintro ex a w hq
    cases ex with
    | panic c => obtain ⟨env, H, φ, hk, st, eo, _⟩ := hq; exact ⟨env, H, φ, hk, st, eo⟩
    | _ => exact hq
end
attribute [go_sem ↓] VB VE1 VS1 vE
attribute [go_sem] newB
end Go.Av
