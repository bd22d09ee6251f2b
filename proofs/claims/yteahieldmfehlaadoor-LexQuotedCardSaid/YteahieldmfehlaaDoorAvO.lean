/- Av, part O: a function's contract out of its text. -/
import Derived.Test.YteahieldmfehlaaDoorAvN
import Derived.Laws.Externs
namespace Go.Av
open Go.RowKit
set_option linter.unusedVariables false

def argEnv (args : List AV) : Env := fun t => args.getD t (.sc (.tuple #[]))

/-- the results, read off the frame -/
def resK (P : Program) : List ResultVar → Env → List AO → (List AV → Prop) → Prop
  | [], _, _, K => K []
  | .tmp t :: rest, env, H, K => resK P rest env H fun xs => K (env t :: xs)
  | .cell t T :: rest, env, H, K => ldP H (env t) fun cs => ldV P T cs fun x => resK P rest env H fun xs => K (x :: xs)
def oneOf : List AV → AV
  | [x] => x
  | xs => .tup xs
def resOK (n : Nat) (rs : List ResultVar) : Bool := rs.all fun
  | .tmp t => decide (t < n)
  | .cell t _ => decide (t < n)
/-- the end: what is handed back is 'ret', with the objects 'objs' -/
def Fin (P : Program) (rs : List ResultVar) (ret : AV) (objs : List AO) : Post := fun ex env H =>
  (match ex with
    | .ret | .normal => True
    | _ => False) ∧ resK P rs env H fun xs => ∃ ids : List Nat, ids.Nodup ∧ ret = ren ids H (oneOf xs) ∧ objs = renH ids H

section
variable {P : Program} {B : Nat} {X : Nat → Prop} {w0 w : World} {φ : Nat → Value} {H : List AO} {n : Nat}

theorem resK_sound (st : St B X w0 w φ H) {env : Env} {a : Act} {g : Nat → Value} (eo : EnvOK w φ H env a n g) : ∀ (rs : List ResultVar), resOK n rs = true → ∀ {K : List AV → Prop}, resK P rs env H K →
    ∃ (xs : List AV) (vs : List Value), K xs ∧ vs.length = xs.length ∧ (∀ (i : Nat) (x : AV) (v : Value), xs[i]? = some x → vs[i]? = some v → R w φ H x v) ∧
      (rs.mapM (m := Sem) fun
        | .tmp t => pure (a.tmps.getD t undef)
        | .cell t T => do loadVar T (← asAddr (a.tmps.getD t undef))).run P w = .ok vs w
  | [], _, K, h => ⟨[], [], h, rfl, fun i x v hx => by simp at hx, by simp⟩
  | .tmp t :: rest, hok, K, h => by
    simp only [resOK, List.all_cons, Bool.and_eq_true, decide_eq_true_eq] at hok
    obtain ⟨xs, vs, h1, h2, h3, h4⟩ := resK_sound st eo rest hok.2 h
    refine ⟨env t :: xs, a.tmps.getD t undef :: vs, h1, by simp [h2], fun i x v hx hv => ?_, ?_⟩
    · match i, hx, hv with
      | 0, hx, hv => simp at hx hv; subst hx hv; simpa [Array.getD_eq_getD_getElem?] using eo.slot t hok.1
      | i + 1, hx, hv => exact h3 i x v (by simpa using hx) (by simpa using hv)
    · rw [List.mapM_cons]
      simp only [Sem.run_bind, Sem.run_pure, Result.andThen_ok, h4]
  | .cell t T :: rest, hok, K, h => by
    simp only [resOK, List.all_cons, Bool.and_eq_true, decide_eq_true_eq] at hok
    obtain ⟨cs, h, rd⟩ := ldP_sound st (eo.slot t hok.1) h
    obtain ⟨b, o, hv0⟩ := rd.add
    obtain ⟨x, u, h, hr, hrun⟩ := ldV_sound rd h
    obtain ⟨xs, vs, h1, h2, h3, h4⟩ := resK_sound st eo rest hok.2 h
    have hload : (loadVar T ⟨b, o, none⟩).run P w = .ok u w := by
      have := hrun w (Ext.refl w)
      rw [hv0] at this
      simpa [Instr.loadAt, Instr.sureAddr] using this
    refine ⟨x :: xs, u :: vs, h1, by simp [h2], fun i x' v hx hv => ?_, ?_⟩
    · match i, hx, hv with
      | 0, hx, hv => simp at hx hv; subst hx hv; exact hr
      | i + 1, hx, hv => exact h3 i x' v (by simpa using hx) (by simpa using hv)
    · have ha : (asAddr (a.tmps.getD t undef)).run P w = .ok ⟨b, o, none⟩ w := by rw [hv0]; rfl
      rw [List.mapM_cons]
      simp only [Sem.run_bind, ha, Sem.run_pure, Result.andThen_ok, h4, hload]

theorem callOK_of {f : FuncId} {fn : Func} {args : List AV} {ret : AV} {objs : List AO} {n : Nat} {rs : List ResultVar} (hf : P.funcs[f]? = some fn) (hbs : fn.body.isSome = true) (hname : (fn.name == "runtime.NumGoroutine") = false) (hnt : fn.ntmps = n) (hrs : fn.results.toList = rs)
    (hlen : args.length ≤ n) (hres' : resOK n rs = true) (hv : ret.vf = true) (hvo : ∀ o ∈ objs, vfO o)
    (h : J P n (fn.body.getD .skip) (argEnv args) [] (Fin P rs ret objs)) : CallOK P f args ret objs := by
  subst hnt hrs
  have hres := hres'
  have hname : fn.name ≠ "runtime.NumGoroutine" := by simpa using hname
  obtain ⟨c, hb⟩ := Option.isSome_iff_exists.1 hbs
  rw [hb] at h
  simp only [Option.getD_some] at h
  refine ⟨⟨fn, hf, by simp [hb], hname⟩, hv, hvo, fun w vals hG hsz hr => ?_⟩
  refine calls_of_wp hf hb ?_
  have st : St w.heap.size (fun _ => False) w w (fun _ => .tuple #[]) [] :=
    ⟨Frame.refl _ _ w, Nat.le_refl _, GK.of hG, fun id o b h => by simp at h, fun id id' o o' b h => by simp at h, fun id o h => by simp at h⟩
  have eo : EnvOK w (fun _ => .tuple #[]) [] (argEnv args) { tmps := vals ++ Array.replicate (fn.ntmps - vals.size) undef, defers := [] } fn.ntmps (fun _ => undef) := by
    refine ⟨by simp; omega, rfl, fun t ht => ?_, fun t ht => by rw [argEnv, List.getD_eq_getElem?_getD, List.getElem?_eq_none (by omega)]; exact .sc _⟩
    dsimp only
    unfold argEnv
    rcases Nat.lt_or_ge t args.length with hlt | hge
    · have h1 : args[t]? = some args[t] := List.getElem?_eq_getElem hlt
      have h2 : vals[t]? = some vals[t] := Array.getElem?_eq_getElem (by omega)
      have e1 : args.getD t (.sc (.tuple #[])) = args[t] := by rw [List.getD_eq_getElem?_getD, h1]; rfl
      have e2 : (vals ++ Array.replicate (fn.ntmps - vals.size) undef).getD t undef = vals[t] := by
        rw [Array.getD_eq_getD_getElem?, Array.getElem?_append_left (by omega), h2]; rfl
      rw [e1, e2]
      exact hr t _ _ h1 h2
    · have e1 : args.getD t (.sc (.tuple #[])) = .sc (.tuple #[]) := by rw [List.getD_eq_getElem?_getD, List.getElem?_eq_none hge]; rfl
      have e2 : (vals ++ Array.replicate (fn.ntmps - vals.size) undef).getD t undef = undef := by
        rw [Array.getD_eq_getD_getElem?, Array.getElem?_append_right (by omega)]
        simp [Array.getElem?_replicate]
        split <;> rfl
      rw [e1, e2]
      exact .sc _
  refine wp_mono (h _ _ w w _ _ _ st eo) ?_
  rintro ex a w' ⟨env, H, φ, ⟨hex, hk⟩, st', eo'⟩
  have key : a.defers = [] ∧ ∃ v, (results fn a.tmps).run P w' = .ok v w' ∧ ∃ v2 φ2, Ending.returned v = .returned v2 ∧ Gr w w' ∧ HeapOK w' w.heap.size φ2 objs ∧ R w' φ2 objs ret v2 := by
    refine ⟨eo'.defers, ?_⟩
    obtain ⟨xs, vs, ⟨ids, nd, rfl, rfl⟩, h2, h3, h4⟩ := resK_sound (P := P) st' eo' fn.results.toList hres hk
    have hrun : (results fn a.tmps).run P w' = .ok (if h : vs.toArray.size = 1 then vs.toArray[0] else .tuple vs.toArray) w' := by
      unfold results
      rw [← Array.toArray_toList (xs := fn.results), List.mapM_toArray]
      simp only [Sem.run_bind, Sem.run_map, Sem.run_pure]
      erw [h4]
      rfl
    refine ⟨_, hrun, _, renφ ids φ, rfl, st'.frame, ?_, ?_⟩
    · have s2 := st'.ren nd
      exact ⟨fun id o b h hl hv => by
        have := s2.live id o b h hl hv
        exact ⟨this.1.resolve_right (fun h => h), this.2⟩, s2.inj, s2.chunk⟩
    · refine ren_R ids ?_
      match xs, vs, h2, h3 with
      | [], [], _, h3 => exact .tup _ _ rfl (fun i x u hx => by simp at hx)
      | [x], [v], _, h3 => exact h3 0 x v rfl rfl
      | x :: y :: xs, v :: v' :: vs, h2, h3 =>
        have hne : ¬ ((v :: v' :: vs).toArray.size = 1) := by simp
        rw [dif_neg hne]
        exact .tup _ _ (by simpa using h2) (fun i x u hx hu => h3 i x u hx (by simpa using hu))
  cases ex with
  | ret => exact key
  | normal => exact key
  | exit id => exact hex.elim
  | goto l => exact hex.elim
  | panic c => exact hex.elim
  | outgrown => exact hex.elim

mutual
/-- the objects that it names are among the first n -/
def AV.lt (n : Nat) : AV → Bool
  | .dead | .sc _ | .int _ _ | .bool _ | .str _ | .view _ _ | .viewx _ _ _ | .vptr _ _ => true
  | .own id _ _ _ => decide (id < n)
  | .optr id _ _ _ => decide (id < n)
  | .bptr id _ => decide (id < n)
  | .agg xs => AV.ltL n xs
  | .tup xs => AV.ltL n xs
  | .fn _ xs => AV.ltL n xs
  | .iface _ x => AV.lt n x
def AV.ltL (n : Nat) : List AV → Bool
  | [] => true
  | x :: r => AV.lt n x && AV.ltL n r
end
theorem AV.ltL_iff (n : Nat) : ∀ (xs : List AV), AV.ltL n xs = true ↔ ∀ (i : Nat) (x : AV), xs[i]? = some x → AV.lt n x = true
  | [] => by simp [AV.ltL]
  | y :: r => by
    simp only [AV.ltL, Bool.and_eq_true, AV.ltL_iff n r]
    exact ⟨fun ⟨h1, h2⟩ i x hx => match i, hx with
      | 0, hx => by simp at hx; exact hx ▸ h1
      | i + 1, hx => h2 i x (by simpa using hx), fun h => ⟨h 0 y rfl, fun i x hx => h (i + 1) x (by simpa using hx)⟩⟩
theorem R.lt {x : AV} {v : Value} (r : R w φ H x v) : AV.lt H.length x = true := by
  have all : ∀ (xs : List AV) (us : Array Value), us.size = xs.length → (∀ (i : Nat) (x : AV) (u : Value), xs[i]? = some x → us[i]? = some u → AV.lt H.length x = true) → AV.ltL H.length xs = true := fun xs us hs h =>
    (AV.ltL_iff _ _).2 fun i x hx => by
      have hi : i < us.size := by rw [hs]; exact (List.getElem?_eq_some_iff.1 hx).1
      exact h i x _ hx (Array.getElem?_eq_getElem hi)
  induction r with
  | own id ver off len v hid ho hv h => simpa [AV.lt] using hid
  | optr id ver i off v hid ho hv h => simpa [AV.lt] using hid
  | bptr id off v hid ho h => simpa [AV.lt] using hid
  | agg xs us hs hr ih => simp only [AV.lt]; exact all xs us hs ih
  | tup xs us hs hr ih => simp only [AV.lt]; exact all xs us hs ih
  | fn f xs us hs hr ih => simp only [AV.lt]; exact all xs us hs ih
  | iface t x u hr ih => simp only [AV.lt]; exact ih
  | _ => rfl
theorem NL.drop {T : List AO} {b : Nat} (h : NL φ (H ++ T) b) : NL φ H b := fun id o ho hl => h id o (by rw [List.getElem?_append_left (List.getElem?_eq_some_iff.1 ho).1]; exact ho) hl
mutual
theorem AV.lt_closed (n : Nat) : ∀ x : AV, x.closed = true → AV.lt n x = true
  | .dead, _ => rfl
  | .sc _, _ => rfl
  | .int _ _, _ => rfl
  | .bool _, _ => rfl
  | .str _, _ => rfl
  | .view _ _, _ => rfl
  | .viewx _ _ _, _ => rfl
  | .vptr _ _, _ => rfl
  | .own _ _ _ _, h => by simp [AV.closed] at h
  | .optr _ _ _ _, h => by simp [AV.closed] at h
  | .bptr _ _, h => by simp [AV.closed] at h
  | .agg xs, h => by simp only [AV.lt]; exact AV.ltL_closed n xs (by simpa [AV.closed] using h)
  | .tup xs, h => by simp only [AV.lt]; exact AV.ltL_closed n xs (by simpa [AV.closed] using h)
  | .fn _ xs, h => by simp only [AV.lt]; exact AV.ltL_closed n xs (by simpa [AV.closed] using h)
  | .iface _ x, h => by simp only [AV.lt]; exact AV.lt_closed n x (by simpa [AV.closed] using h)
theorem AV.ltL_closed (n : Nat) : ∀ xs : List AV, AV.closedL xs = true → AV.ltL n xs = true
  | [], _ => rfl
  | x :: r, h => by
    simp only [AV.closedL, Bool.and_eq_true] at h
    simp only [AV.ltL, Bool.and_eq_true]
    exact ⟨AV.lt_closed n x h.1, AV.ltL_closed n r h.2⟩
end
theorem R.drop {T : List AO} {x : AV} {v : Value} (r : R w φ (H ++ T) x v) (h : AV.lt H.length x = true) : R w φ H x v := by
  have hget : ∀ (id : Nat) (o : AO), H[id]? = some o → (H ++ T)[id]? = some o := fun id o ho => by rw [List.getElem?_append_left (List.getElem?_eq_some_iff.1 ho).1]; exact ho
  generalize hH2 : H ++ T = H2 at r hget
  have hnl : ∀ b, NL φ H2 b → NL φ H b := fun b hn id o ho hl => hn id o (hget id o ho) hl
  induction r with
  | dead v => exact .dead v
  | sc v => exact .sc v
  | int k n => exact .int k n
  | bool b => exact .bool b
  | str s => exact .str s
  | view0 s ad cap => exact .view0 s ad cap
  | view xs b off size cap u hcap hb hl hcl hs hc hr ih => exact .view xs b off size cap u hcap hb (hnl b hl) hcl hs hc (fun i x j c hi hj => ih i x j c hi hj (AV.lt_closed _ _ (AV.closed_cells (hcl i x hi) hj)))
  | viewx xs n b off size cap u hn hcap hb hl hcl hs hc hr ih => exact .viewx xs n b off size cap u hn hcap hb (hnl b hl) hcl hs hc (fun i x j c hi hj => ih i x j c hi hj (AV.lt_closed _ _ (AV.closed_cells (hcl i x hi) hj)))
  | own id ver off len v hid ho hv hh => exact .own id ver off len v (by simpa [AV.lt] using h) ho (fun v' E s xs e => hv v' E s xs (hget id _ e)) (fun E s xs e => hh E s xs (hget id _ e))
  | vptr x off b o u hcl hb hl hc hr ih => exact .vptr x off b o u hcl hb (hnl b hl) hc (fun j c hj => ih j c hj (AV.lt_closed _ _ (AV.closed_cells hcl hj)))
  | optr id ver i off v hid ho hv hh => exact .optr id ver i off v (by simpa [AV.lt] using h) ho (fun v' E s xs e => hv v' E s xs (hget id _ e)) (fun E s xs e => hh E s xs (hget id _ e))
  | bptr id off v hid ho hh => exact .bptr id off v (by simpa [AV.lt] using h) ho (fun o e hp => hh o (hget id _ e) hp)
  | agg xs us hs hr ih => exact .agg xs us hs (fun i x u hi hu => ih i x u hi hu ((AV.ltL_iff _ _).1 (by simpa [AV.lt] using h) i x hi))
  | tup xs us hs hr ih => exact .tup xs us hs (fun i x u hi hu => ih i x u hi hu ((AV.ltL_iff _ _).1 (by simpa [AV.lt] using h) i x hi))
  | fn f xs us hs hr ih => exact .fn f xs us hs (fun i x u hi hu => ih i x u hi hu ((AV.ltL_iff _ _).1 (by simpa [AV.lt] using h) i x hi))
  | iface t x u hr ih => exact .iface t x u (ih (by simpa [AV.lt] using h))
def AO.lt (n : Nat) : AO → Bool
  | .box _ cs => AV.ltL n cs
  | _ => true
theorem St.lt (st : St B X w0 w φ H) : ∀ o ∈ H, o.lt H.length = true := fun o ho => by
  obtain ⟨id, hid⟩ := List.mem_iff_getElem?.1 ho
  cases o with
  | slice _ _ _ _ => rfl
  | iter _ _ => rfl
  | gone => rfl
  | box T cs =>
    obtain ⟨g, arr, _, _, h3, h4⟩ := st.chunk id _ hid
    simp only [AO.lt]
    refine (AV.ltL_iff _ _).2 fun i x hx => ?_
    have hi : i < arr.size := by rw [h3]; exact (List.getElem?_eq_some_iff.1 hx).1
    exact (h4 i x _ hx (Array.getElem?_eq_getElem hi)).1.lt
theorem St.drop {T : List AO} (st : St B X w0 w φ (H ++ T)) (h : ∀ o ∈ H, o.lt H.length = true) : St B X w0 w φ H := by
  have hget : ∀ (id : Nat) (o : AO), H[id]? = some o → (H ++ T)[id]? = some o := fun id o ho => by rw [List.getElem?_append_left (List.getElem?_eq_some_iff.1 ho).1]; exact ho
  refine ⟨st.frame, st.base, st.glob, fun id o b ho hl hv => st.live id o b (hget id o ho) hl hv, fun id id' o o' b h1 h2 h3 h4 h5 h6 => st.inj id id' o o' b (hget id o h1) h2 (hget id' o' h3) h4 h5 h6, fun id o ho => ?_⟩
  have hc := st.chunk id o (hget id o ho)
  cases o with
  | iter s p => exact hc
  | gone => trivial
  | slice v E s xs =>
    obtain ⟨cs, c1, c2, c3, c4⟩ := hc
    exact ⟨cs, c1, c2, c3, fun i x j c u hx hj hu => (c4 i x j c u hx hj hu).drop (AV.lt_closed _ _ (AV.closed_cells (c3 i x hx).1 hj))⟩
  | box T' cs =>
    obtain ⟨g, arr, c1, c2, c3, c4⟩ := hc
    refine ⟨g, arr, c1, c2, c3, fun i c u hx hu => ⟨(c4 i c u hx hu).1.drop ?_, (c4 i c u hx hu).2⟩⟩
    exact (AV.ltL_iff _ _).1 (by simpa [AO.lt] using h _ (List.mem_of_getElem? ho)) i c hx

/-- a callee's slots (the first n), behind them its caller's -/
def argEnvG (n : Nat) (args : List AV) (E : Env) : Env := fun t => if t < n then args.getD t (.sc (.tuple #[])) else E (t - n)
mutual
theorem AV.lt_mono {n m : Nat} (h : n ≤ m) : ∀ x : AV, AV.lt n x = true → AV.lt m x = true
  | .dead, _ => rfl
  | .sc _, _ => rfl
  | .int _ _, _ => rfl
  | .bool _, _ => rfl
  | .str _, _ => rfl
  | .view _ _, _ => rfl
  | .viewx _ _ _, _ => rfl
  | .vptr _ _, _ => rfl
  | .own _ _ _ _, h' => by simp [AV.lt] at h' ⊢; omega
  | .optr _ _ _ _, h' => by simp [AV.lt] at h' ⊢; omega
  | .bptr _ _, h' => by simp [AV.lt] at h' ⊢; omega
  | .agg xs, h' => by simp only [AV.lt] at h' ⊢; exact AV.ltL_mono h xs h'
  | .tup xs, h' => by simp only [AV.lt] at h' ⊢; exact AV.ltL_mono h xs h'
  | .fn _ xs, h' => by simp only [AV.lt] at h' ⊢; exact AV.ltL_mono h xs h'
  | .iface _ x, h' => by simp only [AV.lt] at h' ⊢; exact AV.lt_mono h x h'
theorem AV.ltL_mono {n m : Nat} (h : n ≤ m) : ∀ xs : List AV, AV.ltL n xs = true → AV.ltL m xs = true
  | [], _ => rfl
  | x :: r, h' => by
    simp only [AV.ltL, Bool.and_eq_true] at h' ⊢
    exact ⟨AV.lt_mono h x h'.1, AV.ltL_mono h r h'.2⟩
end
theorem AO.lt_mono {n m : Nat} (h : n ≤ m) {o : AO} (ho : o.lt n = true) : o.lt m = true := by
  cases o with
  | box _ cs => exact AV.ltL_mono h cs ho
  | _ => rfl
/-- the objects of H' name objects of H' alone, if those of N do of N -/
def Kept (N H' : List AO) : Prop := N.length ≤ H'.length ∧ ((∀ o ∈ N, o.lt N.length = true) → ∀ o ∈ H', o.lt H'.length = true)
/-- the end of a call in place: the objects are H', and scratch behind them -/
def FinIn (P : Program) (n : Nat) (rs : List ResultVar) (N : List AO) (E : Env) (K : AV → Env → List AO → Prop) : Post := fun ex env H =>
  (match ex with
    | .ret | .normal => True
    | _ => False) ∧ (∀ t, env (t + n) = E t) ∧ resK P rs env H fun xs => ∃ H' T, H = H' ++ T ∧ Kept N H' ∧ AV.lt H'.length (oneOf xs) = true ∧ K (oneOf xs) E H'
theorem callIn_of {f : FuncId} {fn : Func} {args : List AV} {E : Env} {K : AV → Env → List AO → Prop} {n : Nat} {rs : List ResultVar} (hf : P.funcs[f]? = some fn) (hbs : fn.body.isSome = true) (hname : (fn.name == "runtime.NumGoroutine") = false) (hnt : fn.ntmps = n) (hrs : fn.results.toList = rs)
    (hlen : args.length ≤ n) (hres' : resOK n rs = true)
    (h : J P n (fn.body.getD .skip) (argEnvG n args E) H (FinIn P n rs H E K)) : CallIn P f args H E K := by
  subst hnt hrs
  have hres := hres'
  have hname : fn.name ≠ "runtime.NumGoroutine" := by simpa using hname
  obtain ⟨c, hb⟩ := Option.isSome_iff_exists.1 hbs
  rw [hb] at h
  simp only [Option.getD_some] at h
  refine ⟨⟨fn, hf, by simp [hb], hname⟩, fun B X w0 w φ vals g st hsz hr hg => ?_⟩
  refine calls_of_wp hf hb ?_
  have eo : EnvOK w φ H (argEnvG fn.ntmps args E) { tmps := vals ++ Array.replicate (fn.ntmps - vals.size) undef, defers := [] } fn.ntmps (fun t => g (t - fn.ntmps)) := by
    refine ⟨by simp; omega, rfl, fun t ht => ?_, fun t ht => by unfold argEnvG; rw [if_neg (by omega)]; exact hg _⟩
    dsimp only
    unfold argEnvG
    rw [if_pos ht]
    rcases Nat.lt_or_ge t args.length with hlt | hge
    · have h1 : args[t]? = some args[t] := List.getElem?_eq_getElem hlt
      have h2 : vals[t]? = some vals[t] := Array.getElem?_eq_getElem (by omega)
      have e1 : args.getD t (.sc (.tuple #[])) = args[t] := by rw [List.getD_eq_getElem?_getD, h1]; rfl
      have e2 : (vals ++ Array.replicate (fn.ntmps - vals.size) undef).getD t undef = vals[t] := by
        rw [Array.getD_eq_getD_getElem?, Array.getElem?_append_left (by omega), h2]; rfl
      rw [e1, e2]
      exact hr t _ _ h1 h2
    · have e1 : args.getD t (.sc (.tuple #[])) = .sc (.tuple #[]) := by rw [List.getD_eq_getElem?_getD, List.getElem?_eq_none hge]; rfl
      have e2 : (vals ++ Array.replicate (fn.ntmps - vals.size) undef).getD t undef = undef := by
        rw [Array.getD_eq_getD_getElem?, Array.getElem?_append_right (by omega)]
        simp [Array.getElem?_replicate]
        split <;> rfl
      rw [e1, e2]
      exact .sc _
  refine wp_mono (h _ _ w0 w _ _ _ st eo) ?_
  rintro ex a w' ⟨env, H9, φ', ⟨hex, henv, hk⟩, st', eo'⟩
  have key : a.defers = [] ∧ ∃ v, (results fn a.tmps).run P w' = .ok v w' ∧ ∃ v2 ret E2 H2 φ2, Ending.returned v = .returned v2 ∧ K ret E2 H2 ∧ St B X w0 w' φ2 H2 ∧ R w' φ2 H2 ret v2 ∧ ∀ t, R w' φ2 H2 (E2 t) (g t) := by
    refine ⟨eo'.defers, ?_⟩
    obtain ⟨xs, vs, ⟨H', T, rfl, ⟨hle, hkept⟩, hlt, hk⟩, h2, h3, h4⟩ := resK_sound (P := P) st' eo' fn.results.toList hres hk
    have hrun : (results fn a.tmps).run P w' = .ok (if h : vs.toArray.size = 1 then vs.toArray[0] else .tuple vs.toArray) w' := by
      unfold results
      rw [← Array.toArray_toList (xs := fn.results), List.mapM_toArray]
      simp only [Sem.run_bind, Sem.run_map, Sem.run_pure]
      erw [h4]
      rfl
    refine ⟨_, hrun, _, _, _, _, _, rfl, hk, st'.drop (hkept st.lt), R.drop (T := T) ?_ hlt, fun t => ?_⟩
    · match xs, vs, h2, h3 with
      | [], [], _, h3 => exact .tup _ _ rfl (fun i x u hx => by simp at hx)
      | [x], [v], _, h3 => exact h3 0 x v rfl rfl
      | x :: y :: xs, v :: v' :: vs, h2, h3 =>
        have hne : ¬ ((v :: v' :: vs).toArray.size = 1) := by simp
        rw [dif_neg hne]
        exact .tup _ _ (by simpa using h2) (fun i x u hx hu => h3 i x u hx (by simpa using hu))
    · have := eo'.ghost (t + fn.ntmps) (by omega)
      rw [Nat.add_sub_cancel, henv] at this
      exact this.drop (AV.lt_mono hle _ (hg t).lt)
  cases ex with
  | ret => exact key
  | normal => exact key
  | exit id => exact hex.elim
  | goto l => exact hex.elim
  | panic c => exact hex.elim
  | outgrown => exact hex.elim
/-- the end of a call in place, as it is -/
def FinI (P : Program) (n : Nat) (rs : List ResultVar) (K : AV → Env → List AO → Prop) : Post := fun ex env H =>
  (match ex with
    | .ret | .normal => True
    | _ => False) ∧ resK P rs env H fun xs => K (oneOf xs) (fun t => env (t + n)) H
theorem callI_of {f : FuncId} {fn : Func} {args : List AV} {E : Env} {K : AV → Env → List AO → Prop} {n : Nat} {rs : List ResultVar} (hf : P.funcs[f]? = some fn) (hbs : fn.body.isSome = true) (hname : (fn.name == "runtime.NumGoroutine") = false) (hnt : fn.ntmps = n) (hrs : fn.results.toList = rs)
    (hlen : args.length ≤ n) (hres' : resOK n rs = true)
    (h : J P n (fn.body.getD .skip) (argEnvG n args E) H (FinI P n rs K)) : CallIn P f args H E K := by
  subst hnt hrs
  have hres := hres'
  have hname : fn.name ≠ "runtime.NumGoroutine" := by simpa using hname
  obtain ⟨c, hb⟩ := Option.isSome_iff_exists.1 hbs
  rw [hb] at h
  simp only [Option.getD_some] at h
  refine ⟨⟨fn, hf, by simp [hb], hname⟩, fun B X w0 w φ vals g st hsz hr hg => ?_⟩
  refine calls_of_wp hf hb ?_
  have eo : EnvOK w φ H (argEnvG fn.ntmps args E) { tmps := vals ++ Array.replicate (fn.ntmps - vals.size) undef, defers := [] } fn.ntmps (fun t => g (t - fn.ntmps)) := by
    refine ⟨by simp; omega, rfl, fun t ht => ?_, fun t ht => by unfold argEnvG; rw [if_neg (by omega)]; exact hg _⟩
    dsimp only
    unfold argEnvG
    rw [if_pos ht]
    rcases Nat.lt_or_ge t args.length with hlt | hge
    · have h1 : args[t]? = some args[t] := List.getElem?_eq_getElem hlt
      have h2 : vals[t]? = some vals[t] := Array.getElem?_eq_getElem (by omega)
      have e1 : args.getD t (.sc (.tuple #[])) = args[t] := by rw [List.getD_eq_getElem?_getD, h1]; rfl
      have e2 : (vals ++ Array.replicate (fn.ntmps - vals.size) undef).getD t undef = vals[t] := by
        rw [Array.getD_eq_getD_getElem?, Array.getElem?_append_left (by omega), h2]; rfl
      rw [e1, e2]
      exact hr t _ _ h1 h2
    · have e1 : args.getD t (.sc (.tuple #[])) = .sc (.tuple #[]) := by rw [List.getD_eq_getElem?_getD, List.getElem?_eq_none hge]; rfl
      have e2 : (vals ++ Array.replicate (fn.ntmps - vals.size) undef).getD t undef = undef := by
        rw [Array.getD_eq_getD_getElem?, Array.getElem?_append_right (by omega)]
        simp [Array.getElem?_replicate]
        split <;> rfl
      rw [e1, e2]
      exact .sc _
  refine wp_mono (h _ _ w0 w _ _ _ st eo) ?_
  rintro ex a w' ⟨env, H9, φ', ⟨hex, hk⟩, st', eo'⟩
  have key : a.defers = [] ∧ ∃ v, (results fn a.tmps).run P w' = .ok v w' ∧ ∃ v2 ret E2 H2 φ2, Ending.returned v = .returned v2 ∧ K ret E2 H2 ∧ St B X w0 w' φ2 H2 ∧ R w' φ2 H2 ret v2 ∧ ∀ t, R w' φ2 H2 (E2 t) (g t) := by
    refine ⟨eo'.defers, ?_⟩
    obtain ⟨xs, vs, hk, h2, h3, h4⟩ := resK_sound (P := P) st' eo' fn.results.toList hres hk
    have hrun : (results fn a.tmps).run P w' = .ok (if h : vs.toArray.size = 1 then vs.toArray[0] else .tuple vs.toArray) w' := by
      unfold results
      rw [← Array.toArray_toList (xs := fn.results), List.mapM_toArray]
      simp only [Sem.run_bind, Sem.run_map, Sem.run_pure]
      erw [h4]
      rfl
    refine ⟨_, hrun, _, _, _, _, _, rfl, hk, st', ?_, fun t => ?_⟩
    · match xs, vs, h2, h3 with
      | [], [], _, h3 => exact .tup _ _ rfl (fun i x u hx => by simp at hx)
      | [x], [v], _, h3 => exact h3 0 x v rfl rfl
      | x :: y :: xs, v :: v' :: vs, h2, h3 =>
        have hne : ¬ ((v :: v' :: vs).toArray.size = 1) := by simp
        rw [dif_neg hne]
        exact .tup _ _ (by simpa using h2) (fun i x u hx hu => h3 i x u hx (by simpa using hu))
    · have := eo'.ghost (t + fn.ntmps) (by omega)
      rw [Nat.add_sub_cancel] at this
      exact this
  cases ex with
  | ret => exact key
  | normal => exact key
  | exit id => exact hex.elim
  | goto l => exact hex.elim
  | panic c => exact hex.elim
  | outgrown => exact hex.elim
/-- a call's objects may be told in another order, and fewer; the caller's slots too -/
theorem CallIn.sub {f : FuncId} {args args' : List AV} {H' : List AO} {E E' : Env} {K : AV → Env → List AO → Prop} (ids : List Nat) (nd : ids.Nodup) (hH : H' = renH ids H) (ha : args' = args.map (ren ids H)) (hE : ∀ t, E' t = .dead ∨ E' t = ren ids H (E t)) (h : CallIn P f args' H' E' K) : CallIn P f args H E K := by
  subst hH ha
  refine ⟨h.1, fun B X w0 w φ vals g st hsz hr hg => ?_⟩
  refine h.2 B X w0 w (renφ ids φ) vals g (st.ren nd) (by simpa using hsz) (fun i x v hx hv => ?_) (fun t => ?_)
  · simp only [List.getElem?_map, Option.map_eq_some_iff] at hx
    obtain ⟨y, hy, rfl⟩ := hx
    exact ren_R ids (hr i y v hy hv)
  · rcases hE t with e | e
    · rw [e]; exact .dead _
    · rw [e]; exact ren_R ids (hg t)

def condV (v : AV) [A : Ko Prop] [B : Ko Prop] : Prop := match v with
  | .bool b => (b = true → @Hold A) ∧ (b = false → @Hold B)
  | _ => False
theorem J_condV {env : Env} {K : Post} {c : Operand} {x y : Code} (hn : okO n c = true) (h : @condV (evO env c) ⟨J P n x env H K⟩ ⟨J P n y env H K⟩) : J P n (.cond c x y) env H K := by
  generalize hv : evO env c = v at h
  cases v <;> (try exact h.elim)
  rename_i b
  exact J_cond hn hv h.1 h.2
/-- a call by its contract -/
theorem call_ok {g : FuncId} {E : Env} {caps xs : List AV} {K : AV → Env → List AO → Prop} (args' : List AV) {ret : AV} {objs : List AO} (h : CallOK P g args' ret objs) (ha : argsR H (xs ++ caps) args') (k : K (sh H.length ret) E (H ++ objs.map (shO H.length))) : @callK P false H E (.fn g caps) xs ⟨K⟩ := .inl ⟨args', ret, objs, ha, h, k⟩
theorem call_okq {g : FuncId} {E : Env} {caps xs : List AV} {K : AV → Env → List AO → Prop} (args' : List AV) {ret : AV} (h : CallOK P g args' ret []) (ha : argsR H (xs ++ caps) args') (hf : ret.flatT = true) (k : K ret E H) : @callK P true H E (.fn g caps) xs ⟨K⟩ := ⟨args', ret, ha, h, hf, k⟩
theorem argR_m {x y : AV} (m : Bool) (h : arg m H x = y) : argR H x y := .inl (.inl ⟨m, h.symm⟩)
theorem argC_m {x y : AV} (m : Bool) (h : arg m H x = y) : argC H x y := .inl ⟨m, h.symm⟩
theorem argC_nil {s : Nat} : argC H (.sc (.slice none 0 0)) (.view s []) := .inr ⟨rfl, s, rfl⟩
theorem argR_agg {xs ys : List AV} (h : argsC H xs ys) : argR H (.agg xs) (.agg ys) := .inr ⟨xs, ys, rfl, rfl, h⟩
theorem argR_nil {s : Nat} : argR H (.sc (.slice none 0 0)) (.view s []) := .inl (.inr ⟨rfl, s, rfl⟩)
theorem call_in {g : FuncId} {E : Env} {caps xs : List AV} {K : AV → Env → List AO → Prop} (h : CallIn P g (xs ++ caps) H E K) : @callK P false H E (.fn g caps) xs ⟨K⟩ := .inr (.inl h)
theorem call_esc {g : FuncId} {E : Env} {x : AV} {K : AV → Env → List AO → Prop} (h : NoEsc P g) (k : K x E H) : @callK P false H E (.fn g []) [x] ⟨K⟩ := .inr (.inr ⟨h, x, rfl, k⟩)
theorem noEsc_of {f : FuncId} {fn : Func} (hf : P.funcs[f]? = some fn) (hname : (fn.name == "runtime.NumGoroutine") = false) (hb : fn.body.isNone = true) (hn : Extern.findNext fn = none) (he : Extern.find fn = some Extern.AbiNoEscape.same) : NoEsc P f := fun x w => by
  rw [run_callFunc_extern hf hname hb hn he, Lib.run_noEscape]
  rfl
theorem getK_map {α : Type} {f : α → AV} {l : List α} {i : Nat} {K : AV → Prop} (h : i < l.length) (k : K (f l[i])) : @GetK (l.map f) i ⟨K⟩ := ⟨f l[i], by simp [h], k⟩
theorem getK_some {α : Type} {f : α → AV} {l : List α} {i : Nat} {K : AV → Prop} {b : α} (h : l[i]? = some b) (k : K (f b)) : @GetK (l.map f) i ⟨K⟩ := ⟨f b, by simp [h], k⟩
theorem getB_some {l : List UInt8} {i : Nat} {K : UInt8 → Prop} {b : UInt8} (h : l[i]? = some b) (k : K b) : @GetB l i ⟨K⟩ := ⟨b, h, k⟩
theorem getB_at {l : List UInt8} {i : Nat} {K : UInt8 → Prop} (h : i < l.length) (k : K l[i]) : @GetB l i ⟨K⟩ := ⟨l[i], by simp [h], k⟩
theorem bytesK_map {l : List UInt8} {K : AV → Prop} (k : K (.str l)) : @BytesK (l.map encB) ⟨K⟩ := ⟨l, rfl, k⟩
theorem bytesK_of {xs : List AV} (l : List UInt8) {K : AV → Prop} (h : xs = l.map encB) (k : K (.str l)) : @BytesK xs ⟨K⟩ := ⟨l, h, k⟩
theorem imps2 {A B C D : Prop} (h1 : A → B) (h2 : C → D) : (A → B) ∧ (C → D) := ⟨h1, h2⟩
/-! what stands behind: one rule a shape -/
variable {env : Env} {K : Post} {y : Code}
theorem then_n (h : J P n y env H K) : Then P n y K .normal env H := h
theorem then_ret (h : K .ret env H) : Then P n y K .ret env H := h
theorem then_exit {id : Nat} (h : K (.exit id) env H) : Then P n y K (.exit id) env H := h
theorem block_n {id : Nat} (h : K .normal env H) : Block id K .normal env H := h
theorem block_ret {id : Nat} (h : K .ret env H) : Block id K .ret env H := h
theorem block_eq {id : Nat} (h : K .normal env H) : Block id K (.exit id) env H := by simpa [Block] using h
theorem block_ne {id id' : Nat} (hn : id' ≠ id) (h : K (.exit id') env H) : Block id K (.exit id') env H := by simpa [Block, hn] using h
theorem loop_ret {σ : Type} {E : σ → Env} {Hs : σ → List AO} {I : σ → Prop} {m : σ → Nat} {s : σ} (h : K .ret env H) : LoopK E Hs I m s K .ret env H := h
theorem loop_exit {σ : Type} {E : σ → Env} {Hs : σ → List AO} {I : σ → Prop} {m : σ → Nat} {s : σ} {id : Nat} (h : K (.exit id) env H) : LoopK E Hs I m s K (.exit id) env H := h
theorem loop_n {σ : Type} {E : σ → Env} {Hs : σ → List AO} {I : σ → Prop} {m : σ → Nat} {s : σ} (s' : σ) (h1 : I s') (h2 : m s' < m s) (h3 : Sub env H (E s') (Hs s')) : LoopK E Hs I m s K .normal env H := ⟨s', h1, h2, h3⟩
theorem fin_ret {rs : List ResultVar} {ret : AV} {objs : List AO} (h : resK P rs env H fun xs => ∃ ids : List Nat, ids.Nodup ∧ ret = ren ids H (oneOf xs) ∧ objs = renH ids H) : Fin P rs ret objs .ret env H := ⟨trivial, h⟩
theorem fin_n {rs : List ResultVar} {ret : AV} {objs : List AO} (h : resK P rs env H fun xs => ∃ ids : List Nat, ids.Nodup ∧ ret = ren ids H (oneOf xs) ∧ objs = renH ids H) : Fin P rs ret objs .normal env H := ⟨trivial, h⟩
theorem finIn_ret {rs : List ResultVar} {N : List AO} {E : Env} {K : AV → Env → List AO → Prop} (h : (∀ t, env (t + n) = E t) ∧ resK P rs env H fun xs => ∃ H' T, H = H' ++ T ∧ Kept N H' ∧ AV.lt H'.length (oneOf xs) = true ∧ K (oneOf xs) E H') : FinIn P n rs N E K .ret env H := ⟨trivial, h⟩
theorem finIn_n {rs : List ResultVar} {N : List AO} {E : Env} {K : AV → Env → List AO → Prop} (h : (∀ t, env (t + n) = E t) ∧ resK P rs env H fun xs => ∃ H' T, H = H' ++ T ∧ Kept N H' ∧ AV.lt H'.length (oneOf xs) = true ∧ K (oneOf xs) E H') : FinIn P n rs N E K .normal env H := ⟨trivial, h⟩
end
end Go.Av
