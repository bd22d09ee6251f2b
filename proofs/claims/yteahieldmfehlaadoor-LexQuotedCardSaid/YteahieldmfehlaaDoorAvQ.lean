/- Av, part Q: rules by which a walk goes beside a function that computes the same: each operation that may fail stands beside an Option. -/
import Derived.Test.YteahieldmfehlaaDoorAvZ
namespace Go.Av
open Go.RowKit
set_option linter.unusedVariables false

section
variable {P : Program} {n : Nat} {env : Env} {H : List AO} {K : Post}
theorem condV_tt {A B : Prop} : @condV (.bool true) ⟨A⟩ ⟨B⟩ = A := by simp [condV, Hold]
theorem condV_ff {A B : Prop} : @condV (.bool false) ⟨A⟩ ⟨B⟩ = B := by simp [condV, Hold]
theorem condV_t {b : Bool} {A B : Prop} (h : b = true) (k : A) : @condV (.bool b) ⟨A⟩ ⟨B⟩ := ⟨fun _ => k, fun e => by subst h; simp at e⟩
theorem condV_f {b : Bool} {A B : Prop} (h : b = false) (k : B) : @condV (.bool b) ⟨A⟩ ⟨B⟩ := ⟨fun e => by subst h; simp at e, fun _ => k⟩
theorem condV_split {b : Bool} {A B : Prop} (h1 : b = true → A) (h2 : b = false → B) : @condV (.bool b) ⟨A⟩ ⟨B⟩ := ⟨h1, h2⟩
theorem guard_split {b : Bool} {A B : Prop} (h1 : b = true → A) (h2 : b = false → B) : @guardK b true ⟨A⟩ ⟨B⟩ := ⟨h1, h2⟩
attribute [go_sem] condV_tt condV_ff

/-! what the pure functions are made of -/
/-- there is room -/
def szC (n : Nat) : Option Unit := if n ≤ 140737488355328 then some () else none
/-- a condition -/
def chk (b : Bool) : Option Unit := if b then some () else none
theorem szC_le {n : Nat} {u : Unit} (h : szC n = some u) : n ≤ 140737488355328 := by
  unfold szC at h; split at h
  · assumption
  · simp at h
theorem szC_63 {n : Nat} {u : Unit} (h : szC n = some u) : n ≤ 9223372036854775807 := Nat.le_trans (szC_le h) (by decide)
/-- so many places may be made -/
def mkC (n : Int) : Option Unit := if 0 ≤ n ∧ n ≤ 1099511627776 then some () else none
theorem mkC_prop {n : Int} {u : Unit} (h : mkC n = some u) : 0 ≤ n ∧ n ≤ 1099511627776 := by
  unfold mkC at h; split at h
  · assumption
  · simp at h
theorem mk_of {n : Int} {b : Nat} {u : Unit} {K : Prop} (h : mkC n = some u) (hb : b ≤ 128) (k : K) : @MkK n b ⟨K⟩ := by
  obtain ⟨h0, h1⟩ := mkC_prop h
  have h2 : n.toNat ≤ 1099511627776 := by omega
  exact ⟨h0, Nat.le_trans (Nat.mul_le_mul h2 hb) (by decide), h2, k⟩
theorem repl_b (n : Nat) : List.replicate n (AV.int .u8 0) = List.map encB (List.replicate n (bC 0)) := by rw [List.map_replicate]; rfl
theorem repl_32 (n : Nat) : List.replicate n (AV.int .i32 0) = List.map (encI .i32) (List.replicate n 0) := by rw [List.map_replicate]; rfl
theorem repl_64 (n : Nat) : List.replicate n (AV.int .i64 0) = List.map (encI .i64) (List.replicate n 0) := by rw [List.map_replicate]; rfl
attribute [go_sem] repl_b repl_32 repl_64
theorem chk_true {b : Bool} {u : Unit} (h : chk b = some u) : b = true := by
  unfold chk at h; split at h
  · assumption
  · simp at h
theorem chk_prop {p : Prop} [Decidable p] {u : Unit} (h : chk (decide p) = some u) : p := of_decide_eq_true (chk_true h)
theorem bind_cases {α β : Type} {o : Option α} {f : α → Option β} {r : β} (h : o.bind f = some r) : ∃ x, o = some x ∧ f x = some r := by
  cases o with
  | none => simp at h
  | some x => exact ⟨x, rfl, h⟩
theorem map_cases {α β : Type} {o : Option α} {f : α → β} {r : β} (h : Option.map f o = some r) : ∃ q, o = some q ∧ r = f q := by
  cases o with
  | none => simp at h
  | some x => exact ⟨x, rfl, by simpa using h.symm⟩
theorem ite_cases {b : Bool} {α : Type} {x y : Option α} {r : α} (h : (if b = true then x else y) = some r) : (b = true ∧ x = some r) ∨ (b = false ∧ y = some r) := by
  cases b
  · exact .inr ⟨rfl, by simpa using h⟩
  · exact .inl ⟨rfl, by simpa using h⟩

/-! where ways meet -/
def JoinK {σ : Type} (E : σ → Env) (Hs : σ → List AO) (I : σ → Prop) (K : Post) : Post := fun ex e h => match ex with
  | .normal => ∃ s, I s ∧ Sub e h (E s) (Hs s)
  | ex => K ex e h
theorem J_join {σ : Type} {x y : Code} (E : σ → Env) (Hs : σ → List AO) (I : σ → Prop) (h1 : J P n x env H (JoinK E Hs I K)) (h2 : ∀ s, I s → J P n y (E s) (Hs s) K) : J P n (.seq x y) env H K := by
  intro B X w0 w φ a g st eo
  refine wp_seq (wp_mono (h1 B X w0 w φ a g st eo) ?_)
  rintro ex a w ⟨e, H, φ, k, st, eo⟩
  cases ex with
  | normal =>
    obtain ⟨s, hs, hsub⟩ := k
    obtain ⟨φ', st', eo'⟩ := hsub.st st eo
    exact h2 s hs B X w0 w φ' a g st' eo'
  | _ => exact ⟨e, H, φ, k, st, eo⟩
theorem join_n {σ : Type} {E : σ → Env} {Hs : σ → List AO} {I : σ → Prop} (s : σ) (h1 : I s) (h3 : Sub env H (E s) (Hs s)) : JoinK E Hs I K .normal env H := ⟨s, h1, h3⟩
theorem join_ret {σ : Type} {E : σ → Env} {Hs : σ → List AO} {I : σ → Prop} (h : K .ret env H) : JoinK E Hs I K .ret env H := h
theorem join_exit {σ : Type} {E : σ → Env} {Hs : σ → List AO} {I : σ → Prop} {id : Nat} (h : K (.exit id) env H) : JoinK E Hs I K (.exit id) env H := h
/-- K takes a state told otherwise -/
def SubC (K : Post) : Prop := ∀ e h e' h', Sub e h e' h' → K .normal e' h' → K .normal e h
theorem subC_then {y : Code} {K : Post} : SubC (Then P n y K) := fun _ _ _ _ s k => J.sub s k
theorem subC_block {id : Nat} {K : Post} (h : SubC K) : SubC (Block id K) := fun _ _ _ _ s k => h _ _ _ _ s k
theorem J_joinK {σ : Type} {x : Code} (E : σ → Env) (Hs : σ → List AO) (I : σ → Prop) (hc : SubC K) (h1 : J P n x env H (JoinK E Hs I K)) (h2 : ∀ s, I s → K .normal (E s) (Hs s)) : J P n x env H K :=
  h1.mono fun ex e h k => by
    cases ex with
    | normal =>
      obtain ⟨s, hs, hsub⟩ := k
      exact hc _ _ _ _ hsub (h2 s hs)
    | _ => exact k
theorem finI_ret {rs : List ResultVar} {K : AV → Env → List AO → Prop} (h : resK P rs env H fun xs => K (oneOf xs) (fun t => env (t + n)) H) : FinI P n rs K .ret env H := ⟨trivial, h⟩
theorem finI_n {rs : List ResultVar} {K : AV → Env → List AO → Prop} (h : resK P rs env H fun xs => K (oneOf xs) (fun t => env (t + n)) H) : FinI P n rs K .normal env H := ⟨trivial, h⟩
theorem fin_of {xs : AV} {ret : AV} {objs : List AO} (ids : List Nat) (h0 : ids.Nodup) (h1 : ret = ren ids H xs) (h2 : objs = renH ids H) : ∃ ids : List Nat, ids.Nodup ∧ ret = ren ids H xs ∧ objs = renH ids H := ⟨ids, h0, h1, h2⟩
/-- the state told otherwise -/
theorem J_as {c : Code} (l : List (Nat × AV)) (H' : List AO) (ids : List Nat) (nd : ids.Nodup) (hH : H' = renH ids H) (hl : ∀ p ∈ l, p.2 = Av.ren ids H (env p.1)) (h : J P n c (envL l) H' K) : J P n c env H K := J.sub (Sub.of l H' ids nd hH hl) h
/-- a nil slice in a variable is a slice of our own, of no places -/
theorem J_prom {c : Code} (E : TypeId) (s : Nat) (hs : 0 < s) (id i : Nat) (T : TypeId) (cs : List AV) (hH : H[id]? = some (.box T cs)) (hc : cs[i]? = some (.sc (.slice none 0 0)))
    (h : J P n c env (H.set id (.box T (cs.set i (.own H.length 0 0 0))) ++ [.slice 0 E s []]) K) : J P n c env H K := by
  intro B X w0 w φ a g st eo
  have hid : id < H.length := (List.getElem?_eq_some_iff.1 hH).1
  have le1 : Le w φ H w (updφ φ H.length (.slice none 0 0)) (H ++ [.slice 0 E s []]) := Le_new (Gr.refl w) _ _ (fun b hb => by simp [vblk] at hb)
  have st1 : St B X w0 w (updφ φ H.length (.slice none 0 0)) (H ++ [.slice 0 E s []]) := St.new st (Gr.refl w) (.slice none 0 0) (.slice 0 E s []) (fun b hb => by simp [vblk] at hb)
    ⟨[], ⟨by simp, by simp, .inl ⟨by rw [updφ_same], rfl⟩⟩, hs, fun i x hx => by simp at hx, fun i x j c u hx => by simp at hx⟩
  generalize hφ : updφ φ H.length (.slice none 0 0) = φ1 at *
  have hH1 : (H ++ [AO.slice 0 E s []])[id]? = some (.box T cs) := by rw [List.getElem?_append_left hid]; exact hH
  have hlive : AO.live (.box T cs) = true := rfl
  have e0 : (H ++ [AO.slice 0 E s []]).set id (.box T (cs.set i (.own H.length 0 0 0))) = H.set id (.box T (cs.set i (.own H.length 0 0 0))) ++ [.slice 0 E s []] := by rw [List.set_append_left _ _ hid]
  obtain ⟨gg, arr, c1, c2, c3, c4⟩ := st1.chunk id _ hH1
  have le2 : Le w φ1 (H ++ [AO.slice 0 E s []]) w (updφ φ1 id (φ1 id)) ((H ++ [AO.slice 0 E s []]).set id (.box T (cs.set i (.own H.length 0 0 0)))) :=
    Le_upd st1 hH1 hlive (Nat.le_refl _) (fun k _ _ => rfl) (φ1 id) (fun b hb => .inl hb) ⟨rfl, rfl⟩
  have st2 : St B X w0 w (updφ φ1 id (φ1 id)) ((H ++ [AO.slice 0 E s []]).set id (.box T (cs.set i (.own H.length 0 0 0)))) :=
    St.upd st1 hH1 hlive rfl rfl rfl (Nat.le_refl _) (fun k _ _ => rfl) (φ1 id) (fun b hb => ⟨.inl hb, (st1.live id _ b hH1 hlive hb).2⟩) ⟨rfl, rfl⟩ (by
      refine ⟨gg, arr, by rw [updφ_same]; exact c1, c2, by rw [List.length_set]; exact c3, fun k c u hk hu => ?_⟩
      by_cases e : k = i
      · subst e
        have hik : k < cs.length := (List.getElem?_eq_some_iff.1 hc).1
        rw [List.getElem?_set_self hik] at hk
        simp only [Option.some.injEq] at hk
        subst hk
        have hv := (c4 k _ u hc hu)
        have hu0 : u = .slice none 0 0 := by
          have := hv.1
          generalize u = z at this
          cases this
          rfl
        subst hu0
        refine ⟨.own _ _ _ _ _ (by simp) rfl (fun _ _ _ _ _ => Nat.zero_le _) fun E' s' xs' hx => ?_, rfl⟩
        have hne : H.length ≠ id := by omega
        rw [List.getElem?_set_ne (Ne.symm hne)] at hx
        simp at hx
        obtain ⟨rfl, rfl, rfl⟩ := hx
        refine ⟨by simp, .inl ⟨?_, rfl, rfl⟩⟩
        rw [updφ_ne _ _ _ _ hne, ← hφ, updφ_same]
      · rw [List.getElem?_set_ne (Ne.symm e)] at hk
        exact ⟨(c4 k c u hk hu).1.le le2, (c4 k c u hk hu).2⟩)
  rw [e0] at st2 le2
  exact h B X w0 w _ a g st2 ((eo.le le1).le le2)
/-- a slot that holds nil, or a struct with nil in its place i -/
inductive Prom (m : Nat) : AV → AV → Prop
  | nil : Prom m (.sc (.slice none 0 0)) (.own m 0 0 0)
  | agg (i : Nat) (xs : List AV) (h : xs[i]? = some (.sc (.slice none 0 0))) : Prom m (.agg xs) (.agg (xs.set i (.own m 0 0 0)))
theorem J_promV {c : Code} (E : TypeId) (s : Nat) (hs : 0 < s) (t : Nat) (x' : AV) (hx : Prom H.length (env t) x') (h : J P n c (upd env t x') (H ++ [.slice 0 E s []]) K) : J P n c env H K := by
  intro B X w0 w φ a g st eo
  have le1 : Le w φ H w (updφ φ H.length (.slice none 0 0)) (H ++ [.slice 0 E s []]) := Le_new (Gr.refl w) _ _ (fun b hb => by simp [vblk] at hb)
  have st1 : St B X w0 w (updφ φ H.length (.slice none 0 0)) (H ++ [.slice 0 E s []]) := St.new st (Gr.refl w) (.slice none 0 0) (.slice 0 E s []) (fun b hb => by simp [vblk] at hb)
    ⟨[], ⟨by simp, by simp, .inl ⟨by rw [updφ_same], rfl⟩⟩, hs, fun i x hx => by simp at hx, fun i x j c u hx => by simp at hx⟩
  have own : R w (updφ φ H.length (.slice none 0 0)) (H ++ [.slice 0 E s []]) (.own H.length 0 0 0) (.slice none 0 0) :=
    .own _ _ _ _ _ (by simp) rfl (fun _ _ _ _ _ => Nat.zero_le _) fun E' s' xs' hx => by
      simp at hx
      obtain ⟨rfl, rfl, rfl⟩ := hx
      exact ⟨by simp, .inl ⟨by rw [updφ_same], rfl, rfl⟩⟩
  have key : ∀ v, R w φ H (env t) v → R w (updφ φ H.length (.slice none 0 0)) (H ++ [.slice 0 E s []]) x' v := fun v r => by
    generalize env t = y at hx r
    cases hx with
    | nil => cases r; exact own
    | agg i xs hi =>
      cases r with
      | agg _ us hsz hr =>
        refine .agg _ us (by simpa using hsz) fun k x u hk hu => ?_
        by_cases e : k = i
        · subst e
          rw [List.getElem?_set_self (List.getElem?_eq_some_iff.1 hi).1] at hk
          simp only [Option.some.injEq] at hk
          subst hk
          have := hr k _ u hi hu
          generalize u = z at this
          cases this
          exact own
        · rw [List.getElem?_set_ne (Ne.symm e)] at hk
          exact (hr k x u hk hu).le le1
  refine h B X w0 w _ a g st1 ⟨eo.size, eo.defers, fun k hk => ?_, fun k hk => ?_⟩
  · by_cases e : k = t
    · subst e; simp only [upd, if_true]; exact key _ (eo.slot k hk)
    · simp only [upd, if_neg e]; exact (eo.slot k hk).le le1
  · by_cases e : k = t
    · subst e; simp only [upd, if_true]; exact key _ (eo.ghost k hk)
    · simp only [upd, if_neg e]; exact (eo.ghost k hk).le le1
end

/-! a call in place, told anew behind it -/
def ToldK (ret : AV) (e : Env) (h : List AO) [K : Ko (AV → Env → List AO → Prop)] : Prop := K.k ret e h
theorem told_of {ret : AV} {e : Env} {h : List AO} {K : AV → Env → List AO → Prop} (k : K ret e h) : @ToldK ret e h ⟨K⟩ := k
theorem call_join {P : Program} {σ : Type} {g : FuncId} {caps xs : List AV} {H : List AO} {E0 : Env} {K : AV → Env → List AO → Prop} (RV : σ → AV) (E : σ → Env) (Hs : σ → List AO) (I : σ → Prop)
    (h : CallIn P g (xs ++ caps) H E0 fun ret e h => @ToldK ret e h ⟨fun ret e h => ∃ s, I s ∧ ∃ ids : List Nat, ids.Nodup ∧ Hs s = renH ids h ∧ RV s = ren ids h ret ∧ ∀ t, E s t = .dead ∨ E s t = ren ids h (e t)⟩) (k : ∀ s, I s → K (RV s) (E s) (Hs s)) :
    @callK P false H E0 (.fn g caps) xs ⟨K⟩ := by
  refine call_in ⟨h.1, fun B X w0 w φ vals gg st hs hr hg => (h.2 B X w0 w φ vals gg st hs hr hg).mono ?_⟩
  rintro e w' ⟨v, ret, E', H', φ', he, ⟨s, hs, ids, nd, e1, e2, e3⟩, st', hv, hE⟩
  refine ⟨v, RV s, E s, Hs s, renφ ids φ', he, k s hs, by rw [e1]; exact st'.ren nd, by rw [e1, e2]; exact ren_R ids hv, fun t => ?_⟩
  rw [e1]
  rcases e3 t with h3 | h3
  · rw [h3]; exact .dead _
  · rw [h3]; exact ren_R ids (hE t)
theorem subR_of {H : List AO} {e : Env} {ret : AV} (l : List (Nat × AV)) (H' : List AO) (rv : AV) (ids : List Nat) (nd : ids.Nodup) (hH : H' = renH ids H) (hr : rv = ren ids H ret) (hl : ∀ p ∈ l, p.2 = Av.ren ids H (e p.1)) :
    ∃ ids : List Nat, ids.Nodup ∧ H' = renH ids H ∧ rv = ren ids H ret ∧ ∀ t, envL l t = .dead ∨ envL l t = ren ids H (e t) := by
  obtain ⟨ids', nd', _, h'⟩ : ∃ ids' : List Nat, ids' = ids ∧ True ∧ ∀ t, envL l t = .dead ∨ envL l t = ren ids H (e t) := ⟨ids, rfl, trivial, fun t => by
    unfold envL
    induction l with
    | nil => exact .inl rfl
    | cons p l ih =>
      obtain ⟨k, v⟩ := p
      rw [List.lookup_cons]
      by_cases hk : t = k
      · subst hk
        have := hl (t, v) (by simp)
        right; simpa using this
      · have : (t == k) = false := by simpa using hk
        rw [this]
        exact ih fun p hp => hl p (List.mem_cons_of_mem _ hp)⟩
  exact ⟨ids, nd, hH, hr, h'⟩

/-! places and pieces -/
section
variable {α : Type} {f : α → AV}
theorem ixL_map {xs : List α} {i : Int} {x : α} (h : ixL xs i = some x) : ixL (xs.map f) i = some (f x) := by
  unfold ixL at h ⊢
  split at h
  · rw [List.getElem?_map, h, if_pos ‹_›]; rfl
  · simp at h
theorem ixV_of {xs : List α} {i : Int} {x : α} {K : AV → Prop} (h : ixL xs i = some x) (k : K (f x)) : @IxV (xs.map f) i ⟨K⟩ := ⟨_, ixL_map h, k⟩
theorem ixS_of {s : List UInt8} {i : Int} {c : UInt8} {K : UInt8 → Prop} (h : ixL s i = some c) (k : K c) : @IxS s i ⟨K⟩ := ⟨_, h, k⟩
theorem ixL_lt {xs : List α} {i : Int} {x : α} (h : ixL xs i = some x) : 0 ≤ i ∧ i < xs.length := by
  obtain ⟨h0, h1⟩ := ixL_some h
  have := (List.getElem?_eq_some_iff.1 h1).1
  omega
theorem ixO_of {xs : List α} {i : Int} {x : α} {K : Prop} (h : ixL xs i = some x) (k : K) : @IxO xs.length i ⟨K⟩ := ⟨(ixL_lt h).1, (ixL_lt h).2, k⟩
theorem ixO_at {len : Nat} {xs : List α} {i : Int} {x : α} {K : Prop} (hl : len = xs.length) (h : ixL xs i = some x) (k : K) : @IxO len i ⟨K⟩ := hl ▸ ixO_of h k
theorem own_take {xs : List α} {n : Nat} (h : n = xs.length) : List.take n (List.map f xs) = List.map f xs := by rw [h, take_map_len]
theorem getK_of {xs : List α} {i : Int} {x : α} {K : AV → Prop} (h : ixL xs i = some x) (k : K (f x)) : @GetK (xs.map f) i.toNat ⟨K⟩ := ⟨f x, by rw [List.getElem?_map, (ixL_some h).2]; rfl, k⟩
theorem slL_map {xs r : List α} {l h : Int} (e : slL xs l h = some r) : slL (xs.map f) l h = some (r.map f) := by
  unfold slL at e ⊢
  rw [List.length_map]
  split at e
  · rw [if_pos ‹_›]
    simp only [Option.some.injEq] at e
    subst e
    simp [List.map_take, List.map_drop]
  · simp at e
theorem slS_of {s r : List UInt8} {l h : Int} {K : AV → Prop} (e : slL s l h = some r) (k : K (.str r)) : @SlS s l h ⟨K⟩ := ⟨r, e, k⟩
theorem slV_of {sz : Nat} {xs r : List α} {l h : Int} {K : AV → Prop} (e : slL xs l h = some r) (k : K (.view sz (r.map f))) : @SlV sz (xs.map f) l h ⟨K⟩ := ⟨_, slL_map e, k⟩
theorem slL_prop {xs r : List α} {l h : Int} (e : slL xs l h = some r) : 0 ≤ l ∧ l ≤ h ∧ h ≤ xs.length ∧ r = (xs.take h.toNat).drop l.toNat := by
  unfold slL at e
  split at e
  · rename_i hh
    simp only [Option.some.injEq] at e
    exact ⟨hh.1, hh.2.1, hh.2.2, e.symm⟩
  · simp at e
theorem slO_of {xs r : List α} {l h : Int} {K : Nat → Nat → Prop} (e : slL xs l h = some r) (k : K (0 + l.toNat) (h - l).toNat) : @SlO xs.length 0 l h ⟨K⟩ := by
  obtain ⟨h0, h1, h2, _⟩ := slL_prop e
  exact ⟨h0, h1, by omega, k⟩
theorem own_cut {xs r : List α} {l h : Int} (e : slL xs l h = some r) : List.take (h - l).toNat (List.drop l.toNat (List.map f xs)) = List.map f r := by
  obtain ⟨h0, h1, h2, rfl⟩ := slL_prop e
  rw [← List.map_drop, ← List.map_take]
  congr 1
  rw [List.drop_take]
  congr 1
  omega
theorem own_cut0 {xs r : List α} {h : Int} (e : slL xs 0 h = some r) : List.take (h - 0).toNat (List.map f xs) = List.map f r := by
  have := own_cut (f := f) e
  rwa [Int.toNat_zero, List.drop_zero] at this
theorem slL_len {xs r : List α} {l h : Int} (e : slL xs l h = some r) : (h - l).toNat = r.length := by
  obtain ⟨h0, h1, h2, rfl⟩ := slL_prop e
  simp; omega
theorem cut_ix {xs r : List α} {h i : Int} {x : α} (e : slL xs 0 h = some r) (hx : ixL r i = some x) : ixL xs i = some x := by
  obtain ⟨h0, h1, h2, rfl⟩ := slL_prop e
  obtain ⟨i0, hi⟩ := ixL_some hx
  rw [Int.toNat_zero, List.drop_zero, List.getElem?_take] at hi
  split at hi
  · unfold ixL; rw [if_pos i0]; exact hi
  · simp at hi
theorem ixO_cut {xs r : List α} {h i : Int} {x : α} {K : Prop} (e : slL xs 0 h = some r) (hx : ixL r i = some x) (k : K) : @IxO (h - 0).toNat i ⟨K⟩ := by
  have h3 := ixL_lt hx
  rw [← slL_len e] at h3
  exact ⟨h3.1, h3.2, k⟩
/-- a piece of a piece: told by the whole, and the place where it begins -/
theorem own_len (xs : List α) : List.take xs.length (List.drop 0 (List.map f xs)) = List.map f xs := by rw [List.drop_zero, take_map_len]

/-! append -/
variable {P : Program} {H : List AO} {K : AV → List AO → Prop} {E t t2 : TypeId} {s b ver id : Nat} {u : Unit}
theorem room_le {n b : Nat} (h : n ≤ 140737488355328) (hb : b ≤ 1) : n * b ≤ 140737488355328 := Nat.le_trans (Nat.mul_le_mul h hb) (by decide)
theorem app_own (xs zs : List α) {y : AV} (hH : H[id]? = some (.slice ver E s (xs.map f))) (ht : tyS P t = some (E, s, b)) (hb : b ≤ 1) (hy : elemsV H y fun sy ys => sy = s ∧ ys = zs.map f) (hsz : szC (xs ++ zs).length = some u)
    (k : K (.own id (ver + 1) 0 (xs ++ zs).length) (H.set id (.slice (ver + 1) E s ((xs ++ zs).map f)))) : @appK P t t H (.own id ver 0 xs.length) y ⟨K⟩ := by
  have h2 := szC_le hsz
  rw [List.length_append] at h2
  have h3 := room_le h2 hb
  unfold appK appV
  simp only [ht, hH, true_and]
  have key : t = t ∧ elemsV H y fun sy ys => sy = s ∧ (xs.length + ys.length) * b ≤ 140737488355328 ∧ xs.length + ys.length ≤ 9223372036854775807 ∧ K (.own id (ver + 1) 0 (xs.length + ys.length)) (H.set id (.slice (ver + 1) E s ((xs.map f).take xs.length ++ ys))) := by
    refine ⟨rfl, ?_⟩
    have hk : ∀ sy ys, (sy = s ∧ ys = zs.map f) → sy = s ∧ (xs.length + ys.length) * b ≤ 140737488355328 ∧ xs.length + ys.length ≤ 9223372036854775807 ∧ K (.own id (ver + 1) 0 (xs.length + ys.length)) (H.set id (.slice (ver + 1) E s ((xs.map f).take xs.length ++ ys))) := by
      rintro sy ys ⟨rfl, rfl⟩
      rw [take_map_len, List.length_map, ← List.map_append, ← List.length_append]
      rw [List.length_append]
      exact ⟨rfl, h3, by omega, by rw [← List.length_append]; exact k⟩
    unfold elemsV at hy ⊢
    split at hy
    · exact hk _ _ hy
    · exact hk _ _ hy
    · split at hy
      · exact ⟨hy.1, hk _ _ hy.2⟩
      · exact hy.elim
    · exact hy.elim
  cases y <;> first | exact key | exact key.2 | exact ⟨trivial, key.2⟩ | (simp only [elemsV] at hy)
theorem app_str (xs bs : List UInt8) (hH : H[id]? = some (.slice ver E 1 (xs.map encB))) (ht : tyS P t = some (E, 1, b)) (hb : b ≤ 1) (h2 : isStr P t2 = true) (hsz : szC (xs ++ bs).length = some u)
    (k : K (.own id (ver + 1) 0 (xs ++ bs).length) (H.set id (.slice (ver + 1) E 1 ((xs ++ bs).map encB)))) : @appK P t t2 H (.own id ver 0 xs.length) (.str bs) ⟨K⟩ := by
  have h4 := szC_le hsz
  rw [List.length_append] at h4
  have h3 := room_le h4 hb
  unfold appK appV
  simp only [ht, hH, true_and]
  refine ⟨h2, h3, by omega, ?_⟩
  rw [take_map_len, ← List.map_append, ← List.length_append]
  exact k
theorem app_nil (zs : List α) {y : AV} (ht : tyS P t = some (E, s, b)) (hb : b ≤ 1) (hy : elemsV H y fun sy ys => sy = s ∧ ys = zs.map f) (hsz : szC zs.length = some u)
    (k : K (.own H.length 0 0 zs.length) (H ++ [.slice 0 E s (zs.map f)])) : @appK P t t H (.sc (.slice none 0 0)) y ⟨K⟩ := by
  have h2 := szC_le hsz
  have h3 := room_le h2 hb
  unfold appK appV
  simp only [ht]
  have key : t = t ∧ elemsV H y fun sy ys => sy = s ∧ ys.length * b ≤ 140737488355328 ∧ ys.length ≤ 9223372036854775807 ∧ appN E s H ys K := by
    refine ⟨rfl, ?_⟩
    have hk : ∀ sy ys, (sy = s ∧ ys = zs.map f) → sy = s ∧ ys.length * b ≤ 140737488355328 ∧ ys.length ≤ 9223372036854775807 ∧ appN E s H ys K := by
      rintro sy ys ⟨rfl, rfl⟩
      rw [List.length_map]
      refine ⟨rfl, h3, by omega, ?_⟩
      unfold appN
      rw [List.length_map]
      exact k
    unfold elemsV at hy ⊢
    split at hy
    · exact hk _ _ hy
    · exact hk _ _ hy
    · split at hy
      · exact ⟨hy.1, hk _ _ hy.2⟩
      · exact hy.elim
    · exact hy.elim
  cases y <;> first | exact key | exact key.2 | exact ⟨trivial, key.2⟩ | (simp only [elemsV] at hy)
theorem app_nilstr (bs : List UInt8) (ht : tyS P t = some (E, 1, b)) (hb : b ≤ 1) (h2 : isStr P t2 = true) (hsz : szC bs.length = some u)
    (k : K (.own H.length 0 0 bs.length) (H ++ [.slice 0 E 1 (bs.map encB)])) : @appK P t t2 H (.sc (.slice none 0 0)) (.str bs) ⟨K⟩ := by
  have h4 := szC_le hsz
  have h3 := room_le h4 hb
  unfold appK appV
  simp only [ht, true_and]
  refine ⟨h2, h3, by omega, ?_⟩
  unfold appN
  rw [List.length_map]
  exact k
/-- the same of elements of more than one byte: the room is counted in bytes -/
theorem app_ownW {c : Nat} (xs zs : List α) {y : AV} (hH : H[id]? = some (.slice ver E s (xs.map f))) (ht : tyS P t = some (E, s, b)) (hb : b ≤ c ∧ 1 ≤ c) (hy : elemsV H y fun sy ys => sy = s ∧ ys = zs.map f) (hsz : szC (c * (xs ++ zs).length) = some u)
    (k : K (.own id (ver + 1) 0 (xs ++ zs).length) (H.set id (.slice (ver + 1) E s ((xs ++ zs).map f)))) : @appK P t t H (.own id ver 0 xs.length) y ⟨K⟩ := by
  have h2 := szC_le hsz
  have h2b : (xs ++ zs).length * b ≤ c * (xs ++ zs).length := by rw [Nat.mul_comm]; exact Nat.mul_le_mul_right _ hb.1
  have h2c : 1 * (xs ++ zs).length ≤ c * (xs ++ zs).length := Nat.mul_le_mul_right _ hb.2
  rw [Nat.one_mul] at h2c
  rw [List.length_append] at h2 h2b h2c
  have h3 := Nat.le_trans h2b h2
  unfold appK appV
  simp only [ht, hH, true_and]
  have key : t = t ∧ elemsV H y fun sy ys => sy = s ∧ (xs.length + ys.length) * b ≤ 140737488355328 ∧ xs.length + ys.length ≤ 9223372036854775807 ∧ K (.own id (ver + 1) 0 (xs.length + ys.length)) (H.set id (.slice (ver + 1) E s ((xs.map f).take xs.length ++ ys))) := by
    refine ⟨rfl, ?_⟩
    have hk : ∀ sy ys, (sy = s ∧ ys = zs.map f) → sy = s ∧ (xs.length + ys.length) * b ≤ 140737488355328 ∧ xs.length + ys.length ≤ 9223372036854775807 ∧ K (.own id (ver + 1) 0 (xs.length + ys.length)) (H.set id (.slice (ver + 1) E s ((xs.map f).take xs.length ++ ys))) := by
      rintro sy ys ⟨rfl, rfl⟩
      rw [take_map_len, List.length_map, ← List.map_append, ← List.length_append]
      rw [List.length_append]
      exact ⟨rfl, h3, by omega, by rw [← List.length_append]; exact k⟩
    unfold elemsV at hy ⊢
    split at hy
    · exact hk _ _ hy
    · exact hk _ _ hy
    · split at hy
      · exact ⟨hy.1, hk _ _ hy.2⟩
      · exact hy.elim
    · exact hy.elim
  cases y <;> first | exact key | exact key.2 | exact ⟨trivial, key.2⟩ | (simp only [elemsV] at hy)
theorem app_nilW {c : Nat} (zs : List α) {y : AV} (ht : tyS P t = some (E, s, b)) (hb : b ≤ c ∧ 1 ≤ c) (hy : elemsV H y fun sy ys => sy = s ∧ ys = zs.map f) (hsz : szC (c * zs.length) = some u)
    (k : K (.own H.length 0 0 zs.length) (H ++ [.slice 0 E s (zs.map f)])) : @appK P t t H (.sc (.slice none 0 0)) y ⟨K⟩ := by
  have h2 := szC_le hsz
  have h3 : zs.length * b ≤ 140737488355328 := Nat.le_trans (by rw [Nat.mul_comm]; exact Nat.mul_le_mul_right _ hb.1) h2
  have h2c : 1 * zs.length ≤ c * zs.length := Nat.mul_le_mul_right _ hb.2
  rw [Nat.one_mul] at h2c
  unfold appK appV
  simp only [ht]
  have key : t = t ∧ elemsV H y fun sy ys => sy = s ∧ ys.length * b ≤ 140737488355328 ∧ ys.length ≤ 9223372036854775807 ∧ appN E s H ys K := by
    refine ⟨rfl, ?_⟩
    have hk : ∀ sy ys, (sy = s ∧ ys = zs.map f) → sy = s ∧ ys.length * b ≤ 140737488355328 ∧ ys.length ≤ 9223372036854775807 ∧ appN E s H ys K := by
      rintro sy ys ⟨rfl, rfl⟩
      rw [List.length_map]
      refine ⟨rfl, h3, by omega, ?_⟩
      unfold appN
      rw [List.length_map]
      exact k
    unfold elemsV at hy ⊢
    split at hy
    · exact hk _ _ hy
    · exact hk _ _ hy
    · split at hy
      · exact ⟨hy.1, hk _ _ hy.2⟩
      · exact hy.elim
    · exact hy.elim
  cases y <;> first | exact key | exact key.2 | exact ⟨trivial, key.2⟩ | (simp only [elemsV] at hy)
end

/-! an object that is wanted no more; objects behind the others -/
theorem St.kill {B : Nat} {X : Nat → Prop} {w0 w : World} {φ : Nat → Value} {H : List AO} (st : St B X w0 w φ H) {j : Nat} {o : AO} (hj : H[j]? = some o) (hl : o.live = true) : St B X w0 w (updφ φ j (φ j)) (H.set j .gone) ∧ Le w φ H w (updφ φ j (φ j)) (H.set j .gone) := by
  have hle : LeO o .gone (φ j) (φ j) := by cases o <;> simp_all [LeO, AO.live]
  exact ⟨St.upd st hj hl rfl rfl rfl (Nat.le_refl _) (fun _ _ _ => rfl) (φ j) (fun b hb => ⟨.inl hb, (st.live j o b hj hl hb).2⟩) hle trivial,
    Le_upd st hj hl (Nat.le_refl _) (fun _ _ _ => rfl) (φ j) (fun b hb => .inl hb) hle⟩
theorem set_same {α : Type} {H : List α} {i : Nat} {o : α} (h : H[i]? = some o) : H.set i o = H := by
  obtain ⟨hlt, he⟩ := List.getElem?_eq_some_iff.1 h
  rw [← he, List.set_getElem_self]
theorem set_get {α : Type} {H : List α} {i : Nat} {o p : α} (h : H[i]? = some o) : (H.set i p)[i]? = some p := List.getElem?_set_self (List.getElem?_eq_some_iff.1 h).1
theorem app_get {α : Type} {H T : List α} {i : Nat} {o : α} (h : H[i]? = some o) : (H ++ T)[i]? = some o := by rw [List.getElem?_append_left (List.getElem?_eq_some_iff.1 h).1]; exact h
theorem app_set {α : Type} {H T : List α} {i : Nat} {o p : α} (h : H[i]? = some o) : (H ++ T).set i p = H.set i p ++ T := List.set_append_left _ _ (List.getElem?_eq_some_iff.1 h).1
theorem new_get {α : Type} {H : List α} {o : α} : (H ++ [o])[H.length]? = some o := by simp
theorem Kept.slice {H : List AO} {j v E s : Nat} {xs : List AV} : Kept H (H.set j (.slice v E s xs)) := by
  refine ⟨by simp, fun hN o ho => ?_⟩
  rw [List.length_set]
  rcases List.mem_or_eq_of_mem_set ho with h | rfl
  · exact hN o h
  · rfl

/-- a strings.Builder's first word: nil, or itself -/
def selfC (u : Bool) (i : Nat) : AV := if u then .bptr i 0 else .sc (.pointer none)
theorem selfC_t (i : Nat) : selfC true i = .bptr i 0 := rfl
theorem selfC_f (i : Nat) : selfC false i = .sc (.pointer none) := rfl
attribute [go_sem] selfC_t selfC_f

/-! stores into lists -/
theorem set_encB (xs : List UInt8) (i : Nat) (b : UInt8) : (xs.map encB).set i (.int .u8 (b2i b)) = (xs.set i b).map encB := by rw [List.map_set]; rfl
theorem set_encI (k : IntKind) (xs : List Int) (i : Nat) (b : Int) : (xs.map (encI k)).set i (.int k b) = (xs.set i b).map (encI k) := by rw [List.map_set]; rfl
theorem set_encS (xs : List (List UInt8)) (i : Nat) (b : List UInt8) : (xs.map encS).set i (.str b) = (xs.set i b).map encS := by rw [List.map_set]; rfl
theorem set_encO (xs : List Bool) (i : Nat) (b : Bool) : (xs.map encO).set i (.bool b) = (xs.set i b).map encO := by rw [List.map_set]; rfl
attribute [go_sem] set_encB set_encI set_encS set_encO putEl
end Go.Av
