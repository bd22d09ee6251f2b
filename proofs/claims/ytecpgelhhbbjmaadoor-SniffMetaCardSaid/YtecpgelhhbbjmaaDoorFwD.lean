/- Av, part R: a region that draws its order and makes memory: what is made anew is told as a view of it; in whatever order the operations come, the slots read the same behind it. -/
import Derived.Test.YtecpgelhhbbjmaaDoorFwC
namespace Go.Av
open Go.RowKit
set_option linter.unusedVariables false

/-- a transformer that hands its continuation one value -/
def Str {α : Type} (T : (α → Prop) → Prop) : Prop := ∀ K, T K → ∃ x, K x ∧ T (fun y => y = x)
section
variable {α : Type}
theorem str_pure (a : α) : Str fun K => K a := fun K h => ⟨a, h, rfl⟩
theorem str_false : Str fun (K : α → Prop) => False := fun K h => h.elim
theorem str_and {p : Prop} {T : (α → Prop) → Prop} (h : Str T) : Str fun K => p ∧ T K := fun K ⟨hp, hk⟩ => let ⟨x, h1, h2⟩ := h K hk; ⟨x, h1, hp, h2⟩
theorem str_ite {c : Prop} [Decidable c] {A B : (α → Prop) → Prop} (h1 : Str A) (h2 : Str B) : Str fun K => if c then A K else B K := by
  by_cases hc : c
  · simp only [if_pos hc]; exact h1
  · simp only [if_neg hc]; exact h2
theorem str_chk {p : Prop} {T : (α → Prop) → Prop} (h : Str T) : Str fun K => @Chk p ⟨T K⟩ := str_and h
theorem str_guard {b w : Bool} {A B : (α → Prop) → Prop} (h1 : Str A) (h2 : Str B) : Str fun K => @guardK b w ⟨A K⟩ ⟨B K⟩ := fun K h => by
  by_cases hb : b = w
  · obtain ⟨x, hx, ht⟩ := h1 K (h.1 hb)
    exact ⟨x, hx, fun _ => ht, fun e => by subst hb; cases b <;> simp at e⟩
  · have hb' : b = !w := by cases b <;> cases w <;> simp_all
    obtain ⟨x, hx, ht⟩ := h2 K (h.2 hb')
    exact ⟨x, hx, fun e => absurd e hb, fun _ => ht⟩
theorem str_getK {xs : List AV} {i : Nat} {f : AV → (α → Prop) → Prop} (h : ∀ e, Str (f e)) : Str fun K => @GetK xs i ⟨fun e => f e K⟩ := fun K ⟨e, he, hk⟩ =>
  let ⟨x, h1, h2⟩ := h e K hk; ⟨x, h1, e, he, h2⟩
end
theorem str_ixV {xs : List AV} {n : Int} {g : AV → AV} : Str fun K => @IxV xs n ⟨fun e => K (g e)⟩ := fun K ⟨e, he, hk⟩ => ⟨g e, hk, e, he, rfl⟩
theorem str_ixV1 {xs : List AV} {n : Int} : Str fun K => @IxV xs n ⟨K⟩ := fun K ⟨e, he, hk⟩ => ⟨e, hk, e, he, rfl⟩
theorem str_ixS {s : List UInt8} {n : Int} {g : UInt8 → AV} : Str fun K => @IxS s n ⟨fun c => K (g c)⟩ := fun K ⟨e, he, hk⟩ => ⟨g e, hk, e, he, rfl⟩
theorem str_ixO {len : Nat} {n : Int} {a : AV} : Str fun K => @IxO len n ⟨K a⟩ := fun K ⟨h1, h2, hk⟩ => ⟨a, hk, h1, h2, rfl⟩
theorem str_slS {s : List UInt8} {l h : Int} : Str fun K => @SlS s l h ⟨K⟩ := fun K ⟨r, hr, hk⟩ => ⟨_, hk, r, hr, rfl⟩
theorem str_slV {sz : Nat} {xs : List AV} {l h : Int} : Str fun K => @SlV sz xs l h ⟨K⟩ := fun K ⟨r, hr, hk⟩ => ⟨_, hk, r, hr, rfl⟩
theorem str_slO {n off : Nat} {l h : Int} {g : Nat → Nat → AV} : Str fun K => @SlO n off l h ⟨fun o m => K (g o m)⟩ := fun K ⟨h1, h2, h3, hk⟩ => ⟨_, hk, h1, h2, h3, rfl⟩
theorem str_bytesK {xs : List AV} : Str fun K => @BytesK xs ⟨K⟩ := fun K ⟨bs, hb, hk⟩ => ⟨_, hk, bs, hb, rfl⟩

section
variable {P : Program} {H : List AO}
theorem str_ldV (T : TypeId) (cs : List AV) : Str fun K => ldV P T cs K := by
  unfold ldV
  repeat' split
  all_goals first | exact str_pure _ | exact str_false | exact str_and (str_pure _)
theorem str_ldP {α : Type} (p : AV) {f : List AV → (α → Prop) → Prop} (h : ∀ cs, Str (f cs)) : Str fun K => ldP H p fun cs => f cs K := by
  unfold ldP
  repeat' split
  all_goals first | exact h _ | exact str_false | exact str_and (str_getK fun e => h _)
theorem str_binI (op : BinOp) (k : IntKind) (a b : Int) : Str fun K => binI op k a b K := by
  unfold binI
  split
  all_goals first | exact str_pure _ | exact str_false | exact str_chk (str_pure _)
theorem str_shiftI (op : BinOp) (k : IntKind) (a b : Int) : Str fun K => shiftI op k a b K := by
  unfold shiftI
  split
  all_goals first | exact str_pure _ | exact str_false | exact str_chk (str_pure _)
theorem str_binS (op : BinOp) (a b : List UInt8) : Str fun K => binS op a b K := by
  unfold binS
  split
  all_goals first | exact str_pure _ | exact str_false | exact str_chk (str_pure _)
theorem str_binB (op : BinOp) (a b : Bool) : Str fun K => binB op a b K := by
  unfold binB
  split
  all_goals first | exact str_pure _ | exact str_false | exact str_chk (str_pure _)
theorem str_eqB (op : BinOp) (b : Bool) : Str fun K => eqB op b K := by
  unfold eqB
  split
  all_goals first | exact str_pure _ | exact str_false
theorem str_binP (op : BinOp) (T : TypeId) (x y : AV) : Str fun K => binP P H op T x y K := by
  unfold binP
  exact str_and (str_ite (str_eqB _ _) (str_ite (str_eqB _ _) (str_ite (str_eqB _ _) (str_ite (str_eqB _ _) str_false))))
theorem str_binV (op : BinOp) (T : TypeId) (x y : AV) : Str fun K => binV P H op T x y K := by
  unfold binV
  split
  · split
    · exact str_shiftI _ _ _ _
    · exact str_shiftI _ _ _ _
    · exact str_and (str_binI _ _ _ _)
  · exact str_binS _ _ _
  · exact str_and (str_binB _ _ _)
  · unfold eqA
    repeat' split
    all_goals first | exact str_false | exact str_eqB _ _
  · exact str_and (str_eqB _ _)
  · exact str_binP _ _ _ _
theorem str_nilV (op : BinOp) (T : TypeId) (x y : AV) : Str fun K => nilV P H op T x y K := by
  unfold nilV
  split
  · exact str_and (str_eqB _ _)
  · exact str_binV _ _ _ _
theorem str_unV (op : UnOp) (x : AV) : Str fun K => unV op x K := by
  unfold unV
  split
  all_goals first | exact str_pure _ | exact str_false
theorem str_elemsV {α : Type} (x : AV) {f : Nat → List AV → (α → Prop) → Prop} (h : ∀ s xs, Str (f s xs)) : Str fun K => elemsV H x fun s xs => f s xs K := by
  unfold elemsV
  repeat' split
  all_goals first | exact h _ _ | exact str_false | exact str_and (h _ _)
theorem str_bytesV (src dst : TypeId) (x : AV) : Str fun K => bytesV P src dst H x K := by
  unfold bytesV
  exact str_and (str_and (str_elemsV x fun _ _ => str_bytesK))
theorem str_convV (src dst : TypeId) (x : AV) : Str fun K => convV P src dst H x K := by
  unfold convV
  repeat' split
  all_goals first | exact str_pure _ | exact str_false | exact str_and (str_pure _) | exact str_bytesV _ _ _
theorem str_ixVV (T : TypeId) (x i : AV) : Str fun K => ixV P T H x i K := by
  unfold ixV
  repeat' split
  all_goals first | exact str_false | exact str_and str_ixV | exact str_and (str_and str_ixV) | exact str_and (str_and str_ixO) | exact str_and (str_and (str_and (str_and (str_and (str_and str_ixO)))))
theorem str_arm (xs : List AV) (a b : Option Int) : Str fun K => arV xs a b K := by
  unfold arV
  cases a <;> cases b
  all_goals first | exact str_slV | exact str_false
theorem str_slVV (T : TypeId) (x : AV) (lo hi : Option AV) : Str fun K => slV P T H x lo hi K := by
  unfold slV
  repeat' split
  all_goals first | exact str_false | exact str_and str_slS | exact str_and str_slV | exact str_and (str_and str_slO) | exact str_and str_false | exact str_and (str_and str_false) | exact str_and (str_and (str_and (str_arm _ _ _)))
theorem str_paV (p : AV) (d : Nat) : Str fun K => paV p d K := by
  unfold paV
  split
  all_goals first | exact str_pure _ | exact str_false
theorem str_faV (T : TypeId) (p : AV) (i : Nat) : Str fun K => faV P H T p i K := by
  unfold faV
  repeat' split
  all_goals first | exact str_false | exact str_ldP p fun _ => str_paV _ _
theorem str_lenV (t : TypeId) (x : AV) : Str fun K => lenV P t H x K := by
  unfold lenV
  repeat' split
  all_goals first | exact str_false | exact str_and (str_pure _) | exact str_and (str_and (str_pure _))
theorem str_ncV (x : AV) : Str fun K => ncV H x K := by
  unfold ncV
  split
  all_goals first | exact str_pure _ | exact str_ldP _ fun _ => str_pure _
theorem str_usdV (x : AV) : Str fun K => usdV H x K := by
  unfold usdV
  repeat' split
  all_goals first | exact str_pure _ | exact str_false | exact str_and (str_and (str_pure _))
theorem str_sOp (op : Op) (env : Env) : Str fun K => sOp P op env H K := by
  unfold sOp
  repeat' split
  all_goals first | exact str_pure _ | exact str_false | exact str_guard (str_pure _) (str_pure _) | exact str_nilV _ _ _ _ | exact str_binV _ _ _ _ | exact str_unV _ _ | exact str_ldP _ fun _ => str_ldV _ _ | exact str_ixVV _ _ _ |
    exact str_and str_ixS | exact str_and str_ixV1 | exact str_slVV _ _ _ _ | exact str_ldV _ _ | exact str_faV _ _ _ | exact str_and (str_convV _ _ _) | exact str_and (str_pure _) | exact str_ncV _ | exact str_lenV _ _ | exact str_usdV _ | exact str_and (str_and (str_pure _))
end

/-- what an own slice of 'objs' is told as, beside them: a view -/
def tov1 (objs : List AO) : AV → AV
  | .own id ver off len => (match objs[id]? with
    | some (.slice v _ s xs) => if v = ver then .view s ((xs.drop off).take len) else .dead
    | _ => .dead)
  | x => if x.flat then x else .dead
def tov2 (objs : List AO) : AV → AV
  | .agg xs => .agg (xs.map (tov1 objs))
  | x => tov1 objs x
def tov (objs : List AO) : AV → AV
  | .tup xs => .tup (xs.map (tov2 objs))
  | x => tov2 objs x

section
variable {P : Program} {B : Nat} {X : Nat → Prop} {w0 w w' : World} {φ φc : Nat → Value} {H objs : List AO} {n : Nat}

theorem flat_R {x : AV} {v : Value} (r : R w φ H x v) (h : x.flat = true) {w2 : World} {φ2 : Nat → Value} {H2 : List AO} : R w2 φ2 H2 x v := by
  cases x <;> simp [AV.flat] at h
  all_goals exact r.free rfl rfl

theorem HeapOK.st (hG : GW w) (g : Gr w w') (hp : HeapOK w' w.heap.size φc objs) : St w.heap.size (fun _ => False) w w' φc objs :=
  ⟨g, Nat.le_refl _, GK.of hG, fun id o b h hl hv => ⟨.inl (hp.live id o b h hl hv).1, (hp.live id o b h hl hv).2⟩, hp.inj, hp.chunk⟩

theorem tov1_R (hG : GW w) (g : Gr w w') (hp : HeapOK w' w.heap.size φc objs) (hov : ∀ o ∈ objs, vfO o) (hnl : ∀ b, w.heap.size ≤ b → NL φ H b) {x : AV} {v : Value} (r : R w' φc objs x v) : R w' φ H (tov1 objs x) v := by
  have st := hp.st hG g
  have hflat : R w' φ H (if x.flat then x else .dead) v := by
    by_cases h : x.flat = true
    · rw [if_pos h]; exact flat_R r h
    · rw [if_neg h]; exact .dead v
  cases x
  case own id ver off len =>
    simp only [tov1]
    rcases hH : objs[id]? with _ | o
    · exact .dead v
    cases o with
    | box _ _ => exact .dead v
    | iter _ _ => exact .dead v
    | gone => exact .dead v
    | slice ver' E s xs =>
      dsimp only
      by_cases hv : ver' = ver
      · rw [if_pos hv]
        subst hv
        obtain ⟨cs, c1, c2, c3, c4⟩ := st.chunk id _ hH
        obtain ⟨s', ys, hys, rd⟩ := elemsV_sound (K := fun s' ys => s' = s ∧ ys = (xs.drop off).take len) st r (by simp [elemsV, hH])
        obtain ⟨rfl, rfl⟩ := hys
        have hel := rd
        obtain ⟨_, _, _, _, hel, _⟩ := hel
        obtain ⟨ad, cap, rfl, hcap, hne⟩ := rd.choose
        by_cases he : (xs.drop off).take len = []
        · rw [he]; exact .view0 _ _ _
        · obtain ⟨b, o, u, rfl, h1, h2⟩ := hne he
          have hb := RdS.lt c2 hel he h1
          have hvf := hov _ (List.mem_of_getElem? hH)
          have hmem : ∀ (i : Nat) (x : AV), ((xs.drop off).take len)[i]? = some x → x.vf = true := fun i x hi => hvf x (List.mem_of_mem_drop (List.mem_of_mem_take (List.mem_of_getElem? hi)))
          refine .view _ b o s' cap u hcap hb (hnl b ?_) (fun i x hi => (hel i x hi).1) (fun i x hi => (hel i x hi).2) h1 (fun i x j c hi hj => (h2 i x j c hi hj).free (AV.closed_cells (hel i x hi).1 hj) (AV.vf_cells (hmem i x hi) hj))
          cases r with
          | own _ _ _ _ _ hid _ hvv hh =>
            obtain ⟨o1, o2⟩ := hh E s' xs hH
            rcases o2 with ⟨f1, f2, f3⟩ | ⟨g', cap', f1, f2, ad, f5, f3, f4⟩
            · simp at f2
            · have hlt : off < cap' := by
                have : (xs.drop off).length ≠ 0 := fun h0 => he (by rw [List.eq_nil_of_length_eq_zero h0, List.take_nil])
                rw [List.length_drop] at this
                omega
              have had := f3 hlt
              subst had
              simp at f5
              have := (hp.live id _ g' hH rfl (by rw [f1]; rfl)).1
              omega
      · rw [if_neg hv]; exact .dead v
  all_goals exact hflat
theorem tov2_R (hG : GW w) (g : Gr w w') (hp : HeapOK w' w.heap.size φc objs) (hov : ∀ o ∈ objs, vfO o) (hnl : ∀ b, w.heap.size ≤ b → NL φ H b) {x : AV} {v : Value} (r : R w' φc objs x v) : R w' φ H (tov2 objs x) v := by
  cases x
  case agg xs =>
    cases r with
    | agg _ us hs hr =>
      refine .agg _ us (by simp [hs]) fun i x u hi hu => ?_
      simp only [List.getElem?_map, Option.map_eq_some_iff] at hi
      obtain ⟨y, hy, rfl⟩ := hi
      exact tov1_R hG g hp hov hnl (hr i y u hy hu)
  all_goals exact tov1_R hG g hp hov hnl r
theorem tov_R (hG : GW w) (g : Gr w w') (hp : HeapOK w' w.heap.size φc objs) (hov : ∀ o ∈ objs, vfO o) (hnl : ∀ b, w.heap.size ≤ b → NL φ H b) {x : AV} {v : Value} (r : R w' φc objs x v) : R w' φ H (tov objs x) v := by
  cases x
  case tup xs =>
    cases r with
    | tup _ us hs hr =>
      refine .tup _ us (by simp [hs]) fun i x u hi hu => ?_
      simp only [List.getElem?_map, Option.map_eq_some_iff] at hi
      obtain ⟨y, hy, rfl⟩ := hi
      exact tov2_R hG g hp hov hnl (hr i y u hy hu)
  all_goals exact tov2_R hG g hp hov hnl r
theorem St.far (st : St B X w0 w φ H) : ∀ b, w.heap.size ≤ b → NL φ H b := fun b hb id o h hl hv => absurd (st.live id o b h hl hv).2 (by omega)
end

def callFV (P : Program) (H : List AO) (f : AV) (xs : List AV) (K : AV → Prop) : Prop := match f with
  | .fn g caps => ∃ args' ret objs, argsR H (xs ++ caps) args' ∧ CallOK P g args' ret objs ∧ K (tov objs ret)
  | _ => False
def callFK (P : Program) (H : List AO) (f : AV) (xs : List AV) [K : Ko (AV → Prop)] : Prop := callFV P H f xs K.k
def cvF (P : Program) (src dst : TypeId) (x : AV) (K : AV → Prop) : Prop := match x with
  | .str s => hasT P src = true ∧ tyS P dst = some ((elT P dst).getD 0, 1, 1) ∧ ikT P ((elT P dst).getD 0) = some .u8 ∧ @Chk (s.length ≤ 9223372036854775807) ⟨K (.view 1 (s.map encB))⟩
  | _ => False
def flat2 : AV → Bool
  | .agg xs => xs.all AV.flat
  | x => x.flat
def bsF (P : Program) (T : TypeId) (len : Nat) (ix : List Nat) (xs : List AV) (K : AV → Prop) : Prop := match tyS P T with
  | some (E, s, _) => ix = List.range len ∧ len * s ≤ 16777216 ∧ elsB s xs = true ∧ xs.all flat2 = true ∧ K (.view s xs)
  | none => False
def fOp (P : Program) (op : Op) (ty : TypeId) (env : Env) (H : List AO) (K : AV → Prop) : Prop := match op with
  | .call { callee := .value f, args, argTypes := _ } => @callFK P H (evO env f) (args.toList.map (evO env)) ⟨K⟩
  | .buildSlice T len parts => bsF P T len (parts.toList.map (·.1)) (parts.toList.map fun p => evO env p.2) K
  | .build T parts => buildV P T (parts.toList.map fun p => (p.1, evO env p.2)) K
  | .alloc T => (match zeroA P T with
    | some zs => zs.all AV.one = true ∧ K .dead
    | none => False)
  | .convert src dst x => if effOp P (.convert src dst x) env then cvF P src dst (evO env x) K else hasT P src = true ∧ convV P src dst H (evO env x) K
  | op => if effOp P op env then False else sOp P op env H K
def FO (P : Program) (ops : Array Oper) : List Oper → Env → List AO → (Env → Prop) → Prop
  | [], env, H, K => K env
  | o :: rest, env, H, K => match o.guard with
    | none => fOp P o.op o.type env H fun x => FO P ops rest (put env o.dst x) H K
    | some (j, want) => match (ops[j]?).bind (·.dst) with
      | some d => (match env d with
        | .bool b => @guardK b want ⟨fOp P o.op o.type (upd env d (.bool want)) H fun x => FO P ops rest (put (upd env d (.bool want)) o.dst x) H K⟩
            ⟨FO P ops rest (put (upd env d (.bool (!want))) o.dst (.sc (.tuple #[]))) H K⟩
        | .sc (.tuple _) => FO P ops rest (put env o.dst (.sc (.tuple #[]))) H K
        | _ => False)
      | none => False

section
variable {P : Program} {H : List AO}
theorem str_buildV (T : TypeId) (l : List (Nat × AV)) : Str fun K => buildV P T l K := by
  unfold buildV
  repeat' split
  all_goals first | exact str_false | exact str_and (str_pure _) | exact str_and str_false | exact str_and (str_and (str_pure _)) | exact str_and (str_and str_false)
theorem str_fOp (op : Op) (ty : TypeId) (env : Env) : Str fun K => fOp P op ty env H K := by
  have hs := str_sOp (P := P) (H := H) op env
  unfold fOp
  split
  · unfold callFK callFV
    split
    · exact fun K ⟨args', ret, objs, h1, h2, h3⟩ => ⟨_, h3, args', ret, objs, h1, h2, rfl⟩
    · exact str_false
  · unfold bsF
    split
    · exact str_and (str_and (str_and (str_and (str_pure _))))
    · exact str_false
  · exact str_buildV _ _
  · split
    · exact str_and (str_pure _)
    · exact str_false
  · refine str_ite ?_ (str_and (str_convV _ _ _))
    unfold cvF
    split
    · exact str_and (str_and (str_and (str_chk (str_pure _))))
    · exact str_false
  · exact str_ite str_false hs

theorem evO_eq {env env' : Env} {x : Operand} (h : ∀ t, x = .tmp t → env t = env' t) : evO env x = evO env' x := by
  cases x
  case tmp t => exact h t rfl
  all_goals rfl
end

section
variable {P : Program} {H : List AO} {ops : Array Oper} {n : Nat} {B : Nat} {X : Nat → Prop} {w0 w : World} {φ : Nat → Value}
theorem map_evO {env env' : Env} {l : List Operand} (h : ∀ x ∈ l, evO env x = evO env' x) : l.map (evO env) = l.map (evO env') := List.map_congr_left h
theorem fOp_local {op : Op} {ty : TypeId} {env env' : Env} {K : AV → Prop} (h : ∀ x ∈ op.operands.toList, evO env x = evO env' x) : fOp P op ty env H K = fOp P op ty env' H K := by
  cases op
  case call c =>
    obtain ⟨callee, args, argTypes⟩ := c
    cases callee
    case value f =>
      simp only [fOp]
      rw [h f (by simp [Op.operands, Call.operands]), map_evO (l := args.toList) fun x hx => h x (by simp [Op.operands, Call.operands]; exact .inr (by simpa using hx))]
    case invoke r m => rfl
    case builtin b =>
      have ha : ∀ x ∈ args.toList, evO env x = evO env' x := fun x hx => h x (by simp [Op.operands, Call.operands]; simpa using hx)
      obtain ⟨l⟩ := args
      obtain ⟨tl⟩ := argTypes
      rcases l with _ | ⟨x, _ | ⟨y, _ | ⟨z, l⟩⟩⟩
      · cases b <;> first | rfl | (simp only [fOp, effOp, sOp])
      · have e := ha x (by simp)
        cases b <;> first | rfl | (simp only [fOp, effOp, sOp, e]; rfl) | (rcases tl with _ | ⟨t, _ | ⟨t2, tl⟩⟩ <;> first | rfl | (simp only [fOp, effOp, sOp, e]; rfl) | (simp only [fOp, effOp, sOp, e]; done))
      · have e := ha x (by simp)
        have e2 := ha y (by simp)
        cases b <;> first | rfl | (simp only [fOp, effOp, sOp, e, e2]; rfl) | (simp only [fOp, effOp, sOp, e, e2]; done)
      · cases b <;> first | rfl | (simp only [fOp, effOp, sOp])
  case slice T x lo hi mx =>
    cases lo <;> cases hi <;> cases mx <;> simp [Op.operands] at h <;> simp only [fOp, effOp, sOp, Option.map, h] <;> rfl
  case makeFunc f first captured =>
    have ha : ∀ x ∈ captured.toList, evO env x = evO env' x := fun x hx => h x (by simp [Op.operands]; first | exact .inr (by simpa using hx) | simpa using hx)
    have hm := map_evO ha
    cases f <;> first | rfl | (simp only [fOp, effOp, sOp, hm]; rfl)
  case buildSlice T len parts =>
    simp only [fOp]
    rw [List.map_congr_left (l := parts.toList) (f := fun p => evO env p.2) (g := fun p => evO env' p.2) fun p hp => h p.2 (by simp [Op.operands]; exact ⟨p.1, by simpa using hp⟩)]
  case build T parts =>
    simp only [fOp]
    rw [List.map_congr_left (l := parts.toList) (f := fun p => (p.1, evO env p.2)) (g := fun p => (p.1, evO env' p.2)) fun p hp => by rw [h p.2 (by simp [Op.operands]; exact ⟨p.1, by simpa using hp⟩)]]
  case assign x =>
    have he : effOp P (.assign x) env = effOp P (.assign x) env' := by
      cases x <;> first | rfl | skip
      rename_i v
      cases v <;> first | rfl | skip
      rename_i a l c
      cases a <;> cases l <;> cases c <;> rfl
    simp [Op.operands] at h
    simp only [fOp, he, sOp, h]
  case pick c x y =>
    simp [Op.operands] at h
    simp only [fOp, effOp, sOp]
    rw [h.1, h.2.1, h.2.2]
    rfl
  case typeAssert z sT T cok =>
    simp [Op.operands] at h
    cases cok <;> first | rfl | (simp only [fOp, effOp, sOp, h]; rfl) | (simp only [fOp, effOp, sOp, h]; done)
  all_goals first
    | rfl
    | (simp [Op.operands] at h; simp only [fOp, effOp, sOp, h]; rfl)
    | (simp [Op.operands] at h; simp only [fOp, effOp, sOp, h]; done)

/-- the operation o gives x, told of env alone -/
def FY (P : Program) (ops : Array Oper) (H : List AO) (o : Oper) (E : Env) (x : AV) : Prop := match o.guard with
  | none => fOp P o.op o.type E H fun y => y = x
  | some (j, want) => match (ops[j]?).bind (·.dst) with
    | some d => (match E d with
      | .bool b => if b = want then fOp P o.op o.type E H fun y => y = x else x = .sc (.tuple #[])
      | .sc (.tuple _) => x = .sc (.tuple #[])
      | _ => False)
    | none => False

theorem looksAt_op {o : Oper} {t : Tmp} (h : .tmp t ∈ o.op.operands.toList) : t ∈ o.looksAt ops := by
  unfold Oper.looksAt
  refine List.mem_append.2 (.inl (List.mem_filterMap.2 ⟨_, h, rfl⟩))
theorem looksAt_guard {o : Oper} {j d : Nat} {want : Bool} (hg : o.guard = some (j, want)) (hd : (ops[j]?).bind (·.dst) = some d) : d ∈ o.looksAt ops := by
  unfold Oper.looksAt
  refine List.mem_append.2 (.inr ?_)
  rw [hg]
  simp [hd]

theorem FY_local {o : Oper} {E E' : Env} {x : AV} (h : ∀ t ∈ o.looksAt ops, E t = E' t) (hy : FY P ops H o E x) : FY P ops H o E' x := by
  have hf : (fOp P o.op o.type E H fun y => y = x) = fOp P o.op o.type E' H fun y => y = x := fOp_local fun y hy => evO_eq fun t e => h t (looksAt_op (by rw [← e]; exact hy))
  unfold FY at hy ⊢
  rcases hg : o.guard with _ | ⟨j, want⟩
  · rw [hg] at hy
    rw [← hf]; exact hy
  · rw [hg] at hy
    dsimp only at hy ⊢
    rcases hd : (ops[j]?).bind (·.dst) with _ | d
    · rw [hd] at hy; exact hy.elim
    · rw [hd] at hy
      dsimp only at hy ⊢
      rw [← h d (looksAt_guard hg hd)]
      rw [← hf]; exact hy

theorem upd_self {E : Env} {d : Nat} {v : AV} (h : E d = v) : upd E d v = E := by
  funext t
  unfold upd
  split
  · rename_i e; rw [e, h]
  · rfl

/-- the steps of 'FO', one behind the other -/
theorem FO_step {o : Oper} {rest : List Oper} {E : Env} {K : Env → Prop} (h : FO P ops (o :: rest) E H K) : ∃ x, FY P ops H o E x ∧ FO P ops rest (put E o.dst x) H K := by
  unfold FO at h
  unfold FY
  rcases hg : o.guard with _ | ⟨j, want⟩
  · rw [hg] at h
    dsimp only at h ⊢
    obtain ⟨x, h1, h2⟩ := str_fOp (P := P) (H := H) o.op o.type E _ h
    exact ⟨x, h2, h1⟩
  · rw [hg] at h
    dsimp only at h ⊢
    rcases hd : (ops[j]?).bind (·.dst) with _ | d
    · rw [hd] at h; exact h.elim
    · rw [hd] at h
      dsimp only at h ⊢
      generalize hed : E d = ed at h
      cases ed <;> (try exact h.elim)
      case bool b =>
        dsimp only at h ⊢
        by_cases hb : b = want
        · have h1 := h.1 hb
          subst hb
          dsimp only at h1
          rw [upd_self hed] at h1
          obtain ⟨x, h2, h3⟩ := str_fOp (P := P) (H := H) o.op o.type E _ h1
          exact ⟨x, by rw [if_pos rfl]; exact h3, h2⟩
        · have hb' : b = !want := by cases b <;> cases want <;> simp_all
          have h1 := h.2 hb'
          rw [← hb'] at h1
          dsimp only at h1
          rw [upd_self hed] at h1
          exact ⟨_, by rw [if_neg hb], h1⟩
      case sc u =>
        cases u <;> (try exact h.elim)
        exact ⟨_, rfl, h⟩

/-- any order, of abstract values -/
def AnyA (P : Program) (md : Region.Mode) (ops : Array Oper) (H : List AO) (Q : Env → Prop) : Nat → Array Bool → Env → Prop
  | 0, listed, E => Region.ready md ops listed = [] ∧ Q E
  | f + 1, listed, E => (Region.ready md ops listed = [] → Q E) ∧ ∀ i ∈ Region.ready md ops listed, ∀ o, ops[i]? = some o → ∃ x, FY P ops H o E x ∧ AnyA P md ops H Q f (listed.setIfInBounds i true) (put E o.dst x)

theorem put_comm {E : Env} {d d' : Option Tmp} {x y : AV} (h : ∀ t, d = some t → d' ≠ some t) : put (put E d x) d' y = put (put E d' y) d x := by
  cases d with
  | none => rfl
  | some d =>
    cases d' with
    | none => rfl
    | some d' =>
      have hne : d ≠ d' := fun e => h d rfl (by rw [e])
      funext t
      simp only [put, upd]
      by_cases h1 : t = d
      · subst h1; simp [hne]
      · by_cases h2 : t = d'
        · subst h2; simp [h1]
        · simp [h1, h2]
theorem put_off {E : Env} {d : Option Tmp} {x : AV} {t : Nat} (h : d ≠ some t) : put E d x t = E t := by
  cases d with
  | none => rfl
  | some d => simp only [put, upd]; rw [if_neg fun e => h (by rw [e])]

variable {md : Region.Mode} {Q : Env → Prop}
theorem AnyA_first {i : Nat} {oi : Oper} {x : AV} (hi : ops[i]? = some oi) :
    ∀ (fuel : Nat) (listed : Array Bool) (E : Env),
      (∀ j oj, ops[j]? = some oj → j ≠ i → listed.getD j true = false → (∀ e ∈ oj.after, Region.binds md e = true → e.on ≠ i) → oi.apart ops oj = true) →
      i ∈ Region.ready md ops listed → FY P ops H oi E x →
      AnyA P md ops H Q fuel (listed.setIfInBounds i true) (put E oi.dst x) → AnyA P md ops H Q (fuel + 1) listed E := by
  intro fuel
  induction fuel with
  | zero =>
    intro listed E _ hr hy hA
    refine ⟨fun h => (by rw [h] at hr; cases hr), fun j hj o ho => ?_⟩
    by_cases hji : j = i
    · subst hji
      rw [hi] at ho; cases ho
      exact ⟨x, hy, hA⟩
    · have := ready_mono hj hji
      rw [hA.1] at this
      cases this
  | succ fuel ih =>
    intro listed E hfree hr hy hA
    refine ⟨fun h => (by rw [h] at hr; cases hr), fun j hj oj hoj => ?_⟩
    by_cases hji : j = i
    · subst hji
      rw [hi] at hoj; cases hoj
      exact ⟨x, hy, hA⟩
    · obtain ⟨y, h1, h2⟩ := hA.2 j (ready_mono hj hji) oj hoj
      obtain ⟨hjun, oj', hoj', hall⟩ := mem_ready.1 hj
      rw [hoj] at hoj'; cases hoj'
      have hnot : ∀ e ∈ oj.after, Region.binds md e = true → e.on ≠ i := fun e he hb heq => by
        have h1 := hall e he hb
        have h0 := (mem_ready.1 hr).1
        rw [heq] at h1
        rcases Nat.lt_or_ge i listed.size with h' | h'
        · simp [h'] at h0 h1; rw [h0] at h1; cases h1
        · simp [Array.getElem?_eq_none h'] at h1
      have hap := hfree j oj hoj hji hjun hnot
      obtain ⟨a1, a2, a3⟩ := Oper.apart_spec hap
      have hfree' : ∀ k ok, ops[k]? = some ok → k ≠ i → (listed.setIfInBounds j true).getD k true = false →
          (∀ e ∈ ok.after, Region.binds md e = true → e.on ≠ i) → oi.apart ops ok = true := fun k ok hk hki hun hno => by
        refine hfree k ok hk hki ?_ hno
        by_cases hjk : j = k
        · subst hjk; exact hjun
        · rw [getD_set_ne true hjk] at hun; exact hun
      refine ⟨y, FY_local (fun t ht => put_off fun e => a1 t e ht) h1, ih (listed.setIfInBounds j true) _ hfree' (ready_mono hr (Ne.symm hji)) (FY_local (fun t ht => (put_off fun e => a3 t e ht).symm) hy) ?_⟩
      rw [Array.setIfInBounds_comm _ _ hji, ← put_comm a2]
      exact h2

theorem AnyA_lex (hs : Region.noSelect ops = true) : ∀ (l : List Oper) (k : Nat) (listed : Array Bool) (E : Env), (∀ j, l[j]? = ops[k + j]?) →
    Region.lexFrom md ops l.length k listed = true → FO P ops l E H Q → AnyA P md ops H Q l.length listed E
  | [], _, _, _, _, hB, h => ⟨by simpa [Region.lexFrom] using hB, h⟩
  | o :: l, k, listed, E, hl, hB, h => by
    have h0 : ops[k]? = some o := by simpa using (hl 0).symm
    simp only [List.length_cons, Region.lexFrom, Bool.and_eq_true] at hB
    obtain ⟨⟨hr, hf⟩, hB'⟩ := hB
    obtain ⟨x, hy, hK⟩ := FO_step h
    exact AnyA_first h0 l.length listed E (Region.free_spec h0 hf) (by simpa using hr) hy
      (AnyA_lex hs l (k + 1) _ _ (fun j => by have := hl (j + 1); simpa [Nat.add_assoc, Nat.add_comm 1 j] using this) hB' hK)
end

section
variable {P : Program} {H : List AO} {ops : Array Oper} {n : Nat} {B : Nat} {X : Nat → Prop} {w0 w : World} {φ : Nat → Value}
theorem flat2_R {w w2 : World} {φ φ2 : Nat → Value} {H H2 : List AO} {x : AV} {v : Value} (r : R w φ H x v) (h : flat2 x = true) : R w2 φ2 H2 x v := by
  cases x
  case agg xs =>
    cases r with
    | agg _ us hs hr => exact .agg _ us hs fun i x u hi hu => flat_R (hr i x u hi hu) (List.all_eq_true.1 h x (List.mem_of_getElem? hi))
  all_goals exact flat_R r h
/-- the slots that name no memory, alone -/
def flatE (env : Env) : Env := fun t => if flat2 (env t) then env t else .dead
theorem flatE_R {w' : World} {env : Env} {a : Act} {g : Gh} (eo : EnvOK w φ H env a n g) {φ' : Nat → Value} {H' : List AO} : EnvOK w' φ' H' (flatE env) a n g :=
  ⟨eo.size, eo.defers, fun t ht => by
    unfold flatE
    by_cases h : flat2 (env t) = true
    · rw [if_pos h]; exact flat2_R (eo.slot t ht) h
    · rw [if_neg h]; exact .dead _, fun t ht => by
    unfold flatE
    by_cases h : flat2 (env t) = true
    · rw [if_pos h]; exact flat2_R (eo.ghost t ht) h
    · rw [if_neg h]; exact .dead _⟩
theorem flatE_ev {env : Env} {y : Operand} (h : flat2 (evO env y) = true) : evO (flatE env) y = evO env y := by
  cases y
  case tmp t => simp only [evO] at h ⊢; unfold flatE; rw [if_pos h]
  all_goals rfl
theorem flat2_vf {x : AV} (h : flat2 x = true) : x.vf = true := by
  have h1 : ∀ x : AV, x.flat = true → x.vf = true := fun x h => by cases x <;> simp [AV.flat] at h <;> rfl
  cases x
  case agg xs =>
    simp only [AV.vf]
    induction xs with
    | nil => rfl
    | cons y r ih =>
      simp only [flat2, List.all_cons, Bool.and_eq_true] at h
      simp only [AV.vfL, Bool.and_eq_true]
      exact ⟨h1 y h.1, ih h.2⟩
  all_goals exact h1 _ h
theorem St.bare {w : World} (hG : GW w) : St w.heap.size (fun _ => False) w w (fun _ => undef) [] :=
  ⟨Frame.refl _ _ _, Nat.le_refl _, GK.of hG, fun id o b h => by simp at h, fun id id' o o' b h => by simp at h, fun id o h => by simp at h⟩

theorem fOp_sound (st : St B X w0 w φ H) {env : Env} {a : Act} {g : Gh} (eo : EnvOK w φ H env a n g) {o : Oper} (hn : opOK n o.op = true) {x : AV} (h : fOp P o.op o.type env H fun y => y = x)
    {next : Act → World → Prop} {Q : Exit → Act → World → Prop} (hk : ∀ v w', Gr w w' → R w' φ H x v → next (a.put o.dst v) w') : o.wp P a w next Q := by
  have other : sOp P o.op env H (fun y => y = x) → o.wp P a w next Q := fun h => by
    obtain ⟨y, v, rfl, h2, h3⟩ := sOp_sound st eo hn h
    unfold Oper.wp
    rw [h3 w (Ext.refl w)]
    exact hk v w (Gr.refl w) h2
  have eff : ∀ {K : AV → List AO → Prop}, eOp P o.op o.type (flatE env) [] K → (∀ y H', K y H' → tov H' y = x ∧ ∀ q ∈ H', vfO q) → o.wp P a w next Q := fun he hK => by
    obtain ⟨y, H', φ', v, nx, w', h1, h2, h3, h4, h5, h6⟩ := eOp_sound (St.bare st.gw) (flatE_R eo (w' := w)) hn he
    have gr : Gr w w' := h4.frame
    have hp : HeapOK w' w.heap.size φ' H' := ⟨fun id o b h hl hv => by
      have := h4.live id o b h hl hv
      exact ⟨by rcases this.1 with q | q; exact q; exact q.elim, this.2⟩, h4.inj, h4.chunk⟩
    obtain ⟨e1, e2⟩ := hK y H' h1
    have r := tov_R st.gw gr hp e2 st.far h6
    rw [e1] at r
    unfold Oper.wp
    rw [h2]
    rcases h3 with rfl | ⟨rfl, rfl⟩
    · exact hk v w' gr r
    · exact hk undef w' gr r
  obtain ⟨dst, op, ty, pos, after, guard⟩ := o
  dsimp only at h other eff hk
  cases op
  case call c =>
    obtain ⟨callee, args, argTypes⟩ := c
    cases callee
    case value f =>
      simp only [fOp, callFK] at h
      have ev : ∀ x, x ∈ (Op.call { callee := .value f, args := args, argTypes := argTypes }).operands.toList → R w φ H (evO env x) (a.eval x) := fun x hx => evO_R eo x (List.all_eq_true.1 hn x hx)
      have rf := ev f (by simp [Op.operands, Call.operands])
      generalize hfe : a.eval f = vf at rf
      generalize evO env f = ef at h rf
      cases ef <;> (try exact h.elim)
      rename_i g' caps
      cases rf with
      | fn _ _ us hs hr =>
        simp only [callFV] at h
        obtain ⟨args', ret, objs, har, ⟨hpf, hrv, hov, hc⟩, hkx⟩ := h
        have hcall := hc w (args.map a.eval ++ us) st.gw (by rw [(argsR_get har).1]; simp [hs]) (fun i x v hx hv => by
          obtain ⟨y, hy, hxy⟩ := (argsR_get har).2 i x hx
          refine argR_R st ?_ hxy
          rcases Nat.lt_or_ge i args.size with hlt | hge
          · rw [List.getElem?_append_left (by simpa using hlt), List.getElem?_map, Option.map_eq_some_iff] at hy
            obtain ⟨z, hz, rfl⟩ := hy
            rw [Array.getElem?_append_left (by simpa using hlt), Array.getElem?_map, Option.map_eq_some_iff] at hv
            obtain ⟨z', hz', rfl⟩ := hv
            simp at hz
            rw [hz] at hz'
            simp at hz'
            subst hz'
            exact ev z (by simp [Op.operands, Call.operands]; exact .inr (Array.mem_of_getElem? hz))
          · rw [List.getElem?_append_right (by simpa using hge)] at hy
            rw [Array.getElem?_append_right (by simpa using hge)] at hv
            simp at hy hv
            exact hr _ y v hy hv)
        have hrun : (execOp a.eval { dst := dst, op := Op.call { callee := .value f, args := args, argTypes := argTypes }, type := ty, pos := pos, after := after, guard := guard }).run P w = .ok (.enter g' (args.map a.eval ++ us)) w := by
          simp [execOp, resolve, hfe, Deferred.ofValue, invoke, run_callFunc hpf]
        unfold Oper.wp
        rw [hrun]
        show Calls P g' _ w _
        refine hcall.mono fun e w' ⟨v, φc, he, hg, hh, hret⟩ => ?_
        subst he
        have r := tov_R st.gw hg hh hov st.far hret
        rw [hkx] at r
        exact hk v w' hg r
    case invoke r m => simp only [fOp, effOp] at h; exact other (by simpa using h)
    case builtin b =>
      simp only [fOp] at h
      by_cases he : effOp P (Op.call { callee := .builtin b, args := args, argTypes := argTypes }) env = true
      · rw [if_pos he] at h; exact h.elim
      · rw [if_neg he] at h; exact other h
  case buildSlice T len parts =>
    simp only [fOp, bsF] at h
    split at h
    · rename_i E s b hty
      obtain ⟨h1, h2, h3, h4, h5⟩ := h
      have hev : (parts.toList.map fun p => evO (flatE env) p.2) = parts.toList.map fun p => evO env p.2 := List.map_congr_left fun p hp => flatE_ev (List.all_eq_true.1 h4 _ (List.mem_map.2 ⟨p, hp, rfl⟩))
      have hl : parts.size = len := by have := congrArg List.length h1; simpa using this
      refine eff (K := fun y H' => tov H' y = x ∧ ∀ q ∈ H', vfO q) ?_ fun y H' h => h
      simp only [eOp, hty, hev]
      refine ⟨h1, h2, h3, ?_, ?_⟩
      · rw [← h5]
        show tov _ _ = _
        simp only [tov, tov2, tov1, List.length_nil, List.nil_append, List.getElem?_cons_zero, if_true, List.drop_zero]
        rw [List.take_of_length_le (by simp [hl])]
      · intro q hq
        simp only [List.nil_append, List.mem_singleton] at hq
        subst hq
        intro y hy
        exact flat2_vf (List.all_eq_true.1 h4 y hy)
    · exact h.elim
  case build T parts =>
    obtain ⟨y, v, h1, h2, h3⟩ := build_sound (ρ := a.eval) (fun p hp => evO_R eo p.2 (List.all_eq_true.1 hn _ (by simp only [Op.operands]; exact List.mem_map.2 ⟨p, hp, rfl⟩))) (by first | exact h | (simp only [vOp] at h; exact h) | (simp only [fOp] at h; exact h))
    unfold Oper.wp
    rw [show (execOp a.eval { dst := dst, op := Op.build T parts, type := ty, pos := pos, after := after, guard := guard }).run P w = .ok (.value v) w by simp only [execOp, Sem.run_bind, h3, Result.andThen_ok, Sem.run_pure]]
    exact hk v w (Gr.refl w) (by rw [← h1]; exact h2)
  case alloc T =>
    simp only [fOp] at h
    split at h
    · rename_i zs hz
      obtain ⟨i, z, hi, hiz, rfl⟩ : ∃ i z, P.info? T = some i ∧ i.zero = some z ∧ z.cells.toList.map constA = zs := by
        unfold zeroA at hz
        simp only [Option.map_eq_some_iff, Option.bind_eq_some_iff] at hz
        obtain ⟨z, ⟨i, hi, hiz⟩, e⟩ := hz
        exact ⟨i, z, hi, hiz, e⟩
      unfold Oper.wp
      rw [show (execOp a.eval { dst := dst, op := Op.alloc T, type := ty, pos := pos, after := after, guard := guard }).run P w = .ok (.value (.pointer (some ⟨w.heap.size, 0, none⟩))) (w.alloc (.cells z.cells T)) by simp [execOp, Instr.alloc, zeroValue, typeInfo, hi, hiz, newVar, newRow]]
      exact hk _ _ (Gr.alloc w _) (by rw [← h.2]; exact .dead _)
    · exact h.elim
  case convert src dst' y =>
    simp only [fOp] at h
    by_cases he : effOp P (Op.convert src dst' y) env = true
    · rw [if_pos he] at h
      unfold cvF at h
      split at h
      · rename_i s hs
        obtain ⟨h1, h2, h3, h4, h5⟩ := h
        have hfe : evO (flatE env) y = .str s := by rw [flatE_ev (by rw [hs]; rfl), hs]
        refine eff (K := fun y H' => tov H' y = x ∧ ∀ q ∈ H', vfO q) ?_ fun y H' h => h
        simp only [eOp, hfe]
        refine ⟨h1, h2, h3, h4, ?_, ?_⟩
        · rw [← h5]
          show tov _ _ = _
          simp [tov, tov2, tov1]
          exact List.take_of_length_le (by simp)
        · intro q hq
          simp at hq
          subst hq
          simp [vfO, encB, AV.vf]
      · exact h.elim
    · rw [if_neg he] at h
      exact other h
  all_goals
    simp only [fOp] at h
    split at h
    · exact h.elim
    · exact other h

theorem FY_sound (st : St B X w0 w φ H) {env : Env} {a : Act} {g : Gh} (eo : EnvOK w φ H env a n g) {o : Oper} (hok : regOK n ops = true) (hmem : o ∈ ops.toList) {x : AV} (h : FY P ops H o env x)
    {next : Act → World → Prop} {Q : Exit → Act → World → Prop} (hk : ∀ v w', Gr w w' → R w' φ H x v → next (a.put o.dst v) w') : if Region.wanted o (yielded ops a.tmps) then o.wp P a w next Q ∨ (o.asks P a w ∧ LetsOut Q) else next (a.put o.dst undef) w := by
  have hon := List.all_eq_true.1 hok o hmem
  simp only [Bool.and_eq_true] at hon
  have step : (fOp P o.op o.type env H fun y => y = x) → o.wp P a w next Q := fun h => fOp_sound st eo hon.1.1 h hk
  unfold FY at h
  rcases hg : o.guard with _ | ⟨j, want⟩
  · rw [hg] at h
    rw [if_pos (by simp [Region.wanted, hg])]
    exact .inl (step h)
  · rw [hg] at h
    dsimp only at h
    rcases hd : (ops[j]?).bind (·.dst) with _ | d
    · rw [hd] at h; exact h.elim
    · rw [hd] at h
      dsimp only at h
      have hdn : d < n := by
        have := hon.2
        rw [hg] at this
        dsimp only at this
        rw [hd] at this
        simpa using this
      have hy : ∀ v, a.tmps.getD d undef = v → yielded ops a.tmps j = (match v with | .bool b => some b | _ => none) := fun v hv => by
        have hlt : d < a.tmps.size := by rw [eo.size]; exact hdn
        unfold yielded
        rw [hd]
        have : a.tmps[d]? = some v := by rw [← hv, Array.getD_eq_getD_getElem?, Array.getElem?_eq_getElem hlt]; rfl
        simp only [Option.bind_some, this]
        cases v <;> rfl
      have hr := eo.slot d hdn
      have skip : x = .sc (.tuple #[]) → next (a.put o.dst undef) w := fun e => hk undef w (Gr.refl w) (by rw [e]; exact .sc _)
      generalize hed : env d = ed at h hr
      cases ed <;> (try exact h.elim)
      case bool b =>
        dsimp only at h
        have hv : a.tmps.getD d undef = .bool b := by generalize a.tmps.getD d undef = v at hr; cases hr; rfl
        have hyb := hy _ hv
        dsimp only at hyb
        by_cases hb : b = want
        · rw [if_pos (by simp [Region.wanted, hg, hyb, hb])]
          rw [if_pos hb] at h
          exact .inl (step h)
        · rw [if_neg (by simp [Region.wanted, hg, hyb, hb])]
          rw [if_neg hb] at h
          exact skip h
      case sc u =>
        cases u <;> (try exact h.elim)
        rename_i us
        have hv : a.tmps.getD d undef = .tuple us := by generalize a.tmps.getD d undef = v at hr; cases hr; rfl
        have hyb := hy _ hv
        dsimp only at hyb
        rw [if_neg (by simp [Region.wanted, hg, hyb])]
        exact skip h

theorem AnyA_sound {md : Region.Mode} {Q : Env → Prop} {g : Gh} (hok : regOK n ops = true) {Qc : Exit → Act → World → Prop} (st : St B X w0 w φ H)
    (hq : ∀ env w' a, Q env → Gr w w' → EnvOK w' φ H env a n g → Qc .normal a w') :
    ∀ (fuel : Nat) (listed : Array Bool) (env : Env) (a : Act) (w' : World), AnyA P md ops H Q fuel listed env → Gr w w' → EnvOK w' φ H env a n g → wpAny P md ops Qc fuel listed a w'
  | 0, _, env, a, w', h, gr, eo => ⟨h.1, hq env w' a h.2 gr eo⟩
  | fuel + 1, listed, env, a, w', h, gr, eo => by
    refine ⟨fun h0 => hq env w' a (h.1 h0) gr eo, fun i hi => ?_⟩
    unfold wpOp
    split
    · rename_i ho
      obtain ⟨_, oi, hoi, _⟩ := mem_ready.1 hi
      rw [ho] at hoi; cases hoi
    · rename_i o ho
      obtain ⟨x, hy, hn⟩ := h.2 i hi o ho
      have hmem : o ∈ ops.toList := Array.mem_toList_iff.2 (Array.mem_of_getElem? ho)
      have hon := List.all_eq_true.1 hok o hmem
      simp only [Bool.and_eq_true] at hon
      refine FY_sound (st.ext gr).1 eo hok hmem hy fun v w'' gr' r => ?_
      exact AnyA_sound hok st hq fuel _ _ _ w'' hn (gr.trans gr') ((eo.le ((st.ext gr).1.ext gr').2).put o.dst hon.1.2 r)

/-- a region that draws its order, in which memory is made, and none that was there is written -/
theorem J_regionf {id : Nat} {env : Env} {K : Post} (hm : P.follows .mixedOrders = true) (hB : Region.lexB .any ops = true) (hok : regOK n ops = true) (h : FO P ops ops.toList env H fun e => @Hold2 e H ⟨fun e h => K .normal e h⟩) : J P n (.region id ops true) env H K := by
  intro B X w0 w φ a g st eo
  simp only [Region.lexB, Bool.and_eq_true] at hB
  refine wp_region_any hm ?_
  obtain ⟨st1, le1⟩ := st.ext (Gr.drew w)
  have hA := AnyA_lex (md := .any) (Q := fun e => K .normal e H) hB.1 ops.toList 0 (Array.replicate ops.size false) env (by simp) (by simpa using hB.2) h
  have := AnyA_sound (P := P) (g := g) (Qc := Lift B X w0 n g K) hok st1 (fun env w' a k gr eo => ⟨env, H, φ, k, (st1.ext gr).1, eo⟩) _ _ _ a _ hA (Gr.refl _) (eo.le le1)
  simpa using this
end
theorem call_okf {P : Program} {H : List AO} {g : FuncId} {caps xs : List AV} {K : AV → Prop} (args' : List AV) {ret : AV} {objs : List AO} (h : CallOK P g args' ret objs) (ha : argsR H (xs ++ caps) args') (k : K (tov objs ret)) : @callFK P H (.fn g caps) xs ⟨K⟩ := ⟨args', ret, objs, ha, h, k⟩
attribute [go_sem ↓] FO fOp
attribute [go_sem] buildV cvF bsF flat2 tov tov2 tov1
end Go.Av
namespace Go.Av
open Go.RowKit
set_option linter.unusedVariables false

/-- the slots behind the first operations: a new variable is an object of ours, what names memory is forgotten -/
def endE : List Oper → Nat → Env → Env
  | [], _, e => e
  | o :: r, k, e => match o.dst with
    | none => endE r k e
    | some d => (match o.op with
      | .alloc _ => endE r (k + 1) (upd e d (.bptr k 0))
      | _ => endE r k (upd e d (if flat2 (e d) then e d else .dead)))
def endH (P : Program) : List Oper → List AO
  | [] => []
  | o :: r => (match o.dst, o.op with
    | some _, .alloc T => .box T ((zeroA P T).getD []) :: endH P r
    | _, _ => endH P r)
/-- each slot is written once; a variable is made without a condition -/
def dstsOK (P : Program) (ops : Array Oper) (m : Nat) : Bool := decide ((ops.toList.filterMap (·.dst)).Nodup) && (ops.toList.take m).all fun o => match o.op with
  | .alloc T => o.guard.isNone && o.dst.isSome && (match zeroA P T with
    | some zs => zs.all AV.one
    | none => false)
  | _ => true

section
variable {P : Program} {H : List AO} {ops : Array Oper} {n : Nat} {B : Nat} {X : Nat → Prop} {w0 w : World} {φ : Nat → Value} {md : Region.Mode}

def AnyL (P : Program) (md : Region.Mode) (ops : Array Oper) (H : List AO) (m : Nat) (L : Array Bool → Env → Prop) : Nat → Array Bool → Env → Prop
  | 0, listed, E => L listed E
  | f + 1, listed, E => Region.ready md ops listed ≠ [] ∧ ∀ i ∈ Region.ready md ops listed, i < m ∧ ∀ o, ops[i]? = some o → ∃ x, FY P ops H o E x ∧ AnyL P md ops H m L f (listed.setIfInBounds i true) (put E o.dst x)

theorem AnyL_first {m i : Nat} {oi : Oper} {x : AV} {L : Array Bool → Env → Prop} (hi : ops[i]? = some oi)
    (hs : Region.sinkB md ops m = true) (hc : Region.chainB md ops m = true) (hm : m < ops.size) (him : i < m) (hdone : ∀ listed E, L listed E → ∀ j ∈ Region.ready md ops listed, m ≤ j) :
    ∀ (f : Nat) (listed : Array Bool) (E : Env), HeadInv md ops m listed →
      (∀ j oj, ops[j]? = some oj → j ≠ i → listed.getD j true = false → (∀ e ∈ oj.after, Region.binds md e = true → e.on ≠ i) → oi.apart ops oj = true) →
      i ∈ Region.ready md ops listed → FY P ops H oi E x → AnyL P md ops H m L f (listed.setIfInBounds i true) (put E oi.dst x) → AnyL P md ops H m L (f + 1) listed E := by
  intro f
  induction f with
  | zero =>
    intro listed E inv _ hr hy hA
    have hun := (mem_ready.1 hr).1
    refine ⟨fun h => (by rw [h] at hr; cases hr), fun j hj => ?_⟩
    have hjm : j < m := by
      rcases Nat.lt_or_ge j m with h | h
      · exact h
      · exact absurd hj (tail_waits hs hc hm inv _ i rfl him hun j h)
    refine ⟨hjm, fun oj hoj => ?_⟩
    by_cases hji : j = i
    · subst hji
      rw [hi] at hoj; cases hoj
      exact ⟨x, hy, hA⟩
    · have := hdone _ _ hA j (ready_mono hj hji)
      omega
  | succ f ih =>
    intro listed E inv hfree hr hy hA
    have hun := (mem_ready.1 hr).1
    refine ⟨fun h => (by rw [h] at hr; cases hr), fun j hj => ?_⟩
    have hjm : j < m := by
      rcases Nat.lt_or_ge j m with h | h
      · exact h
      · exact absurd hj (tail_waits hs hc hm inv _ i rfl him hun j h)
    refine ⟨hjm, fun oj hoj => ?_⟩
    by_cases hji : j = i
    · subst hji
      rw [hi] at hoj; cases hoj
      exact ⟨x, hy, hA⟩
    · obtain ⟨y, h1, h2⟩ := (hA.2 j (ready_mono hj hji)).2 oj hoj
      obtain ⟨hjun, oj', hoj', hall⟩ := mem_ready.1 hj
      rw [hoj] at hoj'; cases hoj'
      have hnot : ∀ e ∈ oj.after, Region.binds md e = true → e.on ≠ i := fun e he hb heq => by
        have h1 := hall e he hb
        rw [heq, getD_both hun] at h1
        cases h1
      obtain ⟨a1, a2, a3⟩ := Oper.apart_spec (hfree j oj hoj hji hjun hnot)
      have hfree' : ∀ k ok, ops[k]? = some ok → k ≠ i → (listed.setIfInBounds j true).getD k true = false →
          (∀ e ∈ ok.after, Region.binds md e = true → e.on ≠ i) → oi.apart ops ok = true := fun k ok hk hki hun hno => by
        refine hfree k ok hk hki ?_ hno
        by_cases hjk : j = k
        · subst hjk; exact hjun
        · rw [getD_set_ne true hjk] at hun; exact hun
      refine ⟨y, FY_local (fun t ht => put_off fun e => a1 t e ht) h1, ih (listed.setIfInBounds j true) _ (inv.set hj hjm) hfree' (ready_mono hr (Ne.symm hji)) (FY_local (fun t ht => (put_off fun e => a3 t e ht).symm) hy) ?_⟩
      rw [Array.setIfInBounds_comm _ _ hji, ← put_comm a2]
      exact h2

theorem AnyL_lex {m g : Nat} {Q : Env → Prop} (hsel : Region.noSelect ops = true) (hs : Region.sinkB md ops m = true) (hc : Region.chainB md ops m = true) (hm : m < ops.size) :
    ∀ (l : List Oper) (k : Nat) (listed : Array Bool) (E : Env), (∀ j, j < l.length → l[j]? = ops[k + j]?) → k + l.length = m → HeadInv md ops m listed →
    Region.lexHead md ops g l.length k listed = true → FO P ops l E H Q →
    AnyL P md ops H m (fun listed' E' => Region.seqB md ops g m listed' = true ∧ Q E') l.length listed E
  | [], k, listed, E, _, hk, _, hB, h => by
    have : k = m := by simpa using hk
    subst this
    exact ⟨by simpa [Region.lexHead] using hB, h⟩
  | o :: l, k, listed, E, hl, hk, inv, hB, h => by
    have h0 : ops[k]? = some o := by simpa using (hl 0 (by simp)).symm
    simp only [List.length_cons, Region.lexHead, Bool.and_eq_true] at hB
    obtain ⟨⟨hr, hf⟩, hB'⟩ := hB
    have hkm : k < m := by simp only [List.length_cons] at hk; omega
    have hr' : k ∈ Region.ready md ops listed := by simpa using hr
    obtain ⟨x, hy, hK⟩ := FO_step h
    exact AnyL_first h0 hs hc hm hkm (fun listed' E' hL => seqB_ready hL.1) l.length listed E inv (Region.free_spec h0 hf) hr' hy
      (AnyL_lex hsel hs hc hm l (k + 1) _ _ (fun j hj => by have := hl (j + 1) (by simp; omega); simpa [Nat.add_assoc, Nat.add_comm 1 j] using this) (by simp only [List.length_cons] at hk; omega) (inv.set hr' hkm) hB' hK)

/-- the new variables: each lies where its slot says, in a block of its own -/
def NewV (P : Program) (ops : Array Oper) (m : Nat) (w1 : World) (listed : Array Bool) (a : Act) (w : World) (β : Nat → Nat) : Prop :=
  (∀ (i : Nat) (o : Oper) (T : TypeId) (d : Nat), ops[i]? = some o → i < m → o.op = .alloc T → o.dst = some d → listed.getD i false = true → ∃ j z, P.info? T = some j ∧ j.zero = some z ∧
    a.tmps.getD d undef = .pointer (some ⟨β i, 0, none⟩) ∧ w.heap[β i]? = some (.cells z.cells T (0, 0)) ∧ w1.heap.size ≤ β i ∧ β i < w.heap.size) ∧
  ∀ (i i' : Nat) (o o' : Oper) (T T' : TypeId), ops[i]? = some o → i < m → o.op = .alloc T → listed.getD i false = true → ops[i']? = some o' → i' < m → o'.op = .alloc T' → listed.getD i' false = true → β i = β i' → i = i'

theorem filterMap_nodup {l : List Oper} (h : (l.filterMap (·.dst)).Nodup) : ∀ (i j : Nat) (o o' : Oper) (d : Nat), l[i]? = some o → l[j]? = some o' → o.dst = some d → o'.dst = some d → i = j := by
  induction l with
  | nil => intro i j o o' d h1; simp at h1
  | cons x l ih =>
    intro i j o o' d h1 h2 h3 h4
    have hl : (l.filterMap (·.dst)).Nodup := by
      cases hx : x.dst with
      | none => rwa [List.filterMap_cons_none hx] at h
      | some y => rw [List.filterMap_cons_some hx] at h; exact (List.nodup_cons.1 h).2
    have hout : ∀ (k : Nat) (q : Oper), x.dst = some d → l[k]? = some q → q.dst = some d → False := fun k q hx hk hq => by
      rw [List.filterMap_cons_some hx] at h
      exact (List.nodup_cons.1 h).1 (List.mem_filterMap.2 ⟨q, List.mem_of_getElem? hk, hq⟩)
    cases i with
    | zero =>
      cases j with
      | zero => rfl
      | succ j => simp at h1 h2; subst h1; exact (hout j o' h3 h2 h4).elim
    | succ i =>
      cases j with
      | zero => simp at h1 h2; subst h2; exact (hout i o h4 h1 h3).elim
      | succ j => simp at h1 h2; rw [ih hl i j o o' d h1 h2 h3 h4]

theorem tmps_put {a : Act} {dst : Option Tmp} {v : Value} {d : Nat} (h : dst ≠ some d) : (a.put dst v).tmps.getD d undef = a.tmps.getD d undef := by
  cases dst with
  | none => rfl
  | some t =>
    have : t ≠ d := fun e => h (by rw [e])
    simp only [Act.put]
    rw [Array.getD_eq_getD_getElem?, Array.getElem?_setIfInBounds_ne this, ← Array.getD_eq_getD_getElem?]

theorem AnyL_sound {m : Nat} {g : Gh} (hok : regOK n ops = true) (hD : dstsOK P ops m = true) (hs : Region.sinkB md ops m = true) (hc : Region.chainB md ops m = true) (hm : m < ops.size) {Qc : Exit → Act → World → Prop} (st : St B X w0 w φ H) {E0 : Env} {a0 : Act} {L : Array Bool → Env → Prop} {r : Nat}
    (hL : ∀ listed E a w' β, L listed E → HeadInv md ops m listed → Gr w w' → EnvOK w' φ H E a n g → NewV P ops m w listed a w' β →
      (∀ t, (∀ o ∈ ops.toList.take m, o.dst ≠ some t) → a.tmps.getD t undef = a0.tmps.getD t undef ∧ E t = E0 t) → wpAny P md ops Qc r listed a w') :
    ∀ (f : Nat) (listed : Array Bool) (E : Env) (a : Act) (w' : World) (β : Nat → Nat), AnyL P md ops H m L f listed E → HeadInv md ops m listed → Gr w w' → EnvOK w' φ H E a n g → NewV P ops m w listed a w' β →
      (∀ t, (∀ o ∈ ops.toList.take m, o.dst ≠ some t) → a.tmps.getD t undef = a0.tmps.getD t undef ∧ E t = E0 t) → wpAny P md ops Qc (f + r) listed a w'
  | 0, listed, E, a, w', β, h, inv, gr, eo, nv, un => by rw [Nat.zero_add]; exact hL listed E a w' β h inv gr eo nv un
  | f + 1, listed, E, a, w', β, h, inv, gr, eo, nv, un => by
    rw [show f + 1 + r = (f + r) + 1 by omega]
    refine ⟨fun h0 => absurd h0 h.1, fun i hi => ?_⟩
    obtain ⟨him, hstep⟩ := h.2 i hi
    obtain ⟨hun, o, ho, _⟩ := mem_ready.1 hi
    obtain ⟨x, hy, hn⟩ := hstep o ho
    have hmem : o ∈ ops.toList := Array.mem_toList_iff.2 (Array.mem_of_getElem? ho)
    have hmt : o ∈ ops.toList.take m := by
      refine List.mem_of_getElem? (i := i) ?_
      rw [List.getElem?_take, if_pos him]; simpa using ho
    have hon := List.all_eq_true.1 hok o hmem
    simp only [Bool.and_eq_true] at hon
    simp only [dstsOK, Bool.and_eq_true, decide_eq_true_eq] at hD
    have hnd := filterMap_nodup hD.1
    have hlt : i < listed.size := by rw [inv.size]; exact (Array.getElem?_eq_some_iff.1 ho).1
    have hset : ∀ k, (listed.setIfInBounds i true).getD k false = true → k = i ∨ listed.getD k false = true := fun k hk => by
      by_cases e : k = i
      · exact .inl e
      · rw [getD_set_ne false (Ne.symm e)] at hk; exact .inr hk
    have hunl : listed.getD i false = false := getD_both hun
    have un' : ∀ v t, (∀ o ∈ ops.toList.take m, o.dst ≠ some t) → (a.put o.dst v).tmps.getD t undef = a0.tmps.getD t undef ∧ put E o.dst x t = E0 t := fun v t ht => by
      have hne := ht o hmt
      rw [tmps_put hne, put_off hne]
      exact un t ht
    unfold wpOp
    simp only [ho]
    -- what was made stays
    have keep : ∀ v w'', Gr w' w'' → (∀ T, o.op ≠ .alloc T) → NewV P ops m w (listed.setIfInBounds i true) (a.put o.dst v) w'' β := fun v w'' gr' hna => by
      refine ⟨fun k ok T d hk hkm hop hd hl => ?_, fun k k' ok ok' T T' hk hkm hop hl hk' hkm' hop' hl' e => ?_⟩
      · rcases hset k hl with rfl | hl
        · rw [ho] at hk; cases hk; exact absurd hop (hna T)
        · obtain ⟨j, z, h1, h2, h3, h4, h5, h6⟩ := nv.1 k ok T d hk hkm hop hd hl
          refine ⟨j, z, h1, h2, ?_, ?_, h5, Nat.lt_of_lt_of_le h6 gr'.size⟩
          · rw [tmps_put fun e => ?_]
            · exact h3
            · have := hnd i k o ok d (by simpa using ho) (by simpa using hk) e hd
              subst this
              rw [ho] at hk; cases hk; exact absurd hop (hna T)
          · rw [gr'.block _ h6 (fun h => h)]; exact h4
      · rcases hset k hl with rfl | hl
        · rw [ho] at hk; cases hk; exact absurd hop (hna T)
        rcases hset k' hl' with rfl | hl'
        · rw [ho] at hk'; cases hk'; exact absurd hop' (hna T')
        exact nv.2 k k' ok ok' T T' hk hkm hop hl hk' hkm' hop' hl' e
    by_cases hal : ∃ T, o.op = .alloc T
    · obtain ⟨T, hop⟩ := hal
      have hgd := List.all_eq_true.1 hD.2 o hmt
      rw [hop] at hgd
      simp only [Bool.and_eq_true, Option.isNone_iff_eq_none, Option.isSome_iff_exists] at hgd
      obtain ⟨⟨hg, d, hd⟩, _⟩ := hgd
      unfold FY at hy
      rw [hg] at hy
      dsimp only at hy
      rw [hop] at hy
      simp only [fOp] at hy
      split at hy
      · rename_i zs hz
        obtain ⟨j, z, hj, hjz, rfl⟩ : ∃ i z, P.info? T = some i ∧ i.zero = some z ∧ z.cells.toList.map constA = zs := by
          unfold zeroA at hz
          simp only [Option.map_eq_some_iff, Option.bind_eq_some_iff] at hz
          obtain ⟨z, ⟨i, hi, hiz⟩, e⟩ := hz
          exact ⟨i, z, hi, hiz, e⟩
        rw [if_pos (by simp [Region.wanted, hg])]
        refine .inl ?_
        unfold Oper.wp
        rw [show (execOp a.eval o).run P w' = .ok (.value (.pointer (some ⟨w'.heap.size, 0, none⟩))) (w'.alloc (.cells z.cells T)) by simp [execOp, hop, Instr.alloc, zeroValue, typeInfo, hj, hjz, newVar, newRow]]
        have gr' := Gr.alloc w' (.cells z.cells T)
        have hdn : d < n := by have := hon.1.2; rw [hd] at this; simpa [dstOK] using this
        refine AnyL_sound hok (by simp only [dstsOK, Bool.and_eq_true, decide_eq_true_eq]; exact hD) hs hc hm st hL f _ _ _ _ (fun k => if k = i then w'.heap.size else β k) hn (inv.set hi him) (gr.trans gr') ((eo.le ((st.ext gr).1.ext gr').2).put o.dst hon.1.2 (by rw [← hy.2]; exact .dead _)) ⟨fun k ok T' d' hk hkm hop' hd' hl => ?_, fun k k' ok ok' T1 T2 hk hkm hop1 hl hk' hkm' hop2 hl' e => ?_⟩ (un' _)
        · by_cases e : k = i
          · subst e
            rw [ho] at hk; cases hk
            rw [hop] at hop'; cases hop'
            rw [hd] at hd'; cases hd'
            refine ⟨j, z, hj, hjz, ?_, ?_, ?_, ?_⟩
            · have : d < a.tmps.size := by rw [eo.size]; exact hdn
              simp [Act.put, hd, this]
            · simp only [if_true]; exact heap_alloc_new w' _
            · simp only [if_true]; exact gr.size
            · simp
          · rcases hset k hl with e' | hl
            · exact absurd e' e
            · obtain ⟨j', z', h1, h2, h3, h4, h5, h6⟩ := nv.1 k ok T' d' hk hkm hop' hd' hl
              simp only [if_neg e]
              refine ⟨j', z', h1, h2, ?_, ?_, h5, Nat.lt_of_lt_of_le h6 gr'.size⟩
              · rw [tmps_put fun e' => e (hnd k i ok o d' (by simpa using hk) (by simpa using ho) hd' e')]; exact h3
              · rw [gr'.block _ h6 (fun h => h)]; exact h4
        · have hb : ∀ (q : Nat) oq Tq, ops[q]? = some oq → q < m → oq.op = .alloc Tq → q ≠ i → (listed.setIfInBounds i true).getD q false = true → β q < w'.heap.size := fun q oq Tq hq hqm hopq hqi hlq => by
            rcases hset q hlq with e' | hlq
            · exact absurd e' hqi
            · have hgq := List.all_eq_true.1 hD.2 oq (List.mem_of_getElem? (i := q) (by rw [List.getElem?_take, if_pos hqm]; simpa using hq))
              rw [hopq] at hgq
              simp only [Bool.and_eq_true, Option.isSome_iff_exists] at hgq
              obtain ⟨⟨_, dq, hdq⟩, _⟩ := hgq
              obtain ⟨_, _, _, _, _, _, _, h6⟩ := nv.1 q oq Tq dq hq hqm hopq hdq hlq
              exact h6
          by_cases e1 : k = i <;> by_cases e2 : k' = i
          · rw [e1, e2]
          · simp only [if_pos e1, if_neg e2] at e
            have := hb k' ok' T2 hk' hkm' hop2 e2 hl'
            omega
          · simp only [if_neg e1, if_pos e2] at e
            have := hb k ok T1 hk hkm hop1 e1 hl
            omega
          · simp only [if_neg e1, if_neg e2] at e
            rcases hset k hl with e' | hl
            · exact absurd e' e1
            rcases hset k' hl' with e' | hl'
            · exact absurd e' e2
            exact nv.2 k k' ok ok' T1 T2 hk hkm hop1 hl hk' hkm' hop2 hl' e
      · exact hy.elim
    · have hna : ∀ T, o.op ≠ .alloc T := fun T e => hal ⟨T, e⟩
      refine FY_sound (st.ext gr).1 eo hok hmem hy fun v w'' gr' rv => ?_
      exact AnyL_sound hok (by simp only [dstsOK, Bool.and_eq_true, decide_eq_true_eq]; exact hD) hs hc hm st hL f _ _ _ w'' β hn (inv.set hi him) (gr.trans gr') ((eo.le ((st.ext gr).1.ext gr').2).put o.dst hon.1.2 rv) (keep v w'' gr' hna) (un' v)

/-- the places of the operations that make a variable -/
def alL : Nat → List Oper → List (Nat × TypeId)
  | _, [] => []
  | p, o :: r => match o.dst, o.op with
    | some _, .alloc T => (p, T) :: alL (p + 1) r
    | _, _ => alL (p + 1) r
theorem alL_cons_al {p : Nat} {o : Oper} {r : List Oper} {d : Nat} {T : TypeId} (hd : o.dst = some d) (ho : o.op = .alloc T) : alL p (o :: r) = (p, T) :: alL (p + 1) r := by simp [alL, hd, ho]
theorem alL_cons_no {p : Nat} {o : Oper} {r : List Oper} (h : ∀ d T, ¬ (o.dst = some d ∧ o.op = .alloc T)) : alL p (o :: r) = alL (p + 1) r := by
  rw [alL]
  split
  · rename_i d T hd ho; exact absurd ⟨hd, ho⟩ (h d T)
  · rfl
theorem endH_eq (P : Program) : ∀ (l : List Oper) (p : Nat), endH P l = (alL p l).map fun x => .box x.2 ((zeroA P x.2).getD [])
  | [], p => rfl
  | o :: r, p => by
    rw [endH, alL]
    split
    · rw [List.map_cons, endH_eq P r (p + 1)]
    · exact endH_eq P r (p + 1)
theorem alL_ge : ∀ (l : List Oper) (p j i : Nat) (T : TypeId), (alL p l)[j]? = some (i, T) → p ≤ i ∧ ∃ o d, l[i - p]? = some o ∧ o.op = .alloc T ∧ o.dst = some d
  | [], p, j, i, T, h => by simp [alL] at h
  | o :: r, p, j, i, T, h => by
    have rest : ∀ j', (alL (p + 1) r)[j']? = some (i, T) → p ≤ i ∧ ∃ q d, (o :: r)[i - p]? = some q ∧ q.op = .alloc T ∧ q.dst = some d := fun j' h => by
      obtain ⟨h1, q, d, h2, h3, h4⟩ := alL_ge r (p + 1) j' i T h
      refine ⟨by omega, q, d, ?_, h3, h4⟩
      rw [show i - p = (i - (p + 1)) + 1 by omega]
      exact h2
    rw [alL] at h
    split at h
    · rename_i d T' hd ho
      cases j with
      | zero => simp at h; obtain ⟨rfl, rfl⟩ := h; exact ⟨Nat.le_refl _, o, d, by simp, ho, hd⟩
      | succ j => exact rest j (by simpa using h)
    · exact rest j h
theorem alL_inj : ∀ (l : List Oper) (p j j' i : Nat) (T T' : TypeId), (alL p l)[j]? = some (i, T) → (alL p l)[j']? = some (i, T') → j = j'
  | [], p, j, j', i, T, T', h, _ => by simp [alL] at h
  | o :: r, p, j, j', i, T, T', h, h' => by
    rw [alL] at h h'
    split at h
    · rename_i d T0 hd ho
      rw [hd, ho] at h'
      dsimp only at h'
      cases j with
      | zero =>
        cases j' with
        | zero => rfl
        | succ j' =>
          simp at h h'
          have := (alL_ge r (p + 1) j' i T' h').1
          omega
      | succ j =>
        cases j' with
        | zero =>
          simp at h h'
          have := (alL_ge r (p + 1) j i T h).1
          omega
        | succ j' => rw [alL_inj r (p + 1) j j' i T T' (by simpa using h) (by simpa using h')]
    · rename_i hno
      split at h'
      · rename_i d T0 hd ho; exact absurd ho (hno d T0 hd)
      · exact alL_inj r (p + 1) j j' i T T' h h'

theorem endE_spec : ∀ (l : List Oper) (p k : Nat) (E : Env), (l.filterMap (·.dst)).Nodup → ∀ t,
    ((∀ o ∈ l, o.dst ≠ some t) ∧ endE l k E t = E t) ∨ (endE l k E t = if flat2 (E t) then E t else .dead) ∧ (∃ o ∈ l, o.dst = some t) ∨
    ∃ j i T o, (alL p l)[j]? = some (i, T) ∧ p ≤ i ∧ l[i - p]? = some o ∧ o.op = .alloc T ∧ o.dst = some t ∧ endE l k E t = .bptr (k + j) 0
  | [], p, k, E, _, t => .inl ⟨fun o ho => by simp at ho, rfl⟩
  | o :: r, p, k, E, hnd, t => by
    rcases hd : o.dst with _ | d
    · rw [List.filterMap_cons_none hd] at hnd
      have e1 : endE (o :: r) k E = endE r k E := by rw [endE]; simp only [hd]
      have e2 : alL p (o :: r) = alL (p + 1) r := alL_cons_no fun d T h => by rw [hd] at h; cases h.1
      rw [e1, e2]
      rcases endE_spec r (p + 1) k E hnd t with ⟨h1, h2⟩ | ⟨h1, q, hq, hqt⟩ | ⟨j, i, T, q, h1, h2, h3, h4, h5, h6⟩
      · exact .inl ⟨fun q hq => by rcases List.mem_cons.1 hq with rfl | hq; rw [hd]; simp; exact h1 q hq, h2⟩
      · exact .inr (.inl ⟨h1, q, by simp [hq], hqt⟩)
      · refine .inr (.inr ⟨j, i, T, q, h1, by omega, ?_, h4, h5, h6⟩)
        rw [show i - p = (i - (p + 1)) + 1 by omega]; exact h3
    · rw [List.filterMap_cons_some hd] at hnd
      obtain ⟨hnm, hnd'⟩ := List.nodup_cons.1 hnd
      have hout : ∀ q ∈ r, q.dst = some t → t ≠ d := fun q hq hqt e => hnm (List.mem_filterMap.2 ⟨q, hq, by rw [hqt, e]⟩)
      by_cases hal : ∃ T, o.op = .alloc T
      · obtain ⟨T, ho⟩ := hal
        have e1 : endE (o :: r) k E = endE r (k + 1) (upd E d (.bptr k 0)) := by rw [endE]; simp only [hd, ho]
        rw [e1, alL_cons_al hd ho]
        rcases endE_spec r (p + 1) (k + 1) (upd E d (.bptr k 0)) hnd' t with ⟨h1, h2⟩ | ⟨h1, q, hq, hqt⟩ | ⟨j, i, T', q, h1, h2, h3, h4, h5, h6⟩
        · by_cases e : t = d
          · subst e
            refine .inr (.inr ⟨0, p, T, o, rfl, Nat.le_refl _, by simp, ho, hd, ?_⟩)
            rw [h2, upd_same, Nat.add_zero]
          · refine .inl ⟨fun q hq => ?_, by rw [h2, upd_ne _ _ _ _ e]⟩
            rcases List.mem_cons.1 hq with rfl | hq
            · rw [hd]; simp; exact Ne.symm e
            · exact h1 q hq
        · refine .inr (.inl ⟨?_, q, by simp [hq], hqt⟩)
          rw [h1, upd_ne _ _ _ _ (hout q hq hqt)]
        · refine .inr (.inr ⟨j + 1, i, T', q, by simpa using h1, by omega, ?_, h4, h5, ?_⟩)
          · rw [show i - p = (i - (p + 1)) + 1 by omega]; exact h3
          · rw [h6]; congr 1; omega
      · have e1 : endE (o :: r) k E = endE r k (upd E d (if flat2 (E d) then E d else .dead)) := by
          rw [endE]; simp only [hd]
          split
          · rename_i T ho; exact absurd ⟨T, ho⟩ hal
          · rfl
        rw [e1, alL_cons_no fun d' T h => hal ⟨T, h.2⟩]
        rcases endE_spec r (p + 1) k (upd E d (if flat2 (E d) then E d else .dead)) hnd' t with ⟨h1, h2⟩ | ⟨h1, q, hq, hqt⟩ | ⟨j, i, T', q, h1, h2, h3, h4, h5, h6⟩
        · by_cases e : t = d
          · subst e
            exact .inr (.inl ⟨by rw [h2, upd_same], o, by simp, hd⟩)
          · refine .inl ⟨fun q hq => ?_, by rw [h2, upd_ne _ _ _ _ e]⟩
            rcases List.mem_cons.1 hq with rfl | hq
            · rw [hd]; simp; exact Ne.symm e
            · exact h1 q hq
        · refine .inr (.inl ⟨?_, q, by simp [hq], hqt⟩)
          rw [h1, upd_ne _ _ _ _ (hout q hq hqt)]
        · refine .inr (.inr ⟨j, i, T', q, h1, by omega, ?_, h4, h5, h6⟩)
          rw [show i - p = (i - (p + 1)) + 1 by omega]; exact h3

theorem constA_closed (v : Value) : (constA v).closed = true := by cases v <;> rfl
theorem constA_vf (v : Value) : (constA v).vf = true := by cases v <;> rfl
theorem sh1_constA (k : Nat) (v : Value) : sh1 k (constA v) = constA v := by
  have h := constA_closed v
  cases v <;> first | rfl | (simp only [constA, sh1] at h ⊢; first | rfl | (rw [if_pos h]))

/-- what stands behind the first operations -/
theorem end_sound {m : Nat} {g : Gh} (hD : dstsOK P ops m = true) (st : St B X w0 w φ H) {E0 E : Env} {a0 a : Act} (eo0 : EnvOK w φ H E0 a0 n g) {w' : World} (gr : Gr w w') (eo : EnvOK w' φ H E a n g) {listed : Array Bool} {β : Nat → Nat}
    (hall : ∀ i, i < m → i < ops.size → listed.getD i false = true) (nv : NewV P ops m w listed a w' β) (hdst : ∀ o ∈ ops.toList, dstOK n o.dst = true)
    (un : ∀ t, (∀ o ∈ ops.toList.take m, o.dst ≠ some t) → a.tmps.getD t undef = a0.tmps.getD t undef ∧ E t = E0 t) :
    ∃ φ2, St B X w0 w' φ2 (H ++ endH P (ops.toList.take m)) ∧ EnvOK w' φ2 (H ++ endH P (ops.toList.take m)) (endE (ops.toList.take m) H.length E) a n g := by
  simp only [dstsOK, Bool.and_eq_true, decide_eq_true_eq] at hD
  have hnd : ((ops.toList.take m).filterMap (·.dst)).Nodup := by
    refine List.Sublist.nodup ?_ hD.1
    exact (List.take_sublist m ops.toList).filterMap _
  generalize hal : alL 0 (ops.toList.take m) = al
  have hH := endH_eq P (ops.toList.take m) 0
  rw [hal] at hH
  have hop : ∀ j i T, al[j]? = some (i, T) → i < m ∧ ∃ o d, ops[i]? = some o ∧ o.op = .alloc T ∧ o.dst = some d := fun j i T h => by
    rw [← hal] at h
    obtain ⟨_, o, d, h1, h2, h3⟩ := alL_ge _ 0 j i T h
    rw [Nat.sub_zero, List.getElem?_take] at h1
    split at h1
    · rename_i him; exact ⟨him, o, d, by simpa using h1, h2, h3⟩
    · cases h1
  have hnew : ∀ j i T, al[j]? = some (i, T) → ∃ (z : Value) (zs : List AV), zeroA P T = some zs ∧ zs = z.cells.toList.map constA ∧ zs.all AV.one = true ∧ w'.heap[β i]? = some (.cells z.cells T (0, 0)) ∧ w.heap.size ≤ β i ∧ β i < w'.heap.size ∧
      ∀ o d, ops[i]? = some o → o.dst = some d → a.tmps.getD d undef = .pointer (some ⟨β i, 0, none⟩) := fun j i T h => by
    obtain ⟨him, o, d, h1, h2, h3⟩ := hop j i T h
    obtain ⟨q, z, e1, e2, e3, e4, e5, e6⟩ := nv.1 i o T d h1 him h2 h3 (hall i him (Array.getElem?_eq_some_iff.1 h1).1)
    have hz : zeroA P T = some (z.cells.toList.map constA) := by simp [zeroA, e1, e2]
    have hgd := List.all_eq_true.1 hD.2 o (List.mem_of_getElem? (i := i) (by rw [List.getElem?_take, if_pos him]; simpa using h1))
    rw [h2] at hgd
    simp only [Bool.and_eq_true, hz] at hgd
    exact ⟨z, _, hz, rfl, hgd.2, e4, e5, e6, fun o' d' ho' hd' => by rw [h1] at ho'; cases ho'; rw [h3] at hd'; cases hd'; exact e3⟩
  let φc : Nat → Value := fun j => match al[j]? with
    | some x => .pointer (some ⟨β x.1, 0, none⟩)
    | none => undef
  have hφc : ∀ j i T, al[j]? = some (i, T) → φc j = .pointer (some ⟨β i, 0, none⟩) := fun j i T h => by show (match al[j]? with | some x => _ | none => _) = _; rw [h]
  have hobj : ∀ id o, (endH P (ops.toList.take m))[id]? = some o → ∃ (i : Nat) (T : TypeId), al[id]? = some (i, T) ∧ o = AO.box T ((zeroA P T).getD []) := fun id o h => by
    rw [hH, List.getElem?_map, Option.map_eq_some_iff] at h
    obtain ⟨⟨i, T⟩, h1, h2⟩ := h
    exact ⟨i, T, h1, h2.symm⟩
  have hvf : ∀ o ∈ endH P (ops.toList.take m), vfO o := fun o ho => by
    obtain ⟨id, hid⟩ := List.mem_iff_getElem?.1 ho
    obtain ⟨i, T, h1, rfl⟩ := hobj id o hid
    obtain ⟨z, zs, hz, rfl, _⟩ := hnew id i T h1
    simp only [vfO, hz, Option.getD_some]
    intro x hx
    obtain ⟨v, _, rfl⟩ := List.mem_map.1 hx
    exact constA_vf v
  have hp : HeapOK w' w.heap.size φc (endH P (ops.toList.take m)) := by
    refine ⟨fun id o b h hl hv => ?_, fun id id' o o' b h hl h' hl' hv hv' => ?_, fun id o h => ?_⟩
    · obtain ⟨i, T, h1, rfl⟩ := hobj id o h
      obtain ⟨z, zs, _, _, _, _, e5, e6, _⟩ := hnew id i T h1
      rw [hφc id i T h1] at hv
      simp [vblk] at hv
      subst hv
      exact ⟨e5, e6⟩
    · obtain ⟨i, T, h1, rfl⟩ := hobj id o h
      obtain ⟨i', T', h1', rfl⟩ := hobj id' o' h'
      rw [hφc id i T h1] at hv
      rw [hφc id' i' T' h1'] at hv'
      simp [vblk] at hv hv'
      obtain ⟨him, q, d, q1, q2, q3⟩ := hop id i T h1
      obtain ⟨him', q', d', q1', q2', q3'⟩ := hop id' i' T' h1'
      have e := nv.2 i i' q q' T T' q1 him q2 (hall i him (Array.getElem?_eq_some_iff.1 q1).1) q1' him' q2' (hall i' him' (Array.getElem?_eq_some_iff.1 q1').1) (by rw [hv, hv'])
      subst e
      rw [← hal] at h1 h1'
      exact alL_inj _ _ _ _ _ _ _ h1 h1'
    · obtain ⟨i, T, h1, rfl⟩ := hobj id o h
      obtain ⟨z, zs, hz, rfl, hone, e4, _⟩ := hnew id i T h1
      refine ⟨β i, z.cells, hφc id i T h1, e4, by simp [hz], fun j c u hc hu => ?_⟩
      simp only [hz, Option.getD_some, List.getElem?_map, Option.map_eq_some_iff] at hc
      obtain ⟨y, hy, rfl⟩ := hc
      simp at hy
      rw [hy] at hu
      have e := Option.some.inj hu
      rw [← e]
      refine ⟨constA_R y, (constA_R (w := w') (φ := φc) (H := []) y).one (List.all_eq_true.1 hone _ (List.mem_map.2 ⟨y, ?_, rfl⟩))⟩
      exact Array.mem_toList_iff.2 (Array.mem_of_getElem? hy)
  obtain ⟨st2, le2⟩ := st.join gr hvf hp
  have hsh : (endH P (ops.toList.take m)).map (shO H.length) = endH P (ops.toList.take m) := by
    conv => rhs; rw [← List.map_id (endH P (ops.toList.take m))]
    refine List.map_congr_left fun o ho => ?_
    obtain ⟨id, hid⟩ := List.mem_iff_getElem?.1 ho
    obtain ⟨i, T, h1, rfl⟩ := hobj id o hid
    obtain ⟨z, zs, hz, rfl, _⟩ := hnew id i T h1
    simp only [shO, hz, Option.getD_some, id_eq, List.map_map]
    congr 1
    exact List.map_congr_left fun v _ => sh1_constA _ v
  rw [hsh] at st2 le2
  refine ⟨_, st2, eo.size, eo.defers, fun t ht => ?_, fun t ht => ?_⟩
  · rcases endE_spec (ops.toList.take m) 0 H.length E hnd t with ⟨h1, h2⟩ | ⟨h1, _⟩ | ⟨j, i, T, o, h1, h2, h3, h4, h5, h6⟩
    · obtain ⟨e1, e2⟩ := un t h1
      rw [h2, e1, e2]
      exact (eo0.slot t ht).le le2
    · rw [h1]
      by_cases hf : flat2 (E t) = true
      · rw [if_pos hf]; exact flat2_R (eo.slot t ht) hf
      · rw [if_neg hf]; exact .dead _
    · rw [hal] at h1
      obtain ⟨him, q, d, q1, q2, q3⟩ := hop j i T h1
      obtain ⟨z, zs, _, _, _, _, _, _, hs⟩ := hnew j i T h1
      have hq : q = o := by
        rw [Nat.sub_zero, List.getElem?_take, if_pos him] at h3
        have : ops[i]? = some o := by simpa using h3
        rw [q1] at this; exact Option.some.inj this
      subst hq
      rw [h6, hs q t q1 h5]
      have hlen : (endH P (ops.toList.take m)).length = al.length := by rw [hH, List.length_map]
      have hj : j < al.length := (List.getElem?_eq_some_iff.1 h1).1
      refine .bptr _ _ _ (by rw [List.length_append, hlen]; omega) rfl fun o' ho' hp' => ⟨β i, ?_, rfl⟩
      rw [joinφ_ge (by omega), Nat.add_sub_cancel_left]
      exact hφc j i T h1
  · rcases endE_spec (ops.toList.take m) 0 H.length E hnd t with ⟨h1, h2⟩ | ⟨h1, q, hq, hqt⟩ | ⟨j, i, T, o, h1, h2, h3, h4, h5, h6⟩
    · rw [h2, (un t h1).2]
      exact (eo0.ghost t ht).le le2
    · have := hdst q (List.mem_of_mem_take hq)
      rw [hqt] at this
      exact absurd (of_decide_eq_true this) (Nat.not_lt.2 ht)
    · have := hdst o (List.mem_of_mem_take (List.mem_of_getElem? h3))
      rw [h5] at this
      exact absurd (of_decide_eq_true this) (Nat.not_lt.2 ht)

/-- a region that draws its order: the first m operations come in whatever order, and make memory and variables; the others come behind them one after the other -/
theorem J_regiong {id : Nat} {env : Env} {K : Post} (m : Nat) (hm : P.follows .mixedOrders = true) (hB : Region.lexTailB .any ops m = true) (hok : regOK n ops = true) (hD : dstsOK P ops m = true)
    (h : FO P ops (ops.toList.take m) env H fun e => VO P false ops (ops.toList.drop m) (endE (ops.toList.take m) H.length e) (H ++ endH P (ops.toList.take m)) fun e h => @Hold2 e h ⟨fun e h => K .normal e h⟩) : J P n (.region id ops true) env H K := by
  intro B X w0 w φ a g st eo
  simp only [Region.lexTailB, Bool.and_eq_true, decide_eq_true_eq] at hB
  obtain ⟨⟨⟨⟨hsel, hn⟩, hs⟩, hc⟩, hlex⟩ := hB
  generalize hl : ops.toList = l at *
  have hlen : l.length = ops.size := by rw [← hl]; simp
  have hget : ∀ j : Nat, l[j]? = ops[j]? := fun j => by rw [← hl]; simp
  have htl : (l.take m).length = m := by rw [List.length_take]; omega
  have hdl : (l.drop m).length = ops.size - m := by rw [List.length_drop, hlen]
  have inv0 : HeadInv .any ops m (Array.replicate ops.size false) :=
    ⟨by simp, fun j oj _ hl => (by rw [getD_replicate_false] at hl; cases hl), fun t _ ht => getD_in (by simpa using ht) (getD_replicate_false _ _)⟩
  obtain ⟨st1, le1⟩ := st.ext (Gr.drew w)
  have hA := AnyL_lex (md := .any) (g := ops.size - m) hsel hs hc hn (l.take m) 0 _ env (fun j hj => by
    have hj' : j < m := by rw [htl] at hj; exact hj
    rw [List.getElem?_take, if_pos hj', hget, Nat.zero_add]) (by simpa using htl) inv0 (by rw [htl]; exact hlex) h
  have hdst : ∀ o ∈ l, dstOK n o.dst = true := fun o ho => by
    have := List.all_eq_true.1 hok o (by rw [hl]; exact ho)
    simp only [Bool.and_eq_true] at this
    exact this.1.2
  refine wp_region_any hm ?_
  have := AnyL_sound (P := P) (g := g) (Qc := Lift B X w0 n g K) (E0 := env) (a0 := a) (r := ops.size - m) (L := fun listed' E' => Region.seqB .any ops (ops.size - m) m listed' = true ∧ VO P false ops (l.drop m) (endE (l.take m) H.length E') (H ++ endH P (l.take m)) fun e h => K .normal e h) hok hD hs hc hn st1 (fun listed E a' w' β hL inv gr eo' nv un => by
    rw [hl] at un
    have hall : ∀ i, i < m → i < ops.size → listed.getD i false = true := fun i him hil => by
      cases hg : listed.getD i false with
      | true => rfl
      | false =>
        have hun := getD_in (listed := listed) (by rw [inv.size]; exact hil) hg
        have hr : m ∈ Region.ready .any ops listed := by
          have h1 := hL.1
          rw [show ops.size - m = (ops.size - m - 1) + 1 by omega] at h1
          simp only [Region.seqB, Bool.and_eq_true, decide_eq_true_eq] at h1
          rw [h1.1]; simp
        exact absurd hr (tail_waits hs hc hn inv _ i rfl him hun m (Nat.le_refl _))
    obtain ⟨φ2, s2, e2⟩ := end_sound (P := P) hD st1 (eo.le le1) gr eo' hall nv (by rw [hl]; exact hdst) (by rw [hl]; exact un)
    rw [hl] at s2 e2
    have := wpAny_of_seq (md := .any) (Q' := Lift B X w0 n g K) (l.drop m) m listed a' w' (fun j => by rw [List.getElem?_drop, hget]) (by rw [hdl]; exact hL.1)
      (VO_sound (g := g) (K := fun e h => K .normal e h) (fun env H φ w a k st eo => ⟨env, H, φ, k, st, eo⟩) (l.drop m) (fun o ho => by rw [hl]; exact List.mem_of_mem_drop ho) hok _ _ _ φ2 a' hL.2 s2 e2)
    rwa [hdl] at this) _ _ _ a _ (fun _ => 0) (by exact hA) inv0 (Gr.refl _) (eo.le le1) ⟨fun i o T d _ _ _ _ hl => (by rw [getD_replicate_false] at hl; cases hl), fun i i' o o' T T' _ _ _ hl => (by rw [getD_replicate_false] at hl; cases hl)⟩ (fun t _ => ⟨rfl, rfl⟩)
  rw [htl, show m + (ops.size - m) = ops.size by omega] at this
  exact this
attribute [go_sem] endE endH
end
end Go.Av
namespace Go.Av
open Go.RowKit
set_option linter.unusedVariables false
section
variable {P : Program} {n : Nat} {env : Env} {H : List AO} {K : Post}

theorem live_set {φ φ' : Nat → Value} {id : Nat} {nv : Value} (e : φ' = updφ φ id nv) : φ' id = nv := by rw [e, updφ_same]

/-- an array variable: a slice of our own, and a pointer to its first place -/
theorem J_arr {c : Code} (id t : Nat) (T : TypeId) (xs : List AV) (hH : H[id]? = some (.box T xs)) (ht : env t = .bptr id 0) (hcl : ∀ x ∈ xs, x.closed = true ∧ x.cells = [x]) (hl : xs.length ≤ maxLen)
    (h : J P n c (upd env t (.optr H.length 0 0 0)) (H.set id .gone ++ [.slice 0 T 1 xs]) K) : J P n c env H K := by
  intro B X w0 w φ a g st eo
  have hid : id < H.length := (List.getElem?_eq_some_iff.1 hH).1
  obtain ⟨gg, arr, c1, c2, c3, c4⟩ := st.chunk id _ hH
  generalize hnv : Value.slice (some ⟨gg, 0, none⟩) xs.length xs.length = nv
  generalize hφ : updφ φ H.length nv = φ'
  have hget : ∀ k o, (H.set id .gone ++ [AO.slice 0 T 1 xs])[k]? = some o → (k ≠ id ∧ k < H.length ∧ H[k]? = some o ∧ φ' k = φ k) ∨ (k = id ∧ o = .gone) ∨ (k = H.length ∧ o = .slice 0 T 1 xs ∧ φ' k = nv) := by
    intro k o hk
    rcases get_app hk with ⟨h1, h2⟩ | ⟨h1, h2⟩
    · rw [List.length_set] at h1
      by_cases e : k = id
      · subst e
        rw [List.getElem?_set_self hid] at h2
        exact .inr (.inl ⟨rfl, (Option.some.inj h2).symm⟩)
      · rw [List.getElem?_set_ne (Ne.symm e)] at h2
        exact .inl ⟨e, h1, h2, by rw [← hφ, updφ_ne _ _ _ _ (by omega)]⟩
    · rw [List.length_set] at h1
      subst h1
      exact .inr (.inr ⟨rfl, h2, by rw [← hφ, updφ_same]⟩)
  have hbnv : ∀ b, vblk nv = some b → b = gg := fun b hb => by rw [← hnv] at hb; simpa [vblk] using hb.symm
  have hvid : vblk (φ id) = some gg := by rw [c1]; rfl
  have le : Le w φ H w φ' (H.set id .gone ++ [.slice 0 T 1 xs]) := by
    refine ⟨Nat.le_refl _, fun b _ hn => ⟨fun k o hk hlv => ?_, fun _ => rfl⟩, by simp, fun k v' E s xs' hk hx => ?_, fun k ver E s xs' hk hv hx => ?_, fun k o hk hx hp => ?_⟩
    · rcases hget k o hk with ⟨e1, e2, e3, e4⟩ | ⟨e1, rfl⟩ | ⟨e1, e2, e3⟩
      · rw [e4]; exact hn k o e3 hlv
      · simp [AO.live] at hlv
      · rw [e3]
        intro hb
        have := hbnv b hb
        subst this
        exact hn id _ hH rfl hvid
    · rcases hget k _ hx with ⟨e1, e2, e3, e4⟩ | ⟨e1, e2⟩ | ⟨e1, e2, e3⟩
      · exact ⟨v', E, s, xs', e3, Nat.le_refl _⟩
      · cases e2
      · omega
    · rcases hget k _ hx with ⟨e1, e2, e3, e4⟩ | ⟨e1, e2⟩ | ⟨e1, e2, e3⟩
      · exact ⟨xs', e3, rfl, e4⟩
      · cases e2
      · omega
    · rcases hget k _ hx with ⟨e1, e2, e3, e4⟩ | ⟨e1, rfl⟩ | ⟨e1, e2, e3⟩
      · exact ⟨o, e3, hp, e4⟩
      · simp [AO.pb] at hp
      · omega
  have hkeep : ∀ k o, H[k]? = some o → φ' k = φ k → Chunk w φ H k o → Chunk w φ' (H.set id .gone ++ [.slice 0 T 1 xs]) k o := fun k o hk e c => Chunk.keep le e (fun _ _ => rfl) c
  have st' : St B X w0 w φ' (H.set id .gone ++ [.slice 0 T 1 xs]) := by
    refine ⟨st.frame, st.base, st.glob, fun k o b hk hlv hb => ?_, fun k k' o o' b hk hlv hk' hlv' hb hb' => ?_, fun k o hk => ?_⟩
    · rcases hget k o hk with ⟨e1, e2, e3, e4⟩ | ⟨e1, rfl⟩ | ⟨e1, e2, e3⟩
      · rw [e4] at hb; exact st.live k o b e3 hlv hb
      · simp [AO.live] at hlv
      · rw [e3] at hb
        have := hbnv b hb
        subst this
        exact st.live id _ _ hH rfl hvid
    · have one : ∀ k o, (H.set id .gone ++ [AO.slice 0 T 1 xs])[k]? = some o → o.live = true → vblk (φ' k) = some b → ∃ q o2, H[q]? = some o2 ∧ o2.live = true ∧ vblk (φ q) = some b ∧ (q = id → k = H.length) ∧ (q ≠ id → k = q) := by
        intro k o hk hlv hb
        rcases hget k o hk with ⟨e1, e2, e3, e4⟩ | ⟨e1, rfl⟩ | ⟨e1, e2, e3⟩
        · exact ⟨k, o, e3, hlv, by rw [← e4]; exact hb, fun h => absurd h e1, fun _ => rfl⟩
        · simp [AO.live] at hlv
        · rw [e3] at hb
          have := hbnv b hb
          subst this
          exact ⟨id, _, hH, rfl, hvid, fun _ => e1, fun h => absurd rfl h⟩
      obtain ⟨q, o2, a1, a2, a3, a4, a5⟩ := one k o hk hlv hb
      obtain ⟨q', o2', b1, b2, b3, b4, b5⟩ := one k' o' hk' hlv' hb'
      have := st.inj q q' o2 o2' b a1 a2 b1 b2 a3 b3
      subst this
      by_cases e : q = id
      · rw [a4 e, b4 e]
      · rw [a5 e, b5 e]
    · rcases hget k o hk with ⟨e1, e2, e3, e4⟩ | ⟨e1, rfl⟩ | ⟨e1, rfl, e3⟩
      · exact hkeep k o e3 e4 (st.chunk k o e3)
      · exact trivial
      · refine ⟨arr.toList, ⟨by simp [c3], fun u hu => ?_, .inr ⟨gg, xs.length, arr, (0, 0), by rw [e3, ← hnv], c2, .inl rfl, Nat.le_refl _, hl, by simp [c3], ?_⟩⟩, by decide, fun i x hx => ⟨(hcl x (List.mem_of_getElem? hx)).1, by rw [(hcl x (List.mem_of_getElem? hx)).2]; rfl⟩, fun i x j c u hx hj hu => ?_⟩
        · obtain ⟨i, hi⟩ := List.mem_iff_getElem?.1 hu
          rw [Array.getElem?_toList] at hi
          have hlt : i < xs.length := by rw [← c3]; exact (Array.getElem?_eq_some_iff.1 hi).1
          exact (c4 i _ u (List.getElem?_eq_getElem hlt) hi).2
        · rw [List.take_of_length_le (by simp [c3])]
        · rw [(hcl x (List.mem_of_getElem? hx)).2] at hj
          obtain ⟨rfl, rfl⟩ : j = 0 ∧ c = x := by cases j <;> simp_all
          have : arr[i]? = some u := by simpa using hu
          exact ((c4 i c u hx this).1).le le
  have hslot : ∀ v, R w φ H (env t) v → R w φ' (H.set id .gone ++ [.slice 0 T 1 xs]) (.optr H.length 0 0 0) v := fun v r => by
    rw [ht] at r
    cases r with
    | bptr _ _ _ hid' ho hh =>
      obtain ⟨g2, d1, rfl⟩ := hh _ hH rfl
      rw [c1] at d1
      simp at d1
      subst d1
      refine .optr _ _ _ _ _ (by simp) rfl (fun _ _ _ _ _ => Nat.zero_le _) fun E s xs' hx => ?_
      rcases hget _ _ hx with ⟨e1, e2, e3, e4⟩ | ⟨e1, e2⟩ | ⟨e1, e2, e3⟩
      · omega
      · cases e2
      · cases e2
        exact ⟨gg, xs.length, xs.length, by rw [e3, ← hnv], by simp⟩
  refine h B X w0 w φ' a g st' ⟨eo.size, eo.defers, fun k hk => ?_, fun k hk => ?_⟩
  · by_cases e : k = t
    · subst e; simp only [upd, if_true]; exact hslot _ (eo.slot k hk)
    · simp only [upd, if_neg e]; exact (eo.slot k hk).le le
  · by_cases e : k = t
    · subst e; simp only [upd, if_true]; exact hslot _ (eo.ghost k hk)
    · simp only [upd, if_neg e]; exact (eo.ghost k hk).le le

/-- an array variable that is no more written -/
theorem J_freeze {c : Code} (id t ver : Nat) (T : TypeId) (xs : List AV) (hH : H[id]? = some (.slice ver T 1 xs)) (ht : env t = .optr id ver 0 0) (hAgg : ∀ x ∈ xs, x.cells = [x])
    (h : J P n c (upd env t (.vptr (.agg xs) 0)) (H.set id .gone) K) : J P n c env H K := by
  intro B X w0 w φ a g st eo
  have hid : id < H.length := (List.getElem?_eq_some_iff.1 hH).1
  have le : Le w φ H w (updφ φ id (φ id)) (H.set id .gone) := Le_upd st hH rfl (Nat.le_refl _) (fun k _ _ => rfl) (φ id) (fun b hb => .inl hb) trivial
  have st' : St B X w0 w (updφ φ id (φ id)) (H.set id .gone) :=
    St.upd st hH rfl rfl rfl rfl (Nat.le_refl _) (fun k _ _ => rfl) (φ id) (fun b hb => ⟨.inl hb, (st.live id _ b hH rfl hb).2⟩) trivial trivial
  obtain ⟨cs, hrow, hs0, hx1, hx2⟩ := st.chunk id _ hH
  have hslot : ∀ v, R w φ H (env t) v → R w (updφ φ id (φ id)) (H.set id .gone) (.vptr (.agg xs) 0) v := fun v r => by
    rw [ht] at r
    cases r with
    | optr _ _ _ _ _ _ _ _ hh =>
      obtain ⟨gg, m, cap, d1, rfl⟩ := hh T 1 xs hH
      have hlen : cs.length = xs.length := by rw [hrow.1, Nat.mul_one]
      have hm : m = xs.length := by
        rcases hrow.2.2 with ⟨e, _⟩ | ⟨g', cap', cur, fz, e, _⟩
        · rw [d1] at e; simp at e
        · rw [d1] at e; simp at e; exact e.2.1
      subst hm
      have hcell : ∀ (j : Nat) (c : AV), xs[j]? = some c → ∃ u, cs[j]? = some u ∧ w.cell? ⟨gg, j, none⟩ = some u ∧ u.oneCell' = true ∧ R w φ H c u ∧ c.closed = true := fun j c hj => by
        have hjl : j < cs.length := by rw [hlen]; exact (List.getElem?_eq_some_iff.1 hj).1
        have hu : cs[j]? = some cs[j] := List.getElem?_eq_getElem hjl
        have hc1 := hx1 j c hj
        refine ⟨_, hu, ownRow_cell hrow d1 hu, hrow.2.1 _ (List.mem_of_getElem? hu), ?_, hc1.1⟩
        exact hx2 j c 0 c cs[j] hj (by rw [hAgg c (List.mem_of_getElem? hj)]; rfl) (by simp)
      have hb : gg < w.heap.size := (st.live id _ gg hH rfl (by rw [d1]; rfl)).2
      have hv := R.vptr (w := w) (φ := updφ φ id (φ id)) (H := H.set id .gone) (.agg xs) 0 gg 0 (fun j => cs.getD j undef) ((closedL_iff xs).2 fun x hx => by
          obtain ⟨j, hj⟩ := List.mem_iff_getElem?.1 hx
          exact (hx1 j x hj).1) hb (fun k o hk hlv hbk => by
          by_cases e : k = id
          · subst e; rw [List.getElem?_set_self hid] at hk; cases hk; simp [AO.live] at hlv
          · rw [List.getElem?_set_ne (Ne.symm e)] at hk
            rw [updφ_ne _ _ _ _ e] at hbk
            exact e (st.inj k id o _ gg hk hlv hH rfl hbk (by rw [d1]; rfl)))
        (fun j c hj => by
          simp only [AV.cells, Nat.zero_add] at hj ⊢
          obtain ⟨u, h1, h2, h3, _, _⟩ := hcell j c hj
          rw [List.getD_eq_getElem?_getD, h1]
          exact ⟨h2, h3⟩)
        (fun j c hj => by
          simp only [AV.cells, Nat.zero_add] at hj
          obtain ⟨u, h1, _, _, h4, _⟩ := hcell j c hj
          rw [List.getD_eq_getElem?_getD, h1]
          exact h4.le le)
      simpa using hv
  refine h B X w0 w _ a g st' ⟨eo.size, eo.defers, fun k hk => ?_, fun k hk => ?_⟩
  · by_cases e : k = t
    · subst e; simp only [upd, if_true]; exact hslot _ (eo.slot k hk)
    · simp only [upd, if_neg e]; exact (eo.slot k hk).le le
  · by_cases e : k = t
    · subst e; simp only [upd, if_true]; exact hslot _ (eo.ghost k hk)
    · simp only [upd, if_neg e]; exact (eo.ghost k hk).le le
end
theorem arK_of {α : Type} {f : α → AV} {xs : List α} {m : Nat} {u : Unit} {K : Prop} (h : chk (decide (xs.length = m)) = some u) (hf : ∀ x, (f x).cells = [f x]) (k : K) : @ArK (some m) (List.map f xs) ⟨K⟩ := by
  refine ⟨?_, ?_, k⟩
  · have := chk_prop h
    simp [this]
  · intro x hx
    obtain ⟨y, _, rfl⟩ := List.mem_map.1 hx
    exact hf y
theorem cl_map {α : Type} {f : α → AV} {xs : List α} (h : ∀ x, (f x).closed = true ∧ (f x).cells = [f x]) : ∀ x ∈ List.map f xs, x.closed = true ∧ x.cells = [x] := by
  intro x hx
  obtain ⟨y, _, rfl⟩ := List.mem_map.1 hx
  exact h y
theorem ce_map {α : Type} {f : α → AV} {xs : List α} (h : ∀ x, (f x).cells = [f x]) : ∀ x ∈ List.map f xs, x.cells = [x] := by
  intro x hx
  obtain ⟨y, _, rfl⟩ := List.mem_map.1 hx
  exact h y
end Go.Av
