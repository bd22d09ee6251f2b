/- Av, part G: 'sOp': the operations that leave the memory alone, all together, and that they yield what it says. -/
import Derived.Test.YteahieldmfehlaaDoorAvF
import Derived.LaidEqlPtr
import Derived.Lib.UnsafeStr
import Derived.Laws.StructEq
namespace Go.Av
open Go.RowKit
set_option linter.unusedVariables false

def hasT (P : Program) (t : TypeId) : Bool := (P.underlying t).isSome
/-- the place n of a list -/
def ixL {α : Type} (xs : List α) (n : Int) : Option α := if 0 ≤ n then xs[n.toNat]? else none
def IxV (xs : List AV) (n : Int) [K : Ko (AV → Prop)] : Prop := ∃ x, ixL xs n = some x ∧ K.k x
def IxS (s : List UInt8) (n : Int) [K : Ko (UInt8 → Prop)] : Prop := ∃ c, ixL s n = some c ∧ K.k c
def IxO (len : Nat) (n : Int) [K : Ko Prop] : Prop := 0 ≤ n ∧ n < len ∧ K.k
theorem ixL_some {α : Type} {xs : List α} {n : Int} {x : α} (h : ixL xs n = some x) : 0 ≤ n ∧ xs[n.toNat]? = some x := by
  unfold ixL at h; split at h
  · exact ⟨‹_›, h⟩
  · simp at h
/-- an array of so many places of one cell -/
def arN (P : Program) (T : TypeId) : Option Nat := match P.underlying T with
  | some (.array n e) => if isA P e = some false ∧ szT P e = some 1 then some n else none
  | _ => none
theorem arN_spec {P : Program} {T : TypeId} {n : Nat} (h : arN P T = some n) : ∃ e, P.underlying T = some (.array n e) ∧ isA P e = some false ∧ szT P e = some 1 := by
  unfold arN at h; split at h
  · rename_i m e hu
    split at h
    · simp at h; subst h; exact ⟨e, hu, ‹_ ∧ _›.1, ‹_ ∧ _›.2⟩
    · simp at h
  · simp at h
def ixV (P : Program) (T : TypeId) (H : List AO) (x i : AV) (K : AV → Prop) : Prop := match x, i with
  | .view sz xs, .int _ n => szE P T = some sz ∧ @IxV xs n ⟨fun e => K (.vptr e 0)⟩
  | .viewx sz xs m, .int _ n => szE P T = some sz ∧ n < m ∧ @IxV xs n ⟨fun e => K (.vptr e 0)⟩
  | .own id ver off len, .int _ n => (match H[id]? with
    | some (.slice v _ s xs) => v = ver ∧ szE P T = some s ∧ @IxO len n ⟨K (.optr id ver (off + n.toNat) 0)⟩
    | _ => False)
  | _, _ => False
def paV (p : AV) (d : Nat) (K : AV → Prop) : Prop := match p with
  | .vptr x off => K (.vptr x (off + d))
  | .optr id ver i off => K (.optr id ver i (off + d))
  | .bptr id off => K (.bptr id (off + d))
  | _ => False
def faV (P : Program) (H : List AO) (T : TypeId) (p : AV) (i : Nat) (K : AV → Prop) : Prop := match fldI P T i with
  | some (off, ft) => (match szT P ft with
    | some (n + 1) => ldP H p fun _ => paV p off K
    | _ => False)
  | none => False
def lenV (P : Program) (t : TypeId) (H : List AO) (x : AV) (K : AV → Prop) : Prop := match x with
  | .str s => isStr P t = true ∧ K (.int .i64 s.length)
  | .view _ xs => (elT P t).isSome = true ∧ K (.int .i64 xs.length)
  | .viewx _ _ n => (elT P t).isSome = true ∧ K (.int .i64 n)
  | .own id ver _ len => (match H[id]? with
    | some (.slice v _ _ _) => v = ver ∧ (elT P t).isSome = true ∧ K (.int .i64 len)
    | _ => False)
  | .sc (.slice none 0 0) => (elT P t).isSome = true ∧ K (.int .i64 0)
  | _ => False
def ptrT (P : Program) (T : TypeId) : Bool := match P.underlying T with
  | some (.pointer te) => (P.info? te).isSome
  | _ => false
def liveB (H : List AO) (id : Nat) : Bool := match H[id]? with
  | some (.box _ _) => true
  | _ => false
def eqB (op : BinOp) (b : Bool) (K : AV → Prop) : Prop := match op with
  | .eql => K (.bool b)
  | .neq => K (.bool !b)
  | _ => False
def nilP : AV → Bool
  | .sc (.pointer none) => true
  | _ => false
def somP (H : List AO) : AV → Bool
  | .bptr id _ => liveB H id
  | .vptr _ _ => true
  | _ => false
def sameP : AV → AV → Bool
  | .bptr i o, .bptr j p => i == j && o == p
  | _, _ => false
def binP (P : Program) (H : List AO) (op : BinOp) (T : TypeId) (x y : AV) (K : AV → Prop) : Prop :=
  ptrT P T = true ∧ (if nilP x && nilP y then eqB op true K else if somP H x && nilP y then eqB op false K else if nilP x && somP H y then eqB op false K else if sameP x y && somP H x then eqB op true K else False)
/-- the kinds of a struct's single cells -/
inductive FK where
  | i | s | b
def kindsL (P : Program) : Nat → List Field → Option (List FK)
  | _, [] => some []
  | i, f :: fs => if f.name ≠ "_" ∧ f.offset = i then (match P.underlying f.type with
    | some .string => (kindsL P (i + 1) fs).map (.s :: ·)
    | some (.int _) => (kindsL P (i + 1) fs).map (.i :: ·)
    | some .bool => (kindsL P (i + 1) fs).map (.b :: ·)
    | _ => none) else none
def stK (P : Program) (T : TypeId) : Option (List FK) := match P.underlying T with
  | some (.struct fs) => if P.eqGuardType P.depth T = false ∧ P.stoodInHeld T = false then kindsL P 0 fs.toList else none
  | _ => none
def eqK : List FK → List AV → List AV → Option Bool
  | [], [], [] => some true
  | .i :: ks, .int k a :: xs, .int k' b :: ys => if k = k' then (eqK ks xs ys).map (decide (a = b) && ·) else none
  | .s :: ks, .str a :: xs, .str b :: ys => (eqK ks xs ys).map (decide (a = b) && ·)
  | .b :: ks, .bool a :: xs, .bool b :: ys => (eqK ks xs ys).map ((a == b) && ·)
  | _, _, _ => none
def eqA (P : Program) (op : BinOp) (T : TypeId) (xs ys : List AV) (K : AV → Prop) : Prop := match stK P T with
  | some ks => (match eqK ks xs ys with
    | some b => eqB op b K
    | none => False)
  | none => False
def binV (P : Program) (H : List AO) (op : BinOp) (T : TypeId) (x y : AV) (K : AV → Prop) : Prop := match x, y with
  | .int k a, .int k' b => (match op with
    | .shl => shiftI .shl k a b K
    | .shr => shiftI .shr k a b K
    | op => k = k' ∧ binI op k a b K)
  | .str a, .str b => binS op a b K
  | .bool a, .bool b => isBoolT P T = true ∧ binB op a b K
  | .agg xs, .agg ys => eqA P op T xs ys K
  | x, y => binP P H op T x y K
def unV (op : UnOp) (x : AV) (K : AV → Prop) : Prop := match op, x with
  | .not, .bool b => K (.bool !b)
  | .neg, .int k n => K (.int k (ineg k n))
  | _, _ => False
def ncV (H : List AO) (x : AV) (K : AV → Prop) : Prop := match x with
  | .fn f caps => K (.fn f caps)
  | .vptr y off => K (.vptr y off)
  | x => ldP H x fun _ => K x

def usdV (H : List AO) (x : AV) (K : AV → Prop) : Prop := match x with
  | .sc (.slice none 0 0) => K (.sc (.pointer none))
  | .own id ver 0 len => (match H[id]? with
    | some (.slice v _ _ _) => v = ver ∧ 0 < len ∧ K (.optr id ver 0 0)
    | _ => False)
  | _ => False
def sOp (P : Program) (op : Op) (env : Env) (H : List AO) (K : AV → Prop) : Prop := match op with
  | .move x => K (evO env x)
  | .assign x => K (evO env x)
  | .pick c a b => (match evO env c with
    | .bool t => @guardK t true ⟨K (evO env a)⟩ ⟨K (evO env b)⟩
    | _ => False)
  | .binOp op T x y _ => binV P H op T (evO env x) (evO env y) K
  | .unOp op _ x => unV op (evO env x) K
  | .extract t i => (match evO env t with
    | .tup xs => (match xs[i]? with
      | some x => K x
      | none => False)
    | _ => False)
  | .load T p => ldP H (evO env p) fun cs => ldV P T cs K
  | .indexAddr T x i => ixV P T H (evO env x) (evO env i) K
  | .index T x i => (match evO env x, evO env i with
    | .str s, .int _ n => isStr P T = true ∧ @IxS s n ⟨fun c => K (encB c)⟩
    | .agg cs, .int _ n => arN P T = some cs.length ∧ @IxV cs n ⟨K⟩
    | _, _ => False)
  | .slice T x lo hi none => slV P T H (evO env x) (lo.map (evO env)) (hi.map (evO env)) K
  | .field T x i => (match evO env x with
    | .agg cs => (match fldI P T i with
      | some (off, ft) => ldV P ft (cs.drop off) K
      | none => False)
    | _ => False)
  | .fieldAddr T p i => faV P H T (evO env p) i K
  | .convert src dst x => hasT P src = true ∧ convV P src dst H (evO env x) K
  | .makeFunc (.func f) first captured => first.toList = [] ∧ K (.fn f (captured.toList.map (evO env)))
  | .makeInterface T x => P.concrete T = true ∧ K (.iface T (evO env x))
  | .nilCheck x => ncV H (evO env x) K
  | .call { callee := .builtin .len, args, argTypes } => (match args.toList, argTypes.toList with
    | [x], [t] => lenV P t H (evO env x) K
    | _, _ => False)
  | .call { callee := .builtin .unsafeSliceData, args, argTypes := _ } => (match args.toList with
    | [x] => usdV H (evO env x) K
    | _ => False)
  | .call { callee := .builtin .min, args, argTypes := _ } => (match args.toList with
    | [x, y] => (match evO env x, evO env y with
      | .int k a, .int _ b => K (.int k (min a b))
      | _, _ => False)
    | _ => False)
  | .call { callee := .builtin .max, args, argTypes := _ } => (match args.toList with
    | [x, y] => (match evO env x, evO env y with
      | .int k a, .int _ b => K (.int k (max a b))
      | _, _ => False)
    | _ => False)
  | _ => False

def opOK (n : Nat) (op : Op) : Bool := op.operands.toList.all (okO n)

section
variable {P : Program} {B : Nat} {X : Nat → Prop} {w0 w : World} {φ : Nat → Value} {H : List AO} {K : AV → Prop}

theorem RdP.add {cs : List AV} {v : Value} (rd : RdP w φ H cs v) : ∃ b o, v = .pointer (some ⟨b, o, none⟩) := let ⟨b, o, h, _⟩ := rd; ⟨b, o, h⟩

theorem ixV_sound (st : St B X w0 w φ H) {T : TypeId} {x i : AV} {v iv : Value} (r : R w φ H x v) (ri : R w φ H i iv) (h : ixV P T H x i K) : Gives P w φ H K (Instr.indexAt T v iv) := by
  cases i <;> (try (cases x <;> exact h.elim))
  rename_i k n
  cases ri
  cases x <;> simp only [ixV] at h
  case view sz xs =>
    obtain ⟨hsz, e, he, hk⟩ := h
    obtain ⟨h0, he⟩ := ixL_some he
    obtain ⟨E, hE, hs⟩ : ∃ E, elT P T = some E ∧ szT P E = some sz := by simpa [szE, Option.bind_eq_some_iff] using hsz
    have hlt : n.toNat < xs.length := (List.getElem?_eq_some_iff.1 he).1
    cases r with
    | view0 s ad cap => simp at hlt
    | view _ b off size cap u hcap hb hl hcl hs' hc hr =>
      have hn : n < (xs.length : Int) := by omega
      refine .mk' _ (.pointer (some ⟨b, off + n.toNat * sz, none⟩)) hk (.vptr e 0 b _ (u n.toNat) (hcl _ _ he) hb hl (fun j c hj => by rw [Nat.zero_add] at hj; exact hc _ _ j c he hj) (fun j c hj => by rw [Nat.zero_add] at hj; exact hr _ _ j c he hj)) fun w' => ?_
      simp [Instr.indexAt, asIntOf, run_underlying (und_of_elT hE), run_sizeOf' hs, h0, hn, add_lit]
  case viewx sz xs m =>
    obtain ⟨hsz, hm, e, he, hk⟩ := h
    obtain ⟨h0, he⟩ := ixL_some he
    obtain ⟨E, hE, hs⟩ : ∃ E, elT P T = some E ∧ szT P E = some sz := by simpa [szE, Option.bind_eq_some_iff] using hsz
    cases r with
    | viewx _ n' b off size cap u hn hcap hb hl hcl hs' hc hr =>
      refine .mk' _ (.pointer (some ⟨b, off + n.toNat * sz, none⟩)) hk (.vptr e 0 b _ (u n.toNat) (hcl _ _ he) hb hl (fun j c hj => by rw [Nat.zero_add] at hj; exact hc _ _ j c he hj) (fun j c hj => by rw [Nat.zero_add] at hj; exact hr _ _ j c he hj)) fun w' => ?_
      simp [Instr.indexAt, asIntOf, run_underlying (und_of_elT hE), run_sizeOf' hs, h0, hm, add_lit]
  case own id ver off len =>
    rcases hH : H[id]? with _ | o
    · simp [hH] at h
    cases o with
    | box T cs => simp [hH] at h
    | iter _ _ => simp [hH] at h
    | gone => simp [hH] at h
    | slice ver' E' s xs =>
      simp only [hH] at h
      obtain ⟨rfl, hsz, h0, hm, hk⟩ := h
      obtain ⟨E, hE, hs⟩ : ∃ E, elT P T = some E ∧ szT P E = some s := by simpa [szE, Option.bind_eq_some_iff] using hsz
      cases r with
      | own _ _ _ _ _ hid _ hvv hh =>
        obtain ⟨o1, o2⟩ := hh E' s xs hH
        rcases o2 with ⟨f1, rfl, f3⟩ | ⟨g, cap, f1, f2, ad, rfl, f3, f4⟩
        · omega
        · have had := f3 (by omega)
          subst had
          refine .mk' _ (.pointer (some ⟨g, (off + n.toNat) * s, none⟩)) hk (.optr _ _ _ _ _ hid rfl hvv fun E2 s2 xs2 he => ?_) fun w' => ?_
          · rw [hH] at he
            simp at he
            obtain ⟨rfl, rfl, rfl⟩ := he
            exact ⟨g, _, cap, f1, rfl⟩
          · simp [Instr.indexAt, asIntOf, run_underlying (und_of_elT hE), run_sizeOf' hs, h0, hm, add_lit, Nat.add_mul]

theorem faV_sound (st : St B X w0 w φ H) {T : TypeId} {p : AV} {v : Value} {i : Nat} (r : R w φ H p v) (h : faV P H T p i K) : Gives P w φ H K (Instr.fieldAt T v i) := by
  unfold faV at h
  rcases hf : fldI P T i with _ | ⟨off, ft⟩
  · simp [hf] at h
  simp only [hf] at h
  rcases hs : szT P ft with _ | _ | n
  · simp [hs] at h
  · simp [hs] at h
  simp only [hs] at h
  obtain ⟨cs, hk, b, o, rfl, _⟩ := ldP_sound st r h
  obtain ⟨fs, f, hu, hfi, h1, h2⟩ : ∃ fs f, P.underlying T = some (.struct fs) ∧ fs[i]? = some f ∧ f.offset = off ∧ f.type = ft := by
    unfold fldI at hf
    split at hf
    · rename_i fs hu
      simp only [Option.map_eq_some_iff] at hf
      obtain ⟨f, hfi, he⟩ := hf
      simp at he
      exact ⟨fs, f, hu, hfi, he.1, he.2⟩
    · simp at hf
  have hrun : ∀ w', (Instr.fieldAt T (.pointer (some ⟨b, o, none⟩)) i).run P w' = .ok (.pointer (some ⟨b, o + off, none⟩)) w' := fun w' => by
    subst h1 h2
    simp [Instr.fieldAt, run_underlying hu, hfi, Instr.sureAddr, fieldPlace, run_sizeOf' hs, add_lit]
  cases p <;> simp only [paV] at hk
  case vptr x d =>
    cases r with
    | vptr _ _ _ _ u hcl hb hl hc hr =>
      refine .mk' _ _ hk (.vptr _ _ _ _ (fun j => u (off + j)) hcl hb hl (fun j c hj => ?_) (fun j c hj => ?_)) hrun
      · rw [Nat.add_assoc]; exact hc (off + j) c (by rw [← Nat.add_assoc]; exact hj)
      · exact hr (off + j) c (by rw [← Nat.add_assoc]; exact hj)
  case optr id ver k d =>
    cases r with
    | optr _ _ _ _ _ hid _ hvv hh =>
      refine .mk' _ _ hk (.optr _ _ _ _ _ hid rfl hvv fun E s xs he => ?_) hrun
      obtain ⟨g, n, cap, e1, e2⟩ := hh E s xs he
      simp at e2
      obtain ⟨rfl, rfl⟩ := e2
      exact ⟨b, n, cap, e1, by rw [Nat.add_assoc]⟩
  case bptr id d =>
    cases r with
    | bptr _ _ _ hid _ hh =>
      refine .mk' _ _ hk (.bptr _ _ _ hid rfl fun o he hp => ?_) hrun
      obtain ⟨g, e1, e2⟩ := hh o he hp
      simp at e2
      obtain ⟨rfl, rfl⟩ := e2
      exact ⟨b, e1, rfl⟩

theorem lenV_sound (st : St B X w0 w φ H) {t ty : TypeId} {x : AV} {v : Value} (r : R w φ H x v) (h : lenV P t H x K) : Gives P w φ H K (Builtin.len_ #[t] ty #[v]) := by
  have hsl : ∀ (ad : Option Addr) (n cap : Nat), (elT P t).isSome = true → ∀ w', (Builtin.len_ #[t] ty #[.slice ad n cap]).run P w' = .ok (.int .i64 n) w' := fun ad n cap he w' => by
    obtain ⟨E, hE⟩ := Option.isSome_iff_exists.1 he
    simp [Builtin.len_, run_underlying (und_of_elT hE), goInt]
  cases x <;> simp only [lenV] at h
  case str s =>
    cases r
    exact .mk' _ _ h.2 (.int _ _) fun w' => by rw [run_len_string w' _ _ _ (und_of_isStr h.1)]; rfl
  case view s xs =>
    cases r with
    | view0 s ad cap => exact .mk' _ _ h.2 (.int _ _) fun w' => hsl ad 0 cap h.1 w'
    | view _ b off size cap u hcap hb hl hcl hs hc hr => exact .mk' _ _ h.2 (.int _ _) fun w' => hsl _ _ cap h.1 w'
  case viewx s xs n =>
    cases r with
    | viewx _ n b off size cap u hn hcap hb hl hcl hs hc hr => exact .mk' _ _ h.2 (.int _ _) fun w' => hsl _ _ cap h.1 w'
  case own id ver off len =>
    rcases hH : H[id]? with _ | o
    · simp [hH] at h
    cases o with
    | box T cs => simp [hH] at h
    | iter _ _ => simp [hH] at h
    | gone => simp [hH] at h
    | slice ver' E' s xs =>
      simp only [hH] at h
      obtain ⟨rfl, h1, hk⟩ := h
      cases r with
      | own _ _ _ _ _ hid _ _ hh =>
        obtain ⟨o1, o2⟩ := hh E' s xs hH
        rcases o2 with ⟨f1, rfl, f3⟩ | ⟨g, cap, f1, f2, ad, rfl, f3, f4⟩
        · have : len = 0 := by omega
          subst this
          exact .mk' _ _ hk (.int _ _) fun w' => hsl none 0 0 h1 w'
        · exact .mk' _ _ hk (.int _ _) fun w' => hsl _ _ _ h1 w'
  case sc u =>
    cases r
    split at h <;> rename_i heq
    all_goals first | exact h.elim | (simp at heq) | skip
    all_goals (try subst heq)
    all_goals exact .mk' _ _ h.2 (.int _ _) fun w' => hsl none 0 0 h.1 w'

theorem gives_next {s : Sem Value} (h : Gives P w φ H K s) : ∃ x v, K x ∧ R w φ H x v ∧ ∀ w', Ext w w' → (do pure (Next.value (← s))).run P w' = .ok (.value v) w' :=
  let ⟨x, v, h1, h2, h3⟩ := h
  ⟨x, v, h1, h2, fun w' hw => by simp only [Sem.run_bind, h3 w' hw, Result.andThen_ok, Sem.run_pure]⟩

theorem ptrT_spec {T : TypeId} (h : ptrT P T = true) : ∃ te j, P.underlying T = some (.pointer te) ∧ P.info? te = some j := by
  unfold ptrT at h
  split at h
  · rename_i te hte
    obtain ⟨j, hj⟩ := Option.isSome_iff_exists.1 h
    exact ⟨te, j, hte, hj⟩
  · simp at h
theorem run_eqP {op : BinOp} {T : TypeId} {b : Bool} {p q : Option Addr} (h : eqB op b K) (hrun : ∀ (w' : World) (d : Nat), (Op.equalIn (d + 1) T (.pointer p) (.pointer q)).run P w' = .ok b w') : Gives P w φ H K (Go.binOp op T (.pointer p) (.pointer q)) := by
  have h9 := fun w' => hrun w' 9999
  cases op <;> (try exact h.elim)
  · exact .mk' _ (.bool b) h (.bool _) fun w' => by simp only [Go.binOp]; simp [Op.equal, Op.maxDepth, h9]
  · exact .mk' _ (.bool !b) h (.bool _) fun w' => by simp only [Go.binOp]; simp [Op.equal, Op.maxDepth, h9]
theorem liveB_spec {id off : Nat} {v : Value} (hl : liveB H id = true) (r : R w φ H (.bptr id off) v) : ∃ g, φ id = .pointer (some ⟨g, 0, none⟩) ∧ v = .pointer (some ⟨g, off, none⟩) := by
  unfold liveB at hl
  split at hl
  · rename_i T cs hH
    cases r with
    | bptr _ _ _ hid ho hh => exact hh _ hH rfl
  · simp at hl
theorem nilP_spec {x : AV} {v : Value} (r : R w φ H x v) (h : nilP x = true) : v = .pointer none := by
  unfold nilP at h
  split at h
  · cases r; rfl
  · simp at h
theorem somP_spec {x : AV} {v : Value} (r : R w φ H x v) (h : somP H x = true) : ∃ a, v = .pointer (some a) := by
  unfold somP at h
  split at h
  · obtain ⟨g, _, h⟩ := liveB_spec h r; exact ⟨_, h⟩
  · cases r; exact ⟨_, rfl⟩
  · simp at h
theorem sameP_spec {x y : AV} {u v : Value} (rx : R w φ H x u) (ry : R w φ H y v) (h : sameP x y = true) (h2 : somP H x = true) : u = v := by
  unfold sameP at h
  split at h
  · simp only [Bool.and_eq_true, beq_iff_eq] at h
    obtain ⟨rfl, rfl⟩ := h
    obtain ⟨g, e1, rfl⟩ := liveB_spec h2 rx
    obtain ⟨g', e2, rfl⟩ := liveB_spec h2 ry
    rw [e1] at e2
    simp at e2
    subst e2
    rfl
  · simp at h
theorem binP_sound {op : BinOp} {T : TypeId} {x y : AV} {u v : Value} (rx : R w φ H x u) (ry : R w φ H y v) (h : binP P H op T x y K) (ox oy : Operand) : Gives P w φ H K (do eqGuard op T ox oy u v; Go.binOp op T u v) := by
  obtain ⟨h1, h⟩ := h
  obtain ⟨te, j, hp, hj⟩ := ptrT_spec h1
  have key : ∀ p q b, u = .pointer p → v = .pointer q → eqB op b K → (∀ (w' : World) (d : Nat), (Op.equalIn (d + 1) T (.pointer p) (.pointer q)).run P w' = .ok b w') → Gives P w φ H K (do eqGuard op T ox oy u v; Go.binOp op T u v) := fun p q b hu hv hb hrun => by
    subst hu hv
    obtain ⟨z, v, h1, h2, h3⟩ := run_eqP (w := w) (φ := φ) (H := H) hb hrun
    exact ⟨z, v, h1, h2, fun w' hw => by
      have : (eqGuard op T ox oy (.pointer p) (.pointer q)).run P w' = .ok () w' := by unfold eqGuard; simp
      simp only [Sem.run_bind, this, Result.andThen_ok, h3 w' hw]⟩
  split at h
  · rename_i hc
    simp only [Bool.and_eq_true] at hc
    exact key none none true (nilP_spec rx hc.1) (nilP_spec ry hc.2) h fun w' d => by simp [Op.equalIn, run_underlying hp]
  split at h
  · rename_i hc
    simp only [Bool.and_eq_true] at hc
    obtain ⟨a, hu⟩ := somP_spec rx hc.1
    exact key (some a) none false hu (nilP_spec ry hc.2) h fun w' d => by simp [Op.equalIn, run_underlying hp]
  split at h
  · rename_i hc
    simp only [Bool.and_eq_true] at hc
    obtain ⟨a, hv⟩ := somP_spec ry hc.2
    exact key none (some a) false (nilP_spec rx hc.1) hv h fun w' d => by simp [Op.equalIn, run_underlying hp]
  split at h
  · rename_i hc
    simp only [Bool.and_eq_true] at hc
    obtain ⟨a, hu⟩ := somP_spec rx hc.2
    have huv := sameP_spec rx ry hc.1 hc.2
    exact key (some a) (some a) true hu (huv ▸ hu) h fun w' d => by simp [Op.equalIn, run_underlying hp, sizeOf, typeInfo, hj, run_sameAddr_same]
  · exact h.elim
theorem usdV_sound (st : St B X w0 w φ H) {x : AV} {v : Value} (r : R w φ H x v) (ts : Array TypeId) (ty : TypeId) (h : usdV H x K) : Gives P w φ H K (Builtin.unsafeSliceData_ ts ty #[v]) := by
  unfold usdV at h
  split at h
  · cases r
    exact .mk' _ (.pointer none) h (.sc _) fun w' => rfl
  · rename_i id ver len
    rcases hH : H[id]? with _ | o
    · simp [hH] at h
    cases o <;> simp only [hH] at h
    rename_i ver' E s xs
    obtain ⟨rfl, hl, hk⟩ := h
    cases r with
    | own _ _ _ _ _ hid _ hvv hh =>
      obtain ⟨o1, o2⟩ := hh E s xs hH
      rcases o2 with ⟨f1, rfl, f3⟩ | ⟨g, cap, f1, f2, ad, rfl, f3, f4⟩
      · omega
      · have := f4 rfl
        subst this
        refine .mk' _ (.pointer (some ⟨g, 0, none⟩)) hk (.optr _ _ _ _ _ hid rfl hvv fun E2 s2 xs2 he2 => ?_) fun w' => ?_
        · rw [hH] at he2
          simp at he2
          exact ⟨g, _, _, f1, by simp⟩
        · exact Lib.run_unsafeSliceData_row _ _ _ _ _ _ (by omega)
  · exact h.elim

theorem one_getElemG {us : Array Value} {n : Nat} (h : us.size = n) {i : Nat} (hi : i < n) : ∃ u, us[i]? = some u := ⟨_, Array.getElem?_eq_getElem (by omega)⟩
theorem eqFields_run (d : Nat) {us vs : Array Value} {w' : World} : ∀ (fs : List Field) (i : Nat) (ks : List FK) (xs ys : List AV) (b : Bool), kindsL P i fs = some ks → eqK ks xs ys = some b →
    (∀ (j : Nat) x, xs[j]? = some x → ∃ u, us[i + j]? = some u ∧ R w φ H x u) → (∀ (j : Nat) x, ys[j]? = some x → ∃ u, vs[i + j]? = some u ∧ R w φ H x u) → (Op.eqFields (d + 1) us vs fs).run P w' = .ok b w'
  | [], i, ks, xs, ys, b, hk, he, _, _ => by
    simp [kindsL] at hk
    subst hk
    cases xs <;> cases ys <;> simp [eqK] at he
    subst he
    simp [Op.eqFields]
  | f :: fs, i, ks, xs, ys, b, hk, he, hx, hy => by
    rw [kindsL] at hk
    split at hk
    · rename_i hf
      obtain ⟨hn, ho⟩ := hf
      have part_run : ∀ {cs : Array Value} {u : Value}, isA P f.type = some false → cs[i]? = some u → (part f.type cs f.offset).run P w' = .ok u w' := fun hA hu => by
        simp only [part, Sem.run_bind, run_isAgg' hA, Result.andThen_ok, Bool.false_eq_true, if_false, ho, hu, Sem.run_pure]
      have fin : ∀ {u v : Value} {c b' : Bool}, isA P f.type = some false → us[i]? = some u → vs[i]? = some v → (Op.equalIn (d + 1) f.type u v).run P w' = .ok c w' → (Op.eqFields (d + 1) us vs fs).run P w' = .ok b' w' → (Op.eqFields (d + 1) us vs (f :: fs)).run P w' = .ok (c && b') w' := by
        intro u v c b' hA hu hv hc hr
        simp only [Op.eqFields, if_pos hn, Sem.run_bind, part_run hA hu, part_run hA hv, Result.andThen_ok, hc]
        cases c
        · simp
        · simp [hr]
      have sh : ∀ {zs : Array Value} {z : AV} {l : List AV}, (∀ (j : Nat) x, (z :: l)[j]? = some x → ∃ u, zs[i + j]? = some u ∧ R w φ H x u) → ∀ (j : Nat) x, l[j]? = some x → ∃ u, zs[i + 1 + j]? = some u ∧ R w φ H x u := fun h j x hj => by
        have := h (j + 1) x (by simpa using hj)
        rwa [show i + (j + 1) = i + 1 + j by omega] at this
      split at hk
      · rename_i hu
        obtain ⟨ks', h1, rfl⟩ := Option.map_eq_some_iff.1 hk
        rcases xs with _ | ⟨x, xs⟩ <;> rcases ys with _ | ⟨y, ys⟩ <;> (try (simp [eqK] at he; done))
        all_goals try (cases x <;> simp [eqK] at he; done)
        cases x <;> cases y <;> first | (simp [eqK] at he; done) | skip
        rename_i s t
        simp only [eqK] at he
        obtain ⟨b', h2, rfl⟩ := Option.map_eq_some_iff.1 he
        obtain ⟨u, u1, u2⟩ := hx 0 _ rfl
        obtain ⟨v, v1, v2⟩ := hy 0 _ rfl
        cases u2
        cases v2
        refine fin (by simp [isA, hu]) u1 v1 ?_ (eqFields_run d fs (i + 1) ks' xs ys b' h1 h2 (sh hx) (sh hy))
        rw [run_equalIn_string w' d f.type _ _ hu]
        simp only [ByteArray.toList_eq]
        congr 1
        exact Bool.eq_iff_iff.2 (by simp)
      · rename_i k hu
        obtain ⟨ks', h1, rfl⟩ := Option.map_eq_some_iff.1 hk
        rcases xs with _ | ⟨x, xs⟩ <;> rcases ys with _ | ⟨y, ys⟩ <;> (try (simp [eqK] at he; done))
        all_goals try (cases x <;> simp [eqK] at he; done)
        cases x <;> cases y <;> first | (simp [eqK] at he; done) | skip
        rename_i k1 s k2 t
        simp only [eqK] at he
        split at he
        case isFalse => cases he
        rename_i hkk
        subst hkk
        obtain ⟨b', h2, rfl⟩ := Option.map_eq_some_iff.1 he
        obtain ⟨u, u1, u2⟩ := hx 0 _ rfl
        obtain ⟨v, v1, v2⟩ := hy 0 _ rfl
        cases u2
        cases v2
        refine fin (by simp [isA, hu]) u1 v1 ?_ (eqFields_run d fs (i + 1) ks' xs ys b' h1 h2 (sh hx) (sh hy))
        rw [run_equalIn_int w' d f.type _ _ _ _ hu]
        rfl
      · rename_i hu
        obtain ⟨ks', h1, rfl⟩ := Option.map_eq_some_iff.1 hk
        rcases xs with _ | ⟨x, xs⟩ <;> rcases ys with _ | ⟨y, ys⟩ <;> (try (simp [eqK] at he; done))
        all_goals try (cases x <;> simp [eqK] at he; done)
        cases x <;> cases y <;> first | (simp [eqK] at he; done) | skip
        rename_i s t
        simp only [eqK] at he
        obtain ⟨b', h2, rfl⟩ := Option.map_eq_some_iff.1 he
        obtain ⟨u, u1, u2⟩ := hx 0 _ rfl
        obtain ⟨v, v1, v2⟩ := hy 0 _ rfl
        cases u2
        cases v2
        refine fin (by simp [isA, hu]) u1 v1 ?_ (eqFields_run d fs (i + 1) ks' xs ys b' h1 h2 (sh hx) (sh hy))
        exact run_equalIn_bool' w' d f.type _ _ hu
      · cases hk
    · cases hk
theorem eqA_sound {op : BinOp} {T : TypeId} {xs ys : List AV} {us vs : Array Value} (hs : us.size = xs.length) (hx : ∀ (i : Nat) (x : AV) (u : Value), xs[i]? = some x → us[i]? = some u → R w φ H x u) (hs' : vs.size = ys.length) (hy : ∀ (i : Nat) (x : AV) (u : Value), ys[i]? = some x → vs[i]? = some u → R w φ H x u)
    (h : eqA P op T xs ys K) (ox oy : Operand) : Gives P w φ H K (do eqGuard op T ox oy (.agg us) (.agg vs); Go.binOp op T (.agg us) (.agg vs)) := by
  unfold eqA at h
  split at h
  · rename_i ks hks
    split at h
    · rename_i b hb
      unfold stK at hks
      split at hks
      · rename_i fs hu
        split at hks
        · rename_i hc
          have ht : P.underlying T = some (.struct (P.fieldsOf T)) := by rw [Program.fieldsOf, hu]
          have hfs : P.fieldsOf T = fs := by rw [Program.fieldsOf, hu]
          have get : ∀ {zs : List AV} {us : Array Value}, us.size = zs.length → (∀ (i : Nat) (x : AV) (u : Value), zs[i]? = some x → us[i]? = some u → R w φ H x u) → ∀ (j : Nat) x, zs[j]? = some x → ∃ u, us[0 + j]? = some u ∧ R w φ H x u := fun hs hx j x hj => by
            obtain ⟨u, hu⟩ := one_getElemG hs (List.getElem?_eq_some_iff.1 hj).1
            exact ⟨u, by rw [Nat.zero_add]; exact hu, hx j x u hj hu⟩
          have run : ∀ w', (Op.equalIn 10000 T (.agg us) (.agg vs)).run P w' = .ok b w' := fun w' => by
            rw [run_equalIn_agg w' 9999 T us vs ht hc.2, hfs]
            exact eqFields_run 9998 fs.toList 0 ks xs ys b hks hb (get hs hx) (get hs' hy)
          cases op <;> simp only [eqB] at h <;> (try exact h.elim)
          · exact ⟨_, .bool b, h, .bool b, fun w' _ => by simp only [Sem.run_bind, run_eqGuard_agg w' _ T ox oy us vs hc.1, Result.andThen_ok, run_eql_struct, run w']⟩
          · exact ⟨_, .bool (!b), h, .bool _, fun w' _ => by simp only [Sem.run_bind, run_eqGuard_agg w' _ T ox oy us vs hc.1, Result.andThen_ok, run_neq_struct, run w']⟩
        · cases hks
      · cases hks
    · exact h.elim
  · exact h.elim

theorem binV_sound {op : BinOp} {T : TypeId} {x y : AV} {u v : Value} (rx : R w φ H x u) (ry : R w φ H y v) (h : binV P H op T x y K) (ox oy : Operand) : Gives P w φ H K (do eqGuard op T ox oy u v; Go.binOp op T u v) := by
  have hg : (∀ k n, u = .int k n → True) → (eqGuard op T ox oy u v = pure () ∨ True) := fun _ => .inr trivial
  have key : Gives P w φ H K (Go.binOp op T u v) → (∀ w', (eqGuard op T ox oy u v).run P w' = .ok () w') → Gives P w φ H K (do eqGuard op T ox oy u v; Go.binOp op T u v) := fun ⟨x, v, h1, h2, h3⟩ hq =>
    ⟨x, v, h1, h2, fun w' hw => by simp only [Sem.run_bind, hq, Result.andThen_ok, h3 w' hw]⟩
  cases x <;> cases y <;> (try exact binP_sound rx ry h ox oy)
  case int.int k a k' b =>
    cases rx
    cases ry
    refine key ?_ (fun w' => by unfold eqGuard; simp)
    simp only [binV] at h
    cases op
    case shl => exact shiftI_sound .shl T k k' a b h
    case shr => exact shiftI_sound .shr T k k' a b h
    all_goals
      obtain ⟨rfl, h⟩ := h
      exact binI_sound _ T k a b h
  case str.str a b =>
    cases rx
    cases ry
    exact key (binS_sound op T a b h) (fun w' => by unfold eqGuard; simp)
  case agg.agg xs ys =>
    cases rx with
    | agg _ us hs hr =>
      cases ry with
      | agg _ vs hs' hr' => exact eqA_sound hs hr hs' hr' h ox oy
  case bool.bool a b =>
    cases rx
    cases ry
    exact key (binB_sound op T h.1 a b h.2) (fun w' => by unfold eqGuard; simp)

theorem sOp_sound {n : Nat} (st : St B X w0 w φ H) {env : Env} {a : Act} {g : Nat → Value} (eo : EnvOK w φ H env a n g) {o : Oper} (hn : opOK n o.op = true) (h : sOp P o.op env H K) :
    ∃ x v, K x ∧ R w φ H x v ∧ ∀ w', Ext w w' → (execOp a.eval o).run P w' = .ok (.value v) w' := by
  have ev : ∀ x, x ∈ o.op.operands.toList → R w φ H (evO env x) (a.eval x) := fun x hx => evO_R eo x (by
    have := List.all_eq_true.1 hn x hx
    exact this)
  obtain ⟨dst, op, ty, pos, after, guard⟩ := o
  dsimp only at h ev
  cases op <;> (try exact h.elim)
  case move x => exact ⟨_, _, h, ev x (by simp [Op.operands]), fun w' _ => by simp [execOp]⟩
  case assign x => exact ⟨_, _, h, ev x (by simp [Op.operands]), fun w' _ => by simp [execOp]⟩
  case pick c x y =>
    have rc := ev c (by simp [Op.operands])
    have rx := ev x (by simp [Op.operands])
    have ry := ev y (by simp [Op.operands])
    simp only [sOp] at h
    generalize evO env c = ec at h rc
    cases ec <;> (try exact h.elim)
    rename_i t
    generalize hce : a.eval c = vc at rc
    cases rc
    cases t
    · exact ⟨_, _, h.2 rfl, ry, fun w' _ => by simp [execOp, hce, asBool]⟩
    · exact ⟨_, _, h.1 rfl, rx, fun w' _ => by simp [execOp, hce, asBool]⟩
  case binOp op T x y yT =>
    obtain ⟨z, v, h1, h2, h3⟩ := gives_next (binV_sound (ev x (by simp [Op.operands])) (ev y (by simp [Op.operands])) h x y)
    exact ⟨z, v, h1, h2, fun w' hw => by simpa only [execOp] using h3 w' hw⟩
  case unOp op T x =>
    have rx := ev x (by simp [Op.operands])
    simp only [sOp] at h
    generalize hxe : a.eval x = vx at rx
    generalize evO env x = ex at h rx
    cases op <;> cases ex <;> (try exact h.elim)
    case neg.int k n =>
      cases rx
      simp only [unV] at h
      exact ⟨_, _, h, .int _ _, fun w' _ => by simp [execOp, hxe, Op.unary, Op.intArith, ineg]⟩
    case not.bool b =>
      cases rx
      exact ⟨_, _, h, .bool _, fun w' _ => by simp [execOp, hxe, Op.unary]⟩
  case extract t i =>
    have rx := ev t (by simp [Op.operands])
    simp only [sOp] at h
    generalize hxe : a.eval t = vx at rx
    generalize evO env t = ex at h rx
    cases ex <;> (try exact h.elim)
    rename_i xs
    cases rx with
    | tup _ us hs hr =>
      dsimp only at h
      rcases hx : xs[i]? with _ | x
      · simp [hx] at h
      · simp only [hx] at h
        have hlt : i < us.size := by rw [hs]; exact (List.getElem?_eq_some_iff.1 hx).1
        exact ⟨x, us[i], h, hr i x _ hx (Array.getElem?_eq_getElem hlt), fun w' _ => by simp [execOp, hxe, Instr.extract, Array.getElem?_eq_getElem hlt]⟩
  case load T p =>
    simp only [sOp] at h
    obtain ⟨cs, hk, rd⟩ := ldP_sound st (ev p (by simp [Op.operands])) h
    obtain ⟨z, v, h1, h2, h3⟩ := gives_next (ldV_sound rd hk)
    exact ⟨z, v, h1, h2, fun w' hw => by simpa only [execOp] using h3 w' hw⟩
  case indexAddr T x i =>
    obtain ⟨z, v, h1, h2, h3⟩ := gives_next (ixV_sound st (ev x (by simp [Op.operands])) (ev i (by simp [Op.operands])) h)
    exact ⟨z, v, h1, h2, fun w' hw => by simpa only [execOp] using h3 w' hw⟩
  case index T x i =>
    have rx := ev x (by simp [Op.operands])
    have ri := ev i (by simp [Op.operands])
    simp only [sOp] at h
    generalize hxe : a.eval x = vx at rx
    generalize evO env x = ex at h rx
    generalize hie : a.eval i = vi at ri
    generalize evO env i = ei at h ri
    cases ex <;> cases ei <;> (try exact h.elim)
    case agg.int cs k n =>
      cases ri
      cases rx with
      | agg _ us hs hr =>
        obtain ⟨hT, x, hx, hk⟩ := h
        obtain ⟨h0, hx⟩ := ixL_some hx
        obtain ⟨e, hu, hA, hS⟩ := arN_spec hT
        have hlt : n.toNat < cs.length := (List.getElem?_eq_some_iff.1 hx).1
        have hlt' : n.toNat < us.size := by omega
        refine ⟨x, us[n.toNat], hk, hr _ x _ hx (Array.getElem?_eq_getElem hlt'), fun w' _ => ?_⟩
        have hi : 0 ≤ n ∧ n < (cs.length : Int) := ⟨h0, by omega⟩
        simp [execOp, hxe, hie, Instr.index, asIntOf, run_underlying hu, hi, run_sizeOf' hS, part, run_isAgg' hA, Array.getElem?_eq_getElem hlt']
    rename_i s k n
    cases rx
    cases ri
    obtain ⟨hT, c, hc, hk⟩ := h
    obtain ⟨h0, hc⟩ := ixL_some hc
    have hlt : n.toNat < s.length := (List.getElem?_eq_some_iff.1 hc).1
    have hi : 0 ≤ n ∧ n < ((⟨s.toArray⟩ : ByteArray).size : Int) := ⟨h0, by simp [ByteArray.size]; omega⟩
    refine ⟨_, _, hk, .int _ _, fun w' _ => ?_⟩
    have hs : s[n.toNat] = c := (List.getElem?_eq_some_iff.1 hc).2
    simp only [execOp, hxe, hie, Sem.run_bind, run_index_string w' T _ k n (und_of_isStr hT), dif_pos hi, Result.andThen_ok, Sem.run_pure]
    rw [← hs]
    rfl
  case slice T x lo hi mx =>
    cases mx with
    | some m => exact h.elim
    | none =>
      simp only [sOp] at h
      have hm : ∀ (l : Option Operand), (∀ z, l = some z → z ∈ (Op.slice T x lo hi none).operands.toList) → (∀ y u, l.map (evO env) = some y → l.map a.eval = some u → R w φ H y u) ∧ (l.map (evO env) = none ↔ l.map a.eval = none) := fun l hl => by
        cases l with
        | none => simp
        | some z => simp; exact ev z (hl z rfl)
      have hlo := hm lo (fun z hz => by subst hz; simp [Op.operands])
      have hhi := hm hi (fun z hz => by subst hz; simp [Op.operands])
      obtain ⟨z, v, h1, h2, h3⟩ := gives_next (slV_sound st (ev x (by simp [Op.operands])) hlo.1 hlo.2 hhi.1 hhi.2 h)
      exact ⟨z, v, h1, h2, fun w' hw => by simpa only [execOp, Option.map_none] using h3 w' hw⟩
  case field T x i =>
    have rx := ev x (by simp [Op.operands])
    simp only [sOp] at h
    generalize hxe : a.eval x = vx at rx
    generalize evO env x = ex at h rx
    cases ex <;> (try exact h.elim)
    rename_i cs
    cases rx with
    | agg _ us hs hr =>
      dsimp only at h
      rcases hf : fldI P T i with _ | ⟨off, ft⟩
      · simp [hf] at h
      simp only [hf] at h
      obtain ⟨fs, f, hu, hfi, h1, h2⟩ : ∃ fs f, P.underlying T = some (.struct fs) ∧ fs[i]? = some f ∧ f.offset = off ∧ f.type = ft := by
        unfold fldI at hf
        split at hf
        · rename_i fs hu
          simp only [Option.map_eq_some_iff] at hf
          obtain ⟨f, hfi, he⟩ := hf
          simp at he
          exact ⟨fs, f, hu, hfi, he.1, he.2⟩
        · simp at hf
      unfold ldV at h
      rcases hA : isA P ft with _ | _ | _
      · rw [hA] at h; exact h.elim
      · simp only [hA] at h
        rcases hd : cs.drop off with _ | ⟨c, rest⟩
        · simp [hd] at h
        simp only [hd] at h
        have hc : cs[off]? = some c := by
          have : (cs.drop off)[0]? = some c := by rw [hd]; rfl
          rw [List.getElem?_drop] at this
          simpa using this
        have hlt : off < us.size := by rw [hs]; exact (List.getElem?_eq_some_iff.1 hc).1
        subst h1 h2
        exact ⟨c, us[f.offset], h, hr _ c _ hc (Array.getElem?_eq_getElem hlt), fun w' _ => by
          simp [execOp, hxe, Instr.field, run_underlying hu, hfi, asAgg, part, run_isAgg' hA, Array.getElem?_eq_getElem hlt]⟩
      · simp only [hA] at h
        rcases hS : szT P ft with _ | s
        · simp only [hS] at h
        simp only [hS] at h
        obtain ⟨hle, hk⟩ := h
        subst h1 h2
        refine ⟨_, .agg (us.extract f.offset (f.offset + s)), hk, .agg _ _ ?_ (fun j x u hj hu' => ?_), fun w' _ => by
          simp [execOp, hxe, Instr.field, run_underlying hu, hfi, asAgg, part, run_isAgg' hA, run_sizeOf' hS]⟩
        · simp only [Array.size_extract, List.length_take, List.length_drop] at hle ⊢
          omega
        · rw [List.getElem?_take] at hj
          split at hj
          · rename_i hlt
            rw [List.getElem?_drop] at hj
            rw [Array.getElem?_extract] at hu'
            split at hu'
            · exact hr _ x u hj hu'
            · simp at hu'
          · simp at hj
  case fieldAddr T p i =>
    obtain ⟨z, v, h1, h2, h3⟩ := gives_next (faV_sound st (ev p (by simp [Op.operands])) h)
    exact ⟨z, v, h1, h2, fun w' hw => by simpa only [execOp] using h3 w' hw⟩
  case convert src dst' x =>
    obtain ⟨z, v, h1, h2, h3⟩ := gives_next (convV_sound st (ev x (by simp [Op.operands])) h.1 h.2)
    exact ⟨z, v, h1, h2, fun w' hw => by simpa only [execOp] using h3 w' hw⟩
  case makeFunc fn first captured =>
    cases fn <;> (try exact h.elim)
    rename_i f
    simp only [sOp] at h
    obtain ⟨hf, hk⟩ := h
    have hf' : first = #[] := by simpa using hf
    subst hf'
    refine ⟨_, .func (.func f) #[] (captured.map a.eval), hk, .fn _ _ _ (by simp) (fun i x u hx hu => ?_), fun w' _ => by simp [execOp, Instr.makeFunc]⟩
    simp only [List.getElem?_map, Option.map_eq_some_iff] at hx
    obtain ⟨z, hz, rfl⟩ := hx
    simp only [Array.getElem?_map, Option.map_eq_some_iff] at hu
    obtain ⟨z', hz', rfl⟩ := hu
    simp at hz
    rw [hz] at hz'
    simp at hz'
    subst hz'
    exact ev z (by simp [Op.operands]; exact Array.mem_of_getElem? hz)
  case makeInterface T x =>
    simp only [sOp] at h
    have rx := ev x (by simp [Op.operands])
    refine ⟨_, _, h.2, .iface _ _ _ rx, fun w' _ => ?_⟩
    simp only [execOp, Sem.run_bind, run_makeInterface w' T _ h.1, Result.andThen_ok, Sem.run_pure]
  case nilCheck z =>
    have rx := ev z (by simp [Op.operands])
    simp only [sOp] at h
    generalize hxe : a.eval z = vx at rx
    generalize evO env z = ex at h rx
    have hptr : (ldP H ex fun _ => K ex) → ∃ x v, K x ∧ R w φ H x v ∧ ∀ w', Ext w w' → (execOp a.eval { dst := dst, op := Op.nilCheck z, type := ty, pos := pos, after := after, guard := guard }).run P w' = .ok (.value v) w' := fun h => by
      obtain ⟨cs, hk, b, o, rfl, _⟩ := ldP_sound st rx h
      exact ⟨_, _, hk, rx, fun w' _ => by simp [execOp, hxe]⟩
    cases ex <;> (try exact hptr h)
    case fn f caps =>
      cases rx with
      | fn _ _ us hs hr => exact ⟨_, _, h, .fn _ _ us hs hr, fun w' _ => by simp [execOp, hxe]⟩
  case call c =>
    obtain ⟨callee, args, argTypes⟩ := c
    cases callee <;> (try exact h.elim)
    rename_i b
    cases b <;> (try exact h.elim)
    case len =>
      obtain ⟨args⟩ := args
      obtain ⟨argTypes⟩ := argTypes
      rcases args with _ | ⟨x, _ | ⟨x2, args⟩⟩
      · exact h.elim
      · rcases argTypes with _ | ⟨t, _ | ⟨t2, argTypes⟩⟩
        · exact h.elim
        · obtain ⟨z, v, h1, h2, h3⟩ := gives_next (lenV_sound (ty := ty) st (ev x (by simp [Op.operands, Call.operands])) h)
          exact ⟨z, v, h1, h2, fun w' hw => by simpa only [execOp, resolve, invoke, builtin, Sem.run_bind, Sem.run_pure, Result.andThen_ok, List.map_toArray, List.map_cons, List.map_nil] using h3 w' hw⟩
        · exact h.elim
      · exact h.elim
    case unsafeSliceData =>
      obtain ⟨args⟩ := args
      rcases args with _ | ⟨x, _ | ⟨x2, args⟩⟩
      · exact h.elim
      · obtain ⟨z, v, h1, h2, h3⟩ := gives_next (usdV_sound (P := P) st (ev x (by simp [Op.operands, Call.operands])) argTypes ty h)
        exact ⟨z, v, h1, h2, fun w' hw => by simpa only [execOp, resolve, invoke, builtin, Sem.run_bind, Sem.run_pure, Result.andThen_ok, List.map_toArray, List.map_cons, List.map_nil] using h3 w' hw⟩
      · exact h.elim
    case max =>
      obtain ⟨args⟩ := args
      rcases args with _ | ⟨x, _ | ⟨y, _ | ⟨x2, args⟩⟩⟩
      · exact h.elim
      · exact h.elim
      · have rx := ev x (by simp [Op.operands, Call.operands])
        have ry := ev y (by simp [Op.operands, Call.operands])
        simp only [sOp] at h
        generalize hxe : a.eval x = vx at rx
        generalize evO env x = ex at h rx
        generalize hye : a.eval y = vy at ry
        generalize evO env y = ey at h ry
        cases ex <;> cases ey <;> (try exact h.elim)
        rename_i k a' k' b'
        cases rx
        cases ry
        refine ⟨_, _, h, .int _ _, fun w' _ => ?_⟩
        have e : (if a' < b' then b' else a') = max a' b' := by rw [Int.max_def]; split <;> split <;> omega
        simp [execOp, resolve, invoke, builtin, hxe, hye, Builtin.max_, Builtin.max2, e]
      · exact h.elim
    case min =>
      obtain ⟨args⟩ := args
      rcases args with _ | ⟨x, _ | ⟨y, _ | ⟨x2, args⟩⟩⟩
      · exact h.elim
      · exact h.elim
      · have rx := ev x (by simp [Op.operands, Call.operands])
        have ry := ev y (by simp [Op.operands, Call.operands])
        simp only [sOp] at h
        generalize hxe : a.eval x = vx at rx
        generalize evO env x = ex at h rx
        generalize hye : a.eval y = vy at ry
        generalize evO env y = ey at h ry
        cases ex <;> cases ey <;> (try exact h.elim)
        rename_i k a' k' b'
        cases rx
        cases ry
        refine ⟨_, _, h, .int _ _, fun w' _ => ?_⟩
        have e : (if b' < a' then b' else a') = min a' b' := by rw [Int.min_def]; split <;> split <;> omega
        simp [execOp, resolve, invoke, builtin, hxe, hye, Builtin.min_, Builtin.min2, e]
      · exact h.elim
end
end Go.Av
