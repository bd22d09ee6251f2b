/- Av, part G: 'sOp': the operations that leave the memory alone, all together, and that they yield what it says. -/
import Derived.Test.YtecpgelhhbbjmaaDoorFwA
import Derived.LaidEqlPtr
import Derived.Lib.UnsafeStr
import Derived.Laws.StructEq
import Derived.Lib.ConvBytes
import Derived.Laws.MakeOwn
import Derived.Lib.OthersKept
namespace Go.Av
open Go.RowKit
set_option linter.unusedVariables false

def hasT (P : Program) (t : TypeId) : Bool := (P.underlying t).isSome
/-- the place n of a list -/
def ixL {α : Type} (xs : List α) (n : Int) : Option α := if 0 ≤ n then xs[n.toNat]? else none
def IxV (xs : List AV) (n : Int) [K : Ko (AV → Prop)] : Prop := ∃ x, ixL xs n = some x ∧ K.k x
def IxS (s : List UInt8) (n : Int) [K : Ko (UInt8 → Prop)] : Prop := ∃ c, ixL s n = some c ∧ K.k c
def IxO (len : Nat) (n : Int) [K : Ko Prop] : Prop := 0 ≤ n ∧ n < len ∧ K.k
theorem ixL_some {α : Type} {xs : List α} {n : Int} {x : α} (h : ixL xs n = some x) : 0 ≤ n ∧ xs[n.toNat]? = some x := by
  unfold ixL at h; split at h
  · exact ⟨‹_›, h⟩
  · simp at h
def ixV (P : Program) (T : TypeId) (H : List AO) (x i : AV) (K : AV → Prop) : Prop := match x, i with
  | .view sz xs, .int _ n => szE P T = some sz ∧ @IxV xs n ⟨fun e => K (.vptr e 0)⟩
  | .viewx sz xs m, .int _ n => szE P T = some sz ∧ n < m ∧ @IxV xs n ⟨fun e => K (.vptr e 0)⟩
  | .own id ver off len, .int _ n => (match H[id]? with
    | some (.slice v _ s xs) => v = ver ∧ szE P T = some s ∧ @IxO len n ⟨K (.optr id ver (off + n.toNat) 0)⟩
    | _ => False)
  | .optr id ver i off, .int _ n => (match H[id]? with
    | some (.slice v _ s xs) => v = ver ∧ s = 1 ∧ i = 0 ∧ off = 0 ∧ @ArK (arN P T) xs ⟨@IxO xs.length n ⟨K (.optr id ver n.toNat 0)⟩⟩
    | _ => False)
  | _, _ => False
def paV (p : AV) (d : Nat) (K : AV → Prop) : Prop := match p with
  | .vptr x off => K (.vptr x (off + d))
  | .optr id ver i off => K (.optr id ver i (off + d))
  | .bptr id off => K (.bptr id (off + d))
  | _ => False
def faV (P : Program) (H : List AO) (T : TypeId) (p : AV) (i : Nat) (K : AV → Prop) : Prop := match fldI P T i with
  | some (off, ft) => (match szT P ft with
    | some (n + 1) => ldP H p fun _ => paV p off K
    | _ => False)
  | none => False
def lenV (P : Program) (t : TypeId) (H : List AO) (x : AV) (K : AV → Prop) : Prop := match x with
  | .str s => isStr P t = true ∧ K (.int .i64 s.length)
  | .view _ xs => (elT P t).isSome = true ∧ K (.int .i64 xs.length)
  | .viewx _ _ n => (elT P t).isSome = true ∧ K (.int .i64 n)
  | .own id ver _ len => (match H[id]? with
    | some (.slice v _ _ _) => v = ver ∧ (elT P t).isSome = true ∧ K (.int .i64 len)
    | _ => False)
  | .sc (.slice none 0 0) => (elT P t).isSome = true ∧ K (.int .i64 0)
  | _ => False
def ptrT (P : Program) (T : TypeId) : Bool := match P.underlying T with
  | some (.pointer te) => (P.info? te).isSome
  | _ => false
def liveB (H : List AO) (id : Nat) : Bool := match H[id]? with
  | some (.box _ _) => true
  | _ => false
def eqB (op : BinOp) (b : Bool) (K : AV → Prop) : Prop := match op with
  | .eql => K (.bool b)
  | .neq => K (.bool !b)
  | _ => False
def nilP : AV → Bool
  | .sc (.pointer none) => true
  | _ => false
def somP (H : List AO) : AV → Bool
  | .bptr id _ => liveB H id
  | .vptr _ _ => true
  | _ => false
def sameP : AV → AV → Bool
  | .bptr i o, .bptr j p => i == j && o == p
  | _, _ => false
def binP (P : Program) (H : List AO) (op : BinOp) (T : TypeId) (x y : AV) (K : AV → Prop) : Prop :=
  ptrT P T = true ∧ (if nilP x && nilP y then eqB op true K else if somP H x && nilP y then eqB op false K else if nilP x && somP H y then eqB op false K else if sameP x y && somP H x then eqB op true K else False)
/-- the kinds of a struct's single cells -/
inductive FK where
  | i | s | b
def kindsL (P : Program) : Nat → List Field → Option (List FK)
  | _, [] => some []
  | i, f :: fs => if f.name ≠ "_" ∧ f.offset = i then (match P.underlying f.type with
    | some .string => (kindsL P (i + 1) fs).map (.s :: ·)
    | some (.int _) => (kindsL P (i + 1) fs).map (.i :: ·)
    | some .bool => (kindsL P (i + 1) fs).map (.b :: ·)
    | _ => none) else none
def stK (P : Program) (T : TypeId) : Option (List FK) := match P.underlying T with
  | some (.struct fs) => if P.eqGuardType P.depth T = false ∧ P.stoodInHeld T = false then kindsL P 0 fs.toList else none
  | _ => none
def eqK : List FK → List AV → List AV → Option Bool
  | [], [], [] => some true
  | .i :: ks, .int k a :: xs, .int k' b :: ys => if k = k' then (eqK ks xs ys).map (decide (a = b) && ·) else none
  | .s :: ks, .str a :: xs, .str b :: ys => (eqK ks xs ys).map (decide (a = b) && ·)
  | .b :: ks, .bool a :: xs, .bool b :: ys => (eqK ks xs ys).map ((a == b) && ·)
  | _, _, _ => none
def eqA (P : Program) (op : BinOp) (T : TypeId) (xs ys : List AV) (K : AV → Prop) : Prop := match stK P T with
  | some ks => (match eqK ks xs ys with
    | some b => eqB op b K
    | none => False)
  | none => False
/-- an interface's type -/
def isIf (P : Program) (T : TypeId) : Bool := match P.underlying T with
  | some (.interface _) => true
  | _ => false
/-- a type that is known and no interface's -/
def noIf (P : Program) (T : TypeId) : Bool := match P.underlying T with
  | some (.interface _) => false
  | some _ => true
  | none => false
def binV (P : Program) (H : List AO) (op : BinOp) (T : TypeId) (x y : AV) (K : AV → Prop) : Prop := match x, y with
  | .int k a, .int k' b => (match op with
    | .shl => shiftI .shl k a b K
    | .shr => shiftI .shr k a b K
    | op => k = k' ∧ binI op k a b K)
  | .str a, .str b => binS op a b K
  | .bool a, .bool b => isBoolT P T = true ∧ binB op a b K
  | .agg xs, .agg ys => eqA P op T xs ys K
  | .iface _ _, .sc .nilIface => isIf P T = true ∧ eqB op false K
  | x, y => binP P H op T x y K
/-- the operand is a plain nil -/
def isNilC : Operand → Bool
  | .const .nilIface => true
  | _ => false
/-- a value beside a plain nil -/
def nilV (P : Program) (H : List AO) (op : BinOp) (T : TypeId) (x y : AV) (K : AV → Prop) : Prop := match x with
  | .sc .nilIface => isIf P T = true ∧ eqB op true K
  | x => binV P H op T x y K
theorem nilV_nil (P : Program) (H : List AO) (op : BinOp) (T : TypeId) (y : AV) (K : AV → Prop) : nilV P H op T (.sc .nilIface) y K = (isIf P T = true ∧ eqB op true K) := rfl
theorem nilV_iface (P : Program) (H : List AO) (op : BinOp) (T t : TypeId) (x y : AV) (K : AV → Prop) : nilV P H op T (.iface t x) y K = binV P H op T (.iface t x) y K := rfl
def unV (op : UnOp) (x : AV) (K : AV → Prop) : Prop := match op, x with
  | .not, .bool b => K (.bool !b)
  | .neg, .int k n => K (.int k (ineg k n))
  | _, _ => False
def ncV (H : List AO) (x : AV) (K : AV → Prop) : Prop := match x with
  | .fn f caps => K (.fn f caps)
  | .vptr y off => K (.vptr y off)
  | .iface T y => K (.iface T y)
  | x => ldP H x fun _ => K x

def usdV (H : List AO) (x : AV) (K : AV → Prop) : Prop := match x with
  | .sc (.slice none 0 0) => K (.sc (.pointer none))
  | .own id ver 0 len => (match H[id]? with
    | some (.slice v _ _ _) => v = ver ∧ 0 < len ∧ K (.optr id ver 0 0)
    | _ => False)
  | _ => False
def sOp (P : Program) (op : Op) (env : Env) (H : List AO) (K : AV → Prop) : Prop := match op with
  | .move x => K (evO env x)
  | .assign x => K (evO env x)
  | .pick c a b => (match evO env c with
    | .bool t => @guardK t true ⟨K (evO env a)⟩ ⟨K (evO env b)⟩
    | _ => False)
  | .binOp op T x y _ => if isNilC y = true then nilV P H op T (evO env x) (evO env y) K else binV P H op T (evO env x) (evO env y) K
  | .unOp op _ x => unV op (evO env x) K
  | .extract t i => (match evO env t with
    | .tup xs => (match xs[i]? with
      | some x => K x
      | none => False)
    | _ => False)
  | .load T p => ldP H (evO env p) fun cs => ldV P T cs K
  | .indexAddr T x i => ixV P T H (evO env x) (evO env i) K
  | .index T x i => (match evO env x, evO env i with
    | .str s, .int _ n => isStr P T = true ∧ @IxS s n ⟨fun c => K (encB c)⟩
    | .agg cs, .int _ n => arN P T = some cs.length ∧ @IxV cs n ⟨K⟩
    | _, _ => False)
  | .slice T x lo hi none => slV P T H (evO env x) (lo.map (evO env)) (hi.map (evO env)) K
  | .field T x i => (match evO env x with
    | .agg cs => (match fldI P T i with
      | some (off, ft) => ldV P ft (cs.drop off) K
      | none => False)
    | _ => False)
  | .fieldAddr T p i => faV P H T (evO env p) i K
  | .convert src dst x => hasT P src = true ∧ convV P src dst H (evO env x) K
  | .makeFunc (.func f) first captured => first.toList = [] ∧ K (.fn f (captured.toList.map (evO env)))
  | .makeInterface T x => P.concrete T = true ∧ K (.iface T (evO env x))
  | .nilCheck x => ncV H (evO env x) K
  | .typeAssert x _ T true => (match evO env x with
    | .iface T' y => T' = T ∧ noIf P T = true ∧ K (.tup [y, .bool true])
    | _ => False)
  | .call { callee := .builtin .len, args, argTypes } => (match args.toList, argTypes.toList with
    | [x], [t] => lenV P t H (evO env x) K
    | _, _ => False)
  | .call { callee := .builtin .unsafeSliceData, args, argTypes := _ } => (match args.toList with
    | [x] => usdV H (evO env x) K
    | _ => False)
  | .call { callee := .builtin .min, args, argTypes := _ } => (match args.toList with
    | [x, y] => (match evO env x, evO env y with
      | .int k a, .int _ b => K (.int k (min a b))
      | _, _ => False)
    | _ => False)
  | .call { callee := .builtin .max, args, argTypes := _ } => (match args.toList with
    | [x, y] => (match evO env x, evO env y with
      | .int k a, .int _ b => K (.int k (max a b))
      | _, _ => False)
    | _ => False)
  | _ => False

def opOK (n : Nat) (op : Op) : Bool := op.operands.toList.all (okO n)

section
variable {P : Program} {B : Nat} {X : Nat → Prop} {w0 w : World} {φ : Nat → Value} {H : List AO} {K : AV → Prop}

theorem RdP.add {cs : List AV} {v : Value} (rd : RdP w φ H cs v) : ∃ b o, v = .pointer (some ⟨b, o, none⟩) := let ⟨b, o, h, _⟩ := rd; ⟨b, o, h⟩

theorem ixV_sound (st : St B X w0 w φ H) {T : TypeId} {x i : AV} {v iv : Value} (r : R w φ H x v) (ri : R w φ H i iv) (h : ixV P T H x i K) : Gives P w φ H K (Instr.indexAt T v iv) := by
  cases i <;> (try (cases x <;> exact h.elim))
  rename_i k n
  cases ri
  cases x <;> simp only [ixV] at h
  case view sz xs =>
    obtain ⟨hsz, e, he, hk⟩ := h
    obtain ⟨h0, he⟩ := ixL_some he
    obtain ⟨E, hE, hs⟩ : ∃ E, elT P T = some E ∧ szT P E = some sz := by simpa [szE, Option.bind_eq_some_iff] using hsz
    have hlt : n.toNat < xs.length := (List.getElem?_eq_some_iff.1 he).1
    cases r with
    | view0 s ad cap => simp at hlt
    | view _ b off size cap u hcap hb hl hcl hs' hc hr =>
      have hn : n < (xs.length : Int) := by omega
      refine .mk' _ (.pointer (some ⟨b, off + n.toNat * sz, none⟩)) hk (.vptr e 0 b _ (u n.toNat) (hcl _ _ he) hb hl (fun j c hj => by rw [Nat.zero_add] at hj; exact hc _ _ j c he hj) (fun j c hj => by rw [Nat.zero_add] at hj; exact hr _ _ j c he hj)) fun w' => ?_
      simp [Instr.indexAt, asIntOf, run_underlying (und_of_elT hE), run_sizeOf' hs, h0, hn, add_lit]
  case viewx sz xs m =>
    obtain ⟨hsz, hm, e, he, hk⟩ := h
    obtain ⟨h0, he⟩ := ixL_some he
    obtain ⟨E, hE, hs⟩ : ∃ E, elT P T = some E ∧ szT P E = some sz := by simpa [szE, Option.bind_eq_some_iff] using hsz
    cases r with
    | viewx _ n' b off size cap u hn hcap hb hl hcl hs' hc hr =>
      refine .mk' _ (.pointer (some ⟨b, off + n.toNat * sz, none⟩)) hk (.vptr e 0 b _ (u n.toNat) (hcl _ _ he) hb hl (fun j c hj => by rw [Nat.zero_add] at hj; exact hc _ _ j c he hj) (fun j c hj => by rw [Nat.zero_add] at hj; exact hr _ _ j c he hj)) fun w' => ?_
      simp [Instr.indexAt, asIntOf, run_underlying (und_of_elT hE), run_sizeOf' hs, h0, hm, add_lit]
  case own id ver off len =>
    rcases hH : H[id]? with _ | o
    · simp [hH] at h
    cases o with
    | box T cs => simp [hH] at h
    | iter _ _ => simp [hH] at h
    | gone => simp [hH] at h
    | slice ver' E' s xs =>
      simp only [hH] at h
      obtain ⟨rfl, hsz, h0, hm, hk⟩ := h
      obtain ⟨E, hE, hs⟩ : ∃ E, elT P T = some E ∧ szT P E = some s := by simpa [szE, Option.bind_eq_some_iff] using hsz
      cases r with
      | own _ _ _ _ _ hid _ hvv hh =>
        obtain ⟨o1, o2⟩ := hh E' s xs hH
        rcases o2 with ⟨f1, rfl, f3⟩ | ⟨g, cap, f1, f2, ad, rfl, f3, f4⟩
        · omega
        · have had := f3 (by omega)
          subst had
          refine .mk' _ (.pointer (some ⟨g, (off + n.toNat) * s, none⟩)) hk (.optr _ _ _ _ _ hid rfl hvv fun E2 s2 xs2 he => ?_) fun w' => ?_
          · rw [hH] at he
            simp at he
            obtain ⟨rfl, rfl, rfl⟩ := he
            exact ⟨g, _, cap, f1, rfl⟩
          · simp [Instr.indexAt, asIntOf, run_underlying (und_of_elT hE), run_sizeOf' hs, h0, hm, add_lit, Nat.add_mul]

  case optr id ver i off =>
    rcases hH : H[id]? with _ | o
    · simp [hH] at h
    cases o with
    | box T cs => simp [hH] at h
    | iter _ _ => simp [hH] at h
    | gone => simp [hH] at h
    | slice ver' E' s xs =>
      simp only [hH] at h
      obtain ⟨rfl, rfl, rfl, rfl, hA, _, h0, hm, hk⟩ := h
      obtain ⟨E, hE, _, hs⟩ := arN_spec hA
      cases r with
      | optr _ _ _ _ _ hid ho hvv hh =>
        obtain ⟨g, m, cap, f1, rfl⟩ := hh E' 1 xs hH
        refine .mk' _ (.pointer (some ⟨g, n.toNat * 1, none⟩)) hk (.optr _ _ _ _ _ hid rfl hvv fun E2 s2 xs2 he => ?_) fun w' => ?_
        · rw [hH] at he
          simp at he
          obtain ⟨rfl, rfl, rfl⟩ := he
          exact ⟨g, _, cap, f1, by simp⟩
        · simp [Instr.indexAt, Instr.sureAddr, asIntOf, run_underlying hE, run_sizeOf' hs, h0, hm, add_lit]

theorem faV_sound (st : St B X w0 w φ H) {T : TypeId} {p : AV} {v : Value} {i : Nat} (r : R w φ H p v) (h : faV P H T p i K) : Gives P w φ H K (Instr.fieldAt T v i) := by
  unfold faV at h
  rcases hf : fldI P T i with _ | ⟨off, ft⟩
  · simp [hf] at h
  simp only [hf] at h
  rcases hs : szT P ft with _ | _ | n
  · simp [hs] at h
  · simp [hs] at h
  simp only [hs] at h
  obtain ⟨cs, hk, b, o, rfl, _⟩ := ldP_sound st r h
  obtain ⟨fs, f, hu, hfi, h1, h2⟩ : ∃ fs f, P.underlying T = some (.struct fs) ∧ fs[i]? = some f ∧ f.offset = off ∧ f.type = ft := by
    unfold fldI at hf
    split at hf
    · rename_i fs hu
      simp only [Option.map_eq_some_iff] at hf
      obtain ⟨f, hfi, he⟩ := hf
      simp at he
      exact ⟨fs, f, hu, hfi, he.1, he.2⟩
    · simp at hf
  have hrun : ∀ w', (Instr.fieldAt T (.pointer (some ⟨b, o, none⟩)) i).run P w' = .ok (.pointer (some ⟨b, o + off, none⟩)) w' := fun w' => by
    subst h1 h2
    simp [Instr.fieldAt, run_underlying hu, hfi, Instr.sureAddr, fieldPlace, run_sizeOf' hs, add_lit]
  cases p <;> simp only [paV] at hk
  case vptr x d =>
    cases r with
    | vptr _ _ _ _ u hcl hb hl hc hr =>
      refine .mk' _ _ hk (.vptr _ _ _ _ (fun j => u (off + j)) hcl hb hl (fun j c hj => ?_) (fun j c hj => ?_)) hrun
      · rw [Nat.add_assoc]; exact hc (off + j) c (by rw [← Nat.add_assoc]; exact hj)
      · exact hr (off + j) c (by rw [← Nat.add_assoc]; exact hj)
  case optr id ver k d =>
    cases r with
    | optr _ _ _ _ _ hid _ hvv hh =>
      refine .mk' _ _ hk (.optr _ _ _ _ _ hid rfl hvv fun E s xs he => ?_) hrun
      obtain ⟨g, n, cap, e1, e2⟩ := hh E s xs he
      simp at e2
      obtain ⟨rfl, rfl⟩ := e2
      exact ⟨b, n, cap, e1, by rw [Nat.add_assoc]⟩
  case bptr id d =>
    cases r with
    | bptr _ _ _ hid _ hh =>
      refine .mk' _ _ hk (.bptr _ _ _ hid rfl fun o he hp => ?_) hrun
      obtain ⟨g, e1, e2⟩ := hh o he hp
      simp at e2
      obtain ⟨rfl, rfl⟩ := e2
      exact ⟨b, e1, rfl⟩

theorem lenV_sound (st : St B X w0 w φ H) {t ty : TypeId} {x : AV} {v : Value} (r : R w φ H x v) (h : lenV P t H x K) : Gives P w φ H K (Builtin.len_ #[t] ty #[v]) := by
  have hsl : ∀ (ad : Option Addr) (n cap : Nat), (elT P t).isSome = true → ∀ w', (Builtin.len_ #[t] ty #[.slice ad n cap]).run P w' = .ok (.int .i64 n) w' := fun ad n cap he w' => by
    obtain ⟨E, hE⟩ := Option.isSome_iff_exists.1 he
    simp [Builtin.len_, run_underlying (und_of_elT hE), goInt]
  cases x <;> simp only [lenV] at h
  case str s =>
    cases r
    exact .mk' _ _ h.2 (.int _ _) fun w' => by rw [run_len_string w' _ _ _ (und_of_isStr h.1)]; rfl
  case view s xs =>
    cases r with
    | view0 s ad cap => exact .mk' _ _ h.2 (.int _ _) fun w' => hsl ad 0 cap h.1 w'
    | view _ b off size cap u hcap hb hl hcl hs hc hr => exact .mk' _ _ h.2 (.int _ _) fun w' => hsl _ _ cap h.1 w'
  case viewx s xs n =>
    cases r with
    | viewx _ n b off size cap u hn hcap hb hl hcl hs hc hr => exact .mk' _ _ h.2 (.int _ _) fun w' => hsl _ _ cap h.1 w'
  case own id ver off len =>
    rcases hH : H[id]? with _ | o
    · simp [hH] at h
    cases o with
    | box T cs => simp [hH] at h
    | iter _ _ => simp [hH] at h
    | gone => simp [hH] at h
    | slice ver' E' s xs =>
      simp only [hH] at h
      obtain ⟨rfl, h1, hk⟩ := h
      cases r with
      | own _ _ _ _ _ hid _ _ hh =>
        obtain ⟨o1, o2⟩ := hh E' s xs hH
        rcases o2 with ⟨f1, rfl, f3⟩ | ⟨g, cap, f1, f2, ad, rfl, f3, f4⟩
        · have : len = 0 := by omega
          subst this
          exact .mk' _ _ hk (.int _ _) fun w' => hsl none 0 0 h1 w'
        · exact .mk' _ _ hk (.int _ _) fun w' => hsl _ _ _ h1 w'
  case sc u =>
    cases r
    split at h <;> rename_i heq
    all_goals first | exact h.elim | (simp at heq) | skip
    all_goals (try subst heq)
    all_goals exact .mk' _ _ h.2 (.int _ _) fun w' => hsl none 0 0 h.1 w'

theorem gives_next {s : Sem Value} (h : Gives P w φ H K s) : ∃ x v, K x ∧ R w φ H x v ∧ ∀ w', Ext w w' → (do pure (Next.value (← s))).run P w' = .ok (.value v) w' :=
  let ⟨x, v, h1, h2, h3⟩ := h
  ⟨x, v, h1, h2, fun w' hw => by simp only [Sem.run_bind, h3 w' hw, Result.andThen_ok, Sem.run_pure]⟩

theorem ptrT_spec {T : TypeId} (h : ptrT P T = true) : ∃ te j, P.underlying T = some (.pointer te) ∧ P.info? te = some j := by
  unfold ptrT at h
  split at h
  · rename_i te hte
    obtain ⟨j, hj⟩ := Option.isSome_iff_exists.1 h
    exact ⟨te, j, hte, hj⟩
  · simp at h
theorem run_eqP {op : BinOp} {T : TypeId} {b : Bool} {p q : Option Addr} (h : eqB op b K) (hrun : ∀ (w' : World) (d : Nat), (Op.equalIn (d + 1) T (.pointer p) (.pointer q)).run P w' = .ok b w') : Gives P w φ H K (Go.binOp op T (.pointer p) (.pointer q)) := by
  have h9 := fun w' => hrun w' 9999
  cases op <;> (try exact h.elim)
  · exact .mk' _ (.bool b) h (.bool _) fun w' => by simp only [Go.binOp]; simp [Op.equal, Op.maxDepth, h9]
  · exact .mk' _ (.bool !b) h (.bool _) fun w' => by simp only [Go.binOp]; simp [Op.equal, Op.maxDepth, h9]
theorem liveB_spec {id off : Nat} {v : Value} (hl : liveB H id = true) (r : R w φ H (.bptr id off) v) : ∃ g, φ id = .pointer (some ⟨g, 0, none⟩) ∧ v = .pointer (some ⟨g, off, none⟩) := by
  unfold liveB at hl
  split at hl
  · rename_i T cs hH
    cases r with
    | bptr _ _ _ hid ho hh => exact hh _ hH rfl
  · simp at hl
theorem nilP_spec {x : AV} {v : Value} (r : R w φ H x v) (h : nilP x = true) : v = .pointer none := by
  unfold nilP at h
  split at h
  · cases r; rfl
  · simp at h
theorem somP_spec {x : AV} {v : Value} (r : R w φ H x v) (h : somP H x = true) : ∃ a, v = .pointer (some a) := by
  unfold somP at h
  split at h
  · obtain ⟨g, _, h⟩ := liveB_spec h r; exact ⟨_, h⟩
  · cases r; exact ⟨_, rfl⟩
  · simp at h
theorem sameP_spec {x y : AV} {u v : Value} (rx : R w φ H x u) (ry : R w φ H y v) (h : sameP x y = true) (h2 : somP H x = true) : u = v := by
  unfold sameP at h
  split at h
  · simp only [Bool.and_eq_true, beq_iff_eq] at h
    obtain ⟨rfl, rfl⟩ := h
    obtain ⟨g, e1, rfl⟩ := liveB_spec h2 rx
    obtain ⟨g', e2, rfl⟩ := liveB_spec h2 ry
    rw [e1] at e2
    simp at e2
    subst e2
    rfl
  · simp at h
theorem binP_sound {op : BinOp} {T : TypeId} {x y : AV} {u v : Value} (rx : R w φ H x u) (ry : R w φ H y v) (h : binP P H op T x y K) (ox oy : Operand) : Gives P w φ H K (do eqGuard op T ox oy u v; Go.binOp op T u v) := by
  obtain ⟨h1, h⟩ := h
  obtain ⟨te, j, hp, hj⟩ := ptrT_spec h1
  have key : ∀ p q b, u = .pointer p → v = .pointer q → eqB op b K → (∀ (w' : World) (d : Nat), (Op.equalIn (d + 1) T (.pointer p) (.pointer q)).run P w' = .ok b w') → Gives P w φ H K (do eqGuard op T ox oy u v; Go.binOp op T u v) := fun p q b hu hv hb hrun => by
    subst hu hv
    obtain ⟨z, v, h1, h2, h3⟩ := run_eqP (w := w) (φ := φ) (H := H) hb hrun
    exact ⟨z, v, h1, h2, fun w' hw => by
      have : (eqGuard op T ox oy (.pointer p) (.pointer q)).run P w' = .ok () w' := by unfold eqGuard; simp
      simp only [Sem.run_bind, this, Result.andThen_ok, h3 w' hw]⟩
  split at h
  · rename_i hc
    simp only [Bool.and_eq_true] at hc
    exact key none none true (nilP_spec rx hc.1) (nilP_spec ry hc.2) h fun w' d => by simp [Op.equalIn, run_underlying hp]
  split at h
  · rename_i hc
    simp only [Bool.and_eq_true] at hc
    obtain ⟨a, hu⟩ := somP_spec rx hc.1
    exact key (some a) none false hu (nilP_spec ry hc.2) h fun w' d => by simp [Op.equalIn, run_underlying hp]
  split at h
  · rename_i hc
    simp only [Bool.and_eq_true] at hc
    obtain ⟨a, hv⟩ := somP_spec ry hc.2
    exact key none (some a) false (nilP_spec rx hc.1) hv h fun w' d => by simp [Op.equalIn, run_underlying hp]
  split at h
  · rename_i hc
    simp only [Bool.and_eq_true] at hc
    obtain ⟨a, hu⟩ := somP_spec rx hc.2
    have huv := sameP_spec rx ry hc.1 hc.2
    exact key (some a) (some a) true hu (huv ▸ hu) h fun w' d => by simp [Op.equalIn, run_underlying hp, sizeOf, typeInfo, hj, run_sameAddr_same]
  · exact h.elim
theorem usdV_sound (st : St B X w0 w φ H) {x : AV} {v : Value} (r : R w φ H x v) (ts : Array TypeId) (ty : TypeId) (h : usdV H x K) : Gives P w φ H K (Builtin.unsafeSliceData_ ts ty #[v]) := by
  unfold usdV at h
  split at h
  · cases r
    exact .mk' _ (.pointer none) h (.sc _) fun w' => rfl
  · rename_i id ver len
    rcases hH : H[id]? with _ | o
    · simp [hH] at h
    cases o <;> simp only [hH] at h
    rename_i ver' E s xs
    obtain ⟨rfl, hl, hk⟩ := h
    cases r with
    | own _ _ _ _ _ hid _ hvv hh =>
      obtain ⟨o1, o2⟩ := hh E s xs hH
      rcases o2 with ⟨f1, rfl, f3⟩ | ⟨g, cap, f1, f2, ad, rfl, f3, f4⟩
      · omega
      · have := f4 rfl
        subst this
        refine .mk' _ (.pointer (some ⟨g, 0, none⟩)) hk (.optr _ _ _ _ _ hid rfl hvv fun E2 s2 xs2 he2 => ?_) fun w' => ?_
        · rw [hH] at he2
          simp at he2
          exact ⟨g, _, _, f1, by simp⟩
        · exact Lib.run_unsafeSliceData_row _ _ _ _ _ _ (by omega)
  · exact h.elim

theorem one_getElemG {us : Array Value} {n : Nat} (h : us.size = n) {i : Nat} (hi : i < n) : ∃ u, us[i]? = some u := ⟨_, Array.getElem?_eq_getElem (by omega)⟩
theorem eqFields_run (d : Nat) {us vs : Array Value} {w' : World} : ∀ (fs : List Field) (i : Nat) (ks : List FK) (xs ys : List AV) (b : Bool), kindsL P i fs = some ks → eqK ks xs ys = some b →
    (∀ (j : Nat) x, xs[j]? = some x → ∃ u, us[i + j]? = some u ∧ R w φ H x u) → (∀ (j : Nat) x, ys[j]? = some x → ∃ u, vs[i + j]? = some u ∧ R w φ H x u) → (Op.eqFields (d + 1) us vs fs).run P w' = .ok b w'
  | [], i, ks, xs, ys, b, hk, he, _, _ => by
    simp [kindsL] at hk
    subst hk
    cases xs <;> cases ys <;> simp [eqK] at he
    subst he
    simp [Op.eqFields]
  | f :: fs, i, ks, xs, ys, b, hk, he, hx, hy => by
    rw [kindsL] at hk
    split at hk
    · rename_i hf
      obtain ⟨hn, ho⟩ := hf
      have part_run : ∀ {cs : Array Value} {u : Value}, isA P f.type = some false → cs[i]? = some u → (part f.type cs f.offset).run P w' = .ok u w' := fun hA hu => by
        simp only [part, Sem.run_bind, run_isAgg' hA, Result.andThen_ok, Bool.false_eq_true, if_false, ho, hu, Sem.run_pure]
      have fin : ∀ {u v : Value} {c b' : Bool}, isA P f.type = some false → us[i]? = some u → vs[i]? = some v → (Op.equalIn (d + 1) f.type u v).run P w' = .ok c w' → (Op.eqFields (d + 1) us vs fs).run P w' = .ok b' w' → (Op.eqFields (d + 1) us vs (f :: fs)).run P w' = .ok (c && b') w' := by
        intro u v c b' hA hu hv hc hr
        simp only [Op.eqFields, if_pos hn, Sem.run_bind, part_run hA hu, part_run hA hv, Result.andThen_ok, hc]
        cases c
        · simp
        · simp [hr]
      have sh : ∀ {zs : Array Value} {z : AV} {l : List AV}, (∀ (j : Nat) x, (z :: l)[j]? = some x → ∃ u, zs[i + j]? = some u ∧ R w φ H x u) → ∀ (j : Nat) x, l[j]? = some x → ∃ u, zs[i + 1 + j]? = some u ∧ R w φ H x u := fun h j x hj => by
        have := h (j + 1) x (by simpa using hj)
        rwa [show i + (j + 1) = i + 1 + j by omega] at this
      split at hk
      · rename_i hu
        obtain ⟨ks', h1, rfl⟩ := Option.map_eq_some_iff.1 hk
        rcases xs with _ | ⟨x, xs⟩ <;> rcases ys with _ | ⟨y, ys⟩ <;> (try (simp [eqK] at he; done))
        all_goals try (cases x <;> simp [eqK] at he; done)
        cases x <;> cases y <;> first | (simp [eqK] at he; done) | skip
        rename_i s t
        simp only [eqK] at he
        obtain ⟨b', h2, rfl⟩ := Option.map_eq_some_iff.1 he
        obtain ⟨u, u1, u2⟩ := hx 0 _ rfl
        obtain ⟨v, v1, v2⟩ := hy 0 _ rfl
        cases u2
        cases v2
        refine fin (by simp [isA, hu]) u1 v1 ?_ (eqFields_run d fs (i + 1) ks' xs ys b' h1 h2 (sh hx) (sh hy))
        rw [run_equalIn_string w' d f.type _ _ hu]
        simp only [ByteArray.toList_eq]
        congr 1
        exact Bool.eq_iff_iff.2 (by simp)
      · rename_i k hu
        obtain ⟨ks', h1, rfl⟩ := Option.map_eq_some_iff.1 hk
        rcases xs with _ | ⟨x, xs⟩ <;> rcases ys with _ | ⟨y, ys⟩ <;> (try (simp [eqK] at he; done))
        all_goals try (cases x <;> simp [eqK] at he; done)
        cases x <;> cases y <;> first | (simp [eqK] at he; done) | skip
        rename_i k1 s k2 t
        simp only [eqK] at he
        split at he
        case isFalse => cases he
        rename_i hkk
        subst hkk
        obtain ⟨b', h2, rfl⟩ := Option.map_eq_some_iff.1 he
        obtain ⟨u, u1, u2⟩ := hx 0 _ rfl
        obtain ⟨v, v1, v2⟩ := hy 0 _ rfl
        cases u2
        cases v2
        refine fin (by simp [isA, hu]) u1 v1 ?_ (eqFields_run d fs (i + 1) ks' xs ys b' h1 h2 (sh hx) (sh hy))
        rw [run_equalIn_int w' d f.type _ _ _ _ hu]
        rfl
      · rename_i hu
        obtain ⟨ks', h1, rfl⟩ := Option.map_eq_some_iff.1 hk
        rcases xs with _ | ⟨x, xs⟩ <;> rcases ys with _ | ⟨y, ys⟩ <;> (try (simp [eqK] at he; done))
        all_goals try (cases x <;> simp [eqK] at he; done)
        cases x <;> cases y <;> first | (simp [eqK] at he; done) | skip
        rename_i s t
        simp only [eqK] at he
        obtain ⟨b', h2, rfl⟩ := Option.map_eq_some_iff.1 he
        obtain ⟨u, u1, u2⟩ := hx 0 _ rfl
        obtain ⟨v, v1, v2⟩ := hy 0 _ rfl
        cases u2
        cases v2
        refine fin (by simp [isA, hu]) u1 v1 ?_ (eqFields_run d fs (i + 1) ks' xs ys b' h1 h2 (sh hx) (sh hy))
        exact run_equalIn_bool' w' d f.type _ _ hu
      · cases hk
    · cases hk
theorem eqA_sound {op : BinOp} {T : TypeId} {xs ys : List AV} {us vs : Array Value} (hs : us.size = xs.length) (hx : ∀ (i : Nat) (x : AV) (u : Value), xs[i]? = some x → us[i]? = some u → R w φ H x u) (hs' : vs.size = ys.length) (hy : ∀ (i : Nat) (x : AV) (u : Value), ys[i]? = some x → vs[i]? = some u → R w φ H x u)
    (h : eqA P op T xs ys K) (ox oy : Operand) : Gives P w φ H K (do eqGuard op T ox oy (.agg us) (.agg vs); Go.binOp op T (.agg us) (.agg vs)) := by
  unfold eqA at h
  split at h
  · rename_i ks hks
    split at h
    · rename_i b hb
      unfold stK at hks
      split at hks
      · rename_i fs hu
        split at hks
        · rename_i hc
          have ht : P.underlying T = some (.struct (P.fieldsOf T)) := by rw [Program.fieldsOf, hu]
          have hfs : P.fieldsOf T = fs := by rw [Program.fieldsOf, hu]
          have get : ∀ {zs : List AV} {us : Array Value}, us.size = zs.length → (∀ (i : Nat) (x : AV) (u : Value), zs[i]? = some x → us[i]? = some u → R w φ H x u) → ∀ (j : Nat) x, zs[j]? = some x → ∃ u, us[0 + j]? = some u ∧ R w φ H x u := fun hs hx j x hj => by
            obtain ⟨u, hu⟩ := one_getElemG hs (List.getElem?_eq_some_iff.1 hj).1
            exact ⟨u, by rw [Nat.zero_add]; exact hu, hx j x u hj hu⟩
          have run : ∀ w', (Op.equalIn 10000 T (.agg us) (.agg vs)).run P w' = .ok b w' := fun w' => by
            rw [run_equalIn_agg w' 9999 T us vs ht hc.2, hfs]
            exact eqFields_run 9998 fs.toList 0 ks xs ys b hks hb (get hs hx) (get hs' hy)
          cases op <;> simp only [eqB] at h <;> (try exact h.elim)
          · exact ⟨_, .bool b, h, .bool b, fun w' _ => by simp only [Sem.run_bind, run_eqGuard_agg w' _ T ox oy us vs hc.1, Result.andThen_ok, run_eql_struct, run w']⟩
          · exact ⟨_, .bool (!b), h, .bool _, fun w' _ => by simp only [Sem.run_bind, run_eqGuard_agg w' _ T ox oy us vs hc.1, Result.andThen_ok, run_neq_struct, run w']⟩
        · cases hks
      · cases hks
    · exact h.elim
  · exact h.elim

theorem binV_sound {op : BinOp} {T : TypeId} {x y : AV} {u v : Value} (rx : R w φ H x u) (ry : R w φ H y v) (h : binV P H op T x y K) (ox oy : Operand) : Gives P w φ H K (do eqGuard op T ox oy u v; Go.binOp op T u v) := by
  have hg : (∀ k n, u = .int k n → True) → (eqGuard op T ox oy u v = pure () ∨ True) := fun _ => .inr trivial
  have key : Gives P w φ H K (Go.binOp op T u v) → (∀ w', (eqGuard op T ox oy u v).run P w' = .ok () w') → Gives P w φ H K (do eqGuard op T ox oy u v; Go.binOp op T u v) := fun ⟨x, v, h1, h2, h3⟩ hq =>
    ⟨x, v, h1, h2, fun w' hw => by simp only [Sem.run_bind, hq, Result.andThen_ok, h3 w' hw]⟩
  cases x <;> cases y <;> (try exact binP_sound rx ry h ox oy)
  case iface.sc T' z s =>
    cases s <;> (try exact binP_sound rx ry h ox oy)
    cases rx with
    | iface _ _ u' hr =>
      cases ry
      simp only [binV] at h
      obtain ⟨hT, hb⟩ := h
      have hu : ∃ ms, P.underlying T = some (.interface ms) := by
        unfold isIf at hT
        split at hT
        · exact ⟨_, by assumption⟩
        · cases hT
      obtain ⟨ms, hu⟩ := hu
      have h8 : ∀ (d : Nat) (w' : World), (Op.equalIn (d + 1) T (.iface T' u') .nilIface).run P w' = .ok false w' := fun d w' => by
        simp [Op.equalIn, run_underlying hu]
      have h9 := h8 9999
      refine key ?_ (fun w' => by unfold eqGuard; simp)
      cases op <;> (try exact hb.elim)
      · exact .mk' _ (.bool false) hb (.bool _) fun w' => by simp only [Go.binOp]; simp [Op.equal, Op.maxDepth, h9]
      · exact .mk' _ (.bool !false) hb (.bool _) fun w' => by simp only [Go.binOp]; simp [Op.equal, Op.maxDepth, h9]
  case int.int k a k' b =>
    cases rx
    cases ry
    refine key ?_ (fun w' => by unfold eqGuard; simp)
    simp only [binV] at h
    cases op
    case shl => exact shiftI_sound .shl T k k' a b h
    case shr => exact shiftI_sound .shr T k k' a b h
    all_goals
      obtain ⟨rfl, h⟩ := h
      exact binI_sound _ T k a b h
  case str.str a b =>
    cases rx
    cases ry
    exact key (binS_sound op T a b h) (fun w' => by unfold eqGuard; simp)
  case agg.agg xs ys =>
    cases rx with
    | agg _ us hs hr =>
      cases ry with
      | agg _ vs hs' hr' => exact eqA_sound hs hr hs' hr' h ox oy
  case bool.bool a b =>
    cases rx
    cases ry
    exact key (binB_sound op T h.1 a b h.2) (fun w' => by unfold eqGuard; simp)

theorem nilV_sound {op : BinOp} {T : TypeId} {x y : AV} {u v : Value} (rx : R w φ H x u) (ry : R w φ H y v) (h : nilV P H op T x y K) (ox oy : Operand) (hy : isNilC oy = true) (hv : oy = .const .nilIface → v = .nilIface) : Gives P w φ H K (do eqGuard op T ox oy u v; Go.binOp op T u v) := by
  have hoy : oy = .const .nilIface := by
    unfold isNilC at hy
    split at hy
    · rfl
    · cases hy
  have hv := hv hoy
  subst hv hoy
  unfold nilV at h
  split at h
  · cases rx
    obtain ⟨hT, hb⟩ := h
    have hu : ∃ ms, P.underlying T = some (.interface ms) := by
      unfold isIf at hT
      split at hT
      · exact ⟨_, by assumption⟩
      · cases hT
    obtain ⟨ms, hu⟩ := hu
    have h8 : ∀ (d : Nat) (w' : World), (Op.equalIn (d + 1) T .nilIface .nilIface).run P w' = .ok true w' := fun d w' => by
      simp [Op.equalIn, run_underlying hu]
    have h9 := h8 9999
    have hq : ∀ w', (eqGuard op T ox (.const .nilIface) .nilIface .nilIface).run P w' = .ok () w' := fun w' => by unfold eqGuard; simp
    cases op <;> (try exact hb.elim)
    · exact .mk' _ (.bool true) hb (.bool _) fun w' => by simp only [Sem.run_bind, hq, Result.andThen_ok]; simp only [Go.binOp]; simp [Op.equal, Op.maxDepth, h9]
    · exact .mk' _ (.bool !true) hb (.bool _) fun w' => by simp only [Sem.run_bind, hq, Result.andThen_ok]; simp only [Go.binOp]; simp [Op.equal, Op.maxDepth, h9]
  · exact binV_sound rx ry h ox _

theorem sOp_sound {n : Nat} (st : St B X w0 w φ H) {env : Env} {a : Act} {g : Gh} (eo : EnvOK w φ H env a n g) {o : Oper} (hn : opOK n o.op = true) (h : sOp P o.op env H K) :
    ∃ x v, K x ∧ R w φ H x v ∧ ∀ w', Ext w w' → (execOp a.eval o).run P w' = .ok (.value v) w' := by
  have ev : ∀ x, x ∈ o.op.operands.toList → R w φ H (evO env x) (a.eval x) := fun x hx => evO_R eo x (by
    have := List.all_eq_true.1 hn x hx
    exact this)
  obtain ⟨dst, op, ty, pos, after, guard⟩ := o
  dsimp only at h ev
  cases op <;> (try exact h.elim)
  case move x => exact ⟨_, _, h, ev x (by simp [Op.operands]), fun w' _ => by simp [execOp]⟩
  case assign x => exact ⟨_, _, h, ev x (by simp [Op.operands]), fun w' _ => by simp [execOp]⟩
  case pick c x y =>
    have rc := ev c (by simp [Op.operands])
    have rx := ev x (by simp [Op.operands])
    have ry := ev y (by simp [Op.operands])
    simp only [sOp] at h
    generalize evO env c = ec at h rc
    cases ec <;> (try exact h.elim)
    rename_i t
    generalize hce : a.eval c = vc at rc
    cases rc
    cases t
    · exact ⟨_, _, h.2 rfl, ry, fun w' _ => by simp [execOp, hce, asBool]⟩
    · exact ⟨_, _, h.1 rfl, rx, fun w' _ => by simp [execOp, hce, asBool]⟩
  case binOp op T x y yT =>
    have hg : Gives P w φ H K (do eqGuard op T x y (a.eval x) (a.eval y); Go.binOp op T (a.eval x) (a.eval y)) := by
      simp only [sOp] at h
      split at h
      · exact nilV_sound (ev x (by simp [Op.operands])) (ev y (by simp [Op.operands])) h x y (by assumption) (fun e => by rw [e]; rfl)
      · exact binV_sound (ev x (by simp [Op.operands])) (ev y (by simp [Op.operands])) h x y
    obtain ⟨z, v, h1, h2, h3⟩ := gives_next hg
    exact ⟨z, v, h1, h2, fun w' hw => by simpa only [execOp] using h3 w' hw⟩
  case unOp op T x =>
    have rx := ev x (by simp [Op.operands])
    simp only [sOp] at h
    generalize hxe : a.eval x = vx at rx
    generalize evO env x = ex at h rx
    cases op <;> cases ex <;> (try exact h.elim)
    case neg.int k n =>
      cases rx
      simp only [unV] at h
      exact ⟨_, _, h, .int _ _, fun w' _ => by simp [execOp, hxe, Op.unary, Op.intArith, ineg]⟩
    case not.bool b =>
      cases rx
      exact ⟨_, _, h, .bool _, fun w' _ => by simp [execOp, hxe, Op.unary]⟩
  case extract t i =>
    have rx := ev t (by simp [Op.operands])
    simp only [sOp] at h
    generalize hxe : a.eval t = vx at rx
    generalize evO env t = ex at h rx
    cases ex <;> (try exact h.elim)
    rename_i xs
    cases rx with
    | tup _ us hs hr =>
      dsimp only at h
      rcases hx : xs[i]? with _ | x
      · simp [hx] at h
      · simp only [hx] at h
        have hlt : i < us.size := by rw [hs]; exact (List.getElem?_eq_some_iff.1 hx).1
        exact ⟨x, us[i], h, hr i x _ hx (Array.getElem?_eq_getElem hlt), fun w' _ => by simp [execOp, hxe, Instr.extract, Array.getElem?_eq_getElem hlt]⟩
  case load T p =>
    simp only [sOp] at h
    obtain ⟨cs, hk, rd⟩ := ldP_sound st (ev p (by simp [Op.operands])) h
    obtain ⟨z, v, h1, h2, h3⟩ := gives_next (ldV_sound rd hk)
    exact ⟨z, v, h1, h2, fun w' hw => by simpa only [execOp] using h3 w' hw⟩
  case indexAddr T x i =>
    obtain ⟨z, v, h1, h2, h3⟩ := gives_next (ixV_sound st (ev x (by simp [Op.operands])) (ev i (by simp [Op.operands])) h)
    exact ⟨z, v, h1, h2, fun w' hw => by simpa only [execOp] using h3 w' hw⟩
  case index T x i =>
    have rx := ev x (by simp [Op.operands])
    have ri := ev i (by simp [Op.operands])
    simp only [sOp] at h
    generalize hxe : a.eval x = vx at rx
    generalize evO env x = ex at h rx
    generalize hie : a.eval i = vi at ri
    generalize evO env i = ei at h ri
    cases ex <;> cases ei <;> (try exact h.elim)
    case agg.int cs k n =>
      cases ri
      cases rx with
      | agg _ us hs hr =>
        obtain ⟨hT, x, hx, hk⟩ := h
        obtain ⟨h0, hx⟩ := ixL_some hx
        obtain ⟨e, hu, hA, hS⟩ := arN_spec hT
        have hlt : n.toNat < cs.length := (List.getElem?_eq_some_iff.1 hx).1
        have hlt' : n.toNat < us.size := by omega
        refine ⟨x, us[n.toNat], hk, hr _ x _ hx (Array.getElem?_eq_getElem hlt'), fun w' _ => ?_⟩
        have hi : 0 ≤ n ∧ n < (cs.length : Int) := ⟨h0, by omega⟩
        simp [execOp, hxe, hie, Instr.index, asIntOf, run_underlying hu, hi, run_sizeOf' hS, part, run_isAgg' hA, Array.getElem?_eq_getElem hlt']
    rename_i s k n
    cases rx
    cases ri
    obtain ⟨hT, c, hc, hk⟩ := h
    obtain ⟨h0, hc⟩ := ixL_some hc
    have hlt : n.toNat < s.length := (List.getElem?_eq_some_iff.1 hc).1
    have hi : 0 ≤ n ∧ n < ((⟨s.toArray⟩ : ByteArray).size : Int) := ⟨h0, by simp [ByteArray.size]; omega⟩
    refine ⟨_, _, hk, .int _ _, fun w' _ => ?_⟩
    have hs : s[n.toNat] = c := (List.getElem?_eq_some_iff.1 hc).2
    simp only [execOp, hxe, hie, Sem.run_bind, run_index_string w' T _ k n (und_of_isStr hT), dif_pos hi, Result.andThen_ok, Sem.run_pure]
    rw [← hs]
    rfl
  case slice T x lo hi mx =>
    cases mx with
    | some m => exact h.elim
    | none =>
      simp only [sOp] at h
      have hm : ∀ (l : Option Operand), (∀ z, l = some z → z ∈ (Op.slice T x lo hi none).operands.toList) → (∀ y u, l.map (evO env) = some y → l.map a.eval = some u → R w φ H y u) ∧ (l.map (evO env) = none ↔ l.map a.eval = none) := fun l hl => by
        cases l with
        | none => simp
        | some z => simp; exact ev z (hl z rfl)
      have hlo := hm lo (fun z hz => by subst hz; simp [Op.operands])
      have hhi := hm hi (fun z hz => by subst hz; simp [Op.operands])
      obtain ⟨z, v, h1, h2, h3⟩ := gives_next (slV_sound st (ev x (by simp [Op.operands])) hlo.1 hlo.2 hhi.1 hhi.2 h)
      exact ⟨z, v, h1, h2, fun w' hw => by simpa only [execOp, Option.map_none] using h3 w' hw⟩
  case field T x i =>
    have rx := ev x (by simp [Op.operands])
    simp only [sOp] at h
    generalize hxe : a.eval x = vx at rx
    generalize evO env x = ex at h rx
    cases ex <;> (try exact h.elim)
    rename_i cs
    cases rx with
    | agg _ us hs hr =>
      dsimp only at h
      rcases hf : fldI P T i with _ | ⟨off, ft⟩
      · simp [hf] at h
      simp only [hf] at h
      obtain ⟨fs, f, hu, hfi, h1, h2⟩ : ∃ fs f, P.underlying T = some (.struct fs) ∧ fs[i]? = some f ∧ f.offset = off ∧ f.type = ft := by
        unfold fldI at hf
        split at hf
        · rename_i fs hu
          simp only [Option.map_eq_some_iff] at hf
          obtain ⟨f, hfi, he⟩ := hf
          simp at he
          exact ⟨fs, f, hu, hfi, he.1, he.2⟩
        · simp at hf
      unfold ldV at h
      rcases hA : isA P ft with _ | _ | _
      · rw [hA] at h; exact h.elim
      · simp only [hA] at h
        rcases hd : cs.drop off with _ | ⟨c, rest⟩
        · simp [hd] at h
        simp only [hd] at h
        have hc : cs[off]? = some c := by
          have : (cs.drop off)[0]? = some c := by rw [hd]; rfl
          rw [List.getElem?_drop] at this
          simpa using this
        have hlt : off < us.size := by rw [hs]; exact (List.getElem?_eq_some_iff.1 hc).1
        subst h1 h2
        exact ⟨c, us[f.offset], h, hr _ c _ hc (Array.getElem?_eq_getElem hlt), fun w' _ => by
          simp [execOp, hxe, Instr.field, run_underlying hu, hfi, asAgg, part, run_isAgg' hA, Array.getElem?_eq_getElem hlt]⟩
      · simp only [hA] at h
        rcases hS : szT P ft with _ | s
        · simp only [hS] at h
        simp only [hS] at h
        obtain ⟨hle, hk⟩ := h
        subst h1 h2
        refine ⟨_, .agg (us.extract f.offset (f.offset + s)), hk, .agg _ _ ?_ (fun j x u hj hu' => ?_), fun w' _ => by
          simp [execOp, hxe, Instr.field, run_underlying hu, hfi, asAgg, part, run_isAgg' hA, run_sizeOf' hS]⟩
        · simp only [Array.size_extract, List.length_take, List.length_drop] at hle ⊢
          omega
        · rw [List.getElem?_take] at hj
          split at hj
          · rename_i hlt
            rw [List.getElem?_drop] at hj
            rw [Array.getElem?_extract] at hu'
            split at hu'
            · exact hr _ x u hj hu'
            · simp at hu'
          · simp at hj
  case fieldAddr T p i =>
    obtain ⟨z, v, h1, h2, h3⟩ := gives_next (faV_sound st (ev p (by simp [Op.operands])) h)
    exact ⟨z, v, h1, h2, fun w' hw => by simpa only [execOp] using h3 w' hw⟩
  case convert src dst' x =>
    obtain ⟨z, v, h1, h2, h3⟩ := gives_next (convV_sound st (ev x (by simp [Op.operands])) h.1 h.2)
    exact ⟨z, v, h1, h2, fun w' hw => by simpa only [execOp] using h3 w' hw⟩
  case makeFunc fn first captured =>
    cases fn <;> (try exact h.elim)
    rename_i f
    simp only [sOp] at h
    obtain ⟨hf, hk⟩ := h
    have hf' : first = #[] := by simpa using hf
    subst hf'
    refine ⟨_, .func (.func f) #[] (captured.map a.eval), hk, .fn _ _ _ (by simp) (fun i x u hx hu => ?_), fun w' _ => by simp [execOp, Instr.makeFunc]⟩
    simp only [List.getElem?_map, Option.map_eq_some_iff] at hx
    obtain ⟨z, hz, rfl⟩ := hx
    simp only [Array.getElem?_map, Option.map_eq_some_iff] at hu
    obtain ⟨z', hz', rfl⟩ := hu
    simp at hz
    rw [hz] at hz'
    simp at hz'
    subst hz'
    exact ev z (by simp [Op.operands]; exact Array.mem_of_getElem? hz)
  case makeInterface T x =>
    simp only [sOp] at h
    have rx := ev x (by simp [Op.operands])
    refine ⟨_, _, h.2, .iface _ _ _ rx, fun w' _ => ?_⟩
    simp only [execOp, Sem.run_bind, run_makeInterface w' T _ h.1, Result.andThen_ok, Sem.run_pure]
  case typeAssert z sT T cok =>
    cases cok <;> (try exact h.elim)
    have rx := ev z (by simp [Op.operands])
    simp only [sOp] at h
    generalize hxe : a.eval z = vx at rx
    generalize evO env z = ex at h rx
    cases ex <;> (try exact h.elim)
    rename_i T' y
    obtain ⟨rfl, hT, hk⟩ := h
    cases rx with
    | iface _ _ u hr =>
      refine ⟨_, .tuple #[u, .bool true], hk, .tup _ _ rfl (fun i x v hx hv => ?_), fun w' _ => ?_⟩
      · match i, hx, hv with
        | 0, hx, hv => simp at hx hv; subst hx hv; exact hr
        | 1, hx, hv => simp at hx hv; subst hx hv; exact .bool _
        | i + 2, hx, hv => simp at hx
      · unfold noIf at hT
        rcases hu : P.underlying T' with _ | d
        · rw [hu] at hT; cases hT
        · rw [hu] at hT
          cases d <;> simp at hT <;> simp [execOp, hxe, Instr.typeAssert, run_underlying hu]
  case nilCheck z =>
    have rx := ev z (by simp [Op.operands])
    simp only [sOp] at h
    generalize hxe : a.eval z = vx at rx
    generalize evO env z = ex at h rx
    have hptr : (ldP H ex fun _ => K ex) → ∃ x v, K x ∧ R w φ H x v ∧ ∀ w', Ext w w' → (execOp a.eval { dst := dst, op := Op.nilCheck z, type := ty, pos := pos, after := after, guard := guard }).run P w' = .ok (.value v) w' := fun h => by
      obtain ⟨cs, hk, b, o, rfl, _⟩ := ldP_sound st rx h
      exact ⟨_, _, hk, rx, fun w' _ => by simp [execOp, hxe]⟩
    cases ex <;> (try exact hptr h)
    case fn f caps =>
      cases rx with
      | fn _ _ us hs hr => exact ⟨_, _, h, .fn _ _ us hs hr, fun w' _ => by simp [execOp, hxe]⟩
    case iface T y =>
      cases rx with
      | iface _ _ u hr => exact ⟨_, _, h, .iface T y u hr, fun w' _ => by simp [execOp, hxe]⟩
  case call c =>
    obtain ⟨callee, args, argTypes⟩ := c
    cases callee <;> (try exact h.elim)
    rename_i b
    cases b <;> (try exact h.elim)
    case len =>
      obtain ⟨args⟩ := args
      obtain ⟨argTypes⟩ := argTypes
      rcases args with _ | ⟨x, _ | ⟨x2, args⟩⟩
      · exact h.elim
      · rcases argTypes with _ | ⟨t, _ | ⟨t2, argTypes⟩⟩
        · exact h.elim
        · obtain ⟨z, v, h1, h2, h3⟩ := gives_next (lenV_sound (ty := ty) st (ev x (by simp [Op.operands, Call.operands])) h)
          exact ⟨z, v, h1, h2, fun w' hw => by simpa only [execOp, resolve, invoke, builtin, Sem.run_bind, Sem.run_pure, Result.andThen_ok, List.map_toArray, List.map_cons, List.map_nil] using h3 w' hw⟩
        · exact h.elim
      · exact h.elim
    case unsafeSliceData =>
      obtain ⟨args⟩ := args
      rcases args with _ | ⟨x, _ | ⟨x2, args⟩⟩
      · exact h.elim
      · obtain ⟨z, v, h1, h2, h3⟩ := gives_next (usdV_sound (P := P) st (ev x (by simp [Op.operands, Call.operands])) argTypes ty h)
        exact ⟨z, v, h1, h2, fun w' hw => by simpa only [execOp, resolve, invoke, builtin, Sem.run_bind, Sem.run_pure, Result.andThen_ok, List.map_toArray, List.map_cons, List.map_nil] using h3 w' hw⟩
      · exact h.elim
    case max =>
      obtain ⟨args⟩ := args
      rcases args with _ | ⟨x, _ | ⟨y, _ | ⟨x2, args⟩⟩⟩
      · exact h.elim
      · exact h.elim
      · have rx := ev x (by simp [Op.operands, Call.operands])
        have ry := ev y (by simp [Op.operands, Call.operands])
        simp only [sOp] at h
        generalize hxe : a.eval x = vx at rx
        generalize evO env x = ex at h rx
        generalize hye : a.eval y = vy at ry
        generalize evO env y = ey at h ry
        cases ex <;> cases ey <;> (try exact h.elim)
        rename_i k a' k' b'
        cases rx
        cases ry
        refine ⟨_, _, h, .int _ _, fun w' _ => ?_⟩
        have e : (if a' < b' then b' else a') = max a' b' := by rw [Int.max_def]; split <;> split <;> omega
        simp [execOp, resolve, invoke, builtin, hxe, hye, Builtin.max_, Builtin.max2, e]
      · exact h.elim
    case min =>
      obtain ⟨args⟩ := args
      rcases args with _ | ⟨x, _ | ⟨y, _ | ⟨x2, args⟩⟩⟩
      · exact h.elim
      · exact h.elim
      · have rx := ev x (by simp [Op.operands, Call.operands])
        have ry := ev y (by simp [Op.operands, Call.operands])
        simp only [sOp] at h
        generalize hxe : a.eval x = vx at rx
        generalize evO env x = ex at h rx
        generalize hye : a.eval y = vy at ry
        generalize evO env y = ey at h ry
        cases ex <;> cases ey <;> (try exact h.elim)
        rename_i k a' k' b'
        cases rx
        cases ry
        refine ⟨_, _, h, .int _ _, fun w' _ => ?_⟩
        have e : (if b' < a' then b' else a') = min a' b' := by rw [Int.min_def]; split <;> split <;> omega
        simp [execOp, resolve, invoke, builtin, hxe, hye, Builtin.min_, Builtin.min2, e]
      · exact h.elim
end
end Go.Av
namespace Go.Av
open Go.RowKit
set_option linter.unusedVariables false

def updφ (φ : Nat → Value) (i : Nat) (v : Value) : Nat → Value := fun k => if k = i then v else φ k
theorem updφ_same (φ : Nat → Value) (i : Nat) (v : Value) : updφ φ i v i = v := by simp [updφ]
theorem updφ_ne (φ : Nat → Value) (i k : Nat) (v : Value) (h : k ≠ i) : updφ φ i v k = φ k := by simp [updφ, h]

abbrev Gr (w w' : World) : Prop := Frame w.heap.size (fun _ => False) w w'
theorem Gr.ext {w w' : World} (g : Gr w w') : Ext w w' := Ext.of_block g.size fun b hb => g.block b hb (fun h => h)
theorem Gr.cell {w w' : World} (g : Gr w w') {b : Nat} (hb : b < w.heap.size) (o : Nat) : w'.cell? ⟨b, o, none⟩ = w.cell? ⟨b, o, none⟩ :=
  World.cell?_of_block (g.block b hb (fun h => h))
theorem Gr.alloc (w : World) (o : Obj) : Gr w (w.alloc o) :=
  ⟨rfl, rfl, rfl, by simp, fun k hk _ => Below.heap_alloc w o k hk⟩
theorem Gr.drew (w : World) : Gr w w.drew := ⟨rfl, rfl, rfl, Nat.le_refl _, fun _ _ _ => rfl⟩
theorem Gr.refl (w : World) : Gr w w := Frame.refl _ _ w
theorem Gr.trans {a b c : World} (h : Gr a b) (k : Gr b c) : Gr a c :=
  ⟨k.os.trans h.os, k.tape.trans h.tape, k.output.trans h.output, Nat.le_trans h.size k.size, fun i hi hx => (k.block i (Nat.lt_of_lt_of_le hi h.size) hx).trans (h.block i hi hx)⟩

section
variable {B : Nat} {X : Nat → Prop} {w0 w w' : World} {φ : Nat → Value} {H : List AO}

theorem get_app {H : List AO} {o : AO} {id : Nat} {o' : AO} (h : (H ++ [o])[id]? = some o') : (id < H.length ∧ H[id]? = some o') ∨ (id = H.length ∧ o' = o) := by
  rcases Nat.lt_or_ge id H.length with hlt | hge
  · rw [List.getElem?_append_left hlt] at h; exact .inl ⟨hlt, h⟩
  · rw [List.getElem?_append_right hge] at h
    have : id - H.length = 0 := by
      rcases Nat.eq_zero_or_pos (id - H.length) with e | e
      · exact e
      · rw [List.getElem?_eq_none (by simp; omega)] at h; cases h
    rw [this] at h
    simp at h
    exact .inr ⟨by omega, h.symm⟩

theorem Le_new (g : Gr w w') (nv : Value) (o : AO) (hb : ∀ b, vblk nv = some b → w.heap.size ≤ b) : Le w φ H w' (updφ φ H.length nv) (H ++ [o]) := by
  refine ⟨g.size, fun b hbs hn => ⟨fun id o' h hl => ?_, fun k => g.cell hbs k⟩, by simp, fun id v' E s xs' hid h => ?_, fun id ver E s xs' hid _ h => ?_, fun id o' hid h hp => ?_⟩
  · rcases get_app h with ⟨h1, h2⟩ | ⟨rfl, rfl⟩
    · rw [updφ_ne _ _ _ _ (by omega)]; exact hn id o' h2 hl
    · rw [updφ_same]; intro e; have := hb b e; omega
  · rw [List.getElem?_append_left hid] at h; exact ⟨v', E, s, xs', h, Nat.le_refl _⟩
  · rw [List.getElem?_append_left hid] at h; exact ⟨xs', h, rfl, updφ_ne _ _ _ _ (by omega)⟩
  · rw [List.getElem?_append_left hid] at h; exact ⟨o', h, hp, updφ_ne _ _ _ _ (by omega)⟩

theorem OwnRow.keep {E : TypeId} {size : Nat} {v : Value} {n : Nat} {cs : List Value} (h : OwnRow w E size v n cs) (hk : ∀ b, vblk v = some b → w'.heap[b]? = w.heap[b]?) : OwnRow w' E size v n cs := by
  refine ⟨h.1, h.2.1, ?_⟩
  rcases h.2.2 with hn | ⟨g, cap, cur, fz, rfl, hg, rest⟩
  · exact .inl hn
  · exact .inr ⟨g, cap, cur, fz, rfl, by rw [hk g rfl]; exact hg, rest⟩

theorem Chunk.keep {φ' : Nat → Value} {H' : List AO} (le : Le w φ H w' φ' H') {id : Nat} {o : AO} (hφ : φ' id = φ id) (hk : ∀ b, vblk (φ id) = some b → w'.heap[b]? = w.heap[b]?) (c : Chunk w φ H id o) : Chunk w' φ' H' id o := by
  cases o with
  | iter s p =>
    obtain ⟨g, c1, c2⟩ := c
    exact ⟨g, by rw [hφ]; exact c1, by rw [hk g (by rw [c1]; rfl)]; exact c2⟩
  | gone => trivial
  | slice ver E s xs =>
    obtain ⟨cs, c1, c2, c3, c4⟩ := c
    exact ⟨cs, by rw [hφ]; exact c1.keep hk, c2, c3, fun i x j c u hx hj hu => (c4 i x j c u hx hj hu).le le⟩
  | box T cs =>
    obtain ⟨g, arr, c1, c2, c3, c4⟩ := c
    exact ⟨g, arr, by rw [hφ]; exact c1, by rw [hk g (by rw [c1]; rfl)]; exact c2, c3, fun i c u hc hu => ⟨(c4 i c u hc hu).1.le le, (c4 i c u hc hu).2⟩⟩

theorem St.new (st : St B X w0 w φ H) (g : Gr w w') (nv : Value) (o : AO) (hb : ∀ b, vblk nv = some b → w.heap.size ≤ b ∧ b < w'.heap.size)
    (hc : Chunk w' (updφ φ H.length nv) (H ++ [o]) H.length o) : St B X w0 w' (updφ φ H.length nv) (H ++ [o]) := by
  have le : Le w φ H w' (updφ φ H.length nv) (H ++ [o]) := Le_new g nv o fun b h => (hb b h).1
  have hbase : B ≤ w.heap.size := Nat.le_trans st.base st.frame.size
  refine ⟨st.frame.trans ⟨g.os, g.tape, g.output, g.size, fun k hk _ => g.block k (by omega) (fun h => h)⟩, st.base, st.glob, fun id o' b h hl hv => ?_, fun id id' o1 o2 b h hl h' hl' hv hv' => ?_, fun id o' h => ?_⟩
  · rcases get_app h with ⟨h1, h2⟩ | ⟨rfl, rfl⟩
    · rw [updφ_ne _ _ _ _ (by omega)] at hv
      have := st.live id o' b h2 hl hv
      exact ⟨this.1, Nat.lt_of_lt_of_le this.2 g.size⟩
    · rw [updφ_same] at hv
      have := hb b hv
      exact ⟨.inl (by omega), this.2⟩
  · rcases get_app h with ⟨h1, h2⟩ | ⟨rfl, rfl⟩ <;> rcases get_app h' with ⟨h1', h2'⟩ | ⟨rfl, rfl⟩
    · rw [updφ_ne _ _ _ _ (by omega)] at hv hv'
      exact st.inj id id' o1 o2 b h2 hl h2' hl' hv hv'
    · rw [updφ_ne _ _ _ _ (by omega)] at hv
      rw [updφ_same] at hv'
      have := st.live id o1 b h2 hl hv
      have := hb b hv'
      omega
    · rw [updφ_ne _ _ _ _ (by omega)] at hv'
      rw [updφ_same] at hv
      have := st.live id' o2 b h2' hl' hv'
      have := hb b hv
      omega
    · rfl
  · rcases get_app h with ⟨h1, h2⟩ | ⟨rfl, rfl⟩
    · cases o' with
      | iter s p => exact (st.chunk id _ h2).keep le (updφ_ne _ _ _ _ (by omega)) fun b hv => g.block b (st.live id _ b h2 rfl hv).2 (fun h => h)
      | gone => trivial
      | slice v E s xs => exact (st.chunk id _ h2).keep le (updφ_ne _ _ _ _ (by omega)) fun b hv => g.block b (st.live id _ b h2 rfl hv).2 (fun h => h)
      | box T cs => exact (st.chunk id _ h2).keep le (updφ_ne _ _ _ _ (by omega)) fun b hv => g.block b (st.live id _ b h2 rfl hv).2 (fun h => h)
    · exact hc

def LeO (o o' : AO) (v nv : Value) : Prop := match o, o' with
  | .slice a E s xs, .slice b E' s' xs' => a < b ∨ (a = b ∧ E = E' ∧ s = s' ∧ xs.length = xs'.length ∧ nv = v)
  | .box T cs, .box T' cs' => T = T' ∧ nv = v
  | .iter s p, .iter s' p' => nv = v
  | _, .gone => True
  | _, _ => False

theorem Le_upd (st : St B X w0 w φ H) {id : Nat} {o o' : AO} (hid : H[id]? = some o) (hol : o.live = true) (hsz : w.heap.size ≤ w'.heap.size) (hblk : ∀ k, k < w.heap.size → vblk (φ id) ≠ some k → w'.heap[k]? = w.heap[k]?)
    (nv : Value) (hb : ∀ b, vblk nv = some b → vblk (φ id) = some b ∨ w.heap.size ≤ b) (hle : LeO o o' (φ id) nv) : Le w φ H w' (updφ φ id nv) (H.set id o') := by
  have hlt : id < H.length := (List.getElem?_eq_some_iff.1 hid).1
  have hget : ∀ k o2, (H.set id o')[k]? = some o2 → (k = id ∧ o2 = o') ∨ (k ≠ id ∧ H[k]? = some o2) := fun k o2 h => by
    by_cases e : k = id
    · subst e; rw [List.getElem?_set_self hlt] at h; simp at h; exact .inl ⟨rfl, h.symm⟩
    · rw [List.getElem?_set_ne (Ne.symm e)] at h; exact .inr ⟨e, h⟩
  refine ⟨hsz, fun b hbs hn => ⟨fun k o2 h hl => ?_, fun j => World.cell?_of_block (hblk b hbs (hn id o hid hol))⟩, by simp, fun k v' E s xs' hk h => ?_, fun k ver E s xs' hk hv h => ?_, fun k o2 hk h hp => ?_⟩
  · rcases hget k o2 h with ⟨rfl, rfl⟩ | ⟨e, h2⟩
    · rw [updφ_same]; intro e
      rcases hb b e with h1 | h1
      · exact hn k o hid hol h1
      · omega
    · rw [updφ_ne _ _ _ _ e]; exact hn k o2 h2 hl
  · rcases hget k _ h with ⟨rfl, rfl⟩ | ⟨e, h2⟩
    · cases o <;> simp only [LeO] at hle
      rename_i a E0 s0 xs0
      exact ⟨a, E0, s0, xs0, hid, by omega⟩
    · exact ⟨v', E, s, xs', h2, Nat.le_refl _⟩
  · rcases hget k _ h with ⟨rfl, rfl⟩ | ⟨e, h2⟩
    · cases o <;> simp only [LeO] at hle
      rename_i a E0 s0 xs0
      have := hv a E0 s0 xs0 hid
      rcases hle with h1 | ⟨rfl, rfl, rfl, h4, h5⟩
      · omega
      · exact ⟨xs0, hid, h4, by rw [updφ_same]; exact h5⟩
    · exact ⟨xs', h2, rfl, updφ_ne _ _ _ _ e⟩
  · rcases hget k _ h with ⟨rfl, rfl⟩ | ⟨e, h2⟩
    · cases o2 <;> simp only [AO.pb, Bool.false_eq_true] at hp
      · cases o <;> simp only [LeO] at hle
        exact ⟨_, hid, rfl, by rw [updφ_same]; exact hle.2⟩
      · cases o <;> simp only [LeO] at hle
        exact ⟨_, hid, rfl, by rw [updφ_same]; exact hle⟩
    · exact ⟨o2, h2, hp, updφ_ne _ _ _ _ e⟩

theorem St.upd (st : St B X w0 w φ H) {id : Nat} {o o' : AO} (hid : H[id]? = some o) (hol : o.live = true) (hos : w'.os = w.os) (htape : w'.tape = w.tape) (hout : w'.output = w.output)
    (hsz : w.heap.size ≤ w'.heap.size) (hblk : ∀ k, k < w.heap.size → vblk (φ id) ≠ some k → w'.heap[k]? = w.heap[k]?)
    (nv : Value) (hb : ∀ b, vblk nv = some b → (vblk (φ id) = some b ∨ w.heap.size ≤ b) ∧ b < w'.heap.size) (hle : LeO o o' (φ id) nv)
    (hc : Chunk w' (updφ φ id nv) (H.set id o') id o') : St B X w0 w' (updφ φ id nv) (H.set id o') := by
  have le := Le_upd st hid hol hsz hblk nv (fun b h => (hb b h).1) hle
  have hbase : B ≤ w.heap.size := Nat.le_trans st.base st.frame.size
  have hlt : id < H.length := (List.getElem?_eq_some_iff.1 hid).1
  have hget : ∀ k o2, (H.set id o')[k]? = some o2 → (k = id ∧ o2 = o') ∨ (k ≠ id ∧ H[k]? = some o2) := fun k o2 h => by
    by_cases e : k = id
    · subst e; rw [List.getElem?_set_self hlt] at h; simp at h; exact .inl ⟨rfl, h.symm⟩
    · rw [List.getElem?_set_ne (Ne.symm e)] at h; exact .inr ⟨e, h⟩
  have hnew : ∀ b, vblk nv = some b → B ≤ b ∨ X b := fun b h => by
    rcases (hb b h).1 with h1 | h1
    · exact (st.live id o b hid hol h1).1
    · exact .inl (by omega)
  refine ⟨st.frame.trans ⟨hos, htape, hout, hsz, fun k hk hx => hblk k (by omega) fun e => ?_⟩, st.base, st.glob, fun k o2 b h hl hv => ?_, fun k k' o1 o2 b h hl h' hl' hv hv' => ?_, fun k o2 h => ?_⟩
  · rcases (st.live id o k hid hol e).1 with h1 | h1
    · omega
    · exact hx h1
  · rcases hget k o2 h with ⟨rfl, rfl⟩ | ⟨e, h2⟩
    · rw [updφ_same] at hv; exact ⟨hnew b hv, (hb b hv).2⟩
    · rw [updφ_ne _ _ _ _ e] at hv
      have := st.live k o2 b h2 hl hv
      exact ⟨this.1, Nat.lt_of_lt_of_le this.2 hsz⟩
  · rcases hget k o1 h with ⟨rfl, rfl⟩ | ⟨e, h2⟩ <;> rcases hget k' o2 h' with ⟨rfl, rfl⟩ | ⟨e', h2'⟩
    · rfl
    · rw [updφ_same] at hv
      rw [updφ_ne _ _ _ _ e'] at hv'
      have hl2 := st.live k' o2 b h2' hl' hv'
      rcases (hb b hv).1 with h1 | h1
      · exact st.inj k k' o o2 b hid hol h2' hl' h1 hv'
      · omega
    · rw [updφ_same] at hv'
      rw [updφ_ne _ _ _ _ e] at hv
      have hl2 := st.live k o1 b h2 hl hv
      rcases (hb b hv').1 with h1 | h1
      · exact st.inj k k' o1 o b h2 hl hid hol hv h1
      · omega
    · rw [updφ_ne _ _ _ _ e] at hv
      rw [updφ_ne _ _ _ _ e'] at hv'
      exact st.inj k k' o1 o2 b h2 hl h2' hl' hv hv'
  · rcases hget k o2 h with ⟨rfl, rfl⟩ | ⟨e, h2⟩
    · exact hc
    · have hlive : o2.live = true → ∀ b, vblk (φ k) = some b → w'.heap[b]? = w.heap[b]? := fun hl b hv =>
        hblk b (st.live k o2 b h2 hl hv).2 fun e2 => e (st.inj k id o2 o b h2 hl hid hol hv e2)
      cases o2 with
      | iter s p => exact (st.chunk k _ h2).keep le (updφ_ne _ _ _ _ e) (hlive rfl)
      | gone => trivial
      | slice v E s xs => exact (st.chunk k _ h2).keep le (updφ_ne _ _ _ _ e) (hlive rfl)
      | box T cs => exact (st.chunk k _ h2).keep le (updφ_ne _ _ _ _ e) (hlive rfl)
end
end Go.Av
namespace Go.Av
open Go.RowKit
set_option linter.unusedVariables false

/-- w' is w but for block g (and new ones) -/
structure But (g : Option Nat) (w w' : World) : Prop where
  os : w'.os = w.os
  tape : w'.tape = w.tape
  output : w'.output = w.output
  size : w.heap.size ≤ w'.heap.size
  block : ∀ k, k < w.heap.size → g ≠ some k → w'.heap[k]? = w.heap[k]?

theorem frozen_off {w : World} {g : Nat} {cur : Array Value} {t : TypeId} {fz : Nat × Nat} (hg : w.heap[g]? = some (.cells cur t fz)) (hf : fz = (0, 0) ∨ cur.size ≤ fz.1) {k : Nat} (hk : k < cur.size) : w.frozen? ⟨g, k, none⟩ = false := by
  unfold World.frozen?
  simp only [hg]
  rcases hf with rfl | hf
  · simp
  · obtain ⟨lo, hi⟩ := fz
    have h1 : cur.size ≤ lo := hf
    have : ¬ lo ≤ k := by omega
    simp [this]

theorem heap_setCell_at {w : World} {g k : Nat} {cur : Array Value} {t : TypeId} {fz : Nat × Nat} (hg : w.heap[g]? = some (.cells cur t fz)) (v : Value) : (w.setCell ⟨g, k, none⟩ v).heap[g]? = some (.cells (cur.setIfInBounds k v) t fz) := by
  simp only [World.setCell, Array.getElem?_modify, hg]
  simp

theorem run_stores {P : Program} {g : Nat} {t : TypeId} {fz : Nat × Nat} : ∀ (vs : List Value) (o i : Nat) (cur : Array Value) (w : World), w.heap[g]? = some (.cells cur t fz) → (fz = (0, 0) ∨ cur.size ≤ fz.1) → o + i + vs.length ≤ cur.size → (∀ v ∈ vs, v.oneCell' = true) →
    ∃ w', (storeCells ⟨g, o, none⟩ vs i).run P w = .ok () w' ∧ w'.heap[g]? = some (.cells (cur.toList.take (o + i) ++ vs ++ cur.toList.drop (o + i + vs.length)).toArray t fz) ∧ But (some g) w w' ∧ w'.heap.size = w.heap.size
  | [], o, i, cur, w, hg, hf, hl, h1 => by
    refine ⟨w, by simp [storeCells], ?_, ⟨rfl, rfl, rfl, Nat.le_refl _, fun _ _ _ => rfl⟩, rfl⟩
    rw [hg]
    simp
  | v :: vs, o, i, cur, w, hg, hf, hl, h1 => by
    simp only [List.length_cons] at hl
    have hlt : o + i < cur.size := by omega
    have hv : v.oneCell' = true := h1 v (by simp)
    have hst : (store ((⟨g, o, none⟩ : Addr).add i) v).run P w = .ok () (w.setCell ⟨g, o + i, none⟩ v) := by
      have hc : w.cell? ⟨g, o + i, none⟩ = some cur[o + i] := by rw [cell_of_row w g _ cur t fz hg]; exact Array.getElem?_eq_getElem hlt
      rw [add_lit, run_store P w _ v .plain hv, hc]
      simp [frozen_off hg hf hlt]
    obtain ⟨w', e1, e2, e3, e4⟩ := run_stores (P := P) vs o (i + 1) (cur.setIfInBounds (o + i) v) (w.setCell ⟨g, o + i, none⟩ v) (heap_setCell_at hg v) (by simpa using hf) (by simp; omega) (fun u hu => h1 u (by simp [hu]))
    refine ⟨w', ?_, ?_, ⟨e3.os, e3.tape, e3.output, by have := e3.size; simpa using this, fun k hk hne => ?_⟩, by rw [e4]; simp⟩
    · simp only [storeCells, Sem.run_bind, hst, Result.andThen_ok]
      exact e1
    · rw [e2]
      have e := list_seg_step cur.toList (o + i) v vs (by simp; omega)
      simp only [Array.toList_setIfInBounds, List.length_cons]
      rw [show o + (i + 1) = o + i + 1 by omega, e]
    · rw [e3.block k (by simpa using hk) hne]
      exact heap_setCell_other w _ k v (fun h => hne (by rw [h]))

structure TyI (P : Program) (E : TypeId) (s b : Nat) (z : Value) : Prop where
  ex : ∃ i, P.info? E = some i ∧ i.size = s ∧ i.bytes = b ∧ i.zero = some z
  cells : z.cells.size = s
  pos : 0 < s

theorem zc_size (z : Array Value) (n : Nat) : (Builtin.zeroCells z n).size = n * z.size := by simp [Builtin.zeroCells]

/-- append to a slice of our own, from whatever source x of m elements whose cells are news -/
theorem run_app {P : Program} {w : World} {t t2 ty E : TypeId} {d2 : TypeDesc} {s by' : Nat} {z : Value} (ht : P.underlying t = some (.slice E)) (h2 : P.underlying t2 = some d2) (hd : ∀ k, d2 ≠ .int k) (ti : TyI P E s by' z)
    {v0 : Value} {n : Nat} {cs : List Value} (own : OwnRow w E s v0 n cs) {v : Value} {len : Nat} (hv : OwnV v0 s n 0 len v)
    (x : Value) (m : Nat) (news : List Value) (hm : ∀ w, (Builtin.lenOf x).run P w = .ok m w) (hfc : ∀ w', Ext w w' → (Builtin.firstCells s m x).run P w' = .ok news.toArray w') (hl : news.length = m * s) (h1 : ∀ u ∈ news, u.oneCell' = true)
    (hby : (len + m) * by' ≤ 140737488355328) (h63 : len + m ≤ 9223372036854775807) :
    ∃ v' w', (Builtin.append_ #[t, t2] ty #[v, x]).run P w = .ok v' w' ∧ OwnRow w' E s v' (len + m) (cs.take (len * s) ++ news) ∧ But (vblk v0) w w' ∧
      (∀ b, vblk v' = some b → (vblk v0 = some b ∨ w.heap.size ≤ b) ∧ b < w'.heap.size) ∧ OwnV v' s (len + m) 0 (len + m) v' := by
  obtain ⟨i, hi, rfl, rfl, hz⟩ := ti.ex
  have hzs := ti.cells
  have hle : len ≤ n := by have := hv.1; omega
  have hcl : (cs.take (len * i.size)).length = len * i.size := by
    rw [List.length_take, own.1]
    exact Nat.min_eq_left (Nat.mul_le_mul_right _ hle)
  have hlen : (cs.take (len * i.size) ++ news).length = (len + m) * i.size := by rw [List.length_append, hcl, hl, Nat.add_mul]
  have hone : ∀ u ∈ cs.take (len * i.size) ++ news, u.oneCell' = true := fun u hu => by
    rcases List.mem_append.1 hu with h | h
    · exact own.2.1 u (List.mem_of_mem_take h)
    · exact h1 u h
  -- the slice grows
  have grow : ∀ (old : Nat) (ad : Option Addr), v = .slice ad len old → old < len + m → (∀ w', Ext w w' → (Builtin.firstCells i.size len v).run P w' = .ok (cs.take (len * i.size)).toArray w') →
      ∃ v' w', (Builtin.append_ #[t, t2] ty #[v, x]).run P w = .ok v' w' ∧ OwnRow w' E i.size v' (len + m) (cs.take (len * i.size) ++ news) ∧ But (vblk v0) w w' ∧
      (∀ b, vblk v' = some b → (vblk v0 = some b ∨ w.heap.size ≤ b) ∧ b < w'.heap.size) ∧ OwnV v' i.size (len + m) 0 (len + m) v' := by
    intro old ad hve ho hfo
    have hge := grownCap_ge w (len + m) old E
    have hcm : grownCap w (len + m) old E ≤ maxLen := grownCap_le_maxLen w (len + m) old E (by simpa [maxLen] using h63)
    have hn1 : ¬ (len + m ≤ old) := by omega
    have h48' : ¬ (281474976710656 < Builtin.nextslicecap (len + m) old * i.bytes) := by have := growslice_fits ho hby; omega
    have hex : Ext w w.drew := Ext.of_block (Nat.le_refl _) fun _ _ => rfl
    refine ⟨.slice (some ⟨w.heap.size, 0, none⟩) (len + m) (grownCap w (len + m) old E), w.drew.alloc (.cells ((cs.take (len * i.size)).toArray ++ news.toArray ++ Builtin.zeroCells z.cells (grownCap w (len + m) old E - (len + m))) E), ?_, ?_, ?_, ?_, ?_⟩
    · have f1 := hfo w.drew hex
      have f2 := hfc w.drew hex
      rw [hve] at f1 ⊢
      simp [Builtin.append_, run_underlying ht, run_underlying h2, sizeOf, typeInfo, zeroValue, hi, hz, hm, hn1, h48', Question.forced, f1, f2, newRow, grownCap]
      rw [if_neg (fun h => by have := h.1; omega)]
      congr 3
      apply Array.ext'
      simp
    · refine ⟨hlen, hone, .inr ⟨w.heap.size, _, _, (0, 0), rfl, heap_alloc_new w.drew _, .inl rfl, hge, hcm, ?_, ?_⟩⟩
      · simp only [Array.size_append, List.size_toArray, zc_size, hzs, hcl, hl, ← Nat.add_mul]
        congr 1
        omega
      · simp only [Array.toList_append, List.append_assoc]
        rw [← List.append_assoc, ← hlen]
        exact List.take_left
    · exact ⟨rfl, rfl, rfl, by simp, fun k hk _ => Below.heap_alloc w.drew _ k hk⟩
    · intro b hb
      simp [vblk] at hb
      subst hb
      exact ⟨.inr (Nat.le_refl _), by simp⟩
    · exact ⟨by omega, .inr ⟨w.heap.size, _, rfl, hge, _, rfl, fun _ => by simp, fun _ => rfl⟩⟩
  rcases hv.2 with ⟨rfl, rfl, rfl⟩ | ⟨g, cap, rfl, hnc, ad, rfl, _, h00⟩
  · have hl0 : len = 0 := by omega
    subst hl0
    by_cases hm0 : m = 0
    · subst hm0
      have hn0 : news = [] := List.eq_nil_of_length_eq_zero (by simpa using hl)
      subst hn0
      refine ⟨.slice none 0 0, w, ?_, ⟨by simp, by simp, .inl ⟨rfl, rfl⟩⟩, ⟨rfl, rfl, rfl, Nat.le_refl _, fun _ _ _ => rfl⟩, fun b hb => by simp [vblk] at hb, ⟨by omega, .inl ⟨rfl, rfl, rfl⟩⟩⟩
      have f2 := hfc w (Ext.refl w)
      simp [Builtin.append_, run_underlying ht, run_underlying h2, sizeOf, typeInfo, hi, hm, f2]
    · exact grow 0 none rfl (by omega) (fun w' _ => by simp [Builtin.firstCells])
  · have had := h00 rfl
    subst had
    simp only [Nat.sub_zero] at hv ⊢
    rcases own.2.2 with ⟨e, _⟩ | ⟨g', cap', cur, fz, e, hg, hfz, _, hcm, hcs, htake⟩
    · simp at e
    · simp at e
      obtain ⟨rfl, rfl⟩ := e
      by_cases hroom : len + m ≤ cap
      · have hfit : len * i.size + 0 + news.length ≤ cur.size := by rw [hl, hcs, Nat.add_zero, ← Nat.add_mul]; exact Nat.mul_le_mul_right _ hroom
        obtain ⟨w', e1, e2, e3, e4⟩ := run_stores (P := P) news (len * i.size) 0 cur w hg hfz hfit h1
        refine ⟨.slice (some ⟨g, 0, none⟩) (len + m) cap, w', ?_, ⟨hlen, hone, .inr ⟨g, cap, _, fz, rfl, e2, ?_, hroom, hcm, ?_, ?_⟩⟩, ⟨e3.os, e3.tape, e3.output, e3.size, fun k hk hne => e3.block k hk (by simpa [vblk] using hne)⟩, fun b hb => ?_, ⟨by omega, .inr ⟨g, cap, rfl, hroom, _, rfl, fun _ => by simp, fun _ => rfl⟩⟩⟩
        · have f2 := hfc w (Ext.refl w)
          simp [Builtin.append_, run_underlying ht, run_underlying h2, sizeOf, typeInfo, hi, hm, hroom, f2, add_lit, e1]
        · rcases hfz with h | h
          · exact .inl h
          · right; simp; rw [hl] at hfit ⊢; simp at hfit; omega
        · simp; rw [hl] at hfit ⊢; simp at hfit; omega
        · simp only [Nat.add_zero]
          rw [show cur.toList.take (len * i.size) = cs.take (len * i.size) by
            rw [← htake, List.take_take, Nat.min_eq_left (Nat.mul_le_mul_right _ hle)]]
          rw [← hlen]
          exact List.take_left
        · simp [vblk] at hb
          subst hb
          exact ⟨.inl rfl, by rw [e4]; exact (Array.getElem?_eq_some_iff.1 hg).1⟩
      · simp only [Nat.sub_zero] at grow
        refine grow cap (some ⟨g, 0, none⟩) rfl (by omega) (fun w' hw => ?_)
        refine run_firstCells_some (P := P) (w := w') i.size len ⟨g, 0, none⟩ len cap (cs.take (len * i.size)) hcl (fun j u hu => ?_)
        rw [add_lit, Nat.zero_add]
        have : cs[j]? = some u := by
          rw [List.getElem?_take] at hu
          split at hu
          · exact hu
          · simp at hu
        exact hw.cell (ownRow_cell own rfl this)
end Go.Av
namespace Go.Av
open Go.RowKit
set_option linter.unusedVariables false

def AV.one : AV → Bool
  | .dead | .agg _ | .tup _ => false
  | .sc v => v.oneCell'
  | _ => true
theorem R.one {w : World} {φ : Nat → Value} {H : List AO} {x : AV} {v : Value} (r : R w φ H x v) (h : x.one = true) : v.oneCell' = true := by
  cases r <;> first | rfl | assumption | (simp [AV.one] at h; done) | (simpa [AV.one] using h)
/-- what it gives on single cells -/
theorem R.cells {w : World} {φ : Nat → Value} {H : List AO} {x : AV} {v : Value} (r : R w φ H x v) (h : x.cells.all AV.one = true) :
    v.cells.size = x.cells.length ∧ ∀ (i : Nat) (c : AV) (u : Value), x.cells[i]? = some c → v.cells[i]? = some u → R w φ H c u ∧ u.oneCell' = true := by
  cases x
  case agg xs =>
    cases r with
    | agg _ us hs hr =>
      refine ⟨hs, fun i c u hi hu => ?_⟩
      have h1 := hr i c u hi hu
      exact ⟨h1, h1.one (List.all_eq_true.1 h c (List.mem_of_getElem? hi))⟩
  all_goals
    have h1 := r.one (by simpa [AV.cells] using h)
    have e : v.cells = #[v] := by cases v <;> first | rfl | (simp [Value.oneCell'] at h1)
    rw [e]
    refine ⟨rfl, fun i c u hi hu => ?_⟩
    match i, hi, hu with
    | 0, hi, hu => simp [AV.cells] at hi hu; subst hi hu; exact ⟨r, h1⟩
    | i + 1, hi, hu => simp at hu

def zeroA (P : Program) (T : TypeId) : Option (List AV) := ((P.info? T).bind (·.zero)).map fun z => z.cells.toList.map constA
/-- element type, its cells, its bytes: of a slice type -/
def tyS (P : Program) (t : TypeId) : Option (TypeId × Nat × Nat) := match elT P t with
  | some E => (match P.info? E with
    | some i => (match i.zero with
      | some z => if z.cells.size = i.size ∧ 0 < i.size then some (E, i.size, i.bytes) else none
      | none => none)
    | none => none)
  | none => none
theorem tyS_spec {P : Program} {t E : TypeId} {s b : Nat} (h : tyS P t = some (E, s, b)) : P.underlying t = some (.slice E) ∧ szT P E = some s ∧ 0 < s ∧ ∃ z, TyI P E s b z := by
  unfold tyS at h
  split at h
  · rename_i E' hE
    split at h
    · rename_i i hi
      split at h
      · rename_i z hz
        split at h
        · rename_i hc
          simp at h
          obtain ⟨rfl, rfl, rfl⟩ := h
          exact ⟨und_of_elT hE, by simp [szT, hi], hc.2, z, ⟨i, hi, rfl, rfl, hz⟩, hc.1, hc.2⟩
        · simp at h
      · simp at h
    · simp at h
  · simp at h

def splice (cs : List AV) (off : Nat) (ys : List AV) : List AV := cs.take off ++ ys ++ cs.drop (off + ys.length)
def putEl (e : AV) (off : Nat) (x : AV) : AV := match e with
  | .agg cs => (match x with
    | .agg ys => .agg (splice cs off ys)
    | x => .agg (splice cs off [x]))
  | _ => x
def elsOK (s : Nat) (xs : List AV) : Prop := ∀ x ∈ xs, x.closed = true ∧ x.cells.length = s ∧ x.cells.all AV.one = true

/-- append of ys to nil -/
def appN (E : TypeId) (s : Nat) (H : List AO) (ys : List AV) (K : AV → List AO → Prop) : Prop :=
  K (.own H.length 0 0 ys.length) (H ++ [.slice 0 E s ys])
def appV (P : Program) (t t2 : TypeId) (H : List AO) (x y : AV) (K : AV → List AO → Prop) : Prop :=
  match tyS P t with
  | some (E, s, b) => (match x with
    | .own id ver 0 len => (match H[id]? with
      | some (.slice v E' s' xs) => v = ver ∧ E' = E ∧ s' = s ∧ (match y with
        | .str bs => isStr P t2 = true ∧ s = 1 ∧ (len + bs.length) * b ≤ 140737488355328 ∧ len + bs.length ≤ 9223372036854775807 ∧
            K (.own id (ver + 1) 0 (len + bs.length)) (H.set id (.slice (ver + 1) E s (xs.take len ++ bs.map encB)))
        | y => t2 = t ∧ elemsV H y fun sy ys => sy = s ∧ (len + ys.length) * b ≤ 140737488355328 ∧ len + ys.length ≤ 9223372036854775807 ∧
            K (.own id (ver + 1) 0 (len + ys.length)) (H.set id (.slice (ver + 1) E s (xs.take len ++ ys))))
      | _ => False)
    | .sc (.slice none 0 0) => (match y with
      | .str bs => isStr P t2 = true ∧ s = 1 ∧ bs.length * b ≤ 140737488355328 ∧ bs.length ≤ 9223372036854775807 ∧ appN E s H (bs.map encB) K
      | y => t2 = t ∧ elemsV H y fun sy ys => sy = s ∧ ys.length * b ≤ 140737488355328 ∧ ys.length ≤ 9223372036854775807 ∧ appN E s H ys K)
    | _ => False)
  | none => False
def appK (P : Program) (t t2 : TypeId) (H : List AO) (x y : AV) [K : Ko (AV → List AO → Prop)] : Prop := appV P t t2 H x y K.k
def ptrE (P : Program) (t : TypeId) : Option TypeId := match P.underlying t with
  | some (.pointer e) => some e
  | _ => none
/-- unsafe.String over the own bytes that a pointer begins: they are an object no more -/
def usV (P : Program) (pt : TypeId) (H : List AO) (p n : AV) (K : AV → List AO → Prop) : Prop := match p, n with
  | .sc (.pointer none), .int .i64 n => n = 0 ∧ K (.str []) H
  | .optr id ver 0 0, .int .i64 n => (match H[id]? with
    | some (.slice v E 1 xs) => v = ver ∧ ptrE P pt = some E ∧ szT P E = some 1 ∧ 0 < n ∧ n.toNat ≤ xs.length ∧ @BytesK (xs.take n.toNat) ⟨fun s => K s (H.set id .gone)⟩
    | _ => False)
  | _, _ => False
def stoV (P : Program) (T : TypeId) (H : List AO) (p x : AV) (K : AV → List AO → Prop) : Prop :=
  szT P T = some x.cells.length ∧ x.cells.all AV.one = true ∧ (match p with
  | .bptr id off => (match H[id]? with
    | some (.box T' cs) => off + x.cells.length ≤ cs.length ∧ K .dead (H.set id (.box T' (splice cs off x.cells)))
    | _ => False)
  | .optr id ver i off => (match H[id]? with
    | some (.slice v E s xs) => v = ver ∧ x.closed = true ∧ 0 < x.cells.length ∧ @GetK xs i ⟨fun e => off + x.cells.length ≤ s ∧ K .dead (H.set id (.slice v E s (xs.set i (putEl e off x))))⟩
    | _ => False)
  | _ => False)

def elsB (s : Nat) (xs : List AV) : Bool := xs.all fun x => x.closed && (x.cells.length == s && x.cells.all AV.one)
def fillA (place : Nat → Option (Nat × Nat)) (cs : List AV) : List (Nat × AV) → Option (List AV)
  | [] => some cs
  | (i, x) :: rest => match place i with
    | none => none
    | some (off, size) => if x.cells.length = size ∧ off + size ≤ cs.length ∧ x.cells.all AV.one = true then fillA place (splice cs off x.cells) rest else none
def placeA (P : Program) (T : TypeId) (i : Nat) : Option (Nat × Nat) := match fldI P T i with
  | some (off, ft) => (szT P ft).map fun s => (off, s)
  | none => none
def isStruct (P : Program) (T : TypeId) : Bool := match P.underlying T with
  | some (.struct fs) => fs.toList.all fun f => (szT P f.type).isSome
  | _ => false

/-- an array's elements have so many cells -/
def arrE (P : Program) (T : TypeId) : Option Nat := match P.underlying T with
  | some (.array _ e) => szT P e
  | _ => none

/-- a string's character at a place, and how many bytes it has -/
def decR (s : List UInt8) (p : Nat) : Nat × Nat := Utf8.decode ⟨s.toArray⟩ p
def MkK (n : Int) (b : Nat) [K : Ko Prop] : Prop := 0 ≤ n ∧ n.toNat * b ≤ 140737488355328 ∧ n.toNat ≤ 1099511627776 ∧ K.k
def nextV (H : List AO) (x : AV) (K : AV → List AO → Prop) : Prop := match x with
  | .bptr id 0 => (match H[id]? with
    | some (.iter s p) => @guardK (decide (p < s.length)) true ⟨K (.tup [.bool true, .int .i64 p, .int .i32 (decR s p).1]) (H.set id (.iter s (p + (decR s p).2)))⟩ ⟨K (.tup [.bool false]) H⟩
    | _ => False)
  | _ => False
/-- a struct or an array of its parts -/
def buildV (P : Program) (T : TypeId) (parts : List (Nat × AV)) (K : AV → Prop) : Prop := match arrE P T with
  | some s => (match zeroA P T with
    | some zs => zs.all AV.one = true ∧ (match fillA (fun i => some (i * s, s)) zs parts with
      | some cs => K (.agg cs)
      | none => False)
    | none => False)
  | none => isStruct P T = true ∧ (match zeroA P T with
    | some zs => zs.all AV.one = true ∧ (match fillA (placeA P T) zs parts with
      | some cs => K (.agg cs)
      | none => False)
    | none => False)
def eOp (P : Program) (op : Op) (ty : TypeId) (env : Env) (H : List AO) (K : AV → List AO → Prop) : Prop := match op with
  | .assign (.const (.slice none 0 0)) => (match tyS P ty with
    | some (E, s, _) => K (.own H.length 0 0 0) (H ++ [.slice 0 E s []])
    | none => False)
  | .box T x => (evO env x).cells.all AV.one = true ∧ K (.bptr H.length 0) (H ++ [.box T (evO env x).cells])
  | .alloc T => (match zeroA P T with
    | some zs => zs.all AV.one = true ∧ K (.bptr H.length 0) (H ++ [.box T zs])
    | none => False)
  | .store T p x => stoV P T H (evO env p) (evO env x) K
  | .makeSlice T l c => (match tyS P T, evO env l, evO env c with
    | some (E, 1, b), .int _ n, .int _ m => n = m ∧ (match zeroA P E with
      | some [z] => z.one = true ∧ z.closed = true ∧ z.cells.length = 1 ∧ @MkK n b ⟨K (.own H.length 0 0 n.toNat) (H ++ [.slice 0 E 1 (List.replicate n.toNat z)])⟩
      | _ => False)
    | _, _, _ => False)
  | .range T x => (match evO env x with
    | .str s => isStr P T = true ∧ K (.bptr H.length 0) (H ++ [.iter s 0])
    | _ => False)
  | .next it true => nextV H (evO env it) K
  | .buildSlice T len parts => (match tyS P T with
    | some (E, s, _) => parts.toList.map (·.1) = List.range len ∧ len * s ≤ 16777216 ∧ elsB s (parts.toList.map fun p => evO env p.2) = true ∧
        K (.own H.length 0 0 len) (H ++ [.slice 0 E s (parts.toList.map fun p => evO env p.2)])
    | none => False)
  | .call { callee := .builtin .append, args, argTypes } => (match args.toList, argTypes.toList with
    | [x, y], [t, t2] => @appK P t t2 H (evO env x) (evO env y) ⟨K⟩
    | _, _ => False)
  | .call { callee := .builtin .unsafeString, args, argTypes } => (match args.toList, argTypes.toList with
    | [p, n], [pt, _] => usV P pt H (evO env p) (evO env n) K
    | _, _ => False)
  | .convert src dst x => (match evO env x with
    | .str s => hasT P src = true ∧ tyS P dst = some ((elT P dst).getD 0, 1, 1) ∧ ikT P ((elT P dst).getD 0) = some .u8 ∧
        @Chk (s.length ≤ 9223372036854775807) ⟨K (.own H.length 0 0 s.length) (H ++ [.slice 0 ((elT P dst).getD 0) 1 (s.map encB)])⟩
    | .own id ver off len => (match H[id]? with
      | some (.slice v E s (y :: ys)) => v = ver ∧ s = 1 ∧ off = 0 ∧ src = dst ∧ tyS P dst = some ((elT P dst).getD 0, 1, 1) ∧ ikT P ((elT P dst).getD 0) = some .u8 ∧ K (.own id ver off len) (H.set id (.slice v E s (y :: ys)))
      | _ => False)
    | _ => False)
  | _ => False

section
variable {P : Program} {B : Nat} {X : Nat → Prop} {w0 w : World} {φ : Nat → Value} {H : List AO} {K : AV → List AO → Prop}

theorem setAll (off : Nat) : ∀ (us : List Value) (j0 : Nat) (cells : Array Value), off + j0 + us.length ≤ cells.size →
    ((us.zipIdx j0).foldl (fun cs (x : Value × Nat) => cs.setIfInBounds (off + x.2) x.1) cells).size = cells.size ∧
    (∀ p, (p < off + j0 ∨ off + j0 + us.length ≤ p) → ((us.zipIdx j0).foldl (fun cs (x : Value × Nat) => cs.setIfInBounds (off + x.2) x.1) cells)[p]? = cells[p]?) ∧
    ∀ j, j < us.length → ((us.zipIdx j0).foldl (fun cs (x : Value × Nat) => cs.setIfInBounds (off + x.2) x.1) cells)[off + j0 + j]? = us[j]?
  | [], j0, cells, h => ⟨rfl, fun p _ => rfl, fun j hj => by simp at hj⟩
  | u :: us, j0, cells, h => by
    simp only [List.length_cons] at h
    obtain ⟨h1, h2, h3⟩ := setAll off us (j0 + 1) (cells.setIfInBounds (off + j0) u) (by simp; omega)
    simp only [List.zipIdx_cons, List.foldl_cons]
    refine ⟨by rw [h1]; simp, fun p hp => ?_, fun j hj => ?_⟩
    · simp only [List.length_cons] at hp
      rw [h2 p (by omega), Array.getElem?_setIfInBounds_ne (by omega)]
    · rcases j with _ | j
      · rw [h2 _ (by omega), Nat.add_zero, Array.getElem?_setIfInBounds_self_of_lt (by omega)]
        simp
      · have := h3 j (by simp at hj; omega)
        rw [show off + j0 + (j + 1) = off + (j0 + 1) + j by omega]
        simpa using this

theorem fill_row (s : Nat) : ∀ (l : List (Nat × Value)) (k : Nat) (cells : Array Value), (∀ (q : Nat) (x : Nat × Value), l[q]? = some x → x.1 = k + q ∧ x.2.cells.size = s) → (k + l.length) * s ≤ cells.size →
    ∃ out, Instr.fill (fun i => some (i * s, s)) cells l = some out ∧ out.size = cells.size ∧ (∀ p, p < k * s → out[p]? = cells[p]?) ∧
      ∀ (q : Nat) (x : Nat × Value) (j : Nat), l[q]? = some x → j < s → out[(k + q) * s + j]? = x.2.cells[j]?
  | [], k, cells, _, _ => ⟨cells, rfl, rfl, fun p _ => rfl, fun q x j h => by simp at h⟩
  | (i, v) :: l, k, cells, hl, hsz => by
    obtain ⟨hik, hv⟩ := hl 0 (i, v) rfl
    simp only [Nat.add_zero] at hik hv
    have hik' : k = i := hik.symm
    clear hik
    subst hik'
    simp only [List.length_cons] at hsz
    have hk1 : (k + 1) * s ≤ (k + (l.length + 1)) * s := Nat.mul_le_mul_right _ (by omega)
    rw [Nat.add_mul, Nat.one_mul] at hk1
    have hS := setAll (k * s) v.cells.toList 0 cells (by simp [hv]; omega)
    simp only [Nat.add_zero, Array.length_toList, hv] at hS
    obtain ⟨s1, s2, s3⟩ := hS
    obtain ⟨out, o1, o2, o3, o4⟩ := fill_row s l (k + 1) _ (fun q x hx => by
      have := hl (q + 1) x (by simpa using hx)
      exact ⟨by omega, this.2⟩) (by rw [s1, show k + 1 + l.length = k + (l.length + 1) by omega]; exact hsz)
    have hcond : ¬ (v.cells.size ≠ s ∨ k * s + v.cells.size > cells.size) := by rw [hv]; omega
    refine ⟨out, ?_, by rw [o2, s1], fun p hp => ?_, fun q x j hx hj => ?_⟩
    · simp only [Instr.fill]
      rw [if_neg (by simp [hv]; omega), ← Array.foldl_toList, Array.toList_zipIdx]
      exact o1
    · rw [o3 p (by rw [Nat.add_mul]; omega), s2 p (by omega)]
    · rcases q with _ | q
      · simp at hx
        subst hx
        rw [Nat.add_zero, o3 _ (by rw [Nat.add_mul]; omega), s3 j hj]
        simp
      · have := o4 q x j (by simpa using hx) hj
        rw [show k + (q + 1) = k + 1 + q by omega]
        exact this
/-- a run that leaves a state of ours -/
def Eff (P : Program) (B : Nat) (X : Nat → Prop) (w0 w : World) (φ : Nat → Value) (H : List AO) (K : AV → List AO → Prop) (s : Sem Next) : Prop :=
  ∃ x H' φ' v nx w', K x H' ∧ s.run P w = .ok nx w' ∧ (nx = .value v ∨ nx = .skip ∧ v = undef) ∧ St B X w0 w' φ' H' ∧ Le w φ H w' φ' H' ∧ R w' φ' H' x v

theorem one_getElem {us : Array Value} {n : Nat} (h : us.size = n) {i : Nat} (hi : i < n) : ∃ u, us[i]? = some u := ⟨_, Array.getElem?_eq_getElem (by omega)⟩

/-- a new box -/
theorem new_box (st : St B X w0 w φ H) (T : TypeId) (cs : List AV) (us : Array Value) (hs : us.size = cs.length) (hr : ∀ (i : Nat) (c : AV) (u : Value), cs[i]? = some c → us[i]? = some u → R w φ H c u ∧ u.oneCell' = true) :
    ∃ φ', St B X w0 (w.alloc (.cells us T)) φ' (H ++ [.box T cs]) ∧ Le w φ H (w.alloc (.cells us T)) φ' (H ++ [.box T cs]) ∧ R (w.alloc (.cells us T)) φ' (H ++ [.box T cs]) (.bptr H.length 0) (.pointer (some ⟨w.heap.size, 0, none⟩)) := by
  have hb : ∀ b, vblk (.pointer (some ⟨w.heap.size, 0, none⟩)) = some b → w.heap.size ≤ b ∧ b < (w.alloc (.cells us T)).heap.size := fun b h => by simp [vblk] at h; subst h; simp
  have le := Le_new (φ := φ) (H := H) (Gr.alloc w (.cells us T)) (.pointer (some ⟨w.heap.size, 0, none⟩)) (.box T cs) (fun b h => (hb b h).1)
  refine ⟨_, st.new (Gr.alloc w _) _ (.box T cs) hb ⟨w.heap.size, us, updφ_same _ _ _, heap_alloc_new w _, hs, fun i c u hc hu => ⟨(hr i c u hc hu).1.le le, (hr i c u hc hu).2⟩⟩, le, ?_⟩
  refine .bptr _ _ _ (by simp) rfl fun o h hp => ⟨_, updφ_same _ _ _, rfl⟩

/-- a new row -/
theorem new_row (st : St B X w0 w φ H) {w' : World} (g : Gr w w') (E : TypeId) (s : Nat) (hs0 : 0 < s) (xs : List AV) (v : Value) (cs : List Value) (hown : OwnRow w' E s v xs.length cs) (hb : ∀ b, vblk v = some b → w.heap.size ≤ b ∧ b < w'.heap.size)
    (hel : ∀ (i : Nat) (x : AV), xs[i]? = some x → x.closed = true ∧ x.cells.length = s) (hr : ∀ (i : Nat) (x : AV) (j : Nat) (c : AV) (u : Value), xs[i]? = some x → x.cells[j]? = some c → cs[i * s + j]? = some u → R w φ H c u)
    (hfull : OwnV v s xs.length 0 xs.length v) :
    ∃ φ', St B X w0 w' φ' (H ++ [.slice 0 E s xs]) ∧ Le w φ H w' φ' (H ++ [.slice 0 E s xs]) ∧ R w' φ' (H ++ [.slice 0 E s xs]) (.own H.length 0 0 xs.length) v := by
  have le := Le_new (φ := φ) (H := H) g v (.slice 0 E s xs) (fun b h => (hb b h).1)
  refine ⟨_, st.new g v (.slice 0 E s xs) hb ⟨cs, by rw [updφ_same]; exact hown, hs0, hel, fun i x j c u hx hj hu => (hr i x j c u hx hj hu).le le⟩, le, ?_⟩
  have hone : v.oneCell' = true := by
    rcases hfull.2 with ⟨rfl, _⟩ | ⟨g, cap, rfl, _⟩ <;> rfl
  refine .own _ _ _ _ _ (by simp) hone (fun _ _ _ _ _ => Nat.zero_le _) fun E' s' xs' h => ?_
  rw [List.getElem?_append_right (Nat.le_refl _)] at h
  simp at h
  obtain ⟨rfl, rfl, rfl⟩ := h
  rw [updφ_same]
  exact hfull

theorem splice_get {cs ys : List AV} {off i : Nat} {c : AV} (hle : off + ys.length ≤ cs.length) (h : (splice cs off ys)[i]? = some c) :
    (off ≤ i ∧ i < off + ys.length ∧ ys[i - off]? = some c) ∨ ((i < off ∨ off + ys.length ≤ i) ∧ cs[i]? = some c) := by
  unfold splice at h
  have l1 : (cs.take off).length = off := by rw [List.length_take]; omega
  rw [List.append_assoc] at h
  rcases Nat.lt_or_ge i off with hlt | hge
  · rw [List.getElem?_append_left (by omega), List.getElem?_take, if_pos hlt] at h
    exact .inr ⟨.inl hlt, h⟩
  · rw [List.getElem?_append_right (by omega), l1] at h
    rcases Nat.lt_or_ge (i - off) ys.length with hlt | hge2
    · rw [List.getElem?_append_left hlt] at h
      exact .inl ⟨hge, by omega, h⟩
    · rw [List.getElem?_append_right hge2, List.getElem?_drop] at h
      rw [show off + ys.length + (i - off - ys.length) = i by omega] at h
      exact .inr ⟨.inr (by omega), h⟩
theorem splice_length {cs ys : List AV} {off : Nat} (hle : off + ys.length ≤ cs.length) : (splice cs off ys).length = cs.length := by simp [splice]; omega

theorem closedL_iff : ∀ (xs : List AV), AV.closedL xs = true ↔ ∀ x ∈ xs, x.closed = true
  | [] => by simp [AV.closedL]
  | x :: r => by simp [AV.closedL, closedL_iff r]
theorem putEl_cells {e x : AV} {off : Nat} (hle : off + x.cells.length ≤ e.cells.length) (h0 : 0 < x.cells.length) : (putEl e off x).cells = splice e.cells off x.cells := by
  cases e
  case agg es => cases x <;> rfl
  all_goals
    have hle1 : off + x.cells.length ≤ 1 := hle
    have h1 : x.cells.length = 1 := by omega
    have h2 : off = 0 := by omega
    subst h2
    have h3 : ∃ c, x.cells = [c] := List.length_eq_one_iff.1 h1
    obtain ⟨c, hc⟩ := h3
    simp only [putEl, AV.cells, splice]
    cases x <;> simp_all [AV.cells]
theorem putEl_closed {e x : AV} {off : Nat} (he : e.closed = true) (hx : x.closed = true) : (putEl e off x).closed = true := by
  have hc : ∀ c ∈ x.cells, c.closed = true := fun c hc => by
    obtain ⟨j, hj⟩ := List.mem_iff_getElem?.1 hc
    exact AV.closed_cells hx hj
  cases e
  case agg es =>
    have h1 : ∀ y ∈ es, y.closed = true := (closedL_iff es).1 (by simpa [AV.closed] using he)
    have key : ∀ ys : List AV, (∀ c ∈ ys, c.closed = true) → (AV.agg (splice es off ys)).closed = true := fun ys hy => by
      simp only [AV.closed]
      refine (closedL_iff _).2 fun y hy' => ?_
      simp only [splice, List.mem_append] at hy'
      rcases hy' with (h | h) | h
      · exact h1 y (List.mem_of_mem_take h)
      · exact hy y h
      · exact h1 y (List.mem_of_mem_drop h)
    cases x
    case agg ys => exact key ys hc
    all_goals exact key _ (by simpa using hx)
  all_goals exact hx

theorem sto_sound (st : St B X w0 w φ H) {T : TypeId} {p x : AV} {v vx : Value} (rp : R w φ H p v) (rx : R w φ H x vx) (h : stoV P T H p x K) :
    ∃ x' H' φ' w', K x' H' ∧ (Instr.storeAt T v vx).run P w = .ok () w' ∧ St B X w0 w' φ' H' ∧ Le w φ H w' φ' H' ∧ x' = .dead := by
  obtain ⟨hsz, hone, h⟩ := h
  obtain ⟨hvs, hvr⟩ := rx.cells hone
  have hvone : ∀ u ∈ vx.cells.toList, u.oneCell' = true := fun u hu => by
    obtain ⟨j, hj⟩ := List.mem_iff_getElem?.1 hu
    have hj' : vx.cells[j]? = some u := by simpa using hj
    have hlt : j < x.cells.length := by rw [← hvs]; exact (Array.getElem?_eq_some_iff.1 hj').1
    exact (hvr j _ u (List.getElem?_eq_getElem hlt) hj').2
  have hvl : vx.cells.toList.length = x.cells.length := by simpa using hvs
  cases p <;> (try exact h.elim)
  case bptr id off =>
    rcases hH : H[id]? with _ | o
    · simp [hH] at h
    cases o with
    | slice _ _ _ _ => simp [hH] at h
    | iter _ _ => simp [hH] at h
    | gone => simp [hH] at h
    | box T' cs =>
      simp only [hH] at h
      obtain ⟨hle, hk⟩ := h
      cases rp with
      | bptr _ _ _ hid _ hh =>
        obtain ⟨g, e1, rfl⟩ := hh _ hH rfl
        obtain ⟨g', arr, c1, c2, c3, c4⟩ := st.chunk id _ hH
        rw [e1] at c1
        simp at c1
        subst c1
        obtain ⟨w', r1, r2, r3, r4⟩ := run_stores (P := P) vx.cells.toList off 0 arr w c2 (.inl rfl) (by rw [hvl, c3]; exact hle) hvone
        have hid' : id < H.length := hid
        have hblk : ∀ k, k < w.heap.size → vblk (φ id) ≠ some k → w'.heap[k]? = w.heap[k]? := fun k hk hne => r3.block k hk (by rw [e1] at hne; simpa [vblk] using hne)
        have hb : ∀ b, vblk (φ id) = some b → (vblk (φ id) = some b ∨ w.heap.size ≤ b) ∧ b < w'.heap.size := fun b hv => ⟨.inl hv, by rw [r4]; exact (st.live id _ b hH rfl hv).2⟩
        have le := Le_upd (w' := w') st hH rfl r3.size hblk (φ id) (fun b hv => (hb b hv).1) (o' := .box T' (splice cs off x.cells)) ⟨rfl, rfl⟩
        refine ⟨_, _, updφ φ id (φ id), w', hk, ?_, st.upd hH rfl r3.os r3.tape r3.output r3.size hblk (φ id) hb ⟨rfl, rfl⟩ ⟨g, _, by rw [updφ_same]; exact e1, r2, ?_, fun i c u hc hu => ?_⟩, le, rfl⟩
        · simp only [Instr.storeAt, Instr.sureAddr, storeVar, Sem.run_bind, Sem.run_pure, Result.andThen_ok, run_sizeOf' hsz, hvs, ne_eq, not_true_eq_false, if_false]
          exact r1
        · rw [splice_length hle]
          simp
          simp at hvl
          omega
        · simp only [Nat.add_zero, List.getElem?_toArray] at hu
          have l1 : (arr.toList.take off).length = off := by rw [List.length_take]; simp; omega
          rw [List.append_assoc] at hu
          rcases splice_get hle hc with ⟨h1, h2, h3⟩ | ⟨h1, h3⟩
          · rw [List.getElem?_append_right (by omega), l1, List.getElem?_append_left (by omega)] at hu
            have := hvr _ c u h3 (by simpa using hu)
            exact ⟨this.1.le le, this.2⟩
          · have hu' : arr[i]? = some u := by
              rcases h1 with h1 | h1
              · rw [List.getElem?_append_left (by omega), List.getElem?_take, if_pos h1] at hu
                simpa using hu
              · rw [List.getElem?_append_right (by omega), l1, List.getElem?_append_right (by omega), List.getElem?_drop] at hu
                rw [show off + vx.cells.toList.length + (i - off - vx.cells.toList.length) = i by omega] at hu
                simpa using hu
            have := c4 i c u h3 hu'
            exact ⟨this.1.le le, this.2⟩
  case optr id ver i off =>
    rcases hH : H[id]? with _ | o
    · simp [hH] at h
    cases o with
    | box _ _ => simp [hH] at h
    | iter _ _ => simp [hH] at h
    | gone => simp [hH] at h
    | slice ver' E s xs =>
      simp only [hH] at h
      obtain ⟨rfl, hxc, hx0, e, he, hle, hk⟩ := h
      cases rp with
      | optr _ _ _ _ _ hid _ _ hh =>
        obtain ⟨g, n, cap, e1, rfl⟩ := hh E s xs hH
        obtain ⟨cs, c1, c2, c3, c4⟩ := st.chunk id _ hH
        have hilt : i < xs.length := (List.getElem?_eq_some_iff.1 he).1
        obtain ⟨hec, hes⟩ := c3 i e he
        obtain ⟨cl, cone, crow⟩ := c1
        rcases crow with ⟨e2, _⟩ | ⟨g', cap', cur, fz, e2, hg, hfz, hnc, hcm, hcs, htake⟩
        · rw [e1] at e2; simp at e2
        rw [e1] at e2
        simp at e2
        obtain ⟨rfl, rfl, rfl⟩ := e2
        have hmul : (i + 1) * s ≤ xs.length * s := Nat.mul_le_mul_right _ hilt
        have hmul2 : xs.length * s ≤ cap * s := Nat.mul_le_mul_right _ hnc
        rw [Nat.add_mul, Nat.one_mul] at hmul
        obtain ⟨w', r1, r2, r3, r4⟩ := run_stores (P := P) vx.cells.toList (i * s + off) 0 cur w hg hfz (by rw [hvl, hcs]; omega) hvone
        have hblk : ∀ k, k < w.heap.size → vblk (φ id) ≠ some k → w'.heap[k]? = w.heap[k]? := fun k hk hne => r3.block k hk (by rw [e1] at hne; simpa [vblk] using hne)
        have hb : ∀ b, vblk (φ id) = some b → (vblk (φ id) = some b ∨ w.heap.size ≤ b) ∧ b < w'.heap.size := fun b hv => ⟨.inl hv, by rw [r4]; exact (st.live id _ b hH rfl hv).2⟩
        have hlo : LeO (.slice ver' E s xs) (.slice ver' E s (xs.set i (putEl e off x))) (φ id) (φ id) := .inr ⟨rfl, rfl, rfl, by simp, rfl⟩
        have le := Le_upd (w' := w') st hH rfl r3.size hblk (φ id) (fun b hv => (hb b hv).1) hlo
        have hpc : (putEl e off x).cells = splice e.cells off x.cells := putEl_cells (by rw [hes]; exact hle) hx0
        have hpl : (putEl e off x).cells.length = s := by rw [hpc, splice_length (by rw [hes]; exact hle), hes]
        -- the new cells of the row
        have hnew : ∀ k u, ((cur.toList.take (i * s + off + 0) ++ vx.cells.toList ++ cur.toList.drop (i * s + off + 0 + vx.cells.toList.length)).take (xs.length * s))[k]? = some u →
            (i * s + off ≤ k ∧ k < i * s + off + x.cells.length ∧ vx.cells[k - (i * s + off)]? = some u) ∨ ((k < i * s + off ∨ i * s + off + x.cells.length ≤ k) ∧ cs[k]? = some u) := fun k u hu => by
          rw [List.getElem?_take] at hu
          split at hu
          · rename_i hklt
            simp only [Nat.add_zero] at hu
            have l1 : (cur.toList.take (i * s + off)).length = i * s + off := by rw [List.length_take]; simp; omega
            rw [List.append_assoc] at hu
            rcases Nat.lt_or_ge k (i * s + off) with h1 | h1
            · rw [List.getElem?_append_left (by omega), List.getElem?_take, if_pos h1] at hu
              exact .inr ⟨.inl h1, by rw [← htake, List.getElem?_take, if_pos hklt]; exact hu⟩
            · rw [List.getElem?_append_right (by omega), l1] at hu
              rcases Nat.lt_or_ge k (i * s + off + x.cells.length) with h2 | h2
              · rw [List.getElem?_append_left (by omega)] at hu
                exact .inl ⟨h1, h2, by simpa using hu⟩
              · rw [List.getElem?_append_right (by omega), List.getElem?_drop] at hu
                rw [show i * s + off + vx.cells.toList.length + (k - (i * s + off) - vx.cells.toList.length) = k by omega] at hu
                exact .inr ⟨.inr h2, by rw [← htake, List.getElem?_take, if_pos hklt]; exact hu⟩
          · simp at hu
        refine ⟨_, _, updφ φ id (φ id), w', hk, ?_, st.upd hH rfl r3.os r3.tape r3.output r3.size hblk (φ id) hb hlo
          ⟨_, ⟨?_, ?_, .inr ⟨g, cap, _, fz, by rw [updφ_same, e1, List.length_set], r2, ?_, by rw [List.length_set]; exact hnc, hcm, ?_, rfl⟩⟩, c2, fun j y hj => ?_, fun j y q c u hj hq hu => ?_⟩, le, rfl⟩
        · simp only [Instr.storeAt, Instr.sureAddr, storeVar, Sem.run_bind, Sem.run_pure, Result.andThen_ok, run_sizeOf' hsz, hvs, ne_eq, not_true_eq_false, if_false]
          exact r1
        · simp only [List.length_set]
          rw [List.length_take]
          simp
          simp at hvl
          omega
        · intro u hu
          simp only [List.length_set] at hu
          obtain ⟨k, hk'⟩ := List.mem_iff_getElem?.1 hu
          rcases hnew k u hk' with ⟨_, _, h3⟩ | ⟨_, h3⟩
          · exact hvone u (List.mem_of_getElem? (by simpa using h3))
          · exact cone u (List.mem_of_getElem? h3)
        · rcases hfz with h | h
          · exact .inl h
          · right; simp; simp at hvl; omega
        · simp; simp at hvl; omega
        · by_cases hji : j = i
          · subst hji
            rw [List.getElem?_set_self hilt] at hj
            simp at hj
            subst hj
            exact ⟨putEl_closed hec hxc, hpl⟩
          · rw [List.getElem?_set_ne (Ne.symm hji)] at hj
            exact c3 j y hj
        · simp only [List.length_set] at hu
          by_cases hji : j = i
          · subst hji
            rw [List.getElem?_set_self hilt] at hj
            simp at hj
            subst hj
            rw [hpc] at hq
            rcases splice_get (by rw [hes]; exact hle) hq with ⟨h1, h2, h3⟩ | ⟨h1, h3⟩
            · rcases hnew _ u hu with ⟨_, _, h6⟩ | ⟨h5, _⟩
              · rw [show j * s + q - (j * s + off) = q - off by omega] at h6
                exact (hvr _ c u h3 h6).1.le le
              · omega
            · rcases hnew _ u hu with ⟨h4, h5, _⟩ | ⟨_, h6⟩
              · omega
              · exact (c4 j e q c u he h3 h6).le le
          · rw [List.getElem?_set_ne (Ne.symm hji)] at hj
            have hqs : q < s := by rw [← (c3 j y hj).2]; exact (List.getElem?_eq_some_iff.1 hq).1
            rcases hnew _ u hu with ⟨h4, h5, _⟩ | ⟨_, h6⟩
            · exfalso
              rcases Nat.lt_or_gt_of_ne hji with hlt | hgt
              · have : (j + 1) * s ≤ i * s := Nat.mul_le_mul_right _ hlt
                rw [Nat.add_mul, Nat.one_mul] at this
                omega
              · have : (i + 1) * s ≤ j * s := Nat.mul_le_mul_right _ hgt
                rw [Nat.add_mul, Nat.one_mul] at this
                omega
            · exact (c4 j y q c u hj hq h6).le le
end
end Go.Av
namespace Go.Av
open Go.RowKit
set_option linter.unusedVariables false
theorem run_conv_mark {P : Program} {w : World} {src e : TypeId} {g2 : Nat} {cur : Array Value} {E0 : TypeId} {fz : Nat × Nat} {len cap : Nat} (hu : P.underlying src = some (.slice e)) (hik : P.underlying e = some (.int .u8)) (f2 : w.heap[g2]? = some (.cells cur E0 fz)) :
    (convert src src (.slice (some ⟨g2, 0, none⟩) len cap)).run P w = .ok (.slice (some ⟨g2, 0, none⟩) len cap) (w.freeze ⟨g2, cur.size, none⟩ 1) := by
  have hsh : w.shape? g2 = some (E0, cur.size) := by simp [World.shape?, f2]
  simp [convert, run_underlying hu, run_underlying hik, markStringish, hsh]

section
variable {P : Program} {B : Nat} {X : Nat → Prop} {w0 w : World} {φ : Nat → Value} {H : List AO} {K : AV → List AO → Prop}

/-- the cells that a slice value's elements have -/
theorem RdS.news {s : Nat} {ys : List AV} {v : Value} (rd : RdS w φ H s ys v) : ∃ (ad : Option Addr) (cap : Nat) (news : List Value), v = .slice ad ys.length cap ∧ news.length = ys.length * s ∧ (∀ u ∈ news, u.oneCell' = true) ∧
    (∀ w', Ext w w' → (Builtin.firstCells s ys.length v).run P w' = .ok news.toArray w') ∧
    (∀ (i : Nat) (x : AV), ys[i]? = some x → x.closed = true ∧ x.cells.length = s) ∧
    ∀ (i : Nat) (x : AV) (j : Nat) (c : AV) (u : Value), ys[i]? = some x → x.cells[j]? = some c → news[i * s + j]? = some u → R w φ H c u := by
  obtain ⟨ad, cap, rfl, _, hel, hne⟩ := rd
  rcases ys with _ | ⟨y, ys⟩
  · refine ⟨ad, cap, [], rfl, by simp, by simp, fun w' _ => ?_, hel, fun i x j c u hi => by simp at hi⟩
    rcases ad with _ | a
    · simp [Builtin.firstCells]
    · simp [Builtin.firstCells, loadCells, loadCellsFrom]
  · obtain ⟨b, off, rfl, hc⟩ := hne (by simp)
    generalize hL : y :: ys = L at *
    have hs0 : ∀ k, k < L.length * s → ∃ u, w.cell? ⟨b, off + k, none⟩ = some u ∧ u.oneCell' = true ∧ ∀ (i : Nat) (x : AV) (j : Nat) (c : AV), k = i * s + j → L[i]? = some x → x.cells[j]? = some c → R w φ H c u := fun k hk => by
      have hs : 0 < s := by
        rcases Nat.eq_zero_or_pos s with e | e
        · subst e; simp at hk
        · exact e
      have hi : k / s < L.length := (Nat.div_lt_iff_lt_mul hs).2 hk
      obtain ⟨x, hx⟩ : ∃ x, L[k / s]? = some x := ⟨_, List.getElem?_eq_getElem hi⟩
      have hj : k % s < x.cells.length := by rw [(hel _ x hx).2]; exact Nat.mod_lt _ hs
      obtain ⟨c, hcx⟩ : ∃ c, x.cells[k % s]? = some c := ⟨_, List.getElem?_eq_getElem hj⟩
      obtain ⟨u, h1, h2, h3⟩ := hc _ x _ c hx hcx
      have hdm := Nat.div_add_mod k s
      rw [Nat.mul_comm] at hdm
      refine ⟨u, by rw [← h1]; congr 2; omega, h2, fun i' x' j' c' e hx' hj' => ?_⟩
      have hjlt : j' < s := by rw [← (hel _ x' hx').2]; exact (List.getElem?_eq_some_iff.1 hj').1
      have e1 : k / s = i' := by rw [e, Nat.add_comm, Nat.add_mul_div_right _ _ hs, Nat.div_eq_of_lt hjlt]; omega
      have e2 : k % s = j' := by rw [e, Nat.add_comm, Nat.add_mul_mod_self_right, Nat.mod_eq_of_lt hjlt]
      rw [e1] at hx
      rw [hx] at hx'
      simp at hx'
      subst hx'
      rw [e2, hj'] at hcx
      simp at hcx
      subst hcx
      exact h3
    have hex : ∀ k : Nat, ∃ u, k < L.length * s → w.cell? ⟨b, off + k, none⟩ = some u ∧ u.oneCell' = true ∧ ∀ (i : Nat) (x : AV) (j : Nat) (c : AV), k = i * s + j → L[i]? = some x → x.cells[j]? = some c → R w φ H c u := fun k => by
      by_cases hk : k < L.length * s
      · obtain ⟨u, hu⟩ := hs0 k hk; exact ⟨u, fun _ => hu⟩
      · exact ⟨undef, fun h => absurd h hk⟩
    obtain ⟨f, hf⟩ := Classical.axiomOfChoice hex
    have hget : ∀ (k : Nat) (u : Value), ((List.range (L.length * s)).map f)[k]? = some u → k < L.length * s ∧ f k = u := fun k u hu => by
      have hk : k < L.length * s := by
        have := (List.getElem?_eq_some_iff.1 hu).1
        simpa using this
      exact ⟨hk, by simpa [hk] using hu⟩
    refine ⟨_, cap, (List.range (L.length * s)).map f, rfl, by simp, fun u hu => ?_, fun w' hw => ?_, hel, fun i x j c u hi hj hu => ?_⟩
    · obtain ⟨k, hk⟩ := List.mem_iff_getElem?.1 hu
      obtain ⟨h1, h2⟩ := hget k u hk
      rw [← h2]; exact (hf k h1).2.1
    · refine run_firstCells_some (P := P) (w := w') s L.length ⟨b, off, none⟩ L.length cap _ (by simp) (fun j v hv => ?_)
      obtain ⟨h1, h2⟩ := hget j v hv
      rw [add_lit, ← h2]
      exact hw.cell (hf j h1).1
    · obtain ⟨h1, h2⟩ := hget _ u hu
      rw [← h2]
      exact (hf _ h1).2.2 i x j c rfl hi hj

theorem app_row (st : St B X w0 w φ H) {t t2 ty E : TypeId} {d2 : TypeDesc} {s b : Nat} {z : Value} (ht : P.underlying t = some (.slice E)) (h2 : P.underlying t2 = some d2) (hd : ∀ k, d2 ≠ .int k) (ti : TyI P E s b z)
    {id ver len : Nat} {xs ys : List AV} (hH : H[id]? = some (.slice ver E s xs)) {v : Value} (hv : OwnV (φ id) s xs.length 0 len v) (x : Value) (news : List Value)
    (hm : ∀ w, (Builtin.lenOf x).run P w = .ok ys.length w) (hfc : ∀ w', Ext w w' → (Builtin.firstCells s ys.length x).run P w' = .ok news.toArray w') (hl : news.length = ys.length * s) (h1 : ∀ u ∈ news, u.oneCell' = true)
    (hel : ∀ (i : Nat) (x : AV), ys[i]? = some x → x.closed = true ∧ x.cells.length = s)
    (hr : ∀ (i : Nat) (x : AV) (j : Nat) (c : AV) (u : Value), ys[i]? = some x → x.cells[j]? = some c → news[i * s + j]? = some u → R w φ H c u)
    (hby : (len + ys.length) * b ≤ 140737488355328) (h63 : len + ys.length ≤ 9223372036854775807) :
    ∃ φ' v' w', (Builtin.append_ #[t, t2] ty #[v, x]).run P w = .ok v' w' ∧ St B X w0 w' φ' (H.set id (.slice (ver + 1) E s (xs.take len ++ ys))) ∧ Le w φ H w' φ' (H.set id (.slice (ver + 1) E s (xs.take len ++ ys))) ∧
      R w' φ' (H.set id (.slice (ver + 1) E s (xs.take len ++ ys))) (.own id (ver + 1) 0 (len + ys.length)) v' := by
  obtain ⟨cs, c1, c2, c3, c4⟩ := st.chunk id _ hH
  have hlt : id < H.length := (List.getElem?_eq_some_iff.1 hH).1
  obtain ⟨v', w', r1, r2, r3, r4, r5⟩ := run_app (ty := ty) ht h2 hd ti c1 hv x ys.length news hm hfc hl h1 hby h63
  have hle : len ≤ xs.length := by have := hv.1; omega
  have hxl : (xs.take len ++ ys).length = len + ys.length := by simp; omega
  have hblk : ∀ k, k < w.heap.size → vblk (φ id) ≠ some k → w'.heap[k]? = w.heap[k]? := r3.block
  have le := Le_upd (w' := w') st hH rfl r3.size hblk v' (fun b hb => (r4 b hb).1) (o' := .slice (ver + 1) E s (xs.take len ++ ys)) (.inl (Nat.lt_succ_self _))
  have hcl : (cs.take (len * s)).length = len * s := by
    rw [List.length_take, c1.1]
    exact Nat.min_eq_left (Nat.mul_le_mul_right _ hle)
  refine ⟨_, v', w', r1, st.upd hH rfl r3.os r3.tape r3.output r3.size hblk v' r4 (.inl (Nat.lt_succ_self _)) ⟨_, by rw [updφ_same, hxl]; exact r2, c2, fun i x hi => ?_, fun i x j c u hi hj hu => ?_⟩, le, ?_⟩
  · rcases Nat.lt_or_ge i len with h | h
    · rw [List.getElem?_append_left (by simp; omega), List.getElem?_take, if_pos h] at hi
      exact c3 i x hi
    · rw [List.getElem?_append_right (by simp; omega)] at hi
      exact hel _ x hi
  · rcases Nat.lt_or_ge i len with h | h
    · rw [List.getElem?_append_left (by simp; omega), List.getElem?_take, if_pos h] at hi
      have hjs : j < s := by rw [← (c3 i x hi).2]; exact (List.getElem?_eq_some_iff.1 hj).1
      have hk : i * s + j < len * s := by
        have : (i + 1) * s ≤ len * s := Nat.mul_le_mul_right _ h
        rw [Nat.add_mul, Nat.one_mul] at this
        omega
      rw [List.getElem?_append_left (by omega), List.getElem?_take, if_pos hk] at hu
      exact (c4 i x j c u hi hj hu).le le
    · rw [List.getElem?_append_right (by simp; omega)] at hi
      have e : (xs.take len).length = len := by simp; omega
      rw [e] at hi
      have hmul : len * s ≤ i * s := Nat.mul_le_mul_right _ h
      rw [List.getElem?_append_right (by omega), hcl] at hu
      have e2 : i * s + j - len * s = (i - len) * s + j := by rw [Nat.sub_mul]; omega
      rw [e2] at hu
      exact (hr _ x j c u hi hj hu).le le
  · refine .own _ _ _ _ _ (by simp; exact hlt) ?_ (fun v2 E2 s2 xs2 he => ?_) fun E2 s2 xs2 he => ?_
    · rcases r5.2 with ⟨rfl, _⟩ | ⟨g, cap, rfl, _⟩ <;> rfl
    · rw [List.getElem?_set_self hlt] at he; simp at he; omega
    · rw [List.getElem?_set_self hlt] at he
      simp at he
      obtain ⟨rfl, rfl, rfl⟩ := he
      rw [updφ_same]
      have : (xs.take len ++ ys).length = len + ys.length := hxl
      simp only [this]
      exact r5

theorem bytes_news (bs : List UInt8) : (∀ u ∈ bs.map (fun b => Value.int .u8 b.toNat), u.oneCell' = true) ∧ (∀ (i : Nat) (x : AV), (bs.map encB)[i]? = some x → x.closed = true ∧ x.cells.length = 1) ∧
    ∀ (i : Nat) (x : AV) (j : Nat) (c : AV) (u : Value), (bs.map encB)[i]? = some x → x.cells[j]? = some c → (bs.map (fun b => Value.int .u8 b.toNat))[i * 1 + j]? = some u → R w φ H c u := by
  refine ⟨fun u hu => ?_, fun i x hi => ?_, fun i x j c u hi hj hu => ?_⟩
  · obtain ⟨b, _, rfl⟩ := List.mem_map.1 hu; rfl
  · simp only [List.getElem?_map, Option.map_eq_some_iff] at hi
    obtain ⟨b, _, rfl⟩ := hi
    exact ⟨rfl, rfl⟩
  · simp only [List.getElem?_map, Option.map_eq_some_iff] at hi
    obtain ⟨b, hb, rfl⟩ := hi
    match j, hj with
    | 0, hj =>
      simp [AV.cells, encB] at hj
      subst hj
      rw [Nat.mul_one, Nat.add_zero] at hu
      simp only [List.getElem?_map, hb, Option.map_some, Option.some.injEq] at hu
      subst hu
      exact .int _ _
    | j + 1, hj => simp [AV.cells, encB] at hj

theorem app_sound (st : St B X w0 w φ H) {t t2 ty : TypeId} {x y : AV} {vx vy : Value} (rx : R w φ H x vx) (ry : R w φ H y vy) (h : appV P t t2 H x y K) :
    ∃ z H' φ' v w', K z H' ∧ (Builtin.append_ #[t, t2] ty #[vx, vy]).run P w = .ok v w' ∧ St B X w0 w' φ' H' ∧ Le w φ H w' φ' H' ∧ R w' φ' H' z v := by
  unfold appV at h
  rcases hT : tyS P t with _ | ⟨E, s, b⟩
  · simp [hT] at h
  simp only [hT] at h
  obtain ⟨hu, hsz, hs0, z, ti⟩ := tyS_spec hT
  split at h
  rotate_left
  · -- onto nil
    cases rx
    have hgrow : ∀ (vy : Value) (t2 : TypeId) (d2 : TypeDesc) (ys : List AV) (news : List Value), P.underlying t2 = some d2 → (∀ k, d2 ≠ .int k) → (∀ w, (Builtin.lenOf vy).run P w = .ok ys.length w) → (∀ w', Ext w w' → (Builtin.firstCells s ys.length vy).run P w' = .ok news.toArray w') → news.length = ys.length * s → (∀ u ∈ news, u.oneCell' = true) →
        (∀ (i : Nat) (x : AV), ys[i]? = some x → x.closed = true ∧ x.cells.length = s) → (∀ (i : Nat) (x : AV) (j : Nat) (c : AV) (u : Value), ys[i]? = some x → x.cells[j]? = some c → news[i * s + j]? = some u → R w φ H c u) →
        ys.length * b ≤ 140737488355328 → ys.length ≤ 9223372036854775807 → appN E s H ys K → ∃ z H' φ' v w', K z H' ∧ (Builtin.append_ #[t, t2] ty #[.slice none 0 0, vy]).run P w = .ok v w' ∧ St B X w0 w' φ' H' ∧ Le w φ H w' φ' H' ∧ R w' φ' H' z v := fun vy t2 d2 ys news h2 hd hm hfc hl h1 hel hr hb1 hb2 hk => by
      by_cases hy : ys = []
      · subst hy
        have hn0 : news = [] := List.eq_nil_of_length_eq_zero (by simpa using hl)
        subst hn0
        have f2 := hfc w (Ext.refl w)
        obtain ⟨i, hi, rfl, rfl, hz⟩ := ti.ex
        obtain ⟨φ', q1, q2, q3⟩ := new_row st (Gr.refl w) E _ hs0 [] (.slice none 0 0) [] ⟨by simp, by simp, .inl ⟨rfl, rfl⟩⟩ (fun b h => by simp [vblk] at h) (fun i x h => by simp at h) (fun i x j c u h => by simp at h) ⟨by simp, .inl ⟨rfl, rfl, rfl⟩⟩
        refine ⟨_, _, φ', .slice none 0 0, w, hk, ?_, q1, q2, q3⟩
        simp only [List.length_nil] at hm f2
        simp [Builtin.append_, run_underlying hu, run_underlying h2, sizeOf, typeInfo, hi, hm, f2]
      · obtain ⟨v', w', e1, e2, e3, e4, e5⟩ := run_app (P := P) (w := w) (ty := ty) hu h2 hd ti (v0 := .slice none 0 0) (n := 0) (cs := []) ⟨by simp, by simp, .inl ⟨rfl, rfl⟩⟩ (v := .slice none 0 0) (len := 0) ⟨by omega, .inl ⟨rfl, rfl, rfl⟩⟩ vy ys.length news hm hfc hl h1 (by simpa using hb1) (by simpa using hb2)
        simp only [Nat.zero_add, Nat.zero_mul, List.take_nil, List.nil_append] at e2 e5
        have g : Gr w w' := ⟨e3.os, e3.tape, e3.output, e3.size, fun k hk _ => e3.block k hk (by simp [vblk])⟩
        obtain ⟨φ', q1, q2, q3⟩ := new_row st g E s hs0 ys v' news e2 (fun b' hb' => by
          have := e4 b' hb'
          exact ⟨this.1.resolve_left (by simp [vblk]), this.2⟩) hel hr e5
        exact ⟨_, _, φ', v', w', hk, e1, q1, q2, q3⟩
    have hgen : (t2 = t ∧ elemsV H y fun sy ys => sy = s ∧ ys.length * b ≤ 140737488355328 ∧ ys.length ≤ 9223372036854775807 ∧ appN E s H ys K) → ∃ z H' φ' v w', K z H' ∧ (Builtin.append_ #[t, t2] ty #[.slice none 0 0, vy]).run P w = .ok v w' ∧ St B X w0 w' φ' H' ∧ Le w φ H w' φ' H' ∧ R w' φ' H' z v := fun ⟨e, h9⟩ => by
      subst e
      obtain ⟨sy, ys, ⟨rfl, hb1, hb2, hk⟩, rd⟩ := elemsV_sound st ry h9
      obtain ⟨ad, cap, news, rfl, n1, n2, n3, n4, n5⟩ := rd.news (P := P)
      exact hgrow (.slice ad ys.length cap) t2 _ ys news hu (fun k => by simp) (fun w => by simp [Builtin.lenOf]) n3 n1 n2 n4 n5 hb1 hb2 hk
    cases y <;> (try exact hgen h)
    rename_i bs
    obtain ⟨hst, rfl, hb1, hb2, hk⟩ := h
    cases ry
    obtain ⟨m1, m2, m3⟩ := bytes_news (w := w) (φ := φ) (H := H) bs
    exact hgrow (.string ⟨bs.toArray⟩) t2 _ (bs.map encB) (bs.map fun b => Value.int .u8 b.toNat) (und_of_isStr hst) (fun k => by simp)
      (fun w => by simp [Builtin.lenOf, ByteArray.size]) (fun w' _ => by
        simp only [Builtin.firstCells, Sem.run_pure]
        congr 1
        apply Array.ext'
        simp [ByteArray.data_extract]) (by simp) m1 m2 m3 (by simpa using hb1) (by simpa using hb2) hk
  · exact h.elim
  rename_i id ver len
  rcases hH : H[id]? with _ | o
  · simp [hH] at h
  cases o with
  | box _ _ => simp [hH] at h
  | iter _ _ => simp [hH] at h
  | gone => simp [hH] at h
  | slice v' E' s' xs =>
    simp only [hH] at h
    obtain ⟨rfl, rfl, rfl, h⟩ := h
    cases rx with
    | own _ _ _ _ _ hid _ _ hh =>
      have hv := hh E' s' xs hH
      have hgen : (t2 = t ∧ elemsV H y fun sy ys => sy = s' ∧ (len + ys.length) * b ≤ 140737488355328 ∧ len + ys.length ≤ 9223372036854775807 ∧
            K (.own id (v' + 1) 0 (len + ys.length)) (H.set id (.slice (v' + 1) E' s' (xs.take len ++ ys)))) → ∃ z H' φ' v w', K z H' ∧ (Builtin.append_ #[t, t2] ty #[vx, vy]).run P w = .ok v w' ∧ St B X w0 w' φ' H' ∧ Le w φ H w' φ' H' ∧ R w' φ' H' z v := fun ⟨e, h9⟩ => by
        subst e
        obtain ⟨sy, ys, ⟨rfl, hb1, hb2, hk⟩, rd⟩ := elemsV_sound st ry h9
        obtain ⟨ad, cap, news, rfl, n1, n2, n3, n4, n5⟩ := rd.news (P := P)
        obtain ⟨φ', v2, w', q1, q2, q3, q4⟩ := app_row (ty := ty) st hu hu (fun k => by simp) ti hH hv (.slice ad ys.length cap) news (fun w => by simp [Builtin.lenOf]) n3 n1 n2 n4 n5 hb1 hb2
        exact ⟨_, _, φ', v2, w', hk, q1, q2, q3, q4⟩
      cases y <;> (try exact hgen h)
      rename_i bs
      obtain ⟨hst, rfl, hb1, hb2, hk⟩ := h
      cases ry
      obtain ⟨m1, m2, m3⟩ := bytes_news (w := w) (φ := φ) (H := H) bs
      obtain ⟨φ', v2, w', q1, q2, q3, q4⟩ := app_row (ty := ty) (ys := bs.map encB) st hu (und_of_isStr hst) (fun k => by simp) ti hH hv (.string ⟨bs.toArray⟩) (bs.map fun b => Value.int .u8 b.toNat)
        (fun w => by simp [Builtin.lenOf, ByteArray.size]) (fun w' _ => by
          simp only [Builtin.firstCells, Sem.run_pure]
          congr 1
          apply Array.ext'
          simp [ByteArray.data_extract]) (by simp) m1 m2 m3 (by simpa using hb1) (by simpa using hb2)
      rw [List.length_map] at q4
      exact ⟨_, _, φ', v2, w', hk, q1, q2, q3, q4⟩

theorem us_sound (st : St B X w0 w φ H) {pt it ty : TypeId} {p n : AV} {vp vn : Value} (rp : R w φ H p vp) (rn : R w φ H n vn) (h : usV P pt H p n K) :
    ∃ z H' φ' v w', K z H' ∧ (Builtin.unsafeString_ #[pt, it] ty #[vp, vn]).run P w = .ok v w' ∧ St B X w0 w' φ' H' ∧ Le w φ H w' φ' H' ∧ R w' φ' H' z v := by
  unfold usV at h
  split at h
  · obtain ⟨rfl, hk⟩ := h
    cases rp
    cases rn
    exact ⟨_, H, φ, _, w, hk, Lib.run_unsafeString_none w _ _ _ none, st, Le.refl _ _ _, .str []⟩
  · rename_i id ver n
    rcases hH : H[id]? with _ | o
    · simp [hH] at h
    split at h
    · rename_i v E xs hH'
      rw [hH] at hH'
      simp at hH'
      subst hH'
      obtain ⟨rfl, hp, hs, h0, hn, bs, hbs, hk⟩ := h
      have hpu : P.underlying pt = some (.pointer E) := by
        unfold ptrE at hp
        split at hp
        · rename_i e he; simp at hp; subst hp; exact he
        · simp at hp
      obtain ⟨cs, c1, c2, c3, c4⟩ := st.chunk id _ hH
      cases rn
      have hlen : bs.length = n.toNat := by
        have := congrArg List.length hbs
        simp at this
        omega
      have hnat : n = (bs.length : Int) := by omega
      cases rp with
      | optr _ _ _ _ _ hid ho hvv hh =>
        obtain ⟨g, m, cap, e1, rfl⟩ := hh E 1 xs hH
        rcases c1.2.2 with ⟨e2, hz⟩ | ⟨g', cap', cur, fz, e2, hg, hfz, hncap, hcm, hcs, htake⟩
        · omega
        · rw [e1] at e2
          simp at e2
          obtain ⟨rfl, rfl, rfl⟩ := e2
          have hsh : w.shape? g = some (E, cur.size) := by rw [World.shape?, hg]
          have hrun := Lib.run_unsafeString_row (P := P) w pt it ty E hpu (by simpa [Program.cellsOf, szT] using congrArg (·.getD 0) hs) g cur.size hsh bs (fun e => by subst e; simp at hnat; omega) (by omega) (by unfold maxLen at hcm; omega) (fun j x hx => by
            have hj : j < bs.length := (List.getElem?_eq_some_iff.1 hx).1
            have hxj : xs[j]? = some (encB x) := by
              have : (xs.take n.toNat)[j]? = some (encB x) := by rw [hbs, List.getElem?_map, hx]; rfl
              rw [List.getElem?_take, if_pos (by omega)] at this
              exact this
            have hjl : j < cs.length := by rw [c1.1]; omega
            have hcj := ownRow_cell c1 e1 (List.getElem?_eq_getElem hjl)
            have hr := c4 j (encB x) 0 (encB x) cs[j] hxj (by simp [encB, AV.cells]) (by simp [List.getElem?_eq_getElem hjl])
            unfold encB at hr
            generalize cs[j] = q at hr hcj
            cases hr
            rw [add_lit, Nat.zero_add]
            exact hcj)
          have hblk : ∀ k, k < w.heap.size → vblk (φ id) ≠ some k → (w.freeze ⟨g, 0, none⟩ bs.length).heap[k]? = w.heap[k]? := fun k _ hne => by
            have hk : k ≠ g := fun e => hne (by rw [e1, e]; rfl)
            unfold World.freeze
            split
            · rfl
            · simp [Array.getElem?_modify, Ne.symm hk]
          have hsize : (w.freeze ⟨g, 0, none⟩ bs.length).heap.size = w.heap.size := by unfold World.freeze; split <;> simp
          have hid' : id < H.length := hid
          have hx : ∀ b, vblk (φ id) = some b → (vblk (φ id) = some b ∨ w.heap.size ≤ b) ∧ b < (w.freeze ⟨g, 0, none⟩ bs.length).heap.size := fun b hb => ⟨.inl hb, by rw [hsize]; exact (st.live id _ b hH rfl hb).2⟩
          have hout : (w.freeze ⟨g, 0, none⟩ bs.length).os = w.os ∧ (w.freeze ⟨g, 0, none⟩ bs.length).tape = w.tape ∧ (w.freeze ⟨g, 0, none⟩ bs.length).output = w.output := by
            unfold World.freeze; split <;> exact ⟨rfl, rfl, rfl⟩
          subst hnat
          refine ⟨_, _, _, _, _, hk, hrun, st.upd hH rfl hout.1 hout.2.1 hout.2.2 (by omega) hblk (φ id) hx trivial trivial, Le_upd st hH rfl (by omega) hblk (φ id) (fun b hb => (hx b hb).1) trivial, .str bs⟩
    · exact h.elim
  · exact h.elim

theorem fillA_sound {place place' : Nat → Option (Nat × Nat)} (hp : ∀ i r, place i = some r → place' i = some r) : ∀ (la : List (Nat × AV)) (lv : List (Nat × Value)) (cs : List AV) (cells : Array Value) (cs' : List AV), lv.length = la.length →
    (∀ (q : Nat) (x : Nat × AV) (y : Nat × Value), la[q]? = some x → lv[q]? = some y → y.1 = x.1 ∧ R w φ H x.2 y.2) →
    cells.size = cs.length → (∀ (i : Nat) (c : AV) (u : Value), cs[i]? = some c → cells[i]? = some u → R w φ H c u) → fillA place cs la = some cs' →
    ∃ cells', Instr.fill place' cells lv = some cells' ∧ cells'.size = cs'.length ∧ ∀ (i : Nat) (c : AV) (u : Value), cs'[i]? = some c → cells'[i]? = some u → R w φ H c u
  | [], [], cs, cells, cs', _, _, hs, hr, h => by
    simp only [fillA, Option.some.injEq] at h
    subst h
    exact ⟨cells, rfl, hs, hr⟩
  | (i, x) :: la, (j, v) :: lv, cs, cells, cs', hl, hpt, hs, hr, h => by
    obtain ⟨rfl, hxv⟩ := hpt 0 (i, x) (j, v) rfl rfl
    dsimp only at hxv h
    simp only [fillA] at h
    rcases hpl : place j with _ | ⟨off, size⟩
    · simp [hpl] at h
    simp only [hpl] at h
    split at h
    · rename_i hc
      obtain ⟨c1, c2, c3⟩ := hc
      obtain ⟨v1, v2⟩ := hxv.cells c3
      have hS := setAll off v.cells.toList 0 cells (by simp; omega)
      simp only [Nat.add_zero, Array.length_toList] at hS
      obtain ⟨s1, s2, s3⟩ := hS
      obtain ⟨out, o1, o2, o3⟩ := fillA_sound hp la lv (splice cs off x.cells) _ cs' (by simpa using hl) (fun q x' y' hx hy => hpt (q + 1) x' y' (by simpa using hx) (by simpa using hy))
        (by rw [s1, splice_length (by omega)]; exact hs) (fun k c u hk hu => by
          rcases splice_get (by omega) hk with ⟨a1, a2, a3⟩ | ⟨a1, a3⟩
          · have := s3 (k - off) (by omega)
            rw [show off + (k - off) = k by omega] at this
            rw [this] at hu
            exact (v2 _ c u a3 (by simpa using hu)).1
          · rw [s2 k (by omega)] at hu
            exact hr k c u a3 hu) h
      refine ⟨out, ?_, o2, o3⟩
      simp only [Instr.fill, hp j _ hpl]
      rw [if_neg (by simp; omega), ← Array.foldl_toList, Array.toList_zipIdx]
      exact o1
    · simp at h
  | [], _ :: _, _, _, _, hl, _, _, _, _ => by simp at hl
  | _ :: _, [], _, _, _, hl, _, _, _, _ => by simp at hl

theorem run_places {fs : List Field} (h : fs.all (fun f => (szT P f.type).isSome) = true) (w : World) :
    (fs.mapM (m := Sem) fun f => do pure (f.offset, ← sizeOf f.type)).run P w = .ok (fs.map fun f => (f.offset, (szT P f.type).getD 0)) w := by
  induction fs with
  | nil => simp
  | cons f fs ih =>
    simp only [List.all_cons, Bool.and_eq_true] at h
    obtain ⟨s, hs⟩ := Option.isSome_iff_exists.1 h.1
    rw [List.mapM_cons]
    simp only [Sem.run_bind, run_sizeOf' hs, Result.andThen_ok, Sem.run_pure, ih h.2, List.map_cons, hs, Option.getD_some]

theorem one_cells {x : AV} (h : x.one = true) : x.cells = [x] := by cases x <;> simp_all [AV.one, AV.cells]
theorem build_sound {w : World} {φ : Nat → Value} {H : List AO} {env : Env} {ρ : Operand → Value} {T : TypeId} {parts : Array (Nat × Operand)} (ev : ∀ p ∈ parts.toList, R w φ H (evO env p.2) (ρ p.2)) {K : AV → Prop} (h : buildV P T (parts.toList.map fun p => (p.1, evO env p.2)) K) :
    ∃ x v, K x ∧ R w φ H x v ∧ ∀ w', (Instr.build T (parts.map fun (i, x) => (i, ρ x))).run P w' = .ok v w' := by
  unfold buildV at h
  rcases hae : arrE P T with _ | sz <;> rw [hae] at h <;> dsimp only at h
  ·
    obtain ⟨hst, h⟩ := h
    rcases hz : zeroA P T with _ | zs
    · simp [hz] at h
    simp only [hz] at h
    obtain ⟨_, h⟩ := h
    rcases hf : fillA (placeA P T) zs (parts.toList.map fun p => (p.1, evO env p.2)) with _ | cs
    · simp [hf] at h
    simp only [hf] at h
    obtain ⟨i, z, hi, hiz, rfl⟩ : ∃ i z, P.info? T = some i ∧ i.zero = some z ∧ z.cells.toList.map constA = zs := by
      unfold zeroA at hz
      simp only [Option.map_eq_some_iff, Option.bind_eq_some_iff] at hz
      obtain ⟨z, ⟨i, hi, hiz⟩, e⟩ := hz
      exact ⟨i, z, hi, hiz, e⟩
    obtain ⟨fs, hu, hall⟩ : ∃ fs, P.underlying T = some (.struct fs) ∧ fs.toList.all (fun f => (szT P f.type).isSome) = true := by
      unfold isStruct at hst
      split at hst
      · rename_i fs hu; exact ⟨fs, hu, hst⟩
      · simp at hst
    obtain ⟨cells', f1, f2, f3⟩ := fillA_sound (w := w) (φ := φ) (H := H) (place' := fun k => (fs.map fun f => (f.offset, (szT P f.type).getD 0))[k]?) (fun k r hr => by
      unfold placeA fldI at hr
      simp only [hu] at hr
      rcases hk : fs[k]? with _ | f
      · simp [hk] at hr
      · simp only [hk, Option.map_some] at hr
        rcases hs : szT P f.type with _ | s
        · simp [hs] at hr
        · simp only [hs, Option.map_some, Option.some.injEq] at hr
          simp [Array.getElem?_map, hk, hs, hr]) _ (parts.toList.map fun p => (p.1, ρ p.2)) (z.cells.toList.map constA) z.cells cs (by simp) (fun q x y hx hy => by
        simp only [List.getElem?_map, Option.map_eq_some_iff] at hx hy
        obtain ⟨p, hp, rfl⟩ := hx
        obtain ⟨p', hp', rfl⟩ := hy
        rw [hp] at hp'
        simp at hp'
        subst hp'
        exact ⟨rfl, ev p (List.mem_of_getElem? hp)⟩) (by simp) (fun k c u hc hu => by
        simp only [List.getElem?_map, Option.map_eq_some_iff] at hc
        obtain ⟨y, hy, rfl⟩ := hc
        simp at hy
        rw [hy] at hu
        simp at hu
        subst hu
        exact constA_R y) hf
    refine ⟨_, .agg cells', h, .agg _ _ f2 f3, fun w' => ?_⟩
    have hzv : (zeroValue T).run P w' = .ok z w' := by simp [zeroValue, typeInfo, hi, hiz]
    have hpl : (fs.mapM (m := Sem) fun f => do pure (f.offset, ← sizeOf f.type)).run P w' = .ok (fs.map fun f => (f.offset, (szT P f.type).getD 0)) w' := by
      have := run_places hall w'
      rw [← Array.toArray_toList (xs := fs), List.mapM_toArray]
      simp only [Sem.run_map]
      rw [this]
      simp only [Result.andThen_ok]
      congr 1
      apply Array.ext'
      simp
    have htl : (parts.map fun x => (x.1, ρ x.2)).toList = parts.toList.map fun p => (p.1, ρ p.2) := by simp
    simp only [Instr.build, Sem.run_bind, hzv, Result.andThen_ok, run_underlying hu, hpl, htl, f1, Sem.run_pure]
  ·
    rcases hz : zeroA P T with _ | zs
    · simp [hz] at h
    simp only [hz] at h
    obtain ⟨_, h⟩ := h
    rcases hf : fillA (fun i => some (i * sz, sz)) zs (parts.toList.map fun p => (p.1, evO env p.2)) with _ | cs
    · simp [hf] at h
    simp only [hf] at h
    obtain ⟨i, z, hi, hiz, rfl⟩ : ∃ i z, P.info? T = some i ∧ i.zero = some z ∧ z.cells.toList.map constA = zs := by
      unfold zeroA at hz
      simp only [Option.map_eq_some_iff, Option.bind_eq_some_iff] at hz
      obtain ⟨z, ⟨i, hi, hiz⟩, e⟩ := hz
      exact ⟨i, z, hi, hiz, e⟩
    obtain ⟨m, e, hu, hsz⟩ : ∃ m e, P.underlying T = some (.array m e) ∧ szT P e = some sz := by
      unfold arrE at hae
      split at hae
      · rename_i m e hu; exact ⟨m, e, hu, hae⟩
      · simp at hae
    obtain ⟨cells', f1, f2, f3⟩ := fillA_sound (w := w) (φ := φ) (H := H) (place' := fun k => some (k * sz, sz)) (fun k r hr => hr) _ (parts.toList.map fun p => (p.1, ρ p.2)) (z.cells.toList.map constA) z.cells cs (by simp) (fun q x y hx hy => by
        simp only [List.getElem?_map, Option.map_eq_some_iff] at hx hy
        obtain ⟨p, hp, rfl⟩ := hx
        obtain ⟨p', hp', rfl⟩ := hy
        rw [hp] at hp'
        simp at hp'
        subst hp'
        exact ⟨rfl, ev p (List.mem_of_getElem? hp)⟩) (by simp) (fun k c u hc hu => by
        simp only [List.getElem?_map, Option.map_eq_some_iff] at hc
        obtain ⟨y, hy, rfl⟩ := hc
        simp at hy
        rw [hy] at hu
        simp at hu
        subst hu
        exact constA_R y) hf
    refine ⟨_, .agg cells', h, .agg _ _ f2 f3, fun w' => ?_⟩
    have hzv : (zeroValue T).run P w' = .ok z w' := by simp [zeroValue, typeInfo, hi, hiz]
    have htl : (parts.map fun x => (x.1, ρ x.2)).toList = parts.toList.map fun p => (p.1, ρ p.2) := by simp
    simp only [Instr.build, Sem.run_bind, hzv, Result.andThen_ok, run_underlying hu, run_sizeOf' hsz, htl, f1, Sem.run_pure]
theorem eOp_sound {n : Nat} (st : St B X w0 w φ H) {env : Env} {a : Act} {g : Gh} (eo : EnvOK w φ H env a n g) {o : Oper} (hn : opOK n o.op = true) (h : eOp P o.op o.type env H K) : Eff P B X w0 w φ H K (execOp a.eval o) := by
  have ev : ∀ x, x ∈ o.op.operands.toList → R w φ H (evO env x) (a.eval x) := fun x hx => evO_R eo x (by
    have := List.all_eq_true.1 hn x hx
    exact this)
  obtain ⟨dst, op, ty, pos, after, guard⟩ := o
  dsimp only at h ev
  cases op <;> (try exact h.elim)
  case assign x =>
    unfold eOp at h
    split at h <;> (try exact h.elim)
    all_goals (rename_i heq; try (simp at heq; done))
    rcases hT : tyS P ty with _ | ⟨E, s, b⟩
    · simp [hT] at h
    simp only [hT] at h
    obtain ⟨hu, hsz, hs0, z, ti⟩ := tyS_spec hT
    injection heq with heq
    subst heq
    obtain ⟨φ', q1, q2, q3⟩ := new_row st (Gr.refl w) E s hs0 [] (.slice none 0 0) [] ⟨by simp, by simp, .inl ⟨rfl, rfl⟩⟩ (fun b h => by simp [vblk] at h) (fun i x h => by simp at h) (fun i x j c u h => by simp at h) ⟨by simp, .inl ⟨rfl, rfl, rfl⟩⟩
    exact ⟨_, _, φ', _, _, w, h, by simp [execOp, Act.eval], .inl rfl, q1, q2, q3⟩
  case box T x =>
    simp only [eOp] at h
    obtain ⟨h1, hk⟩ := h
    have rx := ev x (by simp [Op.operands])
    obtain ⟨c1, c2⟩ := rx.cells h1
    obtain ⟨φ', q1, q2, q3⟩ := new_box st T _ (a.eval x).cells c1 c2
    refine ⟨_, _, φ', _, _, _, hk, ?_, .inl rfl, q1, q2, q3⟩
    simp [execOp, Instr.box, newVar, newRow]
  case alloc T =>
    simp only [eOp] at h
    rcases hz : zeroA P T with _ | zs
    · simp [hz] at h
    simp only [hz] at h
    obtain ⟨h1, hk⟩ := h
    obtain ⟨i, z, hi, hiz, rfl⟩ : ∃ i z, P.info? T = some i ∧ i.zero = some z ∧ z.cells.toList.map constA = zs := by
      unfold zeroA at hz
      simp only [Option.map_eq_some_iff, Option.bind_eq_some_iff] at hz
      obtain ⟨z, ⟨i, hi, hiz⟩, e⟩ := hz
      exact ⟨i, z, hi, hiz, e⟩
    obtain ⟨φ', q1, q2, q3⟩ := new_box st T (z.cells.toList.map constA) z.cells (by simp) (fun i c u hc hu => by
      simp only [List.getElem?_map, Option.map_eq_some_iff] at hc
      obtain ⟨y, hy, rfl⟩ := hc
      simp at hy
      rw [hy] at hu
      simp at hu
      subst hu
      refine ⟨constA_R y, (constA_R (w := w) (φ := φ) (H := H) y).one (List.all_eq_true.1 h1 _ (List.mem_map.2 ⟨y, ?_, rfl⟩))⟩
      exact Array.mem_toList_iff.2 (Array.mem_of_getElem? hy))
    refine ⟨_, _, φ', _, _, _, hk, ?_, .inl rfl, q1, q2, q3⟩
    simp [execOp, Instr.alloc, zeroValue, typeInfo, hi, hiz, newVar, newRow]
  case store T p x =>
    simp only [eOp] at h
    obtain ⟨x', H', φ', w', hk, q1, q2, q3, rfl⟩ := sto_sound st (ev p (by simp [Op.operands])) (ev x (by simp [Op.operands])) h
    exact ⟨_, _, φ', undef, .skip, w', hk, by simp [execOp, q1], .inr ⟨rfl, rfl⟩, q2, q3, .dead _⟩
  case makeSlice T l c =>
    have rl := ev l (by simp [Op.operands])
    have rc := ev c (by simp [Op.operands])
    unfold eOp at h
    rcases hT : tyS P T with _ | ⟨E, s, b⟩
    · simp [hT] at h
    simp only [hT] at h
    generalize hle : a.eval l = vl at rl
    generalize evO env l = el at h rl
    generalize hce : a.eval c = vc at rc
    generalize evO env c = ec at h rc
    split at h
    · rename_i E' b' kl n kc m heq
      simp only [Option.some.injEq, Prod.mk.injEq] at heq
      obtain ⟨rfl, rfl, rfl⟩ := heq
      obtain ⟨rfl, h⟩ := h
      rcases hz : zeroA P E with _ | zs
      · simp [hz] at h
      simp only [hz] at h
      split at h
      · rename_i zz heq
        simp only [Option.some.injEq] at heq
        subst heq
        obtain ⟨h1, hcl, hln, h0, hby, hmx, hk⟩ := h
        cases rl
        cases rc
        obtain ⟨hu, hsz, hs0, z, ti⟩ := tyS_spec hT
        obtain ⟨i, hi, hi1, hib, hiz⟩ := ti.ex
        have hz1 := ti.cells
        obtain ⟨z0, hz0⟩ : ∃ z0, z.cells = #[z0] := Array.size_eq_one_iff.1 hz1
        have hzz : zz = constA z0 := by
          unfold zeroA at hz
          simp [hi, hiz, hz0] at hz
          exact hz.symm
        subst hzz
        have hrun := run_make (P := P) w T E i z hu hi hiz kl kc n n h0 (Int.le_refl _) (by
          have : ((n.toNat * b : Nat) : Int) ≤ 140737488355328 := by omega
          rw [Int.natCast_mul, Int.toNat_of_nonneg h0] at this
          rw [hib, Int.mul_comm]
          omega) (by omega)
        have hmc : madeCells z.cells (n.toNat * i.size) = Array.replicate n.toNat z0 := by
          rw [hi1, Nat.mul_one, hz0]
          apply Array.ext
          · simp [madeCells]
          · intro j h1 h2
            simp [madeCells, Nat.mod_one]
        have hone : z0.oneCell' = true := (constA_R (w := w) (φ := φ) (H := H) z0).one h1
        rw [hmc] at hrun
        obtain ⟨φ', q1, q2, q3⟩ := new_row st (w' := w.alloc (.cells (Array.replicate n.toNat z0) E)) (Gr.alloc w _) E 1 (by omega) (List.replicate n.toNat (constA z0)) (.slice (some ⟨w.heap.size, 0, none⟩) n.toNat n.toNat) (List.replicate n.toNat z0)
          ⟨by simp, fun u hu => by rw [List.eq_of_mem_replicate hu]; exact hone, .inr ⟨w.heap.size, n.toNat, Array.replicate n.toNat z0, (0, 0), by simp, heap_alloc_new w _, .inl rfl, by simp, by simp only [maxLen]; omega, by simp, by simp⟩⟩
          (fun b hb => by simp [vblk] at hb; subst hb; simp)
          (fun j x hx => by
            have := List.eq_of_mem_replicate (List.mem_of_getElem? hx)
            subst this
            exact ⟨hcl, hln⟩)
          (fun j x k c u hx hj hu => by
            have e1 := List.eq_of_mem_replicate (List.mem_of_getElem? hx)
            have e2 := List.eq_of_mem_replicate (List.mem_of_getElem? hu)
            rw [e1, one_cells h1] at hj
            rw [e2]
            have e3 : c = constA z0 := by
              match k, hj with
              | 0, hj => simpa using hj.symm
              | k + 1, hj => simp at hj
            rw [e3]
            exact constA_R z0)
          ⟨by simp, .inr ⟨w.heap.size, n.toNat, by simp, by simp, _, by simp, fun _ => by simp, fun _ => rfl⟩⟩
        rw [List.length_replicate] at q3
        exact ⟨_, _, φ', _, _, _, hk, by simp [execOp, hle, hce, hrun], .inl rfl, q1, q2, q3⟩
      · exact h.elim
    · exact h.elim
  case range T x =>
    have rx := ev x (by simp [Op.operands])
    simp only [eOp] at h
    generalize hxe : a.eval x = vx at rx
    generalize evO env x = ex at h rx
    cases ex <;> (try exact h.elim)
    rename_i s
    cases rx
    obtain ⟨hT, hk⟩ := h
    have hrun := run_range_string (P := P) w T ⟨s.toArray⟩ (und_of_isStr hT)
    have hg : Gr w (w.iter ⟨s.toArray⟩ 0) := Gr.alloc w _
    have hsz : (w.iter ⟨s.toArray⟩ 0).heap.size = w.heap.size + 1 := by simp [World.iter]
    have hh := World.iter_heap w ⟨s.toArray⟩ 0
    have st' := St.new st hg (.pointer (some ⟨w.heap.size, 0, none⟩)) (.iter s 0) (fun b hb => by simp [vblk] at hb; subst hb; omega) ⟨w.heap.size, updφ_same _ _ _, hh⟩
    refine ⟨_, _, _, .pointer (some ⟨w.heap.size, 0, none⟩), _, _, hk, by simp only [execOp, hxe, Sem.run_bind, hrun, Result.andThen_ok, Sem.run_pure], .inl rfl, st', Le_new hg _ _ (fun b hb => by simp [vblk] at hb; omega), ?_⟩
    exact .bptr _ _ _ (by simp) rfl fun o ho hp => ⟨_, updφ_same _ _ _, rfl⟩
  case next it isStr =>
    have rx := ev it (by simp [Op.operands])
    cases isStr
    · exact h.elim
    simp only [eOp, nextV] at h
    generalize hxe : a.eval it = vx at rx
    generalize evO env it = ex at h rx
    cases ex <;> (try exact h.elim)
    rename_i id off
    cases off <;> (try exact h.elim)
    rcases hH : H[id]? with _ | o
    · simp [hH] at h
    cases o <;> simp only [hH] at h
    rename_i s p
    obtain ⟨g', c1, c2⟩ := st.chunk id _ hH
    cases rx with
    | bptr _ _ _ hid ho hh =>
      obtain ⟨g2, e1, rfl⟩ := hh _ hH rfl
      rw [c1] at e1
      simp at e1
      subst e1
      by_cases hp : p < s.length
      · have hrun := Lib.run_next_any_at (P := P) w g' ⟨s.toArray⟩ p ty c2 (by simpa [ByteArray.size] using hp)
        have hlt : g' < w.heap.size := (Array.getElem?_eq_some_iff.1 c2).1
        have hk := h.1 (by simpa using hp)
        have hblk : ∀ k, k < w.heap.size → vblk (φ id) ≠ some k → (w.iterAt g' ⟨s.toArray⟩ (p + (decR s p).2)).heap[k]? = w.heap[k]? := fun k _ hne => Lib.iterAt_other w g' k _ _ (fun e => hne (by rw [c1, e]; rfl))
        have hsz := Lib.iterAt_size w g' ⟨s.toArray⟩ (p + (decR s p).2)
        have st' := St.upd st hH rfl (w' := w.iterAt g' ⟨s.toArray⟩ (p + (decR s p).2)) rfl rfl rfl (by rw [hsz]; exact Nat.le_refl _) hblk (φ id) (o' := .iter s (p + (decR s p).2)) (fun b hb => ⟨.inl hb, by rw [hsz]; exact (st.live id _ b hH rfl hb).2⟩) rfl
          ⟨g', by rw [updφ_same]; exact c1, Lib.iterAt_heap w g' _ p _ c2⟩
        refine ⟨_, _, _, .tuple #[.bool true, .int .i64 p, .int .i32 (decR s p).1], _, _, hk, by simp only [execOp, hxe, Sem.run_bind, hrun, Result.andThen_ok, Sem.run_pure]; rfl, .inl rfl, st', Le_upd st hH rfl (by rw [hsz]; exact Nat.le_refl _) hblk (φ id) (fun b hb => .inl hb) rfl, ?_⟩
        refine .tup _ _ rfl fun i x u hi hu => ?_
        match i, hi, hu with
        | 0, hi, hu => simp at hi hu; subst hi hu; exact .bool _
        | 1, hi, hu => simp at hi hu; subst hi hu; exact .int _ _
        | 2, hi, hu => simp at hi hu; subst hi hu; exact .int _ _
        | i + 3, hi, hu => simp at hi
      · have hrun := Lib.run_next_end_at (P := P) w g' ⟨s.toArray⟩ p ty c2 (by simpa [ByteArray.size] using hp)
        have hk := h.2 (by simpa using hp)
        refine ⟨_, H, φ, .tuple #[.bool false], _, w, hk, by simp only [execOp, hxe, Sem.run_bind, hrun, Result.andThen_ok, Sem.run_pure], .inl rfl, st, Le.refl _ _ _, ?_⟩
        refine .tup _ _ rfl fun i x u hi hu => ?_
        match i, hi, hu with
        | 0, hi, hu => simp at hi hu; subst hi hu; exact .bool _
        | i + 1, hi, hu => simp at hi
  case buildSlice T len parts =>
    simp only [eOp] at h
    rcases hT : tyS P T with _ | ⟨E, s, b⟩
    · simp [hT] at h
    simp only [hT] at h
    obtain ⟨hu, hsz, hs0, z, ti⟩ := tyS_spec hT
    obtain ⟨hr, h24, hel, hk⟩ := h
    have hlen : parts.toList.length = len := by have := congrArg List.length hr; simpa using this
    obtain ⟨inf, hi, hinf, _, hz⟩ := ti.ex
    have hzs := ti.cells
    have hpart : ∀ (q : Nat) (p : Nat × Operand), parts.toList[q]? = some p → p.1 = q ∧ R w φ H (evO env p.2) (a.eval p.2) ∧ (evO env p.2).closed = true ∧ (evO env p.2).cells.length = s ∧ (evO env p.2).cells.all AV.one = true := fun q p hp => by
      have hq : q < len := by rw [← hlen]; exact (List.getElem?_eq_some_iff.1 hp).1
      have h1 : (parts.toList.map (·.1))[q]? = some p.1 := by rw [List.getElem?_map, hp]; rfl
      rw [hr] at h1
      have h1' : q = p.1 := by simpa [hq] using h1
      have hm : p ∈ parts.toList := List.mem_of_getElem? hp
      have h2 := List.all_eq_true.1 hel _ (List.mem_map.2 ⟨p, hm, rfl⟩)
      simp only [Bool.and_eq_true, beq_iff_eq] at h2
      refine ⟨h1'.symm, ev p.2 ?_, h2.1, h2.2.1, h2.2.2⟩
      simp only [Op.operands]
      exact List.mem_map.2 ⟨p, hm, rfl⟩
    generalize hcells : (Array.range (len * s)).map (fun k => (if len * s = 0 then (#[] : Array Value) else z.cells)[k % (if len * s = 0 then (#[] : Array Value) else z.cells).size]!) = cells0
    have hc0 : cells0.size = len * s := by rw [← hcells]; simp
    obtain ⟨out, o1, o2, _, o4⟩ := fill_row s (parts.toList.map fun p => (p.1, a.eval p.2)) 0 cells0 (fun q x hx => by
      simp only [List.getElem?_map, Option.map_eq_some_iff] at hx
      obtain ⟨p, hp, rfl⟩ := hx
      obtain ⟨p1, p2, p3, p4, p5⟩ := hpart q p hp
      exact ⟨by simpa using p1, by rw [(p2.cells p5).1]; exact p4⟩) (by simp; rw [hc0, ← hlen]; simp)
    have hout : out.size = len * s := by rw [o2, hc0]
    -- what lies where
    have hlie : ∀ (q : Nat) (p : Nat × Operand) (j : Nat) (u : Value), parts.toList[q]? = some p → j < s → out[q * s + j]? = some u → (a.eval p.2).cells[j]? = some u := fun q p j u hp hj hu => by
      have := o4 q (p.1, a.eval p.2) j (by simp only [List.getElem?_map, hp, Option.map_some]) hj
      rw [Nat.zero_add] at this
      rw [← this]; exact hu
    have hsplit : ∀ k, k < len * s → ∃ q j, k = q * s + j ∧ q < len ∧ j < s := fun k hk => ⟨k / s, k % s, by have := Nat.div_add_mod k s; rw [Nat.mul_comm] at this; omega, (Nat.div_lt_iff_lt_mul hs0).2 hk, Nat.mod_lt _ hs0⟩
    obtain ⟨φ', q1, q2, q3⟩ := new_row st (w' := w.alloc (.cells out E)) (Gr.alloc w _) E s hs0 (parts.toList.map fun p => evO env p.2) (.slice (some ⟨w.heap.size, 0, none⟩) len len) out.toList
      ⟨by simp [hout, ← hlen], fun u hu => by
        obtain ⟨k, hk⟩ := List.mem_iff_getElem?.1 hu
        have hk' : out[k]? = some u := by simpa using hk
        have hklt : k < len * s := by rw [← hout]; exact (Array.getElem?_eq_some_iff.1 hk').1
        obtain ⟨q, j, rfl, hq, hj⟩ := hsplit k hklt
        obtain ⟨p, hp⟩ : ∃ p, parts.toList[q]? = some p := ⟨_, List.getElem?_eq_getElem (by omega)⟩
        obtain ⟨_, p2, _, p4, p5⟩ := hpart q p hp
        have hc : (evO env p.2).cells[j]? = some (evO env p.2).cells[j] := List.getElem?_eq_getElem (by omega)
        exact ((p2.cells p5).2 j _ u hc (hlie q p j u hp hj hk')).2,
      .inr ⟨w.heap.size, len, out, (0, 0), by simp [← hlen], heap_alloc_new w _, .inl rfl, by simp [← hlen], by simp only [maxLen]; have := Nat.le_mul_of_pos_right len hs0; omega, hout, by
        rw [List.take_of_length_le]
        simp [hout, ← hlen]⟩⟩
      (fun b hb => by simp [vblk] at hb; subst hb; simp)
      (fun i x hx => by
        simp only [List.getElem?_map, Option.map_eq_some_iff] at hx
        obtain ⟨p, hp, rfl⟩ := hx
        obtain ⟨_, _, p3, p4, _⟩ := hpart i p hp
        exact ⟨p3, p4⟩)
      (fun i x j c u hx hj hu => by
        simp only [List.getElem?_map, Option.map_eq_some_iff] at hx
        obtain ⟨p, hp, rfl⟩ := hx
        obtain ⟨_, p2, _, p4, p5⟩ := hpart i p hp
        have hjs : j < s := by rw [← p4]; exact (List.getElem?_eq_some_iff.1 hj).1
        exact ((p2.cells p5).2 j c u hj (hlie i p j u hp hjs (by simpa using hu))).1)
      ⟨by simp, .inr ⟨w.heap.size, len, by simp [← hlen], by simp [← hlen], _, by simp [← hlen], fun _ => by simp, fun _ => rfl⟩⟩
    refine ⟨_, _, φ', _, _, _, hk, ?_, .inl rfl, q1, q2, by rw [List.length_map, hlen] at q3; exact q3⟩
    have hun : ¬ (2 ^ 24 < len * s) := by omega
    simp only [execOp, Instr.buildSlice, Sem.run_bind, run_underlying hu, run_sizeOf' hsz, Result.andThen_ok]
    rw [if_neg hun]
    have hzv : (zeroValue E).run P w = .ok z w := by simp [zeroValue, typeInfo, hi, hz]
    have htl : (parts.map fun x => (x.1, a.eval x.2)).toList = parts.toList.map fun p => (p.1, a.eval p.2) := by simp
    by_cases h0 : len * s = 0
    · rw [if_pos h0] at hcells ⊢
      simp only [Sem.run_bind, Sem.run_pure, Result.andThen_ok, htl]
      rw [hcells, o1]
      simp [newRow]
    · rw [if_neg h0] at hcells ⊢
      simp only [Sem.run_bind, Sem.run_pure, Result.andThen_ok, htl, hzv]
      rw [hcells, o1]
      simp [newRow]
  case convert src dst' x =>
    have rx := ev x (by simp [Op.operands])
    simp only [eOp] at h
    generalize hxe : a.eval x = vx at rx
    generalize evO env x = ex at h rx
    cases ex <;> (try exact h.elim)
    case own id ver off len =>
      rcases hH : H[id]? with _ | o
      · simp [hH] at h
      cases o <;> simp only [hH] at h
      rename_i v' E0 s0 xs
      cases xs with
      | nil => exact h.elim
      | cons y ys =>
      obtain ⟨rfl, hs1, hoff, rfl, hT, hik, hk⟩ := h
      have hne : (y :: ys) ≠ [] := by simp
      generalize (y :: ys) = xs at *
      subst hs1 hoff
      obtain ⟨hu, hsz, hs0, z, ti⟩ := tyS_spec hT
      have hik' := und_of_ikT hik
      have rx' := rx
      obtain ⟨cs, c1, c2, c3, c4⟩ := st.chunk id _ hH
      cases rx with
      | own _ _ _ _ _ hid ho hv hown =>
        obtain ⟨eo1, e | ⟨g', cap, e1, e2, ad, rfl, e3, e4⟩⟩ := hown _ _ _ hH
        · exact absurd (List.length_eq_zero_iff.1 e.2.2) hne
        rcases c1.2.2 with ⟨hn, _⟩ | ⟨g2, cap', cur, fz, f1, f2, f3, f4, f5, f6, f7⟩
        · rw [hn] at e1; simp at e1
        have hgg : g2 = g' ∧ cap' = cap := by rw [f1] at e1; simpa using e1
        obtain ⟨rfl, rfl⟩ := hgg
        obtain rfl := e4 rfl
        have hg2 : g2 < w.heap.size := (Array.getElem?_eq_some_iff.1 f2).1
        have hblk : ∀ k, k < w.heap.size → vblk (φ id) ≠ some k → (w.freeze ⟨g2, cur.size, none⟩ 1).heap[k]? = w.heap[k]? := fun k _ hne => by
          have hk : k ≠ g2 := fun e => hne (by rw [f1, e]; rfl)
          unfold World.freeze
          simp [Array.getElem?_modify, Ne.symm hk]
        have hsize : (w.freeze ⟨g2, cur.size, none⟩ 1).heap.size = w.heap.size := by unfold World.freeze; simp
        have hx : ∀ b, vblk (φ id) = some b → (vblk (φ id) = some b ∨ w.heap.size ≤ b) ∧ b < (w.freeze ⟨g2, cur.size, none⟩ 1).heap.size := fun b hb => ⟨.inl hb, by rw [hsize]; exact (st.live id _ b hH rfl hb).2⟩
        have hlo : LeO (.slice v' E0 1 xs) (.slice v' E0 1 xs) (φ id) (φ id) := .inr ⟨rfl, rfl, rfl, rfl, rfl⟩
        have le := Le_upd st hH rfl (w' := w.freeze ⟨g2, cur.size, none⟩ 1) (by omega) hblk (φ id) (fun b hb => (hx b hb).1) hlo
        have hnew : ∃ fz', (w.freeze ⟨g2, cur.size, none⟩ 1).heap[g2]? = some (.cells cur E0 fz') ∧ cur.size ≤ fz'.1 := by
          obtain ⟨lo, hi⟩ := fz
          unfold World.freeze
          simp only [Nat.one_ne_zero, if_false, Array.getElem?_modify, if_true, f2, Option.map_some]
          refine ⟨_, rfl, ?_⟩
          split
          · exact Nat.le_refl _
          · rcases f3 with f3 | f3
            · simp at f3; simp_all
            · show cur.size ≤ min lo cur.size
              have f3 : cur.size ≤ lo := f3
              omega
        obtain ⟨fz', n1, n2⟩ := hnew
        have st' := St.upd st hH rfl (w' := w.freeze ⟨g2, cur.size, none⟩ 1) (o' := .slice v' E0 1 xs) rfl rfl rfl (by omega) hblk (φ id) hx hlo
          ⟨cs, ⟨c1.1, c1.2.1, .inr ⟨g2, cap', cur, fz', by rw [updφ_same]; exact f1, n1, .inr n2, f4, f5, f6, f7⟩⟩, c2, c3, fun i x j c u hi hj hu => (c4 i x j c u hi hj hu).le le⟩
        refine ⟨_, _, _, .slice (some ⟨g2, 0, none⟩) len (cap' - 0), _, _, hk, ?_, .inl rfl, st', le, rx'.le le⟩
        simp only [execOp, hxe, Sem.run_bind, run_conv_mark hu hik' f2, Result.andThen_ok, Sem.run_pure]
    rename_i s
    cases rx
    obtain ⟨hsrc, hT, hik, hlen, hk⟩ := h
    obtain ⟨hu, hsz, hs0, z, ti⟩ := tyS_spec hT
    obtain ⟨d, hd⟩ := Option.isSome_iff_exists.1 hsrc
    generalize (elT P dst').getD 0 = E at *
    have hrun := Lib.run_convert_string_bytes (P := P) w src dst' E ⟨s.toArray⟩ hd hu (und_of_ikT hik)
    have hsize : (⟨s.toArray⟩ : ByteArray).size = s.length := rfl
    have hge := grownCap_ge w (⟨s.toArray⟩ : ByteArray).size 0 E
    have hcm := grownCap_le_maxLen w (⟨s.toArray⟩ : ByteArray).size 0 E (by rw [hsize]; simpa [maxLen] using hlen)
    have hcs : (Lib.bytesCells w E ⟨s.toArray⟩).size = grownCap w (⟨s.toArray⟩ : ByteArray).size 0 E := by
      simp only [Lib.bytesCells, Array.size_append, Array.size_map, Array.size_replicate]
      rw [hsize] at hge ⊢
      have : s.toArray.size = s.length := by simp
      rw [this]
      omega
    obtain ⟨m1, m2, m3⟩ := bytes_news (w := w) (φ := φ) (H := H) s
    have g : Gr w (Lib.bytesWorld w E ⟨s.toArray⟩) := ⟨rfl, rfl, rfl, by rw [Lib.bytesWorld_size]; omega, fun k hk _ => Lib.bytesWorld_at_old w E _ k hk⟩
    obtain ⟨φ', q1, q2, q3⟩ := new_row st g E 1 hs0 (s.map encB) (.slice (some ⟨w.heap.size, 0, none⟩) (⟨s.toArray⟩ : ByteArray).size (grownCap w (⟨s.toArray⟩ : ByteArray).size 0 E)) (s.map fun b => Value.int .u8 b.toNat)
      ⟨by simp, m1, .inr ⟨w.heap.size, grownCap w (⟨s.toArray⟩ : ByteArray).size 0 E, _, _, by simp [hsize], Lib.bytesWorld_at_new w E _, .inr (Nat.le_refl _), by simpa [hsize] using hge, hcm, by rw [hcs, Nat.mul_one], by
        simp [Lib.bytesCells]⟩⟩
      (fun b hb => by simp [vblk] at hb; subst hb; exact ⟨Nat.le_refl _, by rw [Lib.bytesWorld_size]; omega⟩) m2 m3
      ⟨by simp, .inr ⟨w.heap.size, grownCap w (⟨s.toArray⟩ : ByteArray).size 0 E, by simp [hsize], by simpa [hsize] using hge, _, by simp [hsize], fun _ => by simp, fun _ => rfl⟩⟩
    rw [List.length_map] at q3
    exact ⟨_, _, φ', _, _, _, hk, by simp [execOp, hxe, hrun], .inl rfl, q1, q2, q3⟩
  case call c =>
    obtain ⟨callee, args, argTypes⟩ := c
    cases callee <;> (try exact h.elim)
    rename_i b
    cases b <;> (try exact h.elim)
    case append =>
      obtain ⟨args⟩ := args
      obtain ⟨argTypes⟩ := argTypes
      rcases args with _ | ⟨x, _ | ⟨y, _ | ⟨x2, args⟩⟩⟩
      · exact h.elim
      · exact h.elim
      · rcases argTypes with _ | ⟨t, _ | ⟨t2, _ | ⟨t3, argTypes⟩⟩⟩
        · exact h.elim
        · exact h.elim
        · obtain ⟨z, H', φ', v, w', hk, q1, q2, q3, q4⟩ := app_sound (ty := ty) st (ev x (by simp [Op.operands, Call.operands])) (ev y (by simp [Op.operands, Call.operands])) h
          refine ⟨z, H', φ', v, _, w', hk, ?_, .inl rfl, q2, q3, q4⟩
          simp only [execOp, resolve, invoke, builtin, Sem.run_bind, Sem.run_pure, Result.andThen_ok, List.map_toArray, List.map_cons, List.map_nil, q1]
        · exact h.elim
      · exact h.elim
    case unsafeString =>
      obtain ⟨args⟩ := args
      obtain ⟨argTypes⟩ := argTypes
      rcases args with _ | ⟨x, _ | ⟨y, _ | ⟨x2, args⟩⟩⟩
      · exact h.elim
      · exact h.elim
      · rcases argTypes with _ | ⟨t, _ | ⟨t2, _ | ⟨t3, argTypes⟩⟩⟩
        · exact h.elim
        · exact h.elim
        · obtain ⟨z, H', φ', v, w', hk, q1, q2, q3, q4⟩ := us_sound (it := t2) (ty := ty) st (ev x (by simp [Op.operands, Call.operands])) (ev y (by simp [Op.operands, Call.operands])) h
          refine ⟨z, H', φ', v, _, w', hk, ?_, .inl rfl, q2, q3, q4⟩
          simp only [execOp, resolve, invoke, builtin, Sem.run_bind, Sem.run_pure, Result.andThen_ok, List.map_toArray, List.map_cons, List.map_nil, q1]
        · exact h.elim
      · exact h.elim
end
end Go.Av
