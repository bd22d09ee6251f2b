/- The abstract values of a walk (Av), part A: what a slot may hold, when a value of the model is described by it, and that this stays so while the world grows. No program in sight. -/
import Derived.Test.YteahieldmfehlaaDoorGlo
import Derived.WalkKit
import Derived.WalkSpells
import Derived.WalkLawsBesides
import Derived.Deep.Quiet
namespace Go.Av
open Go.RowKit
set_option linter.unusedVariables false

inductive AV where
  | dead
  | sc (v : Value)
  | int (k : IntKind) (n : Int)
  | bool (b : Bool)
  | str (s : List UInt8)
  | view (s : Nat) (xs : List AV)
  | viewx (s : Nat) (xs : List AV) (n : Nat)
  | own (id ver off len : Nat)
  | vptr (x : AV) (off : Nat)
  | optr (id ver i off : Nat)
  | bptr (id off : Nat)
  | agg (xs : List AV)
  | tup (xs : List AV)
  | fn (f : FuncId) (caps : List AV)
  | iface (t : TypeId) (x : AV)
  deriving Inhabited

inductive AO where
  | slice (ver : Nat) (E : TypeId) (size : Nat) (xs : List AV)
  | box (T : TypeId) (cs : List AV)
  | iter (s : List UInt8) (pos : Nat)
  | gone
  deriving Inhabited

def AO.live : AO → Bool
  | .gone => false
  | _ => true

/-- it is one that a pointer leads to -/
def AO.pb : AO → Bool
  | .box _ _ => true
  | .iter _ _ => true
  | _ => false

def AV.cells : AV → List AV
  | .agg xs => xs
  | x => [x]

mutual
/-- it names no object of ours -/
def AV.closed : AV → Bool
  | .dead | .sc _ | .int _ _ | .bool _ | .str _ | .view _ _ | .viewx _ _ _ | .vptr _ _ => true
  | .own _ _ _ _ | .optr _ _ _ _ | .bptr _ _ => false
  | .agg xs => AV.closedL xs
  | .tup xs => AV.closedL xs
  | .fn _ xs => AV.closedL xs
  | .iface _ x => x.closed
def AV.closedL : List AV → Bool
  | [] => true
  | x :: r => x.closed && AV.closedL r
end
theorem AV.closedL_get : ∀ (xs : List AV) (i : Nat) (x : AV), AV.closedL xs = true → xs[i]? = some x → x.closed = true
  | [], i, x, _, h => by simp at h
  | y :: r, 0, x, hc, h => by simp [AV.closedL] at hc h; rw [← h]; exact hc.1
  | y :: r, i + 1, x, hc, h => by simp [AV.closedL] at hc h; exact AV.closedL_get r i x hc.2 h
theorem AV.closed_cells {x : AV} (h : x.closed = true) {j : Nat} {c : AV} (hj : x.cells[j]? = some c) : c.closed = true := by
  cases x <;> simp only [AV.cells] at hj
  case agg xs => exact AV.closedL_get xs j c (by simpa [AV.closed] using h) hj
  all_goals
    match j, hj with
    | 0, hj => simp at hj; subst hj; exact h
    | j + 1, hj => simp at hj

/-- the block that a full value of an object of ours begins at -/
def vblk : Value → Option Nat
  | .slice (some a) _ _ => some a.block
  | .pointer (some a) => some a.block
  | _ => none

/-- block b is no block of a live object -/
def NL (φ : Nat → Value) (H : List AO) (b : Nat) : Prop := ∀ id o, H[id]? = some o → o.live = true → vblk (φ id) ≠ some b

/-- v is the piece of len elements from off on of the own slice whose full value is 'full' -/
def OwnV (full : Value) (size n off len : Nat) (v : Value) : Prop :=
  off + len ≤ n ∧ ((full = .slice none 0 0 ∧ v = .slice none 0 0 ∧ n = 0) ∨
    ∃ g cap, full = .slice (some ⟨g, 0, none⟩) n cap ∧ n ≤ cap ∧ ∃ ad, v = .slice ad len (cap - off) ∧ (off < cap → ad = some ⟨g, off * size, none⟩) ∧ (off = 0 → ad = some ⟨g, 0, none⟩))

inductive R (w : World) (φ : Nat → Value) (H : List AO) : AV → Value → Prop
  | dead (v : Value) : R w φ H .dead v
  | sc (v : Value) : R w φ H (.sc v) v
  | int (k : IntKind) (n : Int) : R w φ H (.int k n) (.int k n)
  | bool (b : Bool) : R w φ H (.bool b) (.bool b)
  | str (s : List UInt8) : R w φ H (.str s) (.string ⟨s.toArray⟩)
  | view0 (s : Nat) (ad : Option Addr) (cap : Nat) : R w φ H (.view s []) (.slice ad 0 cap)
  | view (xs : List AV) (b off size cap : Nat) (u : Nat → Nat → Value) (hcap : xs.length ≤ cap) (hb : b < w.heap.size) (hl : NL φ H b) (hcl : ∀ (i : Nat) (x : AV), xs[i]? = some x → x.closed = true) (hs : ∀ (i : Nat) (x : AV), xs[i]? = some x → x.cells.length = size)
      (hc : ∀ (i : Nat) (x : AV) (j : Nat) (c : AV), xs[i]? = some x → x.cells[j]? = some c → w.cell? ⟨b, off + i * size + j, none⟩ = some (u i j) ∧ (u i j).oneCell' = true)
      (hr : ∀ (i : Nat) (x : AV) (j : Nat) (c : AV), xs[i]? = some x → x.cells[j]? = some c → R w φ H c (u i j)) : R w φ H (.view size xs) (.slice (some ⟨b, off, none⟩) xs.length cap)
  | viewx (xs : List AV) (n b off size cap : Nat) (u : Nat → Nat → Value) (hn : n ≤ xs.length) (hcap : xs.length ≤ cap) (hb : b < w.heap.size) (hl : NL φ H b) (hcl : ∀ (i : Nat) (x : AV), xs[i]? = some x → x.closed = true) (hs : ∀ (i : Nat) (x : AV), xs[i]? = some x → x.cells.length = size)
      (hc : ∀ (i : Nat) (x : AV) (j : Nat) (c : AV), xs[i]? = some x → x.cells[j]? = some c → w.cell? ⟨b, off + i * size + j, none⟩ = some (u i j) ∧ (u i j).oneCell' = true)
      (hr : ∀ (i : Nat) (x : AV) (j : Nat) (c : AV), xs[i]? = some x → x.cells[j]? = some c → R w φ H c (u i j)) : R w φ H (.viewx size xs n) (.slice (some ⟨b, off, none⟩) n cap)
  | own (id ver off len : Nat) (v : Value) (hid : id < H.length) (ho : v.oneCell' = true) (hv : ∀ v' E s xs, H[id]? = some (.slice v' E s xs) → ver ≤ v') (h : ∀ E size xs, H[id]? = some (.slice ver E size xs) → OwnV (φ id) size xs.length off len v) : R w φ H (.own id ver off len) v
  | vptr (x : AV) (off b o : Nat) (u : Nat → Value) (hcl : x.closed = true) (hb : b < w.heap.size) (hl : NL φ H b)
      (hc : ∀ (j : Nat) (c : AV), x.cells[off + j]? = some c → w.cell? ⟨b, o + j, none⟩ = some (u j) ∧ (u j).oneCell' = true)
      (hr : ∀ (j : Nat) (c : AV), x.cells[off + j]? = some c → R w φ H c (u j)) : R w φ H (.vptr x off) (.pointer (some ⟨b, o, none⟩))
  | optr (id ver i off : Nat) (v : Value) (hid : id < H.length) (ho : v.oneCell' = true) (hv : ∀ v' E s xs, H[id]? = some (.slice v' E s xs) → ver ≤ v')
      (h : ∀ E size xs, H[id]? = some (.slice ver E size xs) → ∃ g n cap, φ id = .slice (some ⟨g, 0, none⟩) n cap ∧ v = .pointer (some ⟨g, i * size + off, none⟩)) : R w φ H (.optr id ver i off) v
  | bptr (id off : Nat) (v : Value) (hid : id < H.length) (ho : v.oneCell' = true)
      (h : ∀ o, H[id]? = some o → o.pb = true → ∃ g, φ id = .pointer (some ⟨g, 0, none⟩) ∧ v = .pointer (some ⟨g, off, none⟩)) : R w φ H (.bptr id off) v
  | agg (xs : List AV) (us : Array Value) (hs : us.size = xs.length) (hr : ∀ (i : Nat) (x : AV) (u : Value), xs[i]? = some x → us[i]? = some u → R w φ H x u) : R w φ H (.agg xs) (.agg us)
  | tup (xs : List AV) (us : Array Value) (hs : us.size = xs.length) (hr : ∀ (i : Nat) (x : AV) (u : Value), xs[i]? = some x → us[i]? = some u → R w φ H x u) : R w φ H (.tup xs) (.tuple us)
  | fn (f : FuncId) (xs : List AV) (us : Array Value) (hs : us.size = xs.length) (hr : ∀ (i : Nat) (x : AV) (u : Value), xs[i]? = some x → us[i]? = some u → R w φ H x u) : R w φ H (.fn f xs) (.func (.func f) #[] us)
  | iface (t : TypeId) (x : AV) (u : Value) (hr : R w φ H x u) : R w φ H (.iface t x) (.iface t u)

/-- the cells of the own slice 'v' of n elements are cs -/
def OwnRow (w : World) (E : TypeId) (size : Nat) (v : Value) (n : Nat) (cs : List Value) : Prop :=
  cs.length = n * size ∧ (∀ u ∈ cs, u.oneCell' = true) ∧ ((v = .slice none 0 0 ∧ n = 0) ∨
    ∃ g cap cur fz, v = .slice (some ⟨g, 0, none⟩) n cap ∧ w.heap[g]? = some (.cells cur E fz) ∧ (fz = (0, 0) ∨ cur.size ≤ fz.1) ∧ n ≤ cap ∧ cap ≤ maxLen ∧ cur.size = cap * size ∧ cur.toList.take (n * size) = cs)

def Chunk (w : World) (φ : Nat → Value) (H : List AO) (id : Nat) : AO → Prop
  | .slice _ E size xs => ∃ cs : List Value, OwnRow w E size (φ id) xs.length cs ∧ 0 < size ∧ (∀ (i : Nat) (x : AV), xs[i]? = some x → x.closed = true ∧ x.cells.length = size) ∧
      ∀ (i : Nat) (x : AV) (j : Nat) (c : AV) (u : Value), xs[i]? = some x → x.cells[j]? = some c → cs[i * size + j]? = some u → R w φ H c u
  | .box T cs => ∃ g arr, φ id = .pointer (some ⟨g, 0, none⟩) ∧ w.heap[g]? = some (.cells arr T (0, 0)) ∧ arr.size = cs.length ∧
      ∀ (i : Nat) (c : AV) (u : Value), cs[i]? = some c → arr[i]? = some u → R w φ H c u ∧ u.oneCell' = true
  | .iter s pos => ∃ g, φ id = .pointer (some ⟨g, 0, none⟩) ∧ w.heap[g]? = some (.stringIter ⟨s.toArray⟩ pos)
  | .gone => True

/-- what is below B, but for the blocks X, is as it was -/
structure Frame (B : Nat) (X : Nat → Prop) (w w' : World) : Prop where
  os : w'.os = w.os
  tape : w'.tape = w.tape
  output : w'.output = w.output
  size : w.heap.size ≤ w'.heap.size
  block : ∀ k, k < B → ¬ X k → w'.heap[k]? = w.heap[k]?

theorem Frame.refl (B : Nat) (X : Nat → Prop) (w : World) : Frame B X w w := ⟨rfl, rfl, rfl, Nat.le_refl _, fun _ _ _ => rfl⟩
theorem Frame.trans {B : Nat} {X : Nat → Prop} {a b c : World} (h : Frame B X a b) (k : Frame B X b c) : Frame B X a c :=
  ⟨k.os.trans h.os, k.tape.trans h.tape, k.output.trans h.output, Nat.le_trans h.size k.size, fun i hi hx => (k.block i hi hx).trans (h.block i hi hx)⟩

/-- the variables' blocks lie below B, and none of them is written -/
structure GK (B : Nat) (X : Nat → Prop) (w0 : World) : Prop where
  gw : GW w0
  lt : ∀ b ∈ GB, b < B ∧ ¬ X b

/-- the memory part of a walk's state -/
structure St (B : Nat) (X : Nat → Prop) (w0 w : World) (φ : Nat → Value) (H : List AO) : Prop where
  frame : Frame B X w0 w
  base : B ≤ w0.heap.size
  glob : GK B X w0
  live : ∀ id o b, H[id]? = some o → o.live = true → vblk (φ id) = some b → (B ≤ b ∨ X b) ∧ b < w.heap.size
  inj : ∀ id id' o o' b, H[id]? = some o → o.live = true → H[id']? = some o' → o'.live = true → vblk (φ id) = some b → vblk (φ id') = some b → id = id'
  chunk : ∀ id o, H[id]? = some o → Chunk w φ H id o

theorem St.gw {B : Nat} {X : Nat → Prop} {w0 w : World} {φ : Nat → Value} {H : List AO} (st : St B X w0 w φ H) : GW w :=
  GW_keep st.glob.gw fun b hb => st.frame.block b (st.glob.lt b hb).1 (st.glob.lt b hb).2
theorem GK.of {w : World} (h : GW w) : GK w.heap.size (fun _ => False) w := ⟨h, fun b hb => ⟨GW_lt h b hb, fun h => h⟩⟩

abbrev Env := Nat → AV
/-- the frame's slots read so; from n on: 'g', values of a caller's that are remembered -/
structure EnvOK (w : World) (φ : Nat → Value) (H : List AO) (env : Env) (a : Act) (n : Nat) (g : Nat → Value) : Prop where
  size : a.tmps.size = n
  defers : a.defers = []
  slot : ∀ t, t < n → R w φ H (env t) (a.tmps.getD t undef)
  ghost : ∀ t, n ≤ t → R w φ H (env t) (g t)

/-- from (w, φ, H) to (w', φ', H') nothing that is read has turned -/
structure Le (w : World) (φ : Nat → Value) (H : List AO) (w' : World) (φ' : Nat → Value) (H' : List AO) : Prop where
  size : w.heap.size ≤ w'.heap.size
  nl : ∀ b, b < w.heap.size → NL φ H b → NL φ' H' b ∧ ∀ o, w'.cell? ⟨b, o, none⟩ = w.cell? ⟨b, o, none⟩
  len : H.length ≤ H'.length
  vs : ∀ id v' E s xs', id < H.length → H'[id]? = some (.slice v' E s xs') → ∃ v E' s' xs, H[id]? = some (.slice v E' s' xs) ∧ v ≤ v'
  sl : ∀ id ver E size xs', id < H.length → (∀ v' E s xs, H[id]? = some (.slice v' E s xs) → ver ≤ v') → H'[id]? = some (.slice ver E size xs') → ∃ xs, H[id]? = some (.slice ver E size xs) ∧ xs.length = xs'.length ∧ φ' id = φ id
  bx : ∀ id o', id < H.length → H'[id]? = some o' → o'.pb = true → ∃ o, H[id]? = some o ∧ o.pb = true ∧ φ' id = φ id

theorem Le.refl (w : World) (φ : Nat → Value) (H : List AO) : Le w φ H w φ H :=
  ⟨Nat.le_refl _, fun _ _ h => ⟨h, fun _ => rfl⟩, Nat.le_refl _, fun _ v E s xs _ h => ⟨v, E, s, xs, h, Nat.le_refl _⟩, fun _ _ _ _ xs' _ _ h => ⟨xs', h, rfl, rfl⟩, fun _ o _ h hp => ⟨o, h, hp, rfl⟩⟩

theorem R.le {w w' : World} {φ φ' : Nat → Value} {H H' : List AO} (h : Le w φ H w' φ' H') {x : AV} {v : Value} (r : R w φ H x v) : R w' φ' H' x v := by
  induction r with
  | dead v => exact .dead v
  | sc v => exact .sc v
  | int k n => exact .int k n
  | bool b => exact .bool b
  | str s => exact .str s
  | view0 s ad cap => exact .view0 s ad cap
  | viewx xs n b off size cap u hn hcap hb hl hcl hs hc hr ih =>
    obtain ⟨h1, h2⟩ := h.nl b hb hl
    exact .viewx xs n b off size cap u hn hcap (Nat.lt_of_lt_of_le hb h.size) h1 hcl hs (fun i x j c hi hj => by rw [h2]; exact hc i x j c hi hj) ih
  | view xs b off size cap u hcap hb hl hcl hs hc hr ih =>
    obtain ⟨h1, h2⟩ := h.nl b hb hl
    exact .view xs b off size cap u hcap (Nat.lt_of_lt_of_le hb h.size) h1 hcl hs (fun i x j c hi hj => by rw [h2]; exact hc i x j c hi hj) ih
  | own id ver off len v hid ho hv hh =>
    refine .own id ver off len v (Nat.lt_of_lt_of_le hid h.len) ho (fun v' E s xs hx => ?_) fun E size xs hx => ?_
    · obtain ⟨v0, E0, s0, xs0, e1, e2⟩ := h.vs id v' E s xs hid hx
      exact Nat.le_trans (hv v0 E0 s0 xs0 e1) e2
    obtain ⟨xs0, e1, e2, e3⟩ := h.sl id ver E size xs hid hv hx
    rw [e3, ← e2]
    exact hh E size xs0 e1
  | vptr x off b o u hcl hb hl hc hr ih =>
    obtain ⟨h1, h2⟩ := h.nl b hb hl
    exact .vptr x off b o u hcl (Nat.lt_of_lt_of_le hb h.size) h1 (fun j c hj => by rw [h2]; exact hc j c hj) ih
  | optr id ver i off v hid ho hv hh =>
    refine .optr id ver i off v (Nat.lt_of_lt_of_le hid h.len) ho (fun v' E s xs hx => ?_) fun E size xs hx => ?_
    · obtain ⟨v0, E0, s0, xs0, e1, e2⟩ := h.vs id v' E s xs hid hx
      exact Nat.le_trans (hv v0 E0 s0 xs0 e1) e2
    obtain ⟨xs0, e1, _, e3⟩ := h.sl id ver E size xs hid hv hx
    rw [e3]
    exact hh E size xs0 e1
  | bptr id off v hid ho hh =>
    refine .bptr id off v (Nat.lt_of_lt_of_le hid h.len) ho fun o hx hp => ?_
    obtain ⟨o0, e1, e2, e3⟩ := h.bx id o hid hx hp
    rw [e3]
    exact hh o0 e1 e2
  | agg xs us hs hr ih => exact .agg xs us hs ih
  | tup xs us hs hr ih => exact .tup xs us hs ih
  | fn f xs us hs hr ih => exact .fn f xs us hs ih
  | iface t x u hr ih => exact .iface t x u ih

/-- what names no object of ours reads so by itself -/
theorem R.alone {w : World} {φ : Nat → Value} {H : List AO} {x : AV} {v : Value} (r : R w φ H x v) : x.closed = true → R w (fun _ => .tuple #[]) [] x v := by
  induction r with
  | dead v => exact fun _ => .dead v
  | sc v => exact fun _ => .sc v
  | int k n => exact fun _ => .int k n
  | bool b => exact fun _ => .bool b
  | str s => exact fun _ => .str s
  | view0 s ad cap => exact fun _ => .view0 s ad cap
  | viewx xs n b off size cap u hn hcap hb hl hcl hs hc hr ih =>
    exact fun _ => .viewx xs n b off size cap u hn hcap hb (fun id o h => by simp at h) hcl hs hc (fun i x j c hi hj => ih i x j c hi hj (AV.closed_cells (hcl i x hi) hj))
  | view xs b off size cap u hcap hb hl hcl hs hc hr ih =>
    exact fun _ => .view xs b off size cap u hcap hb (fun id o h => by simp at h) hcl hs hc (fun i x j c hi hj => ih i x j c hi hj (AV.closed_cells (hcl i x hi) hj))
  | own id ver off len v hid ho hv hh => intro h; simp [AV.closed] at h
  | vptr x off b o u hcl hb hl hc hr ih =>
    exact fun _ => .vptr x off b o u hcl hb (fun id o h => by simp at h) hc (fun j c hj => ih j c hj (AV.closed_cells hcl hj))
  | optr id ver i off v hid ho hv hh => intro h; simp [AV.closed] at h
  | bptr id off v hid ho hh => intro h; simp [AV.closed] at h
  | agg xs us hs hr ih => exact fun h => .agg xs us hs (fun i x u hi hu => ih i x u hi hu (AV.closedL_get xs i x (by simpa [AV.closed] using h) hi))
  | tup xs us hs hr ih => exact fun h => .tup xs us hs (fun i x u hi hu => ih i x u hi hu (AV.closedL_get xs i x (by simpa [AV.closed] using h) hi))
  | fn f xs us hs hr ih => exact fun h => .fn f xs us hs (fun i x u hi hu => ih i x u hi hu (AV.closedL_get xs i x (by simpa [AV.closed] using h) hi))
  | iface t x u hr ih => exact fun h => .iface t x u (ih (by simpa [AV.closed] using h))

/-- and what reads by itself reads so beside objects of ours, if their blocks lie elsewhere: here: from B on -/
theorem R.beside {w : World} {x : AV} {v : Value} (r : R w (fun _ => .tuple #[]) [] x v) {w' : World} {φ : Nat → Value} {H : List AO}
    (hsz : w.heap.size ≤ w'.heap.size) (hcell : ∀ b o, b < w.heap.size → w'.cell? ⟨b, o, none⟩ = w.cell? ⟨b, o, none⟩) (hnl : ∀ b, b < w.heap.size → NL φ H b) : R w' φ H x v :=
  r.le ⟨hsz, fun b hb _ => ⟨hnl b hb, fun o => hcell b o hb⟩, Nat.zero_le _, fun id _ _ _ _ h => by simp at h, fun id _ _ _ _ h => by simp at h, fun id _ h => by simp at h⟩

theorem EnvOK.le {w w' : World} {φ φ' : Nat → Value} {H H' : List AO} (h : Le w φ H w' φ' H') {env : Env} {a : Act} {n : Nat} {g : Nat → Value} (e : EnvOK w φ H env a n g) : EnvOK w' φ' H' env a n g :=
  ⟨e.size, e.defers, fun t ht => (e.slot t ht).le h, fun t ht => (e.ghost t ht).le h⟩

def upd (e : Env) (d : Nat) (v : AV) : Env := fun t => if t = d then v else e t
theorem upd_same (e : Env) (d : Nat) (v : AV) : upd e d v d = v := by simp [upd]
theorem upd_ne (e : Env) (d t : Nat) (v : AV) (h : t ≠ d) : upd e d v t = e t := by simp [upd, h]
def put (e : Env) : Option Tmp → AV → Env
  | some d, v => upd e d v
  | none, _ => e

def dstOK (n : Nat) : Option Tmp → Bool
  | some d => decide (d < n)
  | none => true
theorem EnvOK.put {w : World} {φ : Nat → Value} {H : List AO} {env : Env} {a : Act} {n : Nat} {g : Nat → Value} (e : EnvOK w φ H env a n g) (dst : Option Tmp) (hd : dstOK n dst = true) {x : AV} {v : Value} (r : R w φ H x v) :
    EnvOK w φ H (put env dst x) (a.put dst v) n g := by
  cases dst with
  | none => exact e
  | some d =>
    have hdn : d < n := by simpa [dstOK] using hd
    refine ⟨by simp [Act.put, e.size], e.defers, fun t ht => ?_, fun t ht => ?_⟩
    · simp only [Av.put, Act.put, upd]
      by_cases h : t = d
      · subst h
        have : t < a.tmps.size := by rw [e.size]; exact ht
        simp [this, r]
      · rw [if_neg h, Array.getD_eq_getD_getElem?, Array.getElem?_setIfInBounds_ne (by omega), ← Array.getD_eq_getD_getElem?]
        exact e.slot t ht
    · have h : ¬ t = d := fun h => Nat.lt_irrefl _ (Nat.lt_of_lt_of_le hdn (h ▸ ht))
      simp only [Av.put, upd]
      rw [if_neg h]
      exact e.ghost t ht

/-- a slot may be told anew, if what it holds is described so too -/
theorem EnvOK.say {w : World} {φ : Nat → Value} {H : List AO} {env : Env} {a : Act} {n : Nat} {g : Nat → Value} (e : EnvOK w φ H env a n g) (d : Nat) (hd : d < n) {x : AV} (r : R w φ H x (a.tmps.getD d undef)) :
    EnvOK w φ H (upd env d x) a n g :=
  ⟨e.size, e.defers, fun t ht => by
    unfold upd
    by_cases h : t = d
    · subst h; rw [if_pos rfl]; exact r
    · rw [if_neg h]; exact e.slot t ht, fun t ht => by
    have h : ¬ t = d := fun h => absurd ht (by rw [h]; omega)
    unfold upd
    rw [if_neg h]; exact e.ghost t ht⟩

end Go.Av
