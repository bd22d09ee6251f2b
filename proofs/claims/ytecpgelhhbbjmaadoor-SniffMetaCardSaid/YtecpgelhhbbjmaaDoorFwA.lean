/- Av, the head: what the walks ask of the package-level variables' blocks. -/
import Derived.WalkKit
import Derived.Lib.LaidTab
import Derived.Lib.ItoaNum
import Derived.WalkSpells
import Derived.WalkLawsBesides
import Derived.Deep.Quiet
import Derived.LoopN
import Derived.Laws.BytesArg
import Derived.Lib.Builder
namespace Go.Av
/-- the block g holds just these numbers -/
def TabB (w : World) (g : Nat) (k : IntKind) (zs : List Int) : Prop := ∃ t fz, w.heap[g]? = some (.cells (zs.map fun z => Value.int k z).toArray t fz)
theorem TabB.keep {w w' : World} {g : Nat} {k : IntKind} {zs : List Int} (h : TabB w g k zs) (hk : w'.heap[g]? = w.heap[g]?) : TabB w' g k zs := by
  obtain ⟨t, fz, h⟩ := h
  exact ⟨t, fz, hk.trans h⟩
theorem TabB.lt {w : World} {g : Nat} {k : IntKind} {zs : List Int} (h : TabB w g k zs) : g < w.heap.size := by
  obtain ⟨t, fz, h⟩ := h
  exact (Array.getElem?_eq_some_iff.1 h).1
theorem TabB.is {P : Program} {w : World} {g : Nat} {name : String} {k : IntKind} {zs : List Int} (h : TabB w g k zs) (hg : P.globalNamed name = some g) : Lib.TabIs P w name k zs := by
  obtain ⟨t, fz, h⟩ := h
  unfold Lib.TabIs World.var?
  rw [hg]
  simp [h]
theorem TabB.of {P : Program} {w : World} {g : Nat} {name : String} {k : IntKind} {zs : List Int} (h : Lib.TabIs P w name k zs) (hg : P.globalNamed name = some g) : TabB w g k zs := by
  unfold Lib.TabIs World.var? at h
  rw [hg] at h
  simp only [Option.bind_some] at h
  split at h
  · rename_i cs t fz hh
    obtain rfl := Option.some.inj h
    exact ⟨t, fz, hh⟩
  · cases h
/-- the library's word on its search: whatever number -/
def GWm (w : World) : Prop := ∃ m : Int, w.cell? ⟨0, 0, none⟩ = some (.int .i64 m)
def GBm : List Nat := [0]
theorem GWm_keep {w w' : World} (h : GWm w) (hk : ∀ b ∈ GBm, w'.heap[b]? = w.heap[b]?) : GWm w' :=
  let ⟨m, hm⟩ := h
  ⟨m, by rw [World.cell?_of_block (hk _ (by simp [GBm]))]; exact hm⟩
theorem GWm_lt {w : World} (h : GWm w) : ∀ b ∈ GBm, b < w.heap.size := fun b hb => by
  obtain ⟨m, hm⟩ := h
  simp [GBm] at hb
  subst hb
  rcases Nat.lt_or_ge 0 w.heap.size with h | h
  · exact h
  · simp [World.cell?, Array.getElem?_eq_none h] at hm
/-- a table of math/bits: where a power of two has its one -/
def dbTab : List Int := [0, 1, 56, 2, 57, 49, 28, 3, 61, 58, 42, 50, 38, 29, 17, 4, 62, 47, 59, 36, 45, 43, 51, 22, 53, 39, 33, 30, 24, 18, 12, 5, 63, 55, 48, 27, 60, 41, 37, 16, 46, 35, 44, 21, 52, 32, 23, 11, 54, 26, 40, 15, 34, 20, 31, 10, 25, 14, 19, 9, 13, 8, 7, 6]
def GWp (_w : World) : Prop := True
def GBp : List Nat := []
theorem GWp_keep {w w' : World} (_h : GWp w) (_hk : ∀ b ∈ GBp, w'.heap[b]? = w.heap[b]?) : GWp w' := trivial
theorem GWp_lt {w : World} (_h : GWp w) : ∀ b ∈ GBp, b < w.heap.size := fun b hb => by simp [GBp] at hb
def GWd (_w : World) : Prop := True
def GBd : List Nat := []
theorem GWd_keep {w w' : World} (_h : GWd w) (_hk : ∀ b ∈ GBd, w'.heap[b]? = w.heap[b]?) : GWd w' := trivial
theorem GWd_lt {w : World} (_h : GWd w) : ∀ b ∈ GBd, b < w.heap.size := fun b hb => by simp [GBd] at hb
def GW (w : World) : Prop := GWm w ∧ GWp w ∧ GWd w
def GB : List Nat := GBm ++ GBp ++ GBd
theorem GW_keep {w w' : World} (h : GW w) (hk : ∀ b ∈ GB, w'.heap[b]? = w.heap[b]?) : GW w' :=
  ⟨GWm_keep h.1 fun b hb => hk b (by simp [GB, hb]), GWp_keep h.2.1 fun b hb => hk b (by simp [GB, hb]), GWd_keep h.2.2 fun b hb => hk b (by simp [GB, hb])⟩
theorem GW_lt {w : World} (h : GW w) : ∀ b ∈ GB, b < w.heap.size := fun b hb => by
  simp only [GB, List.mem_append] at hb
  rcases hb with (hb | hb) | hb
  · exact GWm_lt h.1 b hb
  · exact GWp_lt h.2.1 b hb
  · exact GWd_lt h.2.2 b hb
end Go.Av
namespace Go.Av
open Go.RowKit
set_option linter.unusedVariables false

inductive AV where
  | dead
  | sc (v : Value)
  | int (k : IntKind) (n : Int)
  | bool (b : Bool)
  | str (s : List UInt8)
  | view (s : Nat) (xs : List AV)
  | viewx (s : Nat) (xs : List AV) (n : Nat)
  | own (id ver off len : Nat)
  | vptr (x : AV) (off : Nat)
  | optr (id ver i off : Nat)
  | bptr (id off : Nat)
  | agg (xs : List AV)
  | tup (xs : List AV)
  | fn (f : FuncId) (caps : List AV)
  | iface (t : TypeId) (x : AV)
  deriving Inhabited

inductive AO where
  | slice (ver : Nat) (E : TypeId) (size : Nat) (xs : List AV)
  | box (T : TypeId) (cs : List AV)
  | iter (s : List UInt8) (pos : Nat)
  | gone
  deriving Inhabited

def AO.live : AO → Bool
  | .gone => false
  | _ => true

/-- it is one that a pointer leads to -/
def AO.pb : AO → Bool
  | .box _ _ => true
  | .iter _ _ => true
  | _ => false

def AV.cells : AV → List AV
  | .agg xs => xs
  | x => [x]

mutual
/-- it names no object of ours -/
def AV.closed : AV → Bool
  | .dead | .sc _ | .int _ _ | .bool _ | .str _ | .view _ _ | .viewx _ _ _ | .vptr _ _ => true
  | .own _ _ _ _ | .optr _ _ _ _ | .bptr _ _ => false
  | .agg xs => AV.closedL xs
  | .tup xs => AV.closedL xs
  | .fn _ xs => AV.closedL xs
  | .iface _ x => x.closed
def AV.closedL : List AV → Bool
  | [] => true
  | x :: r => x.closed && AV.closedL r
end
theorem AV.closedL_get : ∀ (xs : List AV) (i : Nat) (x : AV), AV.closedL xs = true → xs[i]? = some x → x.closed = true
  | [], i, x, _, h => by simp at h
  | y :: r, 0, x, hc, h => by simp [AV.closedL] at hc h; rw [← h]; exact hc.1
  | y :: r, i + 1, x, hc, h => by simp [AV.closedL] at hc h; exact AV.closedL_get r i x hc.2 h
theorem AV.closed_cells {x : AV} (h : x.closed = true) {j : Nat} {c : AV} (hj : x.cells[j]? = some c) : c.closed = true := by
  cases x <;> simp only [AV.cells] at hj
  case agg xs => exact AV.closedL_get xs j c (by simpa [AV.closed] using h) hj
  all_goals
    match j, hj with
    | 0, hj => simp at hj; subst hj; exact h
    | j + 1, hj => simp at hj

/-- the block that a full value of an object of ours begins at -/
def vblk : Value → Option Nat
  | .slice (some a) _ _ => some a.block
  | .pointer (some a) => some a.block
  | _ => none

/-- block b is no block of a live object -/
def NL (φ : Nat → Value) (H : List AO) (b : Nat) : Prop := ∀ id o, H[id]? = some o → o.live = true → vblk (φ id) ≠ some b

/-- v is the piece of len elements from off on of the own slice whose full value is 'full' -/
def OwnV (full : Value) (size n off len : Nat) (v : Value) : Prop :=
  off + len ≤ n ∧ ((full = .slice none 0 0 ∧ v = .slice none 0 0 ∧ n = 0) ∨
    ∃ g cap, full = .slice (some ⟨g, 0, none⟩) n cap ∧ n ≤ cap ∧ ∃ ad, v = .slice ad len (cap - off) ∧ (off < cap → ad = some ⟨g, off * size, none⟩) ∧ (off = 0 → ad = some ⟨g, 0, none⟩))

inductive R (w : World) (φ : Nat → Value) (H : List AO) : AV → Value → Prop
  | dead (v : Value) : R w φ H .dead v
  | sc (v : Value) : R w φ H (.sc v) v
  | int (k : IntKind) (n : Int) : R w φ H (.int k n) (.int k n)
  | bool (b : Bool) : R w φ H (.bool b) (.bool b)
  | str (s : List UInt8) : R w φ H (.str s) (.string ⟨s.toArray⟩)
  | view0 (s : Nat) (ad : Option Addr) (cap : Nat) : R w φ H (.view s []) (.slice ad 0 cap)
  | view (xs : List AV) (b off size cap : Nat) (u : Nat → Nat → Value) (hcap : xs.length ≤ cap) (hb : b < w.heap.size) (hl : NL φ H b) (hcl : ∀ (i : Nat) (x : AV), xs[i]? = some x → x.closed = true) (hs : ∀ (i : Nat) (x : AV), xs[i]? = some x → x.cells.length = size)
      (hc : ∀ (i : Nat) (x : AV) (j : Nat) (c : AV), xs[i]? = some x → x.cells[j]? = some c → w.cell? ⟨b, off + i * size + j, none⟩ = some (u i j) ∧ (u i j).oneCell' = true)
      (hr : ∀ (i : Nat) (x : AV) (j : Nat) (c : AV), xs[i]? = some x → x.cells[j]? = some c → R w φ H c (u i j)) : R w φ H (.view size xs) (.slice (some ⟨b, off, none⟩) xs.length cap)
  | viewx (xs : List AV) (n b off size cap : Nat) (u : Nat → Nat → Value) (hn : n ≤ xs.length) (hcap : xs.length ≤ cap) (hb : b < w.heap.size) (hl : NL φ H b) (hcl : ∀ (i : Nat) (x : AV), xs[i]? = some x → x.closed = true) (hs : ∀ (i : Nat) (x : AV), xs[i]? = some x → x.cells.length = size)
      (hc : ∀ (i : Nat) (x : AV) (j : Nat) (c : AV), xs[i]? = some x → x.cells[j]? = some c → w.cell? ⟨b, off + i * size + j, none⟩ = some (u i j) ∧ (u i j).oneCell' = true)
      (hr : ∀ (i : Nat) (x : AV) (j : Nat) (c : AV), xs[i]? = some x → x.cells[j]? = some c → R w φ H c (u i j)) : R w φ H (.viewx size xs n) (.slice (some ⟨b, off, none⟩) n cap)
  | own (id ver off len : Nat) (v : Value) (hid : id < H.length) (ho : v.oneCell' = true) (hv : ∀ v' E s xs, H[id]? = some (.slice v' E s xs) → ver ≤ v') (h : ∀ E size xs, H[id]? = some (.slice ver E size xs) → OwnV (φ id) size xs.length off len v) : R w φ H (.own id ver off len) v
  | vptr (x : AV) (off b o : Nat) (u : Nat → Value) (hcl : x.closed = true) (hb : b < w.heap.size) (hl : NL φ H b)
      (hc : ∀ (j : Nat) (c : AV), x.cells[off + j]? = some c → w.cell? ⟨b, o + j, none⟩ = some (u j) ∧ (u j).oneCell' = true)
      (hr : ∀ (j : Nat) (c : AV), x.cells[off + j]? = some c → R w φ H c (u j)) : R w φ H (.vptr x off) (.pointer (some ⟨b, o, none⟩))
  | optr (id ver i off : Nat) (v : Value) (hid : id < H.length) (ho : v.oneCell' = true) (hv : ∀ v' E s xs, H[id]? = some (.slice v' E s xs) → ver ≤ v')
      (h : ∀ E size xs, H[id]? = some (.slice ver E size xs) → ∃ g n cap, φ id = .slice (some ⟨g, 0, none⟩) n cap ∧ v = .pointer (some ⟨g, i * size + off, none⟩)) : R w φ H (.optr id ver i off) v
  | bptr (id off : Nat) (v : Value) (hid : id < H.length) (ho : v.oneCell' = true)
      (h : ∀ o, H[id]? = some o → o.pb = true → ∃ g, φ id = .pointer (some ⟨g, 0, none⟩) ∧ v = .pointer (some ⟨g, off, none⟩)) : R w φ H (.bptr id off) v
  | agg (xs : List AV) (us : Array Value) (hs : us.size = xs.length) (hr : ∀ (i : Nat) (x : AV) (u : Value), xs[i]? = some x → us[i]? = some u → R w φ H x u) : R w φ H (.agg xs) (.agg us)
  | tup (xs : List AV) (us : Array Value) (hs : us.size = xs.length) (hr : ∀ (i : Nat) (x : AV) (u : Value), xs[i]? = some x → us[i]? = some u → R w φ H x u) : R w φ H (.tup xs) (.tuple us)
  | fn (f : FuncId) (xs : List AV) (us : Array Value) (hs : us.size = xs.length) (hr : ∀ (i : Nat) (x : AV) (u : Value), xs[i]? = some x → us[i]? = some u → R w φ H x u) : R w φ H (.fn f xs) (.func (.func f) #[] us)
  | iface (t : TypeId) (x : AV) (u : Value) (hr : R w φ H x u) : R w φ H (.iface t x) (.iface t u)

/-- the cells of the own slice 'v' of n elements are cs -/
def OwnRow (w : World) (E : TypeId) (size : Nat) (v : Value) (n : Nat) (cs : List Value) : Prop :=
  cs.length = n * size ∧ (∀ u ∈ cs, u.oneCell' = true) ∧ ((v = .slice none 0 0 ∧ n = 0) ∨
    ∃ g cap cur fz, v = .slice (some ⟨g, 0, none⟩) n cap ∧ w.heap[g]? = some (.cells cur E fz) ∧ (fz = (0, 0) ∨ cur.size ≤ fz.1) ∧ n ≤ cap ∧ cap ≤ maxLen ∧ cur.size = cap * size ∧ cur.toList.take (n * size) = cs)

def Chunk (w : World) (φ : Nat → Value) (H : List AO) (id : Nat) : AO → Prop
  | .slice _ E size xs => ∃ cs : List Value, OwnRow w E size (φ id) xs.length cs ∧ 0 < size ∧ (∀ (i : Nat) (x : AV), xs[i]? = some x → x.closed = true ∧ x.cells.length = size) ∧
      ∀ (i : Nat) (x : AV) (j : Nat) (c : AV) (u : Value), xs[i]? = some x → x.cells[j]? = some c → cs[i * size + j]? = some u → R w φ H c u
  | .box T cs => ∃ g arr, φ id = .pointer (some ⟨g, 0, none⟩) ∧ w.heap[g]? = some (.cells arr T (0, 0)) ∧ arr.size = cs.length ∧
      ∀ (i : Nat) (c : AV) (u : Value), cs[i]? = some c → arr[i]? = some u → R w φ H c u ∧ u.oneCell' = true
  | .iter s pos => ∃ g, φ id = .pointer (some ⟨g, 0, none⟩) ∧ w.heap[g]? = some (.stringIter ⟨s.toArray⟩ pos)
  | .gone => True

/-- what is below B, but for the blocks X, is as it was -/
structure Frame (B : Nat) (X : Nat → Prop) (w w' : World) : Prop where
  os : w'.os = w.os
  tape : w'.tape = w.tape
  output : w'.output = w.output
  size : w.heap.size ≤ w'.heap.size
  block : ∀ k, k < B → ¬ X k → w'.heap[k]? = w.heap[k]?

theorem Frame.refl (B : Nat) (X : Nat → Prop) (w : World) : Frame B X w w := ⟨rfl, rfl, rfl, Nat.le_refl _, fun _ _ _ => rfl⟩
theorem Frame.trans {B : Nat} {X : Nat → Prop} {a b c : World} (h : Frame B X a b) (k : Frame B X b c) : Frame B X a c :=
  ⟨k.os.trans h.os, k.tape.trans h.tape, k.output.trans h.output, Nat.le_trans h.size k.size, fun i hi hx => (k.block i hi hx).trans (h.block i hi hx)⟩

/-- the variables' blocks lie below B, and none of them is written -/
structure GK (B : Nat) (X : Nat → Prop) (w0 : World) : Prop where
  gw : GW w0
  lt : ∀ b ∈ GB, b < B ∧ ¬ X b

/-- the memory part of a walk's state -/
structure St (B : Nat) (X : Nat → Prop) (w0 w : World) (φ : Nat → Value) (H : List AO) : Prop where
  frame : Frame B X w0 w
  base : B ≤ w0.heap.size
  glob : GK B X w0
  live : ∀ id o b, H[id]? = some o → o.live = true → vblk (φ id) = some b → (B ≤ b ∨ X b) ∧ b < w.heap.size
  inj : ∀ id id' o o' b, H[id]? = some o → o.live = true → H[id']? = some o' → o'.live = true → vblk (φ id) = some b → vblk (φ id') = some b → id = id'
  chunk : ∀ id o, H[id]? = some o → Chunk w φ H id o

theorem St.gw {B : Nat} {X : Nat → Prop} {w0 w : World} {φ : Nat → Value} {H : List AO} (st : St B X w0 w φ H) : GW w :=
  GW_keep st.glob.gw fun b hb => st.frame.block b (st.glob.lt b hb).1 (st.glob.lt b hb).2
theorem GK.of {w : World} (h : GW w) : GK w.heap.size (fun _ => False) w := ⟨h, fun b hb => ⟨GW_lt h b hb, fun h => h⟩⟩

abbrev Env := Nat → AV
/-- what of a frame's activation is not ours to turn: a caller's values, the calls that are deferred -/
structure Gh where
  v : Nat → Value
  d : List Deferred
instance : CoeFun Gh (fun _ => Nat → Value) := ⟨Gh.v⟩
/-- the frame's slots read so; from n on: 'g', values of a caller's that are remembered -/
structure EnvOK (w : World) (φ : Nat → Value) (H : List AO) (env : Env) (a : Act) (n : Nat) (g : Gh) : Prop where
  size : a.tmps.size = n
  defers : a.defers = g.d
  slot : ∀ t, t < n → R w φ H (env t) (a.tmps.getD t undef)
  ghost : ∀ t, n ≤ t → R w φ H (env t) (g t)

/-- from (w, φ, H) to (w', φ', H') nothing that is read has turned -/
structure Le (w : World) (φ : Nat → Value) (H : List AO) (w' : World) (φ' : Nat → Value) (H' : List AO) : Prop where
  size : w.heap.size ≤ w'.heap.size
  nl : ∀ b, b < w.heap.size → NL φ H b → NL φ' H' b ∧ ∀ o, w'.cell? ⟨b, o, none⟩ = w.cell? ⟨b, o, none⟩
  len : H.length ≤ H'.length
  vs : ∀ id v' E s xs', id < H.length → H'[id]? = some (.slice v' E s xs') → ∃ v E' s' xs, H[id]? = some (.slice v E' s' xs) ∧ v ≤ v'
  sl : ∀ id ver E size xs', id < H.length → (∀ v' E s xs, H[id]? = some (.slice v' E s xs) → ver ≤ v') → H'[id]? = some (.slice ver E size xs') → ∃ xs, H[id]? = some (.slice ver E size xs) ∧ xs.length = xs'.length ∧ φ' id = φ id
  bx : ∀ id o', id < H.length → H'[id]? = some o' → o'.pb = true → ∃ o, H[id]? = some o ∧ o.pb = true ∧ φ' id = φ id

theorem Le.refl (w : World) (φ : Nat → Value) (H : List AO) : Le w φ H w φ H :=
  ⟨Nat.le_refl _, fun _ _ h => ⟨h, fun _ => rfl⟩, Nat.le_refl _, fun _ v E s xs _ h => ⟨v, E, s, xs, h, Nat.le_refl _⟩, fun _ _ _ _ xs' _ _ h => ⟨xs', h, rfl, rfl⟩, fun _ o _ h hp => ⟨o, h, hp, rfl⟩⟩

theorem R.le {w w' : World} {φ φ' : Nat → Value} {H H' : List AO} (h : Le w φ H w' φ' H') {x : AV} {v : Value} (r : R w φ H x v) : R w' φ' H' x v := by
  induction r with
  | dead v => exact .dead v
  | sc v => exact .sc v
  | int k n => exact .int k n
  | bool b => exact .bool b
  | str s => exact .str s
  | view0 s ad cap => exact .view0 s ad cap
  | viewx xs n b off size cap u hn hcap hb hl hcl hs hc hr ih =>
    obtain ⟨h1, h2⟩ := h.nl b hb hl
    exact .viewx xs n b off size cap u hn hcap (Nat.lt_of_lt_of_le hb h.size) h1 hcl hs (fun i x j c hi hj => by rw [h2]; exact hc i x j c hi hj) ih
  | view xs b off size cap u hcap hb hl hcl hs hc hr ih =>
    obtain ⟨h1, h2⟩ := h.nl b hb hl
    exact .view xs b off size cap u hcap (Nat.lt_of_lt_of_le hb h.size) h1 hcl hs (fun i x j c hi hj => by rw [h2]; exact hc i x j c hi hj) ih
  | own id ver off len v hid ho hv hh =>
    refine .own id ver off len v (Nat.lt_of_lt_of_le hid h.len) ho (fun v' E s xs hx => ?_) fun E size xs hx => ?_
    · obtain ⟨v0, E0, s0, xs0, e1, e2⟩ := h.vs id v' E s xs hid hx
      exact Nat.le_trans (hv v0 E0 s0 xs0 e1) e2
    obtain ⟨xs0, e1, e2, e3⟩ := h.sl id ver E size xs hid hv hx
    rw [e3, ← e2]
    exact hh E size xs0 e1
  | vptr x off b o u hcl hb hl hc hr ih =>
    obtain ⟨h1, h2⟩ := h.nl b hb hl
    exact .vptr x off b o u hcl (Nat.lt_of_lt_of_le hb h.size) h1 (fun j c hj => by rw [h2]; exact hc j c hj) ih
  | optr id ver i off v hid ho hv hh =>
    refine .optr id ver i off v (Nat.lt_of_lt_of_le hid h.len) ho (fun v' E s xs hx => ?_) fun E size xs hx => ?_
    · obtain ⟨v0, E0, s0, xs0, e1, e2⟩ := h.vs id v' E s xs hid hx
      exact Nat.le_trans (hv v0 E0 s0 xs0 e1) e2
    obtain ⟨xs0, e1, _, e3⟩ := h.sl id ver E size xs hid hv hx
    rw [e3]
    exact hh E size xs0 e1
  | bptr id off v hid ho hh =>
    refine .bptr id off v (Nat.lt_of_lt_of_le hid h.len) ho fun o hx hp => ?_
    obtain ⟨o0, e1, e2, e3⟩ := h.bx id o hid hx hp
    rw [e3]
    exact hh o0 e1 e2
  | agg xs us hs hr ih => exact .agg xs us hs ih
  | tup xs us hs hr ih => exact .tup xs us hs ih
  | fn f xs us hs hr ih => exact .fn f xs us hs ih
  | iface t x u hr ih => exact .iface t x u ih

/-- what names no object of ours reads so by itself -/
theorem R.alone {w : World} {φ : Nat → Value} {H : List AO} {x : AV} {v : Value} (r : R w φ H x v) : x.closed = true → R w (fun _ => .tuple #[]) [] x v := by
  induction r with
  | dead v => exact fun _ => .dead v
  | sc v => exact fun _ => .sc v
  | int k n => exact fun _ => .int k n
  | bool b => exact fun _ => .bool b
  | str s => exact fun _ => .str s
  | view0 s ad cap => exact fun _ => .view0 s ad cap
  | viewx xs n b off size cap u hn hcap hb hl hcl hs hc hr ih =>
    exact fun _ => .viewx xs n b off size cap u hn hcap hb (fun id o h => by simp at h) hcl hs hc (fun i x j c hi hj => ih i x j c hi hj (AV.closed_cells (hcl i x hi) hj))
  | view xs b off size cap u hcap hb hl hcl hs hc hr ih =>
    exact fun _ => .view xs b off size cap u hcap hb (fun id o h => by simp at h) hcl hs hc (fun i x j c hi hj => ih i x j c hi hj (AV.closed_cells (hcl i x hi) hj))
  | own id ver off len v hid ho hv hh => intro h; simp [AV.closed] at h
  | vptr x off b o u hcl hb hl hc hr ih =>
    exact fun _ => .vptr x off b o u hcl hb (fun id o h => by simp at h) hc (fun j c hj => ih j c hj (AV.closed_cells hcl hj))
  | optr id ver i off v hid ho hv hh => intro h; simp [AV.closed] at h
  | bptr id off v hid ho hh => intro h; simp [AV.closed] at h
  | agg xs us hs hr ih => exact fun h => .agg xs us hs (fun i x u hi hu => ih i x u hi hu (AV.closedL_get xs i x (by simpa [AV.closed] using h) hi))
  | tup xs us hs hr ih => exact fun h => .tup xs us hs (fun i x u hi hu => ih i x u hi hu (AV.closedL_get xs i x (by simpa [AV.closed] using h) hi))
  | fn f xs us hs hr ih => exact fun h => .fn f xs us hs (fun i x u hi hu => ih i x u hi hu (AV.closedL_get xs i x (by simpa [AV.closed] using h) hi))
  | iface t x u hr ih => exact fun h => .iface t x u (ih (by simpa [AV.closed] using h))

/-- and what reads by itself reads so beside objects of ours, if their blocks lie elsewhere: here: from B on -/
theorem R.beside {w : World} {x : AV} {v : Value} (r : R w (fun _ => .tuple #[]) [] x v) {w' : World} {φ : Nat → Value} {H : List AO}
    (hsz : w.heap.size ≤ w'.heap.size) (hcell : ∀ b o, b < w.heap.size → w'.cell? ⟨b, o, none⟩ = w.cell? ⟨b, o, none⟩) (hnl : ∀ b, b < w.heap.size → NL φ H b) : R w' φ H x v :=
  r.le ⟨hsz, fun b hb _ => ⟨hnl b hb, fun o => hcell b o hb⟩, Nat.zero_le _, fun id _ _ _ _ h => by simp at h, fun id _ _ _ _ h => by simp at h, fun id _ h => by simp at h⟩

theorem EnvOK.le {w w' : World} {φ φ' : Nat → Value} {H H' : List AO} (h : Le w φ H w' φ' H') {env : Env} {a : Act} {n : Nat} {g : Gh} (e : EnvOK w φ H env a n g) : EnvOK w' φ' H' env a n g :=
  ⟨e.size, e.defers, fun t ht => (e.slot t ht).le h, fun t ht => (e.ghost t ht).le h⟩

def upd (e : Env) (d : Nat) (v : AV) : Env := fun t => if t = d then v else e t
theorem upd_same (e : Env) (d : Nat) (v : AV) : upd e d v d = v := by simp [upd]
theorem upd_ne (e : Env) (d t : Nat) (v : AV) (h : t ≠ d) : upd e d v t = e t := by simp [upd, h]
def put (e : Env) : Option Tmp → AV → Env
  | some d, v => upd e d v
  | none, _ => e

def dstOK (n : Nat) : Option Tmp → Bool
  | some d => decide (d < n)
  | none => true
theorem EnvOK.put {w : World} {φ : Nat → Value} {H : List AO} {env : Env} {a : Act} {n : Nat} {g : Gh} (e : EnvOK w φ H env a n g) (dst : Option Tmp) (hd : dstOK n dst = true) {x : AV} {v : Value} (r : R w φ H x v) :
    EnvOK w φ H (put env dst x) (a.put dst v) n g := by
  cases dst with
  | none => exact e
  | some d =>
    have hdn : d < n := by simpa [dstOK] using hd
    refine ⟨by simp [Act.put, e.size], e.defers, fun t ht => ?_, fun t ht => ?_⟩
    · simp only [Av.put, Act.put, upd]
      by_cases h : t = d
      · subst h
        have : t < a.tmps.size := by rw [e.size]; exact ht
        simp [this, r]
      · rw [if_neg h, Array.getD_eq_getD_getElem?, Array.getElem?_setIfInBounds_ne (by omega), ← Array.getD_eq_getD_getElem?]
        exact e.slot t ht
    · have h : ¬ t = d := fun h => Nat.lt_irrefl _ (Nat.lt_of_lt_of_le hdn (h ▸ ht))
      simp only [Av.put, upd]
      rw [if_neg h]
      exact e.ghost t ht

/-- a slot may be told anew, if what it holds is described so too -/
theorem EnvOK.say {w : World} {φ : Nat → Value} {H : List AO} {env : Env} {a : Act} {n : Nat} {g : Gh} (e : EnvOK w φ H env a n g) (d : Nat) (hd : d < n) {x : AV} (r : R w φ H x (a.tmps.getD d undef)) :
    EnvOK w φ H (upd env d x) a n g :=
  ⟨e.size, e.defers, fun t ht => by
    unfold upd
    by_cases h : t = d
    · subst h; rw [if_pos rfl]; exact r
    · rw [if_neg h]; exact e.slot t ht, fun t ht => by
    have h : ¬ t = d := fun h => absurd ht (by rw [h]; omega)
    unfold upd
    rw [if_neg h]; exact e.ghost t ht⟩

end Go.Av
namespace Go.Av
open Go.RowKit
set_option linter.unusedVariables false

theorem R.closed_to {w : World} {φ φ' : Nat → Value} {H H' : List AO} (hnl : ∀ b, NL φ H b → NL φ' H' b) {x : AV} {v : Value} (r : R w φ H x v) : x.closed = true → R w φ' H' x v := by
  induction r with
  | dead v => exact fun _ => .dead v
  | sc v => exact fun _ => .sc v
  | int k n => exact fun _ => .int k n
  | bool b => exact fun _ => .bool b
  | str s => exact fun _ => .str s
  | view0 s ad cap => exact fun _ => .view0 s ad cap
  | viewx xs n b off size cap u hn hcap hb hl hcl hs hc hr ih =>
    exact fun _ => .viewx xs n b off size cap u hn hcap hb (hnl b hl) hcl hs hc (fun i x j c hi hj => ih i x j c hi hj (AV.closed_cells (hcl i x hi) hj))
  | view xs b off size cap u hcap hb hl hcl hs hc hr ih =>
    exact fun _ => .view xs b off size cap u hcap hb (hnl b hl) hcl hs hc (fun i x j c hi hj => ih i x j c hi hj (AV.closed_cells (hcl i x hi) hj))
  | own id ver off len v hid ho hv hh => intro h; simp [AV.closed] at h
  | vptr x off b o u hcl hb hl hc hr ih =>
    exact fun _ => .vptr x off b o u hcl hb (hnl b hl) hc (fun j c hj => ih j c hj (AV.closed_cells hcl hj))
  | optr id ver i off v hid ho hv hh => intro h; simp [AV.closed] at h
  | bptr id off v hid ho hh => intro h; simp [AV.closed] at h
  | agg xs us hs hr ih => exact fun h => .agg xs us hs (fun i x u hi hu => ih i x u hi hu (AV.closedL_get xs i x (by simpa [AV.closed] using h) hi))
  | tup xs us hs hr ih => exact fun h => .tup xs us hs (fun i x u hi hu => ih i x u hi hu (AV.closedL_get xs i x (by simpa [AV.closed] using h) hi))
  | fn f xs us hs hr ih => exact fun h => .fn f xs us hs (fun i x u hi hu => ih i x u hi hu (AV.closedL_get xs i x (by simpa [AV.closed] using h) hi))
  | iface t x u hr ih => exact fun h => .iface t x u (ih (by simpa [AV.closed] using h))

def ren0 (ids : List Nat) (H : List AO) : AV → AV
  | .bptr id off => if id ∈ ids then (match H[id]? with | some (.box _ _) => .bptr (ids.idxOf id) off | some (.iter _ _) => .bptr (ids.idxOf id) off | _ => .dead) else .dead
  | _ => .dead
def ren1 (ids : List Nat) (H : List AO) : AV → AV
  | .own id ver off len => if id ∈ ids then (match H[id]? with | some (.slice v _ _ _) => if v = ver then .own (ids.idxOf id) 0 off len else .dead | _ => .dead) else .dead
  | .optr id ver i off => if id ∈ ids then (match H[id]? with | some (.slice v _ _ _) => if v = ver then .optr (ids.idxOf id) 0 i off else .dead | _ => .dead) else .dead
  | .bptr id off => if id ∈ ids then (match H[id]? with | some (.box _ _) => .bptr (ids.idxOf id) off | some (.iter _ _) => .bptr (ids.idxOf id) off | _ => .dead) else .dead
  | .iface t x => if x.closed then .iface t x else .iface t (ren0 ids H x)
  | x => if x.closed then x else .dead
def ren2 (ids : List Nat) (H : List AO) : AV → AV
  | .agg xs => .agg (xs.map (ren1 ids H))
  | .fn f xs => .fn f (xs.map (ren1 ids H))
  | x => ren1 ids H x
def ren (ids : List Nat) (H : List AO) : AV → AV
  | .tup xs => .tup (xs.map (ren2 ids H))
  | x => ren2 ids H x
def renO (ids : List Nat) (H : List AO) : AO → AO
  | .slice _ E size xs => .slice 0 E size xs
  | .box T cs => .box T (cs.map (ren1 ids H))
  | .iter s p => .iter s p
  | .gone => .gone
def renH (ids : List Nat) (H : List AO) : List AO := ids.map fun i => renO ids H (H.getD i .gone)
def renφ (ids : List Nat) (φ : Nat → Value) : Nat → Value := fun k => φ (ids.getD k 0)

theorem renH_get {ids : List Nat} {H : List AO} {k : Nat} {o : AO} (h : (renH ids H)[k]? = some o) : ∃ i, ids[k]? = some i ∧ o = renO ids H (H.getD i .gone) := by
  simp only [renH, List.getElem?_map, Option.map_eq_some_iff] at h
  obtain ⟨i, h1, h2⟩ := h
  exact ⟨i, h1, h2.symm⟩

theorem renH_live {ids : List Nat} {H : List AO} {k : Nat} {o : AO} (h : (renH ids H)[k]? = some o) (hl : o.live = true) : ∃ i o', ids[k]? = some i ∧ H[i]? = some o' ∧ o'.live = true ∧ o = renO ids H o' ∧ ∀ φ, renφ ids φ k = φ i := by
  obtain ⟨i, h1, h2⟩ := renH_get h
  rcases hx : H[i]? with _ | o'
  · rw [List.getD_eq_getElem?_getD, hx] at h2; subst h2; simp [renO, AO.live] at hl
  · rw [List.getD_eq_getElem?_getD, hx] at h2
    simp only [Option.getD_some] at h2
    refine ⟨i, o', h1, hx, ?_, h2, fun φ => by simp [renφ, List.getD_eq_getElem?_getD, h1]⟩
    subst h2
    cases o' <;> simp_all [renO, AO.live]

theorem renNL {ids : List Nat} {H : List AO} {φ : Nat → Value} {b : Nat} (h : NL φ H b) : NL (renφ ids φ) (renH ids H) b := by
  intro k o hk hl
  obtain ⟨i, o', h1, h2, h3, _, h5⟩ := renH_live hk hl
  rw [h5]
  exact h i o' h2 h3

theorem idxOf_get {ids : List Nat} {i : Nat} (h : i ∈ ids) : ids[ids.idxOf i]? = some i := by
  have hlt := List.idxOf_lt_length_of_mem h
  rw [List.getElem?_eq_getElem hlt, List.getElem_idxOf]

theorem renH_idx {ids : List Nat} {H : List AO} {i : Nat} (h : i ∈ ids) : (renH ids H)[ids.idxOf i]? = some (renO ids H (H.getD i .gone)) := by
  simp [renH, idxOf_get h]

theorem ren0_R {w : World} {φ : Nat → Value} {H : List AO} (ids : List Nat) {x : AV} {v : Value} (r : R w φ H x v) : R w (renφ ids φ) (renH ids H) (ren0 ids H x) v := by
  cases x <;> simp only [ren0] <;> (try exact .dead v)
  rename_i id off
  by_cases hm : id ∈ ids
  · rw [if_pos hm]
    rcases hx : H[id]? with _ | o
    · exact .dead v
    · cases o with
      | box T cs =>
        dsimp only
        cases r with
        | bptr _ _ _ hid ho hh =>
          have hlen : ids.idxOf id < (renH ids H).length := by simp [renH]; exact List.idxOf_lt_length_of_mem hm
          refine .bptr _ _ v hlen ho fun o' he hp => ?_
          have := hh _ hx rfl
          simpa [renφ, List.getD_eq_getElem?_getD, idxOf_get hm] using this
      | iter s p =>
        dsimp only
        cases r with
        | bptr _ _ _ hid ho hh =>
          have hlen : ids.idxOf id < (renH ids H).length := by simp [renH]; exact List.idxOf_lt_length_of_mem hm
          refine .bptr _ _ v hlen ho fun o' he hp => ?_
          have := hh _ hx rfl
          simpa [renφ, List.getD_eq_getElem?_getD, idxOf_get hm] using this
      | slice v' E size xs => exact .dead v
      | gone => exact .dead v
  · rw [if_neg hm]; exact .dead v

theorem ren1_R {w : World} {φ : Nat → Value} {H : List AO} (ids : List Nat) {x : AV} {v : Value} (r : R w φ H x v) : R w (renφ ids φ) (renH ids H) (ren1 ids H x) v := by
  have hcl : ∀ y, R w φ H y v → R w (renφ ids φ) (renH ids H) (if y.closed then y else .dead) v := by
    intro y ry
    by_cases hy : y.closed = true
    · rw [if_pos hy]; exact ry.closed_to (fun b => renNL) hy
    · rw [if_neg hy]; exact .dead v
  cases x with
  | own id ver off len =>
    simp only [ren1]
    by_cases hm : id ∈ ids
    · rw [if_pos hm]
      rcases hx : H[id]? with _ | o
      · exact .dead v
      · cases o with
        | slice v' E size xs =>
          dsimp only
          by_cases hv : v' = ver
          · rw [if_pos hv]
            subst hv
            cases r with
            | own _ _ _ _ _ hid ho _ hh =>
              have hlen : ids.idxOf id < (renH ids H).length := by simp [renH]; exact List.idxOf_lt_length_of_mem hm
              refine .own _ _ _ _ v hlen ho (fun _ _ _ _ _ => Nat.zero_le _) fun E' size' xs' he => ?_
              rw [renH_idx hm, List.getD_eq_getElem?_getD, hx] at he
              simp [renO] at he
              obtain ⟨rfl, rfl, rfl⟩ := he
              have := hh E size xs hx
              simpa [renφ, List.getD_eq_getElem?_getD, idxOf_get hm] using this
          · rw [if_neg hv]; exact .dead v
        | box T cs => exact .dead v
        | iter s p => exact .dead v
        | gone => exact .dead v
    · rw [if_neg hm]; exact .dead v
  | optr id ver k off =>
    simp only [ren1]
    by_cases hm : id ∈ ids
    · rw [if_pos hm]
      rcases hx : H[id]? with _ | o
      · exact .dead v
      · cases o with
        | slice v' E size xs =>
          dsimp only
          by_cases hv : v' = ver
          · rw [if_pos hv]
            subst hv
            cases r with
            | optr _ _ _ _ _ hid ho _ hh =>
              have hlen : ids.idxOf id < (renH ids H).length := by simp [renH]; exact List.idxOf_lt_length_of_mem hm
              refine .optr _ _ _ _ v hlen ho (fun _ _ _ _ _ => Nat.zero_le _) fun E' size' xs' he => ?_
              rw [renH_idx hm, List.getD_eq_getElem?_getD, hx] at he
              simp [renO] at he
              obtain ⟨rfl, rfl, rfl⟩ := he
              have := hh E size xs hx
              simpa [renφ, List.getD_eq_getElem?_getD, idxOf_get hm] using this
          · rw [if_neg hv]; exact .dead v
        | box T cs => exact .dead v
        | iter s p => exact .dead v
        | gone => exact .dead v
    · rw [if_neg hm]; exact .dead v
  | bptr id off =>
    simp only [ren1]
    by_cases hm : id ∈ ids
    · rw [if_pos hm]
      rcases hx : H[id]? with _ | o
      · exact .dead v
      · cases o with
        | box T cs =>
          dsimp only
          cases r with
          | bptr _ _ _ hid ho hh =>
            have hlen : ids.idxOf id < (renH ids H).length := by simp [renH]; exact List.idxOf_lt_length_of_mem hm
            refine .bptr _ _ v hlen ho fun o' he hp => ?_
            have := hh _ hx rfl
            simpa [renφ, List.getD_eq_getElem?_getD, idxOf_get hm] using this
        | iter s p =>
          dsimp only
          cases r with
          | bptr _ _ _ hid ho hh =>
            have hlen : ids.idxOf id < (renH ids H).length := by simp [renH]; exact List.idxOf_lt_length_of_mem hm
            refine .bptr _ _ v hlen ho fun o' he hp => ?_
            have := hh _ hx rfl
            simpa [renφ, List.getD_eq_getElem?_getD, idxOf_get hm] using this
        | slice v' E size xs => exact .dead v
        | gone => exact .dead v
    · rw [if_neg hm]; exact .dead v
  | iface t y =>
    simp only [ren1]
    by_cases hy : y.closed = true
    · rw [if_pos hy]; exact r.closed_to (fun b => renNL) hy
    · rw [if_neg hy]
      cases r with
      | iface _ _ u hr => exact .iface t _ u (ren0_R ids hr)
  | _ => exact hcl _ r

theorem ren2_R {w : World} {φ : Nat → Value} {H : List AO} (ids : List Nat) {x : AV} {v : Value} (r : R w φ H x v) : R w (renφ ids φ) (renH ids H) (ren2 ids H x) v := by
  cases x with
  | agg xs =>
    cases r with
    | agg _ us hs hr =>
      refine .agg _ us (by simp [hs]) fun i x u hi hu => ?_
      simp only [List.getElem?_map, Option.map_eq_some_iff] at hi
      obtain ⟨y, hy, rfl⟩ := hi
      exact ren1_R ids (hr i y u hy hu)
  | fn f xs =>
    cases r with
    | fn _ _ us hs hr =>
      refine .fn _ _ us (by simp [hs]) fun i x u hi hu => ?_
      simp only [List.getElem?_map, Option.map_eq_some_iff] at hi
      obtain ⟨y, hy, rfl⟩ := hi
      exact ren1_R ids (hr i y u hy hu)
  | _ => exact ren1_R ids r

theorem ren_R {w : World} {φ : Nat → Value} {H : List AO} (ids : List Nat) {x : AV} {v : Value} (r : R w φ H x v) : R w (renφ ids φ) (renH ids H) (ren ids H x) v := by
  cases x with
  | tup xs =>
    cases r with
    | tup _ us hs hr =>
      refine .tup _ us (by simp [hs]) fun i x u hi hu => ?_
      simp only [List.getElem?_map, Option.map_eq_some_iff] at hi
      obtain ⟨y, hy, rfl⟩ := hi
      exact ren2_R ids (hr i y u hy hu)
  | _ => exact ren2_R ids r

theorem St.ren {B : Nat} {X : Nat → Prop} {w0 w : World} {φ : Nat → Value} {H : List AO} (st : St B X w0 w φ H) {ids : List Nat} (nd : ids.Nodup) : St B X w0 w (renφ ids φ) (renH ids H) := by
  refine ⟨st.frame, st.base, st.glob, fun k o b hk hl hb => ?_, fun k k' o o' b hk hl hk' hl' hb hb' => ?_, fun k o hk => ?_⟩
  · obtain ⟨i, o', h1, h2, h3, _, h5⟩ := renH_live hk hl
    exact st.live i o' b h2 h3 (by rw [← h5 φ]; exact hb)
  · obtain ⟨i, p, h1, h2, h3, _, h5⟩ := renH_live hk hl
    obtain ⟨i', p', h1', h2', h3', _, h5'⟩ := renH_live hk' hl'
    have e : i = i' := st.inj i i' p p' b h2 h3 h2' h3' (by rw [← h5 φ]; exact hb) (by rw [← h5' φ]; exact hb')
    subst e
    obtain ⟨hlt, _⟩ := List.getElem?_eq_some_iff.1 h1
    exact (List.getElem?_inj hlt nd).1 (h1.trans h1'.symm)
  · cases o with
    | gone => trivial
    | slice ver E size xs =>
      obtain ⟨i, o', h1, h2, h3, h4, h5⟩ := renH_live hk rfl
      cases o' with
      | slice ver' E' size' xs' =>
        simp only [renO, AO.slice.injEq] at h4
        obtain ⟨_, rfl, rfl, rfl⟩ := h4
        obtain ⟨cs, c1, c2, c3, c4⟩ := st.chunk i _ h2
        refine ⟨cs, by rw [h5]; exact c1, c2, c3, fun a x j c u hx hj hu => ?_⟩
        exact (c4 a x j c u hx hj hu).closed_to (fun b => renNL) (AV.closed_cells (c3 a x hx).1 hj)
      | box T cs => simp [renO] at h4
      | iter s p => simp [renO] at h4
      | gone => simp [renO] at h4
    | iter s p =>
      obtain ⟨i, o', h1, h2, h3, h4, h5⟩ := renH_live hk rfl
      cases o' with
      | iter s' p' =>
        simp only [renO, AO.iter.injEq] at h4
        obtain ⟨rfl, rfl⟩ := h4
        obtain ⟨g, c1, c2⟩ := st.chunk i _ h2
        exact ⟨g, by rw [h5]; exact c1, c2⟩
      | slice v' E' size' xs' => simp [renO] at h4
      | box T cs => simp [renO] at h4
      | gone => simp [renO] at h4
    | box T cs =>
      obtain ⟨i, o', h1, h2, h3, h4, h5⟩ := renH_live hk rfl
      cases o' with
      | box T' cs' =>
        simp only [renO, AO.box.injEq] at h4
        obtain ⟨rfl, rfl⟩ := h4
        obtain ⟨g, arr, c1, c2, c3, c4⟩ := st.chunk i _ h2
        refine ⟨g, arr, by rw [h5]; exact c1, c2, by simp [c3], fun a c u hc hu => ?_⟩
        simp only [List.getElem?_map, Option.map_eq_some_iff] at hc
        obtain ⟨y, hy, rfl⟩ := hc
        exact ⟨ren1_R ids (c4 a y u hy hu).1, (c4 a y u hy hu).2⟩
      | slice ver' E' size' xs' => simp [renO] at h4
      | iter _ _ => simp [renO] at h4
      | gone => simp [renO] at h4

/-- (env, H) may be told as (env', H'): fewer slots, fewer objects, other numbers -/
def Sub (env : Env) (H : List AO) (env' : Env) (H' : List AO) : Prop := ∃ ids : List Nat, ids.Nodup ∧ H' = renH ids H ∧ ∀ t, env' t = .dead ∨ env' t = ren ids H (env t)

def envL (l : List (Nat × AV)) : Env := fun t => (l.lookup t).getD .dead
theorem Sub.of {env : Env} {H : List AO} (l : List (Nat × AV)) (H' : List AO) (ids : List Nat) (nd : ids.Nodup) (hH : H' = renH ids H) (h : ∀ p ∈ l, p.2 = Av.ren ids H (env p.1)) : Sub env H (envL l) H' := by
  refine ⟨ids, nd, hH, fun t => ?_⟩
  unfold envL
  induction l with
  | nil => exact .inl rfl
  | cons p l ih =>
    obtain ⟨k, v⟩ := p
    rw [List.lookup_cons]
    by_cases hk : t = k
    · subst hk
      have := h (t, v) (by simp)
      right; simpa using this
    · have : (t == k) = false := by simpa using hk
      rw [this]
      exact ih fun p hp => h p (List.mem_cons_of_mem _ hp)

theorem Sub.st {B : Nat} {X : Nat → Prop} {w0 w : World} {φ : Nat → Value} {H H' : List AO} {env env' : Env} {a : Act} {n : Nat} {g : Gh} (s : Sub env H env' H') (st : St B X w0 w φ H) (e : EnvOK w φ H env a n g) :
    ∃ φ', St B X w0 w φ' H' ∧ EnvOK w φ' H' env' a n g := by
  obtain ⟨ids, nd, rfl, h⟩ := s
  refine ⟨renφ ids φ, st.ren nd, e.size, e.defers, fun t ht => ?_, fun t ht => ?_⟩
  · rcases h t with h | h
    · rw [h]; exact .dead _
    · rw [h]; exact ren_R ids (e.slot t ht)
  · rcases h t with h | h
    · rw [h]; exact .dead _
    · rw [h]; exact ren_R ids (e.ghost t ht)

section
variable {P : Program} {n : Nat}
abbrev Post := Exit → Env → List AO → Prop
def Lift (B : Nat) (X : Nat → Prop) (w0 : World) (n : Nat) (g : Gh) (K : Post) : Exit → Act → World → Prop :=
  fun ex a w => ∃ env H φ, K ex env H ∧ St B X w0 w φ H ∧ EnvOK w φ H env a n g
/-- from every state that (env, H) tells of, the text c comes to an end that K tells of -/
def J (P : Program) (n : Nat) (c : Code) (env : Env) (H : List AO) (K : Post) : Prop :=
  ∀ (B : Nat) (X : Nat → Prop) (w0 w : World) (φ : Nat → Value) (a : Act) (g : Gh), St B X w0 w φ H → EnvOK w φ H env a n g → c.wp P (Lift B X w0 n g K) a w

def Then (P : Program) (n : Nat) (y : Code) (K : Post) : Post := fun ex e h => match ex with
  | .normal => J P n y e h K
  | ex => K ex e h

variable {env : Env} {H : List AO} {K : Post}
theorem J.mono {c : Code} {K' : Post} (h : J P n c env H K) (hk : ∀ ex e h, K ex e h → K' ex e h) : J P n c env H K' :=
  fun B X w0 w φ a g st eo => wp_mono (h B X w0 w φ a g st eo) fun ex a w ⟨e, h, φ, k, r⟩ => ⟨e, h, φ, hk _ _ _ k, r⟩
theorem J.sub {c : Code} {env' : Env} {H' : List AO} (s : Sub env H env' H') (h : J P n c env' H' K) : J P n c env H K :=
  fun B X w0 w φ a g st eo => let ⟨φ', st', eo'⟩ := s.st st eo; h B X w0 w φ' a g st' eo'
theorem J_seq {x y : Code} (h : J P n x env H (Then P n y K)) : J P n (.seq x y) env H K := by
  intro B X w0 w φ a g st eo
  refine wp_seq (wp_mono (h B X w0 w φ a g st eo) ?_)
  rintro ex a w ⟨e, H, φ, k, st, eo⟩
  cases ex with
  | normal => exact k B X w0 w φ a g st eo
  | _ => exact ⟨e, H, φ, k, st, eo⟩
theorem J_skip (h : K .normal env H) : J P n .skip env H K := fun B X w0 w φ a g st eo => wp_skip ⟨env, H, φ, h, st, eo⟩
theorem J_exit {id : Nat} (h : K (.exit id) env H) : J P n (.exit id) env H K := fun B X w0 w φ a g st eo => wp_exit ⟨env, H, φ, h, st, eo⟩
theorem J_ret (h : K .ret env H) : J P n .ret env H K := fun B X w0 w φ a g st eo => wp_ret ⟨env, H, φ, h, st, eo⟩
def Block (id : Nat) (K : Post) : Post := fun ex e h => match ex with
  | .exit id' => if id' = id then K .normal e h else K (.exit id') e h
  | ex => K ex e h
theorem J_block {id : Nat} {c : Code} (h : J P n c env H (Block id K)) : J P n (.block id c) env H K := by
  intro B X w0 w φ a g st eo
  refine wp_block (wp_mono (h B X w0 w φ a g st eo) ?_)
  rintro ex a w ⟨e, H, φ, k, st, eo⟩
  cases ex with
  | exit id' =>
    simp only [Block, Exit.inBlock] at k ⊢
    by_cases hi : id' = id
    · rw [if_pos hi] at k ⊢; exact ⟨e, H, φ, k, st, eo⟩
    · rw [if_neg hi] at k ⊢; exact ⟨e, H, φ, k, st, eo⟩
  | _ => exact ⟨e, H, φ, k, st, eo⟩

/-! bytes as numbers; arithmetic as the machine does it -/
def b2i (b : UInt8) : Int := b.toNat
def bC (n : Nat) : UInt8 := UInt8.ofNat n
/-- a constant -/
def intC (k : IntKind) (n : Int) : AV := .int k n
theorem intC_u8 (n : Int) (h0 : 0 ≤ n) (h : n < 256) : intC .u8 n = .int .u8 (b2i (bC n.toNat)) := by
  have : n = b2i (bC n.toNat) := by
    show n = ((UInt8.ofNat n.toNat).toNat : Int)
    rw [UInt8.toNat_ofNat']
    omega
  rw [← this]; rfl
theorem intC_i8 (n : Int) : intC .i8 n = .int .i8 n := rfl
theorem intC_i16 (n : Int) : intC .i16 n = .int .i16 n := rfl
theorem intC_i32 (n : Int) : intC .i32 n = .int .i32 n := rfl
theorem intC_i64 (n : Int) : intC .i64 n = .int .i64 n := rfl
theorem intC_u16 (n : Int) : intC .u16 n = .int .u16 n := rfl
theorem intC_u32 (n : Int) : intC .u32 n = .int .u32 n := rfl
theorem intC_u64 (n : Int) : intC .u64 n = .int .u64 n := rfl
/-- what a constant's cell reads as -/
def constA : Value → AV
  | .int k n => intC k n
  | .bool b => .bool b
  | .string s => .str s.data.toList
  | v => .sc v
theorem constA_R {w : World} {φ : Nat → Value} {H : List AO} (v : Value) : R w φ H (constA v) v := by
  cases v <;> simp only [constA, intC] <;> constructor
def evO (env : Env) : Operand → AV
  | .tmp t => env t
  | .const v => match v with
    | .int k n => intC k n
    | .bool b => .bool b
    | .string s => .str s.data.toList
    | .agg cs => .agg (cs.toList.map constA)
    | v => .sc v
  | .global _ => .dead
  | .func f => .fn f []
def okO (n : Nat) : Operand → Bool
  | .tmp t => decide (t < n)
  | _ => true
theorem evO_R {w : World} {φ : Nat → Value} {a : Act} {g : Gh} (eo : EnvOK w φ H env a n g) (x : Operand) (hx : okO n x = true) : R w φ H (evO env x) (a.eval x) := by
  cases x with
  | tmp t => exact eo.slot t (by simpa [okO] using hx)
  | const v =>
    cases v <;> simp only [evO, Act.eval, intC]
    case agg cs =>
      refine .agg _ _ (by simp) fun i x u hi hu => ?_
      simp only [List.getElem?_map, Option.map_eq_some_iff] at hi
      obtain ⟨y, hy, rfl⟩ := hi
      have : y = u := by
        have e : cs.toList[i]? = cs[i]? := by simp
        rw [e, hu] at hy
        exact (Option.some.inj hy).symm
      subst this
      exact constA_R _
    all_goals constructor
  | global g => exact .dead _
  | func f => exact .fn f [] #[] rfl (fun i x u h => by simp at h)

theorem J_cond {c : Operand} {x y : Code} {b : Bool} (hn : okO n c = true) (hb : evO env c = .bool b) (h1 : b = true → J P n x env H K) (h2 : b = false → J P n y env H K) : J P n (.cond c x y) env H K := by
  intro B X w0 w φ a g st eo
  have hr := evO_R eo c hn
  rw [hb] at hr
  have : a.eval c = .bool b := by generalize a.eval c = v at hr; cases hr; rfl
  exact wp_cond_split this (fun h => h1 h B X w0 w φ a g st eo) (fun h => h2 h B X w0 w φ a g st eo)

def LoopK {σ : Type} (E : σ → Env) (Hs : σ → List AO) (I : σ → Prop) (m : σ → Nat) (s : σ) (K : Post) : Post := fun ex e h => match ex with
  | .normal => ∃ s', I s' ∧ m s' < m s ∧ Sub e h (E s') (Hs s')
  | ex => K ex e h
/-- a loop: it is told by a state s of your own; each round lowers m -/
theorem J_loop {σ : Type} {body : Code} (E : σ → Env) (Hs : σ → List AO) (I : σ → Prop) (m : σ → Nat) (s0 : σ) (h0 : I s0) (hin : Sub env H (E s0) (Hs s0))
    (round : ∀ s, I s → J P n body (E s) (Hs s) (LoopK E Hs I m s K)) : J P n (.loop body) env H K := by
  intro B X w0 w φ a g st eo
  have key : ∀ k s, m s < k → I s → ∀ w φ a, St B X w0 w φ (Hs s) → EnvOK w φ (Hs s) (E s) a n g → Code.rounds P body (Lift B X w0 n g K) k a w := by
    intro k
    induction k with
    | zero => intro s hs; omega
    | succ k ih =>
      intro s hs hi w φ a st eo
      rw [rounds_succ]
      refine wp_mono (round s hi B X w0 w φ a g st eo) ?_
      rintro ex a w ⟨e, H, φ, hk, st, eo⟩
      cases ex with
      | normal =>
        obtain ⟨s', h1, h2, h3⟩ := hk
        obtain ⟨φ', st', eo'⟩ := h3.st st eo
        exact ih s' (by omega) h1 w φ' a st' eo'
      | _ => exact ⟨e, H, φ, hk, st, eo⟩
  obtain ⟨φ', st', eo'⟩ := hin.st st eo
  exact wp_loop_rounds (m s0 + 1) (key _ s0 (Nat.lt_succ_self _) h0 w φ' a st' eo')
end
end Go.Av
namespace Go.Av
open Go.RowKit
set_option linter.unusedVariables false

/-! what a program's table of types says, as functions that a seat's closed facts answer -/
def isA (P : Program) (t : TypeId) : Option Bool := match P.underlying t with
  | some (.struct _) => some true
  | some (.array _ _) => some true
  | some _ => some false
  | none => none
def szT (P : Program) (t : TypeId) : Option Nat := (P.info? t).map (·.size)
def elT (P : Program) (t : TypeId) : Option TypeId := match P.underlying t with
  | some (.slice e) => some e
  | _ => none
def fldI (P : Program) (t : TypeId) (i : Nat) : Option (Nat × TypeId) := match P.underlying t with
  | some (.struct fs) => (fs[i]?).map fun f => (f.offset, f.type)
  | _ => none
def isStr (P : Program) (t : TypeId) : Bool := match P.underlying t with
  | some .string => true
  | _ => false
def isBoolT (P : Program) (t : TypeId) : Bool := match P.underlying t with
  | some .bool => true
  | _ => false
def ikT (P : Program) (t : TypeId) : Option IntKind := match P.underlying t with
  | some (.int k) => some k
  | _ => none
theorem und_of_elT {P : Program} {t e : TypeId} (h : elT P t = some e) : P.underlying t = some (.slice e) := by
  unfold elT at h; split at h <;> simp_all
theorem und_of_isStr {P : Program} {t : TypeId} (h : isStr P t = true) : P.underlying t = some .string := by
  unfold isStr at h; split at h <;> simp_all
theorem und_of_isBoolT {P : Program} {t : TypeId} (h : isBoolT P t = true) : P.underlying t = some .bool := by
  unfold isBoolT at h; split at h <;> simp_all
theorem und_of_ikT {P : Program} {t : TypeId} {k : IntKind} (h : ikT P t = some k) : P.underlying t = some (.int k) := by
  unfold ikT at h; split at h <;> simp_all
theorem info_of_szT {P : Program} {t : TypeId} {s : Nat} (h : szT P t = some s) : ∃ i, P.info? t = some i ∧ i.size = s := by
  unfold szT at h; simpa using h
theorem run_sizeOf' {P : Program} {t : TypeId} {s : Nat} (h : szT P t = some s) (w : World) : (sizeOf t).run P w = .ok s w := by
  obtain ⟨i, h1, h2⟩ := info_of_szT h
  simp [sizeOf, typeInfo, h1, h2]
theorem run_isAgg' {P : Program} {t : TypeId} {b : Bool} (h : isA P t = some b) (w : World) : (isAgg t).run P w = .ok b w := by
  unfold isA at h
  unfold isAgg
  split at h <;> simp_all [run_underlying] <;> (try (subst h; simp [*, run_underlying]))

structure Ext (w w' : World) : Prop where
  size : w.heap.size ≤ w'.heap.size
  cells : ∀ a : Addr, a.block < w.heap.size → w'.cell? a = w.cell? a
  shape : ∀ b, b < w.heap.size → w'.shape? b = w.shape? b
theorem Ext.refl (w : World) : Ext w w := ⟨Nat.le_refl _, fun _ _ => rfl, fun _ _ => rfl⟩
theorem Ext.of_block {w w' : World} (hs : w.heap.size ≤ w'.heap.size) (hb : ∀ b, b < w.heap.size → w'.heap[b]? = w.heap[b]?) : Ext w w' :=
  ⟨hs, fun a ha => World.cell?_of_block (hb a.block ha), fun b h => by unfold World.shape?; rw [hb b h]⟩
theorem Ext.freeze (w : World) (a : Addr) (n : Nat) : Ext w (w.freeze a n) := by
  have key : ∀ b : Nat, (w.freeze a n).heap[b]? = w.heap[b]? ∨ ∃ c T f f', w.heap[b]? = some (.cells c T f) ∧ (w.freeze a n).heap[b]? = some (.cells c T f') := fun b => by
    unfold World.freeze
    split
    · exact .inl rfl
    · simp only [Array.getElem?_modify]
      by_cases e : a.block = b
      · rw [if_pos e]
        rcases hw : w.heap[b]? with _ | o
        · exact .inl rfl
        · cases o with
          | cells c T f => obtain ⟨lo, hi⟩ := f; exact .inr ⟨c, T, (lo, hi), _, rfl, rfl⟩
          | _ => exact .inl rfl
      · rw [if_neg e]; exact .inl rfl
  refine ⟨by unfold World.freeze; split <;> simp, fun d _ => ?_, fun b _ => ?_⟩
  · unfold World.cell?
    rcases key d.block with h | ⟨c, T, f, f', h1, h2⟩
    · rw [h]
    · rw [h1, h2]
  · unfold World.shape?
    rcases key b with h | ⟨c, T, f, f', h1, h2⟩
    · rw [h]
    · rw [h1, h2]
theorem Ext.cell {w w' : World} (h : Ext w w') {a : Addr} {v : Value} (hc : w.cell? a = some v) : w'.cell? a = some v := by
  rw [← hc]; exact h.cells a (block_lt_of_cell hc)

/-- the cells behind the pointer v read as cs -/
def RdP (w : World) (φ : Nat → Value) (H : List AO) (cs : List AV) (v : Value) : Prop :=
  ∃ b o, v = .pointer (some ⟨b, o, none⟩) ∧ ∀ (j : Nat) (c : AV), cs[j]? = some c → ∃ u, w.cell? ⟨b, o + j, none⟩ = some u ∧ u.oneCell' = true ∧ R w φ H c u

/- element i of xs is there: K of it -/
/- what stands behind, where 'simp' does not go: an instance argument is left as it is -/
class Ko (α : Type) where
  k : α
def GetK (xs : List AV) (i : Nat) [K : Ko (AV → Prop)] : Prop := ∃ x, xs[i]? = some x ∧ K.k x
def GetB (s : List UInt8) (i : Nat) [K : Ko (UInt8 → Prop)] : Prop := ∃ c, s[i]? = some c ∧ K.k c
/-- a test of a Bool: A where it is so -/
def guardK (b want : Bool) [A : Ko Prop] [B : Ko Prop] : Prop := (b = want → A.k) ∧ (b = !want → B.k)
theorem guardK_tt {A B : Prop} : @guardK true true ⟨A⟩ ⟨B⟩ = A := by simp [guardK]
theorem guardK_ff {A B : Prop} : @guardK false false ⟨A⟩ ⟨B⟩ = A := by simp [guardK]
theorem guardK_tf {A B : Prop} : @guardK true false ⟨A⟩ ⟨B⟩ = B := by simp [guardK]
theorem guardK_ft {A B : Prop} : @guardK false true ⟨A⟩ ⟨B⟩ = B := by simp [guardK]
theorem guard_is {b want : Bool} {A B : Prop} (h : b = want) (k : A) : @guardK b want ⟨A⟩ ⟨B⟩ := ⟨fun _ => k, fun e => by subst h; cases b <;> simp at e⟩
theorem guard_not {b want : Bool} {A B : Prop} (h : b = !want) (k : B) : @guardK b want ⟨A⟩ ⟨B⟩ := ⟨fun e => by subst e; cases b <;> simp at h, fun _ => k⟩
/-- an array of so many places of one cell -/
def arN (P : Program) (T : TypeId) : Option Nat := match P.underlying T with
  | some (.array n e) => if isA P e = some false ∧ szT P e = some 1 then some n else none
  | _ => none
theorem arN_spec {P : Program} {T : TypeId} {n : Nat} (h : arN P T = some n) : ∃ e, P.underlying T = some (.array n e) ∧ isA P e = some false ∧ szT P e = some 1 := by
  unfold arN at h; split at h
  · rename_i m e hu
    split at h
    · simp at h; subst h; exact ⟨e, hu, ‹_ ∧ _›.1, ‹_ ∧ _›.2⟩
    · simp at h
  · simp at h
/-- an array variable of n places, all of one cell -/
def ArK (a : Option Nat) (xs : List AV) [K : Ko Prop] : Prop := a = some xs.length ∧ (∀ x ∈ xs, x.cells = [x]) ∧ K.k
def Hold [K : Ko Prop] : Prop := K.k
def Hold2 (e : Nat → AV) (H : List AO) [K : Ko ((Nat → AV) → List AO → Prop)] : Prop := K.k e H
theorem hold {A : Prop} (h : A) : @Hold ⟨A⟩ := h
theorem hold2 {e : Nat → AV} {H : List AO} {k : (Nat → AV) → List AO → Prop} (h : k e H) : @Hold2 e H ⟨k⟩ := h
def ldP (H : List AO) (p : AV) (K : List AV → Prop) : Prop := match p with
  | .vptr x off => K (x.cells.drop off)
  | .optr id ver i off => match H[id]? with
    | some (.slice v _ _ xs) => v = ver ∧ @GetK xs i ⟨fun x => K (x.cells.drop off)⟩
    | _ => False
  | .bptr id off => match H[id]? with
    | some (.box _ cs) => K (cs.drop off)
    | _ => False
  | _ => False

theorem ownRow_cell {w : World} {E : TypeId} {size : Nat} {v : Value} {n : Nat} {cs : List Value} (h : OwnRow w E size v n cs) {g cap : Nat} (hv : v = .slice (some ⟨g, 0, none⟩) n cap) {k : Nat} {u : Value} (hu : cs[k]? = some u) :
    w.cell? ⟨g, k, none⟩ = some u := by
  rcases h.2.2 with ⟨rfl, _⟩ | ⟨g', cap', cur, fz, rfl, hg, _, _, _, _, htake⟩
  · simp at hv
  · simp at hv
    obtain ⟨rfl, rfl⟩ := hv
    rw [cell_of_row w g' k cur E fz hg]
    rw [← htake, List.getElem?_take] at hu
    split at hu
    · simpa using hu
    · cases hu

theorem ldP_sound {B : Nat} {X : Nat → Prop} {w0 w : World} {φ : Nat → Value} {H : List AO} (st : St B X w0 w φ H) {p : AV} {v : Value} (r : R w φ H p v) {K : List AV → Prop} (h : ldP H p K) :
    ∃ cs, K cs ∧ RdP w φ H cs v := by
  cases p <;> simp only [ldP] at h
  case vptr x off =>
    cases r with
    | vptr _ _ b o u hcl hb hl hc hr =>
      refine ⟨_, h, b, o, rfl, fun j c hj => ?_⟩
      rw [List.getElem?_drop] at hj
      exact ⟨u j, (hc j c hj).1, (hc j c hj).2, hr j c hj⟩
  case optr id ver i off =>
    rcases hH : H[id]? with _ | o
    · rw [hH] at h; exact h.elim
    · rw [hH] at h
      cases o with
      | slice ver' E size xs =>
        obtain ⟨rfl, x, hx, hk⟩ := h
        obtain ⟨cs, c1, c2, c3, c4⟩ := st.chunk id _ hH
        cases r with
        | optr _ _ _ _ _ hid _ _ hh =>
          obtain ⟨g, n, cap, e1, rfl⟩ := hh E size xs hH
          refine ⟨_, hk, g, _, rfl, fun j c hj => ?_⟩
          rw [List.getElem?_drop] at hj
          have hlen : cs.length = xs.length * size := c1.1
          have hi : i < xs.length := (List.getElem?_eq_some_iff.1 hx).1
          have hj' : off + j < size := by rw [← (c3 i x hx).2]; exact (List.getElem?_eq_some_iff.1 hj).1
          have hlt : i * size + (off + j) < cs.length := by
            rw [hlen]
            calc i * size + (off + j) < i * size + size := by omega
              _ = (i + 1) * size := by rw [Nat.add_mul, Nat.one_mul]
              _ ≤ xs.length * size := Nat.mul_le_mul_right _ hi
          obtain ⟨u, hu⟩ : ∃ u, cs[i * size + (off + j)]? = some u := ⟨_, List.getElem?_eq_getElem hlt⟩
          have hn : n = xs.length := by
            rcases c1.2.2 with ⟨e, _⟩ | ⟨g', cap', cur, fz, e, _⟩
            · rw [e1] at e; simp at e
            · rw [e1] at e; simp at e; exact e.2.1
          subst hn
          refine ⟨u, ?_, c1.2.1 u (List.mem_of_getElem? hu), c4 i x (off + j) c u hx hj hu⟩
          have := ownRow_cell c1 e1 hu
          rw [← Nat.add_assoc] at this
          exact this
      | box T cs => exact h.elim
      | iter _ _ => exact h.elim
      | gone => exact h.elim
  case bptr id off =>
    rcases hH : H[id]? with _ | o
    · rw [hH] at h; exact h.elim
    · rw [hH] at h
      cases o with
      | box T cs =>
        cases r with
        | bptr _ _ _ hid _ hh =>
          obtain ⟨g, e1, rfl⟩ := hh _ hH rfl
          obtain ⟨g', arr, c1, c2, c3, c4⟩ := st.chunk id _ hH
          rw [e1] at c1
          simp at c1
          subst c1
          refine ⟨_, h, g, off, rfl, fun j c hj => ?_⟩
          rw [List.getElem?_drop] at hj
          have hlt : off + j < arr.size := by rw [c3]; exact (List.getElem?_eq_some_iff.1 hj).1
          obtain ⟨u, hu⟩ : ∃ u, arr[off + j]? = some u := ⟨_, Array.getElem?_eq_getElem hlt⟩
          exact ⟨u, by rw [cell_of_row w g _ arr T _ c2]; exact hu, (c4 _ c u hj hu).2, (c4 _ c u hj hu).1⟩
      | slice v' E size xs => exact h.elim
      | iter _ _ => exact h.elim
      | gone => exact h.elim

def ldV (P : Program) (T : TypeId) (cs : List AV) (K : AV → Prop) : Prop := match isA P T with
  | some false => (match cs with
    | c :: _ => K c
    | [] => False)
  | some true => (match szT P T with
    | some s => s ≤ cs.length ∧ K (.agg (cs.take s))
    | none => False)
  | none => False

theorem add_lit (b o j : Nat) : (⟨b, o, none⟩ : Addr).add j = ⟨b, o + j, none⟩ := by unfold Addr.add; split <;> simp_all

theorem ldV_sound {P : Program} {w : World} {φ : Nat → Value} {H : List AO} {T : TypeId} {cs : List AV} {v : Value} (rd : RdP w φ H cs v) {K : AV → Prop} (h : ldV P T cs K) :
    ∃ x u, K x ∧ R w φ H x u ∧ ∀ w', Ext w w' → (Instr.loadAt T v).run P w' = .ok u w' := by
  obtain ⟨b, o, rfl, hrd⟩ := rd
  unfold ldV at h
  rcases hA : isA P T with _ | _ | _
  · rw [hA] at h; exact h.elim
  · rw [hA] at h
    cases cs with
    | nil => exact h.elim
    | cons c rest =>
      obtain ⟨u, h1, h2, h3⟩ := hrd 0 c (by simp)
      refine ⟨c, u, h, h3, fun w' hw => ?_⟩
      have := hw.cell h1
      simp only [Nat.add_zero] at this
      simp [Instr.loadAt, Instr.sureAddr, loadVar, run_isAgg' hA, this]
  · rw [hA] at h
    rcases hS : szT P T with _ | s
    · simp only [hS] at h
    simp only [hS] at h
    obtain ⟨hs, hk⟩ := h
    have hex : ∀ j : Nat, ∃ u, ∀ c, cs[j]? = some c → w.cell? ⟨b, o + j, none⟩ = some u ∧ u.oneCell' = true ∧ R w φ H c u := fun j => by
      rcases hc : cs[j]? with _ | c
      · exact ⟨undef, fun c h => by simp at h⟩
      · obtain ⟨u, hu⟩ := hrd j c hc
        exact ⟨u, fun c' h => by simp at h; subst h; exact hu⟩
    obtain ⟨f, hf⟩ := Classical.axiomOfChoice hex
    refine ⟨_, .agg ((List.range s).map f).toArray, hk, .agg _ _ (by simp; omega) (fun i x u hi hu => ?_), fun w' hw => ?_⟩
    · rw [List.getElem?_take] at hi
      split at hi
      · rename_i hlt
        have hu' : f i = u := by simpa [hlt] using hu
        rw [← hu']
        exact (hf i x hi).2.2
      · simp at hi
    · have hl := run_loadCells_list (P := P) (w := w') ⟨b, o, none⟩ ((List.range s).map f) (fun j v hv => by
        have hj : j < s := by
          have := (List.getElem?_eq_some_iff.1 hv).1
          simpa using this
        have hv' : f j = v := by simpa [hj] using hv
        obtain ⟨c, hc⟩ : ∃ c, cs[j]? = some c := ⟨_, List.getElem?_eq_getElem (by omega)⟩
        rw [add_lit, ← hv']
        exact hw.cell (hf j c hc).1)
      simp only [List.length_map, List.length_range] at hl
      simp [Instr.loadAt, Instr.sureAddr, loadVar, run_isAgg' hA, run_sizeOf' hS, hl]

end Go.Av
namespace Go.Av
open Go.RowKit
set_option linter.unusedVariables false

def inR : IntKind → Int → Prop
  | .i8, z => -128 ≤ z ∧ z ≤ 127
  | .i16, z => -32768 ≤ z ∧ z ≤ 32767
  | .i32, z => -2147483648 ≤ z ∧ z ≤ 2147483647
  | .i64, z => -9223372036854775808 ≤ z ∧ z ≤ 9223372036854775807
  | .u8, z => 0 ≤ z ∧ z ≤ 255
  | .u16, z => 0 ≤ z ∧ z ≤ 65535
  | .u32, z => 0 ≤ z ∧ z ≤ 4294967295
  | .u64, z => 0 ≤ z ∧ z ≤ 18446744073709551615
theorem wrap_inR {k : IntKind} {z : Int} (h : inR k z) : k.wrap z = z := by
  cases k <;> simp only [inR] at h <;> simp [IntKind.wrap, IntKind.bits, IntKind.signed] <;> omega

def bitsI (op : BinOp) (k : IntKind) (x y : Int) : Int :=
  let a := BitVec.ofInt k.bits x
  let b := BitVec.ofInt k.bits y
  match op with
  | .and => k.wrap (a &&& b).toNat
  | .or => k.wrap (a ||| b).toNat
  | .xor => k.wrap (a ^^^ b).toNat
  | .andNot => k.wrap (a &&& ~~~b).toNat
  | _ => 0

def iadd (k : IntKind) (a b : Int) : Int := k.wrap (a + b)
def isub (k : IntKind) (a b : Int) : Int := k.wrap (a - b)
def imul (k : IntKind) (a b : Int) : Int := k.wrap (a * b)
def iquo (k : IntKind) (a b : Int) : Int := k.wrap (a.tdiv b)
def irem (a b : Int) : Int := a.tmod b
def ishl (k : IntKind) (a b : Int) : Int := k.wrap (a * 2 ^ (min b.toNat k.bits))
def ishr (k : IntKind) (a b : Int) : Int := a.fdiv (2 ^ (min b.toNat k.bits))
def ineg (k : IntKind) (a : Int) : Int := k.wrap (-a)
/-- a condition, and what stands behind it -/
def Chk (p : Prop) [K : Ko Prop] : Prop := p ∧ K.k
theorem chk_of {p : Prop} {K : Prop} (h : p) (k : K) : @Chk p ⟨K⟩ := ⟨h, k⟩
def binI (op : BinOp) (k : IntKind) (a b : Int) (K : AV → Prop) : Prop := match op with
  | .add => K (.int k (iadd k a b))
  | .sub => K (.int k (isub k a b))
  | .mul => K (.int k (imul k a b))
  | .quo => @Chk (b ≠ 0) ⟨K (.int k (iquo k a b))⟩
  | .rem => @Chk (b ≠ 0) ⟨K (.int k (irem a b))⟩
  | .and => K (.int k (bitsI .and k a b))
  | .or => K (.int k (bitsI .or k a b))
  | .xor => K (.int k (bitsI .xor k a b))
  | .andNot => K (.int k (bitsI .andNot k a b))
  | .eql => K (.bool (decide (a = b)))
  | .neq => K (.bool (!decide (a = b)))
  | .lss => K (.bool (decide (a < b)))
  | .leq => K (.bool (decide (a ≤ b)))
  | .gtr => K (.bool (decide (b < a)))
  | .geq => K (.bool (decide (b ≤ a)))
  | _ => False
def shiftI (op : BinOp) (k : IntKind) (a b : Int) (K : AV → Prop) : Prop := match op with
  | .shl => @Chk (0 ≤ b) ⟨K (.int k (ishl k a b))⟩
  | .shr => @Chk (0 ≤ b) ⟨K (.int k (ishr k a b))⟩
  | _ => False
def binS (op : BinOp) (a b : List UInt8) (K : AV → Prop) : Prop := match op with
  | .add => @Chk ((a ++ b).length ≤ 9223372036854775807) ⟨K (.str (a ++ b))⟩
  | .eql => K (.bool (decide (a = b)))
  | .neq => K (.bool (!decide (a = b)))
  | .lss => K (.bool (Op.bytesLess a b))
  | _ => False
def binB (op : BinOp) (a b : Bool) (K : AV → Prop) : Prop := match op with
  | .eql => K (.bool (a == b))
  | .neq => K (.bool (a != b))
  | _ => False

/-- what 'sOp' must give of one operation's run -/
def Gives (P : Program) (w : World) (φ : Nat → Value) (H : List AO) (K : AV → Prop) (s : Sem Value) : Prop :=
  ∃ x v, K x ∧ R w φ H x v ∧ ∀ w', Ext w w' → s.run P w' = .ok v w'
theorem Gives.mk' {P : Program} {w : World} {φ : Nat → Value} {H : List AO} {K : AV → Prop} {s : Sem Value} (x : AV) (v : Value) (h1 : K x) (h2 : R w φ H x v) (h3 : ∀ w', s.run P w' = .ok v w') : Gives P w φ H K s :=
  ⟨x, v, h1, h2, fun w' _ => h3 w'⟩

section
variable {P : Program} {w : World} {φ : Nat → Value} {H : List AO} {K : AV → Prop}

theorem binI_sound (op : BinOp) (T : TypeId) (k : IntKind) (a b : Int) (h : binI op k a b K) : Gives P w φ H K (Go.binOp op T (.int k a) (.int k b)) := by
  cases op <;> simp only [binI] at h
  case add => exact .mk' _ _ h (.int _ _) fun w' => by simp [Go.binOp, Op.intArith, iadd]
  case sub => exact .mk' _ _ h (.int _ _) fun w' => by simp [Go.binOp, Op.intArith, isub]
  case mul => exact .mk' _ _ h (.int _ _) fun w' => by simp [Go.binOp, Op.intArith, imul]
  case quo =>
    obtain ⟨h1, h4⟩ := h
    exact .mk' _ _ h4 (.int _ _) fun w' => by simp [Go.binOp, Op.intDiv, h1, iquo]
  case rem =>
    obtain ⟨h1, h4⟩ := h
    exact .mk' _ _ h4 (.int _ _) fun w' => by simp [Go.binOp, Op.intDiv, h1, irem]
  case and => exact .mk' _ _ h (.int _ _) fun w' => by simp [Go.binOp, Op.intBits, bitsI]
  case or => exact .mk' _ _ h (.int _ _) fun w' => by simp [Go.binOp, Op.intBits, bitsI]
  case xor => exact .mk' _ _ h (.int _ _) fun w' => by simp [Go.binOp, Op.intBits, bitsI]
  case andNot => exact .mk' _ _ h (.int _ _) fun w' => by simp [Go.binOp, Op.intBits, bitsI]
  case eql => exact .mk' _ _ h (.bool _) fun w' => by simp [Go.binOp, Op.intCmp]; rfl
  case neq => exact .mk' _ _ h (.bool _) fun w' => by simp [Go.binOp, Op.intCmp]; rfl
  case lss => exact .mk' _ _ h (.bool _) fun w' => by simp [Go.binOp, Op.intCmp]
  case leq => exact .mk' _ _ h (.bool _) fun w' => by simp [Go.binOp, Op.intCmp]
  case gtr => exact .mk' _ _ h (.bool _) fun w' => by simp [Go.binOp, Op.intCmp]
  case geq => exact .mk' _ _ h (.bool _) fun w' => by simp [Go.binOp, Op.intCmp]
theorem shiftI_sound (op : BinOp) (T : TypeId) (k k' : IntKind) (a b : Int) (h : shiftI op k a b K) : Gives P w φ H K (Go.binOp op T (.int k a) (.int k' b)) := by
  cases op <;> simp only [shiftI] at h
  case shl =>
    refine .mk' _ _ h.2 (.int _ _) fun w' => ?_
    have := h.1
    have : ¬ b < 0 := by omega
    simp [Go.binOp, Op.shift, this, ishl]
  case shr =>
    refine .mk' _ _ h.2 (.int _ _) fun w' => ?_
    have := h.1
    have : ¬ b < 0 := by omega
    simp [Go.binOp, Op.shift, this, ishr]
theorem binS_sound (op : BinOp) (T : TypeId) (a b : List UInt8) (h : binS op a b K) : Gives P w φ H K (Go.binOp op T (.string ⟨a.toArray⟩) (.string ⟨b.toArray⟩)) := by
  cases op <;> simp only [binS] at h
  case add =>
    refine .mk' _ _ h.2 (.str _) fun w' => ?_
    have hm : ((⟨a.toArray⟩ : ByteArray).size + (⟨b.toArray⟩ : ByteArray).size : Int) ≤ 9223372036854775807 := by
      have := h.1
      rw [List.length_append] at this
      simp [ByteArray.size]
      omega
    have e : (⟨a.toArray⟩ : ByteArray) ++ ⟨b.toArray⟩ = ⟨(a ++ b).toArray⟩ := by
      apply ByteArray.ext
      simp
    simp only [Go.binOp, Op.stringOp]
    simp [IntKind.max, IntKind.signed, IntKind.bits, hm, e]
  case eql => exact .mk' _ _ h (.bool _) fun w' => by simp [Go.binOp, Op.stringOp, Bool.beq_eq_decide_eq]
  case neq => exact .mk' _ _ h (.bool _) fun w' => by simp [Go.binOp, Op.stringOp, Bool.beq_eq_decide_eq]
  case lss => exact .mk' _ _ h (.bool _) fun w' => by simp [Go.binOp, Op.stringOp]
theorem run_equalIn_bool (d : Nat) (T : TypeId) (hT : isBoolT P T = true) (a b : Bool) (w' : World) : (Op.equalIn (d + 1) T (.bool a) (.bool b)).run P w' = .ok (a == b) w' := by
  have hu := und_of_isBoolT hT
  simp [Op.equalIn, run_underlying hu]
theorem run_equal_bool (T : TypeId) (hT : isBoolT P T = true) (a b : Bool) (w' : World) : (Op.equal T (.bool a) (.bool b)).run P w' = .ok (a == b) w' := run_equalIn_bool 9999 T hT a b w'
theorem binB_sound (op : BinOp) (T : TypeId) (hT : isBoolT P T = true) (a b : Bool) (h : binB op a b K) : Gives P w φ H K (Go.binOp op T (.bool a) (.bool b)) := by
  cases op <;> simp only [binB] at h
  case eql =>
    refine .mk' _ _ h (.bool _) fun w' => ?_
    have : Go.binOp .eql T (.bool a) (.bool b) = (do pure (.bool (← Op.equal T (.bool a) (.bool b)))) := by unfold Go.binOp; rfl
    rw [this]
    simp only [Sem.run_bind, run_equal_bool T hT, Result.andThen_ok, Sem.run_pure]
  case neq =>
    refine .mk' _ _ h (.bool _) fun w' => ?_
    have : Go.binOp .neq T (.bool a) (.bool b) = (do pure (.bool (!(← Op.equal T (.bool a) (.bool b))))) := by unfold Go.binOp; rfl
    rw [this]
    simp only [Sem.run_bind, run_equal_bool T hT, Result.andThen_ok, Sem.run_pure]
    rfl
end
end Go.Av
namespace Go.Av
open Go.RowKit
set_option linter.unusedVariables false

def szE (P : Program) (T : TypeId) : Option Nat := (elT P T).bind (szT P ·)
def iv : Option AV → Nat → Option Int
  | none, d => some d
  | some (.int _ n), _ => some n
  | _, _ => none
def encB (b : UInt8) : AV := .int .u8 b.toNat

theorem run_bounds {P : Program} {w : World} (b : Bool) (len cap : Nat) (lo hi : Option Value) (l h : Int) (hl : lo = none ∧ l = 0 ∨ ∃ k, lo = some (.int k l)) (hh : hi = none ∧ h = len ∨ ∃ k, hi = some (.int k h))
    (h0 : 0 ≤ l) (h1 : l ≤ h) (h2 : h ≤ (cap : Int)) : (Instr.sliceBounds b len cap lo hi none).run P w = .ok (l.toNat, h.toNat, cap) w := by
  have e1 : (h.toNat : Int) = h := Int.toNat_of_nonneg (by omega)
  have e2 : 0 ≤ h := by omega
  rcases hl with ⟨rfl, rfl⟩ | ⟨k, rfl⟩ <;> rcases hh with ⟨rfl, rfl⟩ | ⟨k', rfl⟩ <;>
    simp [Instr.sliceBounds, run_sliceBound, h0, h1, h2, e1, e2] <;> omega

theorem run_sliceAt_sl {P : Program} {T E : TypeId} {s : Nat} (hE : elT P T = some E) (hs : szT P E = some s) (w : World) (ad : Option Addr) (len cap : Nat) (lo hi : Option Value) (l h : Int) (hl : lo = none ∧ l = 0 ∨ ∃ k, lo = some (.int k l)) (hh : hi = none ∧ h = len ∨ ∃ k, hi = some (.int k h))
    (h0 : 0 ≤ l) (h1 : l ≤ h) (h2 : h ≤ cap) :
    (Instr.sliceAt T (.slice ad len cap) lo hi none).run P w = .ok (.slice (if cap = l.toNat then ad else ad.map (·.add (l.toNat * s))) (h.toNat - l.toNat) (cap - l.toNat)) w := by
  have hu := und_of_elT hE
  simp only [Instr.sliceAt, Sem.run_bind, run_underlying hu, Result.andThen_ok, Instr.slice, run_bounds true len cap lo hi l h hl hh h0 h1 h2, run_sizeOf' hs, Sem.run_pure]

theorem run_sliceAt_str {P : Program} {T : TypeId} (hT : isStr P T = true) (w : World) (s : ByteArray) (lo hi : Option Value) (l h : Int) (hl : lo = none ∧ l = 0 ∨ ∃ k, lo = some (.int k l)) (hh : hi = none ∧ h = s.size ∨ ∃ k, hi = some (.int k h))
    (h0 : 0 ≤ l) (h1 : l ≤ h) (h2 : h ≤ s.size) :
    (Instr.sliceAt T (.string s) lo hi none).run P w = .ok (.string (s.extract l.toNat h.toNat)) w := by
  have hu := und_of_isStr hT
  simp [Instr.sliceAt, run_underlying hu, Instr.slice, run_bounds false s.size s.size lo hi l h hl hh h0 h1 h2]

theorem run_sliceAt_ar {P : Program} {T E : TypeId} {n : Nat} (hE : P.underlying T = some (.array n E)) (hs : szT P E = some 1) (w : World) (b o : Nat) (lo hi : Option Value) (l h : Int) (hl : lo = none ∧ l = 0 ∨ ∃ k, lo = some (.int k l)) (hh : hi = none ∧ h = n ∨ ∃ k, hi = some (.int k h))
    (h0 : 0 ≤ l) (h1 : l ≤ h) (h2 : h ≤ n) :
    (Instr.sliceAt T (.pointer (some ⟨b, o, none⟩)) lo hi none).run P w = .ok (.slice (if n = l.toNat then some ⟨b, o, none⟩ else (some (⟨b, o, none⟩ : Addr)).map (·.add (l.toNat * 1))) (h.toNat - l.toNat) (n - l.toNat)) w := by
  simp only [Instr.sliceAt, Sem.run_bind, run_underlying hE, Result.andThen_ok, Instr.sureAddr, run_bounds false n n lo hi l h hl hh h0 h1 h2, run_sizeOf' hs, Sem.run_pure]
  split <;> simp_all

/-- a piece of a list -/
def slL {α : Type} (xs : List α) (lo hi : Int) : Option (List α) := if 0 ≤ lo ∧ lo ≤ hi ∧ hi ≤ xs.length then some ((xs.take hi.toNat).drop lo.toNat) else none
def SlS (s : List UInt8) (l h : Int) [K : Ko (AV → Prop)] : Prop := ∃ r, slL s l h = some r ∧ K.k (.str r)
def SlV (sz : Nat) (xs : List AV) (l h : Int) [K : Ko (AV → Prop)] : Prop := ∃ r, slL xs l h = some r ∧ K.k (.view sz r)
/-- a piece of an own slice of n places from off on -/
def SlO (n off : Nat) (l h : Int) [K : Ko (Nat → Nat → Prop)] : Prop := 0 ≤ l ∧ l ≤ h ∧ off + h ≤ n ∧ K.k (off + l.toNat) (h - l).toNat
def ivl : Option AV → Option Int
  | none => some 0
  | some (.int _ n) => some n
  | _ => none
theorem ivl_eq (x : Option AV) : ivl x = iv x 0 := by
  unfold ivl iv; split <;> first | rfl | simp_all
/-- a piece of an array's places -/
def arV (xs : List AV) (a b : Option Int) (K : AV → Prop) : Prop := match a, b with
  | some l, some h => @SlV 1 xs l h ⟨K⟩
  | _, _ => False
def slV (P : Program) (T : TypeId) (H : List AO) (x : AV) (lo hi : Option AV) (K : AV → Prop) : Prop := match x with
  | .str s => isStr P T = true ∧ (match ivl lo, iv hi s.length with
    | some l, some h => @SlS s l h ⟨K⟩
    | _, _ => False)
  | .view sz xs => szE P T = some sz ∧ (match ivl lo, iv hi xs.length with
    | some l, some h => @SlV sz xs l h ⟨K⟩
    | _, _ => False)
  | .viewx sz xs n => szE P T = some sz ∧ (match ivl lo, iv hi n with
    | some l, some h => @SlV sz xs l h ⟨K⟩
    | _, _ => False)
  | .own id ver off len => (match H[id]? with
    | some (.slice v _ s xs) => v = ver ∧ szE P T = some s ∧ (match ivl lo, iv hi len with
      | some l, some h => @SlO xs.length off l h ⟨fun o n => K (.own id ver o n)⟩
      | _, _ => False)
    | _ => False)
  | .vptr x off => off = 0 ∧ @ArK (arN P T) x.cells ⟨arV x.cells (ivl lo) (iv hi x.cells.length) K⟩
  | _ => False

theorem iv_spec {w : World} {φ : Nat → Value} {H : List AO} {x : Option AV} {v : Option Value} {d : Nat} {l : Int} (hr : ∀ y u, x = some y → v = some u → R w φ H y u) (hn : x = none ↔ v = none) (h : iv x d = some l) :
    v = none ∧ l = d ∨ ∃ k, v = some (.int k l) := by
  rcases x with _ | y
  · simp only [iv, Option.some.injEq] at h
    exact .inl ⟨hn.1 rfl, h.symm⟩
  · rcases v with _ | u
    · simp at hn
    · cases y <;> simp only [iv, Option.some.injEq, reduceCtorEq] at h
      rename_i k n
      subst h
      cases hr _ u rfl rfl
      exact .inr ⟨k, rfl⟩

section
variable {P : Program} {B : Nat} {X : Nat → Prop} {w0 w : World} {φ : Nat → Value} {H : List AO} {K : AV → Prop}

theorem view_cut {xs : List AV} {s b off cap : Nat} {u : Nat → Nat → Value} (hcap : xs.length ≤ cap) (hb : b < w.heap.size) (hl : NL φ H b) (hcl : ∀ (i : Nat) (x : AV), xs[i]? = some x → x.closed = true) (hs : ∀ (i : Nat) (x : AV), xs[i]? = some x → x.cells.length = s)
    (hc : ∀ (i : Nat) (x : AV) (j : Nat) (c : AV), xs[i]? = some x → x.cells[j]? = some c → w.cell? ⟨b, off + i * s + j, none⟩ = some (u i j) ∧ (u i j).oneCell' = true)
    (hr : ∀ (i : Nat) (x : AV) (j : Nat) (c : AV), xs[i]? = some x → x.cells[j]? = some c → R w φ H c (u i j)) (l h : Nat) (h1 : l ≤ h) (h2 : h ≤ xs.length) :
    R w φ H (.view s ((xs.take h).drop l)) (.slice (if cap = l then some ⟨b, off, none⟩ else (some ⟨b, off, none⟩ : Option Addr).map (·.add (l * s))) (h - l) (cap - l)) := by
  have hlen : ((xs.take h).drop l).length = h - l := by simp; omega
  by_cases he : h = l
  · have : (xs.take h).drop l = [] := List.eq_nil_of_length_eq_zero (by rw [hlen]; omega)
    rw [this, he, Nat.sub_self]
    exact .view0 _ _ _
  · have hne : ¬ cap = l := by omega
    rw [if_neg hne, Option.map_some, add_lit]
    have hget : ∀ (i : Nat) (x : AV), ((xs.take h).drop l)[i]? = some x → xs[l + i]? = some x := fun i x hi => by
      rw [List.getElem?_drop, List.getElem?_take] at hi
      split at hi
      · exact hi
      · simp at hi
    have := R.view (w := w) (φ := φ) (H := H) ((xs.take h).drop l) b (off + l * s) s (cap - l) (fun i j => u (l + i) j) (by rw [hlen]; omega) hb hl (fun i x hi => hcl _ x (hget i x hi)) (fun i x hi => hs _ x (hget i x hi))
      (fun i x j c hi hj => by
        have := hc (l + i) x j c (hget i x hi) hj
        rw [show off + l * s + i * s + j = off + (l + i) * s + j by rw [Nat.add_mul]; omega]
        exact this)
      (fun i x j c hi hj => hr (l + i) x j c (hget i x hi) hj)
    rw [hlen] at this
    exact this

theorem slV_sound (st : St B X w0 w φ H) {T : TypeId} {x : AV} {v : Value} (r : R w φ H x v) {lo hi : Option AV} {lv hv : Option Value}
    (hlr : ∀ y u, lo = some y → lv = some u → R w φ H y u) (hln : lo = none ↔ lv = none) (hhr : ∀ y u, hi = some y → hv = some u → R w φ H y u) (hhn : hi = none ↔ hv = none)
    (h : slV P T H x lo hi K) : Gives P w φ H K (Instr.sliceAt T v lv hv none) := by
  cases x <;> simp only [slV, ivl_eq] at h
  case str s =>
    cases r
    obtain ⟨hT, h⟩ := h
    rcases hL : iv lo 0 with _ | l
    · simp [hL] at h
    rcases hI : iv hi s.length with _ | hh
    · simp [hL, hI] at h
    simp only [hL, hI] at h
    obtain ⟨r0, h, hk⟩ := h
    unfold slL at h
    split at h <;> simp only [Option.some.injEq, reduceCtorEq] at h
    rename_i h012
    obtain ⟨h0, h1, h2⟩ := h012
    subst h
    have e1 := iv_spec hlr hln hL
    have e2 := iv_spec hhr hhn hI
    refine .mk' _ _ hk (.str _) fun w' => ?_
    rw [run_sliceAt_str hT w' ⟨s.toArray⟩ lv hv l hh (by simpa using e1) (by simpa [ByteArray.size] using e2) h0 h1 (by simpa [ByteArray.size] using h2)]
    congr 2
    apply ByteArray.ext
    apply Array.ext'
    simp [ByteArray.data_extract, List.take_drop]
    congr 2
    omega
  case view sz xs =>
    obtain ⟨hsz, h⟩ := h
    rcases hL : iv lo 0 with _ | l
    · simp [hL] at h
    rcases hI : iv hi xs.length with _ | hh
    · simp [hL, hI] at h
    simp only [hL, hI] at h
    obtain ⟨r0, h, hk⟩ := h
    unfold slL at h
    split at h <;> simp only [Option.some.injEq, reduceCtorEq] at h
    rename_i h012
    obtain ⟨h0, h1, h2⟩ := h012
    subst h
    have e1 := iv_spec hlr hln hL
    have e2 := iv_spec hhr hhn hI
    obtain ⟨E, hE, hs⟩ : ∃ E, elT P T = some E ∧ szT P E = some sz := by simpa [szE, Option.bind_eq_some_iff] using hsz
    cases r with
    | view0 s ad cap =>
      simp at h2 e2
      have : hh = 0 := by omega
      subst this
      have : l = 0 := by omega
      subst this
      refine ⟨_, _, hk, ?_, fun w' _ => run_sliceAt_sl hE hs w' ad 0 cap lv hv 0 0 (by simpa using e1) (by simpa using e2) (by omega) (by omega) (by omega)⟩
      exact .view0 _ _ _
    | view _ b off size cap u hcap hb hl hcl hs' hc hr =>
      refine ⟨_, _, hk, ?_, fun w' _ => run_sliceAt_sl hE hs w' _ xs.length cap lv hv l hh (by simpa using e1) e2 h0 h1 (by omega)⟩
      exact view_cut hcap hb hl hcl hs' hc hr l.toNat hh.toNat (by omega) (by omega)
  case viewx sz xs n =>
    obtain ⟨hsz, h⟩ := h
    rcases hL : iv lo 0 with _ | l
    · simp [hL] at h
    rcases hI : iv hi n with _ | hh
    · simp [hL, hI] at h
    simp only [hL, hI] at h
    obtain ⟨r0, h, hk⟩ := h
    unfold slL at h
    split at h <;> simp only [Option.some.injEq, reduceCtorEq] at h
    rename_i h012
    obtain ⟨h0, h1, h2⟩ := h012
    subst h
    have e1 := iv_spec hlr hln hL
    have e2 := iv_spec hhr hhn hI
    obtain ⟨E, hE, hs⟩ : ∃ E, elT P T = some E ∧ szT P E = some sz := by simpa [szE, Option.bind_eq_some_iff] using hsz
    cases r with
    | viewx _ n b off size cap u hn hcap hb hl hcl hs' hc hr =>
      refine ⟨_, _, hk, ?_, fun w' _ => run_sliceAt_sl hE hs w' _ n cap lv hv l hh (by simpa using e1) e2 h0 h1 (by omega)⟩
      exact view_cut hcap hb hl hcl hs' hc hr l.toNat hh.toNat (by omega) (by omega)
  case vptr x off =>
    obtain ⟨rfl, hA, hone, h⟩ := h
    replace h : arV x.cells (ivl lo) (iv hi x.cells.length) K := h
    unfold arV at h
    rw [ivl_eq] at h
    rcases hL : iv lo 0 with _ | l
    · simp [hL] at h
    rcases hI : iv hi x.cells.length with _ | hh
    · simp [hL, hI] at h
    simp only [hL, hI] at h
    obtain ⟨r0, h, hk⟩ := h
    unfold slL at h
    split at h <;> simp only [Option.some.injEq, reduceCtorEq] at h
    rename_i h012
    obtain ⟨h0, h1, h2⟩ := h012
    subst h
    have e1 := iv_spec hlr hln hL
    have e2 := iv_spec hhr hhn hI
    obtain ⟨E, hE, _, hs⟩ := arN_spec hA
    cases r with
    | vptr _ _ b o u hcl hb hl hc hr =>
      refine ⟨_, _, hk, ?_, fun w' _ => run_sliceAt_ar hE hs w' b o lv hv l hh e1 e2 h0 h1 (by omega)⟩
      refine view_cut (u := fun i _ => u i) (Nat.le_refl _) hb hl (fun i y hy => AV.closed_cells hcl hy) (fun i y hy => by rw [hone y (List.mem_of_getElem? hy)]; rfl) (fun i y j c hy hj => ?_) (fun i y j c hy hj => ?_) l.toNat hh.toNat (by omega) (by omega)
      all_goals
        rw [hone y (List.mem_of_getElem? hy)] at hj
        obtain ⟨rfl, rfl⟩ : j = 0 ∧ c = y := by cases j <;> simp_all
      · have := hc i c (by simpa using hy)
        simpa using this
      · exact hr i c (by simpa using hy)
  case own id ver off len =>
    rcases hH : H[id]? with _ | o
    · simp [hH] at h
    cases o with
    | box T cs => simp [hH] at h
    | iter _ _ => simp [hH] at h
    | gone => simp [hH] at h
    | slice ver' E' s xs =>
      simp only [hH] at h
      obtain ⟨rfl, hsz, h⟩ := h
      rcases hL : iv lo 0 with _ | l
      · simp [hL] at h
      rcases hI : iv hi len with _ | hh
      · simp [hL, hI] at h
      simp only [hL, hI] at h
      obtain ⟨h0, h1, h2, hk⟩ := h
      have e1 := iv_spec hlr hln hL
      have e2 := iv_spec hhr hhn hI
      obtain ⟨E, hE, hs⟩ : ∃ E, elT P T = some E ∧ szT P E = some s := by simpa [szE, Option.bind_eq_some_iff] using hsz
      cases r with
      | own _ _ _ _ _ hid _ hvv hh' =>
        obtain ⟨o1, o2⟩ := hh' E' s xs hH
        obtain ⟨cs, c1, _⟩ := st.chunk id _ hH
        rcases o2 with ⟨f1, rfl, f3⟩ | ⟨g, cap, f1, f2, ad, rfl, f3, f4⟩
        · have hl0 : len = 0 := by omega
          have : hh = 0 := by omega
          subst this
          have : l = 0 := by omega
          subst this
          subst hl0
          refine ⟨_, _, hk, ?_, fun w' _ => run_sliceAt_sl hE hs w' none 0 0 lv hv 0 0 (by simpa using e1) (by simpa using e2) (by omega) (by omega) (by omega)⟩
          refine .own _ _ _ _ _ hid rfl hvv fun E2 s2 xs2 he => ?_
          rw [hH] at he
          simp at he
          obtain ⟨rfl, rfl, rfl⟩ := he
          refine ⟨by simp; omega, .inl ⟨f1, by simp, f3⟩⟩
        · refine ⟨_, _, hk, ?_, fun w' _ => run_sliceAt_sl hE hs w' ad len (cap - off) lv hv l hh (by simpa using e1) e2 h0 h1 (by omega)⟩
          refine .own _ _ _ _ _ hid rfl hvv fun E2 s2 xs2 he => ?_
          rw [hH] at he
          simp at he
          obtain ⟨rfl, rfl, rfl⟩ := he
          refine ⟨by omega, .inr ⟨g, cap, f1, f2, _, by congr 1 <;> omega, fun hlt => ?_, fun h00 => ?_⟩⟩
          · rw [if_neg (by omega), f3 (by omega), Option.map_some, add_lit]
            rw [Nat.add_mul]
          · have e0 : off = 0 := by omega
            have e1 : l.toNat = 0 := by omega
            rw [f4 e0, e1]
            split
            · rfl
            · simp [add_lit]
end
end Go.Av
namespace Go.Av
open Go.RowKit
set_option linter.unusedVariables false

/-- the elements of a slice value -/
def elemsV (H : List AO) (x : AV) (K : Nat → List AV → Prop) : Prop := match x with
  | .view sz xs => K sz xs
  | .viewx sz xs n => K sz (xs.take n)
  | .own id ver off len => (match H[id]? with
    | some (.slice v _ s xs) => v = ver ∧ K s ((xs.drop off).take len)
    | _ => False)
  | _ => False
/-- the slice value v holds the elements xs -/
def RdS (w : World) (φ : Nat → Value) (H : List AO) (s : Nat) (xs : List AV) (v : Value) : Prop :=
  ∃ ad cap, v = .slice ad xs.length cap ∧ xs.length ≤ cap ∧ (∀ (i : Nat) (x : AV), xs[i]? = some x → x.closed = true ∧ x.cells.length = s) ∧ (xs ≠ [] → ∃ b off, ad = some ⟨b, off, none⟩ ∧
    ∀ (i : Nat) (x : AV) (j : Nat) (c : AV), xs[i]? = some x → x.cells[j]? = some c → ∃ u, w.cell? ⟨b, off + i * s + j, none⟩ = some u ∧ u.oneCell' = true ∧ R w φ H c u)

section
variable {P : Program} {B : Nat} {X : Nat → Prop} {w0 w : World} {φ : Nat → Value} {H : List AO} {K : AV → Prop}

theorem elemsV_sound (st : St B X w0 w φ H) {x : AV} {v : Value} (r : R w φ H x v) {K : Nat → List AV → Prop} (h : elemsV H x K) : ∃ s xs, K s xs ∧ RdS w φ H s xs v := by
  cases x <;> simp only [elemsV] at h
  case view sz xs =>
    cases r with
    | view0 s ad cap => exact ⟨_, _, h, ad, cap, rfl, Nat.zero_le _, fun i x hi => by simp at hi, fun e => absurd rfl e⟩
    | view _ b off size cap u hcap hb hl hcl hs hc hr =>
      exact ⟨_, _, h, _, cap, rfl, hcap, fun i x hi => ⟨hcl i x hi, hs i x hi⟩, fun _ => ⟨b, off, rfl, fun i x j c hi hj => ⟨u i j, (hc i x j c hi hj).1, (hc i x j c hi hj).2, hr i x j c hi hj⟩⟩⟩
  case viewx sz xs n =>
    cases r with
    | viewx _ n b off size cap u hn hcap hb hl hcl hs hc hr =>
      have hlen : (xs.take n).length = n := by simp; omega
      have hget : ∀ (i : Nat) (x : AV), (xs.take n)[i]? = some x → xs[i]? = some x := fun i x hi => by
        rw [List.getElem?_take] at hi
        split at hi
        · exact hi
        · simp at hi
      exact ⟨_, _, h, _, cap, by rw [hlen], by omega, fun i x hi => ⟨hcl i x (hget i x hi), hs i x (hget i x hi)⟩, fun _ => ⟨b, off, rfl, fun i x j c hi hj => ⟨u i j, (hc i x j c (hget i x hi) hj).1, (hc i x j c (hget i x hi) hj).2, hr i x j c (hget i x hi) hj⟩⟩⟩
  case own id ver off len =>
    rcases hH : H[id]? with _ | o
    · simp [hH] at h
    cases o with
    | box T cs => simp [hH] at h
    | iter _ _ => simp [hH] at h
    | gone => simp [hH] at h
    | slice ver' E s xs =>
      simp only [hH] at h
      obtain ⟨rfl, hk⟩ := h
      obtain ⟨cs, c1, c2, c3, c4⟩ := st.chunk id _ hH
      have hget : ∀ (i : Nat) (x : AV), ((xs.drop off).take len)[i]? = some x → xs[off + i]? = some x := fun i x hi => by
        rw [List.getElem?_take] at hi
        split at hi
        · rw [List.getElem?_drop] at hi; exact hi
        · simp at hi
      cases r with
      | own _ _ _ _ _ hid _ _ hh =>
        obtain ⟨o1, o2⟩ := hh E s xs hH
        have hlen : ((xs.drop off).take len).length = len := by simp; omega
        refine ⟨_, _, hk, ?_⟩
        rcases o2 with ⟨f1, rfl, f3⟩ | ⟨g, cap, f1, f2, ad, rfl, f3, f4⟩
        · have : (xs.drop off).take len = [] := List.eq_nil_of_length_eq_zero (by rw [hlen]; omega)
          rw [this]
          exact ⟨none, 0, rfl, Nat.le_refl _, fun i x hi => by simp at hi, fun e => absurd rfl e⟩
        · refine ⟨ad, cap - off, by rw [hlen], by omega, fun i x hi => c3 _ x (hget i x hi), fun hne => ?_⟩
          have hpos : 0 < len := by
            rcases Nat.eq_zero_or_pos len with e | e
            · subst e; simp at hne
            · exact e
          refine ⟨g, off * s, f3 (by omega), fun i x j c hi hj => ?_⟩
          have hx := hget i x hi
          have hilt : off + i < xs.length := (List.getElem?_eq_some_iff.1 hx).1
          have hj' : j < s := by rw [← (c3 _ x hx).2]; exact (List.getElem?_eq_some_iff.1 hj).1
          have hlt : (off + i) * s + j < cs.length := by
            rw [c1.1]
            calc (off + i) * s + j < (off + i) * s + s := by omega
              _ = (off + i + 1) * s := by rw [Nat.add_mul (off + i), Nat.one_mul]
              _ ≤ xs.length * s := Nat.mul_le_mul_right _ hilt
          refine ⟨_, ?_, c1.2.1 _ (List.getElem_mem hlt), c4 _ x j c _ hx hj (List.getElem?_eq_getElem hlt)⟩
          have := ownRow_cell c1 f1 (List.getElem?_eq_getElem hlt)
          rw [show off * s + i * s + j = (off + i) * s + j by rw [Nat.add_mul]]
          exact this

/-! the bytes of a slice as a string -/
def BytesK (xs : List AV) [K : Ko (AV → Prop)] : Prop := ∃ bs : List UInt8, xs = bs.map encB ∧ K.k (.str bs)
def bytesV (P : Program) (src dst : TypeId) (H : List AO) (x : AV) (K : AV → Prop) : Prop :=
  isStr P dst = true ∧ (elT P src).bind (ikT P ·) = some .u8 ∧ elemsV H x fun _ xs => @BytesK xs ⟨K⟩

theorem run_conv_bytes {src dst : TypeId} (h1 : isStr P dst = true) (h2 : (elT P src).bind (ikT P ·) = some .u8) {bs : List UInt8} {v : Value} {s : Nat} (rd : RdS w φ H s (bs.map encB) v) :
    ∀ w', Ext w w' → (convert src dst v).run P w' = .ok (.string ⟨bs.toArray⟩) w' := by
  intro w' hw
  obtain ⟨E, hE, hk⟩ : ∃ E, elT P src = some E ∧ ikT P E = some .u8 := by simpa [Option.bind_eq_some_iff] using h2
  have u1 := und_of_elT hE
  have u2 := und_of_ikT hk
  have u3 := und_of_isStr h1
  obtain ⟨ad, cap, rfl, _, hcs, hrd⟩ := rd
  rcases bs with _ | ⟨b0, bs⟩
  · rcases ad with _ | a
    · exact run_convert_bytes_nil w' src E u1 u2 _ cap dst u3
    · have := run_bytesToString (P := P) w' a 0 cap [] (by simp [loadCells, loadCellsFrom])
      simp only [List.map_nil, List.length_nil]
      rw [run_convert_bytes_string w' src dst E _ 0 cap u1 u2 u3, this]
      rfl
  · obtain ⟨b, off, rfl, hc⟩ := hrd (by simp)
    have := run_convert_bytes_arg w' src E u1 u2 b off ((b0 :: bs).map encB).length cap ((b0 :: bs).map fun b => (b.toNat : Int)) (by simp) (fun i hi => by
      have hi' : i < (b0 :: bs).length := by simpa using hi
      obtain ⟨u, e1, _, e3⟩ := hc i (encB (b0 :: bs)[i]) 0 (encB (b0 :: bs)[i]) (by rw [List.getElem?_map, List.getElem?_eq_getElem hi']; rfl) (by simp [encB, AV.cells])
      have hs : s = 1 := by
        have := (hcs 0 (encB b0) (by simp)).2
        simpa [encB, AV.cells] using this.symm
      subst hs
      rw [Nat.mul_one, Nat.add_zero] at e1
      rw [hw.cell e1]
      have e4 : ((b0 :: bs).map fun b => (b.toNat : Int)).getD i 0 = ((b0 :: bs)[i].toNat : Int) := by
        rw [List.getD_eq_getElem?_getD, List.getElem?_map, List.getElem?_eq_getElem hi']; rfl
      rw [e4]
      generalize (b0 :: bs)[i] = z at e3
      unfold encB at e3
      cases e3
      rfl) dst u3
    rw [this]
    congr 2
    simp [strOfNums, Function.comp_def]

/-- a pointer to an unsafe.Pointer, or back, at the cell off of a variable of type T, of n cells -/
def unsOK (P : Program) (src dst T : TypeId) (n off : Nat) : Bool := match P.underlying src, P.underlying dst with
  | some (.pointer t), some .unsafePointer => (match P.info? t with
    | some j => j.size != 0
    | none => false) && decide (off < n)
  | some .unsafePointer, some (.pointer u) => (P.info? u).isSome && liesAt P P.depth T (n / P.cellsOf T) off u 1
  | _, _ => false
theorem unsOK_run {src dst T : TypeId} {n off g : Nat} (h : unsOK P src dst T n off = true) {w' : World} (hsh : w'.shape? g = some (T, n)) : (convert src dst (.pointer (some ⟨g, off, none⟩))).run P w' = .ok (.pointer (some ⟨g, off, none⟩)) w' := by
  unfold unsOK at h
  split at h
  · rename_i t h1 h2
    split at h
    · rename_i j hj
      simp only [Bool.and_eq_true, bne_iff_ne, decide_eq_true_eq] at h
      exact Lib.run_to_unsafe w' ⟨g, off, none⟩ h1 h2 hj h.1 hsh h.2
    · simp at h
  · rename_i u h1 h2
    simp only [Bool.and_eq_true] at h
    obtain ⟨j, hj⟩ := Option.isSome_iff_exists.1 h.1
    exact Lib.run_from_unsafe w' ⟨g, off, none⟩ h1 h2 hj hsh h.2
  · simp at h
/-- a number as one of another kind -/
def icv (k k' : IntKind) (n : Int) : Int := k'.wrap n
def convV (P : Program) (src dst : TypeId) (H : List AO) (x : AV) (K : AV → Prop) : Prop := match x with
  | .int k n => (match ikT P dst with
    | some k' => (isStr P dst = false) ∧ K (.int k' (icv k k' n))
    | none => False)
  | .str s => isStr P dst = true ∧ K (.str s)
  | .bptr id off => (match H[id]? with
    | some (.box T cs) => unsOK P src dst T cs.length off = true ∧ K (.bptr id off)
    | _ => False)
  | x => bytesV P src dst H x K

theorem convV_sound (st : St B X w0 w φ H) {src dst : TypeId} {x : AV} {v : Value} (r : R w φ H x v) (hsrc : (P.underlying src).isSome = true) (h : convV P src dst H x K) : Gives P w φ H K (convert src dst v) := by
  have hb : bytesV P src dst H x K → Gives P w φ H K (convert src dst v) := fun h => by
    obtain ⟨h1, h2, h3⟩ := h
    obtain ⟨s, xs, ⟨bs, rfl, hk⟩, rd⟩ := elemsV_sound st r h3
    exact ⟨_, _, hk, .str bs, run_conv_bytes h1 h2 rd⟩
  cases x
  case int k n =>
    cases r
    simp only [convV] at h
    rcases hk : ikT P dst with _ | k'
    · simp [hk] at h
    · simp only [hk] at h
      obtain ⟨_, h⟩ := h
      obtain ⟨d, hd⟩ := Option.isSome_iff_exists.1 hsrc
      have u := und_of_ikT hk
      refine .mk' _ _ h (.int _ _) fun w' => ?_
      cases d <;> simp [convert, run_underlying hd, run_underlying u, Conv.intToInt, icv]
  case str s =>
    cases r
    simp only [convV] at h
    obtain ⟨h1, h2⟩ := h
    obtain ⟨d, hd⟩ := Option.isSome_iff_exists.1 hsrc
    refine .mk' _ _ h2 (.str _) fun w' => ?_
    have u := und_of_isStr h1
    cases d <;> simp [convert, run_underlying hd, run_underlying u]
  case bptr id off =>
    simp only [convV] at h
    rcases hH : H[id]? with _ | o
    · simp [hH] at h
    cases o <;> simp only [hH] at h
    rename_i T cs
    obtain ⟨h1, hk⟩ := h
    obtain ⟨g, arr, c1, c2, c3, c4⟩ := st.chunk id _ hH
    have r' := r
    cases r with
    | bptr _ _ _ hid ho hh =>
      obtain ⟨g', e1, rfl⟩ := hh _ hH rfl
      rw [c1] at e1
      simp at e1
      subst e1
      refine ⟨_, _, hk, r', fun w' hw => ?_⟩
      refine unsOK_run h1 ?_
      rw [hw.shape g (Array.getElem?_eq_some_iff.1 c2).1, World.shape?, c2, ← c3]
  all_goals exact hb h
end
end Go.Av
