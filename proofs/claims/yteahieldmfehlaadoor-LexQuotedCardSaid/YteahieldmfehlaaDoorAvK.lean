/- Av, part K: 'eOp': the operations that make or write memory of ours, and that they do what it says. -/
import Derived.Test.YteahieldmfehlaaDoorAvI
import Derived.Lib.ConvBytes
namespace Go.Av
open Go.RowKit
set_option linter.unusedVariables false

def AV.one : AV → Bool
  | .dead | .agg _ | .tup _ => false
  | .sc v => v.oneCell'
  | _ => true
theorem R.one {w : World} {φ : Nat → Value} {H : List AO} {x : AV} {v : Value} (r : R w φ H x v) (h : x.one = true) : v.oneCell' = true := by
  cases r <;> first | rfl | assumption | (simp [AV.one] at h; done) | (simpa [AV.one] using h)
/-- what it gives on single cells -/
theorem R.cells {w : World} {φ : Nat → Value} {H : List AO} {x : AV} {v : Value} (r : R w φ H x v) (h : x.cells.all AV.one = true) :
    v.cells.size = x.cells.length ∧ ∀ (i : Nat) (c : AV) (u : Value), x.cells[i]? = some c → v.cells[i]? = some u → R w φ H c u ∧ u.oneCell' = true := by
  cases x
  case agg xs =>
    cases r with
    | agg _ us hs hr =>
      refine ⟨hs, fun i c u hi hu => ?_⟩
      have h1 := hr i c u hi hu
      exact ⟨h1, h1.one (List.all_eq_true.1 h c (List.mem_of_getElem? hi))⟩
  all_goals
    have h1 := r.one (by simpa [AV.cells] using h)
    have e : v.cells = #[v] := by cases v <;> first | rfl | (simp [Value.oneCell'] at h1)
    rw [e]
    refine ⟨rfl, fun i c u hi hu => ?_⟩
    match i, hi, hu with
    | 0, hi, hu => simp [AV.cells] at hi hu; subst hi hu; exact ⟨r, h1⟩
    | i + 1, hi, hu => simp at hu

def zeroA (P : Program) (T : TypeId) : Option (List AV) := ((P.info? T).bind (·.zero)).map fun z => z.cells.toList.map constA
/-- element type, its cells, its bytes: of a slice type -/
def tyS (P : Program) (t : TypeId) : Option (TypeId × Nat × Nat) := match elT P t with
  | some E => (match P.info? E with
    | some i => (match i.zero with
      | some z => if z.cells.size = i.size ∧ 0 < i.size then some (E, i.size, i.bytes) else none
      | none => none)
    | none => none)
  | none => none
theorem tyS_spec {P : Program} {t E : TypeId} {s b : Nat} (h : tyS P t = some (E, s, b)) : P.underlying t = some (.slice E) ∧ szT P E = some s ∧ 0 < s ∧ ∃ z, TyI P E s b z := by
  unfold tyS at h
  split at h
  · rename_i E' hE
    split at h
    · rename_i i hi
      split at h
      · rename_i z hz
        split at h
        · rename_i hc
          simp at h
          obtain ⟨rfl, rfl, rfl⟩ := h
          exact ⟨und_of_elT hE, by simp [szT, hi], hc.2, z, ⟨i, hi, rfl, rfl, hz⟩, hc.1, hc.2⟩
        · simp at h
      · simp at h
    · simp at h
  · simp at h

def splice (cs : List AV) (off : Nat) (ys : List AV) : List AV := cs.take off ++ ys ++ cs.drop (off + ys.length)
def putEl (e : AV) (off : Nat) (x : AV) : AV := match e with
  | .agg cs => (match x with
    | .agg ys => .agg (splice cs off ys)
    | x => .agg (splice cs off [x]))
  | _ => x
def elsOK (s : Nat) (xs : List AV) : Prop := ∀ x ∈ xs, x.closed = true ∧ x.cells.length = s ∧ x.cells.all AV.one = true

/-- append of ys to nil -/
def appN (E : TypeId) (s : Nat) (H : List AO) (ys : List AV) (K : AV → List AO → Prop) : Prop :=
  K (.own H.length 0 0 ys.length) (H ++ [.slice 0 E s ys])
def appV (P : Program) (t t2 : TypeId) (H : List AO) (x y : AV) (K : AV → List AO → Prop) : Prop :=
  match tyS P t with
  | some (E, s, b) => (match x with
    | .own id ver 0 len => (match H[id]? with
      | some (.slice v E' s' xs) => v = ver ∧ E' = E ∧ s' = s ∧ (match y with
        | .str bs => isStr P t2 = true ∧ s = 1 ∧ (len + bs.length) * b ≤ 140737488355328 ∧ len + bs.length ≤ 9223372036854775807 ∧
            K (.own id (ver + 1) 0 (len + bs.length)) (H.set id (.slice (ver + 1) E s (xs.take len ++ bs.map encB)))
        | y => t2 = t ∧ elemsV H y fun sy ys => sy = s ∧ (len + ys.length) * b ≤ 140737488355328 ∧ len + ys.length ≤ 9223372036854775807 ∧
            K (.own id (ver + 1) 0 (len + ys.length)) (H.set id (.slice (ver + 1) E s (xs.take len ++ ys))))
      | _ => False)
    | .sc (.slice none 0 0) => (match y with
      | .str bs => isStr P t2 = true ∧ s = 1 ∧ bs.length * b ≤ 140737488355328 ∧ bs.length ≤ 9223372036854775807 ∧ appN E s H (bs.map encB) K
      | y => t2 = t ∧ elemsV H y fun sy ys => sy = s ∧ ys.length * b ≤ 140737488355328 ∧ ys.length ≤ 9223372036854775807 ∧ appN E s H ys K)
    | _ => False)
  | none => False
def appK (P : Program) (t t2 : TypeId) (H : List AO) (x y : AV) [K : Ko (AV → List AO → Prop)] : Prop := appV P t t2 H x y K.k
def ptrE (P : Program) (t : TypeId) : Option TypeId := match P.underlying t with
  | some (.pointer e) => some e
  | _ => none
/-- unsafe.String over the own bytes that a pointer begins: they are an object no more -/
def usV (P : Program) (pt : TypeId) (H : List AO) (p n : AV) (K : AV → List AO → Prop) : Prop := match p, n with
  | .sc (.pointer none), .int .i64 n => n = 0 ∧ K (.str []) H
  | .optr id ver 0 0, .int .i64 n => (match H[id]? with
    | some (.slice v E 1 xs) => v = ver ∧ ptrE P pt = some E ∧ szT P E = some 1 ∧ 0 < n ∧ n.toNat ≤ xs.length ∧ @BytesK (xs.take n.toNat) ⟨fun s => K s (H.set id .gone)⟩
    | _ => False)
  | _, _ => False
def stoV (P : Program) (T : TypeId) (H : List AO) (p x : AV) (K : AV → List AO → Prop) : Prop :=
  szT P T = some x.cells.length ∧ x.cells.all AV.one = true ∧ (match p with
  | .bptr id off => (match H[id]? with
    | some (.box T' cs) => off + x.cells.length ≤ cs.length ∧ K .dead (H.set id (.box T' (splice cs off x.cells)))
    | _ => False)
  | .optr id ver i off => (match H[id]? with
    | some (.slice v E s xs) => v = ver ∧ x.closed = true ∧ 0 < x.cells.length ∧ @GetK xs i ⟨fun e => off + x.cells.length ≤ s ∧ K .dead (H.set id (.slice v E s (xs.set i (putEl e off x))))⟩
    | _ => False)
  | _ => False)

def elsB (s : Nat) (xs : List AV) : Bool := xs.all fun x => x.closed && (x.cells.length == s && x.cells.all AV.one)
def fillA (place : Nat → Option (Nat × Nat)) (cs : List AV) : List (Nat × AV) → Option (List AV)
  | [] => some cs
  | (i, x) :: rest => match place i with
    | none => none
    | some (off, size) => if x.cells.length = size ∧ off + size ≤ cs.length ∧ x.cells.all AV.one = true then fillA place (splice cs off x.cells) rest else none
def placeA (P : Program) (T : TypeId) (i : Nat) : Option (Nat × Nat) := match fldI P T i with
  | some (off, ft) => (szT P ft).map fun s => (off, s)
  | none => none
def isStruct (P : Program) (T : TypeId) : Bool := match P.underlying T with
  | some (.struct fs) => fs.toList.all fun f => (szT P f.type).isSome
  | _ => false

/-- an array's elements have so many cells -/
def arrE (P : Program) (T : TypeId) : Option Nat := match P.underlying T with
  | some (.array _ e) => szT P e
  | _ => none

/-- a string's character at a place, and how many bytes it has -/
def decR (s : List UInt8) (p : Nat) : Nat × Nat := Utf8.decode ⟨s.toArray⟩ p
def MkK (n : Int) (b : Nat) [K : Ko Prop] : Prop := 0 ≤ n ∧ n.toNat * b ≤ 140737488355328 ∧ n.toNat ≤ 1099511627776 ∧ K.k
def nextV (H : List AO) (x : AV) (K : AV → List AO → Prop) : Prop := match x with
  | .bptr id 0 => (match H[id]? with
    | some (.iter s p) => @guardK (decide (p < s.length)) true ⟨K (.tup [.bool true, .int .i64 p, .int .i32 (decR s p).1]) (H.set id (.iter s (p + (decR s p).2)))⟩ ⟨K (.tup [.bool false]) H⟩
    | _ => False)
  | _ => False
/-- a struct or an array of its parts -/
def buildV (P : Program) (T : TypeId) (parts : List (Nat × AV)) (K : AV → Prop) : Prop := match arrE P T with
  | some s => (match zeroA P T with
    | some zs => zs.all AV.one = true ∧ (match fillA (fun i => some (i * s, s)) zs parts with
      | some cs => K (.agg cs)
      | none => False)
    | none => False)
  | none => isStruct P T = true ∧ (match zeroA P T with
    | some zs => zs.all AV.one = true ∧ (match fillA (placeA P T) zs parts with
      | some cs => K (.agg cs)
      | none => False)
    | none => False)
def eOp (P : Program) (op : Op) (ty : TypeId) (env : Env) (H : List AO) (K : AV → List AO → Prop) : Prop := match op with
  | .assign (.const (.slice none 0 0)) => (match tyS P ty with
    | some (E, s, _) => K (.own H.length 0 0 0) (H ++ [.slice 0 E s []])
    | none => False)
  | .box T x => (evO env x).cells.all AV.one = true ∧ K (.bptr H.length 0) (H ++ [.box T (evO env x).cells])
  | .alloc T => (match zeroA P T with
    | some zs => zs.all AV.one = true ∧ K (.bptr H.length 0) (H ++ [.box T zs])
    | none => False)
  | .store T p x => stoV P T H (evO env p) (evO env x) K
  | .makeSlice T l c => (match tyS P T, evO env l, evO env c with
    | some (E, 1, b), .int _ n, .int _ m => n = m ∧ (match zeroA P E with
      | some [z] => z.one = true ∧ z.closed = true ∧ z.cells.length = 1 ∧ @MkK n b ⟨K (.own H.length 0 0 n.toNat) (H ++ [.slice 0 E 1 (List.replicate n.toNat z)])⟩
      | _ => False)
    | _, _, _ => False)
  | .range T x => (match evO env x with
    | .str s => isStr P T = true ∧ K (.bptr H.length 0) (H ++ [.iter s 0])
    | _ => False)
  | .next it true => nextV H (evO env it) K
  | .buildSlice T len parts => (match tyS P T with
    | some (E, s, _) => parts.toList.map (·.1) = List.range len ∧ len * s ≤ 16777216 ∧ elsB s (parts.toList.map fun p => evO env p.2) = true ∧
        K (.own H.length 0 0 len) (H ++ [.slice 0 E s (parts.toList.map fun p => evO env p.2)])
    | none => False)
  | .call { callee := .builtin .append, args, argTypes } => (match args.toList, argTypes.toList with
    | [x, y], [t, t2] => @appK P t t2 H (evO env x) (evO env y) ⟨K⟩
    | _, _ => False)
  | .call { callee := .builtin .unsafeString, args, argTypes } => (match args.toList, argTypes.toList with
    | [p, n], [pt, _] => usV P pt H (evO env p) (evO env n) K
    | _, _ => False)
  | .convert src dst x => (match evO env x with
    | .str s => hasT P src = true ∧ tyS P dst = some ((elT P dst).getD 0, 1, 1) ∧ ikT P ((elT P dst).getD 0) = some .u8 ∧
        @Chk (s.length ≤ 9223372036854775807) ⟨K (.own H.length 0 0 s.length) (H ++ [.slice 0 ((elT P dst).getD 0) 1 (s.map encB)])⟩
    | _ => False)
  | _ => False

section
variable {P : Program} {B : Nat} {X : Nat → Prop} {w0 w : World} {φ : Nat → Value} {H : List AO} {K : AV → List AO → Prop}

theorem setAll (off : Nat) : ∀ (us : List Value) (j0 : Nat) (cells : Array Value), off + j0 + us.length ≤ cells.size →
    ((us.zipIdx j0).foldl (fun cs (x : Value × Nat) => cs.setIfInBounds (off + x.2) x.1) cells).size = cells.size ∧
    (∀ p, (p < off + j0 ∨ off + j0 + us.length ≤ p) → ((us.zipIdx j0).foldl (fun cs (x : Value × Nat) => cs.setIfInBounds (off + x.2) x.1) cells)[p]? = cells[p]?) ∧
    ∀ j, j < us.length → ((us.zipIdx j0).foldl (fun cs (x : Value × Nat) => cs.setIfInBounds (off + x.2) x.1) cells)[off + j0 + j]? = us[j]?
  | [], j0, cells, h => ⟨rfl, fun p _ => rfl, fun j hj => by simp at hj⟩
  | u :: us, j0, cells, h => by
    simp only [List.length_cons] at h
    obtain ⟨h1, h2, h3⟩ := setAll off us (j0 + 1) (cells.setIfInBounds (off + j0) u) (by simp; omega)
    simp only [List.zipIdx_cons, List.foldl_cons]
    refine ⟨by rw [h1]; simp, fun p hp => ?_, fun j hj => ?_⟩
    · simp only [List.length_cons] at hp
      rw [h2 p (by omega), Array.getElem?_setIfInBounds_ne (by omega)]
    · rcases j with _ | j
      · rw [h2 _ (by omega), Nat.add_zero, Array.getElem?_setIfInBounds_self_of_lt (by omega)]
        simp
      · have := h3 j (by simp at hj; omega)
        rw [show off + j0 + (j + 1) = off + (j0 + 1) + j by omega]
        simpa using this

theorem fill_row (s : Nat) : ∀ (l : List (Nat × Value)) (k : Nat) (cells : Array Value), (∀ (q : Nat) (x : Nat × Value), l[q]? = some x → x.1 = k + q ∧ x.2.cells.size = s) → (k + l.length) * s ≤ cells.size →
    ∃ out, Instr.fill (fun i => some (i * s, s)) cells l = some out ∧ out.size = cells.size ∧ (∀ p, p < k * s → out[p]? = cells[p]?) ∧
      ∀ (q : Nat) (x : Nat × Value) (j : Nat), l[q]? = some x → j < s → out[(k + q) * s + j]? = x.2.cells[j]?
  | [], k, cells, _, _ => ⟨cells, rfl, rfl, fun p _ => rfl, fun q x j h => by simp at h⟩
  | (i, v) :: l, k, cells, hl, hsz => by
    obtain ⟨hik, hv⟩ := hl 0 (i, v) rfl
    simp only [Nat.add_zero] at hik hv
    have hik' : k = i := hik.symm
    clear hik
    subst hik'
    simp only [List.length_cons] at hsz
    have hk1 : (k + 1) * s ≤ (k + (l.length + 1)) * s := Nat.mul_le_mul_right _ (by omega)
    rw [Nat.add_mul, Nat.one_mul] at hk1
    have hS := setAll (k * s) v.cells.toList 0 cells (by simp [hv]; omega)
    simp only [Nat.add_zero, Array.length_toList, hv] at hS
    obtain ⟨s1, s2, s3⟩ := hS
    obtain ⟨out, o1, o2, o3, o4⟩ := fill_row s l (k + 1) _ (fun q x hx => by
      have := hl (q + 1) x (by simpa using hx)
      exact ⟨by omega, this.2⟩) (by rw [s1, show k + 1 + l.length = k + (l.length + 1) by omega]; exact hsz)
    have hcond : ¬ (v.cells.size ≠ s ∨ k * s + v.cells.size > cells.size) := by rw [hv]; omega
    refine ⟨out, ?_, by rw [o2, s1], fun p hp => ?_, fun q x j hx hj => ?_⟩
    · simp only [Instr.fill]
      rw [if_neg (by simp [hv]; omega), ← Array.foldl_toList, Array.toList_zipIdx]
      exact o1
    · rw [o3 p (by rw [Nat.add_mul]; omega), s2 p (by omega)]
    · rcases q with _ | q
      · simp at hx
        subst hx
        rw [Nat.add_zero, o3 _ (by rw [Nat.add_mul]; omega), s3 j hj]
        simp
      · have := o4 q x j (by simpa using hx) hj
        rw [show k + (q + 1) = k + 1 + q by omega]
        exact this
/-- a run that leaves a state of ours -/
def Eff (P : Program) (B : Nat) (X : Nat → Prop) (w0 w : World) (φ : Nat → Value) (H : List AO) (K : AV → List AO → Prop) (s : Sem Next) : Prop :=
  ∃ x H' φ' v nx w', K x H' ∧ s.run P w = .ok nx w' ∧ (nx = .value v ∨ nx = .skip ∧ v = undef) ∧ St B X w0 w' φ' H' ∧ Le w φ H w' φ' H' ∧ R w' φ' H' x v

theorem one_getElem {us : Array Value} {n : Nat} (h : us.size = n) {i : Nat} (hi : i < n) : ∃ u, us[i]? = some u := ⟨_, Array.getElem?_eq_getElem (by omega)⟩

/-- a new box -/
theorem new_box (st : St B X w0 w φ H) (T : TypeId) (cs : List AV) (us : Array Value) (hs : us.size = cs.length) (hr : ∀ (i : Nat) (c : AV) (u : Value), cs[i]? = some c → us[i]? = some u → R w φ H c u ∧ u.oneCell' = true) :
    ∃ φ', St B X w0 (w.alloc (.cells us T)) φ' (H ++ [.box T cs]) ∧ Le w φ H (w.alloc (.cells us T)) φ' (H ++ [.box T cs]) ∧ R (w.alloc (.cells us T)) φ' (H ++ [.box T cs]) (.bptr H.length 0) (.pointer (some ⟨w.heap.size, 0, none⟩)) := by
  have hb : ∀ b, vblk (.pointer (some ⟨w.heap.size, 0, none⟩)) = some b → w.heap.size ≤ b ∧ b < (w.alloc (.cells us T)).heap.size := fun b h => by simp [vblk] at h; subst h; simp
  have le := Le_new (φ := φ) (H := H) (Gr.alloc w (.cells us T)) (.pointer (some ⟨w.heap.size, 0, none⟩)) (.box T cs) (fun b h => (hb b h).1)
  refine ⟨_, st.new (Gr.alloc w _) _ (.box T cs) hb ⟨w.heap.size, us, updφ_same _ _ _, heap_alloc_new w _, hs, fun i c u hc hu => ⟨(hr i c u hc hu).1.le le, (hr i c u hc hu).2⟩⟩, le, ?_⟩
  refine .bptr _ _ _ (by simp) rfl fun o h hp => ⟨_, updφ_same _ _ _, rfl⟩

/-- a new row -/
theorem new_row (st : St B X w0 w φ H) {w' : World} (g : Gr w w') (E : TypeId) (s : Nat) (hs0 : 0 < s) (xs : List AV) (v : Value) (cs : List Value) (hown : OwnRow w' E s v xs.length cs) (hb : ∀ b, vblk v = some b → w.heap.size ≤ b ∧ b < w'.heap.size)
    (hel : ∀ (i : Nat) (x : AV), xs[i]? = some x → x.closed = true ∧ x.cells.length = s) (hr : ∀ (i : Nat) (x : AV) (j : Nat) (c : AV) (u : Value), xs[i]? = some x → x.cells[j]? = some c → cs[i * s + j]? = some u → R w φ H c u)
    (hfull : OwnV v s xs.length 0 xs.length v) :
    ∃ φ', St B X w0 w' φ' (H ++ [.slice 0 E s xs]) ∧ Le w φ H w' φ' (H ++ [.slice 0 E s xs]) ∧ R w' φ' (H ++ [.slice 0 E s xs]) (.own H.length 0 0 xs.length) v := by
  have le := Le_new (φ := φ) (H := H) g v (.slice 0 E s xs) (fun b h => (hb b h).1)
  refine ⟨_, st.new g v (.slice 0 E s xs) hb ⟨cs, by rw [updφ_same]; exact hown, hs0, hel, fun i x j c u hx hj hu => (hr i x j c u hx hj hu).le le⟩, le, ?_⟩
  have hone : v.oneCell' = true := by
    rcases hfull.2 with ⟨rfl, _⟩ | ⟨g, cap, rfl, _⟩ <;> rfl
  refine .own _ _ _ _ _ (by simp) hone (fun _ _ _ _ _ => Nat.zero_le _) fun E' s' xs' h => ?_
  rw [List.getElem?_append_right (Nat.le_refl _)] at h
  simp at h
  obtain ⟨rfl, rfl, rfl⟩ := h
  rw [updφ_same]
  exact hfull

theorem splice_get {cs ys : List AV} {off i : Nat} {c : AV} (hle : off + ys.length ≤ cs.length) (h : (splice cs off ys)[i]? = some c) :
    (off ≤ i ∧ i < off + ys.length ∧ ys[i - off]? = some c) ∨ ((i < off ∨ off + ys.length ≤ i) ∧ cs[i]? = some c) := by
  unfold splice at h
  have l1 : (cs.take off).length = off := by rw [List.length_take]; omega
  rw [List.append_assoc] at h
  rcases Nat.lt_or_ge i off with hlt | hge
  · rw [List.getElem?_append_left (by omega), List.getElem?_take, if_pos hlt] at h
    exact .inr ⟨.inl hlt, h⟩
  · rw [List.getElem?_append_right (by omega), l1] at h
    rcases Nat.lt_or_ge (i - off) ys.length with hlt | hge2
    · rw [List.getElem?_append_left hlt] at h
      exact .inl ⟨hge, by omega, h⟩
    · rw [List.getElem?_append_right hge2, List.getElem?_drop] at h
      rw [show off + ys.length + (i - off - ys.length) = i by omega] at h
      exact .inr ⟨.inr (by omega), h⟩
theorem splice_length {cs ys : List AV} {off : Nat} (hle : off + ys.length ≤ cs.length) : (splice cs off ys).length = cs.length := by simp [splice]; omega

theorem closedL_iff : ∀ (xs : List AV), AV.closedL xs = true ↔ ∀ x ∈ xs, x.closed = true
  | [] => by simp [AV.closedL]
  | x :: r => by simp [AV.closedL, closedL_iff r]
theorem putEl_cells {e x : AV} {off : Nat} (hle : off + x.cells.length ≤ e.cells.length) (h0 : 0 < x.cells.length) : (putEl e off x).cells = splice e.cells off x.cells := by
  cases e
  case agg es => cases x <;> rfl
  all_goals
    have hle1 : off + x.cells.length ≤ 1 := hle
    have h1 : x.cells.length = 1 := by omega
    have h2 : off = 0 := by omega
    subst h2
    have h3 : ∃ c, x.cells = [c] := List.length_eq_one_iff.1 h1
    obtain ⟨c, hc⟩ := h3
    simp only [putEl, AV.cells, splice]
    cases x <;> simp_all [AV.cells]
theorem putEl_closed {e x : AV} {off : Nat} (he : e.closed = true) (hx : x.closed = true) : (putEl e off x).closed = true := by
  have hc : ∀ c ∈ x.cells, c.closed = true := fun c hc => by
    obtain ⟨j, hj⟩ := List.mem_iff_getElem?.1 hc
    exact AV.closed_cells hx hj
  cases e
  case agg es =>
    have h1 : ∀ y ∈ es, y.closed = true := (closedL_iff es).1 (by simpa [AV.closed] using he)
    have key : ∀ ys : List AV, (∀ c ∈ ys, c.closed = true) → (AV.agg (splice es off ys)).closed = true := fun ys hy => by
      simp only [AV.closed]
      refine (closedL_iff _).2 fun y hy' => ?_
      simp only [splice, List.mem_append] at hy'
      rcases hy' with (h | h) | h
      · exact h1 y (List.mem_of_mem_take h)
      · exact hy y h
      · exact h1 y (List.mem_of_mem_drop h)
    cases x
    case agg ys => exact key ys hc
    all_goals exact key _ (by simpa using hx)
  all_goals exact hx

theorem sto_sound (st : St B X w0 w φ H) {T : TypeId} {p x : AV} {v vx : Value} (rp : R w φ H p v) (rx : R w φ H x vx) (h : stoV P T H p x K) :
    ∃ x' H' φ' w', K x' H' ∧ (Instr.storeAt T v vx).run P w = .ok () w' ∧ St B X w0 w' φ' H' ∧ Le w φ H w' φ' H' ∧ x' = .dead := by
  obtain ⟨hsz, hone, h⟩ := h
  obtain ⟨hvs, hvr⟩ := rx.cells hone
  have hvone : ∀ u ∈ vx.cells.toList, u.oneCell' = true := fun u hu => by
    obtain ⟨j, hj⟩ := List.mem_iff_getElem?.1 hu
    have hj' : vx.cells[j]? = some u := by simpa using hj
    have hlt : j < x.cells.length := by rw [← hvs]; exact (Array.getElem?_eq_some_iff.1 hj').1
    exact (hvr j _ u (List.getElem?_eq_getElem hlt) hj').2
  have hvl : vx.cells.toList.length = x.cells.length := by simpa using hvs
  cases p <;> (try exact h.elim)
  case bptr id off =>
    rcases hH : H[id]? with _ | o
    · simp [hH] at h
    cases o with
    | slice _ _ _ _ => simp [hH] at h
    | iter _ _ => simp [hH] at h
    | gone => simp [hH] at h
    | box T' cs =>
      simp only [hH] at h
      obtain ⟨hle, hk⟩ := h
      cases rp with
      | bptr _ _ _ hid _ hh =>
        obtain ⟨g, e1, rfl⟩ := hh _ hH rfl
        obtain ⟨g', arr, c1, c2, c3, c4⟩ := st.chunk id _ hH
        rw [e1] at c1
        simp at c1
        subst c1
        obtain ⟨w', r1, r2, r3, r4⟩ := run_stores (P := P) vx.cells.toList off 0 arr w c2 (.inl rfl) (by rw [hvl, c3]; exact hle) hvone
        have hid' : id < H.length := hid
        have hblk : ∀ k, k < w.heap.size → vblk (φ id) ≠ some k → w'.heap[k]? = w.heap[k]? := fun k hk hne => r3.block k hk (by rw [e1] at hne; simpa [vblk] using hne)
        have hb : ∀ b, vblk (φ id) = some b → (vblk (φ id) = some b ∨ w.heap.size ≤ b) ∧ b < w'.heap.size := fun b hv => ⟨.inl hv, by rw [r4]; exact (st.live id _ b hH rfl hv).2⟩
        have le := Le_upd (w' := w') st hH rfl r3.size hblk (φ id) (fun b hv => (hb b hv).1) (o' := .box T' (splice cs off x.cells)) ⟨rfl, rfl⟩
        refine ⟨_, _, updφ φ id (φ id), w', hk, ?_, st.upd hH rfl r3.os r3.tape r3.output r3.size hblk (φ id) hb ⟨rfl, rfl⟩ ⟨g, _, by rw [updφ_same]; exact e1, r2, ?_, fun i c u hc hu => ?_⟩, le, rfl⟩
        · simp only [Instr.storeAt, Instr.sureAddr, storeVar, Sem.run_bind, Sem.run_pure, Result.andThen_ok, run_sizeOf' hsz, hvs, ne_eq, not_true_eq_false, if_false]
          exact r1
        · rw [splice_length hle]
          simp
          simp at hvl
          omega
        · simp only [Nat.add_zero, List.getElem?_toArray] at hu
          have l1 : (arr.toList.take off).length = off := by rw [List.length_take]; simp; omega
          rw [List.append_assoc] at hu
          rcases splice_get hle hc with ⟨h1, h2, h3⟩ | ⟨h1, h3⟩
          · rw [List.getElem?_append_right (by omega), l1, List.getElem?_append_left (by omega)] at hu
            have := hvr _ c u h3 (by simpa using hu)
            exact ⟨this.1.le le, this.2⟩
          · have hu' : arr[i]? = some u := by
              rcases h1 with h1 | h1
              · rw [List.getElem?_append_left (by omega), List.getElem?_take, if_pos h1] at hu
                simpa using hu
              · rw [List.getElem?_append_right (by omega), l1, List.getElem?_append_right (by omega), List.getElem?_drop] at hu
                rw [show off + vx.cells.toList.length + (i - off - vx.cells.toList.length) = i by omega] at hu
                simpa using hu
            have := c4 i c u h3 hu'
            exact ⟨this.1.le le, this.2⟩
  case optr id ver i off =>
    rcases hH : H[id]? with _ | o
    · simp [hH] at h
    cases o with
    | box _ _ => simp [hH] at h
    | iter _ _ => simp [hH] at h
    | gone => simp [hH] at h
    | slice ver' E s xs =>
      simp only [hH] at h
      obtain ⟨rfl, hxc, hx0, e, he, hle, hk⟩ := h
      cases rp with
      | optr _ _ _ _ _ hid _ _ hh =>
        obtain ⟨g, n, cap, e1, rfl⟩ := hh E s xs hH
        obtain ⟨cs, c1, c2, c3, c4⟩ := st.chunk id _ hH
        have hilt : i < xs.length := (List.getElem?_eq_some_iff.1 he).1
        obtain ⟨hec, hes⟩ := c3 i e he
        obtain ⟨cl, cone, crow⟩ := c1
        rcases crow with ⟨e2, _⟩ | ⟨g', cap', cur, fz, e2, hg, hfz, hnc, hcm, hcs, htake⟩
        · rw [e1] at e2; simp at e2
        rw [e1] at e2
        simp at e2
        obtain ⟨rfl, rfl, rfl⟩ := e2
        have hmul : (i + 1) * s ≤ xs.length * s := Nat.mul_le_mul_right _ hilt
        have hmul2 : xs.length * s ≤ cap * s := Nat.mul_le_mul_right _ hnc
        rw [Nat.add_mul, Nat.one_mul] at hmul
        obtain ⟨w', r1, r2, r3, r4⟩ := run_stores (P := P) vx.cells.toList (i * s + off) 0 cur w hg hfz (by rw [hvl, hcs]; omega) hvone
        have hblk : ∀ k, k < w.heap.size → vblk (φ id) ≠ some k → w'.heap[k]? = w.heap[k]? := fun k hk hne => r3.block k hk (by rw [e1] at hne; simpa [vblk] using hne)
        have hb : ∀ b, vblk (φ id) = some b → (vblk (φ id) = some b ∨ w.heap.size ≤ b) ∧ b < w'.heap.size := fun b hv => ⟨.inl hv, by rw [r4]; exact (st.live id _ b hH rfl hv).2⟩
        have hlo : LeO (.slice ver' E s xs) (.slice ver' E s (xs.set i (putEl e off x))) (φ id) (φ id) := .inr ⟨rfl, rfl, rfl, by simp, rfl⟩
        have le := Le_upd (w' := w') st hH rfl r3.size hblk (φ id) (fun b hv => (hb b hv).1) hlo
        have hpc : (putEl e off x).cells = splice e.cells off x.cells := putEl_cells (by rw [hes]; exact hle) hx0
        have hpl : (putEl e off x).cells.length = s := by rw [hpc, splice_length (by rw [hes]; exact hle), hes]
        -- the new cells of the row
        have hnew : ∀ k u, ((cur.toList.take (i * s + off + 0) ++ vx.cells.toList ++ cur.toList.drop (i * s + off + 0 + vx.cells.toList.length)).take (xs.length * s))[k]? = some u →
            (i * s + off ≤ k ∧ k < i * s + off + x.cells.length ∧ vx.cells[k - (i * s + off)]? = some u) ∨ ((k < i * s + off ∨ i * s + off + x.cells.length ≤ k) ∧ cs[k]? = some u) := fun k u hu => by
          rw [List.getElem?_take] at hu
          split at hu
          · rename_i hklt
            simp only [Nat.add_zero] at hu
            have l1 : (cur.toList.take (i * s + off)).length = i * s + off := by rw [List.length_take]; simp; omega
            rw [List.append_assoc] at hu
            rcases Nat.lt_or_ge k (i * s + off) with h1 | h1
            · rw [List.getElem?_append_left (by omega), List.getElem?_take, if_pos h1] at hu
              exact .inr ⟨.inl h1, by rw [← htake, List.getElem?_take, if_pos hklt]; exact hu⟩
            · rw [List.getElem?_append_right (by omega), l1] at hu
              rcases Nat.lt_or_ge k (i * s + off + x.cells.length) with h2 | h2
              · rw [List.getElem?_append_left (by omega)] at hu
                exact .inl ⟨h1, h2, by simpa using hu⟩
              · rw [List.getElem?_append_right (by omega), List.getElem?_drop] at hu
                rw [show i * s + off + vx.cells.toList.length + (k - (i * s + off) - vx.cells.toList.length) = k by omega] at hu
                exact .inr ⟨.inr h2, by rw [← htake, List.getElem?_take, if_pos hklt]; exact hu⟩
          · simp at hu
        refine ⟨_, _, updφ φ id (φ id), w', hk, ?_, st.upd hH rfl r3.os r3.tape r3.output r3.size hblk (φ id) hb hlo
          ⟨_, ⟨?_, ?_, .inr ⟨g, cap, _, fz, by rw [updφ_same, e1, List.length_set], r2, ?_, by rw [List.length_set]; exact hnc, hcm, ?_, rfl⟩⟩, c2, fun j y hj => ?_, fun j y q c u hj hq hu => ?_⟩, le, rfl⟩
        · simp only [Instr.storeAt, Instr.sureAddr, storeVar, Sem.run_bind, Sem.run_pure, Result.andThen_ok, run_sizeOf' hsz, hvs, ne_eq, not_true_eq_false, if_false]
          exact r1
        · simp only [List.length_set]
          rw [List.length_take]
          simp
          simp at hvl
          omega
        · intro u hu
          simp only [List.length_set] at hu
          obtain ⟨k, hk'⟩ := List.mem_iff_getElem?.1 hu
          rcases hnew k u hk' with ⟨_, _, h3⟩ | ⟨_, h3⟩
          · exact hvone u (List.mem_of_getElem? (by simpa using h3))
          · exact cone u (List.mem_of_getElem? h3)
        · rcases hfz with h | h
          · exact .inl h
          · right; simp; simp at hvl; omega
        · simp; simp at hvl; omega
        · by_cases hji : j = i
          · subst hji
            rw [List.getElem?_set_self hilt] at hj
            simp at hj
            subst hj
            exact ⟨putEl_closed hec hxc, hpl⟩
          · rw [List.getElem?_set_ne (Ne.symm hji)] at hj
            exact c3 j y hj
        · simp only [List.length_set] at hu
          by_cases hji : j = i
          · subst hji
            rw [List.getElem?_set_self hilt] at hj
            simp at hj
            subst hj
            rw [hpc] at hq
            rcases splice_get (by rw [hes]; exact hle) hq with ⟨h1, h2, h3⟩ | ⟨h1, h3⟩
            · rcases hnew _ u hu with ⟨_, _, h6⟩ | ⟨h5, _⟩
              · rw [show j * s + q - (j * s + off) = q - off by omega] at h6
                exact (hvr _ c u h3 h6).1.le le
              · omega
            · rcases hnew _ u hu with ⟨h4, h5, _⟩ | ⟨_, h6⟩
              · omega
              · exact (c4 j e q c u he h3 h6).le le
          · rw [List.getElem?_set_ne (Ne.symm hji)] at hj
            have hqs : q < s := by rw [← (c3 j y hj).2]; exact (List.getElem?_eq_some_iff.1 hq).1
            rcases hnew _ u hu with ⟨h4, h5, _⟩ | ⟨_, h6⟩
            · exfalso
              rcases Nat.lt_or_gt_of_ne hji with hlt | hgt
              · have : (j + 1) * s ≤ i * s := Nat.mul_le_mul_right _ hlt
                rw [Nat.add_mul, Nat.one_mul] at this
                omega
              · have : (i + 1) * s ≤ j * s := Nat.mul_le_mul_right _ hgt
                rw [Nat.add_mul, Nat.one_mul] at this
                omega
            · exact (c4 j y q c u hj hq h6).le le
end
end Go.Av
