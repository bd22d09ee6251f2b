/- Av, part H: a new object; an object that is written: the state behind it. -/
import Derived.Test.YteahieldmfehlaaDoorAvG
namespace Go.Av
open Go.RowKit
set_option linter.unusedVariables false

def updφ (φ : Nat → Value) (i : Nat) (v : Value) : Nat → Value := fun k => if k = i then v else φ k
theorem updφ_same (φ : Nat → Value) (i : Nat) (v : Value) : updφ φ i v i = v := by simp [updφ]
theorem updφ_ne (φ : Nat → Value) (i k : Nat) (v : Value) (h : k ≠ i) : updφ φ i v k = φ k := by simp [updφ, h]

abbrev Gr (w w' : World) : Prop := Frame w.heap.size (fun _ => False) w w'
theorem Gr.ext {w w' : World} (g : Gr w w') : Ext w w' := ⟨g.size, fun b hb => g.block b hb (fun h => h)⟩
theorem Gr.cell {w w' : World} (g : Gr w w') {b : Nat} (hb : b < w.heap.size) (o : Nat) : w'.cell? ⟨b, o, none⟩ = w.cell? ⟨b, o, none⟩ :=
  World.cell?_of_block (g.block b hb (fun h => h))
theorem Gr.alloc (w : World) (o : Obj) : Gr w (w.alloc o) :=
  ⟨rfl, rfl, rfl, by simp, fun k hk _ => Below.heap_alloc w o k hk⟩
theorem Gr.drew (w : World) : Gr w w.drew := ⟨rfl, rfl, rfl, Nat.le_refl _, fun _ _ _ => rfl⟩
theorem Gr.refl (w : World) : Gr w w := Frame.refl _ _ w
theorem Gr.trans {a b c : World} (h : Gr a b) (k : Gr b c) : Gr a c :=
  ⟨k.os.trans h.os, k.tape.trans h.tape, k.output.trans h.output, Nat.le_trans h.size k.size, fun i hi hx => (k.block i (Nat.lt_of_lt_of_le hi h.size) hx).trans (h.block i hi hx)⟩

section
variable {B : Nat} {X : Nat → Prop} {w0 w w' : World} {φ : Nat → Value} {H : List AO}

theorem get_app {H : List AO} {o : AO} {id : Nat} {o' : AO} (h : (H ++ [o])[id]? = some o') : (id < H.length ∧ H[id]? = some o') ∨ (id = H.length ∧ o' = o) := by
  rcases Nat.lt_or_ge id H.length with hlt | hge
  · rw [List.getElem?_append_left hlt] at h; exact .inl ⟨hlt, h⟩
  · rw [List.getElem?_append_right hge] at h
    have : id - H.length = 0 := by
      rcases Nat.eq_zero_or_pos (id - H.length) with e | e
      · exact e
      · rw [List.getElem?_eq_none (by simp; omega)] at h; cases h
    rw [this] at h
    simp at h
    exact .inr ⟨by omega, h.symm⟩

theorem Le_new (g : Gr w w') (nv : Value) (o : AO) (hb : ∀ b, vblk nv = some b → w.heap.size ≤ b) : Le w φ H w' (updφ φ H.length nv) (H ++ [o]) := by
  refine ⟨g.size, fun b hbs hn => ⟨fun id o' h hl => ?_, fun k => g.cell hbs k⟩, by simp, fun id v' E s xs' hid h => ?_, fun id ver E s xs' hid _ h => ?_, fun id o' hid h hp => ?_⟩
  · rcases get_app h with ⟨h1, h2⟩ | ⟨rfl, rfl⟩
    · rw [updφ_ne _ _ _ _ (by omega)]; exact hn id o' h2 hl
    · rw [updφ_same]; intro e; have := hb b e; omega
  · rw [List.getElem?_append_left hid] at h; exact ⟨v', E, s, xs', h, Nat.le_refl _⟩
  · rw [List.getElem?_append_left hid] at h; exact ⟨xs', h, rfl, updφ_ne _ _ _ _ (by omega)⟩
  · rw [List.getElem?_append_left hid] at h; exact ⟨o', h, hp, updφ_ne _ _ _ _ (by omega)⟩

theorem OwnRow.keep {E : TypeId} {size : Nat} {v : Value} {n : Nat} {cs : List Value} (h : OwnRow w E size v n cs) (hk : ∀ b, vblk v = some b → w'.heap[b]? = w.heap[b]?) : OwnRow w' E size v n cs := by
  refine ⟨h.1, h.2.1, ?_⟩
  rcases h.2.2 with hn | ⟨g, cap, cur, fz, rfl, hg, rest⟩
  · exact .inl hn
  · exact .inr ⟨g, cap, cur, fz, rfl, by rw [hk g rfl]; exact hg, rest⟩

theorem Chunk.keep {φ' : Nat → Value} {H' : List AO} (le : Le w φ H w' φ' H') {id : Nat} {o : AO} (hφ : φ' id = φ id) (hk : ∀ b, vblk (φ id) = some b → w'.heap[b]? = w.heap[b]?) (c : Chunk w φ H id o) : Chunk w' φ' H' id o := by
  cases o with
  | iter s p =>
    obtain ⟨g, c1, c2⟩ := c
    exact ⟨g, by rw [hφ]; exact c1, by rw [hk g (by rw [c1]; rfl)]; exact c2⟩
  | gone => trivial
  | slice ver E s xs =>
    obtain ⟨cs, c1, c2, c3, c4⟩ := c
    exact ⟨cs, by rw [hφ]; exact c1.keep hk, c2, c3, fun i x j c u hx hj hu => (c4 i x j c u hx hj hu).le le⟩
  | box T cs =>
    obtain ⟨g, arr, c1, c2, c3, c4⟩ := c
    exact ⟨g, arr, by rw [hφ]; exact c1, by rw [hk g (by rw [c1]; rfl)]; exact c2, c3, fun i c u hc hu => ⟨(c4 i c u hc hu).1.le le, (c4 i c u hc hu).2⟩⟩

theorem St.new (st : St B X w0 w φ H) (g : Gr w w') (nv : Value) (o : AO) (hb : ∀ b, vblk nv = some b → w.heap.size ≤ b ∧ b < w'.heap.size)
    (hc : Chunk w' (updφ φ H.length nv) (H ++ [o]) H.length o) : St B X w0 w' (updφ φ H.length nv) (H ++ [o]) := by
  have le : Le w φ H w' (updφ φ H.length nv) (H ++ [o]) := Le_new g nv o fun b h => (hb b h).1
  have hbase : B ≤ w.heap.size := Nat.le_trans st.base st.frame.size
  refine ⟨st.frame.trans ⟨g.os, g.tape, g.output, g.size, fun k hk _ => g.block k (by omega) (fun h => h)⟩, st.base, st.glob, fun id o' b h hl hv => ?_, fun id id' o1 o2 b h hl h' hl' hv hv' => ?_, fun id o' h => ?_⟩
  · rcases get_app h with ⟨h1, h2⟩ | ⟨rfl, rfl⟩
    · rw [updφ_ne _ _ _ _ (by omega)] at hv
      have := st.live id o' b h2 hl hv
      exact ⟨this.1, Nat.lt_of_lt_of_le this.2 g.size⟩
    · rw [updφ_same] at hv
      have := hb b hv
      exact ⟨.inl (by omega), this.2⟩
  · rcases get_app h with ⟨h1, h2⟩ | ⟨rfl, rfl⟩ <;> rcases get_app h' with ⟨h1', h2'⟩ | ⟨rfl, rfl⟩
    · rw [updφ_ne _ _ _ _ (by omega)] at hv hv'
      exact st.inj id id' o1 o2 b h2 hl h2' hl' hv hv'
    · rw [updφ_ne _ _ _ _ (by omega)] at hv
      rw [updφ_same] at hv'
      have := st.live id o1 b h2 hl hv
      have := hb b hv'
      omega
    · rw [updφ_ne _ _ _ _ (by omega)] at hv'
      rw [updφ_same] at hv
      have := st.live id' o2 b h2' hl' hv'
      have := hb b hv
      omega
    · rfl
  · rcases get_app h with ⟨h1, h2⟩ | ⟨rfl, rfl⟩
    · cases o' with
      | iter s p => exact (st.chunk id _ h2).keep le (updφ_ne _ _ _ _ (by omega)) fun b hv => g.block b (st.live id _ b h2 rfl hv).2 (fun h => h)
      | gone => trivial
      | slice v E s xs => exact (st.chunk id _ h2).keep le (updφ_ne _ _ _ _ (by omega)) fun b hv => g.block b (st.live id _ b h2 rfl hv).2 (fun h => h)
      | box T cs => exact (st.chunk id _ h2).keep le (updφ_ne _ _ _ _ (by omega)) fun b hv => g.block b (st.live id _ b h2 rfl hv).2 (fun h => h)
    · exact hc

def LeO (o o' : AO) (v nv : Value) : Prop := match o, o' with
  | .slice a E s xs, .slice b E' s' xs' => a < b ∨ (a = b ∧ E = E' ∧ s = s' ∧ xs.length = xs'.length ∧ nv = v)
  | .box T cs, .box T' cs' => T = T' ∧ nv = v
  | .iter s p, .iter s' p' => nv = v
  | _, .gone => True
  | _, _ => False

theorem Le_upd (st : St B X w0 w φ H) {id : Nat} {o o' : AO} (hid : H[id]? = some o) (hol : o.live = true) (hsz : w.heap.size ≤ w'.heap.size) (hblk : ∀ k, k < w.heap.size → vblk (φ id) ≠ some k → w'.heap[k]? = w.heap[k]?)
    (nv : Value) (hb : ∀ b, vblk nv = some b → vblk (φ id) = some b ∨ w.heap.size ≤ b) (hle : LeO o o' (φ id) nv) : Le w φ H w' (updφ φ id nv) (H.set id o') := by
  have hlt : id < H.length := (List.getElem?_eq_some_iff.1 hid).1
  have hget : ∀ k o2, (H.set id o')[k]? = some o2 → (k = id ∧ o2 = o') ∨ (k ≠ id ∧ H[k]? = some o2) := fun k o2 h => by
    by_cases e : k = id
    · subst e; rw [List.getElem?_set_self hlt] at h; simp at h; exact .inl ⟨rfl, h.symm⟩
    · rw [List.getElem?_set_ne (Ne.symm e)] at h; exact .inr ⟨e, h⟩
  refine ⟨hsz, fun b hbs hn => ⟨fun k o2 h hl => ?_, fun j => World.cell?_of_block (hblk b hbs (hn id o hid hol))⟩, by simp, fun k v' E s xs' hk h => ?_, fun k ver E s xs' hk hv h => ?_, fun k o2 hk h hp => ?_⟩
  · rcases hget k o2 h with ⟨rfl, rfl⟩ | ⟨e, h2⟩
    · rw [updφ_same]; intro e
      rcases hb b e with h1 | h1
      · exact hn k o hid hol h1
      · omega
    · rw [updφ_ne _ _ _ _ e]; exact hn k o2 h2 hl
  · rcases hget k _ h with ⟨rfl, rfl⟩ | ⟨e, h2⟩
    · cases o <;> simp only [LeO] at hle
      rename_i a E0 s0 xs0
      exact ⟨a, E0, s0, xs0, hid, by omega⟩
    · exact ⟨v', E, s, xs', h2, Nat.le_refl _⟩
  · rcases hget k _ h with ⟨rfl, rfl⟩ | ⟨e, h2⟩
    · cases o <;> simp only [LeO] at hle
      rename_i a E0 s0 xs0
      have := hv a E0 s0 xs0 hid
      rcases hle with h1 | ⟨rfl, rfl, rfl, h4, h5⟩
      · omega
      · exact ⟨xs0, hid, h4, by rw [updφ_same]; exact h5⟩
    · exact ⟨xs', h2, rfl, updφ_ne _ _ _ _ e⟩
  · rcases hget k _ h with ⟨rfl, rfl⟩ | ⟨e, h2⟩
    · cases o2 <;> simp only [AO.pb, Bool.false_eq_true] at hp
      · cases o <;> simp only [LeO] at hle
        exact ⟨_, hid, rfl, by rw [updφ_same]; exact hle.2⟩
      · cases o <;> simp only [LeO] at hle
        exact ⟨_, hid, rfl, by rw [updφ_same]; exact hle⟩
    · exact ⟨o2, h2, hp, updφ_ne _ _ _ _ e⟩

theorem St.upd (st : St B X w0 w φ H) {id : Nat} {o o' : AO} (hid : H[id]? = some o) (hol : o.live = true) (hos : w'.os = w.os) (htape : w'.tape = w.tape) (hout : w'.output = w.output)
    (hsz : w.heap.size ≤ w'.heap.size) (hblk : ∀ k, k < w.heap.size → vblk (φ id) ≠ some k → w'.heap[k]? = w.heap[k]?)
    (nv : Value) (hb : ∀ b, vblk nv = some b → (vblk (φ id) = some b ∨ w.heap.size ≤ b) ∧ b < w'.heap.size) (hle : LeO o o' (φ id) nv)
    (hc : Chunk w' (updφ φ id nv) (H.set id o') id o') : St B X w0 w' (updφ φ id nv) (H.set id o') := by
  have le := Le_upd st hid hol hsz hblk nv (fun b h => (hb b h).1) hle
  have hbase : B ≤ w.heap.size := Nat.le_trans st.base st.frame.size
  have hlt : id < H.length := (List.getElem?_eq_some_iff.1 hid).1
  have hget : ∀ k o2, (H.set id o')[k]? = some o2 → (k = id ∧ o2 = o') ∨ (k ≠ id ∧ H[k]? = some o2) := fun k o2 h => by
    by_cases e : k = id
    · subst e; rw [List.getElem?_set_self hlt] at h; simp at h; exact .inl ⟨rfl, h.symm⟩
    · rw [List.getElem?_set_ne (Ne.symm e)] at h; exact .inr ⟨e, h⟩
  have hnew : ∀ b, vblk nv = some b → B ≤ b ∨ X b := fun b h => by
    rcases (hb b h).1 with h1 | h1
    · exact (st.live id o b hid hol h1).1
    · exact .inl (by omega)
  refine ⟨st.frame.trans ⟨hos, htape, hout, hsz, fun k hk hx => hblk k (by omega) fun e => ?_⟩, st.base, st.glob, fun k o2 b h hl hv => ?_, fun k k' o1 o2 b h hl h' hl' hv hv' => ?_, fun k o2 h => ?_⟩
  · rcases (st.live id o k hid hol e).1 with h1 | h1
    · omega
    · exact hx h1
  · rcases hget k o2 h with ⟨rfl, rfl⟩ | ⟨e, h2⟩
    · rw [updφ_same] at hv; exact ⟨hnew b hv, (hb b hv).2⟩
    · rw [updφ_ne _ _ _ _ e] at hv
      have := st.live k o2 b h2 hl hv
      exact ⟨this.1, Nat.lt_of_lt_of_le this.2 hsz⟩
  · rcases hget k o1 h with ⟨rfl, rfl⟩ | ⟨e, h2⟩ <;> rcases hget k' o2 h' with ⟨rfl, rfl⟩ | ⟨e', h2'⟩
    · rfl
    · rw [updφ_same] at hv
      rw [updφ_ne _ _ _ _ e'] at hv'
      have hl2 := st.live k' o2 b h2' hl' hv'
      rcases (hb b hv).1 with h1 | h1
      · exact st.inj k k' o o2 b hid hol h2' hl' h1 hv'
      · omega
    · rw [updφ_same] at hv'
      rw [updφ_ne _ _ _ _ e] at hv
      have hl2 := st.live k o1 b h2 hl hv
      rcases (hb b hv').1 with h1 | h1
      · exact st.inj k k' o1 o b h2 hl hid hol hv h1
      · omega
    · rw [updφ_ne _ _ _ _ e] at hv
      rw [updφ_ne _ _ _ _ e'] at hv'
      exact st.inj k k' o1 o2 b h2 hl h2' hl' hv hv'
  · rcases hget k o2 h with ⟨rfl, rfl⟩ | ⟨e, h2⟩
    · exact hc
    · have hlive : o2.live = true → ∀ b, vblk (φ k) = some b → w'.heap[b]? = w.heap[b]? := fun hl b hv =>
        hblk b (st.live k o2 b h2 hl hv).2 fun e2 => e (st.inj k id o2 o b h2 hl hid hol hv e2)
      cases o2 with
      | iter s p => exact (st.chunk k _ h2).keep le (updφ_ne _ _ _ _ e) (hlive rfl)
      | gone => trivial
      | slice v E s xs => exact (st.chunk k _ h2).keep le (updφ_ne _ _ _ _ e) (hlive rfl)
      | box T cs => exact (st.chunk k _ h2).keep le (updφ_ne _ _ _ _ e) (hlive rfl)
end
end Go.Av
