/- Av, part L: 'eOp_sound'. -/
import Derived.Test.YteahieldmfehlaaDoorAvK
import Derived.Laws.MakeOwn
import Derived.Lib.OthersKept
namespace Go.Av
open Go.RowKit
set_option linter.unusedVariables false

section
variable {P : Program} {B : Nat} {X : Nat → Prop} {w0 w : World} {φ : Nat → Value} {H : List AO} {K : AV → List AO → Prop}

/-- the cells that a slice value's elements have -/
theorem RdS.news {s : Nat} {ys : List AV} {v : Value} (rd : RdS w φ H s ys v) : ∃ (ad : Option Addr) (cap : Nat) (news : List Value), v = .slice ad ys.length cap ∧ news.length = ys.length * s ∧ (∀ u ∈ news, u.oneCell' = true) ∧
    (∀ w', Ext w w' → (Builtin.firstCells s ys.length v).run P w' = .ok news.toArray w') ∧
    (∀ (i : Nat) (x : AV), ys[i]? = some x → x.closed = true ∧ x.cells.length = s) ∧
    ∀ (i : Nat) (x : AV) (j : Nat) (c : AV) (u : Value), ys[i]? = some x → x.cells[j]? = some c → news[i * s + j]? = some u → R w φ H c u := by
  obtain ⟨ad, cap, rfl, _, hel, hne⟩ := rd
  rcases ys with _ | ⟨y, ys⟩
  · refine ⟨ad, cap, [], rfl, by simp, by simp, fun w' _ => ?_, hel, fun i x j c u hi => by simp at hi⟩
    rcases ad with _ | a
    · simp [Builtin.firstCells]
    · simp [Builtin.firstCells, loadCells, loadCellsFrom]
  · obtain ⟨b, off, rfl, hc⟩ := hne (by simp)
    generalize hL : y :: ys = L at *
    have hs0 : ∀ k, k < L.length * s → ∃ u, w.cell? ⟨b, off + k, none⟩ = some u ∧ u.oneCell' = true ∧ ∀ (i : Nat) (x : AV) (j : Nat) (c : AV), k = i * s + j → L[i]? = some x → x.cells[j]? = some c → R w φ H c u := fun k hk => by
      have hs : 0 < s := by
        rcases Nat.eq_zero_or_pos s with e | e
        · subst e; simp at hk
        · exact e
      have hi : k / s < L.length := (Nat.div_lt_iff_lt_mul hs).2 hk
      obtain ⟨x, hx⟩ : ∃ x, L[k / s]? = some x := ⟨_, List.getElem?_eq_getElem hi⟩
      have hj : k % s < x.cells.length := by rw [(hel _ x hx).2]; exact Nat.mod_lt _ hs
      obtain ⟨c, hcx⟩ : ∃ c, x.cells[k % s]? = some c := ⟨_, List.getElem?_eq_getElem hj⟩
      obtain ⟨u, h1, h2, h3⟩ := hc _ x _ c hx hcx
      have hdm := Nat.div_add_mod k s
      rw [Nat.mul_comm] at hdm
      refine ⟨u, by rw [← h1]; congr 2; omega, h2, fun i' x' j' c' e hx' hj' => ?_⟩
      have hjlt : j' < s := by rw [← (hel _ x' hx').2]; exact (List.getElem?_eq_some_iff.1 hj').1
      have e1 : k / s = i' := by rw [e, Nat.add_comm, Nat.add_mul_div_right _ _ hs, Nat.div_eq_of_lt hjlt]; omega
      have e2 : k % s = j' := by rw [e, Nat.add_comm, Nat.add_mul_mod_self_right, Nat.mod_eq_of_lt hjlt]
      rw [e1] at hx
      rw [hx] at hx'
      simp at hx'
      subst hx'
      rw [e2, hj'] at hcx
      simp at hcx
      subst hcx
      exact h3
    have hex : ∀ k : Nat, ∃ u, k < L.length * s → w.cell? ⟨b, off + k, none⟩ = some u ∧ u.oneCell' = true ∧ ∀ (i : Nat) (x : AV) (j : Nat) (c : AV), k = i * s + j → L[i]? = some x → x.cells[j]? = some c → R w φ H c u := fun k => by
      by_cases hk : k < L.length * s
      · obtain ⟨u, hu⟩ := hs0 k hk; exact ⟨u, fun _ => hu⟩
      · exact ⟨undef, fun h => absurd h hk⟩
    obtain ⟨f, hf⟩ := Classical.axiomOfChoice hex
    have hget : ∀ (k : Nat) (u : Value), ((List.range (L.length * s)).map f)[k]? = some u → k < L.length * s ∧ f k = u := fun k u hu => by
      have hk : k < L.length * s := by
        have := (List.getElem?_eq_some_iff.1 hu).1
        simpa using this
      exact ⟨hk, by simpa [hk] using hu⟩
    refine ⟨_, cap, (List.range (L.length * s)).map f, rfl, by simp, fun u hu => ?_, fun w' hw => ?_, hel, fun i x j c u hi hj hu => ?_⟩
    · obtain ⟨k, hk⟩ := List.mem_iff_getElem?.1 hu
      obtain ⟨h1, h2⟩ := hget k u hk
      rw [← h2]; exact (hf k h1).2.1
    · refine run_firstCells_some (P := P) (w := w') s L.length ⟨b, off, none⟩ L.length cap _ (by simp) (fun j v hv => ?_)
      obtain ⟨h1, h2⟩ := hget j v hv
      rw [add_lit, ← h2]
      exact hw.cell (hf j h1).1
    · obtain ⟨h1, h2⟩ := hget _ u hu
      rw [← h2]
      exact (hf _ h1).2.2 i x j c rfl hi hj

theorem app_row (st : St B X w0 w φ H) {t t2 ty E : TypeId} {d2 : TypeDesc} {s b : Nat} {z : Value} (ht : P.underlying t = some (.slice E)) (h2 : P.underlying t2 = some d2) (hd : ∀ k, d2 ≠ .int k) (ti : TyI P E s b z)
    {id ver len : Nat} {xs ys : List AV} (hH : H[id]? = some (.slice ver E s xs)) {v : Value} (hv : OwnV (φ id) s xs.length 0 len v) (x : Value) (news : List Value)
    (hm : ∀ w, (Builtin.lenOf x).run P w = .ok ys.length w) (hfc : ∀ w', Ext w w' → (Builtin.firstCells s ys.length x).run P w' = .ok news.toArray w') (hl : news.length = ys.length * s) (h1 : ∀ u ∈ news, u.oneCell' = true)
    (hel : ∀ (i : Nat) (x : AV), ys[i]? = some x → x.closed = true ∧ x.cells.length = s)
    (hr : ∀ (i : Nat) (x : AV) (j : Nat) (c : AV) (u : Value), ys[i]? = some x → x.cells[j]? = some c → news[i * s + j]? = some u → R w φ H c u)
    (hby : (len + ys.length) * b ≤ 140737488355328) (h63 : len + ys.length ≤ 9223372036854775807) :
    ∃ φ' v' w', (Builtin.append_ #[t, t2] ty #[v, x]).run P w = .ok v' w' ∧ St B X w0 w' φ' (H.set id (.slice (ver + 1) E s (xs.take len ++ ys))) ∧ Le w φ H w' φ' (H.set id (.slice (ver + 1) E s (xs.take len ++ ys))) ∧
      R w' φ' (H.set id (.slice (ver + 1) E s (xs.take len ++ ys))) (.own id (ver + 1) 0 (len + ys.length)) v' := by
  obtain ⟨cs, c1, c2, c3, c4⟩ := st.chunk id _ hH
  have hlt : id < H.length := (List.getElem?_eq_some_iff.1 hH).1
  obtain ⟨v', w', r1, r2, r3, r4, r5⟩ := run_app (ty := ty) ht h2 hd ti c1 hv x ys.length news hm hfc hl h1 hby h63
  have hle : len ≤ xs.length := by have := hv.1; omega
  have hxl : (xs.take len ++ ys).length = len + ys.length := by simp; omega
  have hblk : ∀ k, k < w.heap.size → vblk (φ id) ≠ some k → w'.heap[k]? = w.heap[k]? := r3.block
  have le := Le_upd (w' := w') st hH rfl r3.size hblk v' (fun b hb => (r4 b hb).1) (o' := .slice (ver + 1) E s (xs.take len ++ ys)) (.inl (Nat.lt_succ_self _))
  have hcl : (cs.take (len * s)).length = len * s := by
    rw [List.length_take, c1.1]
    exact Nat.min_eq_left (Nat.mul_le_mul_right _ hle)
  refine ⟨_, v', w', r1, st.upd hH rfl r3.os r3.tape r3.output r3.size hblk v' r4 (.inl (Nat.lt_succ_self _)) ⟨_, by rw [updφ_same, hxl]; exact r2, c2, fun i x hi => ?_, fun i x j c u hi hj hu => ?_⟩, le, ?_⟩
  · rcases Nat.lt_or_ge i len with h | h
    · rw [List.getElem?_append_left (by simp; omega), List.getElem?_take, if_pos h] at hi
      exact c3 i x hi
    · rw [List.getElem?_append_right (by simp; omega)] at hi
      exact hel _ x hi
  · rcases Nat.lt_or_ge i len with h | h
    · rw [List.getElem?_append_left (by simp; omega), List.getElem?_take, if_pos h] at hi
      have hjs : j < s := by rw [← (c3 i x hi).2]; exact (List.getElem?_eq_some_iff.1 hj).1
      have hk : i * s + j < len * s := by
        have : (i + 1) * s ≤ len * s := Nat.mul_le_mul_right _ h
        rw [Nat.add_mul, Nat.one_mul] at this
        omega
      rw [List.getElem?_append_left (by omega), List.getElem?_take, if_pos hk] at hu
      exact (c4 i x j c u hi hj hu).le le
    · rw [List.getElem?_append_right (by simp; omega)] at hi
      have e : (xs.take len).length = len := by simp; omega
      rw [e] at hi
      have hmul : len * s ≤ i * s := Nat.mul_le_mul_right _ h
      rw [List.getElem?_append_right (by omega), hcl] at hu
      have e2 : i * s + j - len * s = (i - len) * s + j := by rw [Nat.sub_mul]; omega
      rw [e2] at hu
      exact (hr _ x j c u hi hj hu).le le
  · refine .own _ _ _ _ _ (by simp; exact hlt) ?_ (fun v2 E2 s2 xs2 he => ?_) fun E2 s2 xs2 he => ?_
    · rcases r5.2 with ⟨rfl, _⟩ | ⟨g, cap, rfl, _⟩ <;> rfl
    · rw [List.getElem?_set_self hlt] at he; simp at he; omega
    · rw [List.getElem?_set_self hlt] at he
      simp at he
      obtain ⟨rfl, rfl, rfl⟩ := he
      rw [updφ_same]
      have : (xs.take len ++ ys).length = len + ys.length := hxl
      simp only [this]
      exact r5

theorem bytes_news (bs : List UInt8) : (∀ u ∈ bs.map (fun b => Value.int .u8 b.toNat), u.oneCell' = true) ∧ (∀ (i : Nat) (x : AV), (bs.map encB)[i]? = some x → x.closed = true ∧ x.cells.length = 1) ∧
    ∀ (i : Nat) (x : AV) (j : Nat) (c : AV) (u : Value), (bs.map encB)[i]? = some x → x.cells[j]? = some c → (bs.map (fun b => Value.int .u8 b.toNat))[i * 1 + j]? = some u → R w φ H c u := by
  refine ⟨fun u hu => ?_, fun i x hi => ?_, fun i x j c u hi hj hu => ?_⟩
  · obtain ⟨b, _, rfl⟩ := List.mem_map.1 hu; rfl
  · simp only [List.getElem?_map, Option.map_eq_some_iff] at hi
    obtain ⟨b, _, rfl⟩ := hi
    exact ⟨rfl, rfl⟩
  · simp only [List.getElem?_map, Option.map_eq_some_iff] at hi
    obtain ⟨b, hb, rfl⟩ := hi
    match j, hj with
    | 0, hj =>
      simp [AV.cells, encB] at hj
      subst hj
      rw [Nat.mul_one, Nat.add_zero] at hu
      simp only [List.getElem?_map, hb, Option.map_some, Option.some.injEq] at hu
      subst hu
      exact .int _ _
    | j + 1, hj => simp [AV.cells, encB] at hj

theorem app_sound (st : St B X w0 w φ H) {t t2 ty : TypeId} {x y : AV} {vx vy : Value} (rx : R w φ H x vx) (ry : R w φ H y vy) (h : appV P t t2 H x y K) :
    ∃ z H' φ' v w', K z H' ∧ (Builtin.append_ #[t, t2] ty #[vx, vy]).run P w = .ok v w' ∧ St B X w0 w' φ' H' ∧ Le w φ H w' φ' H' ∧ R w' φ' H' z v := by
  unfold appV at h
  rcases hT : tyS P t with _ | ⟨E, s, b⟩
  · simp [hT] at h
  simp only [hT] at h
  obtain ⟨hu, hsz, hs0, z, ti⟩ := tyS_spec hT
  split at h
  rotate_left
  · -- onto nil
    cases rx
    have hgrow : ∀ (vy : Value) (t2 : TypeId) (d2 : TypeDesc) (ys : List AV) (news : List Value), P.underlying t2 = some d2 → (∀ k, d2 ≠ .int k) → (∀ w, (Builtin.lenOf vy).run P w = .ok ys.length w) → (∀ w', Ext w w' → (Builtin.firstCells s ys.length vy).run P w' = .ok news.toArray w') → news.length = ys.length * s → (∀ u ∈ news, u.oneCell' = true) →
        (∀ (i : Nat) (x : AV), ys[i]? = some x → x.closed = true ∧ x.cells.length = s) → (∀ (i : Nat) (x : AV) (j : Nat) (c : AV) (u : Value), ys[i]? = some x → x.cells[j]? = some c → news[i * s + j]? = some u → R w φ H c u) →
        ys.length * b ≤ 140737488355328 → ys.length ≤ 9223372036854775807 → appN E s H ys K → ∃ z H' φ' v w', K z H' ∧ (Builtin.append_ #[t, t2] ty #[.slice none 0 0, vy]).run P w = .ok v w' ∧ St B X w0 w' φ' H' ∧ Le w φ H w' φ' H' ∧ R w' φ' H' z v := fun vy t2 d2 ys news h2 hd hm hfc hl h1 hel hr hb1 hb2 hk => by
      by_cases hy : ys = []
      · subst hy
        have hn0 : news = [] := List.eq_nil_of_length_eq_zero (by simpa using hl)
        subst hn0
        have f2 := hfc w (Ext.refl w)
        obtain ⟨i, hi, rfl, rfl, hz⟩ := ti.ex
        obtain ⟨φ', q1, q2, q3⟩ := new_row st (Gr.refl w) E _ hs0 [] (.slice none 0 0) [] ⟨by simp, by simp, .inl ⟨rfl, rfl⟩⟩ (fun b h => by simp [vblk] at h) (fun i x h => by simp at h) (fun i x j c u h => by simp at h) ⟨by simp, .inl ⟨rfl, rfl, rfl⟩⟩
        refine ⟨_, _, φ', .slice none 0 0, w, hk, ?_, q1, q2, q3⟩
        simp only [List.length_nil] at hm f2
        simp [Builtin.append_, run_underlying hu, run_underlying h2, sizeOf, typeInfo, hi, hm, f2]
      · obtain ⟨v', w', e1, e2, e3, e4, e5⟩ := run_app (P := P) (w := w) (ty := ty) hu h2 hd ti (v0 := .slice none 0 0) (n := 0) (cs := []) ⟨by simp, by simp, .inl ⟨rfl, rfl⟩⟩ (v := .slice none 0 0) (len := 0) ⟨by omega, .inl ⟨rfl, rfl, rfl⟩⟩ vy ys.length news hm hfc hl h1 (by simpa using hb1) (by simpa using hb2)
        simp only [Nat.zero_add, Nat.zero_mul, List.take_nil, List.nil_append] at e2 e5
        have g : Gr w w' := ⟨e3.os, e3.tape, e3.output, e3.size, fun k hk _ => e3.block k hk (by simp [vblk])⟩
        obtain ⟨φ', q1, q2, q3⟩ := new_row st g E s hs0 ys v' news e2 (fun b' hb' => by
          have := e4 b' hb'
          exact ⟨this.1.resolve_left (by simp [vblk]), this.2⟩) hel hr e5
        exact ⟨_, _, φ', v', w', hk, e1, q1, q2, q3⟩
    have hgen : (t2 = t ∧ elemsV H y fun sy ys => sy = s ∧ ys.length * b ≤ 140737488355328 ∧ ys.length ≤ 9223372036854775807 ∧ appN E s H ys K) → ∃ z H' φ' v w', K z H' ∧ (Builtin.append_ #[t, t2] ty #[.slice none 0 0, vy]).run P w = .ok v w' ∧ St B X w0 w' φ' H' ∧ Le w φ H w' φ' H' ∧ R w' φ' H' z v := fun ⟨e, h9⟩ => by
      subst e
      obtain ⟨sy, ys, ⟨rfl, hb1, hb2, hk⟩, rd⟩ := elemsV_sound st ry h9
      obtain ⟨ad, cap, news, rfl, n1, n2, n3, n4, n5⟩ := rd.news (P := P)
      exact hgrow (.slice ad ys.length cap) t2 _ ys news hu (fun k => by simp) (fun w => by simp [Builtin.lenOf]) n3 n1 n2 n4 n5 hb1 hb2 hk
    cases y <;> (try exact hgen h)
    rename_i bs
    obtain ⟨hst, rfl, hb1, hb2, hk⟩ := h
    cases ry
    obtain ⟨m1, m2, m3⟩ := bytes_news (w := w) (φ := φ) (H := H) bs
    exact hgrow (.string ⟨bs.toArray⟩) t2 _ (bs.map encB) (bs.map fun b => Value.int .u8 b.toNat) (und_of_isStr hst) (fun k => by simp)
      (fun w => by simp [Builtin.lenOf, ByteArray.size]) (fun w' _ => by
        simp only [Builtin.firstCells, Sem.run_pure]
        congr 1
        apply Array.ext'
        simp [ByteArray.data_extract]) (by simp) m1 m2 m3 (by simpa using hb1) (by simpa using hb2) hk
  · exact h.elim
  rename_i id ver len
  rcases hH : H[id]? with _ | o
  · simp [hH] at h
  cases o with
  | box _ _ => simp [hH] at h
  | iter _ _ => simp [hH] at h
  | gone => simp [hH] at h
  | slice v' E' s' xs =>
    simp only [hH] at h
    obtain ⟨rfl, rfl, rfl, h⟩ := h
    cases rx with
    | own _ _ _ _ _ hid _ _ hh =>
      have hv := hh E' s' xs hH
      have hgen : (t2 = t ∧ elemsV H y fun sy ys => sy = s' ∧ (len + ys.length) * b ≤ 140737488355328 ∧ len + ys.length ≤ 9223372036854775807 ∧
            K (.own id (v' + 1) 0 (len + ys.length)) (H.set id (.slice (v' + 1) E' s' (xs.take len ++ ys)))) → ∃ z H' φ' v w', K z H' ∧ (Builtin.append_ #[t, t2] ty #[vx, vy]).run P w = .ok v w' ∧ St B X w0 w' φ' H' ∧ Le w φ H w' φ' H' ∧ R w' φ' H' z v := fun ⟨e, h9⟩ => by
        subst e
        obtain ⟨sy, ys, ⟨rfl, hb1, hb2, hk⟩, rd⟩ := elemsV_sound st ry h9
        obtain ⟨ad, cap, news, rfl, n1, n2, n3, n4, n5⟩ := rd.news (P := P)
        obtain ⟨φ', v2, w', q1, q2, q3, q4⟩ := app_row (ty := ty) st hu hu (fun k => by simp) ti hH hv (.slice ad ys.length cap) news (fun w => by simp [Builtin.lenOf]) n3 n1 n2 n4 n5 hb1 hb2
        exact ⟨_, _, φ', v2, w', hk, q1, q2, q3, q4⟩
      cases y <;> (try exact hgen h)
      rename_i bs
      obtain ⟨hst, rfl, hb1, hb2, hk⟩ := h
      cases ry
      obtain ⟨m1, m2, m3⟩ := bytes_news (w := w) (φ := φ) (H := H) bs
      obtain ⟨φ', v2, w', q1, q2, q3, q4⟩ := app_row (ty := ty) (ys := bs.map encB) st hu (und_of_isStr hst) (fun k => by simp) ti hH hv (.string ⟨bs.toArray⟩) (bs.map fun b => Value.int .u8 b.toNat)
        (fun w => by simp [Builtin.lenOf, ByteArray.size]) (fun w' _ => by
          simp only [Builtin.firstCells, Sem.run_pure]
          congr 1
          apply Array.ext'
          simp [ByteArray.data_extract]) (by simp) m1 m2 m3 (by simpa using hb1) (by simpa using hb2)
      rw [List.length_map] at q4
      exact ⟨_, _, φ', v2, w', hk, q1, q2, q3, q4⟩

theorem us_sound (st : St B X w0 w φ H) {pt it ty : TypeId} {p n : AV} {vp vn : Value} (rp : R w φ H p vp) (rn : R w φ H n vn) (h : usV P pt H p n K) :
    ∃ z H' φ' v w', K z H' ∧ (Builtin.unsafeString_ #[pt, it] ty #[vp, vn]).run P w = .ok v w' ∧ St B X w0 w' φ' H' ∧ Le w φ H w' φ' H' ∧ R w' φ' H' z v := by
  unfold usV at h
  split at h
  · obtain ⟨rfl, hk⟩ := h
    cases rp
    cases rn
    exact ⟨_, H, φ, _, w, hk, Lib.run_unsafeString_none w _ _ _ none, st, Le.refl _ _ _, .str []⟩
  · rename_i id ver n
    rcases hH : H[id]? with _ | o
    · simp [hH] at h
    split at h
    · rename_i v E xs hH'
      rw [hH] at hH'
      simp at hH'
      subst hH'
      obtain ⟨rfl, hp, hs, h0, hn, bs, hbs, hk⟩ := h
      have hpu : P.underlying pt = some (.pointer E) := by
        unfold ptrE at hp
        split at hp
        · rename_i e he; simp at hp; subst hp; exact he
        · simp at hp
      obtain ⟨cs, c1, c2, c3, c4⟩ := st.chunk id _ hH
      cases rn
      have hlen : bs.length = n.toNat := by
        have := congrArg List.length hbs
        simp at this
        omega
      have hnat : n = (bs.length : Int) := by omega
      cases rp with
      | optr _ _ _ _ _ hid ho hvv hh =>
        obtain ⟨g, m, cap, e1, rfl⟩ := hh E 1 xs hH
        rcases c1.2.2 with ⟨e2, hz⟩ | ⟨g', cap', cur, fz, e2, hg, hfz, hncap, hcm, hcs, htake⟩
        · omega
        · rw [e1] at e2
          simp at e2
          obtain ⟨rfl, rfl, rfl⟩ := e2
          have hsh : w.shape? g = some (E, cur.size) := by rw [World.shape?, hg]
          have hrun := Lib.run_unsafeString_row (P := P) w pt it ty E hpu (by simpa [Program.cellsOf, szT] using congrArg (·.getD 0) hs) g cur.size hsh bs (fun e => by subst e; simp at hnat; omega) (by omega) (by unfold maxLen at hcm; omega) (fun j x hx => by
            have hj : j < bs.length := (List.getElem?_eq_some_iff.1 hx).1
            have hxj : xs[j]? = some (encB x) := by
              have : (xs.take n.toNat)[j]? = some (encB x) := by rw [hbs, List.getElem?_map, hx]; rfl
              rw [List.getElem?_take, if_pos (by omega)] at this
              exact this
            have hjl : j < cs.length := by rw [c1.1]; omega
            have hcj := ownRow_cell c1 e1 (List.getElem?_eq_getElem hjl)
            have hr := c4 j (encB x) 0 (encB x) cs[j] hxj (by simp [encB, AV.cells]) (by simp [List.getElem?_eq_getElem hjl])
            unfold encB at hr
            generalize cs[j] = q at hr hcj
            cases hr
            rw [add_lit, Nat.zero_add]
            exact hcj)
          have hblk : ∀ k, k < w.heap.size → vblk (φ id) ≠ some k → (w.freeze ⟨g, 0, none⟩ bs.length).heap[k]? = w.heap[k]? := fun k _ hne => by
            have hk : k ≠ g := fun e => hne (by rw [e1, e]; rfl)
            unfold World.freeze
            split
            · rfl
            · simp [Array.getElem?_modify, Ne.symm hk]
          have hsize : (w.freeze ⟨g, 0, none⟩ bs.length).heap.size = w.heap.size := by unfold World.freeze; split <;> simp
          have hid' : id < H.length := hid
          have hx : ∀ b, vblk (φ id) = some b → (vblk (φ id) = some b ∨ w.heap.size ≤ b) ∧ b < (w.freeze ⟨g, 0, none⟩ bs.length).heap.size := fun b hb => ⟨.inl hb, by rw [hsize]; exact (st.live id _ b hH rfl hb).2⟩
          have hout : (w.freeze ⟨g, 0, none⟩ bs.length).os = w.os ∧ (w.freeze ⟨g, 0, none⟩ bs.length).tape = w.tape ∧ (w.freeze ⟨g, 0, none⟩ bs.length).output = w.output := by
            unfold World.freeze; split <;> exact ⟨rfl, rfl, rfl⟩
          subst hnat
          refine ⟨_, _, _, _, _, hk, hrun, st.upd hH rfl hout.1 hout.2.1 hout.2.2 (by omega) hblk (φ id) hx trivial trivial, Le_upd st hH rfl (by omega) hblk (φ id) (fun b hb => (hx b hb).1) trivial, .str bs⟩
    · exact h.elim
  · exact h.elim

theorem fillA_sound {place place' : Nat → Option (Nat × Nat)} (hp : ∀ i r, place i = some r → place' i = some r) : ∀ (la : List (Nat × AV)) (lv : List (Nat × Value)) (cs : List AV) (cells : Array Value) (cs' : List AV), lv.length = la.length →
    (∀ (q : Nat) (x : Nat × AV) (y : Nat × Value), la[q]? = some x → lv[q]? = some y → y.1 = x.1 ∧ R w φ H x.2 y.2) →
    cells.size = cs.length → (∀ (i : Nat) (c : AV) (u : Value), cs[i]? = some c → cells[i]? = some u → R w φ H c u) → fillA place cs la = some cs' →
    ∃ cells', Instr.fill place' cells lv = some cells' ∧ cells'.size = cs'.length ∧ ∀ (i : Nat) (c : AV) (u : Value), cs'[i]? = some c → cells'[i]? = some u → R w φ H c u
  | [], [], cs, cells, cs', _, _, hs, hr, h => by
    simp only [fillA, Option.some.injEq] at h
    subst h
    exact ⟨cells, rfl, hs, hr⟩
  | (i, x) :: la, (j, v) :: lv, cs, cells, cs', hl, hpt, hs, hr, h => by
    obtain ⟨rfl, hxv⟩ := hpt 0 (i, x) (j, v) rfl rfl
    dsimp only at hxv h
    simp only [fillA] at h
    rcases hpl : place j with _ | ⟨off, size⟩
    · simp [hpl] at h
    simp only [hpl] at h
    split at h
    · rename_i hc
      obtain ⟨c1, c2, c3⟩ := hc
      obtain ⟨v1, v2⟩ := hxv.cells c3
      have hS := setAll off v.cells.toList 0 cells (by simp; omega)
      simp only [Nat.add_zero, Array.length_toList] at hS
      obtain ⟨s1, s2, s3⟩ := hS
      obtain ⟨out, o1, o2, o3⟩ := fillA_sound hp la lv (splice cs off x.cells) _ cs' (by simpa using hl) (fun q x' y' hx hy => hpt (q + 1) x' y' (by simpa using hx) (by simpa using hy))
        (by rw [s1, splice_length (by omega)]; exact hs) (fun k c u hk hu => by
          rcases splice_get (by omega) hk with ⟨a1, a2, a3⟩ | ⟨a1, a3⟩
          · have := s3 (k - off) (by omega)
            rw [show off + (k - off) = k by omega] at this
            rw [this] at hu
            exact (v2 _ c u a3 (by simpa using hu)).1
          · rw [s2 k (by omega)] at hu
            exact hr k c u a3 hu) h
      refine ⟨out, ?_, o2, o3⟩
      simp only [Instr.fill, hp j _ hpl]
      rw [if_neg (by simp; omega), ← Array.foldl_toList, Array.toList_zipIdx]
      exact o1
    · simp at h
  | [], _ :: _, _, _, _, hl, _, _, _, _ => by simp at hl
  | _ :: _, [], _, _, _, hl, _, _, _, _ => by simp at hl

theorem run_places {fs : List Field} (h : fs.all (fun f => (szT P f.type).isSome) = true) (w : World) :
    (fs.mapM (m := Sem) fun f => do pure (f.offset, ← sizeOf f.type)).run P w = .ok (fs.map fun f => (f.offset, (szT P f.type).getD 0)) w := by
  induction fs with
  | nil => simp
  | cons f fs ih =>
    simp only [List.all_cons, Bool.and_eq_true] at h
    obtain ⟨s, hs⟩ := Option.isSome_iff_exists.1 h.1
    rw [List.mapM_cons]
    simp only [Sem.run_bind, run_sizeOf' hs, Result.andThen_ok, Sem.run_pure, ih h.2, List.map_cons, hs, Option.getD_some]

theorem one_cells {x : AV} (h : x.one = true) : x.cells = [x] := by cases x <;> simp_all [AV.one, AV.cells]
theorem build_sound {w : World} {φ : Nat → Value} {H : List AO} {env : Env} {ρ : Operand → Value} {T : TypeId} {parts : Array (Nat × Operand)} (ev : ∀ p ∈ parts.toList, R w φ H (evO env p.2) (ρ p.2)) {K : AV → Prop} (h : buildV P T (parts.toList.map fun p => (p.1, evO env p.2)) K) :
    ∃ x v, K x ∧ R w φ H x v ∧ ∀ w', (Instr.build T (parts.map fun (i, x) => (i, ρ x))).run P w' = .ok v w' := by
  unfold buildV at h
  rcases hae : arrE P T with _ | sz <;> rw [hae] at h <;> dsimp only at h
  ·
    obtain ⟨hst, h⟩ := h
    rcases hz : zeroA P T with _ | zs
    · simp [hz] at h
    simp only [hz] at h
    obtain ⟨_, h⟩ := h
    rcases hf : fillA (placeA P T) zs (parts.toList.map fun p => (p.1, evO env p.2)) with _ | cs
    · simp [hf] at h
    simp only [hf] at h
    obtain ⟨i, z, hi, hiz, rfl⟩ : ∃ i z, P.info? T = some i ∧ i.zero = some z ∧ z.cells.toList.map constA = zs := by
      unfold zeroA at hz
      simp only [Option.map_eq_some_iff, Option.bind_eq_some_iff] at hz
      obtain ⟨z, ⟨i, hi, hiz⟩, e⟩ := hz
      exact ⟨i, z, hi, hiz, e⟩
    obtain ⟨fs, hu, hall⟩ : ∃ fs, P.underlying T = some (.struct fs) ∧ fs.toList.all (fun f => (szT P f.type).isSome) = true := by
      unfold isStruct at hst
      split at hst
      · rename_i fs hu; exact ⟨fs, hu, hst⟩
      · simp at hst
    obtain ⟨cells', f1, f2, f3⟩ := fillA_sound (w := w) (φ := φ) (H := H) (place' := fun k => (fs.map fun f => (f.offset, (szT P f.type).getD 0))[k]?) (fun k r hr => by
      unfold placeA fldI at hr
      simp only [hu] at hr
      rcases hk : fs[k]? with _ | f
      · simp [hk] at hr
      · simp only [hk, Option.map_some] at hr
        rcases hs : szT P f.type with _ | s
        · simp [hs] at hr
        · simp only [hs, Option.map_some, Option.some.injEq] at hr
          simp [Array.getElem?_map, hk, hs, hr]) _ (parts.toList.map fun p => (p.1, ρ p.2)) (z.cells.toList.map constA) z.cells cs (by simp) (fun q x y hx hy => by
        simp only [List.getElem?_map, Option.map_eq_some_iff] at hx hy
        obtain ⟨p, hp, rfl⟩ := hx
        obtain ⟨p', hp', rfl⟩ := hy
        rw [hp] at hp'
        simp at hp'
        subst hp'
        exact ⟨rfl, ev p (List.mem_of_getElem? hp)⟩) (by simp) (fun k c u hc hu => by
        simp only [List.getElem?_map, Option.map_eq_some_iff] at hc
        obtain ⟨y, hy, rfl⟩ := hc
        simp at hy
        rw [hy] at hu
        simp at hu
        subst hu
        exact constA_R y) hf
    refine ⟨_, .agg cells', h, .agg _ _ f2 f3, fun w' => ?_⟩
    have hzv : (zeroValue T).run P w' = .ok z w' := by simp [zeroValue, typeInfo, hi, hiz]
    have hpl : (fs.mapM (m := Sem) fun f => do pure (f.offset, ← sizeOf f.type)).run P w' = .ok (fs.map fun f => (f.offset, (szT P f.type).getD 0)) w' := by
      have := run_places hall w'
      rw [← Array.toArray_toList (xs := fs), List.mapM_toArray]
      simp only [Sem.run_map]
      rw [this]
      simp only [Result.andThen_ok]
      congr 1
      apply Array.ext'
      simp
    have htl : (parts.map fun x => (x.1, ρ x.2)).toList = parts.toList.map fun p => (p.1, ρ p.2) := by simp
    simp only [Instr.build, Sem.run_bind, hzv, Result.andThen_ok, run_underlying hu, hpl, htl, f1, Sem.run_pure]
  ·
    rcases hz : zeroA P T with _ | zs
    · simp [hz] at h
    simp only [hz] at h
    obtain ⟨_, h⟩ := h
    rcases hf : fillA (fun i => some (i * sz, sz)) zs (parts.toList.map fun p => (p.1, evO env p.2)) with _ | cs
    · simp [hf] at h
    simp only [hf] at h
    obtain ⟨i, z, hi, hiz, rfl⟩ : ∃ i z, P.info? T = some i ∧ i.zero = some z ∧ z.cells.toList.map constA = zs := by
      unfold zeroA at hz
      simp only [Option.map_eq_some_iff, Option.bind_eq_some_iff] at hz
      obtain ⟨z, ⟨i, hi, hiz⟩, e⟩ := hz
      exact ⟨i, z, hi, hiz, e⟩
    obtain ⟨m, e, hu, hsz⟩ : ∃ m e, P.underlying T = some (.array m e) ∧ szT P e = some sz := by
      unfold arrE at hae
      split at hae
      · rename_i m e hu; exact ⟨m, e, hu, hae⟩
      · simp at hae
    obtain ⟨cells', f1, f2, f3⟩ := fillA_sound (w := w) (φ := φ) (H := H) (place' := fun k => some (k * sz, sz)) (fun k r hr => hr) _ (parts.toList.map fun p => (p.1, ρ p.2)) (z.cells.toList.map constA) z.cells cs (by simp) (fun q x y hx hy => by
        simp only [List.getElem?_map, Option.map_eq_some_iff] at hx hy
        obtain ⟨p, hp, rfl⟩ := hx
        obtain ⟨p', hp', rfl⟩ := hy
        rw [hp] at hp'
        simp at hp'
        subst hp'
        exact ⟨rfl, ev p (List.mem_of_getElem? hp)⟩) (by simp) (fun k c u hc hu => by
        simp only [List.getElem?_map, Option.map_eq_some_iff] at hc
        obtain ⟨y, hy, rfl⟩ := hc
        simp at hy
        rw [hy] at hu
        simp at hu
        subst hu
        exact constA_R y) hf
    refine ⟨_, .agg cells', h, .agg _ _ f2 f3, fun w' => ?_⟩
    have hzv : (zeroValue T).run P w' = .ok z w' := by simp [zeroValue, typeInfo, hi, hiz]
    have htl : (parts.map fun x => (x.1, ρ x.2)).toList = parts.toList.map fun p => (p.1, ρ p.2) := by simp
    simp only [Instr.build, Sem.run_bind, hzv, Result.andThen_ok, run_underlying hu, run_sizeOf' hsz, htl, f1, Sem.run_pure]
theorem eOp_sound {n : Nat} (st : St B X w0 w φ H) {env : Env} {a : Act} {g : Nat → Value} (eo : EnvOK w φ H env a n g) {o : Oper} (hn : opOK n o.op = true) (h : eOp P o.op o.type env H K) : Eff P B X w0 w φ H K (execOp a.eval o) := by
  have ev : ∀ x, x ∈ o.op.operands.toList → R w φ H (evO env x) (a.eval x) := fun x hx => evO_R eo x (by
    have := List.all_eq_true.1 hn x hx
    exact this)
  obtain ⟨dst, op, ty, pos, after, guard⟩ := o
  dsimp only at h ev
  cases op <;> (try exact h.elim)
  case assign x =>
    unfold eOp at h
    split at h <;> (try exact h.elim)
    all_goals (rename_i heq; try (simp at heq; done))
    rcases hT : tyS P ty with _ | ⟨E, s, b⟩
    · simp [hT] at h
    simp only [hT] at h
    obtain ⟨hu, hsz, hs0, z, ti⟩ := tyS_spec hT
    injection heq with heq
    subst heq
    obtain ⟨φ', q1, q2, q3⟩ := new_row st (Gr.refl w) E s hs0 [] (.slice none 0 0) [] ⟨by simp, by simp, .inl ⟨rfl, rfl⟩⟩ (fun b h => by simp [vblk] at h) (fun i x h => by simp at h) (fun i x j c u h => by simp at h) ⟨by simp, .inl ⟨rfl, rfl, rfl⟩⟩
    exact ⟨_, _, φ', _, _, w, h, by simp [execOp, Act.eval], .inl rfl, q1, q2, q3⟩
  case box T x =>
    simp only [eOp] at h
    obtain ⟨h1, hk⟩ := h
    have rx := ev x (by simp [Op.operands])
    obtain ⟨c1, c2⟩ := rx.cells h1
    obtain ⟨φ', q1, q2, q3⟩ := new_box st T _ (a.eval x).cells c1 c2
    refine ⟨_, _, φ', _, _, _, hk, ?_, .inl rfl, q1, q2, q3⟩
    simp [execOp, Instr.box, newVar, newRow]
  case alloc T =>
    simp only [eOp] at h
    rcases hz : zeroA P T with _ | zs
    · simp [hz] at h
    simp only [hz] at h
    obtain ⟨h1, hk⟩ := h
    obtain ⟨i, z, hi, hiz, rfl⟩ : ∃ i z, P.info? T = some i ∧ i.zero = some z ∧ z.cells.toList.map constA = zs := by
      unfold zeroA at hz
      simp only [Option.map_eq_some_iff, Option.bind_eq_some_iff] at hz
      obtain ⟨z, ⟨i, hi, hiz⟩, e⟩ := hz
      exact ⟨i, z, hi, hiz, e⟩
    obtain ⟨φ', q1, q2, q3⟩ := new_box st T (z.cells.toList.map constA) z.cells (by simp) (fun i c u hc hu => by
      simp only [List.getElem?_map, Option.map_eq_some_iff] at hc
      obtain ⟨y, hy, rfl⟩ := hc
      simp at hy
      rw [hy] at hu
      simp at hu
      subst hu
      refine ⟨constA_R y, (constA_R (w := w) (φ := φ) (H := H) y).one (List.all_eq_true.1 h1 _ (List.mem_map.2 ⟨y, ?_, rfl⟩))⟩
      exact Array.mem_toList_iff.2 (Array.mem_of_getElem? hy))
    refine ⟨_, _, φ', _, _, _, hk, ?_, .inl rfl, q1, q2, q3⟩
    simp [execOp, Instr.alloc, zeroValue, typeInfo, hi, hiz, newVar, newRow]
  case store T p x =>
    simp only [eOp] at h
    obtain ⟨x', H', φ', w', hk, q1, q2, q3, rfl⟩ := sto_sound st (ev p (by simp [Op.operands])) (ev x (by simp [Op.operands])) h
    exact ⟨_, _, φ', undef, .skip, w', hk, by simp [execOp, q1], .inr ⟨rfl, rfl⟩, q2, q3, .dead _⟩
  case makeSlice T l c =>
    have rl := ev l (by simp [Op.operands])
    have rc := ev c (by simp [Op.operands])
    unfold eOp at h
    rcases hT : tyS P T with _ | ⟨E, s, b⟩
    · simp [hT] at h
    simp only [hT] at h
    generalize hle : a.eval l = vl at rl
    generalize evO env l = el at h rl
    generalize hce : a.eval c = vc at rc
    generalize evO env c = ec at h rc
    split at h
    · rename_i E' b' kl n kc m heq
      simp only [Option.some.injEq, Prod.mk.injEq] at heq
      obtain ⟨rfl, rfl, rfl⟩ := heq
      obtain ⟨rfl, h⟩ := h
      rcases hz : zeroA P E with _ | zs
      · simp [hz] at h
      simp only [hz] at h
      split at h
      · rename_i zz heq
        simp only [Option.some.injEq] at heq
        subst heq
        obtain ⟨h1, hcl, hln, h0, hby, hmx, hk⟩ := h
        cases rl
        cases rc
        obtain ⟨hu, hsz, hs0, z, ti⟩ := tyS_spec hT
        obtain ⟨i, hi, hi1, hib, hiz⟩ := ti.ex
        have hz1 := ti.cells
        obtain ⟨z0, hz0⟩ : ∃ z0, z.cells = #[z0] := Array.size_eq_one_iff.1 hz1
        have hzz : zz = constA z0 := by
          unfold zeroA at hz
          simp [hi, hiz, hz0] at hz
          exact hz.symm
        subst hzz
        have hrun := run_make (P := P) w T E i z hu hi hiz kl kc n n h0 (Int.le_refl _) (by
          have : ((n.toNat * b : Nat) : Int) ≤ 140737488355328 := by omega
          rw [Int.natCast_mul, Int.toNat_of_nonneg h0] at this
          rw [hib, Int.mul_comm]
          omega) (by omega)
        have hmc : madeCells z.cells (n.toNat * i.size) = Array.replicate n.toNat z0 := by
          rw [hi1, Nat.mul_one, hz0]
          apply Array.ext
          · simp [madeCells]
          · intro j h1 h2
            simp [madeCells, Nat.mod_one]
        have hone : z0.oneCell' = true := (constA_R (w := w) (φ := φ) (H := H) z0).one h1
        rw [hmc] at hrun
        obtain ⟨φ', q1, q2, q3⟩ := new_row st (w' := w.alloc (.cells (Array.replicate n.toNat z0) E)) (Gr.alloc w _) E 1 (by omega) (List.replicate n.toNat (constA z0)) (.slice (some ⟨w.heap.size, 0, none⟩) n.toNat n.toNat) (List.replicate n.toNat z0)
          ⟨by simp, fun u hu => by rw [List.eq_of_mem_replicate hu]; exact hone, .inr ⟨w.heap.size, n.toNat, Array.replicate n.toNat z0, (0, 0), by simp, heap_alloc_new w _, .inl rfl, by simp, by simp only [maxLen]; omega, by simp, by simp⟩⟩
          (fun b hb => by simp [vblk] at hb; subst hb; simp)
          (fun j x hx => by
            have := List.eq_of_mem_replicate (List.mem_of_getElem? hx)
            subst this
            exact ⟨hcl, hln⟩)
          (fun j x k c u hx hj hu => by
            have e1 := List.eq_of_mem_replicate (List.mem_of_getElem? hx)
            have e2 := List.eq_of_mem_replicate (List.mem_of_getElem? hu)
            rw [e1, one_cells h1] at hj
            rw [e2]
            have e3 : c = constA z0 := by
              match k, hj with
              | 0, hj => simpa using hj.symm
              | k + 1, hj => simp at hj
            rw [e3]
            exact constA_R z0)
          ⟨by simp, .inr ⟨w.heap.size, n.toNat, by simp, by simp, _, by simp, fun _ => by simp, fun _ => rfl⟩⟩
        rw [List.length_replicate] at q3
        exact ⟨_, _, φ', _, _, _, hk, by simp [execOp, hle, hce, hrun], .inl rfl, q1, q2, q3⟩
      · exact h.elim
    · exact h.elim
  case range T x =>
    have rx := ev x (by simp [Op.operands])
    simp only [eOp] at h
    generalize hxe : a.eval x = vx at rx
    generalize evO env x = ex at h rx
    cases ex <;> (try exact h.elim)
    rename_i s
    cases rx
    obtain ⟨hT, hk⟩ := h
    have hrun := run_range_string (P := P) w T ⟨s.toArray⟩ (und_of_isStr hT)
    have hg : Gr w (w.iter ⟨s.toArray⟩ 0) := Gr.alloc w _
    have hsz : (w.iter ⟨s.toArray⟩ 0).heap.size = w.heap.size + 1 := by simp [World.iter]
    have hh := World.iter_heap w ⟨s.toArray⟩ 0
    have st' := St.new st hg (.pointer (some ⟨w.heap.size, 0, none⟩)) (.iter s 0) (fun b hb => by simp [vblk] at hb; subst hb; omega) ⟨w.heap.size, updφ_same _ _ _, hh⟩
    refine ⟨_, _, _, .pointer (some ⟨w.heap.size, 0, none⟩), _, _, hk, by simp only [execOp, hxe, Sem.run_bind, hrun, Result.andThen_ok, Sem.run_pure], .inl rfl, st', Le_new hg _ _ (fun b hb => by simp [vblk] at hb; omega), ?_⟩
    exact .bptr _ _ _ (by simp) rfl fun o ho hp => ⟨_, updφ_same _ _ _, rfl⟩
  case next it isStr =>
    have rx := ev it (by simp [Op.operands])
    cases isStr
    · exact h.elim
    simp only [eOp, nextV] at h
    generalize hxe : a.eval it = vx at rx
    generalize evO env it = ex at h rx
    cases ex <;> (try exact h.elim)
    rename_i id off
    cases off <;> (try exact h.elim)
    rcases hH : H[id]? with _ | o
    · simp [hH] at h
    cases o <;> simp only [hH] at h
    rename_i s p
    obtain ⟨g', c1, c2⟩ := st.chunk id _ hH
    cases rx with
    | bptr _ _ _ hid ho hh =>
      obtain ⟨g2, e1, rfl⟩ := hh _ hH rfl
      rw [c1] at e1
      simp at e1
      subst e1
      by_cases hp : p < s.length
      · have hrun := Lib.run_next_any_at (P := P) w g' ⟨s.toArray⟩ p ty c2 (by simpa [ByteArray.size] using hp)
        have hlt : g' < w.heap.size := (Array.getElem?_eq_some_iff.1 c2).1
        have hk := h.1 (by simpa using hp)
        have hblk : ∀ k, k < w.heap.size → vblk (φ id) ≠ some k → (w.iterAt g' ⟨s.toArray⟩ (p + (decR s p).2)).heap[k]? = w.heap[k]? := fun k _ hne => Lib.iterAt_other w g' k _ _ (fun e => hne (by rw [c1, e]; rfl))
        have hsz := Lib.iterAt_size w g' ⟨s.toArray⟩ (p + (decR s p).2)
        have st' := St.upd st hH rfl (w' := w.iterAt g' ⟨s.toArray⟩ (p + (decR s p).2)) rfl rfl rfl (by rw [hsz]; exact Nat.le_refl _) hblk (φ id) (o' := .iter s (p + (decR s p).2)) (fun b hb => ⟨.inl hb, by rw [hsz]; exact (st.live id _ b hH rfl hb).2⟩) rfl
          ⟨g', by rw [updφ_same]; exact c1, Lib.iterAt_heap w g' _ p _ c2⟩
        refine ⟨_, _, _, .tuple #[.bool true, .int .i64 p, .int .i32 (decR s p).1], _, _, hk, by simp only [execOp, hxe, Sem.run_bind, hrun, Result.andThen_ok, Sem.run_pure]; rfl, .inl rfl, st', Le_upd st hH rfl (by rw [hsz]; exact Nat.le_refl _) hblk (φ id) (fun b hb => .inl hb) rfl, ?_⟩
        refine .tup _ _ rfl fun i x u hi hu => ?_
        match i, hi, hu with
        | 0, hi, hu => simp at hi hu; subst hi hu; exact .bool _
        | 1, hi, hu => simp at hi hu; subst hi hu; exact .int _ _
        | 2, hi, hu => simp at hi hu; subst hi hu; exact .int _ _
        | i + 3, hi, hu => simp at hi
      · have hrun := Lib.run_next_end_at (P := P) w g' ⟨s.toArray⟩ p ty c2 (by simpa [ByteArray.size] using hp)
        have hk := h.2 (by simpa using hp)
        refine ⟨_, H, φ, .tuple #[.bool false], _, w, hk, by simp only [execOp, hxe, Sem.run_bind, hrun, Result.andThen_ok, Sem.run_pure], .inl rfl, st, Le.refl _ _ _, ?_⟩
        refine .tup _ _ rfl fun i x u hi hu => ?_
        match i, hi, hu with
        | 0, hi, hu => simp at hi hu; subst hi hu; exact .bool _
        | i + 1, hi, hu => simp at hi
  case buildSlice T len parts =>
    simp only [eOp] at h
    rcases hT : tyS P T with _ | ⟨E, s, b⟩
    · simp [hT] at h
    simp only [hT] at h
    obtain ⟨hu, hsz, hs0, z, ti⟩ := tyS_spec hT
    obtain ⟨hr, h24, hel, hk⟩ := h
    have hlen : parts.toList.length = len := by have := congrArg List.length hr; simpa using this
    obtain ⟨inf, hi, hinf, _, hz⟩ := ti.ex
    have hzs := ti.cells
    have hpart : ∀ (q : Nat) (p : Nat × Operand), parts.toList[q]? = some p → p.1 = q ∧ R w φ H (evO env p.2) (a.eval p.2) ∧ (evO env p.2).closed = true ∧ (evO env p.2).cells.length = s ∧ (evO env p.2).cells.all AV.one = true := fun q p hp => by
      have hq : q < len := by rw [← hlen]; exact (List.getElem?_eq_some_iff.1 hp).1
      have h1 : (parts.toList.map (·.1))[q]? = some p.1 := by rw [List.getElem?_map, hp]; rfl
      rw [hr] at h1
      have h1' : q = p.1 := by simpa [hq] using h1
      have hm : p ∈ parts.toList := List.mem_of_getElem? hp
      have h2 := List.all_eq_true.1 hel _ (List.mem_map.2 ⟨p, hm, rfl⟩)
      simp only [Bool.and_eq_true, beq_iff_eq] at h2
      refine ⟨h1'.symm, ev p.2 ?_, h2.1, h2.2.1, h2.2.2⟩
      simp only [Op.operands]
      exact List.mem_map.2 ⟨p, hm, rfl⟩
    generalize hcells : (Array.range (len * s)).map (fun k => (if len * s = 0 then (#[] : Array Value) else z.cells)[k % (if len * s = 0 then (#[] : Array Value) else z.cells).size]!) = cells0
    have hc0 : cells0.size = len * s := by rw [← hcells]; simp
    obtain ⟨out, o1, o2, _, o4⟩ := fill_row s (parts.toList.map fun p => (p.1, a.eval p.2)) 0 cells0 (fun q x hx => by
      simp only [List.getElem?_map, Option.map_eq_some_iff] at hx
      obtain ⟨p, hp, rfl⟩ := hx
      obtain ⟨p1, p2, p3, p4, p5⟩ := hpart q p hp
      exact ⟨by simpa using p1, by rw [(p2.cells p5).1]; exact p4⟩) (by simp; rw [hc0, ← hlen]; simp)
    have hout : out.size = len * s := by rw [o2, hc0]
    -- what lies where
    have hlie : ∀ (q : Nat) (p : Nat × Operand) (j : Nat) (u : Value), parts.toList[q]? = some p → j < s → out[q * s + j]? = some u → (a.eval p.2).cells[j]? = some u := fun q p j u hp hj hu => by
      have := o4 q (p.1, a.eval p.2) j (by simp only [List.getElem?_map, hp, Option.map_some]) hj
      rw [Nat.zero_add] at this
      rw [← this]; exact hu
    have hsplit : ∀ k, k < len * s → ∃ q j, k = q * s + j ∧ q < len ∧ j < s := fun k hk => ⟨k / s, k % s, by have := Nat.div_add_mod k s; rw [Nat.mul_comm] at this; omega, (Nat.div_lt_iff_lt_mul hs0).2 hk, Nat.mod_lt _ hs0⟩
    obtain ⟨φ', q1, q2, q3⟩ := new_row st (w' := w.alloc (.cells out E)) (Gr.alloc w _) E s hs0 (parts.toList.map fun p => evO env p.2) (.slice (some ⟨w.heap.size, 0, none⟩) len len) out.toList
      ⟨by simp [hout, ← hlen], fun u hu => by
        obtain ⟨k, hk⟩ := List.mem_iff_getElem?.1 hu
        have hk' : out[k]? = some u := by simpa using hk
        have hklt : k < len * s := by rw [← hout]; exact (Array.getElem?_eq_some_iff.1 hk').1
        obtain ⟨q, j, rfl, hq, hj⟩ := hsplit k hklt
        obtain ⟨p, hp⟩ : ∃ p, parts.toList[q]? = some p := ⟨_, List.getElem?_eq_getElem (by omega)⟩
        obtain ⟨_, p2, _, p4, p5⟩ := hpart q p hp
        have hc : (evO env p.2).cells[j]? = some (evO env p.2).cells[j] := List.getElem?_eq_getElem (by omega)
        exact ((p2.cells p5).2 j _ u hc (hlie q p j u hp hj hk')).2,
      .inr ⟨w.heap.size, len, out, (0, 0), by simp [← hlen], heap_alloc_new w _, .inl rfl, by simp [← hlen], by simp only [maxLen]; have := Nat.le_mul_of_pos_right len hs0; omega, hout, by
        rw [List.take_of_length_le]
        simp [hout, ← hlen]⟩⟩
      (fun b hb => by simp [vblk] at hb; subst hb; simp)
      (fun i x hx => by
        simp only [List.getElem?_map, Option.map_eq_some_iff] at hx
        obtain ⟨p, hp, rfl⟩ := hx
        obtain ⟨_, _, p3, p4, _⟩ := hpart i p hp
        exact ⟨p3, p4⟩)
      (fun i x j c u hx hj hu => by
        simp only [List.getElem?_map, Option.map_eq_some_iff] at hx
        obtain ⟨p, hp, rfl⟩ := hx
        obtain ⟨_, p2, _, p4, p5⟩ := hpart i p hp
        have hjs : j < s := by rw [← p4]; exact (List.getElem?_eq_some_iff.1 hj).1
        exact ((p2.cells p5).2 j c u hj (hlie i p j u hp hjs (by simpa using hu))).1)
      ⟨by simp, .inr ⟨w.heap.size, len, by simp [← hlen], by simp [← hlen], _, by simp [← hlen], fun _ => by simp, fun _ => rfl⟩⟩
    refine ⟨_, _, φ', _, _, _, hk, ?_, .inl rfl, q1, q2, by rw [List.length_map, hlen] at q3; exact q3⟩
    have hun : ¬ (2 ^ 24 < len * s) := by omega
    simp only [execOp, Instr.buildSlice, Sem.run_bind, run_underlying hu, run_sizeOf' hsz, Result.andThen_ok]
    rw [if_neg hun]
    have hzv : (zeroValue E).run P w = .ok z w := by simp [zeroValue, typeInfo, hi, hz]
    have htl : (parts.map fun x => (x.1, a.eval x.2)).toList = parts.toList.map fun p => (p.1, a.eval p.2) := by simp
    by_cases h0 : len * s = 0
    · rw [if_pos h0] at hcells ⊢
      simp only [Sem.run_bind, Sem.run_pure, Result.andThen_ok, htl]
      rw [hcells, o1]
      simp [newRow]
    · rw [if_neg h0] at hcells ⊢
      simp only [Sem.run_bind, Sem.run_pure, Result.andThen_ok, htl, hzv]
      rw [hcells, o1]
      simp [newRow]
  case convert src dst' x =>
    have rx := ev x (by simp [Op.operands])
    simp only [eOp] at h
    generalize hxe : a.eval x = vx at rx
    generalize evO env x = ex at h rx
    cases ex <;> (try exact h.elim)
    rename_i s
    cases rx
    obtain ⟨hsrc, hT, hik, hlen, hk⟩ := h
    obtain ⟨hu, hsz, hs0, z, ti⟩ := tyS_spec hT
    obtain ⟨d, hd⟩ := Option.isSome_iff_exists.1 hsrc
    generalize (elT P dst').getD 0 = E at *
    have hrun := Lib.run_convert_string_bytes (P := P) w src dst' E ⟨s.toArray⟩ hd hu (und_of_ikT hik)
    have hsize : (⟨s.toArray⟩ : ByteArray).size = s.length := rfl
    have hge := grownCap_ge w (⟨s.toArray⟩ : ByteArray).size 0 E
    have hcm := grownCap_le_maxLen w (⟨s.toArray⟩ : ByteArray).size 0 E (by rw [hsize]; simpa [maxLen] using hlen)
    have hcs : (Lib.bytesCells w E ⟨s.toArray⟩).size = grownCap w (⟨s.toArray⟩ : ByteArray).size 0 E := by
      simp only [Lib.bytesCells, Array.size_append, Array.size_map, Array.size_replicate]
      rw [hsize] at hge ⊢
      have : s.toArray.size = s.length := by simp
      rw [this]
      omega
    obtain ⟨m1, m2, m3⟩ := bytes_news (w := w) (φ := φ) (H := H) s
    have g : Gr w (Lib.bytesWorld w E ⟨s.toArray⟩) := ⟨rfl, rfl, rfl, by rw [Lib.bytesWorld_size]; omega, fun k hk _ => Lib.bytesWorld_at_old w E _ k hk⟩
    obtain ⟨φ', q1, q2, q3⟩ := new_row st g E 1 hs0 (s.map encB) (.slice (some ⟨w.heap.size, 0, none⟩) (⟨s.toArray⟩ : ByteArray).size (grownCap w (⟨s.toArray⟩ : ByteArray).size 0 E)) (s.map fun b => Value.int .u8 b.toNat)
      ⟨by simp, m1, .inr ⟨w.heap.size, grownCap w (⟨s.toArray⟩ : ByteArray).size 0 E, _, _, by simp [hsize], Lib.bytesWorld_at_new w E _, .inr (Nat.le_refl _), by simpa [hsize] using hge, hcm, by rw [hcs, Nat.mul_one], by
        simp [Lib.bytesCells]⟩⟩
      (fun b hb => by simp [vblk] at hb; subst hb; exact ⟨Nat.le_refl _, by rw [Lib.bytesWorld_size]; omega⟩) m2 m3
      ⟨by simp, .inr ⟨w.heap.size, grownCap w (⟨s.toArray⟩ : ByteArray).size 0 E, by simp [hsize], by simpa [hsize] using hge, _, by simp [hsize], fun _ => by simp, fun _ => rfl⟩⟩
    rw [List.length_map] at q3
    exact ⟨_, _, φ', _, _, _, hk, by simp [execOp, hxe, hrun], .inl rfl, q1, q2, q3⟩
  case call c =>
    obtain ⟨callee, args, argTypes⟩ := c
    cases callee <;> (try exact h.elim)
    rename_i b
    cases b <;> (try exact h.elim)
    case append =>
      obtain ⟨args⟩ := args
      obtain ⟨argTypes⟩ := argTypes
      rcases args with _ | ⟨x, _ | ⟨y, _ | ⟨x2, args⟩⟩⟩
      · exact h.elim
      · exact h.elim
      · rcases argTypes with _ | ⟨t, _ | ⟨t2, _ | ⟨t3, argTypes⟩⟩⟩
        · exact h.elim
        · exact h.elim
        · obtain ⟨z, H', φ', v, w', hk, q1, q2, q3, q4⟩ := app_sound (ty := ty) st (ev x (by simp [Op.operands, Call.operands])) (ev y (by simp [Op.operands, Call.operands])) h
          refine ⟨z, H', φ', v, _, w', hk, ?_, .inl rfl, q2, q3, q4⟩
          simp only [execOp, resolve, invoke, builtin, Sem.run_bind, Sem.run_pure, Result.andThen_ok, List.map_toArray, List.map_cons, List.map_nil, q1]
        · exact h.elim
      · exact h.elim
    case unsafeString =>
      obtain ⟨args⟩ := args
      obtain ⟨argTypes⟩ := argTypes
      rcases args with _ | ⟨x, _ | ⟨y, _ | ⟨x2, args⟩⟩⟩
      · exact h.elim
      · exact h.elim
      · rcases argTypes with _ | ⟨t, _ | ⟨t2, _ | ⟨t3, argTypes⟩⟩⟩
        · exact h.elim
        · exact h.elim
        · obtain ⟨z, H', φ', v, w', hk, q1, q2, q3, q4⟩ := us_sound (it := t2) (ty := ty) st (ev x (by simp [Op.operands, Call.operands])) (ev y (by simp [Op.operands, Call.operands])) h
          refine ⟨z, H', φ', v, _, w', hk, ?_, .inl rfl, q2, q3, q4⟩
          simp only [execOp, resolve, invoke, builtin, Sem.run_bind, Sem.run_pure, Result.andThen_ok, List.map_toArray, List.map_cons, List.map_nil, q1]
        · exact h.elim
      · exact h.elim
end
end Go.Av
