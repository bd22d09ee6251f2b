/- Av, part I: stores into a row of our own, and append to one: the runs. -/
import Derived.Test.YteahieldmfehlaaDoorAvH
namespace Go.Av
open Go.RowKit
set_option linter.unusedVariables false

/-- w' is w but for block g (and new ones) -/
structure But (g : Option Nat) (w w' : World) : Prop where
  os : w'.os = w.os
  tape : w'.tape = w.tape
  output : w'.output = w.output
  size : w.heap.size ≤ w'.heap.size
  block : ∀ k, k < w.heap.size → g ≠ some k → w'.heap[k]? = w.heap[k]?

theorem frozen_off {w : World} {g : Nat} {cur : Array Value} {t : TypeId} {fz : Nat × Nat} (hg : w.heap[g]? = some (.cells cur t fz)) (hf : fz = (0, 0) ∨ cur.size ≤ fz.1) {k : Nat} (hk : k < cur.size) : w.frozen? ⟨g, k, none⟩ = false := by
  unfold World.frozen?
  simp only [hg]
  rcases hf with rfl | hf
  · simp
  · obtain ⟨lo, hi⟩ := fz
    have h1 : cur.size ≤ lo := hf
    have : ¬ lo ≤ k := by omega
    simp [this]

theorem heap_setCell_at {w : World} {g k : Nat} {cur : Array Value} {t : TypeId} {fz : Nat × Nat} (hg : w.heap[g]? = some (.cells cur t fz)) (v : Value) : (w.setCell ⟨g, k, none⟩ v).heap[g]? = some (.cells (cur.setIfInBounds k v) t fz) := by
  simp only [World.setCell, Array.getElem?_modify, hg]
  simp

theorem run_stores {P : Program} {g : Nat} {t : TypeId} {fz : Nat × Nat} : ∀ (vs : List Value) (o i : Nat) (cur : Array Value) (w : World), w.heap[g]? = some (.cells cur t fz) → (fz = (0, 0) ∨ cur.size ≤ fz.1) → o + i + vs.length ≤ cur.size → (∀ v ∈ vs, v.oneCell' = true) →
    ∃ w', (storeCells ⟨g, o, none⟩ vs i).run P w = .ok () w' ∧ w'.heap[g]? = some (.cells (cur.toList.take (o + i) ++ vs ++ cur.toList.drop (o + i + vs.length)).toArray t fz) ∧ But (some g) w w' ∧ w'.heap.size = w.heap.size
  | [], o, i, cur, w, hg, hf, hl, h1 => by
    refine ⟨w, by simp [storeCells], ?_, ⟨rfl, rfl, rfl, Nat.le_refl _, fun _ _ _ => rfl⟩, rfl⟩
    rw [hg]
    simp
  | v :: vs, o, i, cur, w, hg, hf, hl, h1 => by
    simp only [List.length_cons] at hl
    have hlt : o + i < cur.size := by omega
    have hv : v.oneCell' = true := h1 v (by simp)
    have hst : (store ((⟨g, o, none⟩ : Addr).add i) v).run P w = .ok () (w.setCell ⟨g, o + i, none⟩ v) := by
      have hc : w.cell? ⟨g, o + i, none⟩ = some cur[o + i] := by rw [cell_of_row w g _ cur t fz hg]; exact Array.getElem?_eq_getElem hlt
      rw [add_lit, run_store P w _ v .plain hv, hc]
      simp [frozen_off hg hf hlt]
    obtain ⟨w', e1, e2, e3, e4⟩ := run_stores (P := P) vs o (i + 1) (cur.setIfInBounds (o + i) v) (w.setCell ⟨g, o + i, none⟩ v) (heap_setCell_at hg v) (by simpa using hf) (by simp; omega) (fun u hu => h1 u (by simp [hu]))
    refine ⟨w', ?_, ?_, ⟨e3.os, e3.tape, e3.output, by have := e3.size; simpa using this, fun k hk hne => ?_⟩, by rw [e4]; simp⟩
    · simp only [storeCells, Sem.run_bind, hst, Result.andThen_ok]
      exact e1
    · rw [e2]
      have e := list_seg_step cur.toList (o + i) v vs (by simp; omega)
      simp only [Array.toList_setIfInBounds, List.length_cons]
      rw [show o + (i + 1) = o + i + 1 by omega, e]
    · rw [e3.block k (by simpa using hk) hne]
      exact heap_setCell_other w _ k v (fun h => hne (by rw [h]))

structure TyI (P : Program) (E : TypeId) (s b : Nat) (z : Value) : Prop where
  ex : ∃ i, P.info? E = some i ∧ i.size = s ∧ i.bytes = b ∧ i.zero = some z
  cells : z.cells.size = s
  pos : 0 < s

theorem zc_size (z : Array Value) (n : Nat) : (Builtin.zeroCells z n).size = n * z.size := by simp [Builtin.zeroCells]

/-- append to a slice of our own, from whatever source x of m elements whose cells are news -/
theorem run_app {P : Program} {w : World} {t t2 ty E : TypeId} {d2 : TypeDesc} {s by' : Nat} {z : Value} (ht : P.underlying t = some (.slice E)) (h2 : P.underlying t2 = some d2) (hd : ∀ k, d2 ≠ .int k) (ti : TyI P E s by' z)
    {v0 : Value} {n : Nat} {cs : List Value} (own : OwnRow w E s v0 n cs) {v : Value} {len : Nat} (hv : OwnV v0 s n 0 len v)
    (x : Value) (m : Nat) (news : List Value) (hm : ∀ w, (Builtin.lenOf x).run P w = .ok m w) (hfc : ∀ w', Ext w w' → (Builtin.firstCells s m x).run P w' = .ok news.toArray w') (hl : news.length = m * s) (h1 : ∀ u ∈ news, u.oneCell' = true)
    (hby : (len + m) * by' ≤ 140737488355328) (h63 : len + m ≤ 9223372036854775807) :
    ∃ v' w', (Builtin.append_ #[t, t2] ty #[v, x]).run P w = .ok v' w' ∧ OwnRow w' E s v' (len + m) (cs.take (len * s) ++ news) ∧ But (vblk v0) w w' ∧
      (∀ b, vblk v' = some b → (vblk v0 = some b ∨ w.heap.size ≤ b) ∧ b < w'.heap.size) ∧ OwnV v' s (len + m) 0 (len + m) v' := by
  obtain ⟨i, hi, rfl, rfl, hz⟩ := ti.ex
  have hzs := ti.cells
  have hle : len ≤ n := by have := hv.1; omega
  have hcl : (cs.take (len * i.size)).length = len * i.size := by
    rw [List.length_take, own.1]
    exact Nat.min_eq_left (Nat.mul_le_mul_right _ hle)
  have hlen : (cs.take (len * i.size) ++ news).length = (len + m) * i.size := by rw [List.length_append, hcl, hl, Nat.add_mul]
  have hone : ∀ u ∈ cs.take (len * i.size) ++ news, u.oneCell' = true := fun u hu => by
    rcases List.mem_append.1 hu with h | h
    · exact own.2.1 u (List.mem_of_mem_take h)
    · exact h1 u h
  -- the slice grows
  have grow : ∀ (old : Nat) (ad : Option Addr), v = .slice ad len old → old < len + m → (∀ w', Ext w w' → (Builtin.firstCells i.size len v).run P w' = .ok (cs.take (len * i.size)).toArray w') →
      ∃ v' w', (Builtin.append_ #[t, t2] ty #[v, x]).run P w = .ok v' w' ∧ OwnRow w' E i.size v' (len + m) (cs.take (len * i.size) ++ news) ∧ But (vblk v0) w w' ∧
      (∀ b, vblk v' = some b → (vblk v0 = some b ∨ w.heap.size ≤ b) ∧ b < w'.heap.size) ∧ OwnV v' i.size (len + m) 0 (len + m) v' := by
    intro old ad hve ho hfo
    have hge := grownCap_ge w (len + m) old E
    have hcm : grownCap w (len + m) old E ≤ maxLen := grownCap_le_maxLen w (len + m) old E (by simpa [maxLen] using h63)
    have hn1 : ¬ (len + m ≤ old) := by omega
    have h48' : ¬ (281474976710656 < Builtin.nextslicecap (len + m) old * i.bytes) := by have := growslice_fits ho hby; omega
    have hex : Ext w w.drew := ⟨Nat.le_refl _, fun _ _ => rfl⟩
    refine ⟨.slice (some ⟨w.heap.size, 0, none⟩) (len + m) (grownCap w (len + m) old E), w.drew.alloc (.cells ((cs.take (len * i.size)).toArray ++ news.toArray ++ Builtin.zeroCells z.cells (grownCap w (len + m) old E - (len + m))) E), ?_, ?_, ?_, ?_, ?_⟩
    · have f1 := hfo w.drew hex
      have f2 := hfc w.drew hex
      rw [hve] at f1 ⊢
      simp [Builtin.append_, run_underlying ht, run_underlying h2, sizeOf, typeInfo, zeroValue, hi, hz, hm, hn1, h48', Question.forced, f1, f2, newRow, grownCap]
      rw [if_neg (fun h => by have := h.1; omega)]
      congr 3
      apply Array.ext'
      simp
    · refine ⟨hlen, hone, .inr ⟨w.heap.size, _, _, (0, 0), rfl, heap_alloc_new w.drew _, .inl rfl, hge, hcm, ?_, ?_⟩⟩
      · simp only [Array.size_append, List.size_toArray, zc_size, hzs, hcl, hl, ← Nat.add_mul]
        congr 1
        omega
      · simp only [Array.toList_append, List.append_assoc]
        rw [← List.append_assoc, ← hlen]
        exact List.take_left
    · exact ⟨rfl, rfl, rfl, by simp, fun k hk _ => Below.heap_alloc w.drew _ k hk⟩
    · intro b hb
      simp [vblk] at hb
      subst hb
      exact ⟨.inr (Nat.le_refl _), by simp⟩
    · exact ⟨by omega, .inr ⟨w.heap.size, _, rfl, hge, _, rfl, fun _ => by simp, fun _ => rfl⟩⟩
  rcases hv.2 with ⟨rfl, rfl, rfl⟩ | ⟨g, cap, rfl, hnc, ad, rfl, _, h00⟩
  · have hl0 : len = 0 := by omega
    subst hl0
    by_cases hm0 : m = 0
    · subst hm0
      have hn0 : news = [] := List.eq_nil_of_length_eq_zero (by simpa using hl)
      subst hn0
      refine ⟨.slice none 0 0, w, ?_, ⟨by simp, by simp, .inl ⟨rfl, rfl⟩⟩, ⟨rfl, rfl, rfl, Nat.le_refl _, fun _ _ _ => rfl⟩, fun b hb => by simp [vblk] at hb, ⟨by omega, .inl ⟨rfl, rfl, rfl⟩⟩⟩
      have f2 := hfc w (Ext.refl w)
      simp [Builtin.append_, run_underlying ht, run_underlying h2, sizeOf, typeInfo, hi, hm, f2]
    · exact grow 0 none rfl (by omega) (fun w' _ => by simp [Builtin.firstCells])
  · have had := h00 rfl
    subst had
    simp only [Nat.sub_zero] at hv ⊢
    rcases own.2.2 with ⟨e, _⟩ | ⟨g', cap', cur, fz, e, hg, hfz, _, hcm, hcs, htake⟩
    · simp at e
    · simp at e
      obtain ⟨rfl, rfl⟩ := e
      by_cases hroom : len + m ≤ cap
      · have hfit : len * i.size + 0 + news.length ≤ cur.size := by rw [hl, hcs, Nat.add_zero, ← Nat.add_mul]; exact Nat.mul_le_mul_right _ hroom
        obtain ⟨w', e1, e2, e3, e4⟩ := run_stores (P := P) news (len * i.size) 0 cur w hg hfz hfit h1
        refine ⟨.slice (some ⟨g, 0, none⟩) (len + m) cap, w', ?_, ⟨hlen, hone, .inr ⟨g, cap, _, fz, rfl, e2, ?_, hroom, hcm, ?_, ?_⟩⟩, ⟨e3.os, e3.tape, e3.output, e3.size, fun k hk hne => e3.block k hk (by simpa [vblk] using hne)⟩, fun b hb => ?_, ⟨by omega, .inr ⟨g, cap, rfl, hroom, _, rfl, fun _ => by simp, fun _ => rfl⟩⟩⟩
        · have f2 := hfc w (Ext.refl w)
          simp [Builtin.append_, run_underlying ht, run_underlying h2, sizeOf, typeInfo, hi, hm, hroom, f2, add_lit, e1]
        · rcases hfz with h | h
          · exact .inl h
          · right; simp; rw [hl] at hfit ⊢; simp at hfit; omega
        · simp; rw [hl] at hfit ⊢; simp at hfit; omega
        · simp only [Nat.add_zero]
          rw [show cur.toList.take (len * i.size) = cs.take (len * i.size) by
            rw [← htake, List.take_take, Nat.min_eq_left (Nat.mul_le_mul_right _ hle)]]
          rw [← hlen]
          exact List.take_left
        · simp [vblk] at hb
          subst hb
          exact ⟨.inl rfl, by rw [e4]; exact (Array.getElem?_eq_some_iff.1 hg).1⟩
      · simp only [Nat.sub_zero] at grow
        refine grow cap (some ⟨g, 0, none⟩) rfl (by omega) (fun w' hw => ?_)
        refine run_firstCells_some (P := P) (w := w') i.size len ⟨g, 0, none⟩ len cap (cs.take (len * i.size)) hcl (fun j u hu => ?_)
        rw [add_lit, Nat.zero_add]
        have : cs[j]? = some u := by
          rw [List.getElem?_take] at hu
          split at hu
          · exact hu
          · simp at hu
        exact hw.cell (ownRow_cell own rfl this)
end Go.Av
