/- Av, part V: a slice of ours cut with a capacity: what is cut off is a view, of a slice that is written no more. -/
import Derived.Test.YtecpgelhhbbjmaaDoorFwE
namespace Go.Av
open Go.RowKit
set_option linter.unusedVariables false
section
variable {P : Program} {B : Nat} {X : Nat → Prop} {w0 w : World} {φ : Nat → Value} {H : List AO} {n : Nat} {env : Env} {K : Post}
theorem run_slice3 {T E : TypeId} {s : Nat} (hE : elT P T = some E) (hs : szT P E = some s) (w : World) (ad : Addr) (len cap h : Nat) (k k' : IntKind) (h0 : 0 < h) (h1 : h ≤ cap) :
    (Instr.sliceAt T (.slice (some ad) len cap) none (some (.int k (h : Int))) (some (.int k' (h : Int)))).run P w = .ok (.slice (some (ad.add 0)) h h) w := by
  have hu := und_of_elT hE
  have hb : (Instr.sliceBounds true len cap none (some (.int k (h : Int))) (some (.int k' (h : Int)))).run P w = .ok (0, h, h) w := by
    have a1 : (0 : Int) ≤ (h : Int) ∧ (h : Int) ≤ (cap : Int) := by omega
    simp [Instr.sliceBounds, run_sliceBound, a1]
  have hne : ¬ h = 0 := by omega
  simp only [Instr.sliceAt, Sem.run_bind, run_underlying hu, Result.andThen_ok, Instr.slice, hb, run_sizeOf' hs, Sem.run_pure, hne, if_false, Option.map_some, Nat.zero_mul, Nat.sub_zero]
theorem own_as_view (st : St B X w0 w φ H) {j ver : Nat} {E : TypeId} {xs : List UInt8} (hH : H[j]? = some (.slice ver E 1 (xs.map encB))) {v : Value} (r : R w φ H (.own j ver 0 xs.length) v) {h : Nat} (h0 : 0 < h) (hx : h ≤ xs.length) :
    ∃ g cap, v = .slice (some ⟨g, 0, none⟩) xs.length cap ∧ xs.length ≤ cap ∧ R w (updφ φ j (φ j)) (H.set j .gone) (.view 1 ((xs.take h).map encB)) (.slice (some ⟨g, 0, none⟩) h h) := by
  have hid : j < H.length := (List.getElem?_eq_some_iff.1 hH).1
  obtain ⟨cs, hrow, hs0, hx1, hx2⟩ := st.chunk j _ hH
  cases r with
  | own _ _ _ _ _ _ ho hv hown =>
    obtain ⟨eo1, e | ⟨g, cap, e1, e2, ad, rfl, e3, e4⟩⟩ := hown _ _ _ hH
    · have := e.2.2; rw [List.length_map] at this; omega
    obtain rfl := e4 rfl
    have e1o := e1
    rw [List.length_map] at e1 e2
    refine ⟨g, cap, by rw [Nat.sub_zero], e2, ?_⟩
    have hlen : (xs.map encB).length = xs.length := List.length_map ..
    have hcl : cs.length = xs.length := by rw [hrow.1, hlen, Nat.mul_one]
    have hcell : ∀ (i : Nat) (x : UInt8), xs[i]? = some x → w.cell? ⟨g, i, none⟩ = some (.int .u8 (b2i x)) := fun i x hi => by
      have hil : i < xs.length := (List.getElem?_eq_some_iff.1 hi).1
      have hu : cs[i]? = some cs[i] := List.getElem?_eq_getElem (by omega)
      have hi' : (xs.map encB)[i]? = some (encB x) := by rw [List.getElem?_map, hi]; rfl
      have hr := hx2 i (encB x) 0 (encB x) cs[i] hi' rfl (by rw [Nat.mul_one, Nat.add_zero]; exact hu)
      have := ownRow_cell hrow e1o hu
      rw [this]
      generalize cs[i] = z at hr
      unfold encB at hr
      cases hr
      rfl
    have hb : g < w.heap.size := (st.live j _ g hH rfl (by rw [e1]; rfl)).2
    have key := R.view (w := w) (φ := updφ φ j (φ j)) (H := H.set j .gone) ((xs.take h).map encB) g 0 1 h (fun i _ => .int .u8 (b2i (xs.getD i 0))) (by rw [List.length_map, List.length_take]; omega) hb (fun k o hk hlv hbk => by
        by_cases e : k = j
        · subst e; rw [List.getElem?_set_self hid] at hk; cases hk; simp [AO.live] at hlv
        · rw [List.getElem?_set_ne (Ne.symm e)] at hk
          rw [updφ_ne _ _ _ _ e] at hbk
          exact e (st.inj k j o _ g hk hlv hH rfl hbk (by rw [e1]; rfl)))
      (fun i x hi => by
        rw [List.getElem?_map, Option.map_eq_some_iff] at hi
        obtain ⟨y, _, rfl⟩ := hi
        rfl)
      (fun i x hi => by
        rw [List.getElem?_map, Option.map_eq_some_iff] at hi
        obtain ⟨y, _, rfl⟩ := hi
        rfl)
      (fun i x k c hi hk => by
        rw [List.getElem?_map, Option.map_eq_some_iff] at hi
        obtain ⟨y, hy, rfl⟩ := hi
        have hy' : xs[i]? = some y := by
          rw [List.getElem?_take] at hy
          split at hy
          · exact hy
          · cases hy
        have hk0 : k = 0 := by
          have := (List.getElem?_eq_some_iff.1 hk).1
          simp [AV.cells, encB] at this
          exact this
        subst hk0
        have hg : xs.getD i 0 = y := by rw [List.getD_eq_getElem?_getD, hy']; rfl
        rw [hg, show 0 + i * 1 + 0 = i by omega]
        exact ⟨hcell i y hy', rfl⟩)
      (fun i x k c hi hk => by
        rw [List.getElem?_map, Option.map_eq_some_iff] at hi
        obtain ⟨y, hy, rfl⟩ := hi
        have hy' : xs[i]? = some y := by
          rw [List.getElem?_take] at hy
          split at hy
          · exact hy
          · cases hy
        have hk0 : k = 0 := by
          have := (List.getElem?_eq_some_iff.1 hk).1
          simp [AV.cells, encB] at this
          exact this
        subst hk0
        have hg : xs.getD i 0 = y := by rw [List.getD_eq_getElem?_getD, hy']; rfl
        rw [hg]
        simp only [AV.cells, encB, List.getElem?_cons_zero, Option.some.injEq] at hk
        subst hk
        exact .int _ _)
    rw [List.length_map, List.length_take, Nat.min_eq_left hx] at key
    exact key
/-- x[:h:h], put in x's place -/
theorem J_slice3 {id : Nat} {ops : Array Oper} {o1 o2 o3 : Oper} {T E E' : TypeId} {k k' : IntKind} (s d1 d2 s' h j ver : Nat) (xs r : List UInt8) (hops : ops.toList = [o1, o2, o3])
    (h1 : o1.op = .move (.tmp s) ∧ o1.dst = some d1 ∧ o1.guard = none) (h2 : o2.op = .slice T (.tmp d1) none (some (.const (.int k (h : Int)))) (some (.const (.int k' (h : Int)))) ∧ o2.dst = some d2 ∧ o2.guard = none) (h3 : o3.op = .assign (.tmp d2) ∧ o3.dst = some s' ∧ o3.guard = none)
    (hn : s < n ∧ d1 < n ∧ d2 < n ∧ s' < n) (hE : elT P T = some E') (hs : szT P E' = some 1) (henv : env s = .own j ver 0 xs.length) (hH : H[j]? = some (.slice ver E 1 (xs.map encB))) (hsl : slL xs 0 (h : Int) = some r) (h0 : 0 < h)
    (hk : K .normal (upd (upd (upd env d1 .dead) d2 .dead) s' (.view 1 (r.map encB))) (H.set j .gone)) : J P n (.region id ops false) env H K := by
  intro B X w0 w φ a g st eo
  obtain ⟨_, _, hh, rfl⟩ := slL_prop hsl
  have hh' : h ≤ xs.length := by omega
  rw [Int.toNat_zero, List.drop_zero, Int.toNat_natCast] at hk
  obtain ⟨n1, n2, n3, n4⟩ := hn
  have rs := eo.slot s n1
  rw [henv] at rs
  obtain ⟨gb, cap, hv, hcap, rv⟩ := own_as_view st hH rs h0 hh'
  obtain ⟨st', le⟩ := st.kill hH rfl
  refine wp_region_list ?_
  rw [hops]
  obtain ⟨a1, b1, c1⟩ := h1
  obtain ⟨a2, b2, c2⟩ := h2
  obtain ⟨a3, b3, c3⟩ := h3
  have hsz := eo.size
  have ev : ∀ (x : Act) (t : Nat) (v : Value), t < x.tmps.size → (x.put (some t) v).tmps.getD t undef = v := fun x t v ht => by simp [Act.put, ht]
  unfold wpList
  rw [if_pos (by simp [Region.wanted, c1])]
  left
  unfold Oper.wp
  rw [show (execOp a.eval o1).run P w = .ok (.value (a.tmps.getD s undef)) w by simp only [execOp, a1, Sem.run_pure]; rfl, Oper.upon_value, b1]
  unfold wpList
  rw [if_pos (by simp [Region.wanted, c2])]
  left
  unfold Oper.wp
  have e1 : (a.put (some d1) (a.tmps.getD s undef)).eval (.tmp d1) = .slice (some ⟨gb, 0, none⟩) xs.length cap := by
    show (a.put (some d1) (a.tmps.getD s undef)).tmps.getD d1 undef = _
    rw [ev a d1 _ (by omega), hv]
  rw [show (execOp (a.put (some d1) (a.tmps.getD s undef)).eval o2).run P w = .ok (.value (.slice (some ⟨gb, 0, none⟩) h h)) w by
    simp only [execOp, a2, Option.map_none, Option.map_some]
    rw [e1]
    simp only [Act.eval, Sem.run_bind, run_slice3 hE hs w ⟨gb, 0, none⟩ xs.length cap h k k' h0 (by omega), Result.andThen_ok, Sem.run_pure]
    rfl, Oper.upon_value, b2]
  unfold wpList
  rw [if_pos (by simp [Region.wanted, c3])]
  left
  unfold Oper.wp
  have e2 : ((a.put (some d1) (a.tmps.getD s undef)).put (some d2) (.slice (some ⟨gb, 0, none⟩) h h)).eval (.tmp d2) = .slice (some ⟨gb, 0, none⟩) h h := by
    show ((a.put (some d1) (a.tmps.getD s undef)).put (some d2) (.slice (some ⟨gb, 0, none⟩) h h)).tmps.getD d2 undef = _
    exact ev _ d2 _ (by simp [Act.put]; omega)
  rw [show (execOp ((a.put (some d1) (a.tmps.getD s undef)).put (some d2) (.slice (some ⟨gb, 0, none⟩) h h)).eval o3).run P w = .ok (.value (.slice (some ⟨gb, 0, none⟩) h h)) w by simp only [execOp, a3, e2, Sem.run_pure], Oper.upon_value, b3]
  unfold wpList
  refine ⟨_, _, _, hk, st', ?_⟩
  have q0 := eo.le le
  have q1 := q0.put (x := .dead) (v := a.tmps.getD s undef) (some d1) (by simpa [dstOK] using n2) (.dead _)
  have q2 := q1.put (x := .dead) (v := .slice (some ⟨gb, 0, none⟩) h h) (some d2) (by simpa [dstOK] using n3) (.dead _)
  exact q2.put (x := .view 1 ((xs.take h).map encB)) (v := .slice (some ⟨gb, 0, none⟩) h h) (some s') (by simpa [dstOK] using n4) rv
end
end Go.Av
