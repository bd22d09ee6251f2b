/- Av, part T: array variables: a variable that is an array of places of one cell is told as a slice of our own; one that is no more written is told as a pointer to what it holds. -/
import Derived.Test.YtmenoocaeakplaaDoorAvS
namespace Go.Av
open Go.RowKit
set_option linter.unusedVariables false
section
variable {P : Program} {n : Nat} {env : Env} {H : List AO} {K : Post}

theorem live_set {φ φ' : Nat → Value} {id : Nat} {nv : Value} (e : φ' = updφ φ id nv) : φ' id = nv := by rw [e, updφ_same]

/-- an array variable: a slice of our own, and a pointer to its first place -/
theorem J_arr {c : Code} (id t : Nat) (T : TypeId) (xs : List AV) (hH : H[id]? = some (.box T xs)) (ht : env t = .bptr id 0) (hcl : ∀ x ∈ xs, x.closed = true ∧ x.cells = [x]) (hl : xs.length ≤ maxLen)
    (h : J P n c (upd env t (.optr H.length 0 0 0)) (H.set id .gone ++ [.slice 0 T 1 xs]) K) : J P n c env H K := by
  intro B X w0 w φ a g st eo
  have hid : id < H.length := (List.getElem?_eq_some_iff.1 hH).1
  obtain ⟨gg, arr, c1, c2, c3, c4⟩ := st.chunk id _ hH
  generalize hnv : Value.slice (some ⟨gg, 0, none⟩) xs.length xs.length = nv
  generalize hφ : updφ φ H.length nv = φ'
  have hget : ∀ k o, (H.set id .gone ++ [AO.slice 0 T 1 xs])[k]? = some o → (k ≠ id ∧ k < H.length ∧ H[k]? = some o ∧ φ' k = φ k) ∨ (k = id ∧ o = .gone) ∨ (k = H.length ∧ o = .slice 0 T 1 xs ∧ φ' k = nv) := by
    intro k o hk
    rcases get_app hk with ⟨h1, h2⟩ | ⟨h1, h2⟩
    · rw [List.length_set] at h1
      by_cases e : k = id
      · subst e
        rw [List.getElem?_set_self hid] at h2
        exact .inr (.inl ⟨rfl, (Option.some.inj h2).symm⟩)
      · rw [List.getElem?_set_ne (Ne.symm e)] at h2
        exact .inl ⟨e, h1, h2, by rw [← hφ, updφ_ne _ _ _ _ (by omega)]⟩
    · rw [List.length_set] at h1
      subst h1
      exact .inr (.inr ⟨rfl, h2, by rw [← hφ, updφ_same]⟩)
  have hbnv : ∀ b, vblk nv = some b → b = gg := fun b hb => by rw [← hnv] at hb; simpa [vblk] using hb.symm
  have hvid : vblk (φ id) = some gg := by rw [c1]; rfl
  have le : Le w φ H w φ' (H.set id .gone ++ [.slice 0 T 1 xs]) := by
    refine ⟨Nat.le_refl _, fun b _ hn => ⟨fun k o hk hlv => ?_, fun _ => rfl⟩, by simp, fun k v' E s xs' hk hx => ?_, fun k ver E s xs' hk hv hx => ?_, fun k o hk hx hp => ?_⟩
    · rcases hget k o hk with ⟨e1, e2, e3, e4⟩ | ⟨e1, rfl⟩ | ⟨e1, e2, e3⟩
      · rw [e4]; exact hn k o e3 hlv
      · simp [AO.live] at hlv
      · rw [e3]
        intro hb
        have := hbnv b hb
        subst this
        exact hn id _ hH rfl hvid
    · rcases hget k _ hx with ⟨e1, e2, e3, e4⟩ | ⟨e1, e2⟩ | ⟨e1, e2, e3⟩
      · exact ⟨v', E, s, xs', e3, Nat.le_refl _⟩
      · cases e2
      · omega
    · rcases hget k _ hx with ⟨e1, e2, e3, e4⟩ | ⟨e1, e2⟩ | ⟨e1, e2, e3⟩
      · exact ⟨xs', e3, rfl, e4⟩
      · cases e2
      · omega
    · rcases hget k _ hx with ⟨e1, e2, e3, e4⟩ | ⟨e1, rfl⟩ | ⟨e1, e2, e3⟩
      · exact ⟨o, e3, hp, e4⟩
      · simp [AO.pb] at hp
      · omega
  have hkeep : ∀ k o, H[k]? = some o → φ' k = φ k → Chunk w φ H k o → Chunk w φ' (H.set id .gone ++ [.slice 0 T 1 xs]) k o := fun k o hk e c => Chunk.keep le e (fun _ _ => rfl) c
  have st' : St B X w0 w φ' (H.set id .gone ++ [.slice 0 T 1 xs]) := by
    refine ⟨st.frame, st.base, st.glob, fun k o b hk hlv hb => ?_, fun k k' o o' b hk hlv hk' hlv' hb hb' => ?_, fun k o hk => ?_⟩
    · rcases hget k o hk with ⟨e1, e2, e3, e4⟩ | ⟨e1, rfl⟩ | ⟨e1, e2, e3⟩
      · rw [e4] at hb; exact st.live k o b e3 hlv hb
      · simp [AO.live] at hlv
      · rw [e3] at hb
        have := hbnv b hb
        subst this
        exact st.live id _ _ hH rfl hvid
    · have one : ∀ k o, (H.set id .gone ++ [AO.slice 0 T 1 xs])[k]? = some o → o.live = true → vblk (φ' k) = some b → ∃ q o2, H[q]? = some o2 ∧ o2.live = true ∧ vblk (φ q) = some b ∧ (q = id → k = H.length) ∧ (q ≠ id → k = q) := by
        intro k o hk hlv hb
        rcases hget k o hk with ⟨e1, e2, e3, e4⟩ | ⟨e1, rfl⟩ | ⟨e1, e2, e3⟩
        · exact ⟨k, o, e3, hlv, by rw [← e4]; exact hb, fun h => absurd h e1, fun _ => rfl⟩
        · simp [AO.live] at hlv
        · rw [e3] at hb
          have := hbnv b hb
          subst this
          exact ⟨id, _, hH, rfl, hvid, fun _ => e1, fun h => absurd rfl h⟩
      obtain ⟨q, o2, a1, a2, a3, a4, a5⟩ := one k o hk hlv hb
      obtain ⟨q', o2', b1, b2, b3, b4, b5⟩ := one k' o' hk' hlv' hb'
      have := st.inj q q' o2 o2' b a1 a2 b1 b2 a3 b3
      subst this
      by_cases e : q = id
      · rw [a4 e, b4 e]
      · rw [a5 e, b5 e]
    · rcases hget k o hk with ⟨e1, e2, e3, e4⟩ | ⟨e1, rfl⟩ | ⟨e1, rfl, e3⟩
      · exact hkeep k o e3 e4 (st.chunk k o e3)
      · exact trivial
      · refine ⟨arr.toList, ⟨by simp [c3], fun u hu => ?_, .inr ⟨gg, xs.length, arr, (0, 0), by rw [e3, ← hnv], c2, .inl rfl, Nat.le_refl _, hl, by simp [c3], ?_⟩⟩, by decide, fun i x hx => ⟨(hcl x (List.mem_of_getElem? hx)).1, by rw [(hcl x (List.mem_of_getElem? hx)).2]; rfl⟩, fun i x j c u hx hj hu => ?_⟩
        · obtain ⟨i, hi⟩ := List.mem_iff_getElem?.1 hu
          rw [Array.getElem?_toList] at hi
          have hlt : i < xs.length := by rw [← c3]; exact (Array.getElem?_eq_some_iff.1 hi).1
          exact (c4 i _ u (List.getElem?_eq_getElem hlt) hi).2
        · rw [List.take_of_length_le (by simp [c3])]
        · rw [(hcl x (List.mem_of_getElem? hx)).2] at hj
          obtain ⟨rfl, rfl⟩ : j = 0 ∧ c = x := by cases j <;> simp_all
          have : arr[i]? = some u := by simpa using hu
          exact ((c4 i c u hx this).1).le le
  have hslot : ∀ v, R w φ H (env t) v → R w φ' (H.set id .gone ++ [.slice 0 T 1 xs]) (.optr H.length 0 0 0) v := fun v r => by
    rw [ht] at r
    cases r with
    | bptr _ _ _ hid' ho hh =>
      obtain ⟨g2, d1, rfl⟩ := hh _ hH rfl
      rw [c1] at d1
      simp at d1
      subst d1
      refine .optr _ _ _ _ _ (by simp) rfl (fun _ _ _ _ _ => Nat.zero_le _) fun E s xs' hx => ?_
      rcases hget _ _ hx with ⟨e1, e2, e3, e4⟩ | ⟨e1, e2⟩ | ⟨e1, e2, e3⟩
      · omega
      · cases e2
      · cases e2
        exact ⟨gg, xs.length, xs.length, by rw [e3, ← hnv], by simp⟩
  refine h B X w0 w φ' a g st' ⟨eo.size, eo.defers, fun k hk => ?_, fun k hk => ?_⟩
  · by_cases e : k = t
    · subst e; simp only [upd, if_true]; exact hslot _ (eo.slot k hk)
    · simp only [upd, if_neg e]; exact (eo.slot k hk).le le
  · by_cases e : k = t
    · subst e; simp only [upd, if_true]; exact hslot _ (eo.ghost k hk)
    · simp only [upd, if_neg e]; exact (eo.ghost k hk).le le

/-- an array variable that is no more written -/
theorem J_freeze {c : Code} (id t ver : Nat) (T : TypeId) (xs : List AV) (hH : H[id]? = some (.slice ver T 1 xs)) (ht : env t = .optr id ver 0 0) (hAgg : ∀ x ∈ xs, x.cells = [x])
    (h : J P n c (upd env t (.vptr (.agg xs) 0)) (H.set id .gone) K) : J P n c env H K := by
  intro B X w0 w φ a g st eo
  have hid : id < H.length := (List.getElem?_eq_some_iff.1 hH).1
  have le : Le w φ H w (updφ φ id (φ id)) (H.set id .gone) := Le_upd st hH rfl (Nat.le_refl _) (fun k _ _ => rfl) (φ id) (fun b hb => .inl hb) trivial
  have st' : St B X w0 w (updφ φ id (φ id)) (H.set id .gone) :=
    St.upd st hH rfl rfl rfl rfl (Nat.le_refl _) (fun k _ _ => rfl) (φ id) (fun b hb => ⟨.inl hb, (st.live id _ b hH rfl hb).2⟩) trivial trivial
  obtain ⟨cs, hrow, hs0, hx1, hx2⟩ := st.chunk id _ hH
  have hslot : ∀ v, R w φ H (env t) v → R w (updφ φ id (φ id)) (H.set id .gone) (.vptr (.agg xs) 0) v := fun v r => by
    rw [ht] at r
    cases r with
    | optr _ _ _ _ _ _ _ _ hh =>
      obtain ⟨gg, m, cap, d1, rfl⟩ := hh T 1 xs hH
      have hlen : cs.length = xs.length := by rw [hrow.1, Nat.mul_one]
      have hm : m = xs.length := by
        rcases hrow.2.2 with ⟨e, _⟩ | ⟨g', cap', cur, fz, e, _⟩
        · rw [d1] at e; simp at e
        · rw [d1] at e; simp at e; exact e.2.1
      subst hm
      have hcell : ∀ (j : Nat) (c : AV), xs[j]? = some c → ∃ u, cs[j]? = some u ∧ w.cell? ⟨gg, j, none⟩ = some u ∧ u.oneCell' = true ∧ R w φ H c u ∧ c.closed = true := fun j c hj => by
        have hjl : j < cs.length := by rw [hlen]; exact (List.getElem?_eq_some_iff.1 hj).1
        have hu : cs[j]? = some cs[j] := List.getElem?_eq_getElem hjl
        have hc1 := hx1 j c hj
        refine ⟨_, hu, ownRow_cell hrow d1 hu, hrow.2.1 _ (List.mem_of_getElem? hu), ?_, hc1.1⟩
        exact hx2 j c 0 c cs[j] hj (by rw [hAgg c (List.mem_of_getElem? hj)]; rfl) (by simp)
      have hb : gg < w.heap.size := (st.live id _ gg hH rfl (by rw [d1]; rfl)).2
      have hv := R.vptr (w := w) (φ := updφ φ id (φ id)) (H := H.set id .gone) (.agg xs) 0 gg 0 (fun j => cs.getD j undef) ((closedL_iff xs).2 fun x hx => by
          obtain ⟨j, hj⟩ := List.mem_iff_getElem?.1 hx
          exact (hx1 j x hj).1) hb (fun k o hk hlv hbk => by
          by_cases e : k = id
          · subst e; rw [List.getElem?_set_self hid] at hk; cases hk; simp [AO.live] at hlv
          · rw [List.getElem?_set_ne (Ne.symm e)] at hk
            rw [updφ_ne _ _ _ _ e] at hbk
            exact e (st.inj k id o _ gg hk hlv hH rfl hbk (by rw [d1]; rfl)))
        (fun j c hj => by
          simp only [AV.cells, Nat.zero_add] at hj ⊢
          obtain ⟨u, h1, h2, h3, _, _⟩ := hcell j c hj
          rw [List.getD_eq_getElem?_getD, h1]
          exact ⟨h2, h3⟩)
        (fun j c hj => by
          simp only [AV.cells, Nat.zero_add] at hj
          obtain ⟨u, h1, _, _, h4, _⟩ := hcell j c hj
          rw [List.getD_eq_getElem?_getD, h1]
          exact h4.le le)
      simpa using hv
  refine h B X w0 w _ a g st' ⟨eo.size, eo.defers, fun k hk => ?_, fun k hk => ?_⟩
  · by_cases e : k = t
    · subst e; simp only [upd, if_true]; exact hslot _ (eo.slot k hk)
    · simp only [upd, if_neg e]; exact (eo.slot k hk).le le
  · by_cases e : k = t
    · subst e; simp only [upd, if_true]; exact hslot _ (eo.ghost k hk)
    · simp only [upd, if_neg e]; exact (eo.ghost k hk).le le
end
theorem arK_of {α : Type} {f : α → AV} {xs : List α} {m : Nat} {u : Unit} {K : Prop} (h : chk (decide (xs.length = m)) = some u) (hf : ∀ x, (f x).cells = [f x]) (k : K) : @ArK (some m) (List.map f xs) ⟨K⟩ := by
  refine ⟨?_, ?_, k⟩
  · have := chk_prop h
    simp [this]
  · intro x hx
    obtain ⟨y, _, rfl⟩ := List.mem_map.1 hx
    exact hf y
theorem cl_map {α : Type} {f : α → AV} {xs : List α} (h : ∀ x, (f x).closed = true ∧ (f x).cells = [f x]) : ∀ x ∈ List.map f xs, x.closed = true ∧ x.cells = [x] := by
  intro x hx
  obtain ⟨y, _, rfl⟩ := List.mem_map.1 hx
  exact h y
theorem ce_map {α : Type} {f : α → AV} {xs : List α} (h : ∀ x, (f x).cells = [f x]) : ∀ x ∈ List.map f xs, x.cells = [x] := by
  intro x hx
  obtain ⟨y, _, rfl⟩ := List.mem_map.1 hx
  exact h y
end Go.Av
