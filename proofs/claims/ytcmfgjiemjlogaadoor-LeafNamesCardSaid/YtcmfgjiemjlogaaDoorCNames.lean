/- LeafNames: the statement of the plain form, out of the plain law. -/
import Derived.Test.YtcmfgjiemjlogaaDoorCards
import Derived.Test.YtcmfgjiemjlogaaDoorTie
import Derived.Deep.DeepHandedRow
import Derived.Test.YtcmfgjiemjlogaaDoorQNames
import Derived.Test.YtcmfgjiemjlogaaDoorRow
namespace Go.Proofs.YtcmfgjiemjlogaaDoor.leafNamesAll
open Go.Av Go.ChangeShapes Go.WideShapes Go.ChangeAt Go.RowKit
set_option linter.unusedVariables false
theorem contract (H : Type) (enc : TypeId × Value → H) (W : World) (base : Nat) (args : Array Value) (ds gs : List (DataW H)) (before : List MemPlace)
    (hval : ∀ (j : Nat) t v, Tryd.f5.params[j]? = some t → args[j]? = some v → Value.okWide Tryd.prog W .any base t v)
    (hW : DataW.Whole enc Tryd.prog Tryd.f5.params.toList Rows.leafNamesSpec.vars false W args.toList ds gs before) (hL : laidMetH Tryd.prog Rows.leafNamesRow.laid W) (hS : W.ShapedOpen Tryd.prog) :
    Calls Tryd.prog 5 args W fun e W' => ∃ v, e = .returned v ∧ Rows.leafNamesSpec.post enc Tryd.prog Tryd.f5 false true false false W args v W' := by
  have hW' := hW
  obtain ⟨p, q, hA, hV, rfl, hfz, hnd⟩ := hW
  rw [Tryd.params5] at hA hval
  obtain ⟨v0, vs0, d0, ds0, p0, q0, hargs, rfl, rfl, h0, r0⟩ := trodAll_cons hA
  obtain ⟨v1, vs1, d1, ds1, p1, q1, rfl, rfl, rfl, h1, r1⟩ := trodAll_cons r0
  obtain ⟨v2, vs2, d2, ds2, p2, q2, rfl, rfl, rfl, h2, r2⟩ := trodAll_cons r1
  obtain ⟨v3, vs3, d3, ds3, p3, q3, rfl, rfl, rfl, h3, r3⟩ := trodAll_cons r2
  obtain ⟨rfl, rfl, rfl⟩ := trodAll_nil r3
  obtain rfl : args = #[v0, v1, v2, v3] := by cases args; simp_all
  obtain ⟨rfl, rfl⟩ := trodVars_none hV
  obtain ⟨x0, V0, m0, R0⟩ := arg_of_rd (rd_int Tryd.underlying3 (by kernel_rfl)) (by kernel_rfl) (fun _ => rfl) (hval 0 3 v0 rfl rfl) h0
  obtain ⟨x1, V1, m1, R1⟩ := arg_of_rd (rd_slice Tryd.underlying33 (by kernel_rfl) (by decide +kernel) (rd_bool Tryd.underlying4 (by kernel_rfl))) (by kernel_rfl) (fun _ => rfl) (hval 1 33 v1 rfl rfl) h1
  obtain ⟨x2, V2, m2, R2⟩ := arg_of_rd (rd_int Tryd.underlying3 (by kernel_rfl)) (by kernel_rfl) (fun _ => rfl) (hval 2 3 v2 rfl rfl) h2
  obtain ⟨x3, V3, m3, R3⟩ := arg_of_rd (rd_int Tryd.underlying3 (by kernel_rfl)) (by kernel_rfl) (fun _ => rfl) (hval 3 3 v3 rfl rfl) h3
  refine (step_of (law09_LeafNames_ok (law_LeafNames_all x0 x1 x2 x3 V0 V1 V2 V3)) trivial rfl (fun i x v hx hv => ?_)).mono fun e W' ⟨he, hg⟩ => ?_
  · match i, hx, hv with
    | 0, hx, hv => simp at hx hv; subst hx hv; exact R0
    | 1, hx, hv => simp at hx hv; subst hx hv; exact R1
    | 2, hx, hv => simp at hx hv; subst hx hv; exact R2
    | 3, hx, hv => simp at hx hv; subst hx hv; exact R3
    | i + 4, hx, hv => simp at hx
  · subst he
    exact ⟨_, rfl, post_of_gr rfl (by rw [Tryd.params5]; intro t ht; simp at ht; first | (rcases ht with rfl | rfl | rfl | rfl <;> exact ⟨by kernel_rfl, by decide +kernel⟩) | (rcases ht with rfl | rfl | rfl <;> exact ⟨by kernel_rfl, by decide +kernel⟩) | (rcases ht with rfl | rfl <;> exact ⟨by kernel_rfl, by decide +kernel⟩) | (rcases ht with rfl <;> exact ⟨by kernel_rfl, by decide +kernel⟩)) hW' hg ⟨rfl, rfl⟩ (fun _ _ _ => trodAll_cons_mk (shut_bool Tryd.underlying4 _) trodAll_mk0) (ok_one (by kernel_rfl) rfl (okWide_bool_mk Tryd.underlying4 _))⟩
def litD : Lit → Value
  | .int k n => .int k n
  | .bool b => .bool b
  | _ => undef
mutual
def cellsD {H : Type} : DataW H → List Value
  | .lit l => [litD l]
  | .agg ds => cellsDs ds
  | _ => []
def cellsDs {H : Type} : List (DataW H) → List Value
  | [] => []
  | d :: r => cellsD d ++ cellsDs r
end
def layAt (k : Nat) (cs : List Value) (w : World) : World :=
  { w with heap := w.heap.modify k fun
      | .cells _ t frozen => .cells cs.toArray t frozen
      | o => o }
theorem own : ownKnob Tryd.prog.godebug = none := by kernel_rfl
noncomputable def laidWorld (os : Os) : World := layAt 0 (cellsD (Go.Pinned.utf8First)) (layAt 1 (cellsD (H := Unit) (Rows.laid_unicode_utf8_acceptRanges)) (World.holding Tryd.prog os ⟨#[], #[], []⟩))
set_option maxRecDepth 100000 in
theorem laid_met (os : Os) : laidMet Tryd.prog Rows.leafNamesRow.laid ((laidWorld os).forCall (fun _ _ => 0) ⟨#[], #[.int .i64 0, .slice none 0 0, .int .i64 0, .int .i64 0], []⟩).memory :=
  laidMet_of_run' 8 (by kernel_rfl) (by kernel_rfl)
theorem reads (os : Os) {H : Type} (enc : TypeId × Value → H) : ∃ places, DataW.whole enc Tryd.prog ((laidWorld os).forCall (fun _ _ => 0) ⟨#[], #[.int .i64 0, .slice none 0 0, .int .i64 0, .int .i64 0], []⟩).memory Tryd.f5.params.toList Rows.leafNamesSpec.vars false (#[.int .i64 0, .slice none 0 0, .int .i64 0, .int .i64 0] : Array Value).toList 8 = some ([.lit (.int .i64 0), .nil, .lit (.int .i64 0), .lit (.int .i64 0)], [], places) :=
  ⟨[], by kernel_rfl⟩
set_option maxRecDepth 100000 in
theorem lifted (os : Os) (started : os.Started) (H : Type) (enc : TypeId × Value → H) (F : Stop.Interp) :
    ReturnsInHanded {} Tryd.checked os 5 .any ((OpenSpec.ofChange Rows.leafNamesSpec).preRow enc Tryd.prog Tryd.f5 Rows.leafNamesRow.domain false Rows.leafNamesRow.laid) (((OpenSpec.ofChange Rows.leafNamesSpec).at F).post enc Tryd.prog Tryd.f5 false true false false) := by
  obtain ⟨places, hx⟩ := reads os enc
  refine returnsInHanded_of_row (C := Tryd.checked) (s := OpenSpec.ofChange Rows.leafNamesSpec) own started (by kernel_rfl) Tryd.func5
    (witness_row_at (enc := enc) (C := Tryd.checked) false (laidWorld os) #[.int .i64 0, .slice none 0 0, .int .i64 0, .int .i64 0] rfl (by kernel_rfl) (by kernel_rfl) (by kernel_rfl)
      (OpenSpec.preRow_of_cond 8 hx (by kernel_rfl) (fun k hk => by cases hk) (by kernel_rfl) (laid_met os))) ?_
  intro W base args ds gs before hval hW _ hcond _ hL hS _
  exact contract H enc W base args ds gs before hval hW hL hS
theorem saidUpto : Rows.LeafNamesSaid :=
  OpenClaim.holds_of_cond 5 Tryd.f5 rfl rfl rfl rfl rfl rfl rfl ⟨rfl, rfl, rfl, rfl, rfl⟩ rfl rfl rfl rfl rfl (by kernel_rfl) Tryd.func5 (by kernel_rfl)
    (of_decide_eq_true (by kernel_rfl)) (by unfold Func.isWrapper; first | (rw [if_pos (by decide +kernel)]; kernel_rfl) | (rw [if_neg (by decide +kernel)]; exact ⟨rfl, rfl⟩))
    (fun os started H enc _ F => by rw [OpenClaim.pre_eq_preRow]; exact lifted os started H enc F)
theorem plain (f : FuncId) (fn : Func) (hf : Tryd.pinned.checked.prog.funcNamed Rows.leafNamesRow.func = some f) (hfn : Tryd.pinned.checked.prog.funcs[f]? = some fn) :
    false = Tryd.pinned.checked.prog.looks [] ∧ ∀ (j : Nat) t, fn.params[j]? = some t → Tryd.pinned.checked.prog.wantsStandIn t = false := by
  obtain rfl : f = 5 := Option.some.inj ((show Tryd.prog.funcNamed Rows.leafNamesRow.func = some 5 by kernel_rfl).symm.trans hf) |>.symm
  obtain rfl : fn = Tryd.f5 := (Option.some.inj (Tryd.func5.symm.trans hfn)).symm
  refine ⟨by kernel_rfl, fun j t ht => ?_⟩
  rw [Tryd.params5] at ht
  have hm := Array.mem_toList_iff.2 (Array.mem_of_getElem? ht)
  have hall : (([3, 33, 3, 3] : List TypeId).all fun t => !Tryd.prog.wantsStandIn t) = true := by kernel_rfl
  have := List.all_eq_true.1 hall t hm
  exact (show Tryd.prog.wantsStandIn t = false by simpa using this)
theorem proved : Rows.LeafNamesCardSaid :=
  Claim7.holds_tied_plain_at .later [] _ _ _ _ saidUpto (fun _ h => by cases h) (by kernel_rfl) (fun _ h => by cases h) leafNames_row_tie rfl ⟨rfl, rfl⟩ (by kernel_rfl) rfl plain (by kernel_rfl)
end Go.Proofs.YtcmfgjiemjlogaaDoor.leafNamesAll
