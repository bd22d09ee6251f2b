/- SniffMeta: the statement of the plain form, out of the plain law. -/
import Derived.Test.YtecpgelhhbbjmaaDoorGw
import Derived.Test.YtecpgelhhbbjmaaDoorCards
import Derived.Test.YtecpgelhhbbjmaaDoorTie
import Derived.Deep.DeepHandedRow
import Derived.Lay
import Derived.Deep.DeepWitnessRowRef
import Derived.Test.YtecpgelhhbbjmaaDoorP11Meta
import Derived.Test.YtecpgelhhbbjmaaDoorRow
namespace Go.Proofs.YtecpgelhhbbjmaaDoor.sniffMetaAll
open Go.Av Go.ChangeShapes Go.WideShapes Go.ChangeAt Go.RowKit
set_option linter.unusedVariables false
set_option maxRecDepth 100000 in
theorem contract (H : Type) (enc : TypeId × Value → H) (W : World) (base : Nat) (args : Array Value) (ds gs : List (DataW H)) (before : List MemPlace)
    (hval : ∀ (j : Nat) t v, Tryd.f8.params[j]? = some t → args[j]? = some v → Value.okWide Tryd.prog W .any base t v)
    (hW : DataW.Whole enc Tryd.prog Tryd.f8.params.toList Rows.sniffMetaSpec.vars false W args.toList ds gs before) (hZ : Wok (DataW.weightsEach Tryd.prog (Tryd.f8.params.toList ++ (OpenSpec.ofChange Rows.sniffMetaSpec).bare.plain.varTypes Tryd.prog) (ds ++ gs))) (hL : laidMetH Tryd.prog Rows.sniffMetaRow.laid W) (hS : W.ShapedOpen Tryd.prog) :
    Calls Tryd.prog 8 args W fun e W' => ∃ v, e = .returned v ∧ Rows.sniffMetaSpec.post enc Tryd.prog Tryd.f8 false true false false W args v W' := by
  have hW' := hW
  obtain ⟨p, q, hA, hV, rfl, hfz, hnd⟩ := hW
  rw [Tryd.params8] at hA hval hZ
  obtain ⟨v0, vs0, d0, ds0, p0, q0, hargs, rfl, rfl, h0, r0⟩ := trodAll_cons hA
  obtain ⟨v1, vs1, d1, ds1, p1, q1, rfl, rfl, rfl, h1, r1⟩ := trodAll_cons r0
  obtain ⟨v2, vs2, d2, ds2, p2, q2, rfl, rfl, rfl, h2, r2⟩ := trodAll_cons r1
  obtain ⟨v3, vs3, d3, ds3, p3, q3, rfl, rfl, rfl, h3, r3⟩ := trodAll_cons r2
  obtain ⟨v4, vs4, d4, ds4, p4, q4, rfl, rfl, rfl, h4, r4⟩ := trodAll_cons r3
  obtain ⟨rfl, rfl, rfl⟩ := trodAll_nil r4
  obtain rfl : args = #[v0, v1, v2, v3, v4] := by cases args; simp_all
  obtain ⟨rfl, rfl⟩ := trodVars_none hV
  have hZ0 := hZ
  have hZ1 := (wt_cons hZ0).2
  have hZ2 := (wt_cons hZ1).2
  have hZ3 := (wt_cons hZ2).2
  have hZ4 := (wt_cons hZ3).2
  obtain ⟨x0, V0, S0, R0⟩ := arg_of_rd (rd_str Tryd.underlying9 (by kernel_rfl)) (by kernel_rfl) (fun _ => rfl) (hval 0 9 v0 rfl rfl) h0 (wt_cons hZ0).1
  obtain ⟨x1, V1, S1, R1⟩ := arg_of_rd (rd_int Tryd.underlying3 (by kernel_rfl)) (by kernel_rfl) (fun _ => rfl) (hval 1 3 v1 rfl rfl) h1 (wt_cons hZ1).1
  obtain ⟨x2, V2, S2, R2⟩ := arg_of_rd (rd_int Tryd.underlying3 (by kernel_rfl)) (by kernel_rfl) (fun _ => rfl) (hval 2 3 v2 rfl rfl) h2 (wt_cons hZ2).1
  obtain ⟨x3, V3, S3, R3⟩ := arg_of_rd (rd_int Tryd.underlying3 (by kernel_rfl)) (by kernel_rfl) (fun _ => rfl) (hval 3 3 v3 rfl rfl) h3 (wt_cons hZ3).1
  obtain ⟨x4, V4, S4, R4⟩ := arg_of_rd (rd_int Tryd.underlying3 (by kernel_rfl)) (by kernel_rfl) (fun _ => rfl) (hval 4 3 v4 rfl rfl) h4 (wt_cons hZ4).1
  refine (step_of (law11_SniffMeta_ok (law_SniffMeta_all x0 x1 x2 x3 x4 V0 V1 V2 V3 V4 S0)) (gw_of hL (by kernel_rfl) (by kernel_rfl) hS) rfl (fun i x v hx hv => ?_)).mono fun e W' ⟨he, hg⟩ => ?_
  · match i, hx, hv with
    | 0, hx, hv => simp at hx hv; subst hx hv; exact R0
    | 1, hx, hv => simp at hx hv; subst hx hv; exact R1
    | 2, hx, hv => simp at hx hv; subst hx hv; exact R2
    | 3, hx, hv => simp at hx hv; subst hx hv; exact R3
    | 4, hx, hv => simp at hx hv; subst hx hv; exact R4
    | i + 5, hx, hv => simp at hx
  · subst he
    exact ⟨_, rfl, post_of_gr rfl (by rw [Tryd.params8]; intro t ht; simp at ht; first | (rcases ht with rfl | rfl | rfl | rfl | rfl <;> exact ⟨by kernel_rfl, by decide +kernel⟩) | (rcases ht with rfl | rfl | rfl | rfl <;> exact ⟨by kernel_rfl, by decide +kernel⟩) | (rcases ht with rfl | rfl | rfl <;> exact ⟨by kernel_rfl, by decide +kernel⟩) | (rcases ht with rfl | rfl <;> exact ⟨by kernel_rfl, by decide +kernel⟩) | (rcases ht with rfl <;> exact ⟨by kernel_rfl, by decide +kernel⟩)) hW' hg ⟨rfl, rfl⟩ (fun _ _ _ => trodAll_cons_mk (shut_bool Tryd.underlying4 _) trodAll_mk0) (ok_one (by kernel_rfl) rfl (okWide_bool_mk Tryd.underlying4 _))⟩
theorem own : ownKnob Tryd.prog.godebug = none := by kernel_rfl
noncomputable def laidWorld (os : Os) : World := World.laidAll Tryd.prog os Rows.sniffMetaRow.laid
set_option maxRecDepth 100000 in
theorem laid_met (os : Os) : laidMet Tryd.prog Rows.sniffMetaRow.laid ((laidWorld os).forCall (fun _ _ => 0) ⟨#[], #[.string .empty, .int .i64 0, .int .i64 0, .int .i64 0, .int .i64 0], []⟩).memory :=
  laidMet_laidAll _ (by kernel_rfl) (by kernel_rfl)
theorem reads (os : Os) {H : Type} (enc : TypeId × Value → H) : ∃ places, DataW.whole enc Tryd.prog ((laidWorld os).forCall (fun _ _ => 0) ⟨#[], #[.string .empty, .int .i64 0, .int .i64 0, .int .i64 0, .int .i64 0], []⟩).memory Tryd.f8.params.toList Rows.sniffMetaSpec.vars false (#[.string .empty, .int .i64 0, .int .i64 0, .int .i64 0, .int .i64 0] : Array Value).toList 8 = some ([.lit (.string []), .lit (.int .i64 0), .lit (.int .i64 0), .lit (.int .i64 0), .lit (.int .i64 0)], [], places) :=
  ⟨[], by kernel_rfl⟩
set_option maxRecDepth 100000 in
theorem lifted (os : Os) (started : os.Started) (H : Type) (enc : TypeId × Value → H) (F : Stop.Interp) :
    ReturnsInHanded {} Tryd.checked os 8 .any ((OpenSpec.ofChange Rows.sniffMetaSpec).preRow enc Tryd.prog Tryd.f8 Rows.sniffMetaRow.domain false Rows.sniffMetaRow.laid) (((OpenSpec.ofChange Rows.sniffMetaSpec).at F).post enc Tryd.prog Tryd.f8 false true false false) := by
  obtain ⟨places, hx⟩ := reads os enc
  refine returnsInHanded_of_row (C := Tryd.checked) (s := OpenSpec.ofChange Rows.sniffMetaSpec) own started (by kernel_rfl) Tryd.func8
    (witness_row_atRef (enc := enc) (C := Tryd.checked) false (laidWorld os) #[.string .empty, .int .i64 0, .int .i64 0, .int .i64 0, .int .i64 0] (World.laidAll_os _ _ _) (by kernel_rfl) (by kernel_rfl) (by kernel_rfl)
      (OpenSpec.preRow_of_cond 8 hx (by kernel_rfl) (fun k hk => by cases hk) (by kernel_rfl) (laid_met os))) ?_
  intro W base args ds gs before hval hW _ hcond hZ hL hS _
  exact contract H enc W base args ds gs before hval hW hZ hL hS
theorem saidUpto : Rows.SniffMetaSaid :=
  OpenClaim.holds_of_cond 8 Tryd.f8 rfl rfl rfl rfl rfl rfl rfl ⟨rfl, rfl, rfl, rfl, rfl⟩ rfl rfl rfl rfl rfl (by kernel_rfl) Tryd.func8 (by kernel_rfl)
    (of_decide_eq_true (by kernel_rfl)) (by unfold Func.isWrapper; first | (rw [if_pos (by decide +kernel)]; kernel_rfl) | (rw [if_neg (by decide +kernel)]; exact ⟨rfl, rfl⟩))
    (fun os started H enc _ F => by rw [OpenClaim.pre_eq_preRow]; exact lifted os started H enc F)
theorem plain (f : FuncId) (fn : Func) (hf : Tryd.pinned.checked.prog.funcNamed Rows.sniffMetaRow.func = some f) (hfn : Tryd.pinned.checked.prog.funcs[f]? = some fn) :
    true = Tryd.pinned.checked.prog.looks [] ∧ ∀ (j : Nat) t, fn.params[j]? = some t → Tryd.pinned.checked.prog.wantsStandIn t = false := by
  obtain rfl : f = 8 := Option.some.inj ((show Tryd.prog.funcNamed Rows.sniffMetaRow.func = some 8 by kernel_rfl).symm.trans hf) |>.symm
  obtain rfl : fn = Tryd.f8 := (Option.some.inj (Tryd.func8.symm.trans hfn)).symm
  refine ⟨by kernel_rfl, fun j t ht => ?_⟩
  rw [Tryd.params8] at ht
  have hm := Array.mem_toList_iff.2 (Array.mem_of_getElem? ht)
  have hall : (([9, 3, 3, 3, 3] : List TypeId).all fun t => !Tryd.prog.wantsStandIn t) = true := by kernel_rfl
  have := List.all_eq_true.1 hall t hm
  exact (show Tryd.prog.wantsStandIn t = false by simpa using this)
theorem proved : Rows.SniffMetaCardSaid :=
  Claim7.holds_tied_plain_at .later [] _ _ _ _ saidUpto (fun _ h => by cases h) (by kernel_rfl) (fun _ h => by cases h) sniffMeta_row_tie rfl ⟨rfl, rfl⟩ (by kernel_rfl) rfl plain (by kernel_rfl)
end Go.Proofs.YtecpgelhhbbjmaaDoor.sniffMetaAll
