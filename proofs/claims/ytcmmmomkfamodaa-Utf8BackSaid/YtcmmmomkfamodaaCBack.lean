/- Utf8Back: the statement of the plain form, out of the plain law. -/
import Derived.Deep.DeepHandedRow
import Derived.Lay
import Derived.Deep.DeepWitnessRowRef
import Derived.Test.YtcmmmomkfamodaaPBack
import Derived.Test.YtcmmmomkfamodaaRow
namespace Go.Proofs.Ytcmmmomkfamodaa.utf8BackAll
open Go.Av Go.ChangeShapes Go.WideShapes Go.ChangeAt Go.RowKit
set_option linter.unusedVariables false
theorem contract (H : Type) (enc : TypeId × Value → H) (W : World) (base : Nat) (args : Array Value) (ds gs : List (DataW H)) (before : List MemPlace)
    (hval : ∀ (j : Nat) t v, Try.f6.params[j]? = some t → args[j]? = some v → Value.okWide Try.prog W .any base t v)
    (hW : DataW.Whole enc Try.prog Try.f6.params.toList Rows.utf8BackSpec.vars false W args.toList ds gs before) (hZ : Wok (DataW.weightsEach Try.prog (Try.f6.params.toList ++ (OpenSpec.ofChange Rows.utf8BackSpec).bare.plain.varTypes Try.prog) (ds ++ gs))) :
    Calls Try.prog 6 args W fun e W' => ∃ v, e = .returned v ∧ Rows.utf8BackSpec.post enc Try.prog Try.f6 false true false false W args v W' := by
  have hW' := hW
  obtain ⟨p, q, hA, hV, rfl, hfz, hnd⟩ := hW
  rw [Try.params6] at hA hval hZ
  obtain ⟨v0, vs0, d0, ds0, p0, q0, hargs, rfl, rfl, h0, r0⟩ := trodAll_cons hA
  obtain ⟨v1, vs1, d1, ds1, p1, q1, rfl, rfl, rfl, h1, r1⟩ := trodAll_cons r0
  obtain ⟨rfl, rfl, rfl⟩ := trodAll_nil r1
  obtain rfl : args = #[v0, v1] := by cases args; simp_all
  obtain ⟨rfl, rfl⟩ := trodVars_none hV
  have hZ0 := hZ
  have hZ1 := (wt_cons hZ0).2
  obtain ⟨x0, V0, S0, R0⟩ := arg_of_rd (rd_slice Try.underlying26 (by kernel_rfl) (by decide +kernel) (rd_int Try.underlying21 (by kernel_rfl)) (bs := 4) (by kernel_rfl)) (by kernel_rfl) (fun _ => rfl) (hval 0 26 v0 rfl rfl) h0 (wt_cons hZ0).1
  obtain ⟨x1, V1, S1, R1⟩ := arg_of_rd (rd_u8 Try.underlying5 (by kernel_rfl)) (by kernel_rfl) (fun _ => rfl) (hval 1 5 v1 rfl rfl) h1 (wt_cons hZ1).1
  refine (step_of (law08_Utf8Back_ok (law_Utf8Back_all x0 x1 V0 V1 S0 S1)) rfl (fun i x v hx hv => ?_)).mono fun e W' ⟨he, hg⟩ => ?_
  · match i, hx, hv with
    | 0, hx, hv => simp at hx hv; subst hx hv; exact R0
    | 1, hx, hv => simp at hx hv; subst hx hv; exact R1
    | i + 2, hx, hv => simp at hx
  · subst he
    exact ⟨_, rfl, post_of_gr rfl (by rw [Try.params6]; intro t ht; simp at ht; rcases ht with rfl | rfl <;> exact ⟨by kernel_rfl, by decide +kernel⟩) hW' hg ⟨rfl, rfl⟩ (fun _ _ _ => trodAll_cons_mk (shut_bool Try.underlying4 _) trodAll_mk0) (ok_one (by kernel_rfl) rfl (okWide_bool_mk Try.underlying4 _))⟩
theorem own : ownKnob Try.prog.godebug = none := by kernel_rfl
noncomputable def laidWorld (os : Os) : World := World.laidAll Try.prog os Rows.utf8BackRow.laid
set_option maxRecDepth 100000 in
theorem laid_met (os : Os) : laidMet Try.prog Rows.utf8BackRow.laid ((laidWorld os).forCall (fun _ _ => 0) ⟨#[], #[.slice none 0 0, .int .u8 0], []⟩).memory :=
  laidMet_laidAll _ (by kernel_rfl) (by kernel_rfl)
theorem reads (os : Os) {H : Type} (enc : TypeId × Value → H) : ∃ places, DataW.whole enc Try.prog ((laidWorld os).forCall (fun _ _ => 0) ⟨#[], #[.slice none 0 0, .int .u8 0], []⟩).memory Try.f6.params.toList Rows.utf8BackSpec.vars false (#[.slice none 0 0, .int .u8 0] : Array Value).toList 8 = some ([.nil, .lit (.int .u8 0)], [], places) :=
  ⟨[], by kernel_rfl⟩
set_option maxRecDepth 100000 in
theorem lifted (os : Os) (started : os.Started) (H : Type) (enc : TypeId × Value → H) (F : Stop.Interp) :
    ReturnsInHanded {} Try.checked os 6 .any ((OpenSpec.ofChange Rows.utf8BackSpec).preRow enc Try.prog Try.f6 Rows.utf8BackRow.domain false Rows.utf8BackRow.laid) (((OpenSpec.ofChange Rows.utf8BackSpec).at F).post enc Try.prog Try.f6 false true false false) := by
  obtain ⟨places, hx⟩ := reads os enc
  refine returnsInHanded_of_row (C := Try.checked) (s := OpenSpec.ofChange Rows.utf8BackSpec) own started (by kernel_rfl) Try.func6
    (witness_row_atRef (enc := enc) (C := Try.checked) false (laidWorld os) #[.slice none 0 0, .int .u8 0] (World.laidAll_os _ _ _) (by kernel_rfl) (by kernel_rfl) (by kernel_rfl)
      (OpenSpec.preRow_of_cond 8 hx (by kernel_rfl) (fun k hk => by cases hk) (by kernel_rfl) (laid_met os))) ?_
  intro W base args ds gs before hval hW _ hcond hZ hL hS _
  exact contract H enc W base args ds gs before hval hW hZ
theorem proved : Rows.Utf8BackSaid :=
  OpenClaim.holds_of_cond 6 Try.f6 rfl rfl rfl rfl rfl rfl rfl ⟨rfl, rfl, rfl, rfl, rfl⟩ rfl rfl rfl rfl rfl (by kernel_rfl) Try.func6 (by kernel_rfl)
    (of_decide_eq_true (by kernel_rfl)) (by unfold Func.isWrapper; first | (rw [if_pos (by decide +kernel)]; kernel_rfl) | (rw [if_neg (by decide +kernel)]; exact ⟨rfl, rfl⟩))
    (fun os started H enc _ F => by rw [OpenClaim.pre_eq_preRow]; exact lifted os started H enc F)
end Go.Proofs.Ytcmmmomkfamodaa.utf8BackAll
