/- What the library's number formatting leans on, told as contracts of Av. -/
import Derived.Test.YtcikflhenbpdiaaDoorLibL
import Derived.Lib.Walk
import Derived.Lib.BitFns
namespace Go.Proofs.YtcikflhenbpdiaaDoor
open Go.Av Go.RowKit Go.Lib
/-- of sixteen alone -/
def tzX (n : Int) : Option Int := if n = 16 then some 4 else none
set_option maxRecDepth 100000 in
set_option maxHeartbeats 2000000 in
theorem tz64 (w : World) (h : TabB w 3 .u8 dbTab) : Calls Tryd.prog 78 #[.int .u64 16] w fun e w' => e = .returned (.int .i64 4) ∧ w' = w := by
  have hcell : w.cell? ⟨3, 15, none⟩ = some (.int .u8 4) := by
    obtain ⟨t, fz, h⟩ := h
    simp [World.cell?, h, dbTab]
  have e15 : IntKind.u64.wrap (bits BinOp.and IntKind.u64 16 (IntKind.u64.wrap (-16)) * 285870213051353865) / 288230376151711744 = 15 := by decide +kernel
  have mixed : Tryd.prog.follows .mixedOrders = true := by kernel_rfl
  have t1 := Tryd.underlying64; have a1 := Tryd.isAgg64; have z1 := Tryd.sizeOf64; have v1 := Tryd.zeroValue64
  have t2 := Tryd.underlying115; have a2 := Tryd.isAgg115; have z2 := Tryd.sizeOf115; have v2 := Tryd.zeroValue115
  have t3 := Tryd.underlying3; have a3 := Tryd.isAgg3; have z3 := Tryd.sizeOf3; have v3 := Tryd.zeroValue3
  have t4 := Tryd.underlying4; have a4 := Tryd.isAgg4; have z4 := Tryd.sizeOf4; have v4 := Tryd.zeroValue4
  have t5 := Tryd.underlying5; have a5 := Tryd.isAgg5; have z5 := Tryd.sizeOf5; have v5 := Tryd.zeroValue5
  have t6 := Tryd.underlying86; have a6 := Tryd.isAgg86; have z6 := Tryd.sizeOf86; have v6 := Tryd.zeroValue86
  go_enter Tryd.func78, Tryd.ntmps78
  go_wp2
  all_goals go_ret
  all_goals exact ⟨rfl, rfl⟩
theorem tzX_ok {n r : Int} (hP : tzX n = some r) : CallOK Tryd.prog 78 [.int .u64 n] (.int .i64 r) [] := by
  unfold tzX at hP
  split at hP
  · rename_i hc
    subst hc
    obtain rfl := Option.some.inj hP
    refine callOK_flat ⟨_, Tryd.func78, rfl, by decide⟩ rfl rfl fun w hw => ?_
    exact (tz64 w hw.2.2).mono fun e w' ⟨he, hb⟩ => ⟨by rw [he]; rfl, by rw [hb]; exact Gr.refl w⟩
  · cases hP
end Go.Proofs.YtcikflhenbpdiaaDoor
