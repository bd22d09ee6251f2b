/- strings.IndexAny: by the shelf's contract, or by its own text. -/
import Derived.Test.YtecpgelhhbbjmaaDoorGP
namespace Go.Proofs.YtecpgelhhbbjmaaDoor
open Go.Av Go.RowKit
def indexAnyY (s cut : List UInt8) : Option Int := match indexAnyX s cut with
  | some r => some r
  | none => strings_IndexAny s cut
theorem indexAnyY_ok {s cut : List UInt8} {r : Int} (hP : indexAnyY s cut = some r) : CallOK Tryd.prog 31 [.str s, .str cut] (.int .i64 r) [] := by
  unfold indexAnyY at hP
  rcases h : indexAnyX s cut with _ | q
  · rw [h] at hP; exact strings_IndexAny_ok hP
  · rw [h] at hP; obtain rfl := Option.some.inj hP; exact indexAnyX_ok h
end Go.Proofs.YtecpgelhhbbjmaaDoor
