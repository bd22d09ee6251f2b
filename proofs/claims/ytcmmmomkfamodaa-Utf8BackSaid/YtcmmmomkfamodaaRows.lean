/-
  No cell of these rows narrows 'for every input' (looked for: loops, veiled, ifaces, maps, wideKeys, modest, calm, conditions, laid).
  DERIVED. THE GIVEN ROWS OF THIS SEAT. 8 by the template 'for every input the law returns true; each argument reads behind the call as it read before'; 0 by the template 'total and deterministic' (their statements: YtcmmmomkfamodaaTotals.lean).
  GIVEN WITH THE SEED: the statements are not yours to turn. If you find one false, say at which input.
  Laid BY PROGRAM, IN A SANDBOX (cutbox-rows.mjs): the forced cells as the released guide's own fill.sh prints them over the translation f79b2a665c27e8a7… (all of the seat's roots in one cut). By AI agents, Wed Nov 11 2026. No macro, syntax, notation, axiom, sorry.
-/
import Derived.Test.YtcmmmomkfamodaaChecked
import GoSem.Claim
import GoSem.ClaimJoined
import GoSem.ClaimMapViews
import Derived.JoinedTies
import Derived.KernelRfl
namespace Go.Proofs.Ytcmmmomkfamodaa
/- THE CELL 'sum', in the pinned program and in every row, IS THE sha256 OF THE DUMP (.gsa) THAT YtcmmmomkfamodaaProg.lean LOADS. Nothing in Lean hashes anything: it is a label: what it is worth is what the hold of that sum in a sandbox is worth. -/
noncomputable def Try.pinned : Pinned := { name := "ytcmmmomkfamodaa", sum := "f79b2a665c27e8a71f9d73a57a68b95144ca319eaa1e5d23b6e29d0c9a60181e", checked := Try.checked }
namespace Rows
def none {H : Type} : Left H := { results := [], args := [] }

/-- 'colanderlaw08.Utf8Decodes': WHATEVER THE INPUT: true; the input reads as it did. -/
def utf8DecodesSpec : ChangeSpec := { name := "utf8Decodes", fn := fun _ => fun
  | [d] => { results := [.lit (.bool true)], args := [d] }
  | _ => none }
def utf8DecodesRow : OpenClaim := { program := "ytcmmmomkfamodaa", sum := "f79b2a665c27e8a71f9d73a57a68b95144ca319eaa1e5d23b6e29d0c9a60181e", func := "colander/colanderlaw08.Utf8Decodes", spec := "utf8Decodes", inPlace := ["internal/abi.NoEscape"], apart := false }
def Utf8DecodesSaid : Prop := utf8DecodesRow.holds Try.pinned (OpenSpec.ofChange utf8DecodesSpec)

/-- ITS FALSE NEIGHBOUR: 'it returns false'. Refute it at one input. -/
def utf8DecodesWrong : ChangeSpec := { name := "utf8Decodes", fn := fun _ => fun
  | [d] => { results := [.lit (.bool false)], args := [d] }
  | _ => none }
def Utf8DecodesWrongFalsely : Prop := utf8DecodesRow.holds Try.pinned (OpenSpec.ofChange utf8DecodesWrong)

/-- 'colanderlaw08.Utf8Encodes': WHATEVER THE INPUT: true; the input reads as it did. -/
def utf8EncodesSpec : ChangeSpec := { name := "utf8Encodes", fn := fun _ => fun
  | [d] => { results := [.lit (.bool true)], args := [d] }
  | _ => none }
def utf8EncodesRow : OpenClaim := { program := "ytcmmmomkfamodaa", sum := "f79b2a665c27e8a71f9d73a57a68b95144ca319eaa1e5d23b6e29d0c9a60181e", func := "colander/colanderlaw08.Utf8Encodes", spec := "utf8Encodes", inPlace := ["internal/abi.NoEscape"], apart := false }
def Utf8EncodesSaid : Prop := utf8EncodesRow.holds Try.pinned (OpenSpec.ofChange utf8EncodesSpec)

/-- ITS FALSE NEIGHBOUR: 'it returns false'. Refute it at one input. -/
def utf8EncodesWrong : ChangeSpec := { name := "utf8Encodes", fn := fun _ => fun
  | [d] => { results := [.lit (.bool false)], args := [d] }
  | _ => none }
def Utf8EncodesWrongFalsely : Prop := utf8EncodesRow.holds Try.pinned (OpenSpec.ofChange utf8EncodesWrong)

/-- 'colanderlaw08.Utf8Whole': WHATEVER THE INPUT: true; the input reads as it did. -/
def utf8WholeSpec : ChangeSpec := { name := "utf8Whole", fn := fun _ => fun
  | [d] => { results := [.lit (.bool true)], args := [d] }
  | _ => none }
def utf8WholeRow : OpenClaim := { program := "ytcmmmomkfamodaa", sum := "f79b2a665c27e8a71f9d73a57a68b95144ca319eaa1e5d23b6e29d0c9a60181e", func := "colander/colanderlaw08.Utf8Whole", spec := "utf8Whole", inPlace := ["internal/abi.NoEscape"], apart := false }
def Utf8WholeSaid : Prop := utf8WholeRow.holds Try.pinned (OpenSpec.ofChange utf8WholeSpec)

/-- ITS FALSE NEIGHBOUR: 'it returns false'. Refute it at one input. -/
def utf8WholeWrong : ChangeSpec := { name := "utf8Whole", fn := fun _ => fun
  | [d] => { results := [.lit (.bool false)], args := [d] }
  | _ => none }
def Utf8WholeWrongFalsely : Prop := utf8WholeRow.holds Try.pinned (OpenSpec.ofChange utf8WholeWrong)

/-- 'colanderlaw08.Utf8Back': WHATEVER THE INPUT: true; the input reads as it did. -/
def utf8BackSpec : ChangeSpec := { name := "utf8Back", fn := fun _ => fun
  | [d1, d2] => { results := [.lit (.bool true)], args := [d1, d2] }
  | _ => none }
def utf8BackRow : OpenClaim := { program := "ytcmmmomkfamodaa", sum := "f79b2a665c27e8a71f9d73a57a68b95144ca319eaa1e5d23b6e29d0c9a60181e", func := "colander/colanderlaw08.Utf8Back", spec := "utf8Back", inPlace := ["internal/abi.NoEscape"], apart := false }
def Utf8BackSaid : Prop := utf8BackRow.holds Try.pinned (OpenSpec.ofChange utf8BackSpec)

/-- ITS FALSE NEIGHBOUR: 'it returns false'. Refute it at one input. -/
def utf8BackWrong : ChangeSpec := { name := "utf8Back", fn := fun _ => fun
  | [d1, d2] => { results := [.lit (.bool false)], args := [d1, d2] }
  | _ => none }
def Utf8BackWrongFalsely : Prop := utf8BackRow.holds Try.pinned (OpenSpec.ofChange utf8BackWrong)

/-- 'colanderlaw08.Utf8Joins': WHATEVER THE INPUT: true; the input reads as it did. -/
def utf8JoinsSpec : ChangeSpec := { name := "utf8Joins", fn := fun _ => fun
  | [d1, d2] => { results := [.lit (.bool true)], args := [d1, d2] }
  | _ => none }
def utf8JoinsRow : OpenClaim := { program := "ytcmmmomkfamodaa", sum := "f79b2a665c27e8a71f9d73a57a68b95144ca319eaa1e5d23b6e29d0c9a60181e", func := "colander/colanderlaw08.Utf8Joins", spec := "utf8Joins", inPlace := ["internal/abi.NoEscape"], apart := false }
def Utf8JoinsSaid : Prop := utf8JoinsRow.holds Try.pinned (OpenSpec.ofChange utf8JoinsSpec)

/-- ITS FALSE NEIGHBOUR: 'it returns false'. Refute it at one input. -/
def utf8JoinsWrong : ChangeSpec := { name := "utf8Joins", fn := fun _ => fun
  | [d1, d2] => { results := [.lit (.bool false)], args := [d1, d2] }
  | _ => none }
def Utf8JoinsWrongFalsely : Prop := utf8JoinsRow.holds Try.pinned (OpenSpec.ofChange utf8JoinsWrong)

/-- 'colanderlaw08.Utf8Many': WHATEVER THE INPUT: true; the input reads as it did. -/
def utf8ManySpec : ChangeSpec := { name := "utf8Many", fn := fun _ => fun
  | [d] => { results := [.lit (.bool true)], args := [d] }
  | _ => none }
def utf8ManyRow : OpenClaim := { program := "ytcmmmomkfamodaa", sum := "f79b2a665c27e8a71f9d73a57a68b95144ca319eaa1e5d23b6e29d0c9a60181e", func := "colander/colanderlaw08.Utf8Many", spec := "utf8Many", inPlace := ["internal/abi.NoEscape"], apart := false }
def Utf8ManySaid : Prop := utf8ManyRow.holds Try.pinned (OpenSpec.ofChange utf8ManySpec)

/-- ITS FALSE NEIGHBOUR: 'it returns false'. Refute it at one input. -/
def utf8ManyWrong : ChangeSpec := { name := "utf8Many", fn := fun _ => fun
  | [d] => { results := [.lit (.bool false)], args := [d] }
  | _ => none }
def Utf8ManyWrongFalsely : Prop := utf8ManyRow.holds Try.pinned (OpenSpec.ofChange utf8ManyWrong)

/-- 'colanderlaw08.Utf8Feeds': WHATEVER THE INPUT: true; the input reads as it did. -/
def utf8FeedsSpec : ChangeSpec := { name := "utf8Feeds", fn := fun _ => fun
  | [d1, d2] => { results := [.lit (.bool true)], args := [d1, d2] }
  | _ => none }
def utf8FeedsRow : OpenClaim := { program := "ytcmmmomkfamodaa", sum := "f79b2a665c27e8a71f9d73a57a68b95144ca319eaa1e5d23b6e29d0c9a60181e", func := "colander/colanderlaw08.Utf8Feeds", spec := "utf8Feeds", inPlace := ["internal/abi.NoEscape"], apart := false }
def Utf8FeedsSaid : Prop := utf8FeedsRow.holds Try.pinned (OpenSpec.ofChange utf8FeedsSpec)

/-- ITS FALSE NEIGHBOUR: 'it returns false'. Refute it at one input. -/
def utf8FeedsWrong : ChangeSpec := { name := "utf8Feeds", fn := fun _ => fun
  | [d1, d2] => { results := [.lit (.bool false)], args := [d1, d2] }
  | _ => none }
def Utf8FeedsWrongFalsely : Prop := utf8FeedsRow.holds Try.pinned (OpenSpec.ofChange utf8FeedsWrong)

/-- 'colanderlaw08.Utf8Pieces': WHATEVER THE INPUT: true; the input reads as it did. -/
def utf8PiecesSpec : ChangeSpec := { name := "utf8Pieces", fn := fun _ => fun
  | [d1, d2] => { results := [.lit (.bool true)], args := [d1, d2] }
  | _ => none }
def utf8PiecesRow : OpenClaim := { program := "ytcmmmomkfamodaa", sum := "f79b2a665c27e8a71f9d73a57a68b95144ca319eaa1e5d23b6e29d0c9a60181e", func := "colander/colanderlaw08.Utf8Pieces", spec := "utf8Pieces", inPlace := ["internal/abi.NoEscape"], apart := false }
def Utf8PiecesSaid : Prop := utf8PiecesRow.holds Try.pinned (OpenSpec.ofChange utf8PiecesSpec)

/-- ITS FALSE NEIGHBOUR: 'it returns false'. Refute it at one input. -/
def utf8PiecesWrong : ChangeSpec := { name := "utf8Pieces", fn := fun _ => fun
  | [d1, d2] => { results := [.lit (.bool false)], args := [d1, d2] }
  | _ => none }
def Utf8PiecesWrongFalsely : Prop := utf8PiecesRow.holds Try.pinned (OpenSpec.ofChange utf8PiecesWrong)

/- THE SECOND FORM. 'bulk': how many values and letters a reading holds, each counted each time it is reached (what is shared counts as often as it is met; a slice's spare places count too). A statement '..UptoSaid' is the law's where the arguments, and the package variables that the reading takes, are together of bulk at most 1048576: NARROWER than '..Said'. Prove '..Said' where nothing that the law and all that it calls make is longer than what came in: it says more and counts as full. Else prove '..UptoSaid'. A law counts once. -/
mutual
def uptoBulk {H : Type} : DataW H → Nat
  | .lit (.string bytes) => bytes.length + 1
  | .lit _ => 1
  | .nil => 1
  | .ptr d => uptoBulk d + 1
  | .slice elems spare => uptoBulkAll elems + uptoBulkAll spare + 1
  | .agg parts => uptoBulkAll parts + 1
  | .iface _ d => uptoBulk d + 1
  | .map entries => uptoBulkEntries entries + 1
  | .held _ => 1
def uptoBulkAll {H : Type} : List (DataW H) → Nat
  | [] => 0
  | d :: r => uptoBulk d + uptoBulkAll r
def uptoBulkEntries {H : Type} : List (Lit × DataW H) → Nat
  | [] => 0
  | x :: r => uptoBulkEntry x + uptoBulkEntries r
def uptoBulkEntry {H : Type} : Lit × DataW H → Nat
  | (.string bytes, d) => bytes.length + uptoBulk d + 1
  | (_, d) => uptoBulk d + 1
 end
def uptoSmall : (H : Type) → List (DataW H) → Bool := fun _ ds => decide (uptoBulkAll ds ≤ 1048576)
def OpenSpec.upto (s : _root_.Go.ChangeSpec) : _root_.Go.OpenSpec := { _root_.Go.OpenSpec.ofChange s with cond := some uptoSmall }

/-- 'colanderlaw08.Utf8Decodes', WHERE WHAT IT READS IS OF BULK AT MOST 1048576: true; the input reads as it did. -/
def utf8DecodesUptoRow : OpenClaim := { program := "ytcmmmomkfamodaa", sum := "f79b2a665c27e8a71f9d73a57a68b95144ca319eaa1e5d23b6e29d0c9a60181e", func := "colander/colanderlaw08.Utf8Decodes", spec := "utf8Decodes", inPlace := ["internal/abi.NoEscape"], apart := false, narrowed := true }
def Utf8DecodesUptoSaid : Prop := utf8DecodesUptoRow.holds Try.pinned (OpenSpec.upto utf8DecodesSpec)

/-- 'colanderlaw08.Utf8Encodes', WHERE WHAT IT READS IS OF BULK AT MOST 1048576: true; the input reads as it did. -/
def utf8EncodesUptoRow : OpenClaim := { program := "ytcmmmomkfamodaa", sum := "f79b2a665c27e8a71f9d73a57a68b95144ca319eaa1e5d23b6e29d0c9a60181e", func := "colander/colanderlaw08.Utf8Encodes", spec := "utf8Encodes", inPlace := ["internal/abi.NoEscape"], apart := false, narrowed := true }
def Utf8EncodesUptoSaid : Prop := utf8EncodesUptoRow.holds Try.pinned (OpenSpec.upto utf8EncodesSpec)

/-- 'colanderlaw08.Utf8Whole', WHERE WHAT IT READS IS OF BULK AT MOST 1048576: true; the input reads as it did. -/
def utf8WholeUptoRow : OpenClaim := { program := "ytcmmmomkfamodaa", sum := "f79b2a665c27e8a71f9d73a57a68b95144ca319eaa1e5d23b6e29d0c9a60181e", func := "colander/colanderlaw08.Utf8Whole", spec := "utf8Whole", inPlace := ["internal/abi.NoEscape"], apart := false, narrowed := true }
def Utf8WholeUptoSaid : Prop := utf8WholeUptoRow.holds Try.pinned (OpenSpec.upto utf8WholeSpec)

/-- 'colanderlaw08.Utf8Back', WHERE WHAT IT READS IS OF BULK AT MOST 1048576: true; the input reads as it did. -/
def utf8BackUptoRow : OpenClaim := { program := "ytcmmmomkfamodaa", sum := "f79b2a665c27e8a71f9d73a57a68b95144ca319eaa1e5d23b6e29d0c9a60181e", func := "colander/colanderlaw08.Utf8Back", spec := "utf8Back", inPlace := ["internal/abi.NoEscape"], apart := false, narrowed := true }
def Utf8BackUptoSaid : Prop := utf8BackUptoRow.holds Try.pinned (OpenSpec.upto utf8BackSpec)

/-- 'colanderlaw08.Utf8Joins', WHERE WHAT IT READS IS OF BULK AT MOST 1048576: true; the input reads as it did. -/
def utf8JoinsUptoRow : OpenClaim := { program := "ytcmmmomkfamodaa", sum := "f79b2a665c27e8a71f9d73a57a68b95144ca319eaa1e5d23b6e29d0c9a60181e", func := "colander/colanderlaw08.Utf8Joins", spec := "utf8Joins", inPlace := ["internal/abi.NoEscape"], apart := false, narrowed := true }
def Utf8JoinsUptoSaid : Prop := utf8JoinsUptoRow.holds Try.pinned (OpenSpec.upto utf8JoinsSpec)

/-- 'colanderlaw08.Utf8Many', WHERE WHAT IT READS IS OF BULK AT MOST 1048576: true; the input reads as it did. -/
def utf8ManyUptoRow : OpenClaim := { program := "ytcmmmomkfamodaa", sum := "f79b2a665c27e8a71f9d73a57a68b95144ca319eaa1e5d23b6e29d0c9a60181e", func := "colander/colanderlaw08.Utf8Many", spec := "utf8Many", inPlace := ["internal/abi.NoEscape"], apart := false, narrowed := true }
def Utf8ManyUptoSaid : Prop := utf8ManyUptoRow.holds Try.pinned (OpenSpec.upto utf8ManySpec)

/-- 'colanderlaw08.Utf8Feeds', WHERE WHAT IT READS IS OF BULK AT MOST 1048576: true; the input reads as it did. -/
def utf8FeedsUptoRow : OpenClaim := { program := "ytcmmmomkfamodaa", sum := "f79b2a665c27e8a71f9d73a57a68b95144ca319eaa1e5d23b6e29d0c9a60181e", func := "colander/colanderlaw08.Utf8Feeds", spec := "utf8Feeds", inPlace := ["internal/abi.NoEscape"], apart := false, narrowed := true }
def Utf8FeedsUptoSaid : Prop := utf8FeedsUptoRow.holds Try.pinned (OpenSpec.upto utf8FeedsSpec)

/-- 'colanderlaw08.Utf8Pieces', WHERE WHAT IT READS IS OF BULK AT MOST 1048576: true; the input reads as it did. -/
def utf8PiecesUptoRow : OpenClaim := { program := "ytcmmmomkfamodaa", sum := "f79b2a665c27e8a71f9d73a57a68b95144ca319eaa1e5d23b6e29d0c9a60181e", func := "colander/colanderlaw08.Utf8Pieces", spec := "utf8Pieces", inPlace := ["internal/abi.NoEscape"], apart := false, narrowed := true }
def Utf8PiecesUptoSaid : Prop := utf8PiecesUptoRow.holds Try.pinned (OpenSpec.upto utf8PiecesSpec)

end Rows
end Go.Proofs.Ytcmmmomkfamodaa
