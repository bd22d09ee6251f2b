/-
  NARROWER THAN 'FOR EVERY INPUT', by the rows' own cells (each row's printed sentence says how): LeafChars: laid · LeafLabels: laid · LeafNames: laid · LeafDecodes: laid · LeafBack: laid · LeafPieces: laid · LeafPlain: laid.
  DERIVED. THE GIVEN ROWS OF THIS SEAT. 7 by the template 'for every input the law returns true; each argument reads behind the call as it read before'; 0 by the template 'total and deterministic' (their statements: YtcmfgjiemjlogaaDoorTotals.lean).
  GIVEN WITH THE SEED: the statements are not yours to turn. If you find one false, say at which input.
  Laid BY PROGRAM, IN A SANDBOX (cutbox-rows.mjs): the forced cells as the released guide's own fill.sh prints them over the translation efd398ba9e195008… (all of the seat's roots in one cut). By AI agents, Wed Nov 11 2026. No macro, syntax, notation, axiom, sorry.
-/
import Derived.Test.YtcmfgjiemjlogaaDoorChecked
import GoSem.PinnedTables
import GoSem.Claim
import GoSem.ClaimJoined
import GoSem.ClaimMapViews
import Derived.JoinedTies
import Derived.KernelRfl
namespace Go.Proofs.YtcmfgjiemjlogaaDoor
/- THE CELL 'sum', in the pinned program and in every row, IS THE sha256 OF THE DUMP (.gsa) THAT YtcmfgjiemjlogaaDoorProg.lean LOADS. Nothing in Lean hashes anything: it is a label: what it is worth is what the hold of that sum in a sandbox is worth. -/
noncomputable def Tryd.pinned : Pinned := { name := "ytcmfgjiemjlogaadoor", sum := "efd398ba9e195008c4bfbad38ac4fd11fa477b0f61d3749e0ba5b33f80f970d5", checked := Tryd.checked }
namespace Rows
def none {H : Type} : Left H := { results := [], args := [] }

/- WHAT THE LISTED PACKAGE-LEVEL VARIABLES READ AS WHEN THE CALL BEGINS. Each datum BY PROGRAM (the guide's laid-datum.mjs) off the statement by which the dump's own 'gosem.cut.vars' lays the variable. In a bare row this is a premise. The card (YtcmfgjiemjlogaaDoorCards.lean) ties it to the program's text. -/
def laid_unicode_utf8_acceptRanges {H : Type} : DataW H := .agg [.agg [.lit (.int .u8 128), .lit (.int .u8 191)], .agg [.lit (.int .u8 160), .lit (.int .u8 191)], .agg [.lit (.int .u8 128), .lit (.int .u8 159)], .agg [.lit (.int .u8 144), .lit (.int .u8 191)], .agg [.lit (.int .u8 128), .lit (.int .u8 143)], .agg [.lit (.int .u8 0), .lit (.int .u8 0)], .agg [.lit (.int .u8 0), .lit (.int .u8 0)], .agg [.lit (.int .u8 0), .lit (.int .u8 0)], .agg [.lit (.int .u8 0), .lit (.int .u8 0)], .agg [.lit (.int .u8 0), .lit (.int .u8 0)], .agg [.lit (.int .u8 0), .lit (.int .u8 0)], .agg [.lit (.int .u8 0), .lit (.int .u8 0)], .agg [.lit (.int .u8 0), .lit (.int .u8 0)], .agg [.lit (.int .u8 0), .lit (.int .u8 0)], .agg [.lit (.int .u8 0), .lit (.int .u8 0)], .agg [.lit (.int .u8 0), .lit (.int .u8 0)]]
/-- One of Go's own tables, pinned by name: the form's constant. -/
def laid_unicode_utf8_first : DataW Unit := Go.Pinned.utf8First

/-- 'colanderlaw09.LeafChars': WHATEVER THE INPUT: true; the input reads as it did. -/
def leafCharsSpec : ChangeSpec := { name := "leafChars", fn := fun _ => fun
  | [d1, d2] => { results := [.lit (.bool true)], args := [d1, d2] }
  | _ => none }
def leafCharsRow : OpenClaim := { program := "ytcmfgjiemjlogaadoor", sum := "efd398ba9e195008c4bfbad38ac4fd11fa477b0f61d3749e0ba5b33f80f970d5", func := "colander/colanderlaw09.LeafChars", spec := "leafChars", inPlace := ["internal/bytealg.IndexByteString", "internal/bytealg.IndexString", "internal/abi.NoEscape"], named := ["unicode/utf8.first", "unicode/utf8.acceptRanges", "internal/bytealg.MaxLen"], apart := false, laid := [("unicode/utf8.acceptRanges", laid_unicode_utf8_acceptRanges), ("unicode/utf8.first", laid_unicode_utf8_first)] }
def LeafCharsSaid : Prop := leafCharsRow.holds Tryd.pinned (OpenSpec.ofChange leafCharsSpec)

/-- ITS FALSE NEIGHBOUR: 'it returns false'. Refute it at one input. -/
def leafCharsWrong : ChangeSpec := { name := "leafChars", fn := fun _ => fun
  | [d1, d2] => { results := [.lit (.bool false)], args := [d1, d2] }
  | _ => none }
def LeafCharsWrongFalsely : Prop := leafCharsRow.holds Tryd.pinned (OpenSpec.ofChange leafCharsWrong)

/-- 'colanderlaw09.LeafLabels': WHATEVER THE INPUT: true; the input reads as it did. -/
def leafLabelsSpec : ChangeSpec := { name := "leafLabels", fn := fun _ => fun
  | [d1, d2] => { results := [.lit (.bool true)], args := [d1, d2] }
  | _ => none }
def leafLabelsRow : OpenClaim := { program := "ytcmfgjiemjlogaadoor", sum := "efd398ba9e195008c4bfbad38ac4fd11fa477b0f61d3749e0ba5b33f80f970d5", func := "colander/colanderlaw09.LeafLabels", spec := "leafLabels", inPlace := ["internal/bytealg.IndexByteString", "internal/bytealg.IndexString", "internal/abi.NoEscape"], named := ["unicode/utf8.first", "unicode/utf8.acceptRanges", "internal/bytealg.MaxLen"], apart := false, laid := [("unicode/utf8.acceptRanges", laid_unicode_utf8_acceptRanges), ("unicode/utf8.first", laid_unicode_utf8_first)] }
def LeafLabelsSaid : Prop := leafLabelsRow.holds Tryd.pinned (OpenSpec.ofChange leafLabelsSpec)

/-- ITS FALSE NEIGHBOUR: 'it returns false'. Refute it at one input. -/
def leafLabelsWrong : ChangeSpec := { name := "leafLabels", fn := fun _ => fun
  | [d1, d2] => { results := [.lit (.bool false)], args := [d1, d2] }
  | _ => none }
def LeafLabelsWrongFalsely : Prop := leafLabelsRow.holds Tryd.pinned (OpenSpec.ofChange leafLabelsWrong)

/-- 'colanderlaw09.LeafNames': WHATEVER THE INPUT: true; the input reads as it did. -/
def leafNamesSpec : ChangeSpec := { name := "leafNames", fn := fun _ => fun
  | [d1, d2, d3, d4] => { results := [.lit (.bool true)], args := [d1, d2, d3, d4] }
  | _ => none }
def leafNamesRow : OpenClaim := { program := "ytcmfgjiemjlogaadoor", sum := "efd398ba9e195008c4bfbad38ac4fd11fa477b0f61d3749e0ba5b33f80f970d5", func := "colander/colanderlaw09.LeafNames", spec := "leafNames", inPlace := ["internal/bytealg.IndexByteString", "internal/bytealg.IndexString", "internal/abi.NoEscape"], named := ["unicode/utf8.first", "unicode/utf8.acceptRanges", "internal/bytealg.MaxLen"], apart := false, laid := [("unicode/utf8.acceptRanges", laid_unicode_utf8_acceptRanges), ("unicode/utf8.first", laid_unicode_utf8_first)] }
def LeafNamesSaid : Prop := leafNamesRow.holds Tryd.pinned (OpenSpec.ofChange leafNamesSpec)

/-- ITS FALSE NEIGHBOUR: 'it returns false'. Refute it at one input. -/
def leafNamesWrong : ChangeSpec := { name := "leafNames", fn := fun _ => fun
  | [d1, d2, d3, d4] => { results := [.lit (.bool false)], args := [d1, d2, d3, d4] }
  | _ => none }
def LeafNamesWrongFalsely : Prop := leafNamesRow.holds Tryd.pinned (OpenSpec.ofChange leafNamesWrong)

/-- 'colanderlaw09.LeafDecodes': WHATEVER THE INPUT: true; the input reads as it did. -/
def leafDecodesSpec : ChangeSpec := { name := "leafDecodes", fn := fun _ => fun
  | [d1, d2] => { results := [.lit (.bool true)], args := [d1, d2] }
  | _ => none }
def leafDecodesRow : OpenClaim := { program := "ytcmfgjiemjlogaadoor", sum := "efd398ba9e195008c4bfbad38ac4fd11fa477b0f61d3749e0ba5b33f80f970d5", func := "colander/colanderlaw09.LeafDecodes", spec := "leafDecodes", inPlace := ["internal/bytealg.IndexByteString", "internal/bytealg.IndexString", "internal/abi.NoEscape"], named := ["unicode/utf8.first", "unicode/utf8.acceptRanges", "internal/bytealg.MaxLen"], apart := false, laid := [("unicode/utf8.acceptRanges", laid_unicode_utf8_acceptRanges), ("unicode/utf8.first", laid_unicode_utf8_first)] }
def LeafDecodesSaid : Prop := leafDecodesRow.holds Tryd.pinned (OpenSpec.ofChange leafDecodesSpec)

/-- ITS FALSE NEIGHBOUR: 'it returns false'. Refute it at one input. -/
def leafDecodesWrong : ChangeSpec := { name := "leafDecodes", fn := fun _ => fun
  | [d1, d2] => { results := [.lit (.bool false)], args := [d1, d2] }
  | _ => none }
def LeafDecodesWrongFalsely : Prop := leafDecodesRow.holds Tryd.pinned (OpenSpec.ofChange leafDecodesWrong)

/-- 'colanderlaw09.LeafBack': WHATEVER THE INPUT: true; the input reads as it did. -/
def leafBackSpec : ChangeSpec := { name := "leafBack", fn := fun _ => fun
  | [d] => { results := [.lit (.bool true)], args := [d] }
  | _ => none }
def leafBackRow : OpenClaim := { program := "ytcmfgjiemjlogaadoor", sum := "efd398ba9e195008c4bfbad38ac4fd11fa477b0f61d3749e0ba5b33f80f970d5", func := "colander/colanderlaw09.LeafBack", spec := "leafBack", inPlace := ["internal/bytealg.IndexByteString", "internal/bytealg.IndexString", "internal/abi.NoEscape"], named := ["unicode/utf8.first", "unicode/utf8.acceptRanges", "internal/bytealg.MaxLen"], apart := false, laid := [("unicode/utf8.acceptRanges", laid_unicode_utf8_acceptRanges), ("unicode/utf8.first", laid_unicode_utf8_first)] }
def LeafBackSaid : Prop := leafBackRow.holds Tryd.pinned (OpenSpec.ofChange leafBackSpec)

/-- ITS FALSE NEIGHBOUR: 'it returns false'. Refute it at one input. -/
def leafBackWrong : ChangeSpec := { name := "leafBack", fn := fun _ => fun
  | [d] => { results := [.lit (.bool false)], args := [d] }
  | _ => none }
def LeafBackWrongFalsely : Prop := leafBackRow.holds Tryd.pinned (OpenSpec.ofChange leafBackWrong)

/-- 'colanderlaw09.LeafPieces': WHATEVER THE INPUT: true; the input reads as it did. -/
def leafPiecesSpec : ChangeSpec := { name := "leafPieces", fn := fun _ => fun
  | [d1, d2, d3, d4] => { results := [.lit (.bool true)], args := [d1, d2, d3, d4] }
  | _ => none }
def leafPiecesRow : OpenClaim := { program := "ytcmfgjiemjlogaadoor", sum := "efd398ba9e195008c4bfbad38ac4fd11fa477b0f61d3749e0ba5b33f80f970d5", func := "colander/colanderlaw09.LeafPieces", spec := "leafPieces", inPlace := ["internal/bytealg.IndexByteString", "internal/bytealg.IndexString", "internal/abi.NoEscape"], named := ["unicode/utf8.first", "unicode/utf8.acceptRanges", "internal/bytealg.MaxLen"], apart := false, laid := [("unicode/utf8.acceptRanges", laid_unicode_utf8_acceptRanges), ("unicode/utf8.first", laid_unicode_utf8_first)] }
def LeafPiecesSaid : Prop := leafPiecesRow.holds Tryd.pinned (OpenSpec.ofChange leafPiecesSpec)

/-- ITS FALSE NEIGHBOUR: 'it returns false'. Refute it at one input. -/
def leafPiecesWrong : ChangeSpec := { name := "leafPieces", fn := fun _ => fun
  | [d1, d2, d3, d4] => { results := [.lit (.bool false)], args := [d1, d2, d3, d4] }
  | _ => none }
def LeafPiecesWrongFalsely : Prop := leafPiecesRow.holds Tryd.pinned (OpenSpec.ofChange leafPiecesWrong)

/-- 'colanderlaw09.LeafPlain': WHATEVER THE INPUT: true; the input reads as it did. -/
def leafPlainSpec : ChangeSpec := { name := "leafPlain", fn := fun _ => fun
  | [d] => { results := [.lit (.bool true)], args := [d] }
  | _ => none }
def leafPlainRow : OpenClaim := { program := "ytcmfgjiemjlogaadoor", sum := "efd398ba9e195008c4bfbad38ac4fd11fa477b0f61d3749e0ba5b33f80f970d5", func := "colander/colanderlaw09.LeafPlain", spec := "leafPlain", inPlace := ["internal/bytealg.IndexByteString", "internal/bytealg.IndexString", "internal/abi.NoEscape"], named := ["unicode/utf8.first", "unicode/utf8.acceptRanges", "internal/bytealg.MaxLen"], apart := false, laid := [("unicode/utf8.acceptRanges", laid_unicode_utf8_acceptRanges), ("unicode/utf8.first", laid_unicode_utf8_first)] }
def LeafPlainSaid : Prop := leafPlainRow.holds Tryd.pinned (OpenSpec.ofChange leafPlainSpec)

/-- ITS FALSE NEIGHBOUR: 'it returns false'. Refute it at one input. -/
def leafPlainWrong : ChangeSpec := { name := "leafPlain", fn := fun _ => fun
  | [d] => { results := [.lit (.bool false)], args := [d] }
  | _ => none }
def LeafPlainWrongFalsely : Prop := leafPlainRow.holds Tryd.pinned (OpenSpec.ofChange leafPlainWrong)

/- THE SECOND FORM. 'bulk': how many values and letters a reading holds, each counted each time it is reached (what is shared counts as often as it is met; a slice's spare places count too). A statement '..UptoSaid' is the law's where the arguments, and the package variables that the reading takes, are together of bulk at most 1048576: NARROWER than '..Said'. Prove '..Said' where nothing that the law and all that it calls make is longer than what came in: it says more and counts as full. Else prove '..UptoSaid'. A law counts once. -/
mutual
def uptoBulk {H : Type} : DataW H → Nat
  | .lit (.string bytes) => bytes.length + 1
  | .lit _ => 1
  | .nil => 1
  | .ptr d => uptoBulk d + 1
  | .slice elems spare => uptoBulkAll elems + uptoBulkAll spare + 1
  | .agg parts => uptoBulkAll parts + 1
  | .iface _ d => uptoBulk d + 1
  | .map entries => uptoBulkEntries entries + 1
  | .held _ => 1
def uptoBulkAll {H : Type} : List (DataW H) → Nat
  | [] => 0
  | d :: r => uptoBulk d + uptoBulkAll r
def uptoBulkEntries {H : Type} : List (Lit × DataW H) → Nat
  | [] => 0
  | x :: r => uptoBulkEntry x + uptoBulkEntries r
def uptoBulkEntry {H : Type} : Lit × DataW H → Nat
  | (.string bytes, d) => bytes.length + uptoBulk d + 1
  | (_, d) => uptoBulk d + 1
 end
def uptoSmall : (H : Type) → List (DataW H) → Bool := fun _ ds => decide (uptoBulkAll ds ≤ 1048576)
def OpenSpec.upto (s : _root_.Go.ChangeSpec) : _root_.Go.OpenSpec := { _root_.Go.OpenSpec.ofChange s with cond := some uptoSmall }

/-- 'colanderlaw09.LeafChars', WHERE WHAT IT READS IS OF BULK AT MOST 1048576: true; the input reads as it did. -/
def leafCharsUptoRow : OpenClaim := { program := "ytcmfgjiemjlogaadoor", sum := "efd398ba9e195008c4bfbad38ac4fd11fa477b0f61d3749e0ba5b33f80f970d5", func := "colander/colanderlaw09.LeafChars", spec := "leafChars", inPlace := ["internal/bytealg.IndexByteString", "internal/bytealg.IndexString", "internal/abi.NoEscape"], named := ["unicode/utf8.first", "unicode/utf8.acceptRanges", "internal/bytealg.MaxLen"], apart := false, laid := [("unicode/utf8.acceptRanges", laid_unicode_utf8_acceptRanges), ("unicode/utf8.first", laid_unicode_utf8_first)], narrowed := true }
def LeafCharsUptoSaid : Prop := leafCharsUptoRow.holds Tryd.pinned (OpenSpec.upto leafCharsSpec)

/-- 'colanderlaw09.LeafLabels', WHERE WHAT IT READS IS OF BULK AT MOST 1048576: true; the input reads as it did. -/
def leafLabelsUptoRow : OpenClaim := { program := "ytcmfgjiemjlogaadoor", sum := "efd398ba9e195008c4bfbad38ac4fd11fa477b0f61d3749e0ba5b33f80f970d5", func := "colander/colanderlaw09.LeafLabels", spec := "leafLabels", inPlace := ["internal/bytealg.IndexByteString", "internal/bytealg.IndexString", "internal/abi.NoEscape"], named := ["unicode/utf8.first", "unicode/utf8.acceptRanges", "internal/bytealg.MaxLen"], apart := false, laid := [("unicode/utf8.acceptRanges", laid_unicode_utf8_acceptRanges), ("unicode/utf8.first", laid_unicode_utf8_first)], narrowed := true }
def LeafLabelsUptoSaid : Prop := leafLabelsUptoRow.holds Tryd.pinned (OpenSpec.upto leafLabelsSpec)

/-- 'colanderlaw09.LeafNames', WHERE WHAT IT READS IS OF BULK AT MOST 1048576: true; the input reads as it did. -/
def leafNamesUptoRow : OpenClaim := { program := "ytcmfgjiemjlogaadoor", sum := "efd398ba9e195008c4bfbad38ac4fd11fa477b0f61d3749e0ba5b33f80f970d5", func := "colander/colanderlaw09.LeafNames", spec := "leafNames", inPlace := ["internal/bytealg.IndexByteString", "internal/bytealg.IndexString", "internal/abi.NoEscape"], named := ["unicode/utf8.first", "unicode/utf8.acceptRanges", "internal/bytealg.MaxLen"], apart := false, laid := [("unicode/utf8.acceptRanges", laid_unicode_utf8_acceptRanges), ("unicode/utf8.first", laid_unicode_utf8_first)], narrowed := true }
def LeafNamesUptoSaid : Prop := leafNamesUptoRow.holds Tryd.pinned (OpenSpec.upto leafNamesSpec)

/-- 'colanderlaw09.LeafDecodes', WHERE WHAT IT READS IS OF BULK AT MOST 1048576: true; the input reads as it did. -/
def leafDecodesUptoRow : OpenClaim := { program := "ytcmfgjiemjlogaadoor", sum := "efd398ba9e195008c4bfbad38ac4fd11fa477b0f61d3749e0ba5b33f80f970d5", func := "colander/colanderlaw09.LeafDecodes", spec := "leafDecodes", inPlace := ["internal/bytealg.IndexByteString", "internal/bytealg.IndexString", "internal/abi.NoEscape"], named := ["unicode/utf8.first", "unicode/utf8.acceptRanges", "internal/bytealg.MaxLen"], apart := false, laid := [("unicode/utf8.acceptRanges", laid_unicode_utf8_acceptRanges), ("unicode/utf8.first", laid_unicode_utf8_first)], narrowed := true }
def LeafDecodesUptoSaid : Prop := leafDecodesUptoRow.holds Tryd.pinned (OpenSpec.upto leafDecodesSpec)

/-- 'colanderlaw09.LeafBack', WHERE WHAT IT READS IS OF BULK AT MOST 1048576: true; the input reads as it did. -/
def leafBackUptoRow : OpenClaim := { program := "ytcmfgjiemjlogaadoor", sum := "efd398ba9e195008c4bfbad38ac4fd11fa477b0f61d3749e0ba5b33f80f970d5", func := "colander/colanderlaw09.LeafBack", spec := "leafBack", inPlace := ["internal/bytealg.IndexByteString", "internal/bytealg.IndexString", "internal/abi.NoEscape"], named := ["unicode/utf8.first", "unicode/utf8.acceptRanges", "internal/bytealg.MaxLen"], apart := false, laid := [("unicode/utf8.acceptRanges", laid_unicode_utf8_acceptRanges), ("unicode/utf8.first", laid_unicode_utf8_first)], narrowed := true }
def LeafBackUptoSaid : Prop := leafBackUptoRow.holds Tryd.pinned (OpenSpec.upto leafBackSpec)

/-- 'colanderlaw09.LeafPieces', WHERE WHAT IT READS IS OF BULK AT MOST 1048576: true; the input reads as it did. -/
def leafPiecesUptoRow : OpenClaim := { program := "ytcmfgjiemjlogaadoor", sum := "efd398ba9e195008c4bfbad38ac4fd11fa477b0f61d3749e0ba5b33f80f970d5", func := "colander/colanderlaw09.LeafPieces", spec := "leafPieces", inPlace := ["internal/bytealg.IndexByteString", "internal/bytealg.IndexString", "internal/abi.NoEscape"], named := ["unicode/utf8.first", "unicode/utf8.acceptRanges", "internal/bytealg.MaxLen"], apart := false, laid := [("unicode/utf8.acceptRanges", laid_unicode_utf8_acceptRanges), ("unicode/utf8.first", laid_unicode_utf8_first)], narrowed := true }
def LeafPiecesUptoSaid : Prop := leafPiecesUptoRow.holds Tryd.pinned (OpenSpec.upto leafPiecesSpec)

/-- 'colanderlaw09.LeafPlain', WHERE WHAT IT READS IS OF BULK AT MOST 1048576: true; the input reads as it did. -/
def leafPlainUptoRow : OpenClaim := { program := "ytcmfgjiemjlogaadoor", sum := "efd398ba9e195008c4bfbad38ac4fd11fa477b0f61d3749e0ba5b33f80f970d5", func := "colander/colanderlaw09.LeafPlain", spec := "leafPlain", inPlace := ["internal/bytealg.IndexByteString", "internal/bytealg.IndexString", "internal/abi.NoEscape"], named := ["unicode/utf8.first", "unicode/utf8.acceptRanges", "internal/bytealg.MaxLen"], apart := false, laid := [("unicode/utf8.acceptRanges", laid_unicode_utf8_acceptRanges), ("unicode/utf8.first", laid_unicode_utf8_first)], narrowed := true }
def LeafPlainUptoSaid : Prop := leafPlainUptoRow.holds Tryd.pinned (OpenSpec.upto leafPlainSpec)

end Rows
end Go.Proofs.YtcmfgjiemjlogaaDoor
