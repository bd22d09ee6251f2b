/-
  NARROWER THAN 'FOR EVERY INPUT', by the rows' own cells (each row's printed sentence says how): SniffBoms: laid · SniffPrescans: laid · SniffFirst: laid · SniffOrder: laid · SniffReads: laid · SniffMeta: laid · SniffNothing: laid.
  DERIVED. THE GIVEN ROWS OF THIS SEAT. 7 by the template 'for every input the law returns true; each argument reads behind the call as it read before'; 0 by the template 'total and deterministic' (their statements: YtecpgelhhbbjmaaDoorTotals.lean).
  GIVEN WITH THE SEED: the statements are not yours to turn. If you find one false, say at which input.
  Laid BY PROGRAM, IN A SANDBOX (cutbox-rows.mjs): the forced cells as the released guide's own fill.sh prints them over the translation 33f47453e70dfaaf… (all of the seat's roots in one cut). By AI agents, Wed Nov 11 2026. No macro, syntax, notation, axiom, sorry.
-/
import Derived.Test.YtecpgelhhbbjmaaDoorChecked
import GoSem.PinnedTables
import GoSem.Claim
import GoSem.ClaimJoined
import GoSem.ClaimMapViews
import Derived.JoinedTies
import Derived.KernelRfl
namespace Go.Proofs.YtecpgelhhbbjmaaDoor
/- THE CELL 'sum', in the pinned program and in every row, IS THE sha256 OF THE DUMP (.gsa) THAT YtecpgelhhbbjmaaDoorProg.lean LOADS. Nothing in Lean hashes anything: it is a label: what it is worth is what the hold of that sum in a sandbox is worth. -/
noncomputable def Tryd.pinned : Pinned := { name := "ytecpgelhhbbjmaadoor", sum := "33f47453e70dfaaffd2f96c051928d0492d92b7c056fddff45226167235a2d37", checked := Tryd.checked }
namespace Rows
def none {H : Type} : Left H := { results := [], args := [] }

/- WHAT THE LISTED PACKAGE-LEVEL VARIABLES READ AS WHEN THE CALL BEGINS. Each datum BY PROGRAM (the guide's laid-datum.mjs) off the statement by which the dump's own 'gosem.cut.vars' lays the variable. In a bare row this is a premise. The card (YtecpgelhhbbjmaaDoorCards.lean) ties it to the program's text. -/
def laid_unicode_utf8_acceptRanges {H : Type} : DataW H := .agg [.agg [.lit (.int .u8 128), .lit (.int .u8 191)], .agg [.lit (.int .u8 160), .lit (.int .u8 191)], .agg [.lit (.int .u8 128), .lit (.int .u8 159)], .agg [.lit (.int .u8 144), .lit (.int .u8 191)], .agg [.lit (.int .u8 128), .lit (.int .u8 143)], .agg [.lit (.int .u8 0), .lit (.int .u8 0)], .agg [.lit (.int .u8 0), .lit (.int .u8 0)], .agg [.lit (.int .u8 0), .lit (.int .u8 0)], .agg [.lit (.int .u8 0), .lit (.int .u8 0)], .agg [.lit (.int .u8 0), .lit (.int .u8 0)], .agg [.lit (.int .u8 0), .lit (.int .u8 0)], .agg [.lit (.int .u8 0), .lit (.int .u8 0)], .agg [.lit (.int .u8 0), .lit (.int .u8 0)], .agg [.lit (.int .u8 0), .lit (.int .u8 0)], .agg [.lit (.int .u8 0), .lit (.int .u8 0)], .agg [.lit (.int .u8 0), .lit (.int .u8 0)]]
/-- One of Go's own tables, pinned by name: the form's constant. -/
def laid_unicode_utf8_first : DataW Unit := Go.Pinned.utf8First

/-- 'colanderlaw11.SniffBoms': WHATEVER THE INPUT: true; the input reads as it did. -/
def sniffBomsSpec : ChangeSpec := { name := "sniffBoms", fn := fun _ => fun
  | [d1, d2] => { results := [.lit (.bool true)], args := [d1, d2] }
  | _ => none }
def sniffBomsRow : OpenClaim := { program := "ytecpgelhhbbjmaadoor", sum := "33f47453e70dfaaffd2f96c051928d0492d92b7c056fddff45226167235a2d37", func := "colander/colanderlaw11.SniffBoms", spec := "sniffBoms", inPlace := ["internal/bytealg.IndexByteString", "internal/bytealg.IndexString", "internal/bytealg.IndexByte", "internal/bytealg.Index", "internal/abi.NoEscape"], unfollowed := true, recurses := true, named := ["unicode/utf8.first", "unicode/utf8.acceptRanges", "internal/bytealg.MaxLen"], apart := false, laid := [("unicode/utf8.acceptRanges", laid_unicode_utf8_acceptRanges), ("unicode/utf8.first", laid_unicode_utf8_first)] }
def SniffBomsSaid : Prop := sniffBomsRow.holds Tryd.pinned (OpenSpec.ofChange sniffBomsSpec)

/-- ITS FALSE NEIGHBOUR: 'it returns false'. Refute it at one input. -/
def sniffBomsWrong : ChangeSpec := { name := "sniffBoms", fn := fun _ => fun
  | [d1, d2] => { results := [.lit (.bool false)], args := [d1, d2] }
  | _ => none }
def SniffBomsWrongFalsely : Prop := sniffBomsRow.holds Tryd.pinned (OpenSpec.ofChange sniffBomsWrong)

/-- 'colanderlaw11.SniffPrescans': WHATEVER THE INPUT: true; the input reads as it did. -/
def sniffPrescansSpec : ChangeSpec := { name := "sniffPrescans", fn := fun _ => fun
  | [d] => { results := [.lit (.bool true)], args := [d] }
  | _ => none }
def sniffPrescansRow : OpenClaim := { program := "ytecpgelhhbbjmaadoor", sum := "33f47453e70dfaaffd2f96c051928d0492d92b7c056fddff45226167235a2d37", func := "colander/colanderlaw11.SniffPrescans", spec := "sniffPrescans", inPlace := ["internal/bytealg.IndexByteString", "internal/bytealg.IndexString", "internal/bytealg.IndexByte", "internal/bytealg.Index", "internal/abi.NoEscape"], unfollowed := true, recurses := true, named := ["unicode/utf8.first", "unicode/utf8.acceptRanges", "internal/bytealg.MaxLen"], apart := false, laid := [("unicode/utf8.acceptRanges", laid_unicode_utf8_acceptRanges), ("unicode/utf8.first", laid_unicode_utf8_first)] }
def SniffPrescansSaid : Prop := sniffPrescansRow.holds Tryd.pinned (OpenSpec.ofChange sniffPrescansSpec)

/-- ITS FALSE NEIGHBOUR: 'it returns false'. Refute it at one input. -/
def sniffPrescansWrong : ChangeSpec := { name := "sniffPrescans", fn := fun _ => fun
  | [d] => { results := [.lit (.bool false)], args := [d] }
  | _ => none }
def SniffPrescansWrongFalsely : Prop := sniffPrescansRow.holds Tryd.pinned (OpenSpec.ofChange sniffPrescansWrong)

/-- 'colanderlaw11.SniffFirst': WHATEVER THE INPUT: true; the input reads as it did. -/
def sniffFirstSpec : ChangeSpec := { name := "sniffFirst", fn := fun _ => fun
  | [d1, d2, d3] => { results := [.lit (.bool true)], args := [d1, d2, d3] }
  | _ => none }
def sniffFirstRow : OpenClaim := { program := "ytecpgelhhbbjmaadoor", sum := "33f47453e70dfaaffd2f96c051928d0492d92b7c056fddff45226167235a2d37", func := "colander/colanderlaw11.SniffFirst", spec := "sniffFirst", inPlace := ["internal/bytealg.IndexByteString", "internal/bytealg.IndexString", "internal/bytealg.IndexByte", "internal/bytealg.Index", "internal/abi.NoEscape"], unfollowed := true, recurses := true, named := ["unicode/utf8.first", "unicode/utf8.acceptRanges", "internal/bytealg.MaxLen"], apart := false, laid := [("unicode/utf8.acceptRanges", laid_unicode_utf8_acceptRanges), ("unicode/utf8.first", laid_unicode_utf8_first)] }
def SniffFirstSaid : Prop := sniffFirstRow.holds Tryd.pinned (OpenSpec.ofChange sniffFirstSpec)

/-- ITS FALSE NEIGHBOUR: 'it returns false'. Refute it at one input. -/
def sniffFirstWrong : ChangeSpec := { name := "sniffFirst", fn := fun _ => fun
  | [d1, d2, d3] => { results := [.lit (.bool false)], args := [d1, d2, d3] }
  | _ => none }
def SniffFirstWrongFalsely : Prop := sniffFirstRow.holds Tryd.pinned (OpenSpec.ofChange sniffFirstWrong)

/-- 'colanderlaw11.SniffOrder': WHATEVER THE INPUT: true; the input reads as it did. -/
def sniffOrderSpec : ChangeSpec := { name := "sniffOrder", fn := fun _ => fun
  | [d1, d2] => { results := [.lit (.bool true)], args := [d1, d2] }
  | _ => none }
def sniffOrderRow : OpenClaim := { program := "ytecpgelhhbbjmaadoor", sum := "33f47453e70dfaaffd2f96c051928d0492d92b7c056fddff45226167235a2d37", func := "colander/colanderlaw11.SniffOrder", spec := "sniffOrder", inPlace := ["internal/bytealg.IndexByteString", "internal/bytealg.IndexString", "internal/bytealg.IndexByte", "internal/bytealg.Index", "internal/abi.NoEscape"], unfollowed := true, recurses := true, named := ["unicode/utf8.first", "unicode/utf8.acceptRanges", "internal/bytealg.MaxLen"], apart := false, laid := [("unicode/utf8.acceptRanges", laid_unicode_utf8_acceptRanges), ("unicode/utf8.first", laid_unicode_utf8_first)] }
def SniffOrderSaid : Prop := sniffOrderRow.holds Tryd.pinned (OpenSpec.ofChange sniffOrderSpec)

/-- ITS FALSE NEIGHBOUR: 'it returns false'. Refute it at one input. -/
def sniffOrderWrong : ChangeSpec := { name := "sniffOrder", fn := fun _ => fun
  | [d1, d2] => { results := [.lit (.bool false)], args := [d1, d2] }
  | _ => none }
def SniffOrderWrongFalsely : Prop := sniffOrderRow.holds Tryd.pinned (OpenSpec.ofChange sniffOrderWrong)

/-- 'colanderlaw11.SniffReads': WHATEVER THE INPUT: true; the input reads as it did. -/
def sniffReadsSpec : ChangeSpec := { name := "sniffReads", fn := fun _ => fun
  | [d1, d2] => { results := [.lit (.bool true)], args := [d1, d2] }
  | _ => none }
def sniffReadsRow : OpenClaim := { program := "ytecpgelhhbbjmaadoor", sum := "33f47453e70dfaaffd2f96c051928d0492d92b7c056fddff45226167235a2d37", func := "colander/colanderlaw11.SniffReads", spec := "sniffReads", inPlace := ["internal/bytealg.IndexByteString", "internal/bytealg.IndexString", "internal/bytealg.IndexByte", "internal/bytealg.Index", "internal/abi.NoEscape"], unfollowed := true, recurses := true, named := ["unicode/utf8.first", "unicode/utf8.acceptRanges", "internal/bytealg.MaxLen"], apart := false, laid := [("unicode/utf8.acceptRanges", laid_unicode_utf8_acceptRanges), ("unicode/utf8.first", laid_unicode_utf8_first)] }
def SniffReadsSaid : Prop := sniffReadsRow.holds Tryd.pinned (OpenSpec.ofChange sniffReadsSpec)

/-- ITS FALSE NEIGHBOUR: 'it returns false'. Refute it at one input. -/
def sniffReadsWrong : ChangeSpec := { name := "sniffReads", fn := fun _ => fun
  | [d1, d2] => { results := [.lit (.bool false)], args := [d1, d2] }
  | _ => none }
def SniffReadsWrongFalsely : Prop := sniffReadsRow.holds Tryd.pinned (OpenSpec.ofChange sniffReadsWrong)

/-- 'colanderlaw11.SniffMeta': WHATEVER THE INPUT: true; the input reads as it did. -/
def sniffMetaSpec : ChangeSpec := { name := "sniffMeta", fn := fun _ => fun
  | [d1, d2, d3, d4, d5] => { results := [.lit (.bool true)], args := [d1, d2, d3, d4, d5] }
  | _ => none }
def sniffMetaRow : OpenClaim := { program := "ytecpgelhhbbjmaadoor", sum := "33f47453e70dfaaffd2f96c051928d0492d92b7c056fddff45226167235a2d37", func := "colander/colanderlaw11.SniffMeta", spec := "sniffMeta", inPlace := ["internal/bytealg.IndexByteString", "internal/bytealg.IndexString", "internal/bytealg.IndexByte", "internal/bytealg.Index", "internal/abi.NoEscape"], unfollowed := true, recurses := true, named := ["unicode/utf8.first", "unicode/utf8.acceptRanges", "internal/bytealg.MaxLen"], apart := false, laid := [("unicode/utf8.acceptRanges", laid_unicode_utf8_acceptRanges), ("unicode/utf8.first", laid_unicode_utf8_first)] }
def SniffMetaSaid : Prop := sniffMetaRow.holds Tryd.pinned (OpenSpec.ofChange sniffMetaSpec)

/-- ITS FALSE NEIGHBOUR: 'it returns false'. Refute it at one input. -/
def sniffMetaWrong : ChangeSpec := { name := "sniffMeta", fn := fun _ => fun
  | [d1, d2, d3, d4, d5] => { results := [.lit (.bool false)], args := [d1, d2, d3, d4, d5] }
  | _ => none }
def SniffMetaWrongFalsely : Prop := sniffMetaRow.holds Tryd.pinned (OpenSpec.ofChange sniffMetaWrong)

/-- 'colanderlaw11.SniffNothing': WHATEVER THE INPUT: true; the input reads as it did. -/
def sniffNothingSpec : ChangeSpec := { name := "sniffNothing", fn := fun _ => fun
  | [d1, d2] => { results := [.lit (.bool true)], args := [d1, d2] }
  | _ => none }
def sniffNothingRow : OpenClaim := { program := "ytecpgelhhbbjmaadoor", sum := "33f47453e70dfaaffd2f96c051928d0492d92b7c056fddff45226167235a2d37", func := "colander/colanderlaw11.SniffNothing", spec := "sniffNothing", inPlace := ["internal/bytealg.IndexByteString", "internal/bytealg.IndexString", "internal/bytealg.IndexByte", "internal/bytealg.Index", "internal/abi.NoEscape"], unfollowed := true, recurses := true, named := ["unicode/utf8.first", "unicode/utf8.acceptRanges", "internal/bytealg.MaxLen"], apart := false, laid := [("unicode/utf8.acceptRanges", laid_unicode_utf8_acceptRanges), ("unicode/utf8.first", laid_unicode_utf8_first)] }
def SniffNothingSaid : Prop := sniffNothingRow.holds Tryd.pinned (OpenSpec.ofChange sniffNothingSpec)

/-- ITS FALSE NEIGHBOUR: 'it returns false'. Refute it at one input. -/
def sniffNothingWrong : ChangeSpec := { name := "sniffNothing", fn := fun _ => fun
  | [d1, d2] => { results := [.lit (.bool false)], args := [d1, d2] }
  | _ => none }
def SniffNothingWrongFalsely : Prop := sniffNothingRow.holds Tryd.pinned (OpenSpec.ofChange sniffNothingWrong)

/- THE SECOND FORM. 'bulk': how many values and letters a reading holds, each counted each time it is reached (what is shared counts as often as it is met; a slice's spare places count too). A statement '..UptoSaid' is the law's where the arguments, and the package variables that the reading takes, are together of bulk at most 1048576: NARROWER than '..Said'. Prove '..Said' where nothing that the law and all that it calls make is longer than what came in: it says more and counts as full. Else prove '..UptoSaid'. A law counts once. -/
mutual
def uptoBulk {H : Type} : DataW H → Nat
  | .lit (.string bytes) => bytes.length + 1
  | .lit _ => 1
  | .nil => 1
  | .ptr d => uptoBulk d + 1
  | .slice elems spare => uptoBulkAll elems + uptoBulkAll spare + 1
  | .agg parts => uptoBulkAll parts + 1
  | .iface _ d => uptoBulk d + 1
  | .map entries => uptoBulkEntries entries + 1
  | .held _ => 1
def uptoBulkAll {H : Type} : List (DataW H) → Nat
  | [] => 0
  | d :: r => uptoBulk d + uptoBulkAll r
def uptoBulkEntries {H : Type} : List (Lit × DataW H) → Nat
  | [] => 0
  | x :: r => uptoBulkEntry x + uptoBulkEntries r
def uptoBulkEntry {H : Type} : Lit × DataW H → Nat
  | (.string bytes, d) => bytes.length + uptoBulk d + 1
  | (_, d) => uptoBulk d + 1
 end
def uptoSmall : (H : Type) → List (DataW H) → Bool := fun _ ds => decide (uptoBulkAll ds ≤ 1048576)
def OpenSpec.upto (s : _root_.Go.ChangeSpec) : _root_.Go.OpenSpec := { _root_.Go.OpenSpec.ofChange s with cond := some uptoSmall }

/-- 'colanderlaw11.SniffBoms', WHERE WHAT IT READS IS OF BULK AT MOST 1048576: true; the input reads as it did. -/
def sniffBomsUptoRow : OpenClaim := { program := "ytecpgelhhbbjmaadoor", sum := "33f47453e70dfaaffd2f96c051928d0492d92b7c056fddff45226167235a2d37", func := "colander/colanderlaw11.SniffBoms", spec := "sniffBoms", inPlace := ["internal/bytealg.IndexByteString", "internal/bytealg.IndexString", "internal/bytealg.IndexByte", "internal/bytealg.Index", "internal/abi.NoEscape"], unfollowed := true, recurses := true, named := ["unicode/utf8.first", "unicode/utf8.acceptRanges", "internal/bytealg.MaxLen"], apart := false, laid := [("unicode/utf8.acceptRanges", laid_unicode_utf8_acceptRanges), ("unicode/utf8.first", laid_unicode_utf8_first)], narrowed := true }
def SniffBomsUptoSaid : Prop := sniffBomsUptoRow.holds Tryd.pinned (OpenSpec.upto sniffBomsSpec)

/-- 'colanderlaw11.SniffPrescans', WHERE WHAT IT READS IS OF BULK AT MOST 1048576: true; the input reads as it did. -/
def sniffPrescansUptoRow : OpenClaim := { program := "ytecpgelhhbbjmaadoor", sum := "33f47453e70dfaaffd2f96c051928d0492d92b7c056fddff45226167235a2d37", func := "colander/colanderlaw11.SniffPrescans", spec := "sniffPrescans", inPlace := ["internal/bytealg.IndexByteString", "internal/bytealg.IndexString", "internal/bytealg.IndexByte", "internal/bytealg.Index", "internal/abi.NoEscape"], unfollowed := true, recurses := true, named := ["unicode/utf8.first", "unicode/utf8.acceptRanges", "internal/bytealg.MaxLen"], apart := false, laid := [("unicode/utf8.acceptRanges", laid_unicode_utf8_acceptRanges), ("unicode/utf8.first", laid_unicode_utf8_first)], narrowed := true }
def SniffPrescansUptoSaid : Prop := sniffPrescansUptoRow.holds Tryd.pinned (OpenSpec.upto sniffPrescansSpec)

/-- 'colanderlaw11.SniffFirst', WHERE WHAT IT READS IS OF BULK AT MOST 1048576: true; the input reads as it did. -/
def sniffFirstUptoRow : OpenClaim := { program := "ytecpgelhhbbjmaadoor", sum := "33f47453e70dfaaffd2f96c051928d0492d92b7c056fddff45226167235a2d37", func := "colander/colanderlaw11.SniffFirst", spec := "sniffFirst", inPlace := ["internal/bytealg.IndexByteString", "internal/bytealg.IndexString", "internal/bytealg.IndexByte", "internal/bytealg.Index", "internal/abi.NoEscape"], unfollowed := true, recurses := true, named := ["unicode/utf8.first", "unicode/utf8.acceptRanges", "internal/bytealg.MaxLen"], apart := false, laid := [("unicode/utf8.acceptRanges", laid_unicode_utf8_acceptRanges), ("unicode/utf8.first", laid_unicode_utf8_first)], narrowed := true }
def SniffFirstUptoSaid : Prop := sniffFirstUptoRow.holds Tryd.pinned (OpenSpec.upto sniffFirstSpec)

/-- 'colanderlaw11.SniffOrder', WHERE WHAT IT READS IS OF BULK AT MOST 1048576: true; the input reads as it did. -/
def sniffOrderUptoRow : OpenClaim := { program := "ytecpgelhhbbjmaadoor", sum := "33f47453e70dfaaffd2f96c051928d0492d92b7c056fddff45226167235a2d37", func := "colander/colanderlaw11.SniffOrder", spec := "sniffOrder", inPlace := ["internal/bytealg.IndexByteString", "internal/bytealg.IndexString", "internal/bytealg.IndexByte", "internal/bytealg.Index", "internal/abi.NoEscape"], unfollowed := true, recurses := true, named := ["unicode/utf8.first", "unicode/utf8.acceptRanges", "internal/bytealg.MaxLen"], apart := false, laid := [("unicode/utf8.acceptRanges", laid_unicode_utf8_acceptRanges), ("unicode/utf8.first", laid_unicode_utf8_first)], narrowed := true }
def SniffOrderUptoSaid : Prop := sniffOrderUptoRow.holds Tryd.pinned (OpenSpec.upto sniffOrderSpec)

/-- 'colanderlaw11.SniffReads', WHERE WHAT IT READS IS OF BULK AT MOST 1048576: true; the input reads as it did. -/
def sniffReadsUptoRow : OpenClaim := { program := "ytecpgelhhbbjmaadoor", sum := "33f47453e70dfaaffd2f96c051928d0492d92b7c056fddff45226167235a2d37", func := "colander/colanderlaw11.SniffReads", spec := "sniffReads", inPlace := ["internal/bytealg.IndexByteString", "internal/bytealg.IndexString", "internal/bytealg.IndexByte", "internal/bytealg.Index", "internal/abi.NoEscape"], unfollowed := true, recurses := true, named := ["unicode/utf8.first", "unicode/utf8.acceptRanges", "internal/bytealg.MaxLen"], apart := false, laid := [("unicode/utf8.acceptRanges", laid_unicode_utf8_acceptRanges), ("unicode/utf8.first", laid_unicode_utf8_first)], narrowed := true }
def SniffReadsUptoSaid : Prop := sniffReadsUptoRow.holds Tryd.pinned (OpenSpec.upto sniffReadsSpec)

/-- 'colanderlaw11.SniffMeta', WHERE WHAT IT READS IS OF BULK AT MOST 1048576: true; the input reads as it did. -/
def sniffMetaUptoRow : OpenClaim := { program := "ytecpgelhhbbjmaadoor", sum := "33f47453e70dfaaffd2f96c051928d0492d92b7c056fddff45226167235a2d37", func := "colander/colanderlaw11.SniffMeta", spec := "sniffMeta", inPlace := ["internal/bytealg.IndexByteString", "internal/bytealg.IndexString", "internal/bytealg.IndexByte", "internal/bytealg.Index", "internal/abi.NoEscape"], unfollowed := true, recurses := true, named := ["unicode/utf8.first", "unicode/utf8.acceptRanges", "internal/bytealg.MaxLen"], apart := false, laid := [("unicode/utf8.acceptRanges", laid_unicode_utf8_acceptRanges), ("unicode/utf8.first", laid_unicode_utf8_first)], narrowed := true }
def SniffMetaUptoSaid : Prop := sniffMetaUptoRow.holds Tryd.pinned (OpenSpec.upto sniffMetaSpec)

/-- 'colanderlaw11.SniffNothing', WHERE WHAT IT READS IS OF BULK AT MOST 1048576: true; the input reads as it did. -/
def sniffNothingUptoRow : OpenClaim := { program := "ytecpgelhhbbjmaadoor", sum := "33f47453e70dfaaffd2f96c051928d0492d92b7c056fddff45226167235a2d37", func := "colander/colanderlaw11.SniffNothing", spec := "sniffNothing", inPlace := ["internal/bytealg.IndexByteString", "internal/bytealg.IndexString", "internal/bytealg.IndexByte", "internal/bytealg.Index", "internal/abi.NoEscape"], unfollowed := true, recurses := true, named := ["unicode/utf8.first", "unicode/utf8.acceptRanges", "internal/bytealg.MaxLen"], apart := false, laid := [("unicode/utf8.acceptRanges", laid_unicode_utf8_acceptRanges), ("unicode/utf8.first", laid_unicode_utf8_first)], narrowed := true }
def SniffNothingUptoSaid : Prop := sniffNothingUptoRow.holds Tryd.pinned (OpenSpec.upto sniffNothingSpec)

end Rows
end Go.Proofs.YtecpgelhhbbjmaaDoor
