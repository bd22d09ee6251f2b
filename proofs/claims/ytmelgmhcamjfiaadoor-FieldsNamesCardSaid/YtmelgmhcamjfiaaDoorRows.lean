/-
  NARROWER THAN 'FOR EVERY INPUT', by the rows' own cells (each row's printed sentence says how): FieldsRights: laid · FieldsNames: laid · FieldsMembers: laid · FieldsParted: laid.
  DERIVED. THE GIVEN ROWS OF THIS SEAT. 4 by the template 'for every input the law returns true; each argument reads behind the call as it read before'; 0 by the template 'total and deterministic' (their statements: YtmelgmhcamjfiaaDoorTotals.lean).
  GIVEN WITH THE SEED: the statements are not yours to turn. If you find one false, say at which input.
  Laid BY PROGRAM, IN A SANDBOX (cutbox-rows.mjs): the forced cells as the released guide's own fill.sh prints them over the translation d58b73387ad89556… (all of the seat's roots in one cut). By AI agents, Wed Nov 11 2026. No macro, syntax, notation, axiom, sorry.
-/
import Derived.Test.YtmelgmhcamjfiaaDoorChecked
import GoSem.PinnedTables
import GoSem.Claim
import GoSem.ClaimJoined
import GoSem.ClaimMapViews
import Derived.JoinedTies
import Derived.KernelRfl
namespace Go.Proofs.YtmelgmhcamjfiaaDoor
/- THE CELL 'sum', in the pinned program and in every row, IS THE sha256 OF THE DUMP (.gsa) THAT YtmelgmhcamjfiaaDoorProg.lean LOADS. Nothing in Lean hashes anything: it is a label: what it is worth is what the hold of that sum in a sandbox is worth. -/
noncomputable def Tryd.pinned : Pinned := { name := "ytmelgmhcamjfiaadoor", sum := "d58b73387ad895563b96fd789636207328dd3b9a261ead388c66afcb52f7b069", checked := Tryd.checked }
namespace Rows
def none {H : Type} : Left H := { results := [], args := [] }

/- WHAT THE LISTED PACKAGE-LEVEL VARIABLES READ AS WHEN THE CALL BEGINS. Each datum BY PROGRAM (the guide's laid-datum.mjs) off the statement by which the dump's own 'gosem.cut.vars' lays the variable. In a bare row this is a premise. The card (YtmelgmhcamjfiaaDoorCards.lean) ties it to the program's text. -/
def laid_unicode_utf8_acceptRanges {H : Type} : DataW H := .agg [.agg [.lit (.int .u8 128), .lit (.int .u8 191)], .agg [.lit (.int .u8 160), .lit (.int .u8 191)], .agg [.lit (.int .u8 128), .lit (.int .u8 159)], .agg [.lit (.int .u8 144), .lit (.int .u8 191)], .agg [.lit (.int .u8 128), .lit (.int .u8 143)], .agg [.lit (.int .u8 0), .lit (.int .u8 0)], .agg [.lit (.int .u8 0), .lit (.int .u8 0)], .agg [.lit (.int .u8 0), .lit (.int .u8 0)], .agg [.lit (.int .u8 0), .lit (.int .u8 0)], .agg [.lit (.int .u8 0), .lit (.int .u8 0)], .agg [.lit (.int .u8 0), .lit (.int .u8 0)], .agg [.lit (.int .u8 0), .lit (.int .u8 0)], .agg [.lit (.int .u8 0), .lit (.int .u8 0)], .agg [.lit (.int .u8 0), .lit (.int .u8 0)], .agg [.lit (.int .u8 0), .lit (.int .u8 0)], .agg [.lit (.int .u8 0), .lit (.int .u8 0)]]
/-- One of Go's own tables, pinned by name: the form's constant. -/
def laid_unicode_utf8_first : DataW Unit := Go.Pinned.utf8First

/-- 'colanderlaw04.FieldsRights': WHATEVER THE INPUT: true; the input reads as it did. -/
def fieldsRightsSpec : ChangeSpec := { name := "fieldsRights", fn := fun _ => fun
  | [d] => { results := [.lit (.bool true)], args := [d] }
  | _ => none }
def fieldsRightsRow : OpenClaim := { program := "ytmelgmhcamjfiaadoor", sum := "d58b73387ad895563b96fd789636207328dd3b9a261ead388c66afcb52f7b069", func := "colander/colanderlaw04.FieldsRights", spec := "fieldsRights", inPlace := ["internal/bytealg.IndexByteString", "internal/bytealg.IndexString", "internal/abi.NoEscape"], unfollowed := true, recurses := true, named := ["unicode/utf8.first", "unicode/utf8.acceptRanges", "internal/bytealg.MaxLen"], apart := false, laid := [("unicode/utf8.acceptRanges", laid_unicode_utf8_acceptRanges), ("unicode/utf8.first", laid_unicode_utf8_first)] }
def FieldsRightsSaid : Prop := fieldsRightsRow.holds Tryd.pinned (OpenSpec.ofChange fieldsRightsSpec)

/-- ITS FALSE NEIGHBOUR: 'it returns false'. Refute it at one input. -/
def fieldsRightsWrong : ChangeSpec := { name := "fieldsRights", fn := fun _ => fun
  | [d] => { results := [.lit (.bool false)], args := [d] }
  | _ => none }
def FieldsRightsWrongFalsely : Prop := fieldsRightsRow.holds Tryd.pinned (OpenSpec.ofChange fieldsRightsWrong)

/-- 'colanderlaw04.FieldsNames': WHATEVER THE INPUT: true; the input reads as it did. -/
def fieldsNamesSpec : ChangeSpec := { name := "fieldsNames", fn := fun _ => fun
  | [d1, d2] => { results := [.lit (.bool true)], args := [d1, d2] }
  | _ => none }
def fieldsNamesRow : OpenClaim := { program := "ytmelgmhcamjfiaadoor", sum := "d58b73387ad895563b96fd789636207328dd3b9a261ead388c66afcb52f7b069", func := "colander/colanderlaw04.FieldsNames", spec := "fieldsNames", inPlace := ["internal/bytealg.IndexByteString", "internal/bytealg.IndexString", "internal/abi.NoEscape"], unfollowed := true, recurses := true, named := ["unicode/utf8.first", "unicode/utf8.acceptRanges", "internal/bytealg.MaxLen"], apart := false, laid := [("unicode/utf8.acceptRanges", laid_unicode_utf8_acceptRanges), ("unicode/utf8.first", laid_unicode_utf8_first)] }
def FieldsNamesSaid : Prop := fieldsNamesRow.holds Tryd.pinned (OpenSpec.ofChange fieldsNamesSpec)

/-- ITS FALSE NEIGHBOUR: 'it returns false'. Refute it at one input. -/
def fieldsNamesWrong : ChangeSpec := { name := "fieldsNames", fn := fun _ => fun
  | [d1, d2] => { results := [.lit (.bool false)], args := [d1, d2] }
  | _ => none }
def FieldsNamesWrongFalsely : Prop := fieldsNamesRow.holds Tryd.pinned (OpenSpec.ofChange fieldsNamesWrong)

/-- 'colanderlaw04.FieldsMembers': WHATEVER THE INPUT: true; the input reads as it did. -/
def fieldsMembersSpec : ChangeSpec := { name := "fieldsMembers", fn := fun _ => fun
  | [d1, d2] => { results := [.lit (.bool true)], args := [d1, d2] }
  | _ => none }
def fieldsMembersRow : OpenClaim := { program := "ytmelgmhcamjfiaadoor", sum := "d58b73387ad895563b96fd789636207328dd3b9a261ead388c66afcb52f7b069", func := "colander/colanderlaw04.FieldsMembers", spec := "fieldsMembers", inPlace := ["internal/bytealg.IndexByteString", "internal/bytealg.IndexString", "internal/abi.NoEscape"], unfollowed := true, recurses := true, named := ["unicode/utf8.first", "unicode/utf8.acceptRanges", "internal/bytealg.MaxLen"], apart := false, laid := [("unicode/utf8.acceptRanges", laid_unicode_utf8_acceptRanges), ("unicode/utf8.first", laid_unicode_utf8_first)] }
def FieldsMembersSaid : Prop := fieldsMembersRow.holds Tryd.pinned (OpenSpec.ofChange fieldsMembersSpec)

/-- ITS FALSE NEIGHBOUR: 'it returns false'. Refute it at one input. -/
def fieldsMembersWrong : ChangeSpec := { name := "fieldsMembers", fn := fun _ => fun
  | [d1, d2] => { results := [.lit (.bool false)], args := [d1, d2] }
  | _ => none }
def FieldsMembersWrongFalsely : Prop := fieldsMembersRow.holds Tryd.pinned (OpenSpec.ofChange fieldsMembersWrong)

/-- 'colanderlaw04.FieldsParted': WHATEVER THE INPUT: true; the input reads as it did. -/
def fieldsPartedSpec : ChangeSpec := { name := "fieldsParted", fn := fun _ => fun
  | [d1, d2] => { results := [.lit (.bool true)], args := [d1, d2] }
  | _ => none }
def fieldsPartedRow : OpenClaim := { program := "ytmelgmhcamjfiaadoor", sum := "d58b73387ad895563b96fd789636207328dd3b9a261ead388c66afcb52f7b069", func := "colander/colanderlaw04.FieldsParted", spec := "fieldsParted", inPlace := ["internal/bytealg.IndexByteString", "internal/bytealg.IndexString", "internal/abi.NoEscape"], unfollowed := true, recurses := true, named := ["unicode/utf8.first", "unicode/utf8.acceptRanges", "internal/bytealg.MaxLen"], apart := false, laid := [("unicode/utf8.acceptRanges", laid_unicode_utf8_acceptRanges), ("unicode/utf8.first", laid_unicode_utf8_first)] }
def FieldsPartedSaid : Prop := fieldsPartedRow.holds Tryd.pinned (OpenSpec.ofChange fieldsPartedSpec)

/-- ITS FALSE NEIGHBOUR: 'it returns false'. Refute it at one input. -/
def fieldsPartedWrong : ChangeSpec := { name := "fieldsParted", fn := fun _ => fun
  | [d1, d2] => { results := [.lit (.bool false)], args := [d1, d2] }
  | _ => none }
def FieldsPartedWrongFalsely : Prop := fieldsPartedRow.holds Tryd.pinned (OpenSpec.ofChange fieldsPartedWrong)

/- THE SECOND FORM. 'bulk': how many values and letters a reading holds, each counted each time it is reached (what is shared counts as often as it is met; a slice's spare places count too). A statement '..UptoSaid' is the law's where the arguments, and the package variables that the reading takes, are together of bulk at most 1048576: NARROWER than '..Said'. Prove '..Said' where nothing that the law and all that it calls make is longer than what came in: it says more and counts as full. Else prove '..UptoSaid'. A law counts once. -/
mutual
def uptoBulk {H : Type} : DataW H → Nat
  | .lit (.string bytes) => bytes.length + 1
  | .lit _ => 1
  | .nil => 1
  | .ptr d => uptoBulk d + 1
  | .slice elems spare => uptoBulkAll elems + uptoBulkAll spare + 1
  | .agg parts => uptoBulkAll parts + 1
  | .iface _ d => uptoBulk d + 1
  | .map entries => uptoBulkEntries entries + 1
  | .held _ => 1
def uptoBulkAll {H : Type} : List (DataW H) → Nat
  | [] => 0
  | d :: r => uptoBulk d + uptoBulkAll r
def uptoBulkEntries {H : Type} : List (Lit × DataW H) → Nat
  | [] => 0
  | x :: r => uptoBulkEntry x + uptoBulkEntries r
def uptoBulkEntry {H : Type} : Lit × DataW H → Nat
  | (.string bytes, d) => bytes.length + uptoBulk d + 1
  | (_, d) => uptoBulk d + 1
 end
def uptoSmall : (H : Type) → List (DataW H) → Bool := fun _ ds => decide (uptoBulkAll ds ≤ 1048576)
def OpenSpec.upto (s : _root_.Go.ChangeSpec) : _root_.Go.OpenSpec := { _root_.Go.OpenSpec.ofChange s with cond := some uptoSmall }

/-- 'colanderlaw04.FieldsRights', WHERE WHAT IT READS IS OF BULK AT MOST 1048576: true; the input reads as it did. -/
def fieldsRightsUptoRow : OpenClaim := { program := "ytmelgmhcamjfiaadoor", sum := "d58b73387ad895563b96fd789636207328dd3b9a261ead388c66afcb52f7b069", func := "colander/colanderlaw04.FieldsRights", spec := "fieldsRights", inPlace := ["internal/bytealg.IndexByteString", "internal/bytealg.IndexString", "internal/abi.NoEscape"], unfollowed := true, recurses := true, named := ["unicode/utf8.first", "unicode/utf8.acceptRanges", "internal/bytealg.MaxLen"], apart := false, laid := [("unicode/utf8.acceptRanges", laid_unicode_utf8_acceptRanges), ("unicode/utf8.first", laid_unicode_utf8_first)], narrowed := true }
def FieldsRightsUptoSaid : Prop := fieldsRightsUptoRow.holds Tryd.pinned (OpenSpec.upto fieldsRightsSpec)

/-- 'colanderlaw04.FieldsNames', WHERE WHAT IT READS IS OF BULK AT MOST 1048576: true; the input reads as it did. -/
def fieldsNamesUptoRow : OpenClaim := { program := "ytmelgmhcamjfiaadoor", sum := "d58b73387ad895563b96fd789636207328dd3b9a261ead388c66afcb52f7b069", func := "colander/colanderlaw04.FieldsNames", spec := "fieldsNames", inPlace := ["internal/bytealg.IndexByteString", "internal/bytealg.IndexString", "internal/abi.NoEscape"], unfollowed := true, recurses := true, named := ["unicode/utf8.first", "unicode/utf8.acceptRanges", "internal/bytealg.MaxLen"], apart := false, laid := [("unicode/utf8.acceptRanges", laid_unicode_utf8_acceptRanges), ("unicode/utf8.first", laid_unicode_utf8_first)], narrowed := true }
def FieldsNamesUptoSaid : Prop := fieldsNamesUptoRow.holds Tryd.pinned (OpenSpec.upto fieldsNamesSpec)

/-- 'colanderlaw04.FieldsMembers', WHERE WHAT IT READS IS OF BULK AT MOST 1048576: true; the input reads as it did. -/
def fieldsMembersUptoRow : OpenClaim := { program := "ytmelgmhcamjfiaadoor", sum := "d58b73387ad895563b96fd789636207328dd3b9a261ead388c66afcb52f7b069", func := "colander/colanderlaw04.FieldsMembers", spec := "fieldsMembers", inPlace := ["internal/bytealg.IndexByteString", "internal/bytealg.IndexString", "internal/abi.NoEscape"], unfollowed := true, recurses := true, named := ["unicode/utf8.first", "unicode/utf8.acceptRanges", "internal/bytealg.MaxLen"], apart := false, laid := [("unicode/utf8.acceptRanges", laid_unicode_utf8_acceptRanges), ("unicode/utf8.first", laid_unicode_utf8_first)], narrowed := true }
def FieldsMembersUptoSaid : Prop := fieldsMembersUptoRow.holds Tryd.pinned (OpenSpec.upto fieldsMembersSpec)

/-- 'colanderlaw04.FieldsParted', WHERE WHAT IT READS IS OF BULK AT MOST 1048576: true; the input reads as it did. -/
def fieldsPartedUptoRow : OpenClaim := { program := "ytmelgmhcamjfiaadoor", sum := "d58b73387ad895563b96fd789636207328dd3b9a261ead388c66afcb52f7b069", func := "colander/colanderlaw04.FieldsParted", spec := "fieldsParted", inPlace := ["internal/bytealg.IndexByteString", "internal/bytealg.IndexString", "internal/abi.NoEscape"], unfollowed := true, recurses := true, named := ["unicode/utf8.first", "unicode/utf8.acceptRanges", "internal/bytealg.MaxLen"], apart := false, laid := [("unicode/utf8.acceptRanges", laid_unicode_utf8_acceptRanges), ("unicode/utf8.first", laid_unicode_utf8_first)], narrowed := true }
def FieldsPartedUptoSaid : Prop := fieldsPartedUptoRow.holds Tryd.pinned (OpenSpec.upto fieldsPartedSpec)

end Rows
end Go.Proofs.YtmelgmhcamjfiaaDoor
