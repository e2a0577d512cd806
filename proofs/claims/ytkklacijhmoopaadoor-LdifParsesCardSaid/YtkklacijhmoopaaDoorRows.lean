/-
  NARROWER THAN 'FOR EVERY INPUT', by the rows' own cells (each row's printed sentence says how): LdifParses: laid · DnParses: laid · DnPrints: laid · DnSame: laid.
  DERIVED. THE GIVEN ROWS OF THIS SEAT. 4 by the template 'for every input the law returns true; each argument reads behind the call as it read before'; 0 by the template 'total and deterministic' (their statements: YtkklacijhmoopaaDoorTotals.lean).
  GIVEN WITH THE SEED: the statements are not yours to turn. If you find one false, say at which input.
  Laid BY PROGRAM, IN A SANDBOX (cutbox-rows.mjs): the forced cells as the released guide's own fill.sh prints them over the translation 6f13b59466e1f028… (all of the seat's roots in one cut). By AI agents, Wed Nov 11 2026. No macro, syntax, notation, axiom, sorry.
-/
import Derived.Test.YtkklacijhmoopaaDoorChecked
import GoSem.PinnedTables
import GoSem.Claim
import GoSem.ClaimJoined
import GoSem.ClaimMapViews
import Derived.JoinedTies
import Derived.KernelRfl
namespace Go.Proofs.YtkklacijhmoopaaDoor
/- THE CELL 'sum', in the pinned program and in every row, IS THE sha256 OF THE DUMP (.gsa) THAT YtkklacijhmoopaaDoorProg.lean LOADS. Nothing in Lean hashes anything: it is a label: what it is worth is what the hold of that sum in a sandbox is worth. -/
noncomputable def Tryd.pinned : Pinned := { name := "ytkklacijhmoopaadoor", sum := "6f13b59466e1f028dfe40d99d2e582ca823d6d8ffb804f0080040b822961db24", checked := Tryd.checked }
namespace Rows
def none {H : Type} : Left H := { results := [], args := [] }

/- WHAT THE LISTED PACKAGE-LEVEL VARIABLES READ AS WHEN THE CALL BEGINS. Each datum BY PROGRAM (the guide's laid-datum.mjs) off the statement by which the dump's own 'gosem.cut.vars' lays the variable. In a bare row this is a premise. The card (YtkklacijhmoopaaDoorCards.lean) ties it to the program's text. -/
def laid_unicode_utf8_acceptRanges {H : Type} : DataW H := .agg [.agg [.lit (.int .u8 128), .lit (.int .u8 191)], .agg [.lit (.int .u8 160), .lit (.int .u8 191)], .agg [.lit (.int .u8 128), .lit (.int .u8 159)], .agg [.lit (.int .u8 144), .lit (.int .u8 191)], .agg [.lit (.int .u8 128), .lit (.int .u8 143)], .agg [.lit (.int .u8 0), .lit (.int .u8 0)], .agg [.lit (.int .u8 0), .lit (.int .u8 0)], .agg [.lit (.int .u8 0), .lit (.int .u8 0)], .agg [.lit (.int .u8 0), .lit (.int .u8 0)], .agg [.lit (.int .u8 0), .lit (.int .u8 0)], .agg [.lit (.int .u8 0), .lit (.int .u8 0)], .agg [.lit (.int .u8 0), .lit (.int .u8 0)], .agg [.lit (.int .u8 0), .lit (.int .u8 0)], .agg [.lit (.int .u8 0), .lit (.int .u8 0)], .agg [.lit (.int .u8 0), .lit (.int .u8 0)], .agg [.lit (.int .u8 0), .lit (.int .u8 0)]]
/-- One of Go's own tables, pinned by name: the form's constant. -/
def laid_unicode_utf8_first : DataW Unit := Go.Pinned.utf8First

/-- 'rollbooklaw21.LdifParses': WHATEVER THE INPUT: true; the input reads as it did. -/
def ldifParsesSpec : ChangeSpec := { name := "ldifParses", fn := fun _ => fun
  | [d] => { results := [.lit (.bool true)], args := [d] }
  | _ => none }
def ldifParsesRow : OpenClaim := { program := "ytkklacijhmoopaadoor", sum := "6f13b59466e1f028dfe40d99d2e582ca823d6d8ffb804f0080040b822961db24", func := "rollbook/rollbooklaw21.LdifParses", spec := "ldifParses", inPlace := ["internal/bytealg.IndexByteString", "internal/bytealg.IndexString", "internal/abi.NoEscape"], recurses := true, named := ["internal/bytealg.MaxLen", "unicode/utf8.first", "unicode/utf8.acceptRanges"], apart := false, laid := [("unicode/utf8.acceptRanges", laid_unicode_utf8_acceptRanges), ("unicode/utf8.first", laid_unicode_utf8_first)] }
def LdifParsesSaid : Prop := ldifParsesRow.holds Tryd.pinned (OpenSpec.ofChange ldifParsesSpec)

/-- ITS FALSE NEIGHBOUR: 'it returns false'. Refute it at one input. -/
def ldifParsesWrong : ChangeSpec := { name := "ldifParses", fn := fun _ => fun
  | [d] => { results := [.lit (.bool false)], args := [d] }
  | _ => none }
def LdifParsesWrongFalsely : Prop := ldifParsesRow.holds Tryd.pinned (OpenSpec.ofChange ldifParsesWrong)

/-- 'rollbooklaw15.DnParses': WHATEVER THE INPUT: true; the input reads as it did. -/
def dnParsesSpec : ChangeSpec := { name := "dnParses", fn := fun _ => fun
  | [d] => { results := [.lit (.bool true)], args := [d] }
  | _ => none }
def dnParsesRow : OpenClaim := { program := "ytkklacijhmoopaadoor", sum := "6f13b59466e1f028dfe40d99d2e582ca823d6d8ffb804f0080040b822961db24", func := "rollbook/rollbooklaw15.DnParses", spec := "dnParses", inPlace := ["internal/abi.NoEscape", "internal/bytealg.MakeNoZero", "internal/bytealg.IndexByteString", "internal/bytealg.CountString", "internal/bytealg.IndexString"], unfollowed := true, recurses := true, named := ["unicode/utf8.first", "unicode/utf8.acceptRanges", "internal/bytealg.MaxLen"], apart := false, laid := [("unicode/utf8.acceptRanges", laid_unicode_utf8_acceptRanges), ("unicode/utf8.first", laid_unicode_utf8_first)] }
def DnParsesSaid : Prop := dnParsesRow.holds Tryd.pinned (OpenSpec.ofChange dnParsesSpec)

/-- ITS FALSE NEIGHBOUR: 'it returns false'. Refute it at one input. -/
def dnParsesWrong : ChangeSpec := { name := "dnParses", fn := fun _ => fun
  | [d] => { results := [.lit (.bool false)], args := [d] }
  | _ => none }
def DnParsesWrongFalsely : Prop := dnParsesRow.holds Tryd.pinned (OpenSpec.ofChange dnParsesWrong)

/-- 'rollbooklaw15.DnPrints': WHATEVER THE INPUT: true; the input reads as it did. -/
def dnPrintsSpec : ChangeSpec := { name := "dnPrints", fn := fun _ => fun
  | [d] => { results := [.lit (.bool true)], args := [d] }
  | _ => none }
def dnPrintsRow : OpenClaim := { program := "ytkklacijhmoopaadoor", sum := "6f13b59466e1f028dfe40d99d2e582ca823d6d8ffb804f0080040b822961db24", func := "rollbook/rollbooklaw15.DnPrints", spec := "dnPrints", inPlace := ["internal/abi.NoEscape", "internal/bytealg.MakeNoZero", "internal/bytealg.IndexByteString", "internal/bytealg.CountString", "internal/bytealg.IndexString"], unfollowed := true, recurses := true, named := ["unicode/utf8.first", "unicode/utf8.acceptRanges", "internal/bytealg.MaxLen"], apart := false, laid := [("unicode/utf8.acceptRanges", laid_unicode_utf8_acceptRanges), ("unicode/utf8.first", laid_unicode_utf8_first)] }
def DnPrintsSaid : Prop := dnPrintsRow.holds Tryd.pinned (OpenSpec.ofChange dnPrintsSpec)

/-- ITS FALSE NEIGHBOUR: 'it returns false'. Refute it at one input. -/
def dnPrintsWrong : ChangeSpec := { name := "dnPrints", fn := fun _ => fun
  | [d] => { results := [.lit (.bool false)], args := [d] }
  | _ => none }
def DnPrintsWrongFalsely : Prop := dnPrintsRow.holds Tryd.pinned (OpenSpec.ofChange dnPrintsWrong)

/-- 'rollbooklaw15.DnSame': WHATEVER THE INPUT: true; the input reads as it did. -/
def dnSameSpec : ChangeSpec := { name := "dnSame", fn := fun _ => fun
  | [d1, d2] => { results := [.lit (.bool true)], args := [d1, d2] }
  | _ => none }
def dnSameRow : OpenClaim := { program := "ytkklacijhmoopaadoor", sum := "6f13b59466e1f028dfe40d99d2e582ca823d6d8ffb804f0080040b822961db24", func := "rollbook/rollbooklaw15.DnSame", spec := "dnSame", inPlace := ["internal/abi.NoEscape", "internal/bytealg.MakeNoZero", "internal/bytealg.IndexByteString", "internal/bytealg.CountString", "internal/bytealg.IndexString"], unfollowed := true, recurses := true, named := ["unicode/utf8.first", "unicode/utf8.acceptRanges", "internal/bytealg.MaxLen"], apart := false, laid := [("unicode/utf8.acceptRanges", laid_unicode_utf8_acceptRanges), ("unicode/utf8.first", laid_unicode_utf8_first)] }
def DnSameSaid : Prop := dnSameRow.holds Tryd.pinned (OpenSpec.ofChange dnSameSpec)

/-- ITS FALSE NEIGHBOUR: 'it returns false'. Refute it at one input. -/
def dnSameWrong : ChangeSpec := { name := "dnSame", fn := fun _ => fun
  | [d1, d2] => { results := [.lit (.bool false)], args := [d1, d2] }
  | _ => none }
def DnSameWrongFalsely : Prop := dnSameRow.holds Tryd.pinned (OpenSpec.ofChange dnSameWrong)

/- THE SECOND FORM. 'bulk': how many values and letters a reading holds, each counted each time it is reached (what is shared counts as often as it is met; a slice's spare places count too). A statement '..UptoSaid' is the law's where the arguments, and the package variables that the reading takes, are together of bulk at most 1048576: NARROWER than '..Said'. Prove '..Said' where nothing that the law and all that it calls make is longer than what came in: it says more and counts as full. Else prove '..UptoSaid'. A law counts once. -/
mutual
def uptoBulk {H : Type} : DataW H → Nat
  | .lit (.string bytes) => bytes.length + 1
  | .lit _ => 1
  | .nil => 1
  | .ptr d => uptoBulk d + 1
  | .slice elems spare => uptoBulkAll elems + uptoBulkAll spare + 1
  | .agg parts => uptoBulkAll parts + 1
  | .iface _ d => uptoBulk d + 1
  | .map entries => uptoBulkEntries entries + 1
  | .held _ => 1
def uptoBulkAll {H : Type} : List (DataW H) → Nat
  | [] => 0
  | d :: r => uptoBulk d + uptoBulkAll r
def uptoBulkEntries {H : Type} : List (Lit × DataW H) → Nat
  | [] => 0
  | x :: r => uptoBulkEntry x + uptoBulkEntries r
def uptoBulkEntry {H : Type} : Lit × DataW H → Nat
  | (.string bytes, d) => bytes.length + uptoBulk d + 1
  | (_, d) => uptoBulk d + 1
 end
def uptoSmall : (H : Type) → List (DataW H) → Bool := fun _ ds => decide (uptoBulkAll ds ≤ 1048576)
def OpenSpec.upto (s : _root_.Go.ChangeSpec) : _root_.Go.OpenSpec := { _root_.Go.OpenSpec.ofChange s with cond := some uptoSmall }

/-- 'rollbooklaw21.LdifParses', WHERE WHAT IT READS IS OF BULK AT MOST 1048576: true; the input reads as it did. -/
def ldifParsesUptoRow : OpenClaim := { program := "ytkklacijhmoopaadoor", sum := "6f13b59466e1f028dfe40d99d2e582ca823d6d8ffb804f0080040b822961db24", func := "rollbook/rollbooklaw21.LdifParses", spec := "ldifParses", inPlace := ["internal/bytealg.IndexByteString", "internal/bytealg.IndexString", "internal/abi.NoEscape"], recurses := true, named := ["internal/bytealg.MaxLen", "unicode/utf8.first", "unicode/utf8.acceptRanges"], apart := false, laid := [("unicode/utf8.acceptRanges", laid_unicode_utf8_acceptRanges), ("unicode/utf8.first", laid_unicode_utf8_first)], narrowed := true }
def LdifParsesUptoSaid : Prop := ldifParsesUptoRow.holds Tryd.pinned (OpenSpec.upto ldifParsesSpec)

/-- 'rollbooklaw15.DnParses', WHERE WHAT IT READS IS OF BULK AT MOST 1048576: true; the input reads as it did. -/
def dnParsesUptoRow : OpenClaim := { program := "ytkklacijhmoopaadoor", sum := "6f13b59466e1f028dfe40d99d2e582ca823d6d8ffb804f0080040b822961db24", func := "rollbook/rollbooklaw15.DnParses", spec := "dnParses", inPlace := ["internal/abi.NoEscape", "internal/bytealg.MakeNoZero", "internal/bytealg.IndexByteString", "internal/bytealg.CountString", "internal/bytealg.IndexString"], unfollowed := true, recurses := true, named := ["unicode/utf8.first", "unicode/utf8.acceptRanges", "internal/bytealg.MaxLen"], apart := false, laid := [("unicode/utf8.acceptRanges", laid_unicode_utf8_acceptRanges), ("unicode/utf8.first", laid_unicode_utf8_first)], narrowed := true }
def DnParsesUptoSaid : Prop := dnParsesUptoRow.holds Tryd.pinned (OpenSpec.upto dnParsesSpec)

/-- 'rollbooklaw15.DnPrints', WHERE WHAT IT READS IS OF BULK AT MOST 1048576: true; the input reads as it did. -/
def dnPrintsUptoRow : OpenClaim := { program := "ytkklacijhmoopaadoor", sum := "6f13b59466e1f028dfe40d99d2e582ca823d6d8ffb804f0080040b822961db24", func := "rollbook/rollbooklaw15.DnPrints", spec := "dnPrints", inPlace := ["internal/abi.NoEscape", "internal/bytealg.MakeNoZero", "internal/bytealg.IndexByteString", "internal/bytealg.CountString", "internal/bytealg.IndexString"], unfollowed := true, recurses := true, named := ["unicode/utf8.first", "unicode/utf8.acceptRanges", "internal/bytealg.MaxLen"], apart := false, laid := [("unicode/utf8.acceptRanges", laid_unicode_utf8_acceptRanges), ("unicode/utf8.first", laid_unicode_utf8_first)], narrowed := true }
def DnPrintsUptoSaid : Prop := dnPrintsUptoRow.holds Tryd.pinned (OpenSpec.upto dnPrintsSpec)

/-- 'rollbooklaw15.DnSame', WHERE WHAT IT READS IS OF BULK AT MOST 1048576: true; the input reads as it did. -/
def dnSameUptoRow : OpenClaim := { program := "ytkklacijhmoopaadoor", sum := "6f13b59466e1f028dfe40d99d2e582ca823d6d8ffb804f0080040b822961db24", func := "rollbook/rollbooklaw15.DnSame", spec := "dnSame", inPlace := ["internal/abi.NoEscape", "internal/bytealg.MakeNoZero", "internal/bytealg.IndexByteString", "internal/bytealg.CountString", "internal/bytealg.IndexString"], unfollowed := true, recurses := true, named := ["unicode/utf8.first", "unicode/utf8.acceptRanges", "internal/bytealg.MaxLen"], apart := false, laid := [("unicode/utf8.acceptRanges", laid_unicode_utf8_acceptRanges), ("unicode/utf8.first", laid_unicode_utf8_first)], narrowed := true }
def DnSameUptoSaid : Prop := dnSameUptoRow.holds Tryd.pinned (OpenSpec.upto dnSameSpec)

end Rows
end Go.Proofs.YtkklacijhmoopaaDoor
