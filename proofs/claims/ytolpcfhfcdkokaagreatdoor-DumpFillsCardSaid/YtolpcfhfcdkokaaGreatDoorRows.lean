/-
  NARROWER THAN 'FOR EVERY INPUT', by the rows' own cells (each row's printed sentence says how): DumpTells: laid · DumpFills: laid · DumpBad: laid · DumpAgain: laid.
  DERIVED. THE GIVEN ROWS OF THIS SEAT. 4 by the template 'for every input the law returns true; each argument reads behind the call as it read before'; 0 by the template 'total and deterministic' (their statements: YtolpcfhfcdkokaaGreatDoorTotals.lean).
  GIVEN WITH THE SEED: the statements are not yours to turn. If you find one false, say at which input.
  Laid BY PROGRAM, IN A SANDBOX (cutbox-rows.mjs): the forced cells as the released guide's own fill.sh prints them over the translation 27ff73469877b59d… (all of the seat's roots in one cut). By AI agents, Wed Nov 11 2026. No macro, syntax, notation, axiom, sorry.
-/
import Derived.Test.YtolpcfhfcdkokaaGreatDoorChecked
import GoSem.PinnedTables
import GoSem.Claim
import GoSem.ClaimJoined
import GoSem.ClaimMapViews
import Derived.JoinedTies
import Derived.KernelRfl
namespace Go.Proofs.YtolpcfhfcdkokaaGreatDoor
/- THE CELL 'sum', in the pinned program and in every row, IS THE sha256 OF THE DUMP (.gsa) THAT YtolpcfhfcdkokaaGreatDoorProg.lean LOADS. Nothing in Lean hashes anything: it is a label: what it is worth is what the hold of that sum in a sandbox is worth. -/
noncomputable def Tryz.pinned : Pinned := { name := "ytolpcfhfcdkokaagreatdoor", sum := "27ff73469877b59d0d7baca89aff2ab28d860b553f14ca6f20f8ac19661804f5", checked := Tryz.checked }
namespace Rows
def none {H : Type} : Left H := { results := [], args := [] }

/- WHAT THE LISTED PACKAGE-LEVEL VARIABLES READ AS WHEN THE CALL BEGINS. Each datum BY PROGRAM (the guide's laid-datum.mjs) off the statement by which the dump's own 'gosem.cut.vars' lays the variable. In a bare row this is a premise. The card (YtolpcfhfcdkokaaGreatDoorCards.lean) ties it to the program's text. -/
def laid_unicode_utf8_acceptRanges {H : Type} : DataW H := .agg [.agg [.lit (.int .u8 128), .lit (.int .u8 191)], .agg [.lit (.int .u8 160), .lit (.int .u8 191)], .agg [.lit (.int .u8 128), .lit (.int .u8 159)], .agg [.lit (.int .u8 144), .lit (.int .u8 191)], .agg [.lit (.int .u8 128), .lit (.int .u8 143)], .agg [.lit (.int .u8 0), .lit (.int .u8 0)], .agg [.lit (.int .u8 0), .lit (.int .u8 0)], .agg [.lit (.int .u8 0), .lit (.int .u8 0)], .agg [.lit (.int .u8 0), .lit (.int .u8 0)], .agg [.lit (.int .u8 0), .lit (.int .u8 0)], .agg [.lit (.int .u8 0), .lit (.int .u8 0)], .agg [.lit (.int .u8 0), .lit (.int .u8 0)], .agg [.lit (.int .u8 0), .lit (.int .u8 0)], .agg [.lit (.int .u8 0), .lit (.int .u8 0)], .agg [.lit (.int .u8 0), .lit (.int .u8 0)], .agg [.lit (.int .u8 0), .lit (.int .u8 0)]]
/-- One of Go's own tables, pinned by name: the form's constant. -/
def laid_unicode_utf8_first : DataW Unit := Go.Pinned.utf8First

/-- 'breakwaterlaw17.DumpTells': WHATEVER THE INPUT: true; the input reads as it did. -/
def dumpTellsSpec : ChangeSpec := { name := "dumpTells", fn := fun _ => fun
  | [d1, d2, d3] => { results := [.lit (.bool true)], args := [d1, d2, d3] }
  | _ => none }
def dumpTellsRow : OpenClaim := { program := "ytolpcfhfcdkokaagreatdoor", sum := "27ff73469877b59d0d7baca89aff2ab28d860b553f14ca6f20f8ac19661804f5", func := "breakwater/breakwaterlaw17.DumpTells", spec := "dumpTells", inPlace := ["internal/bytealg.IndexByteString", "internal/bytealg.IndexString", "internal/bytealg.CountString", "internal/bytealg.abigen_runtime_cmpstring", "maps.clone"], unfollowed := true, recurses := true, named := ["internal/bytealg.MaxLen", "unicode/utf8.first", "unicode/utf8.acceptRanges"], apart := false, laid := [("unicode/utf8.acceptRanges", laid_unicode_utf8_acceptRanges), ("unicode/utf8.first", laid_unicode_utf8_first)] }
def DumpTellsSaid : Prop := dumpTellsRow.holds Tryz.pinned (OpenSpec.ofChange dumpTellsSpec)

/-- ITS FALSE NEIGHBOUR: 'it returns false'. Refute it at one input. -/
def dumpTellsWrong : ChangeSpec := { name := "dumpTells", fn := fun _ => fun
  | [d1, d2, d3] => { results := [.lit (.bool false)], args := [d1, d2, d3] }
  | _ => none }
def DumpTellsWrongFalsely : Prop := dumpTellsRow.holds Tryz.pinned (OpenSpec.ofChange dumpTellsWrong)

/-- 'breakwaterlaw17.DumpFills': WHATEVER THE INPUT: true; the input reads as it did. -/
def dumpFillsSpec : ChangeSpec := { name := "dumpFills", fn := fun _ => fun
  | [d] => { results := [.lit (.bool true)], args := [d] }
  | _ => none }
def dumpFillsRow : OpenClaim := { program := "ytolpcfhfcdkokaagreatdoor", sum := "27ff73469877b59d0d7baca89aff2ab28d860b553f14ca6f20f8ac19661804f5", func := "breakwater/breakwaterlaw17.DumpFills", spec := "dumpFills", inPlace := ["internal/bytealg.IndexByteString", "internal/bytealg.IndexString", "internal/bytealg.CountString", "internal/bytealg.abigen_runtime_cmpstring", "maps.clone"], unfollowed := true, recurses := true, named := ["internal/bytealg.MaxLen", "unicode/utf8.first", "unicode/utf8.acceptRanges"], apart := false, laid := [("unicode/utf8.acceptRanges", laid_unicode_utf8_acceptRanges), ("unicode/utf8.first", laid_unicode_utf8_first)] }
def DumpFillsSaid : Prop := dumpFillsRow.holds Tryz.pinned (OpenSpec.ofChange dumpFillsSpec)

/-- ITS FALSE NEIGHBOUR: 'it returns false'. Refute it at one input. -/
def dumpFillsWrong : ChangeSpec := { name := "dumpFills", fn := fun _ => fun
  | [d] => { results := [.lit (.bool false)], args := [d] }
  | _ => none }
def DumpFillsWrongFalsely : Prop := dumpFillsRow.holds Tryz.pinned (OpenSpec.ofChange dumpFillsWrong)

/-- 'breakwaterlaw17.DumpBad': WHATEVER THE INPUT: true; the input reads as it did. -/
def dumpBadSpec : ChangeSpec := { name := "dumpBad", fn := fun _ => fun
  | [d1, d2, d3] => { results := [.lit (.bool true)], args := [d1, d2, d3] }
  | _ => none }
def dumpBadRow : OpenClaim := { program := "ytolpcfhfcdkokaagreatdoor", sum := "27ff73469877b59d0d7baca89aff2ab28d860b553f14ca6f20f8ac19661804f5", func := "breakwater/breakwaterlaw17.DumpBad", spec := "dumpBad", inPlace := ["internal/bytealg.IndexByteString", "internal/bytealg.IndexString", "internal/bytealg.CountString", "internal/bytealg.abigen_runtime_cmpstring", "maps.clone"], unfollowed := true, recurses := true, named := ["internal/bytealg.MaxLen", "unicode/utf8.first", "unicode/utf8.acceptRanges"], apart := false, laid := [("unicode/utf8.acceptRanges", laid_unicode_utf8_acceptRanges), ("unicode/utf8.first", laid_unicode_utf8_first)] }
def DumpBadSaid : Prop := dumpBadRow.holds Tryz.pinned (OpenSpec.ofChange dumpBadSpec)

/-- ITS FALSE NEIGHBOUR: 'it returns false'. Refute it at one input. -/
def dumpBadWrong : ChangeSpec := { name := "dumpBad", fn := fun _ => fun
  | [d1, d2, d3] => { results := [.lit (.bool false)], args := [d1, d2, d3] }
  | _ => none }
def DumpBadWrongFalsely : Prop := dumpBadRow.holds Tryz.pinned (OpenSpec.ofChange dumpBadWrong)

/-- 'breakwaterlaw17.DumpAgain': WHATEVER THE INPUT: true; the input reads as it did. -/
def dumpAgainSpec : ChangeSpec := { name := "dumpAgain", fn := fun _ => fun
  | [d1, d2, d3] => { results := [.lit (.bool true)], args := [d1, d2, d3] }
  | _ => none }
def dumpAgainRow : OpenClaim := { program := "ytolpcfhfcdkokaagreatdoor", sum := "27ff73469877b59d0d7baca89aff2ab28d860b553f14ca6f20f8ac19661804f5", func := "breakwater/breakwaterlaw17.DumpAgain", spec := "dumpAgain", inPlace := ["internal/bytealg.IndexByteString", "internal/bytealg.IndexString", "internal/bytealg.CountString", "internal/bytealg.abigen_runtime_cmpstring", "maps.clone"], unfollowed := true, recurses := true, named := ["internal/bytealg.MaxLen", "unicode/utf8.first", "unicode/utf8.acceptRanges"], apart := false, laid := [("unicode/utf8.acceptRanges", laid_unicode_utf8_acceptRanges), ("unicode/utf8.first", laid_unicode_utf8_first)] }
def DumpAgainSaid : Prop := dumpAgainRow.holds Tryz.pinned (OpenSpec.ofChange dumpAgainSpec)

/-- ITS FALSE NEIGHBOUR: 'it returns false'. Refute it at one input. -/
def dumpAgainWrong : ChangeSpec := { name := "dumpAgain", fn := fun _ => fun
  | [d1, d2, d3] => { results := [.lit (.bool false)], args := [d1, d2, d3] }
  | _ => none }
def DumpAgainWrongFalsely : Prop := dumpAgainRow.holds Tryz.pinned (OpenSpec.ofChange dumpAgainWrong)

/- THE SECOND FORM. 'bulk': how many values and letters a reading holds, each counted each time it is reached (what is shared counts as often as it is met; a slice's spare places count too). A statement '..UptoSaid' is the law's where the arguments, and the package variables that the reading takes, are together of bulk at most 1048576: NARROWER than '..Said'. Prove '..Said' where nothing that the law and all that it calls make is longer than what came in: it says more and counts as full. Else prove '..UptoSaid'. A law counts once. -/
mutual
def uptoBulk {H : Type} : DataW H → Nat
  | .lit (.string bytes) => bytes.length + 1
  | .lit _ => 1
  | .nil => 1
  | .ptr d => uptoBulk d + 1
  | .slice elems spare => uptoBulkAll elems + uptoBulkAll spare + 1
  | .agg parts => uptoBulkAll parts + 1
  | .iface _ d => uptoBulk d + 1
  | .map entries => uptoBulkEntries entries + 1
  | .held _ => 1
def uptoBulkAll {H : Type} : List (DataW H) → Nat
  | [] => 0
  | d :: r => uptoBulk d + uptoBulkAll r
def uptoBulkEntries {H : Type} : List (Lit × DataW H) → Nat
  | [] => 0
  | x :: r => uptoBulkEntry x + uptoBulkEntries r
def uptoBulkEntry {H : Type} : Lit × DataW H → Nat
  | (.string bytes, d) => bytes.length + uptoBulk d + 1
  | (_, d) => uptoBulk d + 1
 end
def uptoSmall : (H : Type) → List (DataW H) → Bool := fun _ ds => decide (uptoBulkAll ds ≤ 1048576)
def OpenSpec.upto (s : _root_.Go.ChangeSpec) : _root_.Go.OpenSpec := { _root_.Go.OpenSpec.ofChange s with cond := some uptoSmall }

/-- 'breakwaterlaw17.DumpTells', WHERE WHAT IT READS IS OF BULK AT MOST 1048576: true; the input reads as it did. -/
def dumpTellsUptoRow : OpenClaim := { program := "ytolpcfhfcdkokaagreatdoor", sum := "27ff73469877b59d0d7baca89aff2ab28d860b553f14ca6f20f8ac19661804f5", func := "breakwater/breakwaterlaw17.DumpTells", spec := "dumpTells", inPlace := ["internal/bytealg.IndexByteString", "internal/bytealg.IndexString", "internal/bytealg.CountString", "internal/bytealg.abigen_runtime_cmpstring", "maps.clone"], unfollowed := true, recurses := true, named := ["internal/bytealg.MaxLen", "unicode/utf8.first", "unicode/utf8.acceptRanges"], apart := false, laid := [("unicode/utf8.acceptRanges", laid_unicode_utf8_acceptRanges), ("unicode/utf8.first", laid_unicode_utf8_first)], narrowed := true }
def DumpTellsUptoSaid : Prop := dumpTellsUptoRow.holds Tryz.pinned (OpenSpec.upto dumpTellsSpec)

/-- 'breakwaterlaw17.DumpFills', WHERE WHAT IT READS IS OF BULK AT MOST 1048576: true; the input reads as it did. -/
def dumpFillsUptoRow : OpenClaim := { program := "ytolpcfhfcdkokaagreatdoor", sum := "27ff73469877b59d0d7baca89aff2ab28d860b553f14ca6f20f8ac19661804f5", func := "breakwater/breakwaterlaw17.DumpFills", spec := "dumpFills", inPlace := ["internal/bytealg.IndexByteString", "internal/bytealg.IndexString", "internal/bytealg.CountString", "internal/bytealg.abigen_runtime_cmpstring", "maps.clone"], unfollowed := true, recurses := true, named := ["internal/bytealg.MaxLen", "unicode/utf8.first", "unicode/utf8.acceptRanges"], apart := false, laid := [("unicode/utf8.acceptRanges", laid_unicode_utf8_acceptRanges), ("unicode/utf8.first", laid_unicode_utf8_first)], narrowed := true }
def DumpFillsUptoSaid : Prop := dumpFillsUptoRow.holds Tryz.pinned (OpenSpec.upto dumpFillsSpec)

/-- 'breakwaterlaw17.DumpBad', WHERE WHAT IT READS IS OF BULK AT MOST 1048576: true; the input reads as it did. -/
def dumpBadUptoRow : OpenClaim := { program := "ytolpcfhfcdkokaagreatdoor", sum := "27ff73469877b59d0d7baca89aff2ab28d860b553f14ca6f20f8ac19661804f5", func := "breakwater/breakwaterlaw17.DumpBad", spec := "dumpBad", inPlace := ["internal/bytealg.IndexByteString", "internal/bytealg.IndexString", "internal/bytealg.CountString", "internal/bytealg.abigen_runtime_cmpstring", "maps.clone"], unfollowed := true, recurses := true, named := ["internal/bytealg.MaxLen", "unicode/utf8.first", "unicode/utf8.acceptRanges"], apart := false, laid := [("unicode/utf8.acceptRanges", laid_unicode_utf8_acceptRanges), ("unicode/utf8.first", laid_unicode_utf8_first)], narrowed := true }
def DumpBadUptoSaid : Prop := dumpBadUptoRow.holds Tryz.pinned (OpenSpec.upto dumpBadSpec)

/-- 'breakwaterlaw17.DumpAgain', WHERE WHAT IT READS IS OF BULK AT MOST 1048576: true; the input reads as it did. -/
def dumpAgainUptoRow : OpenClaim := { program := "ytolpcfhfcdkokaagreatdoor", sum := "27ff73469877b59d0d7baca89aff2ab28d860b553f14ca6f20f8ac19661804f5", func := "breakwater/breakwaterlaw17.DumpAgain", spec := "dumpAgain", inPlace := ["internal/bytealg.IndexByteString", "internal/bytealg.IndexString", "internal/bytealg.CountString", "internal/bytealg.abigen_runtime_cmpstring", "maps.clone"], unfollowed := true, recurses := true, named := ["internal/bytealg.MaxLen", "unicode/utf8.first", "unicode/utf8.acceptRanges"], apart := false, laid := [("unicode/utf8.acceptRanges", laid_unicode_utf8_acceptRanges), ("unicode/utf8.first", laid_unicode_utf8_first)], narrowed := true }
def DumpAgainUptoSaid : Prop := dumpAgainUptoRow.holds Tryz.pinned (OpenSpec.upto dumpAgainSpec)

end Rows
end Go.Proofs.YtolpcfhfcdkokaaGreatDoor
