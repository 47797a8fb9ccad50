/-
  No cell of these rows narrows 'for every input' (looked for: loops, veiled, ifaces, maps, wideKeys, modest, calm, conditions, laid).
  DERIVED. THE GIVEN ROWS OF THIS SEAT. 4 by the template 'for every input the law returns true; each argument reads behind the call as it read before'; 0 by the template 'total and deterministic' (their statements: YtolpcfhfcdkokaaTotals.lean).
  GIVEN WITH THE SEED: the statements are not yours to turn. If you find one false, say at which input.
  Laid BY PROGRAM, IN A SANDBOX (cutbox-rows.mjs): the forced cells as the released guide's own fill.sh prints them over the translation 5176c00c551a3641… (all of the seat's roots in one cut). By AI agents, Wed Nov 11 2026. No macro, syntax, notation, axiom, sorry.
-/
import Derived.Test.YtolpcfhfcdkokaaChecked
import GoSem.Claim
import GoSem.ClaimJoined
import GoSem.ClaimMapViews
import Derived.JoinedTies
import Derived.KernelRfl
namespace Go.Proofs.Ytolpcfhfcdkokaa
/- THE CELL 'sum', in the pinned program and in every row, IS THE sha256 OF THE DUMP (.gsa) THAT YtolpcfhfcdkokaaProg.lean LOADS. Nothing in Lean hashes anything: it is a label: what it is worth is what the hold of that sum in a sandbox is worth. -/
noncomputable def Try.pinned : Pinned := { name := "ytolpcfhfcdkokaa", sum := "5176c00c551a36410ef4303925fc863b10edf8e17774859cbcf812d08947ee3f", checked := Try.checked }
namespace Rows
def none {H : Type} : Left H := { results := [], args := [] }

/-- 'breakwaterlaw17.DumpWrites': WHATEVER THE INPUT: true; the input reads as it did. -/
def dumpWritesSpec : ChangeSpec := { name := "dumpWrites", fn := fun _ => fun
  | [d] => { results := [.lit (.bool true)], args := [d] }
  | _ => none }
def dumpWritesRow : OpenClaim := { program := "ytolpcfhfcdkokaa", sum := "5176c00c551a36410ef4303925fc863b10edf8e17774859cbcf812d08947ee3f", func := "breakwater/breakwaterlaw17.DumpWrites", spec := "dumpWrites", apart := false }
def DumpWritesSaid : Prop := dumpWritesRow.holds Try.pinned (OpenSpec.ofChange dumpWritesSpec)

/-- ITS FALSE NEIGHBOUR: 'it returns false'. Refute it at one input. -/
def dumpWritesWrong : ChangeSpec := { name := "dumpWrites", fn := fun _ => fun
  | [d] => { results := [.lit (.bool false)], args := [d] }
  | _ => none }
def DumpWritesWrongFalsely : Prop := dumpWritesRow.holds Try.pinned (OpenSpec.ofChange dumpWritesWrong)

/-- 'breakwaterlaw17.DumpReads': WHATEVER THE INPUT: true; the input reads as it did. -/
def dumpReadsSpec : ChangeSpec := { name := "dumpReads", fn := fun _ => fun
  | [d] => { results := [.lit (.bool true)], args := [d] }
  | _ => none }
def dumpReadsRow : OpenClaim := { program := "ytolpcfhfcdkokaa", sum := "5176c00c551a36410ef4303925fc863b10edf8e17774859cbcf812d08947ee3f", func := "breakwater/breakwaterlaw17.DumpReads", spec := "dumpReads", apart := false }
def DumpReadsSaid : Prop := dumpReadsRow.holds Try.pinned (OpenSpec.ofChange dumpReadsSpec)

/-- ITS FALSE NEIGHBOUR: 'it returns false'. Refute it at one input. -/
def dumpReadsWrong : ChangeSpec := { name := "dumpReads", fn := fun _ => fun
  | [d] => { results := [.lit (.bool false)], args := [d] }
  | _ => none }
def DumpReadsWrongFalsely : Prop := dumpReadsRow.holds Try.pinned (OpenSpec.ofChange dumpReadsWrong)

/-- 'breakwaterlaw17.DumpBack': WHATEVER THE INPUT: true; the input reads as it did. -/
def dumpBackSpec : ChangeSpec := { name := "dumpBack", fn := fun _ => fun
  | [d1, d2] => { results := [.lit (.bool true)], args := [d1, d2] }
  | _ => none }
def dumpBackRow : OpenClaim := { program := "ytolpcfhfcdkokaa", sum := "5176c00c551a36410ef4303925fc863b10edf8e17774859cbcf812d08947ee3f", func := "breakwater/breakwaterlaw17.DumpBack", spec := "dumpBack", apart := false }
def DumpBackSaid : Prop := dumpBackRow.holds Try.pinned (OpenSpec.ofChange dumpBackSpec)

/-- ITS FALSE NEIGHBOUR: 'it returns false'. Refute it at one input. -/
def dumpBackWrong : ChangeSpec := { name := "dumpBack", fn := fun _ => fun
  | [d1, d2] => { results := [.lit (.bool false)], args := [d1, d2] }
  | _ => none }
def DumpBackWrongFalsely : Prop := dumpBackRow.holds Try.pinned (OpenSpec.ofChange dumpBackWrong)

/-- 'breakwaterlaw17.DumpNothing': WHATEVER THE INPUT: true; the input reads as it did. -/
def dumpNothingSpec : ChangeSpec := { name := "dumpNothing", fn := fun _ => fun
  | [d] => { results := [.lit (.bool true)], args := [d] }
  | _ => none }
def dumpNothingRow : OpenClaim := { program := "ytolpcfhfcdkokaa", sum := "5176c00c551a36410ef4303925fc863b10edf8e17774859cbcf812d08947ee3f", func := "breakwater/breakwaterlaw17.DumpNothing", spec := "dumpNothing", unfollowed := true, recurses := true, apart := false }
def DumpNothingSaid : Prop := dumpNothingRow.holds Try.pinned (OpenSpec.ofChange dumpNothingSpec)

/-- ITS FALSE NEIGHBOUR: 'it returns false'. Refute it at one input. -/
def dumpNothingWrong : ChangeSpec := { name := "dumpNothing", fn := fun _ => fun
  | [d] => { results := [.lit (.bool false)], args := [d] }
  | _ => none }
def DumpNothingWrongFalsely : Prop := dumpNothingRow.holds Try.pinned (OpenSpec.ofChange dumpNothingWrong)

/- THE SECOND FORM. 'bulk': how many values and letters a reading holds, each counted each time it is reached (what is shared counts as often as it is met; a slice's spare places count too). A statement '..UptoSaid' is the law's where the arguments, and the package variables that the reading takes, are together of bulk at most 1048576: NARROWER than '..Said'. Prove '..Said' where nothing that the law and all that it calls make is longer than what came in: it says more and counts as full. Else prove '..UptoSaid'. A law counts once. -/
mutual
def uptoBulk {H : Type} : DataW H → Nat
  | .lit (.string bytes) => bytes.length + 1
  | .lit _ => 1
  | .nil => 1
  | .ptr d => uptoBulk d + 1
  | .slice elems spare => uptoBulkAll elems + uptoBulkAll spare + 1
  | .agg parts => uptoBulkAll parts + 1
  | .iface _ d => uptoBulk d + 1
  | .map entries => uptoBulkEntries entries + 1
  | .held _ => 1
def uptoBulkAll {H : Type} : List (DataW H) → Nat
  | [] => 0
  | d :: r => uptoBulk d + uptoBulkAll r
def uptoBulkEntries {H : Type} : List (Lit × DataW H) → Nat
  | [] => 0
  | x :: r => uptoBulkEntry x + uptoBulkEntries r
def uptoBulkEntry {H : Type} : Lit × DataW H → Nat
  | (.string bytes, d) => bytes.length + uptoBulk d + 1
  | (_, d) => uptoBulk d + 1
 end
def uptoSmall : (H : Type) → List (DataW H) → Bool := fun _ ds => decide (uptoBulkAll ds ≤ 1048576)
def OpenSpec.upto (s : _root_.Go.ChangeSpec) : _root_.Go.OpenSpec := { _root_.Go.OpenSpec.ofChange s with cond := some uptoSmall }

/-- 'breakwaterlaw17.DumpWrites', WHERE WHAT IT READS IS OF BULK AT MOST 1048576: true; the input reads as it did. -/
def dumpWritesUptoRow : OpenClaim := { program := "ytolpcfhfcdkokaa", sum := "5176c00c551a36410ef4303925fc863b10edf8e17774859cbcf812d08947ee3f", func := "breakwater/breakwaterlaw17.DumpWrites", spec := "dumpWrites", apart := false, narrowed := true }
def DumpWritesUptoSaid : Prop := dumpWritesUptoRow.holds Try.pinned (OpenSpec.upto dumpWritesSpec)

/-- 'breakwaterlaw17.DumpReads', WHERE WHAT IT READS IS OF BULK AT MOST 1048576: true; the input reads as it did. -/
def dumpReadsUptoRow : OpenClaim := { program := "ytolpcfhfcdkokaa", sum := "5176c00c551a36410ef4303925fc863b10edf8e17774859cbcf812d08947ee3f", func := "breakwater/breakwaterlaw17.DumpReads", spec := "dumpReads", apart := false, narrowed := true }
def DumpReadsUptoSaid : Prop := dumpReadsUptoRow.holds Try.pinned (OpenSpec.upto dumpReadsSpec)

/-- 'breakwaterlaw17.DumpBack', WHERE WHAT IT READS IS OF BULK AT MOST 1048576: true; the input reads as it did. -/
def dumpBackUptoRow : OpenClaim := { program := "ytolpcfhfcdkokaa", sum := "5176c00c551a36410ef4303925fc863b10edf8e17774859cbcf812d08947ee3f", func := "breakwater/breakwaterlaw17.DumpBack", spec := "dumpBack", apart := false, narrowed := true }
def DumpBackUptoSaid : Prop := dumpBackUptoRow.holds Try.pinned (OpenSpec.upto dumpBackSpec)

/-- 'breakwaterlaw17.DumpNothing', WHERE WHAT IT READS IS OF BULK AT MOST 1048576: true; the input reads as it did. -/
def dumpNothingUptoRow : OpenClaim := { program := "ytolpcfhfcdkokaa", sum := "5176c00c551a36410ef4303925fc863b10edf8e17774859cbcf812d08947ee3f", func := "breakwater/breakwaterlaw17.DumpNothing", spec := "dumpNothing", unfollowed := true, recurses := true, apart := false, narrowed := true }
def DumpNothingUptoSaid : Prop := dumpNothingUptoRow.holds Try.pinned (OpenSpec.upto dumpNothingSpec)

end Rows
end Go.Proofs.Ytolpcfhfcdkokaa
