/-
  No cell of these rows narrows 'for every input' (looked for: loops, veiled, ifaces, maps, wideKeys, modest, calm, conditions, laid).
  DERIVED. THE GIVEN ROWS OF THIS SEAT. 4 by the template 'for every input the law returns true; each argument reads behind the call as it read before'; 0 by the template 'total and deterministic' (their statements: YtciadbhnodgpgaaTotals.lean).
  GIVEN WITH THE SEED: the statements are not yours to turn. If you find one false, say at which input.
  Laid BY PROGRAM, IN A SANDBOX (cutbox-rows.mjs): the forced cells as the released guide's own fill.sh prints them over the translation f41935d163057fc0… (all of the seat's roots in one cut). By AI agents, Wed Nov 11 2026. No macro, syntax, notation, axiom, sorry.
-/
import Derived.Test.YtciadbhnodgpgaaChecked
import GoSem.Claim
import GoSem.ClaimJoined
import GoSem.ClaimMapViews
import Derived.JoinedTies
import Derived.KernelRfl
namespace Go.Proofs.Ytciadbhnodgpgaa
/- THE CELL 'sum', in the pinned program and in every row, IS THE sha256 OF THE DUMP (.gsa) THAT YtciadbhnodgpgaaProg.lean LOADS. Nothing in Lean hashes anything: it is a label: what it is worth is what the hold of that sum in a sandbox is worth. -/
noncomputable def Try.pinned : Pinned := { name := "ytciadbhnodgpgaa", sum := "f41935d163057fc03350d1e80170a2d0363d026396b1e50015a7086a6f39c3f0", checked := Try.checked }
namespace Rows
def none {H : Type} : Left H := { results := [], args := [] }

/-- 'toponymlaw11.TreePlays': WHATEVER THE INPUT: true; the input reads as it did. -/
def treePlaysSpec : ChangeSpec := { name := "treePlays", fn := fun _ => fun
  | [d1, d2] => { results := [.lit (.bool true)], args := [d1, d2] }
  | _ => none }
def treePlaysRow : OpenClaim := { program := "ytciadbhnodgpgaa", sum := "f41935d163057fc03350d1e80170a2d0363d026396b1e50015a7086a6f39c3f0", func := "toponym/toponymlaw11.TreePlays", spec := "treePlays", inPlace := ["internal/bytealg.abigen_runtime_cmpstring"], unfollowed := true, recurses := true, apart := false }
def TreePlaysSaid : Prop := treePlaysRow.holds Try.pinned (OpenSpec.ofChange treePlaysSpec)

/-- ITS FALSE NEIGHBOUR: 'it returns false'. Refute it at one input. -/
def treePlaysWrong : ChangeSpec := { name := "treePlays", fn := fun _ => fun
  | [d1, d2] => { results := [.lit (.bool false)], args := [d1, d2] }
  | _ => none }
def TreePlaysWrongFalsely : Prop := treePlaysRow.holds Try.pinned (OpenSpec.ofChange treePlaysWrong)

/-- 'toponymlaw11.TreeTexts': WHATEVER THE INPUT: true; the input reads as it did. -/
def treeTextsSpec : ChangeSpec := { name := "treeTexts", fn := fun _ => fun
  | [d1, d2] => { results := [.lit (.bool true)], args := [d1, d2] }
  | _ => none }
def treeTextsRow : OpenClaim := { program := "ytciadbhnodgpgaa", sum := "f41935d163057fc03350d1e80170a2d0363d026396b1e50015a7086a6f39c3f0", func := "toponym/toponymlaw11.TreeTexts", spec := "treeTexts", inPlace := ["internal/bytealg.abigen_runtime_cmpstring"], unfollowed := true, recurses := true, apart := false }
def TreeTextsSaid : Prop := treeTextsRow.holds Try.pinned (OpenSpec.ofChange treeTextsSpec)

/-- ITS FALSE NEIGHBOUR: 'it returns false'. Refute it at one input. -/
def treeTextsWrong : ChangeSpec := { name := "treeTexts", fn := fun _ => fun
  | [d1, d2] => { results := [.lit (.bool false)], args := [d1, d2] }
  | _ => none }
def TreeTextsWrongFalsely : Prop := treeTextsRow.holds Try.pinned (OpenSpec.ofChange treeTextsWrong)

/-- 'toponymlaw11.TreeTurned': WHATEVER THE INPUT: true; the input reads as it did. -/
def treeTurnedSpec : ChangeSpec := { name := "treeTurned", fn := fun _ => fun
  | [d1, d2] => { results := [.lit (.bool true)], args := [d1, d2] }
  | _ => none }
def treeTurnedRow : OpenClaim := { program := "ytciadbhnodgpgaa", sum := "f41935d163057fc03350d1e80170a2d0363d026396b1e50015a7086a6f39c3f0", func := "toponym/toponymlaw11.TreeTurned", spec := "treeTurned", inPlace := ["internal/bytealg.abigen_runtime_cmpstring"], unfollowed := true, recurses := true, apart := false }
def TreeTurnedSaid : Prop := treeTurnedRow.holds Try.pinned (OpenSpec.ofChange treeTurnedSpec)

/-- ITS FALSE NEIGHBOUR: 'it returns false'. Refute it at one input. -/
def treeTurnedWrong : ChangeSpec := { name := "treeTurned", fn := fun _ => fun
  | [d1, d2] => { results := [.lit (.bool false)], args := [d1, d2] }
  | _ => none }
def TreeTurnedWrongFalsely : Prop := treeTurnedRow.holds Try.pinned (OpenSpec.ofChange treeTurnedWrong)

/-- 'toponymlaw11.TreeDeepest': WHATEVER THE INPUT: true; the input reads as it did. -/
def treeDeepestSpec : ChangeSpec := { name := "treeDeepest", fn := fun _ => fun
  | [d1, d2] => { results := [.lit (.bool true)], args := [d1, d2] }
  | _ => none }
def treeDeepestRow : OpenClaim := { program := "ytciadbhnodgpgaa", sum := "f41935d163057fc03350d1e80170a2d0363d026396b1e50015a7086a6f39c3f0", func := "toponym/toponymlaw11.TreeDeepest", spec := "treeDeepest", inPlace := ["internal/bytealg.abigen_runtime_cmpstring"], unfollowed := true, recurses := true, apart := false }
def TreeDeepestSaid : Prop := treeDeepestRow.holds Try.pinned (OpenSpec.ofChange treeDeepestSpec)

/-- ITS FALSE NEIGHBOUR: 'it returns false'. Refute it at one input. -/
def treeDeepestWrong : ChangeSpec := { name := "treeDeepest", fn := fun _ => fun
  | [d1, d2] => { results := [.lit (.bool false)], args := [d1, d2] }
  | _ => none }
def TreeDeepestWrongFalsely : Prop := treeDeepestRow.holds Try.pinned (OpenSpec.ofChange treeDeepestWrong)

/- THE SECOND FORM. 'bulk': how many values and letters a reading holds, each counted each time it is reached (what is shared counts as often as it is met; a slice's spare places count too). A statement '..UptoSaid' is the law's where the arguments, and the package variables that the reading takes, are together of bulk at most 1048576: NARROWER than '..Said'. Prove '..Said' where nothing that the law and all that it calls make is longer than what came in: it says more and counts as full. Else prove '..UptoSaid'. A law counts once. -/
mutual
def uptoBulk {H : Type} : DataW H → Nat
  | .lit (.string bytes) => bytes.length + 1
  | .lit _ => 1
  | .nil => 1
  | .ptr d => uptoBulk d + 1
  | .slice elems spare => uptoBulkAll elems + uptoBulkAll spare + 1
  | .agg parts => uptoBulkAll parts + 1
  | .iface _ d => uptoBulk d + 1
  | .map entries => uptoBulkEntries entries + 1
  | .held _ => 1
def uptoBulkAll {H : Type} : List (DataW H) → Nat
  | [] => 0
  | d :: r => uptoBulk d + uptoBulkAll r
def uptoBulkEntries {H : Type} : List (Lit × DataW H) → Nat
  | [] => 0
  | x :: r => uptoBulkEntry x + uptoBulkEntries r
def uptoBulkEntry {H : Type} : Lit × DataW H → Nat
  | (.string bytes, d) => bytes.length + uptoBulk d + 1
  | (_, d) => uptoBulk d + 1
 end
def uptoSmall : (H : Type) → List (DataW H) → Bool := fun _ ds => decide (uptoBulkAll ds ≤ 1048576)
def OpenSpec.upto (s : _root_.Go.ChangeSpec) : _root_.Go.OpenSpec := { _root_.Go.OpenSpec.ofChange s with cond := some uptoSmall }

/-- 'toponymlaw11.TreePlays', WHERE WHAT IT READS IS OF BULK AT MOST 1048576: true; the input reads as it did. -/
def treePlaysUptoRow : OpenClaim := { program := "ytciadbhnodgpgaa", sum := "f41935d163057fc03350d1e80170a2d0363d026396b1e50015a7086a6f39c3f0", func := "toponym/toponymlaw11.TreePlays", spec := "treePlays", inPlace := ["internal/bytealg.abigen_runtime_cmpstring"], unfollowed := true, recurses := true, apart := false, narrowed := true }
def TreePlaysUptoSaid : Prop := treePlaysUptoRow.holds Try.pinned (OpenSpec.upto treePlaysSpec)

/-- 'toponymlaw11.TreeTexts', WHERE WHAT IT READS IS OF BULK AT MOST 1048576: true; the input reads as it did. -/
def treeTextsUptoRow : OpenClaim := { program := "ytciadbhnodgpgaa", sum := "f41935d163057fc03350d1e80170a2d0363d026396b1e50015a7086a6f39c3f0", func := "toponym/toponymlaw11.TreeTexts", spec := "treeTexts", inPlace := ["internal/bytealg.abigen_runtime_cmpstring"], unfollowed := true, recurses := true, apart := false, narrowed := true }
def TreeTextsUptoSaid : Prop := treeTextsUptoRow.holds Try.pinned (OpenSpec.upto treeTextsSpec)

/-- 'toponymlaw11.TreeTurned', WHERE WHAT IT READS IS OF BULK AT MOST 1048576: true; the input reads as it did. -/
def treeTurnedUptoRow : OpenClaim := { program := "ytciadbhnodgpgaa", sum := "f41935d163057fc03350d1e80170a2d0363d026396b1e50015a7086a6f39c3f0", func := "toponym/toponymlaw11.TreeTurned", spec := "treeTurned", inPlace := ["internal/bytealg.abigen_runtime_cmpstring"], unfollowed := true, recurses := true, apart := false, narrowed := true }
def TreeTurnedUptoSaid : Prop := treeTurnedUptoRow.holds Try.pinned (OpenSpec.upto treeTurnedSpec)

/-- 'toponymlaw11.TreeDeepest', WHERE WHAT IT READS IS OF BULK AT MOST 1048576: true; the input reads as it did. -/
def treeDeepestUptoRow : OpenClaim := { program := "ytciadbhnodgpgaa", sum := "f41935d163057fc03350d1e80170a2d0363d026396b1e50015a7086a6f39c3f0", func := "toponym/toponymlaw11.TreeDeepest", spec := "treeDeepest", inPlace := ["internal/bytealg.abigen_runtime_cmpstring"], unfollowed := true, recurses := true, apart := false, narrowed := true }
def TreeDeepestUptoSaid : Prop := treeDeepestUptoRow.holds Try.pinned (OpenSpec.upto treeDeepestSpec)

end Rows
end Go.Proofs.Ytciadbhnodgpgaa
