/-
  No cell of these rows narrows 'for every input' (looked for: loops, veiled, ifaces, maps, wideKeys, modest, calm, conditions, laid).
  DERIVED. THE GIVEN ROWS OF THIS SEAT. 12 by the template 'for every input the law returns true; each argument reads behind the call as it read before'; 0 by the template 'total and deterministic' (their statements: YtahbdamijngmmaaGreatTotals.lean).
  GIVEN WITH THE SEED: the statements are not yours to turn. If you find one false, say at which input.
  Laid BY PROGRAM, IN A SANDBOX (cutbox-rows.mjs): the forced cells as the released guide's own fill.sh prints them over the translation b9bbe31eedddd896… (all of the seat's roots in one cut). By AI agents, Wed Nov 11 2026. No macro, syntax, notation, axiom, sorry.
-/
import Derived.Test.YtahbdamijngmmaaGreatChecked
import GoSem.Claim
import GoSem.ClaimJoined
import GoSem.ClaimMapViews
import Derived.JoinedTies
import Derived.KernelRfl
namespace Go.Proofs.YtahbdamijngmmaaGreat
/- THE CELL 'sum', in the pinned program and in every row, IS THE sha256 OF THE DUMP (.gsa) THAT YtahbdamijngmmaaGreatProg.lean LOADS. Nothing in Lean hashes anything: it is a label: what it is worth is what the hold of that sum in a sandbox is worth. -/
noncomputable def Tryz.pinned : Pinned := { name := "ytahbdamijngmmaagreat", sum := "b9bbe31eedddd89617109dc044d97bc0f695bd3e6871a9f01b0c394760340c0c", checked := Tryz.checked }
namespace Rows
def none {H : Type} : Left H := { results := [], args := [] }

/-- 'toponymlaw19.ClassAll': WHATEVER THE INPUT: true; the input reads as it did. -/
def classAllSpec : ChangeSpec := { name := "classAll", fn := fun _ => fun
  | [d1, d2] => { results := [.lit (.bool true)], args := [d1, d2] }
  | _ => none }
def classAllRow : OpenClaim := { program := "ytahbdamijngmmaagreat", sum := "b9bbe31eedddd89617109dc044d97bc0f695bd3e6871a9f01b0c394760340c0c", func := "toponym/toponymlaw19.ClassAll", spec := "classAll", inPlace := ["internal/bytealg.abigen_runtime_cmpstring", "internal/bytealg.Compare"], unfollowed := true, recurses := true, plainKeys := false, apart := false }
def ClassAllSaid : Prop := classAllRow.holds Tryz.pinned (OpenSpec.ofChange classAllSpec)

/-- ITS FALSE NEIGHBOUR: 'it returns false'. Refute it at one input. -/
def classAllWrong : ChangeSpec := { name := "classAll", fn := fun _ => fun
  | [d1, d2] => { results := [.lit (.bool false)], args := [d1, d2] }
  | _ => none }
def ClassAllWrongFalsely : Prop := classAllRow.holds Tryz.pinned (OpenSpec.ofChange classAllWrong)

/-- 'toponymlaw19.ClassOne': WHATEVER THE INPUT: true; the input reads as it did. -/
def classOneSpec : ChangeSpec := { name := "classOne", fn := fun _ => fun
  | [d1, d2] => { results := [.lit (.bool true)], args := [d1, d2] }
  | _ => none }
def classOneRow : OpenClaim := { program := "ytahbdamijngmmaagreat", sum := "b9bbe31eedddd89617109dc044d97bc0f695bd3e6871a9f01b0c394760340c0c", func := "toponym/toponymlaw19.ClassOne", spec := "classOne", inPlace := ["internal/bytealg.abigen_runtime_cmpstring", "internal/bytealg.Compare"], unfollowed := true, recurses := true, plainKeys := false, apart := false }
def ClassOneSaid : Prop := classOneRow.holds Tryz.pinned (OpenSpec.ofChange classOneSpec)

/-- ITS FALSE NEIGHBOUR: 'it returns false'. Refute it at one input. -/
def classOneWrong : ChangeSpec := { name := "classOne", fn := fun _ => fun
  | [d1, d2] => { results := [.lit (.bool false)], args := [d1, d2] }
  | _ => none }
def ClassOneWrongFalsely : Prop := classOneRow.holds Tryz.pinned (OpenSpec.ofChange classOneWrong)

/-- 'toponymlaw19.ClassWays': WHATEVER THE INPUT: true; the input reads as it did. -/
def classWaysSpec : ChangeSpec := { name := "classWays", fn := fun _ => fun
  | [d1, d2, d3] => { results := [.lit (.bool true)], args := [d1, d2, d3] }
  | _ => none }
def classWaysRow : OpenClaim := { program := "ytahbdamijngmmaagreat", sum := "b9bbe31eedddd89617109dc044d97bc0f695bd3e6871a9f01b0c394760340c0c", func := "toponym/toponymlaw19.ClassWays", spec := "classWays", inPlace := ["internal/bytealg.abigen_runtime_cmpstring", "internal/bytealg.Compare"], unfollowed := true, recurses := true, plainKeys := false, apart := false }
def ClassWaysSaid : Prop := classWaysRow.holds Tryz.pinned (OpenSpec.ofChange classWaysSpec)

/-- ITS FALSE NEIGHBOUR: 'it returns false'. Refute it at one input. -/
def classWaysWrong : ChangeSpec := { name := "classWays", fn := fun _ => fun
  | [d1, d2, d3] => { results := [.lit (.bool false)], args := [d1, d2, d3] }
  | _ => none }
def ClassWaysWrongFalsely : Prop := classWaysRow.holds Tryz.pinned (OpenSpec.ofChange classWaysWrong)

/-- 'toponymlaw21.RunExplore': WHATEVER THE INPUT: true; the input reads as it did. -/
def runExploreSpec : ChangeSpec := { name := "runExplore", fn := fun _ => fun
  | [d1, d2, d3] => { results := [.lit (.bool true)], args := [d1, d2, d3] }
  | _ => none }
def runExploreRow : OpenClaim := { program := "ytahbdamijngmmaagreat", sum := "b9bbe31eedddd89617109dc044d97bc0f695bd3e6871a9f01b0c394760340c0c", func := "toponym/toponymlaw21.RunExplore", spec := "runExplore", inPlace := ["internal/bytealg.abigen_runtime_cmpstring", "internal/bytealg.Compare", "internal/bytealg.IndexByteString", "internal/abi.NoEscape"], unfollowed := true, recurses := true, plainKeys := false, apart := false }
def RunExploreSaid : Prop := runExploreRow.holds Tryz.pinned (OpenSpec.ofChange runExploreSpec)

/-- ITS FALSE NEIGHBOUR: 'it returns false'. Refute it at one input. -/
def runExploreWrong : ChangeSpec := { name := "runExplore", fn := fun _ => fun
  | [d1, d2, d3] => { results := [.lit (.bool false)], args := [d1, d2, d3] }
  | _ => none }
def RunExploreWrongFalsely : Prop := runExploreRow.holds Tryz.pinned (OpenSpec.ofChange runExploreWrong)

/-- 'toponymlaw21.RunPlay': WHATEVER THE INPUT: true; the input reads as it did. -/
def runPlaySpec : ChangeSpec := { name := "runPlay", fn := fun _ => fun
  | [d1, d2, d3, d4] => { results := [.lit (.bool true)], args := [d1, d2, d3, d4] }
  | _ => none }
def runPlayRow : OpenClaim := { program := "ytahbdamijngmmaagreat", sum := "b9bbe31eedddd89617109dc044d97bc0f695bd3e6871a9f01b0c394760340c0c", func := "toponym/toponymlaw21.RunPlay", spec := "runPlay", inPlace := ["internal/bytealg.abigen_runtime_cmpstring", "internal/bytealg.Compare", "internal/bytealg.IndexByteString", "internal/abi.NoEscape"], unfollowed := true, recurses := true, plainKeys := false, apart := false }
def RunPlaySaid : Prop := runPlayRow.holds Tryz.pinned (OpenSpec.ofChange runPlaySpec)

/-- ITS FALSE NEIGHBOUR: 'it returns false'. Refute it at one input. -/
def runPlayWrong : ChangeSpec := { name := "runPlay", fn := fun _ => fun
  | [d1, d2, d3, d4] => { results := [.lit (.bool false)], args := [d1, d2, d3, d4] }
  | _ => none }
def RunPlayWrongFalsely : Prop := runPlayRow.holds Tryz.pinned (OpenSpec.ofChange runPlayWrong)

/-- 'toponymlaw21.RunWitness': WHATEVER THE INPUT: true; the input reads as it did. -/
def runWitnessSpec : ChangeSpec := { name := "runWitness", fn := fun _ => fun
  | [d1, d2, d3, d4] => { results := [.lit (.bool true)], args := [d1, d2, d3, d4] }
  | _ => none }
def runWitnessRow : OpenClaim := { program := "ytahbdamijngmmaagreat", sum := "b9bbe31eedddd89617109dc044d97bc0f695bd3e6871a9f01b0c394760340c0c", func := "toponym/toponymlaw21.RunWitness", spec := "runWitness", inPlace := ["internal/bytealg.abigen_runtime_cmpstring", "internal/bytealg.Compare", "internal/bytealg.IndexByteString", "internal/abi.NoEscape"], unfollowed := true, recurses := true, plainKeys := false, apart := false }
def RunWitnessSaid : Prop := runWitnessRow.holds Tryz.pinned (OpenSpec.ofChange runWitnessSpec)

/-- ITS FALSE NEIGHBOUR: 'it returns false'. Refute it at one input. -/
def runWitnessWrong : ChangeSpec := { name := "runWitness", fn := fun _ => fun
  | [d1, d2, d3, d4] => { results := [.lit (.bool false)], args := [d1, d2, d3, d4] }
  | _ => none }
def RunWitnessWrongFalsely : Prop := runWitnessRow.holds Tryz.pinned (OpenSpec.ofChange runWitnessWrong)

/-- 'toponymlaw21.RunShort': WHATEVER THE INPUT: true; the input reads as it did. -/
def runShortSpec : ChangeSpec := { name := "runShort", fn := fun _ => fun
  | [d1, d2, d3, d4] => { results := [.lit (.bool true)], args := [d1, d2, d3, d4] }
  | _ => none }
def runShortRow : OpenClaim := { program := "ytahbdamijngmmaagreat", sum := "b9bbe31eedddd89617109dc044d97bc0f695bd3e6871a9f01b0c394760340c0c", func := "toponym/toponymlaw21.RunShort", spec := "runShort", inPlace := ["internal/bytealg.abigen_runtime_cmpstring", "internal/bytealg.Compare", "internal/bytealg.IndexByteString", "internal/abi.NoEscape"], unfollowed := true, recurses := true, plainKeys := false, apart := false }
def RunShortSaid : Prop := runShortRow.holds Tryz.pinned (OpenSpec.ofChange runShortSpec)

/-- ITS FALSE NEIGHBOUR: 'it returns false'. Refute it at one input. -/
def runShortWrong : ChangeSpec := { name := "runShort", fn := fun _ => fun
  | [d1, d2, d3, d4] => { results := [.lit (.bool false)], args := [d1, d2, d3, d4] }
  | _ => none }
def RunShortWrongFalsely : Prop := runShortRow.holds Tryz.pinned (OpenSpec.ofChange runShortWrong)

/-- 'toponymlaw21.RunFolds': WHATEVER THE INPUT: true; the input reads as it did. -/
def runFoldsSpec : ChangeSpec := { name := "runFolds", fn := fun _ => fun
  | [d1, d2, d3] => { results := [.lit (.bool true)], args := [d1, d2, d3] }
  | _ => none }
def runFoldsRow : OpenClaim := { program := "ytahbdamijngmmaagreat", sum := "b9bbe31eedddd89617109dc044d97bc0f695bd3e6871a9f01b0c394760340c0c", func := "toponym/toponymlaw21.RunFolds", spec := "runFolds", inPlace := ["internal/bytealg.abigen_runtime_cmpstring", "internal/bytealg.Compare", "internal/bytealg.IndexByteString", "internal/abi.NoEscape"], unfollowed := true, recurses := true, plainKeys := false, apart := false }
def RunFoldsSaid : Prop := runFoldsRow.holds Tryz.pinned (OpenSpec.ofChange runFoldsSpec)

/-- ITS FALSE NEIGHBOUR: 'it returns false'. Refute it at one input. -/
def runFoldsWrong : ChangeSpec := { name := "runFolds", fn := fun _ => fun
  | [d1, d2, d3] => { results := [.lit (.bool false)], args := [d1, d2, d3] }
  | _ => none }
def RunFoldsWrongFalsely : Prop := runFoldsRow.holds Tryz.pinned (OpenSpec.ofChange runFoldsWrong)

/-- 'toponymlaw24.ReplayAny': WHATEVER THE INPUT: true; the input reads as it did. -/
def replayAnySpec : ChangeSpec := { name := "replayAny", fn := fun _ => fun
  | [d1, d2] => { results := [.lit (.bool true)], args := [d1, d2] }
  | _ => none }
def replayAnyRow : OpenClaim := { program := "ytahbdamijngmmaagreat", sum := "b9bbe31eedddd89617109dc044d97bc0f695bd3e6871a9f01b0c394760340c0c", func := "toponym/toponymlaw24.ReplayAny", spec := "replayAny", inPlace := ["internal/bytealg.abigen_runtime_cmpstring", "internal/bytealg.Compare", "internal/bytealg.IndexByteString", "internal/abi.NoEscape"], unfollowed := true, recurses := true, plainKeys := false, apart := false }
def ReplayAnySaid : Prop := replayAnyRow.holds Tryz.pinned (OpenSpec.ofChange replayAnySpec)

/-- ITS FALSE NEIGHBOUR: 'it returns false'. Refute it at one input. -/
def replayAnyWrong : ChangeSpec := { name := "replayAny", fn := fun _ => fun
  | [d1, d2] => { results := [.lit (.bool false)], args := [d1, d2] }
  | _ => none }
def ReplayAnyWrongFalsely : Prop := replayAnyRow.holds Tryz.pinned (OpenSpec.ofChange replayAnyWrong)

/-- 'toponymlaw24.ReplayEnds': WHATEVER THE INPUT: true; the input reads as it did. -/
def replayEndsSpec : ChangeSpec := { name := "replayEnds", fn := fun _ => fun
  | [d1, d2, d3, d4] => { results := [.lit (.bool true)], args := [d1, d2, d3, d4] }
  | _ => none }
def replayEndsRow : OpenClaim := { program := "ytahbdamijngmmaagreat", sum := "b9bbe31eedddd89617109dc044d97bc0f695bd3e6871a9f01b0c394760340c0c", func := "toponym/toponymlaw24.ReplayEnds", spec := "replayEnds", inPlace := ["internal/bytealg.abigen_runtime_cmpstring", "internal/bytealg.Compare", "internal/bytealg.IndexByteString", "internal/abi.NoEscape"], unfollowed := true, recurses := true, plainKeys := false, apart := false }
def ReplayEndsSaid : Prop := replayEndsRow.holds Tryz.pinned (OpenSpec.ofChange replayEndsSpec)

/-- ITS FALSE NEIGHBOUR: 'it returns false'. Refute it at one input. -/
def replayEndsWrong : ChangeSpec := { name := "replayEnds", fn := fun _ => fun
  | [d1, d2, d3, d4] => { results := [.lit (.bool false)], args := [d1, d2, d3, d4] }
  | _ => none }
def ReplayEndsWrongFalsely : Prop := replayEndsRow.holds Tryz.pinned (OpenSpec.ofChange replayEndsWrong)

/-- 'toponymlaw22.AlikeTwo': WHATEVER THE INPUT: true; the input reads as it did. -/
def alikeTwoSpec : ChangeSpec := { name := "alikeTwo", fn := fun _ => fun
  | [d1, d2, d3, d4] => { results := [.lit (.bool true)], args := [d1, d2, d3, d4] }
  | _ => none }
def alikeTwoRow : OpenClaim := { program := "ytahbdamijngmmaagreat", sum := "b9bbe31eedddd89617109dc044d97bc0f695bd3e6871a9f01b0c394760340c0c", func := "toponym/toponymlaw22.AlikeTwo", spec := "alikeTwo", inPlace := ["internal/bytealg.abigen_runtime_cmpstring", "internal/bytealg.Compare", "internal/bytealg.IndexByteString", "internal/abi.NoEscape"], unfollowed := true, recurses := true, plainKeys := false, apart := false }
def AlikeTwoSaid : Prop := alikeTwoRow.holds Tryz.pinned (OpenSpec.ofChange alikeTwoSpec)

/-- ITS FALSE NEIGHBOUR: 'it returns false'. Refute it at one input. -/
def alikeTwoWrong : ChangeSpec := { name := "alikeTwo", fn := fun _ => fun
  | [d1, d2, d3, d4] => { results := [.lit (.bool false)], args := [d1, d2, d3, d4] }
  | _ => none }
def AlikeTwoWrongFalsely : Prop := alikeTwoRow.holds Tryz.pinned (OpenSpec.ofChange alikeTwoWrong)

/-- 'toponymlaw22.AlikeRep': WHATEVER THE INPUT: true; the input reads as it did. -/
def alikeRepSpec : ChangeSpec := { name := "alikeRep", fn := fun _ => fun
  | [d1, d2, d3] => { results := [.lit (.bool true)], args := [d1, d2, d3] }
  | _ => none }
def alikeRepRow : OpenClaim := { program := "ytahbdamijngmmaagreat", sum := "b9bbe31eedddd89617109dc044d97bc0f695bd3e6871a9f01b0c394760340c0c", func := "toponym/toponymlaw22.AlikeRep", spec := "alikeRep", inPlace := ["internal/bytealg.abigen_runtime_cmpstring", "internal/bytealg.Compare", "internal/bytealg.IndexByteString", "internal/abi.NoEscape"], unfollowed := true, recurses := true, plainKeys := false, apart := false }
def AlikeRepSaid : Prop := alikeRepRow.holds Tryz.pinned (OpenSpec.ofChange alikeRepSpec)

/-- ITS FALSE NEIGHBOUR: 'it returns false'. Refute it at one input. -/
def alikeRepWrong : ChangeSpec := { name := "alikeRep", fn := fun _ => fun
  | [d1, d2, d3] => { results := [.lit (.bool false)], args := [d1, d2, d3] }
  | _ => none }
def AlikeRepWrongFalsely : Prop := alikeRepRow.holds Tryz.pinned (OpenSpec.ofChange alikeRepWrong)

/- THE SECOND FORM. 'bulk': how many values and letters a reading holds, each counted each time it is reached (what is shared counts as often as it is met; a slice's spare places count too). A statement '..UptoSaid' is the law's where the arguments, and the package variables that the reading takes, are together of bulk at most 1048576: NARROWER than '..Said'. Prove '..Said' where nothing that the law and all that it calls make is longer than what came in: it says more and counts as full. Else prove '..UptoSaid'. A law counts once. -/
mutual
def uptoBulk {H : Type} : DataW H → Nat
  | .lit (.string bytes) => bytes.length + 1
  | .lit _ => 1
  | .nil => 1
  | .ptr d => uptoBulk d + 1
  | .slice elems spare => uptoBulkAll elems + uptoBulkAll spare + 1
  | .agg parts => uptoBulkAll parts + 1
  | .iface _ d => uptoBulk d + 1
  | .map entries => uptoBulkEntries entries + 1
  | .held _ => 1
def uptoBulkAll {H : Type} : List (DataW H) → Nat
  | [] => 0
  | d :: r => uptoBulk d + uptoBulkAll r
def uptoBulkEntries {H : Type} : List (Lit × DataW H) → Nat
  | [] => 0
  | x :: r => uptoBulkEntry x + uptoBulkEntries r
def uptoBulkEntry {H : Type} : Lit × DataW H → Nat
  | (.string bytes, d) => bytes.length + uptoBulk d + 1
  | (_, d) => uptoBulk d + 1
 end
def uptoSmall : (H : Type) → List (DataW H) → Bool := fun _ ds => decide (uptoBulkAll ds ≤ 1048576)
def OpenSpec.upto (s : _root_.Go.ChangeSpec) : _root_.Go.OpenSpec := { _root_.Go.OpenSpec.ofChange s with cond := some uptoSmall }

/-- 'toponymlaw19.ClassAll', WHERE WHAT IT READS IS OF BULK AT MOST 1048576: true; the input reads as it did. -/
def classAllUptoRow : OpenClaim := { program := "ytahbdamijngmmaagreat", sum := "b9bbe31eedddd89617109dc044d97bc0f695bd3e6871a9f01b0c394760340c0c", func := "toponym/toponymlaw19.ClassAll", spec := "classAll", inPlace := ["internal/bytealg.abigen_runtime_cmpstring", "internal/bytealg.Compare"], unfollowed := true, recurses := true, plainKeys := false, apart := false, narrowed := true }
def ClassAllUptoSaid : Prop := classAllUptoRow.holds Tryz.pinned (OpenSpec.upto classAllSpec)

/-- 'toponymlaw19.ClassOne', WHERE WHAT IT READS IS OF BULK AT MOST 1048576: true; the input reads as it did. -/
def classOneUptoRow : OpenClaim := { program := "ytahbdamijngmmaagreat", sum := "b9bbe31eedddd89617109dc044d97bc0f695bd3e6871a9f01b0c394760340c0c", func := "toponym/toponymlaw19.ClassOne", spec := "classOne", inPlace := ["internal/bytealg.abigen_runtime_cmpstring", "internal/bytealg.Compare"], unfollowed := true, recurses := true, plainKeys := false, apart := false, narrowed := true }
def ClassOneUptoSaid : Prop := classOneUptoRow.holds Tryz.pinned (OpenSpec.upto classOneSpec)

/-- 'toponymlaw19.ClassWays', WHERE WHAT IT READS IS OF BULK AT MOST 1048576: true; the input reads as it did. -/
def classWaysUptoRow : OpenClaim := { program := "ytahbdamijngmmaagreat", sum := "b9bbe31eedddd89617109dc044d97bc0f695bd3e6871a9f01b0c394760340c0c", func := "toponym/toponymlaw19.ClassWays", spec := "classWays", inPlace := ["internal/bytealg.abigen_runtime_cmpstring", "internal/bytealg.Compare"], unfollowed := true, recurses := true, plainKeys := false, apart := false, narrowed := true }
def ClassWaysUptoSaid : Prop := classWaysUptoRow.holds Tryz.pinned (OpenSpec.upto classWaysSpec)

/-- 'toponymlaw21.RunExplore', WHERE WHAT IT READS IS OF BULK AT MOST 1048576: true; the input reads as it did. -/
def runExploreUptoRow : OpenClaim := { program := "ytahbdamijngmmaagreat", sum := "b9bbe31eedddd89617109dc044d97bc0f695bd3e6871a9f01b0c394760340c0c", func := "toponym/toponymlaw21.RunExplore", spec := "runExplore", inPlace := ["internal/bytealg.abigen_runtime_cmpstring", "internal/bytealg.Compare", "internal/bytealg.IndexByteString", "internal/abi.NoEscape"], unfollowed := true, recurses := true, plainKeys := false, apart := false, narrowed := true }
def RunExploreUptoSaid : Prop := runExploreUptoRow.holds Tryz.pinned (OpenSpec.upto runExploreSpec)

/-- 'toponymlaw21.RunPlay', WHERE WHAT IT READS IS OF BULK AT MOST 1048576: true; the input reads as it did. -/
def runPlayUptoRow : OpenClaim := { program := "ytahbdamijngmmaagreat", sum := "b9bbe31eedddd89617109dc044d97bc0f695bd3e6871a9f01b0c394760340c0c", func := "toponym/toponymlaw21.RunPlay", spec := "runPlay", inPlace := ["internal/bytealg.abigen_runtime_cmpstring", "internal/bytealg.Compare", "internal/bytealg.IndexByteString", "internal/abi.NoEscape"], unfollowed := true, recurses := true, plainKeys := false, apart := false, narrowed := true }
def RunPlayUptoSaid : Prop := runPlayUptoRow.holds Tryz.pinned (OpenSpec.upto runPlaySpec)

/-- 'toponymlaw21.RunWitness', WHERE WHAT IT READS IS OF BULK AT MOST 1048576: true; the input reads as it did. -/
def runWitnessUptoRow : OpenClaim := { program := "ytahbdamijngmmaagreat", sum := "b9bbe31eedddd89617109dc044d97bc0f695bd3e6871a9f01b0c394760340c0c", func := "toponym/toponymlaw21.RunWitness", spec := "runWitness", inPlace := ["internal/bytealg.abigen_runtime_cmpstring", "internal/bytealg.Compare", "internal/bytealg.IndexByteString", "internal/abi.NoEscape"], unfollowed := true, recurses := true, plainKeys := false, apart := false, narrowed := true }
def RunWitnessUptoSaid : Prop := runWitnessUptoRow.holds Tryz.pinned (OpenSpec.upto runWitnessSpec)

/-- 'toponymlaw21.RunShort', WHERE WHAT IT READS IS OF BULK AT MOST 1048576: true; the input reads as it did. -/
def runShortUptoRow : OpenClaim := { program := "ytahbdamijngmmaagreat", sum := "b9bbe31eedddd89617109dc044d97bc0f695bd3e6871a9f01b0c394760340c0c", func := "toponym/toponymlaw21.RunShort", spec := "runShort", inPlace := ["internal/bytealg.abigen_runtime_cmpstring", "internal/bytealg.Compare", "internal/bytealg.IndexByteString", "internal/abi.NoEscape"], unfollowed := true, recurses := true, plainKeys := false, apart := false, narrowed := true }
def RunShortUptoSaid : Prop := runShortUptoRow.holds Tryz.pinned (OpenSpec.upto runShortSpec)

/-- 'toponymlaw21.RunFolds', WHERE WHAT IT READS IS OF BULK AT MOST 1048576: true; the input reads as it did. -/
def runFoldsUptoRow : OpenClaim := { program := "ytahbdamijngmmaagreat", sum := "b9bbe31eedddd89617109dc044d97bc0f695bd3e6871a9f01b0c394760340c0c", func := "toponym/toponymlaw21.RunFolds", spec := "runFolds", inPlace := ["internal/bytealg.abigen_runtime_cmpstring", "internal/bytealg.Compare", "internal/bytealg.IndexByteString", "internal/abi.NoEscape"], unfollowed := true, recurses := true, plainKeys := false, apart := false, narrowed := true }
def RunFoldsUptoSaid : Prop := runFoldsUptoRow.holds Tryz.pinned (OpenSpec.upto runFoldsSpec)

/-- 'toponymlaw24.ReplayAny', WHERE WHAT IT READS IS OF BULK AT MOST 1048576: true; the input reads as it did. -/
def replayAnyUptoRow : OpenClaim := { program := "ytahbdamijngmmaagreat", sum := "b9bbe31eedddd89617109dc044d97bc0f695bd3e6871a9f01b0c394760340c0c", func := "toponym/toponymlaw24.ReplayAny", spec := "replayAny", inPlace := ["internal/bytealg.abigen_runtime_cmpstring", "internal/bytealg.Compare", "internal/bytealg.IndexByteString", "internal/abi.NoEscape"], unfollowed := true, recurses := true, plainKeys := false, apart := false, narrowed := true }
def ReplayAnyUptoSaid : Prop := replayAnyUptoRow.holds Tryz.pinned (OpenSpec.upto replayAnySpec)

/-- 'toponymlaw24.ReplayEnds', WHERE WHAT IT READS IS OF BULK AT MOST 1048576: true; the input reads as it did. -/
def replayEndsUptoRow : OpenClaim := { program := "ytahbdamijngmmaagreat", sum := "b9bbe31eedddd89617109dc044d97bc0f695bd3e6871a9f01b0c394760340c0c", func := "toponym/toponymlaw24.ReplayEnds", spec := "replayEnds", inPlace := ["internal/bytealg.abigen_runtime_cmpstring", "internal/bytealg.Compare", "internal/bytealg.IndexByteString", "internal/abi.NoEscape"], unfollowed := true, recurses := true, plainKeys := false, apart := false, narrowed := true }
def ReplayEndsUptoSaid : Prop := replayEndsUptoRow.holds Tryz.pinned (OpenSpec.upto replayEndsSpec)

/-- 'toponymlaw22.AlikeTwo', WHERE WHAT IT READS IS OF BULK AT MOST 1048576: true; the input reads as it did. -/
def alikeTwoUptoRow : OpenClaim := { program := "ytahbdamijngmmaagreat", sum := "b9bbe31eedddd89617109dc044d97bc0f695bd3e6871a9f01b0c394760340c0c", func := "toponym/toponymlaw22.AlikeTwo", spec := "alikeTwo", inPlace := ["internal/bytealg.abigen_runtime_cmpstring", "internal/bytealg.Compare", "internal/bytealg.IndexByteString", "internal/abi.NoEscape"], unfollowed := true, recurses := true, plainKeys := false, apart := false, narrowed := true }
def AlikeTwoUptoSaid : Prop := alikeTwoUptoRow.holds Tryz.pinned (OpenSpec.upto alikeTwoSpec)

/-- 'toponymlaw22.AlikeRep', WHERE WHAT IT READS IS OF BULK AT MOST 1048576: true; the input reads as it did. -/
def alikeRepUptoRow : OpenClaim := { program := "ytahbdamijngmmaagreat", sum := "b9bbe31eedddd89617109dc044d97bc0f695bd3e6871a9f01b0c394760340c0c", func := "toponym/toponymlaw22.AlikeRep", spec := "alikeRep", inPlace := ["internal/bytealg.abigen_runtime_cmpstring", "internal/bytealg.Compare", "internal/bytealg.IndexByteString", "internal/abi.NoEscape"], unfollowed := true, recurses := true, plainKeys := false, apart := false, narrowed := true }
def AlikeRepUptoSaid : Prop := alikeRepUptoRow.holds Tryz.pinned (OpenSpec.upto alikeRepSpec)

end Rows
end Go.Proofs.YtahbdamijngmmaaGreat
