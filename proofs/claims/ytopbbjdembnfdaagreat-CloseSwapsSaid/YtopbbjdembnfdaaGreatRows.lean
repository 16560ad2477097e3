/-
  No cell of these rows narrows 'for every input' (looked for: loops, veiled, ifaces, maps, wideKeys, modest, calm, conditions, laid).
  DERIVED. THE GIVEN ROWS OF THIS SEAT. 12 by the template 'for every input the law returns true; each argument reads behind the call as it read before'; 0 by the template 'total and deterministic' (their statements: YtopbbjdembnfdaaGreatTotals.lean).
  GIVEN WITH THE SEED: the statements are not yours to turn. If you find one false, say at which input.
  Laid BY PROGRAM, IN A SANDBOX (cutbox-rows.mjs): the forced cells as the released guide's own fill.sh prints them over the translation b929704203661db3… (all of the seat's roots in one cut). By AI agents, Wed Nov 11 2026. No macro, syntax, notation, axiom, sorry.
-/
import Derived.Test.YtopbbjdembnfdaaGreatChecked
import GoSem.Claim
import GoSem.ClaimJoined
import GoSem.ClaimMapViews
import Derived.JoinedTies
import Derived.KernelRfl
namespace Go.Proofs.YtopbbjdembnfdaaGreat
/- THE CELL 'sum', in the pinned program and in every row, IS THE sha256 OF THE DUMP (.gsa) THAT YtopbbjdembnfdaaGreatProg.lean LOADS. Nothing in Lean hashes anything: it is a label: what it is worth is what the hold of that sum in a sandbox is worth. -/
noncomputable def Tryz.pinned : Pinned := { name := "ytopbbjdembnfdaagreat", sum := "b929704203661db387cd600e63f6e9d64a04e8d9a4d6a0ec2f2764482cfa61ac", checked := Tryz.checked }
namespace Rows
def none {H : Type} : Left H := { results := [], args := [] }

/-- 'toponymlaw14.LookAny': WHATEVER THE INPUT: true; the input reads as it did. -/
def lookAnySpec : ChangeSpec := { name := "lookAny", fn := fun _ => fun
  | [d1, d2, d3, d4] => { results := [.lit (.bool true)], args := [d1, d2, d3, d4] }
  | _ => none }
def lookAnyRow : OpenClaim := { program := "ytopbbjdembnfdaagreat", sum := "b929704203661db387cd600e63f6e9d64a04e8d9a4d6a0ec2f2764482cfa61ac", func := "toponym/toponymlaw14.LookAny", spec := "lookAny", inPlace := ["internal/bytealg.abigen_runtime_cmpstring", "internal/bytealg.Compare", "internal/bytealg.IndexByteString", "internal/abi.NoEscape"], unfollowed := true, recurses := true, apart := false }
def LookAnySaid : Prop := lookAnyRow.holds Tryz.pinned (OpenSpec.ofChange lookAnySpec)

/-- ITS FALSE NEIGHBOUR: 'it returns false'. Refute it at one input. -/
def lookAnyWrong : ChangeSpec := { name := "lookAny", fn := fun _ => fun
  | [d1, d2, d3, d4] => { results := [.lit (.bool false)], args := [d1, d2, d3, d4] }
  | _ => none }
def LookAnyWrongFalsely : Prop := lookAnyRow.holds Tryz.pinned (OpenSpec.ofChange lookAnyWrong)

/-- 'toponymlaw14.LookTwo': WHATEVER THE INPUT: true; the input reads as it did. -/
def lookTwoSpec : ChangeSpec := { name := "lookTwo", fn := fun _ => fun
  | [d1, d2, d3, d4, d5] => { results := [.lit (.bool true)], args := [d1, d2, d3, d4, d5] }
  | _ => none }
def lookTwoRow : OpenClaim := { program := "ytopbbjdembnfdaagreat", sum := "b929704203661db387cd600e63f6e9d64a04e8d9a4d6a0ec2f2764482cfa61ac", func := "toponym/toponymlaw14.LookTwo", spec := "lookTwo", inPlace := ["internal/bytealg.abigen_runtime_cmpstring", "internal/bytealg.Compare", "internal/bytealg.IndexByteString", "internal/abi.NoEscape"], unfollowed := true, recurses := true, apart := false }
def LookTwoSaid : Prop := lookTwoRow.holds Tryz.pinned (OpenSpec.ofChange lookTwoSpec)

/-- ITS FALSE NEIGHBOUR: 'it returns false'. Refute it at one input. -/
def lookTwoWrong : ChangeSpec := { name := "lookTwo", fn := fun _ => fun
  | [d1, d2, d3, d4, d5] => { results := [.lit (.bool false)], args := [d1, d2, d3, d4, d5] }
  | _ => none }
def LookTwoWrongFalsely : Prop := lookTwoRow.holds Tryz.pinned (OpenSpec.ofChange lookTwoWrong)

/-- 'toponymlaw14.LookBelow': WHATEVER THE INPUT: true; the input reads as it did. -/
def lookBelowSpec : ChangeSpec := { name := "lookBelow", fn := fun _ => fun
  | [d1, d2, d3, d4, d5] => { results := [.lit (.bool true)], args := [d1, d2, d3, d4, d5] }
  | _ => none }
def lookBelowRow : OpenClaim := { program := "ytopbbjdembnfdaagreat", sum := "b929704203661db387cd600e63f6e9d64a04e8d9a4d6a0ec2f2764482cfa61ac", func := "toponym/toponymlaw14.LookBelow", spec := "lookBelow", inPlace := ["internal/bytealg.abigen_runtime_cmpstring", "internal/bytealg.Compare", "internal/bytealg.IndexByteString", "internal/abi.NoEscape"], unfollowed := true, recurses := true, apart := false }
def LookBelowSaid : Prop := lookBelowRow.holds Tryz.pinned (OpenSpec.ofChange lookBelowSpec)

/-- ITS FALSE NEIGHBOUR: 'it returns false'. Refute it at one input. -/
def lookBelowWrong : ChangeSpec := { name := "lookBelow", fn := fun _ => fun
  | [d1, d2, d3, d4, d5] => { results := [.lit (.bool false)], args := [d1, d2, d3, d4, d5] }
  | _ => none }
def LookBelowWrongFalsely : Prop := lookBelowRow.holds Tryz.pinned (OpenSpec.ofChange lookBelowWrong)

/-- 'toponymlaw14.LookTypes': WHATEVER THE INPUT: true; the input reads as it did. -/
def lookTypesSpec : ChangeSpec := { name := "lookTypes", fn := fun _ => fun
  | [d1, d2, d3, d4, d5] => { results := [.lit (.bool true)], args := [d1, d2, d3, d4, d5] }
  | _ => none }
def lookTypesRow : OpenClaim := { program := "ytopbbjdembnfdaagreat", sum := "b929704203661db387cd600e63f6e9d64a04e8d9a4d6a0ec2f2764482cfa61ac", func := "toponym/toponymlaw14.LookTypes", spec := "lookTypes", inPlace := ["internal/bytealg.abigen_runtime_cmpstring", "internal/bytealg.Compare", "internal/bytealg.IndexByteString", "internal/abi.NoEscape"], unfollowed := true, recurses := true, apart := false }
def LookTypesSaid : Prop := lookTypesRow.holds Tryz.pinned (OpenSpec.ofChange lookTypesSpec)

/-- ITS FALSE NEIGHBOUR: 'it returns false'. Refute it at one input. -/
def lookTypesWrong : ChangeSpec := { name := "lookTypes", fn := fun _ => fun
  | [d1, d2, d3, d4, d5] => { results := [.lit (.bool false)], args := [d1, d2, d3, d4, d5] }
  | _ => none }
def LookTypesWrongFalsely : Prop := lookTypesRow.holds Tryz.pinned (OpenSpec.ofChange lookTypesWrong)

/-- 'toponymlaw14.LookFolds': WHATEVER THE INPUT: true; the input reads as it did. -/
def lookFoldsSpec : ChangeSpec := { name := "lookFolds", fn := fun _ => fun
  | [d1, d2, d3, d4] => { results := [.lit (.bool true)], args := [d1, d2, d3, d4] }
  | _ => none }
def lookFoldsRow : OpenClaim := { program := "ytopbbjdembnfdaagreat", sum := "b929704203661db387cd600e63f6e9d64a04e8d9a4d6a0ec2f2764482cfa61ac", func := "toponym/toponymlaw14.LookFolds", spec := "lookFolds", inPlace := ["internal/bytealg.abigen_runtime_cmpstring", "internal/bytealg.Compare", "internal/bytealg.IndexByteString", "internal/abi.NoEscape"], unfollowed := true, recurses := true, apart := false }
def LookFoldsSaid : Prop := lookFoldsRow.holds Tryz.pinned (OpenSpec.ofChange lookFoldsSpec)

/-- ITS FALSE NEIGHBOUR: 'it returns false'. Refute it at one input. -/
def lookFoldsWrong : ChangeSpec := { name := "lookFolds", fn := fun _ => fun
  | [d1, d2, d3, d4] => { results := [.lit (.bool false)], args := [d1, d2, d3, d4] }
  | _ => none }
def LookFoldsWrongFalsely : Prop := lookFoldsRow.holds Tryz.pinned (OpenSpec.ofChange lookFoldsWrong)

/-- 'toponymlaw20.StepNext': WHATEVER THE INPUT: true; the input reads as it did. -/
def stepNextSpec : ChangeSpec := { name := "stepNext", fn := fun _ => fun
  | [d1, d2, d3] => { results := [.lit (.bool true)], args := [d1, d2, d3] }
  | _ => none }
def stepNextRow : OpenClaim := { program := "ytopbbjdembnfdaagreat", sum := "b929704203661db387cd600e63f6e9d64a04e8d9a4d6a0ec2f2764482cfa61ac", func := "toponym/toponymlaw20.StepNext", spec := "stepNext", inPlace := ["internal/bytealg.abigen_runtime_cmpstring", "internal/bytealg.Compare", "internal/bytealg.IndexByteString", "internal/abi.NoEscape"], unfollowed := true, recurses := true, apart := false }
def StepNextSaid : Prop := stepNextRow.holds Tryz.pinned (OpenSpec.ofChange stepNextSpec)

/-- ITS FALSE NEIGHBOUR: 'it returns false'. Refute it at one input. -/
def stepNextWrong : ChangeSpec := { name := "stepNext", fn := fun _ => fun
  | [d1, d2, d3] => { results := [.lit (.bool false)], args := [d1, d2, d3] }
  | _ => none }
def StepNextWrongFalsely : Prop := stepNextRow.holds Tryz.pinned (OpenSpec.ofChange stepNextWrong)

/-- 'toponymlaw20.StepOn': WHATEVER THE INPUT: true; the input reads as it did. -/
def stepOnSpec : ChangeSpec := { name := "stepOn", fn := fun _ => fun
  | [d1, d2, d3] => { results := [.lit (.bool true)], args := [d1, d2, d3] }
  | _ => none }
def stepOnRow : OpenClaim := { program := "ytopbbjdembnfdaagreat", sum := "b929704203661db387cd600e63f6e9d64a04e8d9a4d6a0ec2f2764482cfa61ac", func := "toponym/toponymlaw20.StepOn", spec := "stepOn", inPlace := ["internal/bytealg.abigen_runtime_cmpstring", "internal/bytealg.Compare", "internal/bytealg.IndexByteString", "internal/abi.NoEscape"], unfollowed := true, recurses := true, apart := false }
def StepOnSaid : Prop := stepOnRow.holds Tryz.pinned (OpenSpec.ofChange stepOnSpec)

/-- ITS FALSE NEIGHBOUR: 'it returns false'. Refute it at one input. -/
def stepOnWrong : ChangeSpec := { name := "stepOn", fn := fun _ => fun
  | [d1, d2, d3] => { results := [.lit (.bool false)], args := [d1, d2, d3] }
  | _ => none }
def StepOnWrongFalsely : Prop := stepOnRow.holds Tryz.pinned (OpenSpec.ofChange stepOnWrong)

/-- 'toponymlaw20.StepLame': WHATEVER THE INPUT: true; the input reads as it did. -/
def stepLameSpec : ChangeSpec := { name := "stepLame", fn := fun _ => fun
  | [d1, d2, d3] => { results := [.lit (.bool true)], args := [d1, d2, d3] }
  | _ => none }
def stepLameRow : OpenClaim := { program := "ytopbbjdembnfdaagreat", sum := "b929704203661db387cd600e63f6e9d64a04e8d9a4d6a0ec2f2764482cfa61ac", func := "toponym/toponymlaw20.StepLame", spec := "stepLame", inPlace := ["internal/bytealg.abigen_runtime_cmpstring", "internal/bytealg.Compare", "internal/bytealg.IndexByteString", "internal/abi.NoEscape"], unfollowed := true, recurses := true, apart := false }
def StepLameSaid : Prop := stepLameRow.holds Tryz.pinned (OpenSpec.ofChange stepLameSpec)

/-- ITS FALSE NEIGHBOUR: 'it returns false'. Refute it at one input. -/
def stepLameWrong : ChangeSpec := { name := "stepLame", fn := fun _ => fun
  | [d1, d2, d3] => { results := [.lit (.bool false)], args := [d1, d2, d3] }
  | _ => none }
def StepLameWrongFalsely : Prop := stepLameRow.holds Tryz.pinned (OpenSpec.ofChange stepLameWrong)

/-- 'toponymlaw20.StepFolds': WHATEVER THE INPUT: true; the input reads as it did. -/
def stepFoldsSpec : ChangeSpec := { name := "stepFolds", fn := fun _ => fun
  | [d1, d2, d3] => { results := [.lit (.bool true)], args := [d1, d2, d3] }
  | _ => none }
def stepFoldsRow : OpenClaim := { program := "ytopbbjdembnfdaagreat", sum := "b929704203661db387cd600e63f6e9d64a04e8d9a4d6a0ec2f2764482cfa61ac", func := "toponym/toponymlaw20.StepFolds", spec := "stepFolds", inPlace := ["internal/bytealg.abigen_runtime_cmpstring", "internal/bytealg.Compare", "internal/bytealg.IndexByteString", "internal/abi.NoEscape"], unfollowed := true, recurses := true, apart := false }
def StepFoldsSaid : Prop := stepFoldsRow.holds Tryz.pinned (OpenSpec.ofChange stepFoldsSpec)

/-- ITS FALSE NEIGHBOUR: 'it returns false'. Refute it at one input. -/
def stepFoldsWrong : ChangeSpec := { name := "stepFolds", fn := fun _ => fun
  | [d1, d2, d3] => { results := [.lit (.bool false)], args := [d1, d2, d3] }
  | _ => none }
def StepFoldsWrongFalsely : Prop := stepFoldsRow.holds Tryz.pinned (OpenSpec.ofChange stepFoldsWrong)

/-- 'toponymlaw18.CloseAny': WHATEVER THE INPUT: true; the input reads as it did. -/
def closeAnySpec : ChangeSpec := { name := "closeAny", fn := fun _ => fun
  | [d1, d2] => { results := [.lit (.bool true)], args := [d1, d2] }
  | _ => none }
def closeAnyRow : OpenClaim := { program := "ytopbbjdembnfdaagreat", sum := "b929704203661db387cd600e63f6e9d64a04e8d9a4d6a0ec2f2764482cfa61ac", func := "toponym/toponymlaw18.CloseAny", spec := "closeAny", inPlace := ["internal/bytealg.abigen_runtime_cmpstring", "internal/bytealg.Compare"], unfollowed := true, recurses := true, apart := false }
def CloseAnySaid : Prop := closeAnyRow.holds Tryz.pinned (OpenSpec.ofChange closeAnySpec)

/-- ITS FALSE NEIGHBOUR: 'it returns false'. Refute it at one input. -/
def closeAnyWrong : ChangeSpec := { name := "closeAny", fn := fun _ => fun
  | [d1, d2] => { results := [.lit (.bool false)], args := [d1, d2] }
  | _ => none }
def CloseAnyWrongFalsely : Prop := closeAnyRow.holds Tryz.pinned (OpenSpec.ofChange closeAnyWrong)

/-- 'toponymlaw18.CloseSwaps': WHATEVER THE INPUT: true; the input reads as it did. -/
def closeSwapsSpec : ChangeSpec := { name := "closeSwaps", fn := fun _ => fun
  | [d] => { results := [.lit (.bool true)], args := [d] }
  | _ => none }
def closeSwapsRow : OpenClaim := { program := "ytopbbjdembnfdaagreat", sum := "b929704203661db387cd600e63f6e9d64a04e8d9a4d6a0ec2f2764482cfa61ac", func := "toponym/toponymlaw18.CloseSwaps", spec := "closeSwaps", inPlace := ["internal/bytealg.abigen_runtime_cmpstring", "internal/bytealg.Compare"], unfollowed := true, recurses := true, apart := false }
def CloseSwapsSaid : Prop := closeSwapsRow.holds Tryz.pinned (OpenSpec.ofChange closeSwapsSpec)

/-- ITS FALSE NEIGHBOUR: 'it returns false'. Refute it at one input. -/
def closeSwapsWrong : ChangeSpec := { name := "closeSwaps", fn := fun _ => fun
  | [d] => { results := [.lit (.bool false)], args := [d] }
  | _ => none }
def CloseSwapsWrongFalsely : Prop := closeSwapsRow.holds Tryz.pinned (OpenSpec.ofChange closeSwapsWrong)

/-- 'toponymlaw18.CloseWays': WHATEVER THE INPUT: true; the input reads as it did. -/
def closeWaysSpec : ChangeSpec := { name := "closeWays", fn := fun _ => fun
  | [d] => { results := [.lit (.bool true)], args := [d] }
  | _ => none }
def closeWaysRow : OpenClaim := { program := "ytopbbjdembnfdaagreat", sum := "b929704203661db387cd600e63f6e9d64a04e8d9a4d6a0ec2f2764482cfa61ac", func := "toponym/toponymlaw18.CloseWays", spec := "closeWays", inPlace := ["internal/bytealg.abigen_runtime_cmpstring", "internal/bytealg.Compare"], unfollowed := true, recurses := true, apart := false }
def CloseWaysSaid : Prop := closeWaysRow.holds Tryz.pinned (OpenSpec.ofChange closeWaysSpec)

/-- ITS FALSE NEIGHBOUR: 'it returns false'. Refute it at one input. -/
def closeWaysWrong : ChangeSpec := { name := "closeWays", fn := fun _ => fun
  | [d] => { results := [.lit (.bool false)], args := [d] }
  | _ => none }
def CloseWaysWrongFalsely : Prop := closeWaysRow.holds Tryz.pinned (OpenSpec.ofChange closeWaysWrong)

/- THE SECOND FORM. 'bulk': how many values and letters a reading holds, each counted each time it is reached (what is shared counts as often as it is met; a slice's spare places count too). A statement '..UptoSaid' is the law's where the arguments, and the package variables that the reading takes, are together of bulk at most 1048576: NARROWER than '..Said'. Prove '..Said' where nothing that the law and all that it calls make is longer than what came in: it says more and counts as full. Else prove '..UptoSaid'. A law counts once. -/
mutual
def uptoBulk {H : Type} : DataW H → Nat
  | .lit (.string bytes) => bytes.length + 1
  | .lit _ => 1
  | .nil => 1
  | .ptr d => uptoBulk d + 1
  | .slice elems spare => uptoBulkAll elems + uptoBulkAll spare + 1
  | .agg parts => uptoBulkAll parts + 1
  | .iface _ d => uptoBulk d + 1
  | .map entries => uptoBulkEntries entries + 1
  | .held _ => 1
def uptoBulkAll {H : Type} : List (DataW H) → Nat
  | [] => 0
  | d :: r => uptoBulk d + uptoBulkAll r
def uptoBulkEntries {H : Type} : List (Lit × DataW H) → Nat
  | [] => 0
  | x :: r => uptoBulkEntry x + uptoBulkEntries r
def uptoBulkEntry {H : Type} : Lit × DataW H → Nat
  | (.string bytes, d) => bytes.length + uptoBulk d + 1
  | (_, d) => uptoBulk d + 1
 end
def uptoSmall : (H : Type) → List (DataW H) → Bool := fun _ ds => decide (uptoBulkAll ds ≤ 1048576)
def OpenSpec.upto (s : _root_.Go.ChangeSpec) : _root_.Go.OpenSpec := { _root_.Go.OpenSpec.ofChange s with cond := some uptoSmall }

/-- 'toponymlaw14.LookAny', WHERE WHAT IT READS IS OF BULK AT MOST 1048576: true; the input reads as it did. -/
def lookAnyUptoRow : OpenClaim := { program := "ytopbbjdembnfdaagreat", sum := "b929704203661db387cd600e63f6e9d64a04e8d9a4d6a0ec2f2764482cfa61ac", func := "toponym/toponymlaw14.LookAny", spec := "lookAny", inPlace := ["internal/bytealg.abigen_runtime_cmpstring", "internal/bytealg.Compare", "internal/bytealg.IndexByteString", "internal/abi.NoEscape"], unfollowed := true, recurses := true, apart := false, narrowed := true }
def LookAnyUptoSaid : Prop := lookAnyUptoRow.holds Tryz.pinned (OpenSpec.upto lookAnySpec)

/-- 'toponymlaw14.LookTwo', WHERE WHAT IT READS IS OF BULK AT MOST 1048576: true; the input reads as it did. -/
def lookTwoUptoRow : OpenClaim := { program := "ytopbbjdembnfdaagreat", sum := "b929704203661db387cd600e63f6e9d64a04e8d9a4d6a0ec2f2764482cfa61ac", func := "toponym/toponymlaw14.LookTwo", spec := "lookTwo", inPlace := ["internal/bytealg.abigen_runtime_cmpstring", "internal/bytealg.Compare", "internal/bytealg.IndexByteString", "internal/abi.NoEscape"], unfollowed := true, recurses := true, apart := false, narrowed := true }
def LookTwoUptoSaid : Prop := lookTwoUptoRow.holds Tryz.pinned (OpenSpec.upto lookTwoSpec)

/-- 'toponymlaw14.LookBelow', WHERE WHAT IT READS IS OF BULK AT MOST 1048576: true; the input reads as it did. -/
def lookBelowUptoRow : OpenClaim := { program := "ytopbbjdembnfdaagreat", sum := "b929704203661db387cd600e63f6e9d64a04e8d9a4d6a0ec2f2764482cfa61ac", func := "toponym/toponymlaw14.LookBelow", spec := "lookBelow", inPlace := ["internal/bytealg.abigen_runtime_cmpstring", "internal/bytealg.Compare", "internal/bytealg.IndexByteString", "internal/abi.NoEscape"], unfollowed := true, recurses := true, apart := false, narrowed := true }
def LookBelowUptoSaid : Prop := lookBelowUptoRow.holds Tryz.pinned (OpenSpec.upto lookBelowSpec)

/-- 'toponymlaw14.LookTypes', WHERE WHAT IT READS IS OF BULK AT MOST 1048576: true; the input reads as it did. -/
def lookTypesUptoRow : OpenClaim := { program := "ytopbbjdembnfdaagreat", sum := "b929704203661db387cd600e63f6e9d64a04e8d9a4d6a0ec2f2764482cfa61ac", func := "toponym/toponymlaw14.LookTypes", spec := "lookTypes", inPlace := ["internal/bytealg.abigen_runtime_cmpstring", "internal/bytealg.Compare", "internal/bytealg.IndexByteString", "internal/abi.NoEscape"], unfollowed := true, recurses := true, apart := false, narrowed := true }
def LookTypesUptoSaid : Prop := lookTypesUptoRow.holds Tryz.pinned (OpenSpec.upto lookTypesSpec)

/-- 'toponymlaw14.LookFolds', WHERE WHAT IT READS IS OF BULK AT MOST 1048576: true; the input reads as it did. -/
def lookFoldsUptoRow : OpenClaim := { program := "ytopbbjdembnfdaagreat", sum := "b929704203661db387cd600e63f6e9d64a04e8d9a4d6a0ec2f2764482cfa61ac", func := "toponym/toponymlaw14.LookFolds", spec := "lookFolds", inPlace := ["internal/bytealg.abigen_runtime_cmpstring", "internal/bytealg.Compare", "internal/bytealg.IndexByteString", "internal/abi.NoEscape"], unfollowed := true, recurses := true, apart := false, narrowed := true }
def LookFoldsUptoSaid : Prop := lookFoldsUptoRow.holds Tryz.pinned (OpenSpec.upto lookFoldsSpec)

/-- 'toponymlaw20.StepNext', WHERE WHAT IT READS IS OF BULK AT MOST 1048576: true; the input reads as it did. -/
def stepNextUptoRow : OpenClaim := { program := "ytopbbjdembnfdaagreat", sum := "b929704203661db387cd600e63f6e9d64a04e8d9a4d6a0ec2f2764482cfa61ac", func := "toponym/toponymlaw20.StepNext", spec := "stepNext", inPlace := ["internal/bytealg.abigen_runtime_cmpstring", "internal/bytealg.Compare", "internal/bytealg.IndexByteString", "internal/abi.NoEscape"], unfollowed := true, recurses := true, apart := false, narrowed := true }
def StepNextUptoSaid : Prop := stepNextUptoRow.holds Tryz.pinned (OpenSpec.upto stepNextSpec)

/-- 'toponymlaw20.StepOn', WHERE WHAT IT READS IS OF BULK AT MOST 1048576: true; the input reads as it did. -/
def stepOnUptoRow : OpenClaim := { program := "ytopbbjdembnfdaagreat", sum := "b929704203661db387cd600e63f6e9d64a04e8d9a4d6a0ec2f2764482cfa61ac", func := "toponym/toponymlaw20.StepOn", spec := "stepOn", inPlace := ["internal/bytealg.abigen_runtime_cmpstring", "internal/bytealg.Compare", "internal/bytealg.IndexByteString", "internal/abi.NoEscape"], unfollowed := true, recurses := true, apart := false, narrowed := true }
def StepOnUptoSaid : Prop := stepOnUptoRow.holds Tryz.pinned (OpenSpec.upto stepOnSpec)

/-- 'toponymlaw20.StepLame', WHERE WHAT IT READS IS OF BULK AT MOST 1048576: true; the input reads as it did. -/
def stepLameUptoRow : OpenClaim := { program := "ytopbbjdembnfdaagreat", sum := "b929704203661db387cd600e63f6e9d64a04e8d9a4d6a0ec2f2764482cfa61ac", func := "toponym/toponymlaw20.StepLame", spec := "stepLame", inPlace := ["internal/bytealg.abigen_runtime_cmpstring", "internal/bytealg.Compare", "internal/bytealg.IndexByteString", "internal/abi.NoEscape"], unfollowed := true, recurses := true, apart := false, narrowed := true }
def StepLameUptoSaid : Prop := stepLameUptoRow.holds Tryz.pinned (OpenSpec.upto stepLameSpec)

/-- 'toponymlaw20.StepFolds', WHERE WHAT IT READS IS OF BULK AT MOST 1048576: true; the input reads as it did. -/
def stepFoldsUptoRow : OpenClaim := { program := "ytopbbjdembnfdaagreat", sum := "b929704203661db387cd600e63f6e9d64a04e8d9a4d6a0ec2f2764482cfa61ac", func := "toponym/toponymlaw20.StepFolds", spec := "stepFolds", inPlace := ["internal/bytealg.abigen_runtime_cmpstring", "internal/bytealg.Compare", "internal/bytealg.IndexByteString", "internal/abi.NoEscape"], unfollowed := true, recurses := true, apart := false, narrowed := true }
def StepFoldsUptoSaid : Prop := stepFoldsUptoRow.holds Tryz.pinned (OpenSpec.upto stepFoldsSpec)

/-- 'toponymlaw18.CloseAny', WHERE WHAT IT READS IS OF BULK AT MOST 1048576: true; the input reads as it did. -/
def closeAnyUptoRow : OpenClaim := { program := "ytopbbjdembnfdaagreat", sum := "b929704203661db387cd600e63f6e9d64a04e8d9a4d6a0ec2f2764482cfa61ac", func := "toponym/toponymlaw18.CloseAny", spec := "closeAny", inPlace := ["internal/bytealg.abigen_runtime_cmpstring", "internal/bytealg.Compare"], unfollowed := true, recurses := true, apart := false, narrowed := true }
def CloseAnyUptoSaid : Prop := closeAnyUptoRow.holds Tryz.pinned (OpenSpec.upto closeAnySpec)

/-- 'toponymlaw18.CloseSwaps', WHERE WHAT IT READS IS OF BULK AT MOST 1048576: true; the input reads as it did. -/
def closeSwapsUptoRow : OpenClaim := { program := "ytopbbjdembnfdaagreat", sum := "b929704203661db387cd600e63f6e9d64a04e8d9a4d6a0ec2f2764482cfa61ac", func := "toponym/toponymlaw18.CloseSwaps", spec := "closeSwaps", inPlace := ["internal/bytealg.abigen_runtime_cmpstring", "internal/bytealg.Compare"], unfollowed := true, recurses := true, apart := false, narrowed := true }
def CloseSwapsUptoSaid : Prop := closeSwapsUptoRow.holds Tryz.pinned (OpenSpec.upto closeSwapsSpec)

/-- 'toponymlaw18.CloseWays', WHERE WHAT IT READS IS OF BULK AT MOST 1048576: true; the input reads as it did. -/
def closeWaysUptoRow : OpenClaim := { program := "ytopbbjdembnfdaagreat", sum := "b929704203661db387cd600e63f6e9d64a04e8d9a4d6a0ec2f2764482cfa61ac", func := "toponym/toponymlaw18.CloseWays", spec := "closeWays", inPlace := ["internal/bytealg.abigen_runtime_cmpstring", "internal/bytealg.Compare"], unfollowed := true, recurses := true, apart := false, narrowed := true }
def CloseWaysUptoSaid : Prop := closeWaysUptoRow.holds Tryz.pinned (OpenSpec.upto closeWaysSpec)

end Rows
end Go.Proofs.YtopbbjdembnfdaaGreat
