/-
  Texts of a proof, joined: X4.
  Conditions: none.
-/
import Derived.Test.YtahbdamijngmmaaGreatJRP11
set_option linter.unusedVariables false
set_option linter.unusedSimpArgs false
set_option linter.defProp false
set_option linter.unnecessarySimpa false
set_option maxHeartbeats 8000000
namespace Go.Proofs.YtahbdamijngmmaaGreat
open Go
set_option maxRecDepth 100000
def kA0:zar:=⟨0,kX,0,0,false,0⟩
def kA1:zar:=⟨1,kX,0,1,true,0⟩
def kA2:zar:=⟨1,kX,0,1,true,1⟩
end Go.Proofs.YtahbdamijngmmaaGreat
