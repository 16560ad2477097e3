/-
  Texts of a proof, joined: X4.
  Conditions: none.
-/
import Derived.Test.YtahbdamijngmmaaGreatJPA11
set_option linter.unusedVariables false
set_option linter.unusedSimpArgs false
set_option linter.defProp false
set_option linter.unnecessarySimpa false
set_option maxHeartbeats 8000000
namespace Go.Proofs.YtahbdamijngmmaaGreat
open Go
set_option maxRecDepth 100000
def wLame:Lab:=[108,97,109,101]
abbrev wWords:List Value:=[vs [103,111,105,110,103],vs [102,111,117,110,100],vs [101,109,112,116,121],vs [109,105,115,115,105,110,103],vs [116,111,111,108,111,110,103],vs [114,101,102,117,115,101,100],vs wLame,vs [108,111,111,112],vs [102,97,114],vs [103,111,110,101]]
end Go.Proofs.YtahbdamijngmmaaGreat
