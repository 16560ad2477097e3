/-
  Texts of a proof, joined: A8.
  Conditions: none.
-/
import Derived.Test.YtahbdamijngmmaaGreatJPA09
import Derived.Test.YtahbdamijngmmaaGreatJPA11
set_option linter.unusedVariables false
set_option linter.unusedSimpArgs false
set_option linter.defProp false
set_option linter.unnecessarySimpa false
set_option maxHeartbeats 8000000
namespace Go.Proofs.YtahbdamijngmmaaGreat
open Go
set_option maxRecDepth 10000
theorem zdt:zby smallN:=by
 refine⟨small_z,by decide,by decide,by decide,by decide,by decide,?_,?_⟩
 ·intro h hh;simp only[smallN,List.mem_cons,List.not_mem_nil,or_false]at hh;rcases hh with rfl|rfl<;>decide
 ·intro h hh;simp only[smallN,List.mem_cons,List.not_mem_nil,or_false]at hh;rcases hh with rfl|rfl<;>exact⟨by decide,by decide⟩
end Go.Proofs.YtahbdamijngmmaaGreat
