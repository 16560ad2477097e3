/-
  Texts of a proof, joined: G9.
  Conditions: none.
-/
import Derived.Test.YtahbdamijngmmaaGreatJPA09
set_option linter.unusedVariables false
set_option linter.unusedSimpArgs false
set_option linter.defProp false
set_option linter.unnecessarySimpa false
set_option maxHeartbeats 8000000
namespace Go.Proofs.YtahbdamijngmmaaGreat
open Go
set_option maxRecDepth 100000
theorem zgw{P:Program}{w:World}{K:Value->World->Prop}{t e:TypeId}{n:Nat}{parts:List (Nat×Value)}{arr:Array Value}(h:bsC P t n parts=some (e,arr))
  (hk:∀w1,Ext w w1->w1.heap.size=w.heap.size+1->w1.heap[w.heap.size]? =some (.cells arr e (0,0))->K (.slice (some ⟨w.heap.size,0,.none⟩) n n) w1):bsL P t n parts w K .mk:=by
 unfold bsL bsK;rw[h];exact hk _ (Ext.alloc w _) (zai w _) (zau w _)
theorem zhE(w:World):NamesAt w (.slice .none 0 0) []:=⟨[],za7 _,rfl,fun i h=>absurd h (by simp)⟩
theorem zls{w:World}{nv sv:Value}{n:Nm}(h1:Row w sv [nv])(h2:Row w nv (n.map vs)):NamesAt w sv [n]:=⟨[nv],h1,rfl,fun i h h'=>by
 have h0:i=0:=by simp at h;omega
 subst h0;exact h2⟩
end Go.Proofs.YtahbdamijngmmaaGreat
