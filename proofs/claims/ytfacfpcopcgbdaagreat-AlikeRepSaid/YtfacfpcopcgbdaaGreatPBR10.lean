/-
  Texts of a proof, joined.
  Conditions: none.
-/
import Derived.Test.YtfacfpcopcgbdaaGreatPBR09
set_option linter.all false
set_option maxRecDepth 20000
set_option maxHeartbeats 8000000
namespace Go.Proofs.YtfacfpcopcgbdaaGreat
open Go Tryz
variable {w w0 w1 W0 x A:World}{v u lv nv:Value}{cs l:List Value}{B k b i j c m cap:Nat}{t e:TypeId}{a:Option Addr}{S C:Nat->Prop}{q n o:Nm}{N:NetL}
set_option maxRecDepth 100000
theorem zji{P:Program}{K:Value->World->Prop}{n:Nat}{parts:List (Nat×Value)}{arr:Array Value}(h:bsC P t n parts=some (e,arr))
  (hk:∀w1,Ext w w1->w1.heap.size=w.heap.size+1->w1.heap[w.heap.size]? =some (.cells arr e (0,0))->K (.slice (some ⟨w.heap.size,0,.none⟩) n n) w1):bsL P t n parts w K .mk:=by
 unfold bsL bsK;rw[h];exact hk _ (yea w _) (zai w _) (zam w _)
theorem ziK(w:World):NamesAt w (.slice .none 0 0) []:=⟨[],zbb _,rfl,λ i h=>absurd h sM⟩
theorem zm6{sv:Value}(h1:Row w sv [nv])(h2:Row w nv (n.map vs)):NamesAt w sv [n]:=⟨[nv],h1,rfl,λ i h h'=>by
 have h0:i=0:=by simp at h;omega
 subst h0;exact h2⟩
end Go.Proofs.YtfacfpcopcgbdaaGreat
