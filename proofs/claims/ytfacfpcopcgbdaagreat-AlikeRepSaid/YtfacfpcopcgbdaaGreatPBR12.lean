/-
  Texts of a proof, joined.
  Conditions: none.
-/
import Derived.Test.YtfacfpcopcgbdaaGreatPBR11
set_option linter.all false
set_option maxRecDepth 20000
set_option maxHeartbeats 8000000
namespace Go.Proofs.YtfacfpcopcgbdaaGreat
open Go Tryz
variable {w w0 w1 W0 x A:World}{v u lv nv:Value}{cs l:List Value}{B k b i j c m cap:Nat}{t e:TypeId}{a:Option Addr}{S C:Nat->Prop}{q n o:Nm}{N:NetL}
theorem zfe:zaO smallN:=by
 refine⟨small_z,by decide,by decide,by decide,by decide,by decide,?_,?_⟩
 ·intro h hh;simp only[smallN,yay,ybn,or_false]at hh;rcases hh with rfl|rfl<;>decide
 ·intro h hh;simp only[smallN,yay,ybn,or_false]at hh;rcases hh with rfl|rfl<;>exact⟨by decide,by decide⟩
theorem zgg:canN (zaU smallN)=[[],[[97]],[[111]],kH,kX]:=by kernel_rfl
end Go.Proofs.YtfacfpcopcgbdaaGreat
