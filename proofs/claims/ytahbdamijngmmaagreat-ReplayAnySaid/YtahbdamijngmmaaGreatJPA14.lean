/-
  Texts of a proof, joined: OB, OE, OF, K35, OJ, RA, M5ss, RB, OG, U0, U1, U2, U3, U4, U5, U6, U7, U8, U9, UA, UB, UC, UD, OK, OH, OM.
  Conditions: none.
-/
import Derived.Test.YtahbdamijngmmaaGreatJPA09
import Derived.Test.YtahbdamijngmmaaGreatJPA12
import Derived.Test.YtahbdamijngmmaaGreatJPA13
import Derived.Test.YtahbdamijngmmaaGreatJPA08
import Derived.Test.YtahbdamijngmmaaGreatJPA07
import Derived.Test.YtahbdamijngmmaaGreatJPA02
import Derived.Test.YtahbdamijngmmaaGreatJPA04
import Derived.Test.YtahbdamijngmmaaGreatJPA01
import Derived.Test.YtahbdamijngmmaaGreatJPA06
set_option linter.unusedVariables false
set_option linter.unusedSimpArgs false
set_option linter.defProp false
set_option linter.unnecessarySimpa false
set_option maxHeartbeats 8000000
namespace Go.Proofs.YtahbdamijngmmaaGreat
open Go
set_option maxRecDepth 10000
theorem kX_good:zbX kX=true:=by kernel_rfl
theorem zlj(l:List Int):∀v∈l.map vi,v.cells=#[v]:=fun v h=>by obtain⟨x,_,rfl⟩:=List.mem_map.1 h;rfl
def EndG(w:World)(a:Option Addr)(E:List (Int×List Int)):Prop:=∀i (hi:i<E.length),∃xa x x1 ap cp,a=some xa/\adr (some xa) (i*2)=some x/\adr (some x) 0=some x/\adr (some x) 1=some x1/\zad w (some x)=some (vi E[i].1)/\zad w (some x1)=some (.slice ap E[i].2.length cp)/\
 Row w (.slice ap E[i].2.length cp) (E[i].2.map vi)/\∀j (hj:j<E[i].2.length),∃xp,ap=some xp/\zad w (adr (some xp) j)=some (vi E[i].2[j])
instance Tr.ends{a:Option Addr}{E:List (Int×List Int)}:Tr fun w=>EndG w a E:=⟨fun hE h i hi=>by
 obtain⟨xa,x,x1,ap,cp,e0,e1,e2,e3,g0,g1,hr,hg⟩:=h i hi
 exact⟨xa,x,x1,ap,cp,e0,e1,e2,e3,zaa hE g0,zaa hE g1,hr.ext hE,fun j hj=>by
  obtain⟨xp,e,g⟩:=hg j hj
  exact⟨xp,e,zaa hE g⟩⟩⟩
theorem zgg{w:World}{v:Value}{kd:IntKind}{ps:List Int}(h:Row w v (ps.map (.int kd))):∃a c,v= .slice a ps.length c/\∀i (hi:i<ps.length),∃x,a=some x/\zad w (adr (some x) i)=some (.int kd ps[i]):=by
 obtain⟨a,c,rfl,_,hg⟩:=h;refine⟨a,c,by rw[ylm],fun i hi=>?_⟩;have g:=hg i (by rw[ylm];exact hi);rw[List.getElem_map]at g;obtain⟨x,rfl⟩:=yxs (zag g);exact⟨x,rfl,g⟩
theorem zgO{z:Array Value}{n:Nat}{q:Value}(h:q∈(Builtin.zeroCells z n).toList):q∈z.toList:=by
 unfold Builtin.zeroCells at h;rw[Array.mem_toList_iff]at h ⊢;simp only[Array.mem_def]at h;simp at h;obtain⟨j,hj,hq⟩:=h;have hz:0<z.size:=by
  rcases Nat.eq_zero_or_pos z.size with h0|h0
  ·rw[h0]at hj;omega
  ·exact h0
 have hlt:=Nat.mod_lt j hz;rw[getElem!_pos z _ hlt]at hq;rw[←hq];exact Array.getElem_mem hlt
section
variable {P : Program} {w : World} {B : Nat}
end
section
variable {P : Program} {d : Option Tmp} {ty : TypeId} {ps : String} {af : Array Edge} {g : Option (Nat × Bool)} {ρ : Operand -> Value} {w : World} {K K2 : Value -> World -> Prop} {α : Type} {k : Nat} {C : List Value -> α -> Prop}
theorem zko{s x:Operand}{ts:Array TypeId}(h2:opW P ⟨d,.call ⟨.builtin .append,#[s,x],ts⟩,ty,ps,af,g⟩ ρ w K2)(h:∀v' w',(Builtin.append_ ts ty #[ρ s,ρ x]).run P w= .ok v' w'->K2 v' w'->K v' w'):
  opW P ⟨d,.call ⟨.builtin .append,#[s,x],ts⟩,ty,ps,af,g⟩ ρ w K:=by
 simp only[opW,execOp,Sem.run_bind,resolve]at h2 ⊢;simp only[Sem.run_pure,Result.andThen_ok,invoke,builtin]at h2 ⊢;simp only[List.map_toArray,List.map_cons,List.map_nil]at h2 ⊢;rw[Sem.run_bind]at h2 ⊢;cases hr:(Builtin.append_ ts ty #[ρ s,ρ x]).run P w with
 |ok v' w'=>rw[hr]at h2;exact h v' w' hr h2
 |_=>rw[hr]at h2;exact h2.elim
end
theorem Less_int(w:World)(a b:Int):Fn Tryz.prog 189 #[vi a,vi b] w (fun v w'=>v= .bool (decide (a<b))/\w'=w):=by
 refine enter Tryz.func189 Tryz.ntmps189 rfl rfl ?_;refine go trivial ?_;refine rcg [(2,7),(7,12)] trivial (N_int.isNaN_ok w a) ?_;rintro _ _ ⟨rfl,rfl⟩;refine reg [(2,7),(7,12)] trivial ?_;refine go trivial ?_;refine rt0 Tryz.ntmps189 ?_;exact⟨rfl,rfl⟩
theorem zj6{w:World}{a:Option Addr}{c:Nat}{l:List Int}(hl:l.length<=12)(hr:Row w (.slice a l.length c) (l.map vi))(hs:∀i (h:i+1<l.length),l[i]<=l[i+1]):
  Fn Tryz.prog 183 #[.slice a l.length c,vi 0,vi l.length] w (fun _ w'=>Ext w w'):=by
 have hg:∀i (hi:i<l.length),∃x,a=some x/\zad w (adr (some x) i)=some (vi l[i]):=by
  obtain⟨a',c',e,_,hg⟩:=hr;rw[Value.slice.injEq]at e;obtain⟨rfl,_,rfl⟩:=e;intro i hi;have g:=hg i (by rw[ylm];exact hi);rw[List.getElem_map]at g;obtain⟨x,rfl⟩:=yxs (zag g);exact⟨x,rfl,g⟩
 refine enter Tryz.func183 Tryz.ntmps183 rfl rfl ?_;refine go (show(0:Int)+1=1 from rfl) ?_;refine zao (fun m σ ds v=>ds=[]/\∃i:Nat,l.length<=i+1+m/\(σ 6=vi ((i+1:Nat):Int)/\σ 0= .slice a l.length c/\σ 1=vi 0/\σ 2=vi l.length)/\Ext w v) l.length ⟨rfl,0,by omega,⟨vr0,vq0,vq0,vq0⟩,Keep.refl _ _⟩ ?_;rintro m σ ds v ⟨rfl,i,him,s,hE⟩;by_cases hi:i+1<l.length
 rotate_left
 ·refine go (an2 s (show decide (((i+1:Nat):Int)<(l.length:Int))=false from yef (by omega))) ?_;exact zaC (by simp) rfl hE
 obtain⟨x0,rfl,g0⟩:=hg i (by omega);obtain⟨x1,e1,g1⟩:=hg (i+1) hi;cases e1;have hlt:decide (((i+1:Nat):Int)<(l.length:Int))=true:=yet (by omega);have hi1:((i+1:Nat):Int)+1=((i+1+1:Nat):Int):=by push_cast;rfl
 refine go (an2 s hlt) ?_;refine zao (fun m σ ds v=>ds=[]/\(σ 7=vi ((i+1:Nat):Int)/\σ 6=vi ((i+1:Nat):Int)/\σ 0= .slice (some x0) l.length c/\σ 1=vi 0/\σ 2=vi l.length)/\Ext w v) 0 ⟨rfl,⟨vr0,vq1 s,vq1 s,vq1 s,vq1 s⟩,hE⟩ ?_;clear s hE;rintro m0 σ ds v ⟨rfl,s,hE⟩;refine go trivial ?_;refine zaw (Q:=fun e σ' ds' v'=>e= .normal/\ds'=[]/\(σ' 7=vi ((i+1:Nat):Int)/\σ' 6=vi ((i+1:Nat):Int)/\σ' 0= .slice (some x0) l.length c/\σ' 1=vi 0/\σ' 2=vi l.length)/\Ext v v'/\σ' 30= .bool false) ?_ ?_
 ·refine zaJ (fun _=>false) [(0,true),(1,true),(2,true),(3,true),(4,true),(5,true),(6,true),(7,true),(8,true),(9,true),(10,true),(11,true),(12,true),(13,false),(14,true)] NoS mixed (by kernel_rfl) ?_;intro gd K x hgd hx hxe hK;clear hxe;have hg3:=gk 3 19 hgd rfl;have e0:=zaa (hE.trans hx) g0;have e1:=zaa (hE.trans hx) g1;have h1:decide (((i+1:Nat):Int)>0)=true:=yet (by omega);have hsub:((i+1:Nat):Int) - 1=(i:Int):=by omega
  have hj0:=cj i;have hj1:(i:Int)<(l.length:Int):=by omega
  have hk0:(0:Int)<=((i+1:Nat):Int):=by omega
  have hk1:((i+1:Nat):Int)<(l.length:Int):=by omega
  simp (disch:=first|omega|assumption|rfl) only[go_sem,s,h1,hsub,hj0,hj1,hk0,hk1,e0,e1,zaT,↓hg3];refine Fn.mono (Less_int x l[i+1] l[i]) ?_;rintro _ _ ⟨rfl,rfl⟩;refine⟨.inr (Keep.refl _ _),?_⟩;rw[show decide (l[i+1]<l[i])=false from yef (by have:=hs i hi;omega)];simp (disch:=first|omega|assumption|rfl) only[go_sem,zaT,↓hg3];apply hK;exact⟨rfl,rfl,sc s,hx,vr0⟩
 clear s;rintro _ σ1 _ v1 ⟨rfl,rfl,s,hv1,s30⟩;refine go (an3 s s30 hi1) ?_;exact⟨m - 1,by omega,rfl,i+1,by omega,sc (an2 s hi1),hE.trans hv1⟩
theorem zjZ{w:World}{a:Option Addr}{c:Nat}{l:List Int}{k:Int}(hl:l.length<=12)(hr:Row w (.slice a l.length c) (l.map vi))(hs:∀i (h:i+1<l.length),l[i]<=l[i+1]):
  Fn Tryz.prog 144 #[.slice a l.length c,vi 0,vi l.length,vi k] w (fun _ w'=>Ext w w'):=by
 refine enter Tryz.func144 Tryz.ntmps144 rfl rfl ?_;refine go trivial ?_;refine zh4 0 (fun _ σ v=>(σ 0= .slice a l.length c/\σ 1=vi 0/\σ 2=vi l.length)/\v=w) ⟨⟨vq0,vq0,vq0⟩,rfl⟩ (fun i _ _ h=>absurd h (by omega)) ?_;rintro σ v _ ⟨s,rfl⟩;have h12:decide ((l.length:Int)<=12)=true:=yet (by omega);refine go (an3 s (show(l.length:Int) - 0=(l.length:Int) from Int.sub_zero _) h12) ?_;refine rc s (zj6 hl hr hs) ?_;rintro _ w1 hE;refine rgo trivial ?_;exact zaC (by simp) rfl hE
theorem ziW(w:World){n:Int}(h0:0<=n)(h9:n<=9):Fn Tryz.prog 193 #[.int .u64 n] w (fun v w'=>(∃k,v=vi k)/\w'=w):=by
 have f1:decide (n>=4294967296)=false:=yef (by omega);have f2:decide (n>=65536)=false:=yef (by omega);have f3:decide (n>=256)=false:=yef (by omega);have hn:n=0\/n=1\/n=2\/n=3\/n=4\/n=5\/n=6\/n=7\/n=8\/n=9:=by omega
 rcases hn with rfl|rfl|rfl|rfl|rfl|rfl|rfl|rfl|rfl|rfl
 all_goals
  refine enter Tryz.func193 Tryz.ntmps193 rfl rfl ?_;refine go (an3 f1 f2 f3) ?_;refine rq ?_;intro gd K hgd hK;try simp only[go_sem]
  first|refine zfy (v:= .int .u8 0) rfl ?_|refine zfy (v:= .int .u8 1) rfl ?_|refine zfy (v:= .int .u8 2) rfl ?_|refine zfy (v:= .int .u8 3) rfl ?_|refine zfy (v:= .int .u8 4) rfl ?_
  try simp only[go_sem]
  apply hK;refine go trivial ?_;refine rt0 Tryz.ntmps193 ?_;exact⟨⟨_,rfl⟩,rfl⟩
theorem zkx(w:World){n:Int}(h0:0<=n)(h9:n<=9):Fn Tryz.prog 145 #[.int .u64 n] w (fun v w'=>(∃k,v=vi k)/\w'=w):=by
 refine enter Tryz.func145 Tryz.ntmps145 rfl rfl ?_;refine go trivial ?_;refine rc trivial (ziW w h0 h9) ?_;rintro _ _ ⟨⟨k,rfl⟩,rfl⟩;refine rgo trivial ?_;refine rt0 Tryz.ntmps145 ?_;exact⟨⟨k,rfl⟩,rfl⟩
theorem ziP{w:World}{a:Option Addr}{c:Nat}{l:List Int}(hl:l.length<=9)(hr:Row w (.slice a l.length c) (l.map vi))(hs:∀i (h:i+1<l.length),l[i]<=l[i+1]):
  Fn Tryz.prog 89 #[.slice a l.length c] w (fun _ w'=>Ext w w'):=by
 refine enter Tryz.func89 Tryz.ntmps89 rfl rfl ?_;refine go trivial ?_;refine rc trivial (zkx w (n:=(l.length:Int)) (by omega) (by omega)) ?_;rintro _ _ ⟨⟨k,rfl⟩,rfl⟩;refine rd trivial (zjZ (by omega) hr hs) ?_;rintro _ w1 hE;refine rgo trivial ?_;exact zaC (by simp) rfl hE
def typesL:List Int:=[1,2,5,6,12,15,16,28,39]
def wordsT:List Lab:=[[65],[78,83],[67,78,65,77,69],[83,79,65],[80,84,82],[77,88],[84,88,84],[65,65,65,65],[68,78,65,77,69]]
def pairsT:List (List Value):=(typesL.zip wordsT).map fun x=>[vi x.1,vs x.2]
theorem zkF(w:World):Fn Tryz.prog 154 #[] w (fun v w'=>Ext w w'/\OwnK 2 w.heap.size w' 279 v pairsT):=by
 refine enter Tryz.func154 Tryz.ntmps154 rfl rfl ?_
 refine go trivial ?_
 refine rq ?_;intro gd K hgd hK
 try simp only[go_sem]
 have kb:∀(n:Int) (s:ByteArray),bdV Tryz.prog 279 [(0,vi n),(1,.string s)]=some (.agg #[vi n,.string s]):=fun n s=>by kernel_rfl
 iterate 9 (refine⟨by kernel_rfl,?_⟩;rw[kb];try simp only[go_sem])
 refine zgw (e:=279) (arr:=pairsT.flatten.toArray) (by kernel_rfl) ?_
 intro w1 hE1 hs1 hA
 try simp only[go_sem]
 refine hK _ _ ?_;clear hK hgd;clear K;try clear gd
 refine go trivial ?_
 refine rt0 Tryz.ntmps154 ?_
 exact⟨hE1,⟨by decide,.inr ⟨w.heap.size,9,_,rfl,Nat.le_refl _,hA,Nat.le_refl _,by decide,rfl,rfl⟩⟩,by decide,by decide⟩
theorem types_up:∀i (h:i+1<typesL.length),typesL[i]<=typesL[i+1]:=fun i h=>by
 have h8:i<8:=by simp[typesL]at h;omega
 have h9:i=0\/i=1\/i=2\/i=3\/i=4\/i=5\/i=6\/i=7:=by omega
 rcases h9 with rfl|rfl|rfl|rfl|rfl|rfl|rfl|rfl<;>simp[typesL]
theorem RAll_ok(w:World):Fn Tryz.prog 102 #[] w (fun v w'=>Row w' v (typesL.map vi)/\Ext w w'):=by
 refine enter Tryz.func102 Tryz.ntmps102 rfl rfl ?_
 refine go trivial ?_
 refine rc trivial (zkF w) ?_
 rintro nv w1 ⟨hE1,hoK⟩
 obtain⟨a,c,rfl,_,hg⟩:=hoK.rowK
 clear hoK
 rw[show pairsT.length=9 from rfl]
 refine rgo trivial ?_
 have hg':∀i (hi:i<9) (hl:i<typesL.length),∃s:Lab,zan w1 (adr a (i*2)) 2=some [vi typesL[i],vs s]:=fun i hi hl=>by
  have h:=hg i hi
  have h2:i<wordsT.length:=hi
  have e:pairsT[i]'hi=[vi typesL[i],vs wordsT[i]]:=by
   simp only[pairsT,List.getElem_map,List.getElem_zip];rfl
  exact⟨wordsT[i],h.trans (congrArg some e)⟩
 refine zaw (Q:=fun e σ' ds' x=>e= .exit 0/\ds'=[]/\∃kv,σ' 1=kv/\Ext w1 x/\Own w1.heap.size x 3 kv (typesL.map vi)) ?_ ?_
 ·refine zh4 9 (fun i σ x=>(σ 6=vi i/\σ 5=vi ((9:Nat):Int)/\σ 4= .slice a 9 c)/\∃kv,σ 1=kv/\Ext w1 x/\Own w1.heap.size x 3 kv ((typesL.take i).map vi)) ?_ ?_ ?_
  ·exact⟨⟨vr0,vr0,vq0⟩,.slice Option.none 0 0,vq0,Keep.refl _ _,Own.nil _ _ _⟩
  ·rintro i σ x hi q ⟨s,kv,h3,hEx,ho⟩
   have hl:i<typesL.length:=hi
   obtain⟨wd,hcs⟩:=hg' i hi hl
   have htk:typesL.take (i+1)=typesL.take i++ [typesL[i]]:=zal hl
   obtain⟨k,hk⟩:∃k,typesL[i]=k:=⟨_,rfl⟩
   rw[hk]at hcs htk
   obtain⟨xa,rfl⟩:=Option.isSome_iff_exists.1 (zak hcs)
   obtain⟨xi,hxi⟩:∃xi,adr (some xa) (i*2)=some xi:=⟨_,rfl⟩
   rw[hxi]at hcs
   have hcx:=zac hEx hcs
   refine go (an3 s q hxi) ?_
   refine rq ?_;intro gd K hgd hK
   try simp (disch:=first|omega|assumption|rfl) only[go_sem,s,q,hxi,hcx]
   refine za3 (P:=Tryz.prog) (l:=[vi k,vs wd]) rfl (zdO rfl rfl) rfl rfl ?_
   intro y hEy hsy hC
   try simp only[go_sem]
   refine hK _ _ ?_;clear hK hgd;clear K;try clear gd
   obtain⟨c5,hc5⟩:∃c,x.heap.size=c:=⟨_,rfl⟩
   rw[hc5]at hC ⊢
   have g0:zad y (some ⟨c5,0,Option.none⟩)=some (vi k):=zab (i:=0) hC rfl
   refine go trivial ?_
   refine rq ?_;intro gd K hgd hK
   try simp (disch:=first|omega|assumption|rfl) only[go_sem,h3,g0]
   refine zdk rfl rfl rfl rfl rfl ?_
   intro y2 hE2 hs2 ho2
   try simp (disch:=first|omega|assumption|rfl) only[go_sem,h3]
   refine zcv ((ho.ext hEy).ext hE2) ho2.row rfl rfl rfl rfl rfl rfl ((vq1 h3)) (vr0) (fun q hq=>by rw[List.mem_singleton.1 hq];rfl) (by simp;omega) (by decide) (by have:=hEx.size;have:=hEy.size;omega) ?_
   intro u y3 ho3 hE3 hk3 hb3
   try simp only[go_sem]
   refine hK _ _ ?_;clear hK hgd;clear K;try clear gd
   refine go (an2 s q) ?_
   exact⟨rfl,sc (an2 s q),u,vr0,hE3 w1 ((hEx.trans hEy).trans hE2) (Nat.le_refl _),by rw[htk,List.map_append];exact ho3⟩
  ·rintro σ x q ⟨s,kv,h3,hEx,ho⟩
   refine go (an2 s q) ?_
   exact⟨rfl,rfl,kv,(vq1 h3),hEx,ho⟩
 rintro _ σ _ x ⟨rfl,rfl,kv,h3,hEx,ho⟩
 have hrow:=ho.row
 obtain⟨ak,ck,rfl,hck,hgk⟩:=ho.row
 simp only[List.length_map]at hrow h3 hck
 refine go trivial ?_
 refine rc h3 (ziP (by decide) hrow types_up) ?_
 rintro _ y hxy
 refine rgo trivial ?_
 refine rc h3 (P_ci.Clip_ok hck) ?_
 rintro _ _ ⟨rfl,rfl⟩
 refine rgo trivial ?_
 refine rt0 Tryz.ntmps102 ?_
 exact⟨⟨ak,_,by rw[List.length_map],by rw[List.length_map];exact Nat.le_refl _,fun j hj=>zaa hxy (hgk j hj)⟩,hE1.trans (hEx.trans hxy)⟩
theorem zmB{w:World}{lv:Value}{l:List Int}{n:Int}(hl:Row w lv (l.map vi))(hlen:l.length<=1000000000):
  Fn Tryz.prog 153 #[lv,vi n] w (fun v w'=>(∃k,v=vi k/\decide (k>=0)=decide (n∈l))/\w'=w):=by
 obtain⟨a,c,rfl,hga⟩:=zgg hl
 refine enter Tryz.func153 Tryz.ntmps153 rfl rfl ?_
 refine go trivial ?_
 refine zh4 l.length (fun i σ v=>(σ 8=vi i/\σ 7=vi l.length/\σ 0= .slice a l.length c/\σ 1=vi n)/\v=w/\n∉l.take i) ?_ ?_ ?_
 ·exact⟨⟨vr0,vr0,vq0,vq0⟩,rfl,by simp⟩
 ·rintro i σ v hi r ⟨s,rfl,ht⟩
  obtain⟨x1,rfl,g1⟩:=hga i hi
  by_cases h:n=l[i]
  ·refine go (an4 s r g1 (decide_eq_true h)) ?_
   refine rt0 Tryz.ntmps153 ?_
   exact⟨⟨(i:Int),rfl,by rw[decide_eq_true (show(i:Int)>=0 by omega),decide_eq_true (h▸List.getElem_mem hi)]⟩,rfl⟩
  ·refine go (an4 s r g1 (decide_eq_false h)) ?_
   refine⟨rfl,sc (an2 s r),rfl,fun hm=>?_⟩
   rw[zal hi]at hm
   rcases List.mem_append.1 hm with hm|hm
   ·exact ht hm
   ·exact h (List.mem_singleton.1 hm)
 ·rintro σ v r ⟨s,rfl,ht⟩
  rw[List.take_length]at ht
  refine go (an2 s r) ?_
  refine rt0 Tryz.ntmps153 ?_
  exact⟨⟨-1,rfl,by rw[decide_eq_false ht];rfl⟩,rfl⟩
theorem zil{w:World}{lv:Value}{l:List Int}{n:Int}(hl:Row w lv (l.map vi))(hlen:l.length<=1000000000):
  Fn Tryz.prog 101 #[lv,vi n] w (fun v w'=>v= .bool (decide (n∈l))/\w'=w):=by
 obtain⟨a,c,rfl,_⟩:=id (zgg hl)
 refine enter Tryz.func101 Tryz.ntmps101 rfl rfl ?_
 refine go trivial ?_
 refine rc trivial (zmB (n:=n) hl hlen) ?_
 rintro _ _ ⟨⟨k,rfl,hk⟩,rfl⟩
 refine rgo hk ?_
 refine rt0 Tryz.ntmps101 ?_
 exact⟨rfl,rfl⟩
structure zeE where
 kind:Int
 name:Nm
 ty:Int
 picks:List Int
structure SeenC(w:World)(cs:List Value)(s:zeE):Prop where
 ex:∃nv pv,cs=[vi s.kind,nv,vi s.ty,pv]/\Row w nv (s.name.map vs)/\Row w pv (s.picks.map vi)
theorem SeenC.ext{w x:World}{cs:List Value}{s:zeE}(h:SeenC w cs s)(hE:Ext w x):SeenC x cs s:=by
 obtain⟨nv,pv,e,h1,h2⟩:=h.ex
 exact⟨nv,pv,e,h1.ext hE,h2.ext hE⟩
def zcI(N:NetL)(s:zeE):Bool:=decide (zaA s.name=0) && (decide (s.ty∈typesL) && ((zcJ N s.name s.ty s.picks).2 && decide ((zcJ N s.name s.ty s.picks).1.fin=s.kind)))
theorem zfK{n:Nm}(h:few n=true):(∀l∈n,l.length<=100)/\n.length<=140:=by
 simp only[few,Bool.and_eq_true,List.all_eq_true,decide_eq_true_eq]at h
 exact⟨h.2,h.1⟩
theorem zg1{n:Nm}(h:few n=true)(hc:zaA n=0):zbX n=true:=by
 unfold zbX;rw[h,decide_eq_true hc];rfl
theorem zg9{w0 w:World}(hE0:Ext w0 w){cs sc:List Value}{N:NetL}{s:zeE}(hN:NetAt w0 cs N)(hG:zby N)(hs:SeenC w sc s)(hf:few s.name=true)(hp:s.picks.length<=1000000000):
  Fn Tryz.prog 51 #[.agg cs.toArray,.agg sc.toArray] w (fun v w'=>v= .bool (zcI N s)/\Ext w w'):=by
 have hN0:=hN
 obtain⟨hsv,rv,rfl,hh,hr⟩:=hN.ex
 obtain⟨ah,ch,hhv,_⟩:=hh.open
 obtain⟨ar0,cr0,hrv,_⟩:=id hr
 obtain⟨nv,pv,rfl,hnv,hpv⟩:=hs.ex
 obtain⟨an,cn,hne,_⟩:=id hnv
 obtain⟨ap,cp,hpe,_⟩:=id hpv
 obtain⟨f1,f2⟩:=zfK hf
 refine enter Tryz.func51 Tryz.ntmps51 rfl rfl ?_
 repeat refine c_r ?_
 rw[hhv,hrv,hne,hpe]
 refine go trivial ?_
 rw[←hhv,←hrv,←hne,←hpe,zai]
 refine zaF ?_
 intro w1 hE1 hs1 hA hB
 obtain⟨b,hb⟩:∃b,w.heap.size=b:=⟨_,rfl⟩
 rw[hb]at hA hB ⊢
 have dN:zan w1 (some ⟨b,0,Option.none⟩) 4=some [hsv,rv,vi N.rw,vi N.rf]:=zae hA rfl
 have g0:zad w1 (some ⟨b+1,0,Option.none⟩)=some (vi s.kind):=zab hB rfl
 have g1:zad w1 (some ⟨b+1,1,Option.none⟩)=some nv:=zab hB rfl
 have g2:zad w1 (some ⟨b+1,2,Option.none⟩)=some (vi s.ty):=zab hB rfl
 have g3:zad w1 (some ⟨b+1,3,Option.none⟩)=some pv:=zab hB rfl
 refine go trivial ?_
 refine zaw (Q:=fun e σ' ds' v'=>e= .normal/\ds'=[]/\(σ' 2= .pointer (some ⟨b,0,Option.none⟩)/\σ' 3= .pointer (some ⟨b+1,0,Option.none⟩))/\Ext w1 v'/\σ' 17= .bool (!(decide (zaA s.name=0) && decide (s.ty∈typesL)))) ?_ ?_
 ·refine zaJ (fun _=>false) [(0,true),(1,true),(2,false),(3,true),(4,true),(6,true),(7,true),(5,false),(8,false),(9,true),(10,true)] NoS mixed (by kernel_rfl) ?_;intro gd K x hgd hx hxe hK;clear hxe
  have hg4:∀n σ b,zcE gd n σ (some (4,b))=zbS (ev n σ (.tmp 11)) b:=(fun n σ b=>by rw[zaY,show gd 4=some 11 from(by rw[hgd];rfl)];rfl)
  simp (disch:=first|omega|assumption|rfl) only[go_sem,zaa hx g1,Nat.zero_add]
  refine Fn.mono (zig x nv s.name (hnv.ext (hE1.trans hx)) (fun l hl=>by have:=f1 l hl;omega) (by omega)) ?_
  rintro _ y ⟨rfl,hy⟩
  refine⟨.inr hy,?_⟩
  obtain⟨t1,ht1⟩:∃t,decide (zaA s.name=0)=t:=⟨_,rfl⟩
  cases t1 with
  |false=>
   simp (disch:=first|omega|assumption|rfl) only[go_sem,ht1,zaT,↓hg4]
   refine hK _ _ ?_;clear hK hgd;clear K;try clear gd
   exact⟨rfl,rfl,sc trivial,hx.trans hy,by rw[ht1];first| (simp only[go_sem];done)| (simp only[go_sem];rfl)⟩
  |true=>
   have g2y:=zaa (hx.trans hy) g2
   simp (disch:=first|omega|assumption|rfl) only[go_sem,ht1,g2y,Nat.zero_add,zaT,↓hg4]
   refine Fn.mono (RAll_ok y) ?_
   rintro lv z ⟨hlv,hz⟩
   refine⟨.inr hz,?_⟩
   have g2z:=zaa hz g2y
   simp (disch:=first|omega|assumption|rfl) only[go_sem,g2z,Nat.zero_add,zaT,↓hg4]
   refine Fn.mono (zil (n:=s.ty) hlv (by decide)) ?_
   rintro _ _ ⟨rfl,rfl⟩
   refine⟨.inr (Keep.refl _ _),?_⟩
   simp (disch:=first|omega|assumption|rfl) only[go_sem,zaT,↓hg4]
   refine hK _ _ ?_;clear hK hgd;clear K;try clear gd
   exact⟨rfl,rfl,sc trivial,hx.trans (hy.trans hz),by rw[ht1];first| (simp only[go_sem];done)| (simp only[go_sem];rfl)⟩
 rintro _ σ1 _ w2 ⟨rfl,rfl,st,hE2,s17⟩
 have hE12:=hE1.trans hE2
 unfold zcI
 obtain⟨t1,ht1⟩:∃t,decide (zaA s.name=0)=t:=⟨_,rfl⟩
 obtain⟨t2,ht2⟩:∃t,decide (s.ty∈typesL)=t:=⟨_,rfl⟩
 rw[ht1,ht2]at s17 ⊢
 cases t1 with
 |false=>
  refine go s17 ?_
  refine rt0 Tryz.ntmps51 ?_
  exact⟨rfl,hE12⟩
 |true=>
 cases t2 with
 |false=>
  refine go s17 ?_
  refine rt0 Tryz.ntmps51 ?_
  exact⟨rfl,hE12⟩
 |true=>
 refine go (an2 st s17) ?_
 have hgq:=zg1 hf (of_decide_eq_true ht1)
 have hP:=Play_ok (t:=s.ty) (hE0.trans hE12) hN0 hG (hnv.ext hE12) hgq (hpv.ext hE12) hp
 refine rq ?_;intro gd K hgd hK
 try simp (disch:=first|omega|assumption|rfl) only[go_sem,st,zac hE2 dN,zaa hE2 g1,zaa hE2 g2,zaa hE2 g3,Nat.zero_add]
 refine Fn.mono hP ?_
 rintro _ w3 ⟨hE3,xv,rfl,hxv⟩
 obtain⟨S,hS⟩:∃S,(zcJ N s.name s.ty s.picks).1=S:=⟨_,rfl⟩
 obtain⟨ok,hok⟩:∃S,(zcJ N s.name s.ty s.picks).2=S:=⟨_,rfl⟩
 rw[hS]at hxv
 rw[hS,hok]
 try simp only[go_sem]
 refine za3 (P:=Tryz.prog) (l:=stV xv S) rfl (zbs hxv.isOne) rfl rfl ?_
 intro w4 hE4 hs4 hC
 try simp only[go_sem]
 refine hK _ _ ?_;clear hK hgd;clear K;try clear gd
 have f5:zad w4 (some ⟨w3.heap.size,5,Option.none⟩)=some (vi S.fin):=zab hC rfl
 have g04:=zaa (hE2.trans (hE3.trans hE4)) g0
 have hE14:=hE12.trans (hE3.trans hE4)
 obtain⟨t3,ht3⟩:∃t,decide (S.fin=s.kind)=t:=⟨_,rfl⟩
 refine go trivial ?_
 cases ok with
 |false=>
  refine rgg [(1,30)] st ?_
  refine go trivial ?_
  refine rt0 Tryz.ntmps51 ?_
  exact⟨by rw[hok];rfl,hE14⟩
 |true=>
  refine rgg [(1,30)] (an5 st f5 g04 ht3 (an2 Nat.zero_add Nat.add_zero)) ?_
  refine go trivial ?_
  refine rt0 Tryz.ntmps51 ?_
  exact⟨by rw[hok,hS,ht3];rfl,hE14⟩
end Go.Proofs.YtahbdamijngmmaaGreat
namespace Go.Proofs.YtahbdamijngmmaaGreat.P_ss
open Go Go.Proofs.YtahbdamijngmmaaGreat
set_option maxRecDepth 10000
theorem Clip_ok{w:World}{a:Option Addr}{n c:Nat}(hc:n<=c):Fn Tryz.prog 105 #[.slice a n c] w (fun u w'=>u= .slice a n n/\w'=w):=by
 refine enter Tryz.func105 Tryz.ntmps105 rfl rfl ?_
 repeat refine c_r ?_
 refine rg0 ?_
 repeat refine c_r ?_
 refine rq ?_;intro gd K hgd hK
 try simp only[go_sem]
 have hcl:slD Tryz.prog (some (TypeDesc.slice 9)) (Value.slice a n c) Option.none (some (Value.int IntKind.i64 ↑n)) (some (Value.int IntKind.i64 ↑n))=some (.slice a n n):=zfm hc (by rfl)
 rw[hcl]
 try simp only[go_sem]
 refine hK _ _ ?_;clear hK hgd;clear K;try clear gd
 repeat refine c_r ?_
 refine rt0 Tryz.ntmps105 ?_
 exact⟨rfl,rfl⟩
end Go.Proofs.YtahbdamijngmmaaGreat.P_ss
namespace Go.Proofs.YtahbdamijngmmaaGreat
open Go
set_option maxRecDepth 10000
def zgV(N:NetL)(s:Int):Lab:=if s<0 then [] else match N.hosts[s.toNat]? with
 |some h=>zaL h.name
 |Option.none=>[]
theorem zcU{n:Nm}(hl:∀l∈n,l.length<=1000)(hn:n.length<=1000):(zaL n).length<=10000000:=by
 have h4:=zd2 n
 have h5:=zi6 (k:=1000) (l:=n.map List.length) (fun x hx=>by obtain⟨l,hl',rfl⟩:=List.mem_map.1 hx;exact hl l hl')
 rw[List.length_map]at h5
 unfold zaL
 split
 ·simp
 ·omega
theorem zfC{N:NetL}(hG:zby N)(s:Int):(zgV N s).length<=10000000:=by
 unfold zgV
 split
 ·simp
 ·split
  ·rename_i h hh
   have:=hG.sh h (List.mem_of_getElem? hh)
   exact zcU (fun l hl=>by have:=this.lb l hl;omega) (by have:=this.len;omega)
  ·simp
theorem host_ok{w0 w:World}(hE0:Ext w0 w){cs:List Value}{N:NetL}{k:Int}(hN:NetAt w0 cs N)(hG:zby N):
  Fn Tryz.prog 103 #[.agg cs.toArray,vi k] w (fun v w'=>v=vs (zgV N k)/\Ext w w'):=by
 obtain⟨hsv,rv,rfl,hh,hr⟩:=hN.ex
 obtain⟨ah,ch,hhv,_,hgh⟩:=hh.open
 obtain⟨ar0,cr0,hrv,_⟩:=id hr
 refine enter Tryz.func103 Tryz.ntmps103 rfl rfl ?_
 repeat refine c_r ?_
 rw[hhv,hrv]
 refine go trivial ?_
 rw[←hrv]
 refine zax ?_
 intro w1 hE1 hs1 hA
 have n0:zad w1 (some ⟨w.heap.size,0,Option.none⟩)=some (.slice ah N.hosts.length ch):=zab hA rfl
 refine go trivial ?_
 unfold zgV
 by_cases h0:k<0
 ·rw[if_pos h0]
  refine rgg [(2,7)] (decide_eq_true h0) ?_
  refine go trivial ?_
  refine rt0 Tryz.ntmps103 ?_
  exact⟨rfl,hE1⟩
 rw[if_neg h0]
 have d0:=decide_eq_false h0
 by_cases h1:k>=(N.hosts.length:Int)
 ·rw[List.getElem?_eq_none (by omega)]
  refine rgg [(2,7)] (an4 n0 d0 (decide_eq_true h1) Nat.add_zero) ?_
  refine go trivial ?_
  refine rt0 Tryz.ntmps103 ?_
  exact⟨rfl,hE1⟩
 obtain⟨i,rfl⟩:=Int.eq_ofNat_of_zero_le (show 0<=k by omega)
 have hi:i<N.hosts.length:=by omega
 rw[Int.toNat_natCast,List.getElem?_eq_getElem hi]
 refine rgg [(2,7)] (an4 n0 d0 (decide_eq_false h1) Nat.add_zero) ?_
 refine go trivial ?_
 obtain⟨c6,hc6,hH⟩:=hgh i hi
 have hsh:=hG.sh _ (List.getElem_mem hi)
 obtain⟨nv,a,b,c,d,zv,rfl,_,hnv,_⟩:=hH.ex
 obtain⟨xa,rfl⟩:=Option.isSome_iff_exists.1 (zak hc6)
 obtain⟨xi,hxi⟩:∃xi,adr (some xa) (i*6)=some xi:=⟨_,rfl⟩
 rw[hxi]at hc6
 have g0:=zah (j:=0) hc6 rfl
 rw[zaj]at g0
 have hwz:Ext w0 w1:=hE0.trans hE1
 have z0:adr (some xi) 0=some xi:=zaj _
 have hi0:(0:Int)<=(i:Int):=by omega
 have hi1:(i:Int)<(N.hosts.length:Int):=by omega
 refine rc (an7 n0 Nat.add_zero hxi z0 (zaa hwz g0) hi0 hi1) (zhd w1 nv _ (hnv.ext hwz) (fun l hl=>by have:=hsh.lb l hl;omega) (by have:=hsh.len;omega)) ?_
 rintro _ w2 ⟨rfl,hE2⟩
 refine rgo trivial ?_
 refine rt0 Tryz.ntmps103 ?_
 exact⟨rfl,hE1.trans hE2⟩
def wordsE:List Lab:=[[103,111,105,110,103],[102,111,117,110,100],[101,109,112,116,121],[109,105,115,115,105,110,103],[116,111,111,108,111,110,103],[114,101,102,117,115,101,100],wLame,[108,111,111,112],[102,97,114],[103,111,110,101]]
def zhf(k:Int):Lab:=if k<0 then [] else(wordsE[k.toNat]?).getD []
theorem Word_ok(w:World)(k:Int):Fn Tryz.prog 106 #[vi k] w (fun v w'=>v=vs (zhf k)/\Ext w w'):=by
 refine enter Tryz.func106 Tryz.ntmps106 rfl rfl ?_
 refine go trivial ?_
 refine rq ?_;intro gd K hgd hK
 try simp only[go_sem]
 refine⟨by kernel_rfl,?_⟩
 rw[show bdV Tryz.prog 288 [(0,vs [103,111,105,110,103]),(1,vs [102,111,117,110,100]),(2,vs [101,109,112,116,121]),(3,vs [109,105,115,115,105,110,103]),(4,vs [116,111,111,108,111,110,103]),(5,vs [114,101,102,117,115,101,100]),(6,vs [108,97,109,101]),(7,vs [108,111,111,112]),(8,vs [102,97,114]),(9,vs [103,111,110,101])]=some (.agg wWords.toArray) from by kernel_rfl]
 try simp only[go_sem]
 refine za3 (P:=Tryz.prog) (l:=wWords) rfl (fun v h=>by simp at h;rcases h with rfl|rfl|rfl|rfl|rfl|rfl|rfl|rfl|rfl|rfl<;>rfl) rfl rfl ?_
 intro w1 hE1 hs1 hB
 try simp only[go_sem]
 refine hK _ _ ?_;clear hK hgd;clear K;try clear gd
 unfold zhf
 refine go trivial ?_
 by_cases h0:k<0
 ·rw[if_pos h0]
  refine rgg [(2,7)] (decide_eq_true h0) ?_
  refine go trivial ?_
  refine rt0 Tryz.ntmps106 ?_
  exact⟨rfl,hE1⟩
 rw[if_neg h0]
 have d0:=decide_eq_false h0
 by_cases h1:k>=10
 ·rw[List.getElem?_eq_none (by show 10<=_;omega)]
  refine rgg [(2,7)] (an2 d0 (decide_eq_true h1)) ?_
  refine go trivial ?_
  refine rt0 Tryz.ntmps106 ?_
  exact⟨rfl,hE1⟩
 obtain⟨i,rfl⟩:=Int.eq_ofNat_of_zero_le (show 0<=k by omega)
 have hi:i<10:=by omega
 refine rgg [(2,7)] (an2 d0 (decide_eq_false h1)) ?_
 refine go trivial ?_
 have hc:zad w1 (some ⟨w.heap.size,i,Option.none⟩)=some (vs ((wordsE[i]?).getD [])):=by
  have h9:i=0\/i=1\/i=2\/i=3\/i=4\/i=5\/i=6\/i=7\/i=8\/i=9:=by omega
  rcases h9 with rfl|rfl|rfl|rfl|rfl|rfl|rfl|rfl|rfl|rfl<;>exact zab hB rfl
 have hi0:(0:Int)<=(i:Int):=by omega
 have hi1:(i:Int)<((10:Nat):Int):=by omega
 refine rq ?_;intro gd K hgd hK
 try simp (disch:=first|omega|assumption|rfl) only[go_sem,hc,hi0,hi1,Nat.zero_add,Nat.mul_one]
 refine hK _ _ ?_;clear hK hgd;clear K;try clear gd
 refine go trivial ?_
 refine rt0 Tryz.ntmps106 ?_
 exact⟨by rw[Int.toNat_natCast],hE1⟩
theorem zis{w x:World}{b:Nat}{ty:TypeId}{a:Option Addr}{n c:Nat}{s:zav}{nv:Value}{names:Nm}(hb:w.heap[b]? =some (.cells (stV (.slice a n c) s).toArray ty (0,0)))(hr:Row w nv (names.map vs))(hk:Keep (fun i=>i=b) w x):Row x nv (names.map vs):=
 hr.keepV hk fun ad u hs hu hm=>by
  obtain⟨b',of,sp⟩:=ad
  dsimp only at hs
  subst hs;have hsp:sp= .none:=by
   cases sp with
   |none=>rfl
   |some q=>simp[World.cell?,hb]at hu
  subst hsp;have h2:=zbN hb of;rw[hu]at h2;have h3:u∈stV (.slice a n c) s:=List.mem_of_getElem? (i:=of) (by rw[←List.getElem?_toArray];exact h2.symm);obtain⟨y,_,rfl⟩:=List.mem_map.1 hm;unfold stV at h3;simp[vs]at h3
def zh6{α:Type}(X:World->α->Prop)(K:α->Nat->Prop):Prop:=∀{A A':World} {S:Nat->Prop} {x:α},X A x->(∀b,K x b->b<A.heap.size)->Keep S A A'->(∀b,K x b->¬S b)->X A' x
structure GX{α:Type}(X:World->α->Prop)(K:α->Nat->Prop)(k:Nat)(C:List Value->α->Prop)(e:TypeId)(B:Nat)(A:World)(ov:Value)(G:List α):Prop where
 own:Owns k C B A e ov G
 row:∀x∈G,X A x/\(∀b,K x b->B<=b/\b<A.heap.size)/\∀b,K x b->some b≠ov.ownBlock
def gxK{α:Type}(K:α->Nat->Prop)(ov:Value)(G:List α)(b:Nat):Prop:=(∃x∈G,K x b)\/some b=ov.ownBlock
section
variable {α : Type} {X : World -> α -> Prop} {K : α -> Nat -> Prop} {k : Nat} {C : List Value -> α -> Prop} {e : TypeId} {B : Nat} {A A' A1 A2 : World} {ov ov' : Value} {G : List α}
theorem GX.keep(h:GX X K k C e B A ov G)(st:zh6 X K){S:Nat->Prop}(hk:Keep S A A')(hS:∀b,gxK K ov G b->¬S b):GX X K k C e B A' ov G:=
 ⟨h.own.keep hk (fun b hb=>hS b (.inr hb)),fun x hx=>by
  obtain⟨h1,h2,h3⟩:=h.row x hx;exact⟨st h1 (fun b hb=>(h2 b hb).2) hk (fun b hb=>hS b (.inl ⟨x,hx,hb⟩)),fun b hb=>⟨(h2 b hb).1,Nat.lt_of_lt_of_le (h2 b hb).2 hk.size⟩,h3⟩⟩
theorem GX.in(h:GX X K k C e B A ov G){b:Nat}(hb:gxK K ov G b):B<=b/\b<A.heap.size:=by
 rcases hb with ⟨x,hx,hb⟩|hb
 ·exact(h.row x hx).2.1 b hb
 ·exact h.own.ge hb
theorem GX.ext(h:GX X K k C e B A ov G)(st:zh6 X K)(hE:Ext A A'):GX X K k C e B A' ov G:=h.keep st hE (fun _ _ h=>h)
theorem GX.app{x:α}(h:GX X K k C e B A ov G)(st:zh6 X K)(hE:Ext A A1)(hB:B<=A.heap.size)(hx:X A1 x)(hxb:∀b,K x b->A.heap.size<=b/\b<A1.heap.size)
  (ho:Owns k C B A2 e ov' (G++ [x])) (hk:Keep (fun b=>some b=ov.ownBlock) A1 A2) (hob:∀b,some b=ov'.ownBlock->some b=ov.ownBlock\/A1.heap.size<=b):GX X K k C e B A2 ov' (G++ [x]):=by
 refine⟨ho,fun y hy=>?_⟩;have h1:=h.ext st hE;have hy2:X A1 y/\(∀b,K y b->B<=b/\b<A1.heap.size)/\∀b,K y b->some b≠ov.ownBlock:=by
  rcases List.mem_append.1 hy with hy|hy
  ·exact h1.row y hy
  ·rw[List.mem_singleton.1 hy];exact⟨hx,fun b hb=>by have:=hxb b hb;omega,fun b hb he=>by have:=hxb b hb;have:=(h.own.ge he).2;omega⟩
 obtain⟨g1,g2,g3⟩:=hy2;refine⟨st g1 (fun b hb=>(g2 b hb).2) hk g3,fun b hb=>by have:=g2 b hb;have:=hk.size;omega,fun b hb he=>?_⟩;rcases hob b he with e|e
 ·exact g3 b hb e
 ·have:=(g2 b hb).2;omega
end
abbrev ZX:=zcp×(Value×(Value×List OX))
def zxX(w0:World)(A:World)(x:ZX):Prop:=Row w0 x.2.1 (x.1.o.map vs)/\x.2.2.2.map Prod.fst=x.1.recs/\∃B,OI w0 B A x.2.2.1 x.2.2.2
def zxK(x:ZX)(b:Nat):Prop:=some b=x.2.2.1.ownBlock\/∃y∈x.2.2.2,∃a n c,y.2.1= .slice (some a) n c/\b=a.block
def zxC(cs:List Value)(x:ZX):Prop:=cs=[x.2.1,x.2.2.1]/\one x.2.1=true/\one x.2.2.1=true
theorem zi3:zeD 2 zxC:=⟨fun h=>by rw[h.1];rfl,fun h=>by rw[h.1];exact zdO h.2.1 h.2.2⟩
theorem zc7(w0:World):zh6 (zxX w0) zxK:=by
 intro A A' S x h hK hk hS;obtain⟨h1,h2,B,h3⟩:=h;exact⟨h1,h2,B,h3.own.keep hk (fun b hb=>hS b (.inl hb)),fun y hy=>by
  obtain⟨g1,g2⟩:=h3.row y hy;exact⟨g1.keep hk (fun a n c hv=>hS _ (.inr ⟨y,hy,a,n,c,hv,rfl⟩)),g2⟩⟩
theorem zx_in{w0 A:World}{B:Nat}{x:ZX}(h:OI w0 B A x.2.2.1 x.2.2.2):∀b,zxK x b->B<=b/\b<A.heap.size:=fun b hb=>by
 rcases hb with hb| ⟨y,hy,a,n,c,hv,rfl⟩
 ·exact h.own.ge hb
 ·exact(h.row y hy).1.blk a n c hv
theorem zx_zone{w0 A:World}{x:ZX}(h:zxX w0 A x)(hE:Ext w0 A):ZoneC A [x.2.1,x.2.2.1] x.1:=by
 obtain⟨h1,h2,B,h3⟩:=h;have:=h3.rows hE;rw[h2]at this;exact⟨_,_,rfl,h1.ext hE,this⟩
abbrev HX:=zem×(Value×(List Value×List ZX))
def hxX(w0:World)(ez:TypeId)(A:World)(x:HX):Prop:=(∃nv a b c d,x.2.2.1=[nv,zaf a,zaf b,zaf c,zaf d,x.2.1]/\x.1.addr=[a,b,c,d]/\Row w0 nv (x.1.name.map vs))/\x.2.2.2.map Prod.fst=x.1.zones/\∃B,GX (zxX w0) zxK 2 zxC ez B A x.2.1 x.2.2.2
def hxK(x:HX)(b:Nat):Prop:=gxK zxK x.2.1 x.2.2.2 b
def hxC(cs:List Value)(x:HX):Prop:=cs=x.2.2.1/\cs.length=6/\∀q∈cs,one q=true
theorem zjl:zeD 6 hxC:=⟨fun h=>h.2.1,fun h=>h.2.2⟩
theorem zef(w0:World)(ez:TypeId):zh6 (hxX w0 ez) hxK:=by
 intro A A' S x h hK hk hS;obtain⟨h1,h2,B,h3⟩:=h;exact⟨h1,h2,B,h3.keep (zc7 w0) hk hS⟩
theorem hx_host{w0 A:World}{ez:TypeId}{x:HX}(h:hxX w0 ez A x)(hE:Ext w0 A):HostC A x.2.2.1 x.1:=by
 obtain⟨⟨nv,a,b,c,d,e,ha,hn⟩,h2,B,h3⟩:=h;have hz:Rows 2 (ZoneC A) A x.2.1 (x.2.2.2.map Prod.fst):=h3.own.rows.mapM (C':=ZoneC A) Prod.fst fun cs y hy hc=>by
  rw[hc.1];exact zx_zone (h3.row y hy).1 hE
 rw[h2]at hz;exact⟨nv,a,b,c,d,_,e,ha,hn.ext hE,hz⟩
theorem zjm{w0 A:World}{ez eh:TypeId}{B:Nat}{ov:Value}{G:List HX}(h:GX (hxX w0 ez) hxK 6 hxC eh B A ov G)(hE:Ext w0 A):Rows 6 (HostC A) A ov (G.map Prod.fst):=
 h.own.rows.mapM (C':=HostC A) Prod.fst fun cs y hy hc=>by
  rw[hc.1];exact hx_host (h.row y hy).1 hE
theorem ZOf_ok{w0 w:World}(hE0:Ext w0 w){ov lv:Value}{o:Nm}{R:List RecL}(ho:Row w0 ov (o.map vs))(hl:Rows 7 (RecAt w0) w lv R)(hnn:∀r∈R,r.dat.names.length<=1000000000)(hlen:R.length<=1000000000):
  Fn Tryz.prog 70 #[.agg #[ov,lv]] w (fun v w'=>Ext w w'/\∃lv' G,v= .agg #[ov,lv']/\OI w0 (w.heap.size+2) w' lv' G/\G.map Prod.fst=R):=by
 obtain⟨ao,co,hov,_⟩:=id ho;obtain⟨al,cl,hlv,_⟩:=hl.open;refine enter Tryz.func70 Tryz.ntmps70 rfl rfl ?_;repeat refine c_r ?_
 rw[hov,hlv];refine rg0 ?_;rw[←hov,←hlv];repeat refine c_r ?_
 rw[zai];refine zaF ?_;intro w1 hE1 hs1 hA hC;have p0:zad w1 (some ⟨w.heap.size,0,.none⟩)=some ov:=zab hA rfl;have p1:zad w1 (some ⟨w.heap.size,1,.none⟩)=some lv:=zab hA rfl;repeat refine c_r ?_
 refine zaJ (fun i=>i==6) [(0,true),(1,true),(2,true),(3,true),(4,false),(5,true),(6,false)] NoS mixed (by kernel_rfl) ?_;intro gd K x hgd hx hxe hK;clear hxe;have p0x:=zaa hx p0;have p1x:=zaa hx p1;have hxs:=hx.size;refine sgz (az4 p0x p1x Nat.add_zero yn0) ?_;refine Fn.mono (zif (hE0.trans (hE1.trans hx)) (hl.ext (hE1.trans hx)) hnn hlen) ?_;rintro lv' w2 ⟨hE2,G,hOI,hG⟩;refine⟨.inr hE2,?_⟩;obtain⟨al',cl',hlv',_⟩:=hOI.own.rows.open;refine sgz (az4 p0x p1x Nat.add_zero yn0) ?_;refine⟨by kernel_rfl,?_⟩;rw[hov,hlv',show bdV Tryz.prog 128 [(0,.slice ao (o.map vs).length co),(1,.slice al' G.length cl')]=some (.agg #[.slice ao (o.map vs).length co,.slice al' G.length cl']) from by kernel_rfl,←hov,←hlv'];refine sg0 ?_;refine zaD (P:=Tryz.prog) (t:=128) (l:=[ov,lv']) (Ext.at (hx.trans hE2) hC) rfl (zdO ho.isOne (by rw[hlv'];rfl)) rfl rfl ?_;intro z hz' hbz hkz;refine⟨.inl rfl,?_⟩;refine sg0 ?_;refine en hK ?_;refine zat (.inr rfl) Tryz.ntmps70 rfl (zaI (x:=⟨w.heap.size+1,0,.none⟩) (k:=2) vq0 rfl rfl (zae hbz rfl) zap) ?_;have hEz:Ext w z:=Keep.to_ext (hE1.trans (hx.trans hE2)) rfl (fun b hb=>by omega) hkz;refine⟨hEz,lv',G,rfl,⟨(hOI.own.keep hkz (fun b hb h=>by have:=(hOI.own.ge hb).1;omega)).mono (by omega),fun y hy=>?_⟩,hG⟩;obtain⟨g1,g2⟩:=hOI.row y hy;exact⟨(g1.keep hkz (fun a n c hv h=>by have:=(g1.blk a n c hv).1;omega)).mono (by omega),g2⟩
structure IZ(w0:World)(es ez:TypeId)(b5:Nat)(nv:Value)(a b c d:UInt8)(A0 v:World)(pv:Value)(zs:List ZX):Prop where
 h:v.heap[b5]? =some (.cells #[nv,zaf a,zaf b,zaf c,zaf d,pv] es (0,0))
 g:GX (zxX w0) zxK 2 zxC ez (b5+1) v pv zs
 e:Ext A0 v
 lo:A0.heap.size<=b5
theorem IZ.app{w0 A0 v v1 v2 v3:World}{es ez:TypeId}{b5:Nat}{nv pv pv':Value}{a b c d:UInt8}{zs:List ZX}{x:ZX}(h:IZ w0 es ez b5 nv a b c d A0 v pv zs)(hE:Ext v v1)(hB:b5+1<=v.heap.size)(hx:zxX w0 v1 x)(hxb:∀b,zxK x b->v.heap.size<=b/\b<v1.heap.size)
  (ho:Owns 2 zxC (b5+1) v2 ez pv' (zs++ [x])) (hk:Keep (fun b=>some b=pv.ownBlock) v1 v2) (hob:∀b,some b=pv'.ownBlock->some b=pv.ownBlock\/v1.heap.size<=b) (h3:v3.heap[b5]? =some (.cells #[nv,zaf a,zaf b,zaf c,zaf d,pv'] es (0,0))) (hk3:Keep (fun b=>b=b5) v2 v3):
  IZ w0 es ez b5 nv a b c d A0 v3 pv' (zs++ [x]):=by
 have lo:=h.lo;have e2:Ext A0 v2:=Keep.to_ext (h.e.trans hE) rfl (fun b hb=>by have:=(h.g.own.ge hb).1;omega) hk;have g2:=h.g.app (zc7 w0) hE hB hx hxb ho hk hob;exact⟨h3,g2.keep (zc7 w0) hk3 (fun b hb hb2=>by have:=(g2.in hb).1;omega),Keep.to_ext e2 rfl (fun b hb=>by omega) hk3,lo⟩
theorem ziV(w:World){cs:List Value}{c:NetL}(hc:NetAt w cs c)(hf:NetZ c):
  Fn Tryz.prog 21 #[.agg cs.toArray] w (fun v w'=>Ext w w'/\∃cs',v= .agg cs'.toArray/\NetAt w' cs' c):=by
 obtain⟨sv,rv,rfl,hs,hr⟩:=hc.ex;obtain⟨aS,cS,rfl,hat⟩:=zlI hs;have hr0:=hr;have r1:=hr.isOne;obtain⟨ar,cr,hrv,_,hgr⟩:=hr;have hsl:=hf.hl;refine enter Tryz.func21 Tryz.ntmps21 rfl rfl ?_;repeat refine c_r ?_
 rw[hrv];refine rg0 ?_;rw[←hrv];repeat refine c_r ?_
 rw[zai];refine zaF ?_;intro w1 hE1 hs1 hA hC;have p0:zad w1 (some ⟨w.heap.size,0,.none⟩)=some (.slice aS c.hosts.length cS):=zab hA rfl;have p1:zad w1 (some ⟨w.heap.size,1,.none⟩)=some rv:=zab hA rfl;have p2:zad w1 (some ⟨w.heap.size,2,.none⟩)=some (vi c.rw):=zab hA rfl;have p3:zad w1 (some ⟨w.heap.size,3,.none⟩)=some (vi c.rf):=zab hA rfl;refine rqz ?_;intro gd K hgd hK;refine sgz (az4 p1 p2 p3 yn0) ?_;refine⟨by kernel_rfl,?_⟩;rw[hrv,show bdV Tryz.prog 40 [(1,.slice ar (c.roots.map vi).length cr),(2,vi c.rw),(3,vi c.rf)]=some (.agg #[.slice .none 0 0,.slice ar (c.roots.map vi).length cr,vi c.rw,vi c.rf]) from by kernel_rfl,←hrv];try simp only[go_sem]
 refine za3 (P:=Tryz.prog) (l:=[.slice .none 0 0,rv,vi c.rw,vi c.rf]) rfl (fun v hv=>by simp at hv;rcases hv with rfl|rfl|rfl|rfl<;>first|exact r1|rfl) rfl rfl ?_;intro w2 hE2 hs2 hD;try simp only[go_sem]
 apply hK;obtain⟨c3,hc3⟩:∃b,w1.heap.size=b:=⟨_,rfl⟩;rw[hc3]at hD hs2 ⊢;have hE12:=hE1.trans hE2;have p0w:=zaa hE2 p0;refine gz0 ?_;refine zao (fun m σ ds A=>ds=[]/\∃(i:Nat) (ov:Value) (G:List HX),i+m=c.hosts.length/\σ 4=vi i/\σ 1= .pointer (some ⟨w.heap.size,0,.none⟩)/\σ 2= .pointer (some ⟨w.heap.size+1,0,.none⟩)/\σ 3= .pointer (some ⟨c3,0,.none⟩)/\Ext w1 A/\c3+1<=A.heap.size/\
  A.heap[c3]? =some (.cells #[ov,rv,vi c.rw,vi c.rf] 40 (0,0))/\GX (hxX w 128) hxK 6 hxC 143 (c3+1) A ov G/\G.map Prod.fst=c.hosts.take i) c.hosts.length ?_ ?_
 ·exact⟨rfl,0,.slice .none 0 0,[],by omega,vr0,vq0,vq0,vq0,hE2,by omega,hD,⟨Owns.nil _ _ _ _ _,fun x h=>by cases h⟩,rfl⟩
 rintro m σ ds A ⟨rfl,i,ov,G,him,s4,s1,s2,s3,hEA,hAs,hB3,hGS,hGf⟩;have p0A:=zaa hEA p0;refine gz (az4 s4 s1 p0A Nat.add_zero) ?_;refine wc0 ?_ ?_
 ·intro hlt;simp only[ydT]at hlt;have hi:i<c.hosts.length:=by omega
  have hi0:=cj i;have hi1':=ci i;obtain⟨xa,xi,x5,nv,ap,cp,rfl,hxi,hx5,g0,hn,g5,⟨b1,b2,b3,b4,hadr,hcs⟩,hpl⟩:=hat i hi;obtain⟨s,hse⟩:∃s,c.hosts[i]=s:=⟨_,rfl⟩;have fs2:=hf.zl s (hse▸List.getElem_mem hi);have fs3:=hf.z s (hse▸List.getElem_mem hi);rw[hse]at hn g5 hadr hcs;simp only[hse]at hpl;have n1:=hn.isOne;have hz0:adr (some xi) 0=some xi:=zaj _;obtain⟨y1,hy1⟩:∃y,adr (some xi) 1=some y:=⟨_,rfl⟩;have gby:zan w (some y1) 4=some [zaf b1,zaf b2,zaf b3,zaf b4]:=by
   have h5:=za9 (m:=1) (k:=5) hcs;rw[hy1]at h5;exact zcQ (m:=4) (k:=1) h5
  obtain⟨an,cn,hnv,_⟩:=id hn;repeat refine c_r ?_
  refine zaJ (fun i=>i==14) [(0,true),(1,true),(2,true),(3,true),(4,true),(5,true),(6,true),(7,true),(8,true),(9,true),(10,true),(11,true),(12,true),(13,false),(14,false)] NoS mixed (by kernel_rfl) ?_;intro gd K x hgd hx hxe hK;clear hxe;have hwx:=hE1.trans (hEA.trans hx);have p0x:=zaa hx p0A;have g0x:=zaa hwx g0;have gbx:=zac hwx gby;refine sgz (az2 (az7 s4 s1 p0x Nat.add_zero hi0 hlt hxi) (az4 hz0 hy1 g0x gbx)) ?_;refine⟨by kernel_rfl,?_⟩;rw[hnv,show bdV Tryz.prog 143 [(0,.slice an (s.name.map vs).length cn),(1,.agg #[zaf b1,zaf b2,zaf b3,zaf b4])]=some (.agg #[.slice an (s.name.map vs).length cn,zaf b1,zaf b2,zaf b3,zaf b4,.slice .none 0 0]) from by kernel_rfl,←hnv];refine sg0 ?_;refine⟨.inr (Ext.alloc x _),?_⟩;refine za3 (P:=Tryz.prog) (l:=[nv,zaf b1,zaf b2,zaf b3,zaf b4,.slice .none 0 0]) rfl (fun v hv=>by simp at hv;rcases hv with rfl|rfl|rfl|rfl|rfl|rfl<;>first|exact n1|rfl) rfl rfl ?_;intro A1 hE3 hs3 hB5;refine⟨.inl rfl,?_⟩;refine sg0 ?_;apply hK;have hx3:=hx.trans hE3;obtain⟨b5,hb5⟩:∃b,x.heap.size=b:=⟨_,rfl⟩;have hsx:=hx.size;rw[hb5]at hB5 hs3 hsx ⊢;have hIP:IZ w 143 128 b5 nv b1 b2 b3 b4 A A1 (.slice .none 0 0) []:=⟨hB5,⟨Owns.nil _ _ _ _ _,fun x h=>by cases h⟩,hx3,hsx⟩;clear p0x g0x gbx hx hx3 hwx hE3 hB5;refine gz0 ?_
  refine zao (fun m σ ds v=>ds=[]/\∃(k:Nat) (pv:Value) (zs:List ZX),k+m=s.zones.length/\σ 6=vi k/\σ 4=vi i/\σ 1= .pointer (some ⟨w.heap.size,0,.none⟩)/\σ 2= .pointer (some ⟨w.heap.size+1,0,.none⟩)/\σ 3= .pointer (some ⟨c3,0,.none⟩)/\σ 5= .pointer (some ⟨b5,0,.none⟩)/\
   IZ w 143 128 b5 nv b1 b2 b3 b4 A v pv zs/\zs.map Prod.fst=s.zones.take k/\b5+1<=v.heap.size) s.zones.length ?_ ?_
  ·exact⟨rfl,0,_,[],by omega,vr0,vq1 s4,vq1 s1,vq1 s2,vq1 s3,vq0,hIP,rfl,by omega⟩
  clear s4 s1 s2 s3 hIP;rintro m2 σ2 ds2 v ⟨rfl,k,pv,zs,hkm,s6,s4,s1,s2,s3,s5,hIP,hzf,hvs⟩;have hEv:=hEA.trans hIP.e;have hwv:=hE1.trans hEv;have p0v:=zaa hEv p0;have g5v:=zaa hwv g5;refine gz (az2 (az7 s6 s4 s1 (an3 p0v Nat.add_zero g5v) hi0 hlt hxi) (az2 hx5 trivial)) ?_;refine wc0 ?_ ?_
  ·intro hlt2;simp only[ydT]at hlt2;have hk:k<s.zones.length:=by omega
   have hk0:=cj k;have hk1':=ci k;obtain⟨xp,xk,ow,lv,rfl,hxk,dz,ho,hl⟩:=hpl k hk;obtain⟨z,hze⟩:∃z,s.zones[k]=z:=⟨_,rfl⟩;have hgz:=fs3 _ (List.getElem_mem hk);rw[hze]at ho hl hgz;have q5:zad v (some ⟨b5,5,.none⟩)=some pv:=zab hIP.h rfl;have lo:=hIP.lo;have hgzl:=hgz.gd.len;repeat refine c_r ?_
   refine zaJ (fun i=>i==15) [(0,true),(1,true),(2,true),(3,true),(4,true),(5,true),(6,true),(7,true),(8,true),(9,true),(10,true),(11,false),(12,false),(13,false),(14,true),(15,false)] (zbE (b5+1)) mixed (by kernel_rfl) ?_;intro gd K x hgd hx hxe hK;have hx0:=zez hxe;clear hxe;have hwx:=hwv.trans hx0;have p0x:=zaa hx0 p0v;have g5x:=zaa hwx g5;have dzx:=zac hwx dz;have q5x:=zaa hx0 q5;refine sgz (az2 (az7 s6 s4 s1 s5 p0x Nat.add_zero yn0) (az2 (az7 hi0 hlt hk0 hlt2 hxi hx5 hxk) (az3 g5x dzx q5x))) ?_;have l5:x5.block<b5+1:=by have:=zcB (show w.cell? x5=some _ from g5);have:=hE1.size;have:=hEA.size;omega
   have lk:xk.block<b5+1:=by
    have h0:=zah (j:=0) dz rfl;rw[zaj]at h0;have:=zcB (show w.cell? xk=some _ from h0);have:=hE1.size;have:=hEA.size;omega
   have lw:w.heap.size<b5+1:=by have:=hE1.size;have:=hEA.size;omega
   refine⟨zcw (by omega),zcw lw,zde l5,zde lk,?_⟩;refine Fn.mono (ZOf_ok hwx ho (hl.ext hwx) (fun r hr=>(hgz.gd.few r hr).2.nn) (by omega)) ?_;rintro _ v0 ⟨hE0,lv',G',rfl,hOI,hG'⟩;refine⟨.inr hE0.keep,?_⟩;obtain⟨al',cl',hlv',_⟩:=hOI.own.rows.open;refine sg0 ?_;refine zaR zi3 (l:=[ow,lv']) (a:=((z,(ow,(lv',G'))):ZX)) (by rfl) (by rfl) (by rfl) (by rfl) ⟨rfl,ho.isOne,by rw[hlv'];rfl⟩ (by decide) ?_;intro v1 hE4 hs4' ho4;refine⟨.inr hE4.keep,?_⟩;refine sg0 ?_;have hx04:=(hx0.trans hE0).trans hE4;have hsz4:=hx04.size;have hs0:=hx0.size;have hzl:zs.length=k:=by
    have:=congrArg List.length hzf;simp at this;omega
   refine zaG zi3 (hIP.g.ext (zc7 w) hx04).own ho4.rows (by rfl) (by rfl) (by rfl) (by rfl) (by rfl) (by rfl) (by decide) vr0 vr0 (by simp;omega) (by decide) (by omega) ?_;intro pv' v2 ho5 hE5 hk5 hb5';refine⟨.inr (hk5.mono fun b _ hb=>(hIP.g.own.ge hb).1),?_⟩;obtain⟨ap',cp',hpv',_⟩:=ho5.rows.open;refine sgz (az2 s5 yn0) ?_;refine zaU (P:=Tryz.prog) (t:=141) (j:=5) (u:=pv') (l:=[nv,zaf b1,zaf b2,zaf b3,zaf b4,pv]) ((hk5.block _ (by omega) (fun hb=>by have:=(hIP.g.own.ge hb).1;omega)).trans (Ext.at hx04 hIP.h)) (by simp) (by rw[hpv'];rfl) rfl rfl ?_;intro v3 hs3' hB3' hk3';refine⟨.inl rfl,?_⟩;refine sg0 ?_;apply hK;have hIPn:=hIP.app hx04 (by omega) (x:=((z,(ow,(lv',G'))):ZX)) ⟨ho,hG',_,hOI.ext hE4⟩ (fun b hb=>by have:=zx_in (x:=((z,(ow,(lv',G'))):ZX)) (hOI.ext hE4) b hb;omega) ho5 hk5 hb5' hB3' hk3';have hs5:=hk5.size;refine gz (az2 s6 hk1') ?_;exact⟨m2 - 1,by omega,rfl,k+1,pv',_,by omega,vq0,vq1 s4,vq1 s1,vq1 s2,vq1 s3,vq1 s5,hIPn,by rw[zal hk,List.map_append,hzf,hze];rfl,by omega⟩
  ·intro hge2;simp only[ydF]at hge2;have hfull:s.zones.take k=s.zones:=List.take_of_length_le (by omega);rw[hfull]at hzf;obtain⟨ap',cp',hpv',_⟩:=hIP.g.own.rows.open;have lo:=hIP.lo;have dB:zan v (some ⟨b5,0,.none⟩) 6=some [nv,zaf b1,zaf b2,zaf b3,zaf b4,pv]:=zae hIP.h rfl;have q3:zad v (some ⟨c3,0,.none⟩)=some ov:=zab (Ext.at hIP.e hB3) rfl;have ones6:∀q∈ [nv,zaf b1,zaf b2,zaf b3,zaf b4,pv],one q=true:=fun q hq=>by
    simp at hq;rcases hq with rfl|rfl|rfl|rfl|rfl|rfl<;>first|exact n1|rfl| (rw[hpv'];rfl)
   have hGl:G.length=i:=by
    have:=congrArg List.length hGf;simp at this;omega
   refine rqz ?_;intro gd K hgd hK;refine sgz (az5 s3 s5 q3 dB Nat.add_zero) ?_;refine zaR (C:=hxC) zjl (l:=[nv,zaf b1,zaf b2,zaf b3,zaf b4,pv]) (a:=((s,(pv,([nv,zaf b1,zaf b2,zaf b3,zaf b4,pv],zs))):HX)) (by rfl) (by rfl) (by rfl) (by rfl) ⟨rfl,rfl,ones6⟩ (by decide) ?_;intro v1 hE4 hs4' ho4;try simp only[go_sem]
   have hAv1:=hIP.e.trans hE4;have hsA1:=hAv1.size;refine zaG zjl ((hGS.ext (zef w _) hAv1).own) ho4.rows (by rfl) (by rfl) (by rfl) (by rfl) (by rfl) (by rfl) (by decide) vr0 vr0 (by simp;omega) (by decide) (by omega) ?_;intro ov' v2 ho5 hE5 hk5 hb5';obtain⟨ao',co',hov',_⟩:=ho5.rows.open;refine sgz (az2 s3 Nat.add_zero) ?_;refine zaU (P:=Tryz.prog) (t:=38) (j:=0) (u:=ov') (l:=[ov,rv,vi c.rw,vi c.rf]) ((hk5.block _ (by omega) (fun hb=>by have:=(hGS.own.ge hb).1;omega)).trans (Ext.at hAv1 hB3)) (by simp) (by rw[hov'];rfl) rfl rfl ?_;intro v3 hs3' hB3' hk3';try simp only[go_sem]
   apply hK;have hg4:=hIP.g.ext (zc7 w) hE4;have hGS2:=hGS.app (zef w _) hAv1 hAs (x:=((s,(pv,([nv,zaf b1,zaf b2,zaf b3,zaf b4,pv],zs))):HX)) ⟨⟨nv,b1,b2,b3,b4,rfl,hadr,hn⟩,hzf,_,hg4⟩ (fun b hb=>by have:=hg4.in hb;omega) ho5 hk5 hb5';have hGS3:=hGS2.keep (zef w _) hk3' (fun b h1 h2=>by have:=(hGS2.in h1).1;omega);have hs5:=hk5.size;refine gz (az2 s4 hi1') ?_;refine⟨m - 1,by omega,rfl,i+1,ov',_,by omega,vq0,vq1 s1,vq1 s2,vq1 s3,Keep.to_ext (hE5 w1 (hEA.trans hAv1) (by omega)) rfl (fun b hb=>by omega) hk3',by omega,hB3',hGS3,?_⟩;rw[zal hi,List.map_append,hGf,hse];rfl
 ·intro hge;simp only[ydF]at hge;rw[List.take_of_length_le (by omega)]at hGf;have hEw:=hE1.trans hEA;have hrows:=zjm hGS hEw;rw[hGf]at hrows;have o1:=hrows.isOne;have dx:=zae (n:=4) (l:=[ov,rv,vi c.rw,vi c.rf]) hB3 rfl;refine rqz ?_;intro gd K hgd hK;refine sgz (az3 s3 s2 dx) ?_;refine zaD (P:=Tryz.prog) (t:=40) (l:=[ov,rv,vi c.rw,vi c.rf]) (Ext.at hEA hC) rfl (fun v hv=>by simp at hv;rcases hv with rfl|rfl|rfl|rfl<;>first|exact r1|exact o1|rfl) rfl rfl ?_;intro z hsz hBz hkz;try simp only[go_sem]
  refine en hK ?_;refine zat (.inr rfl) Tryz.ntmps21 rfl (zaI (x:=⟨w.heap.size+1,0,.none⟩) (k:=4) ((vq1 s2)) rfl rfl (zae hBz rfl) zap) ?_;have hEz:Ext w z:=Keep.to_ext hEw rfl (fun b hb=>by omega) hkz;have hGz:=zjm (hGS.keep (zef w _) hkz (fun b h1 h2=>by have:=(hGS.in h1).1;omega)) hEz;rw[hGf]at hGz;exact⟨hEz,_,rfl,ov,rv,rfl,hGz,hr0.ext hEz⟩
theorem zgb{N:NetL}{s:Int}(h:s<0\/(N.hosts.length:Int)<=s):N.zones s=[]:=by
 unfold NetL.zones;by_cases h0:s<0
 ·rw[if_pos h0]
 ·rw[if_neg h0,List.getElem?_eq_none (by omega)]
theorem zh0{N:NetL}{s:Int}{q:Nm}(h:N.zones s=[]):zbR N s q=(0,false):=by
 unfold zbR;rw[h]
 rfl
theorem zones_at{w:World}{hv:Value}{N:NetL}{s:Int}(hh:Rows 6 (HostC w) w hv N.hosts)(h0:0<=s)(h1:s<(N.hosts.length:Int)):
  ∃(i:Nat) (ah:Addr) (ch:Nat) (xi x5:Addr) (zv:Value),s=(i:Int)/\i<N.hosts.length/\hv= .slice (some ah) N.hosts.length ch/\adr (some ah) (i*6)=some xi/\adr (some xi) 5=some x5/\zad w (some x5)=some zv/\Rows 2 (ZoneC w) w zv (N.zones s):=by
 obtain⟨i,rfl⟩:=Int.eq_ofNat_of_zero_le h0;have hi:i<N.hosts.length:=by omega
 obtain⟨ah,ch,rfl,_,hgh⟩:=hh.open;obtain⟨cs,hcs,hH⟩:=hgh _ hi;obtain⟨nv,b1,b2,b3,b4,zv,rfl,_,_,hzr⟩:=hH.ex;obtain⟨xh,rfl⟩:=yxs (zak hcs);obtain⟨xi,hxi⟩:∃xi,adr (some xh) (i*6)=some xi:=⟨_,rfl⟩;obtain⟨x5,hx5⟩:∃x,adr (some xi) 5=some x:=⟨_,rfl⟩;rw[hxi]at hcs;have hz:N.zones (i:Int)=N.hosts[i].zones:=by
  unfold NetL.zones;rw[if_neg (by omega),show((i:Int)).toNat=i from rfl,List.getElem?_eq_getElem hi]
 exact⟨i,xh,ch,xi,x5,zv,rfl,hi,rfl,hxi,hx5,by rw[←hx5];exact zah hcs rfl,hz▸hzr⟩
def BestS(zs:List zcp)(B:Int×Int):Prop:=B=(0, -1)\/∃(k:Nat) (h:k<zs.length),B=((k:Int),(zs[k].o.length:Int))
theorem zjK{w0 w:World}(hE0:Ext w0 w){cs:List Value}{N:NetL}{s:Int}{q:Nm}{qv:Value}(hN:NetAt w0 cs N)(hG:NetZ N)(hq:Row w qv (q.map vs))(mq:NmM q):
  Fn Tryz.prog 180 #[.agg cs.toArray,vi s,qv] w (fun v w'=>v= .tuple #[vi (zbR N s q).1,.bool (zbR N s q).2]/\Ext w w'):=by
 obtain⟨hv,rv,rfl,hh,hr⟩:=hN.ex;obtain⟨ah,ch,hhv,_⟩:=hh.open;obtain⟨ar,cr,hrv,_⟩:=id hr;have hlen:=hG.hl;have ql:=mq.len;refine enter Tryz.func180 Tryz.ntmps180 rfl rfl ?_;repeat refine c_r ?_
 rw[hhv,hrv];refine rg0 ?_;rw[←hhv,←hrv];repeat refine c_r ?_
 refine zax ?_;intro w1 hE1 hs1 hA;rw[hhv]at hA;have p0:zad w1 (some ⟨w.heap.size,0,.none⟩)=some (.slice ah N.hosts.length ch):=zab hA rfl;repeat refine c_r ?_
 by_cases n1:s<0
 ·refine rgg [(2,14)] (an2 (yet n1) Nat.add_zero) ?_;repeat refine c_r ?_
  refine wt trivial ?_;repeat (first|refine c_r ?_|refine rg0 ?_)
  refine zat (by simp) Tryz.ntmps180 rfl (zam vr0 (zam vr0 zap)) ?_;rw[zh0 (zgb (.inl n1))];exact⟨rfl,hE1⟩
 by_cases n2:s>=(N.hosts.length:Int)
 ·refine rgg [(2,14)] (an4 (yef n1) p0 Nat.add_zero (yet n2)) ?_;repeat refine c_r ?_
  refine wt trivial ?_;repeat (first|refine c_r ?_|refine rg0 ?_)
  refine zat (by simp) Tryz.ntmps180 rfl (zam vr0 (zam vr0 zap)) ?_;rw[zh0 (zgb (.inr n2))];exact⟨rfl,hE1⟩
 refine rgg [(2,14)] (an4 (yef n1) p0 Nat.add_zero (yef n2)) ?_;repeat refine c_r ?_
 refine wf trivial ?_;obtain⟨i0,ah',ch',xi,x5,zv,rfl,hi0l,e,hxi,hx5,hc5,hzr⟩:=zones_at (s:=s) hh (by omega) (by omega);rw[hhv]at e;injection e with e1 e2 e3
 subst e1 e3;have hz0:(0:Int)<=(i0:Int):=by omega
 have hlt0:(i0:Int)<(N.hosts.length:Int):=by omega
 have q5:=zaa (hE0.trans hE1) hc5;repeat (first|refine c_r ?_| (refine zb7 (by rfl) ?_;intro gd K hgd hK;simp (disch:=first|omega|assumption|rfl) only[go_sem,p0,hxi,hx5,q5,hz0,hlt0,Nat.add_zero,yn0];refine hK _ _ ?_;clear hK hgd;clear K gd))
 obtain⟨zs,hzs⟩:∃zs,N.zones i0=zs:=⟨_,rfl⟩;have hzg:=(zbT hG (s:=i0)).1;have hzl:=(zbT hG (s:=i0)).2;have hbest:zbR N i0 q=((ziO q zs).1,decide (0<=(ziO q zs).2)):=by unfold zbR;rw[hzs]
 rw[hzs]at hzr hzg hzl;rw[hbest];clear hbest;obtain⟨az,cz,hzv,_,hgz⟩:=hzr.open;have hnl:=zbW (l:=zs) (i:=0);refine zao (fun m σ ds A=>ds=[]/\∃(i:Nat) (B:Int×Int),i+m=zs.length/\((numZ 0 zs).take i).foldl (zaS q) (0, -1)=B/\BestS zs B/\σ 11=vi i/\σ 10=zv/\σ 2=qv/\σ 8=vi B.1/\σ 9= .bool (decide (0<=B.2))/\Ext w1 A) zs.length ?_ ?_
 ·exact⟨rfl,0,(0, -1),by omega,rfl,.inl rfl,vr0,vr0,vr0,vr0,vr0,Keep.refl _ _⟩
 rintro m σ ds A ⟨rfl,i,B,him,hB,hBS,s11,s10,s2,s8,s9,hEA⟩;rw[hzv]at s10;have hwA:=hE1.trans hEA;repeat refine c_r ?_
 refine rg2 s11 s10 ?_;repeat refine c_r ?_
 refine wc0 ?_ ?_
 ·intro hlt;simp only[ydT]at hlt;have hi:i<zs.length:=by omega
  have hi0:=cj i;have hi1':=ci i;have gz:=hzg _ (List.getElem_mem hi);have mo:=gz.m;have ol:=mo.len;obtain⟨c1,hc1,hZ⟩:=hgz i hi;obtain⟨ov,lv,rfl,ho,hr1⟩:=hZ.ex;obtain⟨xz,rfl⟩:=yxs (zak hc1);obtain⟨xk,hxk⟩:∃xi,adr (some xz) (i*2)=some xi:=⟨_,rfl⟩;have k1:zad w0 (some xk)=some ov:=by
   have:=zah (j:=0) hc1 rfl
   rwa [zaj,hxk]at this
  obtain⟨ao,co,hov,_⟩:=id ho;rw[ylm]at hov;have hfo:((numZ 0 zs).take (i+1)).foldl (zaS q) (0, -1)=zaS q B (i,zs[i]):=by
   rw[List.take_succ_eq_append_getElem (by omega),List.foldl_append,hB,zeb hi (by omega),yn0];rfl
  obtain⟨u,hu⟩:∃u,zaV q zs[i].o=u:=⟨_,rfl⟩;repeat refine c_r ?_
  refine zaw (Q:=fun e σ' ds' v'=>e= .normal/\ds'=[]/\σ' 11=vi i/\σ' 10= .slice (some xz) zs.length cz/\σ' 2=qv/\σ' 8=vi B.1/\σ' 9= .bool (decide (0<=B.2))/\Ext A v'/\σ' 58= .bool (u && decide (B.2<(zs[i].o.length:Int)))) ?_ ?_
  ·rcases hBS with rfl| ⟨k,hk,rfl⟩
   ·replace s9:σ 9= .bool false:=s9;refine zaJ (fun _=>false) [(0,true),(1,true),(2,true),(3,true),(4,true),(5,true),(6,false),(7,true),(8,true),(9,true),(10,true),(11,true),(12,true),(13,true),(14,true),(15,true),(16,true),(17,true),(18,true),(19,true),(20,true),(21,true),(22,true),(23,true),(24,true),(25,true)] NoS mixed (by kernel_rfl) ?_;intro gd K x hgd hx hxe hK;clear hxe;have hg7:=gk 7 40 hgd rfl;have hg10:=gk 10 43 hgd rfl;have k1x:=zaa ((hE0.trans hwA).trans hx) k1;simp (disch:=first|omega|assumption|rfl) only[go_sem,s2,s10,s11,hi0,hlt,hxk,zaj,k1x,Nat.add_zero,yn0];refine Fn.mono (zcS x qv ov q zs[i].o (hq.ext (hwA.trans hx)) (ho.ext ((hE0.trans hwA).trans hx)) mq.LB mo.LB (by omega) (by omega)) ?_;rintro _ x2 ⟨rfl,hx2⟩;refine⟨.inr hx2,?_⟩;rw[hu];cases u with
    |false=>
     simp (disch:=first|omega|assumption|rfl) only[go_sem,s9,zaT,↓hg7,↓hg10];refine hK _ _ ?_;clear hK hgd;clear K;try clear gd
     exact⟨rfl,rfl,vq1 s11,vq1 s10,vq1 s2,vq1 s8,by show _=Value.bool false;simp only[go_sem,s9],hx.trans hx2,vr0⟩
    |true=>
     simp (disch:=first|omega|assumption|rfl) only[go_sem,s9,zaT,↓hg7,↓hg10];refine hK _ _ ?_;clear hK hgd;clear K;try clear gd
     exact⟨rfl,rfl,vq1 s11,vq1 s10,vq1 s2,vq1 s8,by show _=Value.bool false;simp only[go_sem,s9],hx.trans hx2,by rw[show decide ((-1:Int)<(zs[i].o.length:Int))=true from yet (by omega)];first| (simp only[go_sem];done)| (simp only[go_sem];rfl)⟩
   ·have kz:=hzg _ (List.getElem_mem hk);obtain⟨c2,hc2,hZ2⟩:=hgz k hk;obtain⟨ov2,lv2,rfl,ho2,hr2⟩:=hZ2.ex;obtain⟨xk2,hxk2⟩:∃xi,adr (some xz) (k*2)=some xi:=⟨_,rfl⟩;have k2:zad w0 (some xk2)=some ov2:=by
     have:=zah (j:=0) hc2 rfl
     rwa [zaj,hxk2]at this
    obtain⟨ao2,co2,hov2,_⟩:=id ho2;rw[ylm]at hov2;have hk0:=cj k;have hltk:(k:Int)<(zs.length:Int):=by omega
    have h9:decide ((0:Int)<=(zs[k].o.length:Int))=true:=yet (by omega)
    dsimp only at s8 s9
    rw[h9]at s9;refine zaJ (fun _=>false) [(0,true),(1,true),(2,true),(3,true),(4,true),(5,true),(6,false),(7,true),(8,true),(9,true),(10,true),(11,true),(12,true),(13,true),(14,true),(15,true),(16,true),(17,true),(18,true),(19,true),(20,true),(21,true),(22,true),(23,true),(24,true),(25,true)] NoS mixed (by kernel_rfl) ?_;intro gd K x hgd hx hxe hK;clear hxe;have hg7:=gk 7 40 hgd rfl;have hg10:=gk 10 43 hgd rfl;have k1x:=zaa ((hE0.trans hwA).trans hx) k1;simp (disch:=first|omega|assumption|rfl) only[go_sem,s2,s10,s11,hi0,hlt,hxk,zaj,k1x,Nat.add_zero,yn0];refine Fn.mono (zcS x qv ov q zs[i].o (hq.ext (hwA.trans hx)) (ho.ext ((hE0.trans hwA).trans hx)) mq.LB mo.LB (by omega) (by omega)) ?_;rintro _ x2 ⟨rfl,hx2⟩;refine⟨.inr hx2,?_⟩;rw[hu];cases u with
    |false=>
     simp (disch:=first|omega|assumption|rfl) only[go_sem,s9,zaT,↓hg7,↓hg10];refine hK _ _ ?_;clear hK hgd;clear K;try clear gd
     exact⟨rfl,rfl,vq1 s11,vq1 s10,vq1 s2,vq1 s8,by dsimp only;rw[h9];simp only[go_sem,s9],hx.trans hx2,vr0⟩
    |true=>
     have k1y:=zaa hx2 k1x;have k2y:=zaa (((hE0.trans hwA).trans hx).trans hx2) k2;rw[hov]at k1y;rw[hov2]at k2y;simp (disch:=first|omega|assumption|rfl) only[go_sem,s8,s9,s10,s11,hi0,hlt,hxk,zaj,k1y,k2y,hk0,hltk,hxk2,Nat.add_zero,yn0,zaT,↓hg7,↓hg10];refine hK _ _ ?_;clear hK hgd;clear K;try clear gd
     exact⟨rfl,rfl,vq1 s11,vq1 s10,vq1 s2,vq1 s8,by dsimp only;rw[h9];simp only[go_sem,s9],hx.trans hx2,vr0⟩
  rintro _ σ1 _ A1 ⟨rfl,rfl,s11,s10,s2,s8,s9,hA1,s58⟩;repeat refine c_r ?_
  by_cases hb:u=true/\B.2<(zs[i].o.length:Int)
  ·have hst:zaS q B (i,zs[i])=((i:Int),(zs[i].o.length:Int)):=by unfold zaS;rw[hu,if_pos hb]
   have hbt:(u && decide (B.2<(zs[i].o.length:Int)))=true:=by rw[hb.1,yet hb.2];rfl
   rw[hbt]at s58;refine wt s58 ?_;repeat refine c_r ?_
   refine rg1 s11 ?_;repeat refine c_r ?_
   refine rg0 ?_;repeat refine c_r ?_
   refine rg2 s11 hi1' ?_;repeat refine c_r ?_
   refine⟨m - 1,by omega,rfl,i+1,((i:Int),(zs[i].o.length:Int)),by omega,hfo.trans hst,.inr ⟨i,hi,rfl⟩,vq0,by rw[hzv];simp only[go_sem,s10],vq1 s2,vq0,by rw[yet (show(0:Int)<=(zs[i].o.length:Int) by omega)];first| (simp only[go_sem];done)| (simp only[go_sem];rfl),hEA.trans hA1⟩
  ·have hst:zaS q B (i,zs[i])=B:=by unfold zaS;rw[hu,if_neg hb]
   have hbt:(u && decide (B.2<(zs[i].o.length:Int)))=false:=by
    cases u with
    |false=>rfl
    |true=>exact yef (fun h=>hb ⟨rfl,h⟩)
   rw[hbt]at s58;refine wf s58 ?_;repeat refine c_r ?_
   refine rg2 s11 hi1' ?_;repeat refine c_r ?_
   refine⟨m - 1,by omega,rfl,i+1,B,by omega,hfo.trans hst,hBS,vq0,by rw[hzv];simp only[go_sem,s10],vq1 s2,vq1 s8,vq1 s9,hEA.trans hA1⟩
 ·intro hge;simp only[ydF]at hge;have hB2:ziO q zs=B:=by rw[←hB,List.take_of_length_le (by omega)];rfl
  rw[hB2];repeat (first|refine c_r ?_| (refine zb7 (by rfl) ?_;intro gd K hgd hK;simp (disch:=first|omega|assumption|rfl) only[go_sem,s8,s9];refine hK _ _ ?_;clear hK hgd;clear K gd))
  refine zat (by simp) Tryz.ntmps180 rfl (zam vr0 (zam vr0 zap)) ?_;exact⟨rfl,hwA⟩
theorem ResN.cells{w0 wn w:World}{B:Nat}{cs:List Value}{r:ResL}(h:ResN w0 wn B w cs r):cs.length=5/\∀v∈cs,one v=true:=by
 obtain⟨dv,nv,gv,rfl,h1,h2,h3,h4,h5⟩:=h.ex;exact⟨rfl,ones5 h1.isOne (h3.elim (fun h=>h.1.isOne) (fun h=>h.isOne)) h4.isOne⟩
theorem row_off{w z:World}{nv:Value}{l:Nm}{b:Nat}{c:Array Value}{T:TypeId}{fr:Nat×Nat}(h:Row w nv (l.map vs))(hb:w.heap[b]? =some (.cells c T fr))(hc:∀x∈c.toList,∀t,x≠vs t)(hk:∀i,i<w.heap.size->i≠b->z.heap[i]? =w.heap[i]?):Row z nv (l.map vs):=by
 cases l with
 |nil=>
  obtain⟨a,c',rfl,hcap,_⟩:=h;exact⟨a,c',rfl,hcap,fun j hj=>absurd hj (by simp)⟩
 |cons x l=>
  refine h.blocks fun a n c' hv=>?_;obtain⟨a',c2,e,_,hg⟩:=h;rw[hv]at e;injection e with e1 e2 e3
  have h0:=hg 0 (by simp);rw[zaj,←e1]at h0;have hlt:=zcB (show w.cell? a=some _ from h0);refine hk _ hlt (fun e=>?_);have h1:w.cell? a=some (vs x):=h0;unfold World.cell? at h1;rw[e,hb]at h1
  dsimp only at h1
  split at h1
  ·cases h1
  ·exact hc _ (Array.mem_toList_iff.2 (Array.mem_of_getElem? h1)) x rfl
theorem RAsk_ok{w0 w:World}(hE0:Ext w0 w){cs:List Value}{N:NetL}{s:Int}{q:Nm}{qv:Value}{t:Int}(hN:NetAt w0 cs N)(hG:NetZ N)(hq:Row w qv (q.map vs))(mq:NmM q):
  Fn Tryz.prog 140 #[.agg cs.toArray,vi s,qv,vi t] w (fun v w'=>Ext w w'/\∃cs,v= .agg cs.toArray/\ResAt w0 w' cs (askN N s q t)):=by
 have hN0:=hN;obtain⟨hv,rv,rfl,hh,hr⟩:=hN.ex;obtain⟨ah,ch,hhv,_⟩:=hh.open;obtain⟨ar,cr,hrv,_⟩:=id hr;refine enter Tryz.func140 Tryz.ntmps140 rfl rfl ?_;repeat refine c_r ?_
 rw[hhv,hrv];refine rg0 ?_;rw[←hhv,←hrv];repeat refine c_r ?_
 rw[zai];refine zaF ?_;intro w1 hE1 hs1 hA hC;have d:=zae (n:=4) (l:=[hv,rv,vi N.rw,vi N.rf]) hA rfl;repeat refine c_r ?_
 refine rc d (zjK (s:=s) (hE0.trans hE1) hN0 hG (hq.ext hE1) mq) ?_;rintro _ w2 ⟨rfl,hE2⟩;refine re trivial ?_;have hE02:=hE0.trans (hE1.trans hE2);have hC2:=Ext.at hE2 hC;have d2:=zac hE2 d;refine gz0 ?_;cases hb:(zbR N s q).2 with
 |false=>
  have hk:askN N s q t=⟨7,[],[],false,[]⟩:=by unfold askN;rw[hb];rfl
  refine wt trivial ?_;refine rqz ?_;intro gd K hgd hK;try simp only[go_sem]
  refine⟨by kernel_rfl,?_⟩;rw[show bdV Tryz.prog 255 [(0,vi 7)]=some (.agg #[vi 7,.slice .none 0 0,.slice .none 0 0,.bool false,.slice .none 0 0]) from by kernel_rfl];try simp only[go_sem]
  refine zaD (P:=Tryz.prog) (t:=255) (l:=[vi 7,.slice .none 0 0,.slice .none 0 0,.bool false,.slice .none 0 0]) hC2 rfl (ones5 rfl rfl rfl) rfl rfl ?_;intro z hz' hbz hkz;try simp only[go_sem]
  refine en hK ?_;refine zat (.inr rfl) Tryz.ntmps140 rfl (zaI (x:=⟨w.heap.size+1,0,.none⟩) (k:=5) vq0 rfl rfl (zae hbz rfl) zap) ?_;exact⟨Keep.to_ext (hE1.trans hE2) rfl (fun b hb=>by omega) hkz,_,rfl,by rw[hk];exact(zlp (w0:=w0) (B:=0)).at (hE0.trans (Keep.to_ext (hE1.trans hE2) rfl (fun b hb=>by omega) hkz))⟩
 |true=>
  obtain⟨hk0,hk1⟩:=zjC hb;obtain⟨z,hz⟩:∃z,(N.zones s)[(zbR N s q).1.toNat]? =some z:=⟨_,List.getElem?_eq_getElem (by omega)⟩;have hk:askN N s q t=za1 z.o z.recs q t:=by unfold askN;rw[hb,hz];rfl
  have gz:=(zbT hG).1 z (List.mem_of_getElem? hz);obtain⟨i,j,xh,c1,xi,x5,az,cz,nz,xz,ov,lv,rfl,hkj,hi,hj,rfl,hxi,hx5,pz,hxz,dz,ho,hl⟩:=zky hh hz hk0;rw[hkj];refine wf trivial ?_;have p0:zad w2 (some ⟨w.heap.size,0,.none⟩)=some (.slice (some xh) N.hosts.length c1):=zab (Ext.at hE2 hA) rfl;have pz2:=zaa hE02 pz;have dz2:=zac hE02 dz;have i0:=cj i;have i1:(i:Int)<(N.hosts.length:Int):=by omega
  have j0:=cj j;have j1:(j:Int)<(nz:Int):=by omega
  refine rqz ?_;intro gd K hgd hK;refine sgz (az2 (az7 p0 i0 i1 j0 j1 hxi hx5) (az4 pz2 hxz dz2 Nat.add_zero)) ?_;refine Fn.mono (RLook_ok (t:=t) (gz.zn hE02 (ho.ext hE02) (hl.ext hE02)) gz.c.srt gz.c.gd gz.c.ld (hq.ext (hE1.trans hE2)) mq) ?_;rintro _ w3 ⟨hE3,cs,rfl,hres⟩;try simp only[go_sem]
  refine zaD (P:=Tryz.prog) (t:=255) (l:=cs) (Ext.at hE3 hC2) hres.cells.1 hres.cells.2 (by rw[hres.cells.1];rfl) rfl ?_;intro z hz' hbz hkz;try simp only[go_sem]
  refine en hK ?_;refine zat (.inr rfl) Tryz.ntmps140 rfl (zaI (x:=⟨w.heap.size+1,0,.none⟩) (k:=5) vq0 rfl rfl (zae hbz hres.cells.1.symm) zap) ?_;have hs2:=hE2.size;have hz:=Keep.to_ext (hE1.trans (hE2.trans hE3)) rfl (fun b hb=>by omega) hkz;refine⟨hz,_,rfl,?_⟩;rw[hk];have hrk:=hres.keep hkz (fun b h1 _ h2=>by omega);obtain⟨dv,nv,gv,e,g1,g2,g3,g4,g5⟩:=hrk.ex;refine⟨dv,nv,gv,e,g1,g3.elim (fun h=>h.1) (fun h=>?_),g4.to fun cs y hy=>?_⟩
  ·refine row_off h hC2 (fun x hx t ht=>?_) (fun i hi hb=>(hkz.block i (by have:=hE3.size;omega) hb).trans (hE3.block i hi (fun h=>h)));subst ht;simp[vs]at hx
  ·obtain⟨hv,dv,e,g1,g2,g3⟩:=hy;exact⟨hv,dv,e,g1,g2⟩
theorem zjG{α:Type}{p:α->Bool}{l:List α}{i:Nat}(hi:i<l.length):(l.take (i+1)).any p=((l.take i).any p||p l[i]):=by
 rw[zal hi,List.any_append];simp
theorem addr_at{w:World}{xi x1:Addr}{nv zv:Value}{a b c d:UInt8}(h:zan w (some xi) 6=some [nv,zaf a,zaf b,zaf c,zaf d,zv])(h1:adr (some xi) 1=some x1):∀j (hj:j< [a,b,c,d].length),zad w (adr (some x1) j)=some (zaf [a,b,c,d][j]):=by
 intro j hj;rw[←h1,zfW];refine zah (j:=1+j) h ?_
 match j,hj with
 |0,_=>rfl
 |1,_=>rfl
 |2,_=>rfl
 |3,_=>rfl
theorem zms{w0 w:World}(hE0:Ext w0 w){cs:List Value}{N:NetL}{host:Nm}{hv gv:Value}{glue:List DatL}(hN:NetAt w0 cs N)(hG:NetZ N)(hh:Row w hv (host.map vs))(mh:NmM host)(hg:Rows 5 (DatAt w0) w gv glue)(hgl:glue.length<=1000000000):
  Fn Tryz.prog 182 #[.agg cs.toArray,hv,gv] w (fun v w'=>Ext w w'/\Row w' v ((zec N host glue).map vi)/\BlkB w.heap.size w' v):=by
 obtain⟨hs,rs,rfl,hhs,hr⟩:=hN.ex;obtain⟨ah,ch,rfl,hch,hgh⟩:=hhs.open;obtain⟨ar,cr,hrv,_⟩:=id hr;obtain⟨a1,c1,hnv,_⟩:=id hh;obtain⟨a2,c2,rfl,hc2,hgg⟩:=hg.open;have hl:=hG.hl;have ml:=mh.len;refine enter Tryz.func182 Tryz.ntmps182 rfl rfl ?_;repeat refine c_r ?_
 rw[hrv,hnv];refine rg0 ?_;rw[←hrv,←hnv];repeat refine c_r ?_
 refine zax ?_;intro w1 hE1 hs1 hA;have p0:zad w1 (some ⟨w.heap.size,0,.none⟩)=some (.slice ah N.hosts.length ch):=zab hA rfl;have hE01:=hE0.trans hE1;refine gz0 ?_;refine zao (fun m σ ds A=>ds=[]/\A=w1/\∃(i:Nat),i+m=glue.length/\σ 9=vi i/\σ 8= .bool ((glue.take i).any isA)/\σ 7= .slice .none 0 0/\σ 3= .pointer (some ⟨w.heap.size,0,.none⟩)/\σ 1=hv/\σ 2= .slice a2 glue.length c2) glue.length ?_ ?_
 ·exact⟨rfl,rfl,0,by omega,vr0,vr0,vr0,vr0,vr0,vr0⟩
 rintro m σ ds A ⟨rfl,hAe,i,him,s9,s8,s7,s3,s1,s2⟩;subst hAe;refine gz (az2 s9 s2) ?_;refine wc0 ?_ ?_
 ·intro hlt;simp only[ydT]at hlt;have hi:i<glue.length:=by omega
  have hi0:=cj i;have hi1':=ci i;obtain⟨c3,hc3,hD⟩:=hgg i hi;obtain⟨nm,nu,tx,rw',rfl,_,_,_,hraw⟩:=hD.ex;obtain⟨xz,rfl⟩:=yxs (zak hc3);obtain⟨xi,hxi⟩:∃xi,adr (some xz) (i*5)=some xi:=⟨_,rfl⟩;have k1:zad A (some xi)=some (vi glue[i].ty):=by
   have:=zah (j:=0) hc3 rfl;rw[zaj,hxi]at this;exact zaa hE1 this
  have hany:=zjG (p:=isA) hi;repeat refine c_r ?_
  refine zaw (Q:=fun e σ' ds' v'=>e= .normal/\ds'=[]/\v'=A/\σ' 9=vi i/\σ' 8= .bool ((glue.take (i+1)).any isA)/\σ' 7= .slice .none 0 0/\σ' 3= .pointer (some ⟨w.heap.size,0,.none⟩)/\σ' 1=hv/\σ' 2= .slice (some xz) glue.length c2) ?_ ?_
  ·cases hb:(glue.take i).any isA with
   |true=>
    rw[hb]at s8 hany;refine rgg [(1,20)] s8 ?_;exact⟨rfl,rfl,rfl,vq1 s9,by rw[hany];first| (simp only[go_sem];done)| (simp only[go_sem];rfl),vq1 s7,vq1 s3,vq1 s1,vq1 s2⟩
   |false=>
    rw[hb]at s8 hany;refine rgg [(1,20)] (an9 s8 s2 s9 hi0 hlt hxi zaj k1 Nat.add_zero) ?_;exact⟨rfl,rfl,rfl,vq1 s9,by rw[hany];first| (simp only[go_sem];done)| (simp only[go_sem];rfl),vq1 s7,vq1 s3,vq1 s1,vq1 s2⟩
  clear s9 s8 s7 s3 s1 s2;rintro _ σ1 _ _ ⟨rfl,rfl,hAe,s9,s8,s7,s3,s1,s2⟩;subst hAe;refine gz (az2 s9 hi1') ?_;exact⟨m - 1,by omega,rfl,rfl,i+1,by omega,vq0,vq1 s8,vq1 s7,vq1 s3,vq1 s1,vq1 s2⟩
 intro hge;simp only[ydF]at hge;rw[List.take_of_length_le (by omega)]at s8;clear s9 him hge;obtain⟨any,hany⟩:∃b,glue.any isA=b:=⟨_,rfl⟩;rw[hany]at s8;refine gz0 ?_;refine zao (fun m σ ds B=>ds=[]/\∃(i:Nat) (ov:Value),i+m=N.hosts.length/\σ 10=vi i/\σ 8= .bool any/\σ 7=ov/\σ 3= .pointer (some ⟨w.heap.size,0,.none⟩)/\σ 1=hv/\σ 2= .slice a2 glue.length c2/\Own A.heap.size B 3 ov ((zcK (zbF host glue) 0 (N.hosts.take i)).map vi)/\Ext A B) N.hosts.length ?_ ?_
 ·exact⟨rfl,0,.slice .none 0 0,by omega,vr0,vq1 s8,vq1 s7,vq1 s3,vq1 s1,vq1 s2,Own.nil _ _ _,Keep.refl _ _⟩
 clear s8 s7 s3 s1 s2;rintro m σ ds B ⟨rfl,i,ov,him,s10,s8,s7,s3,s1,s2,hown,hEB⟩;have p0B:=zaa hEB p0;have hEwB:=hE1.trans hEB;have hE0B:=hE0.trans hEwB;refine gz (az4 s10 s3 p0B Nat.add_zero) ?_;refine wc0 ?_ ?_
 ·intro hlt;simp only[ydT]at hlt;have hi:i<N.hosts.length:=by omega
  have hi0:=cj i;have hi1':=ci i;obtain⟨cs,hcs,hH⟩:=hgh i hi;obtain⟨nv,b1,b2,b3,b4,zv,rfl,had,hnr,hzr⟩:=hH.ex;obtain⟨xz,rfl⟩:=yxs (zak hcs);obtain⟨xi,hxi⟩:∃xi,adr (some xz) (i*6)=some xi:=⟨_,rfl⟩;have dH:=zac hE0B hcs;rw[hxi]at dH;have k0:zad B (some xi)=some nv:=by
   have:=zah (j:=0) dH rfl
   rwa [zaj]at this
  have mn:=hG.nm _ (List.getElem_mem hi);have mnl:=mn.len;obtain⟨sm,hsm⟩:∃b,(!any && decide (zaq N.hosts[i].name=zaq host))=b:=⟨_,rfl⟩;repeat refine c_r ?_
  refine zaw (Q:=fun e σ' ds' C=>e= .normal/\ds'=[]/\σ' 11= .bool sm/\σ' 10=vi i/\σ' 8= .bool any/\σ' 7=ov/\σ' 3= .pointer (some ⟨w.heap.size,0,.none⟩)/\σ' 1=hv/\σ' 2= .slice a2 glue.length c2/\Ext B C) ?_ ?_
  ·cases any with
   |true=>
    refine rgg [(2,37)] s8 ?_;exact⟨rfl,rfl,by rw[←hsm];first| (simp only[go_sem];done)| (simp only[go_sem];rfl),vq1 s10,vq1 s8,vq1 s7,vq1 s3,vq1 s1,vq1 s2,Keep.refl _ _⟩
   |false=>
    refine rcg [(2,37)] (an9 s8 s3 (an4 p0B Nat.add_zero Bool.not_false s1) s10 hi0 hlt hxi zaj k0) (zb2 B nv hv N.hosts[i].name host (hnr.ext hE0B) (hh.ext hEwB) mn.LB mh.LB (by omega) (by omega)) ?_;rintro _ C ⟨rfl,hC⟩;refine reg [(2,37)] trivial ?_;exact⟨rfl,rfl,by rw[←hsm];first| (simp only[go_sem];done)| (simp only[go_sem];rfl),vq1 s10,vq1 s8,vq1 s7,vq1 s3,vq1 s1,vq1 s2,hC⟩
  clear s10 s8 s7 s3 s1 s2;rintro _ σ1 _ C ⟨rfl,rfl,s11,s10,s8,s7,s3,s1,s2,hBC⟩;have hEAC:=hEB.trans hBC;have hEwC:=hE1.trans hEAC;refine gz0 ?_;refine zao (fun m σ ds D=>ds=[]/\∃(j:Nat),j+m=glue.length/\σ 12=vi j/\σ 11= .bool (sm|| (glue.take j).any (isG N.hosts[i].addr))/\σ 10=vi i/\σ 8= .bool any/\σ 7=ov/\σ 3= .pointer (some ⟨w.heap.size,0,.none⟩)/\σ 1=hv/\σ 2= .slice a2 glue.length c2/\Ext C D) glue.length ?_ ?_
  ·exact⟨rfl,0,by omega,vr0,by rw[List.take_zero,List.any_nil,Bool.or_false];simp only[go_sem,s11],vq1 s10,vq1 s8,vq1 s7,vq1 s3,vq1 s1,vq1 s2,Keep.refl _ _⟩
  clear s11 s10 s8 s7 s3 s1 s2;rintro m2 σ ds D ⟨rfl,j,hjm,s12,s11,s10,s8,s7,s3,s1,s2,hCD⟩;have hEwD:=hEwC.trans hCD;have hE0D:=hE0.trans hEwD;refine gz (az2 s12 s2) ?_;refine wc0 ?_ ?_
  ·intro hlt2;simp only[ydT]at hlt2;have hj:j<glue.length:=by omega
   have hj0:=cj j;have hj1':=ci j;obtain⟨c3,hc3,hD⟩:=hgg j hj;obtain⟨nm,nu,tx,rw',rfl,_,_,_,hraw⟩:=hD.ex;obtain⟨yz,rfl⟩:=yxs (zak hc3);obtain⟨yi,hyi⟩:∃xi,adr (some yz) (j*5)=some xi:=⟨_,rfl⟩;rw[hyi]at hc3;have k1:zad w (some yi)=some (vi glue[j].ty):=by
    have:=zah (j:=0) hc3 rfl
    rwa [zaj]at this
   obtain⟨y4,hy4⟩:∃x,adr (some yi) 4=some x:=⟨_,rfl⟩;have k4:zad w (some y4)=some rw':=by
    have:=zah (j:=4) hc3 rfl
    rwa [hy4]at this
   have hat:=zjG (p:=isG N.hosts[i].addr) hj;obtain⟨t,ht⟩:∃b,(sm|| (glue.take j).any (isG N.hosts[i].addr))=b:=⟨_,rfl⟩;rw[ht]at s11;have hnx:(sm|| (glue.take (j+1)).any (isG N.hosts[i].addr))=(t||isG N.hosts[i].addr glue[j]):=by rw[hat,←Bool.or_assoc,ht]
   repeat refine c_r ?_
   refine zaw (Q:=fun e σ' ds' E=>e= .normal/\ds'=[]/\σ' 12=vi j/\σ' 11= .bool (t||isG N.hosts[i].addr glue[j])/\σ' 10=vi i/\σ' 8= .bool any/\σ' 7=ov/\σ' 3= .pointer (some ⟨w.heap.size,0,.none⟩)/\σ' 1=hv/\σ' 2= .slice (some yz) glue.length c2/\Ext D E) ?_ ?_
   ·cases t with
    |true=>
     refine zeT (fun _=>false) (.run [(0,true),(1,true),(2,true),(3,true),(4,true),(5,true),(6,true),(7,true),(8,true),(9,true),(10,true),(11,true),(12,true),(13,true),(15,true),(16,true),(17,true),(18,true),(19,true)] (.fork 6 [14,20] (fun i=>if i=14 then(.run [(20,false),(21,false),(22,true),(23,true),(24,true),(25,true)] .fin) else(.run [] (.fork 5 [14,21] (fun i=>if i=14 then(.run [(21,false),(22,true),(23,true),(24,true),(25,true)] .fin) else(.run [(14,false),(22,true),(23,true),(24,true),(25,true)] .fin))))))) NoS mixed (by kernel_rfl) ?_;intro gd K x hgd hx hxe hK;clear hxe;have hg1:=gk 1 54 hgd rfl;have hg8:=gk 8 61 hgd rfl;simp (disch:=first|omega|assumption|rfl) only[go_sem,s11,zaT,↓hg1,↓hg8];simp only[za5,zbl];refine⟨?_,?_⟩
     ·simp (disch:=first|omega|assumption|rfl) only[go_sem,zaT,↓hg1,↓hg8];apply hK;exact⟨rfl,rfl,vq1 s12,vr0,vq1 s10,vq1 s8,vq1 s7,vq1 s3,vq1 s1,vq1 s2,hx⟩
     ·simp (disch:=first|omega|assumption|rfl) only[go_sem,zaT,↓hg1,↓hg8];simp only[za5,zbl];refine⟨?_,?_⟩
      ·simp (disch:=first|omega|assumption|rfl) only[go_sem,zaT,↓hg1,↓hg8];apply hK;exact⟨rfl,rfl,vq1 s12,vr0,vq1 s10,vq1 s8,vq1 s7,vq1 s3,vq1 s1,vq1 s2,hx⟩
      ·simp (disch:=first|omega|assumption|rfl) only[go_sem,zaT,↓hg1,↓hg8];apply hK;exact⟨rfl,rfl,vq1 s12,vr0,vq1 s10,vq1 s8,vq1 s7,vq1 s3,vq1 s1,vq1 s2,hx⟩
    |false=>
     by_cases hty:glue[j].ty=1
     ·have hisG:isG N.hosts[i].addr glue[j]=decide (glue[j].raw=N.hosts[i].addr):=by unfold isG isA;rw[yet hty];rfl
      rw[hisG];obtain⟨x1,hx1⟩:∃x,adr (some xi) 1=some x:=⟨_,rfl⟩;obtain⟨ar4,cr4,rfl,hcr4,hgr4⟩:=hraw;rw[ylm]at k4 hcr4;refine zeT (fun _=>false) (.run [(0,true),(1,true),(2,true),(3,true),(4,true),(5,true),(6,true),(7,true),(8,true),(9,true),(10,true),(11,true),(12,true),(13,true),(15,true),(16,true),(17,true),(18,true),(19,true)] (.fork 6 [14,20] (fun i=>if i=14 then(.run [(20,false),(21,false),(22,true),(23,true),(24,true),(25,true)] .fin) else(.run [] (.fork 5 [14,21] (fun i=>if i=14 then(.run [(21,false),(22,true),(23,true),(24,true),(25,true)] .fin) else(.run [(14,false),(22,true),(23,true),(24,true),(25,true)] .fin))))))) NoS mixed (by kernel_rfl) ?_;intro gd K x hgd hx hxe hK;clear hxe;have hg1:=gk 1 54 hgd rfl;have hg8:=gk 8 61 hgd rfl;have k1x:=zaa (hEwD.trans hx) k1;have k4x:=zaa (hEwD.trans hx) k4;have p0x:=zaa ((hEAC.trans hCD).trans hx) p0;have dHx:=addr_at (zac ((hBC.trans hCD).trans hx) dH) hx1;have grx:∀k (hk:k<glue[j].raw.length),zad x (adr ar4 k)=some (zaf glue[j].raw[k]):=fun k hk=>by
       have:=zaa (hE0D.trans hx) (hgr4 k (by simpa using hk));rw[List.getElem_map]at this;exact this
      simp (disch:=first|omega|assumption|rfl) only[go_sem,s11,s2,s12,s3,s10,hi0,hlt,hj0,hlt2,hyi,hy4,hxi,hx1,zaj,k1x,k4x,p0x,Nat.add_zero,yet hty,zaT,↓hg1,↓hg8];have haddr:N.hosts[i].addr=[b1,b2,b3,b4]:=had;simp only[za5,zbl];refine⟨?_,?_⟩
      ·simp (disch:=first|omega|assumption|rfl) only[go_sem,zaT,↓hg1,↓hg8];refine zbh (l:=glue[j].raw) rfl rfl rfl vr0 grx ?_;refine⟨.inr (Keep.refl _ _),?_⟩;simp (disch:=first|omega|assumption|rfl) only[go_sem,zaT,↓hg1,↓hg8];refine zlf rfl (by decide) (by kernel_rfl) vq0 ?_;refine⟨.inr (Keep.refl _ _),?_⟩;simp (disch:=first|omega|assumption|rfl) only[go_sem,zaT,↓hg1,↓hg8];refine zbh (l:=[b1,b2,b3,b4]) rfl rfl rfl vr0 dHx ?_;refine⟨.inr (Keep.refl _ _),?_⟩;simp (disch:=first|omega|assumption|rfl) only[go_sem,zaT,↓hg1,↓hg8];apply hK;exact⟨rfl,rfl,vq1 s12,by rw[Bool.false_or,haddr];first| (simp only[go_sem];done)| (simp only[go_sem];rfl),vq1 s10,vq1 s8,vq1 s7,vq1 s3,vq1 s1,vq1 s2,hx⟩
      ·simp (disch:=first|omega|assumption|rfl) only[go_sem,zaT,↓hg1,↓hg8];refine zlf rfl (by decide) (by kernel_rfl) vq0 ?_;refine⟨.inr (Keep.refl _ _),?_⟩;simp only[za5,zbl];refine⟨?_,?_⟩
       ·simp (disch:=first|omega|assumption|rfl) only[go_sem,zaT,↓hg1,↓hg8];refine zbh (l:=glue[j].raw) rfl rfl rfl vr0 grx ?_;refine⟨.inr (Keep.refl _ _),?_⟩;simp (disch:=first|omega|assumption|rfl) only[go_sem,zaT,↓hg1,↓hg8];refine zbh (l:=[b1,b2,b3,b4]) rfl rfl rfl vr0 dHx ?_;refine⟨.inr (Keep.refl _ _),?_⟩;simp (disch:=first|omega|assumption|rfl) only[go_sem,zaT,↓hg1,↓hg8];apply hK;exact⟨rfl,rfl,vq1 s12,by rw[Bool.false_or,haddr];first| (simp only[go_sem];done)| (simp only[go_sem];rfl),vq1 s10,vq1 s8,vq1 s7,vq1 s3,vq1 s1,vq1 s2,hx⟩
       ·simp (disch:=first|omega|assumption|rfl) only[go_sem,zaT,↓hg1,↓hg8];refine zbh (l:=[b1,b2,b3,b4]) rfl rfl rfl vr0 dHx ?_;refine⟨.inr (Keep.refl _ _),?_⟩;simp (disch:=first|omega|assumption|rfl) only[go_sem,zaT,↓hg1,↓hg8];refine zbh (l:=glue[j].raw) rfl rfl rfl vr0 grx ?_;refine⟨.inr (Keep.refl _ _),?_⟩;simp (disch:=first|omega|assumption|rfl) only[go_sem,zaT,↓hg1,↓hg8];apply hK;exact⟨rfl,rfl,vq1 s12,by rw[Bool.false_or,haddr];first| (simp only[go_sem];done)| (simp only[go_sem];rfl),vq1 s10,vq1 s8,vq1 s7,vq1 s3,vq1 s1,vq1 s2,hx⟩
     ·have hisG:isG N.hosts[i].addr glue[j]=false:=by unfold isG isA;rw[yef hty];rfl
      rw[hisG];refine zeT (fun _=>false) (.run [(0,true),(1,true),(2,true),(3,true),(4,true),(5,true),(6,true),(7,true),(8,true),(9,true),(10,true),(11,true),(12,true),(13,true),(15,true),(16,true),(17,true),(18,true),(19,true)] (.fork 6 [14,20] (fun i=>if i=14 then(.run [(20,false),(21,false),(22,true),(23,true),(24,true),(25,true)] .fin) else(.run [] (.fork 5 [14,21] (fun i=>if i=14 then(.run [(21,false),(22,true),(23,true),(24,true),(25,true)] .fin) else(.run [(14,false),(22,true),(23,true),(24,true),(25,true)] .fin))))))) NoS mixed (by kernel_rfl) ?_;intro gd K x hgd hx hxe hK;clear hxe;have hg1:=gk 1 54 hgd rfl;have hg8:=gk 8 61 hgd rfl;have k1x:=zaa (hEwD.trans hx) k1;simp (disch:=first|omega|assumption|rfl) only[go_sem,s11,s2,s12,hj0,hlt2,hyi,zaj,k1x,Nat.add_zero,yef hty,zaT,↓hg1,↓hg8];simp only[za5,zbl];refine⟨?_,?_⟩
      ·simp (disch:=first|omega|assumption|rfl) only[go_sem,zaT,↓hg1,↓hg8];apply hK;exact⟨rfl,rfl,vq1 s12,vr0,vq1 s10,vq1 s8,vq1 s7,vq1 s3,vq1 s1,vq1 s2,hx⟩
      ·simp (disch:=first|omega|assumption|rfl) only[go_sem,zaT,↓hg1,↓hg8];simp only[za5,zbl];refine⟨?_,?_⟩
       ·simp (disch:=first|omega|assumption|rfl) only[go_sem,zaT,↓hg1,↓hg8];apply hK;exact⟨rfl,rfl,vq1 s12,vr0,vq1 s10,vq1 s8,vq1 s7,vq1 s3,vq1 s1,vq1 s2,hx⟩
       ·simp (disch:=first|omega|assumption|rfl) only[go_sem,zaT,↓hg1,↓hg8];apply hK;exact⟨rfl,rfl,vq1 s12,vr0,vq1 s10,vq1 s8,vq1 s7,vq1 s3,vq1 s1,vq1 s2,hx⟩
   clear s12 s11 s10 s8 s7 s3 s1 s2;rintro _ σ2 _ E ⟨rfl,rfl,s12,s11,s10,s8,s7,s3,s1,s2,hDE⟩;refine gz (az2 s12 hj1') ?_;exact⟨m2 - 1,by omega,rfl,j+1,by omega,vq0,by rw[hnx];simp only[go_sem,s11],vq1 s10,vq1 s8,vq1 s7,vq1 s3,vq1 s1,vq1 s2,hCD.trans hDE⟩
  intro hge2;simp only[ydF]at hge2;rw[List.take_of_length_le (by omega)]at s11;have hisH:(sm||glue.any (isG N.hosts[i].addr))=zbF host glue N.hosts[i]:=by
   unfold zbF;rw[←hsm,hany];cases any with
   |true=>simp
   |false=>
    have:glue.any (isG N.hosts[i].addr)=false:=by
     rw[List.any_eq_false]at hany ⊢;intro d hd h;exact hany d hd (by unfold isG at h;rw[Bool.and_eq_true]at h;exact h.1)
    rw[this];simp
  rw[hisH]at s11;have hown2:=hown.ext (hBC.trans hCD);have hpk:=zgh (p:=zbF host glue) hi;have hlen:=zdc (p:=zbF host glue) (l:=N.hosts.take i) (i:=0);have hsz:=(hEAC.trans hCD).size;clear s12 hge2 hjm hisH;refine gz s11 ?_;refine zaw (Q:=fun e σ' ds' v'=>e= .normal/\ds'=[]/\σ' 10=vi i/\σ' 8= .bool any/\σ' 3= .pointer (some ⟨w.heap.size,0,.none⟩)/\σ' 1=hv/\σ' 2= .slice a2 glue.length c2/\∃ov',σ' 7=ov'/\Own A.heap.size v' 3 ov' ((zcK (zbF host glue) 0 (N.hosts.take (i+1))).map vi)/\Ext A v') ?_ ?_
  ·cases hb:zbF host glue N.hosts[i] with
   |false=>
    rw[hb,if_neg (by decide),List.append_nil]at hpk;refine wf hb ?_;repeat refine c_r ?_
    exact⟨rfl,rfl,vq1 s10,vq1 s8,vq1 s3,vq1 s1,vq1 s2,ov,vq1 s7,by rw[hpk];exact hown2,hEAC.trans hCD⟩
   |true=>
    rw[hb,if_pos rfl]at hpk;refine wt hb ?_;refine rqz ?_;intro gd K hgd hK;refine sgz (az2 s7 s10) ?_;refine zdk (z:=vi 0) (by rfl) (by rfl) (by rfl) (by rfl) (by rfl) ?_;intro A3 hE8 hs8 ho8;try simp only[go_sem]
    refine zcv (B:=A.heap.size) (hown2.ext hE8) ho8.row (by rfl) (by rfl) (by rfl) (by rfl) (by rfl) (by rfl) ((vr1 s7)) vr0 (fun q hq=>by rw[List.mem_singleton.1 hq];rfl) (by simp at hlen ⊢;omega) (by decide) (by omega) ?_;intro ov' A4 ho9 hE9 _ _;try simp only[go_sem]
    apply hK;exact⟨rfl,rfl,vq1 s10,vq1 s8,vq1 s3,vq1 s1,vq1 s2,ov',vr0,by rw[hpk,List.map_append];exact ho9,hE9 _ ((hEAC.trans hCD).trans hE8) (ynl _)⟩
  clear s11 s10 s8 s7 s3 s1 s2;rintro _ σ2 _ A3 ⟨rfl,rfl,s10,s8,s3,s1,s2,ov',s7,hown3,hE3⟩;refine gz (az2 s10 hi1') ?_;exact⟨m - 1,by omega,rfl,i+1,ov',by omega,vq0,vq1 s8,vq1 s7,vq1 s3,vq1 s1,vq1 s2,hown3,hE3⟩
 ·intro hge2;simp only[ydF]at hge2;rw[List.take_of_length_le (by omega)]at hown;repeat (first|refine c_r ?_| (refine zb7 (by rfl) ?_;intro gd K hgd hK;simp (disch:=first|omega|assumption|rfl) only[go_sem,s7];refine hK _ _ ?_;clear hK hgd;clear K gd))
  refine rt0 Tryz.ntmps182 ?_;exact⟨hE1.trans hEB,hown.row,hown.blk.mono hE1.size⟩
theorem zb8(w:World){nv:Value}{l:List Value}(hr:Row w nv l)(s:zav)(k:Int):
  Fn Tryz.prog 141 #[.agg (stV nv s).toArray,vi k] w (fun v w'=>Ext w w'/\Rows 6 (StN nv) w' v (endS s k)/\BlkB w.heap.size w' v):=by
 have h1:=hr.isOne;obtain⟨an,cn,hnv,_⟩:=hr;unfold stV;rw[hnv];refine enter Tryz.func141 Tryz.ntmps141 rfl rfl ?_;refine gz0 ?_;rw[←hnv];repeat refine c_r ?_
 refine zax ?_;intro w1 hE1 hs1 hA;refine rq ?_;intro gd K hgd hK;try simp only[go_sem]
 refine zaU (P:=Tryz.prog) (t:=3) (j:=5) (u:=vi k) (l:=stV nv s) hA (by show 5<6;decide) rfl rfl rfl ?_;intro w2 hs2 hA2 hk2;try simp only[go_sem]
 apply hK;have hE2:=Keep.to_ext hE1 rfl (fun b hb=>by omega) hk2;have d:zan w2 (some ⟨w.heap.size,0,.none⟩) 6=some (stV nv {s with fin:=k}):=zae hA2 rfl;refine rqz ?_;intro gd K hgd hK;refine sgz d ?_;refine zaR (C:=StN nv) (zba nv) (l:=stV nv {s with fin:=k}) (by rfl) (by rfl) (by rfl) (by rfl) ⟨rfl,h1⟩ (by decide) ?_;intro w3 hE3 hs3 ho3;try simp only[go_sem]
 refine en hK ?_;refine rt0 Tryz.ntmps141 ?_;exact⟨hE2.trans hE3,ho3.rows,ho3.blk.mono hE2.size⟩
theorem zgz{w0 w:World}(hE0:Ext w0 w){cs:List Value}{N:NetL}(hN:NetAt w0 cs N)(hrl:N.roots.length<=1000){nv:Value}{q:Nm}(hq:Row w nv (q.map vs)):
  Fn Tryz.prog 85 #[.agg cs.toArray,nv] w (fun v w'=>Ext w w'/\Rows 6 (StC w') w' v (zd5 N ⟨0,q,0,0,false,0⟩)/\BlkB w.heap.size w' v):=by
 obtain⟨hv,rv,rfl,hh,hro⟩:=hN.ex;obtain⟨ah,ch,hhv,_⟩:=hh.open;obtain⟨ar,cr,rfl,hcr,hgr⟩:=hro;obtain⟨an,cn,hnv,_⟩:=id hq;have h1:=hq.isOne;simp only[ylm]at hcr hgr;refine enter Tryz.func85 Tryz.ntmps85 rfl rfl ?_;repeat refine c_r ?_
 rw[hhv];refine rq ?_;intro gd K hgd hK;simp (disch:=first|omega|assumption|rfl) only[go_sem,ylm];refine hK _ _ ?_;clear hK hgd;clear K gd;rw[←hhv];repeat refine c_r ?_
 refine zax ?_;intro w1 hE1 hs1 hA;have p1:zad w1 (some ⟨w.heap.size,1,.none⟩)=some (.slice ar N.roots.length cr):=zab hA rfl;refine gz0 ?_;refine zao (fun m σ ds A=>ds=[]/\∃(i:Nat) (ov:Value),i+m=N.roots.length/\σ 6=vi i/\σ 5=ov/\σ 2= .pointer (some ⟨w.heap.size,0,.none⟩)/\σ 1=nv/\Owns 6 (StN nv) w1.heap.size A 84 ov ((N.roots.take i).map fun r=>(⟨r,q,0,0,false,0⟩:zav))/\Ext w1 A) N.roots.length ?_ ?_
 ·exact⟨rfl,0,.slice .none 0 0,by omega,vr0,vr0,vr0,vr0,Owns.nil _ _ _ _ _,Keep.refl _ _⟩
 rintro m σ ds A ⟨rfl,i,ov,him,s6,s5,s2,s1,hown,hEA⟩;have p1A:=zaa hEA p1;refine gz (az4 s6 s2 p1A yn0) ?_;refine wc0 ?_ ?_
 ·intro hlt;simp only[ydT]at hlt;have hi:i<N.roots.length:=by omega
  have hi0:=cj i;have hi1':=ci i;have hg:=zaa (hE0.trans (hE1.trans hEA)) (hgr i hi);rw[List.getElem_map]at hg;obtain⟨xz,rfl⟩:=yxs (zag (hgr 0 (by omega)));have hszA:=hEA.size;refine rqz ?_;intro gd K hgd hK;refine sgz (az2 (az7 s5 s6 s2 s1 p1A hi0 hlt) (az3 hg Nat.mul_one yn0)) ?_;refine⟨by kernel_rfl,?_⟩;rw[hnv,show bdV Tryz.prog 84 [(0,vi N.roots[i]),(1,.slice an (q.map vs).length cn)]=some (.agg #[vi N.roots[i],.slice an (q.map vs).length cn,vi 0,vi 0,.bool false,vi 0]) from by kernel_rfl,←hnv];try simp only[go_sem]
  refine zaR (C:=StN nv) (zba nv) (l:=stV nv ⟨N.roots[i],q,0,0,false,0⟩) (by rfl) (by rfl) (by rfl) (by rfl) ⟨rfl,h1⟩ (by decide) ?_;intro A2 hE7 hs7 ho7;try simp only[go_sem]
  refine zaG (zba nv) (hown.ext hE7) ho7.rows (by rfl) (by rfl) (by rfl) (by rfl) (by rfl) (by rfl) (by decide) ((vr1 s5)) vr0 (by simp;omega) (by decide) (by omega) ?_;intro ov' A3 ho8 hE8 hk8 _;try simp only[go_sem]
  apply hK;refine gz (az2 s6 hi1') ?_;refine⟨m - 1,by omega,rfl,i+1,ov',by omega,vq0,vq0,vq1 s2,vq1 s1,?_,hE8 w1 (hEA.trans hE7) (ynl _)⟩;rw[zal hi,List.map_append];exact ho8
 ·intro hge;simp only[ydF]at hge;rw[List.take_of_length_le (by omega)]at hown;repeat (first|refine c_r ?_| (refine zb7 (by rfl) ?_;intro gd K hgd hK;simp (disch:=first|omega|assumption|rfl) only[go_sem,s5];refine hK _ _ ?_;clear hK hgd;clear K gd))
  refine rt0 Tryz.ntmps85 ?_;have hE:=hE1.trans hEA;exact⟨hE,zc4 hown.rows (fun s hs=>by
   obtain⟨r,_,rfl⟩:=List.mem_map.1 hs;exact hq.ext hE),hown.blk.mono hE1.size⟩
theorem ziQ{w0 w:World}(hE0:Ext w0 w){cs:List Value}{N:NetL}(hN:NetAt w0 cs N)(hG:NetZ N){nv tv:Value}{s:zav}{to:Nm}(hr:Row w nv (s.name.map vs))(ht:Row w tv (to.map vs))(mt:NmM to)(b0:0<=s.rw)(b1:s.rw<=1000000):
  Fn Tryz.prog 142 #[.agg cs.toArray,.agg (stV nv s).toArray,tv] w (fun v w'=>Ext w w'/\Rows 6 (StC w') w' v (zeR N s to)/\BlkB w.heap.size w' v):=by
 have hN0:=hN;obtain⟨hv,rv,rfl,hh,hro⟩:=hN.ex;obtain⟨ah,ch,hhv,_⟩:=hh.open;have hro0:=hro;obtain⟨ar,cr,hrv,hcr,hgr⟩:=hro;simp only[ylm]at hcr hgr hrv;obtain⟨an,cn,hnv,_⟩:=id hr;have t1:=ht.isOne;have hrl:=hG.rl;obtain⟨at1,ct,htv,_⟩:=id ht;unfold stV;refine enter Tryz.func142 Tryz.ntmps142 rfl rfl ?_;repeat refine c_r ?_
 rw[hhv,hrv,hnv];refine rg0 ?_;rw[←hhv,←hrv,←hnv];repeat refine c_r ?_
 rw[zai];refine zaF ?_;intro w1 hE1 hs1 hB hA;have p2:zad w1 (some ⟨w.heap.size+1,2,.none⟩)=some (vi s.rw):=zab hA rfl;have q2:zad w1 (some ⟨w.heap.size,2,.none⟩)=some (vi N.rw):=zab hB rfl;have dA:zan w1 (some ⟨w.heap.size+1,0,.none⟩) 6=some (stV nv s):=zae hA rfl;repeat refine c_r ?_
 unfold zeR;by_cases hge:s.rw>=N.rw
 ·rw[if_pos hge];refine gz (az4 p2 q2 yn0 (yet hge)) ?_;refine wt trivial ?_;repeat refine c_r ?_
  refine rc dA (zb8 w1 (hr.ext hE1) s 7) ?_;rintro v w2 ⟨hE2,hv2,hvb⟩;refine re trivial ?_;repeat refine c_r ?_
  refine rt0 Tryz.ntmps142 ?_;exact⟨hE1.trans hE2,zc4 hv2 (fun x hx=>by rw[zbL hx];exact hr.ext (hE1.trans hE2)),hvb.mono hE1.size⟩
 rw[if_neg hge];refine gz (az4 p2 q2 yn0 (yef hge)) ?_;refine wf trivial ?_;refine rqz ?_;intro gd K hgd hK;refine sgz (az2 p2 yn0) ?_;refine zaU (P:=Tryz.prog) (t:=3) (j:=2) (u:=vi (s.rw+1)) (l:=stV nv s) hA (by show 2<6;decide) rfl rfl rfl ?_;intro w2 hs2 hA2 hk2;try simp only[go_sem]
 apply hK;refine rqz ?_;intro gd K hgd hK;try simp only[go_sem]
 refine zaU (P:=Tryz.prog) (t:=26) (j:=1) (u:=tv) hA2 (by show 1<6;decide) t1 rfl rfl ?_;intro w3 hs3 hA3 hk3;try simp only[go_sem]
 apply hK;refine rqz ?_;intro gd K hgd hK;try simp only[go_sem]
 refine zaU (P:=Tryz.prog) (t:=4) (j:=4) (u:= .bool false) hA3 (by show 4<6;decide) rfl rfl rfl ?_;intro w4 hs4 hA4 hk4;try simp only[go_sem]
 apply hK;obtain⟨s2,hs2e⟩:∃s2:zav,{s with rw:=s.rw+1,name:=to,ref:=false}=s2:=⟨_,rfl⟩;have hA4':w4.heap[w.heap.size+1]? =some (.cells (stV tv s2).toArray 84 (0,0)):=by rw[←hs2e];exact hA4
 have hE4:Ext w w4:=Keep.to_ext (Keep.to_ext (Keep.to_ext hE1 rfl (fun b hb=>by omega) hk2) rfl (fun b hb=>by omega) hk3) rfl (fun b hb=>by omega) hk4;have hB4:=(hk4.block _ (by omega) (by omega)).trans ((hk3.block _ (by omega) (by omega)).trans ((hk2.block _ (by omega) (by omega)).trans hB));have dN:zan w4 (some ⟨w.heap.size,0,.none⟩) 4=some [hv,rv,vi N.rw,vi N.rf]:=zae hB4 rfl;have r0:zad w4 (some ⟨w.heap.size+1,0,.none⟩)=some (vi s.sv):=by rw[←hs2e]at hA4';exact zab hA4' rfl
 have hE04:=hE0.trans hE4;have mn:s2.name=to:=by rw[←hs2e]
 rw[hs2e];repeat refine c_r ?_
 refine rc (an3 dN r0 Nat.add_zero) (zjK (s:=s.sv) hE04 hN0 hG (ht.ext hE4) mt) ?_;rintro _ w5 ⟨rfl,hE5⟩;refine re trivial ?_;have hE45:=hE4.trans hE5;have dS:zan w5 (some ⟨w.heap.size+1,0,.none⟩) 6=some (stV tv s2):=zac hE5 (zae hA4' rfl);have hA5:=Ext.at hE5 hA4';have p1:zad w5 (some ⟨w.heap.size,1,.none⟩)=some (.slice ar N.roots.length cr):=by rw[←hrv];exact zab (Ext.at hE5 hB4) rfl
 have hs5:=hE5.size;refine gz0 ?_;cases hb:(zbR N s.sv to).2 with
 |true=>
  rw[if_pos rfl];refine wt trivial ?_;refine rqz ?_;intro gd K hgd hK;refine sgz dS ?_;refine zaR (C:=StN tv) (zba tv) (l:=stV tv s2) (a:=s2) (by rfl) (by rfl) (by rfl) (by rfl) ⟨rfl,t1⟩ (by decide) ?_;intro w6 hE6 hs6 ho6;try simp only[go_sem]
  refine en hK ?_;refine rt0 Tryz.ntmps142 ?_;exact⟨hE45.trans hE6,zc4 ho6.rows (fun x hx=>by rw[List.mem_singleton.1 hx,mn];exact ht.ext (hE45.trans hE6)),ho6.blk.mono hE45.size⟩
 |false=>
  rw[if_neg Bool.false_ne_true];refine wf trivial ?_;refine gz0 ?_;obtain⟨b3,hb3⟩:∃b,w.heap.size+1=b:=⟨_,rfl⟩;rw[hb3]at hA5 dS ⊢;refine zao (fun m σ ds A=>ds=[]/\∃(i:Nat) (ov:Value) (s':zav),i+m=N.roots.length/\σ 10=vi i/\σ 9=ov/\σ 3= .pointer (some ⟨w.heap.size,0,.none⟩)/\σ 4= .pointer (some ⟨b3,0,.none⟩)/\A.heap[b3]? =some (.cells (stV tv s').toArray 84 (0,0))/\(∃k,s'={s2 with sv:=k})/\
   Owns 6 (StN tv) w5.heap.size A 84 ov ((N.roots.take i).map fun r=>{s2 with sv:=r})/\KeepB w5.heap.size (fun b=>b=b3) w5 A) N.roots.length ?_ ?_
  ·exact⟨rfl,0,.slice .none 0 0,s2,by omega,vr0,vr0,vr0,vr0,hA5,⟨s2.sv,rfl⟩,Owns.nil _ _ _ _ _,KeepB.refl _ _ _⟩
  rintro m σ ds A ⟨rfl,i,ov,s',him,s10,s9,s3,s4,hB3,⟨k0,hs'⟩,hown,hKA⟩;have hszA:=hKA.size;have hEA:Ext w A:=Keep.to_ext hE45 rfl (fun b hb=>by omega) hKA.keep;have p1A:zad A (some ⟨w.heap.size,1,.none⟩)=some (.slice ar N.roots.length cr):=by
   rw[←hrv];exact zab ((hKA.keep.block _ (by omega) (by omega)).trans (Ext.at hE5 hB4)) rfl
  refine gz (az4 s10 s3 p1A yn0) ?_;refine wc0 ?_ ?_
  ·intro hlt;simp only[ydT]at hlt;have hi:i<N.roots.length:=by omega
   have hi0:=cj i;have hi1':=ci i;have hg:=zaa (hE0.trans hEA) (hgr i hi);rw[List.getElem_map]at hg;obtain⟨xz,rfl⟩:=yxs (zag (hgr 0 (by omega)));refine rqz ?_;intro gd K hgd hK;refine sgz (az2 (az7 s10 s3 s4 p1A hi0 hlt hg) (az2 Nat.mul_one yn0)) ?_;refine zaU (P:=Tryz.prog) (t:=3) (j:=0) (u:=vi N.roots[i]) (l:=stV tv s') hB3 (by show 0<6;decide) rfl rfl rfl ?_;intro A1 hs6 hB1 hk1;try simp only[go_sem]
   apply hK;have hB1':A1.heap[b3]? =some (.cells (stV tv {s2 with sv:=N.roots[i]}).toArray 84 (0,0)):=by rw[hs']at hB1;exact hB1
   have d:zan A1 (some ⟨b3,0,.none⟩) 6=some (stV tv {s2 with sv:=N.roots[i]}):=zae hB1' rfl;have hown1:=hown.keep hk1 (fun b hb hb2=>by have:=(hown.ge hb).1;omega);refine rqz ?_;intro gd K hgd hK;refine sgz (az3 s9 s4 d) ?_;refine zaR (C:=StN tv) (zba tv) (l:=stV tv {s2 with sv:=N.roots[i]}) (by rfl) (by rfl) (by rfl) (by rfl) ⟨rfl,t1⟩ (by decide) ?_;intro A2 hE7 hs7 ho7;try simp only[go_sem]
   refine zaG (zba tv) (hown1.ext hE7) ho7.rows (by rfl) (by rfl) (by rfl) (by rfl) (by rfl) (by rfl) (by decide) ((vr1 s9)) vr0 (by simp;omega) (by decide) (by omega) ?_;intro ov' A3 ho8 hE8 hk8 _;try simp only[go_sem]
   apply hK;have hsz3:=hk8.size;refine gz (az2 s10 hi1') ?_;refine⟨m - 1,by omega,rfl,i+1,ov',{s2 with sv:=N.roots[i]},by omega,vq0,vq0,vq1 s3,vq1 s4,?_,⟨_,rfl⟩,?_,?_⟩
   ·refine(hk8.block _ (by omega) (fun hb=>?_)).trans (Ext.at hE7 hB1');have:=(hown1.ge hb).1;omega
   ·rw[zal hi,List.map_append];exact ho8
   ·refine hKA.trans ((hk1.toB hszA fun i _ h=>h).trans ((hE7.toB (by omega) fun i _ h=>h.elim).trans (hk8.toB (by omega) fun i h1 h2=>?_)));have:=(hown1.ge h2).1;omega
  ·intro hge2;simp only[ydF]at hge2;rw[List.take_of_length_le (by omega)]at hown;repeat (first|refine c_r ?_| (refine zb7 (by rfl) ?_;intro gd K hgd hK;simp (disch:=first|omega|assumption|rfl) only[go_sem,s9];refine hK _ _ ?_;clear hK hgd;clear K gd))
   refine rt0 Tryz.ntmps142 ?_;exact⟨hEA,zc4 hown.rows (fun x hx=>by
    obtain⟨k,_,rfl⟩:=List.mem_map.1 hx;show Row _ _ (s2.name.map vs);rw[mn];exact ht.ext hEA),hown.blk.mono hE45.size⟩
def zcN(to:Nm)(l:List (Nm×List DatL)):List DatL:=l.foldl (fun b g=>if zaq g.1=zaq to then g.2 else b) []
def zfD(N:NetL)(r:ResL)(s:zav)(h:Nm):List zav:=((zec N h (zcN h r.glue)).map fun k=>{s with sv:=k,ref:=true})++(if ((zec N h (zcN h r.glue)).length:Int)=0 then endS s 9 else [])
def zhq(N:NetL)(s:zav)(r:ResL):List zav:=if s.rf>=N.rf then endS s 8 else(r.data.filterMap fun d=>d.names.head?).flatMap (zfD N r {s with rf:=s.rf+1})
theorem zj7{to:Nm}{l:List (Nm×List DatL)}:zcN to l=[]\/∃g∈l,zcN to l=g.2:=by
 unfold zcN
 suffices h:∀(l:List (Nm×List DatL)) (b:List DatL),l.foldl (fun b g=>if zaq g.1=zaq to then g.2 else b) b=b\/∃g∈l,l.foldl (fun b g=>if zaq g.1=zaq to then g.2 else b) b=g.2 from h l []
 intro l
 induction l with
 |nil=>exact fun b=> .inl rfl
 |cons x l ih=>
  intro b;rw[List.foldl_cons]
  split
  ·rcases ih x.2 with h| ⟨g,hg,h⟩
   ·exact .inr ⟨x,List.mem_cons_self ..,h⟩
   ·exact .inr ⟨g,List.mem_cons_of_mem _ hg,h⟩
  ·rcases ih b with h| ⟨g,hg,h⟩
   ·exact .inl h
   ·exact .inr ⟨g,List.mem_cons_of_mem _ hg,h⟩
theorem ziD{to:Nm}{l:List (Nm×List DatL)}{i:Nat}(hi:i<l.length):zcN to (l.take (i+1))=if zaq l[i].1=zaq to then l[i].2 else zcN to (l.take i):=by
 unfold zcN;rw[zal hi,List.foldl_append]
 rfl
theorem zlu{N:NetL}{r:ResL}{s x:zav}{h:Nm}(hx:x∈zfD N r s h):x.name=s.name:=by
 unfold zfD at hx;rcases List.mem_append.1 hx with h|h
 ·obtain⟨k,_,rfl⟩:=List.mem_map.1 h;rfl
 ·split at h
  ·exact zbL h
  ·cases h
theorem zh7{w0 w:World}(hE0:Ext w0 w){cs cr:List Value}{N:NetL}{r:ResL}(hN:NetAt w0 cs N)(hG:NetZ N){nv:Value}{s:zav}(hr:Row w nv (s.name.map vs))(hres:ResAt w0 w cr r)(kr:zkt r)(kl:r.data.length<=1000)(hne:∀d∈r.data,∃n l,d.names=n::l/\NmM n)(b0:0<=s.rf)(b1:s.rf<=1000000):
  Fn Tryz.prog 143 #[.agg cs.toArray,.agg (stV nv s).toArray,.agg cr.toArray] w (fun v w'=>Ext w w'/\Rows 6 (StC w') w' v (zhq N s r)/\BlkB w.heap.size w' v):=by
 have hN0:=hN;obtain⟨hv,rv,rfl,hh,hro⟩:=hN.ex;obtain⟨ah,ch,hhv,_⟩:=hh.open;obtain⟨ar,cr1,hrv,_⟩:=id hro;obtain⟨an,cn,hnv,_⟩:=id hr;have n1:=hr.isOne;obtain⟨dv,qv,gv,rfl,hd,hq,hg⟩:=hres.ex;obtain⟨ad,cd,rfl,hcd,hgd2⟩:=hd.open;obtain⟨aq,cq,hqv,_⟩:=id hq;obtain⟨ag,cg,rfl,hcg,hgg⟩:=hg.open;have gl:=kr.gl;unfold stV;refine enter Tryz.func143 Tryz.ntmps143 rfl rfl ?_;repeat refine c_r ?_
 rw[hhv,hrv,hnv,hqv];refine rg0 ?_;rw[←hhv,←hrv,←hnv,←hqv];repeat refine c_r ?_
 rw[zai,zai,zai];refine zcz ?_;intro w1 hE1 hs1 hA hB hC;have p3:zad w1 (some ⟨w.heap.size+1,3,.none⟩)=some (vi s.rf):=zab hB rfl;have q3:zad w1 (some ⟨w.heap.size,3,.none⟩)=some (vi N.rf):=zab hA rfl;have dB:zan w1 (some ⟨w.heap.size+1,0,.none⟩) 6=some (stV nv s):=zae hB rfl;repeat refine c_r ?_
 unfold zhq;by_cases hge:s.rf>=N.rf
 ·rw[if_pos hge];refine gz (az4 p3 q3 yn0 (yet hge)) ?_;refine wt trivial ?_;repeat refine c_r ?_
  refine rc dB (zb8 w1 (hr.ext hE1) s 8) ?_;rintro v w2 ⟨hE2,hv2,hvb⟩;refine re trivial ?_;repeat refine c_r ?_
  refine rt0 Tryz.ntmps143 ?_;exact⟨hE1.trans hE2,zc4 hv2 (fun x hx=>by rw[zbL hx];exact hr.ext (hE1.trans hE2)),hvb.mono hE1.size⟩
 rw[if_neg hge];refine gz (az4 p3 q3 yn0 (yef hge)) ?_;refine wf trivial ?_;refine rqz ?_;intro gd K hgd hK;refine sgz (az2 p3 yn0) ?_;refine zaU (P:=Tryz.prog) (t:=3) (j:=3) (u:=vi (s.rf+1)) (l:=stV nv s) hB (by show 3<6;decide) rfl rfl rfl ?_;intro w2 hs2 hB2 hk2;try simp only[go_sem]
 apply hK;obtain⟨s2,hs2e⟩:∃s2:zav,{s with rf:=s.rf+1}=s2:=⟨_,rfl⟩;have hB2':w2.heap[w.heap.size+1]? =some (.cells (stV nv s2).toArray 84 (0,0)):=by rw[←hs2e];exact hB2
 have hE2:Ext w w2:=Keep.to_ext hE1 rfl (fun b hb=>by omega) hk2;have hC2:=(hk2.block _ (by omega) (by omega)).trans hC;have hA2:=(hk2.block _ (by omega) (by omega)).trans hA;have mn:s2.name=s.name:=by rw[←hs2e]
 rw[hs2e];have dN:zan w2 (some ⟨w.heap.size,0,.none⟩) 4=some [hv,rv,vi N.rw,vi N.rf]:=zae hA2 rfl;have dS:zan w2 (some ⟨w.heap.size+1,0,.none⟩) 6=some (stV nv s2):=zae hB2' rfl;have c1:zad w2 (some ⟨w.heap.size+1+1,1,.none⟩)=some (.slice ad r.data.length cd):=zab hC2 rfl;have c4:zad w2 (some ⟨w.heap.size+1+1,4,.none⟩)=some (.slice ag r.glue.length cg):=zab hC2 rfl;clear hA hB hC hA2 hB2 hB2' hC2 hk2 p3 q3 dB;refine gz0 ?_;obtain⟨b4,hb4⟩:∃b,w.heap.size+1=b:=⟨_,rfl⟩;have hs2':=hE2.size;rw[hb4]at dS c1 c4 ⊢;refine zao (fun m σ ds A=>ds=[]/\∃(i:Nat) (ov:Value) (l:List zav),i+m=r.data.length/\σ 8=vi i/\σ 7=ov/\σ 3= .pointer (some ⟨w.heap.size,0,.none⟩)/\σ 4= .pointer (some ⟨b4,0,.none⟩)/\σ 5= .pointer (some ⟨b4+1,0,.none⟩)/\l=((r.data.take i).filterMap fun d=>d.names.head?).flatMap (zfD N r s2)/\l.length<=i*1001/\
  Owns 6 (StN nv) w2.heap.size A 84 ov l/\Ext w2 A) r.data.length ?_ ?_
 ·exact⟨rfl,0,.slice .none 0 0,[],by omega,vr0,vr0,vr0,vr0,vr0,rfl,ynl _,Owns.nil _ _ _ _ _,Keep.refl _ _⟩
 rintro m σ ds A ⟨rfl,i,ov,l,him,s8,s7,s3,s4,s5,hl,hll,hown,hEA⟩;have c1A:=zaa hEA c1;refine gz (az4 s8 s5 c1A yn0) ?_;refine wc0 ?_ ?_
 ·intro hlt;simp only[ydT]at hlt;have hi:i<r.data.length:=by omega
  have hi0:=cj i;have hi1':=ci i;have hz0:=cj 0;obtain⟨c3,hc3,hD⟩:=hgd2 i hi;obtain⟨nm,nu,tx,rw',rfl,hnm,_,_,_⟩:=hD.ex;obtain⟨hn,hnl,hne1,hnm1⟩:=hne _ (List.getElem_mem hi);obtain⟨vals,⟨an2,cn2,rfl,hcn2,hgn2⟩,hvl,hvr⟩:=hnm;rw[hne1]at hvl;simp only[List.length_cons]at hvl;have hv0:0<vals.length:=by omega
  obtain⟨tv,htv⟩:∃v,vals[0]=v:=⟨_,rfl⟩;have hrow:Row w0 tv (hn.map vs):=by
   have:=hvr 0 hv0 (by rw[hne1];simp);simp only[hne1,List.getElem_cons_zero]at this
   rwa [htv]at this
  have hvlt:(0:Int)<(vals.length:Int):=by omega
  obtain⟨xz,rfl⟩:=yxs (zak hc3);obtain⟨xi,hxi⟩:∃xi,adr (some xz) (i*5)=some xi:=⟨_,rfl⟩;obtain⟨x1,hx1⟩:∃x,adr (some xi) 1=some x:=⟨_,rfl⟩;rw[hxi]at hc3;have hwA:=hE2.trans hEA;have k1:zad A (some x1)=some (.slice an2 vals.length cn2):=by
   have:=zah (j:=1) hc3 rfl;rw[hx1]at this;exact zaa hwA this
  have k0:=zaa (hE0.trans hwA) (hgn2 0 hv0);obtain⟨xn,rfl⟩:=yxs (zag k0);rw[htv,zaj]at k0;refine rqz ?_;intro gd K hgd hK;simp (disch:=first|omega|assumption|rfl) only[go_sem,s8,s5,c1A,yn0,hi0,hlt,hxi,hx1,k1,hz0,hvlt,Int.toNat_zero,Nat.zero_mul,zaj,k0];refine hK _ _ ?_;clear hK hgd;clear K gd;refine gz0 ?_;refine zao (fun m σ ds B=>ds=[]/\∃(j:Nat) (kv:Value),j+m=r.glue.length/\σ 11=vi j/\σ 10=kv/\Rows 5 (DatAt w0) w kv (zcN hn (r.glue.take j))/\σ 9=tv/\σ 8=vi i/\σ 7=ov/\σ 3= .pointer (some ⟨w.heap.size,0,.none⟩)/\σ 4= .pointer (some ⟨b4,0,.none⟩)/\σ 5= .pointer (some ⟨b4+1,0,.none⟩)/\Ext A B) r.glue.length ?_ ?_
  ·exact⟨rfl,0,.slice .none 0 0,by omega,vr0,vr0,Rows.nil _ _ _,vr0,vq1 s8,vq1 s7,vq1 s3,vq1 s4,vq1 s5,Keep.refl _ _⟩
  clear s8 s7 s3 s4 s5;rintro m2 σ ds B ⟨rfl,j,kv,hjm,s11,s10,hkv,s9,s8,s7,s3,s4,s5,hAB⟩;have c4B:=zaa (hEA.trans hAB) c4;have hwB:=hwA.trans hAB;refine gz (az4 s11 s5 c4B yn0) ?_;refine wc0 ?_ ?_
  ·intro hlt2;simp only[ydT]at hlt2;have hj:j<r.glue.length:=by omega
   have hj0:=cj j;have hj1':=ci j;obtain⟨c5,hc5,gh,gd2,rfl,hgh1,hgd3⟩:=hgg j hj;have mg:=(kr.g _ (List.getElem_mem hj)).1;obtain⟨yz,rfl⟩:=yxs (zak hc5);obtain⟨yi,hyi⟩:∃xi,adr (some yz) (j*2)=some xi:=⟨_,rfl⟩;obtain⟨y1,hy1⟩:∃x,adr (some yi) 1=some x:=⟨_,rfl⟩;rw[hyi]at hc5;have g0:zad B (some yi)=some gh:=by
    have:=zah (j:=0) (zac hwB hc5) rfl
    rwa [zaj]at this
   have g1:zad B (some y1)=some gd2:=by
    have:=zah (j:=1) (zac hwB hc5) rfl
    rwa [hy1]at this
   have htk:=ziD (to:=hn) hj;have mgl:=mg.len;have hml:=hnm1.len;repeat refine c_r ?_
   refine rc (an9 s5 c4B s11 hj0 hlt2 hyi (an2 zaj g0) s9 yn0) (zb2 B gh tv r.glue[j].1 hn (hgh1.ext (hE0.trans hwB)) (hrow.ext (hE0.trans hwB)) mg.lb hnm1.LB (by omega) (by omega)) ?_;rintro _ C ⟨rfl,hBC⟩;refine re trivial ?_;repeat refine c_r ?_
   refine zaw (Q:=fun e σ' ds' C'=>e= .normal/\ds'=[]/\C'=C/\σ' 11=vi j/\(∃kv',σ' 10=kv'/\Rows 5 (DatAt w0) w kv' (zcN hn (r.glue.take (j+1))))/\σ' 9=tv/\σ' 8=vi i/\σ' 7=ov/\σ' 3= .pointer (some ⟨w.heap.size,0,.none⟩)/\σ' 4= .pointer (some ⟨b4,0,.none⟩)/\σ' 5= .pointer (some ⟨b4+1,0,.none⟩)) ?_ ?_
   ·have c4C:=zaa hBC c4B;have g1C:=zaa hBC g1;by_cases hsm:zaq r.glue[j].1=zaq hn
    ·rw[if_pos hsm]at htk;refine wt (yet hsm) ?_;refine gz (az2 (az7 s5 c4C s11 hj0 hlt2 hyi hy1) (az2 g1C yn0)) ?_;exact⟨rfl,rfl,rfl,vq1 s11,⟨gd2,vr0,by rw[htk];exact hgd3⟩,vq1 s9,vq1 s8,vq1 s7,vq1 s3,vq1 s4,vq1 s5⟩
    ·rw[if_neg hsm]at htk;refine wf (yef hsm) ?_;repeat refine c_r ?_
     exact⟨rfl,rfl,rfl,vq1 s11,⟨kv,vq1 s10,by rw[htk];exact hkv⟩,vq1 s9,vq1 s8,vq1 s7,vq1 s3,vq1 s4,vq1 s5⟩
   clear s11 s10 s9 s8 s7 s3 s4 s5;rintro _ σ1 _ _ ⟨rfl,rfl,hCe,s11,⟨kv',s10,hkv'⟩,s9,s8,s7,s3,s4,s5⟩;subst hCe;refine gz (az2 s11 hj1') ?_;exact⟨m2 - 1,by omega,rfl,j+1,kv',by omega,vq0,vq1 s10,hkv',vq1 s9,vq1 s8,vq1 s7,vq1 s3,vq1 s4,vq1 s5,hAB.trans hBC⟩
  intro hge2;simp only[ydF]at hge2;rw[List.take_of_length_le (by omega)]at hkv;clear s11 hge2 hjm;obtain⟨H,hH⟩:∃H,zcN hn r.glue=H:=⟨_,rfl⟩;have hHl:H.length<=1000000000:=by
   rw[←hH];rcases zj7 (to:=hn) (l:=r.glue) with h| ⟨g,hg',h⟩
   ·rw[h];exact Nat.zero_le _
   ·rw[h];exact(kr.g g hg').2.2
  rw[hH]at hkv;have dNB:=zac (hEA.trans hAB) dN;repeat refine c_r ?_
  refine rc (an4 s3 dNB s9 s10) (zms (hE0.trans hwB) hN0 hG (hrow.ext (hE0.trans hwB)) hnm1 (hkv.ext hwB) hHl) ?_;rintro mv C ⟨hBC,hmv,hmb⟩;refine re trivial ?_;obtain⟨M,hM⟩:∃M,zec N hn H=M:=⟨_,rfl⟩;have hMl:M.length<=1000:=by
   rw[←hM];have h1:=zdc (p:=zbF hn H) (l:=N.hosts) (i:=0);have h2:=hG.hl;show(zcK (zbF hn H) 0 N.hosts).length<=1000;omega
  rw[hM]at hmv;have hmv0:=hmv;obtain⟨am,cm,rfl,hcm,hgm⟩:=hmv;simp only[ylm]at hcm hgm s10;have hAC:=hAB.trans hBC;have hown1:=hown.ext hAC;refine gz0 ?_;refine zao (fun m σ ds D=>ds=[]/\∃(j:Nat) (ov':Value),j+m=M.length/\σ 13=vi j/\σ 12= .slice am M.length cm/\σ 8=vi i/\σ 7=ov'/\σ 3= .pointer (some ⟨w.heap.size,0,.none⟩)/\σ 4= .pointer (some ⟨b4,0,.none⟩)/\σ 5= .pointer (some ⟨b4+1,0,.none⟩)/\
   Owns 6 (StN nv) w2.heap.size D 84 ov' (l++(M.take j).map fun k=>{s2 with sv:=k,ref:=true})/\Ext w2 D/\(∀b,some b=ov'.ownBlock->b<B.heap.size\/C.heap.size<=b)/\KeepB C.heap.size (fun b=>b<B.heap.size) C D) M.length ?_ ?_
  ·refine⟨rfl,0,ov,by omega,vr0,by first| (simp only[go_sem,ylm];done)| (simp only[go_sem,ylm];rfl),vq1 s8,vq1 s7,vq1 s3,vq1 s4,vq1 s5,by rw[List.take_zero,List.map_nil,List.append_nil];exact hown1,hEA.trans hAC,fun b hb=>?_,KeepB.refl _ _ _⟩;have:=(hown.ge hb).2;have:=hAB.size;exact .inl (by omega)
  clear s10 s9 s8 s7 s3 s4 s5;rintro m3 σ ds D ⟨rfl,j,ov',hjm,s13,s12,s8,s7,s3,s4,s5,hownD,hED,hobD,hKD⟩;have hwD:=hE2.trans hED;have hszD:=hKD.size;have hBs:=hBC.size;refine gz (az2 s13 s12) ?_;refine wc0 ?_ ?_
  ·intro hlt3;simp only[ydT]at hlt3;have hj:j<M.length:=by omega
   have hj0:=cj j;have hj1':=ci j;have dSD:=zac hED dS;refine rqz ?_;intro gd K hgd hK;refine sgz (az2 s4 dSD) ?_;refine za3 (P:=Tryz.prog) (l:=stV nv s2) rfl (zbs n1) rfl rfl ?_;intro D1 hE6 hs6 hB6;try simp only[go_sem]
   apply hK;obtain⟨d0,hd0⟩:∃b,D.heap.size=b:=⟨_,rfl⟩;rw[hd0]at hB6 hs6 ⊢;have hKD1:=hKD.trans (hE6.toB hszD fun i _ h=>h.elim);have hgj:zad D1 (adr am j)=some (vi M[j]):=by
    have hrD:=hmv0.blocks (x:=D1) fun a n c hv=>hKD1.keep.block _ (hmb a n c hv).2 (by have:=(hmb a n c hv).1;omega);obtain⟨a',c',e,_,hg'⟩:=hrD;injection e with e1 e2 e3
    subst e1;have:=hg' j (by simpa using hj)
    rwa [List.getElem_map]at this
   obtain⟨xm,rfl⟩:=yxs (zag hgj);refine rqz ?_;intro gd K hgd hK;refine sgz (az7 s12 s13 hj0 hlt3 hgj Nat.mul_one Nat.add_zero) ?_;refine zaU (P:=Tryz.prog) (t:=3) (j:=0) (u:=vi M[j]) (l:=stV nv s2) hB6 (by show 0<6;decide) rfl rfl rfl ?_;intro D2 hs7 hB7 hk7;try simp only[go_sem]
   apply hK;refine rqz ?_;intro gd K hgd hK;try simp only[go_sem]
   refine zaU (P:=Tryz.prog) (t:=4) (j:=4) (u:= .bool true) hB7 (by show 4<6;decide) rfl rfl rfl ?_;intro D3 hs8 hB8 hk8;try simp only[go_sem]
   apply hK;have hB8':D3.heap[d0]? =some (.cells (stV nv {s2 with sv:=M[j],ref:=true}).toArray 84 (0,0)):=hB8;have d:zan D3 (some ⟨d0,0,.none⟩) 6=some (stV nv {s2 with sv:=M[j],ref:=true}):=zae hB8' rfl;have hE3:Ext D D3:=Keep.to_ext (Keep.to_ext hE6 rfl (fun b hb=>by omega) hk7) rfl (fun b hb=>by omega) hk8;have hsD3:=hE3.size;have hsED:=hED.size;refine rqz ?_;intro gd K hgd hK;refine sgz (az2 s7 d) ?_;refine zaR (C:=StN nv) (zba nv) (l:=stV nv {s2 with sv:=M[j],ref:=true}) (by rfl) (by rfl) (by rfl) (by rfl) ⟨rfl,n1⟩ (by decide) ?_;intro D4 hE9 hs9 ho9;have hsD4:=hE9.size;try simp only[go_sem]
   refine zaG (zba nv) (hownD.ext (hE3.trans hE9)) ho9.rows (by rfl) (by rfl) (by rfl) (by rfl) (by rfl) (by rfl) (by decide) ((vr1 s7)) vr0 (by simp;omega) (by decide) (by omega) ?_;intro ov2 D5 ho10 hE10 hk10 hob10;try simp only[go_sem]
   apply hK;have hsz4:=(hE3.trans hE9).size;refine gz (az2 s13 hj1') ?_;refine⟨m3 - 1,by omega,rfl,j+1,ov2,by omega,vq0,vq1 s12,vq1 s8,vq0,vq1 s3,vq1 s4,vq1 s5,?_,?_,?_,?_⟩
   ·rw[zal hj,List.map_append,←yla];exact ho10
   ·exact hE10 w2 (hED.trans (hE3.trans hE9)) (ynl _)
   ·intro b hb;rcases hob10 b hb with h|h
    ·exact hobD b h
    ·exact .inr (by omega)
   ·refine hKD.trans (((hE3.trans hE9).toB hszD fun i _ h=>h.elim).trans (hk10.toB (by omega) fun i h1 h2=>?_));rcases hobD i h2 with h|h
    ·exact h
    ·omega
  intro hge3;simp only[ydF]at hge3;rw[List.take_of_length_le (by omega)]at hownD;have hhost:zfD N r s2 hn=(M.map fun k=>{s2 with sv:=k,ref:=true})++(if (M.length:Int)=0 then endS s2 9 else []):=by unfold zfD;rw[hH,hM]
  have hnx:((r.data.take (i+1)).filterMap fun d=>d.names.head?).flatMap (zfD N r s2)=l++zfD N r s2 hn:=by
   rw[zal hi,List.filterMap_append,List.flatMap_append,←hl];simp[hne1]
  have hnl2:(l++zfD N r s2 hn).length<=(i+1)*1001:=by
   rw[List.length_append,hhost,List.length_append,ylm];have:(if (M.length:Int)=0 then endS s2 9 else []).length<=1:=by split<;>simp[endS]
   omega
  clear s13 hge3 hjm;refine gz s12 ?_;by_cases hm0:(M.length:Int)=0
  ·rw[if_pos hm0]at hhost;refine wt (yet hm0) ?_;have dSD:=zac hED dS;refine rqz ?_;intro gd K hgd hK;refine sgz (az2 s4 dSD) ?_;refine za3 (P:=Tryz.prog) (l:=stV nv s2) rfl (zbs n1) rfl rfl ?_;intro D1 hE6 hs6 hB6;try simp only[go_sem]
   apply hK;obtain⟨d0,hd0⟩:∃b,D.heap.size=b:=⟨_,rfl⟩;rw[hd0]at hB6 hs6 ⊢;refine rqz ?_;intro gd K hgd hK;try simp only[go_sem]
   refine zaU (P:=Tryz.prog) (t:=3) (j:=5) (u:=vi 9) (l:=stV nv s2) hB6 (by show 5<6;decide) rfl rfl rfl ?_;intro D2 hs7 hB7 hk7;try simp only[go_sem]
   apply hK;have d:zan D2 (some ⟨d0,0,.none⟩) 6=some (stV nv {s2 with fin:=9}):=zae hB7 rfl;have hE3:Ext D D2:=Keep.to_ext hE6 rfl (fun b hb=>by omega) hk7;have hsD3:=hE3.size;have hsED:=hED.size;refine rqz ?_;intro gd K hgd hK;refine sgz (az2 s7 d) ?_;refine zaR (C:=StN nv) (zba nv) (l:=stV nv {s2 with fin:=9}) (by rfl) (by rfl) (by rfl) (by rfl) ⟨rfl,n1⟩ (by decide) ?_;intro D4 hE9 hs9 ho9;have hsD4:=hE9.size;try simp only[go_sem]
   refine zaG (zba nv) (hownD.ext (hE3.trans hE9)) ho9.rows (by rfl) (by rfl) (by rfl) (by rfl) (by rfl) (by rfl) (by decide) ((vr1 s7)) vr0 (by simp;omega) (by decide) (by omega) ?_;intro ov2 D5 ho10 hE10 hk10 hob10;try simp only[go_sem]
   apply hK;refine gz (az2 s8 hi1') ?_;refine⟨m - 1,by omega,rfl,i+1,ov2,_,by omega,vq0,vq0,vq1 s3,vq1 s4,vq1 s5,hnx.symm,hnl2,?_,hE10 w2 (hED.trans (hE3.trans hE9)) (ynl _)⟩;rw[hhost,←yla];exact ho10
  ·rw[if_neg hm0,List.append_nil]at hhost;refine wf (yef hm0) ?_;refine gz (az2 s8 hi1') ?_;refine⟨m - 1,by omega,rfl,i+1,ov',_,by omega,vq0,vq1 s7,vq1 s3,vq1 s4,vq1 s5,hnx.symm,hnl2,?_,hED⟩;rw[hhost];exact hownD
 ·intro hge2;simp only[ydF]at hge2;rw[List.take_of_length_le (by omega)]at hl;have hE:=hE2.trans hEA;repeat (first|refine c_r ?_| (refine zb7 (by rfl) ?_;intro gd K hgd hK;simp (disch:=first|omega|assumption|rfl) only[go_sem,s7];refine hK _ _ ?_;clear hK hgd;clear K gd))
  refine rt0 Tryz.ntmps143 ?_;rw[←hl];refine⟨hE,zc4 hown.rows (fun x hx=>?_),hown.blk.mono hE2.size⟩;rw[hl]at hx;obtain⟨h,_,hx⟩:=List.mem_flatMap.1 hx;rw[zlu hx,mn];exact hr.ext hE
def zlr(N:NetL)(s:zav)(t:Int):List zav:=
 if s.fin=0 then
  (if (askN N s.sv s.name t).kind=1 then endS s 1 else if (askN N s.sv s.name t).kind=2 then endS s 2 else if (askN N s.sv s.name t).kind=3 then endS s 3 else if (askN N s.sv s.name t).kind=6 then endS s 4
  else if (askN N s.sv s.name t).kind=7 then(if s.ref=true then endS s 6 else endS s 5) else if (askN N s.sv s.name t).kind=5 then zeR N s (askN N s.sv s.name t).name else zhq N s (askN N s.sv s.name t))
 else []
def LeadD(r:ResL):Prop:=r.kind≠1->r.kind≠2->r.kind≠3->r.kind≠6->r.kind≠7->r.kind≠5->∀d∈r.data,∃n l,d.names=n::l/\NmM n
theorem zia{w0 w:World}(hE0:Ext w0 w){cs sc:List Value}{N:NetL}{s:zav}{t:Int}(hN:NetAt w0 cs N)(hG:NetZ N)(hs:StC w sc s)(bs:StB s)(hLD:LeadD (askN N s.sv s.name t)):
  Fn Tryz.prog 87 #[.agg cs.toArray,.agg sc.toArray,vi t] w (fun v w'=>Ext w w'/\Rows 6 (StC w') w' v (zlr N s t)/\BlkB w.heap.size w' v):=by
 have hN0:=hN;obtain⟨hv,rv,rfl,hh,hro⟩:=hN.ex;obtain⟨nv,rfl,hr⟩:=hs.ex;obtain⟨ah,ch,hhv,_⟩:=hh.open;obtain⟨ar,cr,hrv,_⟩:=id hro;obtain⟨an,cn,hnv,_⟩:=id hr;unfold stV;refine enter Tryz.func87 Tryz.ntmps87 rfl rfl ?_;repeat refine c_r ?_
 rw[hhv,hrv,hnv];refine rg0 ?_;rw[←hhv,←hrv,←hnv];repeat refine c_r ?_
 rw[zai];refine zaF ?_;intro w1 hE1 hs1 hA hB;have p5:zad w1 (some ⟨w.heap.size+1,5,.none⟩)=some (vi s.fin):=zab hB rfl;have p0:zad w1 (some ⟨w.heap.size+1,0,.none⟩)=some (vi s.sv):=zab hB rfl;have p1:zad w1 (some ⟨w.heap.size+1,1,.none⟩)=some nv:=zab hB rfl;have p4:zad w1 (some ⟨w.heap.size+1,4,.none⟩)=some (.bool s.ref):=zab hB rfl;have dN:zan w1 (some ⟨w.heap.size,0,.none⟩) 4=some [hv,rv,vi N.rw,vi N.rf]:=zae hA rfl;have dS:zan w1 (some ⟨w.heap.size+1,0,.none⟩) 6=some (stV nv s):=zae hB rfl;repeat refine c_r ?_
 unfold zlr;by_cases hf:s.fin=0
 rotate_left
 ·rw[if_neg hf];refine rg3 p5 yn0 (yef hf) ?_;repeat refine c_r ?_
  refine wt Bool.not_false ?_;repeat (first|refine c_r ?_|refine rg0 ?_)
  refine rt0 Tryz.ntmps87 ?_;exact⟨hE1,Rows.nil _ _ _,BlkB.nil⟩
 rw[if_pos hf];refine rg3 p5 yn0 (yet hf) ?_;repeat refine c_r ?_
 refine wf Bool.not_true ?_;repeat refine c_r ?_
 refine rq ?_;intro gd K hgd hK;try simp (disch:=first|omega|assumption|rfl) only[go_sem,dN,p0,p1,Nat.add_zero,yn0]
 refine Fn.mono (RAsk_ok (s:=s.sv) (t:=t) (hE0.trans hE1) hN0 hG (hr.ext hE1) bs.nm) ?_;rintro _ w2 ⟨hE2,cs,rfl,hra⟩;have hF:=ask_F (s:=s.sv) (t:=t) hG bs.nm;have hcl:cs.length=5/\∀v∈cs,one v=true:=by
  obtain⟨dv,mv,gv,rfl,h1,h2,h3⟩:=hra.ex;exact⟨rfl,ones5 h1.isOne h2.isOne h3.isOne⟩
 try simp only[go_sem]
 refine za3 (P:=Tryz.prog) (l:=cs) (by rw[hcl.1];rfl) hcl.2 (by rw[hcl.1];rfl) rfl ?_;intro w3 hE3 hs3 hB3;try simp only[go_sem]
 refine hK _ _ ?_;clear hK hgd;clear K;try clear gd
 obtain⟨r,hre⟩:∃r,askN N s.sv s.name t=r:=⟨_,rfl⟩;rw[hre]at hra hF hLD ⊢;have hra3:=hra.ext hE3;have d3:=zae (n:=5) hB3 hcl.1.symm;obtain⟨b,hb⟩:∃b,w2.heap.size=b:=⟨_,rfl⟩;rw[hb]at hB3 d3 ⊢;have hE23:=hE2.trans hE3;have hE13:=hE1.trans hE23;have hE03:=hE0.trans hE13;have dN3:=zac hE23 dN;have dS3:=zac hE23 dS;have p43:=zaa hE23 p4;clear hra p5 p0 p1 p4 dN dS;have k0:zad w3 (some ⟨b,0,.none⟩)=some (vi r.kind):=by
  obtain⟨dv,mv,gv,e,_⟩:=hra3.ex;rw[e]at hB3;exact zab hB3 rfl
 have hrn:=hr.ext hE13;repeat refine c_r ?_
 refine rg2 k0 Nat.add_zero ?_;repeat refine c_r ?_
 by_cases k1:r.kind=1
 ·rw[if_pos k1];refine rg1 (yet k1) ?_;repeat refine c_r ?_
  refine wt trivial ?_;repeat refine c_r ?_
  refine rc dS3 (zb8 w3 hrn s 1) ?_;rintro v w4 ⟨hE4,hv,hvb⟩;refine re trivial ?_;repeat refine c_r ?_
  refine rt0 Tryz.ntmps87 ?_;exact⟨hE13.trans hE4,zc4 hv (fun x hx=>by rw[zbL hx];exact hrn.ext hE4),hvb.mono hE13.size⟩
 rw[if_neg k1];refine rg1 (yef k1) ?_;repeat refine c_r ?_
 refine wf trivial ?_;repeat refine c_r ?_
 by_cases k2:r.kind=2
 ·rw[if_pos k2];refine rg1 (yet k2) ?_;repeat refine c_r ?_
  refine wt trivial ?_;repeat refine c_r ?_
  refine rc dS3 (zb8 w3 hrn s 2) ?_;rintro v w4 ⟨hE4,hv,hvb⟩;refine re trivial ?_;repeat refine c_r ?_
  refine rt0 Tryz.ntmps87 ?_;exact⟨hE13.trans hE4,zc4 hv (fun x hx=>by rw[zbL hx];exact hrn.ext hE4),hvb.mono hE13.size⟩
 rw[if_neg k2];refine rg1 (yef k2) ?_;repeat refine c_r ?_
 refine wf trivial ?_;repeat refine c_r ?_
 by_cases k3:r.kind=3
 ·rw[if_pos k3];refine rg1 (yet k3) ?_;repeat refine c_r ?_
  refine wt trivial ?_;repeat refine c_r ?_
  refine rc dS3 (zb8 w3 hrn s 3) ?_;rintro v w4 ⟨hE4,hv,hvb⟩;refine re trivial ?_;repeat refine c_r ?_
  refine rt0 Tryz.ntmps87 ?_;exact⟨hE13.trans hE4,zc4 hv (fun x hx=>by rw[zbL hx];exact hrn.ext hE4),hvb.mono hE13.size⟩
 rw[if_neg k3];refine rg1 (yef k3) ?_;repeat refine c_r ?_
 refine wf trivial ?_;repeat refine c_r ?_
 by_cases k6:r.kind=6
 ·rw[if_pos k6];refine rg1 (yet k6) ?_;repeat refine c_r ?_
  refine wt trivial ?_;repeat refine c_r ?_
  refine rc dS3 (zb8 w3 hrn s 4) ?_;rintro v w4 ⟨hE4,hv,hvb⟩;refine re trivial ?_;repeat refine c_r ?_
  refine rt0 Tryz.ntmps87 ?_;exact⟨hE13.trans hE4,zc4 hv (fun x hx=>by rw[zbL hx];exact hrn.ext hE4),hvb.mono hE13.size⟩
 rw[if_neg k6];refine rg1 (yef k6) ?_;repeat refine c_r ?_
 refine wf trivial ?_;repeat refine c_r ?_
 by_cases k7:r.kind=7
 ·rw[if_pos k7];refine rg1 (yet k7) ?_;repeat refine c_r ?_
  refine wt trivial ?_;repeat refine c_r ?_
  refine rg2 p43 yn0 ?_;repeat refine c_r ?_
  cases hrf:s.ref with
  |true=>
   rw[hrf]at p43;rw[if_pos rfl];refine wt hrf ?_;repeat refine c_r ?_
   refine rc dS3 (zb8 w3 hrn s 6) ?_;rintro v w4 ⟨hE4,hv,hvb⟩;refine re trivial ?_;repeat refine c_r ?_
   refine rt0 Tryz.ntmps87 ?_;exact⟨hE13.trans hE4,zc4 hv (fun x hx=>by rw[zbL hx];exact hrn.ext hE4),hvb.mono hE13.size⟩
  |false=>
   rw[if_neg Bool.false_ne_true];refine wf hrf ?_;repeat refine c_r ?_
   refine rc dS3 (zb8 w3 hrn s 5) ?_;rintro v w4 ⟨hE4,hv,hvb⟩;refine re trivial ?_;repeat refine c_r ?_
   refine rt0 Tryz.ntmps87 ?_;exact⟨hE13.trans hE4,zc4 hv (fun x hx=>by rw[zbL hx];exact hrn.ext hE4),hvb.mono hE13.size⟩
 rw[if_neg k7];refine rg1 (yef k7) ?_;repeat refine c_r ?_
 refine wf trivial ?_;repeat refine c_r ?_
 by_cases k5:r.kind=5
 ·rw[if_pos k5];obtain⟨dv,mv,gv,e,_,hnm,_⟩:=hra3.ex;have q2:zad w3 (some ⟨b,2,.none⟩)=some mv:=by rw[e]at hB3;exact zab hB3 rfl
  refine rg1 (yet k5) ?_;repeat refine c_r ?_
  refine wt trivial ?_;repeat refine c_r ?_
  refine rc (an4 dN3 dS3 q2 yn0) (ziQ hE03 hN0 hG hrn hnm (zei (hF.nm k5)).m bs.rw0 bs.rw1) ?_;rintro v w4 ⟨hE4,hv,hvb⟩;refine re trivial ?_;repeat refine c_r ?_
  refine rt0 Tryz.ntmps87 ?_;exact⟨hE13.trans hE4,hv,hvb.mono hE13.size⟩
 rw[if_neg k5];refine rg1 (yef k5) ?_;repeat refine c_r ?_
 refine wf trivial ?_;repeat refine c_r ?_
 refine rc (an3 dN3 dS3 d3) (zh7 hE03 hN0 hG hrn hra3 hF.ok hF.dl (hLD k1 k2 k3 k6 k7 k5) bs.rf0 bs.rf1) ?_;rintro v w4 ⟨hE4,hv,hvb⟩;refine re trivial ?_;repeat refine c_r ?_
 refine rt0 Tryz.ntmps87 ?_;exact⟨hE13.trans hE4,hv,hvb.mono hE13.size⟩
theorem StC.cells{w:World}{cs:List Value}{s:zav}(h:StC w cs s):cs.length=6/\∀v∈cs,one v=true:=by
 obtain⟨nv,rfl,h1⟩:=h.ex;exact⟨rfl,zbs h1.isOne⟩
def zcD(l:List (Nm×List DatL)):Prop:=∀a∈l,∀b∈l,zaq a.1=zaq b.1->a.2=b.2
theorem zdR{to:Nm}:∀{l:List (Nm×List DatL)} {b:List DatL},(∀g∈l,zaq g.1=zaq to->g.2=b)->l.foldl (fun b g=>if zaq g.1=zaq to then g.2 else b) b=b
 | [],_,_=>rfl
 |g::l,b,h=>by
  rw[List.foldl_cons];by_cases e:zaq g.1=zaq to
  ·rw[if_pos e,h g (List.mem_cons_self ..) e];exact zdR fun x hx=>h x (List.mem_cons_of_mem _ hx)
  ·rw[if_neg e];exact zdR fun x hx=>h x (List.mem_cons_of_mem _ hx)
theorem zjp{to:Nm}:∀{l:List (Nm×List DatL)},zcD l->zcN to l=zcm to l
 | [],_=>rfl
 |g::l,h=>by
  unfold zcN zcm;rw[List.foldl_cons];by_cases e:zaq g.1=zaq to
  ·rw[if_pos e,if_pos e];exact zdR fun x hx h3=>h x (List.mem_cons_of_mem _ hx) g (List.mem_cons_self ..) (h3.trans e.symm)
  ·rw[if_neg e,if_neg e];exact zjp fun a ha b hb=>h a (List.mem_cons_of_mem _ ha) b (List.mem_cons_of_mem _ hb)
theorem host_D{N:NetL}{r:ResL}{s:zav}{h:Nm}(hd:zcD r.glue):zfD N r s h=zdQ N r s h:=by
 unfold zfD zdQ ofR;rw[zjp hd];by_cases e:((zec N h (zcm h r.glue)).length:Int)=0
 ·have e2:zec N h (zcm h r.glue)=[]:=List.eq_nil_of_length_eq_zero (by omega);rw[if_pos e,e2];simp
 ·rw[if_neg e,List.append_nil,List.nil_append]
theorem refer_D{N:NetL}{r:ResL}{s:zav}(hd:zcD r.glue):zhq N s r=zfo N s r:=by
 unfold zhq zfo
 split
 ·rfl
 ·rw[show zaz 2 r.data=r.data.filterMap (fun d=>d.names.head?) from rfl]
  congr 1
  exact funext fun h=>host_D hd
theorem next_D{N:NetL}{s:zav}{t:Int}(hk:(askN N s.sv s.name t).kind=1\/(askN N s.sv s.name t).kind=2\/(askN N s.sv s.name t).kind=3\/(askN N s.sv s.name t).kind=4\/(askN N s.sv s.name t).kind=5\/(askN N s.sv s.name t).kind=6\/(askN N s.sv s.name t).kind=7)
  (hd:zcD (askN N s.sv s.name t).glue):zlr N s t=zfA N s t:=by
 unfold zlr zfA;rw[refer_D hd]
 split
 ·rcases hk with h|h|h|h|h|h|h<;>simp[h]
 ·rfl
def zdp(r:ResL):Prop:=r.kind=1\/r.kind=2\/r.kind=3\/r.kind=4\/r.kind=5\/r.kind=6\/r.kind=7
theorem zh1{R:List RecL}{n:Nm}{t:Int}{b:Bool}:zdp (atL R n t b):=by
 unfold atL zdp
 split
 ·simp
 ·split<;>simp
theorem zhI{o:Nm}{R:List RecL}{q:Nm}:∀{l:List Nm} {r:ResL},goL o R q l=some r->zdp r
 | [],r,h=>by cases h
 |n::l,r,h=>by
  unfold goL at h
  split at h
  ·cases h;exact .inr (.inr (.inr (.inl rfl)))
  ·split at h
   ·cases h
   ·cases hr:zaE R q n with
    |none=>rw[hr]at h;exact zhI h
    |some x=>
     rw[hr]at h;cases h;unfold zaE at hr
     split at hr
     ·cases hr
     ·split at hr
      ·cases hr;unfold zdp;simp
      ·cases hr;unfold zdp;simp
theorem zlw{o:Nm}{R:List RecL}{q:Nm}{t:Int}:zdp (za1 o R q t):=by
 unfold za1
 split
 ·unfold zdp;simp
 ·cases hg:goL o R q (za8 o q) with
  |some r=>
   dsimp only
   exact zhI hg
  |none=>
   dsimp only
   split
   ·exact zh1
   ·cases hs:zaW o R q with
    |some s=>
     dsimp only
     exact zh1
    |none=>
     dsimp only
     unfold zdp;simp
theorem zjF{N:NetL}{s:Int}{q:Nm}{t:Int}:zdp (askN N s q t):=by
 unfold askN
 split
 ·cases (N.zones s)[(zbR N s q).1.toNat]? with
  |some z=>exact zlw
  |none=>unfold zdp;simp
 ·unfold zdp;simp
theorem zlQ{R:List RecL}{a b:Nm}(h:zaq a=zaq b):zbe R a=zbe R b:=by
 unfold zbe;rw[←zeg (n:=a),←zeg (n:=b),←zeg (n:=a),←zeg (n:=b),h]
theorem zdd:zcD []:=fun a h=>by cases h
theorem one_of{R:List RecL}{hs:List Nm}:zcD (zbA R hs):=by
 have key:∀x∈zbA R hs,x.2=zbe R x.1:=fun x hx=>by
  obtain⟨n,_,hn⟩:=List.mem_filterMap.1 hx
  split at hn
  ·cases hn
  ·cases hn;rfl
 intro a ha b hb h;rw[key a ha,key b hb,zlQ h]
theorem at_one{R:List RecL}{n:Nm}{t:Int}{b:Bool}:zcD (atL R n t b).glue:=by
 unfold atL
 split
 ·exact zdd
 ·split<;>exact zdd
theorem go_one{o:Nm}{R:List RecL}{q:Nm}:∀{l:List Nm} {r:ResL},goL o R q l=some r->zcD r.glue
 | [],r,h=>by cases h
 |n::l,r,h=>by
  unfold goL at h
  split at h
  ·cases h;exact one_of
  ·split at h
   ·cases h
   ·cases hr:zaE R q n with
    |none=>rw[hr]at h;exact go_one h
    |some x=>
     rw[hr]at h;cases h;unfold zaE at hr
     split at hr
     ·cases hr
     ·split at hr
      ·cases hr;exact zdd
      ·cases hr;exact zdd
theorem look_one{o:Nm}{R:List RecL}{q:Nm}{t:Int}:zcD (za1 o R q t).glue:=by
 unfold za1
 split
 ·exact zdd
 ·cases hg:goL o R q (za8 o q) with
  |some r=>
   dsimp only
   exact go_one hg
  |none=>
   dsimp only
   split
   ·exact at_one
   ·cases hs:zaW o R q with
    |some s=>
     dsimp only
     exact at_one
    |none=>
     dsimp only
     exact zdd
theorem ask_one{N:NetL}{s:Int}{q:Nm}{t:Int}:zcD (askN N s q t).glue:=by
 unfold askN
 split
 ·cases (N.zones s)[(zbR N s q).1.toNat]? with
  |some z=>exact look_one
  |none=>exact zdd
 ·exact zdd
theorem zlq{N:NetL}{s:zav}{t:Int}:zlr N s t=zfA N s t:=next_D zjF ask_one
theorem zlP{o:Nm}{R:List RecL}{q:Nm}:∀{l:List Nm} {r:ResL},goL o R q l=some r->r.kind=4->∃c,r.data=datC R c 2
 | [],r,h,_=>by cases h
 |n::l,r,h,h4=>by
  unfold goL at h
  split at h
  ·cases h;exact⟨n,rfl⟩
  ·split at h
   ·cases h
   ·cases hr:zaE R q n with
    |none=>rw[hr]at h;exact zlP h h4
    |some x=>
     rw[hr]at h;cases h;unfold zaE at hr
     split at hr
     ·cases hr
     ·split at hr
      ·cases hr;cases h4
      ·cases hr;cases h4
theorem zlv{o:Nm}{R:List RecL}{q:Nm}{t:Int}(h4:(za1 o R q t).kind=4):∃c,(za1 o R q t).data=datC R c 2:=by
 have atN:∀{n:Nm} {b:Bool},(atL R n t b).kind≠4:=fun {n b} h=>by
  unfold atL at h
  split at h
  ·cases h
  ·split at h<;>cases h
 unfold za1 at h4 ⊢
 split at h4
 ·cases h4
 ·rename_i hu;rw[if_neg hu];cases hg:goL o R q (za8 o q) with
  |some r=>
   rw[hg]at h4;exact zlP hg h4
  |none=>
   rw[hg]at h4
   dsimp only at h4
   split at h4
   ·exact absurd h4 atN
   ·cases hs:zaW o R q with
    |some s=>
     rw[hs]at h4;exact absurd h4 atN
    |none=>
     rw[hs]at h4;cases h4
theorem zjE{N:NetL}(hG:NetZ N){s:Int}{q:Nm}{t:Int}(mq:NmM q):LeadD (askN N s q t):=by
 intro h1 h2 h3 h6 h7 h5 d hd;have h4:(askN N s q t).kind=4:=by
  rcases zjF (N:=N) (s:=s) (q:=q) (t:=t) with h|h|h|h|h|h|h<;>first|exact h|exact absurd h ‹_›
 have hF:=ask_F (s:=s) (t:=t) hG mq;have hh:d.names≠ []:=by
  unfold askN at h4 hd
  split at h4
  ·rename_i hb;rw[if_pos hb]at hd;cases hz:(N.zones s)[(zbR N s q).1.toNat]? with
   |none=>rw[hz]at h4;cases h4
   |some z=>
    rw[hz]at h4 hd;obtain⟨c,hc⟩:=zlv h4
    dsimp only at hd
    rw[hc]at hd;have gz:=(zbT hG).1 z (List.mem_of_getElem? hz);obtain⟨r,hr,hrd⟩:=zdB hd;have hl:=gz.gd.lead r hr (by rw[hrd,zeA hd];exact .inl rfl);intro hn;rw[hrd,hn]at hl;cases hl
  ·cases h4
 cases hn:d.names with
 |nil=>exact absurd hn hh
 |cons n l=>
  refine⟨n,l,rfl,hF.tg n ?_⟩;show n∈(askN N s q t).data.filterMap fun d=>d.names.head?;exact List.mem_filterMap.2 ⟨d,hd,by rw[hn];rfl⟩
theorem zha{w0 w:World}(hE0:Ext w0 w){cs:List Value}{N:NetL}{qv cv:Value}{q:Nm}{ch:List Int}{t:Int}(hN:NetAt w0 cs N)(hG:zby N)(hq:Row w qv (q.map vs))(hgq:zbX q=true)(hcv:Row w cv (ch.map vi))(hchl:ch.length<=1000000000):
  Fn Tryz.prog 41 #[.agg cs.toArray,qv,vi t,cv] w (fun v w'=>Ext w w'/\∃nv,v= .tuple #[.agg (stV nv (zcJ N q t ch).1).toArray,.bool (zcJ N q t ch).2]/\Row w' nv ((zcJ N q t ch).1.name.map vs)):=by
 have hN0:=hN;obtain⟨hsv,rv,rfl,hh,hr⟩:=hN.ex;obtain⟨ah,ch0,hhv,_⟩:=hh.open;obtain⟨ar0,cr0,hrv,_⟩:=id hr;obtain⟨ac,cc,rfl,hgc⟩:=zgg hcv;refine enter Tryz.func41 Tryz.ntmps41 rfl rfl ?_;repeat refine c_r ?_
 rw[hhv,hrv];refine go trivial ?_;rw[←hhv,←hrv];rw[zai];refine zaF ?_;intro w1 hE1 hs1 hA hB8;obtain⟨b8,hb8⟩:∃b,w.heap.size+1=b:=⟨_,rfl⟩;rw[hb8]at hB8 ⊢;have dN:zan w1 (some ⟨w.heap.size,0,.none⟩) 4=some [hsv,rv,vi N.rw,vi N.rf]:=zae hA rfl;refine go trivial ?_;refine rc dN (zgz (hE0.trans hE1) hN0 hG.z.rl (hq.ext hE1)) ?_;rintro sv0 w2 ⟨hE2,hst0,_⟩;have hE12:=hE1.trans hE2;have dN2:=zac hE2 dN;have hB2:=Ext.at hE2 hB8;refine rgo trivial ?_;refine rq ?_;intro gd K hgd hK;try simp only[go_sem]
 refine⟨by kernel_rfl,?_⟩;have zbd:bdV Tryz.prog 84 []=some (.agg #[vi 0,.slice .none 0 0,vi 0,vi 0,.bool false,vi 0]):=by kernel_rfl
 rw[zbd];try simp only[go_sem]
 refine za3 (P:=Tryz.prog) (l:=stV (.slice .none 0 0) stZ) rfl (zbs rfl) rfl rfl ?_;intro w3 hE3 hs3 hB3;try simp only[go_sem]
 apply hK;obtain⟨b7,hb7⟩:∃b,w2.heap.size=b:=⟨_,rfl⟩;rw[hb7]at hB3 ⊢;refine go trivial ?_;obtain⟨F,hF⟩:∃F,zbi N t ch (zcd N q)=F:=⟨_,rfl⟩;have hpl:zcJ N q t ch=F.getLastD (stZ,false):=by unfold zcJ;rw[hF]
 have hwz:=hE1.size;have h12:=hE2.size;have hgc2:∀i (hi:i<ch.length),∃x,ac=some x/\zad w2 (adr (some x) i)=some (vi ch[i]):=fun i hi=>by
  obtain⟨x,h1,h2⟩:=hgc i hi;exact⟨x,h1,zaa hE12 h2⟩
 refine zh4 ch.length (fun i σ v=>(σ 13=vi i/\σ 3= .slice ac ch.length cc/\σ 4= .pointer (some ⟨w.heap.size,0,.none⟩)/\σ 2=vi t/\σ 8= .pointer (some ⟨b8,0,.none⟩)/\σ 11= .pointer (some ⟨b7,0,.none⟩))/\
   ∃sv L aS nS cS S ok pre,σ 10=sv/\σ 12= .bool ok/\Ext w2 v/\Rows 6 (StC v) v sv L/\(∀s∈L,GoodSt N s)/\v.heap[b7]? =some (.cells (stV (.slice aS nS cS) S).toArray 84 (0,0))/\Row v (.slice aS nS cS) (S.name.map vs)/\F=pre++zbi N t (ch.drop i) L/\pre.getLastD (stZ,false)=(S,ok)) ?_ ?_ ?_
 ·exact⟨⟨vr0,vq0,vq0,vq0,vq0,vr0⟩,sv0,zcd N q,.none,0,0,stZ,false,[],vr0,vr0,hE3,Rows.extC (fun _ _ h=>StC.ext h hE3) hst0 hE3,zfk hG hgq,hB3,⟨.none,0,rfl,ynl _,fun j h=>by simp[stZ]at h⟩,hF.symm,rfl⟩
 ·rintro i σ v hi p ⟨s,sv,L,aS,nS,cS,S0,ok,pre,h10,h12,hEv,hL,hgL,hBv,hnv0,hFe,hlast⟩;obtain⟨aL,cS',rfl,_,hgs⟩:=hL.open;obtain⟨xp,rfl,g6⟩:=hgc2 i hi;have gp:=zaa hEv g6;obtain⟨c,hc⟩:∃c,ch[i]=c:=⟨_,rfl⟩;have hdr:ch.drop i=c::ch.drop (i+1):=by rw[←hc];exact List.drop_eq_getElem_cons hi
  rw[hc]at gp;rw[hdr]at hFe;refine go (an2 s p) ?_;by_cases hb:c<0\/(L.length:Int)<=c
  ·rw[zft hb]at hFe;have hB8v:=Ext.at hEv hB2;have fin:∀{σ':Sto},σ' 8= .pointer (some ⟨b8,0,.none⟩)->σ' 37= .bool true->True:=fun _ _=>trivial;refine zaw (Q:=fun e σ' ds' v'=>e= .normal/\ds'=[]/\v'=v/\(σ' 8= .pointer (some ⟨b8,0,.none⟩)/\σ' 37= .bool true)) ?_ ?_
   ·by_cases hc0:c<0
    ·refine rgg [(5,29)] (an4 s p gp (yet hc0)) ?_;exact⟨rfl,rfl,rfl,vq1 s,vr0⟩
    ·have hd:decide (c>=(L.length:Int))=true:=yet (hb.resolve_left hc0);refine rgg [(5,29)] (an6 s p gp h10 (yef hc0) hd) ?_;exact⟨rfl,rfl,rfl,vq1 s,vr0⟩
   clear s;rintro _ σ1 _ v1 ⟨rfl,rfl,rfl,s⟩;refine go s ?_;refine rq ?_;intro gd K hgd hK;refine sgz s ?_;refine⟨by kernel_rfl,?_⟩;rw[zbd];refine sgz s ?_;refine zaD (P:=Tryz.prog) (t:=84) (l:=stV (.slice .none 0 0) stZ) hB8v rfl (zbs rfl) rfl rfl ?_;intro v2 hs2v hB hk2;try simp only[go_sem]
   apply hK;refine go trivial ?_;refine zat (.inr rfl) Tryz.ntmps41 rfl (zaI (x:=⟨b8,0,.none⟩) (k:=6) ((vq1 s)) rfl rfl (zae hB rfl) (zam (v:= .bool false) vr0 zap)) ?_;have hpl2:zcJ N q t ch=(stZ,false):=by rw[hpl,hFe];simp[List.getLastD_eq_getLast?]
   rw[hpl2];exact⟨Keep.to_ext (hE12.trans hEv) rfl (fun b hb=>by omega) hk2,_,rfl,⟨.none,0,rfl,ynl _,fun j h=>by simp[stZ]at h⟩⟩
  ·obtain⟨k,rfl⟩:=Int.eq_ofNat_of_zero_le (show 0<=c by omega);have hkL:k<L.length:=by omega
   rw[zfu hkL]at hFe;have hc0:decide ((k:Int)<0)=false:=yef (by omega);have hd:decide ((k:Int)>=(L.length:Int))=false:=yef (by omega);have hk0:=cj k;have hk1:(k:Int)<(L.length:Int):=by omega
   refine rgg [(5,29)] (an6 s p gp h10 hc0 hd) ?_;refine go trivial ?_;obtain⟨cs6,hcs,hX⟩:=hgs k hkL;have hmem:=List.getElem_mem hkL;obtain⟨S,hSe⟩:∃S,L[k]=S:=⟨_,rfl⟩;rw[hSe]at hX hmem hFe;obtain⟨nv,rfl,hnm⟩:=hX.ex;obtain⟨an,cn,hnv,_⟩:=id hnm;obtain⟨xs,rfl⟩:=yxs (zak hcs);obtain⟨xi,hxi⟩:∃xi,adr (some xs) (k*6)=some xi:=⟨_,rfl⟩;rw[hxi]at hcs;have n1:=hnm.isOne;have gS:=hgL S hmem;refine rq ?_;intro gd K hgd hK;refine sgz (az2 (az7 s p h10 gp hk0 hk1 hxi) hcs) ?_;refine zaD (P:=Tryz.prog) (t:=84) (l:=stV nv S) hBv rfl (zbs n1) rfl rfl ?_;intro v2 hs2v hB hk2;try simp only[go_sem]
   apply hK;have hEv2:Ext w2 v2:=Keep.to_ext hEv rfl (fun b hb=>by omega) hk2;have hnm2:=zis hBv hnm hk2;have dS:zan v2 (some ⟨b7,0,.none⟩) 6=some (stV nv S):=zae hB rfl;refine go trivial ?_;refine rc (an3 s (zac hEv2 dN2) dS) (zia (t:=t) (hE0.trans (hE12.trans hEv2)) hN0 hG.z ⟨nv,rfl,hnm2⟩ (gS.b hG) (zjE hG.z (zcb gS.nm).m)) ?_;rintro sv4 v4 ⟨hE4v,hR4,_⟩;rw[zlq]at hR4;refine rgo (an2 s p) ?_;have hB4:=Ext.at hE4v hB;have hn4:=hnm2.ext hE4v;rw[hnv]at hB4 hn4;exact⟨rfl,sc (an2 s p),sv4,_,_,_,_,S,true,pre++ [(S,true)],vr0,vr0,hEv2.trans hE4v,hR4,fun x hx=>(zji hG gS hx).2.g,hB4,hn4,by rw[hFe,yla];rfl,by simp[List.getLastD_eq_getLast?]⟩
 ·rintro σ v p ⟨s,sv,L,aS,nS,cS,S0,ok,pre,h10,h12,hEv,hL,hgL,hBv,hnv0,hFe,hlast⟩;rw[List.drop_length]at hFe;have hFp:F=pre:=by rw[hFe];simp[zbi]
  have hpl2:zcJ N q t ch=(S0,ok):=by rw[hpl,hFp,hlast]
  rw[hpl2];have dS:zan v (some ⟨b7,0,.none⟩) 6=some (stV (.slice aS nS cS) S0):=zae hBv rfl;have hB8v:=Ext.at hEv hB2;refine go (an3 s p h12) ?_;unfold stV at dS;refine rq ?_;intro gd K hgd hK;refine sgz (az3 s h12 dS) ?_;refine zaD (P:=Tryz.prog) (t:=84) (l:=stV (.slice aS nS cS) S0) hB8v rfl (zbs rfl) rfl rfl ?_;intro v2 hs2v hB hk2;try simp only[go_sem]
  apply hK;have hn2:=zis (s:=stZ) hB8v hnv0 hk2;refine go trivial ?_;refine zat (.inr rfl) Tryz.ntmps41 rfl (zaI (x:=⟨b8,0,.none⟩) (k:=6) ((vq1 s)) rfl rfl (zae hB rfl) (zam (v:= .bool ok) vr0 zap)) ?_;exact⟨Keep.to_ext (hE12.trans hEv) rfl (fun b hb=>by omega) hk2,_,rfl,hn2⟩
theorem zfs{N:NetL}{t:Int}(hG:zby N):∀{ch:List Int} {L:List zav},(∀s∈L,GoodSt N s)->∀x∈zbi N t ch L,(x.2=true->GoodSt N x.1)/\(x.2=false->x.1=stZ)
 | [],L,_,x,hx=>by cases hx
 |c::cs,L,hL,x,hx=>by
  unfold zbi at hx;have hz:∀x,x∈ [(stZ,false)]->(x.2=true->GoodSt N x.1)/\(x.2=false->x.1=stZ):=fun x h=>by
   rw[List.mem_singleton.1 h];exact⟨fun h=>by (cases h),fun _=>rfl⟩
  split at hx
  ·exact hz x hx
  ·split at hx
   ·rename_i s hs;have hg:=hL s (List.mem_of_getElem? hs);rcases List.mem_cons.1 hx with rfl|hx
    ·exact⟨fun _=>hg,fun h=>by (cases h)⟩
    ·exact zfs hG (fun y hy=>(zji hG hg hy).2.g) x hx
   ·exact hz x hx
end Go.Proofs.YtahbdamijngmmaaGreat
