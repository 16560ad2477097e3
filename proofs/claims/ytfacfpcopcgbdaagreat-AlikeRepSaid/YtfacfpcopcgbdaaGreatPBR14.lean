/-
  Texts of a proof, joined.
  Conditions: none.
-/
import Derived.Test.YtfacfpcopcgbdaaGreatPBR12
import Derived.Test.YtfacfpcopcgbdaaGreatPBR13
import Derived.Laws.RangeAny
import Derived.Laws.Cover4
import Derived.Laws.Runes
set_option linter.all false
set_option maxRecDepth 20000
set_option maxHeartbeats 8000000
namespace Go.Proofs.YtfacfpcopcgbdaaGreat
open Go Tryz
variable {w w0 w1 W0 x A:World}{v u lv nv:Value}{cs l:List Value}{B k b i j c m cap:Nat}{t e:TypeId}{a:Option Addr}{S C:Nat->Prop}{q n o:Nm}{N:NetL}
theorem kX_good:zbQ kX=true:=by kernel_rfl
def zeC(N:NetL)(q:Nm)(t:Int):List (Int×List Int):=if 4096<(zeq N q t).length then [] else zi5 (zeq N q t)
def numR(N:NetL)(q:Nm)(t:Int):Nat:=if 4096<(zeq N q t).length then 0 else(zeq N q t).length
def errR(N:NetL)(q:Nm)(t:Int):Int:=if 4096<(zeq N q t).length then 11 else 0
theorem zlQ{t:Int}(hN:zaO N)(hq:zbQ q=true)(h:errR N q t=0):Shut N t q (zeq N q t)/\zeC N q t=zi5 (zeq N q t):=by
 unfold errR at h;unfold zeC
 split at h
 ·cases h
 ·rename_i hl;rw[if_neg hl];exact⟨znE hN hq oM,rfl⟩
theorem znI{t:Int}(h:errR N q t≠0):zeC N q t=[]:=by
 unfold errR at h;unfold zeC
 split at h
 ·rename_i hl;rw[if_pos hl]
 ·exact absurd rfl h
theorem errR_err{t:Int}(h:zeC N q t≠ []):errR N q t=0:=Decidable.byContradiction λ h0=>h (znI h0)
theorem zi4(N:NetL)(q:Nm)(t:Int):(zeC N q t).length<=9:=by
 unfold zeC
 split
 ·simp
 ·exact znH _
theorem zg3(hE0:Ext w0 w){qv:Value}{t:Int}(hN:NetAt w0 cs N)(hG:zaO N)(hq:Row w qv (q.map vs))(hgq:zbQ q=true):
  Fn prog 25 #[.agg cs.toArray,qv,vi t] w (λ v w'=>Ext w w'/\∃ev,v= .tuple #[ev,vi (numR N q t),vi (errR N q t)]/\Rows 2 (EndAt w') w' ev (zeC N q t)):=by
 refine yfm (zma (t:=t) hE0 hN hG hq hgq) ?_;rintro v x ⟨hE,(⟨h1,rfl⟩| ⟨h1,ev,rfl,h2⟩)⟩
 ·unfold numR errR zeC;rw[if_pos h1,if_pos h1,if_pos h1];exact⟨hE,_,rfl,Rows.nil _ _ _⟩
 ·unfold numR errR zeC;rw[if_neg oM,if_neg oM,if_neg oM];exact⟨hE,_,rfl,h2⟩
def EndG(w:World)(a:Option Addr)(E:List (Int×List Int)):Prop:=∀i (hi:i<E.length),∃xa x x1 ap cp,a=some xa/\adr (some xa) (i*2)=some x/\adr (some x) 0=some x/\adr (some x) 1=some x1/\zad w (some x)=some (vi E[i].1)/\zad w (some x1)=some (.slice ap E[i].2.length cp)/\
 Row w (.slice ap E[i].2.length cp) (E[i].2.map vi)/\∀j (hj:j<E[i].2.length),∃xp,ap=some xp/\zad w (adr (some xp) j)=some (vi E[i].2[j])
instance Tr.ends{a:Option Addr}{E:List (Int×List Int)}:Tr fun w=>EndG w a E:=⟨fun hE h i hi=>by
 obtain⟨xa,x,x1,ap,cp,e0,e1,e2,e3,g0,g1,hr,hg⟩:=h i hi
 exact⟨xa,x,x1,ap,cp,e0,e1,e2,e3,zaa hE g0,zaa hE g1,hr.ext hE,fun j hj=>by
  obtain⟨xp,e,g⟩:=hg j hj
  exact⟨xp,e,zaa hE g⟩⟩⟩
theorem row_at{kd:IntKind}{ps:List Int}(h:Row w v (ps.map (.int kd))):∃a c,v= .slice a ps.length c/\∀i (hi:i<ps.length),∃x,a=some x/\zad w (adr (some x) i)=some (.int kd ps[i]):=by
 obtain⟨a,c,rfl,_,hg⟩:=h;refine⟨a,c,by rw[ylm],λ i hi=>?_⟩;have g:=hg i (by rw[ylm];exact hi);rw[yaA]at g;obtain⟨x,rfl⟩:=yxs (zaf g);exact⟨x,rfl,g⟩
section
variable {P : Program} {w : World} {B : Nat}
end
section
variable {P : Program} {d : Option Tmp} {ty : TypeId} {ps : String} {af : Array Edge} {g : Option (Nat × Bool)} {ρ : Operand -> Value} {w : World} {K K2 : Value -> World -> Prop} {α : Type} {k : Nat} {C : List Value -> α -> Prop}
end
namespace P_en
theorem EqualFunc_ok{α:Type}{C D:List Value->α->Prop}{uv vv:Value}{xs ys:List α}{g:FuncId}{p:α->α->Bool}(hC:zdD 2 C)(hD:zdD 2 D)(hx:Rows 2 C w uv xs)(hy:Rows 2 D w vv ys)(hcal:zaD prog g=true)
  (hcall:∀(A:World) (cs ds:List Value) (x y:α),Ext w A->x∈xs->y∈ys->C cs x->D ds y->Fn prog g #[.agg cs.toArray,.agg ds.toArray] A (λ v A'=>v= .bool (p x y)/\Ext A A')) (hxl:xs.length<=1000000000) (hyl:ys.length<=1000000000):
  Fn prog 53 #[uv,vv,.func (.func g) #[] #[]] w (λ v w'=>v= .bool (zg5 p xs ys)/\Ext w w'):=by
 obtain⟨ax,cx,rfl,hcx,hgx⟩:=hx.open;obtain⟨ay,cy,rfl,hcy,hgy⟩:=hy.open;refine enx func53 ntmps53 ?_;refine gz0 ?_;refine wc0 ?_ ?_
 ·intro hne;simp only[yao,ydF]at hne;refine gz0 ?_;refine rt0 ntmps53 ?_;exact⟨by rw[zi1 oM],Keep.refl _ _⟩
 intro heq;simp only[yaw,ydT]at heq;have hlen:xs.length=ys.length:=oM;refine gz0 ?_;refine zan (λ m σ ds A=>ds=[]/\∃(i:Nat),i+m=xs.length/\σ 17=vi i/\σ 16=vi xs.length/\σ 15= .slice ax xs.length cx/\σ 1= .slice ay ys.length cy/\σ 2= .func (.func g) #[] #[]/\Ext w A/\zg5 p xs ys=zg5 p (xs.drop i) (ys.drop i)) xs.length ?_ ?_
 ·exact⟨rfl,0,oM,vr0,vr0,vq0,vq0,vq0,Keep.refl _ _,rfl⟩
 rintro m σ ds A ⟨rfl,i,him,h17,h16,h15,h1,h2,hEA,hinv⟩;refine gz (az2 h17 h16) ?_;refine wc0 ?_ ?_
 ·intro hlt;simp only[ydT]at hlt;have hix:i<xs.length:=oM;have hiy:i<ys.length:=oM;have hi0:=cj i;have hi1:(i:Int)<(xs.length:Int):=oM;have hi2:(i:Int)<(ys.length:Int):=oM;have hi1':=ci i;obtain⟨cs,hcs,hCx⟩:=hgx i hix;obtain⟨es,hes,hDy⟩:=hgy i hiy;obtain⟨zx,rfl⟩:=yxs (zak hcs);obtain⟨zy,rfl⟩:=yxs (zak hes);have d1:=zac hEA hcs;refine rqz ?_;intro gd K hgd hK;refine sgz (az5 h15 h17 hi0 hi1 d1) ?_;refine zaL (P:=prog) (t:=78) (l:=cs) (zam A _) (hC.len hCx) (hC.ones hCx) (by rw[hC.len hCx];rfl) rfl ?_;intro A3 hs5 hB5 hk5;refine sg0 ?_;apply hK;rw[zai]at hs5;have hE5:Ext A A3:=ykt (yea A _) rfl (λ b hb=>oM) hk5;clear hk5;have d2:=zac (hEA.trans hE5) hes;refine rqz ?_;intro gd K hgd hK;refine sgz (az4 h1 hi0 hi2 d2) ?_;refine zaL (P:=prog) (t:=78) (l:=es) (zam A3 _) (hD.len hDy) (hD.ones hDy) (by rw[hD.len hDy];rfl) rfl ?_;intro A4 hs6 hB6 hk6;refine sg0 ?_;apply hK;rw[zai]at hs6;have hE6:Ext A3 A4:=ykt (yea A3 _) rfl (λ b hb=>oM) hk6;clear hk6;have q1:=zah (n:=2) (hE6.at hB5) (hC.len hCx).symm;have q2:=zah (n:=2) hB6 (hD.len hDy).symm;have hst:=zlP (p:=p) hix hiy;refine rqz ?_;intro gd K hgd hK;refine sgz (az3 h2 q1 q2) ?_;refine zbJ hcal (yfm (hcall A4 cs es xs[i] ys[i] ((hEA.trans hE5).trans hE6) (yac hix) (yac hiy) hCx hDy) ?_);rintro _ A5 ⟨rfl,hE7⟩;refine sg0 ?_;apply hK;refine wcz ?_ ?_
  ·intro hf;simp only[yao]at hf;refine gz0 ?_;refine rt0 ntmps53 ?_;exact⟨by rw[hinv,hst,hf,ycc],((hEA.trans hE5).trans hE6).trans hE7⟩
  ·intro ht;simp only[yaw]at ht;refine gz (az2 h17 hi1') ?_;exact⟨m - 1,oM,rfl,i+1,oM,vq0,vq1 h16,vq1 h15,vq1 h1,vq1 h2,((hEA.trans hE5).trans hE6).trans hE7,by rw[hinv,hst,ht,ybN]⟩
 ·intro hge;simp only[ydF]at hge;have e1:xs.drop i=[]:=ybu oM;have e2:ys.drop i=[]:=ybu oM;refine gz0 ?_;refine rt0 ntmps53 ?_;exact⟨by rw[hinv,e1,e2];rfl,hEA⟩
end P_en
theorem zot{av bv:Value}{p q:List Int}(ha:Row w av (p.map vi))(hb:Row w bv (q.map vi))(hp:p.length<=1000000000)(hq:q.length<=1000000000):
  Fn prog 28 #[av,bv] w (λ v w'=>v= .bool (decide (p=q))/\Ext w w'):=by
 obtain⟨a,c,rfl,hga⟩:=row_at ha;obtain⟨b,d,rfl,hgb⟩:=row_at hb;refine enx func28 ntmps28 ?_;by_cases hlen:p.length=q.length
 rotate_left
 ·have h1:decide ((p.length:Int)=(q.length:Int))=false:=yef oM;refine go h1 ?_;refine rt0 ntmps28 ?_;exact⟨by rw[yef λ h=>hlen (by rw[h])],Keep.refl _ _⟩
 have h1:decide ((p.length:Int)=(q.length:Int))=true:=yet oM;refine go h1 ?_;refine zgX p.length (λ i σ v=>(σ 13=vi i/\σ 12=vi p.length/\σ 0= .slice a p.length c/\σ 1= .slice b q.length d)/\Ext w v/\p.take i=q.take i) ?_ ?_ ?_
 ·exact⟨⟨vr0,vr0,vq0,vq0⟩,Keep.refl _ _,rfl⟩
 ·rintro i σ v hi r ⟨s,hE,ht⟩;obtain⟨x1,rfl,g1⟩:=hga i hi;obtain⟨x2,rfl,g2⟩:=hgb i oM;have hi2:(i:Int)<(q.length:Int):=oM;refine go (an2 s r) ?_;obtain⟨t,htt⟩:∃t,decide (p[i]=q[i])=t:=⟨_,rfl⟩;refine zaw (Q:=λ e σ' ds' v'=>e= .normal/\ds'=[]/\(σ' 13=vi i/\σ' 12=vi p.length/\σ' 0= .slice (some x1) p.length c/\σ' 1= .slice (some x2) q.length d)/\Ext v v'/\σ' 24= .bool (!t)) ?_ ?_
  ·refine zaF (λ _=>false) [(0,true),(1,true),(2,true),(3,true),(4,true),(5,true),(6,true),(7,true),(8,true)] NoS mixed kR ?_;intro gd K x hgd hx hxe hK;clear hxe;have e1:=zaa (hE.trans hx) g1;have e2:=zaa (hE.trans hx) g2;refine sgz (az6 s r hi2 e1 e2 htt) ?_;apply hK;exact⟨rfl,rfl,sc s,hx,vr0⟩
  clear s;rintro _ σ1 _ v1 ⟨rfl,rfl,s,hv1,s25⟩;cases t with
  |true=>
   refine go (an3 s r s25) ?_;refine⟨rfl,sc (an2 s r),hE.trans hv1,?_⟩;rw[zal hi,zal oM,ht,of_decide_eq_true htt]
  |false=>
   refine go (an2 s s25) ?_;refine rt0 ntmps28 ?_;exact⟨by rw[yef λ h=>(of_decide_eq_false htt) (by subst h;rfl)],hE.trans hv1⟩
 ·rintro σ v r ⟨s,hE,ht⟩;refine go (an2 s r) ?_;refine rt0 ntmps28 ?_;rw[yaT,hlen,yaT]at ht;exact⟨by rw[yet ht],hE⟩
theorem zmc{ds:List Value}{x y:Int×List Int}(hx:EndAt w cs x)(hy:EndAt w ds y)(lx:x.2.length<=1000000000)(ly:y.2.length<=1000000000):
  Fn prog 27 #[.agg cs.toArray,.agg ds.toArray] w (λ v w'=>v= .bool (decide (x=y))/\Ext w w'):=by
 obtain⟨pv,rfl,hp⟩:=hx.ex;obtain⟨qv,rfl,hq⟩:=hy.ex;obtain⟨a1,c1,hpe,_⟩:=id hp;obtain⟨a2,c2,hqe,_⟩:=id hq;refine enx func27 ntmps27 ?_;rw[hpe,hqe];refine go trivial ?_;rw[←hpe,←hqe,zai];refine zaQ ?_;intro w1 hE1 hs1 hA hB;obtain⟨b,hb⟩:∃b,w.heap.size=b:=⟨_,rfl⟩;rw[hb]at hA hB ⊢;have p0:zad w1 (some ⟨b,0,.none⟩)=some (vi x.1):=zab hA rfl;have p1:zad w1 (some ⟨b,1,.none⟩)=some pv:=zab hA rfl;have q0:zad w1 (some ⟨b+1,0,.none⟩)=some (vi y.1):=zab hB rfl;have q1:zad w1 (some ⟨b+1,1,.none⟩)=some qv:=zab hB rfl;refine go trivial ?_;by_cases hk:x.1=y.1
 ·refine rcg [(5,10)] (an7 p0 p1 q0 q1 (yet hk) yad yn0) (zot (hp.ext hE1) (hq.ext hE1) lx ly) ?_;rintro _ w2 ⟨rfl,hE2⟩;refine reg [(5,10)] trivial ?_;refine go trivial ?_;refine rt0 ntmps27 ?_;refine⟨?_,hE1.trans hE2⟩;by_cases h2:x.2=y.2
  ·rw[yet h2,yet (Prod.ext hk h2)]
  ·rw[yef h2,yef λ h=>h2 (by rw[h])]
 ·refine rgg [(5,10)] (an5 p0 q0 (yef hk) yad yn0) ?_;refine go trivial ?_;refine rt0 ntmps27 ?_;exact⟨by rw[yef λ h=>hk (by rw[h])],hE1⟩
theorem zi2{α:Type}[DecidableEq α]:∀{l m:List α},zg5 (λ x y=>decide (x=y)) l m=decide (l=m)
 | [],[]=>rfl
 | [],_::_=>rfl
 |_::_,[]=>rfl
 |x::l,y::m=>by
  simp only[zg5];rw[zi2 (l:=l) (m:=m),ydv];simp
theorem zjz{av bv:Value}{A B:List (Int×List Int)}(ha:Rows 2 (EndAt w) w av A)(hb:Rows 2 (EndAt w) w bv B)(hla:A.length<=1000000000)(hlb:B.length<=1000000000)(hp:∀e∈A,e.2.length<=1000000000)(hq:∀e∈B,e.2.length<=1000000000):
  Fn prog 26 #[av,bv,.func (.func 27) #[] #[]] w (λ v w'=>v= .bool (decide (A=B))/\Ext w w'):=by
 obtain⟨a,c,hav,_⟩:=ha.open;obtain⟨b,d,hbv,_⟩:=hb.open;refine enx func26 ntmps26 ?_;refine go trivial ?_;refine rc trivial (P_en.EqualFunc_ok (p:=λ x y=>decide (x=y)) (ze1 w) (ze1 w) ha hb (by rfl) (λ z cs ds x y hz hx hy h1 h2=>zmc (h1.ext hz) (h2.ext hz) (hp x hx) (hq y hy)) hla hlb) ?_;rintro _ w2 ⟨rfl,hE2⟩;refine rgo trivial ?_;refine rt0 ntmps26 ?_;exact⟨by rw[zi2],hE2⟩
def zk6(N:NetL)(a b:Nm)(t:Int):Bool:=if errR N a t=0/\errR N b t=0 then decide (zeC N a t=zeC N b t) else decide (errR N a t≠0/\errR N b t≠0)
theorem zkS(N:NetL)(q:Nm)(t:Int):errR N q t=0\/errR N q t=11:=by unfold errR;split<;>simp
theorem zhr{t:Int}(hG:zaO N)(hq:zbQ q=true):∀x∈zeC N q t,x.2.length<=1000000000:=λ x hx=>by
 obtain⟨h1,h2⟩:=zlQ hG hq (errR_err (List.ne_nil_of_mem hx));obtain⟨_,_,_,_,_,_,h4⟩:=h1.played (e:=x) (by rw[←h2];exact hx);omega
theorem zle(hE0:Ext w0 w){av bv:Value}{a b:Nm}{t:Int}(hN:NetAt w0 cs N)(hG:zaO N)(ha:Row w av (a.map vs))(hga:zbQ a=true)(hb:Row w bv (b.map vs))(hgb:zbQ b=true):
  Fn prog 11 #[.agg cs.toArray,av,bv,vi t] w (λ v w'=>v= .bool (zk6 N a b t)/\Ext w w'):=by
 have hN0:=hN;obtain⟨hsv,rv,rfl,hh,hr⟩:=hN.ex;obtain⟨ah,ch,hhv,_⟩:=hh.open;obtain⟨ar0,cr0,hrv,_⟩:=id hr;have l1:=zi4 N a t;have l2:=zi4 N b t;have e1:=zkS N a t;have e2:=zkS N b t;refine enx func11 ntmps11 ?_;refine cZ ?_;rw[hhv,hrv];refine go trivial ?_;rw[←hhv,←hrv];refine zav ?_;intro w1 hE1 hs1 hA;have dN:zat w1 (some ⟨w.heap.size,0,.none⟩) 4=some [hsv,rv,vi N.rw,vi N.rf]:=zah hA rfl;refine go trivial ?_;refine rc dN (zg3 (t:=t) (hE0.trans hE1) hN0 hG (ha.ext hE1) hga) ?_;rintro _ w2 ⟨hE2,ev,rfl,hv2⟩;refine rgo trivial ?_;have hE12:=hE1.trans hE2;refine rc (zac hE2 dN) (zg3 (t:=t) (hE0.trans hE12) hN0 hG (hb.ext hE12) hgb) ?_;rintro _ w3 ⟨hE3,fv,rfl,hv3⟩;refine rgo trivial ?_;have hE13:=hE12.trans hE3;have hv2':=Rows.extC (λ _ _ h=>EndAt.ext h hE3) hv2 hE3;obtain⟨A,hA'⟩:∃A,zeC N a t=A:=⟨_,rfl⟩;obtain⟨B,hB'⟩:∃A,zeC N b t=A:=⟨_,rfl⟩;have p1:=zhr (t:=t) hG hga;have p2:=zhr (t:=t) hG hgb;unfold zk6;rw[hA']at hv2' p1 l1 ⊢;rw[hB']at hv3 p2 l2 ⊢;have f0:decide ((0:Int)=0)=true:=rfl;have f1:decide ((11:Int)=0)=false:=rfl;rcases e1 with e1|e1<;>rcases e2 with e2|e2<;>rw[e1,e2]
 ·refine go trivial ?_;refine rgg [(2,33)] f0 ?_;refine go trivial ?_;refine rc trivial (zjz hv2' hv3 oM oM p1 p2) ?_;rintro _ w4 ⟨rfl,hE4⟩;refine rgo trivial ?_;refine rt0 ntmps11 ?_;exact⟨sM,hE13.trans hE4⟩
 ·refine go trivial ?_;refine rgg [(2,33)] (an2 f0 f1) ?_;refine go trivial ?_;refine rgg [(2,39)] (an2 f0 f1) ?_;refine go trivial ?_;refine rt0 ntmps11 ?_;exact⟨sM,hE13⟩
 ·refine go trivial ?_;refine rgg [(2,33)] (an2 f0 f1) ?_;refine go trivial ?_;refine rgg [(2,39)] (an2 f0 f1) ?_;refine go trivial ?_;refine rt0 ntmps11 ?_;exact⟨sM,hE13⟩
 ·refine go trivial ?_;refine rgg [(2,33)] (an2 f0 f1) ?_;refine go trivial ?_;refine rgg [(2,39)] (an2 f0 f1) ?_;refine go trivial ?_;refine rt0 ntmps11 ?_;exact⟨sM,hE13⟩
theorem zeK{a b:Nm}(h1:a<:+q)(h2:b<:+q)(h:a.length=b.length):a=b:=
 (List.suffix_of_suffix_length_le h1 h2 oM).eq_of_length h
theorem zjC{a:Nm}:a<:+q↔a.length<=q.length/\q.drop (q.length - a.length)=a:=by
 constructor
 ·rintro⟨p,rfl⟩;refine⟨sM,sM⟩
 ·rintro⟨_,h⟩;rw[←h];exact ycX _ _
theorem zbp{x:Nm}(hx:zag x=x):zaN q x=true↔x<:+zag q:=by
 unfold zaN;rw[yaB,ydT,ydT,hx,zcf,zjC,zax]
theorem znl{x:Nm}(hx:zag x=x):(decide (x.length=q.length+1) && zaN x q)=true↔∃l,x=l::zag q:=by
 unfold zaN;rw[yaB,yaB,ydT,ydT,ydT,zcf,hx];constructor
 ·rintro⟨h1,_,h3⟩;cases x with
  |nil=>simp at h1
  |cons l t=>
   simp only[yah]at h1 h3;rw[show t.length+1 - q.length=1 from by omega]at h3;exact⟨l,by rw[←h3];rfl⟩
 ·rintro⟨l,rfl⟩;refine⟨by simp[zax],by simp[zax],?_⟩;simp only[yah,zax];rw[show q.length+1 - q.length=1 from by omega];rfl
theorem zjS(L:List Nm)(x Q:Nm):(∀l,x=l::Q->za2 (L++ [x]) Q=za2 L Q++ [l])/\((¬∃l,x=l::Q)->za2 (L++ [x]) Q=za2 L Q):=by
 cases x with
 |nil=>
  refine⟨λ l h=>(by cases h),λ _=>?_⟩;unfold za2;rw[ybD];simp
 |cons a t=>
  rw[zec];refine⟨λ l h=>(by cases h;simp),λ h=>?_⟩;rw[if_neg];rintro rfl;exact h ⟨a,rfl⟩
theorem zlE(L:List Nm)(Q:Nm):(za2 L Q).length<=L.length:=by unfold za2;exact yaW _ _
structure ClsL where
 name:Nm
 other:Bool
def clsN(L:List Nm):List ClsL:=L.flatMap λ x=>[⟨x,false⟩,⟨x,true⟩]
theorem zea{L:List Nm}{c:ClsL}:c∈clsN L↔c.name∈L:=by
 obtain⟨n,o⟩:=c;simp only[clsN,yaY,yay,ybn,or_false,ClsL.mk.injEq];constructor
 ·rintro⟨x,hx,(⟨rfl,_⟩| ⟨rfl,_⟩)⟩<;>exact hx
 ·intro h;cases o
  ·exact⟨n,h,.inl ⟨rfl,rfl⟩⟩
  ·exact⟨n,h,.inr ⟨rfl,rfl⟩⟩
theorem zk0{L:List Nm}:(clsN L).length=2*L.length:=by
 unfold clsN
 induction L with
 |nil=>rfl
 |cons a l ih=>rw[ybJ,yab,ih];simp;omega
def ziN(st:Bool)(a b:Nat):Bool:=match st with
 |true=>decide (a<b)
 |false=>decide (a<=b)
theorem longB_t{st:Bool}{a:Nat}(h:ziN st a b=true):a<=b:=by
 cases st<;>simp[ziN]at h<;>omega
theorem longB_f{st:Bool}{a:Nat}(h:ziN st a b=false):b<=a:=by
 cases st<;>simp[ziN]at h<;>omega
def othC(st:Bool)(q:Nm)(c:ClsL):Bool:=match st with
 |true=>decide (c.name.length<q.length)
 |false=>c.other
def ofP(st:Bool)(q:Nm)(b:ClsL×Bool)(c:ClsL):ClsL×Bool:=
 if (zaN q c.name && (!b.2||ziN st b.1.name.length c.name.length))=true then(⟨c.name,othC st q c⟩,true) else b
def ofF(st:Bool)(C:List ClsL)(q:Nm):ClsL×Bool:=C.foldl (ofP st q) (⟨[],false⟩,false)
structure Lng(L:List Nm)(q x:Nm):Prop where
 mem:x∈L
 un:zaN q x=true
 max:∀y∈L,zaN q y=true->y.length<=x.length
theorem zjN{st:Bool}:∀{C:List ClsL} {b:ClsL×Bool},(b.2=true->zaN q b.1.name=true/\(st=true->b.1.other=decide (b.1.name.length<q.length)))->
  ((C.foldl (ofP st q) b).2=true->zaN q (C.foldl (ofP st q) b).1.name=true/\(st=true->(C.foldl (ofP st q) b).1.other=decide ((C.foldl (ofP st q) b).1.name.length<q.length)))/\
  (b.2=true->(C.foldl (ofP st q) b).2=true/\b.1.name.length<=(C.foldl (ofP st q) b).1.name.length)/\
  (∀c∈C,zaN q c.name=true->(C.foldl (ofP st q) b).2=true/\c.name.length<=(C.foldl (ofP st q) b).1.name.length)/\
  ((C.foldl (ofP st q) b).1=b.1\/∃c∈C,(C.foldl (ofP st q) b).1.name=c.name)
 | [],b,h=>⟨h,λ h=>⟨h,ynl _⟩,(λ c hc=>by cases hc),.inl rfl⟩
 |c::C,b,h=>by
  simp only[yce];have h':(ofP st q b c).2=true->zaN q (ofP st q b c).1.name=true/\(st=true->(ofP st q b c).1.other=decide ((ofP st q b c).1.name.length<q.length)):=by
   unfold ofP
   split
   ·rename_i hc;intro _;rw[yaB]at hc;exact⟨hc.1,λ hs=>by rw[hs];rfl⟩
   ·exact h
  have hb:b.2=true->(ofP st q b c).2=true/\b.1.name.length<=(ofP st q b c).1.name.length:=by
   intro hb;unfold ofP
   split
   ·rename_i hc;refine⟨rfl,?_⟩;rw[hb,yaN,ycZ,yaB]at hc;exact longB_t hc.2
   ·exact⟨hb,ynl _⟩
  have hc:zaN q c.name=true->(ofP st q b c).2=true/\c.name.length<=(ofP st q b c).1.name.length:=by
   intro hu;unfold ofP
   split
   ·exact⟨rfl,ynl _⟩
   ·rename_i hn;cases hb2:b.2 with
    |false=>exact absurd (by rw[hu,hb2];rfl) hn
    |true=>
     refine⟨rfl,?_⟩;rw[hu,hb2,yaN,ycZ,ybN,Bool.not_eq_true]at hn;exact longB_f hn
  obtain⟨i1,i2,i3,i4⟩:=zjN (C:=C) h';refine⟨i1,λ h=>?_,λ d hd hu=>?_,?_⟩
  ·obtain⟨a1,a2⟩:=hb h;obtain⟨b1,b2⟩:=i2 a1;exact⟨b1,oM⟩
  ·rcases yay.1 hd with rfl|hd
   ·obtain⟨a1,a2⟩:=hc hu;obtain⟨b1,b2⟩:=i2 a1;exact⟨b1,oM⟩
   ·exact i3 d hd hu
  ·rcases i4 with i4| ⟨d,hd,i4⟩
   ·rw[i4];unfold ofP
    split
    ·exact .inr ⟨c,sM,rfl⟩
    ·exact .inl rfl
   ·exact .inr ⟨d,yak _ hd,i4⟩
theorem zmf(q:Nm):zaN q []=true:=by unfold zaN;simp[zag]
theorem zgt{st:Bool}{L:List Nm}(h:[]∈L):(ofF st (clsN L) q).2=true/\Lng L q (ofF st (clsN L) q).1.name/\(st=true->(ofF st (clsN L) q).1.other=decide ((ofF st (clsN L) q).1.name.length<q.length)):=by
 obtain⟨i1,i2,i3,i4⟩:=zjN (st:=st) (q:=q) (C:=clsN L) (b:=(⟨[],false⟩,false)) (λ h=>by cases h);have hm:∀x∈L,(⟨x,false⟩:ClsL)∈clsN L:=λ x hx=>zea.2 hx;obtain⟨j1,j2⟩:=i3 _ (hm _ h) (zmf q);refine⟨j1,⟨?_,(i1 j1).1,λ y hy hu=>(i3 _ (hm y hy) hu).2⟩,(i1 j1).2⟩;rcases i4 with i4| ⟨c,hc,i4⟩
 ·have:(ofF st (clsN L) q).1=⟨[],false⟩:=i4;rw[this];exact h
 ·have:(ofF st (clsN L) q).1.name=c.name:=i4;rw[this];exact zea.1 hc
theorem Lng.eq{L:List Nm}{x y:Nm}(hf:∀x∈L,zag x=x)(h:Lng L q x)(k:Lng L q y):x=y:=
 zeK ((zbp (hf x h.mem)).1 h.un) ((zbp (hf y k.mem)).1 k.un) (Nat.le_antisymm (k.max _ h.mem h.un) (h.max _ k.mem k.un))
theorem Lng.self{L:List Nm}{q:Nm}(h:zag q∈L):Lng L q (zag q):=⟨h,by rw[zio];exact zlh q,λ y _ hu=>by rw[zax];exact zbU hu⟩
def zmT(q:Nm)(b:ClsL×Bool):Bool:=b.2 && !decide (zag b.1.name=zag q)
theorem of_alike{L:List Nm}(h:[]∈L)(hf:∀x∈L,zag x=x):
  (ofF true (clsN L) q).2=true/\(ofF false (clsN L) q).2=true/\(ofF false (clsN L) q).1.name=(ofF true (clsN L) q).1.name/\zmT q (ofF false (clsN L) q)=(ofF true (clsN L) q).1.other:=by
 obtain⟨a1,a2,a3⟩:=zgt (st:=true) (q:=q) h;obtain⟨b1,b2,_⟩:=zgt (st:=false) (q:=q) h;have e:=b2.eq hf a2;refine⟨a1,b1,e,?_⟩;unfold zmT;rw[b1,e,a3 rfl,ybN];have hu:=a2.un;obtain⟨x,hx⟩:∃x,(ofF true (clsN L) q).1.name=x:=⟨_,rfl⟩;rw[hx]at hu a2 ⊢;have hs:=(zbp (hf x a2.mem)).1 hu;have hl:=zbU hu;by_cases hlt:x.length<q.length
 ·rw[yet hlt,yef (zdP oM)];rfl
 ·rw[yef hlt,yet (show zag x=zag q from by rw[hf x a2.mem];exact hs.eq_of_length (by rw[zax];omega))];rfl
/-! labels that nobody need have -/
def digs:List UInt8:=[48,49,50,51,52,53,54,55,56,57,97,98,99,100,101,102,103,104,105,106,107,108,109,110,111,112,113,114,115,116,117,118,119,120,121,122]
def wordsL:List Lab:=digs.map (λ c=>[c])++digs.flatMap (λ c=>digs.map λ d=>[c,d])++ [[48,48,48]]
def zbs(kids:List Lab):Lab:=(wordsL.find? λ w=>!(kids.any λ k=>decide (zaJ k=w))).getD []
theorem zh7:∀c∈digs,zez c=c:=by decide
theorem zlg{w:Lab}(h:w∈wordsL):zaJ w=w/\w≠ []:=by
 unfold wordsL at h;simp only[yai,yaq,yaY,yae]at h;rcases h with (⟨c,hc,rfl⟩| ⟨c,hc,d,hd,rfl⟩)|rfl
 ·exact⟨by simp[zaJ,zh7 c hc],sM⟩
 ·exact⟨by simp[zaJ,zh7 c hc,zh7 d hd],sM⟩
 ·exact⟨by decide,sM⟩
theorem zfW{kids:List Lab}(h:zbs kids≠ []):zaJ (zbs kids)=zbs kids/\∀k∈kids,zaJ k≠zbs kids:=by
 unfold zbs at h ⊢;cases hf:wordsL.find? λ w=>!(kids.any λ k=>decide (zaJ k=w)) with
 |none=>rw[hf]at h;exact absurd rfl h
 |some w=>
  have h1:=ycC hf;have h2:=ycN hf;refine⟨(zlg h1).1,λ k hk e=>?_⟩;simp only[ybS]at e;simp only[yao,ycv,ydT]at h2;exact h2 k hk e
/-! what stands for a class -/
def kidC(C:List ClsL)(z:Nm):List Lab:=za2 (C.map λ c=>c.name) (zag z)
def repC(C:List ClsL)(c:ClsL):Option Nm:=
 if c.other=true then(if zbs (kidC C c.name)=[] then .none else if zaC (zbs (kidC C c.name)::c.name)=0 then some (zbs (kidC C c.name)::c.name) else .none) else some c.name
theorem rep_of{L:List Nm}{c:ClsL}{r:Nm}(h0:[]∈L)(hf:∀x∈L,zag x=x)(hc:c∈clsN L)(h:repC (clsN L) c=some r):(ofF true (clsN L) r).1.name=c.name/\(ofF true (clsN L) r).1.other=c.other:=by
 have hm:=zea.1 hc;have hfc:=hf _ hm;obtain⟨a1,a2,a3⟩:=zgt (st:=true) (q:=r) h0;have a3:=a3 rfl;unfold repC at h
 split at h
 ·rename_i ho
  split at h
  ·cases h
  ·rename_i hne
   split at h
   ·obtain⟨g1,g2⟩:=zfW hne;obtain⟨f,hfe⟩:∃f,zbs (kidC (clsN L) c.name)=f:=⟨_,rfl⟩;rw[hfe]at h hne g1 g2;have hr:f::c.name=r:=Option.some.inj h;have hrf:zag r=r:=by rw[←hr];simp only[zag,yaU,g1];rw[show c.name.map zaJ=c.name from hfc]
    have hk:Lng L r c.name:=by
     refine⟨hm,(zbp hfc).2 (by rw[hrf,←hr];exact ydt ..),λ y hy hu=>?_⟩;have hl:=zbU hu;rw[←hr,yah]at hl;have hlt:¬y.length=c.name.length+1:=λ hl2=>by
      have hs:=(zbp (hf y hy)).1 hu;rw[hrf]at hs;have hyr:y=r:=hs.eq_of_length (by rw[hl2,←hr];rfl);refine g2 f ?_ g1;unfold kidC;rw[hfc];unfold za2;refine yaZ.2 ⟨y,yaq.2 ⟨⟨y,false⟩,zea.2 hy,rfl⟩,?_⟩;rw[hyr,←hr];simp
     omega
    have e:=a2.eq hf hk;rw[e]at a3;exact⟨e,by rw[a3,ho,←hr];simp⟩
   ·cases h
 ·rename_i ho;have hr:c.name=r:=Option.some.inj h;have hk:Lng L r c.name:=by
   subst hr;have:=Lng.self (L:=L) (q:=c.name) (by rw[hfc];exact hm)
   rwa [hfc]at this
  have e:=a2.eq hf hk;rw[e,←hr]at a3;refine⟨e,?_⟩;rw[←hr]at e ⊢;rw[a3];cases hco:c.other with
  |true=>exact absurd hco ho
  |false=>simp
theorem of_below{L:List Nm}{q:Nm}{l:Lab}(h0:[]∈L)(hf:∀x∈L,zag x=x)(ht:∀l f,l::f∈L->f∈L):
  ((ofF true (clsN L) q).1.other=true->(ofF true (clsN L) (l::q)).1.other=true/\(ofF true (clsN L) (l::q)).1.name=(ofF true (clsN L) q).1.name)/\
  ((ofF true (clsN L) q).1.other=false->((ofF true (clsN L) (l::q)).1.other=true/\(ofF true (clsN L) (l::q)).1.name=zag q)\/((ofF true (clsN L) (l::q)).1.other=false/\(ofF true (clsN L) (l::q)).1.name=zag (l::q))):=by
 obtain⟨_,a2,a3⟩:=zgt (st:=true) (q:=q) h0;obtain⟨_,b2,b3⟩:=zgt (st:=true) (q:=l::q) h0;have a3:=a3 rfl;have b3:=b3 rfl;obtain⟨c,hc⟩:∃c,(ofF true (clsN L) q).1=c:=⟨_,rfl⟩;obtain⟨d,hd⟩:∃d,(ofF true (clsN L) (l::q)).1=d:=⟨_,rfl⟩;rw[hc]at a2 a3 ⊢;rw[hd]at b2 b3 ⊢;have hcf:=hf _ a2.mem;have hdf:=hf _ b2.mem;have hs:=(zbp hdf).1 b2.un;have hcs:=(zbp hcf).1 a2.un;have hcons:zag (l::q)=zaJ l::zag q:=rfl
 -- what is below q is below what is right below it
 have hup:∀y,y∈L->zaN q y=true->zaN (l::q) y=true:=λ y hy hu=>(zbp (hf y hy)).2 (((zbp (hf y hy)).1 hu).trans (by rw[hcons];exact ydt ..));have hdl:=zbU b2.un;rw[yah]at hdl;have hdn:d.name=zag (l::q)\/zaN q d.name=true:=by
  rw[hcons]at hs ⊢;rcases List.suffix_cons_iff.1 hs with h|h
  ·exact .inl h
  ·exact .inr ((zbp hdf).2 h)
 have hdo:zaN q d.name=true->d.name=c.name/\d.other=true:=λ h=>by
  refine⟨zeK ((zbp hdf).1 h) hcs (Nat.le_antisymm (a2.max _ b2.mem h) (b2.max _ a2.mem (hup _ a2.mem a2.un))),?_⟩;rw[b3];have:=zbU h;exact yet (by rw[yah];omega)
 have hself:d.name=zag (l::q)->d.other=false/\c.name=zag q:=λ h=>by
  refine⟨by rw[b3,h,zax];simp,?_⟩;have hq:zag q∈L:=ht (zaJ l) _ (by rw[←hcons,←h];exact b2.mem);exact a2.eq hf (Lng.self hq)
 constructor
 ·intro ho;rcases hdn with h|h
  ·obtain⟨_,h2⟩:=hself h;rw[a3,h2,zax]at ho;simp at ho
  ·exact⟨(hdo h).2,(hdo h).1⟩
 ·intro ho;rw[a3,ydF]at ho;have hcl:=zbU a2.un;have hcq:c.name=zag q:=hcs.eq_of_length (by rw[zax];omega);rcases hdn with h|h
  ·exact .inr ⟨(hself h).1,h⟩
  ·exact .inl ⟨(hdo h).2,(hdo h).1.trans hcq⟩
section
variable {P : Program} {d : Option Tmp} {ty : TypeId} {ps : String} {af : Array Edge} {g : Option (Nat × Bool)} {ρ : Operand -> Value} {w : World} {K : Value -> World -> Prop}
theorem zfr(b:UInt8)(hb:b.toNat<128):Utf8.encode (b.toNat:Int)=⟨#[b]⟩:=by
 have hv:Utf8.valid (b.toNat:Int)=true:=by simp[Utf8.valid];omega
 unfold Utf8.encode;simp only[hv,if_true,ycQ];rw[if_pos hb];simp
theorem conv_i2s{s t:TypeId}{k:IntKind}{x:Operand}{b:UInt8}(hs:tyU P s=some (.int k))(hd:tyU P t=some .string)(hx:ρ x= .int .i32 b.toNat)(hb:b.toNat<128)(h:K (vs [b]) w):
  optK (cvD (some (.int k)) (some .string) (.int .i32 b.toNat)) w K (opW P ⟨d,.convert s t x,ty,ps,af,g⟩ ρ w K):=by
 show opR P K ((do pure (.value (←convert s t (ρ x))):Sem Next).run P w);rw[hx];refine zaI (v:=vs [b]) (w':=w) ?_ h;have:=run_convert_int_string (P:=P) w s t .i32 (b.toNat:Int) (by rw[show P.underlying s=_ from hs];rfl) hd;rw[zfr b hb]at this;exact this
theorem conv_r2s{s t e:TypeId}{x:Operand}{a:Addr}{c:Nat}{b b':UInt8}(hs:tyU P s=some (.slice e))(hd:tyU P t=some .string)(he:tyU P e=some (.int .i32))(hx:ρ x= .slice (some a) 2 c)(hb:b.toNat<128)(hb':b'.toNat<128)
  (h0:zad w (adr (some a) 0)=some (.int .i32 b.toNat)) (h1:zad w (adr (some a) 1)=some (.int .i32 b'.toNat)) (h:K (vs [b,b']) w):
  optK (cvD (some (.slice e)) (some .string) (.slice (some a) 2 c)) w K (opW P ⟨d,.convert s t x,ty,ps,af,g⟩ ρ w K):=by
 show opR P K ((do pure (.value (←convert s t (ρ x))):Sem Next).run P w);rw[hx];refine zaI (v:=vs [b,b']) (w':=w) ?_ h;have:=run_convert_runes (P:=P) w s t e a 2 c [(b.toNat:Int),(b'.toNat:Int)] sM hs he hd (λ j hj=>by
  match j,hj with
  |0,_=>simpa [zad,adr] using h0
  |1,_=>simpa [zad,adr] using h1)
 have e2:runesBytes ([(b.toNat:Int),(b'.toNat:Int)].take 2)=⟨#[b,b']⟩:=by
  simp only[List.take_succ_cons,ydk,runesBytes,yce,List.foldl_nil,zfr b hb,zfr b' hb']
  rfl
 rw[e2]at this;exact this
def StrIt(w:World)(r:Nat)(s:List UInt8)(pos:Nat):Prop:=w.heap[r]? =some (.stringIter ⟨s.toArray⟩ pos)
theorem StrIt.block{r pos:Nat}{s:List UInt8}(h:StrIt w r s pos)(hk:x.heap[r]? =w.heap[r]?):StrIt x r s pos:=hk.trans h
theorem StrIt.lt{r pos:Nat}{s:List UInt8}(h:StrIt w r s pos):r<w.heap.size:=(yaa.1 h).1
theorem zgp{x:Operand}{s:List UInt8}(ht:tyU P t=some .string)(hx:ρ x=vs s)
  (h:∀w',StrIt w' w.heap.size s 0->Ext w w'->w'.heap.size=w.heap.size+1->K (.pointer (some ⟨w.heap.size,0,.none⟩)) w'):
  opW P ⟨d,.range t x,ty,ps,af,g⟩ ρ w K:=by
 show opR P K _;refine zaI (s:=Instr.range t (ρ x)) (by rw[hx];exact run_range_string w t _ ht) (h _ (World.iter_heap w _ 0) ?_ ?_)
 ·exact yea w _
 ·unfold World.iter;simp
theorem ziw{r pos:Nat}{s:ByteArray}(hr:w.heap[r]? =some (.stringIter s pos))(ht:pos<s.size):
  (Instr.next (.pointer (some ⟨r,0,.none⟩)) true ty).run P w= .ok (.tuple #[.bool true,.int .i64 pos,.int .i32 (Utf8.decode s pos).1]) (w.putObj r (.stringIter s (pos+(Utf8.decode s pos).2))):=by
 simp only[Instr.next,getObj,setObj,yaJ,Sem.run,hr,Result.andThen,ht,if_true];simp[goInt,World.putObj]
theorem zd8{x:Operand}{r pos:Nat}{s:List UInt8}(hx:ρ x= .pointer (some ⟨r,0,.none⟩))(hr:StrIt w r s pos)(ha:∀c∈s,c.toNat<128)
  (h1:s.length<=pos->K (.tuple #[.bool false]) w)
  (h2:∀(h:pos<s.length) w',StrIt w' r s (pos+1)->Keep (λ b=>b=r) w w'->w'.heap.size=w.heap.size->K (.tuple #[.bool true,vi pos,.int .i32 s[pos].toNat]) w'):
  opW P ⟨d,.next x true,ty,ps,af,g⟩ ρ w K:=by
 show opR P K _;by_cases h:pos<s.length
 ·have hd:=decode_ascii ⟨s.toArray⟩ pos h (ha _ (yac h));have hrun:=ziw (P:=P) (ty:=ty) hr h;rw[hd]at hrun;have hlt:=(yaa.1 hr).1;refine zaI (s:=Instr.next (ρ x) true ty) (by rw[hx];exact hrun) (h2 h _ ?_ (zaB rfl) sM);exact yaX hlt
 ·refine zaI (s:=Instr.next (ρ x) true ty) (v:= .tuple #[.bool false]) (w':=w) ?_ (h1 oM);rw[hx];have:¬pos<(⟨s.toArray⟩:ByteArray).size:=h;simp only[Instr.next,getObj,yaJ,Sem.run,show w.heap[r]? =some (.stringIter ⟨s.toArray⟩ pos) from hr,Result.andThen,this,if_false]
  rfl
end
def IterN{α:Type}(P:Program)(g:FuncId)(cap:Array Value)(W0:World)(n0:Nat)(C:Nat->Prop)(xs:List α)(enc:α->World->Array Value->Prop):Prop:=
 ∀(l:Nat) (J Jx:List α->World->Prop) (W:World),Ext W0 W->n0<=W.heap.size->
  (∀pre A B,J pre A->Keep (λ b=>W.heap.size<=b) A B->J pre B)->(∀pre A B,Jx pre A->Keep (λ b=>W.heap.size<=b) A B->Jx pre B)->
  (∀pre x suf A args,xs=pre++x::suf->J pre A->enc x A args->Yld P l args A (λ v B=>
   (v= .bool true/\J (pre++ [x]) B/\KeepR n0 W.heap.size C A B)\/(v= .bool false/\Jx (pre++ [x]) B)))->
  J [] W->Fn P g (#[.func (.yield l) #[] #[]]++cap) W (λ _ B=>J xs B\/∃pre x suf,xs=pre++x::suf/\Jx (pre++ [x]) B)
def roundN'{α:Type}(I:List α->World->Prop)(Ix:Code->List α->World->Prop)(C:Nat->Prop)(pre':List α)(A:World):Post
 | .normal,_,_,B=>I pre' B/\Keep C A B
 | .ret,_,_,B=>Ix .ret pre' B/\Keep C A B
 | .exit id,_,_,B=>Ix (.exit id) pre' B/\Keep C A B
 | .goto t,_,_,B=>Ix (.goto t) pre' B/\Keep C A B
 |_,_,_,_=>False
theorem W_rangeN{α:Type}{P:Program}{n:Nat}{f:Operand}{ps:Array Tmp}{assign body:Code}{Q:Post}{σ:Sto}{ds:List Deferred}
  {g:FuncId} {cap:Array Value} {n0:Nat} {xs:List α} {enc:α->World->Array Value->Prop}
  (hf:ev n σ f= .func (.func g) #[] cap) (hc:zaD P g=true) (hit:IterN P g cap W0 n0 C xs enc) (hW0:Ext W0 w) (hn0:n0<=w.heap.size) (hCn:∀b,C b->b<w.heap.size)
  (henc:∀x A args,enc x A args->args.size=ps.size)
  (I:List α->World->Prop) (Ix:Code->List α->World->Prop)
  (hI:∀pre A B,I pre A->Keep (λ b=>w.heap.size<=b) A B->I pre B)
  (hIx:∀c pre A B,Ix c pre A->Keep (λ b=>w.heap.size<=b) A B->Ix c pre B)
  (h0:I [] w)
  (hround:∀(l:Nat) (pre:List α) (x:α) (suf:List α) (A:World) (args:Array Value),xs=pre++x::suf->w.heap.size+2<=A.heap.size->I pre A->enc x A args->
   W P (some l) n assign (zdF (λ σ1 ds1 A1=>ds1=[]/\Keep C A A1/\∀A2,Keep (two w.heap.size) A1 A2->W P (some l) n body (roundN' I Ix C (pre++ [x]) A2) σ1 [] A2) (λ _ _ _ _=>False))
    (zdC σ (ps.zip args).toList) [] A)
  (hdone:∀w',w.heap.size+2<=w'.heap.size->I xs w'->w'.heap[w.heap.size]? =some (.deferred (some []))->Q .normal σ ({target:= .collected w.heap.size,args:=#[]}::ds) w')
  (hstop:∀c pre x suf w',w.heap.size+2<=w'.heap.size->xs=pre++x::suf->Ix c (pre++ [x]) w'->w'.heap[w.heap.size]? =some (.deferred (some []))->
   W P .none n c Q σ ({target:= .collected w.heap.size,args:=#[]}::ds) w'):
  W P .none n (.rangeFunc f ps assign body) Q σ ds w:=by
 refine wpIn_rangeFunc ?_;intro fn _;generalize hrec:zeo fn (act n σ ds).tmps ps assign body w.heap.size=rec;obtain⟨W1,hW1⟩:∃W1,(w.alloc (.deferred (some []))).alloc (.loop (rec .ready .none))=W1:=⟨_,rfl⟩;have hsz1:W1.heap.size=w.heap.size+2:=by rw[←hW1];simp
 have hL1:W1.heap[w.heap.size+1]? =some (.loop (rec .ready .none)):=by
  rw[←hW1];have:=ybd (w.alloc (.deferred (some []))) (.loop (rec .ready .none));rwa [ybT]at this
 have hK1:W1.heap[w.heap.size]? =some (.deferred (some [])):=by
  rw[←hW1];exact(yaE _ _ _ sM).trans (ybd w _)
 have hE1:Ext w W1:=by rw[←hW1];exact(yea w _).trans (yea _ _)
 have hI1:I [] W1:=hI _ _ _ h0 (hE1.mono (λ _ _ h=>h.elim));have hl2:two w.heap.size (w.heap.size+1):= .inr rfl;have hl2':w.heap.size<=w.heap.size+1:=oM;refine⟨w.heap.size+1,[{target:= .collected w.heap.size,args:=#[]}],W1,{target:= .fn (.func g) cap,args:=#[.func (.yield (w.heap.size+1)) #[] #[]]},W1,g,
  #[.func (.yield (w.heap.size+1)) #[] #[]]++cap,W1,?_,?_,?_,?_,zdt,?_⟩
 ·rw[←hW1,←hrec];exact run_enterLoop_outer _ _ _ _ _
 ·simp only[resolve,zcw,hf];simp[Deferred.ofValue,ev]
 ·intro f' hf';trivial
 ·simp only[invoke];exact zbM hc
 ·-- the iterator's contract
  have hsp:∀{n:Nat} b,b<n->W1.heap.size<=b->w.heap.size<=b:=λ b _ h=>oM;have hCl:∀b,two w.heap.size b->¬C b:=λ b hb hcb=>by have:=hCn b hcb;rcases hb with rfl|rfl<;>omega
  refine zcQ (CallsIn.mono (hit (w.heap.size+1)
   (λ pre B=>I pre B/\w.heap.size+2<=B.heap.size/\B.heap[w.heap.size+1]? =some (.loop (rec .ready .none))/\B.heap[w.heap.size]? =some (.deferred (some [])))
   (λ pre B=>∃c,Ix c pre B/\w.heap.size+2<=B.heap.size/\B.heap[w.heap.size+1]? =some (.loop (rec .done (some c)))/\B.heap[w.heap.size]? =some (.deferred (some [])))
   W1 (hW0.trans hE1) oM ?_ ?_ ?_ ⟨hI1,oM,hL1,hK1⟩) ?_)
  ·rintro pre A B ⟨hi,hs,hl,hk⟩ hAB;exact⟨hI _ _ _ hi (hAB.mono hsp),yaD hs hAB.size,(hAB.block _ oM (by show¬(_<=_);omega)).trans hl,(hAB.block _ oM (by show¬(_<=_);omega)).trans hk⟩
  ·rintro pre A B ⟨c,hi,hs,hl,hk⟩ hAB;exact⟨c,hIx _ _ _ _ hi (hAB.mono hsp),yaD hs hAB.size,(hAB.block _ oM (by show¬(_<=_);omega)).trans hl,(hAB.block _ oM (by show¬(_<=_);omega)).trans hk⟩
  ·-- one round
   rintro pre x suf A args hxs ⟨hi,hs,hl,hk⟩ hx;have hy:=run_yield (P:=P) (args:=args) hl (by rw[←hrec];exact henc x A args hx);unfold Yld zg6
   dsimp only
   rw[show (#[]++args:Array Value)=args from by simp];rw[hy,←hrec]
   dsimp only[zeo,opR]
   refine zcK (r:= .none) (n:=0) (roundIn_of_wpIn (F:=fw .none) (n:=0) trivial ?_);have hin:(fw .none).inRound (w.heap.size+1)=fw (some (w.heap.size+1)):=rfl;rw[hin];have hfold:(ps.zip args).foldl (λ t (x:Tmp×Value)=>t.setIfInBounds x.1 x.2) (act n σ ds).tmps=(act n (zdC σ (ps.zip args).toList) []).tmps:=by
    rw[←ybW];exact zcN n ds _ σ
   have hst:({tmps:=(ps.zip args).foldl (λ t (x:Tmp×Value)=>t.setIfInBounds x.1 x.2) (act n σ ds).tmps,defers:=[]}:Act)=act n (zdC σ (ps.zip args).toList) []:=by
    rw[hfold];rfl
   have hr:=hround (w.heap.size+1) pre x suf A args hxs oM hi hx;unfold W at hr;rw[←hst]at hr;refine wpIn_mono hr ?_;rintro e a A1 ⟨σ1,ds1,rfl,hq⟩;cases e with
   |normal=>
    obtain⟨rfl,hA1,hbody⟩:=hq;have hlA1:A1.heap[w.heap.size+1]? =some (.loop (rec .ready .none)):=(hA1.block _ oM (hCl _ hl2)).trans hl;have hkA1:A1.heap[w.heap.size]? =some (.deferred (some [])):=(hA1.block _ oM (hCl _ (.inl rfl))).trans hk;have hlt1:w.heap.size+1<A1.heap.size:=(yaa.1 hlA1).1;refine⟨_,run_beginRound hlA1 (by rw[←hrec];rfl),?_⟩;have hb:=hbody _ (zaB (w:=A1) (r:=w.heap.size+1) (o:= .loop {rec .ready .none with state:= .busy}) hl2);refine wpIn_mono hb ?_;have hlA2:(A1.putObj (w.heap.size+1) (.loop {rec .ready .none with state:= .busy})).heap[w.heap.size+1]? =some (.loop {rec .ready .none with state:= .busy}):=yaX hlt1;have hkA2:(A1.putObj (w.heap.size+1) (.loop {rec .ready .none with state:= .busy})).heap[w.heap.size]? =some (.deferred (some [])):=(yax oM).trans hkA1;have fin:∀(jump:Option Code) (B:World),Keep C (A1.putObj (w.heap.size+1) (.loop {rec .ready .none with state:= .busy})) B->
      (Instr.endRound (w.heap.size+1) jump).run P B= .ok (.bool jump.isNone) (B.putObj (w.heap.size+1) (.loop (rec (if jump.isNone then .ready else .done) jump)))/\
      w.heap.size+2<=(B.putObj (w.heap.size+1) (.loop (rec (if jump.isNone then .ready else .done) jump))).heap.size/\
      (B.putObj (w.heap.size+1) (.loop (rec (if jump.isNone then .ready else .done) jump))).heap[w.heap.size+1]? =some (.loop (rec (if jump.isNone then .ready else .done) jump))/\
      (B.putObj (w.heap.size+1) (.loop (rec (if jump.isNone then .ready else .done) jump))).heap[w.heap.size]? =some (.deferred (some []))/\
      KeepR n0 W1.heap.size C A (B.putObj (w.heap.size+1) (.loop (rec (if jump.isNone then .ready else .done) jump))):=by
     intro jump B hB;have hlB:=(hB.block _ (by rw[zbX];omega) (hCl _ hl2)).trans hlA2;have hkB:=(hB.block _ (by rw[zbX];omega) (hCl _ (.inl rfl))).trans hkA2;have hltB:w.heap.size+1<B.heap.size:=(yaa.1 hlB).1;have z1:=hA1.size;have z2:=hB.size;rw[zbX]at z2;refine⟨?_,by simp;omega,yaX hltB,(yax oM).trans hkB,⟨hB.os.trans hA1.os,hB.tape.trans hA1.tape,hB.output.trans hA1.output,by rw[zbX];omega,λ b hb hr hC=>?_,yaD hA1.drawn hB.drawn⟩⟩
     ·have:=run_endRound (P:=P) jump hlB;rw[←hrec]at this ⊢;exact this
     ·exact(yax oM).trans ((hB.block b (by rw[zbX];omega) hC).trans ((yax oM).trans (hA1.block b hb hC)))
    rintro e a B ⟨σ2,ds2,rfl,hq⟩;cases e with
    |normal=>
     obtain⟨hi',hB⟩:=hq;obtain⟨h1,h2,h3,h4,h5⟩:=fin .none B hB;exact⟨_,_,h1,_,rfl,.inl ⟨rfl,⟨hI _ _ _ hi' (zaB hl2'),h2,h3.trans (by rw[←hrec];rfl),h4⟩,h5⟩⟩
    |ret=>
     obtain⟨hi',hB⟩:=hq;obtain⟨h1,h2,h3,h4,h5⟩:=fin (some .ret) B hB;exact⟨_,_,h1,_,rfl,.inr ⟨rfl,_,hIx _ _ _ _ hi' (zaB hl2'),h2,h3.trans (by rw[←hrec];rfl),h4⟩⟩
    |exit id=>
     obtain⟨hi',hB⟩:=hq;obtain⟨h1,h2,h3,h4,h5⟩:=fin (some (.exit id)) B hB;exact⟨_,_,h1,_,rfl,.inr ⟨rfl,_,hIx _ _ _ _ hi' (zaB hl2'),h2,h3.trans (by rw[←hrec];rfl),h4⟩⟩
    |goto t=>
     obtain⟨hi',hB⟩:=hq;obtain⟨h1,h2,h3,h4,h5⟩:=fin (some (.goto t)) B hB;exact⟨_,_,h1,_,rfl,.inr ⟨rfl,_,hIx _ _ _ _ hi' (zaB hl2'),h2,h3.trans (by rw[←hrec];rfl),h4⟩⟩
    |panic c=>exact hq.elim
    |outgrown=>exact hq.elim
   |ret=>exact hq.elim
   |exit id=>exact hq.elim
   |goto t=>exact hq.elim
   |panic c=>exact hq.elim
   |outgrown=>exact hq.elim
  ·rintro e B ⟨v,rfl,h⟩;rcases h with ⟨hi,hs,hl,hk⟩| ⟨pre,x,suf,hxs,c,hi,hs,hl,hk⟩
   ·have hend:=run_endLoop (P:=P) hl (by rw[←hrec];simp[zeo]);have hp:(rec LoopState.ready .none).pending= .none:=by rw[←hrec];rfl
    rw[hp]at hend;refine⟨.none,_,hend,?_⟩;exact⟨σ,_,rfl,hdone _ (by simp;omega) (hI _ _ _ hi (zaB hl2')) ((yax oM).trans hk)⟩
   ·have hend:=run_endLoop (P:=P) hl (by rw[←hrec];simp[zeo]);have hp:(rec LoopState.done (some c)).pending=some c:=by rw[←hrec];rfl
    rw[hp]at hend;refine⟨some c,_,hend,?_⟩;exact hstop c pre x suf _ (by simp;omega) hxs (hIx _ _ _ _ hi (zaB hl2')) ((yax oM).trans hk)
theorem zcu:∀c∈digs,c.toNat<128:=by decide
theorem ziM{α β:Type}(f:α->β){l:List α}(h:i<l.length):l.map f=(l.take i).map f++f l[i]::(l.drop (i+1)).map f:=by
 rw[←yaU,←yaC,←yag h,yar]
theorem zlO{α β:Type}(f:α->List β){l:List α}(h:i<l.length):l.flatMap f=(l.take i).flatMap f++(f l[i]++(l.drop (i+1)).flatMap f):=by
 rw[←ybJ,←ybB,←yag h,yar]
def encW(x:Lab)(_:World)(args:Array Value):Prop:=args=#[vs x]
theorem KeepR.str{n0 n1:Nat}{C:Nat->Prop}{A B:World}(h:KeepR n0 n1 C A B)(hC:∀b,C b->b<n1){r pos:Nat}{s:List UInt8}(hr:n1<=r)(hi:StrIt A r s pos):StrIt B r s pos:=
 hi.block (h.block _ hi.lt (.inr hr) (λ hc=>by have:=hC _ hc;omega))
theorem wordsIt{n0:Nat}(hC:∀b,C b->b<n0):IterN prog 136 #[] W0 n0 C wordsL encW:=by
 intro lp J Jx W hW hn hJ hJx hY h0;have hCW:∀b,C b->b<W.heap.size:=λ b h=>by have:=hC b h;omega
 have dl:digs.length=36:=rfl;refine enx func136 ntmps136 ?_;refine go trivial ?_;refine rq ?_;intro gd K hgd hK;refine sg0 ?_;refine zgp (s:=digs) rfl rfl ?_;intro w1 hI1 hE1 hs1;refine sg0 ?_;apply hK;refine go trivial ?_;refine zaw (Q:=λ e σ' ds' v'=>ds'=[]/\((e= .exit 0/\σ' 0= .func (.yield lp) #[] #[]/\J (digs.map λ c=>[c]) v'/\W.heap.size<=v'.heap.size)\/(e= .ret/\∃pre x suf,wordsL=pre++x::suf/\Jx (pre++ [x]) v'))) ?_ ?_
 ·refine zgX 36 (λ i σ v=>σ 8= .pointer (some ⟨W.heap.size,0,.none⟩)/\σ 0= .func (.yield lp) #[] #[]/\J ((digs.take i).map λ c=>[c]) v/\StrIt v W.heap.size digs i/\W.heap.size<=v.heap.size) ?_ ?_ ?_
  ·exact⟨vq0,vq0,hJ _ _ _ h0 (hE1.mono λ _ _ h=>h.elim),hI1,oM⟩
  ·rintro i σ v hi q ⟨s8,s0,hj,hIt,hsz⟩;refine rqz ?_;intro gd K hgd hK;refine sgz s8 ?_;refine zd8 ((vq1 s8)) hIt zcu (λ h=>absurd hi oM) ?_;intro hi' v1 hIt1 hk1 hz1;refine sg0 ?_;apply hK;refine go trivial ?_;refine rq ?_;intro gd K hgd hK;refine sgz s0 ?_;refine conv_i2s rfl rfl vr0 (zcu _ (yac hi')) ?_;refine sgz s0 ?_;have hsp:wordsL=(digs.take i).map (λ c=>[c])++ [digs[i]]::((digs.drop (i+1)).map (λ c=>[c])++(digs.flatMap (λ c=>digs.map λ d=>[c,d])++ [[48,48,48]])):=by
    unfold wordsL;rw[ziM (λ c=>[c]) hi',yla,yla,yav]
   have hj1:=hJ _ _ _ hj (hk1.mono λ b _ h=>oM);refine Yld.mono (hY _ _ _ v1 _ hsp hj1 rfl) ?_;rintro u z (⟨rfl,hjz,hkr⟩| ⟨rfl,hjx⟩)
   ·refine sg0 ?_;apply hK;refine go trivial ?_;have hz2:=hkr.size;exact⟨rfl,vq1 s8,vq1 s0,by rw[zal hi',yaC];exact hjz,hkr.str hCW (ynl _) hIt1,oM⟩
   ·refine sg0 ?_;apply hK;refine go trivial ?_;exact⟨rfl,.inr ⟨rfl,_,_,_,hsp,hjx⟩⟩
  ·rintro σ v _ ⟨s8,s0,hj,hIt,hsz⟩;refine rqz ?_;intro gd K hgd hK;refine sgz s8 ?_;refine zd8 ((vq1 s8)) hIt zcu (λ h=>?_) (λ h=>absurd h (by rw[dl];omega));refine sg0 ?_;apply hK;refine go trivial ?_;exact⟨rfl,.inl ⟨rfl,vq1 s0,by rw[←dl,yaT]at hj;exact hj,hsz⟩⟩
 rintro e σ ds w2 ⟨rfl,(⟨rfl,s0,hj,hsz⟩| ⟨rfl,hjx⟩)⟩
 rotate_left
 ·refine go trivial ?_;exact zap sM rfl (.inr hjx)
 refine go trivial ?_;refine rq ?_;intro gd K hgd hK;refine sg0 ?_;refine zgp (s:=digs) rfl rfl ?_;intro w3 hI3 hE3 hs3;refine sg0 ?_;apply hK;refine go trivial ?_;obtain⟨r,hr⟩:∃r,w2.heap.size=r:=⟨_,rfl⟩;rw[hr]at hI3 ⊢;have hrW:W.heap.size<=r:=oM;refine zaw (Q:=λ e σ' ds' v'=>ds'=[]/\((e= .exit 2/\σ' 0= .func (.yield lp) #[] #[]/\J (digs.map (λ c=>[c])++digs.flatMap λ c=>digs.map λ d=>[c,d]) v')\/(e= .ret/\∃pre x suf,wordsL=pre++x::suf/\Jx (pre++ [x]) v'))) ?_ ?_
 ·refine zgX 36 (λ i σ v=>σ 17= .pointer (some ⟨r,0,.none⟩)/\σ 0= .func (.yield lp) #[] #[]/\J (digs.map (λ c=>[c])++(digs.take i).flatMap λ c=>digs.map λ d=>[c,d]) v/\StrIt v r digs i) ?_ ?_ ?_
  ·exact⟨vq0,vq1 s0,by simpa using hJ _ _ _ hj (hE3.mono λ _ _ h=>h.elim),hI3⟩
  ·rintro i σ v hi q ⟨s17,s0,hj,hIt⟩;refine rqz ?_;intro gd K hgd hK;refine sgz s17 ?_;refine zd8 ((vq1 s17)) hIt zcu (λ h=>absurd hi oM) ?_;intro hi' v1 hIt1 hk1 hz1;refine sg0 ?_;apply hK;refine go trivial ?_;refine rq ?_;intro gd K hgd hK;refine sg0 ?_;refine zgp (s:=digs) rfl rfl ?_;intro v2 hI2 hE2 hs2;refine sg0 ?_;apply hK;refine go trivial ?_;have hlt:=hIt1.lt;obtain⟨p,hp⟩:∃p,v1.heap.size=p:=⟨_,rfl⟩;rw[hp]at hI2 hlt ⊢;obtain⟨c,hc⟩:∃c,digs[i]=c:=⟨_,rfl⟩;have hcl:c.toNat<128:=zcu _ (by rw[←hc];exact yac hi');rw[hc];have hsp0:wordsL=(digs.map (λ c=>[c])++(digs.take i).flatMap λ c=>digs.map λ d=>[c,d])++((digs.map λ d=>[c,d])++((digs.drop (i+1)).flatMap (λ c=>digs.map λ d=>[c,d])++ [[48,48,48]])):=by
    unfold wordsL;rw[zlO (λ c=>digs.map λ d=>[c,d]) hi',hc];simp only[yla]
   have hjn:J ((digs.map (λ c=>[c])++(digs.take i).flatMap λ c=>digs.map λ d=>[c,d])++(digs.map λ d=>[c,d]))=J (digs.map (λ c=>[c])++(digs.take (i+1)).flatMap λ c=>digs.map λ d=>[c,d]):=by
    rw[zal hi',ybB,yla,hc];simp
   obtain⟨A,hA⟩:∃A,digs.map (λ c=>[c])++(digs.take i).flatMap (λ c=>digs.map λ d=>[c,d])=A:=⟨_,rfl⟩;rw[hA]at hj hsp0 hjn;have hj2:=hJ _ _ _ (hJ _ _ _ hj (hk1.mono λ b _ h=>by show _<=_;omega)) (hE2.mono λ _ _ h=>h.elim);have hIt2:StrIt v2 r digs (i+1):=hIt1.block (hE2.block _ oM (λ h=>h));refine zgX 36 (λ k σ v=>σ 21= .pointer (some ⟨p,0,.none⟩)/\σ 17= .pointer (some ⟨r,0,.none⟩)/\σ 0= .func (.yield lp) #[] #[]/\σ 5= .int .i32 c.toNat/\J (A++(digs.take k).map λ d=>[c,d]) v/\StrIt v r digs (i+1)/\StrIt v p digs k) ?_ ?_ ?_
   ·exact⟨vq0,vq1 s17,vq1 s0,vq0,by simpa using hj2,hIt2,hI2⟩
   ·rintro k σ v hk q ⟨s21,s17,s0,s5,hj,hItr,hItp⟩;refine rqz ?_;intro gd K hgd hK;refine sgz s21 ?_;refine zd8 ((vq1 s21)) hItp zcu (λ h=>absurd hk oM) ?_;intro hk' v3 hIt3 hk3 hz3;refine sg0 ?_;apply hK;refine go trivial ?_;obtain⟨d,hd⟩:∃d,digs[k]=d:=⟨_,rfl⟩;have hdl:d.toNat<128:=zcu _ (by rw[←hd];exact yac hk');rw[hd];refine rq ?_;intro gd K hgd hK;refine sgz (az2 s0 s5) ?_;refine bs_two (z:= .int .i32 0) rfl rfl rfl rfl rfl rfl ?_;intro v4 hE4 hs4 ho4;refine sg0 ?_;have hr4:=ho4.row;obtain⟨a4,c4,e4,_,hg4⟩:=id hr4;refine conv_r2s rfl rfl rfl vr0 hcl hdl ?_ ?_ ?_
    ·have:=hg4 0 sM;cases e4;exact this
    ·have:=hg4 1 sM;cases e4;exact this
    refine sgz s0 ?_;have hsp:wordsL=(A++(digs.take k).map λ d=>[c,d])++ [c,d]::((digs.drop (k+1)).map (λ d=>[c,d])++((digs.drop (i+1)).flatMap (λ c=>digs.map λ d=>[c,d])++ [[48,48,48]])):=by
     rw[hsp0,ziM (λ d=>[c,d]) hk',hd];simp only[yla,yav]
    have hj4:=hJ _ _ _ (hJ _ _ _ hj (hk3.mono λ b _ h=>by show _<=_;omega)) (hE4.mono λ _ _ h=>h.elim);refine Yld.mono (hY _ _ _ v4 _ hsp hj4 rfl) ?_;have hItr4:StrIt v4 r digs (i+1):=(hItr.block (hk3.block _ hItr.lt oM)).block (hE4.block _ (by have:=hItr.lt;omega) (λ h=>h));have hItp4:StrIt v4 p digs (k+1):=hIt3.block (hE4.block _ hIt3.lt (λ h=>h));rintro u z (⟨rfl,hjz,hkr⟩| ⟨rfl,hjx⟩)
    ·refine sg0 ?_;apply hK;refine go trivial ?_;exact⟨rfl,vq1 s21,vq1 s17,vq1 s0,vq1 s5,by rw[zal hk',yaC,←yla,hd];exact hjz,hkr.str hCW hrW hItr4,hkr.str hCW oM hItp4⟩
    ·refine sg0 ?_;apply hK;refine go trivial ?_;exact⟨rfl,.inr ⟨rfl,_,_,_,hsp,hjx⟩⟩
   ·rintro σ v _ ⟨s21,s17,s0,s5,hj,hItr,hItp⟩;refine rqz ?_;intro gd K hgd hK;refine sgz s21 ?_;refine zd8 ((vq1 s21)) hItp zcu (λ h=>?_) (λ h=>absurd h (by rw[dl];omega));refine sg0 ?_;apply hK;refine go trivial ?_;rw[←dl,yaT,hjn]at hj;exact⟨rfl,vq1 s17,vq1 s0,hj,hItr⟩
  ·rintro σ v _ ⟨s17,s0,hj,hIt⟩;refine rqz ?_;intro gd K hgd hK;refine sgz s17 ?_;refine zd8 ((vq1 s17)) hIt zcu (λ h=>?_) (λ h=>absurd h (by rw[dl];omega));refine sg0 ?_;apply hK;refine go trivial ?_;rw[←dl,yaT]at hj;exact⟨rfl,.inl ⟨rfl,vq1 s0,hj⟩⟩
 rintro e σ ds w4 ⟨rfl,(⟨rfl,s0,hj⟩| ⟨rfl,hjx⟩)⟩
 rotate_left
 ·refine go trivial ?_;exact zap sM rfl (.inr hjx)
 refine go trivial ?_;refine rq ?_;intro gd K hgd hK;refine sgz s0 ?_;have hsp:wordsL=(digs.map (λ c=>[c])++digs.flatMap λ c=>digs.map λ d=>[c,d])++ [48,48,48]::[]:=rfl;refine Yld.mono (hY _ _ _ w4 _ hsp hj rfl) ?_;rintro u z (⟨rfl,hjz,hkr⟩| ⟨rfl,hjx⟩)
 ·refine sg0 ?_;apply hK;refine go trivial ?_;exact zap sM rfl (.inl hjz)
 ·refine sg0 ?_;apply hK;refine go trivial ?_;exact zap sM rfl (.inr ⟨_,_,_,hsp,hjx⟩)
def hadK(kids:List Lab)(y:Lab):Bool:=kids.any λ k=>decide (zaJ k=y)
theorem fresh_at{kids:List Lab}{pre suf:List Lab}{x:Lab}(h:wordsL=pre++x::suf)(hp:∀y∈pre,hadK kids y=true)(hx:hadK kids x=false):zbs kids=x:=by
 unfold zbs;rw[h,ydn];have:pre.find? (λ w=>!(kids.any λ k=>decide (zaJ k=w)))= .none:=ybF.2 λ y hy=>by
  have:=hp y hy;unfold hadK at this;rw[this];simp
 rw[this];unfold hadK at hx;simp[hx]
theorem fresh_no{kids:List Lab}(hp:∀y∈wordsL,hadK kids y=true):zbs kids=[]:=by
 unfold zbs;have:wordsL.find? (λ w=>!(kids.any λ k=>decide (zaJ k=w)))= .none:=ybF.2 λ y hy=>by
  have:=hp y hy;unfold hadK at this;rw[this];simp
 rw[this];rfl
theorem had_snoc{kids:List Lab}(h:i<kids.length)(y:Lab):hadK (kids.take (i+1)) y=(hadK (kids.take i) y||decide (zaJ kids[i]=y)):=by
 unfold hadK;rw[zal h,List.any_append];simp
theorem words_ok(w:World):Fn prog 95 #[] w (λ v w'=>v= .func (.func 136) #[] #[]/\Ext w w'):=by
 refine enx func95 ntmps95 ?_;refine go trivial ?_;refine rt0 ntmps95 ?_;exact⟨rfl,Keep.refl _ _⟩
structure FrI(w v:World)(b:Nat)(M:List (Lab×Value)):Prop where
 r:v.heap[b]? =some (.cells #[vs []] 9 (0,0))
 c:v.heap[b+2]? =some (.cells #[.map (some (b+1))] 206 (0,0))
 m:MapAt v (b+1) M
 e:Ext w v
theorem FrI.lt{v:World}{M:List (Lab×Value)}(h:FrI w v b M):b+2<v.heap.size:=(yaa.1 h.c).1
theorem FrI.keep{v:World}{M:List (Lab×Value)}(h:FrI w v b M)(hw:w.heap.size<=b)(hk:Keep S v x)(hS:∀i,S i->b+3<=i):FrI w x b M:=by
 have:=h.lt;have hn:∀i,i<b+3->¬S i:=λ i hi hs=>by have:=hS i hs;omega
 exact⟨(hk.block _ oM (hn _ oM)).trans h.r,(hk.block _ oM (hn _ oM)).trans h.c,h.m.block (hk.block _ oM (hn _ oM)),ykt h.e rfl (λ i hi=>by have:=hS i hi;omega) hk⟩
theorem Fresh_ok(w:World)(kv:Value)(kids:List Lab)(hk:Row w kv (kids.map vs))(hb:LB kids)(hl:kids.length<=1000000000):
  Fn prog 60 #[kv] w (λ v w'=>v=vs (zbs kids)/\Ext w w'):=by
 obtain⟨a,c,rfl,hc,hg⟩:=hk;rw[ylm]at hc ⊢;refine enx func60 ntmps60 ?_;refine go trivial ?_;refine zav ?_;intro w1 hE1 hs1 hA;obtain⟨b,hbe⟩:∃b,w.heap.size=b:=⟨_,rfl⟩;rw[hbe]at hA hs1 ⊢;refine rq ?_;intro gd K hgd hK;refine sg0 ?_;rw[zai,hs1];refine st_al2 ?_;rw[hs1];intro z hEz hsz hM hC;rw[show b+1+1=b+2 from rfl]at hC ⊢;refine zbx rfl rfl rfl hC sM sM ?_;intro w2 hs2 hC2 hk2;refine sg0 ?_;apply hK;have hF:FrI w w2 b []:=⟨(hk2.block _ oM oM).trans (Ext.at hEz hA),hC2,MapAt.block ⟨_,_,hM,rfl,sM,sM⟩ (hk2.block _ oM oM),ykt (hE1.trans hEz) rfl (λ i hi=>oM) hk2⟩;clear hA hEz hsz hM hC hs2 hC2 hk2 z;refine go trivial ?_;refine zaw (Q:=λ e σ' ds' v=>e= .exit 0/\ds'=[]/\σ' 2= .pointer (some ⟨b,0,.none⟩)/\σ' 3= .pointer (some ⟨b+2,0,.none⟩)/\∃M,FrI w v b M/\∀k,M.lookup k=if hadK kids k then some (.bool true) else .none) ?_ ?_
 ·refine zgX kids.length (λ i σ v=>(σ 10=vi i/\σ 9=vi kids.length/\σ 8= .slice a kids.length c/\σ 2= .pointer (some ⟨b,0,.none⟩)/\σ 3= .pointer (some ⟨b+2,0,.none⟩))/\∃M,FrI w v b M/\∀k,M.lookup k=if hadK (kids.take i) k then some (.bool true) else .none) ?_ ?_ ?_
  ·exact⟨⟨vr0,vq0,vq0,vq0,vq0⟩,[],hF,λ k=>rfl⟩
  ·rintro i σ v hi q ⟨s,M,hFv,hMl⟩;have g:=zaa hFv.e (hg i (by rw[ylm];exact hi));rw[yaA]at g;obtain⟨xa,rfl⟩:=yxs (zaf g);have pc:zad v (some ⟨b+2,0,.none⟩)=some (.map (some (b+1))):=zab hFv.c rfl;obtain⟨k,hke⟩:∃k,kids[i]=k:=⟨_,rfl⟩;have hsn:=had_snoc hi;rw[hke]at g hsn;have hkb:k.length<=9000000000000000000:=hb k (by rw[←hke];exact yac hi);refine go (an3 s q g) ?_;refine zaw (Q:=λ e σ' ds' v'=>e= .normal/\ds'=[]/\(σ' 10=vi i/\σ' 9=vi kids.length/\σ' 8= .slice (some xa) kids.length c/\σ' 2= .pointer (some ⟨b,0,.none⟩)/\σ' 3= .pointer (some ⟨b+2,0,.none⟩))/\∃M,FrI w v' b M/\∀k,M.lookup k=if hadK (kids.take (i+1)) k then some (.bool true) else .none) ?_ ?_
   ·refine zaF (λ i=>i==3) [(0,true),(1,true),(2,false),(3,false)] NoS mixed kR ?_;intro gd K x hgd hx hxe hK;have pcx:=zaa hx pc;refine sgz (az2 s pcx) ?_;refine yfm (zc4 x k hkb) ?_;rintro _ y ⟨rfl,hy⟩;refine⟨.inr hy,?_⟩;refine sg0 ?_;have hFy:=hFv.keep oM (hx.trans hy) (λ i h=>h.elim);have hly:=hFy.lt;cases hh:hadK (kids.take i) (zaJ k) with
    |true=>
     refine zhe (l:=M) (key:=zaJ k) (v:= .bool true) rfl rfl vq0 vq0 vr0 hFy.m (by rw[hMl,hh];rfl) ?_;intro z hm hkz hz;refine⟨.inl rfl,?_⟩;refine sg0 ?_;apply hK;refine⟨rfl,rfl,sc s,M,⟨(hkz.block _ oM oM).trans hFy.r,(hkz.block _ oM oM).trans hFy.c,hm,ykt hFy.e rfl (λ i hi=>oM) hkz⟩,λ y=>?_⟩;rw[hMl,hsn];by_cases hy:zaJ k=y
     ·subst hy;rw[hh];rfl
     ·rw[yef hy,Bool.or_false]
    |false=>
     refine zdK (l:=M) (key:=zaJ k) (v:= .bool true) rfl rfl vq0 vq0 vr0 hFy.m (by rw[hMl,hh];rfl) ?_;intro z hm hkz hz;refine⟨.inl rfl,?_⟩;refine sg0 ?_;apply hK;refine⟨rfl,rfl,sc s,_,⟨(hkz.block _ oM oM).trans hFy.r,(hkz.block _ oM oM).trans hFy.c,hm,ykt hFy.e rfl (λ i hi=>oM) hkz⟩,λ y=>?_⟩;rw[List.lookup_append,hMl,hsn];by_cases hy:zaJ k=y
     ·subst hy;rw[hh];simp
     ·rw[yef hy,Bool.or_false];have:(y==zaJ k)=false:=beq_eq_false_iff_ne.2 λ e=>hy e.symm;cases hadK (kids.take i) y<;>simp[List.lookup,this]
   rintro _ σ1 _ v1 ⟨rfl,rfl,s1,M1,hF1,hM1⟩;refine go (an2 s1 q) ?_;exact⟨rfl,sc (an2 s1 q),M1,hF1,hM1⟩
  ·rintro σ v q ⟨s,M,hFv,hMl⟩;refine go (an2 s q) ?_;rw[yaT]at hMl;exact⟨rfl,rfl,vq1 s,vq1 s,M,hFv,hMl⟩
 rintro _ σ _ w3 ⟨rfl,rfl,s2,s3,M,hF3,hMl⟩;refine go trivial ?_;refine rc trivial (words_ok w3) ?_;rintro _ w4 ⟨rfl,hE4⟩;refine rgo trivial ?_;have hF4:=hF3.keep oM hE4 (λ i h=>h.elim);have hl4:=hF4.lt;obtain⟨D,hD⟩:∃D,w4.heap.size=D:=⟨_,rfl⟩;refine zaw (Q:=λ e σ' ds' v'=>(e= .normal\/e= .ret)/\ds'=[{target:= .collected D,args:=#[]}]/\v'.heap[D]? =some (.deferred (some []))/\σ' 2= .pointer (some ⟨b,0,.none⟩)/\Ext w v'/\b<D/\((e= .normal/\zbs kids=[]/\v'.heap[b]? =some (.cells #[vs []] 9 (0,0)))\/(e= .ret/\v'.heap[b]? =some (.cells #[vs (zbs kids)] 9 (0,0))))) ?_ ?_
 ·refine W_rangeN (g:=136) (cap:=#[]) vq0 rfl (wordsIt (C:=λ i=>i=b) (W0:=w4) (n0:=w4.heap.size) (λ i hi=>oM)) ykr (ynl _) (λ i hi=>oM)
   (λ x B args h=>by rw[h];rfl)
   (λ pre v=>FrI w v b M/\∀y∈pre,hadK kids y=true)
   (λ c pre v=>c= .ret/\Ext w v/\∃pre' x,pre=pre'++ [x]/\(∀y∈pre',hadK kids y=true)/\hadK kids x=false/\v.heap[b]? =some (.cells #[vs x] 9 (0,0))) ?_ ?_ ?_ ?_ ?_ ?_
  ·rintro pre A B ⟨h1,h2⟩ hk;exact⟨h1.keep oM hk (λ i hi=>oM),h2⟩
  ·rintro c pre A B ⟨rfl,h1,pre',x,h2,h3,h4,h5⟩ hk;exact⟨rfl,ykt h1 rfl (λ i hi=>oM) hk,pre',x,h2,h3,h4,(hk.block _ (yaa.1 h5).1 oM).trans h5⟩
  ·exact⟨hF4,λ y hy=>by cases hy⟩
  ·rintro lp pre x suf A args hxs hszA ⟨h1,h2⟩ rfl;refine rq ?_;intro gd K hgd hK;refine sg0 ?_;apply hK;refine zao ?_;refine⟨rfl,Keep.refl _ _,λ Y hY=>?_⟩;have hFY:=h1.keep oM hY (λ i hi=>by unfold two at hi;omega);have hlY:=hFY.lt;have pc:zad Y (some ⟨b+2,0,.none⟩)=some (.map (some (b+1))):=zab hFY.c rfl;have hlk:=hFY.m.lk (P:=prog) (t:=206) (kt:=9) (et:=4) (z:= .bool false) rfl rfl rfl x;replace hlk:lkV prog Y 206 (.map (some (b+1))) (vs x) false=some (.bool (hadK kids x)):=by rw[hlk,hMl];cases hadK kids x<;>rfl
   cases hh:hadK kids x with
   |true=>
    rw[hh]at hlk;refine go trivial ?_;refine rq ?_;intro gd K hgd hK;refine sgz (az2 s3 pc) ?_;refine zeQ vr0 vr0 hlk ?_;refine sg0 ?_;apply hK;refine go trivial ?_;refine⟨⟨hFY,λ y hy=>?_⟩,Keep.refl _ _⟩;rcases yai.1 hy with hy|hy
    ·exact h2 y hy
    ·rw[yae.1 hy];exact hh
   |false=>
    rw[hh]at hlk;refine go trivial ?_;refine rq ?_;intro gd K hgd hK;refine sgz (az2 s3 pc) ?_;refine zeQ vr0 vr0 hlk ?_;refine sg0 ?_;apply hK;refine go trivial ?_;refine rq ?_;intro gd K hgd hK;refine sgz s2 ?_;refine zbx rfl rfl rfl hFY.r sM sM ?_;intro z hz1 hz2 hk;refine sg0 ?_;apply hK;refine go trivial ?_;exact⟨⟨rfl,ykt hFY.e rfl (λ i hi=>oM) hk,pre,x,rfl,h2,hh,hz2⟩,hk⟩
  ·rintro v hsz ⟨h1,h2⟩ hDv;rw[hD]at hDv;exact⟨.inl rfl,by rw[hD],hDv,vq1 s2,h1.e,oM,.inl ⟨rfl,fresh_no h2,h1.r⟩⟩
  ·rintro c pre x suf v hsz hxs ⟨rfl,h1,pre',x',h2,h3,h4,h5⟩ hDv;rw[hD]at hDv;obtain⟨rfl,h6⟩:=yci h2 rfl;obtain rfl:x=x':=sU h6;refine go trivial ?_;exact⟨.inr rfl,by rw[hD],hDv,vq1 s2,h1,oM,.inr ⟨rfl,by rw[fresh_at hxs h3 h4];exact h5⟩⟩
 rintro e σ2 ds v ⟨_,rfl,hDv,t2,hEv,hbD,(⟨rfl,hf,hr⟩| ⟨rfl,hr⟩)⟩
 ·have hlv:=(yaa.1 hr).1;refine go trivial ?_;refine rq ?_;intro gd K hgd hK;refine sgz t2 ?_;refine zbx rfl rfl rfl hr sM sM ?_;intro z hz1 hz2 hk;refine sg0 ?_;apply hK;refine go trivial ?_;refine zbC (.inr rfl) ntmps60 rfl ((hk.block _ (yaa.1 hDv).1 oM).trans hDv) λ y hy hys=>⟨_,zff (v:=vs []) ((vq1 t2)) rfl rfl (zab (i:=0) ((hy.block _ oM oM).trans hz2) rfl) zas,?_⟩;exact⟨by rw[hf];rfl,ykt (ykt hEv rfl (λ i hi=>oM) hk) rfl (λ i hi=>oM) hy⟩
 ·have hlv:=(yaa.1 hr).1;refine go trivial ?_;refine zbC (.inr rfl) ntmps60 rfl hDv λ y hy hys=>⟨_,zff (v:=vs (zbs kids)) ((vq1 t2)) rfl rfl (zab (i:=0) ((hy.block _ oM oM).trans hr) rfl) zas,?_⟩;exact⟨rfl,ykt hEv rfl (λ i hi=>oM) hy⟩
structure ClsAt(w:World)(cs:List Value)(c:ClsL):Prop where
 ex:∃nv,cs=[nv,.bool c.other]/\Row w nv (c.name.map vs)
theorem ClsAt.ext{c:ClsL}(h:ClsAt w cs c)(hE:Ext w x):ClsAt x cs c:=by
 obtain⟨nv,e,hr⟩:=h.ex;exact⟨nv,e,hr.ext hE⟩
instance Tr.cls{v:Value}{C:List ClsL}:Tr fun w=>Rows 2 (ClsAt w) w v C:=⟨fun hE h=>(h.ext hE).to fun _ _ h=>h.ext hE⟩
theorem zkZ{w:World}{v:Value}{C:List ClsL}(h:Rows 2 (ClsAt w) w v C):∃a c,v= .slice a C.length c/\∀i (hi:i<C.length),∃x nv,adr a (i*2)=some x/\a.isSome=true/\zat w (some x) 2=some [nv,.bool C[i].other]/\Row w nv (C[i].name.map vs):=by
 obtain⟨a,c,e,_,hg⟩:=h.open;refine⟨a,c,e,λ i hi=>?_⟩;obtain⟨cs,hc,hA⟩:=hg i hi;obtain⟨nv,rfl,hr⟩:=hA.ex;obtain⟨y,rfl⟩:=yxs (zak hc);obtain⟨x,hx⟩:∃x,adr (some y) (i*2)=some x:=⟨_,rfl⟩;rw[hx]at hc;exact⟨x,nv,hx,rfl,hc,hr⟩
theorem ofF_snoc{st:Bool}{C:List ClsL}(h:i<C.length):ofF st (C.take (i+1)) q=ofP st q (ofF st (C.take i) q) C[i]:=by
 unfold ofF;rw[zal h,ybI];rfl
theorem ofF_name{st:Bool}{C:List ClsL}{p:Nm->Prop}(h0:p [])(h:∀c∈C,p c.name):p (ofF st C q).1.name:=by
 obtain⟨_,_,_,i4⟩:=zjN (st:=st) (q:=q) (C:=C) (b:=(⟨[],false⟩,false)) (λ h=>by cases h);rcases i4 with e| ⟨c,hc,e⟩
 ·unfold ofF;rw[e];exact h0
 ·unfold ofF;rw[e];exact h c hc
structure OfI(w v:World)(b t:Nat)(nv:Value)(B:ClsL):Prop where
 r:v.heap[b]? =some (.cells #[.slice .none 0 0,.bool false] t (0,0))
 c:v.heap[b+1]? =some (.cells #[nv,.bool B.other] t (0,0))
 n:Row w nv (B.name.map vs)
 e:Ext w v
theorem OfI.ext{v:World}{t:Nat}{B:ClsL}(h:OfI w v b t nv B)(hE:Ext v x):OfI w x b t nv B:=⟨Ext.at hE h.r,Ext.at hE h.c,h.n,h.e.trans hE⟩
theorem OfI.lt{v:World}{t:Nat}{B:ClsL}(h:OfI w v b t nv B):b+1<v.heap.size:=(yaa.1 h.c).1
theorem OfI.set{v:World}{t:Nat}{mv:Value}{B B':ClsL}(h:OfI w v b t nv B)(hw:w.heap.size<=b)(hk:Keep (λ i=>i=b+1) v x)(hc:x.heap[b+1]? =some (.cells #[mv,.bool B'.other] t (0,0)))(hn:Row w mv (B'.name.map vs)):OfI w x b t mv B':=
 ⟨(hk.block _ (yaa.1 h.r).1 oM).trans h.r,hc,hn,ykt h.e rfl (λ i hi=>oM) hk⟩
theorem COf_ok(w:World){qv:Value}{C:List ClsL}(hC:Rows 2 (ClsAt w) w lv C)(hq:Row w qv (q.map vs))(hk:∀c∈C,NmK c.name)(mq:NmM q)(hl:C.length<=1000000000):
  Fn prog 31 #[lv,qv] w (λ v w'=>Ext w w'/\∃nv,v= .tuple #[.agg #[nv,.bool (ofF true C q).1.other],.bool (ofF true C q).2]/\Row w' nv ((ofF true C q).1.name.map vs)):=by
 obtain⟨a,c,rfl,hg⟩:=zkZ hC;obtain⟨aq,cq,hqv,_⟩:=id hq;rw[ylm]at hqv;have lq:=mq.len;obtain⟨b,hb⟩:∃b,w.heap.size=b:=⟨_,rfl⟩;refine enx func31 ntmps31 ?_;refine go trivial ?_;refine zav ?_;rw[hb];intro w1 hE1 hs1 hA;refine rq ?_;intro gd K hgd hK;refine sg0 ?_;refine⟨by kernel_rfl,?_⟩;rw[show bdV prog 87 []=some (.agg #[.slice .none 0 0,.bool false]) from by kernel_rfl];refine sg0 ?_;rw[hs1];refine zmo ?_;rw[hs1];intro z hEz hsz hB;refine zaL (P:=prog) (l:=[.slice .none 0 0,.bool false]) hB rfl (za7 rfl rfl) rfl rfl ?_;intro w2 hs2 hB2 hk2;refine sg0 ?_;apply hK;have hI:OfI w w2 b 87 (.slice .none 0 0) ⟨[],false⟩:=⟨(hk2.block _ oM oM).trans (Ext.at hEz hA),hB2,⟨.none,0,rfl,ynl _,λ j h=>by simp at h⟩,ykt (hE1.trans hEz) rfl (λ i hi=>oM) hk2⟩;clear hA hB hB2 hk2 hs2 hEz hsz z;refine go trivial ?_;refine zaw (Q:=λ e σ' ds' v=>e= .exit 0/\ds'=[]/\(σ' 4= .pointer (some ⟨b,0,.none⟩)/\σ' 6= .pointer (some ⟨b+1,0,.none⟩)/\σ' 7= .bool (ofF true C q).2)/\∃nv,OfI w v b 87 nv (ofF true C q).1) ?_ ?_
 ·refine zgX C.length (λ i σ v=>(σ 13=vi i/\σ 12=vi C.length/\σ 11= .slice a C.length c/\σ 1=qv/\σ 4= .pointer (some ⟨b,0,.none⟩)/\σ 6= .pointer (some ⟨b+1,0,.none⟩)/\σ 7= .bool (ofF true (C.take i) q).2)/\∃nv,OfI w v b 87 nv (ofF true (C.take i) q).1) ?_ ?_ ?_
  ·exact⟨⟨vr0,vq0,vq0,vq0,vq0,vq0,vr0⟩,_,hI⟩
  ·rintro i σ v hi p ⟨s,mv,hIv⟩;obtain⟨x,nv,hx,ha,hcs,hnv⟩:=hg i hi;obtain⟨xa,rfl⟩:=yxs ha;have d:=zac hIv.e hcs;have hmem:=yac hi;obtain⟨y,hy⟩:∃y,C[i]=y:=⟨_,rfl⟩;have hsn:=ofF_snoc (st:=true) (q:=q) hi;rw[hy]at hcs hnv d hmem hsn;obtain⟨B,hB⟩:∃B,ofF true (C.take i) q=B:=⟨_,rfl⟩;rw[hB]at s hIv hsn;have ky:=hk y hmem;have ly:=ky.len;obtain⟨ay,cy,hnve,_⟩:=id hnv;obtain⟨am,cm,hmve,_⟩:=id hIv.n;rw[ylm]at hnve hmve;refine go (an3 s p hx) ?_;refine rq ?_;intro gd K hgd hK;refine sgz (az4 s p hx d) ?_;refine zaV (P:=prog) (l:=[nv,.bool y.other]) rfl (za7 hnv.isOne rfl) rfl rfl ?_;intro v1 hE3 hs3 hD;refine sg0 ?_;apply hK;have hI1:=hIv.ext hE3;have hl1:=hIv.lt;obtain⟨p9,hp9⟩:∃p,v.heap.size=p:=⟨_,rfl⟩;rw[hp9]at hD ⊢;have g0:zad v1 (some ⟨p9,0,.none⟩)=some nv:=zab (i:=0) hD rfl;refine go trivial ?_;refine zaw (Q:=λ e σ' ds' v'=>e= .normal/\ds'=[]/\(σ' 9= .pointer (some ⟨p9,0,.none⟩)/\σ' 13=vi i/\σ' 12=vi C.length/\σ' 11= .slice (some xa) C.length c/\σ' 1=qv/\σ' 4= .pointer (some ⟨b,0,.none⟩)/\σ' 6= .pointer (some ⟨b+1,0,.none⟩)/\σ' 7= .bool B.2)/\Ext v1 v'/\σ' 33= .bool (zaN q y.name && (!B.2||ziN true B.1.name.length y.name.length))) ?_ ?_
   ·cases hu:zaN q y.name with
    |false=>
     refine rcg [(4,21),(7,24)] (an2 s g0) (zbF v1 _ _ _ _ (hq.ext hI1.e) (hnv.ext hI1.e) mq.LB ky.LB oM oM) ?_;rintro _ v2 ⟨rfl,hE4⟩;refine reg [(4,21),(7,24)] hu ?_;exact⟨rfl,rfl,sc s,hE4,vr1 hu⟩
    |true=>
     cases hb2:B.2 with
     |false=>
      rw[hb2]at s;refine rcg [(4,21),(7,24)] (an2 s g0) (zbF v1 _ _ _ _ (hq.ext hI1.e) (hnv.ext hI1.e) mq.LB ky.LB oM oM) ?_;rintro _ v2 ⟨rfl,hE4⟩;refine reg [(4,21),(7,24)] (an2 hu s) ?_;exact⟨rfl,rfl,sc s,hE4,vr1 hu⟩
     |true=>
      rw[hb2]at s;refine rcg [(4,21),(7,24)] (an2 s g0) (zbF v1 _ _ _ _ (hq.ext hI1.e) (hnv.ext hI1.e) mq.LB ky.LB oM oM) ?_;rintro _ v2 ⟨rfl,hE4⟩;have g02:=zaa hE4 g0;have g62:zad v2 (some ⟨b+1,0,.none⟩)=some mv:=zab (i:=0) (hI1.ext hE4).c rfl;rw[hnve]at g02;rw[hmve]at g62;refine reg [(4,21),(7,24)] (an4 hu s g02 g62) ?_;have hlt:decide ((y.name.length:Int)>(B.1.name.length:Int))=ziN true B.1.name.length y.name.length:=by
       show decide _=decide _;exact decide_eq_decide.2 oM
      exact⟨rfl,rfl,sc s,hE4,vr1 hlt⟩
   clear s;rintro _ σ1 _ v2 ⟨rfl,rfl,s,hE4,s33⟩;have hI2:=hI1.ext hE4;have g02:=zaa hE4 g0;cases ht:(zaN q y.name && (!B.2||ziN true B.1.name.length y.name.length)) with
   |false=>
    rw[ht]at s33;refine go (an3 s s33 p) ?_;have e:ofF true (C.take (i+1)) q=B:=by rw[hsn];unfold ofP;rw[ht];rfl
    exact⟨rfl,by rw[e];exact sc (an2 s p),mv,by rw[e];exact hI2⟩
   |true=>
    rw[ht]at s33;have e:ofF true (C.take (i+1)) q=(⟨y.name,decide (y.name.length<q.length)⟩,true):=by rw[hsn];unfold ofP;rw[ht];rfl
    refine go (an2 s s33) ?_;refine rq ?_;intro gd K hgd hK;have hlt:decide ((y.name.length:Int)<(q.length:Int))=decide (y.name.length<q.length):=decide_eq_decide.2 oM;rw[hnve]at g02;refine sgz (az4 s g02 hqv hlt) ?_;refine⟨by kernel_rfl,?_⟩;rw[show bdV prog 87 [(0,.slice ay y.name.length cy),(1,.bool (decide (y.name.length<q.length)))]=some (.agg #[.slice ay y.name.length cy,.bool (decide (y.name.length<q.length))]) from by kernel_rfl];refine sgz s ?_;refine zaL (P:=prog) (l:=[.slice ay y.name.length cy,.bool (decide (y.name.length<q.length))]) hI2.c rfl (za7 rfl rfl) rfl rfl ?_;intro v3 hs5 hB5 hk5;refine sg0 ?_;apply hK;refine go (an2 s p) ?_;exact⟨rfl,by rw[e];exact sc (an2 s p),_,by rw[e];exact hI2.set oM hk5 hB5 (by rw[←hnve];exact hnv)⟩
  ·rintro σ v p ⟨s,mv,hIv⟩;rw[yaT]at s hIv;refine go (an2 s p) ?_;exact⟨rfl,rfl,sc s,mv,hIv⟩
 rintro _ σ _ v ⟨rfl,rfl,s,mv,hIv⟩;have hl1:=hIv.lt;have d6:zat v (some ⟨b+1,0,.none⟩) 2=some [mv,.bool (ofF true C q).1.other]:=zah (l:=[mv,.bool (ofF true C q).1.other]) hIv.c rfl;refine go trivial ?_;refine rq ?_;intro gd K hgd hK;refine sgz (az2 s d6) ?_;refine zaL (P:=prog) (l:=[mv,.bool (ofF true C q).1.other]) hIv.r rfl (za7 hIv.n.isOne rfl) rfl rfl ?_;intro v2 hs2 hB2 hk2;refine sg0 ?_;apply hK;refine go trivial ?_;have hE2:Ext w v2:=ykt hIv.e rfl (λ i hi=>oM) hk2;refine zau (.inr rfl) ntmps31 rfl (za0 (k:=2) (cs:=[mv,.bool (ofF true C q).1.other]) ((vq1 s)) rfl rfl (zah (l:=[mv,.bool (ofF true C q).1.other]) hB2 rfl) (zaj (v:= .bool (ofF true C q).2) ((vq1 s)) zas)) ?_;exact⟨hE2,mv,rfl,hIv.n.ext hE2⟩
theorem kid_snoc{C:List ClsL}{z:Nm}(h:i<C.length)(hf:zag C[i].name=C[i].name):
  ((decide (C[i].name.length=z.length+1) && zaN C[i].name z)=true->∃l t,C[i].name=l::t/\kidC (C.take (i+1)) z=kidC (C.take i) z++ [l])/\
  ((decide (C[i].name.length=z.length+1) && zaN C[i].name z)=false->kidC (C.take (i+1)) z=kidC (C.take i) z):=by
 have hs:=zjS ((C.take i).map λ c=>c.name) C[i].name (zag z);have he:kidC (C.take (i+1)) z=za2 ((C.take i).map (λ c=>c.name)++ [C[i].name]) (zag z):=by unfold kidC;rw[zal h,yaC];rfl
 constructor
 ·intro ht;obtain⟨l,hl⟩:=(znl hf).1 ht;exact⟨l,_,hl,by rw[he,hs.1 l hl];rfl⟩
 ·intro ht;rw[he,hs.2 (λ hh=>by rw[(znl hf).2 hh]at ht;cases ht)];rfl
theorem zkE{C:List ClsL}{z:Nm}:(kidC C z).length<=C.length:=by
 have:=zlE (C.map λ c=>c.name) (zag z);rw[ylm]at this;exact this
theorem kidC_LB{C:List ClsL}{z:Nm}(hk:∀c∈C,NmK c.name):LB (kidC C z):=λ l hl=>by
 unfold kidC za2 at hl;obtain⟨x,hx,he⟩:=yaZ.1 hl;obtain⟨c,hc,rfl⟩:=yaq.1 hx;cases hn:c.name with
 |nil=>rw[hn]at he;cases he
 |cons a t=>
  rw[hn]at he;simp only at he
  split at he
  ·cases he;have:=(hk c hc).lb l (by rw[hn];simp);omega
  ·cases he
theorem znA{kids:List Lab}:(zbs kids).length<=3:=by
 unfold zbs;cases hf:wordsL.find? λ w=>!(kids.any λ k=>decide (zaJ k=w)) with
 |none=>simp
 |some w=>
  have h:=ycC hf;unfold wordsL at h;simp only[yai,yaq,yaY,yae]at h;rcases h with (⟨c,_,rfl⟩| ⟨c,_,d,_,rfl⟩)|rfl<;>simp
theorem CRep_ok(w:World){C:List ClsL}{c:ClsL}(hC:Rows 2 (ClsAt w) w lv C)(hn:Row w nv (c.name.map vs))(hk:∀x∈C,NmK x.name/\zag x.name=x.name)(hc:NmK c.name)(hl:C.length<=1000000000):
  Fn prog 32 #[lv,.agg #[nv,.bool c.other]] w (λ v w'=>Ext w w'/\∃rv,v= .tuple #[rv,.bool (repC C c).isSome]/\Row w' rv (((repC C c).getD []).map vs)):=by
 obtain⟨a,cp,rfl,hg⟩:=zkZ hC;obtain⟨an,cn,hnve,_⟩:=id hn;rw[ylm]at hnve;have lc:=hc.len;obtain⟨b,hb⟩:∃b,w.heap.size=b:=⟨_,rfl⟩;have zbb:∀x,Row x (.slice .none 0 0) (([]:Nm).map vs):=λ x=>⟨.none,0,rfl,ynl _,λ j h=>by simp at h⟩;refine enx func32 ntmps32 ?_;refine cZ ?_;rw[hnve];refine go trivial ?_;rw[←hnve];refine zav ?_;rw[hb];intro w1 hE1 hs1 hA;have p0:zad w1 (some ⟨b,0,.none⟩)=some nv:=zab (i:=0) hA rfl;have p1:zad w1 (some ⟨b,1,.none⟩)=some (.bool c.other):=zab (i:=1) hA rfl;cases ho:c.other with
 |false=>
  rw[ho]at p1;refine go (an2 p1 p0) ?_;refine zau (.inr rfl) ntmps32 rfl (zaj (v:=nv) vq0 (zaj (v:= .bool true) vr0 zas)) ?_;unfold repC;rw[ho];exact⟨hE1,nv,rfl,hn.ext hE1⟩
 |true=>
 rw[ho]at p1;have hrep:repC C c=if zbs (kidC C c.name)=[] then .none else if zaC (zbs (kidC C c.name)::c.name)=0 then some (zbs (kidC C c.name)::c.name) else .none:=by unfold repC;rw[if_pos ho]
 refine go (an2 p1 p0) ?_;refine zaw (Q:=λ e σ' ds' v=>e= .exit 0/\ds'=[]/\σ' 3= .pointer (some ⟨b,0,.none⟩)/\Ext w1 v/\∃kv,σ' 6=kv/\Own w1.heap.size v 9 kv ((kidC C c.name).map vs)) ?_ ?_
 ·refine zgX C.length (λ i σ v=>(σ 18=vi i/\σ 17=vi C.length/\σ 16= .slice a C.length cp/\σ 3= .pointer (some ⟨b,0,.none⟩))/\Ext w1 v/\∃kv,σ 6=kv/\Own w1.heap.size v 9 kv ((kidC (C.take i) c.name).map vs)) ?_ ?_ ?_
  ·exact⟨⟨vr0,vq0,vq0,vq0⟩,Keep.refl _ _,_,vr0,Own.nil _ _ _⟩
  ·rintro i σ v hi p ⟨s,hE,kv,s6,hown⟩;obtain⟨z,yv,hz,ha,hcs,hyv⟩:=hg i hi;obtain⟨xa,rfl⟩:=yxs ha;have hE0:=hE1.trans hE;have d:=zac hE0 hcs;obtain⟨ky,fy⟩:=hk _ (yac hi);obtain⟨k1,k2⟩:=kid_snoc (z:=c.name) hi fy;have hkl:=zkE (C:=C.take i) (z:=c.name);have hkl2:=yde i C;obtain⟨y,hy⟩:∃y,C[i]=y:=⟨_,rfl⟩;rw[hy]at hcs hyv d ky fy k1 k2;have ly:=ky.len;obtain⟨ay,cy,hyve,hcy,hgy⟩:=id hyv;rw[ylm]at hyve;refine go (an3 s p hz) ?_;refine rq ?_;intro gd K hgd hK;refine sgz (az4 s p hz d) ?_;refine zaV (P:=prog) (l:=[yv,.bool y.other]) rfl (za7 hyv.isOne rfl) rfl rfl ?_;intro v1 hE3 hs3 hD;refine sg0 ?_;apply hK;obtain⟨p9,hp9⟩:∃p,v.heap.size=p:=⟨_,rfl⟩;rw[hp9]at hD ⊢;have g0:zad v1 (some ⟨p9,0,.none⟩)=some yv:=zab (i:=0) hD rfl;have q0:=zaa (hE.trans hE3) p0;refine go trivial ?_;refine zaw (Q:=λ e σ' ds' v'=>e= .normal/\ds'=[]/\(σ' 8= .pointer (some ⟨p9,0,.none⟩)/\σ' 18=vi i/\σ' 17=vi C.length/\σ' 16= .slice (some xa) C.length cp/\σ' 3= .pointer (some ⟨b,0,.none⟩))/\σ' 6=kv/\Ext v1 v'/\σ' 36= .bool (decide (y.name.length=c.name.length+1) && zaN y.name c.name)) ?_ ?_
   ·have gl:=g0;have ql:=q0;rw[hyve]at gl;rw[hnve]at ql;by_cases hl:y.name.length=c.name.length+1
    ·have hle:decide ((y.name.length:Int)=(c.name.length:Int)+1)=true:=yet oM;refine rcg [(8,30)] (an5 s gl ql hle yn0) (zbF v1 (.slice ay y.name.length cy) (.slice an c.name.length cn) y.name c.name (by rw[←hyve];exact hyv.ext (hE0.trans hE3)) (by rw[←hnve];exact hn.ext (hE0.trans hE3)) ky.LB hc.LB oM oM) ?_;rintro _ v2 ⟨rfl,hE4⟩;refine reg [(8,30)] trivial ?_;exact⟨rfl,rfl,sc s,vq1 s6,hE4,by rw[yet hl,ybN];simp only[go_sem]⟩
    ·have hle:decide ((y.name.length:Int)=(c.name.length:Int)+1)=false:=yef oM;refine rgg [(8,30)] (an5 s gl ql hle yn0) ?_;exact⟨rfl,rfl,sc s,vq1 s6,Keep.refl _ _,by rw[yef hl,ycc];simp only[go_sem]⟩
   clear s s6;rintro _ σ1 _ v2 ⟨rfl,rfl,s,s6,hE4,s36⟩;cases ht:(decide (y.name.length=c.name.length+1) && zaN y.name c.name) with
   |false=>
    rw[ht]at s36;refine go (an3 s s36 p) ?_;exact⟨rfl,sc (an2 s p),hE.trans (hE3.trans hE4),kv,vq1 s6,by rw[k2 ht];exact(hown.ext hE3).ext hE4⟩
   |true=>
    rw[ht]at s36;obtain⟨l,t,hlt,hkk⟩:=k1 ht;have g02:=zaa hE4 g0;have c0:=zaa (hE0.trans (hE3.trans hE4)) (hgy 0 (by rw[hlt];simp));have hlen0:(0:Int)<(y.name.length:Int):=by rw[hlt];simp
    obtain⟨xy,rfl⟩:=yxs (zaf c0);rw[zar,yaA]at c0;rw[hyve]at g02;have hl0:y.name[0]'(by rw[hlt];simp)=l:=by simp[hlt]
    rw[hl0]at c0;refine go (an2 s s36) ?_;refine rq ?_;intro gd K hgd hK;refine sgz (az2 (az7 s s6 g02 hlen0 ybc zar c0) ybj) ?_;refine zc3 (z:=vs []) rfl rfl rfl rfl rfl ?_;intro v3 hE5 hs5 ho5;refine sgz s6 ?_;have hE13:=hE.trans (hE3.trans hE4);refine zb0 (((hown.ext hE3).ext hE4).ext hE5) ho5.row rfl rfl rfl rfl rfl rfl ((vq1 s6)) vr0 (zfl [l]) (by rw[ylm];simp;omega) (by decide) (hE13.trans hE5).size ?_;intro u v4 ho6 hE6 _ _;refine sg0 ?_;apply hK;refine go (an2 s p) ?_;refine⟨rfl,sc (an2 s p),hE6 _ (hE13.trans hE5) (ynl _),u,vq0,?_⟩;rw[hkk,yaC];exact ho6
  ·rintro σ v p ⟨s,hE,kv,s6,hown⟩;rw[yaT]at hown;refine go (an2 s p) ?_;exact⟨rfl,rfl,vq1 s,hE,kv,vq1 s6,hown⟩
 rintro _ σ _ v ⟨rfl,rfl,s3,hE,kv,s6,hown⟩;have hkl:=zkE (C:=C) (z:=c.name);obtain⟨f,hf⟩:∃f,zbs (kidC C c.name)=f:=⟨_,rfl⟩;have hfl:=znA (kids:=kidC C c.name);rw[hf]at hrep hfl;refine go trivial ?_;refine rc s6 (Fresh_ok v kv _ hown.row (kidC_LB λ x hx=>(hk x hx).1) oM) ?_;rintro _ v1 ⟨rfl,hE2⟩;rw[hf];refine rgo trivial ?_;have hnil:Value.string ⟨#[]⟩=vs []:=rfl;have hE12:=hE.trans hE2;by_cases hf0:f=[]
 ·refine go (an2 hnil (yet hf0)) ?_;refine zau (.inr rfl) ntmps32 rfl (zaj (v:= .slice .none 0 0) vr0 (zaj (v:= .bool false) vr0 zas)) ?_;rw[hrep,if_pos hf0];exact⟨hE1.trans hE12,_,rfl,zbb _⟩
 rw[if_neg hf0]at hrep;refine go (an2 hnil (yef hf0)) ?_;have q0:=zaa hE12 p0;have hE02:=hE1.trans hE12;refine rc (an2 s3 q0) (zf4 v1 nv f c.name (hn.ext hE02) oM) ?_;rintro uv v2 ⟨hu,hE3⟩;refine rgo trivial ?_;obtain⟨au,cu,huv,hcu,_⟩:=id hu.1;rw[ylm]at huv hcu;refine rc trivial (zjr v2 uv (f::c.name) hu.1 (λ l hl=>by
  rcases yay.1 hl with rfl|hl
  ·omega
  ·have:=hc.lb l hl;omega) (by simp;omega)) ?_
 rintro _ v3 ⟨rfl,hE4⟩;refine rgo trivial ?_;have hE03:=hE02.trans (hE3.trans hE4);by_cases hck:zaC (f::c.name)=0
 ·rw[if_pos hck]at hrep;refine go (yet hck) ?_;rw[huv];refine rc trivial (P_cs.Clip_ok hcu) ?_;rintro _ v4 ⟨rfl,hv4⟩;replace hv4:=hv4.symm;subst hv4;refine rgo trivial ?_;have hul:Row v3 (.slice au (f::c.name).length (f::c.name).length) ((f::c.name).map vs):=by
   have h1:=hu.1.ext hE4;rw[huv]at h1;obtain⟨a',c',e,_,hg'⟩:=h1;rw[Value.slice.injEq]at e;obtain⟨rfl,_,rfl⟩:=e;exact⟨au,_,by rw[ylm],by rw[ylm];exact ynl _,hg'⟩
  refine zau (.inr rfl) ntmps32 rfl (zaj (v:= .slice au (f::c.name).length (f::c.name).length) vr0 (zaj (v:= .bool true) vr0 zas)) ?_;rw[hrep];exact⟨hE03,_,rfl,hul⟩
 ·rw[if_neg hck]at hrep;refine go (yef hck) ?_;refine zau (.inr rfl) ntmps32 rfl (zaj (v:= .slice .none 0 0) vr0 (zaj (v:= .bool false) vr0 zas)) ?_;rw[hrep];exact⟨hE03,_,rfl,zbb _⟩
theorem zdf{L:List Nm}(h:NamesAt w v L):∃a c,v= .slice a L.length c/\∀i (hi:i<L.length),∃y,zad w (adr a i)=some y/\Row w y (L[i].map vs):=by
 obtain⟨vals,⟨a,c,e,_,hg⟩,hl,hr⟩:=h;exact⟨a,c,by rw[e,hl],λ i hi=>⟨vals[i]'(oM),hg i oM,hr i oM hi⟩⟩
theorem zgG{f g:Nm}:(∃k,k<=f.length/\g=f.drop k)↔g<:+f:=by
 constructor
 ·rintro⟨k,_,rfl⟩;exact ycX _ _
 ·rintro⟨p,rfl⟩;exact⟨p.length,sM,sM⟩
theorem ze8(w:World)(lv nv:Value)(ps:List Nm)(n:Nm)(hl:NamesZ NoS w lv (canN ps))(hn:Row w nv (n.map vs))(hk:∀p∈ps,NmK p)(hnk:NmK n)(hlen:(canN ps).length<=100000000):
  Fn prog 57 #[lv,nv] w (λ v w'=>Ext w w'/\NamesZ NoS w' v (canN (ps++ [n]))):=by
 have hnl:=hnk.len;refine yfm (RAdd_ok w lv nv (canN ps) n hl (λ _ h=>h.elim) hn (λ x hx=>zkI (mem_canN.1 hx)) (λ x hx=>by have h:=inS_k hk (mem_canN.1 hx);have:=h.len;exact⟨h.LB,oM⟩) hnk.LB oM hlen (zdj ps) (λ l f hf=>mem_canN.2 (zkH (mem_canN.1 hf)))) ?_;rintro v w' ⟨hE,L',h1,h2,h3,_⟩;have:=zj6 (ps:=ps++ [n]) h2 λ g=>by
  rw[h3,mem_canN,znr];constructor
  ·rintro(h| ⟨k,hk,rfl⟩)
   ·exact .inl h
   ·exact .inr (.inr ⟨n,sM,ycX _ _⟩)
  ·rintro(h| (rfl| ⟨p,hp,hs⟩))
   ·exact .inl h
   ·exact .inl (.inl rfl)
   ·rw[yae.1 hp]at hs;obtain⟨k,hk,e⟩:=zgG.2 hs;rw[zax]at hk;exact .inr ⟨k,hk,e⟩
 subst this;exact⟨hE,h1⟩
theorem zlZ{ps:List Nm}(hk:∀p∈ps,NmK p)(hl:ps.length<=20000):(canN ps).length<=100000000:=by
 have h1:=zgB ([]::ps.flatMap λ p=>zdz (zag p));have h2:=ziX (l:=ps) (f:=λ p=>zdz (zag p)) (k:=256) (λ p hp=>by rw[zeJ,zax];have:=(hk p hp).len;omega);unfold canN;rw[yah]at h1;omega
theorem RBase_ok(hE0:Ext w0 w)(hN:NetAt w0 cs N)(hG:zaO N):
  Fn prog 54 #[.agg cs.toArray] w (λ v w'=>Ext w w'/\NamesZ NoS w' v (canN (zbe N))):=by
 obtain⟨hv,rv,rfl,hh,hr⟩:=hN.ex;obtain⟨ah,ch,hhv,hch,hgh⟩:=hh.open;obtain⟨ar,cr,hrv,_⟩:=id hr;have hl6:=hG.h1.2;have bk:=zjj hG;have bl:=zk3 hG;have pre_ok:∀{pre suf:List Nm} {x:Nm},zbe N=pre++x::suf->(∀p∈pre,NmK p)/\NmK x/\(canN pre).length<=100000000:=fun {pre suf x} e=>by
  have h1:∀p∈pre,NmK p:=λ p hp=>bk p (by rw[e];exact yas _ hp);refine⟨h1,bk x (by rw[e];simp),zlZ h1 ?_⟩;have:=congrArg List.length e;rw[yab]at this;omega
 refine enx func54 ntmps54 ?_;repeat refine c_r ?_
 rw[hhv,hrv];refine rg0 ?_;rw[←hrv];repeat refine c_r ?_
 refine zav ?_;intro w1 hE1 hs1 hA;have p0:zad w1 (some ⟨w.heap.size,0,.none⟩)=some (.slice ah N.hosts.length ch):=zab hA rfl;have hE01:=hE0.trans hE1;repeat refine c_r ?_
 refine rq ?_;intro gd K hgd hK;try simp only[go_sem]
 refine zc3 (z:= .slice .none 0 0) rfl rfl rfl rfl rfl ?_;intro w2 hE2 hs2 hO;try simp only[go_sem]
 refine hK _ _ ?_;clear hK hgd;clear K;try clear gd
 have hZ0:NamesZ NoS w2 (.slice (some ⟨w1.heap.size,0,.none⟩) 1 1) (canN []):=⟨[.slice .none 0 0],⟨hO.row,λ a n c hv=>by cases hv;exact⟨yba _,by show w1.heap.size<_;omega,λ h=>h⟩⟩,rfl,λ i h h'=>by
  have:i=0:=by simp at h;omega
  subst this;exact⟨⟨.none,0,rfl,ynl _,λ j h=>absurd h (by simp[canN,insN])⟩,λ a n c hv=>by cases hv⟩⟩
 have hE02:=hE01.trans hE2;have p02:=zaa hE2 p0;repeat refine c_r ?_
 refine rg0 ?_;repeat refine c_r ?_
 refine zan (λ m σ ds v=>ds=[]/\∃(i:Nat) (pre:List Nm) (lv:Value),i+m=N.hosts.length/\σ 4=vi i/\σ 1= .pointer (some ⟨w.heap.size,0,.none⟩)/\σ 3=lv/\Ext w2 v/\NamesZ NoS v lv (canN pre)/\zbe N=pre++(N.hosts.drop i).flatMap zgy) N.hosts.length ?_ ?_
 ·exact⟨rfl,0,[],_,oM,vr0,vq0,vq0,Keep.refl _ _,hZ0,rfl⟩
 rintro m σ ds v ⟨rfl,i,pre,lv,him,s4,s1,s3,hEv,hZ,hbe⟩;have p0v:=zaa hEv p02;repeat refine c_r ?_
 refine rg4 s4 s1 p0v yad ?_;repeat refine c_r ?_
 refine wc0 ?_ ?_
 ·intro hlt;simp only[ydT]at hlt;have hi:i<N.hosts.length:=oM;have hi0:=cj i;have hi1':=ci i;obtain⟨hcs,hce,hH⟩:=hgh i hi;have hmem:=yac hi;rw[zby hi]at hbe;obtain⟨h,hhe⟩:∃x,N.hosts[i]=x:=⟨_,rfl⟩;rw[hhe]at hH hmem hbe;obtain⟨nv,b1,b2,b3,b4,zv,rfl,_,hnv,hz⟩:=hH.ex;obtain⟨az,cz,rfl,hcz,hgz⟩:=hz.open;have hzl:=hG.zl h hmem;obtain⟨xa,rfl⟩:=yxs (zak hce);obtain⟨xi,hxi⟩:∃xi,adr (some xa) (i*6)=some xi:=⟨_,rfl⟩;obtain⟨x5,hx5⟩:∃x,adr (some xi) 5=some x:=⟨_,rfl⟩;rw[hxi]at hce;have hz0:adr (some xi) 0=some xi:=zar _;have g0:=zaq (j:=0) hce rfl;rw[hz0]at g0;have g5:=zaq (j:=5) hce rfl;rw[hx5]at g5;have hbe1:zbe N=pre++h.name::(h.zones.flatMap zfa++(N.hosts.drop (i+1)).flatMap zgy):=hbe;obtain⟨k1,k2,k3⟩:=pre_ok hbe1;have hE0v:=hE02.trans hEv;repeat refine c_r ?_
  refine rc (an9 s4 s1 s3 p0v yad hi0 hlt hxi (an2 hz0 (zaa hE0v g0))) (ze8 v lv nv pre h.name hZ (hnv.ext hE0v) k1 k2 k3) ?_;rintro lv2 v2 ⟨hE3,hZ2⟩;refine re trivial ?_;obtain⟨R1,hR1⟩:∃R,(N.hosts.drop (i+1)).flatMap zgy=R:=⟨_,rfl⟩;have hbe2:zbe N=(pre++ [h.name])++(h.zones.flatMap zfa++R1):=by rw[hbe1,hR1];simp
  clear hbe hbe1 k1 k2 k3;repeat refine c_r ?_
  refine rg0 ?_;repeat refine c_r ?_
  refine zan (λ m σ ds v=>ds=[]/\∃(k:Nat) (pre:List Nm) (lv:Value),k+m=h.zones.length/\σ 5=vi k/\σ 4=vi i/\σ 1= .pointer (some ⟨w.heap.size,0,.none⟩)/\σ 3=lv/\Ext w2 v/\NamesZ NoS v lv (canN pre)/\zbe N=pre++((h.zones.drop k).flatMap zfa++R1)) h.zones.length ?_ ?_
  ·exact⟨rfl,0,_,lv2,oM,vr0,vq1 s4,vq1 s1,vq0,hEv.trans hE3,hZ2,hbe2⟩
  clear s4 s1 s3 hZ hZ2 hbe2 p0v hE3;rintro m2 σ2 ds2 v3 ⟨rfl,k,pre2,lv3,hkm,s5,s4,s1,s3,hEv3,hZ,hbe⟩;have p03:=zaa hEv3 p02;have hE03:=hE02.trans hEv3;have g53:=zaa hE03 g5;repeat refine c_r ?_
  refine rg9 s5 s4 s1 p03 yad (an2 hi0 hlt) hxi hx5 g53 ?_;repeat refine c_r ?_
  refine wc0 ?_ ?_
  ·intro hlt2;simp only[ydT]at hlt2;have hk:k<h.zones.length:=oM;have hk0:=cj k;have hk1':=ci k;obtain⟨zcs,hze,hZn⟩:=hgz k hk;have hzmem:=yac hk;rw[zby hk,yla]at hbe;obtain⟨z,hzz⟩:∃x,h.zones[k]=x:=⟨_,rfl⟩;rw[hzz]at hZn hzmem hbe;obtain⟨zo,zl,rfl,hov,hlv⟩:=hZn.ex;obtain⟨al,cl,rfl,hcl,hgl⟩:=hlv.open;have gz:=(hG.z.z h hmem z hzmem).gd;have hrl:=gz.len;obtain⟨xz,rfl⟩:=yxs (zak hze);obtain⟨xk,hxk⟩:∃xi,adr (some xz) (k*2)=some xi:=⟨_,rfl⟩;rw[hxk]at hze;have d:=zac hE03 hze;have o1:=hov.isOne;repeat refine c_r ?_
   refine rq ?_;intro gd K hgd hK;try simp (disch:=first|omega|assumption|rfl) only[go_sem,s5,s4,s1,p03,yad,hi0,hlt,hxi,hx5,g53,hk0,hlt2,hxk,d]
   refine zaV (P:=prog) (l:=[zo,.slice al z.recs.length cl]) rfl (za7 o1 rfl) rfl rfl ?_;intro v4 hE4 hs4 hB6;try simp only[go_sem]
   refine hK _ _ ?_;clear hK hgd;clear K;try clear gd
   obtain⟨c6,hc6⟩:∃b,v3.heap.size=b:=⟨_,rfl⟩;rw[hc6]at hB6 hs4 ⊢;have hEv4:=hEv3.trans hE4;have q0:zad v4 (some ⟨c6,0,.none⟩)=some zo:=zab hB6 rfl;have q1:zad v4 (some ⟨c6,1,.none⟩)=some (.slice al z.recs.length cl):=zab hB6 rfl;obtain⟨R2,hR2⟩:∃R,(h.zones.drop (k+1)).flatMap zfa++R1=R:=⟨_,rfl⟩;have hbe1:zbe N=pre2++z.o::(z.recs.flatMap recN++R2):=by rw[hbe,hR2];rfl
   obtain⟨k1,k2,k3⟩:=pre_ok hbe1;repeat refine c_r ?_
   refine rc (an3 s3 q0 yad) (ze8 v4 lv3 zo pre2 z.o (hZ.ext hE4) (hov.ext (hE02.trans hEv4)) k1 k2 k3) ?_;rintro lv4 v5 ⟨hE5,hZ2⟩;refine re trivial ?_;have q15:=zaa hE5 q1;have hbe2:zbe N=(pre2++ [z.o])++(z.recs.flatMap recN++R2):=by rw[hbe1];simp
   clear hbe hbe1 k1 k2 k3;repeat refine c_r ?_
   refine rg0 ?_;repeat refine c_r ?_
   refine zan (λ m σ ds v=>ds=[]/\∃(j:Nat) (pre:List Nm) (lv:Value),j+m=z.recs.length/\σ 7=vi j/\σ 6= .pointer (some ⟨c6,0,.none⟩)/\σ 5=vi k/\σ 4=vi i/\σ 1= .pointer (some ⟨w.heap.size,0,.none⟩)/\σ 3=lv/\Ext v5 v/\NamesZ NoS v lv (canN pre)/\zbe N=pre++((z.recs.drop j).flatMap recN++R2)) z.recs.length ?_ ?_
   ·exact⟨rfl,0,_,lv4,oM,vr0,vq0,vq1 s5,vq1 s4,vq1 s1,vq0,Keep.refl _ _,hZ2,hbe2⟩
   clear s5 s4 s1 s3 hZ hZ2 hbe2 p03 g53 d;have hE25:=hEv4.trans hE5;rintro m3 σ3 ds3 v6 ⟨rfl,j,pre3,lv5,hjm,s7,s6,s5,s4,s1,s3,hE6,hZ,hbe⟩;have q16:=zaa hE6 q15;have hE06:=hE02.trans (hE25.trans hE6);repeat refine c_r ?_
   refine rg4 s7 s6 q16 yn0 ?_;repeat refine c_r ?_
   refine wc0 ?_ ?_
   ·intro hlt3;simp only[ydT]at hlt3;have hj:j<z.recs.length:=oM;have hj0:=cj j;have hj1':=ci j;obtain⟨rcs,hre,hR⟩:=hgl j hj;have hrmem:=yac hj;rw[zby hj,yla]at hbe;obtain⟨r,hrr⟩:∃x,z.recs[j]=x:=⟨_,rfl⟩;rw[hrr]at hR hrmem hbe;obtain⟨ow,ds,rfl,how,hD⟩:=hR.ex;obtain⟨nm,nu,tx,rw',rfl,⟨vals,hvr,hvl,hvn⟩,_,_,_⟩:=hD.ex;obtain⟨an,cn,rfl,hcn,hgn⟩:=id hvr;have n8:=(gz.few r hrmem).2.n8;obtain⟨xr,rfl⟩:=yxs (zak hre);obtain⟨xj,hxj⟩:∃xi,adr (some xr) (j*7)=some xi:=⟨_,rfl⟩;rw[hxj]at hre;have hw0:adr (some xj) 0=some xj:=zar _;obtain⟨x2,hx2⟩:∃x,adr (some xj) 2=some x:=⟨_,rfl⟩;obtain⟨x3,hx3⟩:∃x,adr (some x2) 1=some x:=⟨_,rfl⟩;have f0:=zaq (j:=0) hre rfl;rw[hw0]at f0;have f2:=zaZ (m:=2) (k:=5) hre;rw[hx2]at f2;have f3:=zaq (j:=1) f2 rfl;rw[hx3]at f3;obtain⟨R3,hR3⟩:∃R,(z.recs.drop (j+1)).flatMap recN++R2=R:=⟨_,rfl⟩;have hbe1:zbe N=pre3++r.owner::(r.dat.names++R3):=by rw[hbe,hR3];rfl
    obtain⟨k1,k2,k3⟩:=pre_ok hbe1;repeat refine c_r ?_
    refine rc (an9 s3 s7 s6 q16 yn0 hj0 hlt3 hxj (an2 hw0 (zaa hE06 f0))) (ze8 v6 lv5 ow pre3 r.owner hZ (how.ext hE06) k1 k2 k3) ?_;rintro lv6 v7 ⟨hE7,hZ2⟩;refine re trivial ?_;have hbe2:zbe N=(pre3++ [r.owner])++(r.dat.names++R3):=by rw[hbe1];simp
    clear hbe hbe1 k1 k2 k3;repeat refine c_r ?_
    refine rg0 ?_;repeat refine c_r ?_
    refine zan (λ m σ ds v=>ds=[]/\∃(q:Nat) (pre:List Nm) (lv:Value),q+m=vals.length/\σ 8=vi q/\σ 7=vi j/\σ 6= .pointer (some ⟨c6,0,.none⟩)/\σ 5=vi k/\σ 4=vi i/\σ 1= .pointer (some ⟨w.heap.size,0,.none⟩)/\σ 3=lv/\Ext v5 v/\NamesZ NoS v lv (canN pre)/\zbe N=pre++(r.dat.names.drop q++R3)) vals.length ?_ ?_
    ·exact⟨rfl,0,_,lv6,oM,vr0,vq1 s7,vq1 s6,vq1 s5,vq1 s4,vq1 s1,vq0,hE6.trans hE7,hZ2,hbe2⟩
    clear s7 s6 s5 s4 s1 s3 hZ hZ2 hbe2 q16 hE6 hE06 hE7;rintro m4 σ4 ds4 v8 ⟨rfl,q,pre4,lv7,hqm,s8,s7,s6,s5,s4,s1,s3,hE8,hZ,hbe⟩;have q18:=zaa hE8 q15;have hE08:=hE02.trans (hE25.trans hE8);have f38:=zaa hE08 f3;repeat refine c_r ?_
    refine rg9 s8 s7 s6 q18 yn0 (an2 hj0 hlt3) hxj (an2 hx2 hx3) f38 ?_;repeat refine c_r ?_
    refine wc0 ?_ ?_
    ·intro hlt4;simp only[ydT]at hlt4;have hq:q<vals.length:=oM;have hqn:q<r.dat.names.length:=oM;have hq0:=cj q;have hq1':=ci q;have gq:=hgn q hq;have hyr:=hvn q hq hqn;obtain⟨y,hy⟩:∃y,vals[q]=y:=⟨_,rfl⟩;obtain⟨x,hxe⟩:∃x,r.dat.names[q]=x:=⟨_,rfl⟩;rw[hy]at gq hyr;rw[hxe]at hyr;obtain⟨xn,rfl⟩:=yxs (zaf gq);have hbe1:zbe N=pre4++x::(r.dat.names.drop (q+1)++R3):=by rw[hbe,yag hqn,hxe];rfl
     obtain⟨k1,k2,k3⟩:=pre_ok hbe1;repeat refine c_r ?_
     refine rc (an9 s3 s8 s7 s6 q18 yn0 (an4 hj0 hlt3 hxj hx2) hx3 (an4 f38 hq0 hlt4 (zaa hE08 gq))) (ze8 v8 lv7 y pre4 x hZ (hyr.ext hE08) k1 k2 k3) ?_;rintro lv8 v9 ⟨hE9,hZ2⟩;refine re trivial ?_;repeat refine c_r ?_
     refine rg2 s8 hq1' ?_;repeat refine c_r ?_
     exact⟨m4 - 1,oM,rfl,q+1,_,lv8,oM,vq0,vq1 s7,vq1 s6,vq1 s5,vq1 s4,vq1 s1,vq0,hE8.trans hE9,hZ2,by rw[hbe1];simp⟩
    ·intro hge4;simp only[ydF]at hge4;rw[yat oM,yaI,←hR3]at hbe;repeat refine c_r ?_
     refine rg2 s7 hj1' ?_;repeat refine c_r ?_
     exact⟨m3 - 1,oM,rfl,j+1,pre4,lv7,oM,vq0,vq1 s6,vq1 s5,vq1 s4,vq1 s1,vq1 s3,hE8,hZ,hbe⟩
   ·intro hge3;simp only[ydF]at hge3;rw[yat oM,ybx,yaI,←hR2]at hbe;repeat refine c_r ?_
    refine rg2 s5 hk1' ?_;repeat refine c_r ?_
    exact⟨m2 - 1,oM,rfl,k+1,pre3,lv5,oM,vq0,vq1 s4,vq1 s1,vq1 s3,hE25.trans hE6,hZ,hbe⟩
  ·intro hge2;simp only[ydF]at hge2;rw[yat oM,ybx,yaI,←hR1]at hbe;repeat refine c_r ?_
   refine rg2 s4 hi1' ?_;repeat refine c_r ?_
   exact⟨m - 1,oM,rfl,i+1,pre2,lv3,oM,vq0,vq1 s1,vq1 s3,hEv3,hZ,hbe⟩
 ·intro hge;simp only[ydF]at hge;rw[yat oM,ybx,yaF]at hbe;repeat refine c_r ?_
  refine rg1 s3 ?_;repeat refine c_r ?_
  refine rt0 ntmps54 ?_;rw[hbe];exact⟨hE1.trans (hE2.trans hEv),hZ⟩
theorem zjn(w:World)(ca cb:List Value)(a b:zaP)(ha:PairAt NoS w ca a)(hb:PairAt NoS w cb b)(oa:zbB a)(ob:zbB b):
  Fn prog 87 #[.agg ca.toArray,.agg cb.toArray] w (λ v w'=>Ext w w'/\∃c:Int,v=vi c/\(c<0↔za3 a b<0)/\(c=0↔za3 a b=0)):=by
 obtain⟨a1,a2,rfl,h1,h2⟩:=ha.ex;obtain⟨b1,b2,rfl,h3,h4⟩:=hb.ex;have la:=oa.a.len;have lb:=oa.b.len;have lc:=ob.a.len;have ld:=ob.b.len;obtain⟨x1,c1,e1,_⟩:=id h1.1;obtain⟨x2,c2,e2,_⟩:=id h2.1;obtain⟨x3,c3,e3,_⟩:=id h3.1;obtain⟨x4,c4,e4,_⟩:=id h4.1;have hc:za3 a b=if cmpN (zag a.1) (zag b.1)=0 then(if cmpN (zag a.2) (zag b.2)=0 then 0 else cmpN (zag a.2) (zag b.2)) else cmpN (zag a.1) (zag b.1):=rfl
 refine enx func87 ntmps87 ?_;refine cZ ?_;rw[e1,e2,e3,e4];refine rg0 ?_;rw[←e1,←e2,←e3,←e4];refine cZ ?_;rw[zai];refine zaQ ?_;intro w1 hE1 hs1 hA hB;have p0:zad w1 (some ⟨w.heap.size,0,.none⟩)=some a1:=zab hA rfl;have p1:zad w1 (some ⟨w.heap.size,1,.none⟩)=some a2:=zab hA rfl;have q0:zad w1 (some ⟨w.heap.size+1,0,.none⟩)=some b1:=zab hB rfl;have q1:zad w1 (some ⟨w.heap.size+1,1,.none⟩)=some b2:=zab hB rfl;refine cZ ?_;refine rc (an3 p0 q0 yad) (zcS w1 _ _ _ _ (h1.1.ext hE1) (h3.1.ext hE1) oa.a.LB ob.a.LB oM oM) ?_;rintro _ w2 ⟨rfl,hE2⟩;refine re trivial ?_;refine cZ ?_;by_cases hz:cmpN (zag a.1) (zag b.1)=0
 ·refine rg1 (yet hz) ?_;refine cZ ?_;refine wf trivial ?_;have p12:=zaa hE2 p1;have q12:=zaa hE2 q1;refine cZ ?_;refine rc (an3 p12 q12 yn0) (zcS w2 _ _ _ _ (h2.1.ext (hE1.trans hE2)) (h4.1.ext (hE1.trans hE2)) oa.b.LB ob.b.LB oM oM) ?_;rintro _ w3 ⟨rfl,hE3⟩;refine re trivial ?_;refine cZ ?_;refine rt0 ntmps87 ?_;refine⟨hE1.trans (hE2.trans hE3),_,rfl,?_⟩;rw[hc,if_pos hz];constructor<;>split<;>omega
 ·refine rg1 (yef hz) ?_;refine cZ ?_;refine wt trivial ?_;refine gz0 ?_;refine rt0 ntmps87 ?_;refine⟨hE1.trans hE2,_,rfl,?_⟩;rw[hc,if_neg hz];exact⟨Iff.rfl,Iff.rfl⟩
theorem zck(w:World):zdD 2 (PairAt S w):=⟨λ h=>h.len,λ h=>h.ones⟩
theorem RowsP.ext{O:List zaP}(h:Rows 2 (PairAt NoS w) w v O)(hE:Ext w x):Rows 2 (PairAt NoS x) x v O:=Rows.extC (λ _ _ h=>PairAt.ext h hE) h hE
theorem renF_app{xs:List zaP}{p:zaP}:renF (xs++ [p])=putC za3 fstP p (renF xs):=by
 unfold renF zbR;rw[ybI];rfl
theorem zkb(hE0:Ext w0 w)(hN:NetAt w0 cs N)(hG:zaO N):
  Fn prog 55 #[.agg cs.toArray] w (λ v w'=>Ext w w'/\Rows 2 (PairAt NoS w') w' v (renN N)):=by
 obtain⟨hv,rv,rfl,hh,hr⟩:=hN.ex;obtain⟨ah,ch,hhv,hch,hgh⟩:=hh.open;obtain⟨ar,cr,hrv,_⟩:=id hr;have hl6:=hG.h1.2;have hall:=zd7 hG;have hallk:=zeM hG;refine enx func55 ntmps55 ?_;repeat refine c_r ?_
 rw[hhv,hrv];refine rg0 ?_;rw[←hrv];repeat refine c_r ?_
 refine zav ?_;intro w1 hE1 hs1 hA;have p0:zad w1 (some ⟨w.heap.size,0,.none⟩)=some (.slice ah N.hosts.length ch):=zab hA rfl;have hE01:=hE0.trans hE1;repeat refine c_r ?_
 refine rg0 ?_;repeat refine c_r ?_
 refine rg0 ?_;repeat refine c_r ?_
 refine zan (λ m σ ds v=>ds=[]/\∃(i:Nat) (ov:Value) (xs:List zaP),i+m=N.hosts.length/\σ 4=vi i/\σ 1= .pointer (some ⟨w.heap.size,0,.none⟩)/\σ 3=ov/\Ext w1 v/\Rows 2 (PairAt NoS v) v ov (renF xs)/\zcZ N=xs++(N.hosts.drop i).flatMap renH) N.hosts.length ?_ ?_
 ·exact⟨rfl,0,.slice .none 0 0,[],oM,vr0,vq0,vq0,Keep.refl _ _,Rows.nil _ _ _,rfl⟩
 rintro m σ ds v ⟨rfl,i,ov,xs,him,s4,s1,s3,hEv,hRO,hbe⟩;have p0v:=zaa hEv p0;repeat refine c_r ?_
 refine rg4 s4 s1 p0v yad ?_;repeat refine c_r ?_
 refine wc0 ?_ ?_
 ·intro hlt;simp only[ydT]at hlt;have hi:i<N.hosts.length:=oM;have hi0:=cj i;have hi1':=ci i;obtain⟨hcs,hce,hH⟩:=hgh i hi;have hmem:=yac hi;rw[zby hi]at hbe;obtain⟨h,hhe⟩:∃x,N.hosts[i]=x:=⟨_,rfl⟩;rw[hhe]at hH hmem hbe;obtain⟨nv,b1,b2,b3,b4,zv,rfl,_,hnv,hz⟩:=hH.ex;obtain⟨az,cz,rfl,hcz,hgz⟩:=hz.open;have hzl:=hG.zl h hmem;obtain⟨xa,rfl⟩:=yxs (zak hce);obtain⟨xi,hxi⟩:∃xi,adr (some xa) (i*6)=some xi:=⟨_,rfl⟩;obtain⟨x5,hx5⟩:∃x,adr (some xi) 5=some x:=⟨_,rfl⟩;rw[hxi]at hce;have g5:=zaq (j:=5) hce rfl;rw[hx5]at g5;obtain⟨R1,hR1⟩:∃R,(N.hosts.drop (i+1)).flatMap renH=R:=⟨_,rfl⟩;rw[hR1]at hbe;unfold renH at hbe;repeat refine c_r ?_
  refine rg0 ?_;repeat refine c_r ?_
  refine zan (λ m σ ds v=>ds=[]/\∃(k:Nat) (ov:Value) (xs:List zaP),k+m=h.zones.length/\σ 5=vi k/\σ 4=vi i/\σ 1= .pointer (some ⟨w.heap.size,0,.none⟩)/\σ 3=ov/\Ext w1 v/\Rows 2 (PairAt NoS v) v ov (renF xs)/\zcZ N=xs++((h.zones.drop k).flatMap renZ++R1)) h.zones.length ?_ ?_
  ·exact⟨rfl,0,ov,xs,oM,vr0,vq1 s4,vq1 s1,vq1 s3,hEv,hRO,hbe⟩
  clear s4 s1 s3 hRO hbe p0v hEv;rintro m2 σ2 ds2 v2 ⟨rfl,k,ov2,xs2,hkm,s5,s4,s1,s3,hEv2,hRO,hbe⟩;have p02:=zaa hEv2 p0;have hE02:=hE01.trans hEv2;have g52:=zaa hE02 g5;repeat refine c_r ?_
  refine rg9 s5 s4 s1 p02 yad (an2 hi0 hlt) hxi hx5 g52 ?_;repeat refine c_r ?_
  refine wc0 ?_ ?_
  ·intro hlt2;simp only[ydT]at hlt2;have hk:k<h.zones.length:=oM;have hk0:=cj k;have hk1':=ci k;obtain⟨zcs,hze,hZn⟩:=hgz k hk;have hzmem:=yac hk;rw[zby hk,yla]at hbe;obtain⟨z,hzz⟩:∃x,h.zones[k]=x:=⟨_,rfl⟩;rw[hzz]at hZn hzmem hbe;obtain⟨zo,zl,rfl,hov,hlv⟩:=hZn.ex;obtain⟨al,cl,rfl,hcl,hgl⟩:=hlv.open;have gz:=(hG.z.z h hmem z hzmem).gd;have hrl:=gz.len;obtain⟨xz,rfl⟩:=yxs (zak hze);obtain⟨xk,hxk⟩:∃xi,adr (some xz) (k*2)=some xi:=⟨_,rfl⟩;obtain⟨xk1,hxk1⟩:∃x,adr (some xk) 1=some x:=⟨_,rfl⟩;rw[hxk]at hze;have l1:=zaq (j:=1) hze rfl;rw[hxk1]at l1;have l1v:=zaa hE02 l1;obtain⟨R2,hR2⟩:∃R,(h.zones.drop (k+1)).flatMap renZ++R1=R:=⟨_,rfl⟩;rw[hR2]at hbe;unfold renZ at hbe;repeat refine c_r ?_
   refine rq ?_;intro gd K hgd hK;simp (disch:=first|omega|assumption|rfl) only[go_sem,s5,s4,s1,p02,yad,hi0,hlt,hxi,hx5,g52,hk0,hlt2,hxk,hxk1,l1v];refine hK _ _ ?_;clear hK hgd;clear K gd;repeat refine c_r ?_
   refine rg0 ?_;repeat refine c_r ?_
   refine zan (λ m σ ds v=>ds=[]/\∃(j:Nat) (ov:Value) (xs:List zaP),j+m=z.recs.length/\σ 7=vi j/\σ 6= .slice al z.recs.length cl/\σ 5=vi k/\σ 4=vi i/\σ 1= .pointer (some ⟨w.heap.size,0,.none⟩)/\σ 3=ov/\Ext w1 v/\Rows 2 (PairAt NoS v) v ov (renF xs)/\zcZ N=xs++((z.recs.drop j).filterMap renO++R2)) z.recs.length ?_ ?_
   ·exact⟨rfl,0,ov2,xs2,oM,vr0,vq0,vq1 s5,vq1 s4,vq1 s1,vq1 s3,hEv2,hRO,hbe⟩
   clear s5 s4 s1 s3 hRO hbe p02 g52 l1v hEv2 hE02;rintro m3 σ3 ds3 v3 ⟨rfl,j,ov3,xs3,hjm,s7,s6,s5,s4,s1,s3,hEv3,hRO,hbe⟩;repeat refine c_r ?_
   refine rg2 s7 s6 ?_;repeat refine c_r ?_
   refine wc0 ?_ ?_
   ·intro hlt3;simp only[ydT]at hlt3;have hj:j<z.recs.length:=oM;have hj0:=cj j;have hj1':=ci j;have hE03:=hE01.trans hEv3;obtain⟨rcs,hre,hR⟩:=hgl j hj;have hrmem:=yac hj;rw[yag hj]at hbe;obtain⟨r,hrr⟩:∃x,z.recs[j]=x:=⟨_,rfl⟩;rw[hrr]at hR hrmem hbe;obtain⟨ow,ds,rfl,how,hD⟩:=hR.ex;obtain⟨nm,nu,tx,rw',rfl,⟨vals,hvr,hvl,hvn⟩,_,_,_⟩:=hD.ex;obtain⟨an,cn,rfl,hcn,hgn⟩:=id hvr;obtain⟨xr,rfl⟩:=yxs (zak hre);obtain⟨xj,hxj⟩:∃xi,adr (some xr) (j*7)=some xi:=⟨_,rfl⟩;rw[hxj]at hre;have hw0:adr (some xj) 0=some xj:=zar _;obtain⟨x2,hx2⟩:∃x,adr (some xj) 2=some x:=⟨_,rfl⟩;obtain⟨x3,hx3⟩:∃x,adr (some x2) 1=some x:=⟨_,rfl⟩;have hz2:adr (some x2) 0=some x2:=zar _;have f0:=zaq (j:=0) hre rfl;rw[hw0]at f0;have fd:=zaZ (m:=2) (k:=5) hre;rw[hx2]at fd;have f2:=zaq (j:=0) fd rfl;rw[hz2]at f2;have f3:=zaq (j:=1) fd rfl;rw[hx3]at f3;have f23:=zaa hE03 f2;by_cases e39:r.dat.ty=39
    ·have hlead:=gz.lead r hrmem (.inr (.inr e39));obtain⟨n0,ns,hnames⟩:∃n0 ns,r.dat.names=n0::ns:=by
      cases hn:r.dat.names with
      |nil=>rw[hn]at hlead;cases hlead
      |cons a b=>exact⟨a,b,rfl⟩
     have hv0:0<vals.length:=by rw[hvl,hnames];simp
     have hv0i:(0:Int)<(vals.length:Int):=oM;have hro:renO r=some (zag r.owner,zag n0):=by unfold renO;rw[if_pos e39,hnames];rfl
     rw[List.filterMap_cons_some hro]at hbe;obtain⟨p,hp⟩:∃p:zaP,(zag r.owner,zag n0)=p:=⟨_,rfl⟩;rw[hp]at hbe;have hpk:zbB p:=hallk p (by rw[hbe];simp);have hxk:∀o∈renF xs3,zbB o:=zhK λ o ho=>hallk o (by rw[hbe];exact yas _ ho);have hxl:(renF xs3).length<=2000:=by
      have h1:=congrArg List.length hbe;rw[yab]at h1;have:=zhJ (l:=xs3);omega
     have hn0:Row w0 (vals[0]'hv0) (n0.map vs):=by
      have:=hvn 0 hv0 (by rw[hnames];simp);simpa only[hnames,List.getElem_cons_zero] using this
     obtain⟨y0,hy0⟩:∃y,vals[0]'hv0=y:=⟨_,rfl⟩;have g0:=hgn 0 hv0;obtain⟨xn,rfl⟩:=yxs (zaf g0);rw[zar,hy0]at g0;rw[hy0]at hn0;have ko:=za9 (gz.own r hrmem);have kn:=za9 (gz.names r hrmem n0 (by rw[hnames];simp));have lo1:=ko.len;have ln1:=kn.len;repeat refine c_r ?_
     refine rg9 s6 s7 hj0 hlt3 hxj hx2 hz2 f23 (an2 (yet e39) yaN) ?_;repeat refine c_r ?_
     refine wf trivial ?_;repeat refine c_r ?_
     refine zaw (Q:=λ e σ' ds' v'=>e= .normal/\ds'=[]/\σ' 7=vi j/\σ' 6= .slice (some xr) z.recs.length cl/\σ' 5=vi k/\σ' 4=vi i/\σ' 1= .pointer (some ⟨w.heap.size,0,.none⟩)/\σ' 3=ov3/\Ext v3 v'/\
      ∃(c8:Nat) (f1 f2:Value),σ' 8= .pointer (some ⟨c8,0,.none⟩)/\v'.heap[c8]? =some (.cells #[f1,f2] 152 (0,0))/\PairAt NoS v' [f1,f2] p) ?_ ?_
     ·refine zfH (λ i=>i==17) (.run [(0,true),(1,true),(2,true),(3,true),(4,true),(6,true),(7,true),(8,true),(9,true),(10,true),(11,true),(12,true),(13,true)] (.fork 4 [5,16] (λ i=>if i=5 then(.run [] (.fork 3 [14,16] (λ i=>if i=14 then(.run [(15,true),(16,false),(17,false)] .fin) else(.run [(14,false),(15,true),(17,false)] .fin)))) else(.run [(5,false),(14,false),(15,true),(17,false)] .fin)))) NoS mixed kR ?_;intro gd K x hgd hx hxe hK;clear hxe;have f0x:=zaa (hE03.trans hx) f0;have f3x:=zaa (hE03.trans hx) f3;have g0x:=zaa (hE03.trans hx) g0;simp (disch:=first|omega|assumption|rfl) only[go_sem,s7,s6,hj0,hlt3,hxj,hw0,hx2,hx3,hv0i,ybj,zar,ybc,f0x,f3x,g0x];simp only[za5,zbk];refine⟨?_,?_⟩
      ·have f0x:=zaa (hE03.trans hx) f0;have f3x:=zaa (hE03.trans hx) f3;have g0x:=zaa (hE03.trans hx) g0;simp (disch:=first|omega|assumption|rfl) only[go_sem,s7,s6,hj0,hlt3,hxj,hw0,hx2,hx3,hv0i,ybj,zar,ybc,f0x,f3x,g0x];refine yfm (zem x ow r.owner (how.ext (hE03.trans hx)) ko.LB oM) ?_;rintro f1 y1 ⟨hf1,hy1⟩;refine⟨.inr hy1,?_⟩;have f0y:=zaa (hE03.trans (hx.trans hy1)) f0;have f3y:=zaa (hE03.trans (hx.trans hy1)) f3;have g0y:=zaa (hE03.trans (hx.trans hy1)) g0;simp (disch:=first|omega|assumption|rfl) only[go_sem,s7,s6,hj0,hlt3,hxj,hw0,hx2,hx3,hv0i,ybj,zar,ybc,f0y,f3y,g0y];simp only[za5,zbk];refine⟨?_,?_⟩
       ·simp (disch:=first|omega|assumption|rfl) only[go_sem,s7,s6,hj0,hlt3,hxj,hw0,hx2,hx3,hv0i,ybj,zar,ybc,f0y,f3y,g0y];refine yfm (zem y1 y0 n0 (hn0.ext (hE03.trans (hx.trans hy1))) kn.LB oM) ?_;rintro f2 y2 ⟨hf2,hy2⟩;refine⟨.inr hy2,?_⟩;simp (disch:=first|omega|assumption|rfl) only[go_sem];obtain⟨af1,cf1,hf1e,_⟩:=id hf1.row;obtain⟨af2,cf2,hf2e,_⟩:=id hf2.row;refine⟨by kernel_rfl,?_⟩;rw[hf1e,hf2e,show bdV prog 152 [(0,.slice af1 ((zag r.owner).map vs).length cf1),(1,.slice af2 ((zag n0).map vs).length cf2)]=some (.agg #[.slice af1 ((zag r.owner).map vs).length cf1,.slice af2 ((zag n0).map vs).length cf2]) from by kernel_rfl,←hf1e,←hf2e];simp (disch:=first|omega|assumption|rfl) only[go_sem];refine⟨.inr (yea y2 _),?_⟩;have hb8:=zam y2 (.cells #[.slice .none 0 0,.slice .none 0 0] 152 (0,0));have hy3:=yea y2 (.cells #[.slice .none 0 0,.slice .none 0 0] 152 (0,0));have hs8:=zai y2 (.cells #[.slice .none 0 0,.slice .none 0 0] 152 (0,0));revert hb8 hy3 hs8;generalize y2.alloc (.cells #[.slice .none 0 0,.slice .none 0 0] 152 (0,0))=y3;intro hb8 hy3 hs8;obtain⟨c8,hc8⟩:∃b,y2.heap.size=b:=⟨_,rfl⟩;rw[hc8]at hb8 hs8 ⊢;try simp only[go_sem]
        have z1:=hy2.size;refine zaL (P:=prog) (t:=152) (l:=[f1,f2]) hb8 rfl (za7 hf1.row.isOne hf2.row.isOne) rfl rfl ?_;intro y9 hs9 hB9 hk9;refine⟨.inl rfl,?_⟩;simp (disch:=first|omega|assumption|rfl) only[go_sem];refine hK _ _ ?_;clear hK hgd;clear K;try clear gd
        have hE9:Ext v3 y9:=ykt (hx.trans (hy1.trans (hy2.trans hy3))) rfl (λ b hb=>by have:=hx.size;have:=hy1.size;omega) hk9;have hr1:RowZ 0 (λ b=>b=c8) y3 f1 ((zag r.owner).map vs):=⟨hf1.row.ext (hy2.trans hy3),λ a n c hv=>by have:=hf1.blk a n c hv;exact⟨yba _,oM,λ e=>oM⟩⟩;have hr2:RowZ 0 (λ b=>b=c8) y3 f2 ((zag n0).map vs):=⟨hf2.row.ext hy3,λ a n c hv=>by have:=hf2.blk a n c hv;exact⟨yba _,oM,λ e=>oM⟩⟩;refine⟨rfl,rfl,vq1 s7,vq1 s6,vq1 s5,vq1 s4,vq1 s1,vq1 s3,hE9,c8,f1,f2,vq0,hB9,?_⟩;rw[←hp];exact⟨f1,f2,rfl,hr1.turn hk9 (λ b hb=>hb.elim),hr2.turn hk9 (λ b hb=>hb.elim)⟩
       ·simp (disch:=first|omega|assumption|rfl) only[go_sem,s7,s6,hj0,hlt3,hxj,hw0,hx2,hx3,hv0i,ybj,zar,ybc,f0y,f3y,g0y];refine⟨.inr (yea y1 _),?_⟩;have hb8:=zam y1 (.cells #[.slice .none 0 0,.slice .none 0 0] 152 (0,0));have hy2:=yea y1 (.cells #[.slice .none 0 0,.slice .none 0 0] 152 (0,0));have hs8:=zai y1 (.cells #[.slice .none 0 0,.slice .none 0 0] 152 (0,0));revert hb8 hy2 hs8;generalize y1.alloc (.cells #[.slice .none 0 0,.slice .none 0 0] 152 (0,0))=y2;intro hb8 hy2 hs8;obtain⟨c8,hc8⟩:∃b,y1.heap.size=b:=⟨_,rfl⟩;rw[hc8]at hb8 hs8 ⊢;have f0z:=zaa (hE03.trans (hx.trans (hy1.trans hy2))) f0;have f3z:=zaa (hE03.trans (hx.trans (hy1.trans hy2))) f3;have g0z:=zaa (hE03.trans (hx.trans (hy1.trans hy2))) g0;try simp (disch:=first|omega|assumption|rfl) only[go_sem,s7,s6,hj0,hlt3,hxj,hw0,hx2,hx3,hv0i,ybj,zar,ybc,f0z,f3z,g0z]
        refine yfm (zem y2 y0 n0 (hn0.ext (hE03.trans (hx.trans (hy1.trans hy2)))) kn.LB oM) ?_;rintro f2 y3 ⟨hf2,hy3⟩;refine⟨.inr hy3,?_⟩;simp (disch:=first|omega|assumption|rfl) only[go_sem];obtain⟨af1,cf1,hf1e,_⟩:=id hf1.row;obtain⟨af2,cf2,hf2e,_⟩:=id hf2.row;refine⟨by kernel_rfl,?_⟩;rw[hf1e,hf2e,show bdV prog 152 [(0,.slice af1 ((zag r.owner).map vs).length cf1),(1,.slice af2 ((zag n0).map vs).length cf2)]=some (.agg #[.slice af1 ((zag r.owner).map vs).length cf1,.slice af2 ((zag n0).map vs).length cf2]) from by kernel_rfl,←hf1e,←hf2e];simp (disch:=first|omega|assumption|rfl) only[go_sem];have z1:=hy3.size;refine zaL (P:=prog) (t:=152) (l:=[f1,f2]) (Ext.at hy3 hb8) rfl (za7 hf1.row.isOne hf2.row.isOne) rfl rfl ?_;intro y9 hs9 hB9 hk9;refine⟨.inl rfl,?_⟩;simp (disch:=first|omega|assumption|rfl) only[go_sem];refine hK _ _ ?_;clear hK hgd;clear K;try clear gd
        have hE9:Ext v3 y9:=ykt (hx.trans (hy1.trans (hy2.trans hy3))) rfl (λ b hb=>by have:=hx.size;have:=hy1.size;omega) hk9;have hr1:RowZ 0 (λ b=>b=c8) y3 f1 ((zag r.owner).map vs):=⟨hf1.row.ext (hy2.trans hy3),λ a n c hv=>by have:=hf1.blk a n c hv;exact⟨yba _,oM,λ e=>oM⟩⟩;have hr2:RowZ 0 (λ b=>b=c8) y3 f2 ((zag n0).map vs):=⟨hf2.row,λ a n c hv=>by have:=hf2.blk a n c hv;exact⟨yba _,oM,λ e=>oM⟩⟩;refine⟨rfl,rfl,vq1 s7,vq1 s6,vq1 s5,vq1 s4,vq1 s1,vq1 s3,hE9,c8,f1,f2,vq0,hB9,?_⟩;rw[←hp];exact⟨f1,f2,rfl,hr1.turn hk9 (λ b hb=>hb.elim),hr2.turn hk9 (λ b hb=>hb.elim)⟩
      ·have f0x:=zaa (hE03.trans hx) f0;have f3x:=zaa (hE03.trans hx) f3;have g0x:=zaa (hE03.trans hx) g0;simp (disch:=first|omega|assumption|rfl) only[go_sem,s7,s6,hj0,hlt3,hxj,hw0,hx2,hx3,hv0i,ybj,zar,ybc,f0x,f3x,g0x];refine⟨.inr (yea x _),?_⟩;have hb8:=zam x (.cells #[.slice .none 0 0,.slice .none 0 0] 152 (0,0));have hy1:=yea x (.cells #[.slice .none 0 0,.slice .none 0 0] 152 (0,0));have hs8:=zai x (.cells #[.slice .none 0 0,.slice .none 0 0] 152 (0,0));revert hb8 hy1 hs8;generalize x.alloc (.cells #[.slice .none 0 0,.slice .none 0 0] 152 (0,0))=y1;intro hb8 hy1 hs8;obtain⟨c8,hc8⟩:∃b,x.heap.size=b:=⟨_,rfl⟩;rw[hc8]at hb8 hs8 ⊢;have f0y:=zaa (hE03.trans (hx.trans hy1)) f0;have f3y:=zaa (hE03.trans (hx.trans hy1)) f3;have g0y:=zaa (hE03.trans (hx.trans hy1)) g0;try simp (disch:=first|omega|assumption|rfl) only[go_sem,s7,s6,hj0,hlt3,hxj,hw0,hx2,hx3,hv0i,ybj,zar,ybc,f0y,f3y,g0y]
       refine yfm (zem y1 ow r.owner (how.ext (hE03.trans (hx.trans hy1))) ko.LB oM) ?_;rintro f1 y2 ⟨hf1,hy2⟩;refine⟨.inr hy2,?_⟩;have f0z:=zaa (hE03.trans (hx.trans (hy1.trans hy2))) f0;have f3z:=zaa (hE03.trans (hx.trans (hy1.trans hy2))) f3;have g0z:=zaa (hE03.trans (hx.trans (hy1.trans hy2))) g0;simp (disch:=first|omega|assumption|rfl) only[go_sem,s7,s6,hj0,hlt3,hxj,hw0,hx2,hx3,hv0i,ybj,zar,ybc,f0z,f3z,g0z];refine yfm (zem y2 y0 n0 (hn0.ext (hE03.trans (hx.trans (hy1.trans hy2)))) kn.LB oM) ?_;rintro f2 y3 ⟨hf2,hy3⟩;refine⟨.inr hy3,?_⟩;simp (disch:=first|omega|assumption|rfl) only[go_sem];obtain⟨af1,cf1,hf1e,_⟩:=id hf1.row;obtain⟨af2,cf2,hf2e,_⟩:=id hf2.row;refine⟨by kernel_rfl,?_⟩;rw[hf1e,hf2e,show bdV prog 152 [(0,.slice af1 ((zag r.owner).map vs).length cf1),(1,.slice af2 ((zag n0).map vs).length cf2)]=some (.agg #[.slice af1 ((zag r.owner).map vs).length cf1,.slice af2 ((zag n0).map vs).length cf2]) from by kernel_rfl,←hf1e,←hf2e];simp (disch:=first|omega|assumption|rfl) only[go_sem];have z1:=hy2.size;have z2:=hy3.size;refine zaL (P:=prog) (t:=152) (l:=[f1,f2]) (Ext.at (hy2.trans hy3) hb8) rfl (za7 hf1.row.isOne hf2.row.isOne) rfl rfl ?_;intro y9 hs9 hB9 hk9;refine⟨.inl rfl,?_⟩;simp (disch:=first|omega|assumption|rfl) only[go_sem];refine hK _ _ ?_;clear hK hgd;clear K;try clear gd
       have hE9:Ext v3 y9:=ykt (hx.trans (hy1.trans (hy2.trans hy3))) rfl (λ b hb=>by have:=hx.size;omega) hk9;have hr1:RowZ 0 (λ b=>b=c8) y3 f1 ((zag r.owner).map vs):=⟨hf1.row.ext hy3,λ a n c hv=>by have:=hf1.blk a n c hv;exact⟨yba _,oM,λ e=>oM⟩⟩;have hr2:RowZ 0 (λ b=>b=c8) y3 f2 ((zag n0).map vs):=⟨hf2.row,λ a n c hv=>by have:=hf2.blk a n c hv;exact⟨yba _,oM,λ e=>oM⟩⟩;refine⟨rfl,rfl,vq1 s7,vq1 s6,vq1 s5,vq1 s4,vq1 s1,vq1 s3,hE9,c8,f1,f2,vq0,hB9,?_⟩;rw[←hp];exact⟨f1,f2,rfl,hr1.turn hk9 (λ b hb=>hb.elim),hr2.turn hk9 (λ b hb=>hb.elim)⟩
     clear s7 s6 s5 s4 s1 s3;rintro _ σ4 _ v4 ⟨rfl,rfl,s7,s6,s5,s4,s1,s3,hE4,c8,f1,f2',s8,hC8,hpr⟩;have hRO4:=RowsP.ext hRO hE4;have hEv4:=hEv3.trans hE4;have hbe2:zcZ N=(xs3++ [p])++((z.recs.drop (j+1)).filterMap renO++R2):=by rw[hbe];simp
     have hput0:=renF_app (xs:=xs3) (p:=p);obtain⟨O,hO⟩:∃O,renF xs3=O:=⟨_,rfl⟩;rw[hO]at hRO4 hxk hxl hput0;obtain⟨aO,cO,rfl,hcO,hgO⟩:=hRO4.open;have dp:=zah (n:=2) (l:=[f1,f2']) hC8 rfl;repeat refine c_r ?_
     refine rg0 ?_;repeat refine c_r ?_
     refine zan (λ m σ' ds A=>ds=[]/\∃q:Nat,q+m=O.length/\σ' 9=vi q/\σ' 8= .pointer (some ⟨c8,0,.none⟩)/\σ' 7=vi j/\σ' 6= .slice (some xr) z.recs.length cl/\σ' 5=vi k/\σ' 4=vi i/\σ' 1= .pointer (some ⟨w.heap.size,0,.none⟩)/\σ' 3= .slice aO O.length cO/\Ext v4 A/\∀t (h:t<O.length),t<q->za3 O[t] p<0) O.length ?_ ?_
     ·exact⟨rfl,0,oM,vr0,vq1 s8,vq1 s7,vq1 s6,vq1 s5,vq1 s4,vq1 s1,vq1 s3,Keep.refl _ _,λ t h ht=>absurd ht oM⟩
     clear s8 s7 s6 s5 s4 s1 s3;rintro m4 σ5 ds5 A2 ⟨rfl,q,hqm,s9,s8,s7,s6,s5,s4,s1,s3,hE5,hlow⟩;repeat refine c_r ?_
     refine zaw (Q:=λ e σ' ds' v'=>e= .normal/\ds'=[]/\σ' 9=vi q/\σ' 8= .pointer (some ⟨c8,0,.none⟩)/\σ' 7=vi j/\σ' 6= .slice (some xr) z.recs.length cl/\σ' 5=vi k/\σ' 4=vi i/\σ' 1= .pointer (some ⟨w.heap.size,0,.none⟩)/\σ' 3= .slice aO O.length cO/\Ext A2 v'/\σ' 80= .bool (tst O q λ x=>decide (za3 x p<0))) ?_ ?_
     ·by_cases hq:q<O.length
      ·rw[zcF hq];obtain⟨ck,hck,hRk⟩:=hgO q hq;obtain⟨xO,rfl⟩:=yxs (zak hck);have hqd:decide ((q:Int)<(O.length:Int))=true:=yet oM;have hq0:=cj q;have hq1:(q:Int)<(O.length:Int):=oM;refine zaF (λ _=>false) [(0,true),(1,true),(2,true),(3,true),(4,true),(5,true),(6,true),(7,true),(8,true),(9,true),(10,false),(11,true),(12,true)] NoS mixed kR ?_;intro gd K x hgd hx hxe hK;clear hxe;have hg4:=gk 4 72 hgd rfl;have d1:=zac (hE5.trans hx) hck;have d2:=zac (hE5.trans hx) dp;simp (disch:=first|omega|assumption|rfl) only[go_sem,s9,s8,s3,hqd,decide_true,hq0,hq1,d1,d2,↓hg4];refine yfm (zjn x _ _ O[q] p (hRk.ext (hE5.trans hx)) (hpr.ext (hE5.trans hx)) (hxk _ (yac hq)) hpk) ?_;rintro _ y2 ⟨hy2,c,rfl,hc,_⟩;refine⟨.inr hy2,?_⟩;have hcd:decide (c<0)=decide (za3 O[q] p<0):=decide_eq_decide.2 hc;simp (disch:=first|omega|assumption|rfl) only[go_sem,hcd,↓hg4];refine hK _ _ ?_;clear hK hgd;clear K;try clear gd
       exact⟨rfl,rfl,vq1 s9,vq1 s8,vq1 s7,vq1 s6,vq1 s5,vq1 s4,vq1 s1,vq1 s3,hx.trans hy2,vq0⟩
      ·rw[zc5 hq];have hqd:decide ((q:Int)<(O.length:Int))=false:=yef oM;refine zaF (λ _=>false) [(0,true),(1,true),(2,true),(3,true),(4,true),(5,true),(6,true),(7,true),(8,true),(9,true),(10,false),(11,true),(12,true)] NoS mixed kR ?_;intro gd K x hgd hx hxe hK;clear hxe;have hg4:=gk 4 72 hgd rfl;simp (disch:=first|omega|assumption|rfl) only[go_sem,s9,s3,hqd,↓hg4];refine hK _ _ ?_;clear hK hgd;clear K;try clear gd
       exact⟨rfl,rfl,vq1 s9,vq1 s8,vq1 s7,vq1 s6,vq1 s5,vq1 s4,vq1 s1,vq1 s3,hx,vq0⟩
     clear s9 s8 s7 s6 s5 s4 s1 s3;rintro _ σ6 _ A3 ⟨rfl,rfl,s9,s8,s7,s6,s5,s4,s1,s3,hE6,s80⟩;repeat refine c_r ?_
     refine zaG (t:=tst O q λ x=>decide (za3 x p<0)) ((vq1 s80)) ?_ ?_
     ·intro ht;have hq:q<O.length:=Classical.byContradiction λ h=>by rw[zc5 h]at ht;cases ht
      rw[zcF hq,ydT]at ht;have hq1':=ci q;repeat refine c_r ?_
      refine rg2 s9 hq1' ?_;repeat refine c_r ?_
      refine⟨m4 - 1,oM,rfl,q+1,oM,vq0,vq1 s8,vq1 s7,vq1 s6,vq1 s5,vq1 s4,vq1 s1,vq1 s3,hE5.trans hE6,λ t h ht2=>?_⟩;by_cases he:t=q
      ·subst he;exact ht
      ·exact hlow t h oM
     intro ht;have hstop:∀h:q<O.length,¬za3 O[q] p<0:=λ h h2=>by
      rw[zcF h]at ht;exact of_decide_eq_false ht h2
     have hqO:q<=O.length:=oM;have hE43:=hE5.trans hE6;clear s80 ht hE6 hE5;repeat refine c_r ?_
     refine zaw (Q:=λ e σ' ds' v'=>e= .normal/\ds'=[]/\σ' 9=vi q/\σ' 8= .pointer (some ⟨c8,0,.none⟩)/\σ' 7=vi j/\σ' 6= .slice (some xr) z.recs.length cl/\σ' 5=vi k/\σ' 4=vi i/\σ' 1= .pointer (some ⟨w.heap.size,0,.none⟩)/\σ' 3= .slice aO O.length cO/\Ext A3 v'/\σ' 95= .bool (tst O q λ x=>decide (za3 x p=0))) ?_ ?_
     ·by_cases hq:q<O.length
      ·rw[zcF hq];obtain⟨ck,hck,hRk⟩:=hgO q hq;obtain⟨xO,rfl⟩:=yxs (zak hck);have hqd:decide ((q:Int)<(O.length:Int))=true:=yet oM;have hq0:=cj q;have hq1:(q:Int)<(O.length:Int):=oM;refine zaF (λ _=>false) [(0,true),(1,true),(2,true),(3,true),(4,true),(5,true),(6,true),(7,true),(8,true),(9,true),(10,false),(11,true),(12,true)] NoS mixed kR ?_;intro gd K x hgd hx hxe hK;clear hxe;have hg4:=gk 4 87 hgd rfl;have d1:=zac (hE43.trans hx) hck;have d2:=zac (hE43.trans hx) dp;simp (disch:=first|omega|assumption|rfl) only[go_sem,s9,s8,s3,hqd,decide_true,hq0,hq1,d1,d2,↓hg4];refine yfm (zjn x _ _ O[q] p (hRk.ext (hE43.trans hx)) (hpr.ext (hE43.trans hx)) (hxk _ (yac hq)) hpk) ?_;rintro _ y2 ⟨hy2,c,rfl,_,hc⟩;refine⟨.inr hy2,?_⟩;have hcd:decide (c=0)=decide (za3 O[q] p=0):=decide_eq_decide.2 hc;simp (disch:=first|omega|assumption|rfl) only[go_sem,hcd,↓hg4];refine hK _ _ ?_;clear hK hgd;clear K;try clear gd
       exact⟨rfl,rfl,vq1 s9,vq1 s8,vq1 s7,vq1 s6,vq1 s5,vq1 s4,vq1 s1,vq1 s3,hx.trans hy2,vq0⟩
      ·rw[zc5 hq];have hqd:decide ((q:Int)<(O.length:Int))=false:=yef oM;refine zaF (λ _=>false) [(0,true),(1,true),(2,true),(3,true),(4,true),(5,true),(6,true),(7,true),(8,true),(9,true),(10,false),(11,true),(12,true)] NoS mixed kR ?_;intro gd K x hgd hx hxe hK;clear hxe;have hg4:=gk 4 87 hgd rfl;simp (disch:=first|omega|assumption|rfl) only[go_sem,s9,s3,hqd,↓hg4];refine hK _ _ ?_;clear hK hgd;clear K;try clear gd
       exact⟨rfl,rfl,vq1 s9,vq1 s8,vq1 s7,vq1 s6,vq1 s5,vq1 s4,vq1 s1,vq1 s3,hx,vq0⟩
     clear s9 s8 s7 s6 s5 s4 s1 s3;rintro _ σ7 _ A4 ⟨rfl,rfl,s9,s8,s7,s6,s5,s4,s1,s3,hE7,s95⟩;have hE44:=hE43.trans hE7;have hROA:=RowsP.ext hRO4 hE44;have hvA:=hEv4.trans hE44;repeat refine c_r ?_
     refine zaG (t:=tst O q λ x=>decide (za3 x p=0)) ((vq1 s95)) ?_ ?_
     ·intro ht;have hq:q<O.length:=Classical.byContradiction λ h=>by rw[zc5 h]at ht;cases ht
      rw[zcF hq,ydT]at ht;have hput:=zhN (jn:=fstP) hq hlow ht;have hsame:putC za3 fstP p O=O:=by rw[hput];exact List.set_getElem_self ..
      rw[hsame]at hput0;repeat refine c_r ?_
      refine rg2 s7 hj1' ?_;repeat refine c_r ?_
      exact⟨m3 - 1,oM,rfl,j+1,.slice aO O.length cO,xs3++ [p],oM,vq0,vq1 s6,vq1 s5,vq1 s4,vq1 s1,vq1 s3,hvA,by rw[hput0];exact hROA,hbe2⟩
     ·intro ht;have hmiss:∀h:q<O.length,¬za3 O[q] p<0/\¬za3 O[q] p=0:=λ h=>by
       rw[zcF h,ydF]at ht;exact⟨hstop h,ht⟩
      have hput:=zgl (jn:=fstP) hqO hlow hmiss;have hq0:=cj q;have hq1:(q:Int)<=(O.length:Int):=oM;have hcutlo:=hROA.cut (lo:=0) (hi:=q) oM hqO;have hcuthi:=hROA.cut (lo:=q) (hi:=O.length) hqO (ynl _);rw[ycT,ycr]at hcutlo;rw[yaf (by simp)]at hcuthi;have dpA:=zac hE44 dp;have hprA:PairAt NoS A4 [f1,f2'] p:=hpr.ext hE44;have hc8:c8<A4.heap.size:=by have:=(yaa.1 hC8).1;have:=hE44.size;omega
      repeat refine c_r ?_
      refine zaw (Q:=λ e σ' ds' v'=>e= .normal/\ds'=[]/\σ' 9=vi q/\σ' 8= .pointer (some ⟨c8,0,.none⟩)/\σ' 7=vi j/\σ' 6= .slice (some xr) z.recs.length cl/\σ' 5=vi k/\σ' 4=vi i/\σ' 1= .pointer (some ⟨w.heap.size,0,.none⟩)/\σ' 3= .slice aO O.length cO/\Ext A4 v'/\∃xv,σ' 10=xv/\Owns 2 (PairAt NoS A4) A4.heap.size v' 152 xv (O.take q++ [p])) ?_ ?_
      ·refine zfH (λ _=>false) (.run [(1,true),(2,true),(3,true),(5,true)] (.fork 4 [0,6] (λ i=>if i=0 then(.run [] (.fork 3 [4,6] (λ i=>if i=4 then(.run [(6,false),(7,false),(8,true)] .fin) else(.run [(4,false),(7,false),(8,true)] .fin)))) else(.run [(0,false),(4,false),(7,false),(8,true)] .fin)))) (zda A4.heap.size) mixed kR ?_;intro gd K x hgd hx hxe hK;clear hxe;have hx0:Ext A4 x:=⟨hx.os,hx.tape,hx.output,hx.size,λ b hb _=>hx.block b hb (by unfold zda;omega),hx.drawn⟩;have hxs:=hx.size;have d2:=zac hx0 dpA;simp (disch:=first|omega|assumption|rfl) only[go_sem,s9,s8,s3,hq0,hq1,d2];refine⟨zdA hc8,?_⟩;simp only[za5,zbk];refine⟨?_,?_⟩
       ·simp (disch:=first|omega|assumption|rfl) only[go_sem];refine zib (k:=2) (C:=PairAt NoS A4) rfl rfl rfl rfl ?_;intro w3 hE3 hs3 ho3;refine⟨.inr hE3.keep,?_⟩;simp (disch:=first|omega|assumption|rfl) only[go_sem];simp only[za5,zbk];refine⟨?_,?_⟩
        ·simp (disch:=first|omega|assumption|rfl) only[go_sem];refine zaR (zck A4) ho3 (hcutlo.ext (hx0.trans hE3)) rfl rfl rfl rfl rfl rfl (by decide) vr0 vr0 (by simp;omega) (by decide) oM ?_;intro u4 w4 ho4 hE4' hk4 _;refine⟨.inr (hk4.mono λ b _ hb=>by have:=(ho3.ge hb).1;show _<=_;omega),?_⟩;have hE4'':=hE4' _ hE3 (ynl _);have hs4:=hk4.size;simp (disch:=first|omega|assumption|rfl) only[go_sem];refine za4 (zck A4) rfl rfl rfl rfl hprA (by decide) ?_;intro w5 hE5 hs5 ho5;refine⟨.inr hE5.keep,?_⟩;simp (disch:=first|omega|assumption|rfl) only[go_sem];refine zaR (zck A4) (ho4.ext hE5) ho5.rows rfl rfl rfl rfl rfl rfl (by decide) vr0 vr0 (by simp;omega) (by decide) oM ?_;intro u6 w6 ho6 hE6 hk6 _;refine⟨.inr (hk6.mono λ b _ hb=>by have:=(ho4.ge hb).1;show _<=_;omega),?_⟩;simp (disch:=first|omega|assumption|rfl) only[go_sem];refine hK _ _ ⟨rfl,rfl,vq1 s9,vq1 s8,vq1 s7,vq1 s6,vq1 s5,vq1 s4,vq1 s1,vq1 s3,hx0.trans (hE6 _ (hE4''.trans hE5) (ynl _)),_,by simp only[go_sem];rfl,?_⟩;exact ho6.mono hxs
        ·simp (disch:=first|omega|assumption|rfl) only[go_sem];refine za4 (zck A4) rfl rfl rfl rfl hprA (by decide) ?_;intro w5 hE5 hs5 ho5;refine⟨.inr hE5.keep,?_⟩;simp (disch:=first|omega|assumption|rfl) only[go_sem];refine zaR (zck A4) (ho3.ext hE5) (hcutlo.ext ((hx0.trans hE3).trans hE5)) rfl rfl rfl rfl rfl rfl (by decide) vr0 vr0 (by simp;omega) (by decide) oM ?_;intro u4 w4 ho4 hE4' hk4 _;have hs4:=hk4.size;refine⟨.inr (hk4.mono λ b _ hb=>by have:=(ho3.ge hb).1;show _<=_;omega),?_⟩;have ho5':=ho5.keep hk4 (λ b hb hb2=>by have:=(ho5.ge hb).1;have:=(ho3.ge hb2).2;omega);simp (disch:=first|omega|assumption|rfl) only[go_sem];refine zaR (zck A4) ho4 ho5'.rows rfl rfl rfl rfl rfl rfl (by decide) vr0 vr0 (by simp;omega) (by decide) oM ?_;intro u6 w6 ho6 hE6 hk6 _;refine⟨.inr (hk6.mono λ b _ hb=>by have:=(ho4.ge hb).1;show _<=_;omega),?_⟩;simp (disch:=first|omega|assumption|rfl) only[go_sem];refine hK _ _ ⟨rfl,rfl,vq1 s9,vq1 s8,vq1 s7,vq1 s6,vq1 s5,vq1 s4,vq1 s1,vq1 s3,hx0.trans (hE6 _ (hE4' _ (hE3.trans hE5) (ynl _)) (ynl _)),_,by simp only[go_sem];rfl,?_⟩;exact ho6.mono hxs
       ·simp (disch:=first|omega|assumption|rfl) only[go_sem];refine za4 (zck A4) rfl rfl rfl rfl hprA (by decide) ?_;intro w5 hE5 hs5 ho5;refine⟨.inr hE5.keep,?_⟩;simp (disch:=first|omega|assumption|rfl) only[go_sem];refine zib (k:=2) (C:=PairAt NoS A4) rfl rfl rfl rfl ?_;intro w3 hE3 hs3 ho3;refine⟨.inr hE3.keep,?_⟩;simp (disch:=first|omega|assumption|rfl) only[go_sem];refine zaR (zck A4) ho3 (hcutlo.ext ((hx0.trans hE5).trans hE3)) rfl rfl rfl rfl rfl rfl (by decide) vr0 vr0 (by simp;omega) (by decide) oM ?_;intro u4 w4 ho4 hE4' hk4 _;refine⟨.inr (hk4.mono λ b _ hb=>by have:=(ho3.ge hb).1;show _<=_;omega),?_⟩;have hE4'':=hE4' _ hE3 (ynl _);have hs4:=hk4.size;simp (disch:=first|omega|assumption|rfl) only[go_sem];refine zaR (zck A4) ho4 (ho5.ext hE4'').rows rfl rfl rfl rfl rfl rfl (by decide) vr0 vr0 (by simp;omega) (by decide) oM ?_;intro u6 w6 ho6 hE6 hk6 _;refine⟨.inr (hk6.mono λ b _ hb=>by have:=(ho4.ge hb).1;show _<=_;omega),?_⟩;simp (disch:=first|omega|assumption|rfl) only[go_sem];refine hK _ _ ⟨rfl,rfl,vq1 s9,vq1 s8,vq1 s7,vq1 s6,vq1 s5,vq1 s4,vq1 s1,vq1 s3,hx0.trans (hE6 _ (hE5.trans hE4'') oM),_,by simp only[go_sem];rfl,?_⟩;exact ho6.mono oM
      clear s9 s8 s7 s6 s5 s4 s1 s3;rintro _ σ8 _ u6 ⟨rfl,rfl,s9,s8,s7,s6,s5,s4,s1,s3,hE8,xv,s10,hox⟩;repeat refine c_r ?_
      refine rq ?_;intro gd K hgd hK;try simp (disch:=first|omega|assumption|rfl) only[go_sem,s9,s3,s10,hq0,hq1]
      refine zaR (zck A4) hox (hcuthi.ext hE8) rfl rfl rfl rfl rfl rfl (by decide) ((vq1 s10)) vr0 (by simp;omega) (by decide) hE8.size ?_;intro u7 w7 ho7 hE9 _ _;have hE9':=hE9 _ hE8 (ynl _);try simp only[go_sem]
      refine hK _ _ ?_;clear hK hgd;clear K;try clear gd
      repeat refine c_r ?_
      refine rg2 s7 hj1' ?_;repeat refine c_r ?_
      exact⟨m3 - 1,oM,rfl,j+1,u7,xs3++ [p],oM,vq0,vq1 s6,vq1 s5,vq1 s4,vq1 s1,vq0,hvA.trans hE9',by rw[hput0,hput];exact ho7.rows.to λ _ _ h=>h.ext hE9',hbe2⟩
    ·have hro:renO r= .none:=by unfold renO;rw[if_neg e39]
     rw[ycJ hro]at hbe;repeat refine c_r ?_
     refine rg9 s6 s7 hj0 hlt3 hxj hx2 hz2 f23 (an2 (yef e39) yaS) ?_;repeat refine c_r ?_
     refine wt trivial ?_;repeat refine c_r ?_
     refine rg2 s7 hj1' ?_;repeat refine c_r ?_
     exact⟨m3 - 1,oM,rfl,j+1,ov3,xs3,oM,vq0,vq1 s6,vq1 s5,vq1 s4,vq1 s1,vq1 s3,hEv3,hRO,hbe⟩
   ·intro hge3;simp only[ydF]at hge3;rw[yat oM,List.filterMap_nil,yaI,←hR2]at hbe;repeat refine c_r ?_
    refine rg2 s5 hk1' ?_;repeat refine c_r ?_
    exact⟨m2 - 1,oM,rfl,k+1,ov3,xs3,oM,vq0,vq1 s4,vq1 s1,vq1 s3,hEv3,hRO,hbe⟩
  ·intro hge2;simp only[ydF]at hge2;rw[yat oM,ybx,yaI,←hR1]at hbe;repeat refine c_r ?_
   refine rg2 s4 hi1' ?_;repeat refine c_r ?_
   exact⟨m - 1,oM,rfl,i+1,ov2,xs2,oM,vq0,vq1 s1,vq1 s3,hEv2,hRO,hbe⟩
 ·intro hge;simp only[ydF]at hge;rw[yat oM,ybx,yaF]at hbe;repeat refine c_r ?_
  refine rg1 s3 ?_;repeat refine c_r ?_
  refine rt0 ntmps55 ?_;unfold renN;rw[hbe];exact⟨hE1.trans hEv,hRO⟩
def zde(ren:List zaP)(L:List Nm):List Nm:=ren.flatMap λ r=>L.filterMap λ x=>zbn x r
theorem zhf{ren:List zaP}{L:List Nm}{y:Nm}:y∈zde ren L↔y∈zaH ren L:=by
 simp only[zde,zaH,yaY,yaZ];constructor
 ·rintro⟨r,hr,x,hx,h⟩;exact⟨x,hx,r,hr,h⟩
 ·rintro⟨x,hx,r,hr,h⟩;exact⟨r,hr,x,hx,h⟩
theorem canN_mem{ps qs:List Nm}(h:∀p,p∈ps↔p∈qs):canN ps=canN qs:=
 zj6 (zdj ps) λ g=>mem_canN.trans ⟨zeY λ p hp=>(h p).1 hp,zeY λ p hp=>(h p).2 hp⟩
theorem zj5{ren:List zaP}{ps L:List Nm}:canN (ps++zde ren L)=canN (ps++zaH ren L):=canN_mem λ p=>by simp only[yai,zhf]
def zep(ren:List zaP)(L:List Nm)(k j:Nat)(r:zaP):List Nm:=zde (ren.take k) L++(L.take j).filterMap λ x=>zbn x r
theorem zmS{ren:List zaP}{L:List Nm}{r:zaP}(hr:r∈ren):∀y∈zep ren L k j r,y∈zaH ren L:=by
 intro y hy;rw[←zhf];unfold zde;rcases yai.1 hy with h|h
 ·unfold zde at h;obtain⟨x,hx,h⟩:=yaY.1 h;exact yaY.2 ⟨x,yaO hx,h⟩
 ·obtain⟨x,hx,h⟩:=yaZ.1 h;exact yaY.2 ⟨r,hr,yaZ.2 ⟨x,yaO hx,h⟩⟩
theorem zlr{ren:List zaP}{L:List Nm}{r:zaP}(hj:j<L.length):zep ren L k (j+1) r=zep ren L k j r++(zbn L[j] r).toList:=by
 unfold zep;rw[zal hj,ybD,←yla]
 congr 1
theorem zls{ren:List zaP}{L:List Nm}(hk:k<ren.length)(hj:L.length<=j):zep ren L k j ren[k]=zde (ren.take (k+1)) L:=by
 unfold zep zde;rw[yaf hj,zal hk,ybB];simp
theorem znS{ren:List zaP}{ps:List Nm}{p:Nm}(h:p∈ps++zaH ren (canN ps)):p∈zbw ren (k+1) ps:=by
 unfold zbw
 split
 ·exact h
 ·exact zfs h
theorem zod(w:World)(qv fv tv:Value)(q f:Nm)(ht:one tv=true)(hq:Row w qv (q.map vs))(hf:Row w fv (f.map vs))(mq:NmM q)(mf:NmM f)(hu:zaN q f=false):
  Fn prog 56 #[qv,fv,tv] w (λ v w'=>Ext w w'/\v= .tuple #[.slice .none 0 0,vi 12]):=by
 obtain⟨aq,cq,hqv,_⟩:=id hq;obtain⟨af,cf,hfv,_⟩:=id hf;have bq:=mq.len;have bf:=mf.len;refine enx func56 ntmps56 ?_;refine gz0 ?_;refine rc trivial (zjm _ _ _ _ _ hq hf mq.LB mf.LB oM oM) ?_;rintro _ w1 ⟨rfl,hE1⟩;rw[hu];refine re trivial ?_;refine cZ ?_;refine wt trivial ?_;refine gz0 ?_;refine zau (.inr rfl) ntmps56 rfl (zaj (v:= .slice .none 0 0) vr0 (zaj (v:=vi 12) vr0 zas)) ?_;exact⟨hE1,rfl⟩
theorem zoc(w:World)(qv fv tv:Value)(x:Nm)(r:zaP)(hq:Row w qv (x.map vs))(hf:Row w fv (r.2.map vs))(ht:Row w tv (r.1.map vs))(mq:NmM x)(hr:zbB r):
  Fn prog 56 #[qv,fv,tv] w (λ v w'=>Ext w w'/\((∃y sv,zbn x r=some y/\v= .tuple #[sv,vi 0]/\Row w' sv (y.map vs))\/∃e:Int,zbn x r= .none/\v= .tuple #[.slice .none 0 0,vi e]/\e≠0)):=by
 cases hu:zaN x r.2 with
 |false=>
  refine yfm (zod w qv fv tv x r.2 ht.isOne hq hf mq hr.b.m hu) ?_;rintro _ w' ⟨hE,rfl⟩;exact⟨hE,.inr ⟨12,by simp[zbn,hu],rfl,by decide⟩⟩
 |true=>
  refine yfm (RSwap_ok w qv fv tv x r.2 r.1 hq hf ht mq hr.b.m hr.a.m hu) ?_;rintro v w' ⟨hE,h1,h2⟩;by_cases hc:zaC (zca x r.2 r.1)=0
  ·obtain⟨sv,rfl,h3,h4⟩:=h1 hc;exact⟨hE,.inl ⟨_,sv,by simp[zbn,hu,hc],rfl,h3⟩⟩
  ·exact⟨hE,.inr ⟨7,by simp[zbn,hu,hc],h2 hc,by decide⟩⟩
theorem zof(hE0:Ext w0 w)(hN:NetAt w0 cs N)(hG:zaO N){most:Int}(hmost:most<=1000000):
  Fn prog 29 #[.agg cs.toArray,vi most] w (λ v w'=>Ext w w'/\((most<((canN (zaU N)).length:Int)/\v= .tuple #[.slice .none 0 0,vi 11])\/
   (((canN (zaU N)).length:Int)<=most/\∃lv,v= .tuple #[lv,vi 0]/\NamesAt w' lv (canN (zaU N))))):=by
 have hN0:=hN;obtain⟨hv,rv,rfl,hh,hr⟩:=hN.ex;obtain⟨ah,ch,hhv,_⟩:=hh.open;obtain⟨ar0,cr0,hrv,_⟩:=id hr;have hw:=hG.w;have bk:=zjj hG;refine enx func29 ntmps29 ?_;repeat refine c_r ?_
 rw[hhv,hrv];refine rg0 ?_;rw[←hhv,←hrv];repeat refine c_r ?_
 refine zav ?_;intro w1 hE1 hs1 hA;have dA:=zah (n:=4) (l:=[hv,rv,vi N.rw,vi N.rf]) hA rfl;repeat refine c_r ?_
 refine rc dA (RBase_ok (hE0.trans hE1) hN0 hG) ?_;rintro bv w2 ⟨hE2,hZ0⟩;refine re trivial ?_;repeat refine c_r ?_
 refine rc (zac hE2 dA) (zkb (hE0.trans (hE1.trans hE2)) hN0 hG) ?_;rintro rnv w3 ⟨hE3,hR⟩;refine re trivial ?_;have hE13:=hE2.trans hE3;have p2:zad w3 (some ⟨w.heap.size,2,.none⟩)=some (vi N.rw):=zab (Ext.at hE13 hA) rfl;have hro:∀r∈renN N,zbB r:=zhK (zeM hG);obtain⟨ren,hren⟩:∃r,renN N=r:=⟨_,rfl⟩;obtain⟨k0,hk0⟩:∃k:Nat,N.rw=(k:Int):=⟨N.rw.toNat,oM⟩;have hF:zaU N=zbw ren k0 (zbe N):=by unfold zaU;rw[hren,hk0];rfl
 have hrl:(renN N).length<=1000000000:=by
  have h1:=zd7 hG;have h2:=zhJ (l:=zcZ N);unfold renN;omega
 rw[hren]at hR hro hrl;rw[hF];rw[hk0]at p2 hw;obtain⟨F,hFe⟩:∃F,zbw ren k0 (zbe N)=F:=⟨_,rfl⟩;rw[hFe];obtain⟨ar,cr,rfl,_,hgr⟩:=hR.open;refine gz0 ?_;refine zaw (Q:=λ e σ' ds' v'=>ds'=[]/\Ext w3 v'/\((e= .exit 0/\σ' 1=vi most/\∃lv,σ' 6=lv/\NamesAt v' lv (canN F))\/(e= .ret/\σ' 4= .slice .none 0 0/\σ' 5=vi 11/\most<((canN F).length:Int)))) ?_ ?_
 ·refine zan (λ m σ ds v=>ds=[]/\∃(i:Nat) (qs:List Nm) (lv:Value),i+m=k0/\σ 8=vi i/\σ 2= .pointer (some ⟨w.heap.size,0,.none⟩)/\σ 1=vi most/\σ 6=lv/\σ 7= .slice ar ren.length cr/\Ext w3 v/\NamesZ NoS v lv (canN qs)/\(∀p∈qs,NmK p)/\zbw ren (k0 - i) qs=F) k0 ?_ ?_
  ·exact⟨rfl,0,zbe N,bv,oM,vr0,vq0,vq0,vq0,vq0,Keep.refl _ _,hZ0.ext hE3,bk,hFe⟩
  rintro m σ ds v ⟨rfl,i,qs,lv,him,s8,s2,s1,s6,s7,hEv,hZ,hqk,hcl⟩;have p2v:=zaa hEv p2;refine gz (az4 s8 s2 p2v yn0) ?_;refine wc0 ?_ ?_
  ·intro hlt;simp only[ydT]at hlt;have hi1':=ci i;obtain⟨j0,hj0⟩:∃j,k0 - i=j+1:=⟨k0 - i - 1,oM⟩;rw[hj0]at hcl;have hsub:∀p∈qs++zaH ren (canN qs),p∈F:=λ p hp=>by rw[←hcl];exact znS hp
   have hqk2:∀p∈qs++zaH ren (canN qs),NmK p:=λ p hp=>by
    rcases yai.1 hp with hp|hp
    ·exact hqk p hp
    ·exact za9 (zhG hp)
   have hsz:∀ps:List Nm,(∀p∈ps,p∈qs++zaH ren (canN qs))->(canN ps).length<=(canN F).length:=λ ps h=>zia λ g=>zeY λ p hp=>hsub p (h p hp);have hq1:=hsz qs λ p hp=>yas _ hp;obtain⟨ao,co,rfl,hgo⟩:=zdf hZ.at;obtain⟨L,hL⟩:∃L,canN qs=L:=⟨_,rfl⟩;have hLk:∀x∈L,NmK x:=λ x hx=>inS_k hqk (mem_canN.1 (by rw[hL];exact hx));have hZL:=hZ;rw[hL]at s6 hgo hsub hqk2 hsz hq1 hZL;repeat refine c_r ?_
   by_cases hgt:(L.length:Int)>most
   ·refine rg3 s6 s1 (yet hgt) ?_;repeat refine c_r ?_
    refine wt trivial ?_;refine gz0 ?_;exact⟨rfl,hEv,.inr ⟨rfl,vr0,vr0,oM⟩⟩
   refine gz (az3 s6 s1 (yef hgt)) ?_;refine wf trivial ?_;refine gz s6 ?_;refine zan (λ m σ ds v'=>ds=[]/\∃(k:Nat) (lv:Value),k+m=ren.length/\σ 10=vi k/\σ 9= .slice ao L.length co/\σ 8=vi i/\σ 2= .pointer (some ⟨w.heap.size,0,.none⟩)/\σ 1=vi most/\σ 6=lv/\σ 7= .slice ar ren.length cr/\Ext v v'/\NamesZ NoS v' lv (canN (qs++zde (ren.take k) L))/\((canN (qs++zde (ren.take k) L)).length:Int)<=most) ren.length ?_ ?_
   ·exact⟨rfl,0,.slice ao L.length co,oM,vr0,vq0,vq1 s8,vq1 s2,vq1 s1,vq1 s6,vq1 s7,Keep.refl _ _,by simpa [zde,hL] using hZL,by simp[zde,hL];omega⟩
   clear s8 s2 s1 s6 s7 p2v;rintro m2 σ2 ds2 v2 ⟨rfl,k,lv2,hkm,s10,s9,s8,s2,s1,s6,s7,hE2',hZ2,hml⟩;refine gz (az2 s10 s7) ?_;refine wc0 ?_ ?_
   ·intro hlt2;simp only[ydT]at hlt2;have hk:k<ren.length:=oM;have hk0':=cj k;have hk1':=ci k;have hrm:=yac hk;obtain⟨pcs,hpc,hP⟩:=hgr k hk;have hfull:∀j,L.length<=j->zep ren L k j ren[k]=zde (ren.take (k+1)) L:=λ j hj=>zls hk hj;obtain⟨r,hre⟩:∃r,ren[k]=r:=⟨_,rfl⟩;rw[hre]at hP hrm hfull;have hro1:=hro r hrm;obtain⟨p1,p2',rfl,hp1,hp2⟩:=hP.ex;obtain⟨xr,rfl⟩:=yxs (zak hpc);obtain⟨xk,hxk⟩:∃xi,adr (some xr) (k*2)=some xi:=⟨_,rfl⟩;rw[hxk]at hpc;have hz0:adr (some xk) 0=some xk:=zar _;have c0:=zaq (j:=0) hpc rfl;rw[hz0]at c0;have c1:=zaq (j:=1) hpc rfl;obtain⟨x1,hx1⟩:∃x,adr (some xk) 1=some x:=⟨_,rfl⟩;rw[hx1]at c1;have hps:∀j,∀p∈qs++zep ren L k j r,p∈qs++zaH ren L:=λ j p hp=>by
     rcases yai.1 hp with h|h
     ·exact yas _ h
     ·exact yaP _ (zmS hrm p h)
    refine gz0 ?_;refine zan (λ m σ ds v'=>ds=[]/\∃(j:Nat) (lv:Value),j+m=L.length/\σ 11=vi j/\σ 10=vi k/\σ 9= .slice ao L.length co/\σ 8=vi i/\σ 2= .pointer (some ⟨w.heap.size,0,.none⟩)/\σ 1=vi most/\σ 6=lv/\σ 7= .slice (some xr) ren.length cr/\Ext v v'/\NamesZ NoS v' lv (canN (qs++zep ren L k j r))/\((canN (qs++zep ren L k j r)).length:Int)<=most) L.length ?_ ?_
    ·exact⟨rfl,0,lv2,oM,vr0,vq1 s10,vq1 s9,vq1 s8,vq1 s2,vq1 s1,vq1 s6,vq1 s7,hE2',by simpa [zep] using hZ2,by simpa [zep] using hml⟩
    clear s10 s9 s8 s2 s1 s6 s7 hE2' hZ2 hml;rintro m3 σ3 ds3 v3 ⟨rfl,j,lv3,hjm,s11,s10,s9,s8,s2,s1,s6,s7,hE3',hZ3,hml⟩;refine gz (az2 s11 s9) ?_;refine wc0 ?_ ?_
    ·intro hlt3;simp only[ydT]at hlt3;have hj:j<L.length:=oM;have hj0':=cj j;have hj1':=ci j;obtain⟨y,gy0,hy⟩:=hgo j hj;obtain⟨xo,rfl⟩:=yxs (zaf gy0);have hxk9:=hLk _ (yac hj);have hE03:=hEv.trans hE3';have hnext:=zlr (ren:=ren) (k:=k) (r:=r) hj;obtain⟨z,hze⟩:∃z,L[j]=z:=⟨_,rfl⟩;rw[hze]at hy hxk9 hnext;repeat refine c_r ?_
     refine zaw (Q:=λ e σ' ds' v'=>e= .normal/\ds'=[]/\σ' 11=vi j/\σ' 10=vi k/\σ' 9= .slice (some xo) L.length co/\σ' 8=vi i/\σ' 2= .pointer (some ⟨w.heap.size,0,.none⟩)/\σ' 1=vi most/\σ' 6=lv3/\σ' 7= .slice (some xr) ren.length cr/\Ext v3 v'/\∃(sv:Value) (e:Int),σ' 12=sv/\σ' 13=vi e/\
      ((e=0/\∃y,zbn z r=some y/\Row v' sv (y.map vs))\/(e≠0/\zbn z r= .none))) ?_ ?_
     ·refine zaF (λ _=>false) [(0,true),(1,true),(2,true),(3,true),(4,true),(5,true),(6,true),(7,true),(8,true),(9,true),(10,true),(11,true),(12,true),(13,true),(14,false),(15,true),(16,true),(17,true),(18,true),(19,true)] NoS mixed kR ?_;intro gd K x hgd hx hxe hK;clear hxe;have gyx:=zaa (hE3'.trans hx) gy0;have c0x:=zaa (hE03.trans hx) c0;have c1x:=zaa (hE03.trans hx) c1;refine sgz (az2 (az7 s11 s10 s9 s7 hj0' hlt3 hk0') (az7 hlt2 gyx hxk hz0 hx1 c0x c1x)) ?_;refine yfm (zoc x y p2' p1 z r (hy.ext (hE3'.trans hx)) (hp2.1.ext (hE03.trans hx)) (hp1.1.ext (hE03.trans hx)) hxk9.m hro1) ?_;rintro _ x9 ⟨hx9,(⟨y,sv,hsw,rfl,hy1⟩| ⟨e,hsw,rfl,he⟩)⟩
      ·refine⟨.inr hx9,?_⟩;refine sg0 ?_;apply hK;exact⟨rfl,rfl,vq1 s11,vq1 s10,vq1 s9,vq1 s8,vq1 s2,vq1 s1,vq1 s6,vq1 s7,hx.trans hx9,sv,0,vq0,vr0,.inl ⟨rfl,y,hsw,hy1⟩⟩
      ·refine⟨.inr hx9,?_⟩;refine sg0 ?_;apply hK;exact⟨rfl,rfl,vq1 s11,vq1 s10,vq1 s9,vq1 s8,vq1 s2,vq1 s1,vq1 s6,vq1 s7,hx.trans hx9,_,e,vr0,vq0,.inr ⟨he,hsw⟩⟩
     clear s11 s10 s9 s8 s2 s1 s6 s7;rintro _ σ4 _ v4 ⟨rfl,rfl,s11,s10,s9,s8,s2,s1,s6,s7,hE4,sv,e,s12,s13,hc⟩;refine gz s13 ?_;refine zaw (Q:=λ e σ' ds' v'=>e= .normal/\ds'=[]/\σ' 11=vi j/\σ' 10=vi k/\σ' 9= .slice (some xo) L.length co/\σ' 8=vi i/\σ' 2= .pointer (some ⟨w.heap.size,0,.none⟩)/\σ' 1=vi most/\σ' 7= .slice (some xr) ren.length cr/\Ext v4 v'/\∃lv,σ' 6=lv/\NamesZ NoS v' lv (canN (qs++zep ren L k (j+1) r))) ?_ ?_
     ·rcases hc with ⟨rfl,y,hsw,hy1⟩| ⟨hne,hsw⟩
      ·refine wt trivial ?_;repeat refine c_r ?_
       refine rc (an2 s6 s12) (ze8 v4 lv3 sv _ y (hZ3.ext hE4) hy1 (λ p hp=>hqk2 p (hps j p hp)) (za9 (zfP hsw)) oM) ?_;rintro lv5 v5 ⟨hE5,hZ5⟩;refine re trivial ?_;rw[yla,show zep ren L k j r++ [y]=zep ren L k (j+1) r by rw[hnext,hsw];rfl]at hZ5;exact⟨rfl,rfl,vq1 s11,vq1 s10,vq1 s9,vq1 s8,vq1 s2,vq1 s1,vq1 s7,hE5,lv5,vq0,hZ5⟩
      ·refine wf (yef hne) ?_;repeat refine c_r ?_
       exact⟨rfl,rfl,vq1 s11,vq1 s10,vq1 s9,vq1 s8,vq1 s2,vq1 s1,vq1 s7,Keep.refl _ _,lv3,vq1 s6,by rw[hnext,hsw];simpa using hZ3.ext hE4⟩
     clear s11 s10 s9 s8 s2 s1 s6 s7 s12 s13 hc;rintro _ σ5 _ v5 ⟨rfl,rfl,s11,s10,s9,s8,s2,s1,s7,hE5,lv5,s6,hZ5⟩;have hE35:=hE3'.trans (hE4.trans hE5);have hsz5:=hsz _ (hps (j+1));obtain⟨a5,c5,rfl,_⟩:=zdf hZ5.at;repeat refine c_r ?_
     by_cases hgt5:((canN (qs++zep ren L k (j+1) r)).length:Int)>most
     ·refine rg3 s6 s1 (yet hgt5) ?_;repeat refine c_r ?_
      refine wt trivial ?_;refine gz0 ?_;exact⟨rfl,hEv.trans hE35,.inr ⟨rfl,vr0,vr0,oM⟩⟩
     ·refine rg3 s6 s1 (yef hgt5) ?_;repeat refine c_r ?_
      refine wf trivial ?_;refine gz (az2 s11 hj1') ?_;exact⟨m3 - 1,oM,rfl,j+1,_,oM,vq0,vq1 s10,vq1 s9,vq1 s8,vq1 s2,vq1 s1,vq1 s6,vq1 s7,hE35,hZ5,oM⟩
    ·intro hge3;simp only[ydF]at hge3;rw[hfull j oM]at hZ3 hml;refine gz (az2 s10 hk1') ?_;exact⟨m2 - 1,oM,rfl,k+1,lv3,oM,vq0,vq1 s9,vq1 s8,vq1 s2,vq1 s1,vq1 s6,vq1 s7,hE3',hZ3,hml⟩
   ·intro hge2;simp only[ydF]at hge2;rw[yaf oM,zj5]at hZ2 hml;obtain⟨a5,c5,rfl,_⟩:=zdf hZ2.at;have hE05:=hEv.trans hE2';repeat refine c_r ?_
    by_cases heq:(canN (qs++zaH ren L)).length=L.length
    ·have hFq:qs++zaH ren L=F:=by rw[←hcl];unfold zbw;rw[hL,if_pos heq]
     refine gz (az3 s6 s9 (yet (show((canN (qs++zaH ren L)).length:Int)=(L.length:Int) by omega))) ?_;refine wt trivial ?_;repeat refine c_r ?_
     rw[hFq]at hZ2;exact⟨rfl,hE05,.inl ⟨rfl,vq1 s1,_,by rw[←hFq];simp only[go_sem,s6],hZ2.at⟩⟩
    ·have hFq:zbw ren j0 (qs++zaH ren L)=F:=by
      rw[←hcl];conv=>rhs;unfold zbw
      rw[hL,if_neg heq]
     refine gz (az3 s6 s9 (yef (show¬((canN (qs++zaH ren L)).length:Int)=(L.length:Int) by omega))) ?_;refine wf trivial ?_;refine gz (az2 s8 hi1') ?_;exact⟨m - 1,oM,rfl,i+1,_,_,oM,vq0,vq1 s2,vq1 s1,vq1 s6,vq1 s7,hE05,hZ2,hqk2,by rw[show k0 - (i+1)=j0 by omega];exact hFq⟩
  ·intro hge;simp only[ydF]at hge;have hFq:qs=F:=by rw[←hcl,show k0 - i=0 by omega];rfl
   rw[hFq]at hZ;repeat refine c_r ?_
   exact⟨rfl,hEv,.inl ⟨rfl,vq1 s1,lv,vq1 s6,hZ.at⟩⟩
 rintro e σ' ds' v' ⟨rfl,hEv,(⟨rfl,s1,lv,s6,hlv⟩| ⟨rfl,h4,h5,hgt2⟩)⟩
 ·obtain⟨a5,c5,rfl,_⟩:=zdf hlv;repeat refine c_r ?_
  by_cases hgt:((canN F).length:Int)>most
  ·refine rg3 s6 s1 (yet hgt) ?_;repeat refine c_r ?_
   refine wt trivial ?_;refine gz0 ?_;refine zau (.inr rfl) ntmps29 rfl (zaj (v:= .slice .none 0 0) vr0 (zaj (v:=vi 11) vr0 zas)) ?_;exact⟨hE1.trans (hE13.trans hEv),.inl ⟨oM,rfl⟩⟩
  ·refine rg3 s6 s1 (yef hgt) ?_;repeat refine c_r ?_
   refine wf trivial ?_;refine gz s6 ?_;refine zau (.inr rfl) ntmps29 rfl (zaj (v:= .slice a5 (canN F).length c5) vr0 (zaj (v:=vi 0) vr0 zas)) ?_;exact⟨hE1.trans (hE13.trans hEv),.inr ⟨oM,_,rfl,hlv⟩⟩
 ·repeat refine c_r ?_
  refine zau (.inr rfl) ntmps29 rfl (zaj (v:= .slice .none 0 0) ((vq1 h4)) (zaj (v:=vi 11) ((vq1 h5)) zas)) ?_;exact⟨hE1.trans (hE13.trans hEv),.inl ⟨hgt2,rfl⟩⟩
theorem znR(w:World):zdD 2 (ClsAt w):=⟨λ h=>(by obtain⟨nv,rfl,_⟩:=h.ex;rfl),λ h=>(by
 obtain⟨nv,rfl,hr⟩:=h.ex;exact za7 hr.isOne rfl)⟩
theorem bs_cls{P:Program}{parts:List (Nat×Value)}{K:Value->World->Prop}{x:Nm}(hn:Row w0 nv (x.map vs))(hC:bsC P t 2 parts=some (e,#[nv,.bool false,nv,.bool true]))
  (h:∀w1,Ext w w1->w1.heap.size=w.heap.size+1->Rows 2 (ClsAt w0) w1 (.slice (some ⟨w.heap.size,0,.none⟩) 2 2) [⟨x,false⟩,⟨x,true⟩]->K (.slice (some ⟨w.heap.size,0,.none⟩) 2 2) w1):bsL P t 2 parts w K .mk:=by
 unfold bsL bsK;rw[hC];refine h _ (yea w _) (zai w _) ⟨[[nv,.bool false],[nv,.bool true]],⟨some ⟨w.heap.size,0,.none⟩,2,rfl,ynl _,λ i hi=>?_⟩,rfl,λ i h1 h2=>?_⟩
 ·have hb:=zam w (.cells #[nv,.bool false,nv,.bool true] e (0,0))
  match i,hi with
  |0,_=>exact zaK (o:=0) (k:=2) hb sM
  |1,_=>exact zaK (o:=2) (k:=2) hb sM
 ·match i,h1 with
  |0,_=>exact⟨nv,rfl,hn⟩
  |1,_=>exact⟨nv,rfl,hn⟩
theorem cls_next{L:List Nm}(h:i<L.length):clsN (L.take (i+1))=clsN (L.take i)++ [⟨L[i],false⟩,⟨L[i],true⟩]:=by
 unfold clsN;rw[zal h,ybB];simp
theorem All_ok(hE0:Ext w0 w)(hN:NetAt w0 cs N)(hG:zaO N)(hl:(canN (zaU N)).length<=4096):
  Fn prog 30 #[.agg cs.toArray] w (λ v w'=>Ext w w'/\∃lv,v= .tuple #[lv,vi 0]/\Rows 2 (ClsAt w') w' lv (clsN (canN (zaU N)))):=by
 have hN0:=hN;obtain⟨hv,rv,rfl,hh,hr⟩:=hN.ex;obtain⟨ah,ch,hhv,_⟩:=hh.open;obtain⟨ar0,cr0,hrv,_⟩:=id hr;refine enx func30 ntmps30 ?_;refine cZ ?_;rw[hhv,hrv];refine go trivial ?_;rw[←hhv,←hrv];refine zav ?_;intro w1 hE1 hs1 hA;have dA:=zah (n:=4) (l:=[hv,rv,vi N.rw,vi N.rf]) hA rfl;refine rc dA (Close_ok (most:=4096) (hE0.trans hE1) hN0 hG (by decide)) ?_;rintro _ w2 ⟨hE2,(⟨h1,_⟩| ⟨_,lv,rfl,hlv⟩)⟩
 ·omega
 obtain⟨L,hL⟩:∃L,canN (zaU N)=L:=⟨_,rfl⟩;rw[hL]at hlv hl ⊢;obtain⟨a,c,rfl,hg⟩:=zdf hlv;refine rgo trivial ?_;refine zaw (Q:=λ e σ' ds' v=>e= .exit 0/\ds'=[]/\Ext w2 v/\∃ov,σ' 6=ov/\Owns 2 (ClsAt w2) w2.heap.size v 87 ov (clsN L)) ?_ ?_
 ·refine zgX L.length (λ i σ v=>(σ 19=vi i/\σ 18=vi L.length/\σ 17= .slice a L.length c)/\Ext w2 v/\∃ov,σ 6=ov/\Owns 2 (ClsAt w2) w2.heap.size v 87 ov (clsN (L.take i))) ?_ ?_ ?_
  ·exact⟨⟨vr0,vq0,vq0⟩,Keep.refl _ _,_,vr0,Owns.nil _ _ _ _ _⟩
  ·rintro i σ v hi p ⟨s,hE,ov,s6,ho⟩;obtain⟨xv,gx,hxv⟩:=hg i hi;have g:=zaa hE gx;obtain⟨xa,rfl⟩:=yxs (zaf g);obtain⟨ax,cx,hxe,_⟩:=id hxv;rw[ylm]at hxe;rw[hxe]at g;have hnx:=cls_next hi;have hcl:=zk0 (L:=L.take i);have:=yde i L;refine go (an3 s p g) ?_;refine rq ?_;intro gd K hgd hK;refine sgz s6 ?_;refine⟨by kernel_rfl,?_⟩;rw[show bdV prog 87 [(0,.slice ax L[i].length cx),(1,.bool false)]=some (.agg #[.slice ax L[i].length cx,.bool false]) from by kernel_rfl];refine sgz s6 ?_;refine⟨by kernel_rfl,?_⟩;rw[show bdV prog 87 [(0,.slice ax L[i].length cx),(1,.bool true)]=some (.agg #[.slice ax L[i].length cx,.bool true]) from by kernel_rfl];refine sgz s6 ?_;refine bs_cls (e:=87) (x:=L[i]) (w0:=w2) (nv:= .slice ax L[i].length cx) (by rw[←hxe];exact hxv) kR ?_;intro v1 hE3 hs3 hr3;refine sgz s6 ?_;refine zaR (znR w2) (ho.ext hE3) hr3 rfl rfl rfl rfl rfl rfl (by decide) ((vq1 s6)) vr0 (by simp;omega) (by decide) (hE.trans hE3).size ?_;intro u v2 ho2 hE4 _ _;refine sg0 ?_;apply hK;refine go (an2 s p) ?_;exact⟨rfl,sc (an2 s p),hE4 _ (hE.trans hE3) (ynl _),u,vq0,by rw[hnx];exact ho2⟩
  ·rintro σ v p ⟨s,hE,ov,s6,ho⟩;rw[yaT]at ho;refine go (an2 s p) ?_;exact⟨rfl,rfl,hE,ov,vq1 s6,ho⟩
 rintro _ σ _ v ⟨rfl,rfl,hE,ov,s6,ho⟩;refine go s6 ?_;refine zau (.inr rfl) ntmps30 rfl (zaj (v:=ov) ((vq1 s6)) (zaj (v:=vi 0) vr0 zas)) ?_;exact⟨hE1.trans (hE2.trans hE),ov,rfl,ho.rows.to λ _ _ h=>h.ext hE⟩
def zjl{α:Type}(X:World->α->Prop)(K:α->Nat->Prop):Prop:=∀{A A':World} {S:Nat->Prop} {x:α},X A x->(∀b,K x b->b<A.heap.size)->Keep S A A'->(∀b,K x b->¬S b)->X A' x
structure GX{α:Type}(X:World->α->Prop)(K:α->Nat->Prop)(k:Nat)(C:List Value->α->Prop)(e:TypeId)(B:Nat)(A:World)(ov:Value)(G:List α):Prop where
 own:Owns k C B A e ov G
 row:∀x∈G,X A x/\(∀b,K x b->B<=b/\b<A.heap.size)/\∀b,K x b->some b≠ov.ownBlock
def gxK{α:Type}(K:α->Nat->Prop)(ov:Value)(G:List α)(b:Nat):Prop:=(∃x∈G,K x b)\/some b=ov.ownBlock
section
variable {α : Type} {X : World -> α -> Prop} {K : α -> Nat -> Prop} {k : Nat} {C : List Value -> α -> Prop} {e : TypeId} {B : Nat} {A A' A1 A2 : World} {ov ov' : Value} {G : List α}
theorem GX.keep(h:GX X K k C e B A ov G)(st:zjl X K)(hk:Keep S A A')(hS:∀b,gxK K ov G b->¬S b):GX X K k C e B A' ov G:=
 ⟨h.own.keep hk (λ b hb=>hS b (.inr hb)),λ x hx=>by
  obtain⟨h1,h2,h3⟩:=h.row x hx;exact⟨st h1 (λ b hb=>(h2 b hb).2) hk (λ b hb=>hS b (.inl ⟨x,hx,hb⟩)),λ b hb=>⟨(h2 b hb).1,ybE (h2 b hb).2 hk.size⟩,h3⟩⟩
theorem GX.in(h:GX X K k C e B A ov G)(hb:gxK K ov G b):B<=b/\b<A.heap.size:=by
 rcases hb with ⟨x,hx,hb⟩|hb
 ·exact(h.row x hx).2.1 b hb
 ·exact h.own.ge hb
theorem GX.ext(h:GX X K k C e B A ov G)(st:zjl X K)(hE:Ext A A'):GX X K k C e B A' ov G:=h.keep st hE (λ _ _ h=>h)
theorem GX.app{x:α}(h:GX X K k C e B A ov G)(st:zjl X K)(hE:Ext A A1)(hB:B<=A.heap.size)(hx:X A1 x)(hxb:∀b,K x b->A.heap.size<=b/\b<A1.heap.size)
  (ho:Owns k C B A2 e ov' (G++ [x])) (hk:Keep (λ b=>some b=ov.ownBlock) A1 A2) (hob:∀b,some b=ov'.ownBlock->some b=ov.ownBlock\/A1.heap.size<=b):GX X K k C e B A2 ov' (G++ [x]):=by
 refine⟨ho,λ y hy=>?_⟩;have h1:=h.ext st hE;have hy2:X A1 y/\(∀b,K y b->B<=b/\b<A1.heap.size)/\∀b,K y b->some b≠ov.ownBlock:=by
  rcases yai.1 hy with hy|hy
  ·exact h1.row y hy
  ·rw[yae.1 hy];exact⟨hx,λ b hb=>by have:=hxb b hb;omega,λ b hb he=>by have:=hxb b hb;have:=(h.own.ge he).2;omega⟩
 obtain⟨g1,g2,g3⟩:=hy2;refine⟨st g1 (λ b hb=>(g2 b hb).2) hk g3,λ b hb=>by have:=g2 b hb;have:=hk.size;omega,λ b hb he=>?_⟩;rcases hob b he with e|e
 ·exact g3 b hb e
 ·have:=(g2 b hb).2;omega
end
abbrev ZX:=zcr×(Value×(Value×List OX))
def zxX(w0:World)(A:World)(x:ZX):Prop:=Row w0 x.2.1 (x.1.o.map vs)/\x.2.2.2.map Prod.fst=x.1.recs/\∃B,OI w0 B A x.2.2.1 x.2.2.2
def zxK(x:ZX)(b:Nat):Prop:=some b=x.2.2.1.ownBlock\/∃y∈x.2.2.2,∃a n c,y.2.1= .slice (some a) n c/\b=a.block
def zxC(cs:List Value)(x:ZX):Prop:=cs=[x.2.1,x.2.2.1]/\one x.2.1=true/\one x.2.2.1=true
theorem zkj:zdD 2 zxC:=⟨λ h=>by rw[h.1];rfl,λ h=>by rw[h.1];exact za7 h.2.1 h.2.2⟩
theorem zdE(w0:World):zjl (zxX w0) zxK:=by
 intro A A' S x h hK hk hS;obtain⟨h1,h2,B,h3⟩:=h;exact⟨h1,h2,B,h3.own.keep hk (λ b hb=>hS b (.inl hb)),λ y hy=>by
  obtain⟨g1,g2⟩:=h3.row y hy;exact⟨g1.keep hk (λ a n c hv=>hS _ (.inr ⟨y,hy,a,n,c,hv,rfl⟩)),g2⟩⟩
theorem zx_in{x:ZX}(h:OI w0 B A x.2.2.1 x.2.2.2):∀b,zxK x b->B<=b/\b<A.heap.size:=λ b hb=>by
 rcases hb with hb| ⟨y,hy,a,n,c,hv,rfl⟩
 ·exact h.own.ge hb
 ·exact(h.row y hy).1.blk a n c hv
theorem zx_zone{x:ZX}(h:zxX w0 A x)(hE:Ext w0 A):ZoneC A [x.2.1,x.2.2.1] x.1:=by
 obtain⟨h1,h2,B,h3⟩:=h;have:=h3.rows hE;rw[h2]at this;exact⟨_,_,rfl,h1.ext hE,this⟩
abbrev HX:=zd5×(Value×(List Value×List ZX))
def hxX(w0:World)(ez:TypeId)(A:World)(x:HX):Prop:=(∃nv a b c d,x.2.2.1=[nv,zae a,zae b,zae c,zae d,x.2.1]/\x.1.addr=[a,b,c,d]/\Row w0 nv (x.1.name.map vs))/\x.2.2.2.map Prod.fst=x.1.zones/\∃B,GX (zxX w0) zxK 2 zxC ez B A x.2.1 x.2.2.2
def hxK(x:HX)(b:Nat):Prop:=gxK zxK x.2.1 x.2.2.2 b
def hxC(cs:List Value)(x:HX):Prop:=cs=x.2.2.1/\cs.length=6/\∀q∈cs,one q=true
theorem zkJ:zdD 6 hxC:=⟨λ h=>h.2.1,λ h=>h.2.2⟩
theorem zeZ(w0:World)(ez:TypeId):zjl (hxX w0 ez) hxK:=by
 intro A A' S x h hK hk hS;obtain⟨h1,h2,B,h3⟩:=h;exact⟨h1,h2,B,h3.keep (zdE w0) hk hS⟩
theorem hx_host{ez:TypeId}{x:HX}(h:hxX w0 ez A x)(hE:Ext w0 A):HostC A x.2.2.1 x.1:=by
 obtain⟨⟨nv,a,b,c,d,e,ha,hn⟩,h2,B,h3⟩:=h;have hz:Rows 2 (ZoneC A) A x.2.1 (x.2.2.2.map Prod.fst):=h3.own.rows.mapM (C':=ZoneC A) Prod.fst λ cs y hy hc=>by
  rw[hc.1];exact zx_zone (h3.row y hy).1 hE
 rw[h2]at hz;exact⟨nv,a,b,c,d,_,e,ha,hn.ext hE,hz⟩
theorem zkK{ez eh:TypeId}{ov:Value}{G:List HX}(h:GX (hxX w0 ez) hxK 6 hxC eh B A ov G)(hE:Ext w0 A):Rows 6 (HostC A) A ov (G.map Prod.fst):=
 h.own.rows.mapM (C':=HostC A) Prod.fst λ cs y hy hc=>by
  rw[hc.1];exact hx_host (h.row y hy).1 hE
theorem ZOf_ok(hE0:Ext w0 w){ov:Value}{R:List RecL}(ho:Row w0 ov (o.map vs))(hl:Rows 7 (RecAt w0) w lv R)(hnn:∀r∈R,r.dat.names.length<=1000000000)(hlen:R.length<=1000000000):
  Fn prog 20 #[.agg #[ov,lv]] w (λ v w'=>Ext w w'/\∃lv' G,v= .agg #[ov,lv']/\OI w0 (w.heap.size+2) w' lv' G/\G.map Prod.fst=R):=by
 obtain⟨ao,co,hov,_⟩:=id ho;obtain⟨al,cl,hlv,_⟩:=hl.open;refine enx func20 ntmps20 ?_;repeat refine c_r ?_
 rw[hov,hlv];refine rg0 ?_;rw[←hov,←hlv];repeat refine c_r ?_
 rw[zai];refine zaQ ?_;intro w1 hE1 hs1 hA hC;have p0:zad w1 (some ⟨w.heap.size,0,.none⟩)=some ov:=zab hA rfl;have p1:zad w1 (some ⟨w.heap.size,1,.none⟩)=some lv:=zab hA rfl;repeat refine c_r ?_
 refine zaF (λ i=>i==6) [(0,true),(1,true),(2,true),(3,true),(4,false),(5,true),(6,false)] NoS mixed kR ?_;intro gd K x hgd hx hxe hK;clear hxe;have p0x:=zaa hx p0;have p1x:=zaa hx p1;have hxs:=hx.size;refine sgz (az4 p0x p1x yad yn0) ?_;refine yfm (zjp (hE0.trans (hE1.trans hx)) (hl.ext (hE1.trans hx)) hnn hlen) ?_;rintro lv' w2 ⟨hE2,G,hOI,hG⟩;refine⟨.inr hE2,?_⟩;obtain⟨al',cl',hlv',_⟩:=hOI.own.rows.open;refine sgz (az4 p0x p1x yad yn0) ?_;refine⟨by kernel_rfl,?_⟩;rw[hov,hlv',show bdV prog 56 [(0,.slice ao (o.map vs).length co),(1,.slice al' G.length cl')]=some (.agg #[.slice ao (o.map vs).length co,.slice al' G.length cl']) from by kernel_rfl,←hov,←hlv'];refine sg0 ?_;refine zaL (P:=prog) (t:=56) (l:=[ov,lv']) (Ext.at (hx.trans hE2) hC) rfl (za7 ho.isOne (by rw[hlv'];rfl)) rfl rfl ?_;intro z hz' hbz hkz;refine⟨.inl rfl,?_⟩;refine sg0 ?_;refine en hK ?_;refine zau (.inr rfl) ntmps20 rfl (za0 (x:=⟨w.heap.size+1,0,.none⟩) (k:=2) vq0 rfl rfl (zah hbz rfl) zas) ?_;have hEz:Ext w z:=ykt (hE1.trans (hx.trans hE2)) rfl (λ b hb=>oM) hkz;refine⟨hEz,lv',G,rfl,⟨(hOI.own.keep hkz (λ b hb h=>by have:=(hOI.own.ge hb).1;omega)).mono oM,λ y hy=>?_⟩,hG⟩;obtain⟨g1,g2⟩:=hOI.row y hy;exact⟨(g1.keep hkz (λ a n c hv h=>by have:=(g1.blk a n c hv).1;omega)).mono oM,g2⟩
end Go.Proofs.YtfacfpcopcgbdaaGreat
