/-
  Texts of a proof, joined: OB, OE, OF, OG, U0, U1, U2, U3, U4, U5, U6, U7, U8, U9, UA, UB, UC, UD, OK, K35, OH, OM.
  Conditions: none.
-/
import Derived.Test.YtahbdamijngmmaaGreatJRP09
import Derived.Test.YtahbdamijngmmaaGreatJRP12
import Derived.Test.YtahbdamijngmmaaGreatJRP13
import Derived.Test.YtahbdamijngmmaaGreatJRP07
import Derived.Test.YtahbdamijngmmaaGreatJRP08
import Derived.Test.YtahbdamijngmmaaGreatJRP06
import Derived.Test.YtahbdamijngmmaaGreatJRP02
set_option linter.unusedVariables false
set_option linter.unusedSimpArgs false
set_option linter.defProp false
set_option linter.unnecessarySimpa false
set_option maxHeartbeats 8000000
namespace Go.Proofs.YtahbdamijngmmaaGreat
open Go
set_option maxRecDepth 10000
theorem zjW:zkc smallN kX 1=[(kA0,[0]),(kA1,[0,0]),(kA2,[0,0,0])]:=by kernel_rfl
theorem zjX:endsL [(kA0,[0]),(kA1,[0,0]),(kA2,[0,0,0])]=[(1,[0,0,0])]:=by kernel_rfl
theorem small_p1:zcb smallN kX 1 [0,0,0]=(kA2,true):=by kernel_rfl
theorem small_p2:zcb smallN kX 1 [0,1]=(stZ,false):=by kernel_rfl
theorem small_p3:zcb smallN kX 1 []=(stZ,false):=by kernel_rfl
theorem zgO:zcc kX=true:=by kernel_rfl
theorem zlg(l:List Int):∀v∈l.map vi,v.cells=#[v]:=fun v h=>by obtain⟨x,_,rfl⟩:=List.mem_map.1 h;rfl
theorem zkx(w:World):Fn Tryz.prog 33 #[] w (fun v w'=>v= .bool true/\Ext w w'):=by
 refine enter Tryz.func33 Tryz.ntmps33 rfl rfl ?_;refine go trivial ?_;refine rq ?_;intro gd K hgd hK;try simp only[go_sem]
 refine Fn.mono (Small_ok w) ?_;rintro _ w1 ⟨hE1,cs,rfl,hN⟩;obtain⟨hv,rv,rfl,hh,hr⟩:=id hN.ex;have hh1:=hh.isOne;have hr1:=hr.isOne;try simp only[go_sem]
 refine zaV (P:=Tryz.prog) (l:=[hv,rv,vi smallN.rw,vi smallN.rf]) rfl (fun v h=>by simp at h;rcases h with rfl|rfl|rfl|rfl<;>first|assumption|rfl) rfl rfl ?_;intro w2 hE2 hs2 hB;try simp only[go_sem]
 apply hK;have dN:zao w2 (some ⟨w1.heap.size,0,.none⟩) 4=some [hv,rv,vi smallN.rw,vi smallN.rf]:=zaf hB rfl;refine go trivial ?_;refine rq ?_;intro gd K hgd hK;try simp only[go_sem]
 refine zbz (z:=vs []) (l:=[vs [120],vs [111]]) rfl rfl rfl rfl rfl rfl (fun v hv=>by simp at hv;rcases hv with rfl|rfl<;>rfl) (by simp) ?_;intro w3 hE3 hs3 o3;have r3:Row w3 (.slice (some ⟨w2.heap.size,0,.none⟩) 2 2) (kX.map vs):=o3.row;try simp only[go_sem]
 apply hK;refine go trivial ?_;have hE13:=hE2.trans hE3;have hP:=zkz (t:=1) hE13 hN zdr r3 zgO;simp only[zjW,zjX]at hP;refine rc (zac hE3 dN) hP ?_;rintro _ w4 ⟨hE4,(⟨hc,_⟩| ⟨hc,ev,rfl,hrows⟩)⟩
 ·exact absurd hc (by decide)
 obtain⟨ae,ce,rfl,hce,hge⟩:=id hrows.open;rw[show ([((1:Int),[(0:Int),0,0])]:List (Int×List Int)).length=1 from rfl];obtain⟨ec,hec,hEn⟩:=hge 0 (by simp);obtain⟨pv,rfl,hpv⟩:=hEn.ex;obtain⟨ap,cp,rfl,_⟩:=id hpv;replace hec:zao w4 (adr ae (0*2)) 2=some [vi 1,.slice ap 3 cp]:=hec;obtain⟨xe,rfl⟩:=yxs (zak hec);rw[Nat.zero_mul,zaj]at hec;obtain⟨x1,hx1⟩:∃x,adr (some xe) 1=some x:=⟨_,rfl⟩;have g0:=zah (j:=0) hec rfl;have g1:=zah (j:=1) hec rfl;rw[hx1]at g1;rw[zaj]at g0;refine rgo trivial ?_;have hE14:=hE13.trans hE4;have dN4:=zac (hE3.trans hE4) dN;refine rq ?_;intro gd K hgd hK;refine sgz dN4 ?_;refine zbz (z:=vi 0) (l:=[vi 0,vi 0,vi 0]) rfl rfl rfl rfl rfl rfl (zlg [0,0,0]) (by simp) ?_;intro w5 hE5 hs5 o5;try simp only[go_sem]
 have hP:=zg8 (t:=1) (ch:=[0,0,0]) (hE14.trans hE5) hN zdr (r3.ext (hE4.trans hE5)) zgO o5.row (by decide);rw[small_p1]at hP;refine Fn.mono hP ?_;rintro _ w6 ⟨hE6,n6,rfl,hn6⟩;try simp only[go_sem]
 refine zaV (P:=Tryz.prog) (l:=stV n6 kA2) rfl (zbi hn6.isOne) rfl rfl ?_;intro w7 hE7 hs7 hB7;try simp only[go_sem]
 apply hK;refine go trivial ?_;have hE47:=hE5.trans (hE6.trans hE7);have dN7:=zac hE47 dN4;refine rq ?_;intro gd K hgd hK;refine sgz dN7 ?_;refine zbz (z:=vi 0) (l:=[vi 0,vi 1]) rfl rfl rfl rfl rfl rfl (zlg [0,1]) (by simp) ?_;intro w8 hE8 hs8 o8;try simp only[go_sem]
 have hP:=zg8 (t:=1) (ch:=[0,1]) ((hE14.trans hE47).trans hE8) hN zdr (r3.ext ((hE4.trans hE47).trans hE8)) zgO o8.row (by decide);rw[small_p2]at hP;refine Fn.mono hP ?_;rintro _ w9 ⟨hE9,n9,rfl,hn9⟩;try simp only[go_sem]
 refine zaV (P:=Tryz.prog) (l:=stV n9 stZ) rfl (zbi hn9.isOne) rfl rfl ?_;intro w10 hE10 hs10 hB10;try simp only[go_sem]
 apply hK;refine go trivial ?_;have hE710:=hE8.trans (hE9.trans hE10);have dN10:=zac hE710 dN7;have hE110:=(hE14.trans hE47).trans hE710;have hP:=zg8 (t:=1) (ch:=[]) (cv:= .slice .none 0 0) hE110 hN zdr (r3.ext ((hE4.trans hE47).trans hE710)) zgO ⟨.none,0,rfl,ynl _,fun j h=>by simp at h⟩ (by decide);rw[small_p3]at hP;refine rq ?_;intro gd K hgd hK;refine sgz dN10 ?_;refine Fn.mono hP ?_;rintro _ w11 ⟨hE11,n11,rfl,hn11⟩;try simp only[go_sem]
 refine zaV (P:=Tryz.prog) (l:=stV n11 stZ) rfl (zbi hn11.isOne) rfl rfl ?_;intro w12 hE12 hs12 hB12;try simp only[go_sem]
 apply hK;refine go trivial ?_;have hE412:=hE47.trans (hE710.trans (hE11.trans hE12));refine rc trivial (zmz (k:=1) (p:=[0,0,0]) ((Rows.ext hrows hE412).to fun _ _ h=>h.ext hE412)) ?_;rintro kv w13 ⟨hkv,hE13⟩;obtain⟨ak,ck,rfl,_,hgk⟩:=hkv;rw[show [vi 1].length=1 from rfl];have gk:=hgk 0 (by simp);replace gk:zad w13 (adr ak 0)=some (vi 1):=gk;obtain⟨xk,rfl⟩:=yxs (zag gk);rw[zaj]at gk;refine rgo trivial ?_;have g0:=zaa (hE412.trans hE13) g0;have g1:=zaa (hE412.trans hE13) g1;have f6:zad w13 (some ⟨w6.heap.size,5,.none⟩)=some (vi 1):=zab (i:=5) (Ext.at (hE710.trans (hE11.trans (hE12.trans hE13))) hB7) rfl;have z0:(0:Int)<=0:=Int.le_refl _;have z1:(0:Int)<((1:Nat):Int):=by decide
 have o1:decide (((1:Nat):Int)=1)=true:=rfl;have o3:decide (((3:Nat):Int)=3)=true:=rfl;have o4:decide (((([(kA0,[0]),(kA1,[0,0]),(kA2,[0,0,0])]:List MetL).length:Nat):Int)=3)=true:=rfl;have o0:decide ((0:Int)=0)=true:=rfl;have o2:decide ((1:Int)=1)=true:=rfl;refine rgg [(2,46),(7,51),(14,58),(22,66),(26,70),(29,73),(34,78),(38,82),(42,86),(47,91)] (an2 (an9 g0 g1 f6 gk hx1 z0 z1 o1 o3) (an9 o0 o2 Int.toNat_zero Nat.zero_mul zaj o4 Nat.add_zero yn0 Bool.not_false)) ?_;refine go trivial ?_;refine rt0 Tryz.ntmps33 ?_;exact⟨rfl,hE1.trans ((hE14.trans (hE412.trans hE13)))⟩
def EndG(w:World)(a:Option Addr)(E:List (Int×List Int)):Prop:=∀i (hi:i<E.length),∃xa x x1 ap cp,a=some xa/\adr (some xa) (i*2)=some x/\adr (some x) 0=some x/\adr (some x) 1=some x1/\zad w (some x)=some (vi E[i].1)/\zad w (some x1)=some (.slice ap E[i].2.length cp)/\
 Row w (.slice ap E[i].2.length cp) (E[i].2.map vi)/\∀j (hj:j<E[i].2.length),∃xp,ap=some xp/\zad w (adr (some xp) j)=some (vi E[i].2[j])
instance Tr.ends{a:Option Addr}{E:List (Int×List Int)}:Tr fun w=>EndG w a E:=⟨fun hE h i hi=>by
 obtain⟨xa,x,x1,ap,cp,e0,e1,e2,e3,g0,g1,hr,hg⟩:=h i hi
 exact⟨xa,x,x1,ap,cp,e0,e1,e2,e3,zaa hE g0,zaa hE g1,hr.ext hE,fun j hj=>by
  obtain⟨xp,e,g⟩:=hg j hj
  exact⟨xp,e,zaa hE g⟩⟩⟩
theorem row_at{w:World}{v:Value}{kd:IntKind}{ps:List Int}(h:Row w v (ps.map (.int kd))):∃a c,v= .slice a ps.length c/\∀i (hi:i<ps.length),∃x,a=some x/\zad w (adr (some x) i)=some (.int kd ps[i]):=by
 obtain⟨a,c,rfl,_,hg⟩:=h;refine⟨a,c,by rw[ylm],fun i hi=>?_⟩;have g:=hg i (by rw[ylm];exact hi);rw[List.getElem_map]at g;obtain⟨x,rfl⟩:=yxs (zag g);exact⟨x,rfl,g⟩
theorem zkO{w x:World}{b:Nat}{ty:TypeId}{a:Option Addr}{n c:Nat}{s:zar}{nv:Value}{names:Nm}(hb:w.heap[b]? =some (.cells (stV (.slice a n c) s).toArray ty (0,0)))(hr:Row w nv (names.map vs))(hk:Keep (fun i=>i=b) w x):Row x nv (names.map vs):=
 hr.keepV hk fun ad u hs hu hm=>by
  obtain⟨b',of,sp⟩:=ad
  dsimp only at hs
  subst hs;have hsp:sp= .none:=by
   cases sp with
   |none=>rfl
   |some q=>simp[World.cell?,hb]at hu
  subst hsp;have h2:=zby hb of;rw[hu]at h2;have h3:u∈stV (.slice a n c) s:=List.mem_of_getElem? (i:=of) (by rw[←List.getElem?_toArray];exact h2.symm);obtain⟨y,_,rfl⟩:=List.mem_map.1 hm;unfold stV at h3;simp[vs]at h3
def zie{α:Type}(X:World->α->Prop)(K:α->Nat->Prop):Prop:=∀{A A':World} {S:Nat->Prop} {x:α},X A x->(∀b,K x b->b<A.heap.size)->Keep S A A'->(∀b,K x b->¬S b)->X A' x
structure GX{α:Type}(X:World->α->Prop)(K:α->Nat->Prop)(k:Nat)(C:List Value->α->Prop)(e:TypeId)(B:Nat)(A:World)(ov:Value)(G:List α):Prop where
 own:Owns k C B A e ov G
 row:∀x∈G,X A x/\(∀b,K x b->B<=b/\b<A.heap.size)/\∀b,K x b->some b≠ov.ownBlock
def gxK{α:Type}(K:α->Nat->Prop)(ov:Value)(G:List α)(b:Nat):Prop:=(∃x∈G,K x b)\/some b=ov.ownBlock
section
variable {α : Type} {X : World -> α -> Prop} {K : α -> Nat -> Prop} {k : Nat} {C : List Value -> α -> Prop} {e : TypeId} {B : Nat} {A A' A1 A2 : World} {ov ov' : Value} {G : List α}
theorem GX.keep(h:GX X K k C e B A ov G)(st:zie X K){S:Nat->Prop}(hk:Keep S A A')(hS:∀b,gxK K ov G b->¬S b):GX X K k C e B A' ov G:=
 ⟨h.own.keep hk (fun b hb=>hS b (.inr hb)),fun x hx=>by
  obtain⟨h1,h2,h3⟩:=h.row x hx;exact⟨st h1 (fun b hb=>(h2 b hb).2) hk (fun b hb=>hS b (.inl ⟨x,hx,hb⟩)),fun b hb=>⟨(h2 b hb).1,Nat.lt_of_lt_of_le (h2 b hb).2 hk.size⟩,h3⟩⟩
theorem GX.in(h:GX X K k C e B A ov G){b:Nat}(hb:gxK K ov G b):B<=b/\b<A.heap.size:=by
 rcases hb with ⟨x,hx,hb⟩|hb
 ·exact(h.row x hx).2.1 b hb
 ·exact h.own.ge hb
theorem GX.ext(h:GX X K k C e B A ov G)(st:zie X K)(hE:Ext A A'):GX X K k C e B A' ov G:=h.keep st hE (fun _ _ h=>h)
theorem GX.app{x:α}(h:GX X K k C e B A ov G)(st:zie X K)(hE:Ext A A1)(hB:B<=A.heap.size)(hx:X A1 x)(hxb:∀b,K x b->A.heap.size<=b/\b<A1.heap.size)
  (ho:Owns k C B A2 e ov' (G++ [x])) (hk:Keep (fun b=>some b=ov.ownBlock) A1 A2) (hob:∀b,some b=ov'.ownBlock->some b=ov.ownBlock\/A1.heap.size<=b):GX X K k C e B A2 ov' (G++ [x]):=by
 refine⟨ho,fun y hy=>?_⟩;have h1:=h.ext st hE;have hy2:X A1 y/\(∀b,K y b->B<=b/\b<A1.heap.size)/\∀b,K y b->some b≠ov.ownBlock:=by
  rcases List.mem_append.1 hy with hy|hy
  ·exact h1.row y hy
  ·rw[List.mem_singleton.1 hy];exact⟨hx,fun b hb=>by have:=hxb b hb;omega,fun b hb he=>by have:=hxb b hb;have:=(h.own.ge he).2;omega⟩
 obtain⟨g1,g2,g3⟩:=hy2;refine⟨st g1 (fun b hb=>(g2 b hb).2) hk g3,fun b hb=>by have:=g2 b hb;have:=hk.size;omega,fun b hb he=>?_⟩;rcases hob b he with e|e
 ·exact g3 b hb e
 ·have:=(g2 b hb).2;omega
end
abbrev ZX:=zcr×(Value×(Value×List OX))
def zxX(w0:World)(A:World)(x:ZX):Prop:=Row w0 x.2.1 (x.1.o.map vs)/\x.2.2.2.map Prod.fst=x.1.recs/\∃B,OI w0 B A x.2.2.1 x.2.2.2
def zxK(x:ZX)(b:Nat):Prop:=some b=x.2.2.1.ownBlock\/∃y∈x.2.2.2,∃a n c,y.2.1= .slice (some a) n c/\b=a.block
def zxC(cs:List Value)(x:ZX):Prop:=cs=[x.2.1,x.2.2.1]/\one x.2.1=true/\one x.2.2.1=true
theorem zi8:zdX 2 zxC:=⟨fun h=>by rw[h.1];rfl,fun h=>by rw[h.1];exact zc6 h.2.1 h.2.2⟩
theorem zc5(w0:World):zie (zxX w0) zxK:=by
 intro A A' S x h hK hk hS;obtain⟨h1,h2,B,h3⟩:=h;exact⟨h1,h2,B,h3.own.keep hk (fun b hb=>hS b (.inl hb)),fun y hy=>by
  obtain⟨g1,g2⟩:=h3.row y hy;exact⟨g1.keep hk (fun a n c hv=>hS _ (.inr ⟨y,hy,a,n,c,hv,rfl⟩)),g2⟩⟩
theorem zx_in{w0 A:World}{B:Nat}{x:ZX}(h:OI w0 B A x.2.2.1 x.2.2.2):∀b,zxK x b->B<=b/\b<A.heap.size:=fun b hb=>by
 rcases hb with hb| ⟨y,hy,a,n,c,hv,rfl⟩
 ·exact h.own.ge hb
 ·exact(h.row y hy).1.blk a n c hv
theorem zx_zone{w0 A:World}{x:ZX}(h:zxX w0 A x)(hE:Ext w0 A):ZoneC A [x.2.1,x.2.2.1] x.1:=by
 obtain⟨h1,h2,B,h3⟩:=h;have:=h3.rows hE;rw[h2]at this;exact⟨_,_,rfl,h1.ext hE,this⟩
abbrev HX:=zes×(Value×(List Value×List ZX))
def hxX(w0:World)(ez:TypeId)(A:World)(x:HX):Prop:=(∃nv a b c d,x.2.2.1=[nv,zae a,zae b,zae c,zae d,x.2.1]/\x.1.addr=[a,b,c,d]/\Row w0 nv (x.1.name.map vs))/\x.2.2.2.map Prod.fst=x.1.zones/\∃B,GX (zxX w0) zxK 2 zxC ez B A x.2.1 x.2.2.2
def hxK(x:HX)(b:Nat):Prop:=gxK zxK x.2.1 x.2.2.2 b
def hxC(cs:List Value)(x:HX):Prop:=cs=x.2.2.1/\cs.length=6/\∀q∈cs,one q=true
theorem zjq:zdX 6 hxC:=⟨fun h=>h.2.1,fun h=>h.2.2⟩
theorem zeh(w0:World)(ez:TypeId):zie (hxX w0 ez) hxK:=by
 intro A A' S x h hK hk hS;obtain⟨h1,h2,B,h3⟩:=h;exact⟨h1,h2,B,h3.keep (zc5 w0) hk hS⟩
theorem hx_host{w0 A:World}{ez:TypeId}{x:HX}(h:hxX w0 ez A x)(hE:Ext w0 A):HostC A x.2.2.1 x.1:=by
 obtain⟨⟨nv,a,b,c,d,e,ha,hn⟩,h2,B,h3⟩:=h;have hz:Rows 2 (ZoneC A) A x.2.1 (x.2.2.2.map Prod.fst):=h3.own.rows.mapM (C':=ZoneC A) Prod.fst fun cs y hy hc=>by
  rw[hc.1];exact zx_zone (h3.row y hy).1 hE
 rw[h2]at hz;exact⟨nv,a,b,c,d,_,e,ha,hn.ext hE,hz⟩
theorem zjr{w0 A:World}{ez eh:TypeId}{B:Nat}{ov:Value}{G:List HX}(h:GX (hxX w0 ez) hxK 6 hxC eh B A ov G)(hE:Ext w0 A):Rows 6 (HostC A) A ov (G.map Prod.fst):=
 h.own.rows.mapM (C':=HostC A) Prod.fst fun cs y hy hc=>by
  rw[hc.1];exact hx_host (h.row y hy).1 hE
theorem ZOf_ok{w0 w:World}(hE0:Ext w0 w){ov lv:Value}{o:Nm}{R:List RecL}(ho:Row w0 ov (o.map vs))(hl:Rows 7 (RecAt w0) w lv R)(hnn:∀r∈R,r.dat.names.length<=1000000000)(hlen:R.length<=1000000000):
  Fn Tryz.prog 70 #[.agg #[ov,lv]] w (fun v w'=>Ext w w'/\∃lv' G,v= .agg #[ov,lv']/\OI w0 (w.heap.size+2) w' lv' G/\G.map Prod.fst=R):=by
 obtain⟨ao,co,hov,_⟩:=id ho;obtain⟨al,cl,hlv,_⟩:=hl.open;refine enter Tryz.func70 Tryz.ntmps70 rfl rfl ?_;repeat refine c_r ?_
 rw[hov,hlv];refine rg0 ?_;rw[←hov,←hlv];repeat refine c_r ?_
 rw[zai];refine zaF ?_;intro w1 hE1 hs1 hA hC;have p0:zad w1 (some ⟨w.heap.size,0,.none⟩)=some ov:=zab hA rfl;have p1:zad w1 (some ⟨w.heap.size,1,.none⟩)=some lv:=zab hA rfl;repeat refine c_r ?_
 refine zaJ (fun i=>i==6) [(0,true),(1,true),(2,true),(3,true),(4,false),(5,true),(6,false)] NoS mixed (by kernel_rfl) ?_;intro gd K x hgd hx hxe hK;clear hxe;have p0x:=zaa hx p0;have p1x:=zaa hx p1;have hxs:=hx.size;refine sgz (az4 p0x p1x Nat.add_zero yn0) ?_;refine Fn.mono (zil (hE0.trans (hE1.trans hx)) (hl.ext (hE1.trans hx)) hnn hlen) ?_;rintro lv' w2 ⟨hE2,G,hOI,hG⟩;refine⟨.inr hE2,?_⟩;obtain⟨al',cl',hlv',_⟩:=hOI.own.rows.open;refine sgz (az4 p0x p1x Nat.add_zero yn0) ?_;refine⟨by kernel_rfl,?_⟩;rw[hov,hlv',show bdV Tryz.prog 128 [(0,.slice ao (o.map vs).length co),(1,.slice al' G.length cl')]=some (.agg #[.slice ao (o.map vs).length co,.slice al' G.length cl']) from by kernel_rfl,←hov,←hlv'];refine sg0 ?_;refine zaC (P:=Tryz.prog) (t:=128) (l:=[ov,lv']) (Ext.at (hx.trans hE2) hC) rfl (zc6 ho.isOne (by rw[hlv'];rfl)) rfl rfl ?_;intro z hz' hbz hkz;refine⟨.inl rfl,?_⟩;refine sg0 ?_;refine en hK ?_;refine zas (.inr rfl) Tryz.ntmps70 rfl (zaI (x:=⟨w.heap.size+1,0,.none⟩) (k:=2) vq0 rfl rfl (zaf hbz rfl) zaq) ?_;have hEz:Ext w z:=Keep.to_ext (hE1.trans (hx.trans hE2)) rfl (fun b hb=>by omega) hkz;refine⟨hEz,lv',G,rfl,⟨(hOI.own.keep hkz (fun b hb h=>by have:=(hOI.own.ge hb).1;omega)).mono (by omega),fun y hy=>?_⟩,hG⟩;obtain⟨g1,g2⟩:=hOI.row y hy;exact⟨(g1.keep hkz (fun a n c hv h=>by have:=(g1.blk a n c hv).1;omega)).mono (by omega),g2⟩
structure IZ(w0:World)(es ez:TypeId)(b5:Nat)(nv:Value)(a b c d:UInt8)(A0 v:World)(pv:Value)(zs:List ZX):Prop where
 h:v.heap[b5]? =some (.cells #[nv,zae a,zae b,zae c,zae d,pv] es (0,0))
 g:GX (zxX w0) zxK 2 zxC ez (b5+1) v pv zs
 e:Ext A0 v
 lo:A0.heap.size<=b5
theorem IZ.app{w0 A0 v v1 v2 v3:World}{es ez:TypeId}{b5:Nat}{nv pv pv':Value}{a b c d:UInt8}{zs:List ZX}{x:ZX}(h:IZ w0 es ez b5 nv a b c d A0 v pv zs)(hE:Ext v v1)(hB:b5+1<=v.heap.size)(hx:zxX w0 v1 x)(hxb:∀b,zxK x b->v.heap.size<=b/\b<v1.heap.size)
  (ho:Owns 2 zxC (b5+1) v2 ez pv' (zs++ [x])) (hk:Keep (fun b=>some b=pv.ownBlock) v1 v2) (hob:∀b,some b=pv'.ownBlock->some b=pv.ownBlock\/v1.heap.size<=b) (h3:v3.heap[b5]? =some (.cells #[nv,zae a,zae b,zae c,zae d,pv'] es (0,0))) (hk3:Keep (fun b=>b=b5) v2 v3):
  IZ w0 es ez b5 nv a b c d A0 v3 pv' (zs++ [x]):=by
 have lo:=h.lo;have e2:Ext A0 v2:=Keep.to_ext (h.e.trans hE) rfl (fun b hb=>by have:=(h.g.own.ge hb).1;omega) hk;have g2:=h.g.app (zc5 w0) hE hB hx hxb ho hk hob;exact⟨h3,g2.keep (zc5 w0) hk3 (fun b hb hb2=>by have:=(g2.in hb).1;omega),Keep.to_ext e2 rfl (fun b hb=>by omega) hk3,lo⟩
theorem Of16_ok(w:World){cs:List Value}{c:NetL}(hc:NetAt w cs c)(hf:NetZ c):
  Fn Tryz.prog 21 #[.agg cs.toArray] w (fun v w'=>Ext w w'/\∃cs',v= .agg cs'.toArray/\NetAt w' cs' c):=by
 obtain⟨sv,rv,rfl,hs,hr⟩:=hc.ex;obtain⟨aS,cS,rfl,hat⟩:=zlH hs;have hr0:=hr;have r1:=hr.isOne;obtain⟨ar,cr,hrv,_,hgr⟩:=hr;have hsl:=hf.hl;refine enter Tryz.func21 Tryz.ntmps21 rfl rfl ?_;repeat refine c_r ?_
 rw[hrv];refine rg0 ?_;rw[←hrv];repeat refine c_r ?_
 rw[zai];refine zaF ?_;intro w1 hE1 hs1 hA hC;have p0:zad w1 (some ⟨w.heap.size,0,.none⟩)=some (.slice aS c.hosts.length cS):=zab hA rfl;have p1:zad w1 (some ⟨w.heap.size,1,.none⟩)=some rv:=zab hA rfl;have p2:zad w1 (some ⟨w.heap.size,2,.none⟩)=some (vi c.rw):=zab hA rfl;have p3:zad w1 (some ⟨w.heap.size,3,.none⟩)=some (vi c.rf):=zab hA rfl;refine rqz ?_;intro gd K hgd hK;refine sgz (az4 p1 p2 p3 yn0) ?_;refine⟨by kernel_rfl,?_⟩;rw[hrv,show bdV Tryz.prog 40 [(1,.slice ar (c.roots.map vi).length cr),(2,vi c.rw),(3,vi c.rf)]=some (.agg #[.slice .none 0 0,.slice ar (c.roots.map vi).length cr,vi c.rw,vi c.rf]) from by kernel_rfl,←hrv];try simp only[go_sem]
 refine zaV (P:=Tryz.prog) (l:=[.slice .none 0 0,rv,vi c.rw,vi c.rf]) rfl (fun v hv=>by simp at hv;rcases hv with rfl|rfl|rfl|rfl<;>first|exact r1|rfl) rfl rfl ?_;intro w2 hE2 hs2 hD;try simp only[go_sem]
 apply hK;obtain⟨c3,hc3⟩:∃b,w1.heap.size=b:=⟨_,rfl⟩;rw[hc3]at hD hs2 ⊢;have hE12:=hE1.trans hE2;have p0w:=zaa hE2 p0;refine gz0 ?_;refine zap (fun m σ ds A=>ds=[]/\∃(i:Nat) (ov:Value) (G:List HX),i+m=c.hosts.length/\σ 4=vi i/\σ 1= .pointer (some ⟨w.heap.size,0,.none⟩)/\σ 2= .pointer (some ⟨w.heap.size+1,0,.none⟩)/\σ 3= .pointer (some ⟨c3,0,.none⟩)/\Ext w1 A/\c3+1<=A.heap.size/\
  A.heap[c3]? =some (.cells #[ov,rv,vi c.rw,vi c.rf] 40 (0,0))/\GX (hxX w 128) hxK 6 hxC 143 (c3+1) A ov G/\G.map Prod.fst=c.hosts.take i) c.hosts.length ?_ ?_
 ·exact⟨rfl,0,.slice .none 0 0,[],by omega,vr0,vq0,vq0,vq0,hE2,by omega,hD,⟨Owns.nil _ _ _ _ _,fun x h=>by cases h⟩,rfl⟩
 rintro m σ ds A ⟨rfl,i,ov,G,him,s4,s1,s2,s3,hEA,hAs,hB3,hGS,hGf⟩;have p0A:=zaa hEA p0;refine gz (az4 s4 s1 p0A Nat.add_zero) ?_;refine wc0 ?_ ?_
 ·intro hlt;simp only[ydT]at hlt;have hi:i<c.hosts.length:=by omega
  have hi0:=cj i;have hi1':=ci i;obtain⟨xa,xi,x5,nv,ap,cp,rfl,hxi,hx5,g0,hn,g5,⟨b1,b2,b3,b4,hadr,hcs⟩,hpl⟩:=hat i hi;obtain⟨s,hse⟩:∃s,c.hosts[i]=s:=⟨_,rfl⟩;have fs2:=hf.zl s (hse▸List.getElem_mem hi);have fs3:=hf.z s (hse▸List.getElem_mem hi);rw[hse]at hn g5 hadr hcs;simp only[hse]at hpl;have n1:=hn.isOne;have hz0:adr (some xi) 0=some xi:=zaj _;obtain⟨y1,hy1⟩:∃y,adr (some xi) 1=some y:=⟨_,rfl⟩;have gby:zao w (some y1) 4=some [zae b1,zae b2,zae b3,zae b4]:=by
   have h5:=za9 (m:=1) (k:=5) hcs;rw[hy1]at h5;exact zch (m:=4) (k:=1) h5
  obtain⟨an,cn,hnv,_⟩:=id hn;repeat refine c_r ?_
  refine zaJ (fun i=>i==14) [(0,true),(1,true),(2,true),(3,true),(4,true),(5,true),(6,true),(7,true),(8,true),(9,true),(10,true),(11,true),(12,true),(13,false),(14,false)] NoS mixed (by kernel_rfl) ?_;intro gd K x hgd hx hxe hK;clear hxe;have hwx:=hE1.trans (hEA.trans hx);have p0x:=zaa hx p0A;have g0x:=zaa hwx g0;have gbx:=zac hwx gby;refine sgz (az2 (az7 s4 s1 p0x Nat.add_zero hi0 hlt hxi) (az4 hz0 hy1 g0x gbx)) ?_;refine⟨by kernel_rfl,?_⟩;rw[hnv,show bdV Tryz.prog 143 [(0,.slice an (s.name.map vs).length cn),(1,.agg #[zae b1,zae b2,zae b3,zae b4])]=some (.agg #[.slice an (s.name.map vs).length cn,zae b1,zae b2,zae b3,zae b4,.slice .none 0 0]) from by kernel_rfl,←hnv];refine sg0 ?_;refine⟨.inr (Ext.alloc x _),?_⟩;refine zaV (P:=Tryz.prog) (l:=[nv,zae b1,zae b2,zae b3,zae b4,.slice .none 0 0]) rfl (fun v hv=>by simp at hv;rcases hv with rfl|rfl|rfl|rfl|rfl|rfl<;>first|exact n1|rfl) rfl rfl ?_;intro A1 hE3 hs3 hB5;refine⟨.inl rfl,?_⟩;refine sg0 ?_;apply hK;have hx3:=hx.trans hE3;obtain⟨b5,hb5⟩:∃b,x.heap.size=b:=⟨_,rfl⟩;have hsx:=hx.size;rw[hb5]at hB5 hs3 hsx ⊢;have hIP:IZ w 143 128 b5 nv b1 b2 b3 b4 A A1 (.slice .none 0 0) []:=⟨hB5,⟨Owns.nil _ _ _ _ _,fun x h=>by cases h⟩,hx3,hsx⟩;clear p0x g0x gbx hx hx3 hwx hE3 hB5;refine gz0 ?_
  refine zap (fun m σ ds v=>ds=[]/\∃(k:Nat) (pv:Value) (zs:List ZX),k+m=s.zones.length/\σ 6=vi k/\σ 4=vi i/\σ 1= .pointer (some ⟨w.heap.size,0,.none⟩)/\σ 2= .pointer (some ⟨w.heap.size+1,0,.none⟩)/\σ 3= .pointer (some ⟨c3,0,.none⟩)/\σ 5= .pointer (some ⟨b5,0,.none⟩)/\
   IZ w 143 128 b5 nv b1 b2 b3 b4 A v pv zs/\zs.map Prod.fst=s.zones.take k/\b5+1<=v.heap.size) s.zones.length ?_ ?_
  ·exact⟨rfl,0,_,[],by omega,vr0,vq1 s4,vq1 s1,vq1 s2,vq1 s3,vq0,hIP,rfl,by omega⟩
  clear s4 s1 s2 s3 hIP;rintro m2 σ2 ds2 v ⟨rfl,k,pv,zs,hkm,s6,s4,s1,s2,s3,s5,hIP,hzf,hvs⟩;have hEv:=hEA.trans hIP.e;have hwv:=hE1.trans hEv;have p0v:=zaa hEv p0;have g5v:=zaa hwv g5;refine gz (az2 (az7 s6 s4 s1 (an3 p0v Nat.add_zero g5v) hi0 hlt hxi) (az2 hx5 trivial)) ?_;refine wc0 ?_ ?_
  ·intro hlt2;simp only[ydT]at hlt2;have hk:k<s.zones.length:=by omega
   have hk0:=cj k;have hk1':=ci k;obtain⟨xp,xk,ow,lv,rfl,hxk,dz,ho,hl⟩:=hpl k hk;obtain⟨z,hze⟩:∃z,s.zones[k]=z:=⟨_,rfl⟩;have hgz:=fs3 _ (List.getElem_mem hk);rw[hze]at ho hl hgz;have q5:zad v (some ⟨b5,5,.none⟩)=some pv:=zab hIP.h rfl;have lo:=hIP.lo;have hgzl:=hgz.gd.len;repeat refine c_r ?_
   refine zaJ (fun i=>i==15) [(0,true),(1,true),(2,true),(3,true),(4,true),(5,true),(6,true),(7,true),(8,true),(9,true),(10,true),(11,false),(12,false),(13,false),(14,true),(15,false)] (zbA (b5+1)) mixed (by kernel_rfl) ?_;intro gd K x hgd hx hxe hK;have hx0:=zej hxe;clear hxe;have hwx:=hwv.trans hx0;have p0x:=zaa hx0 p0v;have g5x:=zaa hwx g5;have dzx:=zac hwx dz;have q5x:=zaa hx0 q5;refine sgz (az2 (az7 s6 s4 s1 s5 p0x Nat.add_zero yn0) (az2 (az7 hi0 hlt hk0 hlt2 hxi hx5 hxk) (az3 g5x dzx q5x))) ?_;have l5:x5.block<b5+1:=by have:=zcC (show w.cell? x5=some _ from g5);have:=hE1.size;have:=hEA.size;omega
   have lk:xk.block<b5+1:=by
    have h0:=zah (j:=0) dz rfl;rw[zaj]at h0;have:=zcC (show w.cell? xk=some _ from h0);have:=hE1.size;have:=hEA.size;omega
   have lw:w.heap.size<b5+1:=by have:=hE1.size;have:=hEA.size;omega
   refine⟨zcy (by omega),zcy lw,zdc l5,zdc lk,?_⟩;refine Fn.mono (ZOf_ok hwx ho (hl.ext hwx) (fun r hr=>(hgz.gd.few r hr).2.nn) (by omega)) ?_;rintro _ v0 ⟨hE0,lv',G',rfl,hOI,hG'⟩;refine⟨.inr hE0.keep,?_⟩;obtain⟨al',cl',hlv',_⟩:=hOI.own.rows.open;refine sg0 ?_;refine zaN zi8 (l:=[ow,lv']) (a:=((z,(ow,(lv',G'))):ZX)) (by rfl) (by rfl) (by rfl) (by rfl) ⟨rfl,ho.isOne,by rw[hlv'];rfl⟩ (by decide) ?_;intro v1 hE4 hs4' ho4;refine⟨.inr hE4.keep,?_⟩;refine sg0 ?_;have hx04:=(hx0.trans hE0).trans hE4;have hsz4:=hx04.size;have hs0:=hx0.size;have hzl:zs.length=k:=by
    have:=congrArg List.length hzf;simp at this;omega
   refine zaG zi8 (hIP.g.ext (zc5 w) hx04).own ho4.rows (by rfl) (by rfl) (by rfl) (by rfl) (by rfl) (by rfl) (by decide) vr0 vr0 (by simp;omega) (by decide) (by omega) ?_;intro pv' v2 ho5 hE5 hk5 hb5';refine⟨.inr (hk5.mono fun b _ hb=>(hIP.g.own.ge hb).1),?_⟩;obtain⟨ap',cp',hpv',_⟩:=ho5.rows.open;refine sgz (az2 s5 yn0) ?_;refine zaT (P:=Tryz.prog) (t:=141) (j:=5) (u:=pv') (l:=[nv,zae b1,zae b2,zae b3,zae b4,pv]) ((hk5.block _ (by omega) (fun hb=>by have:=(hIP.g.own.ge hb).1;omega)).trans (Ext.at hx04 hIP.h)) (by simp) (by rw[hpv'];rfl) rfl rfl ?_;intro v3 hs3' hB3' hk3';refine⟨.inl rfl,?_⟩;refine sg0 ?_;apply hK;have hIPn:=hIP.app hx04 (by omega) (x:=((z,(ow,(lv',G'))):ZX)) ⟨ho,hG',_,hOI.ext hE4⟩ (fun b hb=>by have:=zx_in (x:=((z,(ow,(lv',G'))):ZX)) (hOI.ext hE4) b hb;omega) ho5 hk5 hb5' hB3' hk3';have hs5:=hk5.size;refine gz (az2 s6 hk1') ?_;exact⟨m2 - 1,by omega,rfl,k+1,pv',_,by omega,vq0,vq1 s4,vq1 s1,vq1 s2,vq1 s3,vq1 s5,hIPn,by rw[zam hk,List.map_append,hzf,hze];rfl,by omega⟩
  ·intro hge2;simp only[ydF]at hge2;have hfull:s.zones.take k=s.zones:=List.take_of_length_le (by omega);rw[hfull]at hzf;obtain⟨ap',cp',hpv',_⟩:=hIP.g.own.rows.open;have lo:=hIP.lo;have dB:zao v (some ⟨b5,0,.none⟩) 6=some [nv,zae b1,zae b2,zae b3,zae b4,pv]:=zaf hIP.h rfl;have q3:zad v (some ⟨c3,0,.none⟩)=some ov:=zab (Ext.at hIP.e hB3) rfl;have ones6:∀q∈ [nv,zae b1,zae b2,zae b3,zae b4,pv],one q=true:=fun q hq=>by
    simp at hq;rcases hq with rfl|rfl|rfl|rfl|rfl|rfl<;>first|exact n1|rfl| (rw[hpv'];rfl)
   have hGl:G.length=i:=by
    have:=congrArg List.length hGf;simp at this;omega
   refine rqz ?_;intro gd K hgd hK;refine sgz (az5 s3 s5 q3 dB Nat.add_zero) ?_;refine zaN (C:=hxC) zjq (l:=[nv,zae b1,zae b2,zae b3,zae b4,pv]) (a:=((s,(pv,([nv,zae b1,zae b2,zae b3,zae b4,pv],zs))):HX)) (by rfl) (by rfl) (by rfl) (by rfl) ⟨rfl,rfl,ones6⟩ (by decide) ?_;intro v1 hE4 hs4' ho4;try simp only[go_sem]
   have hAv1:=hIP.e.trans hE4;have hsA1:=hAv1.size;refine zaG zjq ((hGS.ext (zeh w _) hAv1).own) ho4.rows (by rfl) (by rfl) (by rfl) (by rfl) (by rfl) (by rfl) (by decide) vr0 vr0 (by simp;omega) (by decide) (by omega) ?_;intro ov' v2 ho5 hE5 hk5 hb5';obtain⟨ao',co',hov',_⟩:=ho5.rows.open;refine sgz (az2 s3 Nat.add_zero) ?_;refine zaT (P:=Tryz.prog) (t:=38) (j:=0) (u:=ov') (l:=[ov,rv,vi c.rw,vi c.rf]) ((hk5.block _ (by omega) (fun hb=>by have:=(hGS.own.ge hb).1;omega)).trans (Ext.at hAv1 hB3)) (by simp) (by rw[hov'];rfl) rfl rfl ?_;intro v3 hs3' hB3' hk3';try simp only[go_sem]
   apply hK;have hg4:=hIP.g.ext (zc5 w) hE4;have hGS2:=hGS.app (zeh w _) hAv1 hAs (x:=((s,(pv,([nv,zae b1,zae b2,zae b3,zae b4,pv],zs))):HX)) ⟨⟨nv,b1,b2,b3,b4,rfl,hadr,hn⟩,hzf,_,hg4⟩ (fun b hb=>by have:=hg4.in hb;omega) ho5 hk5 hb5';have hGS3:=hGS2.keep (zeh w _) hk3' (fun b h1 h2=>by have:=(hGS2.in h1).1;omega);have hs5:=hk5.size;refine gz (az2 s4 hi1') ?_;refine⟨m - 1,by omega,rfl,i+1,ov',_,by omega,vq0,vq1 s1,vq1 s2,vq1 s3,Keep.to_ext (hE5 w1 (hEA.trans hAv1) (by omega)) rfl (fun b hb=>by omega) hk3',by omega,hB3',hGS3,?_⟩;rw[zam hi,List.map_append,hGf,hse];rfl
 ·intro hge;simp only[ydF]at hge;rw[List.take_of_length_le (by omega)]at hGf;have hEw:=hE1.trans hEA;have hrows:=zjr hGS hEw;rw[hGf]at hrows;have o1:=hrows.isOne;have dx:=zaf (n:=4) (l:=[ov,rv,vi c.rw,vi c.rf]) hB3 rfl;refine rqz ?_;intro gd K hgd hK;refine sgz (az3 s3 s2 dx) ?_;refine zaC (P:=Tryz.prog) (t:=40) (l:=[ov,rv,vi c.rw,vi c.rf]) (Ext.at hEA hC) rfl (fun v hv=>by simp at hv;rcases hv with rfl|rfl|rfl|rfl<;>first|exact r1|exact o1|rfl) rfl rfl ?_;intro z hsz hBz hkz;try simp only[go_sem]
  refine en hK ?_;refine zas (.inr rfl) Tryz.ntmps21 rfl (zaI (x:=⟨w.heap.size+1,0,.none⟩) (k:=4) ((vq1 s2)) rfl rfl (zaf hBz rfl) zaq) ?_;have hEz:Ext w z:=Keep.to_ext hEw rfl (fun b hb=>by omega) hkz;have hGz:=zjr (hGS.keep (zeh w _) hkz (fun b h1 h2=>by have:=(hGS.in h1).1;omega)) hEz;rw[hGf]at hGz;exact⟨hEz,_,rfl,ov,rv,rfl,hGz,hr0.ext hEz⟩
theorem zf6{N:NetL}{s:Int}(h:s<0\/(N.hosts.length:Int)<=s):N.zones s=[]:=by
 unfold NetL.zones;by_cases h0:s<0
 ·rw[if_pos h0]
 ·rw[if_neg h0,List.getElem?_eq_none (by omega)]
theorem zh7{N:NetL}{s:Int}{q:Nm}(h:N.zones s=[]):zbR N s q=(0,false):=by
 unfold zbR;rw[h]
 rfl
theorem zones_at{w:World}{hv:Value}{N:NetL}{s:Int}(hh:Rows 6 (HostC w) w hv N.hosts)(h0:0<=s)(h1:s<(N.hosts.length:Int)):
  ∃(i:Nat) (ah:Addr) (ch:Nat) (xi x5:Addr) (zv:Value),s=(i:Int)/\i<N.hosts.length/\hv= .slice (some ah) N.hosts.length ch/\adr (some ah) (i*6)=some xi/\adr (some xi) 5=some x5/\zad w (some x5)=some zv/\Rows 2 (ZoneC w) w zv (N.zones s):=by
 obtain⟨i,rfl⟩:=Int.eq_ofNat_of_zero_le h0;have hi:i<N.hosts.length:=by omega
 obtain⟨ah,ch,rfl,_,hgh⟩:=hh.open;obtain⟨cs,hcs,hH⟩:=hgh _ hi;obtain⟨nv,b1,b2,b3,b4,zv,rfl,_,_,hzr⟩:=hH.ex;obtain⟨xh,rfl⟩:=yxs (zak hcs);obtain⟨xi,hxi⟩:∃xi,adr (some xh) (i*6)=some xi:=⟨_,rfl⟩;obtain⟨x5,hx5⟩:∃x,adr (some xi) 5=some x:=⟨_,rfl⟩;rw[hxi]at hcs;have hz:N.zones (i:Int)=N.hosts[i].zones:=by
  unfold NetL.zones;rw[if_neg (by omega),show((i:Int)).toNat=i from rfl,List.getElem?_eq_getElem hi]
 exact⟨i,xh,ch,xi,x5,zv,rfl,hi,rfl,hxi,hx5,by rw[←hx5];exact zah hcs rfl,hz▸hzr⟩
def BestS(zs:List zcr)(B:Int×Int):Prop:=B=(0, -1)\/∃(k:Nat) (h:k<zs.length),B=((k:Int),(zs[k].o.length:Int))
theorem zjN{w0 w:World}(hE0:Ext w0 w){cs:List Value}{N:NetL}{s:Int}{q:Nm}{qv:Value}(hN:NetAt w0 cs N)(hG:NetZ N)(hq:Row w qv (q.map vs))(mq:NmM q):
  Fn Tryz.prog 180 #[.agg cs.toArray,vi s,qv] w (fun v w'=>v= .tuple #[vi (zbR N s q).1,.bool (zbR N s q).2]/\Ext w w'):=by
 obtain⟨hv,rv,rfl,hh,hr⟩:=hN.ex;obtain⟨ah,ch,hhv,_⟩:=hh.open;obtain⟨ar,cr,hrv,_⟩:=id hr;have hlen:=hG.hl;have ql:=mq.len;refine enter Tryz.func180 Tryz.ntmps180 rfl rfl ?_;repeat refine c_r ?_
 rw[hhv,hrv];refine rg0 ?_;rw[←hhv,←hrv];repeat refine c_r ?_
 refine zaw ?_;intro w1 hE1 hs1 hA;rw[hhv]at hA;have p0:zad w1 (some ⟨w.heap.size,0,.none⟩)=some (.slice ah N.hosts.length ch):=zab hA rfl;repeat refine c_r ?_
 by_cases n1:s<0
 ·refine rgg [(2,14)] (an2 (yet n1) Nat.add_zero) ?_;repeat refine c_r ?_
  refine wt trivial ?_;repeat (first|refine c_r ?_|refine rg0 ?_)
  refine zas (by simp) Tryz.ntmps180 rfl (zal vr0 (zal vr0 zaq)) ?_;rw[zh7 (zf6 (.inl n1))];exact⟨rfl,hE1⟩
 by_cases n2:s>=(N.hosts.length:Int)
 ·refine rgg [(2,14)] (an4 (yef n1) p0 Nat.add_zero (yet n2)) ?_;repeat refine c_r ?_
  refine wt trivial ?_;repeat (first|refine c_r ?_|refine rg0 ?_)
  refine zas (by simp) Tryz.ntmps180 rfl (zal vr0 (zal vr0 zaq)) ?_;rw[zh7 (zf6 (.inr n2))];exact⟨rfl,hE1⟩
 refine rgg [(2,14)] (an4 (yef n1) p0 Nat.add_zero (yef n2)) ?_;repeat refine c_r ?_
 refine wf trivial ?_;obtain⟨i0,ah',ch',xi,x5,zv,rfl,hi0l,e,hxi,hx5,hc5,hzr⟩:=zones_at (s:=s) hh (by omega) (by omega);rw[hhv]at e;injection e with e1 e2 e3
 subst e1 e3;have hz0:(0:Int)<=(i0:Int):=by omega
 have hlt0:(i0:Int)<(N.hosts.length:Int):=by omega
 have q5:=zaa (hE0.trans hE1) hc5;repeat (first|refine c_r ?_| (refine zb6 (by rfl) ?_;intro gd K hgd hK;simp (disch:=first|omega|assumption|rfl) only[go_sem,p0,hxi,hx5,q5,hz0,hlt0,Nat.add_zero,yn0];refine hK _ _ ?_;clear hK hgd;clear K gd))
 obtain⟨zs,hzs⟩:∃zs,N.zones i0=zs:=⟨_,rfl⟩;have hzg:=(zbS hG (s:=i0)).1;have hzl:=(zbS hG (s:=i0)).2;have hbest:zbR N i0 q=((ziX q zs).1,decide (0<=(ziX q zs).2)):=by unfold zbR;rw[hzs]
 rw[hzs]at hzr hzg hzl;rw[hbest];clear hbest;obtain⟨az,cz,hzv,_,hgz⟩:=hzr.open;have hnl:=zbW (l:=zs) (i:=0);refine zap (fun m σ ds A=>ds=[]/\∃(i:Nat) (B:Int×Int),i+m=zs.length/\((numZ 0 zs).take i).foldl (zaS q) (0, -1)=B/\BestS zs B/\σ 11=vi i/\σ 10=zv/\σ 2=qv/\σ 8=vi B.1/\σ 9= .bool (decide (0<=B.2))/\Ext w1 A) zs.length ?_ ?_
 ·exact⟨rfl,0,(0, -1),by omega,rfl,.inl rfl,vr0,vr0,vr0,vr0,vr0,Keep.refl _ _⟩
 rintro m σ ds A ⟨rfl,i,B,him,hB,hBS,s11,s10,s2,s8,s9,hEA⟩;rw[hzv]at s10;have hwA:=hE1.trans hEA;repeat refine c_r ?_
 refine rg2 s11 s10 ?_;repeat refine c_r ?_
 refine wc0 ?_ ?_
 ·intro hlt;simp only[ydT]at hlt;have hi:i<zs.length:=by omega
  have hi0:=cj i;have hi1':=ci i;have gz:=hzg _ (List.getElem_mem hi);have mo:=gz.m;have ol:=mo.len;obtain⟨c1,hc1,hZ⟩:=hgz i hi;obtain⟨ov,lv,rfl,ho,hr1⟩:=hZ.ex;obtain⟨xz,rfl⟩:=yxs (zak hc1);obtain⟨xk,hxk⟩:∃xi,adr (some xz) (i*2)=some xi:=⟨_,rfl⟩;have k1:zad w0 (some xk)=some ov:=by
   have:=zah (j:=0) hc1 rfl
   rwa [zaj,hxk]at this
  obtain⟨ao,co,hov,_⟩:=id ho;rw[ylm]at hov;have hfo:((numZ 0 zs).take (i+1)).foldl (zaS q) (0, -1)=zaS q B (i,zs[i]):=by
   rw[List.take_succ_eq_append_getElem (by omega),List.foldl_append,hB,zea hi (by omega),yn0];rfl
  obtain⟨u,hu⟩:∃u,zaU q zs[i].o=u:=⟨_,rfl⟩;repeat refine c_r ?_
  refine zay (Q:=fun e σ' ds' v'=>e= .normal/\ds'=[]/\σ' 11=vi i/\σ' 10= .slice (some xz) zs.length cz/\σ' 2=qv/\σ' 8=vi B.1/\σ' 9= .bool (decide (0<=B.2))/\Ext A v'/\σ' 58= .bool (u && decide (B.2<(zs[i].o.length:Int)))) ?_ ?_
  ·rcases hBS with rfl| ⟨k,hk,rfl⟩
   ·replace s9:σ 9= .bool false:=s9;refine zaJ (fun _=>false) [(0,true),(1,true),(2,true),(3,true),(4,true),(5,true),(6,false),(7,true),(8,true),(9,true),(10,true),(11,true),(12,true),(13,true),(14,true),(15,true),(16,true),(17,true),(18,true),(19,true),(20,true),(21,true),(22,true),(23,true),(24,true),(25,true)] NoS mixed (by kernel_rfl) ?_;intro gd K x hgd hx hxe hK;clear hxe;have hg7:=gk 7 40 hgd rfl;have hg10:=gk 10 43 hgd rfl;have k1x:=zaa ((hE0.trans hwA).trans hx) k1;simp (disch:=first|omega|assumption|rfl) only[go_sem,s2,s10,s11,hi0,hlt,hxk,zaj,k1x,Nat.add_zero,yn0];refine Fn.mono (zcO x qv ov q zs[i].o (hq.ext (hwA.trans hx)) (ho.ext ((hE0.trans hwA).trans hx)) mq.LB mo.LB (by omega) (by omega)) ?_;rintro _ x2 ⟨rfl,hx2⟩;refine⟨.inr hx2,?_⟩;rw[hu];cases u with
    |false=>
     simp (disch:=first|omega|assumption|rfl) only[go_sem,s9,za5,↓hg7,↓hg10];refine hK _ _ ?_;clear hK hgd;clear K;try clear gd
     exact⟨rfl,rfl,vq1 s11,vq1 s10,vq1 s2,vq1 s8,by show _=Value.bool false;simp only[go_sem,s9],hx.trans hx2,vr0⟩
    |true=>
     simp (disch:=first|omega|assumption|rfl) only[go_sem,s9,za5,↓hg7,↓hg10];refine hK _ _ ?_;clear hK hgd;clear K;try clear gd
     exact⟨rfl,rfl,vq1 s11,vq1 s10,vq1 s2,vq1 s8,by show _=Value.bool false;simp only[go_sem,s9],hx.trans hx2,by rw[show decide ((-1:Int)<(zs[i].o.length:Int))=true from yet (by omega)];first| (simp only[go_sem];done)| (simp only[go_sem];rfl)⟩
   ·have kz:=hzg _ (List.getElem_mem hk);obtain⟨c2,hc2,hZ2⟩:=hgz k hk;obtain⟨ov2,lv2,rfl,ho2,hr2⟩:=hZ2.ex;obtain⟨xk2,hxk2⟩:∃xi,adr (some xz) (k*2)=some xi:=⟨_,rfl⟩;have k2:zad w0 (some xk2)=some ov2:=by
     have:=zah (j:=0) hc2 rfl
     rwa [zaj,hxk2]at this
    obtain⟨ao2,co2,hov2,_⟩:=id ho2;rw[ylm]at hov2;have hk0:=cj k;have hltk:(k:Int)<(zs.length:Int):=by omega
    have h9:decide ((0:Int)<=(zs[k].o.length:Int))=true:=yet (by omega)
    dsimp only at s8 s9
    rw[h9]at s9;refine zaJ (fun _=>false) [(0,true),(1,true),(2,true),(3,true),(4,true),(5,true),(6,false),(7,true),(8,true),(9,true),(10,true),(11,true),(12,true),(13,true),(14,true),(15,true),(16,true),(17,true),(18,true),(19,true),(20,true),(21,true),(22,true),(23,true),(24,true),(25,true)] NoS mixed (by kernel_rfl) ?_;intro gd K x hgd hx hxe hK;clear hxe;have hg7:=gk 7 40 hgd rfl;have hg10:=gk 10 43 hgd rfl;have k1x:=zaa ((hE0.trans hwA).trans hx) k1;simp (disch:=first|omega|assumption|rfl) only[go_sem,s2,s10,s11,hi0,hlt,hxk,zaj,k1x,Nat.add_zero,yn0];refine Fn.mono (zcO x qv ov q zs[i].o (hq.ext (hwA.trans hx)) (ho.ext ((hE0.trans hwA).trans hx)) mq.LB mo.LB (by omega) (by omega)) ?_;rintro _ x2 ⟨rfl,hx2⟩;refine⟨.inr hx2,?_⟩;rw[hu];cases u with
    |false=>
     simp (disch:=first|omega|assumption|rfl) only[go_sem,s9,za5,↓hg7,↓hg10];refine hK _ _ ?_;clear hK hgd;clear K;try clear gd
     exact⟨rfl,rfl,vq1 s11,vq1 s10,vq1 s2,vq1 s8,by dsimp only;rw[h9];simp only[go_sem,s9],hx.trans hx2,vr0⟩
    |true=>
     have k1y:=zaa hx2 k1x;have k2y:=zaa (((hE0.trans hwA).trans hx).trans hx2) k2;rw[hov]at k1y;rw[hov2]at k2y;simp (disch:=first|omega|assumption|rfl) only[go_sem,s8,s9,s10,s11,hi0,hlt,hxk,zaj,k1y,k2y,hk0,hltk,hxk2,Nat.add_zero,yn0,za5,↓hg7,↓hg10];refine hK _ _ ?_;clear hK hgd;clear K;try clear gd
     exact⟨rfl,rfl,vq1 s11,vq1 s10,vq1 s2,vq1 s8,by dsimp only;rw[h9];simp only[go_sem,s9],hx.trans hx2,vr0⟩
  rintro _ σ1 _ A1 ⟨rfl,rfl,s11,s10,s2,s8,s9,hA1,s58⟩;repeat refine c_r ?_
  by_cases hb:u=true/\B.2<(zs[i].o.length:Int)
  ·have hst:zaS q B (i,zs[i])=((i:Int),(zs[i].o.length:Int)):=by unfold zaS;rw[hu,if_pos hb]
   have hbt:(u && decide (B.2<(zs[i].o.length:Int)))=true:=by rw[hb.1,yet hb.2];rfl
   rw[hbt]at s58;refine wt s58 ?_;repeat refine c_r ?_
   refine rg1 s11 ?_;repeat refine c_r ?_
   refine rg0 ?_;repeat refine c_r ?_
   refine rg2 s11 hi1' ?_;repeat refine c_r ?_
   refine⟨m - 1,by omega,rfl,i+1,((i:Int),(zs[i].o.length:Int)),by omega,hfo.trans hst,.inr ⟨i,hi,rfl⟩,vq0,by rw[hzv];simp only[go_sem,s10],vq1 s2,vq0,by rw[yet (show(0:Int)<=(zs[i].o.length:Int) by omega)];first| (simp only[go_sem];done)| (simp only[go_sem];rfl),hEA.trans hA1⟩
  ·have hst:zaS q B (i,zs[i])=B:=by unfold zaS;rw[hu,if_neg hb]
   have hbt:(u && decide (B.2<(zs[i].o.length:Int)))=false:=by
    cases u with
    |false=>rfl
    |true=>exact yef (fun h=>hb ⟨rfl,h⟩)
   rw[hbt]at s58;refine wf s58 ?_;repeat refine c_r ?_
   refine rg2 s11 hi1' ?_;repeat refine c_r ?_
   refine⟨m - 1,by omega,rfl,i+1,B,by omega,hfo.trans hst,hBS,vq0,by rw[hzv];simp only[go_sem,s10],vq1 s2,vq1 s8,vq1 s9,hEA.trans hA1⟩
 ·intro hge;simp only[ydF]at hge;have hB2:ziX q zs=B:=by rw[←hB,List.take_of_length_le (by omega)];rfl
  rw[hB2];repeat (first|refine c_r ?_| (refine zb6 (by rfl) ?_;intro gd K hgd hK;simp (disch:=first|omega|assumption|rfl) only[go_sem,s8,s9];refine hK _ _ ?_;clear hK hgd;clear K gd))
  refine zas (by simp) Tryz.ntmps180 rfl (zal vr0 (zal vr0 zaq)) ?_;exact⟨rfl,hwA⟩
theorem ResN.cells{w0 wn w:World}{B:Nat}{cs:List Value}{r:ResL}(h:ResN w0 wn B w cs r):cs.length=5/\∀v∈cs,one v=true:=by
 obtain⟨dv,nv,gv,rfl,h1,h2,h3,h4,h5⟩:=h.ex;exact⟨rfl,ones5 h1.isOne (h3.elim (fun h=>h.1.isOne) (fun h=>h.isOne)) h4.isOne⟩
theorem row_off{w z:World}{nv:Value}{l:Nm}{b:Nat}{c:Array Value}{T:TypeId}{fr:Nat×Nat}(h:Row w nv (l.map vs))(hb:w.heap[b]? =some (.cells c T fr))(hc:∀x∈c.toList,∀t,x≠vs t)(hk:∀i,i<w.heap.size->i≠b->z.heap[i]? =w.heap[i]?):Row z nv (l.map vs):=by
 cases l with
 |nil=>
  obtain⟨a,c',rfl,hcap,_⟩:=h;exact⟨a,c',rfl,hcap,fun j hj=>absurd hj (by simp)⟩
 |cons x l=>
  refine h.blocks fun a n c' hv=>?_;obtain⟨a',c2,e,_,hg⟩:=h;rw[hv]at e;injection e with e1 e2 e3
  have h0:=hg 0 (by simp);rw[zaj,←e1]at h0;have hlt:=zcC (show w.cell? a=some _ from h0);refine hk _ hlt (fun e=>?_);have h1:w.cell? a=some (vs x):=h0;unfold World.cell? at h1;rw[e,hb]at h1
  dsimp only at h1
  split at h1
  ·cases h1
  ·exact hc _ (Array.mem_toList_iff.2 (Array.mem_of_getElem? h1)) x rfl
theorem RAsk_ok{w0 w:World}(hE0:Ext w0 w){cs:List Value}{N:NetL}{s:Int}{q:Nm}{qv:Value}{t:Int}(hN:NetAt w0 cs N)(hG:NetZ N)(hq:Row w qv (q.map vs))(mq:NmM q):
  Fn Tryz.prog 140 #[.agg cs.toArray,vi s,qv,vi t] w (fun v w'=>Ext w w'/\∃cs,v= .agg cs.toArray/\ResAt w0 w' cs (askN N s q t)):=by
 have hN0:=hN;obtain⟨hv,rv,rfl,hh,hr⟩:=hN.ex;obtain⟨ah,ch,hhv,_⟩:=hh.open;obtain⟨ar,cr,hrv,_⟩:=id hr;refine enter Tryz.func140 Tryz.ntmps140 rfl rfl ?_;repeat refine c_r ?_
 rw[hhv,hrv];refine rg0 ?_;rw[←hhv,←hrv];repeat refine c_r ?_
 rw[zai];refine zaF ?_;intro w1 hE1 hs1 hA hC;have d:=zaf (n:=4) (l:=[hv,rv,vi N.rw,vi N.rf]) hA rfl;repeat refine c_r ?_
 refine rc d (zjN (s:=s) (hE0.trans hE1) hN0 hG (hq.ext hE1) mq) ?_;rintro _ w2 ⟨rfl,hE2⟩;refine re trivial ?_;have hE02:=hE0.trans (hE1.trans hE2);have hC2:=Ext.at hE2 hC;have d2:=zac hE2 d;refine gz0 ?_;cases hb:(zbR N s q).2 with
 |false=>
  have hk:askN N s q t=⟨7,[],[],false,[]⟩:=by unfold askN;rw[hb];rfl
  refine wt trivial ?_;refine rqz ?_;intro gd K hgd hK;try simp only[go_sem]
  refine⟨by kernel_rfl,?_⟩;rw[show bdV Tryz.prog 255 [(0,vi 7)]=some (.agg #[vi 7,.slice .none 0 0,.slice .none 0 0,.bool false,.slice .none 0 0]) from by kernel_rfl];try simp only[go_sem]
  refine zaC (P:=Tryz.prog) (t:=255) (l:=[vi 7,.slice .none 0 0,.slice .none 0 0,.bool false,.slice .none 0 0]) hC2 rfl (ones5 rfl rfl rfl) rfl rfl ?_;intro z hz' hbz hkz;try simp only[go_sem]
  refine en hK ?_;refine zas (.inr rfl) Tryz.ntmps140 rfl (zaI (x:=⟨w.heap.size+1,0,.none⟩) (k:=5) vq0 rfl rfl (zaf hbz rfl) zaq) ?_;exact⟨Keep.to_ext (hE1.trans hE2) rfl (fun b hb=>by omega) hkz,_,rfl,by rw[hk];exact(zlm (w0:=w0) (B:=0)).at (hE0.trans (Keep.to_ext (hE1.trans hE2) rfl (fun b hb=>by omega) hkz))⟩
 |true=>
  obtain⟨hk0,hk1⟩:=zjG hb;obtain⟨z,hz⟩:∃z,(N.zones s)[(zbR N s q).1.toNat]? =some z:=⟨_,List.getElem?_eq_getElem (by omega)⟩;have hk:askN N s q t=za2 z.o z.recs q t:=by unfold askN;rw[hb,hz];rfl
  have gz:=(zbS hG).1 z (List.mem_of_getElem? hz);obtain⟨i,j,xh,c1,xi,x5,az,cz,nz,xz,ov,lv,rfl,hkj,hi,hj,rfl,hxi,hx5,pz,hxz,dz,ho,hl⟩:=zkA hh hz hk0;rw[hkj];refine wf trivial ?_;have p0:zad w2 (some ⟨w.heap.size,0,.none⟩)=some (.slice (some xh) N.hosts.length c1):=zab (Ext.at hE2 hA) rfl;have pz2:=zaa hE02 pz;have dz2:=zac hE02 dz;have i0:=cj i;have i1:(i:Int)<(N.hosts.length:Int):=by omega
  have j0:=cj j;have j1:(j:Int)<(nz:Int):=by omega
  refine rqz ?_;intro gd K hgd hK;refine sgz (az2 (az7 p0 i0 i1 j0 j1 hxi hx5) (az4 pz2 hxz dz2 Nat.add_zero)) ?_;refine Fn.mono (RLook_ok (t:=t) (gz.zn hE02 (ho.ext hE02) (hl.ext hE02)) gz.c.srt gz.c.gd gz.c.ld (hq.ext (hE1.trans hE2)) mq) ?_;rintro _ w3 ⟨hE3,cs,rfl,hres⟩;try simp only[go_sem]
  refine zaC (P:=Tryz.prog) (t:=255) (l:=cs) (Ext.at hE3 hC2) hres.cells.1 hres.cells.2 (by rw[hres.cells.1];rfl) rfl ?_;intro z hz' hbz hkz;try simp only[go_sem]
  refine en hK ?_;refine zas (.inr rfl) Tryz.ntmps140 rfl (zaI (x:=⟨w.heap.size+1,0,.none⟩) (k:=5) vq0 rfl rfl (zaf hbz hres.cells.1.symm) zaq) ?_;have hs2:=hE2.size;have hz:=Keep.to_ext (hE1.trans (hE2.trans hE3)) rfl (fun b hb=>by omega) hkz;refine⟨hz,_,rfl,?_⟩;rw[hk];have hrk:=hres.keep hkz (fun b h1 _ h2=>by omega);obtain⟨dv,nv,gv,e,g1,g2,g3,g4,g5⟩:=hrk.ex;refine⟨dv,nv,gv,e,g1,g3.elim (fun h=>h.1) (fun h=>?_),g4.to fun cs y hy=>?_⟩
  ·refine row_off h hC2 (fun x hx t ht=>?_) (fun i hi hb=>(hkz.block i (by have:=hE3.size;omega) hb).trans (hE3.block i hi (fun h=>h)));subst ht;simp[vs]at hx
  ·obtain⟨hv,dv,e,g1,g2,g3⟩:=hy;exact⟨hv,dv,e,g1,g2⟩
theorem zjJ{α:Type}{p:α->Bool}{l:List α}{i:Nat}(hi:i<l.length):(l.take (i+1)).any p=((l.take i).any p||p l[i]):=by
 rw[zam hi,List.any_append];simp
theorem addr_at{w:World}{xi x1:Addr}{nv zv:Value}{a b c d:UInt8}(h:zao w (some xi) 6=some [nv,zae a,zae b,zae c,zae d,zv])(h1:adr (some xi) 1=some x1):∀j (hj:j< [a,b,c,d].length),zad w (adr (some x1) j)=some (zae [a,b,c,d][j]):=by
 intro j hj;rw[←h1,zfR];refine zah (j:=1+j) h ?_
 match j,hj with
 |0,_=>rfl
 |1,_=>rfl
 |2,_=>rfl
 |3,_=>rfl
theorem zmq{w0 w:World}(hE0:Ext w0 w){cs:List Value}{N:NetL}{host:Nm}{hv gv:Value}{glue:List DatL}(hN:NetAt w0 cs N)(hG:NetZ N)(hh:Row w hv (host.map vs))(mh:NmM host)(hg:Rows 5 (DatAt w0) w gv glue)(hgl:glue.length<=1000000000):
  Fn Tryz.prog 182 #[.agg cs.toArray,hv,gv] w (fun v w'=>Ext w w'/\Row w' v ((zed N host glue).map vi)/\BlkB w.heap.size w' v):=by
 obtain⟨hs,rs,rfl,hhs,hr⟩:=hN.ex;obtain⟨ah,ch,rfl,hch,hgh⟩:=hhs.open;obtain⟨ar,cr,hrv,_⟩:=id hr;obtain⟨a1,c1,hnv,_⟩:=id hh;obtain⟨a2,c2,rfl,hc2,hgg⟩:=hg.open;have hl:=hG.hl;have ml:=mh.len;refine enter Tryz.func182 Tryz.ntmps182 rfl rfl ?_;repeat refine c_r ?_
 rw[hrv,hnv];refine rg0 ?_;rw[←hrv,←hnv];repeat refine c_r ?_
 refine zaw ?_;intro w1 hE1 hs1 hA;have p0:zad w1 (some ⟨w.heap.size,0,.none⟩)=some (.slice ah N.hosts.length ch):=zab hA rfl;have hE01:=hE0.trans hE1;refine gz0 ?_;refine zap (fun m σ ds A=>ds=[]/\A=w1/\∃(i:Nat),i+m=glue.length/\σ 9=vi i/\σ 8= .bool ((glue.take i).any isA)/\σ 7= .slice .none 0 0/\σ 3= .pointer (some ⟨w.heap.size,0,.none⟩)/\σ 1=hv/\σ 2= .slice a2 glue.length c2) glue.length ?_ ?_
 ·exact⟨rfl,rfl,0,by omega,vr0,vr0,vr0,vr0,vr0,vr0⟩
 rintro m σ ds A ⟨rfl,hAe,i,him,s9,s8,s7,s3,s1,s2⟩;subst hAe;refine gz (az2 s9 s2) ?_;refine wc0 ?_ ?_
 ·intro hlt;simp only[ydT]at hlt;have hi:i<glue.length:=by omega
  have hi0:=cj i;have hi1':=ci i;obtain⟨c3,hc3,hD⟩:=hgg i hi;obtain⟨nm,nu,tx,rw',rfl,_,_,_,hraw⟩:=hD.ex;obtain⟨xz,rfl⟩:=yxs (zak hc3);obtain⟨xi,hxi⟩:∃xi,adr (some xz) (i*5)=some xi:=⟨_,rfl⟩;have k1:zad A (some xi)=some (vi glue[i].ty):=by
   have:=zah (j:=0) hc3 rfl;rw[zaj,hxi]at this;exact zaa hE1 this
  have hany:=zjJ (p:=isA) hi;repeat refine c_r ?_
  refine zay (Q:=fun e σ' ds' v'=>e= .normal/\ds'=[]/\v'=A/\σ' 9=vi i/\σ' 8= .bool ((glue.take (i+1)).any isA)/\σ' 7= .slice .none 0 0/\σ' 3= .pointer (some ⟨w.heap.size,0,.none⟩)/\σ' 1=hv/\σ' 2= .slice (some xz) glue.length c2) ?_ ?_
  ·cases hb:(glue.take i).any isA with
   |true=>
    rw[hb]at s8 hany;refine rgg [(1,20)] s8 ?_;exact⟨rfl,rfl,rfl,vq1 s9,by rw[hany];first| (simp only[go_sem];done)| (simp only[go_sem];rfl),vq1 s7,vq1 s3,vq1 s1,vq1 s2⟩
   |false=>
    rw[hb]at s8 hany;refine rgg [(1,20)] (an9 s8 s2 s9 hi0 hlt hxi zaj k1 Nat.add_zero) ?_;exact⟨rfl,rfl,rfl,vq1 s9,by rw[hany];first| (simp only[go_sem];done)| (simp only[go_sem];rfl),vq1 s7,vq1 s3,vq1 s1,vq1 s2⟩
  clear s9 s8 s7 s3 s1 s2;rintro _ σ1 _ _ ⟨rfl,rfl,hAe,s9,s8,s7,s3,s1,s2⟩;subst hAe;refine gz (az2 s9 hi1') ?_;exact⟨m - 1,by omega,rfl,rfl,i+1,by omega,vq0,vq1 s8,vq1 s7,vq1 s3,vq1 s1,vq1 s2⟩
 intro hge;simp only[ydF]at hge;rw[List.take_of_length_le (by omega)]at s8;clear s9 him hge;obtain⟨any,hany⟩:∃b,glue.any isA=b:=⟨_,rfl⟩;rw[hany]at s8;refine gz0 ?_;refine zap (fun m σ ds B=>ds=[]/\∃(i:Nat) (ov:Value),i+m=N.hosts.length/\σ 10=vi i/\σ 8= .bool any/\σ 7=ov/\σ 3= .pointer (some ⟨w.heap.size,0,.none⟩)/\σ 1=hv/\σ 2= .slice a2 glue.length c2/\Own A.heap.size B 3 ov ((zcI (zbC host glue) 0 (N.hosts.take i)).map vi)/\Ext A B) N.hosts.length ?_ ?_
 ·exact⟨rfl,0,.slice .none 0 0,by omega,vr0,vq1 s8,vq1 s7,vq1 s3,vq1 s1,vq1 s2,Own.nil _ _ _,Keep.refl _ _⟩
 clear s8 s7 s3 s1 s2;rintro m σ ds B ⟨rfl,i,ov,him,s10,s8,s7,s3,s1,s2,hown,hEB⟩;have p0B:=zaa hEB p0;have hEwB:=hE1.trans hEB;have hE0B:=hE0.trans hEwB;refine gz (az4 s10 s3 p0B Nat.add_zero) ?_;refine wc0 ?_ ?_
 ·intro hlt;simp only[ydT]at hlt;have hi:i<N.hosts.length:=by omega
  have hi0:=cj i;have hi1':=ci i;obtain⟨cs,hcs,hH⟩:=hgh i hi;obtain⟨nv,b1,b2,b3,b4,zv,rfl,had,hnr,hzr⟩:=hH.ex;obtain⟨xz,rfl⟩:=yxs (zak hcs);obtain⟨xi,hxi⟩:∃xi,adr (some xz) (i*6)=some xi:=⟨_,rfl⟩;have dH:=zac hE0B hcs;rw[hxi]at dH;have k0:zad B (some xi)=some nv:=by
   have:=zah (j:=0) dH rfl
   rwa [zaj]at this
  have mn:=hG.nm _ (List.getElem_mem hi);have mnl:=mn.len;obtain⟨sm,hsm⟩:∃b,(!any && decide (zan N.hosts[i].name=zan host))=b:=⟨_,rfl⟩;repeat refine c_r ?_
  refine zay (Q:=fun e σ' ds' C=>e= .normal/\ds'=[]/\σ' 11= .bool sm/\σ' 10=vi i/\σ' 8= .bool any/\σ' 7=ov/\σ' 3= .pointer (some ⟨w.heap.size,0,.none⟩)/\σ' 1=hv/\σ' 2= .slice a2 glue.length c2/\Ext B C) ?_ ?_
  ·cases any with
   |true=>
    refine rgg [(2,37)] s8 ?_;exact⟨rfl,rfl,by rw[←hsm];first| (simp only[go_sem];done)| (simp only[go_sem];rfl),vq1 s10,vq1 s8,vq1 s7,vq1 s3,vq1 s1,vq1 s2,Keep.refl _ _⟩
   |false=>
    refine rcg [(2,37)] (an9 s8 s3 (an4 p0B Nat.add_zero Bool.not_false s1) s10 hi0 hlt hxi zaj k0) (zbO B nv hv N.hosts[i].name host (hnr.ext hE0B) (hh.ext hEwB) mn.LB mh.LB (by omega) (by omega)) ?_;rintro _ C ⟨rfl,hC⟩;refine reg [(2,37)] trivial ?_;exact⟨rfl,rfl,by rw[←hsm];first| (simp only[go_sem];done)| (simp only[go_sem];rfl),vq1 s10,vq1 s8,vq1 s7,vq1 s3,vq1 s1,vq1 s2,hC⟩
  clear s10 s8 s7 s3 s1 s2;rintro _ σ1 _ C ⟨rfl,rfl,s11,s10,s8,s7,s3,s1,s2,hBC⟩;have hEAC:=hEB.trans hBC;have hEwC:=hE1.trans hEAC;refine gz0 ?_;refine zap (fun m σ ds D=>ds=[]/\∃(j:Nat),j+m=glue.length/\σ 12=vi j/\σ 11= .bool (sm|| (glue.take j).any (isG N.hosts[i].addr))/\σ 10=vi i/\σ 8= .bool any/\σ 7=ov/\σ 3= .pointer (some ⟨w.heap.size,0,.none⟩)/\σ 1=hv/\σ 2= .slice a2 glue.length c2/\Ext C D) glue.length ?_ ?_
  ·exact⟨rfl,0,by omega,vr0,by rw[List.take_zero,List.any_nil,Bool.or_false];simp only[go_sem,s11],vq1 s10,vq1 s8,vq1 s7,vq1 s3,vq1 s1,vq1 s2,Keep.refl _ _⟩
  clear s11 s10 s8 s7 s3 s1 s2;rintro m2 σ ds D ⟨rfl,j,hjm,s12,s11,s10,s8,s7,s3,s1,s2,hCD⟩;have hEwD:=hEwC.trans hCD;have hE0D:=hE0.trans hEwD;refine gz (az2 s12 s2) ?_;refine wc0 ?_ ?_
  ·intro hlt2;simp only[ydT]at hlt2;have hj:j<glue.length:=by omega
   have hj0:=cj j;have hj1':=ci j;obtain⟨c3,hc3,hD⟩:=hgg j hj;obtain⟨nm,nu,tx,rw',rfl,_,_,_,hraw⟩:=hD.ex;obtain⟨yz,rfl⟩:=yxs (zak hc3);obtain⟨yi,hyi⟩:∃xi,adr (some yz) (j*5)=some xi:=⟨_,rfl⟩;rw[hyi]at hc3;have k1:zad w (some yi)=some (vi glue[j].ty):=by
    have:=zah (j:=0) hc3 rfl
    rwa [zaj]at this
   obtain⟨y4,hy4⟩:∃x,adr (some yi) 4=some x:=⟨_,rfl⟩;have k4:zad w (some y4)=some rw':=by
    have:=zah (j:=4) hc3 rfl
    rwa [hy4]at this
   have hat:=zjJ (p:=isG N.hosts[i].addr) hj;obtain⟨t,ht⟩:∃b,(sm|| (glue.take j).any (isG N.hosts[i].addr))=b:=⟨_,rfl⟩;rw[ht]at s11;have hnx:(sm|| (glue.take (j+1)).any (isG N.hosts[i].addr))=(t||isG N.hosts[i].addr glue[j]):=by rw[hat,←Bool.or_assoc,ht]
   repeat refine c_r ?_
   refine zay (Q:=fun e σ' ds' E=>e= .normal/\ds'=[]/\σ' 12=vi j/\σ' 11= .bool (t||isG N.hosts[i].addr glue[j])/\σ' 10=vi i/\σ' 8= .bool any/\σ' 7=ov/\σ' 3= .pointer (some ⟨w.heap.size,0,.none⟩)/\σ' 1=hv/\σ' 2= .slice (some yz) glue.length c2/\Ext D E) ?_ ?_
   ·cases t with
    |true=>
     refine zep (fun _=>false) (.run [(0,true),(1,true),(2,true),(3,true),(4,true),(5,true),(6,true),(7,true),(8,true),(9,true),(10,true),(11,true),(12,true),(13,true),(15,true),(16,true),(17,true),(18,true),(19,true)] (.fork 6 [14,20] (fun i=>if i=14 then(.run [(20,false),(21,false),(22,true),(23,true),(24,true),(25,true)] .fin) else(.run [] (.fork 5 [14,21] (fun i=>if i=14 then(.run [(21,false),(22,true),(23,true),(24,true),(25,true)] .fin) else(.run [(14,false),(22,true),(23,true),(24,true),(25,true)] .fin))))))) NoS mixed (by kernel_rfl) ?_;intro gd K x hgd hx hxe hK;clear hxe;have hg1:=gk 1 54 hgd rfl;have hg8:=gk 8 61 hgd rfl;simp (disch:=first|omega|assumption|rfl) only[go_sem,s11,za5,↓hg1,↓hg8];simp only[zaZ,zbb];refine⟨?_,?_⟩
     ·simp (disch:=first|omega|assumption|rfl) only[go_sem,za5,↓hg1,↓hg8];apply hK;exact⟨rfl,rfl,vq1 s12,vr0,vq1 s10,vq1 s8,vq1 s7,vq1 s3,vq1 s1,vq1 s2,hx⟩
     ·simp (disch:=first|omega|assumption|rfl) only[go_sem,za5,↓hg1,↓hg8];simp only[zaZ,zbb];refine⟨?_,?_⟩
      ·simp (disch:=first|omega|assumption|rfl) only[go_sem,za5,↓hg1,↓hg8];apply hK;exact⟨rfl,rfl,vq1 s12,vr0,vq1 s10,vq1 s8,vq1 s7,vq1 s3,vq1 s1,vq1 s2,hx⟩
      ·simp (disch:=first|omega|assumption|rfl) only[go_sem,za5,↓hg1,↓hg8];apply hK;exact⟨rfl,rfl,vq1 s12,vr0,vq1 s10,vq1 s8,vq1 s7,vq1 s3,vq1 s1,vq1 s2,hx⟩
    |false=>
     by_cases hty:glue[j].ty=1
     ·have hisG:isG N.hosts[i].addr glue[j]=decide (glue[j].raw=N.hosts[i].addr):=by unfold isG isA;rw[yet hty];rfl
      rw[hisG];obtain⟨x1,hx1⟩:∃x,adr (some xi) 1=some x:=⟨_,rfl⟩;obtain⟨ar4,cr4,rfl,hcr4,hgr4⟩:=hraw;rw[ylm]at k4 hcr4;refine zep (fun _=>false) (.run [(0,true),(1,true),(2,true),(3,true),(4,true),(5,true),(6,true),(7,true),(8,true),(9,true),(10,true),(11,true),(12,true),(13,true),(15,true),(16,true),(17,true),(18,true),(19,true)] (.fork 6 [14,20] (fun i=>if i=14 then(.run [(20,false),(21,false),(22,true),(23,true),(24,true),(25,true)] .fin) else(.run [] (.fork 5 [14,21] (fun i=>if i=14 then(.run [(21,false),(22,true),(23,true),(24,true),(25,true)] .fin) else(.run [(14,false),(22,true),(23,true),(24,true),(25,true)] .fin))))))) NoS mixed (by kernel_rfl) ?_;intro gd K x hgd hx hxe hK;clear hxe;have hg1:=gk 1 54 hgd rfl;have hg8:=gk 8 61 hgd rfl;have k1x:=zaa (hEwD.trans hx) k1;have k4x:=zaa (hEwD.trans hx) k4;have p0x:=zaa ((hEAC.trans hCD).trans hx) p0;have dHx:=addr_at (zac ((hBC.trans hCD).trans hx) dH) hx1;have grx:∀k (hk:k<glue[j].raw.length),zad x (adr ar4 k)=some (zae glue[j].raw[k]):=fun k hk=>by
       have:=zaa (hE0D.trans hx) (hgr4 k (by simpa using hk));rw[List.getElem_map]at this;exact this
      simp (disch:=first|omega|assumption|rfl) only[go_sem,s11,s2,s12,s3,s10,hi0,hlt,hj0,hlt2,hyi,hy4,hxi,hx1,zaj,k1x,k4x,p0x,Nat.add_zero,yet hty,za5,↓hg1,↓hg8];have haddr:N.hosts[i].addr=[b1,b2,b3,b4]:=had;simp only[zaZ,zbb];refine⟨?_,?_⟩
      ·simp (disch:=first|omega|assumption|rfl) only[go_sem,za5,↓hg1,↓hg8];refine zbg (l:=glue[j].raw) rfl rfl rfl vr0 grx ?_;refine⟨.inr (Keep.refl _ _),?_⟩;simp (disch:=first|omega|assumption|rfl) only[go_sem,za5,↓hg1,↓hg8];refine zlb rfl (by decide) (by kernel_rfl) vq0 ?_;refine⟨.inr (Keep.refl _ _),?_⟩;simp (disch:=first|omega|assumption|rfl) only[go_sem,za5,↓hg1,↓hg8];refine zbg (l:=[b1,b2,b3,b4]) rfl rfl rfl vr0 dHx ?_;refine⟨.inr (Keep.refl _ _),?_⟩;simp (disch:=first|omega|assumption|rfl) only[go_sem,za5,↓hg1,↓hg8];apply hK;exact⟨rfl,rfl,vq1 s12,by rw[Bool.false_or,haddr];first| (simp only[go_sem];done)| (simp only[go_sem];rfl),vq1 s10,vq1 s8,vq1 s7,vq1 s3,vq1 s1,vq1 s2,hx⟩
      ·simp (disch:=first|omega|assumption|rfl) only[go_sem,za5,↓hg1,↓hg8];refine zlb rfl (by decide) (by kernel_rfl) vq0 ?_;refine⟨.inr (Keep.refl _ _),?_⟩;simp only[zaZ,zbb];refine⟨?_,?_⟩
       ·simp (disch:=first|omega|assumption|rfl) only[go_sem,za5,↓hg1,↓hg8];refine zbg (l:=glue[j].raw) rfl rfl rfl vr0 grx ?_;refine⟨.inr (Keep.refl _ _),?_⟩;simp (disch:=first|omega|assumption|rfl) only[go_sem,za5,↓hg1,↓hg8];refine zbg (l:=[b1,b2,b3,b4]) rfl rfl rfl vr0 dHx ?_;refine⟨.inr (Keep.refl _ _),?_⟩;simp (disch:=first|omega|assumption|rfl) only[go_sem,za5,↓hg1,↓hg8];apply hK;exact⟨rfl,rfl,vq1 s12,by rw[Bool.false_or,haddr];first| (simp only[go_sem];done)| (simp only[go_sem];rfl),vq1 s10,vq1 s8,vq1 s7,vq1 s3,vq1 s1,vq1 s2,hx⟩
       ·simp (disch:=first|omega|assumption|rfl) only[go_sem,za5,↓hg1,↓hg8];refine zbg (l:=[b1,b2,b3,b4]) rfl rfl rfl vr0 dHx ?_;refine⟨.inr (Keep.refl _ _),?_⟩;simp (disch:=first|omega|assumption|rfl) only[go_sem,za5,↓hg1,↓hg8];refine zbg (l:=glue[j].raw) rfl rfl rfl vr0 grx ?_;refine⟨.inr (Keep.refl _ _),?_⟩;simp (disch:=first|omega|assumption|rfl) only[go_sem,za5,↓hg1,↓hg8];apply hK;exact⟨rfl,rfl,vq1 s12,by rw[Bool.false_or,haddr];first| (simp only[go_sem];done)| (simp only[go_sem];rfl),vq1 s10,vq1 s8,vq1 s7,vq1 s3,vq1 s1,vq1 s2,hx⟩
     ·have hisG:isG N.hosts[i].addr glue[j]=false:=by unfold isG isA;rw[yef hty];rfl
      rw[hisG];refine zep (fun _=>false) (.run [(0,true),(1,true),(2,true),(3,true),(4,true),(5,true),(6,true),(7,true),(8,true),(9,true),(10,true),(11,true),(12,true),(13,true),(15,true),(16,true),(17,true),(18,true),(19,true)] (.fork 6 [14,20] (fun i=>if i=14 then(.run [(20,false),(21,false),(22,true),(23,true),(24,true),(25,true)] .fin) else(.run [] (.fork 5 [14,21] (fun i=>if i=14 then(.run [(21,false),(22,true),(23,true),(24,true),(25,true)] .fin) else(.run [(14,false),(22,true),(23,true),(24,true),(25,true)] .fin))))))) NoS mixed (by kernel_rfl) ?_;intro gd K x hgd hx hxe hK;clear hxe;have hg1:=gk 1 54 hgd rfl;have hg8:=gk 8 61 hgd rfl;have k1x:=zaa (hEwD.trans hx) k1;simp (disch:=first|omega|assumption|rfl) only[go_sem,s11,s2,s12,hj0,hlt2,hyi,zaj,k1x,Nat.add_zero,yef hty,za5,↓hg1,↓hg8];simp only[zaZ,zbb];refine⟨?_,?_⟩
      ·simp (disch:=first|omega|assumption|rfl) only[go_sem,za5,↓hg1,↓hg8];apply hK;exact⟨rfl,rfl,vq1 s12,vr0,vq1 s10,vq1 s8,vq1 s7,vq1 s3,vq1 s1,vq1 s2,hx⟩
      ·simp (disch:=first|omega|assumption|rfl) only[go_sem,za5,↓hg1,↓hg8];simp only[zaZ,zbb];refine⟨?_,?_⟩
       ·simp (disch:=first|omega|assumption|rfl) only[go_sem,za5,↓hg1,↓hg8];apply hK;exact⟨rfl,rfl,vq1 s12,vr0,vq1 s10,vq1 s8,vq1 s7,vq1 s3,vq1 s1,vq1 s2,hx⟩
       ·simp (disch:=first|omega|assumption|rfl) only[go_sem,za5,↓hg1,↓hg8];apply hK;exact⟨rfl,rfl,vq1 s12,vr0,vq1 s10,vq1 s8,vq1 s7,vq1 s3,vq1 s1,vq1 s2,hx⟩
   clear s12 s11 s10 s8 s7 s3 s1 s2;rintro _ σ2 _ E ⟨rfl,rfl,s12,s11,s10,s8,s7,s3,s1,s2,hDE⟩;refine gz (az2 s12 hj1') ?_;exact⟨m2 - 1,by omega,rfl,j+1,by omega,vq0,by rw[hnx];simp only[go_sem,s11],vq1 s10,vq1 s8,vq1 s7,vq1 s3,vq1 s1,vq1 s2,hCD.trans hDE⟩
  intro hge2;simp only[ydF]at hge2;rw[List.take_of_length_le (by omega)]at s11;have hisH:(sm||glue.any (isG N.hosts[i].addr))=zbC host glue N.hosts[i]:=by
   unfold zbC;rw[←hsm,hany];cases any with
   |true=>simp
   |false=>
    have:glue.any (isG N.hosts[i].addr)=false:=by
     rw[List.any_eq_false]at hany ⊢;intro d hd h;exact hany d hd (by unfold isG at h;rw[Bool.and_eq_true]at h;exact h.1)
    rw[this];simp
  rw[hisH]at s11;have hown2:=hown.ext (hBC.trans hCD);have hpk:=zgd (p:=zbC host glue) hi;have hlen:=zda (p:=zbC host glue) (l:=N.hosts.take i) (i:=0);have hsz:=(hEAC.trans hCD).size;clear s12 hge2 hjm hisH;refine gz s11 ?_;refine zay (Q:=fun e σ' ds' v'=>e= .normal/\ds'=[]/\σ' 10=vi i/\σ' 8= .bool any/\σ' 3= .pointer (some ⟨w.heap.size,0,.none⟩)/\σ' 1=hv/\σ' 2= .slice a2 glue.length c2/\∃ov',σ' 7=ov'/\Own A.heap.size v' 3 ov' ((zcI (zbC host glue) 0 (N.hosts.take (i+1))).map vi)/\Ext A v') ?_ ?_
  ·cases hb:zbC host glue N.hosts[i] with
   |false=>
    rw[hb,if_neg (by decide),List.append_nil]at hpk;refine wf hb ?_;repeat refine c_r ?_
    exact⟨rfl,rfl,vq1 s10,vq1 s8,vq1 s3,vq1 s1,vq1 s2,ov,vq1 s7,by rw[hpk];exact hown2,hEAC.trans hCD⟩
   |true=>
    rw[hb,if_pos rfl]at hpk;refine wt hb ?_;refine rqz ?_;intro gd K hgd hK;refine sgz (az2 s7 s10) ?_;refine zdK (z:=vi 0) (by rfl) (by rfl) (by rfl) (by rfl) (by rfl) ?_;intro A3 hE8 hs8 ho8;try simp only[go_sem]
    refine zc2 (B:=A.heap.size) (hown2.ext hE8) ho8.row (by rfl) (by rfl) (by rfl) (by rfl) (by rfl) (by rfl) ((vr1 s7)) vr0 (fun q hq=>by rw[List.mem_singleton.1 hq];rfl) (by simp at hlen ⊢;omega) (by decide) (by omega) ?_;intro ov' A4 ho9 hE9 _ _;try simp only[go_sem]
    apply hK;exact⟨rfl,rfl,vq1 s10,vq1 s8,vq1 s3,vq1 s1,vq1 s2,ov',vr0,by rw[hpk,List.map_append];exact ho9,hE9 _ ((hEAC.trans hCD).trans hE8) (ynl _)⟩
  clear s11 s10 s8 s7 s3 s1 s2;rintro _ σ2 _ A3 ⟨rfl,rfl,s10,s8,s3,s1,s2,ov',s7,hown3,hE3⟩;refine gz (az2 s10 hi1') ?_;exact⟨m - 1,by omega,rfl,i+1,ov',by omega,vq0,vq1 s8,vq1 s7,vq1 s3,vq1 s1,vq1 s2,hown3,hE3⟩
 ·intro hge2;simp only[ydF]at hge2;rw[List.take_of_length_le (by omega)]at hown;repeat (first|refine c_r ?_| (refine zb6 (by rfl) ?_;intro gd K hgd hK;simp (disch:=first|omega|assumption|rfl) only[go_sem,s7];refine hK _ _ ?_;clear hK hgd;clear K gd))
  refine rt0 Tryz.ntmps182 ?_;exact⟨hE1.trans hEB,hown.row,hown.blk.mono hE1.size⟩
theorem zb7(w:World){nv:Value}{l:List Value}(hr:Row w nv l)(s:zar)(k:Int):
  Fn Tryz.prog 141 #[.agg (stV nv s).toArray,vi k] w (fun v w'=>Ext w w'/\Rows 6 (StN nv) w' v (endS s k)/\BlkB w.heap.size w' v):=by
 have h1:=hr.isOne;obtain⟨an,cn,hnv,_⟩:=hr;unfold stV;rw[hnv];refine enter Tryz.func141 Tryz.ntmps141 rfl rfl ?_;refine gz0 ?_;rw[←hnv];repeat refine c_r ?_
 refine zaw ?_;intro w1 hE1 hs1 hA;refine rq ?_;intro gd K hgd hK;try simp only[go_sem]
 refine zaT (P:=Tryz.prog) (t:=3) (j:=5) (u:=vi k) (l:=stV nv s) hA (by show 5<6;decide) rfl rfl rfl ?_;intro w2 hs2 hA2 hk2;try simp only[go_sem]
 apply hK;have hE2:=Keep.to_ext hE1 rfl (fun b hb=>by omega) hk2;have d:zao w2 (some ⟨w.heap.size,0,.none⟩) 6=some (stV nv {s with fin:=k}):=zaf hA2 rfl;refine rqz ?_;intro gd K hgd hK;refine sgz d ?_;refine zaN (C:=StN nv) (zba nv) (l:=stV nv {s with fin:=k}) (by rfl) (by rfl) (by rfl) (by rfl) ⟨rfl,h1⟩ (by decide) ?_;intro w3 hE3 hs3 ho3;try simp only[go_sem]
 refine en hK ?_;refine rt0 Tryz.ntmps141 ?_;exact⟨hE2.trans hE3,ho3.rows,ho3.blk.mono hE2.size⟩
theorem zkv{w0 w:World}(hE0:Ext w0 w){cs:List Value}{N:NetL}(hN:NetAt w0 cs N)(hrl:N.roots.length<=1000){nv:Value}{q:Nm}(hq:Row w nv (q.map vs)):
  Fn Tryz.prog 85 #[.agg cs.toArray,nv] w (fun v w'=>Ext w w'/\Rows 6 (StC w') w' v (zc9 N ⟨0,q,0,0,false,0⟩)/\BlkB w.heap.size w' v):=by
 obtain⟨hv,rv,rfl,hh,hro⟩:=hN.ex;obtain⟨ah,ch,hhv,_⟩:=hh.open;obtain⟨ar,cr,rfl,hcr,hgr⟩:=hro;obtain⟨an,cn,hnv,_⟩:=id hq;have h1:=hq.isOne;simp only[ylm]at hcr hgr;refine enter Tryz.func85 Tryz.ntmps85 rfl rfl ?_;repeat refine c_r ?_
 rw[hhv];refine rq ?_;intro gd K hgd hK;simp (disch:=first|omega|assumption|rfl) only[go_sem,ylm];refine hK _ _ ?_;clear hK hgd;clear K gd;rw[←hhv];repeat refine c_r ?_
 refine zaw ?_;intro w1 hE1 hs1 hA;have p1:zad w1 (some ⟨w.heap.size,1,.none⟩)=some (.slice ar N.roots.length cr):=zab hA rfl;refine gz0 ?_;refine zap (fun m σ ds A=>ds=[]/\∃(i:Nat) (ov:Value),i+m=N.roots.length/\σ 6=vi i/\σ 5=ov/\σ 2= .pointer (some ⟨w.heap.size,0,.none⟩)/\σ 1=nv/\Owns 6 (StN nv) w1.heap.size A 84 ov ((N.roots.take i).map fun r=>(⟨r,q,0,0,false,0⟩:zar))/\Ext w1 A) N.roots.length ?_ ?_
 ·exact⟨rfl,0,.slice .none 0 0,by omega,vr0,vr0,vr0,vr0,Owns.nil _ _ _ _ _,Keep.refl _ _⟩
 rintro m σ ds A ⟨rfl,i,ov,him,s6,s5,s2,s1,hown,hEA⟩;have p1A:=zaa hEA p1;refine gz (az4 s6 s2 p1A yn0) ?_;refine wc0 ?_ ?_
 ·intro hlt;simp only[ydT]at hlt;have hi:i<N.roots.length:=by omega
  have hi0:=cj i;have hi1':=ci i;have hg:=zaa (hE0.trans (hE1.trans hEA)) (hgr i hi);rw[List.getElem_map]at hg;obtain⟨xz,rfl⟩:=yxs (zag (hgr 0 (by omega)));have hszA:=hEA.size;refine rqz ?_;intro gd K hgd hK;refine sgz (az2 (az7 s5 s6 s2 s1 p1A hi0 hlt) (az3 hg Nat.mul_one yn0)) ?_;refine⟨by kernel_rfl,?_⟩;rw[hnv,show bdV Tryz.prog 84 [(0,vi N.roots[i]),(1,.slice an (q.map vs).length cn)]=some (.agg #[vi N.roots[i],.slice an (q.map vs).length cn,vi 0,vi 0,.bool false,vi 0]) from by kernel_rfl,←hnv];try simp only[go_sem]
  refine zaN (C:=StN nv) (zba nv) (l:=stV nv ⟨N.roots[i],q,0,0,false,0⟩) (by rfl) (by rfl) (by rfl) (by rfl) ⟨rfl,h1⟩ (by decide) ?_;intro A2 hE7 hs7 ho7;try simp only[go_sem]
  refine zaG (zba nv) (hown.ext hE7) ho7.rows (by rfl) (by rfl) (by rfl) (by rfl) (by rfl) (by rfl) (by decide) ((vr1 s5)) vr0 (by simp;omega) (by decide) (by omega) ?_;intro ov' A3 ho8 hE8 hk8 _;try simp only[go_sem]
  apply hK;refine gz (az2 s6 hi1') ?_;refine⟨m - 1,by omega,rfl,i+1,ov',by omega,vq0,vq0,vq1 s2,vq1 s1,?_,hE8 w1 (hEA.trans hE7) (ynl _)⟩;rw[zam hi,List.map_append];exact ho8
 ·intro hge;simp only[ydF]at hge;rw[List.take_of_length_le (by omega)]at hown;repeat (first|refine c_r ?_| (refine zb6 (by rfl) ?_;intro gd K hgd hK;simp (disch:=first|omega|assumption|rfl) only[go_sem,s5];refine hK _ _ ?_;clear hK hgd;clear K gd))
  refine rt0 Tryz.ntmps85 ?_;have hE:=hE1.trans hEA;exact⟨hE,zc1 hown.rows (fun s hs=>by
   obtain⟨r,_,rfl⟩:=List.mem_map.1 hs;exact hq.ext hE),hown.blk.mono hE1.size⟩
theorem ziY{w0 w:World}(hE0:Ext w0 w){cs:List Value}{N:NetL}(hN:NetAt w0 cs N)(hG:NetZ N){nv tv:Value}{s:zar}{to:Nm}(hr:Row w nv (s.name.map vs))(ht:Row w tv (to.map vs))(mt:NmM to)(b0:0<=s.rw)(b1:s.rw<=1000000):
  Fn Tryz.prog 142 #[.agg cs.toArray,.agg (stV nv s).toArray,tv] w (fun v w'=>Ext w w'/\Rows 6 (StC w') w' v (zeo N s to)/\BlkB w.heap.size w' v):=by
 have hN0:=hN;obtain⟨hv,rv,rfl,hh,hro⟩:=hN.ex;obtain⟨ah,ch,hhv,_⟩:=hh.open;have hro0:=hro;obtain⟨ar,cr,hrv,hcr,hgr⟩:=hro;simp only[ylm]at hcr hgr hrv;obtain⟨an,cn,hnv,_⟩:=id hr;have t1:=ht.isOne;have hrl:=hG.rl;obtain⟨at1,ct,htv,_⟩:=id ht;unfold stV;refine enter Tryz.func142 Tryz.ntmps142 rfl rfl ?_;repeat refine c_r ?_
 rw[hhv,hrv,hnv];refine rg0 ?_;rw[←hhv,←hrv,←hnv];repeat refine c_r ?_
 rw[zai];refine zaF ?_;intro w1 hE1 hs1 hB hA;have p2:zad w1 (some ⟨w.heap.size+1,2,.none⟩)=some (vi s.rw):=zab hA rfl;have q2:zad w1 (some ⟨w.heap.size,2,.none⟩)=some (vi N.rw):=zab hB rfl;have dA:zao w1 (some ⟨w.heap.size+1,0,.none⟩) 6=some (stV nv s):=zaf hA rfl;repeat refine c_r ?_
 unfold zeo;by_cases hge:s.rw>=N.rw
 ·rw[if_pos hge];refine gz (az4 p2 q2 yn0 (yet hge)) ?_;refine wt trivial ?_;repeat refine c_r ?_
  refine rc dA (zb7 w1 (hr.ext hE1) s 7) ?_;rintro v w2 ⟨hE2,hv2,hvb⟩;refine re trivial ?_;repeat refine c_r ?_
  refine rt0 Tryz.ntmps142 ?_;exact⟨hE1.trans hE2,zc1 hv2 (fun x hx=>by rw[zbK hx];exact hr.ext (hE1.trans hE2)),hvb.mono hE1.size⟩
 rw[if_neg hge];refine gz (az4 p2 q2 yn0 (yef hge)) ?_;refine wf trivial ?_;refine rqz ?_;intro gd K hgd hK;refine sgz (az2 p2 yn0) ?_;refine zaT (P:=Tryz.prog) (t:=3) (j:=2) (u:=vi (s.rw+1)) (l:=stV nv s) hA (by show 2<6;decide) rfl rfl rfl ?_;intro w2 hs2 hA2 hk2;try simp only[go_sem]
 apply hK;refine rqz ?_;intro gd K hgd hK;try simp only[go_sem]
 refine zaT (P:=Tryz.prog) (t:=26) (j:=1) (u:=tv) hA2 (by show 1<6;decide) t1 rfl rfl ?_;intro w3 hs3 hA3 hk3;try simp only[go_sem]
 apply hK;refine rqz ?_;intro gd K hgd hK;try simp only[go_sem]
 refine zaT (P:=Tryz.prog) (t:=4) (j:=4) (u:= .bool false) hA3 (by show 4<6;decide) rfl rfl rfl ?_;intro w4 hs4 hA4 hk4;try simp only[go_sem]
 apply hK;obtain⟨s2,hs2e⟩:∃s2:zar,{s with rw:=s.rw+1,name:=to,ref:=false}=s2:=⟨_,rfl⟩;have hA4':w4.heap[w.heap.size+1]? =some (.cells (stV tv s2).toArray 84 (0,0)):=by rw[←hs2e];exact hA4
 have hE4:Ext w w4:=Keep.to_ext (Keep.to_ext (Keep.to_ext hE1 rfl (fun b hb=>by omega) hk2) rfl (fun b hb=>by omega) hk3) rfl (fun b hb=>by omega) hk4;have hB4:=(hk4.block _ (by omega) (by omega)).trans ((hk3.block _ (by omega) (by omega)).trans ((hk2.block _ (by omega) (by omega)).trans hB));have dN:zao w4 (some ⟨w.heap.size,0,.none⟩) 4=some [hv,rv,vi N.rw,vi N.rf]:=zaf hB4 rfl;have r0:zad w4 (some ⟨w.heap.size+1,0,.none⟩)=some (vi s.sv):=by rw[←hs2e]at hA4';exact zab hA4' rfl
 have hE04:=hE0.trans hE4;have mn:s2.name=to:=by rw[←hs2e]
 rw[hs2e];repeat refine c_r ?_
 refine rc (an3 dN r0 Nat.add_zero) (zjN (s:=s.sv) hE04 hN0 hG (ht.ext hE4) mt) ?_;rintro _ w5 ⟨rfl,hE5⟩;refine re trivial ?_;have hE45:=hE4.trans hE5;have dS:zao w5 (some ⟨w.heap.size+1,0,.none⟩) 6=some (stV tv s2):=zac hE5 (zaf hA4' rfl);have hA5:=Ext.at hE5 hA4';have p1:zad w5 (some ⟨w.heap.size,1,.none⟩)=some (.slice ar N.roots.length cr):=by rw[←hrv];exact zab (Ext.at hE5 hB4) rfl
 have hs5:=hE5.size;refine gz0 ?_;cases hb:(zbR N s.sv to).2 with
 |true=>
  rw[if_pos rfl];refine wt trivial ?_;refine rqz ?_;intro gd K hgd hK;refine sgz dS ?_;refine zaN (C:=StN tv) (zba tv) (l:=stV tv s2) (a:=s2) (by rfl) (by rfl) (by rfl) (by rfl) ⟨rfl,t1⟩ (by decide) ?_;intro w6 hE6 hs6 ho6;try simp only[go_sem]
  refine en hK ?_;refine rt0 Tryz.ntmps142 ?_;exact⟨hE45.trans hE6,zc1 ho6.rows (fun x hx=>by rw[List.mem_singleton.1 hx,mn];exact ht.ext (hE45.trans hE6)),ho6.blk.mono hE45.size⟩
 |false=>
  rw[if_neg Bool.false_ne_true];refine wf trivial ?_;refine gz0 ?_;obtain⟨b3,hb3⟩:∃b,w.heap.size+1=b:=⟨_,rfl⟩;rw[hb3]at hA5 dS ⊢;refine zap (fun m σ ds A=>ds=[]/\∃(i:Nat) (ov:Value) (s':zar),i+m=N.roots.length/\σ 10=vi i/\σ 9=ov/\σ 3= .pointer (some ⟨w.heap.size,0,.none⟩)/\σ 4= .pointer (some ⟨b3,0,.none⟩)/\A.heap[b3]? =some (.cells (stV tv s').toArray 84 (0,0))/\(∃k,s'={s2 with sv:=k})/\
   Owns 6 (StN tv) w5.heap.size A 84 ov ((N.roots.take i).map fun r=>{s2 with sv:=r})/\KeepB w5.heap.size (fun b=>b=b3) w5 A) N.roots.length ?_ ?_
  ·exact⟨rfl,0,.slice .none 0 0,s2,by omega,vr0,vr0,vr0,vr0,hA5,⟨s2.sv,rfl⟩,Owns.nil _ _ _ _ _,KeepB.refl _ _ _⟩
  rintro m σ ds A ⟨rfl,i,ov,s',him,s10,s9,s3,s4,hB3,⟨k0,hs'⟩,hown,hKA⟩;have hszA:=hKA.size;have hEA:Ext w A:=Keep.to_ext hE45 rfl (fun b hb=>by omega) hKA.keep;have p1A:zad A (some ⟨w.heap.size,1,.none⟩)=some (.slice ar N.roots.length cr):=by
   rw[←hrv];exact zab ((hKA.keep.block _ (by omega) (by omega)).trans (Ext.at hE5 hB4)) rfl
  refine gz (az4 s10 s3 p1A yn0) ?_;refine wc0 ?_ ?_
  ·intro hlt;simp only[ydT]at hlt;have hi:i<N.roots.length:=by omega
   have hi0:=cj i;have hi1':=ci i;have hg:=zaa (hE0.trans hEA) (hgr i hi);rw[List.getElem_map]at hg;obtain⟨xz,rfl⟩:=yxs (zag (hgr 0 (by omega)));refine rqz ?_;intro gd K hgd hK;refine sgz (az2 (az7 s10 s3 s4 p1A hi0 hlt hg) (az2 Nat.mul_one yn0)) ?_;refine zaT (P:=Tryz.prog) (t:=3) (j:=0) (u:=vi N.roots[i]) (l:=stV tv s') hB3 (by show 0<6;decide) rfl rfl rfl ?_;intro A1 hs6 hB1 hk1;try simp only[go_sem]
   apply hK;have hB1':A1.heap[b3]? =some (.cells (stV tv {s2 with sv:=N.roots[i]}).toArray 84 (0,0)):=by rw[hs']at hB1;exact hB1
   have d:zao A1 (some ⟨b3,0,.none⟩) 6=some (stV tv {s2 with sv:=N.roots[i]}):=zaf hB1' rfl;have hown1:=hown.keep hk1 (fun b hb hb2=>by have:=(hown.ge hb).1;omega);refine rqz ?_;intro gd K hgd hK;refine sgz (az3 s9 s4 d) ?_;refine zaN (C:=StN tv) (zba tv) (l:=stV tv {s2 with sv:=N.roots[i]}) (by rfl) (by rfl) (by rfl) (by rfl) ⟨rfl,t1⟩ (by decide) ?_;intro A2 hE7 hs7 ho7;try simp only[go_sem]
   refine zaG (zba tv) (hown1.ext hE7) ho7.rows (by rfl) (by rfl) (by rfl) (by rfl) (by rfl) (by rfl) (by decide) ((vr1 s9)) vr0 (by simp;omega) (by decide) (by omega) ?_;intro ov' A3 ho8 hE8 hk8 _;try simp only[go_sem]
   apply hK;have hsz3:=hk8.size;refine gz (az2 s10 hi1') ?_;refine⟨m - 1,by omega,rfl,i+1,ov',{s2 with sv:=N.roots[i]},by omega,vq0,vq0,vq1 s3,vq1 s4,?_,⟨_,rfl⟩,?_,?_⟩
   ·refine(hk8.block _ (by omega) (fun hb=>?_)).trans (Ext.at hE7 hB1');have:=(hown1.ge hb).1;omega
   ·rw[zam hi,List.map_append];exact ho8
   ·refine hKA.trans ((hk1.toB hszA fun i _ h=>h).trans ((hE7.toB (by omega) fun i _ h=>h.elim).trans (hk8.toB (by omega) fun i h1 h2=>?_)));have:=(hown1.ge h2).1;omega
  ·intro hge2;simp only[ydF]at hge2;rw[List.take_of_length_le (by omega)]at hown;repeat (first|refine c_r ?_| (refine zb6 (by rfl) ?_;intro gd K hgd hK;simp (disch:=first|omega|assumption|rfl) only[go_sem,s9];refine hK _ _ ?_;clear hK hgd;clear K gd))
   refine rt0 Tryz.ntmps142 ?_;exact⟨hEA,zc1 hown.rows (fun x hx=>by
    obtain⟨k,_,rfl⟩:=List.mem_map.1 hx;show Row _ _ (s2.name.map vs);rw[mn];exact ht.ext hEA),hown.blk.mono hE45.size⟩
def zcL(to:Nm)(l:List (Nm×List DatL)):List DatL:=l.foldl (fun b g=>if zan g.1=zan to then g.2 else b) []
def zfy(N:NetL)(r:ResL)(s:zar)(h:Nm):List zar:=((zed N h (zcL h r.glue)).map fun k=>{s with sv:=k,ref:=true})++(if ((zed N h (zcL h r.glue)).length:Int)=0 then endS s 9 else [])
def zhm(N:NetL)(s:zar)(r:ResL):List zar:=if s.rf>=N.rf then endS s 8 else(r.data.filterMap fun d=>d.names.head?).flatMap (zfy N r {s with rf:=s.rf+1})
theorem zj6{to:Nm}{l:List (Nm×List DatL)}:zcL to l=[]\/∃g∈l,zcL to l=g.2:=by
 unfold zcL
 suffices h:∀(l:List (Nm×List DatL)) (b:List DatL),l.foldl (fun b g=>if zan g.1=zan to then g.2 else b) b=b\/∃g∈l,l.foldl (fun b g=>if zan g.1=zan to then g.2 else b) b=g.2 from h l []
 intro l
 induction l with
 |nil=>exact fun b=> .inl rfl
 |cons x l ih=>
  intro b;rw[List.foldl_cons]
  split
  ·rcases ih x.2 with h| ⟨g,hg,h⟩
   ·exact .inr ⟨x,List.mem_cons_self ..,h⟩
   ·exact .inr ⟨g,List.mem_cons_of_mem _ hg,h⟩
  ·rcases ih b with h| ⟨g,hg,h⟩
   ·exact .inl h
   ·exact .inr ⟨g,List.mem_cons_of_mem _ hg,h⟩
theorem ziJ{to:Nm}{l:List (Nm×List DatL)}{i:Nat}(hi:i<l.length):zcL to (l.take (i+1))=if zan l[i].1=zan to then l[i].2 else zcL to (l.take i):=by
 unfold zcL;rw[zam hi,List.foldl_append]
 rfl
theorem zlr{N:NetL}{r:ResL}{s x:zar}{h:Nm}(hx:x∈zfy N r s h):x.name=s.name:=by
 unfold zfy at hx;rcases List.mem_append.1 hx with h|h
 ·obtain⟨k,_,rfl⟩:=List.mem_map.1 h;rfl
 ·split at h
  ·exact zbK h
  ·cases h
theorem zig{w0 w:World}(hE0:Ext w0 w){cs cr:List Value}{N:NetL}{r:ResL}(hN:NetAt w0 cs N)(hG:NetZ N){nv:Value}{s:zar}(hr:Row w nv (s.name.map vs))(hres:ResAt w0 w cr r)(kr:zkt r)(kl:r.data.length<=1000)(hne:∀d∈r.data,∃n l,d.names=n::l/\NmM n)(b0:0<=s.rf)(b1:s.rf<=1000000):
  Fn Tryz.prog 143 #[.agg cs.toArray,.agg (stV nv s).toArray,.agg cr.toArray] w (fun v w'=>Ext w w'/\Rows 6 (StC w') w' v (zhm N s r)/\BlkB w.heap.size w' v):=by
 have hN0:=hN;obtain⟨hv,rv,rfl,hh,hro⟩:=hN.ex;obtain⟨ah,ch,hhv,_⟩:=hh.open;obtain⟨ar,cr1,hrv,_⟩:=id hro;obtain⟨an,cn,hnv,_⟩:=id hr;have n1:=hr.isOne;obtain⟨dv,qv,gv,rfl,hd,hq,hg⟩:=hres.ex;obtain⟨ad,cd,rfl,hcd,hgd2⟩:=hd.open;obtain⟨aq,cq,hqv,_⟩:=id hq;obtain⟨ag,cg,rfl,hcg,hgg⟩:=hg.open;have gl:=kr.gl;unfold stV;refine enter Tryz.func143 Tryz.ntmps143 rfl rfl ?_;repeat refine c_r ?_
 rw[hhv,hrv,hnv,hqv];refine rg0 ?_;rw[←hhv,←hrv,←hnv,←hqv];repeat refine c_r ?_
 rw[zai,zai,zai];refine zcZ ?_;intro w1 hE1 hs1 hA hB hC;have p3:zad w1 (some ⟨w.heap.size+1,3,.none⟩)=some (vi s.rf):=zab hB rfl;have q3:zad w1 (some ⟨w.heap.size,3,.none⟩)=some (vi N.rf):=zab hA rfl;have dB:zao w1 (some ⟨w.heap.size+1,0,.none⟩) 6=some (stV nv s):=zaf hB rfl;repeat refine c_r ?_
 unfold zhm;by_cases hge:s.rf>=N.rf
 ·rw[if_pos hge];refine gz (az4 p3 q3 yn0 (yet hge)) ?_;refine wt trivial ?_;repeat refine c_r ?_
  refine rc dB (zb7 w1 (hr.ext hE1) s 8) ?_;rintro v w2 ⟨hE2,hv2,hvb⟩;refine re trivial ?_;repeat refine c_r ?_
  refine rt0 Tryz.ntmps143 ?_;exact⟨hE1.trans hE2,zc1 hv2 (fun x hx=>by rw[zbK hx];exact hr.ext (hE1.trans hE2)),hvb.mono hE1.size⟩
 rw[if_neg hge];refine gz (az4 p3 q3 yn0 (yef hge)) ?_;refine wf trivial ?_;refine rqz ?_;intro gd K hgd hK;refine sgz (az2 p3 yn0) ?_;refine zaT (P:=Tryz.prog) (t:=3) (j:=3) (u:=vi (s.rf+1)) (l:=stV nv s) hB (by show 3<6;decide) rfl rfl rfl ?_;intro w2 hs2 hB2 hk2;try simp only[go_sem]
 apply hK;obtain⟨s2,hs2e⟩:∃s2:zar,{s with rf:=s.rf+1}=s2:=⟨_,rfl⟩;have hB2':w2.heap[w.heap.size+1]? =some (.cells (stV nv s2).toArray 84 (0,0)):=by rw[←hs2e];exact hB2
 have hE2:Ext w w2:=Keep.to_ext hE1 rfl (fun b hb=>by omega) hk2;have hC2:=(hk2.block _ (by omega) (by omega)).trans hC;have hA2:=(hk2.block _ (by omega) (by omega)).trans hA;have mn:s2.name=s.name:=by rw[←hs2e]
 rw[hs2e];have dN:zao w2 (some ⟨w.heap.size,0,.none⟩) 4=some [hv,rv,vi N.rw,vi N.rf]:=zaf hA2 rfl;have dS:zao w2 (some ⟨w.heap.size+1,0,.none⟩) 6=some (stV nv s2):=zaf hB2' rfl;have c1:zad w2 (some ⟨w.heap.size+1+1,1,.none⟩)=some (.slice ad r.data.length cd):=zab hC2 rfl;have c4:zad w2 (some ⟨w.heap.size+1+1,4,.none⟩)=some (.slice ag r.glue.length cg):=zab hC2 rfl;clear hA hB hC hA2 hB2 hB2' hC2 hk2 p3 q3 dB;refine gz0 ?_;obtain⟨b4,hb4⟩:∃b,w.heap.size+1=b:=⟨_,rfl⟩;have hs2':=hE2.size;rw[hb4]at dS c1 c4 ⊢;refine zap (fun m σ ds A=>ds=[]/\∃(i:Nat) (ov:Value) (l:List zar),i+m=r.data.length/\σ 8=vi i/\σ 7=ov/\σ 3= .pointer (some ⟨w.heap.size,0,.none⟩)/\σ 4= .pointer (some ⟨b4,0,.none⟩)/\σ 5= .pointer (some ⟨b4+1,0,.none⟩)/\l=((r.data.take i).filterMap fun d=>d.names.head?).flatMap (zfy N r s2)/\l.length<=i*1001/\
  Owns 6 (StN nv) w2.heap.size A 84 ov l/\Ext w2 A) r.data.length ?_ ?_
 ·exact⟨rfl,0,.slice .none 0 0,[],by omega,vr0,vr0,vr0,vr0,vr0,rfl,ynl _,Owns.nil _ _ _ _ _,Keep.refl _ _⟩
 rintro m σ ds A ⟨rfl,i,ov,l,him,s8,s7,s3,s4,s5,hl,hll,hown,hEA⟩;have c1A:=zaa hEA c1;refine gz (az4 s8 s5 c1A yn0) ?_;refine wc0 ?_ ?_
 ·intro hlt;simp only[ydT]at hlt;have hi:i<r.data.length:=by omega
  have hi0:=cj i;have hi1':=ci i;have hz0:=cj 0;obtain⟨c3,hc3,hD⟩:=hgd2 i hi;obtain⟨nm,nu,tx,rw',rfl,hnm,_,_,_⟩:=hD.ex;obtain⟨hn,hnl,hne1,hnm1⟩:=hne _ (List.getElem_mem hi);obtain⟨vals,⟨an2,cn2,rfl,hcn2,hgn2⟩,hvl,hvr⟩:=hnm;rw[hne1]at hvl;simp only[List.length_cons]at hvl;have hv0:0<vals.length:=by omega
  obtain⟨tv,htv⟩:∃v,vals[0]=v:=⟨_,rfl⟩;have hrow:Row w0 tv (hn.map vs):=by
   have:=hvr 0 hv0 (by rw[hne1];simp);simp only[hne1,List.getElem_cons_zero]at this
   rwa [htv]at this
  have hvlt:(0:Int)<(vals.length:Int):=by omega
  obtain⟨xz,rfl⟩:=yxs (zak hc3);obtain⟨xi,hxi⟩:∃xi,adr (some xz) (i*5)=some xi:=⟨_,rfl⟩;obtain⟨x1,hx1⟩:∃x,adr (some xi) 1=some x:=⟨_,rfl⟩;rw[hxi]at hc3;have hwA:=hE2.trans hEA;have k1:zad A (some x1)=some (.slice an2 vals.length cn2):=by
   have:=zah (j:=1) hc3 rfl;rw[hx1]at this;exact zaa hwA this
  have k0:=zaa (hE0.trans hwA) (hgn2 0 hv0);obtain⟨xn,rfl⟩:=yxs (zag k0);rw[htv,zaj]at k0;refine rqz ?_;intro gd K hgd hK;simp (disch:=first|omega|assumption|rfl) only[go_sem,s8,s5,c1A,yn0,hi0,hlt,hxi,hx1,k1,hz0,hvlt,Int.toNat_zero,Nat.zero_mul,zaj,k0];refine hK _ _ ?_;clear hK hgd;clear K gd;refine gz0 ?_;refine zap (fun m σ ds B=>ds=[]/\∃(j:Nat) (kv:Value),j+m=r.glue.length/\σ 11=vi j/\σ 10=kv/\Rows 5 (DatAt w0) w kv (zcL hn (r.glue.take j))/\σ 9=tv/\σ 8=vi i/\σ 7=ov/\σ 3= .pointer (some ⟨w.heap.size,0,.none⟩)/\σ 4= .pointer (some ⟨b4,0,.none⟩)/\σ 5= .pointer (some ⟨b4+1,0,.none⟩)/\Ext A B) r.glue.length ?_ ?_
  ·exact⟨rfl,0,.slice .none 0 0,by omega,vr0,vr0,Rows.nil _ _ _,vr0,vq1 s8,vq1 s7,vq1 s3,vq1 s4,vq1 s5,Keep.refl _ _⟩
  clear s8 s7 s3 s4 s5;rintro m2 σ ds B ⟨rfl,j,kv,hjm,s11,s10,hkv,s9,s8,s7,s3,s4,s5,hAB⟩;have c4B:=zaa (hEA.trans hAB) c4;have hwB:=hwA.trans hAB;refine gz (az4 s11 s5 c4B yn0) ?_;refine wc0 ?_ ?_
  ·intro hlt2;simp only[ydT]at hlt2;have hj:j<r.glue.length:=by omega
   have hj0:=cj j;have hj1':=ci j;obtain⟨c5,hc5,gh,gd2,rfl,hgh1,hgd3⟩:=hgg j hj;have mg:=(kr.g _ (List.getElem_mem hj)).1;obtain⟨yz,rfl⟩:=yxs (zak hc5);obtain⟨yi,hyi⟩:∃xi,adr (some yz) (j*2)=some xi:=⟨_,rfl⟩;obtain⟨y1,hy1⟩:∃x,adr (some yi) 1=some x:=⟨_,rfl⟩;rw[hyi]at hc5;have g0:zad B (some yi)=some gh:=by
    have:=zah (j:=0) (zac hwB hc5) rfl
    rwa [zaj]at this
   have g1:zad B (some y1)=some gd2:=by
    have:=zah (j:=1) (zac hwB hc5) rfl
    rwa [hy1]at this
   have htk:=ziJ (to:=hn) hj;have mgl:=mg.len;have hml:=hnm1.len;repeat refine c_r ?_
   refine rc (an9 s5 c4B s11 hj0 hlt2 hyi (an2 zaj g0) s9 yn0) (zbO B gh tv r.glue[j].1 hn (hgh1.ext (hE0.trans hwB)) (hrow.ext (hE0.trans hwB)) mg.lb hnm1.LB (by omega) (by omega)) ?_;rintro _ C ⟨rfl,hBC⟩;refine re trivial ?_;repeat refine c_r ?_
   refine zay (Q:=fun e σ' ds' C'=>e= .normal/\ds'=[]/\C'=C/\σ' 11=vi j/\(∃kv',σ' 10=kv'/\Rows 5 (DatAt w0) w kv' (zcL hn (r.glue.take (j+1))))/\σ' 9=tv/\σ' 8=vi i/\σ' 7=ov/\σ' 3= .pointer (some ⟨w.heap.size,0,.none⟩)/\σ' 4= .pointer (some ⟨b4,0,.none⟩)/\σ' 5= .pointer (some ⟨b4+1,0,.none⟩)) ?_ ?_
   ·have c4C:=zaa hBC c4B;have g1C:=zaa hBC g1;by_cases hsm:zan r.glue[j].1=zan hn
    ·rw[if_pos hsm]at htk;refine wt (yet hsm) ?_;refine gz (az2 (az7 s5 c4C s11 hj0 hlt2 hyi hy1) (az2 g1C yn0)) ?_;exact⟨rfl,rfl,rfl,vq1 s11,⟨gd2,vr0,by rw[htk];exact hgd3⟩,vq1 s9,vq1 s8,vq1 s7,vq1 s3,vq1 s4,vq1 s5⟩
    ·rw[if_neg hsm]at htk;refine wf (yef hsm) ?_;repeat refine c_r ?_
     exact⟨rfl,rfl,rfl,vq1 s11,⟨kv,vq1 s10,by rw[htk];exact hkv⟩,vq1 s9,vq1 s8,vq1 s7,vq1 s3,vq1 s4,vq1 s5⟩
   clear s11 s10 s9 s8 s7 s3 s4 s5;rintro _ σ1 _ _ ⟨rfl,rfl,hCe,s11,⟨kv',s10,hkv'⟩,s9,s8,s7,s3,s4,s5⟩;subst hCe;refine gz (az2 s11 hj1') ?_;exact⟨m2 - 1,by omega,rfl,j+1,kv',by omega,vq0,vq1 s10,hkv',vq1 s9,vq1 s8,vq1 s7,vq1 s3,vq1 s4,vq1 s5,hAB.trans hBC⟩
  intro hge2;simp only[ydF]at hge2;rw[List.take_of_length_le (by omega)]at hkv;clear s11 hge2 hjm;obtain⟨H,hH⟩:∃H,zcL hn r.glue=H:=⟨_,rfl⟩;have hHl:H.length<=1000000000:=by
   rw[←hH];rcases zj6 (to:=hn) (l:=r.glue) with h| ⟨g,hg',h⟩
   ·rw[h];exact Nat.zero_le _
   ·rw[h];exact(kr.g g hg').2.2
  rw[hH]at hkv;have dNB:=zac (hEA.trans hAB) dN;repeat refine c_r ?_
  refine rc (an4 s3 dNB s9 s10) (zmq (hE0.trans hwB) hN0 hG (hrow.ext (hE0.trans hwB)) hnm1 (hkv.ext hwB) hHl) ?_;rintro mv C ⟨hBC,hmv,hmb⟩;refine re trivial ?_;obtain⟨M,hM⟩:∃M,zed N hn H=M:=⟨_,rfl⟩;have hMl:M.length<=1000:=by
   rw[←hM];have h1:=zda (p:=zbC hn H) (l:=N.hosts) (i:=0);have h2:=hG.hl;show(zcI (zbC hn H) 0 N.hosts).length<=1000;omega
  rw[hM]at hmv;have hmv0:=hmv;obtain⟨am,cm,rfl,hcm,hgm⟩:=hmv;simp only[ylm]at hcm hgm s10;have hAC:=hAB.trans hBC;have hown1:=hown.ext hAC;refine gz0 ?_;refine zap (fun m σ ds D=>ds=[]/\∃(j:Nat) (ov':Value),j+m=M.length/\σ 13=vi j/\σ 12= .slice am M.length cm/\σ 8=vi i/\σ 7=ov'/\σ 3= .pointer (some ⟨w.heap.size,0,.none⟩)/\σ 4= .pointer (some ⟨b4,0,.none⟩)/\σ 5= .pointer (some ⟨b4+1,0,.none⟩)/\
   Owns 6 (StN nv) w2.heap.size D 84 ov' (l++(M.take j).map fun k=>{s2 with sv:=k,ref:=true})/\Ext w2 D/\(∀b,some b=ov'.ownBlock->b<B.heap.size\/C.heap.size<=b)/\KeepB C.heap.size (fun b=>b<B.heap.size) C D) M.length ?_ ?_
  ·refine⟨rfl,0,ov,by omega,vr0,by first| (simp only[go_sem,ylm];done)| (simp only[go_sem,ylm];rfl),vq1 s8,vq1 s7,vq1 s3,vq1 s4,vq1 s5,by rw[List.take_zero,List.map_nil,List.append_nil];exact hown1,hEA.trans hAC,fun b hb=>?_,KeepB.refl _ _ _⟩;have:=(hown.ge hb).2;have:=hAB.size;exact .inl (by omega)
  clear s10 s9 s8 s7 s3 s4 s5;rintro m3 σ ds D ⟨rfl,j,ov',hjm,s13,s12,s8,s7,s3,s4,s5,hownD,hED,hobD,hKD⟩;have hwD:=hE2.trans hED;have hszD:=hKD.size;have hBs:=hBC.size;refine gz (az2 s13 s12) ?_;refine wc0 ?_ ?_
  ·intro hlt3;simp only[ydT]at hlt3;have hj:j<M.length:=by omega
   have hj0:=cj j;have hj1':=ci j;have dSD:=zac hED dS;refine rqz ?_;intro gd K hgd hK;refine sgz (az2 s4 dSD) ?_;refine zaV (P:=Tryz.prog) (l:=stV nv s2) rfl (zbi n1) rfl rfl ?_;intro D1 hE6 hs6 hB6;try simp only[go_sem]
   apply hK;obtain⟨d0,hd0⟩:∃b,D.heap.size=b:=⟨_,rfl⟩;rw[hd0]at hB6 hs6 ⊢;have hKD1:=hKD.trans (hE6.toB hszD fun i _ h=>h.elim);have hgj:zad D1 (adr am j)=some (vi M[j]):=by
    have hrD:=hmv0.blocks (x:=D1) fun a n c hv=>hKD1.keep.block _ (hmb a n c hv).2 (by have:=(hmb a n c hv).1;omega);obtain⟨a',c',e,_,hg'⟩:=hrD;injection e with e1 e2 e3
    subst e1;have:=hg' j (by simpa using hj)
    rwa [List.getElem_map]at this
   obtain⟨xm,rfl⟩:=yxs (zag hgj);refine rqz ?_;intro gd K hgd hK;refine sgz (az7 s12 s13 hj0 hlt3 hgj Nat.mul_one Nat.add_zero) ?_;refine zaT (P:=Tryz.prog) (t:=3) (j:=0) (u:=vi M[j]) (l:=stV nv s2) hB6 (by show 0<6;decide) rfl rfl rfl ?_;intro D2 hs7 hB7 hk7;try simp only[go_sem]
   apply hK;refine rqz ?_;intro gd K hgd hK;try simp only[go_sem]
   refine zaT (P:=Tryz.prog) (t:=4) (j:=4) (u:= .bool true) hB7 (by show 4<6;decide) rfl rfl rfl ?_;intro D3 hs8 hB8 hk8;try simp only[go_sem]
   apply hK;have hB8':D3.heap[d0]? =some (.cells (stV nv {s2 with sv:=M[j],ref:=true}).toArray 84 (0,0)):=hB8;have d:zao D3 (some ⟨d0,0,.none⟩) 6=some (stV nv {s2 with sv:=M[j],ref:=true}):=zaf hB8' rfl;have hE3:Ext D D3:=Keep.to_ext (Keep.to_ext hE6 rfl (fun b hb=>by omega) hk7) rfl (fun b hb=>by omega) hk8;have hsD3:=hE3.size;have hsED:=hED.size;refine rqz ?_;intro gd K hgd hK;refine sgz (az2 s7 d) ?_;refine zaN (C:=StN nv) (zba nv) (l:=stV nv {s2 with sv:=M[j],ref:=true}) (by rfl) (by rfl) (by rfl) (by rfl) ⟨rfl,n1⟩ (by decide) ?_;intro D4 hE9 hs9 ho9;have hsD4:=hE9.size;try simp only[go_sem]
   refine zaG (zba nv) (hownD.ext (hE3.trans hE9)) ho9.rows (by rfl) (by rfl) (by rfl) (by rfl) (by rfl) (by rfl) (by decide) ((vr1 s7)) vr0 (by simp;omega) (by decide) (by omega) ?_;intro ov2 D5 ho10 hE10 hk10 hob10;try simp only[go_sem]
   apply hK;have hsz4:=(hE3.trans hE9).size;refine gz (az2 s13 hj1') ?_;refine⟨m3 - 1,by omega,rfl,j+1,ov2,by omega,vq0,vq1 s12,vq1 s8,vq0,vq1 s3,vq1 s4,vq1 s5,?_,?_,?_,?_⟩
   ·rw[zam hj,List.map_append,←yla];exact ho10
   ·exact hE10 w2 (hED.trans (hE3.trans hE9)) (ynl _)
   ·intro b hb;rcases hob10 b hb with h|h
    ·exact hobD b h
    ·exact .inr (by omega)
   ·refine hKD.trans (((hE3.trans hE9).toB hszD fun i _ h=>h.elim).trans (hk10.toB (by omega) fun i h1 h2=>?_));rcases hobD i h2 with h|h
    ·exact h
    ·omega
  intro hge3;simp only[ydF]at hge3;rw[List.take_of_length_le (by omega)]at hownD;have hhost:zfy N r s2 hn=(M.map fun k=>{s2 with sv:=k,ref:=true})++(if (M.length:Int)=0 then endS s2 9 else []):=by unfold zfy;rw[hH,hM]
  have hnx:((r.data.take (i+1)).filterMap fun d=>d.names.head?).flatMap (zfy N r s2)=l++zfy N r s2 hn:=by
   rw[zam hi,List.filterMap_append,List.flatMap_append,←hl];simp[hne1]
  have hnl2:(l++zfy N r s2 hn).length<=(i+1)*1001:=by
   rw[List.length_append,hhost,List.length_append,ylm];have:(if (M.length:Int)=0 then endS s2 9 else []).length<=1:=by split<;>simp[endS]
   omega
  clear s13 hge3 hjm;refine gz s12 ?_;by_cases hm0:(M.length:Int)=0
  ·rw[if_pos hm0]at hhost;refine wt (yet hm0) ?_;have dSD:=zac hED dS;refine rqz ?_;intro gd K hgd hK;refine sgz (az2 s4 dSD) ?_;refine zaV (P:=Tryz.prog) (l:=stV nv s2) rfl (zbi n1) rfl rfl ?_;intro D1 hE6 hs6 hB6;try simp only[go_sem]
   apply hK;obtain⟨d0,hd0⟩:∃b,D.heap.size=b:=⟨_,rfl⟩;rw[hd0]at hB6 hs6 ⊢;refine rqz ?_;intro gd K hgd hK;try simp only[go_sem]
   refine zaT (P:=Tryz.prog) (t:=3) (j:=5) (u:=vi 9) (l:=stV nv s2) hB6 (by show 5<6;decide) rfl rfl rfl ?_;intro D2 hs7 hB7 hk7;try simp only[go_sem]
   apply hK;have d:zao D2 (some ⟨d0,0,.none⟩) 6=some (stV nv {s2 with fin:=9}):=zaf hB7 rfl;have hE3:Ext D D2:=Keep.to_ext hE6 rfl (fun b hb=>by omega) hk7;have hsD3:=hE3.size;have hsED:=hED.size;refine rqz ?_;intro gd K hgd hK;refine sgz (az2 s7 d) ?_;refine zaN (C:=StN nv) (zba nv) (l:=stV nv {s2 with fin:=9}) (by rfl) (by rfl) (by rfl) (by rfl) ⟨rfl,n1⟩ (by decide) ?_;intro D4 hE9 hs9 ho9;have hsD4:=hE9.size;try simp only[go_sem]
   refine zaG (zba nv) (hownD.ext (hE3.trans hE9)) ho9.rows (by rfl) (by rfl) (by rfl) (by rfl) (by rfl) (by rfl) (by decide) ((vr1 s7)) vr0 (by simp;omega) (by decide) (by omega) ?_;intro ov2 D5 ho10 hE10 hk10 hob10;try simp only[go_sem]
   apply hK;refine gz (az2 s8 hi1') ?_;refine⟨m - 1,by omega,rfl,i+1,ov2,_,by omega,vq0,vq0,vq1 s3,vq1 s4,vq1 s5,hnx.symm,hnl2,?_,hE10 w2 (hED.trans (hE3.trans hE9)) (ynl _)⟩;rw[hhost,←yla];exact ho10
  ·rw[if_neg hm0,List.append_nil]at hhost;refine wf (yef hm0) ?_;refine gz (az2 s8 hi1') ?_;refine⟨m - 1,by omega,rfl,i+1,ov',_,by omega,vq0,vq1 s7,vq1 s3,vq1 s4,vq1 s5,hnx.symm,hnl2,?_,hED⟩;rw[hhost];exact hownD
 ·intro hge2;simp only[ydF]at hge2;rw[List.take_of_length_le (by omega)]at hl;have hE:=hE2.trans hEA;repeat (first|refine c_r ?_| (refine zb6 (by rfl) ?_;intro gd K hgd hK;simp (disch:=first|omega|assumption|rfl) only[go_sem,s7];refine hK _ _ ?_;clear hK hgd;clear K gd))
  refine rt0 Tryz.ntmps143 ?_;rw[←hl];refine⟨hE,zc1 hown.rows (fun x hx=>?_),hown.blk.mono hE2.size⟩;rw[hl]at hx;obtain⟨h,_,hx⟩:=List.mem_flatMap.1 hx;rw[zlr hx,mn];exact hr.ext hE
def zlo(N:NetL)(s:zar)(t:Int):List zar:=
 if s.fin=0 then
  (if (askN N s.sv s.name t).kind=1 then endS s 1 else if (askN N s.sv s.name t).kind=2 then endS s 2 else if (askN N s.sv s.name t).kind=3 then endS s 3 else if (askN N s.sv s.name t).kind=6 then endS s 4
  else if (askN N s.sv s.name t).kind=7 then(if s.ref=true then endS s 6 else endS s 5) else if (askN N s.sv s.name t).kind=5 then zeo N s (askN N s.sv s.name t).name else zhm N s (askN N s.sv s.name t))
 else []
def LeadD(r:ResL):Prop:=r.kind≠1->r.kind≠2->r.kind≠3->r.kind≠6->r.kind≠7->r.kind≠5->∀d∈r.data,∃n l,d.names=n::l/\NmM n
theorem zmp{w0 w:World}(hE0:Ext w0 w){cs sc:List Value}{N:NetL}{s:zar}{t:Int}(hN:NetAt w0 cs N)(hG:NetZ N)(hs:StC w sc s)(bs:StB s)(hLD:LeadD (askN N s.sv s.name t)):
  Fn Tryz.prog 87 #[.agg cs.toArray,.agg sc.toArray,vi t] w (fun v w'=>Ext w w'/\Rows 6 (StC w') w' v (zlo N s t)/\BlkB w.heap.size w' v):=by
 have hN0:=hN;obtain⟨hv,rv,rfl,hh,hro⟩:=hN.ex;obtain⟨nv,rfl,hr⟩:=hs.ex;obtain⟨ah,ch,hhv,_⟩:=hh.open;obtain⟨ar,cr,hrv,_⟩:=id hro;obtain⟨an,cn,hnv,_⟩:=id hr;unfold stV;refine enter Tryz.func87 Tryz.ntmps87 rfl rfl ?_;repeat refine c_r ?_
 rw[hhv,hrv,hnv];refine rg0 ?_;rw[←hhv,←hrv,←hnv];repeat refine c_r ?_
 rw[zai];refine zaF ?_;intro w1 hE1 hs1 hA hB;have p5:zad w1 (some ⟨w.heap.size+1,5,.none⟩)=some (vi s.fin):=zab hB rfl;have p0:zad w1 (some ⟨w.heap.size+1,0,.none⟩)=some (vi s.sv):=zab hB rfl;have p1:zad w1 (some ⟨w.heap.size+1,1,.none⟩)=some nv:=zab hB rfl;have p4:zad w1 (some ⟨w.heap.size+1,4,.none⟩)=some (.bool s.ref):=zab hB rfl;have dN:zao w1 (some ⟨w.heap.size,0,.none⟩) 4=some [hv,rv,vi N.rw,vi N.rf]:=zaf hA rfl;have dS:zao w1 (some ⟨w.heap.size+1,0,.none⟩) 6=some (stV nv s):=zaf hB rfl;repeat refine c_r ?_
 unfold zlo;by_cases hf:s.fin=0
 rotate_left
 ·rw[if_neg hf];refine rg3 p5 yn0 (yef hf) ?_;repeat refine c_r ?_
  refine wt Bool.not_false ?_;repeat (first|refine c_r ?_|refine rg0 ?_)
  refine rt0 Tryz.ntmps87 ?_;exact⟨hE1,Rows.nil _ _ _,BlkB.nil⟩
 rw[if_pos hf];refine rg3 p5 yn0 (yet hf) ?_;repeat refine c_r ?_
 refine wf Bool.not_true ?_;repeat refine c_r ?_
 refine rq ?_;intro gd K hgd hK;try simp (disch:=first|omega|assumption|rfl) only[go_sem,dN,p0,p1,Nat.add_zero,yn0]
 refine Fn.mono (RAsk_ok (s:=s.sv) (t:=t) (hE0.trans hE1) hN0 hG (hr.ext hE1) bs.nm) ?_;rintro _ w2 ⟨hE2,cs,rfl,hra⟩;have hF:=zmd (s:=s.sv) (t:=t) hG bs.nm;have hcl:cs.length=5/\∀v∈cs,one v=true:=by
  obtain⟨dv,mv,gv,rfl,h1,h2,h3⟩:=hra.ex;exact⟨rfl,ones5 h1.isOne h2.isOne h3.isOne⟩
 try simp only[go_sem]
 refine zaV (P:=Tryz.prog) (l:=cs) (by rw[hcl.1];rfl) hcl.2 (by rw[hcl.1];rfl) rfl ?_;intro w3 hE3 hs3 hB3;try simp only[go_sem]
 refine hK _ _ ?_;clear hK hgd;clear K;try clear gd
 obtain⟨r,hre⟩:∃r,askN N s.sv s.name t=r:=⟨_,rfl⟩;rw[hre]at hra hF hLD ⊢;have hra3:=hra.ext hE3;have d3:=zaf (n:=5) hB3 hcl.1.symm;obtain⟨b,hb⟩:∃b,w2.heap.size=b:=⟨_,rfl⟩;rw[hb]at hB3 d3 ⊢;have hE23:=hE2.trans hE3;have hE13:=hE1.trans hE23;have hE03:=hE0.trans hE13;have dN3:=zac hE23 dN;have dS3:=zac hE23 dS;have p43:=zaa hE23 p4;clear hra p5 p0 p1 p4 dN dS;have k0:zad w3 (some ⟨b,0,.none⟩)=some (vi r.kind):=by
  obtain⟨dv,mv,gv,e,_⟩:=hra3.ex;rw[e]at hB3;exact zab hB3 rfl
 have hrn:=hr.ext hE13;repeat refine c_r ?_
 refine rg2 k0 Nat.add_zero ?_;repeat refine c_r ?_
 by_cases k1:r.kind=1
 ·rw[if_pos k1];refine rg1 (yet k1) ?_;repeat refine c_r ?_
  refine wt trivial ?_;repeat refine c_r ?_
  refine rc dS3 (zb7 w3 hrn s 1) ?_;rintro v w4 ⟨hE4,hv,hvb⟩;refine re trivial ?_;repeat refine c_r ?_
  refine rt0 Tryz.ntmps87 ?_;exact⟨hE13.trans hE4,zc1 hv (fun x hx=>by rw[zbK hx];exact hrn.ext hE4),hvb.mono hE13.size⟩
 rw[if_neg k1];refine rg1 (yef k1) ?_;repeat refine c_r ?_
 refine wf trivial ?_;repeat refine c_r ?_
 by_cases k2:r.kind=2
 ·rw[if_pos k2];refine rg1 (yet k2) ?_;repeat refine c_r ?_
  refine wt trivial ?_;repeat refine c_r ?_
  refine rc dS3 (zb7 w3 hrn s 2) ?_;rintro v w4 ⟨hE4,hv,hvb⟩;refine re trivial ?_;repeat refine c_r ?_
  refine rt0 Tryz.ntmps87 ?_;exact⟨hE13.trans hE4,zc1 hv (fun x hx=>by rw[zbK hx];exact hrn.ext hE4),hvb.mono hE13.size⟩
 rw[if_neg k2];refine rg1 (yef k2) ?_;repeat refine c_r ?_
 refine wf trivial ?_;repeat refine c_r ?_
 by_cases k3:r.kind=3
 ·rw[if_pos k3];refine rg1 (yet k3) ?_;repeat refine c_r ?_
  refine wt trivial ?_;repeat refine c_r ?_
  refine rc dS3 (zb7 w3 hrn s 3) ?_;rintro v w4 ⟨hE4,hv,hvb⟩;refine re trivial ?_;repeat refine c_r ?_
  refine rt0 Tryz.ntmps87 ?_;exact⟨hE13.trans hE4,zc1 hv (fun x hx=>by rw[zbK hx];exact hrn.ext hE4),hvb.mono hE13.size⟩
 rw[if_neg k3];refine rg1 (yef k3) ?_;repeat refine c_r ?_
 refine wf trivial ?_;repeat refine c_r ?_
 by_cases k6:r.kind=6
 ·rw[if_pos k6];refine rg1 (yet k6) ?_;repeat refine c_r ?_
  refine wt trivial ?_;repeat refine c_r ?_
  refine rc dS3 (zb7 w3 hrn s 4) ?_;rintro v w4 ⟨hE4,hv,hvb⟩;refine re trivial ?_;repeat refine c_r ?_
  refine rt0 Tryz.ntmps87 ?_;exact⟨hE13.trans hE4,zc1 hv (fun x hx=>by rw[zbK hx];exact hrn.ext hE4),hvb.mono hE13.size⟩
 rw[if_neg k6];refine rg1 (yef k6) ?_;repeat refine c_r ?_
 refine wf trivial ?_;repeat refine c_r ?_
 by_cases k7:r.kind=7
 ·rw[if_pos k7];refine rg1 (yet k7) ?_;repeat refine c_r ?_
  refine wt trivial ?_;repeat refine c_r ?_
  refine rg2 p43 yn0 ?_;repeat refine c_r ?_
  cases hrf:s.ref with
  |true=>
   rw[hrf]at p43;rw[if_pos rfl];refine wt hrf ?_;repeat refine c_r ?_
   refine rc dS3 (zb7 w3 hrn s 6) ?_;rintro v w4 ⟨hE4,hv,hvb⟩;refine re trivial ?_;repeat refine c_r ?_
   refine rt0 Tryz.ntmps87 ?_;exact⟨hE13.trans hE4,zc1 hv (fun x hx=>by rw[zbK hx];exact hrn.ext hE4),hvb.mono hE13.size⟩
  |false=>
   rw[if_neg Bool.false_ne_true];refine wf hrf ?_;repeat refine c_r ?_
   refine rc dS3 (zb7 w3 hrn s 5) ?_;rintro v w4 ⟨hE4,hv,hvb⟩;refine re trivial ?_;repeat refine c_r ?_
   refine rt0 Tryz.ntmps87 ?_;exact⟨hE13.trans hE4,zc1 hv (fun x hx=>by rw[zbK hx];exact hrn.ext hE4),hvb.mono hE13.size⟩
 rw[if_neg k7];refine rg1 (yef k7) ?_;repeat refine c_r ?_
 refine wf trivial ?_;repeat refine c_r ?_
 by_cases k5:r.kind=5
 ·rw[if_pos k5];obtain⟨dv,mv,gv,e,_,hnm,_⟩:=hra3.ex;have q2:zad w3 (some ⟨b,2,.none⟩)=some mv:=by rw[e]at hB3;exact zab hB3 rfl
  refine rg1 (yet k5) ?_;repeat refine c_r ?_
  refine wt trivial ?_;repeat refine c_r ?_
  refine rc (an4 dN3 dS3 q2 yn0) (ziY hE03 hN0 hG hrn hnm (zem (hF.nm k5)).m bs.rw0 bs.rw1) ?_;rintro v w4 ⟨hE4,hv,hvb⟩;refine re trivial ?_;repeat refine c_r ?_
  refine rt0 Tryz.ntmps87 ?_;exact⟨hE13.trans hE4,hv,hvb.mono hE13.size⟩
 rw[if_neg k5];refine rg1 (yef k5) ?_;repeat refine c_r ?_
 refine wf trivial ?_;repeat refine c_r ?_
 refine rc (an3 dN3 dS3 d3) (zig hE03 hN0 hG hrn hra3 hF.ok hF.dl (hLD k1 k2 k3 k6 k7 k5) bs.rf0 bs.rf1) ?_;rintro v w4 ⟨hE4,hv,hvb⟩;refine re trivial ?_;repeat refine c_r ?_
 refine rt0 Tryz.ntmps87 ?_;exact⟨hE13.trans hE4,hv,hvb.mono hE13.size⟩
theorem Of20_ok(w:World){ca:List Value}{s:zar}(ha:StC w ca s):
  Fn Tryz.prog 43 #[.agg ca.toArray] w (fun v w'=>Ext w w'/\∃cb,v= .agg cb.toArray/\StC w' cb s):=by
 obtain⟨na,rfl,h1⟩:=ha.ex;have n1:=h1.isOne;obtain⟨a1,c1,hna,_⟩:=id h1;unfold stV;rw[hna];refine enter Tryz.func43 Tryz.ntmps43 rfl rfl ?_;refine gz0 ?_;rw[←hna];repeat refine c_r ?_
 rw[zai];refine zaF ?_;intro w1 hE1 hs1 hA hC;have a0:zad w1 (some ⟨w.heap.size,0,.none⟩)=some (vi s.sv):=zab hA rfl;have pa:zad w1 (some ⟨w.heap.size,1,.none⟩)=some na:=zab hA rfl;have a2':zad w1 (some ⟨w.heap.size,2,.none⟩)=some (vi s.rw):=zab hA rfl;have a3:zad w1 (some ⟨w.heap.size,3,.none⟩)=some (vi s.rf):=zab hA rfl;have a4:zad w1 (some ⟨w.heap.size,4,.none⟩)=some (.bool s.ref):=zab hA rfl;have a5:zad w1 (some ⟨w.heap.size,5,.none⟩)=some (vi s.fin):=zab hA rfl;refine rqz ?_;intro gd K hgd hK;refine sgz (az2 (az7 a0 pa a2' a3 a4 a5 Nat.add_zero) yn0) ?_;refine⟨by kernel_rfl,?_⟩;rw[hna,show bdV Tryz.prog 84 [(0,vi s.sv),(1,.slice a1 (s.name.map vs).length c1),(2,vi s.rw),(3,vi s.rf),(4,.bool s.ref),(5,vi s.fin)]=some (.agg #[vi s.sv,.slice a1 (s.name.map vs).length c1,vi s.rw,vi s.rf,.bool s.ref,vi s.fin]) from by kernel_rfl,←hna];try simp only[go_sem]
 refine zaC (P:=Tryz.prog) (t:=84) (l:=stV na s) hC rfl (zbi n1) rfl rfl ?_;intro z hz' hbz hkz;try simp only[go_sem]
 refine en hK ?_;refine zas (.inr rfl) Tryz.ntmps43 rfl (zaI (x:=⟨w.heap.size+1,0,.none⟩) (k:=6) vq0 rfl rfl (zaf hbz rfl) zaq) ?_;have hz:=Keep.to_ext hE1 rfl (fun b hb=>by omega) hkz;exact⟨hz,_,rfl,⟨na,rfl,h1.ext hz⟩⟩
theorem StC.cells{w:World}{cs:List Value}{s:zar}(h:StC w cs s):cs.length=6/\∀v∈cs,one v=true:=by
 obtain⟨nv,rfl,h1⟩:=h.ex;exact⟨rfl,zbi h1.isOne⟩
def zcE(l:List (Nm×List DatL)):Prop:=∀a∈l,∀b∈l,zan a.1=zan b.1->a.2=b.2
theorem zdP{to:Nm}:∀{l:List (Nm×List DatL)} {b:List DatL},(∀g∈l,zan g.1=zan to->g.2=b)->l.foldl (fun b g=>if zan g.1=zan to then g.2 else b) b=b
 | [],_,_=>rfl
 |g::l,b,h=>by
  rw[List.foldl_cons];by_cases e:zan g.1=zan to
  ·rw[if_pos e,h g (List.mem_cons_self ..) e];exact zdP fun x hx=>h x (List.mem_cons_of_mem _ hx)
  ·rw[if_neg e];exact zdP fun x hx=>h x (List.mem_cons_of_mem _ hx)
theorem zjt{to:Nm}:∀{l:List (Nm×List DatL)},zcE l->zcL to l=zco to l
 | [],_=>rfl
 |g::l,h=>by
  unfold zcL zco;rw[List.foldl_cons];by_cases e:zan g.1=zan to
  ·rw[if_pos e,if_pos e];exact zdP fun x hx h3=>h x (List.mem_cons_of_mem _ hx) g (List.mem_cons_self ..) (h3.trans e.symm)
  ·rw[if_neg e,if_neg e];exact zjt fun a ha b hb=>h a (List.mem_cons_of_mem _ ha) b (List.mem_cons_of_mem _ hb)
theorem host_D{N:NetL}{r:ResL}{s:zar}{h:Nm}(hd:zcE r.glue):zfy N r s h=zdO N r s h:=by
 unfold zfy zdO ofR;rw[zjt hd];by_cases e:((zed N h (zco h r.glue)).length:Int)=0
 ·have e2:zed N h (zco h r.glue)=[]:=List.eq_nil_of_length_eq_zero (by omega);rw[if_pos e,e2];simp
 ·rw[if_neg e,List.append_nil,List.nil_append]
theorem refer_D{N:NetL}{r:ResL}{s:zar}(hd:zcE r.glue):zhm N s r=zeN N s r:=by
 unfold zhm zeN
 split
 ·rfl
 ·rw[show zax 2 r.data=r.data.filterMap (fun d=>d.names.head?) from rfl]
  congr 1
  exact funext fun h=>host_D hd
theorem next_D{N:NetL}{s:zar}{t:Int}(hk:(askN N s.sv s.name t).kind=1\/(askN N s.sv s.name t).kind=2\/(askN N s.sv s.name t).kind=3\/(askN N s.sv s.name t).kind=4\/(askN N s.sv s.name t).kind=5\/(askN N s.sv s.name t).kind=6\/(askN N s.sv s.name t).kind=7)
  (hd:zcE (askN N s.sv s.name t).glue):zlo N s t=zcS N s t:=by
 unfold zlo zcS;rw[refer_D hd]
 split
 ·rcases hk with h|h|h|h|h|h|h<;>simp[h]
 ·rfl
def zdn(r:ResL):Prop:=r.kind=1\/r.kind=2\/r.kind=3\/r.kind=4\/r.kind=5\/r.kind=6\/r.kind=7
theorem zh8{R:List RecL}{n:Nm}{t:Int}{b:Bool}:zdn (atL R n t b):=by
 unfold atL zdn
 split
 ·simp
 ·split<;>simp
theorem zhM{o:Nm}{R:List RecL}{q:Nm}:∀{l:List Nm} {r:ResL},goL o R q l=some r->zdn r
 | [],r,h=>by cases h
 |n::l,r,h=>by
  unfold goL at h
  split at h
  ·cases h;exact .inr (.inr (.inr (.inl rfl)))
  ·split at h
   ·cases h
   ·cases hr:zaE R q n with
    |none=>rw[hr]at h;exact zhM h
    |some x=>
     rw[hr]at h;cases h;unfold zaE at hr
     split at hr
     ·cases hr
     ·split at hr
      ·cases hr;unfold zdn;simp
      ·cases hr;unfold zdn;simp
theorem zlu{o:Nm}{R:List RecL}{q:Nm}{t:Int}:zdn (za2 o R q t):=by
 unfold za2
 split
 ·unfold zdn;simp
 ·cases hg:goL o R q (za8 o q) with
  |some r=>
   dsimp only
   exact zhM hg
  |none=>
   dsimp only
   split
   ·exact zh8
   ·cases hs:zaW o R q with
    |some s=>
     dsimp only
     exact zh8
    |none=>
     dsimp only
     unfold zdn;simp
theorem zjI{N:NetL}{s:Int}{q:Nm}{t:Int}:zdn (askN N s q t):=by
 unfold askN
 split
 ·cases (N.zones s)[(zbR N s q).1.toNat]? with
  |some z=>exact zlu
  |none=>unfold zdn;simp
 ·unfold zdn;simp
theorem zlO{R:List RecL}{a b:Nm}(h:zan a=zan b):zbc R a=zbc R b:=by
 unfold zbc;rw[←zek (n:=a),←zek (n:=b),←zek (n:=a),←zek (n:=b),h]
theorem zdb:zcE []:=fun a h=>by cases h
theorem one_of{R:List RecL}{hs:List Nm}:zcE (zbu R hs):=by
 have key:∀x∈zbu R hs,x.2=zbc R x.1:=fun x hx=>by
  obtain⟨n,_,hn⟩:=List.mem_filterMap.1 hx
  split at hn
  ·cases hn
  ·cases hn;rfl
 intro a ha b hb h;rw[key a ha,key b hb,zlO h]
theorem at_one{R:List RecL}{n:Nm}{t:Int}{b:Bool}:zcE (atL R n t b).glue:=by
 unfold atL
 split
 ·exact zdb
 ·split<;>exact zdb
theorem go_one{o:Nm}{R:List RecL}{q:Nm}:∀{l:List Nm} {r:ResL},goL o R q l=some r->zcE r.glue
 | [],r,h=>by cases h
 |n::l,r,h=>by
  unfold goL at h
  split at h
  ·cases h;exact one_of
  ·split at h
   ·cases h
   ·cases hr:zaE R q n with
    |none=>rw[hr]at h;exact go_one h
    |some x=>
     rw[hr]at h;cases h;unfold zaE at hr
     split at hr
     ·cases hr
     ·split at hr
      ·cases hr;exact zdb
      ·cases hr;exact zdb
theorem look_one{o:Nm}{R:List RecL}{q:Nm}{t:Int}:zcE (za2 o R q t).glue:=by
 unfold za2
 split
 ·exact zdb
 ·cases hg:goL o R q (za8 o q) with
  |some r=>
   dsimp only
   exact go_one hg
  |none=>
   dsimp only
   split
   ·exact at_one
   ·cases hs:zaW o R q with
    |some s=>
     dsimp only
     exact at_one
    |none=>
     dsimp only
     exact zdb
theorem ask_one{N:NetL}{s:Int}{q:Nm}{t:Int}:zcE (askN N s q t).glue:=by
 unfold askN
 split
 ·cases (N.zones s)[(zbR N s q).1.toNat]? with
  |some z=>exact look_one
  |none=>exact zdb
 ·exact zdb
theorem next_DS{N:NetL}{s:zar}{t:Int}:zlo N s t=zcS N s t:=next_D zjI ask_one
theorem zlN{o:Nm}{R:List RecL}{q:Nm}:∀{l:List Nm} {r:ResL},goL o R q l=some r->r.kind=4->∃c,r.data=datC R c 2
 | [],r,h,_=>by cases h
 |n::l,r,h,h4=>by
  unfold goL at h
  split at h
  ·cases h;exact⟨n,rfl⟩
  ·split at h
   ·cases h
   ·cases hr:zaE R q n with
    |none=>rw[hr]at h;exact zlN h h4
    |some x=>
     rw[hr]at h;cases h;unfold zaE at hr
     split at hr
     ·cases hr
     ·split at hr
      ·cases hr;cases h4
      ·cases hr;cases h4
theorem zlt{o:Nm}{R:List RecL}{q:Nm}{t:Int}(h4:(za2 o R q t).kind=4):∃c,(za2 o R q t).data=datC R c 2:=by
 have atN:∀{n:Nm} {b:Bool},(atL R n t b).kind≠4:=fun {n b} h=>by
  unfold atL at h
  split at h
  ·cases h
  ·split at h<;>cases h
 unfold za2 at h4 ⊢
 split at h4
 ·cases h4
 ·rename_i hu;rw[if_neg hu];cases hg:goL o R q (za8 o q) with
  |some r=>
   rw[hg]at h4;exact zlN hg h4
  |none=>
   rw[hg]at h4
   dsimp only at h4
   split at h4
   ·exact absurd h4 atN
   ·cases hs:zaW o R q with
    |some s=>
     rw[hs]at h4;exact absurd h4 atN
    |none=>
     rw[hs]at h4;cases h4
theorem ask_lead{N:NetL}(hG:NetZ N){s:Int}{q:Nm}{t:Int}(mq:NmM q):LeadD (askN N s q t):=by
 intro h1 h2 h3 h6 h7 h5 d hd;have h4:(askN N s q t).kind=4:=by
  rcases zjI (N:=N) (s:=s) (q:=q) (t:=t) with h|h|h|h|h|h|h<;>first|exact h|exact absurd h ‹_›
 have hF:=zmd (s:=s) (t:=t) hG mq;have hh:d.names≠ []:=by
  unfold askN at h4 hd
  split at h4
  ·rename_i hb;rw[if_pos hb]at hd;cases hz:(N.zones s)[(zbR N s q).1.toNat]? with
   |none=>rw[hz]at h4;cases h4
   |some z=>
    rw[hz]at h4 hd;obtain⟨c,hc⟩:=zlt h4
    dsimp only at hd
    rw[hc]at hd;have gz:=(zbS hG).1 z (List.mem_of_getElem? hz);obtain⟨r,hr,hrd⟩:=zdy hd;have hl:=gz.gd.lead r hr (by rw[hrd,zeH hd];exact .inl rfl);intro hn;rw[hrd,hn]at hl;cases hl
  ·cases h4
 cases hn:d.names with
 |nil=>exact absurd hn hh
 |cons n l=>
  refine⟨n,l,rfl,hF.tg n ?_⟩;show n∈(askN N s q t).data.filterMap fun d=>d.names.head?;exact List.mem_filterMap.2 ⟨d,hd,by rw[hn];rfl⟩
theorem RPlay_ok{w0 w:World}(hE0:Ext w0 w){cs:List Value}{N:NetL}{qv cv:Value}{q:Nm}{ch:List Int}{t:Int}(hN:NetAt w0 cs N)(hG:zbB N)(hq:Row w qv (q.map vs))(hgq:zcc q=true)(hcv:Row w cv (ch.map vi))(hchl:ch.length<=1000000000):
  Fn Tryz.prog 41 #[.agg cs.toArray,qv,vi t,cv] w (fun v w'=>Ext w w'/\∃nv,v= .tuple #[.agg (stV nv (zcb N q t ch).1).toArray,.bool (zcb N q t ch).2]/\Row w' nv ((zcb N q t ch).1.name.map vs)):=by
 have hN0:=hN;obtain⟨hsv,rv,rfl,hh,hr⟩:=hN.ex;obtain⟨ah,ch0,hhv,_⟩:=hh.open;obtain⟨ar0,cr0,hrv,_⟩:=id hr;obtain⟨ac,cc,rfl,hgc⟩:=row_at hcv;refine enter Tryz.func41 Tryz.ntmps41 rfl rfl ?_;repeat refine c_r ?_
 rw[hhv,hrv];refine go trivial ?_;rw[←hhv,←hrv];rw[zai];refine zaF ?_;intro w1 hE1 hs1 hA hB8;obtain⟨b8,hb8⟩:∃b,w.heap.size+1=b:=⟨_,rfl⟩;rw[hb8]at hB8 ⊢;have dN:zao w1 (some ⟨w.heap.size,0,.none⟩) 4=some [hsv,rv,vi N.rw,vi N.rf]:=zaf hA rfl;refine go trivial ?_;refine rc dN (zkv (hE0.trans hE1) hN0 hG.z.rl (hq.ext hE1)) ?_;rintro sv0 w2 ⟨hE2,hst0,_⟩;have hE12:=hE1.trans hE2;have dN2:=zac hE2 dN;have hB2:=Ext.at hE2 hB8;refine rgo trivial ?_;refine rq ?_;intro gd K hgd hK;try simp only[go_sem]
 refine⟨by kernel_rfl,?_⟩;have zbd:bdV Tryz.prog 84 []=some (.agg #[vi 0,.slice .none 0 0,vi 0,vi 0,.bool false,vi 0]):=by kernel_rfl
 rw[zbd];try simp only[go_sem]
 refine zaV (P:=Tryz.prog) (l:=stV (.slice .none 0 0) stZ) rfl (zbi rfl) rfl rfl ?_;intro w3 hE3 hs3 hB3;try simp only[go_sem]
 apply hK;obtain⟨b7,hb7⟩:∃b,w2.heap.size=b:=⟨_,rfl⟩;rw[hb7]at hB3 ⊢;refine go trivial ?_;obtain⟨F,hF⟩:∃F,zbI N t ch (zb3 N q)=F:=⟨_,rfl⟩;have hpl:zcb N q t ch=F.getLastD (stZ,false):=by unfold zcb;rw[hF]
 have hwz:=hE1.size;have h12:=hE2.size;have hgc2:∀i (hi:i<ch.length),∃x,ac=some x/\zad w2 (adr (some x) i)=some (vi ch[i]):=fun i hi=>by
  obtain⟨x,h1,h2⟩:=hgc i hi;exact⟨x,h1,zaa hE12 h2⟩
 refine zic ch.length (fun i σ v=>(σ 13=vi i/\σ 3= .slice ac ch.length cc/\σ 4= .pointer (some ⟨w.heap.size,0,.none⟩)/\σ 2=vi t/\σ 8= .pointer (some ⟨b8,0,.none⟩)/\σ 11= .pointer (some ⟨b7,0,.none⟩))/\
   ∃sv L aS nS cS S ok pre,σ 10=sv/\σ 12= .bool ok/\Ext w2 v/\Rows 6 (StC v) v sv L/\(∀s∈L,GoodSt N s)/\v.heap[b7]? =some (.cells (stV (.slice aS nS cS) S).toArray 84 (0,0))/\Row v (.slice aS nS cS) (S.name.map vs)/\F=pre++zbI N t (ch.drop i) L/\pre.getLastD (stZ,false)=(S,ok)) ?_ ?_ ?_
 ·exact⟨⟨vr0,vq0,vq0,vq0,vq0,vr0⟩,sv0,zb3 N q,.none,0,0,stZ,false,[],vr0,vr0,hE3,Rows.extC (fun _ _ h=>StC.ext h hE3) hst0 hE3,zfq hG hgq,hB3,⟨.none,0,rfl,ynl _,fun j h=>by simp[stZ]at h⟩,hF.symm,rfl⟩
 ·rintro i σ v hi p ⟨s,sv,L,aS,nS,cS,S0,ok,pre,h10,h12,hEv,hL,hgL,hBv,hnv0,hFe,hlast⟩;obtain⟨aL,cS',rfl,_,hgs⟩:=hL.open;obtain⟨xp,rfl,g6⟩:=hgc2 i hi;have gp:=zaa hEv g6;obtain⟨c,hc⟩:∃c,ch[i]=c:=⟨_,rfl⟩;have hdr:ch.drop i=c::ch.drop (i+1):=by rw[←hc];exact List.drop_eq_getElem_cons hi
  rw[hc]at gp;rw[hdr]at hFe;refine go (an2 s p) ?_;by_cases hb:c<0\/(L.length:Int)<=c
  ·rw[zht hb]at hFe;have hB8v:=Ext.at hEv hB2;have fin:∀{σ':Sto},σ' 8= .pointer (some ⟨b8,0,.none⟩)->σ' 37= .bool true->True:=fun _ _=>trivial;refine zay (Q:=fun e σ' ds' v'=>e= .normal/\ds'=[]/\v'=v/\(σ' 8= .pointer (some ⟨b8,0,.none⟩)/\σ' 37= .bool true)) ?_ ?_
   ·by_cases hc0:c<0
    ·refine rgg [(5,29)] (an4 s p gp (yet hc0)) ?_;exact⟨rfl,rfl,rfl,vq1 s,vr0⟩
    ·have hd:decide (c>=(L.length:Int))=true:=yet (hb.resolve_left hc0);refine rgg [(5,29)] (an6 s p gp h10 (yef hc0) hd) ?_;exact⟨rfl,rfl,rfl,vq1 s,vr0⟩
   clear s;rintro _ σ1 _ v1 ⟨rfl,rfl,rfl,s⟩;refine go s ?_;refine rq ?_;intro gd K hgd hK;refine sgz s ?_;refine⟨by kernel_rfl,?_⟩;rw[zbd];refine sgz s ?_;refine zaC (P:=Tryz.prog) (t:=84) (l:=stV (.slice .none 0 0) stZ) hB8v rfl (zbi rfl) rfl rfl ?_;intro v2 hs2v hB hk2;try simp only[go_sem]
   apply hK;refine go trivial ?_;refine zas (.inr rfl) Tryz.ntmps41 rfl (zaI (x:=⟨b8,0,.none⟩) (k:=6) ((vq1 s)) rfl rfl (zaf hB rfl) (zal (v:= .bool false) vr0 zaq)) ?_;have hpl2:zcb N q t ch=(stZ,false):=by rw[hpl,hFe];simp[List.getLastD_eq_getLast?]
   rw[hpl2];exact⟨Keep.to_ext (hE12.trans hEv) rfl (fun b hb=>by omega) hk2,_,rfl,⟨.none,0,rfl,ynl _,fun j h=>by simp[stZ]at h⟩⟩
  ·obtain⟨k,rfl⟩:=Int.eq_ofNat_of_zero_le (show 0<=c by omega);have hkL:k<L.length:=by omega
   rw[zhu hkL]at hFe;have hc0:decide ((k:Int)<0)=false:=yef (by omega);have hd:decide ((k:Int)>=(L.length:Int))=false:=yef (by omega);have hk0:=cj k;have hk1:(k:Int)<(L.length:Int):=by omega
   refine rgg [(5,29)] (an6 s p gp h10 hc0 hd) ?_;refine go trivial ?_;obtain⟨cs6,hcs,hX⟩:=hgs k hkL;have hmem:=List.getElem_mem hkL;obtain⟨S,hSe⟩:∃S,L[k]=S:=⟨_,rfl⟩;rw[hSe]at hX hmem hFe;obtain⟨nv,rfl,hnm⟩:=hX.ex;obtain⟨an,cn,hnv,_⟩:=id hnm;obtain⟨xs,rfl⟩:=yxs (zak hcs);obtain⟨xi,hxi⟩:∃xi,adr (some xs) (k*6)=some xi:=⟨_,rfl⟩;rw[hxi]at hcs;have n1:=hnm.isOne;have gS:=hgL S hmem;refine rq ?_;intro gd K hgd hK;refine sgz (az2 (az7 s p h10 gp hk0 hk1 hxi) hcs) ?_;refine zaC (P:=Tryz.prog) (t:=84) (l:=stV nv S) hBv rfl (zbi n1) rfl rfl ?_;intro v2 hs2v hB hk2;try simp only[go_sem]
   apply hK;have hEv2:Ext w2 v2:=Keep.to_ext hEv rfl (fun b hb=>by omega) hk2;have hnm2:=zkO hBv hnm hk2;have dS:zao v2 (some ⟨b7,0,.none⟩) 6=some (stV nv S):=zaf hB rfl;refine go trivial ?_;refine rc (an3 s (zac hEv2 dN2) dS) (zmp (t:=t) (hE0.trans (hE12.trans hEv2)) hN0 hG.z ⟨nv,rfl,hnm2⟩ (gS.b hG) (ask_lead hG.z (zb9 gS.nm).m)) ?_;rintro sv4 v4 ⟨hE4v,hR4,_⟩;rw[next_DS]at hR4;refine rgo (an2 s p) ?_;have hB4:=Ext.at hE4v hB;have hn4:=hnm2.ext hE4v;rw[hnv]at hB4 hn4;exact⟨rfl,sc (an2 s p),sv4,_,_,_,_,S,true,pre++ [(S,true)],vr0,vr0,hEv2.trans hE4v,hR4,fun x hx=>(zhE hG gS hx).2.g,hB4,hn4,by rw[hFe,yla];rfl,by simp[List.getLastD_eq_getLast?]⟩
 ·rintro σ v p ⟨s,sv,L,aS,nS,cS,S0,ok,pre,h10,h12,hEv,hL,hgL,hBv,hnv0,hFe,hlast⟩;rw[List.drop_length]at hFe;have hFp:F=pre:=by rw[hFe];simp[zbI]
  have hpl2:zcb N q t ch=(S0,ok):=by rw[hpl,hFp,hlast]
  rw[hpl2];have dS:zao v (some ⟨b7,0,.none⟩) 6=some (stV (.slice aS nS cS) S0):=zaf hBv rfl;have hB8v:=Ext.at hEv hB2;refine go (an3 s p h12) ?_;unfold stV at dS;refine rq ?_;intro gd K hgd hK;refine sgz (az3 s h12 dS) ?_;refine zaC (P:=Tryz.prog) (t:=84) (l:=stV (.slice aS nS cS) S0) hB8v rfl (zbi rfl) rfl rfl ?_;intro v2 hs2v hB hk2;try simp only[go_sem]
  apply hK;have hn2:=zkO (s:=stZ) hB8v hnv0 hk2;refine go trivial ?_;refine zas (.inr rfl) Tryz.ntmps41 rfl (zaI (x:=⟨b8,0,.none⟩) (k:=6) ((vq1 s)) rfl rfl (zaf hB rfl) (zal (v:= .bool ok) vr0 zaq)) ?_;exact⟨Keep.to_ext (hE12.trans hEv) rfl (fun b hb=>by omega) hk2,_,rfl,hn2⟩
section
variable {P : Program} {w : World} {B : Nat}
end
section
variable {P : Program} {d : Option Tmp} {ty : TypeId} {ps : String} {af : Array Edge} {g : Option (Nat × Bool)} {ρ : Operand -> Value} {w : World} {K K2 : Value -> World -> Prop} {α : Type} {k : Nat} {C : List Value -> α -> Prop}
end
def zia(a b:zar):Bool:=decide (a.sv=b.sv) && (decide (a.rw=b.rw) && (decide (a.rf=b.rf) && ((a.ref==b.ref) && (decide (a.fin=b.fin) && decide (zan a.name=zan b.name)))))
theorem zmo(w:World){ca cb:List Value}{a b:zar}(ha:StC w ca a)(hb:StC w cb b)(ma:NmM a.name)(mb:NmM b.name):
  Fn Tryz.prog 42 #[.agg ca.toArray,.agg cb.toArray] w (fun v w'=>v= .bool (zia a b)/\Ext w w'):=by
 obtain⟨na,rfl,h1⟩:=ha.ex;obtain⟨nb,rfl,h2⟩:=hb.ex;obtain⟨a1,c1,hna,_⟩:=id h1;obtain⟨a2,c2,hnb,_⟩:=id h2;have la:=ma.len;have lb:=mb.len;obtain⟨x1,k1⟩:∃x,decide (a.sv=b.sv)=x:=⟨_,rfl⟩;obtain⟨x2,k2⟩:∃x,decide (a.rw=b.rw)=x:=⟨_,rfl⟩;obtain⟨x3,k3⟩:∃x,decide (a.rf=b.rf)=x:=⟨_,rfl⟩;obtain⟨x4,k4⟩:∃x,(a.ref==b.ref)=x:=⟨_,rfl⟩;obtain⟨x5,k5⟩:∃x,decide (a.fin=b.fin)=x:=⟨_,rfl⟩;have hs:zia a b=(x1 && (x2 && (x3 && (x4 && (x5 && decide (zan a.name=zan b.name)))))):=by unfold zia;rw[k1,k2,k3,k4,k5]
 rw[hs];unfold stV;rw[hna,hnb];refine enter Tryz.func42 Tryz.ntmps42 rfl rfl ?_;refine go trivial ?_;rw[←hna,←hnb];rw[zai];refine zaF ?_;intro w1 hE1 hs1 hA hB;obtain⟨q,hq⟩:∃q,w.heap.size=q:=⟨_,rfl⟩;rw[hq]at hA hB ⊢;have pa:zad w1 (some ⟨q,1,.none⟩)=some na:=zab hA rfl;have pb:zad w1 (some ⟨q+1,1,.none⟩)=some nb:=zab hB rfl;have a0:zad w1 (some ⟨q,0,.none⟩)=some (vi a.sv):=zab hA rfl;have a2':zad w1 (some ⟨q,2,.none⟩)=some (vi a.rw):=zab hA rfl;have a3:zad w1 (some ⟨q,3,.none⟩)=some (vi a.rf):=zab hA rfl;have a4:zad w1 (some ⟨q,4,.none⟩)=some (.bool a.ref):=zab hA rfl;have a5:zad w1 (some ⟨q,5,.none⟩)=some (vi a.fin):=zab hA rfl;have b0:zad w1 (some ⟨q+1,0,.none⟩)=some (vi b.sv):=zab hB rfl;have b2:zad w1 (some ⟨q+1,2,.none⟩)=some (vi b.rw):=zab hB rfl;have b3:zad w1 (some ⟨q+1,3,.none⟩)=some (vi b.rf):=zab hB rfl;have b4:zad w1 (some ⟨q+1,4,.none⟩)=some (.bool b.ref):=zab hB rfl;have b5:zad w1 (some ⟨q+1,5,.none⟩)=some (vi b.fin):=zab hB rfl;have f1:=an4 a0 b0 k1 Nat.add_zero;have f2:=an4 a2' b2 k2 yn0;have f3:=an3 a3 b3 k3;have f4:=an3 a4 b4 k4;have f5:=an3 a5 b5 k5;refine go trivial ?_;cases x1 with
 |false=>
  refine rgg [(5,10),(12,17),(19,24),(26,31),(33,38)] f1 ?_;refine go trivial ?_;refine rt0 Tryz.ntmps42 ?_;exact⟨rfl,hE1⟩
 |true=>
 cases x2 with
 |false=>
  refine rgg [(5,10),(12,17),(19,24),(26,31),(33,38)] (an2 f1 f2) ?_;refine go trivial ?_;refine rt0 Tryz.ntmps42 ?_;exact⟨rfl,hE1⟩
 |true=>
 cases x3 with
 |false=>
  refine rgg [(5,10),(12,17),(19,24),(26,31),(33,38)] (an3 f1 f2 f3) ?_;refine go trivial ?_;refine rt0 Tryz.ntmps42 ?_;exact⟨rfl,hE1⟩
 |true=>
 cases x4 with
 |false=>
  refine rgg [(5,10),(12,17),(19,24),(26,31),(33,38)] (an4 f1 f2 f3 f4) ?_;refine go trivial ?_;refine rt0 Tryz.ntmps42 ?_;exact⟨rfl,hE1⟩
 |true=>
 cases x5 with
 |false=>
  refine rgg [(5,10),(12,17),(19,24),(26,31),(33,38)] (an5 f1 f2 f3 f4 f5) ?_;refine go trivial ?_;refine rt0 Tryz.ntmps42 ?_;exact⟨rfl,hE1⟩
 |true=>
 refine rcg [(5,10),(12,17),(19,24),(26,31),(33,38)] (an7 f1 f2 f3 f4 f5 pa pb) (zbO w1 na nb a.name b.name (h1.ext hE1) (h2.ext hE1) ma.LB mb.LB (by omega) (by omega)) ?_;rintro _ w2 ⟨rfl,hE2⟩;refine reg [(5,10),(12,17),(19,24),(26,31),(33,38)] trivial ?_;refine go trivial ?_;refine rt0 Tryz.ntmps42 ?_;exact⟨by simp,hE1.trans hE2⟩
theorem zhs{N:NetL}{t:Int}(hG:zbB N):∀{ch:List Int} {L:List zar},(∀s∈L,GoodSt N s)->∀x∈zbI N t ch L,(x.2=true->GoodSt N x.1)/\(x.2=false->x.1=stZ)
 | [],L,_,x,hx=>by cases hx
 |c::cs,L,hL,x,hx=>by
  unfold zbI at hx;have hz:∀x,x∈ [(stZ,false)]->(x.2=true->GoodSt N x.1)/\(x.2=false->x.1=stZ):=fun x h=>by
   rw[List.mem_singleton.1 h];exact⟨fun h=>by (cases h),fun _=>rfl⟩
  split at hx
  ·exact hz x hx
  ·split at hx
   ·rename_i s hs;have hg:=hL s (List.mem_of_getElem? hs);rcases List.mem_cons.1 hx with rfl|hx
    ·exact⟨fun _=>hg,fun h=>by (cases h)⟩
    ·exact zhs hG (fun y hy=>(zhE hG hg hy).2.g) x hx
   ·exact hz x hx
theorem play_mem{N:NetL}{q:Nm}{t:Int}{ch:List Int}(hG:zbB N)(hq:zcc q=true):((zcb N q t ch).2=true->GoodSt N (zcb N q t ch).1)/\((zcb N q t ch).2=false->(zcb N q t ch).1=stZ):=by
 unfold zcb;have h:=zhs (t:=t) (ch:=ch) hG (zfq hG hq);generalize zbI N t ch (zb3 N q)=F at h;rw[List.getLastD_eq_getLast?];cases hl:F.getLast? with
 |none=>exact⟨fun h=>by (cases h),fun _=>rfl⟩
 |some x=>exact h x (List.mem_of_getLast? hl)
theorem zks(W:World){cs:List Value}{N:NetL}{qv pv:Value}{q:Nm}{t:Int}{ps:List Int}(hN:NetAt W cs N)(hv:NumN N)(hq:Row W qv (q.map vs))(_oq:NmOk q)(hp:Row W pv (ps.map vi)):
  Fn Tryz.prog 7 #[.agg cs.toArray,qv,vi t,pv] W (fun v w'=>v= .bool true/\Ext W w'):=by
 have hN0:=hN;obtain⟨hsv,rv,rfl,hh,hr⟩:=hN.ex;obtain⟨ah,ch,hhv,_⟩:=hh.open;obtain⟨ar0,cr0,hrv,_⟩:=id hr;have hp0:=hp;obtain⟨ap,cp,rfl,hgp⟩:=row_at hp;refine enter Tryz.func7 Tryz.ntmps7 rfl rfl ?_;repeat refine c_r ?_
 rw[hhv,hrv];refine go trivial ?_;rw[←hhv,←hrv];refine zaw ?_;intro w1 hE1 hs1 hA;have dN:zao w1 (some ⟨W.heap.size,0,.none⟩) 4=some [hsv,rv,vi N.rw,vi N.rf]:=zaf hA rfl;refine rc trivial (zkx w1) ?_;rintro _ w2 ⟨rfl,hE2⟩;refine rgo trivial ?_;have hE12:=hE1.trans hE2;have dN2:=zac hE2 dN;refine zay (Q:=fun e σ' ds' v'=>e= .normal/\ds'=[]/\(σ' 4= .pointer (some ⟨W.heap.size,0,.none⟩)/\σ' 1=qv/\σ' 2=vi t/\σ' 3= .slice ap ps.length cp)/\Ext w2 v'/\∃bb,σ' 27= .bool bb/\(bb=false->zbB N/\zcc q=true/\ps.length<=60)) ?_ ?_
 ·obtain⟨b4,h4⟩:∃b,decide (((ps.length:Nat):Int)>60)=b:=⟨_,rfl⟩;refine rcg [(3,18),(8,23)] dN2 (zmC w2 (hN0.ext hE12) hv) ?_;rintro _ w4 ⟨hE4,b,rfl,hb⟩;cases b with
  |false=>
   refine reg [(3,18),(8,23)] trivial ?_;exact⟨rfl,rfl,sc trivial,hE4,_,vr0,fun h=>by cases h⟩
  |true=>
   refine rdg [(3,18),(8,23)] trivial (zg9 w4 qv q (hq.ext (hE12.trans hE4))) ?_;rintro _ w7 ⟨rfl,hE7⟩;cases hgq:zcc q with
   |false=>
    refine reg [(3,18),(8,23)] trivial ?_;exact⟨rfl,rfl,sc trivial,hE4.trans hE7,_,vr0,fun h=>by cases h⟩
   |true=>
    refine reg [(3,18),(8,23)] h4 ?_;exact⟨rfl,rfl,sc trivial,hE4.trans hE7,_,vr0,fun h=>⟨hb rfl,rfl,by have:=of_decide_eq_false (h4.trans h);omega⟩⟩
 rintro _ σ1 _ w4 ⟨rfl,rfl,s,hE4,bb,s24,hbb⟩;have hE14:=hE12.trans hE4;cases bb with
 |true=>
  refine go s24 ?_;refine rt0 Tryz.ntmps7 ?_;exact⟨rfl,hE14⟩
 |false=>
 obtain⟨hG,hgq,hp60⟩:=hbb rfl;have dN4:=zac hE4 dN2;obtain⟨hm1,hm2⟩:=play_mem (t:=t) (ch:=ps) hG hgq;have hP:=zg8 (t:=t) hE14 hN0 hG (hq.ext hE14) hgq (hp0.ext hE14) (by omega);refine go s24 ?_;refine rq ?_;intro gd K hgd hK;refine sgz (az2 s dN4) ?_;refine Fn.mono hP ?_;rintro _ w5 ⟨hE5,nv,rfl,hnm⟩;try simp only[go_sem]
 refine zaV (P:=Tryz.prog) (l:=stV nv (zcb N q t ps).1) rfl (zbi hnm.isOne) rfl rfl ?_;intro w6 hE6 hs6 hB6;try simp only[go_sem]
 apply hK;obtain⟨b9,hb9⟩:∃b,w5.heap.size=b:=⟨_,rfl⟩;rw[hb9]at hB6 ⊢;have hE46:=hE5.trans hE6;have hE16:=hE14.trans hE46;have dN6:=zac hE46 dN4;refine go trivial ?_;refine rq ?_;intro gd K hgd hK;refine sgz (az2 s dN6) ?_;refine Fn.mono (Of16_ok w6 (hN0.ext hE16) hG.z) ?_;rintro _ w7 ⟨hE7,cs',rfl,hX⟩;have hE17:=hE16.trans hE7;have hR:=RPlay_ok (t:=t) (Keep.refl _ w7) hX hG (hq.ext hE17) hgq (hp0.ext hE17) (by omega);refine sgz s ?_;refine Fn.mono hR ?_;rintro _ w8 ⟨hE8,nv2,rfl,hnm2⟩;try simp only[go_sem]
 refine zaV (P:=Tryz.prog) (l:=stV nv2 (zcb N q t ps).1) rfl (zbi hnm2.isOne) rfl rfl ?_;intro w9 hE9 hs9 hB9;try simp only[go_sem]
 apply hK;obtain⟨b11,hb11⟩:∃b,w8.heap.size=b:=⟨_,rfl⟩;rw[hb11]at hB9 ⊢;have hE69:=hE7.trans (hE8.trans hE9);have hE19:=hE16.trans hE69;obtain⟨S,hS⟩:∃S,(zcb N q t ps).1=S:=⟨_,rfl⟩;obtain⟨ok,hok⟩:∃ok,(zcb N q t ps).2=ok:=⟨_,rfl⟩;rw[hS]at hB6 hB9 hnm hnm2;rw[hS,hok]at hm1 hm2;rw[hok];have d9:zao w9 (some ⟨b9,0,.none⟩) 6=some (stV nv S):=zaf (Ext.at hE69 hB6) rfl;have d11:zao w9 (some ⟨b11,0,.none⟩) 6=some (stV nv2 S):=zaf hB9 rfl;have f5:zad w9 (some ⟨b9,5,.none⟩)=some (vi S.fin):=zab (Ext.at hE69 hB6) rfl;have f0:zad w9 (some ⟨b9,0,.none⟩)=some (vi S.sv):=zab (Ext.at hE69 hB6) rfl;refine go trivial ?_;refine zay (Q:=fun e' σ' ds' v'=>e'= .normal/\ds'=[]/\Ext w9 v'/\σ' 8= .bool true) ?_ ?_
 ·refine zaJ (fun _=>false) [(0,true),(1,true),(2,true),(3,true),(4,true),(5,true),(6,true),(7,true),(9,true),(8,false),(10,false),(11,true),(12,true),(13,true),(14,true),(15,true),(16,true),(17,true),(18,true),(19,true),(20,true),(21,true),(22,true),(23,true),(24,true),(25,true),(26,true)] NoS mixed (by kernel_rfl) ?_;intro gd K x hgd hx hxe hK;clear hxe;have hg3:=gk 3 48 hgd rfl;have hg6:=gk 6 51 hgd rfl;have hg13:=gk 13 58 hgd rfl;have hg15:=gk 15 60 hgd rfl;have hg19:=gk 19 64 hgd rfl;have d9x:=zac hx d9;have d11x:=zac hx d11;have f5x:=zaa hx f5;have f0x:=zaa hx f0;unfold stV at d9x d11x;cases ok with
  |false=>
   have hz:=hm2 rfl;rw[hz]at f5x f0x;have h0:decide ((stZ.fin:Int)=0)=true:=rfl;have h1:decide ((stZ.sv:Int)=0)=true:=rfl;simp (disch:=first|omega|assumption|rfl) only[go_sem,s,f5x,f0x,h0,h1,yn0,Nat.add_zero,za5,↓hg3,↓hg6,↓hg13,↓hg15,↓hg19];apply hK;exact⟨rfl,rfl,hx,vr0⟩
  |true=>
   have gS:=hm1 rfl;have mS:=(zb9 gS.nm).m;simp (disch:=first|omega|assumption|rfl) only[go_sem,s,d9x,d11x,yn0,Nat.add_zero,za5,↓hg3,↓hg6,↓hg13,↓hg15,↓hg19];refine Fn.mono (Of20_ok x (ca:=stV nv S) ⟨nv,rfl,hnm.ext (hE6.trans (hE69.trans hx))⟩) ?_;rintro _ y ⟨hy,cb,rfl,hcb⟩;refine⟨.inr hy,?_⟩;have d11y:=zac hy d11x;simp (disch:=first|omega|assumption|rfl) only[go_sem,s,d11y,yn0,Nat.add_zero,za5,↓hg3,↓hg6,↓hg13,↓hg15,↓hg19];refine Fn.mono (zmo y (cb:=stV nv2 S) hcb ⟨nv2,rfl,hnm2.ext (hE9.trans (hx.trans hy))⟩ mS mS) ?_;rintro _ z ⟨rfl,hz⟩;refine⟨.inr hz,?_⟩;rw[show zia S S=true by unfold zia;simp];simp (disch:=first|omega|assumption|rfl) only[go_sem,za5,↓hg3,↓hg6,↓hg13,↓hg15,↓hg19];apply hK;exact⟨rfl,rfl,hx.trans (hy.trans hz),vr0⟩
 rintro _ σ2 _ w10 ⟨rfl,rfl,hE10,s8⟩;refine go trivial ?_;refine rt0 Tryz.ntmps7 ?_;exact⟨s8,hE19.trans hE10⟩
end Go.Proofs.YtahbdamijngmmaaGreat
