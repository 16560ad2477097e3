/-
  Texts of a proof, joined: W9, X0, X1, O5, X7, OC, O6, O7, O8, OD, O9, OA, TP, H0, A0, M2, L1, M3b, M3, A1, A2, A3, A4, A5, A6, A7, X2, KR, KR2, G8, L3.
  Conditions: none.
-/
import Derived.Test.YtahbdamijngmmaaGreatJRP08
import Derived.Test.YtahbdamijngmmaaGreatJRP06
import Derived.Test.YtahbdamijngmmaaGreatJRP07
import Derived.Test.YtahbdamijngmmaaGreatJRP02
import Derived.Test.YtahbdamijngmmaaGreatJRP05
import Derived.Test.YtahbdamijngmmaaGreatProg
import Derived.Ground.SlsfProg
import Derived.Shelf.SlSortCmp.NoneTotal
import Derived.Test.YtahbdamijngmmaaGreatJRP03
import Derived.Test.YtahbdamijngmmaaGreatJRP04
set_option linter.unusedVariables false
set_option linter.unusedSimpArgs false
set_option linter.defProp false
set_option linter.unnecessarySimpa false
set_option maxHeartbeats 8000000
namespace Go.Proofs.YtahbdamijngmmaaGreat
open Go
set_option maxRecDepth 10000
theorem zlH{w:World}{hv:Value}{l:List zes}(hs:Rows 6 (HostC w) w hv l):∃a c,hv= .slice a l.length c/\∀i (h:i<l.length),∃xa xi x5 nv az cz,a=some xa/\adr (some xa) (i*6)=some xi/\adr (some xi) 5=some x5/\zad w (some xi)=some nv/\Row w nv (l[i].name.map vs)/\
  zad w (some x5)=some (.slice az l[i].zones.length cz)/\(∃b1 b2 b3 b4,l[i].addr=[b1,b2,b3,b4]/\zao w (some xi) 6=some [nv,zae b1,zae b2,zae b3,zae b4,.slice az l[i].zones.length cz])/\
  ∀k (h:k<l[i].zones.length),∃xz xk ov lv,az=some xz/\adr (some xz) (k*2)=some xk/\zao w (some xk) 2=some [ov,lv]/\Row w ov (l[i].zones[k].o.map vs)/\Rows 7 (RecAt w) w lv l[i].zones[k].recs:=by
 obtain⟨a,c,rfl,_,hg⟩:=hs.open;refine⟨a,c,rfl,fun i hi=>?_⟩;obtain⟨cs,hcs,hS⟩:=hg i hi;obtain⟨nv,b1,b2,b3,b4,pv,rfl,ha,hn,hp⟩:=hS.ex;obtain⟨ap,cp,rfl,_,hgp⟩:=hp.open;obtain⟨xa,rfl⟩:=yxs (zak hcs);obtain⟨xi,hxi⟩:∃xi,adr (some xa) (i*6)=some xi:=⟨_,rfl⟩;obtain⟨x5,hx5⟩:∃x,adr (some xi) 5=some x:=⟨_,rfl⟩;rw[hxi]at hcs;have h0:=zah (j:=0) hcs rfl;rw[zaj]at h0;have h5:=zah (j:=5) hcs rfl;rw[hx5]at h5;refine⟨xa,xi,x5,nv,ap,cp,rfl,hxi,hx5,h0,hn,h5,⟨b1,b2,b3,b4,ha,hcs⟩,fun k hk=>?_⟩;obtain⟨c2,hc2,hP⟩:=hgp k hk;obtain⟨ov,lv,rfl,ho,hl⟩:=hP.ex;obtain⟨xp,rfl⟩:=yxs (zak hc2);obtain⟨xk,hxk⟩:∃xi,adr (some xp) (k*2)=some xi:=⟨_,rfl⟩;rw[hxk]at hc2;exact⟨xp,xk,ov,lv,rfl,hxk,hc2,ho,hl⟩
def zhv(z:zcr):zfY:=⟨z.o,[120]⟩
def srvH(h:zes):SrvL:=⟨h.name,h.addr,h.zones.map zhv⟩
def confN(N:NetL):zha:=⟨N.hosts.map srvH,N.roots,N.rw,N.rf⟩
def NumN(N:NetL):Prop:=∀h∈N.hosts,∀z∈h.zones,NumR z.recs
structure zbB(N:NetL):Prop where
 z:NetZ N
 h1:1<=N.hosts.length/\N.hosts.length<=6
 r1:1<=N.roots.length/\N.roots.length<=4
 rin:∀r∈N.roots,0<=r/\r<(N.hosts.length:Int)
 w:0<=N.rw/\N.rw<=4
 f:0<=N.rf/\N.rf<=6
 zl:∀h∈N.hosts,h.zones.length<=4
 sh:∀h∈N.hosts,Sh h.name
theorem RecAt.up{w x:World}{v:Value}{R:List RecL}(h:Rows 7 (RecAt w) x v R)(hE:Ext w x):Rows 7 (RecAt x) x v R:=h.to fun _ _ h=>h.ext hE
theorem zmC(w:World){cs:List Value}{N:NetL}(hN:NetAt w cs N)(hv:NumN N):
  Fn Tryz.prog 16 #[.agg cs.toArray] w (fun v w'=>Ext w w'/\∃t,v= .bool t/\(t=true->zbB N)):=by
 obtain⟨hsv,rv,rfl,hs,hr⟩:=hN.ex;obtain⟨aS,cS,rfl,hat⟩:=zlH hs;have hr0:=hr;have r1:=hr.isOne;obtain⟨ar,cr,hrv,_,hgr⟩:=hr;rw[ylm]at hrv;refine enter Tryz.func16 Tryz.ntmps16 rfl rfl ?_;repeat refine c_r ?_
 rw[hrv];refine rg0 ?_;rw[←hrv];repeat refine c_r ?_
 refine zaw ?_;intro w1 hE1 hs1 hA;have p0:zad w1 (some ⟨w.heap.size,0,.none⟩)=some (.slice aS N.hosts.length cS):=zab hA rfl;have p1:zad w1 (some ⟨w.heap.size,1,.none⟩)=some rv:=zab hA rfl;have p2:zad w1 (some ⟨w.heap.size,2,.none⟩)=some (vi N.rw):=zab hA rfl;have p3:zad w1 (some ⟨w.heap.size,3,.none⟩)=some (vi N.rf):=zab hA rfl;rw[hrv]at p1;repeat refine c_r ?_
 refine zay (Q:=fun e σ' ds' v'=>e= .normal/\ds'=[]/\v'=w1/\σ' 1= .pointer (some ⟨w.heap.size,0,.none⟩)/\∃t,σ' 51= .bool t/\(t=false->(1<=N.hosts.length/\N.hosts.length<=6)/\(1<=N.roots.length/\N.roots.length<=4)/\(0<=N.rw/\N.rw<=4)/\0<=N.rf/\N.rf<=6)) ?_ ?_
 ·by_cases e0:(N.hosts.length:Int)<1
  ·refine rgg [(4,14),(10,20),(16,26),(22,32),(27,37),(32,42),(37,47)] (an3 p0 Nat.add_zero (yet e0)) ?_;exact⟨rfl,rfl,rfl,vq0,_,vr0,fun h=>by cases h⟩
  by_cases e1:(N.hosts.length:Int)>6
  ·refine rgg [(4,14),(10,20),(16,26),(22,32),(27,37),(32,42),(37,47)] (an4 p0 Nat.add_zero (yef e0) (yet e1)) ?_;exact⟨rfl,rfl,rfl,vq0,_,vr0,fun h=>by cases h⟩
  by_cases e2:(N.roots.length:Int)<1
  ·refine rgg [(4,14),(10,20),(16,26),(22,32),(27,37),(32,42),(37,47)] (an7 p0 Nat.add_zero (yef e0) (yef e1) p1 yn0 (yet e2)) ?_;exact⟨rfl,rfl,rfl,vq0,_,vr0,fun h=>by cases h⟩
  by_cases e3:(N.roots.length:Int)>4
  ·refine rgg [(4,14),(10,20),(16,26),(22,32),(27,37),(32,42),(37,47)] (an8 p0 Nat.add_zero (yef e0) (yef e1) p1 yn0 (yef e2) (yet e3)) ?_;exact⟨rfl,rfl,rfl,vq0,_,vr0,fun h=>by cases h⟩
  by_cases e4:N.rw<0
  ·refine rgg [(4,14),(10,20),(16,26),(22,32),(27,37),(32,42),(37,47)] (an3 (an8 p0 Nat.add_zero (yef e0) (yef e1) p1 yn0 (yef e2) (yef e3)) p2 (yet e4)) ?_;exact⟨rfl,rfl,rfl,vq0,_,vr0,fun h=>by cases h⟩
  by_cases e5:N.rw>4
  ·refine rgg [(4,14),(10,20),(16,26),(22,32),(27,37),(32,42),(37,47)] (an4 (an8 p0 Nat.add_zero (yef e0) (yef e1) p1 yn0 (yef e2) (yef e3)) p2 (yef e4) (yet e5)) ?_;exact⟨rfl,rfl,rfl,vq0,_,vr0,fun h=>by cases h⟩
  by_cases e6:N.rf<0
  ·refine rgg [(4,14),(10,20),(16,26),(22,32),(27,37),(32,42),(37,47)] (an6 (an8 p0 Nat.add_zero (yef e0) (yef e1) p1 yn0 (yef e2) (yef e3)) p2 (yef e4) (yef e5) p3 (yet e6)) ?_;exact⟨rfl,rfl,rfl,vq0,_,vr0,fun h=>by cases h⟩
  refine rgg [(4,14),(10,20),(16,26),(22,32),(27,37),(32,42),(37,47)] (an6 (an8 p0 Nat.add_zero (yef e0) (yef e1) p1 yn0 (yef e2) (yef e3)) p2 (yef e4) (yef e5) p3 (yef e6)) ?_;refine⟨rfl,rfl,rfl,vq0,_,vr0,fun h=>?_⟩;simp only[ydF]at h;omega
 rintro _ σ1 _ w2 ⟨rfl,rfl,rfl,s1,t,s51,ht⟩;repeat refine c_r ?_
 cases t with
 |true=>
  refine wt s51 ?_;refine gz0 ?_;refine rt0 Tryz.ntmps16 ?_;exact⟨hE1,_,rfl,fun h=>by cases h⟩
 |false=>
 refine wf s51 ?_;obtain⟨k1,k2,k3,k4⟩:=ht rfl;clear ht s51;refine rqz ?_;intro gd K hgd hK;refine sgz (az5 s1 p1 p2 p3 yn0) ?_;refine⟨by kernel_rfl,?_⟩;rw[show bdV Tryz.prog 112 [(1,.slice ar N.roots.length cr),(2,vi N.rw),(3,vi N.rf)]=some (.agg #[.slice .none 0 0,.slice ar N.roots.length cr,vi N.rw,vi N.rf]) from by kernel_rfl,←hrv];try simp only[go_sem]
 refine zaV (P:=Tryz.prog) (l:=[.slice .none 0 0,rv,vi N.rw,vi N.rf]) rfl (fun v hv=>by simp at hv;rcases hv with rfl|rfl|rfl|rfl<;>first|exact r1|rfl) rfl rfl ?_;intro w3 hE2 hs2 hD;try simp only[go_sem]
 apply hK;obtain⟨c3,hc3⟩:∃b,w2.heap.size=b:=⟨_,rfl⟩;rw[hc3]at hD hs2 ⊢;refine gz0 ?_;refine zap (fun m σ ds A=>ds=[]/\∃(i:Nat) (ov:Value) (G:List (SrvL×(Value×List Value))),i+m=N.hosts.length/\σ 4=vi i/\σ 1= .pointer (some ⟨w.heap.size,0,.none⟩)/\σ 3= .pointer (some ⟨c3,0,.none⟩)/\Ext w2 A/\c3+1<=A.heap.size/\
  A.heap[c3]? =some (.cells #[ov,rv,vi N.rw,vi N.rf] 112 (0,0))/\GS w 119 (c3+1) A ov G/\G.map Prod.fst=(N.hosts.take i).map srvH/\∀j (h:j<N.hosts.length),j<i->N.hosts[j].zones.length<=4/\∀z∈N.hosts[j].zones,GoodZ z) N.hosts.length ?_ ?_
 ·exact⟨rfl,0,.slice .none 0 0,[],by omega,vr0,vq1 s1,vq0,hE2,by omega,hD,⟨Owns.nil _ _ _ _ _,fun x h=>by cases h⟩,rfl,fun j h h2=>absurd h2 (by omega)⟩
 clear s1;rintro m σ ds A ⟨rfl,i,ov,G,him,s4,s1,s3,hEA,hAs,hB3,hGS,hGf,hgood⟩;have p0A:=zaa hEA p0;refine gz (az4 s4 s1 p0A Nat.add_zero) ?_;refine wc0 ?_ ?_
 ·intro hlt;simp only[ydT]at hlt;have hi:i<N.hosts.length:=by omega
  have hi0:=cj i;have hi1':=ci i;obtain⟨xa,xi,x5,nv,az,cz,rfl,hxi,hx5,g0,hn,g5,⟨b1,b2,b3,b4,hadr,hcs⟩,hpl⟩:=hat i hi;have hvi:=hv _ (List.getElem_mem hi);obtain⟨s,hse⟩:∃s,N.hosts[i]=s:=⟨_,rfl⟩;rw[hse]at hn g5 hadr hcs hvi;simp only[hse]at hpl;have n1:=hn.isOne;have hz0:adr (some xi) 0=some xi:=zaj _;obtain⟨y1,hy1⟩:∃y,adr (some xi) 1=some y:=⟨_,rfl⟩;have gby:zao w (some y1) 4=some [zae b1,zae b2,zae b3,zae b4]:=by
   have h5:=za9 (m:=1) (k:=5) hcs;rw[hy1]at h5;exact zch (m:=4) (k:=1) h5
  obtain⟨an,cn,hnv,_⟩:=id hn;repeat refine c_r ?_
  refine zaJ (fun i=>i==14) [(0,true),(1,true),(2,true),(3,true),(4,true),(5,true),(6,true),(7,true),(8,true),(9,true),(10,true),(11,true),(12,true),(13,false),(14,false)] NoS mixed (by kernel_rfl) ?_;intro gd K x hgd hx hxe hK;clear hxe;have hwx:=hE1.trans (hEA.trans hx);have p0x:=zaa hx p0A;have g0x:=zaa hwx g0;have gbx:=zac hwx gby;refine sgz (az2 (az7 s4 s1 p0x Nat.add_zero hi0 hlt hxi) (az4 hz0 hy1 g0x gbx)) ?_;refine⟨by kernel_rfl,?_⟩;rw[hnv,show bdV Tryz.prog 119 [(0,.slice an (s.name.map vs).length cn),(1,.agg #[zae b1,zae b2,zae b3,zae b4])]=some (.agg #[.slice an (s.name.map vs).length cn,zae b1,zae b2,zae b3,zae b4,.slice .none 0 0]) from by kernel_rfl,←hnv];refine sg0 ?_;refine⟨.inr (Ext.alloc x _),?_⟩;refine zaV (P:=Tryz.prog) (l:=[nv,zae b1,zae b2,zae b3,zae b4,.slice .none 0 0]) rfl (fun v hv=>by simp at hv;rcases hv with rfl|rfl|rfl|rfl|rfl|rfl<;>first|exact n1|rfl) rfl rfl ?_;intro A1 hE3 hs3 hB5;refine⟨.inl rfl,?_⟩;refine sg0 ?_;apply hK;have hx3:=hx.trans hE3;obtain⟨b5,hb5⟩:∃b,x.heap.size=b:=⟨_,rfl⟩;have hsx:=hx.size;rw[hb5]at hB5 hs3 hsx ⊢;have hIP:IP w 119 131 b5 nv b1 b2 b3 b4 A A1 (.slice .none 0 0) []:=⟨hB5,Owns.nil _ _ _ _ _,hx3,hsx⟩;have p01:=zaa hx3 p0A;have g51:=zaa (hE1.trans (hEA.trans hx3)) g5;clear p0x g0x gbx hx hwx hE3 hB5;repeat refine c_r ?_
  by_cases h4:(s.zones.length:Int)>4
  ·refine rg9 s4 s1 p01 Nat.add_zero hi0 hlt hxi hx5 (an2 g51 (yet h4)) ?_;repeat refine c_r ?_
   refine wt trivial ?_;refine gz0 ?_;refine rt0 Tryz.ntmps16 ?_;exact⟨hE1.trans (hEA.trans hx3),_,rfl,fun h=>by cases h⟩
  refine gz (az2 (az7 s4 s1 p01 Nat.add_zero hi0 hlt hxi) (az2 hx5 (an2 g51 (yef h4)))) ?_;refine wf trivial ?_;clear p01 g51 hx3;refine gz0 ?_;refine zap (fun m σ ds v=>ds=[]/\∃(k:Nat) (pv:Value),k+m=s.zones.length/\σ 6=vi k/\σ 4=vi i/\σ 1= .pointer (some ⟨w.heap.size,0,.none⟩)/\σ 3= .pointer (some ⟨c3,0,.none⟩)/\σ 5= .pointer (some ⟨b5,0,.none⟩)/\
   IP w 119 131 b5 nv b1 b2 b3 b4 A v pv ((s.zones.take k).map zhv)/\b5+1<=v.heap.size/\∀j (h:j<s.zones.length),j<k->GoodZ s.zones[j]) s.zones.length ?_ ?_
  ·exact⟨rfl,0,_,by omega,vr0,vq1 s4,vq1 s1,vq1 s3,vq0,hIP,by omega,fun j h h2=>absurd h2 (by omega)⟩
  clear s4 s1 s3 hIP;rintro m2 σ2 ds2 v ⟨rfl,k,pv,hkm,s6,s4,s1,s3,s5,hIP,hvs,hgz⟩;have hEv:=hEA.trans hIP.e;have hwv:=hE1.trans hEv;have p0v:=zaa hEv p0;have g5v:=zaa hwv g5;refine gz (az2 (az7 s6 s4 s1 (an3 p0v Nat.add_zero g5v) hi0 hlt hxi) (az2 hx5 trivial)) ?_;refine wc0 ?_ ?_
  ·intro hlt2;simp only[ydT]at hlt2;have hk:k<s.zones.length:=by omega
   have hk0:=cj k;have hk1':=ci k;obtain⟨xp,xk,ow,lv,rfl,hxk,dz,ho,hl⟩:=hpl k hk;obtain⟨z,hze⟩:∃z,s.zones[k]=z:=⟨_,rfl⟩;have hnz:=hvi _ (List.getElem_mem hk);rw[hze]at ho hl hnz;have o1:=ho.isOne;have l1:=hl.isOne;have dzv:=zac hwv dz;refine rqz ?_;intro gd K hgd hK;refine sgz (az2 (az7 s6 s4 s1 p0v Nat.add_zero g5v hi0) (az7 hlt hxi hx5 hk0 hlt2 hxk dzv)) ?_;refine zaV (P:=Tryz.prog) (l:=[ow,lv]) rfl (zc6 o1 l1) rfl rfl ?_;intro v1 hE4 hs4' hB7;try simp only[go_sem]
   apply hK;obtain⟨b7,hb7⟩:∃b,v.heap.size=b:=⟨_,rfl⟩;rw[hb7]at hB7 hs4' ⊢;have hwv1:=hwv.trans hE4;have e0:zad v1 (some ⟨b7,0,.none⟩)=some ow:=zab hB7 rfl;have e1:zad v1 (some ⟨b7,1,.none⟩)=some lv:=zab hB7 rfl;obtain⟨al,cl,hlv,_⟩:=hl.open;repeat refine c_r ?_
   refine zay (Q:=fun e σ' ds' v'=>e= .normal/\ds'=[]/\σ' 6=vi k/\σ' 4=vi i/\σ' 1= .pointer (some ⟨w.heap.size,0,.none⟩)/\σ' 3= .pointer (some ⟨c3,0,.none⟩)/\σ' 5= .pointer (some ⟨b5,0,.none⟩)/\σ' 7= .pointer (some ⟨b7,0,.none⟩)/\Ext v1 v'/\∃t,σ' 132= .bool t/\(t=false->GoodZ z)) ?_ ?_
   ·refine zaJ (fun _=>false) [(0,true),(1,true),(2,true),(3,true),(4,false),(5,true),(6,true),(7,true),(8,true),(9,true),(10,true),(11,true),(12,true),(13,true),(14,true),(16,true),(17,true),(18,true),(19,true),(15,false),(20,false),(21,false),(22,false),(23,false),(24,true),(25,true)] NoS mixed (by kernel_rfl) ?_;intro gd K x hgd hx hxe hK;clear hxe;have hg6:=gk 6 113 hgd rfl;have hg12:=gk 12 119 hgd rfl;have e0x:=zaa hx e0;have e1x:=zaa hx e1;have hwx:=hwv1.trans hx;refine sgz (az4 e0x e1x Nat.add_zero yn0) ?_;refine Fn.mono (ZGood_ok hwx (ho.ext hwx) (hl.ext hwx)) ?_;rintro _ y1 ⟨hy1,b,rfl,hb⟩;refine⟨.inr hy1,?_⟩;cases b with
    |false=>
     simp (disch:=first|omega|assumption|rfl) only[go_sem,Bool.not_false,za5,↓hg6,↓hg12];apply hK;exact⟨rfl,rfl,vq1 s6,vq1 s4,vq1 s1,vq1 s3,vq1 s5,vq0,hx.trans hy1,_,vr0,fun h=>by cases h⟩
    |true=>
    obtain⟨go,gR⟩:=hb rfl;have hrok:=zgT gR hnz;have hRl:=gR.len;have e1y:=zaa hy1 e1x;rw[hlv]at e1y;by_cases h20:(z.recs.length:Int)>20
    ·simp (disch:=first|omega|assumption|rfl) only[go_sem,Bool.not_true,za5,e1y,yn0,yet h20,↓hg6,↓hg12];apply hK;exact⟨rfl,rfl,vq1 s6,vq1 s4,vq1 s1,vq1 s3,vq1 s5,vq0,hx.trans hy1,_,vr0,fun h=>by cases h⟩
    have e0y1:=zaa hy1 e0x;simp (disch:=first|omega|assumption|rfl) only[go_sem,Bool.not_true,za5,e1y,e0y1,yn0,Nat.add_zero,yef h20,↓hg6,↓hg12];rw[←hlv];have hwy1:=hwx.trans hy1;refine Fn.mono (zjO hwy1 (hl.ext hwy1) (fun r hr=>(gR.few r hr).2.nn) (by omega)) ?_;rintro l1v y2 ⟨hy2,hl2⟩;refine⟨.inr hy2,?_⟩;have hwy2:=hwy1.trans hy2;have e0y:=zaa (hy1.trans hy2) e0x;have e1y2:=zaa (hy1.trans hy2) e1x;simp (disch:=first|omega|assumption|rfl) only[go_sem,e0y,e1y2,Nat.add_zero,yn0,za5,↓hg6,↓hg12];refine Fn.mono (zjO hwy2 (hl.ext hwy2) (fun r hr=>(gR.few r hr).2.nn) (by omega)) ?_;rintro l2v y3 ⟨hy3,hl3⟩;refine⟨.inr hy3,?_⟩;have hwy3:=hwy2.trans hy3;simp (disch:=first|omega|assumption|rfl) only[go_sem,za5,↓hg6,↓hg12];refine Fn.mono (RZNew_ok (Keep.refl _ y3) (ho.ext hwy3) hl3 hrok (by omega)) ?_;rintro _ y4 ⟨hy4,cv,rfl,hcv⟩;refine⟨.inr hy4,?_⟩;have hl4:Rows 7 (RecAt y4) y4 l1v z.recs:=Rows.extC (fun _ _ h=>RecAt.ext h (hy3.trans hy4)) hl2 (hy3.trans hy4);have hcv4:=RecAt.up hcv hy4;simp (disch:=first|omega|assumption|rfl) only[go_sem,za5,↓hg6,↓hg12];refine op_field (P:=Tryz.prog) (v:=cv) rfl rfl rfl rfl vr0 rfl ?_;refine⟨.inr (Keep.refl _ _),?_⟩;refine Fn.mono (Is5_ok y4 hl4 hcv4 (fun r hr=>⟨(hrok r hr).len,(hrok r hr).dat.n⟩) (by omega)) ?_;rintro _ y5 ⟨hy5,t,rfl,ht⟩;refine⟨.inr hy5,?_⟩;simp (disch:=first|omega|assumption|rfl) only[go_sem,za5,↓hg6,↓hg12];apply hK
    refine⟨rfl,rfl,vq1 s6,vq1 s4,vq1 s1,vq1 s3,vq1 s5,vq0,((((hx.trans hy1).trans hy2).trans hy3).trans hy4).trans hy5,_,vr0,fun h=>⟨go,gR,hnz,(ht ?_).symm⟩⟩;simpa using h
   clear s6 s4 s1 s3 s5;rintro _ σ3 _ v2 ⟨rfl,rfl,s6,s4,s1,s3,s5,s7,hE5,t,s132,hzt⟩;repeat refine c_r ?_
   cases t with
   |true=>
    refine wt s132 ?_;refine gz0 ?_;refine rt0 Tryz.ntmps16 ?_;exact⟨hwv1.trans hE5,_,rfl,fun h=>by cases h⟩
   |false=>
   refine wf s132 ?_;have hgzk:=hzt rfl;clear s132 hzt;have hE45:=hE4.trans hE5;have hIP2:=hIP.h;have hB52:=Ext.at hE45 hIP.h;have q5:zad v2 (some ⟨b5,5,.none⟩)=some pv:=zab hB52 rfl;have e02:=zaa hE5 e0;have lo:=hIP.lo;have hsz2:=hE45.size;obtain⟨ao,co,how,_⟩:=id ho;refine rqz ?_;intro gd K hgd hK;refine sgz (az6 s5 s7 q5 e02 Nat.add_zero yn0) ?_;refine⟨by kernel_rfl,?_⟩;rw[how,show bdV Tryz.prog 131 [(0,.slice ao (z.o.map vs).length co),(1,vs [120])]=some (.agg #[.slice ao (z.o.map vs).length co,vs [120]]) from by kernel_rfl,←how];try simp only[go_sem]
   refine zaN (zcR w) (l:=[ow,vs [120]]) (a:=zhv z) (by rfl) (by rfl) (by rfl) (by rfl) ⟨ow,rfl,ho⟩ (by decide) ?_;intro v3 hE6 hs6' ho6;try simp only[go_sem]
   have hx04:=hE45.trans hE6;have hsz4:=hx04.size;refine zaG (zcR w) (hIP.own.ext hx04) ho6.rows (by rfl) (by rfl) (by rfl) (by rfl) (by rfl) (by rfl) (by decide) vr0 vr0 (by simp;omega) (by decide) (by omega) ?_;intro pv' v4 ho7 hE7 hk7 hb7';obtain⟨ap',cp',hpv',_⟩:=ho7.rows.open;refine sgz (az2 s5 yn0) ?_;refine zaT (P:=Tryz.prog) (t:=117) (j:=5) (u:=pv') (l:=[nv,zae b1,zae b2,zae b3,zae b4,pv]) ((hk7.block _ (by omega) (fun hb=>by have:=(hIP.own.ge hb).1;omega)).trans (Ext.at hx04 hIP.h)) (by simp) (by rw[hpv'];rfl) rfl rfl ?_;intro v5 hs5' hB5' hk5';try simp only[go_sem]
   apply hK;have hIPn:=hIP.app hx04 ho7 hk7 hB5' hk5';have hs7:=hk7.size;refine gz (az2 s6 hk1') ?_;refine⟨m2 - 1,by omega,rfl,k+1,pv',by omega,vq0,vq1 s4,vq1 s1,vq1 s3,vq1 s5,?_,by omega,fun j hj hjk=>?_⟩
   ·rw[zam hk,List.map_append,hze];exact hIPn
   ·by_cases hj2:j=k
    ·subst hj2;rw[hze];exact hgzk
    ·exact hgz j hj (by omega)
  ·intro hge2;simp only[ydF]at hge2;have hfull:(s.zones.take k).map zhv=s.zones.map zhv:=by rw[List.take_of_length_le (by omega)]
   rw[hfull]at hIP;obtain⟨ap',cp',hpv',_⟩:=hIP.own.rows.open;have lo:=hIP.lo;have dB:zao v (some ⟨b5,0,.none⟩) 6=some [nv,zae b1,zae b2,zae b3,zae b4,pv]:=zaf hIP.h rfl;have q3:zad v (some ⟨c3,0,.none⟩)=some ov:=zab (Ext.at hIP.e hB3) rfl;have ones6:∀q∈ [nv,zae b1,zae b2,zae b3,zae b4,pv],one q=true:=fun q hq=>by
    simp at hq;rcases hq with rfl|rfl|rfl|rfl|rfl|rfl<;>first|exact n1|rfl| (rw[hpv'];rfl)
   have hGl:G.length=i:=by
    have:=congrArg List.length hGf;simp at this;omega
   refine rqz ?_;intro gd K hgd hK;refine sgz (az5 s3 s5 q3 dB Nat.add_zero) ?_;refine zaN (C:=gxC) ze9 (l:=[nv,zae b1,zae b2,zae b3,zae b4,pv]) (a:=(srvH s,(pv,[nv,zae b1,zae b2,zae b3,zae b4,pv]))) (by rfl) (by rfl) (by rfl) (by rfl) ⟨rfl,rfl,ones6⟩ (by decide) ?_;intro v1 hE4 hs4' ho4;try simp only[go_sem]
   have hAv1:=hIP.e.trans hE4;have hsA1:=hAv1.size;refine zaG ze9 ((hGS.ext hAv1).own) ho4.rows (by rfl) (by rfl) (by rfl) (by rfl) (by rfl) (by rfl) (by decide) vr0 vr0 (by simp;omega) (by decide) (by omega) ?_;intro ov' v2 ho5 hE5 hk5 hb5';obtain⟨ao',co',hov',_⟩:=ho5.rows.open;refine sgz (az2 s3 Nat.add_zero) ?_;refine zaT (P:=Tryz.prog) (t:=110) (j:=0) (u:=ov') (l:=[ov,rv,vi N.rw,vi N.rf]) ((hk5.block _ (by omega) (fun hb=>by have:=(hGS.own.ge hb).1;omega)).trans (Ext.at hAv1 hB3)) (by simp) (by rw[hov'];rfl) rfl rfl ?_;intro v3 hs3' hB3' hk3';try simp only[go_sem]
   apply hK;have hGS2:=hGS.app hAv1 hAs (x:=(srvH s,(pv,[nv,zae b1,zae b2,zae b3,zae b4,pv]))) ⟨nv,b1,b2,b3,b4,rfl,hadr,hn,hIP.own.rows.ext hE4⟩ ((hIP.own.blk.mono (by omega)).ext hE4.size) ho5 hk5 hb5';have hGS3:=hGS2.keep hk3' (fun b h1 _ h2=>by omega);have hs5:=hk5.size;refine gz (az2 s4 hi1') ?_;refine⟨m - 1,by omega,rfl,i+1,ov',_,by omega,vq0,vq1 s1,vq1 s3,Keep.to_ext (hE5 w2 (hEA.trans hAv1) (by omega)) rfl (fun b hb=>by omega) hk3',by omega,hB3',hGS3,?_,fun j hj hji=>?_⟩
   ·rw[zam hi,List.map_append,List.map_append,hGf,hse];rfl
   ·by_cases hj2:j=i
    ·subst hj2;rw[hse];refine⟨by omega,fun z hz=>?_⟩;obtain⟨k2,hk2,rfl⟩:=List.mem_iff_getElem.1 hz;exact hgz k2 hk2 (by omega)
    ·exact hgood j hj (by omega)
 ·intro hge;simp only[ydF]at hge;rw[List.take_of_length_le (by omega)]at hGf;have hEw:=hE1.trans hEA;have hrows:=hGS.rows hEw;rw[hGf]at hrows;have o1:=hrows.isOne;have dx:=zaf (n:=4) (l:=[ov,rv,vi N.rw,vi N.rf]) hB3 rfl;have hcf:ConfAt A [ov,rv,vi N.rw,vi N.rf] (confN N):=⟨ov,rv,rfl,hrows,hr0.ext hEw⟩;repeat refine c_r ?_
  refine rc (an2 s3 dx) (Few15_ok A hcf) ?_;rintro _ A1 ⟨hE3,t,rfl,hfew⟩;refine re trivial ?_;repeat refine c_r ?_
  cases t with
  |false=>
   refine wt Bool.not_false ?_;refine gz0 ?_;refine rt0 Tryz.ntmps16 ?_;exact⟨hEw.trans hE3,_,rfl,fun h=>by cases h⟩
  |true=>
  refine wf Bool.not_true ?_;have hf:=hfew rfl;have dx1:=zac hE3 dx;repeat refine c_r ?_
  refine rc (an2 s3 dx1) (Of15_ok A1 (hcf.ext hE3) hf) ?_;rintro _ A2 ⟨hE4,cs',rfl,hcf2⟩;refine rd trivial (zit A2 hcf2 hf) ?_;rintro _ A3 ⟨hE5,a,e,rfl,he⟩;refine re trivial ?_;refine gz0 ?_;refine rt0 Tryz.ntmps16 ?_;refine⟨hEw.trans (hE3.trans (hE4.trans hE5)),_,rfl,fun h=>?_⟩;have hro:=he (by simpa using h);have hgj:∀h∈N.hosts,h.zones.length<=4/\∀z∈h.zones,GoodZ z:=fun h hh=>by
   obtain⟨j,hj,rfl⟩:=List.mem_iff_getElem.1 hh;exact hgood j hj (by omega)
  refine⟨⟨by omega,fun h hh=>(hf.s (srvH h) (List.mem_map_of_mem hh)).1.m,fun h hh=>by have:=(hgj h hh).1;omega,fun h hh=>(hgj h hh).2,by omega⟩,k1,k2,fun r hr=>?_,k3,k4,fun h hh=>(hgj h hh).1,fun h hh=>(hf.s (srvH h) (List.mem_map_of_mem hh)).1⟩;have:=hro.inn r hr;rw[show (confN N).servers.length=N.hosts.length from ylm _]at this;exact this
structure GoodSt(N:NetL)(s:zar):Prop where
 s0:0<=s.sv
 s1:s.sv<(N.hosts.length:Int)
 nm:zcc s.name=true
 w0:0<=s.rw
 w1:s.rw<=N.rw
 f0:0<=s.rf
 f1:s.rf<=N.rf
 e0:0<=s.fin
 e1:s.fin<=9
theorem zkI:∀{n:Nm},(∀l∈n,l≠ [])->2*n.length<=(n.map fun l=>1+l.length).sum
 | [],_=>by simp
 |l::n,h=>by
  have h1:=List.length_pos_iff.2 (h l (List.mem_cons_self ..));have h2:=zkI (n:=n) fun m hm=>h m (List.mem_cons_of_mem _ hm);rw[List.map_cons,List.sum_cons,List.length_cons];omega
theorem ziT{n:Nm}(h:zaD n=0):n.length<=127:=by
 have hl:=zbs h;have h2:=zkI fun l hm=>(hl l hm).1;unfold zaD at h;cases hf:n.find? (fun l=>decide (errL l≠0)) with
 |some x=>
  rw[hf]at h;have h1:=List.find?_some hf;simp at h1;exact absurd h h1
 |none=>
  rw[hf]at h
  dsimp only at h
  split at h
  ·cases h
  ·rename_i h3;unfold lenN at h3;omega
theorem zj7{n:Nm}(h:zaD n=0):zcc n=true:=by
 unfold zcc;rw[Bool.and_eq_true,ydT];refine⟨?_,h⟩;have h1:=zbs h;have h2:=ziT h;unfold few;simp only[Bool.and_eq_true,ydT,List.all_eq_true];refine⟨by omega,fun l hl=>by have:=(h1 l hl).2;omega⟩
theorem GoodSt.b{N:NetL}{s:zar}(h:GoodSt N s)(hN:zbB N):StB s:=⟨(zb9 h.nm).m,h.w0,by have:=h.w1;have:=hN.w.2;omega,h.f0,by have:=h.f1;have:=hN.f.2;omega⟩
structure zmv(N:NetL)(s x:zar):Prop where
 g:GoodSt N x
 w:s.rw<=x.rw
 f:s.rf<=x.rf
 m1:x.rw - s.rw+x.rf - s.rf<=1
 go:x.fin=0->x.rw - s.rw+x.rf - s.rf=1
theorem zhT{N:NetL}{s s0 x:zar}{k:Int}(hs:GoodSt N s)(hk:1<=k/\k<=9)(hw:s0.rw=s.rw)(hf:s0.rf<=s.rf/\s.rf<=s0.rf+1)(hx:x∈endS s k):zmv N s0 x:=by
 rw[List.mem_singleton.1 hx];exact⟨⟨hs.s0,hs.s1,hs.nm,hs.w0,hs.w1,hs.f0,hs.f1,by dsimp only;omega,hk.2⟩,by dsimp only;omega,by dsimp only;omega,by dsimp only;omega,fun h=>by dsimp only at h;omega⟩
theorem zjk{α:Type}{p:α->Bool}:∀{l:List α} {i:Nat} {k:Int},k∈zcI p i l->(i:Int)<=k/\k<(i:Int)+(l.length:Int)
 | [],i,k,h=>by cases h
 |a::l,i,k,h=>by
  unfold zcI at h;rcases List.mem_append.1 h with h|h
  ·split at h
   ·rw[List.mem_singleton.1 h,List.length_cons];omega
   ·cases h
  ·have:=zjk h;rw[List.length_cons];omega
theorem aliasS_F{N:NetL}{s x:zar}{to:Nm}(hN:zbB N)(hs:GoodSt N s)(h0:s.fin=0)(ht:zaD to=0)(hx:x∈zeo N s to):zmv N s x:=by
 unfold zeo at hx
 split at hx
 ·exact zhT hs (by omega) rfl (by omega) hx
 rename_i hw;have hw':s.rw<N.rw:=by omega
 have g:∀k:Int,0<=k->k<(N.hosts.length:Int)->zmv N s {s with rw:=s.rw+1,name:=to,ref:=false,sv:=k}:=fun k h1 h2=>
  ⟨⟨h1,h2,zj7 ht,by have:=hs.w0;dsimp only;omega,by dsimp only;omega,hs.f0,hs.f1,hs.e0,hs.e1⟩,by dsimp only;omega,by dsimp only;omega,by dsimp only;omega,fun _=>by dsimp only;omega⟩
 split at hx
 ·rw[List.mem_singleton.1 hx];exact g s.sv hs.s0 hs.s1
 ·unfold zc9 at hx;obtain⟨k,hk,rfl⟩:=List.mem_map.1 hx;have:=hN.rin k hk;exact g k this.1 this.2
theorem referS_F{N:NetL}{s x:zar}{r:ResL}(hs:GoodSt N s)(h0:s.fin=0)(hx:x∈zeN N s r):zmv N s x:=by
 unfold zeN at hx
 split at hx
 ·exact zhT hs (by omega) rfl (by omega) hx
 rename_i hw;have hf0:=hs.f0;have hs2:GoodSt N {s with rf:=s.rf+1}:=⟨hs.s0,hs.s1,hs.nm,hs.w0,hs.w1,by dsimp only;omega,by dsimp only;omega,hs.e0,hs.e1⟩;obtain⟨h,_,hx⟩:=List.mem_flatMap.1 hx;unfold zdO at hx;rcases List.mem_append.1 hx with hx|hx
 ·split at hx
  ·exact zhT hs2 (by omega) rfl (by dsimp only;omega) hx
  ·cases hx
 ·obtain⟨k,hk,rfl⟩:=List.mem_map.1 hx;unfold ofR zed at hk;have:=zjk hk;exact⟨⟨by dsimp only;omega,by dsimp only;omega,hs.nm,hs.w0,hs.w1,by dsimp only;omega,by dsimp only;omega,hs.e0,hs.e1⟩,by dsimp only;omega,by dsimp only;omega,by dsimp only;omega,fun _=>by dsimp only;omega⟩
theorem zhE{N:NetL}{s x:zar}{t:Int}(hN:zbB N)(hs:GoodSt N s)(hx:x∈zcS N s t):s.fin=0/\zmv N s x:=by
 have hF:=zmd (s:=s.sv) (t:=t) hN.z (zb9 hs.nm).m;unfold zcS at hx
 split at hx
 ·rename_i h0;refine⟨h0,?_⟩;repeat first| (split at hx;(first|exact zhT hs (by omega) rfl (by omega) hx|exact aliasS_F hN hs h0 (hF.nm (by assumption)) hx|exact referS_F hs h0 hx))|exact zhT hs (by omega) rfl (by omega) hx
 ·cases hx
theorem zhf{u:Int}{ds:List DatL}:(zax u ds).length<=ds.length:=by
 unfold zax
 split
 ·exact List.length_filterMap_le _ _
 ·simp
theorem next_len{N:NetL}{s:zar}{t:Int}(hN:NetZ N)(ms:NmM s.name):(zcS N s t).length<=2000000:=by
 have hF:=zmd (s:=s.sv) (t:=t) hN ms;have he:∀k:Int,(endS s k).length<=2000000:=fun k=>by unfold endS;simp
 have h1:=hN.rl;have h2:=hN.hl;unfold zcS
 split
 ·repeat (split;· exact he _)
  split
  ·unfold zeo
   split
   ·exact he _
   split
   ·simp
   ·unfold zc9;rw[ylm];omega
  split
  ·unfold zeN
   split
   ·exact he _
   ·have h3:=zgX (fun a=>zhJ (N:=N) (r:=askN N s.sv s.name t) (s:={s with rf:=s.rf+1}) (h:=a)) (zax 2 (askN N s.sv s.name t).data);have h4:=zhf (u:=2) (ds:=(askN N s.sv s.name t).data);have h5:=hF.dl;have h6:(zax 2 (askN N s.sv s.name t).data).length*(N.hosts.length+1)<=1000*1001:=Nat.mul_le_mul (by omega) (by omega);omega
  split<;>exact he _
 ·simp
def ziM(N:NetL)(t:Int):Nat->Nat->List MetL->List MetL
 |0,_,row=>row
 |f+1,i,row=>match row[i]? with
  |some x=>if row.length<=4096 then ziM N t f (i+1) (zcs x.2 0 row (zcS N x.1 t)) else row
  | .none=>row
def zb3(N:NetL)(q:Nm):List zar:=zc9 N ⟨0,q,0,0,false,0⟩
def zkc(N:NetL)(q:Nm)(t:Int):List MetL:=ziM N t 4097 0 (zcs [] 0 [] (zb3 N q))
def zdJ(row:List MetL)(k:Int):Option MetL:=row.find? fun x=>decide (x.1.fin=k)
def ziP(row:List MetL)(n:Nat):List (Int×List Int):=(List.range n).filterMap fun j=>(zdJ row ((j+1:Nat):Int)).map fun x=>(((j+1:Nat):Int),x.2)
def endsL(row:List MetL):List (Int×List Int):=ziP row 9
theorem zgm{row:List MetL}{n:Nat}:ziP row (n+1)=ziP row n++((zdJ row ((n+1:Nat):Int)).map fun x=>(((n+1:Nat):Int),x.2)).toList:=by
 unfold ziP;rw[List.range_succ,List.filterMap_append]
 congr 1
theorem zlX(row:List MetL)(n:Nat):(ziP row n).length<=n:=by
 unfold ziP;have:=List.length_filterMap_le (fun j=>(zdJ row ((j+1:Nat):Int)).map fun x=>(((j+1:Nat):Int),x.2)) (List.range n);rw[List.length_range]at this;exact this
structure EndI(w:World)(P:List MetL)(E:List (Value×MetL)):Prop where
 a:∀e∈E,zdJ P e.2.1.fin=some e.2/\e.2.1.fin≠0/\Row w e.1 (e.2.2.map vi)
 b:∀x∈P,x.1.fin≠0->∃e∈E,e.2.1.fin=x.1.fin
theorem EndI.ext{w x:World}{P:List MetL}{E:List (Value×MetL)}(h:EndI w P E)(hE:Ext w x):EndI x P E:=
 ⟨fun e he=>by obtain⟨h1,h2,h3⟩:=h.a e he;exact⟨h1,h2,h3.ext hE⟩,h.b⟩
theorem zdR{P:List MetL}{X:MetL}{k:Int}:zdJ (P++ [X]) k=(zdJ P k).or (if X.1.fin=k then some X else .none):=by
 unfold zdJ;rw[List.find?_append]
 congr 1
 by_cases h:X.1.fin=k<;>simp[h]
theorem EndI.keep{w:World}{P:List MetL}{E:List (Value×MetL)}{X:MetL}(h:EndI w P E)(hx:X.1.fin=0\/∃e∈E,e.2.1.fin=X.1.fin):EndI w (P++ [X]) E:=by
 refine⟨fun e he=>?_,fun x hx' h0=>?_⟩
 ·obtain⟨h1,h2,h3⟩:=h.a e he;exact⟨by rw[zdR,h1];rfl,h2,h3⟩
 ·rcases List.mem_append.1 hx' with hx'|hx'
  ·exact h.b x hx' h0
  ·rw[List.mem_singleton.1 hx']at h0 ⊢;exact hx.resolve_left h0
theorem EndI.add{w:World}{P:List MetL}{E:List (Value×MetL)}{X:MetL}{pv:Value}(h:EndI w P E)(h0:X.1.fin≠0)(hn:∀e∈E,e.2.1.fin≠X.1.fin)(hr:Row w pv (X.2.map vi)):EndI w (P++ [X]) (E++ [(pv,X)]):=by
 have hnone:zdJ P X.1.fin= .none:=List.find?_eq_none.2 fun x hx e=>by
  have e:=of_decide_eq_true e;obtain⟨y,hy,he⟩:=h.b x hx (by rw[e];exact h0);exact hn y hy (he.trans e)
 refine⟨fun e he=>?_,fun x hx' hx0=>?_⟩
 ·rcases List.mem_append.1 he with he|he
  ·obtain⟨h1,h2,h3⟩:=h.a e he;exact⟨by rw[zdR,h1];rfl,h2,h3⟩
  ·rw[List.mem_singleton.1 he];exact⟨by rw[zdR,hnone,if_pos rfl];rfl,h0,hr⟩
 ·rcases List.mem_append.1 hx' with hx'|hx'
  ·obtain⟨e,he,h1⟩:=h.b x hx' hx0;exact⟨e,List.mem_append_left _ he,h1⟩
  ·exact⟨(pv,X),by simp,by rw[List.mem_singleton.1 hx']⟩
theorem EndI.no{w:World}{P:List MetL}{E:List (Value×MetL)}{k:Int}(h:EndI w P E)(hk:k≠0)(hn:∀e∈E,e.2.1.fin≠k):zdJ P k= .none:=List.find?_eq_none.2 fun x hx e=>by
 have e:=of_decide_eq_true e;obtain⟨y,hy,he⟩:=h.b x hx (by rw[e];exact hk);exact hn y hy (he.trans e)
def entE(e:Value×MetL):Value×Value:=(vi e.2.1.fin,.agg #[vi e.2.1.fin,e.1])
structure RowG(N:NetL)(i:Nat)(row:List MetL):Prop where
 g:∀y∈row,GoodSt N y.1
 p:∀y∈row,y.2.length<=i
theorem RowG.meet{N:NetL}{i:Nat}{row:List MetL}{p:List Int}{L:List zar}{k:Nat}(h:RowG N i row)(hp:p.length<i)(hL:∀s∈L,GoodSt N s):RowG N i (zcs p k row L):=by
 refine⟨fun y hy=>?_,fun y hy=>?_⟩
 ·rcases zeb hy with hy| ⟨hy,_⟩
  ·exact h.g y hy
  ·exact hL _ hy
 ·rcases zeb hy with hy| ⟨_,j,e⟩
  ·exact h.p y hy
  ·rw[e,List.length_append,List.length_singleton];omega
theorem RowG.mono{N:NetL}{i j:Nat}{row:List MetL}(h:RowG N i row)(hij:i<=j):RowG N j row:=⟨h.g,fun y hy=>Nat.le_trans (h.p y hy) hij⟩
theorem ze3{x:Int}(h0:0<=x)(h1:x<=1000000):(Lit.int .i64 x).wf=true:=by
 have e1:IntKind.i64.min= -9223372036854775808:=by decide
 have e2:IntKind.i64.max=9223372036854775807:=by decide
 show(decide (IntKind.i64.min<=x) && decide (x<=IntKind.i64.max))=true;rw[e1,e2,yet (by omega),yet (by omega)];rfl
theorem zjb{k:Nat}:∀{l:List Nat},(∀x∈l,x<=k)->l.sum<=k*l.length
 | [],_=>by simp
 |a::l,h=>by
  have h1:=h a (by simp);have h2:=zjb (l:=l) fun x hx=>h x (by simp[hx]);rw[List.sum_cons,List.length_cons,Nat.mul_succ];omega
theorem zgU{N:NetL}{s:zar}(hN:zbB N)(h:GoodSt N s):StG s:=by
 have hg:=zb9 h.nm;have hf:=hg.fold;have hfew:few s.name=true:=by have:=h.nm;unfold zcc at this;exact(Bool.and_eq_true_iff.1 this).1
 have hl:∀l∈zan s.name,l.length<=100:=fun l hl=>by
  obtain⟨x,hx,rfl⟩:=List.mem_map.1 hl;simp only[few,Bool.and_eq_true,List.all_eq_true,ydT]at hfew;rw[zei];exact hfew.2 x hx
 have h1:=hN.h1.2;have h2:=hN.w.2;have h3:=hN.f.2;have:=h.s0;have:=h.s1;have:=h.w0;have:=h.w1;have:=h.f0;have:=h.f1;have:=h.e0;have:=h.e1;refine⟨hg,?_,ze3 (by show 0<=s.sv;omega) (by show s.sv<=_;omega),ze3 (by show 0<=s.rw;omega) (by show s.rw<=_;omega),ze3 (by show 0<=s.rf;omega) (by show s.rf<=_;omega),ze3 (by show 0<=s.fin;omega) (by show s.fin<=_;omega)⟩;show(zaP (zan s.name)).length<=_;have h4:=zd2 (zan s.name);have h5:=zjb (k:=100) (l:=(zan s.name).map List.length) (fun x hx=>by obtain⟨l,hl',rfl⟩:=List.mem_map.1 hx;exact hl l hl');rw[ylm]at h5;have h6:=hf.len;unfold zaP
 split
 ·simp
 ·omega
theorem zfq{N:NetL}{q:Nm}(hN:zbB N)(hq:zcc q=true):∀s∈zb3 N q,GoodSt N s:=fun s hs=>by
 obtain⟨r,hr,rfl⟩:=List.mem_map.1 hs;obtain⟨h1,h2⟩:=hN.rin r hr;exact⟨h1,h2,hq,Int.le_refl _,hN.w.1,Int.le_refl _,hN.f.1,Int.le_refl _,by show(0:Int)<=9;decide⟩
structure EndAt(w:World)(cs:List Value)(x:Int×List Int):Prop where
 ex:∃pv,cs=[vi x.1,pv]/\Row w pv (x.2.map vi)
theorem EndAt.ext{w x:World}{cs:List Value}{e:Int×List Int}(h:EndAt w cs e)(hE:Ext w x):EndAt x cs e:=by
 obtain⟨pv,e1,h1⟩:=h.ex;exact⟨pv,e1,h1.ext hE⟩
theorem zhU(w:World):zdX 2 (EndAt w):=⟨fun h=>by obtain⟨pv,rfl,_⟩:=h.ex;rfl,fun h=>by obtain⟨pv,rfl,h1⟩:=h.ex;exact zc6 rfl h1.isOne⟩
theorem zln{N:NetL}{s:zar}{t:Int}(hN:zbB N)(hs:GoodSt N s):(zcS N s t).length<=2000000:=next_len hN.z (zb9 hs.nm).m
theorem zkz{w0 w:World}(hE0:Ext w0 w){cs:List Value}{N:NetL}{qv:Value}{q:Nm}{t:Int}(hN:NetAt w0 cs N)(hG:zbB N)(hq:Row w qv (q.map vs))(hgq:zcc q=true):
  Fn Tryz.prog 35 #[.agg cs.toArray,qv,vi t] w (fun v w'=>Ext w w'/\((4096<(zkc N q t).length/\v= .tuple #[.slice .none 0 0,vi 0,vi 11])\/
   ((zkc N q t).length<=4096/\∃ev,v= .tuple #[ev,vi (zkc N q t).length,vi 0]/\Rows 2 (EndAt w') w' ev (endsL (zkc N q t))))):=by
 have hN0:=hN;obtain⟨hsv,rv,rfl,hh,hr⟩:=hN.ex;obtain⟨ah,ch,hhv,_⟩:=hh.open;obtain⟨ar0,cr0,hrv,_⟩:=id hr;refine enter Tryz.func35 Tryz.ntmps35 rfl rfl ?_;repeat refine c_r ?_
 rw[hhv,hrv];refine go trivial ?_;rw[←hhv,←hrv];refine zaw ?_;intro w1 hE1 hs1 hA;refine rq ?_;intro gd K hgd hK;try simp only[go_sem]
 refine⟨by kernel_rfl,?_⟩;rw[show bdV Tryz.prog 161 [(0,.map (some w1.heap.size))]=some (.agg #[.map (some w1.heap.size),.slice .none 0 0]) from by kernel_rfl];try simp only[go_sem]
 apply hK;rw[zai];refine go trivial ?_;refine zaF ?_;intro w2 hE2 hs2 hM hB;have dN:zao w2 (some ⟨w.heap.size,0,.none⟩) 4=some [hsv,rv,vi N.rw,vi N.rf]:=zaf (Ext.at hE2 hA) rfl;obtain⟨m,hm⟩:∃m,w1.heap.size=m:=⟨_,rfl⟩;rw[hm]at hM hB hs2 ⊢;have hI2:SetI w1 w2 (m+1) m (.slice .none 0 0) []:=⟨hB,⟨_,_,hM,rfl⟩,Owns.nil _ _ _ _ _,hE2,by omega,by omega,by omega,(fun e=>by cases e),(fun e=>by cases e)⟩;clear hB hM;have hE02:=hE0.trans (hE1.trans hE2);refine go trivial ?_;have hmq:=zb9 hgq;refine rc dN (zif hE02 hN0 hG.z.rl (hq.ext (hE1.trans hE2))) ?_;rintro sv w3 ⟨hE3,hsb,_,rfl,hsr,hsn⟩;have hI3:=hI2.ext hE3;have hSw:∀i,setB (m+1) m (.slice .none 0 0) i->w1.heap.size<=i/\i<w2.heap.size:=fun i hi=>hI2.lt hi;have hsl:(zb3 N q).length<=1000:=by have:=hG.z.rl;unfold zb3 zc9;rw[ylm];exact this
 refine rd trivial (zls (L:=zb3 N q) (p:=[]) hI3 ⟨⟨.none,0,rfl,ynl _,fun j h=>by simp at h⟩,fun h=>absurd rfl h⟩ (by decide) hsr (fun a n c e=>by
  obtain⟨k1,k2⟩:=hsb a n c e;exact⟨k2,fun hj=>by have:=hSw _ hj;omega⟩) (fun s hs=>by
  have:s.name=q:=by obtain⟨r,_,rfl⟩:=List.mem_map.1 hs;rfl
  rw[this];exact RowY.old hq (hE1.trans (hE2.trans hE3)) fun b hb=>by have:=hSw _ hb;have:=hE1.size;omega) (fun s hs=>zgU hG (zfq hG hgq s hs)) (fun y hy=>by cases hy) (by simp;omega)) ?_
 rintro _ w4 ⟨lv,hI4,hk4,hS4⟩;refine rgo trivial ?_;have hR0:RowG N 1 (zcs [] 0 [] (zb3 N q)):=RowG.meet ⟨fun y hy=>(by cases hy),fun y hy=>(by cases hy)⟩ (by simp) (zfq hG hgq);have hl0:(zcs [] 0 [] (zb3 N q)).length<=1000:=by have:=zec (p:=[]) (k:=0) (L:=zb3 N q) (row:=[]);simp at this;omega
 obtain⟨F,hF⟩:∃F,zkc N q t=F:=⟨_,rfl⟩;rw[hF];have hA4:w4.heap[w.heap.size]? =some (.cells #[hsv,rv,vi N.rw,vi N.rf] 25 (0,0)):=Ext.at (hI4.e) hA;have hqo:∀{v lv':_} {row:List MetL},SetI w1 v (m+1) m lv' row->zao v (some ⟨w.heap.size,0,.none⟩) 4=some [hsv,rv,vi N.rw,vi N.rf]:=fun h=>zaf (Ext.at h.e hA) rfl;refine zay (Q:=fun e σ' ds' v=>e= .exit 0/\ds'=[]/\(σ' 9= .pointer (some ⟨m+1,0,.none⟩))/\∃lv,SetI w1 v (m+1) m lv F/\RowG N 5000 F/\F.length<=2100000) ?_ ?_
 ·refine zap (fun mm σ ds v=>ds=[]/\∃(i:Nat) (lv:Value) (row:List MetL),i+mm=4098/\(σ 10=vi i/\σ 9= .pointer (some ⟨m+1,0,.none⟩)/\σ 3= .pointer (some ⟨w.heap.size,0,.none⟩)/\σ 2=vi t)/\SetI w1 v (m+1) m lv row/\RowG N (i+1) row/\row.length<=2100000/\ziM N t (4097 - i) i row=F) 4098 ?_ ?_
  ·exact⟨rfl,0,lv,_,by omega,⟨vr0,vq0,vq0,vq0⟩,hI4,hR0,by omega,hF⟩
  rintro mm σ ds v ⟨rfl,i,lv1,row,him,s,hI,hRG,hrl,hFe⟩;obtain⟨al,cl,rfl,_,hgl⟩:=hI.o.rows.open;have c1:zad v (some ⟨m+1,1,.none⟩)=some (.slice al row.length cl):=zab (i:=1) hI.c rfl;by_cases hi:i<row.length
  rotate_left
  ·have hFr:row=F:=by
    rw[←hFe];cases hf:4097 - i with
    |zero=>rfl
    |succ f=>unfold ziM;rw[List.getElem?_eq_none (by omega)]
   have hd:decide ((i:Int)<(row.length:Int))=false:=yef (by omega);refine go trivial ?_;refine rgg [(7,35)] (an3 s c1 hd) ?_;refine go trivial ?_;rw[←hFr];exact⟨rfl,rfl,vq1 s,_,hI,hRG.mono (by omega),hrl⟩
  have hd:decide ((i:Int)<(row.length:Int))=true:=yet (by omega);by_cases hm4:row.length<=4096
  rotate_left
  ·have hFr:row=F:=by
    rw[←hFe];cases hf:4097 - i with
    |zero=>rfl
    |succ f=>unfold ziM;rw[List.getElem?_eq_getElem hi];simp only[];rw[if_neg hm4]
   have hd2:decide ((row.length:Int)<=4096)=false:=yef (by omega);refine go trivial ?_;refine rgg [(7,35)] (an4 s c1 hd hd2) ?_;refine go trivial ?_;rw[←hFr];exact⟨rfl,rfl,vq1 s,_,hI,hRG.mono (by omega),hrl⟩
  have hd2:decide ((row.length:Int)<=4096)=true:=yet (by omega);obtain⟨f,hf⟩:∃f,4097 - i=f+1:=⟨4096 - i,by omega⟩;obtain⟨cs7,hcs,hMt⟩:=hgl i hi;have hmem:=List.getElem_mem hi;have hFn:ziM N t f (i+1) (zcs row[i].2 0 row (zcS N row[i].1 t))=F:=by
   rw[←hFe,hf]
   conv=>rhs;unfold ziM
   rw[List.getElem?_eq_getElem hi];simp only[];rw[if_pos hm4]
  obtain⟨X,hX⟩:∃X,row[i]=X:=⟨_,rfl⟩;rw[hX]at hMt hmem hFn;have gX:=hRG.g X hmem;have pX:=hRG.p X hmem;obtain⟨nv,pv,rfl,hnv,hpv⟩:=id hMt.ex;obtain⟨xa,rfl⟩:=yxs (zak hcs);obtain⟨xi,hxi⟩:∃xi,adr (some xa) (i*7)=some xi:=⟨_,rfl⟩;rw[hxi]at hcs;have hz0:adr (some xi) 0=some xi:=zaj _;obtain⟨x6,hx6⟩:∃x,adr (some xi) 6=some x:=⟨_,rfl⟩;have g6:=zah (j:=6) hcs rfl;rw[hx6]at g6;have gS:=zch (m:=6) (k:=1) hcs;rw[show (stV nv X.1++ [pv]).take 6=stV nv X.1 from rfl]at gS;have hi0:=cj i;have hi1:(i:Int)<(row.length:Int):=by omega
  have hi1':=ci i;have dN':=hqo hI;have hnl:=zln (t:=t) hG gX;refine go trivial ?_;refine rgg [(7,35)] (an4 s c1 hd hd2) ?_;refine go trivial ?_;refine zay (Q:=fun e σ' ds' v'=>e= .normal/\ds'=[]/\(σ' 10=vi i/\σ' 9= .pointer (some ⟨m+1,0,.none⟩)/\σ' 3= .pointer (some ⟨w.heap.size,0,.none⟩)/\σ' 2=vi t)/\∃lv',SetI w1 v' (m+1) m lv' (zcs X.2 0 row (zcS N X.1 t))) ?_ ?_
  ·refine zaJ (fun i=>i==20) [(0,true),(1,true),(2,true),(3,true),(4,true),(5,true),(6,true),(7,true),(8,true),(9,true),(10,true),(11,true),(12,true),(13,true),(14,true),(15,true),(16,true),(17,true),(18,true),(19,false),(20,false)] NoS mixed (by kernel_rfl) ?_;intro gd K x hgd hx hxe hK;clear hxe;have c1x:=zaa hx c1;have g6x:=zaa hx g6;have gSx:=zac hx gS;have dNx:=zac hx dN';unfold stV at gSx;refine sgz (az2 (az7 s c1x g6x gSx dNx hxi hz0) (az3 hx6 hi0 hi1)) ?_;have hE0x:=hE0.trans (hE1.trans (hI.e.trans hx));refine Fn.mono (zjP (t:=t) hE0x hN0 hG.z (hnv.1.ext hx) (gX.b hG)) ?_;rintro sv2 y ⟨hy,hsb2,u,hok,hsr2,hsn2⟩;refine⟨.inr hy,?_⟩;refine sg0 ?_;have hIy:=hI.ext (hx.trans hy);have hSx:∀j,setB (m+1) m (.slice (some xa) row.length cl) j->w1.heap.size<=j/\j<x.heap.size:=fun j hj=>(hI.ext hx).lt hj;have kx:Keep (setB (m+1) m (.slice (some xa) row.length cl)) v y:=(hx.trans hy).mono fun _ _ h=>h.elim;refine Fn.mono (zls (L:=zcS N X.1 t) (p:=X.2) hIy (hpv.turn kx fun _ h=> .inl h) (by omega) hsr2 (fun a n c e=>by
    obtain⟨k1,k2⟩:=hsb2 a n c e;exact⟨k2,fun hj=>by have:=hSx _ hj;omega⟩) (fun s' hs'=>?_) (fun s' hs'=>zgU hG (zhE hG gX hs').2.g) (fun y' hy'=>(zgU hG (hRG.g y' hy')).k) (by omega)) ?_
   ·rcases hok with rfl|hok| ⟨l,hl⟩
    ·exact(hnv.turn kx fun _ h=> .inl h).alike (hsn2 s' hs')
    ·refine⟨hsn2 s' hs',fun _ a n c e=>?_⟩;obtain⟨k1,k2⟩:=hok a n c e;exact⟨k2,fun hj=>by have:=hSx _ hj;omega⟩
    ·exact(RowY.old hl (hE0x.trans hy) fun j hj=>by have:=(hSx j hj).1;have:=(hE0.trans hE1).size;omega).alike (hsn2 s' hs')
   rintro _ z ⟨lv2,hI2',_,_⟩;refine⟨.inl rfl,?_⟩;refine sg0 ?_;apply hK;exact⟨rfl,rfl,sc s,lv2,hI2'⟩
  clear s;rintro _ σ1 _ v1 ⟨rfl,rfl,s,lv2,hI2'⟩;have hml:=zec (p:=X.2) (k:=0) (L:=zcS N X.1 t) (row:=row);refine go (an2 s hi1') ?_;exact⟨mm - 1,by omega,rfl,i+1,lv2,_,by omega,sc (an2 s hi1'),hI2',(hRG.mono (j:=i+1+1) (by omega)).meet (by omega) (fun s hs=>(zhE hG gX hs).2.g),by omega,by rw[show 4097 - (i+1)=f by omega];exact hFn⟩
 rintro _ σ _ v ⟨rfl,rfl,s9,lv5,hI5,hRF,hFl⟩;obtain⟨al,cl,rfl,_,hgl⟩:=hI5.o.rows.open;have c1:zad v (some ⟨m+1,1,.none⟩)=some (.slice al F.length cl):=zab (i:=1) hI5.c rfl;have hEwv:Ext w v:=hE1.trans hI5.e;refine go trivial ?_;by_cases h4:(F.length:Int)>4096
 ·refine go (an4 s9 c1 (yet h4) yn0) ?_;refine zas (.inr rfl) Tryz.ntmps35 rfl (zal (v:= .slice .none 0 0) vr0 (zal (v:=vi 0) vr0 (zal (v:=vi 11) vr0 zaq))) ?_;exact⟨hEwv,.inl ⟨by omega,rfl⟩⟩
 refine go (an4 s9 c1 (yef h4) yn0) ?_;refine zaw ?_;intro v1 hEm hsm hMp;obtain⟨mp,hmp⟩:∃mp,v.heap.size=mp:=⟨_,rfl⟩;rw[hmp]at hMp hsm ⊢;have c1m:=zaa hEm c1;refine go (an2 s9 c1m) ?_;have hEI0:EndI v ([]:List MetL) []:=⟨fun e he=>(by cases he),fun x hx=>(by cases hx)⟩;have hG0:GM v1 mp (([]:List (Value×MetL)).map entE):=⟨_,_,hMp,rfl⟩;refine zay (Q:=fun e σ' ds' x=>e= .exit 2/\ds'=[]/\(σ' 11= .map (some mp)/\σ' 9= .pointer (some ⟨m+1,0,.none⟩))/\∃E,Ext v x/\EndI v F E/\GM x mp (E.map entE)) ?_ ?_
 ·refine zic F.length (fun i σ x=>(σ 78=vi i/\σ 77=vi F.length/\σ 76= .slice al F.length cl/\σ 11= .map (some mp)/\σ 9= .pointer (some ⟨m+1,0,.none⟩))/\∃E,Ext v x/\EndI v (F.take i) E/\GM x mp (E.map entE)) ?_ ?_ ?_
  ·exact⟨⟨vr0,vq0,vq0,vq0,vq1 s9⟩,[],hEm,hEI0,hG0⟩
  ·rintro i σ X hi q ⟨s,E,hEX,hEI,hGM⟩;obtain⟨cs7,hcs,hMt⟩:=hgl i hi;replace hcs:=zac hEX hcs;obtain⟨nv,pv,rfl,hnv,hpv⟩:=id hMt.ex;have hone:=hMt.ones;have hpX:=hpv.1;obtain⟨xa,rfl⟩:=yxs (zak hcs);obtain⟨xi,hxi⟩:∃xi,adr (some xa) (i*7)=some xi:=⟨_,rfl⟩;rw[hxi]at hcs;have htk:F.take (i+1)=F.take i++ [F[i]]:=zam hi;obtain⟨S,hS⟩:∃S,F[i]=S:=⟨_,rfl⟩;rw[hS]at htk hcs hpX hone;refine go (an3 s q hxi) ?_;refine rq ?_;intro gd K hgd hK;replace hcs:zao X (some xi) 7=some [vi S.1.sv,nv,vi S.1.rw,vi S.1.rf,.bool S.1.ref,vi S.1.fin,pv]:=hcs;refine sgz (az4 s q hxi hcs) ?_;refine zaV (P:=Tryz.prog) (l:=stV nv S.1++ [pv]) rfl hone.2 rfl rfl ?_;intro X1 hX1 hs1 hC;try simp only[go_sem]
   apply hK;obtain⟨c7,hc7⟩:∃c,X.heap.size=c:=⟨_,rfl⟩;rw[hc7]at hC ⊢;have g5:zad X1 (some ⟨c7,5,.none⟩)=some (vi S.1.fin):=zab (i:=5) hC rfl;have g6:zad X1 (some ⟨c7,6,.none⟩)=some pv:=zab (i:=6) hC rfl;have hEX1:=hEX.trans hX1;replace hGM:=hGM.block (hX1.block _ hGM.lt (fun h=>h));clear hcs hxi hC hMt hnv hpv;have hgk:∀p∈E.map entE,∃n,p.1= .int .i64 n:=fun p hp=>by obtain⟨e,_,rfl⟩:=List.mem_map.1 hp;exact⟨_,rfl⟩
   refine go trivial ?_;refine rq ?_;intro gd K hgd hK;refine sgz g5 ?_;refine zgH (key:=vi S.1.fin) (z:= .agg #[vi 0,.slice .none 0 0]) (MKey.int (kd:= .i64) rfl) rfl rfl rfl ((vq1 s)) vr0 hGM ⟨_,rfl⟩ hgk (fun hno=>?_) (fun u hu=>?_)
   ·have hn:∀e∈E,e.2.1.fin≠S.1.fin:=fun e he h0=>hno _ (List.mem_map.2 ⟨e,he,rfl⟩) (by unfold entE;rw[h0]);try simp only[go_sem]
    refine zaV (P:=Tryz.prog) (l:=[vi 0,.slice .none 0 0]) rfl (fun q hq=>by simp at hq;rcases hq with rfl|rfl<;>rfl) rfl rfl ?_;intro X2 hX2 hs2 hC2;try simp only[go_sem]
    apply hK;have e5:=zaa hX2 g5;have e6:=zaa hX2 g6;have hEX2:=hEX1.trans hX2;have hGM2:=hGM.block (hX2.block _ hGM.lt (fun h=>h));clear hC2;by_cases hf:S.1.fin=0
    ·refine go trivial ?_;refine rgg [(2,92)] (an2 e5 (yet hf)) ?_;refine go trivial ?_;refine go (an2 s q) ?_;exact⟨rfl,sc (an2 s q),E,hEX2,by rw[htk];exact hEI.keep (.inl hf),hGM2⟩
    ·refine go trivial ?_;refine rgg [(2,92)] (an2 e5 (yef hf)) ?_;refine go trivial ?_;obtain⟨ap,cp,rfl,_⟩:=id hpX;have kbd:∀(n:Int) (l c:Nat),bdV Tryz.prog 91 [(0,vi n),(1,.slice ap l c)]=some (.agg #[vi n,.slice ap l c]):=fun n l c=>by kernel_rfl
     refine rq ?_;intro gd K hgd hK;refine sgz (az3 s e5 e6) ?_;refine⟨by kernel_rfl,?_⟩;rw[kbd];refine sgz (az3 s e5 e6) ?_;refine zld (key:=vi S.1.fin) (v:= .agg #[vi S.1.fin,.slice ap (S.2.map vi).length cp]) (MKey.int (kd:= .i64) rfl) rfl ((vq1 s)) vr0 vr0 hGM2 ⟨_,rfl⟩ hgk (fun p hp h0=>by
      obtain⟨e,he,rfl⟩:=List.mem_map.1 hp;injection h0 with _ h0
      exact hn e he h0) ?_
     intro X3 hg3 hk3 hs3;try simp only[go_sem]
     apply hK;refine go (an2 s q) ?_;exact⟨rfl,sc (an2 s q),E++ [(_,S)],Keep.to_ext hEX2 rfl (fun i hi=>by omega) hk3,by rw[htk];exact hEI.add hf hn hpX,by rw[List.map_append];exact hg3⟩
   ·obtain⟨e,he,hee⟩:=List.mem_map.1 hu;unfold entE at hee;simp only[Prod.mk.injEq]at hee;obtain⟨h1,rfl⟩:=hee;have h1:e.2.1.fin=S.1.fin:=by injection h1
    try simp only[go_sem]
    refine zaV (P:=Tryz.prog) (l:=[vi e.2.1.fin,e.1]) rfl (fun q hq=>by simp at hq;rcases hq with rfl|rfl;exact rfl;exact(hEI.a e he).2.2.isOne) rfl rfl ?_;intro X2 hX2 hs2 hC2;try simp only[go_sem]
    apply hK;have hEX2:=hEX1.trans hX2;have hGM2:=hGM.block (hX2.block _ hGM.lt (fun h=>h));clear hC2;refine go trivial ?_;refine rgg [(2,92)] trivial ?_;refine go trivial ?_;refine go (an2 s q) ?_;exact⟨rfl,sc (an2 s q),E,hEX2,by rw[htk];exact hEI.keep (.inr ⟨e,he,h1⟩),hGM2⟩
  ·rintro σ x q ⟨s,E,hEX,hEI,hGM⟩;refine go (an2 s q) ?_;rw[List.take_length]at hEI;exact⟨rfl,rfl,sc s,E,hEX,hEI,hGM⟩
 clear s9;rintro _ σ2 _ v2 ⟨rfl,rfl,s,E,hEX,hEI,hGM⟩;have hEv2:=hEX.size;refine go s ?_;refine zay (Q:=fun e σ' ds' x=>e= .exit 4/\ds'=[]/\(σ' 9= .pointer (some ⟨m+1,0,.none⟩))/\∃ev,σ' 16=ev/\Ext v2 x/\Owns 2 (EndAt v) v2.heap.size x 91 ev (endsL F)) ?_ ?_
 ·refine zic 9 (fun i σ x=>(σ 17=vi ((i+1:Nat):Int)/\σ 11= .map (some mp)/\σ 9= .pointer (some ⟨m+1,0,.none⟩))/\∃ev,σ 16=ev/\Ext v2 x/\Owns 2 (EndAt v) v2.heap.size x 91 ev (ziP F i)) ?_ ?_ ?_
  ·exact⟨⟨vr0,vq1 s,vq1 s⟩,.slice .none 0 0,vr0,Keep.refl _ _,Owns.nil _ _ _ _ _⟩
  ·rintro i σ x hi _ ⟨s,ev,h16,hEx,ho⟩;have hd:decide (((i+1:Nat):Int)<=9)=true:=yet (by omega);have hi1:((i+1:Nat):Int)+1=((i+1+1:Nat):Int):=by push_cast;rfl
   have hGMx:=hGM.block (hEx.block _ hGM.lt (fun h=>h));have hgk:∀p∈E.map entE,∃n,p.1= .int .i64 n:=fun p hp=>by obtain⟨e,_,rfl⟩:=List.mem_map.1 hp;exact⟨_,rfl⟩
   refine go (an3 s h16 hd) ?_;refine rq ?_;intro gd K hgd hK;refine sgz s ?_;refine zgH (key:=vi ((i+1:Nat):Int)) (z:= .agg #[vi 0,.slice .none 0 0]) (MKey.int (kd:= .i64) rfl) rfl rfl rfl ((vq1 s)) vr0 hGMx ⟨_,rfl⟩ hgk (fun hno=>?_) (fun u hu=>?_)
   ·have hn:∀e∈E,e.2.1.fin≠((i+1:Nat):Int):=fun e he h0=>hno _ (List.mem_map.2 ⟨e,he,rfl⟩) (by unfold entE;rw[h0]);try simp only[go_sem]
    refine zaV (P:=Tryz.prog) (l:=[vi 0,.slice .none 0 0]) rfl (fun q hq=>by simp at hq;rcases hq with rfl|rfl<;>rfl) rfl rfl ?_;intro y hy hsy hC;try simp only[go_sem]
    apply hK;refine go trivial ?_;refine go (an3 s h16 hi1) ?_;exact⟨rfl,sc (an2 s hi1),ev,vq1 h16,hEx.trans hy,by rw[zgm,hEI.no (by omega) hn];simpa using ho.ext hy⟩
   ·obtain⟨e,he,hee⟩:=List.mem_map.1 hu;unfold entE at hee;simp only[Prod.mk.injEq]at hee;obtain⟨h1,rfl⟩:=hee;have h1:e.2.1.fin=((i+1:Nat):Int):=by injection h1
    obtain⟨hf,h0,hrw⟩:=hEI.a e he;try simp only[go_sem]
    refine zaV (P:=Tryz.prog) (l:=[vi e.2.1.fin,e.1]) rfl (fun q hq=>by simp at hq;rcases hq with rfl|rfl;exact rfl;exact hrw.isOne) rfl rfl ?_;intro y hy hsy hC;try simp only[go_sem]
    apply hK;obtain⟨c9,hc9⟩:∃c,x.heap.size=c:=⟨_,rfl⟩;rw[hc9]at hC ⊢;have dE:zao y (some ⟨c9,0,.none⟩) 2=some [vi e.2.1.fin,e.1]:=zaf hC rfl;have hEA:EndAt v [vi e.2.1.fin,e.1] (((i+1:Nat):Int),e.2.2):=⟨e.1,by rw[h1],hrw⟩;refine go trivial ?_;refine rq ?_;intro gd K hgd hK;refine sgz (az3 s h16 dE) ?_;refine zaN (zhU v) rfl rfl rfl rfl hEA (by decide) ?_;intro y2 hE2 hs2 ho2;try simp only[go_sem]
    refine zaG (zhU v) ((ho.ext hy).ext hE2) ho2.rows rfl rfl rfl rfl rfl rfl (by decide) ((vq1 h16)) vr0 (by have:=zlX F i;rw[List.length_singleton];omega) (by decide) (by have:=hEx.size;have:=hy.size;omega) ?_;intro u y3 ho3 hE3 hk3 hb3;try simp only[go_sem]
    apply hK;refine go (an2 s hi1) ?_;exact⟨rfl,sc (an2 s hi1),u,vr0,hE3 v2 ((hEx.trans hy).trans hE2) (ynl _),by rw[zgm,show zdJ F ((i+1:Nat):Int)=some e.2 by rw[←h1];exact hf];exact ho3⟩
  ·rintro σ x _ ⟨s,ev,h16,hEx,ho⟩;have hd:decide (((9+1:Nat):Int)<=9)=false:=by decide
   refine go (an2 s hd) ?_;exact⟨rfl,rfl,sc s,ev,vq1 h16,hEx,ho⟩
 clear s;rintro _ σ3 _ v3 ⟨rfl,rfl,s,ev,h16,hE3,ho⟩;have hEv3:=hEX.trans hE3;have c13:=zaa hEv3 c1;refine go trivial ?_;refine zaJ (fun _=>false) [(0,true),(1,true),(2,true),(3,true),(4,true),(5,true),(6,true),(7,true),(8,true)] NoS mixed (by kernel_rfl) ?_;intro gd K x hgd hx hxe hK;have hx0:=zej hxe;clear hxe;have c1x:=zaa hx c13;refine sgz (az4 s h16 c1x yn0) ?_;apply hK;refine go trivial ?_
 refine zas (.inr rfl) Tryz.ntmps35 rfl (zal (v:=ev) vr0 (zal (v:=vi F.length) vr0 (zal (v:=vi 0) vr0 zaq))) ?_;exact⟨hEwv.trans (hEv3.trans hx),.inr ⟨by omega,ev,rfl,((ho.ext hx).to fun _ _ h=>h.ext (hEv3.trans hx)).rows⟩⟩
theorem optL_of{o:Option Value}{v:Value}{w:World}{K:Value->World->Prop}{F:Prop}{m:Lck K F}(h:o=some v)(hK:K v w):optL o w K F m:=by
 subst h;rw[zhx];exact hK
theorem zmx(w:World):Fn Tryz.prog 193 #[.int .u64 1] w (fun v w'=>v=vi 1/\w'=w):=by
 refine enter Tryz.func193 Tryz.ntmps193 rfl rfl ?_;refine go (an3 (show decide ((1:Int)>=4294967296)=false from rfl) (show decide ((1:Int)>=65536)=false from rfl) (show decide ((1:Int)>=256)=false from rfl)) ?_;refine rq ?_;intro gd K hgd hK;try simp only[go_sem]
 refine optL_of (v:= .int .u8 1) (by kernel_rfl) ?_;try simp only[go_sem]
 apply hK;refine go trivial ?_;refine rt0 Tryz.ntmps193 ?_;exact⟨rfl,rfl⟩
theorem BLen_one(w:World):Fn Tryz.prog 145 #[.int .u64 1] w (fun v w'=>v=vi 1/\w'=w):=by
 refine enter Tryz.func145 Tryz.ntmps145 rfl rfl ?_;refine go trivial ?_;refine rc trivial (zmx w) ?_;rintro _ _ ⟨rfl,rfl⟩;refine rgo trivial ?_;refine rt0 Tryz.ntmps145 ?_;exact⟨rfl,rfl⟩
theorem ins_one(w:World)(a:Option Addr)(c:Nat):Fn Tryz.prog 183 #[.slice a 1 c,vi 0,vi 1] w (fun _ w'=>w'=w):=by
 refine enter Tryz.func183 Tryz.ntmps183 rfl rfl ?_;refine go trivial ?_;refine zic 0 (fun _ σ v=>(σ 6=vi 1/\σ 2=vi 1)/\v=w) ⟨⟨vr0,vq0⟩,rfl⟩ (fun i _ _ h=>absurd h (by omega)) ?_;rintro σ v _ ⟨s,rfl⟩;refine go (an2 s (show decide ((1:Int)<1)=false from rfl)) ?_;exact zaA (by simp) rfl rfl
theorem pdq_one(w:World)(a:Option Addr)(c:Nat):Fn Tryz.prog 144 #[.slice a 1 c,vi 0,vi 1,vi 1] w (fun _ w'=>w'=w):=by
 refine enter Tryz.func144 Tryz.ntmps144 rfl rfl ?_;refine go trivial ?_;refine zic 0 (fun _ σ v=>(σ 0= .slice a 1 c/\σ 1=vi 0/\σ 2=vi 1)/\v=w) ⟨⟨vq0,vq0,vq0⟩,rfl⟩ (fun i _ _ h=>absurd h (by omega)) ?_;rintro σ v _ ⟨s,rfl⟩;refine go (an3 s (show(1:Int) - 0=1 from rfl) (show decide ((1:Int)<=12)=true from rfl)) ?_;refine rc s (ins_one _ a c) ?_;rintro _ _ rfl;refine rgo trivial ?_;exact zaA (by simp) rfl rfl
theorem Sort_one(w:World)(a:Option Addr)(c:Nat):Fn Tryz.prog 89 #[.slice a 1 c] w (fun _ w'=>w'=w):=by
 refine enter Tryz.func89 Tryz.ntmps89 rfl rfl ?_;refine go trivial ?_;refine rc trivial (BLen_one w) ?_;rintro _ _ ⟨rfl,rfl⟩;refine rd trivial (pdq_one _ a c) ?_;rintro _ _ rfl;refine rgo trivial ?_;exact zaA (by simp) rfl rfl
theorem zmz{w:World}{ev:Value}{k:Int}{p:List Int}(h:Rows 2 (EndAt w) w ev [(k,p)]):Fn Tryz.prog 39 #[ev] w (fun v w'=>Row w' v [vi k]/\Ext w w'):=by
 obtain⟨a,c,rfl,_,hg⟩:=h.open;obtain⟨cs,hcs,hE⟩:=hg 0 (by simp);obtain⟨pv,rfl,hp⟩:=hE.ex;replace hcs:zao w (adr a (0*2)) 2=some [vi k,pv]:=hcs;obtain⟨xa,rfl⟩:=yxs (zak hcs);rw[List.length_singleton];refine enter Tryz.func39 Tryz.ntmps39 rfl rfl ?_;refine go trivial ?_;refine zay (Q:=fun e σ' ds' x=>e= .exit 0/\ds'=[]/\∃kv,σ' 3=kv/\Ext w x/\Own w.heap.size x 3 kv [vi k]) ?_ ?_
 ·refine zic 1 (fun i σ x=>(σ 8=vi i/\σ 7=vi ((1:Nat):Int)/\σ 6= .slice (some xa) 1 c)/\∃kv,σ 3=kv/\Ext w x/\Own w.heap.size x 3 kv (if i=0 then [] else [vi k])) ?_ ?_ ?_
  ·exact⟨⟨vr0,vq0,vq0⟩,.slice .none 0 0,vr0,Keep.refl _ _,Own.nil _ _ _⟩
  ·rintro i σ x hi q ⟨s,kv,h3,hEx,ho⟩;have hi0:i=0:=by omega
   have hcx:zao x (adr (some xa) (i*2)) 2=some [vi k,pv]:=by rw[hi0];exact zac hEx hcs
   rw[if_pos hi0]at ho;obtain⟨xi,hxi⟩:∃xi,adr (some xa) (i*2)=some xi:=⟨_,rfl⟩;rw[hxi]at hcx;refine go (an3 s q hxi) ?_;refine rq ?_;intro gd K hgd hK;refine sgz (az4 s q hxi hcx) ?_;refine zaV (P:=Tryz.prog) (l:=[vi k,pv]) rfl (zc6 rfl hp.isOne) rfl rfl ?_;intro y hEy hsy hC;try simp only[go_sem]
   apply hK;obtain⟨c5,hc5⟩:∃c,x.heap.size=c:=⟨_,rfl⟩;rw[hc5]at hC ⊢;have g0:zad y (some ⟨c5,0,.none⟩)=some (vi k):=zab (i:=0) hC rfl;refine go trivial ?_;refine rq ?_;intro gd K hgd hK;refine sgz (az2 h3 g0) ?_;refine zdK rfl rfl rfl rfl rfl ?_;intro y2 hE2 hs2 ho2;refine sgz h3 ?_;refine zc2 ((ho.ext hEy).ext hE2) ho2.row rfl rfl rfl rfl rfl rfl ((vq1 h3)) vr0 (fun q hq=>by rw[List.mem_singleton.1 hq];rfl) (by simp) (by decide) (by have:=hEx.size;have:=hEy.size;omega) ?_;intro u y3 ho3 hE3 hk3 hb3;try simp only[go_sem]
   apply hK;refine go (an2 s q) ?_;exact⟨rfl,sc (an2 s q),u,vr0,hE3 w ((hEx.trans hEy).trans hE2) (ynl _),ho3⟩
  ·rintro σ x q ⟨s,kv,h3,hEx,ho⟩;refine go (an2 s q) ?_;exact⟨rfl,rfl,kv,vq1 h3,hEx,ho⟩
 rintro _ σ _ x ⟨rfl,rfl,kv,h3,hEx,ho⟩;obtain⟨ak,ck,rfl,hck,hgk⟩:=ho.row;refine go trivial ?_;refine rc h3 (Sort_one x ak ck) ?_;rintro _ _ rfl;refine rgo trivial ?_;refine rc h3 (P_ci.Clip_ok hck) ?_;rintro _ _ ⟨rfl,rfl⟩;refine rgo trivial ?_;refine rt0 Tryz.ntmps39 ?_;exact⟨⟨ak,1,rfl,ynl _,hgk⟩,hEx⟩
def stZ:zar:=⟨0,[],0,0,false,0⟩
def zbI(N:NetL)(t:Int):List Int->List zar->List (zar×Bool)
 | [],_=>[]
 |c::cs,row=>if c<0 then [(stZ,false)] else match row[c.toNat]? with
  |some s=>(s,true)::zbI N t cs (zcS N s t)
  | .none=>[(stZ,false)]
def zcb(N:NetL)(q:Nm)(t:Int)(ch:List Int):zar×Bool:=(zbI N t ch (zb3 N q)).getLastD (stZ,false)
def encP(C:Nat->Prop)(n0 ws:Nat)(x:zar×Bool)(U:Nat->Prop)(A:World)(args:Array Value):Prop:=∃nv,args=#[.agg (stV nv x.1).toArray,.bool x.2]/\RowY (fun b=>(C b\/(n0<=b/\b<ws))\/U b) A nv (x.1.name.map vs)
theorem zht{N:NetL}{t c:Int}{cs:List Int}{row:List zar}(h:c<0\/(row.length:Int)<=c):zbI N t (c::cs) row=[(stZ,false)]:=by
 unfold zbI;by_cases h0:c<0
 ·rw[if_pos h0]
 ·rw[if_neg h0,List.getElem?_eq_none (by omega)]
theorem zhu{N:NetL}{t:Int}{cs:List Int}{row:List zar}{c:Nat}(h:c<row.length):zbI N t ((c:Int)::cs) row=(row[c],true)::zbI N t cs (zcS N row[c] t):=by
 conv=>lhs;unfold zbI
 rw[if_neg (by omega),Int.toNat_natCast,List.getElem?_eq_getElem h]
theorem playsIt{w0 w1 W0:World}{C:Nat->Prop}{bn bq bc bt:Nat}{cs:List Value}{N:NetL}{qv cv:Value}{q:Nm}{ch:List Int}{t:Int}(hE01:Ext w0 w1)(hE1:Ext w1 W0)
  (hbn:W0.heap[bn]? =some (.cells cs.toArray 25 (0,0))) (hbq:W0.heap[bq]? =some (.cells #[qv] 27 (0,0))) (hbc:W0.heap[bc]? =some (.cells #[cv] 23 (0,0))) (hbt:W0.heap[bt]? =some (.cells #[vi t] 3 (0,0)))
  (hC:∀b,C b->w1.heap.size<=b/\b<W0.heap.size) (hCb:¬C bn/\¬C bq/\¬C bc/\¬C bt) (hN:NetAt w0 cs N) (hG:zbB N) (hq:Row w1 qv (q.map vs)) (hgq:zcc q=true) (hcv:Row w1 cv (ch.map vi)) (hchl:ch.length<=1000000000):
  IterU Tryz.prog 146 #[.pointer (some ⟨bn,0,.none⟩),.pointer (some ⟨bq,0,.none⟩),.pointer (some ⟨bc,0,.none⟩),.pointer (some ⟨bt,0,.none⟩)] W0 W0.heap.size C 0 (fun pre x=>∃suf,zbI N t ch (zb3 N q)=pre++x::suf) (fun xs=>xs=zbI N t ch (zb3 N q)) (encP C W0.heap.size):=by
 intro lp J Jx W hW hnW hJ hJx hY h0;have hn4:=hN.one;have hnl:=(Array.getElem?_eq_some_iff.1 hbn).1;have hql:=(Array.getElem?_eq_some_iff.1 hbq).1;have hcl:=(Array.getElem?_eq_some_iff.1 hbc).1;have htl:=(Array.getElem?_eq_some_iff.1 hbt).1;have hs1:=hE1.size;have hE1W:=hE1.trans hW;obtain⟨F,hF⟩:∃F,zbI N t ch (zb3 N q)=F:=⟨_,rfl⟩;rw[hF]at hY ⊢;have dn:=zaf (n:=4) (Ext.at hW hbn) hn4.1.symm;have dq:zad W (some ⟨bq,0,.none⟩)=some qv:=zab (i:=0) (Ext.at hW hbq) rfl;have dc:zad W (some ⟨bc,0,.none⟩)=some cv:=zab (i:=0) (Ext.at hW hbc) rfl;obtain⟨ac,cc,hcve,_⟩:=id hcv;rw[ylm]at hcve;refine enter Tryz.func146 Tryz.ntmps146 rfl rfl ?_;refine go trivial ?_;refine rc (an2 dn dq) (zif (hE01.trans hE1W) hN hG.z.rl (hq.ext hE1W)) ?_;rintro sv v1 ⟨hEs,hsb,_,rfl,hsr,hsn⟩;refine rgo trivial ?_;have dc1:=zaa hEs dc;rw[hcve]at dc1;refine go dc1 ?_;obtain⟨S,hS⟩:∃S:Nat->Prop,S=fun b=>C b\/(W0.heap.size<=b/\b<W.heap.size):=⟨_,rfl⟩;have hSw:∀b,S b->w1.heap.size<=b:=fun b hb=>by
  rw[hS]at hb;rcases hb with hb|hb
  ·exact(hC b hb).1
  ·omega
 have hSW:∀b,S b->b<W.heap.size:=fun b hb=>by
  rw[hS]at hb;rcases hb with hb|hb
  ·have:=(hC b hb).2;omega
  ·omega
 have hCS:∀b,C b->S b:=fun b hb=>by rw[hS];exact .inl hb
 have hSn:∀b,b<W0.heap.size->¬C b->¬S b:=fun b h1 h2 h3=>by
  rw[hS]at h3;rcases h3 with h3|h3
  ·exact h2 h3
  ·omega
 have hKR:∀{A B:World} {U:Nat->Prop},KeepR W0.heap.size W.heap.size (fun b=>C b\/U b) A B->Keep (fun b=>S b\/U b) A B:=fun h=>⟨h.os,h.tape,h.output,h.size,fun b hb hs=>h.block b hb (by
  by_cases h1:b<W0.heap.size
  ·exact .inl h1
  ·by_cases h2:b<W.heap.size
   ·exact absurd (by rw[hS];exact .inl (.inr ⟨by omega,h2⟩)) hs
   ·exact .inr (by omega)) (fun hc=>hs (hc.imp (hCS b) id)),h.drawn⟩
 have hcy:RowY S W cv (ch.map vi):=RowY.old hcv hE1W hSw;refine zic ch.length (fun i σ v=>(σ 14=vi i/\σ 13=vi ch.length/\σ 12= .slice ac ch.length cc/\σ 0= .func (.yield lp) #[] #[]/\σ 1= .pointer (some ⟨bn,0,.none⟩)/\σ 4= .pointer (some ⟨bt,0,.none⟩))/\
  ∃sv u L pre U,σ 6=sv/\Rows 6 (StN u) v sv L/\BlkB W.heap.size v sv/\(∀a n c,sv= .slice (some a) n c->¬U a.block)/\(∀b,U b->W.heap.size<=b/\b<v.heap.size)/\(∀s∈L,RowY (fun b=>S b\/U b) v u (s.name.map vs))/\(∀s∈L,GoodSt N s)/\J pre U v/\Keep S W v/\pre++zbI N t (ch.drop i) L=F) ?_ ?_ ?_
 ·exact⟨⟨vr0,vr0,vq0,vq0,vq0,vq0⟩,sv,_,zb3 N q,[],NoS,vq0,hsr,hsb,fun _ _ _ _ h=>h,fun _ h=>h.elim,fun s hs=>(RowY.old hq (hE1W.trans hEs) fun b h=>h.elim (hSw b) (fun h=>h.elim)).alike (hsn s hs),zfq hG hgq,hJ _ _ _ _ h0 (hEs.mono fun _ _ h=>h.elim),hEs.mono fun _ _ h=>h.elim,hF⟩
 ·rintro i σ v hi q0 ⟨s,sv,u,L,pre,U,h6,hrows,hblk,hbu,hUw,hnm,hgds,hj,hk,hsuf⟩;obtain⟨al,cl,rfl,_⟩:=hrows.open;have hEv:Ext w1 v:=Keep.to_ext hE1W rfl hSw hk;have hkz:=hk.size;have hKB:KeepB W0.heap.size C W v:=⟨hk.os,hk.tape,hk.output,hk.size,fun b hb hc=>hk.block b (by omega) (hSn b hb hc),hk.drawn⟩;have g:=(hcy.turn hk fun _ h=> .inl h).1;rw[hcve]at g;obtain⟨a',c',e',_,g⟩:=g;rw[Value.slice.injEq]at e';obtain⟨rfl,_,rfl⟩:=e';replace g:=g i (by rw[ylm];exact hi);rw[List.getElem_map]at g;obtain⟨c,hce⟩:∃c,ch[i]=c:=⟨_,rfl⟩;have hdr:ch.drop i=c::ch.drop (i+1):=by rw[←hce];exact List.drop_eq_getElem_cons hi
  rw[hdr]at hsuf;rw[hce]at g;obtain⟨xa,rfl⟩:=yxs (zag g);refine go (an3 s q0 g) ?_;by_cases hb:c<0\/(L.length:Int)<=c
  ·rw[zht hb]at hsuf;refine zay (Q:=fun e σ' ds' v'=>e= .normal/\ds'=[]/\v'=v/\σ' 0= .func (.yield lp) #[] #[]/\σ' 25= .bool true) ?_ ?_
   ·by_cases hc0:c<0
    ·refine rgg [(2,20)] (an2 s (yet hc0)) ?_;exact⟨rfl,rfl,rfl,vq1 s,vr0⟩
    ·have hd:decide (c>=(L.length:Int))=true:=yet (hb.resolve_left hc0);refine rgg [(2,20)] (an4 s h6 (yef hc0) hd) ?_;exact⟨rfl,rfl,rfl,vq1 s,vr0⟩
   rintro _ σ2 _ v2 ⟨rfl,rfl,rfl,s0,h25⟩;refine go h25 ?_;refine rq ?_;intro gd K hgd hK;refine sgz s0 ?_;refine⟨by kernel_rfl,?_⟩;rw[show bdV Tryz.prog 80 []=some (.agg #[vi 0,.slice .none 0 0,vi 0,vi 0,.bool false,vi 0]) from by kernel_rfl];refine sgz s0 ?_;refine Yld.mono (hY pre U (stZ,false) v2 _ ⟨_,hsuf.symm⟩ hj (by omega) hKB ⟨.slice .none 0 0,rfl,⟨.none,0,rfl,ynl _,fun j h=>by simp[stZ]at h⟩,fun h=>absurd rfl h⟩) ?_;rintro y z (⟨rfl,U',hjz,hU',hkr⟩| ⟨rfl,hjx⟩)
   ·try simp only[go_sem]
    apply hK;refine go trivial ?_;exact zaA (by simp) rfl (.inl ⟨_,_,rfl,by rw[←hsuf];exact hjz⟩)
   ·try simp only[go_sem]
    apply hK;refine go trivial ?_;exact zaA (by simp) rfl (.inr ⟨_,_,⟨_,hsuf.symm⟩,hjx⟩)
  ·obtain⟨k,rfl⟩:=Int.eq_ofNat_of_zero_le (show 0<=c by omega);have hkL:k<L.length:=by omega
   rw[zhu hkL]at hsuf;have hc0:decide ((k:Int)<0)=false:=yef (by omega);have hd:decide ((k:Int)>=(L.length:Int))=false:=yef (by omega);refine rgg [(2,20)] (an4 s h6 hc0 hd) ?_;refine go trivial ?_;obtain⟨cs6,hcs,rfl,hone⟩:=hrows.get hkL;obtain⟨X,hX⟩:∃X,L[k]=X:=⟨_,rfl⟩;have hmX:X∈L:=by rw[←hX];exact List.getElem_mem hkL
   rw[hX]at hcs hsuf;unfold stV at hcs;have hk0:=cj k;have hk1:(k:Int)<(L.length:Int):=by omega
   obtain⟨xl,rfl⟩:=yxs (zak hcs);refine rq ?_;intro gd K hgd hK;refine sgz (az5 s h6 hcs hk0 hk1) ?_;refine Yld.mono (hY pre U (X,true) v _ ⟨_,hsuf.symm⟩ hj (by omega) hKB ⟨u,rfl,by have:=hnm X hmX;rw[hS]at this;exact this⟩) ?_;rintro y z (⟨rfl,U',hjz,hU',hkr⟩| ⟨rfl,hjx⟩)
   ·try simp only[go_sem]
    apply hK;have hkz2:=hKR hkr;have hWz:Keep S W z:=⟨hkz2.os.trans hk.os,hkz2.tape.trans hk.tape,hkz2.output.trans hk.output,Nat.le_trans hk.size hkz2.size,fun b hb hs=>(hkz2.block b (by omega) fun h=>h.elim hs fun hu=>by have:=hUw b hu;omega).trans (hk.block b hb hs),Nat.le_trans hk.drawn hkz2.drawn⟩;have hsS:∀b,(S b\/U' b)->(S b\/U b)\/v.heap.size<=b:=fun b h=>by
     rcases h with h|h
     ·exact .inl (.inl h)
     ·exact(hU' b h).imp .inr (fun h=>h.1)
    have hEz:Ext w1 z:=Keep.to_ext hE1W rfl hSw hWz;have hsz:=hWz.size;have hsz2:=hkz2.size;have hrz:=hrows.blocks fun a n c e=>hkz2.block _ (hblk a n c e).2 (fun h=>h.elim (fun h=>by have:=hSW _ h;have:=(hblk a n c e).1;omega) (hbu a n c e));have hblz:=hblk.ext hsz2;obtain⟨cs6,hcz,rfl,_⟩:=hrz.get hkL;rw[hX]at hcz;unfold stV at hcz;have hnz:=(hnm X hmX).turn hkz2 hsS;have dnz:=zaf (n:=4) ((hWz.block _ (by omega) (hSn _ hnl hCb.1)).trans (Ext.at hW hbn)) hn4.1.symm;have dtz:zad z (some ⟨bt,0,.none⟩)=some (vi t):=zab (i:=0) ((hWz.block _ (by omega) (hSn _ htl hCb.2.2.2)).trans (Ext.at hW hbt)) rfl;refine go trivial ?_;refine zaJ (fun _=>false) [(0,true),(1,true),(2,true),(3,true),(4,true),(5,true),(6,false),(7,true)] NoS mixed (by kernel_rfl) ?_;intro gd K x hgd hx hxe hK;clear hxe;have dnx:=zac hx dnz;have dtx:=zaa hx dtz;have dcx:=zac hx hcz;refine sgz (az7 s h6 dnx dtx dcx hk0 hk1) ?_;refine Fn.mono (zjP (t:=t) (hE01.trans (hEz.trans hx)) hN hG.z (hnz.1.ext hx) ((hgds X hmX).b hG)) ?_;rintro sv2 y ⟨hy,hsb2,u2,hok,hsr2,hsn2⟩;refine⟨.inr hy,?_⟩;refine sg0 ?_;apply hK;have hxy:=hx.trans hy;have hxs:=hx.size;have hky:Keep (fun b=>S b\/U' b) z y:=hxy.mono fun _ _ h=>h.elim;have hzy:=hxy.size;have hUz:∀b,U' b->W.heap.size<=b/\b<z.heap.size:=fun b hb=>by
     rcases hU' b hb with h|h
     ·have:=hUw b h;omega
     ·omega
    refine go (an2 s q0) ?_;refine⟨rfl,sc (an2 s q0),sv2,u2,zcS N X t,_,U',vr0,hsr2,hsb2.mono (by omega),fun a n c e hu=>by have:=(hsb2 a n c e).1;have:=hUz _ hu;omega,fun b hb=>by have:=hUz b hb;omega,fun s' hs'=>?_,fun s' hs'=>(zhE hG (hgds X hmX) hs').2.g,hJ _ _ _ _ hjz (hxy.mono fun _ _ h=>h.elim),hWz.trans (hxy.mono fun _ _ h=>h.elim),by rw[yla];exact hsuf⟩;rcases hok with rfl|hok| ⟨l,hl⟩
    ·exact(hnz.turn hky fun _ h=> .inl h).alike (hsn2 s' hs')
    ·refine⟨hsn2 s' hs',fun _ a n c e=>?_⟩;obtain⟨k1,k2⟩:=hok a n c e;exact⟨k2,fun hj=>hj.elim (fun hj=>by have:=hSW _ hj;omega) (fun hj=>by have:=hUz _ hj;omega)⟩
    ·exact(RowY.old hl ((hE01.trans hEz).trans hxy) fun j hj=>by
      have:=hE01.size;have:=hE1W.size;rcases hj with hj|hj
      ·have:=hSw j hj;omega
      ·have:=hUz j hj;omega).alike (hsn2 s' hs')
   ·try simp only[go_sem]
    apply hK;refine go trivial ?_;exact zaA (by simp) rfl (.inr ⟨_,_,⟨_,hsuf.symm⟩,hjx⟩)
 ·rintro σ v q0 ⟨s,sv,u,L,pre,U,h6,hrows,hblk,hbu,hUw,hnm,hgds,hj,hk,hsuf⟩;refine go (an2 s q0) ?_;rw[List.drop_length]at hsuf;refine zaA (by simp) rfl (.inl ⟨F,U,rfl,?_⟩);rw[←hsuf];simpa [zbI] using hj
def Pl(N:NetL)(t:Int):List Int->List zar->zar->Prop
 | [],_,_=>False
 |c::cs,L,s=>∃k:Nat,c=(k:Int)/\∃x,L[k]? =some x/\((cs=[]/\s=x)\/Pl N t cs (zcS N x t) s)
theorem zkp(w:World)(A B C D:Obj):Ext w ((((w.alloc A).alloc B).alloc C).alloc D)/\((((w.alloc A).alloc B).alloc C).alloc D).heap.size=w.heap.size+4/\((((w.alloc A).alloc B).alloc C).alloc D).heap[w.heap.size]? =some A/\
  ((((w.alloc A).alloc B).alloc C).alloc D).heap[w.heap.size+1]? =some B/\((((w.alloc A).alloc B).alloc C).alloc D).heap[w.heap.size+2]? =some C/\((((w.alloc A).alloc B).alloc C).alloc D).heap[w.heap.size+3]? =some D:=by
 obtain⟨h1,h2,h3,h4,h5⟩:=zdU w A B C;have hE:=Ext.alloc (((w.alloc A).alloc B).alloc C) D;have hD:=zav (((w.alloc A).alloc B).alloc C) D;rw[h2]at hD;exact⟨h1.trans hE,by rw[zai,h2],Ext.at hE h3,Ext.at hE h4,Ext.at hE h5,hD⟩
theorem Plays_ok(w:World){nv qv tv cv:Value}:Fn Tryz.prog 91 #[nv,qv,tv,cv] w (fun v w'=>v= .func (.func 146) #[] #[.pointer (some ⟨w.heap.size,0,.none⟩),.pointer (some ⟨w.heap.size+1,0,.none⟩),.pointer (some ⟨w.heap.size+3,0,.none⟩),.pointer (some ⟨w.heap.size+2,0,.none⟩)]/\Ext w w'/\w'.heap.size=w.heap.size+4/\
  w'.heap[w.heap.size]? =some (.cells nv.cells 25 (0,0))/\w'.heap[w.heap.size+1]? =some (.cells qv.cells 27 (0,0))/\w'.heap[w.heap.size+2]? =some (.cells tv.cells 3 (0,0))/\w'.heap[w.heap.size+3]? =some (.cells cv.cells 23 (0,0))):=by
 refine enter Tryz.func91 Tryz.ntmps91 rfl rfl ?_;refine go trivial ?_;obtain⟨hE,hs,hA,hB,hC,hD⟩:=zkp w (.cells nv.cells 25 (0,0)) (.cells qv.cells 27 (0,0)) (.cells tv.cells 3 (0,0)) (.cells cv.cells 23 (0,0));refine rt0 Tryz.ntmps91 ?_;exact⟨by simp only[zai],hE,hs,hA,hB,hC,hD⟩
theorem zg8{w0 w:World}(hE0:Ext w0 w){cs:List Value}{N:NetL}{qv cv:Value}{q:Nm}{ch:List Int}{t:Int}(hN:NetAt w0 cs N)(hG:zbB N)(hq:Row w qv (q.map vs))(hgq:zcc q=true)(hcv:Row w cv (ch.map vi))(hchl:ch.length<=1000000000):
  Fn Tryz.prog 40 #[.agg cs.toArray,qv,vi t,cv] w (fun v w'=>Ext w w'/\∃nv,v= .tuple #[.agg (stV nv (zcb N q t ch).1).toArray,.bool (zcb N q t ch).2]/\Row w' nv ((zcb N q t ch).1.name.map vs)):=by
 obtain⟨hsv,rv,rfl,hh,hr⟩:=id hN.ex;obtain⟨ah,ch0,hhv,_⟩:=hh.open;obtain⟨ar0,cr0,hrv,_⟩:=id hr;obtain⟨aq,cq,hqe,_⟩:=id hq;obtain⟨ac,cc,hce,_⟩:=id hcv;refine enter Tryz.func40 Tryz.ntmps40 rfl rfl ?_;rw[hhv,hrv];refine go trivial ?_;rw[zai,zai,zai];refine zcZ ?_;rw[←hhv,←hrv];intro w1 hE1 hs1 hA hB hC;obtain⟨b,hb⟩:∃b,w.heap.size=b:=⟨_,rfl⟩;rw[hb]at hA hB hC hs1 ⊢;rw[show b+1+1=b+2 from rfl]at hC ⊢;refine rq ?_;intro gd K hgd hK;try simp only[go_sem]
 rw[hs1];refine st_al1 ?_;intro z hEz hsz hD;rw[hs1]at hD;refine zd3 rfl rfl rfl hD (by simp) (by simp) ?_;intro w2 hs2 hD2 hk2;try simp only[go_sem]
 apply hK;have hE2:Ext w1 w2:=Keep.to_ext hEz rfl (fun i hi=>by omega) hk2;have hA2:=Ext.at hE2 hA;have hB2:=Ext.at hE2 hB;have hC2:=Ext.at hE2 hC;have hz2:=(Array.getElem?_eq_some_iff.1 hD2).1;have dn:zao w2 (some ⟨b,0,.none⟩) 4=some [hsv,rv,vi N.rw,vi N.rf]:=zaf hA2 rfl;have hEw2:=hE1.trans hE2;clear hEz hsz hD hs2 hk2 hA hB hC;refine go trivial ?_;refine rc dn (Plays_ok w2) ?_;rintro _ w3 ⟨rfl,hE3,hs3,k1,k2,k3,k4⟩;refine rgo trivial ?_;have k2':w3.heap[w2.heap.size+1]? =some (.cells #[qv] 27 (0,0)):=by rw[k2,hqe];rfl
 have k4':w3.heap[w2.heap.size+3]? =some (.cells #[cv] 23 (0,0)):=by rw[k4,hce];rfl
 have hB3:=Ext.at hE3 hB2;have hC3:=Ext.at hE3 hC2;have hD3:=Ext.at hE3 hD2;have hEw3:=hEw2.trans hE3;obtain⟨S,hS⟩:∃S:Nat->Prop,S=fun i=>(i=b+1\/i=b+2\/i=b+3)\/(w3.heap.size<=i/\i<w3.heap.size+2):=⟨_,rfl⟩;refine zfh (own:=0) (n0:=w3.heap.size) (C:=fun i=>i=b+1\/i=b+2\/i=b+3) (W0:=w3) vq0 (by rfl)
  (playsIt (w0:=w0) (w1:=w) (t:=t) (ch:=ch) (q:=q) hE0 hEw3 k1 k2' k4' k3 (fun i hi=>by omega) (by omega) hN hG hq hgq hcv hchl) (Keep.refl _ _) (ynl _) (fun i hi=>by omega)
  (fun x U A args h=>by obtain⟨nv,rfl,_⟩:=h;rfl)
  (fun pre U v=>(∀i,¬U i)/\∃nv,v.heap[b+1]? =some (.cells (stV (.slice .none 0 0) stZ).toArray 80 (0,0))/\v.heap[b+2]? =some (.cells (stV nv (pre.getLastD (stZ,false)).1).toArray 80 (0,0))/\v.heap[b+3]? =some (.cells #[.bool (pre.getLastD (stZ,false)).2] 4 (0,0))/\RowY S v nv ((pre.getLastD (stZ,false)).1.name.map vs)/\Ext w v)
  (fun _ _ _=>False) ?_ ?_ ?_ ?_ ?_ ?_
 ·rintro pre U A B ⟨hU,nv,h1,h2,h3,h4,h5⟩ _ hk;have l1:=(Array.getElem?_eq_some_iff.1 h3).1;have hno:∀i,i<w3.heap.size->¬span w3.heap.size (2+0) i:=fun i h1 h2=>by unfold span at h2;omega
  refine⟨hU,nv,(hk.block _ (by omega) (hno _ (by omega))).trans h1,(hk.block _ (by omega) (hno _ (by omega))).trans h2,(hk.block _ (by omega) (hno _ (by omega))).trans h3,h4.turn (hk.mono fun i _ h=>by rw[hS];unfold span at h;exact .inr (by omega)) fun _ h=> .inl h,Keep.to_ext h5 rfl (fun i hi=>by unfold span at hi;omega) hk⟩
 ·rintro c pre A B h _;exact h
 ·exact⟨fun _ h=>h,.slice .none 0 0,hB3,hC3,hD3,⟨⟨.none,0,rfl,ynl _,fun j h=>by simp[stZ]at h⟩,fun h=>absurd rfl h⟩,hEw3⟩
 ·rintro lp pre U x A args ⟨suf,hsp⟩ hszA ⟨hU,nv,h1,h2,h3,h4,h5⟩ _ ⟨xv,rfl,hx⟩;have hxS:RowY S A xv (x.1.name.map vs):=hx.turn (Keep.refl _ _) fun i h=>by rw[hS]at h;exact .inl (.inl h)
  have hl:(pre++ [x]).getLastD (stZ,false)=x:=by rw[List.getLastD_eq_getLast?];simp
  have l3:=(Array.getElem?_eq_some_iff.1 h3).1;refine go trivial ?_;refine rq ?_;intro gd K hgd hK;try simp only[go_sem]
  refine zaC (P:=Tryz.prog) (l:=stV xv x.1) h2 rfl (zbi hx.1.isOne) rfl rfl ?_;intro A1 hs1 hA1 hk1;try simp only[go_sem]
  apply hK;refine go trivial ?_;refine rq ?_;intro gd K hgd hK;try simp only[go_sem]
  refine zd3 rfl rfl rfl ((hk1.block _ (by omega) (by omega)).trans h3) (by simp) (by simp) ?_;intro A2 hs2 hA2 hk2;try simp only[go_sem]
  apply hK;have hk12:Keep (fun i=>i=b+2\/i=b+3) A A2:=(hk1.mono fun i _ h=> .inl h).trans (hk2.mono fun i _ h=> .inr h);refine⟨rfl,hk12.mono fun i _ h=> .inl (.inr h),fun A3 hk3=>?_⟩;have hno:∀i,i<w3.heap.size->¬two w3.heap.size i:=fun i h1 h2=>by unfold two at h2;omega
  refine go trivial ?_;have hz2:=hk12.size;refine⟨U,⟨hU,xv,?_,?_,?_,?_,?_⟩,fun i h=> .inl h,Keep.refl _ _⟩
  ·exact(hk3.block _ (by omega) (hno _ (by omega))).trans ((hk12.block _ (by omega) (by omega)).trans h1)
  ·rw[hl];exact(hk3.block _ (by omega) (hno _ (by omega))).trans ((hk2.block _ (by omega) (by omega)).trans hA1)
  ·rw[hl];exact(hk3.block _ (by omega) (hno _ (by omega))).trans hA2
  ·rw[hl];exact(hxS.turn (hk12.mono fun i _ h=>by rw[hS];exact .inl (.inr h)) fun _ h=> .inl h).turn (hk3.mono fun i _ h=>by rw[hS];unfold two at h;exact .inr (by omega)) fun _ h=> .inl h
  ·exact Keep.to_ext (Keep.to_ext h5 rfl (fun i hi=>by omega) hk12) rfl (fun i hi=>by unfold two at hi;omega) hk3
 ·rintro xs U v rfl hsz _ ⟨hU,nv,h1,h2,h3,h4,h5⟩ hDv;have hp:(zbI N t ch (zb3 N q)).getLastD (stZ,false)=zcb N q t ch:=rfl;rw[hp]at h2 h3 h4;obtain⟨L,hL⟩:∃L,zcb N q t ch=L:=⟨_,rfl⟩;rw[hL]at h2 h3 h4 ⊢;have d2:zao v (some ⟨b+2,0,.none⟩) 6=some [vi L.1.sv,nv,vi L.1.rw,vi L.1.rf,.bool L.1.ref,vi L.1.fin]:=zaf (l:=stV nv L.1) h2 rfl;have d3:zad v (some ⟨b+3,0,.none⟩)=some (.bool L.2):=zab (i:=0) h3 rfl;have l3:=(Array.getElem?_eq_some_iff.1 h3).1;refine go trivial ?_;refine zaJ (fun _=>false) [(0,true),(1,true),(2,false),(3,true)] ((fun i=>i=b+1)) mixed (by kernel_rfl) ?_;intro gd K x hgd hx hxe hK;have hx0:=zej hxe;clear hxe;have d2x:=zac hx0 d2;have d3x:=zaa hx0 d3;refine sgz (az2 d2x d3x) ?_;refine⟨fun a ha hb=>by cases ha;dsimp only at hb;omega,fun a ha hb=>by cases ha;dsimp only at hb;omega,?_⟩;refine zaC (P:=Tryz.prog) (l:=stV nv L.1) (Ext.at hx0 h1) rfl (zbi h4.1.isOne) rfl rfl ?_;intro y hsy hB8 hky;refine⟨.inr (hky.mono fun i _ h=>h),?_⟩;refine sg0 ?_;apply hK;refine go trivial ?_;have hxs:=hx0.size;have hys:=hky.size;refine zbH (.inr rfl) Tryz.ntmps40 rfl ((hky.block _ (by omega) (by omega)).trans (Ext.at hx0 hDv)) ?_;intro y2 hk2 hs2;have hB9:=(hk2.block _ (by omega) (by omega)).trans hB8;have hkxy:Keep (fun i=>i=b+1\/i=w3.heap.size) x y2:=(hky.mono fun i _ h=> .inl h).trans (hk2.mono fun i _ h=> .inr h);have hrow:Row y2 nv (L.1.name.map vs):=by
   by_cases hl:L.1.name=[]
   ·have h6:=h4.1;rw[hl]at h6 ⊢;obtain⟨a1,c1,e1,e2,_⟩:=h6;exact⟨a1,c1,e1,e2,fun j hj=>absurd hj (by simp)⟩
   ·refine h4.1.blocks fun a n c e=>?_;obtain⟨k1,k2⟩:=h4.2 (fun h=>hl (by simpa using h)) a n c e;exact(hk2.block _ (by omega) (fun h=>k2 (by rw[hS];exact .inr (by omega)))).trans ((hky.block _ (by omega) (fun h=>k2 (by rw[hS];exact .inl (.inl h)))).trans (hx0.block _ k1 (fun h=>h)))
  exact⟨_,zaI (x:=⟨b+1,0,.none⟩) (k:=6) vr0 rfl rfl (zaf (l:=stV nv L.1) hB9 rfl) (zal (v:= .bool L.2) vr0 zaq),Keep.to_ext (h5.trans hx0) rfl (fun i hi=>by have:=hEw3.size;omega) hkxy,nv,rfl,hrow⟩
 ·rintro c pre x v _ _ h;exact h.elim
section
variable {names : List Nm} (hcl : ∀ l f, l :: f ∈ names -> f ∈ names) (hnd : names.Nodup)
include hcl
include hnd
end
structure FLab where
 val:Lab
 fold:zbe val=val
 len:val.length<=9000000000000000000
instance:Inhabited FLab:=⟨⟨[],rfl,by decide⟩⟩
section
variable {H : Type} {enc : TypeId × Value -> H} {P : Program} {w : World} {base : Nat} {sp : Nat -> Bool} {held : Bool}
def RdC(enc:TypeId×Value->H)(P:Program)(w:World)(base:Nat)(sp:Nat->Bool)(held:Bool)(t:TypeId)(cs:List Value):Prop:=∃n x,DataW.trod enc P w base sp held n t cs=some x/\∀k∈x.1.weights P t,k<=reachBytes
theorem RdC.one{t:TypeId}{v:Value}(h:RdC enc P w base sp held t [v]):Rd enc P w base sp held t v:=h
theorem Rd.c{t:TypeId}{v:Value}(h:Rd enc P w base sp held t v):RdC enc P w base sp held t [v]:=h
theorem zh3{a:Addr}:∀(k i:Nat) {l:List Value},l.length=k->(∀j (h:j<l.length),w.cell? (a.add (i+j))=some l[j])->zaR w a i k=some l
 |0,_,l,hl,_=>by
  have:l=[]:=List.length_eq_zero_iff.1 hl;subst this;rfl
 |k+1,i,l,hl,h=>by
  cases l with
  |nil=>cases hl
  |cons v l=>
   have h0:=h 0 (by simp);have ih:=zh3 (l:=l) k (i+1) (by simpa using hl) (fun j hj=>by
    have:=h (j+1) (by simpa using hj);rw[show i+(j+1)=i+1+j from by omega]at this;simpa using this)
   unfold zaR;rw[Nat.add_zero]at h0;rw[h0,ih];rfl
theorem zft{t e:TypeId}{k:Nat}{v:Value}(h:Rd enc P w base sp held t v)(ht:P.underlying t=some (.slice e))(hc:P.cellsOf e=k):
  ∃L,RowK k w v L/\(∀cs∈L,RdC enc P w base sp held e cs)/\L.length*P.bytesOf e<=reachBytes:=by
 obtain⟨n,x,h,hw⟩:=h;rcases Go.Deep.open_slice ht h with ⟨h1,_⟩| ⟨a,len,cap,m,q,D,Pl,h1,_,hl,hm,hmm,rfl,hx⟩
 ·simp only[List.cons.injEq,and_true]at h1;subst h1;exact⟨[],⟨.none,0,rfl,ynl _,fun j h=>by simp at h⟩,fun u h=>(by cases h),by simp⟩
 ·simp only[List.cons.injEq,and_true]at h1;subst h1;have hml:len<=m:=by rw[hmm];split<;>omega
  simp only[DataW.weights,ht]at hw;rw[hc]at hx;obtain⟨V,hV⟩:=Go.Deep.choose_lt (α:=List Value) (p:=fun i cs=>w.cells? base (a.add (i*k)) k=some cs/\DataW.trod enc P w base sp held q e cs=some (D i,Pl i)) hx;refine⟨(List.range len).map V,⟨some a,cap,by simp,by simpa using hl,fun j hj=>?_⟩,fun u hu=>?_,?_⟩
  ·simp at hj;obtain⟨_,h2,h3⟩:=World.cells?_some (hV j (by omega)).1;have e1:((List.range len).map V)[j]'(by simpa using hj)=V j:=by simp
   rw[e1];show zaR w (a.add (j*k)) 0 k=_;refine zh3 k 0 h2 (fun i hi=>?_);rw[yn0,h3 i (by omega)];exact List.getElem?_eq_getElem hi
  ·obtain⟨j,hj,rfl⟩:=List.mem_map.1 hu;simp at hj;refine⟨_,_,(hV j (by omega)).2,fun q hq=>hw q (List.mem_cons_of_mem _ (List.mem_append_left _ (zcP (d:=D j) ?_ hq)))⟩;exact List.mem_map.2 ⟨j,by simpa using hj,rfl⟩
  ·have h1:=hw _ (List.mem_cons_self ..);have h2:((List.range len).map V).length*P.bytesOf e<=(((List.range len).map D).length+((List.range (m - len)).map fun j=>D (len+j)).length)*P.bytesOf e:=Nat.mul_le_mul (by simp) (ynl _);omega
theorem zd6{e:TypeId}{fs:Array Field}{cs:List Value}(h:RdC enc P w base sp held e cs)(he:P.underlying e=some (.struct fs)):cs.length=P.cellsOf e/\∀(i:Nat) (f:Field),fs[i]? =some f->RdC enc P w base sp held f.type ((cs.drop f.offset).take (P.cellsOf f.type)):=by
 obtain⟨n,x,h,hw⟩:=h;obtain⟨xs,m,_,rfl,hl,hxl,hf⟩:=DataW.trod_struct he h;refine⟨hl,fun i f hfi=>?_⟩;have hi:i<fs.size:=(Array.getElem?_eq_some_iff.1 hfi).1;have h1:=hf i f hfi;rw[List.getElem?_eq_getElem (by omega)]at h1;refine⟨m,_,h1,fun k hk=>hw k ?_⟩;simp only[DataW.weights,he];refine DataW.weights_mem_each (ts:=fs.toList.map (·.type)) (ds:=xs.map (·.1)) (j:=i) (t:=f.type) (d:=xs[i].1) ?_ ?_ k hk
 ·rw[List.getElem?_map];rw[show fs.toList[i]? =some f from by simpa using hfi];rfl
 ·rw[List.getElem?_map,List.getElem?_eq_getElem (by omega)];rfl
theorem zhn{t:TypeId}{k:IntKind}{cs:List Value}(h:RdC enc P w base sp held t cs)(ht:P.underlying t=some (.int k)):∃n,cs=[.int k n]/\(Lit.int k n).wf=true:=by
 obtain⟨n,x,h,_⟩:=h;obtain⟨m,h1,_,h2⟩:=DataW.trod_int ht h;exact⟨m,h1,h2⟩
end
set_option maxRecDepth 100000
section
variable {H : Type} {enc : TypeId × Value -> H} {P : Program} {w : World} {base : Nat} {sp : Nat -> Bool} {held : Bool}
theorem zgE{t e:TypeId}{k:IntKind}{v:Value}(h:Rd enc P w base sp held t v)(ht:P.underlying t=some (.slice e))(hc:P.cellsOf e=1)(he:P.underlying e=some (.int k)):∃l:List Int,Row w v (l.map (.int k))/\∀n∈l,(Lit.int k n).wf=true:=by
 obtain⟨vals,hr,hall,_⟩:=zgD h ht hc;obtain⟨m,rfl,hm⟩:=ziH (f:=fun n=>Value.int k n) (Q:=fun n=>(Lit.int k n).wf=true) (fun u hu=>by
  obtain⟨n,h1,h2⟩:=zhn (hall u hu).c he;exact⟨n,by simpa using h1,h2⟩)
 exact⟨m,hr,hm⟩
theorem wf_u32{n:Int}(h:(Lit.int .u32 n).wf=true):0<=n/\n<=4294967295:=by
 simp[Lit.wf,IntKind.min,IntKind.max,IntKind.signed,IntKind.bits]at h;omega
theorem wf_u8{n:Int}(h:(Lit.int .u8 n).wf=true):0<=n/\n<=255:=by
 simp[Lit.wf,IntKind.min,IntKind.max,IntKind.signed,IntKind.bits]at h;omega
theorem bytes_of{l:List Int}(h:∀n∈l,(Lit.int .u8 n).wf=true):∃m:List UInt8,l.map (Value.int .u8)=m.map zae:=by
 induction l with
 |nil=>exact⟨[],rfl⟩
 |cons n l ih=>
  obtain⟨m,hm⟩:=ih (fun x hx=>h x (List.mem_cons_of_mem _ hx));have hb:=wf_u8 (h n (List.mem_cons_self ..));obtain⟨k,rfl⟩:∃k:Nat,n=(k:Int):=⟨n.toNat,by omega⟩;exact⟨UInt8.ofNat k::m,by rw[List.map_cons,List.map_cons,hm,zcz (by omega)]⟩
theorem rd_data{cs:List Value}(h:RdC enc Tryz.prog w base sp held 197 cs):∃d:DatL,DatAt w cs d/\∀n∈d.nums,0<=n/\n<=4294967295:=by
 obtain⟨hl,hf⟩:=zd6 h rfl;have hl5:cs.length=5:=hl
 match cs,hl5 with
 | [c0,c1,c2,c3,c4],_=>
  obtain⟨ty,e0,_⟩:=zhn (hf 0 _ rfl) rfl;obtain⟨names,n1,_⟩:=rd_names (P:=Tryz.prog) (ts:=27) (tb:=9) (RdC.one (hf 1 _ rfl)) rfl rfl rfl rfl rfl rfl;obtain⟨nums,n2,n3⟩:=zgE (RdC.one (hf 2 _ rfl)) rfl rfl rfl;obtain⟨texts,n4,_⟩:=zew (P:=Tryz.prog) (RdC.one (hf 3 _ rfl)) (e:=9) rfl rfl rfl rfl;obtain⟨raw,n5,n6⟩:=zgE (RdC.one (hf 4 _ rfl)) rfl rfl rfl;obtain⟨rb,hrb⟩:=bytes_of n6;rw[hrb]at n5;have e0':c0=vi ty:=List.head_eq_of_cons_eq (show [c0]=[vi ty] from e0);exact⟨⟨ty,names,nums,texts,rb⟩,⟨c1,c2,c3,c4,by rw[e0'],n1,n2,n4,n5⟩,fun n hn=>wf_u32 (n3 n hn)⟩
theorem rd_rec{cs:List Value}(h:RdC enc Tryz.prog w base sp held 201 cs):∃r:RecL,RecAt w cs r/\∀n∈r.dat.nums,0<=n/\n<=4294967295:=by
 obtain⟨hl,hf⟩:=zd6 h rfl;have hl7:cs.length=7:=hl
 match cs,hl7 with
 | [c0,c1,c2,c3,c4,c5,c6],_=>
  obtain⟨owner,n0,_⟩:=zew (P:=Tryz.prog) (RdC.one (hf 0 _ rfl)) (e:=9) rfl rfl rfl rfl;obtain⟨ttl,e1,_⟩:=zhn (hf 1 _ rfl) rfl;obtain⟨d,hd,hn⟩:=rd_data (hf 2 _ rfl);have e1':c1=v32 ttl:=List.head_eq_of_cons_eq (show [c1]=[v32 ttl] from e1);have hd':DatAt w [c2,c3,c4,c5,c6] d:=hd;exact⟨⟨owner,ttl,d⟩,⟨c0,[c2,c3,c4,c5,c6],by rw[e1'],n0,hd'⟩,hn⟩
theorem rd_recs{v:Value}(h:Rd enc Tryz.prog w base sp held 120 v):∃R:List RecL,Rows 7 (RecAt w) w v R/\NumR R:=by
 obtain⟨L,hL,hall,_⟩:=zft h (e:=201) (k:=7) rfl rfl;have:∀L:List (List Value),(∀cs∈L,RdC enc Tryz.prog w base sp held 201 cs)->∃R:List RecL,L.length=R.length/\(∀i (h:i<L.length) (h':i<R.length),RecAt w L[i] R[i])/\NumR R:=fun L=>by
  induction L with
  |nil=>intro _;exact⟨[],rfl,fun i h=>by simp at h,fun r h=>by cases h⟩
  |cons cs L ih=>
   intro h;obtain⟨r,h1,h2⟩:=rd_rec (h cs (List.mem_cons_self ..));obtain⟨R,a1,a2,a3⟩:=ih (fun x hx=>h x (List.mem_cons_of_mem _ hx));refine⟨r::R,by simp[a1],fun i a b=>?_,fun x hx=>?_⟩
   ·cases i with
    |zero=>exact h1
    |succ i=>exact a2 i (by simpa using a) (by simpa using b)
   ·rcases List.mem_cons.1 hx with rfl|hx
    ·exact h2
    ·exact a3 x hx
 obtain⟨R,a1,a2,a3⟩:=this L hall;exact⟨R,⟨L,hL,a1,a2⟩,a3⟩
end
end Go.Proofs.YtahbdamijngmmaaGreat
