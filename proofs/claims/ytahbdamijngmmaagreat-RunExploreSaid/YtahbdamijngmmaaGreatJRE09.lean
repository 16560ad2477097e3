/-
  Texts of a proof, joined: W9, X0, X1, O5, X7, OC, O6, O7, O8, OD, K35, U0, U1, U2, U3, U4, U5.
  Conditions: none.
-/
import Derived.Test.YtahbdamijngmmaaGreatJRE08
import Derived.Test.YtahbdamijngmmaaGreatJRE06
import Derived.Test.YtahbdamijngmmaaGreatJRE07
import Derived.Test.YtahbdamijngmmaaGreatJRE02
import Derived.Test.YtahbdamijngmmaaGreatJRE05
set_option linter.unusedVariables false
set_option linter.unusedSimpArgs false
set_option linter.defProp false
set_option linter.unnecessarySimpa false
set_option maxHeartbeats 8000000
namespace Go.Proofs.YtahbdamijngmmaaGreat
open Go
set_option maxRecDepth 10000
theorem zl7{w:World}{hv:Value}{l:List zeD}(hs:Rows 6 (HostC w) w hv l):∃a c,hv= .slice a l.length c/\∀i (h:i<l.length),∃xa xi x5 nv az cz,a=some xa/\adr (some xa) (i*6)=some xi/\adr (some xi) 5=some x5/\zad w (some xi)=some nv/\Row w nv (l[i].name.map vs)/\
  zad w (some x5)=some (.slice az l[i].zones.length cz)/\(∃b1 b2 b3 b4,l[i].addr=[b1,b2,b3,b4]/\zaq w (some xi) 6=some [nv,zae b1,zae b2,zae b3,zae b4,.slice az l[i].zones.length cz])/\
  ∀k (h:k<l[i].zones.length),∃xz xk ov lv,az=some xz/\adr (some xz) (k*2)=some xk/\zaq w (some xk) 2=some [ov,lv]/\Row w ov (l[i].zones[k].o.map vs)/\Rows 7 (RecAt w) w lv l[i].zones[k].recs:=by
 obtain⟨a,c,rfl,_,hg⟩:=hs.open;refine⟨a,c,rfl,fun i hi=>?_⟩;obtain⟨cs,hcs,hS⟩:=hg i hi;obtain⟨nv,b1,b2,b3,b4,pv,rfl,ha,hn,hp⟩:=hS.ex;obtain⟨ap,cp,rfl,_,hgp⟩:=hp.open;obtain⟨xa,rfl⟩:=yxs (zai hcs);obtain⟨xi,hxi⟩:∃xi,adr (some xa) (i*6)=some xi:=⟨_,rfl⟩;obtain⟨x5,hx5⟩:∃x,adr (some xi) 5=some x:=⟨_,rfl⟩;rw[hxi]at hcs;have h0:=zah (j:=0) hcs rfl;rw[zaj]at h0;have h5:=zah (j:=5) hcs rfl;rw[hx5]at h5;refine⟨xa,xi,x5,nv,ap,cp,rfl,hxi,hx5,h0,hn,h5,⟨b1,b2,b3,b4,ha,hcs⟩,fun k hk=>?_⟩;obtain⟨c2,hc2,hP⟩:=hgp k hk;obtain⟨ov,lv,rfl,ho,hl⟩:=hP.ex;obtain⟨xp,rfl⟩:=yxs (zai hc2);obtain⟨xk,hxk⟩:∃xi,adr (some xp) (k*2)=some xi:=⟨_,rfl⟩;rw[hxk]at hc2;exact⟨xp,xk,ov,lv,rfl,hxk,hc2,ho,hl⟩
def zhK(z:zcv):zgb:=⟨z.o,[120]⟩
def srvH(h:zeD):SrvL:=⟨h.name,h.addr,h.zones.map zhK⟩
def confN(N:NetL):zhq:=⟨N.hosts.map srvH,N.roots,N.rw,N.rf⟩
def NumN(N:NetL):Prop:=∀h∈N.hosts,∀z∈h.zones,NumR z.recs
structure zbi(N:NetL):Prop where
 z:NetZ N
 h1:1<=N.hosts.length/\N.hosts.length<=6
 r1:1<=N.roots.length/\N.roots.length<=4
 rin:∀r∈N.roots,0<=r/\r<(N.hosts.length:Int)
 w:0<=N.rw/\N.rw<=4
 f:0<=N.rf/\N.rf<=6
 zl:∀h∈N.hosts,h.zones.length<=4
 sh:∀h∈N.hosts,Sh h.name
theorem RecAt.up{w x:World}{v:Value}{R:List RecL}(h:Rows 7 (RecAt w) x v R)(hE:Ext w x):Rows 7 (RecAt x) x v R:=h.to fun _ _ h=>h.ext hE
theorem zm4(w:World){cs:List Value}{N:NetL}(hN:NetAt w cs N)(hv:NumN N):
  Fn Tryz.prog 16 #[.agg cs.toArray] w (fun v w'=>Ext w w'/\∃t,v= .bool t/\(t=true->zbi N)):=by
 obtain⟨hsv,rv,rfl,hs,hr⟩:=hN.ex;obtain⟨aS,cS,rfl,hat⟩:=zl7 hs;have hr0:=hr;have r1:=hr.isOne;obtain⟨ar,cr,hrv,_,hgr⟩:=hr;rw[ylm]at hrv;refine enter Tryz.func16 Tryz.ntmps16 rfl rfl ?_;repeat refine c_r ?_
 rw[hrv];refine rg0 ?_;rw[←hrv];repeat refine c_r ?_
 refine zax ?_;intro w1 hE1 hs1 hA;have p0:zad w1 (some ⟨w.heap.size,0,.none⟩)=some (.slice aS N.hosts.length cS):=zab hA rfl;have p1:zad w1 (some ⟨w.heap.size,1,.none⟩)=some rv:=zab hA rfl;have p2:zad w1 (some ⟨w.heap.size,2,.none⟩)=some (vi N.rw):=zab hA rfl;have p3:zad w1 (some ⟨w.heap.size,3,.none⟩)=some (vi N.rf):=zab hA rfl;rw[hrv]at p1;repeat refine c_r ?_
 refine zat (Q:=fun e σ' ds' v'=>e= .normal/\ds'=[]/\v'=w1/\σ' 1= .pointer (some ⟨w.heap.size,0,.none⟩)/\∃t,σ' 51= .bool t/\(t=false->(1<=N.hosts.length/\N.hosts.length<=6)/\(1<=N.roots.length/\N.roots.length<=4)/\(0<=N.rw/\N.rw<=4)/\0<=N.rf/\N.rf<=6)) ?_ ?_
 ·by_cases e0:(N.hosts.length:Int)<1
  ·refine rgg [(4,14),(10,20),(16,26),(22,32),(27,37),(32,42),(37,47)] (an3 p0 Nat.add_zero (yet e0)) ?_;exact⟨rfl,rfl,rfl,vq0,_,vr0,fun h=>by cases h⟩
  by_cases e1:(N.hosts.length:Int)>6
  ·refine rgg [(4,14),(10,20),(16,26),(22,32),(27,37),(32,42),(37,47)] (an4 p0 Nat.add_zero (yef e0) (yet e1)) ?_;exact⟨rfl,rfl,rfl,vq0,_,vr0,fun h=>by cases h⟩
  by_cases e2:(N.roots.length:Int)<1
  ·refine rgg [(4,14),(10,20),(16,26),(22,32),(27,37),(32,42),(37,47)] (an7 p0 Nat.add_zero (yef e0) (yef e1) p1 yn0 (yet e2)) ?_;exact⟨rfl,rfl,rfl,vq0,_,vr0,fun h=>by cases h⟩
  by_cases e3:(N.roots.length:Int)>4
  ·refine rgg [(4,14),(10,20),(16,26),(22,32),(27,37),(32,42),(37,47)] (an8 p0 Nat.add_zero (yef e0) (yef e1) p1 yn0 (yef e2) (yet e3)) ?_;exact⟨rfl,rfl,rfl,vq0,_,vr0,fun h=>by cases h⟩
  by_cases e4:N.rw<0
  ·refine rgg [(4,14),(10,20),(16,26),(22,32),(27,37),(32,42),(37,47)] (an3 (an8 p0 Nat.add_zero (yef e0) (yef e1) p1 yn0 (yef e2) (yef e3)) p2 (yet e4)) ?_;exact⟨rfl,rfl,rfl,vq0,_,vr0,fun h=>by cases h⟩
  by_cases e5:N.rw>4
  ·refine rgg [(4,14),(10,20),(16,26),(22,32),(27,37),(32,42),(37,47)] (an4 (an8 p0 Nat.add_zero (yef e0) (yef e1) p1 yn0 (yef e2) (yef e3)) p2 (yef e4) (yet e5)) ?_;exact⟨rfl,rfl,rfl,vq0,_,vr0,fun h=>by cases h⟩
  by_cases e6:N.rf<0
  ·refine rgg [(4,14),(10,20),(16,26),(22,32),(27,37),(32,42),(37,47)] (an6 (an8 p0 Nat.add_zero (yef e0) (yef e1) p1 yn0 (yef e2) (yef e3)) p2 (yef e4) (yef e5) p3 (yet e6)) ?_;exact⟨rfl,rfl,rfl,vq0,_,vr0,fun h=>by cases h⟩
  refine rgg [(4,14),(10,20),(16,26),(22,32),(27,37),(32,42),(37,47)] (an6 (an8 p0 Nat.add_zero (yef e0) (yef e1) p1 yn0 (yef e2) (yef e3)) p2 (yef e4) (yef e5) p3 (yef e6)) ?_;refine⟨rfl,rfl,rfl,vq0,_,vr0,fun h=>?_⟩;simp only[ydF]at h;omega
 rintro _ σ1 _ w2 ⟨rfl,rfl,rfl,s1,t,s51,ht⟩;repeat refine c_r ?_
 cases t with
 |true=>
  refine wt s51 ?_;refine gz0 ?_;refine rt0 Tryz.ntmps16 ?_;exact⟨hE1,_,rfl,fun h=>by cases h⟩
 |false=>
 refine wf s51 ?_;obtain⟨k1,k2,k3,k4⟩:=ht rfl;clear ht s51;refine rqz ?_;intro gd K hgd hK;refine sgz (az5 s1 p1 p2 p3 yn0) ?_;refine⟨by kernel_rfl,?_⟩;rw[show bdV Tryz.prog 112 [(1,.slice ar N.roots.length cr),(2,vi N.rw),(3,vi N.rf)]=some (.agg #[.slice .none 0 0,.slice ar N.roots.length cr,vi N.rw,vi N.rf]) from by kernel_rfl,←hrv];try simp only[go_sem]
 refine za0 (P:=Tryz.prog) (l:=[.slice .none 0 0,rv,vi N.rw,vi N.rf]) rfl (fun v hv=>by simp at hv;rcases hv with rfl|rfl|rfl|rfl<;>first|exact r1|rfl) rfl rfl ?_;intro w3 hE2 hs2 hD;try simp only[go_sem]
 apply hK;obtain⟨c3,hc3⟩:∃b,w2.heap.size=b:=⟨_,rfl⟩;rw[hc3]at hD hs2 ⊢;refine gz0 ?_;refine zap (fun m σ ds A=>ds=[]/\∃(i:Nat) (ov:Value) (G:List (SrvL×(Value×List Value))),i+m=N.hosts.length/\σ 4=vi i/\σ 1= .pointer (some ⟨w.heap.size,0,.none⟩)/\σ 3= .pointer (some ⟨c3,0,.none⟩)/\Ext w2 A/\c3+1<=A.heap.size/\
  A.heap[c3]? =some (.cells #[ov,rv,vi N.rw,vi N.rf] 112 (0,0))/\GS w 119 (c3+1) A ov G/\G.map Prod.fst=(N.hosts.take i).map srvH/\∀j (h:j<N.hosts.length),j<i->N.hosts[j].zones.length<=4/\∀z∈N.hosts[j].zones,GoodZ z) N.hosts.length ?_ ?_
 ·exact⟨rfl,0,.slice .none 0 0,[],by omega,vr0,vq1 s1,vq0,hE2,by omega,hD,⟨Owns.nil _ _ _ _ _,fun x h=>by cases h⟩,rfl,fun j h h2=>absurd h2 (by omega)⟩
 clear s1;rintro m σ ds A ⟨rfl,i,ov,G,him,s4,s1,s3,hEA,hAs,hB3,hGS,hGf,hgood⟩;have p0A:=zaa hEA p0;refine gz (az4 s4 s1 p0A Nat.add_zero) ?_;refine wc0 ?_ ?_
 ·intro hlt;simp only[ydT]at hlt;have hi:i<N.hosts.length:=by omega
  have hi0:=cj i;have hi1':=ci i;obtain⟨xa,xi,x5,nv,az,cz,rfl,hxi,hx5,g0,hn,g5,⟨b1,b2,b3,b4,hadr,hcs⟩,hpl⟩:=hat i hi;have hvi:=hv _ (List.getElem_mem hi);obtain⟨s,hse⟩:∃s,N.hosts[i]=s:=⟨_,rfl⟩;rw[hse]at hn g5 hadr hcs hvi;simp only[hse]at hpl;have n1:=hn.isOne;have hz0:adr (some xi) 0=some xi:=zaj _;obtain⟨y1,hy1⟩:∃y,adr (some xi) 1=some y:=⟨_,rfl⟩;have gby:zaq w (some y1) 4=some [zae b1,zae b2,zae b3,zae b4]:=by
   have h5:=zbb (m:=1) (k:=5) hcs;rw[hy1]at h5;exact zbv (m:=4) (k:=1) h5
  obtain⟨an,cn,hnv,_⟩:=id hn;repeat refine c_r ?_
  refine zaH (fun i=>i==14) [(0,true),(1,true),(2,true),(3,true),(4,true),(5,true),(6,true),(7,true),(8,true),(9,true),(10,true),(11,true),(12,true),(13,false),(14,false)] NoS mixed (by kernel_rfl) ?_;intro gd K x hgd hx hxe hK;clear hxe;have hwx:=hE1.trans (hEA.trans hx);have p0x:=zaa hx p0A;have g0x:=zaa hwx g0;have gbx:=zac hwx gby;refine sgz (az2 (az7 s4 s1 p0x Nat.add_zero hi0 hlt hxi) (az4 hz0 hy1 g0x gbx)) ?_;refine⟨by kernel_rfl,?_⟩;rw[hnv,show bdV Tryz.prog 119 [(0,.slice an (s.name.map vs).length cn),(1,.agg #[zae b1,zae b2,zae b3,zae b4])]=some (.agg #[.slice an (s.name.map vs).length cn,zae b1,zae b2,zae b3,zae b4,.slice .none 0 0]) from by kernel_rfl,←hnv];refine sg0 ?_;refine⟨.inr (Ext.alloc x _),?_⟩;refine za0 (P:=Tryz.prog) (l:=[nv,zae b1,zae b2,zae b3,zae b4,.slice .none 0 0]) rfl (fun v hv=>by simp at hv;rcases hv with rfl|rfl|rfl|rfl|rfl|rfl<;>first|exact n1|rfl) rfl rfl ?_;intro A1 hE3 hs3 hB5;refine⟨.inl rfl,?_⟩;refine sg0 ?_;apply hK;have hx3:=hx.trans hE3;obtain⟨b5,hb5⟩:∃b,x.heap.size=b:=⟨_,rfl⟩;have hsx:=hx.size;rw[hb5]at hB5 hs3 hsx ⊢;have hIP:IP w 119 131 b5 nv b1 b2 b3 b4 A A1 (.slice .none 0 0) []:=⟨hB5,Owns.nil _ _ _ _ _,hx3,hsx⟩;have p01:=zaa hx3 p0A;have g51:=zaa (hE1.trans (hEA.trans hx3)) g5;clear p0x g0x gbx hx hwx hE3 hB5;repeat refine c_r ?_
  by_cases h4:(s.zones.length:Int)>4
  ·refine rg9 s4 s1 p01 Nat.add_zero hi0 hlt hxi hx5 (an2 g51 (yet h4)) ?_;repeat refine c_r ?_
   refine wt trivial ?_;refine gz0 ?_;refine rt0 Tryz.ntmps16 ?_;exact⟨hE1.trans (hEA.trans hx3),_,rfl,fun h=>by cases h⟩
  refine gz (az2 (az7 s4 s1 p01 Nat.add_zero hi0 hlt hxi) (az2 hx5 (an2 g51 (yef h4)))) ?_;refine wf trivial ?_;clear p01 g51 hx3;refine gz0 ?_;refine zap (fun m σ ds v=>ds=[]/\∃(k:Nat) (pv:Value),k+m=s.zones.length/\σ 6=vi k/\σ 4=vi i/\σ 1= .pointer (some ⟨w.heap.size,0,.none⟩)/\σ 3= .pointer (some ⟨c3,0,.none⟩)/\σ 5= .pointer (some ⟨b5,0,.none⟩)/\
   IP w 119 131 b5 nv b1 b2 b3 b4 A v pv ((s.zones.take k).map zhK)/\b5+1<=v.heap.size/\∀j (h:j<s.zones.length),j<k->GoodZ s.zones[j]) s.zones.length ?_ ?_
  ·exact⟨rfl,0,_,by omega,vr0,vq1 s4,vq1 s1,vq1 s3,vq0,hIP,by omega,fun j h h2=>absurd h2 (by omega)⟩
  clear s4 s1 s3 hIP;rintro m2 σ2 ds2 v ⟨rfl,k,pv,hkm,s6,s4,s1,s3,s5,hIP,hvs,hgz⟩;have hEv:=hEA.trans hIP.e;have hwv:=hE1.trans hEv;have p0v:=zaa hEv p0;have g5v:=zaa hwv g5;refine gz (az2 (az7 s6 s4 s1 (an3 p0v Nat.add_zero g5v) hi0 hlt hxi) (az2 hx5 trivial)) ?_;refine wc0 ?_ ?_
  ·intro hlt2;simp only[ydT]at hlt2;have hk:k<s.zones.length:=by omega
   have hk0:=cj k;have hk1':=ci k;obtain⟨xp,xk,ow,lv,rfl,hxk,dz,ho,hl⟩:=hpl k hk;obtain⟨z,hze⟩:∃z,s.zones[k]=z:=⟨_,rfl⟩;have hnz:=hvi _ (List.getElem_mem hk);rw[hze]at ho hl hnz;have o1:=ho.isOne;have l1:=hl.isOne;have dzv:=zac hwv dz;refine rqz ?_;intro gd K hgd hK;refine sgz (az2 (az7 s6 s4 s1 p0v Nat.add_zero g5v hi0) (az7 hlt hxi hx5 hk0 hlt2 hxk dzv)) ?_;refine za0 (P:=Tryz.prog) (l:=[ow,lv]) rfl (zcY o1 l1) rfl rfl ?_;intro v1 hE4 hs4' hB7;try simp only[go_sem]
   apply hK;obtain⟨b7,hb7⟩:∃b,v.heap.size=b:=⟨_,rfl⟩;rw[hb7]at hB7 hs4' ⊢;have hwv1:=hwv.trans hE4;have e0:zad v1 (some ⟨b7,0,.none⟩)=some ow:=zab hB7 rfl;have e1:zad v1 (some ⟨b7,1,.none⟩)=some lv:=zab hB7 rfl;obtain⟨al,cl,hlv,_⟩:=hl.open;repeat refine c_r ?_
   refine zat (Q:=fun e σ' ds' v'=>e= .normal/\ds'=[]/\σ' 6=vi k/\σ' 4=vi i/\σ' 1= .pointer (some ⟨w.heap.size,0,.none⟩)/\σ' 3= .pointer (some ⟨c3,0,.none⟩)/\σ' 5= .pointer (some ⟨b5,0,.none⟩)/\σ' 7= .pointer (some ⟨b7,0,.none⟩)/\Ext v1 v'/\∃t,σ' 132= .bool t/\(t=false->GoodZ z)) ?_ ?_
   ·refine zaH (fun _=>false) [(0,true),(1,true),(2,true),(3,true),(4,false),(5,true),(6,true),(7,true),(8,true),(9,true),(10,true),(11,true),(12,true),(13,true),(14,true),(16,true),(17,true),(18,true),(19,true),(15,false),(20,false),(21,false),(22,false),(23,false),(24,true),(25,true)] NoS mixed (by kernel_rfl) ?_;intro gd K x hgd hx hxe hK;clear hxe;have hg6:=gk 6 113 hgd rfl;have hg12:=gk 12 119 hgd rfl;have e0x:=zaa hx e0;have e1x:=zaa hx e1;have hwx:=hwv1.trans hx;refine sgz (az4 e0x e1x Nat.add_zero yn0) ?_;refine Fn.mono (ZGood_ok hwx (ho.ext hwx) (hl.ext hwx)) ?_;rintro _ y1 ⟨hy1,b,rfl,hb⟩;refine⟨.inr hy1,?_⟩;cases b with
    |false=>
     simp (disch:=first|omega|assumption|rfl) only[go_sem,Bool.not_false,za3,↓hg6,↓hg12];apply hK;exact⟨rfl,rfl,vq1 s6,vq1 s4,vq1 s1,vq1 s3,vq1 s5,vq0,hx.trans hy1,_,vr0,fun h=>by cases h⟩
    |true=>
    obtain⟨go,gR⟩:=hb rfl;have hrok:=zg8 gR hnz;have hRl:=gR.len;have e1y:=zaa hy1 e1x;rw[hlv]at e1y;by_cases h20:(z.recs.length:Int)>20
    ·simp (disch:=first|omega|assumption|rfl) only[go_sem,Bool.not_true,za3,e1y,yn0,yet h20,↓hg6,↓hg12];apply hK;exact⟨rfl,rfl,vq1 s6,vq1 s4,vq1 s1,vq1 s3,vq1 s5,vq0,hx.trans hy1,_,vr0,fun h=>by cases h⟩
    have e0y1:=zaa hy1 e0x;simp (disch:=first|omega|assumption|rfl) only[go_sem,Bool.not_true,za3,e1y,e0y1,yn0,Nat.add_zero,yef h20,↓hg6,↓hg12];rw[←hlv];have hwy1:=hwx.trans hy1;refine Fn.mono (zj7 hwy1 (hl.ext hwy1) (fun r hr=>(gR.few r hr).2.nn) (by omega)) ?_;rintro l1v y2 ⟨hy2,hl2⟩;refine⟨.inr hy2,?_⟩;have hwy2:=hwy1.trans hy2;have e0y:=zaa (hy1.trans hy2) e0x;have e1y2:=zaa (hy1.trans hy2) e1x;simp (disch:=first|omega|assumption|rfl) only[go_sem,e0y,e1y2,Nat.add_zero,yn0,za3,↓hg6,↓hg12];refine Fn.mono (zj7 hwy2 (hl.ext hwy2) (fun r hr=>(gR.few r hr).2.nn) (by omega)) ?_;rintro l2v y3 ⟨hy3,hl3⟩;refine⟨.inr hy3,?_⟩;have hwy3:=hwy2.trans hy3;simp (disch:=first|omega|assumption|rfl) only[go_sem,za3,↓hg6,↓hg12];refine Fn.mono (RZNew_ok (Keep.refl _ y3) (ho.ext hwy3) hl3 hrok (by omega)) ?_;rintro _ y4 ⟨hy4,cv,rfl,hcv⟩;refine⟨.inr hy4,?_⟩;have hl4:Rows 7 (RecAt y4) y4 l1v z.recs:=Rows.extC (fun _ _ h=>RecAt.ext h (hy3.trans hy4)) hl2 (hy3.trans hy4);have hcv4:=RecAt.up hcv hy4;simp (disch:=first|omega|assumption|rfl) only[go_sem,za3,↓hg6,↓hg12];refine op_field (P:=Tryz.prog) (v:=cv) rfl rfl rfl rfl vr0 rfl ?_;refine⟨.inr (Keep.refl _ _),?_⟩;refine Fn.mono (Is5_ok y4 hl4 hcv4 (fun r hr=>⟨(hrok r hr).len,(hrok r hr).dat.n⟩) (by omega)) ?_;rintro _ y5 ⟨hy5,t,rfl,ht⟩;refine⟨.inr hy5,?_⟩;simp (disch:=first|omega|assumption|rfl) only[go_sem,za3,↓hg6,↓hg12];apply hK
    refine⟨rfl,rfl,vq1 s6,vq1 s4,vq1 s1,vq1 s3,vq1 s5,vq0,((((hx.trans hy1).trans hy2).trans hy3).trans hy4).trans hy5,_,vr0,fun h=>⟨go,gR,hnz,(ht ?_).symm⟩⟩;simpa using h
   clear s6 s4 s1 s3 s5;rintro _ σ3 _ v2 ⟨rfl,rfl,s6,s4,s1,s3,s5,s7,hE5,t,s132,hzt⟩;repeat refine c_r ?_
   cases t with
   |true=>
    refine wt s132 ?_;refine gz0 ?_;refine rt0 Tryz.ntmps16 ?_;exact⟨hwv1.trans hE5,_,rfl,fun h=>by cases h⟩
   |false=>
   refine wf s132 ?_;have hgzk:=hzt rfl;clear s132 hzt;have hE45:=hE4.trans hE5;have hIP2:=hIP.h;have hB52:=Ext.at hE45 hIP.h;have q5:zad v2 (some ⟨b5,5,.none⟩)=some pv:=zab hB52 rfl;have e02:=zaa hE5 e0;have lo:=hIP.lo;have hsz2:=hE45.size;obtain⟨ao,co,how,_⟩:=id ho;refine rqz ?_;intro gd K hgd hK;refine sgz (az6 s5 s7 q5 e02 Nat.add_zero yn0) ?_;refine⟨by kernel_rfl,?_⟩;rw[how,show bdV Tryz.prog 131 [(0,.slice ao (z.o.map vs).length co),(1,vs [120])]=some (.agg #[.slice ao (z.o.map vs).length co,vs [120]]) from by kernel_rfl,←how];try simp only[go_sem]
   refine zaL (zc0 w) (l:=[ow,vs [120]]) (a:=zhK z) (by rfl) (by rfl) (by rfl) (by rfl) ⟨ow,rfl,ho⟩ (by decide) ?_;intro v3 hE6 hs6' ho6;try simp only[go_sem]
   have hx04:=hE45.trans hE6;have hsz4:=hx04.size;refine zaC (zc0 w) (hIP.own.ext hx04) ho6.rows (by rfl) (by rfl) (by rfl) (by rfl) (by rfl) (by rfl) (by decide) vr0 vr0 (by simp;omega) (by decide) (by omega) ?_;intro pv' v4 ho7 hE7 hk7 hb7';obtain⟨ap',cp',hpv',_⟩:=ho7.rows.open;refine sgz (az2 s5 yn0) ?_;refine zaU (P:=Tryz.prog) (t:=117) (j:=5) (u:=pv') (l:=[nv,zae b1,zae b2,zae b3,zae b4,pv]) ((hk7.block _ (by omega) (fun hb=>by have:=(hIP.own.ge hb).1;omega)).trans (Ext.at hx04 hIP.h)) (by simp) (by rw[hpv'];rfl) rfl rfl ?_;intro v5 hs5' hB5' hk5';try simp only[go_sem]
   apply hK;have hIPn:=hIP.app hx04 ho7 hk7 hB5' hk5';have hs7:=hk7.size;refine gz (az2 s6 hk1') ?_;refine⟨m2 - 1,by omega,rfl,k+1,pv',by omega,vq0,vq1 s4,vq1 s1,vq1 s3,vq1 s5,?_,by omega,fun j hj hjk=>?_⟩
   ·rw[zal hk,List.map_append,hze];exact hIPn
   ·by_cases hj2:j=k
    ·subst hj2;rw[hze];exact hgzk
    ·exact hgz j hj (by omega)
  ·intro hge2;simp only[ydF]at hge2;have hfull:(s.zones.take k).map zhK=s.zones.map zhK:=by rw[List.take_of_length_le (by omega)]
   rw[hfull]at hIP;obtain⟨ap',cp',hpv',_⟩:=hIP.own.rows.open;have lo:=hIP.lo;have dB:zaq v (some ⟨b5,0,.none⟩) 6=some [nv,zae b1,zae b2,zae b3,zae b4,pv]:=zaf hIP.h rfl;have q3:zad v (some ⟨c3,0,.none⟩)=some ov:=zab (Ext.at hIP.e hB3) rfl;have ones6:∀q∈ [nv,zae b1,zae b2,zae b3,zae b4,pv],one q=true:=fun q hq=>by
    simp at hq;rcases hq with rfl|rfl|rfl|rfl|rfl|rfl<;>first|exact n1|rfl| (rw[hpv'];rfl)
   have hGl:G.length=i:=by
    have:=congrArg List.length hGf;simp at this;omega
   refine rqz ?_;intro gd K hgd hK;refine sgz (az5 s3 s5 q3 dB Nat.add_zero) ?_;refine zaL (C:=gxC) zfl (l:=[nv,zae b1,zae b2,zae b3,zae b4,pv]) (a:=(srvH s,(pv,[nv,zae b1,zae b2,zae b3,zae b4,pv]))) (by rfl) (by rfl) (by rfl) (by rfl) ⟨rfl,rfl,ones6⟩ (by decide) ?_;intro v1 hE4 hs4' ho4;try simp only[go_sem]
   have hAv1:=hIP.e.trans hE4;have hsA1:=hAv1.size;refine zaC zfl ((hGS.ext hAv1).own) ho4.rows (by rfl) (by rfl) (by rfl) (by rfl) (by rfl) (by rfl) (by decide) vr0 vr0 (by simp;omega) (by decide) (by omega) ?_;intro ov' v2 ho5 hE5 hk5 hb5';obtain⟨ao',co',hov',_⟩:=ho5.rows.open;refine sgz (az2 s3 Nat.add_zero) ?_;refine zaU (P:=Tryz.prog) (t:=110) (j:=0) (u:=ov') (l:=[ov,rv,vi N.rw,vi N.rf]) ((hk5.block _ (by omega) (fun hb=>by have:=(hGS.own.ge hb).1;omega)).trans (Ext.at hAv1 hB3)) (by simp) (by rw[hov'];rfl) rfl rfl ?_;intro v3 hs3' hB3' hk3';try simp only[go_sem]
   apply hK;have hGS2:=hGS.app hAv1 hAs (x:=(srvH s,(pv,[nv,zae b1,zae b2,zae b3,zae b4,pv]))) ⟨nv,b1,b2,b3,b4,rfl,hadr,hn,hIP.own.rows.ext hE4⟩ ((hIP.own.blk.mono (by omega)).ext hE4.size) ho5 hk5 hb5';have hGS3:=hGS2.keep hk3' (fun b h1 _ h2=>by omega);have hs5:=hk5.size;refine gz (az2 s4 hi1') ?_;refine⟨m - 1,by omega,rfl,i+1,ov',_,by omega,vq0,vq1 s1,vq1 s3,Keep.to_ext (hE5 w2 (hEA.trans hAv1) (by omega)) rfl (fun b hb=>by omega) hk3',by omega,hB3',hGS3,?_,fun j hj hji=>?_⟩
   ·rw[zal hi,List.map_append,List.map_append,hGf,hse];rfl
   ·by_cases hj2:j=i
    ·subst hj2;rw[hse];refine⟨by omega,fun z hz=>?_⟩;obtain⟨k2,hk2,rfl⟩:=List.mem_iff_getElem.1 hz;exact hgz k2 hk2 (by omega)
    ·exact hgood j hj (by omega)
 ·intro hge;simp only[ydF]at hge;rw[List.take_of_length_le (by omega)]at hGf;have hEw:=hE1.trans hEA;have hrows:=hGS.rows hEw;rw[hGf]at hrows;have o1:=hrows.isOne;have dx:=zaf (n:=4) (l:=[ov,rv,vi N.rw,vi N.rf]) hB3 rfl;have hcf:ConfAt A [ov,rv,vi N.rw,vi N.rf] (confN N):=⟨ov,rv,rfl,hrows,hr0.ext hEw⟩;repeat refine c_r ?_
  refine rc (an2 s3 dx) (Few15_ok A hcf) ?_;rintro _ A1 ⟨hE3,t,rfl,hfew⟩;refine re trivial ?_;repeat refine c_r ?_
  cases t with
  |false=>
   refine wt Bool.not_false ?_;refine gz0 ?_;refine rt0 Tryz.ntmps16 ?_;exact⟨hEw.trans hE3,_,rfl,fun h=>by cases h⟩
  |true=>
  refine wf Bool.not_true ?_;have hf:=hfew rfl;have dx1:=zac hE3 dx;repeat refine c_r ?_
  refine rc (an2 s3 dx1) (Of15_ok A1 (hcf.ext hE3) hf) ?_;rintro _ A2 ⟨hE4,cs',rfl,hcf2⟩;refine rd trivial (ziG A2 hcf2 hf) ?_;rintro _ A3 ⟨hE5,a,e,rfl,he⟩;refine re trivial ?_;refine gz0 ?_;refine rt0 Tryz.ntmps16 ?_;refine⟨hEw.trans (hE3.trans (hE4.trans hE5)),_,rfl,fun h=>?_⟩;have hro:=he (by simpa using h);have hgj:∀h∈N.hosts,h.zones.length<=4/\∀z∈h.zones,GoodZ z:=fun h hh=>by
   obtain⟨j,hj,rfl⟩:=List.mem_iff_getElem.1 hh;exact hgood j hj (by omega)
  refine⟨⟨by omega,fun h hh=>(hf.s (srvH h) (List.mem_map_of_mem hh)).1.m,fun h hh=>by have:=(hgj h hh).1;omega,fun h hh=>(hgj h hh).2,by omega⟩,k1,k2,fun r hr=>?_,k3,k4,fun h hh=>(hgj h hh).1,fun h hh=>(hf.s (srvH h) (List.mem_map_of_mem hh)).1⟩;have:=hro.inn r hr;rw[show (confN N).servers.length=N.hosts.length from ylm _]at this;exact this
structure GoodSt(N:NetL)(s:zao):Prop where
 s0:0<=s.sv
 s1:s.sv<(N.hosts.length:Int)
 nm:zcf s.name=true
 w0:0<=s.rw
 w1:s.rw<=N.rw
 f0:0<=s.rf
 f1:s.rf<=N.rf
 e0:0<=s.fin
 e1:s.fin<=9
theorem zk8:∀{n:Nm},(∀l∈n,l≠ [])->2*n.length<=(n.map fun l=>1+l.length).sum
 | [],_=>by simp
 |l::n,h=>by
  have h1:=List.length_pos_iff.2 (h l (List.mem_cons_self ..));have h2:=zk8 (n:=n) fun m hm=>h m (List.mem_cons_of_mem _ hm);rw[List.map_cons,List.sum_cons,List.length_cons];omega
theorem zi5{n:Nm}(h:zaE n=0):n.length<=127:=by
 have hl:=zbu h;have h2:=zk8 fun l hm=>(hl l hm).1;unfold zaE at h;cases hf:n.find? (fun l=>decide (errL l≠0)) with
 |some x=>
  rw[hf]at h;have h1:=List.find?_some hf;simp at h1;exact absurd h h1
 |none=>
  rw[hf]at h
  dsimp only at h
  split at h
  ·cases h
  ·rename_i h3;unfold lenN at h3;omega
theorem zkt{n:Nm}(h:zaE n=0):zcf n=true:=by
 unfold zcf;rw[Bool.and_eq_true,ydT];refine⟨?_,h⟩;have h1:=zbu h;have h2:=zi5 h;unfold few;simp only[Bool.and_eq_true,ydT,List.all_eq_true];refine⟨by omega,fun l hl=>by have:=(h1 l hl).2;omega⟩
theorem GoodSt.b{N:NetL}{s:zao}(h:GoodSt N s)(hN:zbi N):StB s:=⟨(zbp h.nm).m,h.w0,by have:=h.w1;have:=hN.w.2;omega,h.f0,by have:=h.f1;have:=hN.f.2;omega⟩
structure zmX(N:NetL)(s x:zao):Prop where
 g:GoodSt N x
 w:s.rw<=x.rw
 f:s.rf<=x.rf
 m1:x.rw - s.rw+x.rf - s.rf<=1
 go:x.fin=0->x.rw - s.rw+x.rf - s.rf=1
theorem zh8{N:NetL}{s s0 x:zao}{k:Int}(hs:GoodSt N s)(hk:1<=k/\k<=9)(hw:s0.rw=s.rw)(hf:s0.rf<=s.rf/\s.rf<=s0.rf+1)(hx:x∈endS s k):zmX N s0 x:=by
 rw[List.mem_singleton.1 hx];exact⟨⟨hs.s0,hs.s1,hs.nm,hs.w0,hs.w1,hs.f0,hs.f1,by dsimp only;omega,hk.2⟩,by dsimp only;omega,by dsimp only;omega,by dsimp only;omega,fun h=>by dsimp only at h;omega⟩
theorem zjB{α:Type}{p:α->Bool}:∀{l:List α} {i:Nat} {k:Int},k∈zcN p i l->(i:Int)<=k/\k<(i:Int)+(l.length:Int)
 | [],i,k,h=>by cases h
 |a::l,i,k,h=>by
  unfold zcN at h;rcases List.mem_append.1 h with h|h
  ·split at h
   ·rw[List.mem_singleton.1 h,List.length_cons];omega
   ·cases h
  ·have:=zjB h;rw[List.length_cons];omega
theorem aliasS_F{N:NetL}{s x:zao}{to:Nm}(hN:zbi N)(hs:GoodSt N s)(h0:s.fin=0)(ht:zaE to=0)(hx:x∈zdV N s to):zmX N s x:=by
 unfold zdV at hx
 split at hx
 ·exact zh8 hs (by omega) rfl (by omega) hx
 rename_i hw;have hw':s.rw<N.rw:=by omega
 have g:∀k:Int,0<=k->k<(N.hosts.length:Int)->zmX N s {s with rw:=s.rw+1,name:=to,ref:=false,sv:=k}:=fun k h1 h2=>
  ⟨⟨h1,h2,zkt ht,by have:=hs.w0;dsimp only;omega,by dsimp only;omega,hs.f0,hs.f1,hs.e0,hs.e1⟩,by dsimp only;omega,by dsimp only;omega,by dsimp only;omega,fun _=>by dsimp only;omega⟩
 split at hx
 ·rw[List.mem_singleton.1 hx];exact g s.sv hs.s0 hs.s1
 ·unfold zcM at hx;obtain⟨k,hk,rfl⟩:=List.mem_map.1 hx;have:=hN.rin k hk;exact g k this.1 this.2
theorem referS_F{N:NetL}{s x:zao}{r:ResL}(hs:GoodSt N s)(h0:s.fin=0)(hx:x∈zei N s r):zmX N s x:=by
 unfold zei at hx
 split at hx
 ·exact zh8 hs (by omega) rfl (by omega) hx
 rename_i hw;have hf0:=hs.f0;have hs2:GoodSt N {s with rf:=s.rf+1}:=⟨hs.s0,hs.s1,hs.nm,hs.w0,hs.w1,by dsimp only;omega,by dsimp only;omega,hs.e0,hs.e1⟩;obtain⟨h,_,hx⟩:=List.mem_flatMap.1 hx;unfold zdP at hx;rcases List.mem_append.1 hx with hx|hx
 ·split at hx
  ·exact zh8 hs2 (by omega) rfl (by dsimp only;omega) hx
  ·cases hx
 ·obtain⟨k,hk,rfl⟩:=List.mem_map.1 hx;unfold ofR zeq at hk;have:=zjB hk;exact⟨⟨by dsimp only;omega,by dsimp only;omega,hs.nm,hs.w0,hs.w1,by dsimp only;omega,by dsimp only;omega,hs.e0,hs.e1⟩,by dsimp only;omega,by dsimp only;omega,by dsimp only;omega,fun _=>by dsimp only;omega⟩
theorem zgr{N:NetL}{s x:zao}{t:Int}(hN:zbi N)(hs:GoodSt N s)(hx:x∈zbx N s t):s.fin=0/\zmX N s x:=by
 have hF:=zkJ (s:=s.sv) (t:=t) hN.z (zbp hs.nm).m;unfold zbx at hx
 split at hx
 ·rename_i h0;refine⟨h0,?_⟩;repeat first| (split at hx;(first|exact zh8 hs (by omega) rfl (by omega) hx|exact aliasS_F hN hs h0 (hF.nm (by assumption)) hx|exact referS_F hs h0 hx))|exact zh8 hs (by omega) rfl (by omega) hx
 ·cases hx
theorem next_ne{N:NetL}{s:zao}{t:Int}(hN:zbi N)(hs:GoodSt N s)(h0:s.fin=0):zbx N s t≠ []:=by
 have hF:=zkJ (s:=s.sv) (t:=t) hN.z (zbp hs.nm).m;have he:∀k:Int,endS s k≠ []:=fun k h=>by cases h
 unfold zbx;rw[if_pos h0]
 split
 ·exact he _
 split
 ·exact he _
 split
 ·exact he _
 split
 ·exact he _
 split
 ·unfold zdV
  split
  ·exact he _
  split
  ·intro h;cases h
  ·intro h;unfold zcM at h;have:=List.map_eq_nil_iff.1 h;have:=hN.r1.1
   simp_all
 split
 ·rename_i h4;unfold zei
  split
  ·exact he _
  ·intro h;have hn:=hF.ld h4;obtain⟨x,hx⟩:=List.exists_mem_of_ne_nil _ hn;have h2:=List.flatMap_eq_nil_iff.1 h x hx;unfold zdP at h2;obtain⟨h3,h5⟩:=List.append_eq_nil_iff.1 h2;have h6:=List.map_eq_nil_iff.1 h5;rw[h6]at h3;cases h3
 split<;>exact he _
theorem zhw{u:Int}{ds:List DatL}:(zay u ds).length<=ds.length:=by
 unfold zay
 split
 ·exact List.length_filterMap_le _ _
 ·simp
theorem next_len{N:NetL}{s:zao}{t:Int}(hN:NetZ N)(ms:NmM s.name):(zbx N s t).length<=2000000:=by
 have hF:=zkJ (s:=s.sv) (t:=t) hN ms;have he:∀k:Int,(endS s k).length<=2000000:=fun k=>by unfold endS;simp
 have h1:=hN.rl;have h2:=hN.hl;unfold zbx
 split
 ·repeat (split;· exact he _)
  split
  ·unfold zdV
   split
   ·exact he _
   split
   ·simp
   ·unfold zcM;rw[ylm];omega
  split
  ·unfold zei
   split
   ·exact he _
   ·have h3:=zhc (fun a=>zhX (N:=N) (r:=askN N s.sv s.name t) (s:={s with rf:=s.rf+1}) (h:=a)) (zay 2 (askN N s.sv s.name t).data);have h4:=zhw (u:=2) (ds:=(askN N s.sv s.name t).data);have h5:=hF.dl;have h6:(zay 2 (askN N s.sv s.name t).data).length*(N.hosts.length+1)<=1000*1001:=Nat.mul_le_mul (by omega) (by omega);omega
  split<;>exact he _
 ·simp
def zcG(N:NetL)(t:Int):Nat->Nat->List MetL->List MetL
 |0,_,row=>row
 |f+1,i,row=>match row[i]? with
  |some x=>if row.length<=4096 then zcG N t f (i+1) (za9 x.2 0 row (zbx N x.1 t)) else row
  | .none=>row
def zbf(N:NetL)(q:Nm):List zao:=zcM N ⟨0,q,0,0,false,0⟩
def zc5(N:NetL)(q:Nm)(t:Int):List MetL:=zcG N t 4097 0 (za9 [] 0 [] (zbf N q))
def zb9(row:List MetL)(k:Int):Option MetL:=row.find? fun x=>decide (x.1.fin=k)
def zev(row:List MetL)(n:Nat):List (Int×List Int):=(List.range n).filterMap fun j=>(zb9 row ((j+1:Nat):Int)).map fun x=>(((j+1:Nat):Int),x.2)
def zfd(row:List MetL):List (Int×List Int):=zev row 9
theorem zcS{row:List MetL}{n:Nat}:zev row (n+1)=zev row n++((zb9 row ((n+1:Nat):Int)).map fun x=>(((n+1:Nat):Int),x.2)).toList:=by
 unfold zev;rw[List.range_succ,List.filterMap_append]
 congr 1
theorem zfS(row:List MetL)(n:Nat):(zev row n).length<=n:=by
 unfold zev;have:=List.length_filterMap_le (fun j=>(zb9 row ((j+1:Nat):Int)).map fun x=>(((j+1:Nat):Int),x.2)) (List.range n);rw[List.length_range]at this;exact this
structure EndI(w:World)(P:List MetL)(E:List (Value×MetL)):Prop where
 a:∀e∈E,zb9 P e.2.1.fin=some e.2/\e.2.1.fin≠0/\Row w e.1 (e.2.2.map vi)
 b:∀x∈P,x.1.fin≠0->∃e∈E,e.2.1.fin=x.1.fin
theorem EndI.ext{w x:World}{P:List MetL}{E:List (Value×MetL)}(h:EndI w P E)(hE:Ext w x):EndI x P E:=
 ⟨fun e he=>by obtain⟨h1,h2,h3⟩:=h.a e he;exact⟨h1,h2,h3.ext hE⟩,h.b⟩
theorem zd2{P:List MetL}{X:MetL}{k:Int}:zb9 (P++ [X]) k=(zb9 P k).or (if X.1.fin=k then some X else .none):=by
 unfold zb9;rw[List.find?_append]
 congr 1
 by_cases h:X.1.fin=k<;>simp[h]
theorem EndI.keep{w:World}{P:List MetL}{E:List (Value×MetL)}{X:MetL}(h:EndI w P E)(hx:X.1.fin=0\/∃e∈E,e.2.1.fin=X.1.fin):EndI w (P++ [X]) E:=by
 refine⟨fun e he=>?_,fun x hx' h0=>?_⟩
 ·obtain⟨h1,h2,h3⟩:=h.a e he;exact⟨by rw[zd2,h1];rfl,h2,h3⟩
 ·rcases List.mem_append.1 hx' with hx'|hx'
  ·exact h.b x hx' h0
  ·rw[List.mem_singleton.1 hx']at h0 ⊢;exact hx.resolve_left h0
theorem EndI.add{w:World}{P:List MetL}{E:List (Value×MetL)}{X:MetL}{pv:Value}(h:EndI w P E)(h0:X.1.fin≠0)(hn:∀e∈E,e.2.1.fin≠X.1.fin)(hr:Row w pv (X.2.map vi)):EndI w (P++ [X]) (E++ [(pv,X)]):=by
 have hnone:zb9 P X.1.fin= .none:=List.find?_eq_none.2 fun x hx e=>by
  have e:=of_decide_eq_true e;obtain⟨y,hy,he⟩:=h.b x hx (by rw[e];exact h0);exact hn y hy (he.trans e)
 refine⟨fun e he=>?_,fun x hx' hx0=>?_⟩
 ·rcases List.mem_append.1 he with he|he
  ·obtain⟨h1,h2,h3⟩:=h.a e he;exact⟨by rw[zd2,h1];rfl,h2,h3⟩
  ·rw[List.mem_singleton.1 he];exact⟨by rw[zd2,hnone,if_pos rfl];rfl,h0,hr⟩
 ·rcases List.mem_append.1 hx' with hx'|hx'
  ·obtain⟨e,he,h1⟩:=h.b x hx' hx0;exact⟨e,List.mem_append_left _ he,h1⟩
  ·exact⟨(pv,X),by simp,by rw[List.mem_singleton.1 hx']⟩
theorem EndI.no{w:World}{P:List MetL}{E:List (Value×MetL)}{k:Int}(h:EndI w P E)(hk:k≠0)(hn:∀e∈E,e.2.1.fin≠k):zb9 P k= .none:=List.find?_eq_none.2 fun x hx e=>by
 have e:=of_decide_eq_true e;obtain⟨y,hy,he⟩:=h.b x hx (by rw[e];exact hk);exact hn y hy (he.trans e)
def entE(e:Value×MetL):Value×Value:=(vi e.2.1.fin,.agg #[vi e.2.1.fin,e.1])
structure RowG(N:NetL)(i:Nat)(row:List MetL):Prop where
 g:∀y∈row,GoodSt N y.1
 p:∀y∈row,y.2.length<=i
theorem RowG.meet{N:NetL}{i:Nat}{row:List MetL}{p:List Int}{L:List zao}{k:Nat}(h:RowG N i row)(hp:p.length<i)(hL:∀s∈L,GoodSt N s):RowG N i (za9 p k row L):=by
 refine⟨fun y hy=>?_,fun y hy=>?_⟩
 ·rcases zep hy with hy| ⟨hy,_⟩
  ·exact h.g y hy
  ·exact hL _ hy
 ·rcases zep hy with hy| ⟨_,j,e⟩
  ·exact h.p y hy
  ·rw[e,List.length_append,List.length_singleton];omega
theorem RowG.mono{N:NetL}{i j:Nat}{row:List MetL}(h:RowG N i row)(hij:i<=j):RowG N j row:=⟨h.g,fun y hy=>Nat.le_trans (h.p y hy) hij⟩
theorem zff{x:Int}(h0:0<=x)(h1:x<=1000000):(Lit.int .i64 x).wf=true:=by
 have e1:IntKind.i64.min= -9223372036854775808:=by decide
 have e2:IntKind.i64.max=9223372036854775807:=by decide
 show(decide (IntKind.i64.min<=x) && decide (x<=IntKind.i64.max))=true;rw[e1,e2,yet (by omega),yet (by omega)];rfl
theorem zjs{k:Nat}:∀{l:List Nat},(∀x∈l,x<=k)->l.sum<=k*l.length
 | [],_=>by simp
 |a::l,h=>by
  have h1:=h a (by simp);have h2:=zjs (l:=l) fun x hx=>h x (by simp[hx]);rw[List.sum_cons,List.length_cons,Nat.mul_succ];omega
theorem zg9{N:NetL}{s:zao}(hN:zbi N)(h:GoodSt N s):StG s:=by
 have hg:=zbp h.nm;have hf:=hg.fold;have hfew:few s.name=true:=by have:=h.nm;unfold zcf at this;exact(Bool.and_eq_true_iff.1 this).1
 have hl:∀l∈zan s.name,l.length<=100:=fun l hl=>by
  obtain⟨x,hx,rfl⟩:=List.mem_map.1 hl;simp only[few,Bool.and_eq_true,List.all_eq_true,ydT]at hfew;rw[zeu];exact hfew.2 x hx
 have h1:=hN.h1.2;have h2:=hN.w.2;have h3:=hN.f.2;have:=h.s0;have:=h.s1;have:=h.w0;have:=h.w1;have:=h.f0;have:=h.f1;have:=h.e0;have:=h.e1;refine⟨hg,?_,zff (by show 0<=s.sv;omega) (by show s.sv<=_;omega),zff (by show 0<=s.rw;omega) (by show s.rw<=_;omega),zff (by show 0<=s.rf;omega) (by show s.rf<=_;omega),zff (by show 0<=s.fin;omega) (by show s.fin<=_;omega)⟩;show(zaP (zan s.name)).length<=_;have h4:=zee (zan s.name);have h5:=zjs (k:=100) (l:=(zan s.name).map List.length) (fun x hx=>by obtain⟨l,hl',rfl⟩:=List.mem_map.1 hx;exact hl l hl');rw[ylm]at h5;have h6:=hf.len;unfold zaP
 split
 ·simp
 ·omega
theorem zfB{N:NetL}{q:Nm}(hN:zbi N)(hq:zcf q=true):∀s∈zbf N q,GoodSt N s:=fun s hs=>by
 obtain⟨r,hr,rfl⟩:=List.mem_map.1 hs;obtain⟨h1,h2⟩:=hN.rin r hr;exact⟨h1,h2,hq,Int.le_refl _,hN.w.1,Int.le_refl _,hN.f.1,Int.le_refl _,by show(0:Int)<=9;decide⟩
theorem expl_g{N:NetL}{t:Int}(hN:zbi N):∀{f i:Nat} {row:List MetL},RowG N (i+1) row->RowG N (i+f+1) (zcG N t f i row)
 |0,i,row,h=>h
 |f+1,i,row,h=>by
  unfold zcG
  split
  ·rename_i x hx
   split
   ·have hm:=List.mem_of_getElem? hx;have h1:=h.p x hm;have:=expl_g (f:=f) (i:=i+1) (t:=t) hN ((h.mono (j:=i+1+1) (by omega)).meet (k:=0) (p:=x.2) (L:=zbx N x.1 t) (by omega) (fun s hs=>(zgr hN (h.g x hm) hs).2.g));rw[show i+(f+1)+1=i+1+f+1 by omega];exact this
   ·exact h.mono (by omega)
  ·exact h.mono (by omega)
def AlS(a b:zao):Prop:=∃n,b={a with name:=n}/\zan n=zan a.name
structure EndAt(w:World)(cs:List Value)(x:Int×List Int):Prop where
 ex:∃pv,cs=[vi x.1,pv]/\Row w pv (x.2.map vi)
theorem EndAt.ext{w x:World}{cs:List Value}{e:Int×List Int}(h:EndAt w cs e)(hE:Ext w x):EndAt x cs e:=by
 obtain⟨pv,e1,h1⟩:=h.ex;exact⟨pv,e1,h1.ext hE⟩
theorem zcT(w:World):zdR 2 (EndAt w):=⟨fun h=>by obtain⟨pv,rfl,_⟩:=h.ex;rfl,fun h=>by obtain⟨pv,rfl,h1⟩:=h.ex;exact zcY rfl h1.isOne⟩
theorem zhT{N:NetL}{s:zao}{t:Int}(hN:zbi N)(hs:GoodSt N s):(zbx N s t).length<=2000000:=next_len hN.z (zbp hs.nm).m
theorem zgK{w0 w:World}(hE0:Ext w0 w){cs:List Value}{N:NetL}{qv:Value}{q:Nm}{t:Int}(hN:NetAt w0 cs N)(hG:zbi N)(hq:Row w qv (q.map vs))(hgq:zcf q=true):
  Fn Tryz.prog 35 #[.agg cs.toArray,qv,vi t] w (fun v w'=>Ext w w'/\((4096<(zc5 N q t).length/\v= .tuple #[.slice .none 0 0,vi 0,vi 11])\/
   ((zc5 N q t).length<=4096/\∃ev,v= .tuple #[ev,vi (zc5 N q t).length,vi 0]/\Rows 2 (EndAt w') w' ev (zfd (zc5 N q t))))):=by
 have hN0:=hN;obtain⟨hsv,rv,rfl,hh,hr⟩:=hN.ex;obtain⟨ah,ch,hhv,_⟩:=hh.open;obtain⟨ar0,cr0,hrv,_⟩:=id hr;refine enter Tryz.func35 Tryz.ntmps35 rfl rfl ?_;repeat refine c_r ?_
 rw[hhv,hrv];refine go trivial ?_;rw[←hhv,←hrv];refine zax ?_;intro w1 hE1 hs1 hA;refine rq ?_;intro gd K hgd hK;try simp only[go_sem]
 refine⟨by kernel_rfl,?_⟩;rw[show bdV Tryz.prog 161 [(0,.map (some w1.heap.size))]=some (.agg #[.map (some w1.heap.size),.slice .none 0 0]) from by kernel_rfl];try simp only[go_sem]
 apply hK;rw[zak];refine go trivial ?_;refine zaI ?_;intro w2 hE2 hs2 hM hB;have dN:zaq w2 (some ⟨w.heap.size,0,.none⟩) 4=some [hsv,rv,vi N.rw,vi N.rf]:=zaf (Ext.at hE2 hA) rfl;obtain⟨m,hm⟩:∃m,w1.heap.size=m:=⟨_,rfl⟩;rw[hm]at hM hB hs2 ⊢;have hI2:SetI w1 w2 (m+1) m (.slice .none 0 0) []:=⟨hB,⟨_,_,hM,rfl⟩,Owns.nil _ _ _ _ _,hE2,by omega,by omega,by omega,(fun e=>by cases e),(fun e=>by cases e)⟩;clear hB hM;have hE02:=hE0.trans (hE1.trans hE2);refine go trivial ?_;have hmq:=zbp hgq;refine rc dN (zis hE02 hN0 hG.z.rl (hq.ext (hE1.trans hE2))) ?_;rintro sv w3 ⟨hE3,hsb,_,rfl,hsr,hsn⟩;have hI3:=hI2.ext hE3;have hSw:∀i,setB (m+1) m (.slice .none 0 0) i->w1.heap.size<=i/\i<w2.heap.size:=fun i hi=>hI2.lt hi;have hsl:(zbf N q).length<=1000:=by have:=hG.z.rl;unfold zbf zcM;rw[ylm];exact this
 refine rd trivial (zlS (L:=zbf N q) (p:=[]) hI3 ⟨⟨.none,0,rfl,ynl _,fun j h=>by simp at h⟩,fun h=>absurd rfl h⟩ (by decide) hsr (fun a n c e=>by
  obtain⟨k1,k2⟩:=hsb a n c e;exact⟨k2,fun hj=>by have:=hSw _ hj;omega⟩) (fun s hs=>by
  have:s.name=q:=by obtain⟨r,_,rfl⟩:=List.mem_map.1 hs;rfl
  rw[this];exact RowY.old hq (hE1.trans (hE2.trans hE3)) fun b hb=>by have:=hSw _ hb;have:=hE1.size;omega) (fun s hs=>zg9 hG (zfB hG hgq s hs)) (fun y hy=>by cases hy) (by simp;omega)) ?_
 rintro _ w4 ⟨lv,hI4,hk4,hS4⟩;refine rgo trivial ?_;have hR0:RowG N 1 (za9 [] 0 [] (zbf N q)):=RowG.meet ⟨fun y hy=>(by cases hy),fun y hy=>(by cases hy)⟩ (by simp) (zfB hG hgq);have hl0:(za9 [] 0 [] (zbf N q)).length<=1000:=by have:=zb8 (p:=[]) (k:=0) (L:=zbf N q) (row:=[]);simp at this;omega
 obtain⟨F,hF⟩:∃F,zc5 N q t=F:=⟨_,rfl⟩;rw[hF];have hA4:w4.heap[w.heap.size]? =some (.cells #[hsv,rv,vi N.rw,vi N.rf] 25 (0,0)):=Ext.at (hI4.e) hA;have hqo:∀{v lv':_} {row:List MetL},SetI w1 v (m+1) m lv' row->zaq v (some ⟨w.heap.size,0,.none⟩) 4=some [hsv,rv,vi N.rw,vi N.rf]:=fun h=>zaf (Ext.at h.e hA) rfl;refine zat (Q:=fun e σ' ds' v=>e= .exit 0/\ds'=[]/\(σ' 9= .pointer (some ⟨m+1,0,.none⟩))/\∃lv,SetI w1 v (m+1) m lv F/\RowG N 5000 F/\F.length<=2100000) ?_ ?_
 ·refine zap (fun mm σ ds v=>ds=[]/\∃(i:Nat) (lv:Value) (row:List MetL),i+mm=4098/\(σ 10=vi i/\σ 9= .pointer (some ⟨m+1,0,.none⟩)/\σ 3= .pointer (some ⟨w.heap.size,0,.none⟩)/\σ 2=vi t)/\SetI w1 v (m+1) m lv row/\RowG N (i+1) row/\row.length<=2100000/\zcG N t (4097 - i) i row=F) 4098 ?_ ?_
  ·exact⟨rfl,0,lv,_,by omega,⟨vr0,vq0,vq0,vq0⟩,hI4,hR0,by omega,hF⟩
  rintro mm σ ds v ⟨rfl,i,lv1,row,him,s,hI,hRG,hrl,hFe⟩;obtain⟨al,cl,rfl,_,hgl⟩:=hI.o.rows.open;have c1:zad v (some ⟨m+1,1,.none⟩)=some (.slice al row.length cl):=zab (i:=1) hI.c rfl;by_cases hi:i<row.length
  rotate_left
  ·have hFr:row=F:=by
    rw[←hFe];cases hf:4097 - i with
    |zero=>rfl
    |succ f=>unfold zcG;rw[List.getElem?_eq_none (by omega)]
   have hd:decide ((i:Int)<(row.length:Int))=false:=yef (by omega);refine go trivial ?_;refine rgg [(7,35)] (an3 s c1 hd) ?_;refine go trivial ?_;rw[←hFr];exact⟨rfl,rfl,vq1 s,_,hI,hRG.mono (by omega),hrl⟩
  have hd:decide ((i:Int)<(row.length:Int))=true:=yet (by omega);by_cases hm4:row.length<=4096
  rotate_left
  ·have hFr:row=F:=by
    rw[←hFe];cases hf:4097 - i with
    |zero=>rfl
    |succ f=>unfold zcG;rw[List.getElem?_eq_getElem hi];simp only[];rw[if_neg hm4]
   have hd2:decide ((row.length:Int)<=4096)=false:=yef (by omega);refine go trivial ?_;refine rgg [(7,35)] (an4 s c1 hd hd2) ?_;refine go trivial ?_;rw[←hFr];exact⟨rfl,rfl,vq1 s,_,hI,hRG.mono (by omega),hrl⟩
  have hd2:decide ((row.length:Int)<=4096)=true:=yet (by omega);obtain⟨f,hf⟩:∃f,4097 - i=f+1:=⟨4096 - i,by omega⟩;obtain⟨cs7,hcs,hMt⟩:=hgl i hi;have hmem:=List.getElem_mem hi;have hFn:zcG N t f (i+1) (za9 row[i].2 0 row (zbx N row[i].1 t))=F:=by
   rw[←hFe,hf]
   conv=>rhs;unfold zcG
   rw[List.getElem?_eq_getElem hi];simp only[];rw[if_pos hm4]
  obtain⟨X,hX⟩:∃X,row[i]=X:=⟨_,rfl⟩;rw[hX]at hMt hmem hFn;have gX:=hRG.g X hmem;have pX:=hRG.p X hmem;obtain⟨nv,pv,rfl,hnv,hpv⟩:=id hMt.ex;obtain⟨xa,rfl⟩:=yxs (zai hcs);obtain⟨xi,hxi⟩:∃xi,adr (some xa) (i*7)=some xi:=⟨_,rfl⟩;rw[hxi]at hcs;have hz0:adr (some xi) 0=some xi:=zaj _;obtain⟨x6,hx6⟩:∃x,adr (some xi) 6=some x:=⟨_,rfl⟩;have g6:=zah (j:=6) hcs rfl;rw[hx6]at g6;have gS:=zbv (m:=6) (k:=1) hcs;rw[show (stV nv X.1++ [pv]).take 6=stV nv X.1 from rfl]at gS;have hi0:=cj i;have hi1:(i:Int)<(row.length:Int):=by omega
  have hi1':=ci i;have dN':=hqo hI;have hnl:=zhT (t:=t) hG gX;refine go trivial ?_;refine rgg [(7,35)] (an4 s c1 hd hd2) ?_;refine go trivial ?_;refine zat (Q:=fun e σ' ds' v'=>e= .normal/\ds'=[]/\(σ' 10=vi i/\σ' 9= .pointer (some ⟨m+1,0,.none⟩)/\σ' 3= .pointer (some ⟨w.heap.size,0,.none⟩)/\σ' 2=vi t)/\∃lv',SetI w1 v' (m+1) m lv' (za9 X.2 0 row (zbx N X.1 t))) ?_ ?_
  ·refine zaH (fun i=>i==20) [(0,true),(1,true),(2,true),(3,true),(4,true),(5,true),(6,true),(7,true),(8,true),(9,true),(10,true),(11,true),(12,true),(13,true),(14,true),(15,true),(16,true),(17,true),(18,true),(19,false),(20,false)] NoS mixed (by kernel_rfl) ?_;intro gd K x hgd hx hxe hK;clear hxe;have c1x:=zaa hx c1;have g6x:=zaa hx g6;have gSx:=zac hx gS;have dNx:=zac hx dN';unfold stV at gSx;refine sgz (az2 (az7 s c1x g6x gSx dNx hxi hz0) (az3 hx6 hi0 hi1)) ?_;have hE0x:=hE0.trans (hE1.trans (hI.e.trans hx));refine Fn.mono (zj8 (t:=t) hE0x hN0 hG.z (hnv.1.ext hx) (gX.b hG)) ?_;rintro sv2 y ⟨hy,hsb2,u,hok,hsr2,hsn2⟩;refine⟨.inr hy,?_⟩;refine sg0 ?_;have hIy:=hI.ext (hx.trans hy);have hSx:∀j,setB (m+1) m (.slice (some xa) row.length cl) j->w1.heap.size<=j/\j<x.heap.size:=fun j hj=>(hI.ext hx).lt hj;have kx:Keep (setB (m+1) m (.slice (some xa) row.length cl)) v y:=(hx.trans hy).mono fun _ _ h=>h.elim;refine Fn.mono (zlS (L:=zbx N X.1 t) (p:=X.2) hIy (hpv.turn kx fun _ h=> .inl h) (by omega) hsr2 (fun a n c e=>by
    obtain⟨k1,k2⟩:=hsb2 a n c e;exact⟨k2,fun hj=>by have:=hSx _ hj;omega⟩) (fun s' hs'=>?_) (fun s' hs'=>zg9 hG (zgr hG gX hs').2.g) (fun y' hy'=>(zg9 hG (hRG.g y' hy')).k) (by omega)) ?_
   ·rcases hok with rfl|hok| ⟨l,hl⟩
    ·exact(hnv.turn kx fun _ h=> .inl h).alike (hsn2 s' hs')
    ·refine⟨hsn2 s' hs',fun _ a n c e=>?_⟩;obtain⟨k1,k2⟩:=hok a n c e;exact⟨k2,fun hj=>by have:=hSx _ hj;omega⟩
    ·exact(RowY.old hl (hE0x.trans hy) fun j hj=>by have:=(hSx j hj).1;have:=(hE0.trans hE1).size;omega).alike (hsn2 s' hs')
   rintro _ z ⟨lv2,hI2',_,_⟩;refine⟨.inl rfl,?_⟩;refine sg0 ?_;apply hK;exact⟨rfl,rfl,sc s,lv2,hI2'⟩
  clear s;rintro _ σ1 _ v1 ⟨rfl,rfl,s,lv2,hI2'⟩;have hml:=zb8 (p:=X.2) (k:=0) (L:=zbx N X.1 t) (row:=row);refine go (an2 s hi1') ?_;exact⟨mm - 1,by omega,rfl,i+1,lv2,_,by omega,sc (an2 s hi1'),hI2',(hRG.mono (j:=i+1+1) (by omega)).meet (by omega) (fun s hs=>(zgr hG gX hs).2.g),by omega,by rw[show 4097 - (i+1)=f by omega];exact hFn⟩
 rintro _ σ _ v ⟨rfl,rfl,s9,lv5,hI5,hRF,hFl⟩;obtain⟨al,cl,rfl,_,hgl⟩:=hI5.o.rows.open;have c1:zad v (some ⟨m+1,1,.none⟩)=some (.slice al F.length cl):=zab (i:=1) hI5.c rfl;have hEwv:Ext w v:=hE1.trans hI5.e;refine go trivial ?_;by_cases h4:(F.length:Int)>4096
 ·refine go (an4 s9 c1 (yet h4) yn0) ?_;refine zas (.inr rfl) Tryz.ntmps35 rfl (zam (v:= .slice .none 0 0) vr0 (zam (v:=vi 0) vr0 (zam (v:=vi 11) vr0 zar))) ?_;exact⟨hEwv,.inl ⟨by omega,rfl⟩⟩
 refine go (an4 s9 c1 (yef h4) yn0) ?_;refine zax ?_;intro v1 hEm hsm hMp;obtain⟨mp,hmp⟩:∃mp,v.heap.size=mp:=⟨_,rfl⟩;rw[hmp]at hMp hsm ⊢;have c1m:=zaa hEm c1;refine go (an2 s9 c1m) ?_;have hEI0:EndI v ([]:List MetL) []:=⟨fun e he=>(by cases he),fun x hx=>(by cases hx)⟩;have hG0:GM v1 mp (([]:List (Value×MetL)).map entE):=⟨_,_,hMp,rfl⟩;refine zat (Q:=fun e σ' ds' x=>e= .exit 2/\ds'=[]/\(σ' 11= .map (some mp)/\σ' 9= .pointer (some ⟨m+1,0,.none⟩))/\∃E,Ext v x/\EndI v F E/\GM x mp (E.map entE)) ?_ ?_
 ·refine zdd F.length (fun i σ x=>(σ 78=vi i/\σ 77=vi F.length/\σ 76= .slice al F.length cl/\σ 11= .map (some mp)/\σ 9= .pointer (some ⟨m+1,0,.none⟩))/\∃E,Ext v x/\EndI v (F.take i) E/\GM x mp (E.map entE)) ?_ ?_ ?_
  ·exact⟨⟨vr0,vq0,vq0,vq0,vq1 s9⟩,[],hEm,hEI0,hG0⟩
  ·rintro i σ X hi q ⟨s,E,hEX,hEI,hGM⟩;obtain⟨cs7,hcs,hMt⟩:=hgl i hi;replace hcs:=zac hEX hcs;obtain⟨nv,pv,rfl,hnv,hpv⟩:=id hMt.ex;have hone:=hMt.ones;have hpX:=hpv.1;obtain⟨xa,rfl⟩:=yxs (zai hcs);obtain⟨xi,hxi⟩:∃xi,adr (some xa) (i*7)=some xi:=⟨_,rfl⟩;rw[hxi]at hcs;have htk:F.take (i+1)=F.take i++ [F[i]]:=zal hi;obtain⟨S,hS⟩:∃S,F[i]=S:=⟨_,rfl⟩;rw[hS]at htk hcs hpX hone;refine go (an3 s q hxi) ?_;refine rq ?_;intro gd K hgd hK;replace hcs:zaq X (some xi) 7=some [vi S.1.sv,nv,vi S.1.rw,vi S.1.rf,.bool S.1.ref,vi S.1.fin,pv]:=hcs;refine sgz (az4 s q hxi hcs) ?_;refine za0 (P:=Tryz.prog) (l:=stV nv S.1++ [pv]) rfl hone.2 rfl rfl ?_;intro X1 hX1 hs1 hC;try simp only[go_sem]
   apply hK;obtain⟨c7,hc7⟩:∃c,X.heap.size=c:=⟨_,rfl⟩;rw[hc7]at hC ⊢;have g5:zad X1 (some ⟨c7,5,.none⟩)=some (vi S.1.fin):=zab (i:=5) hC rfl;have g6:zad X1 (some ⟨c7,6,.none⟩)=some pv:=zab (i:=6) hC rfl;have hEX1:=hEX.trans hX1;replace hGM:=hGM.block (hX1.block _ hGM.lt (fun h=>h));clear hcs hxi hC hMt hnv hpv;have hgk:∀p∈E.map entE,∃n,p.1= .int .i64 n:=fun p hp=>by obtain⟨e,_,rfl⟩:=List.mem_map.1 hp;exact⟨_,rfl⟩
   refine go trivial ?_;refine rq ?_;intro gd K hgd hK;refine sgz g5 ?_;refine zgV (key:=vi S.1.fin) (z:= .agg #[vi 0,.slice .none 0 0]) (MKey.int (kd:= .i64) rfl) rfl rfl rfl ((vq1 s)) vr0 hGM ⟨_,rfl⟩ hgk (fun hno=>?_) (fun u hu=>?_)
   ·have hn:∀e∈E,e.2.1.fin≠S.1.fin:=fun e he h0=>hno _ (List.mem_map.2 ⟨e,he,rfl⟩) (by unfold entE;rw[h0]);try simp only[go_sem]
    refine za0 (P:=Tryz.prog) (l:=[vi 0,.slice .none 0 0]) rfl (fun q hq=>by simp at hq;rcases hq with rfl|rfl<;>rfl) rfl rfl ?_;intro X2 hX2 hs2 hC2;try simp only[go_sem]
    apply hK;have e5:=zaa hX2 g5;have e6:=zaa hX2 g6;have hEX2:=hEX1.trans hX2;have hGM2:=hGM.block (hX2.block _ hGM.lt (fun h=>h));clear hC2;by_cases hf:S.1.fin=0
    ·refine go trivial ?_;refine rgg [(2,92)] (an2 e5 (yet hf)) ?_;refine go trivial ?_;refine go (an2 s q) ?_;exact⟨rfl,sc (an2 s q),E,hEX2,by rw[htk];exact hEI.keep (.inl hf),hGM2⟩
    ·refine go trivial ?_;refine rgg [(2,92)] (an2 e5 (yef hf)) ?_;refine go trivial ?_;obtain⟨ap,cp,rfl,_⟩:=id hpX;have kbd:∀(n:Int) (l c:Nat),bdV Tryz.prog 91 [(0,vi n),(1,.slice ap l c)]=some (.agg #[vi n,.slice ap l c]):=fun n l c=>by kernel_rfl
     refine rq ?_;intro gd K hgd hK;refine sgz (az3 s e5 e6) ?_;refine⟨by kernel_rfl,?_⟩;rw[kbd];refine sgz (az3 s e5 e6) ?_;refine zlE (key:=vi S.1.fin) (v:= .agg #[vi S.1.fin,.slice ap (S.2.map vi).length cp]) (MKey.int (kd:= .i64) rfl) rfl ((vq1 s)) vr0 vr0 hGM2 ⟨_,rfl⟩ hgk (fun p hp h0=>by
      obtain⟨e,he,rfl⟩:=List.mem_map.1 hp;injection h0 with _ h0
      exact hn e he h0) ?_
     intro X3 hg3 hk3 hs3;try simp only[go_sem]
     apply hK;refine go (an2 s q) ?_;exact⟨rfl,sc (an2 s q),E++ [(_,S)],Keep.to_ext hEX2 rfl (fun i hi=>by omega) hk3,by rw[htk];exact hEI.add hf hn hpX,by rw[List.map_append];exact hg3⟩
   ·obtain⟨e,he,hee⟩:=List.mem_map.1 hu;unfold entE at hee;simp only[Prod.mk.injEq]at hee;obtain⟨h1,rfl⟩:=hee;have h1:e.2.1.fin=S.1.fin:=by injection h1
    try simp only[go_sem]
    refine za0 (P:=Tryz.prog) (l:=[vi e.2.1.fin,e.1]) rfl (fun q hq=>by simp at hq;rcases hq with rfl|rfl;exact rfl;exact(hEI.a e he).2.2.isOne) rfl rfl ?_;intro X2 hX2 hs2 hC2;try simp only[go_sem]
    apply hK;have hEX2:=hEX1.trans hX2;have hGM2:=hGM.block (hX2.block _ hGM.lt (fun h=>h));clear hC2;refine go trivial ?_;refine rgg [(2,92)] trivial ?_;refine go trivial ?_;refine go (an2 s q) ?_;exact⟨rfl,sc (an2 s q),E,hEX2,by rw[htk];exact hEI.keep (.inr ⟨e,he,h1⟩),hGM2⟩
  ·rintro σ x q ⟨s,E,hEX,hEI,hGM⟩;refine go (an2 s q) ?_;rw[List.take_length]at hEI;exact⟨rfl,rfl,sc s,E,hEX,hEI,hGM⟩
 clear s9;rintro _ σ2 _ v2 ⟨rfl,rfl,s,E,hEX,hEI,hGM⟩;have hEv2:=hEX.size;refine go s ?_;refine zat (Q:=fun e σ' ds' x=>e= .exit 4/\ds'=[]/\(σ' 9= .pointer (some ⟨m+1,0,.none⟩))/\∃ev,σ' 16=ev/\Ext v2 x/\Owns 2 (EndAt v) v2.heap.size x 91 ev (zfd F)) ?_ ?_
 ·refine zdd 9 (fun i σ x=>(σ 17=vi ((i+1:Nat):Int)/\σ 11= .map (some mp)/\σ 9= .pointer (some ⟨m+1,0,.none⟩))/\∃ev,σ 16=ev/\Ext v2 x/\Owns 2 (EndAt v) v2.heap.size x 91 ev (zev F i)) ?_ ?_ ?_
  ·exact⟨⟨vr0,vq1 s,vq1 s⟩,.slice .none 0 0,vr0,Keep.refl _ _,Owns.nil _ _ _ _ _⟩
  ·rintro i σ x hi _ ⟨s,ev,h16,hEx,ho⟩;have hd:decide (((i+1:Nat):Int)<=9)=true:=yet (by omega);have hi1:((i+1:Nat):Int)+1=((i+1+1:Nat):Int):=by push_cast;rfl
   have hGMx:=hGM.block (hEx.block _ hGM.lt (fun h=>h));have hgk:∀p∈E.map entE,∃n,p.1= .int .i64 n:=fun p hp=>by obtain⟨e,_,rfl⟩:=List.mem_map.1 hp;exact⟨_,rfl⟩
   refine go (an3 s h16 hd) ?_;refine rq ?_;intro gd K hgd hK;refine sgz s ?_;refine zgV (key:=vi ((i+1:Nat):Int)) (z:= .agg #[vi 0,.slice .none 0 0]) (MKey.int (kd:= .i64) rfl) rfl rfl rfl ((vq1 s)) vr0 hGMx ⟨_,rfl⟩ hgk (fun hno=>?_) (fun u hu=>?_)
   ·have hn:∀e∈E,e.2.1.fin≠((i+1:Nat):Int):=fun e he h0=>hno _ (List.mem_map.2 ⟨e,he,rfl⟩) (by unfold entE;rw[h0]);try simp only[go_sem]
    refine za0 (P:=Tryz.prog) (l:=[vi 0,.slice .none 0 0]) rfl (fun q hq=>by simp at hq;rcases hq with rfl|rfl<;>rfl) rfl rfl ?_;intro y hy hsy hC;try simp only[go_sem]
    apply hK;refine go trivial ?_;refine go (an3 s h16 hi1) ?_;exact⟨rfl,sc (an2 s hi1),ev,vq1 h16,hEx.trans hy,by rw[zcS,hEI.no (by omega) hn];simpa using ho.ext hy⟩
   ·obtain⟨e,he,hee⟩:=List.mem_map.1 hu;unfold entE at hee;simp only[Prod.mk.injEq]at hee;obtain⟨h1,rfl⟩:=hee;have h1:e.2.1.fin=((i+1:Nat):Int):=by injection h1
    obtain⟨hf,h0,hrw⟩:=hEI.a e he;try simp only[go_sem]
    refine za0 (P:=Tryz.prog) (l:=[vi e.2.1.fin,e.1]) rfl (fun q hq=>by simp at hq;rcases hq with rfl|rfl;exact rfl;exact hrw.isOne) rfl rfl ?_;intro y hy hsy hC;try simp only[go_sem]
    apply hK;obtain⟨c9,hc9⟩:∃c,x.heap.size=c:=⟨_,rfl⟩;rw[hc9]at hC ⊢;have dE:zaq y (some ⟨c9,0,.none⟩) 2=some [vi e.2.1.fin,e.1]:=zaf hC rfl;have hEA:EndAt v [vi e.2.1.fin,e.1] (((i+1:Nat):Int),e.2.2):=⟨e.1,by rw[h1],hrw⟩;refine go trivial ?_;refine rq ?_;intro gd K hgd hK;refine sgz (az3 s h16 dE) ?_;refine zaL (zcT v) rfl rfl rfl rfl hEA (by decide) ?_;intro y2 hE2 hs2 ho2;try simp only[go_sem]
    refine zaC (zcT v) ((ho.ext hy).ext hE2) ho2.rows rfl rfl rfl rfl rfl rfl (by decide) ((vq1 h16)) vr0 (by have:=zfS F i;rw[List.length_singleton];omega) (by decide) (by have:=hEx.size;have:=hy.size;omega) ?_;intro u y3 ho3 hE3 hk3 hb3;try simp only[go_sem]
    apply hK;refine go (an2 s hi1) ?_;exact⟨rfl,sc (an2 s hi1),u,vr0,hE3 v2 ((hEx.trans hy).trans hE2) (ynl _),by rw[zcS,show zb9 F ((i+1:Nat):Int)=some e.2 by rw[←h1];exact hf];exact ho3⟩
  ·rintro σ x _ ⟨s,ev,h16,hEx,ho⟩;have hd:decide (((9+1:Nat):Int)<=9)=false:=by decide
   refine go (an2 s hd) ?_;exact⟨rfl,rfl,sc s,ev,vq1 h16,hEx,ho⟩
 clear s;rintro _ σ3 _ v3 ⟨rfl,rfl,s,ev,h16,hE3,ho⟩;have hEv3:=hEX.trans hE3;have c13:=zaa hEv3 c1;refine go trivial ?_;refine zaH (fun _=>false) [(0,true),(1,true),(2,true),(3,true),(4,true),(5,true),(6,true),(7,true),(8,true)] NoS mixed (by kernel_rfl) ?_;intro gd K x hgd hx hxe hK;have hx0:=zd4 hxe;clear hxe;have c1x:=zaa hx c13;refine sgz (az4 s h16 c1x yn0) ?_;apply hK;refine go trivial ?_
 refine zas (.inr rfl) Tryz.ntmps35 rfl (zam (v:=ev) vr0 (zam (v:=vi F.length) vr0 (zam (v:=vi 0) vr0 zar))) ?_;exact⟨hEwv.trans (hEv3.trans hx),.inr ⟨by omega,ev,rfl,((ho.ext hx).to fun _ _ h=>h.ext (hEv3.trans hx)).rows⟩⟩
theorem zeJ{o:Option Value}{v:Value}{w:World}{K:Value->World->Prop}{F:Prop}{m:Lck K F}(h:o=some v)(hK:K v w):optL o w K F m:=by
 subst h;rw[zhM];exact hK
theorem zmZ(w:World):Fn Tryz.prog 193 #[.int .u64 1] w (fun v w'=>v=vi 1/\w'=w):=by
 refine enter Tryz.func193 Tryz.ntmps193 rfl rfl ?_;refine go (an3 (show decide ((1:Int)>=4294967296)=false from rfl) (show decide ((1:Int)>=65536)=false from rfl) (show decide ((1:Int)>=256)=false from rfl)) ?_;refine rq ?_;intro gd K hgd hK;try simp only[go_sem]
 refine zeJ (v:= .int .u8 1) (by kernel_rfl) ?_;try simp only[go_sem]
 apply hK;refine go trivial ?_;refine rt0 Tryz.ntmps193 ?_;exact⟨rfl,rfl⟩
theorem BLen_one(w:World):Fn Tryz.prog 145 #[.int .u64 1] w (fun v w'=>v=vi 1/\w'=w):=by
 refine enter Tryz.func145 Tryz.ntmps145 rfl rfl ?_;refine go trivial ?_;refine rc trivial (zmZ w) ?_;rintro _ _ ⟨rfl,rfl⟩;refine rgo trivial ?_;refine rt0 Tryz.ntmps145 ?_;exact⟨rfl,rfl⟩
theorem ins_one(w:World)(a:Option Addr)(c:Nat):Fn Tryz.prog 183 #[.slice a 1 c,vi 0,vi 1] w (fun _ w'=>w'=w):=by
 refine enter Tryz.func183 Tryz.ntmps183 rfl rfl ?_;refine go trivial ?_;refine zdd 0 (fun _ σ v=>(σ 6=vi 1/\σ 2=vi 1)/\v=w) ⟨⟨vr0,vq0⟩,rfl⟩ (fun i _ _ h=>absurd h (by omega)) ?_;rintro σ v _ ⟨s,rfl⟩;refine go (an2 s (show decide ((1:Int)<1)=false from rfl)) ?_;exact zaz (by simp) rfl rfl
theorem pdq_one(w:World)(a:Option Addr)(c:Nat):Fn Tryz.prog 144 #[.slice a 1 c,vi 0,vi 1,vi 1] w (fun _ w'=>w'=w):=by
 refine enter Tryz.func144 Tryz.ntmps144 rfl rfl ?_;refine go trivial ?_;refine zdd 0 (fun _ σ v=>(σ 0= .slice a 1 c/\σ 1=vi 0/\σ 2=vi 1)/\v=w) ⟨⟨vq0,vq0,vq0⟩,rfl⟩ (fun i _ _ h=>absurd h (by omega)) ?_;rintro σ v _ ⟨s,rfl⟩;refine go (an3 s (show(1:Int) - 0=1 from rfl) (show decide ((1:Int)<=12)=true from rfl)) ?_;refine rc s (ins_one _ a c) ?_;rintro _ _ rfl;refine rgo trivial ?_;exact zaz (by simp) rfl rfl
theorem Sort_one(w:World)(a:Option Addr)(c:Nat):Fn Tryz.prog 89 #[.slice a 1 c] w (fun _ w'=>w'=w):=by
 refine enter Tryz.func89 Tryz.ntmps89 rfl rfl ?_;refine go trivial ?_;refine rc trivial (BLen_one w) ?_;rintro _ _ ⟨rfl,rfl⟩;refine rd trivial (pdq_one _ a c) ?_;rintro _ _ rfl;refine rgo trivial ?_;exact zaz (by simp) rfl rfl
theorem zm1{w:World}{ev:Value}{k:Int}{p:List Int}(h:Rows 2 (EndAt w) w ev [(k,p)]):Fn Tryz.prog 39 #[ev] w (fun v w'=>Row w' v [vi k]/\Ext w w'):=by
 obtain⟨a,c,rfl,_,hg⟩:=h.open;obtain⟨cs,hcs,hE⟩:=hg 0 (by simp);obtain⟨pv,rfl,hp⟩:=hE.ex;replace hcs:zaq w (adr a (0*2)) 2=some [vi k,pv]:=hcs;obtain⟨xa,rfl⟩:=yxs (zai hcs);rw[List.length_singleton];refine enter Tryz.func39 Tryz.ntmps39 rfl rfl ?_;refine go trivial ?_;refine zat (Q:=fun e σ' ds' x=>e= .exit 0/\ds'=[]/\∃kv,σ' 3=kv/\Ext w x/\Own w.heap.size x 3 kv [vi k]) ?_ ?_
 ·refine zdd 1 (fun i σ x=>(σ 8=vi i/\σ 7=vi ((1:Nat):Int)/\σ 6= .slice (some xa) 1 c)/\∃kv,σ 3=kv/\Ext w x/\Own w.heap.size x 3 kv (if i=0 then [] else [vi k])) ?_ ?_ ?_
  ·exact⟨⟨vr0,vq0,vq0⟩,.slice .none 0 0,vr0,Keep.refl _ _,Own.nil _ _ _⟩
  ·rintro i σ x hi q ⟨s,kv,h3,hEx,ho⟩;have hi0:i=0:=by omega
   have hcx:zaq x (adr (some xa) (i*2)) 2=some [vi k,pv]:=by rw[hi0];exact zac hEx hcs
   rw[if_pos hi0]at ho;obtain⟨xi,hxi⟩:∃xi,adr (some xa) (i*2)=some xi:=⟨_,rfl⟩;rw[hxi]at hcx;refine go (an3 s q hxi) ?_;refine rq ?_;intro gd K hgd hK;refine sgz (az4 s q hxi hcx) ?_;refine za0 (P:=Tryz.prog) (l:=[vi k,pv]) rfl (zcY rfl hp.isOne) rfl rfl ?_;intro y hEy hsy hC;try simp only[go_sem]
   apply hK;obtain⟨c5,hc5⟩:∃c,x.heap.size=c:=⟨_,rfl⟩;rw[hc5]at hC ⊢;have g0:zad y (some ⟨c5,0,.none⟩)=some (vi k):=zab (i:=0) hC rfl;refine go trivial ?_;refine rq ?_;intro gd K hgd hK;refine sgz (az2 h3 g0) ?_;refine zcu rfl rfl rfl rfl rfl ?_;intro y2 hE2 hs2 ho2;refine sgz h3 ?_;refine zbM ((ho.ext hEy).ext hE2) ho2.row rfl rfl rfl rfl rfl rfl ((vq1 h3)) vr0 (fun q hq=>by rw[List.mem_singleton.1 hq];rfl) (by simp) (by decide) (by have:=hEx.size;have:=hEy.size;omega) ?_;intro u y3 ho3 hE3 hk3 hb3;try simp only[go_sem]
   apply hK;refine go (an2 s q) ?_;exact⟨rfl,sc (an2 s q),u,vr0,hE3 w ((hEx.trans hEy).trans hE2) (ynl _),ho3⟩
  ·rintro σ x q ⟨s,kv,h3,hEx,ho⟩;refine go (an2 s q) ?_;exact⟨rfl,rfl,kv,vq1 h3,hEx,ho⟩
 rintro _ σ _ x ⟨rfl,rfl,kv,h3,hEx,ho⟩;obtain⟨ak,ck,rfl,hck,hgk⟩:=ho.row;refine go trivial ?_;refine rc h3 (Sort_one x ak ck) ?_;rintro _ _ rfl;refine rgo trivial ?_;refine rc h3 (P_ci.Clip_ok hck) ?_;rintro _ _ ⟨rfl,rfl⟩;refine rgo trivial ?_;refine rt0 Tryz.ntmps39 ?_;exact⟨⟨ak,1,rfl,ynl _,hgk⟩,hEx⟩
def stZ:zao:=⟨0,[],0,0,false,0⟩
def zcA(N:NetL)(t:Int):List Int->List zao->List (zao×Bool)
 | [],_=>[]
 |c::cs,row=>if c<0 then [(stZ,false)] else match row[c.toNat]? with
  |some s=>(s,true)::zcA N t cs (zbx N s t)
  | .none=>[(stZ,false)]
def zgT(N:NetL)(q:Nm)(t:Int)(ch:List Int):zao×Bool:=(zcA N t ch (zbf N q)).getLastD (stZ,false)
def encP(C:Nat->Prop)(n0 ws:Nat)(x:zao×Bool)(U:Nat->Prop)(A:World)(args:Array Value):Prop:=∃nv,args=#[.agg (stV nv x.1).toArray,.bool x.2]/\RowY (fun b=>(C b\/(n0<=b/\b<ws))\/U b) A nv (x.1.name.map vs)
theorem zlz{N:NetL}{t c:Int}{cs:List Int}{row:List zao}(h:c<0\/(row.length:Int)<=c):zcA N t (c::cs) row=[(stZ,false)]:=by
 unfold zcA;by_cases h0:c<0
 ·rw[if_pos h0]
 ·rw[if_neg h0,List.getElem?_eq_none (by omega)]
theorem zhJ{N:NetL}{t:Int}{cs:List Int}{row:List zao}{c:Nat}(h:c<row.length):zcA N t ((c:Int)::cs) row=(row[c],true)::zcA N t cs (zbx N row[c] t):=by
 conv=>lhs;unfold zcA
 rw[if_neg (by omega),Int.toNat_natCast,List.getElem?_eq_getElem h]
theorem playsIt{w0 w1 W0:World}{C:Nat->Prop}{bn bq bc bt:Nat}{cs:List Value}{N:NetL}{qv cv:Value}{q:Nm}{ch:List Int}{t:Int}(hE01:Ext w0 w1)(hE1:Ext w1 W0)
  (hbn:W0.heap[bn]? =some (.cells cs.toArray 25 (0,0))) (hbq:W0.heap[bq]? =some (.cells #[qv] 27 (0,0))) (hbc:W0.heap[bc]? =some (.cells #[cv] 23 (0,0))) (hbt:W0.heap[bt]? =some (.cells #[vi t] 3 (0,0)))
  (hC:∀b,C b->w1.heap.size<=b/\b<W0.heap.size) (hCb:¬C bn/\¬C bq/\¬C bc/\¬C bt) (hN:NetAt w0 cs N) (hG:zbi N) (hq:Row w1 qv (q.map vs)) (hgq:zcf q=true) (hcv:Row w1 cv (ch.map vi)) (hchl:ch.length<=1000000000):
  IterU Tryz.prog 146 #[.pointer (some ⟨bn,0,.none⟩),.pointer (some ⟨bq,0,.none⟩),.pointer (some ⟨bc,0,.none⟩),.pointer (some ⟨bt,0,.none⟩)] W0 W0.heap.size C 0 (fun pre x=>∃suf,zcA N t ch (zbf N q)=pre++x::suf) (fun xs=>xs=zcA N t ch (zbf N q)) (encP C W0.heap.size):=by
 intro lp J Jx W hW hnW hJ hJx hY h0;have hn4:=hN.one;have hnl:=(Array.getElem?_eq_some_iff.1 hbn).1;have hql:=(Array.getElem?_eq_some_iff.1 hbq).1;have hcl:=(Array.getElem?_eq_some_iff.1 hbc).1;have htl:=(Array.getElem?_eq_some_iff.1 hbt).1;have hs1:=hE1.size;have hE1W:=hE1.trans hW;obtain⟨F,hF⟩:∃F,zcA N t ch (zbf N q)=F:=⟨_,rfl⟩;rw[hF]at hY ⊢;have dn:=zaf (n:=4) (Ext.at hW hbn) hn4.1.symm;have dq:zad W (some ⟨bq,0,.none⟩)=some qv:=zab (i:=0) (Ext.at hW hbq) rfl;have dc:zad W (some ⟨bc,0,.none⟩)=some cv:=zab (i:=0) (Ext.at hW hbc) rfl;obtain⟨ac,cc,hcve,_⟩:=id hcv;rw[ylm]at hcve;refine enter Tryz.func146 Tryz.ntmps146 rfl rfl ?_;refine go trivial ?_;refine rc (an2 dn dq) (zis (hE01.trans hE1W) hN hG.z.rl (hq.ext hE1W)) ?_;rintro sv v1 ⟨hEs,hsb,_,rfl,hsr,hsn⟩;refine rgo trivial ?_;have dc1:=zaa hEs dc;rw[hcve]at dc1;refine go dc1 ?_;obtain⟨S,hS⟩:∃S:Nat->Prop,S=fun b=>C b\/(W0.heap.size<=b/\b<W.heap.size):=⟨_,rfl⟩;have hSw:∀b,S b->w1.heap.size<=b:=fun b hb=>by
  rw[hS]at hb;rcases hb with hb|hb
  ·exact(hC b hb).1
  ·omega
 have hSW:∀b,S b->b<W.heap.size:=fun b hb=>by
  rw[hS]at hb;rcases hb with hb|hb
  ·have:=(hC b hb).2;omega
  ·omega
 have hCS:∀b,C b->S b:=fun b hb=>by rw[hS];exact .inl hb
 have hSn:∀b,b<W0.heap.size->¬C b->¬S b:=fun b h1 h2 h3=>by
  rw[hS]at h3;rcases h3 with h3|h3
  ·exact h2 h3
  ·omega
 have hKR:∀{A B:World} {U:Nat->Prop},KeepR W0.heap.size W.heap.size (fun b=>C b\/U b) A B->Keep (fun b=>S b\/U b) A B:=fun h=>⟨h.os,h.tape,h.output,h.size,fun b hb hs=>h.block b hb (by
  by_cases h1:b<W0.heap.size
  ·exact .inl h1
  ·by_cases h2:b<W.heap.size
   ·exact absurd (by rw[hS];exact .inl (.inr ⟨by omega,h2⟩)) hs
   ·exact .inr (by omega)) (fun hc=>hs (hc.imp (hCS b) id)),h.drawn⟩
 have hcy:RowY S W cv (ch.map vi):=RowY.old hcv hE1W hSw;refine zdd ch.length (fun i σ v=>(σ 14=vi i/\σ 13=vi ch.length/\σ 12= .slice ac ch.length cc/\σ 0= .func (.yield lp) #[] #[]/\σ 1= .pointer (some ⟨bn,0,.none⟩)/\σ 4= .pointer (some ⟨bt,0,.none⟩))/\
  ∃sv u L pre U,σ 6=sv/\Rows 6 (StN u) v sv L/\BlkB W.heap.size v sv/\(∀a n c,sv= .slice (some a) n c->¬U a.block)/\(∀b,U b->W.heap.size<=b/\b<v.heap.size)/\(∀s∈L,RowY (fun b=>S b\/U b) v u (s.name.map vs))/\(∀s∈L,GoodSt N s)/\J pre U v/\Keep S W v/\pre++zcA N t (ch.drop i) L=F) ?_ ?_ ?_
 ·exact⟨⟨vr0,vr0,vq0,vq0,vq0,vq0⟩,sv,_,zbf N q,[],NoS,vq0,hsr,hsb,fun _ _ _ _ h=>h,fun _ h=>h.elim,fun s hs=>(RowY.old hq (hE1W.trans hEs) fun b h=>h.elim (hSw b) (fun h=>h.elim)).alike (hsn s hs),zfB hG hgq,hJ _ _ _ _ h0 (hEs.mono fun _ _ h=>h.elim),hEs.mono fun _ _ h=>h.elim,hF⟩
 ·rintro i σ v hi q0 ⟨s,sv,u,L,pre,U,h6,hrows,hblk,hbu,hUw,hnm,hgds,hj,hk,hsuf⟩;obtain⟨al,cl,rfl,_⟩:=hrows.open;have hEv:Ext w1 v:=Keep.to_ext hE1W rfl hSw hk;have hkz:=hk.size;have hKB:KeepB W0.heap.size C W v:=⟨hk.os,hk.tape,hk.output,hk.size,fun b hb hc=>hk.block b (by omega) (hSn b hb hc),hk.drawn⟩;have g:=(hcy.turn hk fun _ h=> .inl h).1;rw[hcve]at g;obtain⟨a',c',e',_,g⟩:=g;rw[Value.slice.injEq]at e';obtain⟨rfl,_,rfl⟩:=e';replace g:=g i (by rw[ylm];exact hi);rw[List.getElem_map]at g;obtain⟨c,hce⟩:∃c,ch[i]=c:=⟨_,rfl⟩;have hdr:ch.drop i=c::ch.drop (i+1):=by rw[←hce];exact List.drop_eq_getElem_cons hi
  rw[hdr]at hsuf;rw[hce]at g;obtain⟨xa,rfl⟩:=yxs (zag g);refine go (an3 s q0 g) ?_;by_cases hb:c<0\/(L.length:Int)<=c
  ·rw[zlz hb]at hsuf;refine zat (Q:=fun e σ' ds' v'=>e= .normal/\ds'=[]/\v'=v/\σ' 0= .func (.yield lp) #[] #[]/\σ' 25= .bool true) ?_ ?_
   ·by_cases hc0:c<0
    ·refine rgg [(2,20)] (an2 s (yet hc0)) ?_;exact⟨rfl,rfl,rfl,vq1 s,vr0⟩
    ·have hd:decide (c>=(L.length:Int))=true:=yet (hb.resolve_left hc0);refine rgg [(2,20)] (an4 s h6 (yef hc0) hd) ?_;exact⟨rfl,rfl,rfl,vq1 s,vr0⟩
   rintro _ σ2 _ v2 ⟨rfl,rfl,rfl,s0,h25⟩;refine go h25 ?_;refine rq ?_;intro gd K hgd hK;refine sgz s0 ?_;refine⟨by kernel_rfl,?_⟩;rw[show bdV Tryz.prog 80 []=some (.agg #[vi 0,.slice .none 0 0,vi 0,vi 0,.bool false,vi 0]) from by kernel_rfl];refine sgz s0 ?_;refine Yld.mono (hY pre U (stZ,false) v2 _ ⟨_,hsuf.symm⟩ hj (by omega) hKB ⟨.slice .none 0 0,rfl,⟨.none,0,rfl,ynl _,fun j h=>by simp[stZ]at h⟩,fun h=>absurd rfl h⟩) ?_;rintro y z (⟨rfl,U',hjz,hU',hkr⟩| ⟨rfl,hjx⟩)
   ·try simp only[go_sem]
    apply hK;refine go trivial ?_;exact zaz (by simp) rfl (.inl ⟨_,_,rfl,by rw[←hsuf];exact hjz⟩)
   ·try simp only[go_sem]
    apply hK;refine go trivial ?_;exact zaz (by simp) rfl (.inr ⟨_,_,⟨_,hsuf.symm⟩,hjx⟩)
  ·obtain⟨k,rfl⟩:=Int.eq_ofNat_of_zero_le (show 0<=c by omega);have hkL:k<L.length:=by omega
   rw[zhJ hkL]at hsuf;have hc0:decide ((k:Int)<0)=false:=yef (by omega);have hd:decide ((k:Int)>=(L.length:Int))=false:=yef (by omega);refine rgg [(2,20)] (an4 s h6 hc0 hd) ?_;refine go trivial ?_;obtain⟨cs6,hcs,rfl,hone⟩:=hrows.get hkL;obtain⟨X,hX⟩:∃X,L[k]=X:=⟨_,rfl⟩;have hmX:X∈L:=by rw[←hX];exact List.getElem_mem hkL
   rw[hX]at hcs hsuf;unfold stV at hcs;have hk0:=cj k;have hk1:(k:Int)<(L.length:Int):=by omega
   obtain⟨xl,rfl⟩:=yxs (zai hcs);refine rq ?_;intro gd K hgd hK;refine sgz (az5 s h6 hcs hk0 hk1) ?_;refine Yld.mono (hY pre U (X,true) v _ ⟨_,hsuf.symm⟩ hj (by omega) hKB ⟨u,rfl,by have:=hnm X hmX;rw[hS]at this;exact this⟩) ?_;rintro y z (⟨rfl,U',hjz,hU',hkr⟩| ⟨rfl,hjx⟩)
   ·try simp only[go_sem]
    apply hK;have hkz2:=hKR hkr;have hWz:Keep S W z:=⟨hkz2.os.trans hk.os,hkz2.tape.trans hk.tape,hkz2.output.trans hk.output,Nat.le_trans hk.size hkz2.size,fun b hb hs=>(hkz2.block b (by omega) fun h=>h.elim hs fun hu=>by have:=hUw b hu;omega).trans (hk.block b hb hs),Nat.le_trans hk.drawn hkz2.drawn⟩;have hsS:∀b,(S b\/U' b)->(S b\/U b)\/v.heap.size<=b:=fun b h=>by
     rcases h with h|h
     ·exact .inl (.inl h)
     ·exact(hU' b h).imp .inr (fun h=>h.1)
    have hEz:Ext w1 z:=Keep.to_ext hE1W rfl hSw hWz;have hsz:=hWz.size;have hsz2:=hkz2.size;have hrz:=hrows.blocks fun a n c e=>hkz2.block _ (hblk a n c e).2 (fun h=>h.elim (fun h=>by have:=hSW _ h;have:=(hblk a n c e).1;omega) (hbu a n c e));have hblz:=hblk.ext hsz2;obtain⟨cs6,hcz,rfl,_⟩:=hrz.get hkL;rw[hX]at hcz;unfold stV at hcz;have hnz:=(hnm X hmX).turn hkz2 hsS;have dnz:=zaf (n:=4) ((hWz.block _ (by omega) (hSn _ hnl hCb.1)).trans (Ext.at hW hbn)) hn4.1.symm;have dtz:zad z (some ⟨bt,0,.none⟩)=some (vi t):=zab (i:=0) ((hWz.block _ (by omega) (hSn _ htl hCb.2.2.2)).trans (Ext.at hW hbt)) rfl;refine go trivial ?_;refine zaH (fun _=>false) [(0,true),(1,true),(2,true),(3,true),(4,true),(5,true),(6,false),(7,true)] NoS mixed (by kernel_rfl) ?_;intro gd K x hgd hx hxe hK;clear hxe;have dnx:=zac hx dnz;have dtx:=zaa hx dtz;have dcx:=zac hx hcz;refine sgz (az7 s h6 dnx dtx dcx hk0 hk1) ?_;refine Fn.mono (zj8 (t:=t) (hE01.trans (hEz.trans hx)) hN hG.z (hnz.1.ext hx) ((hgds X hmX).b hG)) ?_;rintro sv2 y ⟨hy,hsb2,u2,hok,hsr2,hsn2⟩;refine⟨.inr hy,?_⟩;refine sg0 ?_;apply hK;have hxy:=hx.trans hy;have hxs:=hx.size;have hky:Keep (fun b=>S b\/U' b) z y:=hxy.mono fun _ _ h=>h.elim;have hzy:=hxy.size;have hUz:∀b,U' b->W.heap.size<=b/\b<z.heap.size:=fun b hb=>by
     rcases hU' b hb with h|h
     ·have:=hUw b h;omega
     ·omega
    refine go (an2 s q0) ?_;refine⟨rfl,sc (an2 s q0),sv2,u2,zbx N X t,_,U',vr0,hsr2,hsb2.mono (by omega),fun a n c e hu=>by have:=(hsb2 a n c e).1;have:=hUz _ hu;omega,fun b hb=>by have:=hUz b hb;omega,fun s' hs'=>?_,fun s' hs'=>(zgr hG (hgds X hmX) hs').2.g,hJ _ _ _ _ hjz (hxy.mono fun _ _ h=>h.elim),hWz.trans (hxy.mono fun _ _ h=>h.elim),by rw[yla];exact hsuf⟩;rcases hok with rfl|hok| ⟨l,hl⟩
    ·exact(hnz.turn hky fun _ h=> .inl h).alike (hsn2 s' hs')
    ·refine⟨hsn2 s' hs',fun _ a n c e=>?_⟩;obtain⟨k1,k2⟩:=hok a n c e;exact⟨k2,fun hj=>hj.elim (fun hj=>by have:=hSW _ hj;omega) (fun hj=>by have:=hUz _ hj;omega)⟩
    ·exact(RowY.old hl ((hE01.trans hEz).trans hxy) fun j hj=>by
      have:=hE01.size;have:=hE1W.size;rcases hj with hj|hj
      ·have:=hSw j hj;omega
      ·have:=hUz j hj;omega).alike (hsn2 s' hs')
   ·try simp only[go_sem]
    apply hK;refine go trivial ?_;exact zaz (by simp) rfl (.inr ⟨_,_,⟨_,hsuf.symm⟩,hjx⟩)
 ·rintro σ v q0 ⟨s,sv,u,L,pre,U,h6,hrows,hblk,hbu,hUw,hnm,hgds,hj,hk,hsuf⟩;refine go (an2 s q0) ?_;rw[List.drop_length]at hsuf;refine zaz (by simp) rfl (.inl ⟨F,U,rfl,?_⟩);rw[←hsuf];simpa [zcA] using hj
theorem key_al{N:NetL}{a b:zao}(ha:GoodSt N a)(hb:GoodSt N b)(h:keyS a=keyS b):AlS b a:=by
 have h':=KeyL.eq_iff.2 h;unfold keyS at h';obtain⟨h1,h2,h3,h4,h5,h6⟩:=h'
 dsimp only at h1 h2 h3 h4 h5 h6
 have hn:=zht (a:=zan a.name) (b:=zan b.name) (zbp ha.nm).fold.ne (zbp hb.nm).fold.ne h1;refine⟨a.name,?_,hn⟩;cases a;cases b;simp_all
def Pl(N:NetL)(t:Int):List Int->List zao->zao->Prop
 | [],_,_=>False
 |c::cs,L,s=>∃k:Nat,c=(k:Int)/\∃x,L[k]? =some x/\((cs=[]/\s=x)\/Pl N t cs (zbx N x t) s)
theorem Pl.snoc{N:NetL}{t:Int}{s s':zao}{k:Nat}(hk:(zbx N s t)[k]? =some s'):∀{ch:List Int} {L:List zao},Pl N t ch L s->Pl N t (ch++ [(k:Int)]) L s'
 | [],_,h=>h.elim
 |c::cs,L,⟨j,hc,x,hx,h⟩=>by
  refine⟨j,hc,x,hx,.inr ?_⟩;rcases h with ⟨rfl,rfl⟩|h
  ·exact⟨k,rfl,s',hk,.inl ⟨rfl,rfl⟩⟩
  ·exact Pl.snoc hk h
theorem Pl.play{N:NetL}{t:Int}{s:zao}:∀{ch:List Int} {L:List zao} {d:zao×Bool},Pl N t ch L s->(zcA N t ch L).getLastD d=(s,true)
 | [],_,_,h=>h.elim
 |c::cs,L,d,⟨j,hc,x,hx,h⟩=>by
  subst hc;obtain⟨hj,rfl⟩:=List.getElem?_eq_some_iff.1 hx;rw[zhJ hj,List.getLastD_cons];rcases h with ⟨rfl,rfl⟩|h
  ·rfl
  ·exact Pl.play h
theorem Pl.ne{N:NetL}{t:Int}{s:zao}{ch:List Int}{L:List zao}(h:Pl N t ch L s):ch≠ []:=fun e=>by subst e;exact h
theorem zgp(row:List MetL)(x:MetL):(putL row x=row/\∃y∈row,keyS y.1=keyS x.1)\/putL row x=row++ [x]:=by
 unfold putL
 split
 ·rename_i h;obtain⟨y,hy,e⟩:=List.any_eq_true.1 h;exact .inl ⟨rfl,y,hy,of_decide_eq_true e⟩
 ·exact .inr rfl
theorem zdj{p:List Int}:∀(L:List zao) (k:Nat) (row:List MetL),∃E,za9 p k row L=row++E/\∀y∈E,∃j:Nat,L[j]? =some y.1/\y.2=p++ [((k+j:Nat):Int)]
 | [],k,row=>⟨[],by simp[za9],fun y h=>by cases h⟩
 |s::L,k,row=>by
  obtain⟨E,h1,h2⟩:=zdj (p:=p) L (k+1) (putL row (s,p++ [(k:Int)]));have h3:∀y∈E,∃j:Nat,(s::L)[j]? =some y.1/\y.2=p++ [((k+j:Nat):Int)]:=fun y hy=>by
   obtain⟨j,e1,e2⟩:=h2 y hy;exact⟨j+1,e1,by rw[e2,Nat.add_assoc,Nat.add_comm 1 j]⟩
  rcases zgp row (s,p++ [(k:Int)]) with ⟨e,_⟩|e
  ·rw[e]at h1;refine⟨E,?_,h3⟩;show za9 p (k+1) (putL row (s,p++ [(k:Int)])) L=_;rw[e];exact h1
  ·refine⟨(s,p++ [(k:Int)])::E,?_,fun y hy=>?_⟩
   ·show za9 p (k+1) (putL row (s,p++ [(k:Int)])) L=_;rw[h1,e,yla];rfl
   ·rcases List.mem_cons.1 hy with rfl|hy
    ·exact⟨0,rfl,rfl⟩
    ·exact h3 y hy
theorem zfJ{p:List Int}:∀{L:List zao} {k:Nat} {row:List MetL} {s:zao},s∈L->∃y∈za9 p k row L,keyS y.1=keyS s
 |a::L,k,row,s,h=>by
  rcases List.mem_cons.1 h with rfl|h
  ·obtain⟨E,h1,_⟩:=zdj (p:=p) L (k+1) (putL row (s,p++ [(k:Int)]));show∃y∈za9 p (k+1) (putL row (s,p++ [(k:Int)])) L,_;rw[h1];rcases zgp row (s,p++ [(k:Int)]) with ⟨e,y,hy,hk⟩|e
   ·exact⟨y,by rw[e];exact List.mem_append_left _ hy,hk⟩
   ·exact⟨(s,p++ [(k:Int)]),by rw[e];simp,rfl⟩
  ·exact zfJ (L:=L) h
structure Bfs(N:NetL)(t:Int)(q:Nm)(i:Nat)(row:List MetL):Prop where
 mono:∀{a b:Nat} {x y:MetL},a<=b->row[a]? =some x->row[b]? =some y->x.2.length<=y.2.length
 near:∀{x:MetL},row[i]? =some x->∀y∈row,y.2.length<=x.2.length+1
 shut:∀{j:Nat} {x:MetL},j<i->row[j]? =some x->∀s∈zbx N x.1 t,∃y∈row,keyS y.1=keyS s/\y.2.length<=x.2.length+1
 start:∀s∈zbf N q,∃y∈row,keyS y.1=keyS s/\y.2.length<=1
 pl:∀y∈row,Pl N t y.2 (zbf N q) y.1
theorem bfs_zero{N:NetL}{t:Int}{q:Nm}:Bfs N t q 0 (za9 [] 0 [] (zbf N q)):=by
 obtain⟨E,h1,h2⟩:=zdj (p:=[]) (zbf N q) 0 [];have hs:∀s∈zbf N q,∃y∈za9 [] 0 [] (zbf N q),keyS y.1=keyS s:=fun s hs=>zfJ hs;rw[h1,List.nil_append]at hs ⊢;have hl:∀y∈E,y.2.length=1:=fun y hy=>by obtain⟨j,_,e⟩:=h2 y hy;rw[e];rfl
 refine⟨fun {a b x y} hab hx hy=>?_,fun {x} hx y hy=>?_,fun {j x} hj=>absurd hj (by omega),fun s h=>?_,fun y hy=>?_⟩
 ·rw[hl x (List.mem_of_getElem? hx),hl y (List.mem_of_getElem? hy)];omega
 ·rw[hl y hy];omega
 ·obtain⟨y,hy,hk⟩:=hs s h;exact⟨y,hy,hk,by rw[hl y hy];omega⟩
 ·obtain⟨j,e1,e2⟩:=h2 y hy;rw[e2];exact⟨j,by rw[yn0],y.1,e1,.inl ⟨rfl,rfl⟩⟩
theorem Bfs.step{N:NetL}{t:Int}{q:Nm}{i:Nat}{row:List MetL}{x:MetL}(h:Bfs N t q i row)(hx:row[i]? =some x):Bfs N t q (i+1) (za9 x.2 0 row (zbx N x.1 t)):=by
 obtain⟨E,h1,h2⟩:=zdj (p:=x.2) (zbx N x.1 t) 0 row;have hs:∀s∈zbx N x.1 t,∃y∈za9 x.2 0 row (zbx N x.1 t),keyS y.1=keyS s:=fun s hs=>zfJ hs;rw[h1]at hs ⊢;have hl:∀y∈E,y.2.length=x.2.length+1:=fun y hy=>by obtain⟨j,_,e⟩:=h2 y hy;rw[e];simp
 have hi:=(List.getElem?_eq_some_iff.1 hx).1;have hm:=List.mem_of_getElem? hx;have hn:=h.near hx;have all:∀y∈row++E,y.2.length<=x.2.length+1:=fun y hy=>by
  rcases List.mem_append.1 hy with hy|hy
  ·exact hn y hy
  ·rw[hl y hy];omega
 have right:∀{b:Nat} {y:MetL},row.length<=b->(row++E)[b]? =some y->y∈E:=fun {b y} hb hy=>by
  rw[List.getElem?_append_right hb]at hy;exact List.mem_of_getElem? hy
 refine⟨fun {a b u v} hab hu hv=>?_,fun {z} hz y hy=>?_,fun {j u} hj hu s h0=>?_,fun s h0=>?_,fun y hy=>?_⟩
 ·by_cases hb:b<row.length
  ·rw[List.getElem?_append_left (by omega)]at hu;rw[List.getElem?_append_left hb]at hv;exact h.mono hab hu hv
  ·rw[hl v (right (by omega) hv)];exact all u (List.mem_of_getElem? hu)
 ·have:=all y hy;by_cases hb:i+1<row.length
  ·rw[List.getElem?_append_left hb]at hz;have:=h.mono (by omega) hx hz;omega
  ·have:=hl z (right (by omega) hz);omega
 ·by_cases hb:j<i
  ·rw[List.getElem?_append_left (by omega)]at hu;obtain⟨y,hy,hk⟩:=h.shut hb hu s h0;exact⟨y,List.mem_append_left _ hy,hk⟩
  ·have e:j=i:=by omega
   subst e;rw[List.getElem?_append_left hi,hx]at hu;obtain rfl:=Option.some.inj hu;obtain⟨y,hy,hk⟩:=hs s h0;exact⟨y,hy,hk,all y hy⟩
 ·obtain⟨y,hy,hk⟩:=h.start s h0;exact⟨y,List.mem_append_left _ hy,hk⟩
 ·rcases List.mem_append.1 hy with hy|hy
  ·exact h.pl y hy
  ·obtain⟨j,e1,e2⟩:=h2 y hy;rw[e2,yn0];exact(h.pl x hm).snoc e1
theorem zjQ{N:NetL}{t:Int}{q:Nm}:∀{f i:Nat} {row:List MetL},Bfs N t q i row->(zcG N t f i row).length<=4096->4097<=f+i->∃j,(zcG N t f i row).length<=j/\Bfs N t q j (zcG N t f i row)
 |0,i,row,h,hl,hf=>⟨i,by have:zcG N t 0 i row=row:=rfl;rw[this]at hl ⊢;omega,h⟩
 |f+1,i,row,h,hl,hf=>by
  unfold zcG at hl ⊢;cases hx:row[i]? with
  |none=>
   rw[hx]at hl;exact⟨i,List.getElem?_eq_none_iff.1 hx,h⟩
  |some x=>
   rw[hx]at hl
   dsimp only at hl ⊢
   by_cases hc:row.length<=4096
   ·rw[if_pos hc]at hl ⊢;exact zjQ (h.step hx) hl (by omega)
   ·rw[if_neg hc]at hl;exact absurd hl hc
structure Shut(N:NetL)(t:Int)(q:Nm)(row:List MetL):Prop where
 mono:∀{a b:Nat} {x y:MetL},a<=b->row[a]? =some x->row[b]? =some y->x.2.length<=y.2.length
 shut:∀x∈row,∀s∈zbx N x.1 t,∃y∈row,keyS y.1=keyS s/\y.2.length<=x.2.length+1
 start:∀s∈zbf N q,∃y∈row,keyS y.1=keyS s/\y.2.length<=1
 pl:∀y∈row,Pl N t y.2 (zbf N q) y.1
 g:∀y∈row,GoodSt N y.1
 p:∀y∈row,y.2.length<=4098
theorem zml{N:NetL}{t:Int}{q:Nm}(hN:zbi N)(hq:zcf q=true)(h:(zc5 N q t).length<=4096):Shut N t q (zc5 N q t):=by
 obtain⟨j,hj,hb⟩:=zjQ bfs_zero h (by omega);have hg:RowG N 1 (za9 [] 0 [] (zbf N q)):=RowG.meet (i:=1) ⟨fun y hy=>(by cases hy),fun y hy=>(by cases hy)⟩ (by simp) (zfB hN hq);have hg2:RowG N (0+4097+1) (zcG N t 4097 0 (za9 [] 0 [] (zbf N q))):=expl_g (f:=4097) hN hg;refine⟨hb.mono,fun x hx=>?_,hb.start,hb.pl,hg2.g,hg2.p⟩;obtain⟨k,hk,rfl⟩:=List.mem_iff_getElem.1 hx;exact hb.shut (by have:k<(zc5 N q t).length:=hk;have:(zc5 N q t).length<=j:=hj;omega) (List.getElem?_eq_getElem hk)
theorem key_fin{a b:zao}(h:keyS a=keyS b):a.fin=b.fin:=congrArg KeyL.d h
theorem in_ends{row:List MetL}{k:Int}{p:List Int}(h:(k,p)∈zfd row):∃x∈row,zb9 row k=some x/\x.1.fin=k/\x.2=p/\k≠0:=by
 unfold zfd zev at h;obtain⟨j,_,h⟩:=List.mem_filterMap.1 h;obtain⟨x,hx,e⟩:=Option.map_eq_some_iff.1 h;simp only[Prod.mk.injEq]at e;obtain⟨rfl,rfl⟩:=e;have h1:=List.find?_some hx;exact⟨x,List.mem_of_find?_eq_some hx,hx,of_decide_eq_true h1,rfl,by omega⟩
theorem Shut.played{N:NetL}{t:Int}{q:Nm}{row:List MetL}(h:Shut N t q row){e:Int×List Int}(he:e∈zfd row):∃s,zgT N q t e.2=(s,true)/\s.fin=e.1/\e.1≠0/\e.2≠ []/\GoodSt N s/\e.2.length<=4098:=by
 obtain⟨k,p⟩:=e;obtain⟨x,hx,_,h1,rfl,h0⟩:=in_ends he;exact⟨x.1,(h.pl x hx).play,h1,h0,(h.pl x hx).ne,h.g x hx,h.p x hx⟩
theorem Shut.fin{N:NetL}{t:Int}{q:Nm}{row:List MetL}(h:Shut N t q row)(hN:zbi N):∀(m:Nat) {y:MetL},y∈row->N.rw+N.rf - y.1.rw - y.1.rf<=(m:Int)->∃z∈row,z.1.fin≠0
 |m,y,hy,hm=>by
  have hg:=h.g y hy;by_cases h0:y.1.fin=0
  ·obtain⟨x,hx⟩:=List.exists_mem_of_ne_nil _ (next_ne (t:=t) hN hg h0);obtain⟨z,hz,hk,_⟩:=h.shut y hy x hx;by_cases h2:z.1.fin=0
   ·have hF:=(zgr hN hg hx).2.go ((key_fin hk).symm.trans h2);have e1:z.1.rw=x.rw:=congrArg KeyL.b hk;have e2:z.1.rf=x.rf:=congrArg KeyL.c hk;have hz':=h.g z hz;have:=hz'.w1;have:=hz'.f1;cases m with
    |zero=>exact absurd hm (by simp;omega)
    |succ m=>exact Shut.fin h hN m hz (by push_cast at hm;omega)
   ·exact⟨z,hz,h2⟩
  ·exact⟨y,hy,h0⟩
theorem zh7{row:List MetL}:∀n:Nat,(zev row n).Pairwise (fun a b=>a.1<b.1)/\∀e∈zev row n,e.1<=(n:Int)
 |0=>⟨.nil,fun e h=>by cases h⟩
 |n+1=>by
  obtain⟨h1,h2⟩:=zh7 (row:=row) n;have h3:∀e∈((zb9 row ((n+1:Nat):Int)).map fun x=>(((n+1:Nat):Int),x.2)).toList,e.1=((n+1:Nat):Int):=fun e he=>by
   cases hf:zb9 row ((n+1:Nat):Int) with
   |none=>rw[hf]at he;cases he
   |some x=>rw[hf]at he;simp at he;rw[he];push_cast;rfl
  rw[zcS];refine⟨List.pairwise_append.2 ⟨h1,?_,fun a ha b hb=>by have:=h2 a ha;have:=h3 b hb;omega⟩,fun e he=>?_⟩
  ·cases zb9 row ((n+1:Nat):Int)<;>simp
  ·rcases List.mem_append.1 he with he|he
   ·have:=h2 e he;push_cast;omega
   ·rw[h3 e he];omega
theorem ends_up{row:List MetL}{i:Nat}(h:i+1<(zfd row).length):((zfd row)[i]'(by omega)).1<(zfd row)[i+1].1:=List.pairwise_iff_getElem.1 (zh7 (row:=row) 9).1 i (i+1) (Nat.lt_of_succ_lt h) h (Nat.lt_succ_self i)
theorem zmo(row:List MetL):(zfd row).length<=9:=zfS row 9
def NoT(w:World)(v:Value):Prop:=∀b,some b=v.ownBlock->∀cur e p,w.heap[b]? =some (.cells cur e p)->∀q∈cur.toList,∀l,q≠vs l
theorem NoT.nil{w:World}{n c:Nat}:NoT w (.slice .none n c):=fun b h=>by cases h
theorem NoT.block{w x:World}{v:Value}(h:NoT w v)(hb:∀b,some b=v.ownBlock->x.heap[b]? =w.heap[b]?):NoT x v:=fun b e cur t p hc=>h b e cur t p ((hb b e).symm.trans hc)
theorem zgY{z:Array Value}{n:Nat}{q:Value}(h:q∈(Builtin.zeroCells z n).toList):q∈z.toList:=by
 unfold Builtin.zeroCells at h;rw[Array.mem_toList_iff]at h ⊢;simp only[Array.mem_def]at h;simp at h;obtain⟨j,hj,hq⟩:=h;have hz:0<z.size:=by
  rcases Nat.eq_zero_or_pos z.size with h0|h0
  ·rw[h0]at hj;omega
  ·exact h0
 have hlt:=Nat.mod_lt j hz;rw[getElem!_pos z _ hlt]at hq;rw[←hq];exact Array.getElem_mem hlt
def isNT:Value->Bool
 | .string _=>false
 |_=>true
section
variable {P : Program} {w : World} {B : Nat}
theorem zkM{t ty e:TypeId}{i:TypeInfo}{z:Value}{size bytes:Nat}(ht:P.underlying t=some (.slice e))(hi:P.info? e=some i)(hz:i.zero=some z)(hsize:i.size=size)(hby:i.bytes=bytes)
  {v:Value} {n:Nat} {xs:List Value} (hown:w.ownsRow B e size v n xs) {a:Addr} {m c:Nat} {news:List Value} (hl:news.length=m*size) (hnews:∀j u,news[j]? =some u->w.cell? (a.add j)=some u) (h1:∀u∈news,u.oneCell'=true)
  (h63:n+m<=maxLen) (hbytes:(n+m)*bytes<=140737488355328) (hm:0<m) (hT:NoT w v) (hTn:∀q∈news,∀l,q≠vs l) (hTz:∀q∈z.cells.toList,∀l,q≠vs l)
  {v':Value} {w':World} (hrun:(Builtin.append_ #[t,t] ty #[v,.slice (some a) m c]).run P w= .ok v' w'):NoT w' v':=by
 subst hsize;subst hby;have hsmall:n+m<=9223372036854775807:=by simp only[maxLen]at h63;omega
 have new:∀(ys:List Value) (k:Nat) (r cp:Nat),(∀q∈ys,∀l,q≠vs l)->NoT (w.drew.alloc (.cells (ys.toArray++news.toArray++Builtin.zeroCells z.cells k) e)) (.slice (some ⟨w.heap.size,0,.none⟩) r cp):=fun ys k r cp hy b hb cur e' p hc q hq l=>by
  have hb:b=w.heap.size:=by simpa [Value.ownBlock] using hb
  subst hb;have hn:=World.alloc_heap_new w.drew (.cells (ys.toArray++news.toArray++Builtin.zeroCells z.cells k) e);have e1:w.drew.heap.size=w.heap.size:=rfl;rw[e1]at hn;rw[hn]at hc;cases hc;simp only[Array.toList_append,List.mem_append]at hq;rcases hq with (hq|hq)|hq
  ·exact hy q hq l
  ·exact hTn q hq l
  ·exact hTz q (zgY hq) l
 rcases hown.2 with ⟨rfl,rfl⟩| ⟨g,cap,cur,rfl,hbg,hg,hnc,hcm,hcs,htake⟩
 ·have hx:xs=[]:=List.eq_nil_of_length_eq_zero (by simpa using hown.1);subst hx;have hr:=run_append_nil (P:=P) w t ty e i z ht hi hz a m c news hl hnews (by omega) (by omega) (by have hb:=hbytes;simp only[yn0]at hb;omega);rw[hr]at hrun;cases hrun;have:=new [] (grownCap w m 0 e - m) m (grownCap w m 0 e) (fun q hq=>by cases hq);simpa using this
 ·by_cases hroom:n+m<=cap
  ·have hfit:n*i.size+news.length<=cur.size:=by rw[hl,hcs,←Nat.add_mul];exact Nat.mul_le_mul_right _ hroom
   have hr:=run_append_room (P:=P) w t ty e i ht hi g n cap cur hg a m c news hl hnews h1 hroom hfit;rw[hr]at hrun;cases hrun;intro b hb cur' e' p hc q hq l;have hb:b=g:=by simpa [Value.ownBlock] using hb
   subst hb;rw[setRow_heap w b cur _ e _ hg]at hc;cases hc;have hold:=hT b rfl _ _ _ hg;simp only[List.mem_append]at hq;rcases hq with (hq|hq)|hq
   ·exact hold q (List.mem_of_mem_take hq) l
   ·exact hTn q hq l
   ·exact hold q (List.mem_of_mem_drop hq) l
  ·have holds:∀j u,xs[j]? =some u->w.cell? ((⟨g,0,.none⟩:Addr).add j)=some u:=hown.cells (g:=g) rfl;have hr:=run_append_grow (P:=P) w t ty e i z ht hi hz ⟨g,0,.none⟩ n cap xs hown.1 holds a m c news hl hnews (by omega) (by omega) (growslice_fits (by omega) hbytes);rw[hr]at hrun;cases hrun;exact new xs _ _ _ fun q hq=>hT g rfl _ _ _ hg q (List.mem_of_mem_take (by rw[htake];exact hq))
end
section
variable {P : Program} {d : Option Tmp} {ty : TypeId} {ps : String} {af : Array Edge} {g : Option (Nat × Bool)} {ρ : Operand -> Value} {w : World} {K K2 : Value -> World -> Prop} {α : Type} {k : Nat} {C : List Value -> α -> Prop}
theorem zkL{s x:Operand}{ts:Array TypeId}(h2:opW P ⟨d,.call ⟨.builtin .append,#[s,x],ts⟩,ty,ps,af,g⟩ ρ w K2)(h:∀v' w',(Builtin.append_ ts ty #[ρ s,ρ x]).run P w= .ok v' w'->K2 v' w'->K v' w'):
  opW P ⟨d,.call ⟨.builtin .append,#[s,x],ts⟩,ty,ps,af,g⟩ ρ w K:=by
 simp only[opW,execOp,Sem.run_bind,resolve]at h2 ⊢;simp only[Sem.run_pure,Result.andThen_ok,invoke,builtin]at h2 ⊢;simp only[List.map_toArray,List.map_cons,List.map_nil]at h2 ⊢;rw[Sem.run_bind]at h2 ⊢;cases hr:(Builtin.append_ ts ty #[ρ s,ρ x]).run P w with
 |ok v' w'=>rw[hr]at h2;exact h v' w' hr h2
 |_=>rw[hr]at h2;exact h2.elim
theorem op_appT(hC:zdR k C){B:Nat}{s x:Operand}{t e:TypeId}{inf:TypeInfo}{z:Value}{bytes:Nat}{v u:Value}{xs:List α}{y:α}(hown:Owns k C B w e v xs)(hrow:Rows k C w u [y])
  (ht:tyU P t=some (.slice e)) (hi:P.info? e=some inf) (hz:inf.zero=some z)
  (hsize:inf.size=k) (hby:inf.bytes=bytes) (hzs:z.cells.size=k) (hk0:0<k) (hv:ρ s=v) (hu:ρ x=u)
  (hlen:xs.length+1<=100000000000) (hbytes:bytes<=1000) (hB:B<=w.heap.size) (hT:NoT w v) (hTn:∀cs,C cs y->∀q∈cs,∀l,q≠vs l) (hTz:z.cells.toList.all isNT=true)
  (h:∀v' w',Owns k C B w' e v' (xs++ [y])->NoT w' v'->(∀w0,Ext w0 w->w0.heap.size<=B->Ext w0 w')->Keep (fun b=>some b=v.ownBlock) w w'->(∀b,some b=v'.ownBlock->some b=v.ownBlock\/w.heap.size<=b)->K v' w'):
  opW P ⟨d,.call ⟨.builtin .append,#[s,x],#[t,t]⟩,ty,ps,af,g⟩ ρ w K:=by
 obtain⟨L,h1,h2,_⟩:=id hown;obtain⟨M,m1,m2,m3⟩:=id hrow;obtain⟨cs,rfl⟩:∃cs,M=[cs]:=List.length_eq_one_iff.1 m2;have hCy:C cs y:=m3 0 (by simp) (by simp);obtain⟨a,c,rfl,hc,hg⟩:=m1;have g0:=hg 0 (by simp);rw[Nat.zero_mul,zaj]at g0;obtain⟨a,rfl⟩:∃x,a=some x:=by
  cases a with
  |none=>simp[zaq]at g0
  |some x=>exact⟨x,rfl⟩
 have hcell:∀j q,cs[j]? =some q->w.cell? (a.add j)=some q:=fun j q hj=>by
  obtain⟨hj1,hj2⟩:=List.getElem?_eq_some_iff.1 hj;have:zad w (adr (some a) j)=some cs[j]:=zb1 (j:=j) g0 hj1;rw[hj2]at this;simpa [zad,adr] using this
 have hone:∀q∈cs,q.oneCell'=true:=fun q hq=>by
  have:=hC.ones hCy q hq;cases q<;>first|rfl| (simp[one]at this)
 have hb:(L.length+1)*bytes<=100000000000*1000:=Nat.mul_le_mul (by omega) hbytes;refine zkL (zaC (K:=fun v' w'=>Owns k C B w' e v' (xs++ [y])/\(∀w0,Ext w0 w->w0.heap.size<=B->Ext w0 w')/\Keep (fun b=>some b=v.ownBlock) w w'/\∀b,some b=v'.ownBlock->some b=v.ownBlock\/w.heap.size<=b) hC hown hrow ht hi hz hsize hby hzs hk0 hv hu (by simpa using hlen) hbytes hB (fun v' w' a b c d=>⟨a,b,c,d⟩)) ?_;rintro v' w' hr ⟨k1,k2,k3,k4⟩;rw[hv,hu]at hr;exact h v' w' k1 (zkM ht hi hz hsize hby h1.own (m:=1) (news:=cs) (by rw[hC.len hCy,Nat.one_mul]) hcell hone (by simp[maxLen];omega) (by omega) (by decide) hT (hTn cs hCy) (fun q hq l e=>by have:=List.all_eq_true.1 hTz q hq;rw[e]at this;cases this) hr) k2 k3 k4
end
def zir{α:Type}(X:World->α->Prop)(K:α->Nat->Prop):Prop:=∀{A A':World} {S:Nat->Prop} {x:α},X A x->(∀b,K x b->b<A.heap.size)->Keep S A A'->(∀b,K x b->¬S b)->X A' x
structure GX{α:Type}(X:World->α->Prop)(K:α->Nat->Prop)(k:Nat)(C:List Value->α->Prop)(e:TypeId)(B:Nat)(A:World)(ov:Value)(G:List α):Prop where
 own:Owns k C B A e ov G
 row:∀x∈G,X A x/\(∀b,K x b->B<=b/\b<A.heap.size)/\∀b,K x b->some b≠ov.ownBlock
def gxK{α:Type}(K:α->Nat->Prop)(ov:Value)(G:List α)(b:Nat):Prop:=(∃x∈G,K x b)\/some b=ov.ownBlock
section
variable {α : Type} {X : World -> α -> Prop} {K : α -> Nat -> Prop} {k : Nat} {C : List Value -> α -> Prop} {e : TypeId} {B : Nat} {A A' A1 A2 : World} {ov ov' : Value} {G : List α}
theorem GX.keep(h:GX X K k C e B A ov G)(st:zir X K){S:Nat->Prop}(hk:Keep S A A')(hS:∀b,gxK K ov G b->¬S b):GX X K k C e B A' ov G:=
 ⟨h.own.keep hk (fun b hb=>hS b (.inr hb)),fun x hx=>by
  obtain⟨h1,h2,h3⟩:=h.row x hx;exact⟨st h1 (fun b hb=>(h2 b hb).2) hk (fun b hb=>hS b (.inl ⟨x,hx,hb⟩)),fun b hb=>⟨(h2 b hb).1,Nat.lt_of_lt_of_le (h2 b hb).2 hk.size⟩,h3⟩⟩
theorem GX.in(h:GX X K k C e B A ov G){b:Nat}(hb:gxK K ov G b):B<=b/\b<A.heap.size:=by
 rcases hb with ⟨x,hx,hb⟩|hb
 ·exact(h.row x hx).2.1 b hb
 ·exact h.own.ge hb
theorem GX.ext(h:GX X K k C e B A ov G)(st:zir X K)(hE:Ext A A'):GX X K k C e B A' ov G:=h.keep st hE (fun _ _ h=>h)
theorem GX.app{x:α}(h:GX X K k C e B A ov G)(st:zir X K)(hE:Ext A A1)(hB:B<=A.heap.size)(hx:X A1 x)(hxb:∀b,K x b->A.heap.size<=b/\b<A1.heap.size)
  (ho:Owns k C B A2 e ov' (G++ [x])) (hk:Keep (fun b=>some b=ov.ownBlock) A1 A2) (hob:∀b,some b=ov'.ownBlock->some b=ov.ownBlock\/A1.heap.size<=b):GX X K k C e B A2 ov' (G++ [x]):=by
 refine⟨ho,fun y hy=>?_⟩;have h1:=h.ext st hE;have hy2:X A1 y/\(∀b,K y b->B<=b/\b<A1.heap.size)/\∀b,K y b->some b≠ov.ownBlock:=by
  rcases List.mem_append.1 hy with hy|hy
  ·exact h1.row y hy
  ·rw[List.mem_singleton.1 hy];exact⟨hx,fun b hb=>by have:=hxb b hb;omega,fun b hb he=>by have:=hxb b hb;have:=(h.own.ge he).2;omega⟩
 obtain⟨g1,g2,g3⟩:=hy2;refine⟨st g1 (fun b hb=>(g2 b hb).2) hk g3,fun b hb=>by have:=g2 b hb;have:=hk.size;omega,fun b hb he=>?_⟩;rcases hob b he with e|e
 ·exact g3 b hb e
 ·have:=(g2 b hb).2;omega
end
abbrev ZX:=zcv×(Value×(Value×List OX))
def zxX(w0:World)(A:World)(x:ZX):Prop:=Row w0 x.2.1 (x.1.o.map vs)/\x.2.2.2.map Prod.fst=x.1.recs/\∃B,OI w0 B A x.2.2.1 x.2.2.2
def zxK(x:ZX)(b:Nat):Prop:=some b=x.2.2.1.ownBlock\/∃y∈x.2.2.2,∃a n c,y.2.1= .slice (some a) n c/\b=a.block
def zxC(cs:List Value)(x:ZX):Prop:=cs=[x.2.1,x.2.2.1]/\one x.2.1=true/\one x.2.2.1=true
theorem zjp:zdR 2 zxC:=⟨fun h=>by rw[h.1];rfl,fun h=>by rw[h.1];exact zcY h.2.1 h.2.2⟩
theorem zde(w0:World):zir (zxX w0) zxK:=by
 intro A A' S x h hK hk hS;obtain⟨h1,h2,B,h3⟩:=h;exact⟨h1,h2,B,h3.own.keep hk (fun b hb=>hS b (.inl hb)),fun y hy=>by
  obtain⟨g1,g2⟩:=h3.row y hy;exact⟨g1.keep hk (fun a n c hv=>hS _ (.inr ⟨y,hy,a,n,c,hv,rfl⟩)),g2⟩⟩
theorem zx_in{w0 A:World}{B:Nat}{x:ZX}(h:OI w0 B A x.2.2.1 x.2.2.2):∀b,zxK x b->B<=b/\b<A.heap.size:=fun b hb=>by
 rcases hb with hb| ⟨y,hy,a,n,c,hv,rfl⟩
 ·exact h.own.ge hb
 ·exact(h.row y hy).1.blk a n c hv
theorem zx_zone{w0 A:World}{x:ZX}(h:zxX w0 A x)(hE:Ext w0 A):ZoneC A [x.2.1,x.2.2.1] x.1:=by
 obtain⟨h1,h2,B,h3⟩:=h;have:=h3.rows hE;rw[h2]at this;exact⟨_,_,rfl,h1.ext hE,this⟩
abbrev HX:=zeD×(Value×(List Value×List ZX))
def hxX(w0:World)(ez:TypeId)(A:World)(x:HX):Prop:=(∃nv a b c d,x.2.2.1=[nv,zae a,zae b,zae c,zae d,x.2.1]/\x.1.addr=[a,b,c,d]/\Row w0 nv (x.1.name.map vs))/\x.2.2.2.map Prod.fst=x.1.zones/\∃B,GX (zxX w0) zxK 2 zxC ez B A x.2.1 x.2.2.2
def hxK(x:HX)(b:Nat):Prop:=gxK zxK x.2.1 x.2.2.2 b
def hxC(cs:List Value)(x:HX):Prop:=cs=x.2.2.1/\cs.length=6/\∀q∈cs,one q=true
theorem zjI:zdR 6 hxC:=⟨fun h=>h.2.1,fun h=>h.2.2⟩
theorem zet(w0:World)(ez:TypeId):zir (hxX w0 ez) hxK:=by
 intro A A' S x h hK hk hS;obtain⟨h1,h2,B,h3⟩:=h;exact⟨h1,h2,B,h3.keep (zde w0) hk hS⟩
theorem hx_host{w0 A:World}{ez:TypeId}{x:HX}(h:hxX w0 ez A x)(hE:Ext w0 A):HostC A x.2.2.1 x.1:=by
 obtain⟨⟨nv,a,b,c,d,e,ha,hn⟩,h2,B,h3⟩:=h;have hz:Rows 2 (ZoneC A) A x.2.1 (x.2.2.2.map Prod.fst):=h3.own.rows.mapM (C':=ZoneC A) Prod.fst fun cs y hy hc=>by
  rw[hc.1];exact zx_zone (h3.row y hy).1 hE
 rw[h2]at hz;exact⟨nv,a,b,c,d,_,e,ha,hn.ext hE,hz⟩
theorem zjJ{w0 A:World}{ez eh:TypeId}{B:Nat}{ov:Value}{G:List HX}(h:GX (hxX w0 ez) hxK 6 hxC eh B A ov G)(hE:Ext w0 A):Rows 6 (HostC A) A ov (G.map Prod.fst):=
 h.own.rows.mapM (C':=HostC A) Prod.fst fun cs y hy hc=>by
  rw[hc.1];exact hx_host (h.row y hy).1 hE
theorem ZOf_ok{w0 w:World}(hE0:Ext w0 w){ov lv:Value}{o:Nm}{R:List RecL}(ho:Row w0 ov (o.map vs))(hl:Rows 7 (RecAt w0) w lv R)(hnn:∀r∈R,r.dat.names.length<=1000000000)(hlen:R.length<=1000000000):
  Fn Tryz.prog 70 #[.agg #[ov,lv]] w (fun v w'=>Ext w w'/\∃lv' G,v= .agg #[ov,lv']/\OI w0 (w.heap.size+2) w' lv' G/\G.map Prod.fst=R):=by
 obtain⟨ao,co,hov,_⟩:=id ho;obtain⟨al,cl,hlv,_⟩:=hl.open;refine enter Tryz.func70 Tryz.ntmps70 rfl rfl ?_;repeat refine c_r ?_
 rw[hov,hlv];refine rg0 ?_;rw[←hov,←hlv];repeat refine c_r ?_
 rw[zak];refine zaI ?_;intro w1 hE1 hs1 hA hC;have p0:zad w1 (some ⟨w.heap.size,0,.none⟩)=some ov:=zab hA rfl;have p1:zad w1 (some ⟨w.heap.size,1,.none⟩)=some lv:=zab hA rfl;repeat refine c_r ?_
 refine zaH (fun i=>i==6) [(0,true),(1,true),(2,true),(3,true),(4,false),(5,true),(6,false)] NoS mixed (by kernel_rfl) ?_;intro gd K x hgd hx hxe hK;clear hxe;have p0x:=zaa hx p0;have p1x:=zaa hx p1;have hxs:=hx.size;refine sgz (az4 p0x p1x Nat.add_zero yn0) ?_;refine Fn.mono (ziz (hE0.trans (hE1.trans hx)) (hl.ext (hE1.trans hx)) hnn hlen) ?_;rintro lv' w2 ⟨hE2,G,hOI,hG⟩;refine⟨.inr hE2,?_⟩;obtain⟨al',cl',hlv',_⟩:=hOI.own.rows.open;refine sgz (az4 p0x p1x Nat.add_zero yn0) ?_;refine⟨by kernel_rfl,?_⟩;rw[hov,hlv',show bdV Tryz.prog 128 [(0,.slice ao (o.map vs).length co),(1,.slice al' G.length cl')]=some (.agg #[.slice ao (o.map vs).length co,.slice al' G.length cl']) from by kernel_rfl,←hov,←hlv'];refine sg0 ?_;refine zaD (P:=Tryz.prog) (t:=128) (l:=[ov,lv']) (Ext.at (hx.trans hE2) hC) rfl (zcY ho.isOne (by rw[hlv'];rfl)) rfl rfl ?_;intro z hz' hbz hkz;refine⟨.inl rfl,?_⟩;refine sg0 ?_;refine en hK ?_;refine zas (.inr rfl) Tryz.ntmps70 rfl (zaJ (x:=⟨w.heap.size+1,0,.none⟩) (k:=2) vq0 rfl rfl (zaf hbz rfl) zar) ?_;have hEz:Ext w z:=Keep.to_ext (hE1.trans (hx.trans hE2)) rfl (fun b hb=>by omega) hkz;refine⟨hEz,lv',G,rfl,⟨(hOI.own.keep hkz (fun b hb h=>by have:=(hOI.own.ge hb).1;omega)).mono (by omega),fun y hy=>?_⟩,hG⟩;obtain⟨g1,g2⟩:=hOI.row y hy;exact⟨(g1.keep hkz (fun a n c hv h=>by have:=(g1.blk a n c hv).1;omega)).mono (by omega),g2⟩
structure IZ(w0:World)(es ez:TypeId)(b5:Nat)(nv:Value)(a b c d:UInt8)(A0 v:World)(pv:Value)(zs:List ZX):Prop where
 h:v.heap[b5]? =some (.cells #[nv,zae a,zae b,zae c,zae d,pv] es (0,0))
 g:GX (zxX w0) zxK 2 zxC ez (b5+1) v pv zs
 e:Ext A0 v
 lo:A0.heap.size<=b5
theorem IZ.app{w0 A0 v v1 v2 v3:World}{es ez:TypeId}{b5:Nat}{nv pv pv':Value}{a b c d:UInt8}{zs:List ZX}{x:ZX}(h:IZ w0 es ez b5 nv a b c d A0 v pv zs)(hE:Ext v v1)(hB:b5+1<=v.heap.size)(hx:zxX w0 v1 x)(hxb:∀b,zxK x b->v.heap.size<=b/\b<v1.heap.size)
  (ho:Owns 2 zxC (b5+1) v2 ez pv' (zs++ [x])) (hk:Keep (fun b=>some b=pv.ownBlock) v1 v2) (hob:∀b,some b=pv'.ownBlock->some b=pv.ownBlock\/v1.heap.size<=b) (h3:v3.heap[b5]? =some (.cells #[nv,zae a,zae b,zae c,zae d,pv'] es (0,0))) (hk3:Keep (fun b=>b=b5) v2 v3):
  IZ w0 es ez b5 nv a b c d A0 v3 pv' (zs++ [x]):=by
 have lo:=h.lo;have e2:Ext A0 v2:=Keep.to_ext (h.e.trans hE) rfl (fun b hb=>by have:=(h.g.own.ge hb).1;omega) hk;have g2:=h.g.app (zde w0) hE hB hx hxb ho hk hob;exact⟨h3,g2.keep (zde w0) hk3 (fun b hb hb2=>by have:=(g2.in hb).1;omega),Keep.to_ext e2 rfl (fun b hb=>by omega) hk3,lo⟩
theorem Of16_ok(w:World){cs:List Value}{c:NetL}(hc:NetAt w cs c)(hf:NetZ c):
  Fn Tryz.prog 21 #[.agg cs.toArray] w (fun v w'=>Ext w w'/\∃cs',v= .agg cs'.toArray/\NetAt w' cs' c):=by
 obtain⟨sv,rv,rfl,hs,hr⟩:=hc.ex;obtain⟨aS,cS,rfl,hat⟩:=zl7 hs;have hr0:=hr;have r1:=hr.isOne;obtain⟨ar,cr,hrv,_,hgr⟩:=hr;have hsl:=hf.hl;refine enter Tryz.func21 Tryz.ntmps21 rfl rfl ?_;repeat refine c_r ?_
 rw[hrv];refine rg0 ?_;rw[←hrv];repeat refine c_r ?_
 rw[zak];refine zaI ?_;intro w1 hE1 hs1 hA hC;have p0:zad w1 (some ⟨w.heap.size,0,.none⟩)=some (.slice aS c.hosts.length cS):=zab hA rfl;have p1:zad w1 (some ⟨w.heap.size,1,.none⟩)=some rv:=zab hA rfl;have p2:zad w1 (some ⟨w.heap.size,2,.none⟩)=some (vi c.rw):=zab hA rfl;have p3:zad w1 (some ⟨w.heap.size,3,.none⟩)=some (vi c.rf):=zab hA rfl;refine rqz ?_;intro gd K hgd hK;refine sgz (az4 p1 p2 p3 yn0) ?_;refine⟨by kernel_rfl,?_⟩;rw[hrv,show bdV Tryz.prog 40 [(1,.slice ar (c.roots.map vi).length cr),(2,vi c.rw),(3,vi c.rf)]=some (.agg #[.slice .none 0 0,.slice ar (c.roots.map vi).length cr,vi c.rw,vi c.rf]) from by kernel_rfl,←hrv];try simp only[go_sem]
 refine za0 (P:=Tryz.prog) (l:=[.slice .none 0 0,rv,vi c.rw,vi c.rf]) rfl (fun v hv=>by simp at hv;rcases hv with rfl|rfl|rfl|rfl<;>first|exact r1|rfl) rfl rfl ?_;intro w2 hE2 hs2 hD;try simp only[go_sem]
 apply hK;obtain⟨c3,hc3⟩:∃b,w1.heap.size=b:=⟨_,rfl⟩;rw[hc3]at hD hs2 ⊢;have hE12:=hE1.trans hE2;have p0w:=zaa hE2 p0;refine gz0 ?_;refine zap (fun m σ ds A=>ds=[]/\∃(i:Nat) (ov:Value) (G:List HX),i+m=c.hosts.length/\σ 4=vi i/\σ 1= .pointer (some ⟨w.heap.size,0,.none⟩)/\σ 2= .pointer (some ⟨w.heap.size+1,0,.none⟩)/\σ 3= .pointer (some ⟨c3,0,.none⟩)/\Ext w1 A/\c3+1<=A.heap.size/\
  A.heap[c3]? =some (.cells #[ov,rv,vi c.rw,vi c.rf] 40 (0,0))/\GX (hxX w 128) hxK 6 hxC 143 (c3+1) A ov G/\G.map Prod.fst=c.hosts.take i) c.hosts.length ?_ ?_
 ·exact⟨rfl,0,.slice .none 0 0,[],by omega,vr0,vq0,vq0,vq0,hE2,by omega,hD,⟨Owns.nil _ _ _ _ _,fun x h=>by cases h⟩,rfl⟩
 rintro m σ ds A ⟨rfl,i,ov,G,him,s4,s1,s2,s3,hEA,hAs,hB3,hGS,hGf⟩;have p0A:=zaa hEA p0;refine gz (az4 s4 s1 p0A Nat.add_zero) ?_;refine wc0 ?_ ?_
 ·intro hlt;simp only[ydT]at hlt;have hi:i<c.hosts.length:=by omega
  have hi0:=cj i;have hi1':=ci i;obtain⟨xa,xi,x5,nv,ap,cp,rfl,hxi,hx5,g0,hn,g5,⟨b1,b2,b3,b4,hadr,hcs⟩,hpl⟩:=hat i hi;obtain⟨s,hse⟩:∃s,c.hosts[i]=s:=⟨_,rfl⟩;have fs2:=hf.zl s (hse▸List.getElem_mem hi);have fs3:=hf.z s (hse▸List.getElem_mem hi);rw[hse]at hn g5 hadr hcs;simp only[hse]at hpl;have n1:=hn.isOne;have hz0:adr (some xi) 0=some xi:=zaj _;obtain⟨y1,hy1⟩:∃y,adr (some xi) 1=some y:=⟨_,rfl⟩;have gby:zaq w (some y1) 4=some [zae b1,zae b2,zae b3,zae b4]:=by
   have h5:=zbb (m:=1) (k:=5) hcs;rw[hy1]at h5;exact zbv (m:=4) (k:=1) h5
  obtain⟨an,cn,hnv,_⟩:=id hn;repeat refine c_r ?_
  refine zaH (fun i=>i==14) [(0,true),(1,true),(2,true),(3,true),(4,true),(5,true),(6,true),(7,true),(8,true),(9,true),(10,true),(11,true),(12,true),(13,false),(14,false)] NoS mixed (by kernel_rfl) ?_;intro gd K x hgd hx hxe hK;clear hxe;have hwx:=hE1.trans (hEA.trans hx);have p0x:=zaa hx p0A;have g0x:=zaa hwx g0;have gbx:=zac hwx gby;refine sgz (az2 (az7 s4 s1 p0x Nat.add_zero hi0 hlt hxi) (az4 hz0 hy1 g0x gbx)) ?_;refine⟨by kernel_rfl,?_⟩;rw[hnv,show bdV Tryz.prog 143 [(0,.slice an (s.name.map vs).length cn),(1,.agg #[zae b1,zae b2,zae b3,zae b4])]=some (.agg #[.slice an (s.name.map vs).length cn,zae b1,zae b2,zae b3,zae b4,.slice .none 0 0]) from by kernel_rfl,←hnv];refine sg0 ?_;refine⟨.inr (Ext.alloc x _),?_⟩;refine za0 (P:=Tryz.prog) (l:=[nv,zae b1,zae b2,zae b3,zae b4,.slice .none 0 0]) rfl (fun v hv=>by simp at hv;rcases hv with rfl|rfl|rfl|rfl|rfl|rfl<;>first|exact n1|rfl) rfl rfl ?_;intro A1 hE3 hs3 hB5;refine⟨.inl rfl,?_⟩;refine sg0 ?_;apply hK;have hx3:=hx.trans hE3;obtain⟨b5,hb5⟩:∃b,x.heap.size=b:=⟨_,rfl⟩;have hsx:=hx.size;rw[hb5]at hB5 hs3 hsx ⊢;have hIP:IZ w 143 128 b5 nv b1 b2 b3 b4 A A1 (.slice .none 0 0) []:=⟨hB5,⟨Owns.nil _ _ _ _ _,fun x h=>by cases h⟩,hx3,hsx⟩;clear p0x g0x gbx hx hx3 hwx hE3 hB5;refine gz0 ?_
  refine zap (fun m σ ds v=>ds=[]/\∃(k:Nat) (pv:Value) (zs:List ZX),k+m=s.zones.length/\σ 6=vi k/\σ 4=vi i/\σ 1= .pointer (some ⟨w.heap.size,0,.none⟩)/\σ 2= .pointer (some ⟨w.heap.size+1,0,.none⟩)/\σ 3= .pointer (some ⟨c3,0,.none⟩)/\σ 5= .pointer (some ⟨b5,0,.none⟩)/\
   IZ w 143 128 b5 nv b1 b2 b3 b4 A v pv zs/\zs.map Prod.fst=s.zones.take k/\b5+1<=v.heap.size) s.zones.length ?_ ?_
  ·exact⟨rfl,0,_,[],by omega,vr0,vq1 s4,vq1 s1,vq1 s2,vq1 s3,vq0,hIP,rfl,by omega⟩
  clear s4 s1 s2 s3 hIP;rintro m2 σ2 ds2 v ⟨rfl,k,pv,zs,hkm,s6,s4,s1,s2,s3,s5,hIP,hzf,hvs⟩;have hEv:=hEA.trans hIP.e;have hwv:=hE1.trans hEv;have p0v:=zaa hEv p0;have g5v:=zaa hwv g5;refine gz (az2 (az7 s6 s4 s1 (an3 p0v Nat.add_zero g5v) hi0 hlt hxi) (az2 hx5 trivial)) ?_;refine wc0 ?_ ?_
  ·intro hlt2;simp only[ydT]at hlt2;have hk:k<s.zones.length:=by omega
   have hk0:=cj k;have hk1':=ci k;obtain⟨xp,xk,ow,lv,rfl,hxk,dz,ho,hl⟩:=hpl k hk;obtain⟨z,hze⟩:∃z,s.zones[k]=z:=⟨_,rfl⟩;have hgz:=fs3 _ (List.getElem_mem hk);rw[hze]at ho hl hgz;have q5:zad v (some ⟨b5,5,.none⟩)=some pv:=zab hIP.h rfl;have lo:=hIP.lo;have hgzl:=hgz.gd.len;repeat refine c_r ?_
   refine zaH (fun i=>i==15) [(0,true),(1,true),(2,true),(3,true),(4,true),(5,true),(6,true),(7,true),(8,true),(9,true),(10,true),(11,false),(12,false),(13,false),(14,true),(15,false)] (zbz (b5+1)) mixed (by kernel_rfl) ?_;intro gd K x hgd hx hxe hK;have hx0:=zd4 hxe;clear hxe;have hwx:=hwv.trans hx0;have p0x:=zaa hx0 p0v;have g5x:=zaa hwx g5;have dzx:=zac hwx dz;have q5x:=zaa hx0 q5;refine sgz (az2 (az7 s6 s4 s1 s5 p0x Nat.add_zero yn0) (az2 (az7 hi0 hlt hk0 hlt2 hxi hx5 hxk) (az3 g5x dzx q5x))) ?_;have l5:x5.block<b5+1:=by have:=zct (show w.cell? x5=some _ from g5);have:=hE1.size;have:=hEA.size;omega
   have lk:xk.block<b5+1:=by
    have h0:=zah (j:=0) dz rfl;rw[zaj]at h0;have:=zct (show w.cell? xk=some _ from h0);have:=hE1.size;have:=hEA.size;omega
   have lw:w.heap.size<b5+1:=by have:=hE1.size;have:=hEA.size;omega
   refine⟨zcC (by omega),zcC lw,zcO l5,zcO lk,?_⟩;refine Fn.mono (ZOf_ok hwx ho (hl.ext hwx) (fun r hr=>(hgz.gd.few r hr).2.nn) (by omega)) ?_;rintro _ v0 ⟨hE0,lv',G',rfl,hOI,hG'⟩;refine⟨.inr hE0.keep,?_⟩;obtain⟨al',cl',hlv',_⟩:=hOI.own.rows.open;refine sg0 ?_;refine zaL zjp (l:=[ow,lv']) (a:=((z,(ow,(lv',G'))):ZX)) (by rfl) (by rfl) (by rfl) (by rfl) ⟨rfl,ho.isOne,by rw[hlv'];rfl⟩ (by decide) ?_;intro v1 hE4 hs4' ho4;refine⟨.inr hE4.keep,?_⟩;refine sg0 ?_;have hx04:=(hx0.trans hE0).trans hE4;have hsz4:=hx04.size;have hs0:=hx0.size;have hzl:zs.length=k:=by
    have:=congrArg List.length hzf;simp at this;omega
   refine zaC zjp (hIP.g.ext (zde w) hx04).own ho4.rows (by rfl) (by rfl) (by rfl) (by rfl) (by rfl) (by rfl) (by decide) vr0 vr0 (by simp;omega) (by decide) (by omega) ?_;intro pv' v2 ho5 hE5 hk5 hb5';refine⟨.inr (hk5.mono fun b _ hb=>(hIP.g.own.ge hb).1),?_⟩;obtain⟨ap',cp',hpv',_⟩:=ho5.rows.open;refine sgz (az2 s5 yn0) ?_;refine zaU (P:=Tryz.prog) (t:=141) (j:=5) (u:=pv') (l:=[nv,zae b1,zae b2,zae b3,zae b4,pv]) ((hk5.block _ (by omega) (fun hb=>by have:=(hIP.g.own.ge hb).1;omega)).trans (Ext.at hx04 hIP.h)) (by simp) (by rw[hpv'];rfl) rfl rfl ?_;intro v3 hs3' hB3' hk3';refine⟨.inl rfl,?_⟩;refine sg0 ?_;apply hK;have hIPn:=hIP.app hx04 (by omega) (x:=((z,(ow,(lv',G'))):ZX)) ⟨ho,hG',_,hOI.ext hE4⟩ (fun b hb=>by have:=zx_in (x:=((z,(ow,(lv',G'))):ZX)) (hOI.ext hE4) b hb;omega) ho5 hk5 hb5' hB3' hk3';have hs5:=hk5.size;refine gz (az2 s6 hk1') ?_;exact⟨m2 - 1,by omega,rfl,k+1,pv',_,by omega,vq0,vq1 s4,vq1 s1,vq1 s2,vq1 s3,vq1 s5,hIPn,by rw[zal hk,List.map_append,hzf,hze];rfl,by omega⟩
  ·intro hge2;simp only[ydF]at hge2;have hfull:s.zones.take k=s.zones:=List.take_of_length_le (by omega);rw[hfull]at hzf;obtain⟨ap',cp',hpv',_⟩:=hIP.g.own.rows.open;have lo:=hIP.lo;have dB:zaq v (some ⟨b5,0,.none⟩) 6=some [nv,zae b1,zae b2,zae b3,zae b4,pv]:=zaf hIP.h rfl;have q3:zad v (some ⟨c3,0,.none⟩)=some ov:=zab (Ext.at hIP.e hB3) rfl;have ones6:∀q∈ [nv,zae b1,zae b2,zae b3,zae b4,pv],one q=true:=fun q hq=>by
    simp at hq;rcases hq with rfl|rfl|rfl|rfl|rfl|rfl<;>first|exact n1|rfl| (rw[hpv'];rfl)
   have hGl:G.length=i:=by
    have:=congrArg List.length hGf;simp at this;omega
   refine rqz ?_;intro gd K hgd hK;refine sgz (az5 s3 s5 q3 dB Nat.add_zero) ?_;refine zaL (C:=hxC) zjI (l:=[nv,zae b1,zae b2,zae b3,zae b4,pv]) (a:=((s,(pv,([nv,zae b1,zae b2,zae b3,zae b4,pv],zs))):HX)) (by rfl) (by rfl) (by rfl) (by rfl) ⟨rfl,rfl,ones6⟩ (by decide) ?_;intro v1 hE4 hs4' ho4;try simp only[go_sem]
   have hAv1:=hIP.e.trans hE4;have hsA1:=hAv1.size;refine zaC zjI ((hGS.ext (zet w _) hAv1).own) ho4.rows (by rfl) (by rfl) (by rfl) (by rfl) (by rfl) (by rfl) (by decide) vr0 vr0 (by simp;omega) (by decide) (by omega) ?_;intro ov' v2 ho5 hE5 hk5 hb5';obtain⟨ao',co',hov',_⟩:=ho5.rows.open;refine sgz (az2 s3 Nat.add_zero) ?_;refine zaU (P:=Tryz.prog) (t:=38) (j:=0) (u:=ov') (l:=[ov,rv,vi c.rw,vi c.rf]) ((hk5.block _ (by omega) (fun hb=>by have:=(hGS.own.ge hb).1;omega)).trans (Ext.at hAv1 hB3)) (by simp) (by rw[hov'];rfl) rfl rfl ?_;intro v3 hs3' hB3' hk3';try simp only[go_sem]
   apply hK;have hg4:=hIP.g.ext (zde w) hE4;have hGS2:=hGS.app (zet w _) hAv1 hAs (x:=((s,(pv,([nv,zae b1,zae b2,zae b3,zae b4,pv],zs))):HX)) ⟨⟨nv,b1,b2,b3,b4,rfl,hadr,hn⟩,hzf,_,hg4⟩ (fun b hb=>by have:=hg4.in hb;omega) ho5 hk5 hb5';have hGS3:=hGS2.keep (zet w _) hk3' (fun b h1 h2=>by have:=(hGS2.in h1).1;omega);have hs5:=hk5.size;refine gz (az2 s4 hi1') ?_;refine⟨m - 1,by omega,rfl,i+1,ov',_,by omega,vq0,vq1 s1,vq1 s2,vq1 s3,Keep.to_ext (hE5 w1 (hEA.trans hAv1) (by omega)) rfl (fun b hb=>by omega) hk3',by omega,hB3',hGS3,?_⟩;rw[zal hi,List.map_append,hGf,hse];rfl
 ·intro hge;simp only[ydF]at hge;rw[List.take_of_length_le (by omega)]at hGf;have hEw:=hE1.trans hEA;have hrows:=zjJ hGS hEw;rw[hGf]at hrows;have o1:=hrows.isOne;have dx:=zaf (n:=4) (l:=[ov,rv,vi c.rw,vi c.rf]) hB3 rfl;refine rqz ?_;intro gd K hgd hK;refine sgz (az3 s3 s2 dx) ?_;refine zaD (P:=Tryz.prog) (t:=40) (l:=[ov,rv,vi c.rw,vi c.rf]) (Ext.at hEA hC) rfl (fun v hv=>by simp at hv;rcases hv with rfl|rfl|rfl|rfl<;>first|exact r1|exact o1|rfl) rfl rfl ?_;intro z hsz hBz hkz;try simp only[go_sem]
  refine en hK ?_;refine zas (.inr rfl) Tryz.ntmps21 rfl (zaJ (x:=⟨w.heap.size+1,0,.none⟩) (k:=4) ((vq1 s2)) rfl rfl (zaf hBz rfl) zar) ?_;have hEz:Ext w z:=Keep.to_ext hEw rfl (fun b hb=>by omega) hkz;have hGz:=zjJ (hGS.keep (zet w _) hkz (fun b h1 h2=>by have:=(hGS.in h1).1;omega)) hEz;rw[hGf]at hGz;exact⟨hEz,_,rfl,ov,rv,rfl,hGz,hr0.ext hEz⟩
theorem zgj{N:NetL}{s:Int}(h:s<0\/(N.hosts.length:Int)<=s):N.zones s=[]:=by
 unfold NetL.zones;by_cases h0:s<0
 ·rw[if_pos h0]
 ·rw[if_neg h0,List.getElem?_eq_none (by omega)]
theorem zil{N:NetL}{s:Int}{q:Nm}(h:N.zones s=[]):zbU N s q=(0,false):=by
 unfold zbU;rw[h]
 rfl
theorem zones_at{w:World}{hv:Value}{N:NetL}{s:Int}(hh:Rows 6 (HostC w) w hv N.hosts)(h0:0<=s)(h1:s<(N.hosts.length:Int)):
  ∃(i:Nat) (ah:Addr) (ch:Nat) (xi x5:Addr) (zv:Value),s=(i:Int)/\i<N.hosts.length/\hv= .slice (some ah) N.hosts.length ch/\adr (some ah) (i*6)=some xi/\adr (some xi) 5=some x5/\zad w (some x5)=some zv/\Rows 2 (ZoneC w) w zv (N.zones s):=by
 obtain⟨i,rfl⟩:=Int.eq_ofNat_of_zero_le h0;have hi:i<N.hosts.length:=by omega
 obtain⟨ah,ch,rfl,_,hgh⟩:=hh.open;obtain⟨cs,hcs,hH⟩:=hgh _ hi;obtain⟨nv,b1,b2,b3,b4,zv,rfl,_,_,hzr⟩:=hH.ex;obtain⟨xh,rfl⟩:=yxs (zai hcs);obtain⟨xi,hxi⟩:∃xi,adr (some xh) (i*6)=some xi:=⟨_,rfl⟩;obtain⟨x5,hx5⟩:∃x,adr (some xi) 5=some x:=⟨_,rfl⟩;rw[hxi]at hcs;have hz:N.zones (i:Int)=N.hosts[i].zones:=by
  unfold NetL.zones;rw[if_neg (by omega),show((i:Int)).toNat=i from rfl,List.getElem?_eq_getElem hi]
 exact⟨i,xh,ch,xi,x5,zv,rfl,hi,rfl,hxi,hx5,by rw[←hx5];exact zah hcs rfl,hz▸hzr⟩
def BestS(zs:List zcv)(B:Int×Int):Prop:=B=(0, -1)\/∃(k:Nat) (h:k<zs.length),B=((k:Int),(zs[k].o.length:Int))
theorem zj6{w0 w:World}(hE0:Ext w0 w){cs:List Value}{N:NetL}{s:Int}{q:Nm}{qv:Value}(hN:NetAt w0 cs N)(hG:NetZ N)(hq:Row w qv (q.map vs))(mq:NmM q):
  Fn Tryz.prog 180 #[.agg cs.toArray,vi s,qv] w (fun v w'=>v= .tuple #[vi (zbU N s q).1,.bool (zbU N s q).2]/\Ext w w'):=by
 obtain⟨hv,rv,rfl,hh,hr⟩:=hN.ex;obtain⟨ah,ch,hhv,_⟩:=hh.open;obtain⟨ar,cr,hrv,_⟩:=id hr;have hlen:=hG.hl;have ql:=mq.len;refine enter Tryz.func180 Tryz.ntmps180 rfl rfl ?_;repeat refine c_r ?_
 rw[hhv,hrv];refine rg0 ?_;rw[←hhv,←hrv];repeat refine c_r ?_
 refine zax ?_;intro w1 hE1 hs1 hA;rw[hhv]at hA;have p0:zad w1 (some ⟨w.heap.size,0,.none⟩)=some (.slice ah N.hosts.length ch):=zab hA rfl;repeat refine c_r ?_
 by_cases n1:s<0
 ·refine rgg [(2,14)] (an2 (yet n1) Nat.add_zero) ?_;repeat refine c_r ?_
  refine wt trivial ?_;repeat (first|refine c_r ?_|refine rg0 ?_)
  refine zas (by simp) Tryz.ntmps180 rfl (zam vr0 (zam vr0 zar)) ?_;rw[zil (zgj (.inl n1))];exact⟨rfl,hE1⟩
 by_cases n2:s>=(N.hosts.length:Int)
 ·refine rgg [(2,14)] (an4 (yef n1) p0 Nat.add_zero (yet n2)) ?_;repeat refine c_r ?_
  refine wt trivial ?_;repeat (first|refine c_r ?_|refine rg0 ?_)
  refine zas (by simp) Tryz.ntmps180 rfl (zam vr0 (zam vr0 zar)) ?_;rw[zil (zgj (.inr n2))];exact⟨rfl,hE1⟩
 refine rgg [(2,14)] (an4 (yef n1) p0 Nat.add_zero (yef n2)) ?_;repeat refine c_r ?_
 refine wf trivial ?_;obtain⟨i0,ah',ch',xi,x5,zv,rfl,hi0l,e,hxi,hx5,hc5,hzr⟩:=zones_at (s:=s) hh (by omega) (by omega);rw[hhv]at e;injection e with e1 e2 e3
 subst e1 e3;have hz0:(0:Int)<=(i0:Int):=by omega
 have hlt0:(i0:Int)<(N.hosts.length:Int):=by omega
 have q5:=zaa (hE0.trans hE1) hc5;repeat (first|refine c_r ?_| (refine zcb (by rfl) ?_;intro gd K hgd hK;simp (disch:=first|omega|assumption|rfl) only[go_sem,p0,hxi,hx5,q5,hz0,hlt0,Nat.add_zero,yn0];refine hK _ _ ?_;clear hK hgd;clear K gd))
 obtain⟨zs,hzs⟩:∃zs,N.zones i0=zs:=⟨_,rfl⟩;have hzg:=(zbV hG (s:=i0)).1;have hzl:=(zbV hG (s:=i0)).2;have hbest:zbU N i0 q=((zi9 q zs).1,decide (0<=(zi9 q zs).2)):=by unfold zbU;rw[hzs]
 rw[hzs]at hzr hzg hzl;rw[hbest];clear hbest;obtain⟨az,cz,hzv,_,hgz⟩:=hzr.open;have hnl:=zbZ (l:=zs) (i:=0);refine zap (fun m σ ds A=>ds=[]/\∃(i:Nat) (B:Int×Int),i+m=zs.length/\((numZ 0 zs).take i).foldl (zaS q) (0, -1)=B/\BestS zs B/\σ 11=vi i/\σ 10=zv/\σ 2=qv/\σ 8=vi B.1/\σ 9= .bool (decide (0<=B.2))/\Ext w1 A) zs.length ?_ ?_
 ·exact⟨rfl,0,(0, -1),by omega,rfl,.inl rfl,vr0,vr0,vr0,vr0,vr0,Keep.refl _ _⟩
 rintro m σ ds A ⟨rfl,i,B,him,hB,hBS,s11,s10,s2,s8,s9,hEA⟩;rw[hzv]at s10;have hwA:=hE1.trans hEA;repeat refine c_r ?_
 refine rg2 s11 s10 ?_;repeat refine c_r ?_
 refine wc0 ?_ ?_
 ·intro hlt;simp only[ydT]at hlt;have hi:i<zs.length:=by omega
  have hi0:=cj i;have hi1':=ci i;have gz:=hzg _ (List.getElem_mem hi);have mo:=gz.m;have ol:=mo.len;obtain⟨c1,hc1,hZ⟩:=hgz i hi;obtain⟨ov,lv,rfl,ho,hr1⟩:=hZ.ex;obtain⟨xz,rfl⟩:=yxs (zai hc1);obtain⟨xk,hxk⟩:∃xi,adr (some xz) (i*2)=some xi:=⟨_,rfl⟩;have k1:zad w0 (some xk)=some ov:=by
   have:=zah (j:=0) hc1 rfl
   rwa [zaj,hxk]at this
  obtain⟨ao,co,hov,_⟩:=id ho;rw[ylm]at hov;have hfo:((numZ 0 zs).take (i+1)).foldl (zaS q) (0, -1)=zaS q B (i,zs[i]):=by
   rw[List.take_succ_eq_append_getElem (by omega),List.foldl_append,hB,zen hi (by omega),yn0];rfl
  obtain⟨u,hu⟩:∃u,zaV q zs[i].o=u:=⟨_,rfl⟩;repeat refine c_r ?_
  refine zat (Q:=fun e σ' ds' v'=>e= .normal/\ds'=[]/\σ' 11=vi i/\σ' 10= .slice (some xz) zs.length cz/\σ' 2=qv/\σ' 8=vi B.1/\σ' 9= .bool (decide (0<=B.2))/\Ext A v'/\σ' 58= .bool (u && decide (B.2<(zs[i].o.length:Int)))) ?_ ?_
  ·rcases hBS with rfl| ⟨k,hk,rfl⟩
   ·replace s9:σ 9= .bool false:=s9;refine zaH (fun _=>false) [(0,true),(1,true),(2,true),(3,true),(4,true),(5,true),(6,false),(7,true),(8,true),(9,true),(10,true),(11,true),(12,true),(13,true),(14,true),(15,true),(16,true),(17,true),(18,true),(19,true),(20,true),(21,true),(22,true),(23,true),(24,true),(25,true)] NoS mixed (by kernel_rfl) ?_;intro gd K x hgd hx hxe hK;clear hxe;have hg7:=gk 7 40 hgd rfl;have hg10:=gk 10 43 hgd rfl;have k1x:=zaa ((hE0.trans hwA).trans hx) k1;simp (disch:=first|omega|assumption|rfl) only[go_sem,s2,s10,s11,hi0,hlt,hxk,zaj,k1x,Nat.add_zero,yn0];refine Fn.mono (zcW x qv ov q zs[i].o (hq.ext (hwA.trans hx)) (ho.ext ((hE0.trans hwA).trans hx)) mq.LB mo.LB (by omega) (by omega)) ?_;rintro _ x2 ⟨rfl,hx2⟩;refine⟨.inr hx2,?_⟩;rw[hu];cases u with
    |false=>
     simp (disch:=first|omega|assumption|rfl) only[go_sem,s9,za3,↓hg7,↓hg10];refine hK _ _ ?_;clear hK hgd;clear K;try clear gd
     exact⟨rfl,rfl,vq1 s11,vq1 s10,vq1 s2,vq1 s8,by show _=Value.bool false;simp only[go_sem,s9],hx.trans hx2,vr0⟩
    |true=>
     simp (disch:=first|omega|assumption|rfl) only[go_sem,s9,za3,↓hg7,↓hg10];refine hK _ _ ?_;clear hK hgd;clear K;try clear gd
     exact⟨rfl,rfl,vq1 s11,vq1 s10,vq1 s2,vq1 s8,by show _=Value.bool false;simp only[go_sem,s9],hx.trans hx2,by rw[show decide ((-1:Int)<(zs[i].o.length:Int))=true from yet (by omega)];first| (simp only[go_sem];done)| (simp only[go_sem];rfl)⟩
   ·have kz:=hzg _ (List.getElem_mem hk);obtain⟨c2,hc2,hZ2⟩:=hgz k hk;obtain⟨ov2,lv2,rfl,ho2,hr2⟩:=hZ2.ex;obtain⟨xk2,hxk2⟩:∃xi,adr (some xz) (k*2)=some xi:=⟨_,rfl⟩;have k2:zad w0 (some xk2)=some ov2:=by
     have:=zah (j:=0) hc2 rfl
     rwa [zaj,hxk2]at this
    obtain⟨ao2,co2,hov2,_⟩:=id ho2;rw[ylm]at hov2;have hk0:=cj k;have hltk:(k:Int)<(zs.length:Int):=by omega
    have h9:decide ((0:Int)<=(zs[k].o.length:Int))=true:=yet (by omega)
    dsimp only at s8 s9
    rw[h9]at s9;refine zaH (fun _=>false) [(0,true),(1,true),(2,true),(3,true),(4,true),(5,true),(6,false),(7,true),(8,true),(9,true),(10,true),(11,true),(12,true),(13,true),(14,true),(15,true),(16,true),(17,true),(18,true),(19,true),(20,true),(21,true),(22,true),(23,true),(24,true),(25,true)] NoS mixed (by kernel_rfl) ?_;intro gd K x hgd hx hxe hK;clear hxe;have hg7:=gk 7 40 hgd rfl;have hg10:=gk 10 43 hgd rfl;have k1x:=zaa ((hE0.trans hwA).trans hx) k1;simp (disch:=first|omega|assumption|rfl) only[go_sem,s2,s10,s11,hi0,hlt,hxk,zaj,k1x,Nat.add_zero,yn0];refine Fn.mono (zcW x qv ov q zs[i].o (hq.ext (hwA.trans hx)) (ho.ext ((hE0.trans hwA).trans hx)) mq.LB mo.LB (by omega) (by omega)) ?_;rintro _ x2 ⟨rfl,hx2⟩;refine⟨.inr hx2,?_⟩;rw[hu];cases u with
    |false=>
     simp (disch:=first|omega|assumption|rfl) only[go_sem,s9,za3,↓hg7,↓hg10];refine hK _ _ ?_;clear hK hgd;clear K;try clear gd
     exact⟨rfl,rfl,vq1 s11,vq1 s10,vq1 s2,vq1 s8,by dsimp only;rw[h9];simp only[go_sem,s9],hx.trans hx2,vr0⟩
    |true=>
     have k1y:=zaa hx2 k1x;have k2y:=zaa (((hE0.trans hwA).trans hx).trans hx2) k2;rw[hov]at k1y;rw[hov2]at k2y;simp (disch:=first|omega|assumption|rfl) only[go_sem,s8,s9,s10,s11,hi0,hlt,hxk,zaj,k1y,k2y,hk0,hltk,hxk2,Nat.add_zero,yn0,za3,↓hg7,↓hg10];refine hK _ _ ?_;clear hK hgd;clear K;try clear gd
     exact⟨rfl,rfl,vq1 s11,vq1 s10,vq1 s2,vq1 s8,by dsimp only;rw[h9];simp only[go_sem,s9],hx.trans hx2,vr0⟩
  rintro _ σ1 _ A1 ⟨rfl,rfl,s11,s10,s2,s8,s9,hA1,s58⟩;repeat refine c_r ?_
  by_cases hb:u=true/\B.2<(zs[i].o.length:Int)
  ·have hst:zaS q B (i,zs[i])=((i:Int),(zs[i].o.length:Int)):=by unfold zaS;rw[hu,if_pos hb]
   have hbt:(u && decide (B.2<(zs[i].o.length:Int)))=true:=by rw[hb.1,yet hb.2];rfl
   rw[hbt]at s58;refine wt s58 ?_;repeat refine c_r ?_
   refine rg1 s11 ?_;repeat refine c_r ?_
   refine rg0 ?_;repeat refine c_r ?_
   refine rg2 s11 hi1' ?_;repeat refine c_r ?_
   refine⟨m - 1,by omega,rfl,i+1,((i:Int),(zs[i].o.length:Int)),by omega,hfo.trans hst,.inr ⟨i,hi,rfl⟩,vq0,by rw[hzv];simp only[go_sem,s10],vq1 s2,vq0,by rw[yet (show(0:Int)<=(zs[i].o.length:Int) by omega)];first| (simp only[go_sem];done)| (simp only[go_sem];rfl),hEA.trans hA1⟩
  ·have hst:zaS q B (i,zs[i])=B:=by unfold zaS;rw[hu,if_neg hb]
   have hbt:(u && decide (B.2<(zs[i].o.length:Int)))=false:=by
    cases u with
    |false=>rfl
    |true=>exact yef (fun h=>hb ⟨rfl,h⟩)
   rw[hbt]at s58;refine wf s58 ?_;repeat refine c_r ?_
   refine rg2 s11 hi1' ?_;repeat refine c_r ?_
   refine⟨m - 1,by omega,rfl,i+1,B,by omega,hfo.trans hst,hBS,vq0,by rw[hzv];simp only[go_sem,s10],vq1 s2,vq1 s8,vq1 s9,hEA.trans hA1⟩
 ·intro hge;simp only[ydF]at hge;have hB2:zi9 q zs=B:=by rw[←hB,List.take_of_length_le (by omega)];rfl
  rw[hB2];repeat (first|refine c_r ?_| (refine zcb (by rfl) ?_;intro gd K hgd hK;simp (disch:=first|omega|assumption|rfl) only[go_sem,s8,s9];refine hK _ _ ?_;clear hK hgd;clear K gd))
  refine zas (by simp) Tryz.ntmps180 rfl (zam vr0 (zam vr0 zar)) ?_;exact⟨rfl,hwA⟩
theorem ResN.cells{w0 wn w:World}{B:Nat}{cs:List Value}{r:ResL}(h:ResN w0 wn B w cs r):cs.length=5/\∀v∈cs,one v=true:=by
 obtain⟨dv,nv,gv,rfl,h1,h2,h3,h4,h5⟩:=h.ex;exact⟨rfl,ones5 h1.isOne (h3.elim (fun h=>h.1.isOne) (fun h=>h.isOne)) h4.isOne⟩
theorem row_off{w z:World}{nv:Value}{l:Nm}{b:Nat}{c:Array Value}{T:TypeId}{fr:Nat×Nat}(h:Row w nv (l.map vs))(hb:w.heap[b]? =some (.cells c T fr))(hc:∀x∈c.toList,∀t,x≠vs t)(hk:∀i,i<w.heap.size->i≠b->z.heap[i]? =w.heap[i]?):Row z nv (l.map vs):=by
 cases l with
 |nil=>
  obtain⟨a,c',rfl,hcap,_⟩:=h;exact⟨a,c',rfl,hcap,fun j hj=>absurd hj (by simp)⟩
 |cons x l=>
  refine h.blocks fun a n c' hv=>?_;obtain⟨a',c2,e,_,hg⟩:=h;rw[hv]at e;injection e with e1 e2 e3
  have h0:=hg 0 (by simp);rw[zaj,←e1]at h0;have hlt:=zct (show w.cell? a=some _ from h0);refine hk _ hlt (fun e=>?_);have h1:w.cell? a=some (vs x):=h0;unfold World.cell? at h1;rw[e,hb]at h1
  dsimp only at h1
  split at h1
  ·cases h1
  ·exact hc _ (Array.mem_toList_iff.2 (Array.mem_of_getElem? h1)) x rfl
theorem RAsk_ok{w0 w:World}(hE0:Ext w0 w){cs:List Value}{N:NetL}{s:Int}{q:Nm}{qv:Value}{t:Int}(hN:NetAt w0 cs N)(hG:NetZ N)(hq:Row w qv (q.map vs))(mq:NmM q):
  Fn Tryz.prog 140 #[.agg cs.toArray,vi s,qv,vi t] w (fun v w'=>Ext w w'/\∃cs,v= .agg cs.toArray/\ResAt w0 w' cs (askN N s q t)):=by
 have hN0:=hN;obtain⟨hv,rv,rfl,hh,hr⟩:=hN.ex;obtain⟨ah,ch,hhv,_⟩:=hh.open;obtain⟨ar,cr,hrv,_⟩:=id hr;refine enter Tryz.func140 Tryz.ntmps140 rfl rfl ?_;repeat refine c_r ?_
 rw[hhv,hrv];refine rg0 ?_;rw[←hhv,←hrv];repeat refine c_r ?_
 rw[zak];refine zaI ?_;intro w1 hE1 hs1 hA hC;have d:=zaf (n:=4) (l:=[hv,rv,vi N.rw,vi N.rf]) hA rfl;repeat refine c_r ?_
 refine rc d (zj6 (s:=s) (hE0.trans hE1) hN0 hG (hq.ext hE1) mq) ?_;rintro _ w2 ⟨rfl,hE2⟩;refine re trivial ?_;have hE02:=hE0.trans (hE1.trans hE2);have hC2:=Ext.at hE2 hC;have d2:=zac hE2 d;refine gz0 ?_;cases hb:(zbU N s q).2 with
 |false=>
  have hk:askN N s q t=⟨7,[],[],false,[]⟩:=by unfold askN;rw[hb];rfl
  refine wt trivial ?_;refine rqz ?_;intro gd K hgd hK;try simp only[go_sem]
  refine⟨by kernel_rfl,?_⟩;rw[show bdV Tryz.prog 255 [(0,vi 7)]=some (.agg #[vi 7,.slice .none 0 0,.slice .none 0 0,.bool false,.slice .none 0 0]) from by kernel_rfl];try simp only[go_sem]
  refine zaD (P:=Tryz.prog) (t:=255) (l:=[vi 7,.slice .none 0 0,.slice .none 0 0,.bool false,.slice .none 0 0]) hC2 rfl (ones5 rfl rfl rfl) rfl rfl ?_;intro z hz' hbz hkz;try simp only[go_sem]
  refine en hK ?_;refine zas (.inr rfl) Tryz.ntmps140 rfl (zaJ (x:=⟨w.heap.size+1,0,.none⟩) (k:=5) vq0 rfl rfl (zaf hbz rfl) zar) ?_;exact⟨Keep.to_ext (hE1.trans hE2) rfl (fun b hb=>by omega) hkz,_,rfl,by rw[hk];exact(zlN (w0:=w0) (B:=0)).at (hE0.trans (Keep.to_ext (hE1.trans hE2) rfl (fun b hb=>by omega) hkz))⟩
 |true=>
  obtain⟨hk0,hk1⟩:=zjY hb;obtain⟨z,hz⟩:∃z,(N.zones s)[(zbU N s q).1.toNat]? =some z:=⟨_,List.getElem?_eq_getElem (by omega)⟩;have hk:askN N s q t=za2 z.o z.recs q t:=by unfold askN;rw[hb,hz];rfl
  have gz:=(zbV hG).1 z (List.mem_of_getElem? hz);obtain⟨i,j,xh,c1,xi,x5,az,cz,nz,xz,ov,lv,rfl,hkj,hi,hj,rfl,hxi,hx5,pz,hxz,dz,ho,hl⟩:=zk0 hh hz hk0;rw[hkj];refine wf trivial ?_;have p0:zad w2 (some ⟨w.heap.size,0,.none⟩)=some (.slice (some xh) N.hosts.length c1):=zab (Ext.at hE2 hA) rfl;have pz2:=zaa hE02 pz;have dz2:=zac hE02 dz;have i0:=cj i;have i1:(i:Int)<(N.hosts.length:Int):=by omega
  have j0:=cj j;have j1:(j:Int)<(nz:Int):=by omega
  refine rqz ?_;intro gd K hgd hK;refine sgz (az2 (az7 p0 i0 i1 j0 j1 hxi hx5) (az4 pz2 hxz dz2 Nat.add_zero)) ?_;refine Fn.mono (RLook_ok (t:=t) (gz.zn hE02 (ho.ext hE02) (hl.ext hE02)) gz.c.srt gz.c.gd gz.c.ld (hq.ext (hE1.trans hE2)) mq) ?_;rintro _ w3 ⟨hE3,cs,rfl,hres⟩;try simp only[go_sem]
  refine zaD (P:=Tryz.prog) (t:=255) (l:=cs) (Ext.at hE3 hC2) hres.cells.1 hres.cells.2 (by rw[hres.cells.1];rfl) rfl ?_;intro z hz' hbz hkz;try simp only[go_sem]
  refine en hK ?_;refine zas (.inr rfl) Tryz.ntmps140 rfl (zaJ (x:=⟨w.heap.size+1,0,.none⟩) (k:=5) vq0 rfl rfl (zaf hbz hres.cells.1.symm) zar) ?_;have hs2:=hE2.size;have hz:=Keep.to_ext (hE1.trans (hE2.trans hE3)) rfl (fun b hb=>by omega) hkz;refine⟨hz,_,rfl,?_⟩;rw[hk];have hrk:=hres.keep hkz (fun b h1 _ h2=>by omega);obtain⟨dv,nv,gv,e,g1,g2,g3,g4,g5⟩:=hrk.ex;refine⟨dv,nv,gv,e,g1,g3.elim (fun h=>h.1) (fun h=>?_),g4.to fun cs y hy=>?_⟩
  ·refine row_off h hC2 (fun x hx t ht=>?_) (fun i hi hb=>(hkz.block i (by have:=hE3.size;omega) hb).trans (hE3.block i hi (fun h=>h)));subst ht;simp[vs]at hx
  ·obtain⟨hv,dv,e,g1,g2,g3⟩:=hy;exact⟨hv,dv,e,g1,g2⟩
theorem zj1{α:Type}{p:α->Bool}{l:List α}{i:Nat}(hi:i<l.length):(l.take (i+1)).any p=((l.take i).any p||p l[i]):=by
 rw[zal hi,List.any_append];simp
theorem addr_at{w:World}{xi x1:Addr}{nv zv:Value}{a b c d:UInt8}(h:zaq w (some xi) 6=some [nv,zae a,zae b,zae c,zae d,zv])(h1:adr (some xi) 1=some x1):∀j (hj:j< [a,b,c,d].length),zad w (adr (some x1) j)=some (zae [a,b,c,d][j]):=by
 intro j hj;rw[←h1,zf4];refine zah (j:=1+j) h ?_
 match j,hj with
 |0,_=>rfl
 |1,_=>rfl
 |2,_=>rfl
 |3,_=>rfl
theorem zmS{w0 w:World}(hE0:Ext w0 w){cs:List Value}{N:NetL}{host:Nm}{hv gv:Value}{glue:List DatL}(hN:NetAt w0 cs N)(hG:NetZ N)(hh:Row w hv (host.map vs))(mh:NmM host)(hg:Rows 5 (DatAt w0) w gv glue)(hgl:glue.length<=1000000000):
  Fn Tryz.prog 182 #[.agg cs.toArray,hv,gv] w (fun v w'=>Ext w w'/\Row w' v ((zeq N host glue).map vi)/\BlkB w.heap.size w' v):=by
 obtain⟨hs,rs,rfl,hhs,hr⟩:=hN.ex;obtain⟨ah,ch,rfl,hch,hgh⟩:=hhs.open;obtain⟨ar,cr,hrv,_⟩:=id hr;obtain⟨a1,c1,hnv,_⟩:=id hh;obtain⟨a2,c2,rfl,hc2,hgg⟩:=hg.open;have hl:=hG.hl;have ml:=mh.len;refine enter Tryz.func182 Tryz.ntmps182 rfl rfl ?_;repeat refine c_r ?_
 rw[hrv,hnv];refine rg0 ?_;rw[←hrv,←hnv];repeat refine c_r ?_
 refine zax ?_;intro w1 hE1 hs1 hA;have p0:zad w1 (some ⟨w.heap.size,0,.none⟩)=some (.slice ah N.hosts.length ch):=zab hA rfl;have hE01:=hE0.trans hE1;refine gz0 ?_;refine zap (fun m σ ds A=>ds=[]/\A=w1/\∃(i:Nat),i+m=glue.length/\σ 9=vi i/\σ 8= .bool ((glue.take i).any isA)/\σ 7= .slice .none 0 0/\σ 3= .pointer (some ⟨w.heap.size,0,.none⟩)/\σ 1=hv/\σ 2= .slice a2 glue.length c2) glue.length ?_ ?_
 ·exact⟨rfl,rfl,0,by omega,vr0,vr0,vr0,vr0,vr0,vr0⟩
 rintro m σ ds A ⟨rfl,hAe,i,him,s9,s8,s7,s3,s1,s2⟩;subst hAe;refine gz (az2 s9 s2) ?_;refine wc0 ?_ ?_
 ·intro hlt;simp only[ydT]at hlt;have hi:i<glue.length:=by omega
  have hi0:=cj i;have hi1':=ci i;obtain⟨c3,hc3,hD⟩:=hgg i hi;obtain⟨nm,nu,tx,rw',rfl,_,_,_,hraw⟩:=hD.ex;obtain⟨xz,rfl⟩:=yxs (zai hc3);obtain⟨xi,hxi⟩:∃xi,adr (some xz) (i*5)=some xi:=⟨_,rfl⟩;have k1:zad A (some xi)=some (vi glue[i].ty):=by
   have:=zah (j:=0) hc3 rfl;rw[zaj,hxi]at this;exact zaa hE1 this
  have hany:=zj1 (p:=isA) hi;repeat refine c_r ?_
  refine zat (Q:=fun e σ' ds' v'=>e= .normal/\ds'=[]/\v'=A/\σ' 9=vi i/\σ' 8= .bool ((glue.take (i+1)).any isA)/\σ' 7= .slice .none 0 0/\σ' 3= .pointer (some ⟨w.heap.size,0,.none⟩)/\σ' 1=hv/\σ' 2= .slice (some xz) glue.length c2) ?_ ?_
  ·cases hb:(glue.take i).any isA with
   |true=>
    rw[hb]at s8 hany;refine rgg [(1,20)] s8 ?_;exact⟨rfl,rfl,rfl,vq1 s9,by rw[hany];first| (simp only[go_sem];done)| (simp only[go_sem];rfl),vq1 s7,vq1 s3,vq1 s1,vq1 s2⟩
   |false=>
    rw[hb]at s8 hany;refine rgg [(1,20)] (an9 s8 s2 s9 hi0 hlt hxi zaj k1 Nat.add_zero) ?_;exact⟨rfl,rfl,rfl,vq1 s9,by rw[hany];first| (simp only[go_sem];done)| (simp only[go_sem];rfl),vq1 s7,vq1 s3,vq1 s1,vq1 s2⟩
  clear s9 s8 s7 s3 s1 s2;rintro _ σ1 _ _ ⟨rfl,rfl,hAe,s9,s8,s7,s3,s1,s2⟩;subst hAe;refine gz (az2 s9 hi1') ?_;exact⟨m - 1,by omega,rfl,rfl,i+1,by omega,vq0,vq1 s8,vq1 s7,vq1 s3,vq1 s1,vq1 s2⟩
 intro hge;simp only[ydF]at hge;rw[List.take_of_length_le (by omega)]at s8;clear s9 him hge;obtain⟨any,hany⟩:∃b,glue.any isA=b:=⟨_,rfl⟩;rw[hany]at s8;refine gz0 ?_;refine zap (fun m σ ds B=>ds=[]/\∃(i:Nat) (ov:Value),i+m=N.hosts.length/\σ 10=vi i/\σ 8= .bool any/\σ 7=ov/\σ 3= .pointer (some ⟨w.heap.size,0,.none⟩)/\σ 1=hv/\σ 2= .slice a2 glue.length c2/\Own A.heap.size B 3 ov ((zcN (zbF host glue) 0 (N.hosts.take i)).map vi)/\Ext A B) N.hosts.length ?_ ?_
 ·exact⟨rfl,0,.slice .none 0 0,by omega,vr0,vq1 s8,vq1 s7,vq1 s3,vq1 s1,vq1 s2,Own.nil _ _ _,Keep.refl _ _⟩
 clear s8 s7 s3 s1 s2;rintro m σ ds B ⟨rfl,i,ov,him,s10,s8,s7,s3,s1,s2,hown,hEB⟩;have p0B:=zaa hEB p0;have hEwB:=hE1.trans hEB;have hE0B:=hE0.trans hEwB;refine gz (az4 s10 s3 p0B Nat.add_zero) ?_;refine wc0 ?_ ?_
 ·intro hlt;simp only[ydT]at hlt;have hi:i<N.hosts.length:=by omega
  have hi0:=cj i;have hi1':=ci i;obtain⟨cs,hcs,hH⟩:=hgh i hi;obtain⟨nv,b1,b2,b3,b4,zv,rfl,had,hnr,hzr⟩:=hH.ex;obtain⟨xz,rfl⟩:=yxs (zai hcs);obtain⟨xi,hxi⟩:∃xi,adr (some xz) (i*6)=some xi:=⟨_,rfl⟩;have dH:=zac hE0B hcs;rw[hxi]at dH;have k0:zad B (some xi)=some nv:=by
   have:=zah (j:=0) dH rfl
   rwa [zaj]at this
  have mn:=hG.nm _ (List.getElem_mem hi);have mnl:=mn.len;obtain⟨sm,hsm⟩:∃b,(!any && decide (zan N.hosts[i].name=zan host))=b:=⟨_,rfl⟩;repeat refine c_r ?_
  refine zat (Q:=fun e σ' ds' C=>e= .normal/\ds'=[]/\σ' 11= .bool sm/\σ' 10=vi i/\σ' 8= .bool any/\σ' 7=ov/\σ' 3= .pointer (some ⟨w.heap.size,0,.none⟩)/\σ' 1=hv/\σ' 2= .slice a2 glue.length c2/\Ext B C) ?_ ?_
  ·cases any with
   |true=>
    refine rgg [(2,37)] s8 ?_;exact⟨rfl,rfl,by rw[←hsm];first| (simp only[go_sem];done)| (simp only[go_sem];rfl),vq1 s10,vq1 s8,vq1 s7,vq1 s3,vq1 s1,vq1 s2,Keep.refl _ _⟩
   |false=>
    refine rcg [(2,37)] (an9 s8 s3 (an4 p0B Nat.add_zero Bool.not_false s1) s10 hi0 hlt hxi zaj k0) (zbR B nv hv N.hosts[i].name host (hnr.ext hE0B) (hh.ext hEwB) mn.LB mh.LB (by omega) (by omega)) ?_;rintro _ C ⟨rfl,hC⟩;refine reg [(2,37)] trivial ?_;exact⟨rfl,rfl,by rw[←hsm];first| (simp only[go_sem];done)| (simp only[go_sem];rfl),vq1 s10,vq1 s8,vq1 s7,vq1 s3,vq1 s1,vq1 s2,hC⟩
  clear s10 s8 s7 s3 s1 s2;rintro _ σ1 _ C ⟨rfl,rfl,s11,s10,s8,s7,s3,s1,s2,hBC⟩;have hEAC:=hEB.trans hBC;have hEwC:=hE1.trans hEAC;refine gz0 ?_;refine zap (fun m σ ds D=>ds=[]/\∃(j:Nat),j+m=glue.length/\σ 12=vi j/\σ 11= .bool (sm|| (glue.take j).any (isG N.hosts[i].addr))/\σ 10=vi i/\σ 8= .bool any/\σ 7=ov/\σ 3= .pointer (some ⟨w.heap.size,0,.none⟩)/\σ 1=hv/\σ 2= .slice a2 glue.length c2/\Ext C D) glue.length ?_ ?_
  ·exact⟨rfl,0,by omega,vr0,by rw[List.take_zero,List.any_nil,Bool.or_false];simp only[go_sem,s11],vq1 s10,vq1 s8,vq1 s7,vq1 s3,vq1 s1,vq1 s2,Keep.refl _ _⟩
  clear s11 s10 s8 s7 s3 s1 s2;rintro m2 σ ds D ⟨rfl,j,hjm,s12,s11,s10,s8,s7,s3,s1,s2,hCD⟩;have hEwD:=hEwC.trans hCD;have hE0D:=hE0.trans hEwD;refine gz (az2 s12 s2) ?_;refine wc0 ?_ ?_
  ·intro hlt2;simp only[ydT]at hlt2;have hj:j<glue.length:=by omega
   have hj0:=cj j;have hj1':=ci j;obtain⟨c3,hc3,hD⟩:=hgg j hj;obtain⟨nm,nu,tx,rw',rfl,_,_,_,hraw⟩:=hD.ex;obtain⟨yz,rfl⟩:=yxs (zai hc3);obtain⟨yi,hyi⟩:∃xi,adr (some yz) (j*5)=some xi:=⟨_,rfl⟩;rw[hyi]at hc3;have k1:zad w (some yi)=some (vi glue[j].ty):=by
    have:=zah (j:=0) hc3 rfl
    rwa [zaj]at this
   obtain⟨y4,hy4⟩:∃x,adr (some yi) 4=some x:=⟨_,rfl⟩;have k4:zad w (some y4)=some rw':=by
    have:=zah (j:=4) hc3 rfl
    rwa [hy4]at this
   have hat:=zj1 (p:=isG N.hosts[i].addr) hj;obtain⟨t,ht⟩:∃b,(sm|| (glue.take j).any (isG N.hosts[i].addr))=b:=⟨_,rfl⟩;rw[ht]at s11;have hnx:(sm|| (glue.take (j+1)).any (isG N.hosts[i].addr))=(t||isG N.hosts[i].addr glue[j]):=by rw[hat,←Bool.or_assoc,ht]
   repeat refine c_r ?_
   refine zat (Q:=fun e σ' ds' E=>e= .normal/\ds'=[]/\σ' 12=vi j/\σ' 11= .bool (t||isG N.hosts[i].addr glue[j])/\σ' 10=vi i/\σ' 8= .bool any/\σ' 7=ov/\σ' 3= .pointer (some ⟨w.heap.size,0,.none⟩)/\σ' 1=hv/\σ' 2= .slice (some yz) glue.length c2/\Ext D E) ?_ ?_
   ·cases t with
    |true=>
     refine zdX (fun _=>false) (.run [(0,true),(1,true),(2,true),(3,true),(4,true),(5,true),(6,true),(7,true),(8,true),(9,true),(10,true),(11,true),(12,true),(13,true),(15,true),(16,true),(17,true),(18,true),(19,true)] (.fork 6 [14,20] (fun i=>if i=14 then(.run [(20,false),(21,false),(22,true),(23,true),(24,true),(25,true)] .fin) else(.run [] (.fork 5 [14,21] (fun i=>if i=14 then(.run [(21,false),(22,true),(23,true),(24,true),(25,true)] .fin) else(.run [(14,false),(22,true),(23,true),(24,true),(25,true)] .fin))))))) NoS mixed (by kernel_rfl) ?_;intro gd K x hgd hx hxe hK;clear hxe;have hg1:=gk 1 54 hgd rfl;have hg8:=gk 8 61 hgd rfl;simp (disch:=first|omega|assumption|rfl) only[go_sem,s11,za3,↓hg1,↓hg8];simp only[zaT,za4];refine⟨?_,?_⟩
     ·simp (disch:=first|omega|assumption|rfl) only[go_sem,za3,↓hg1,↓hg8];apply hK;exact⟨rfl,rfl,vq1 s12,vr0,vq1 s10,vq1 s8,vq1 s7,vq1 s3,vq1 s1,vq1 s2,hx⟩
     ·simp (disch:=first|omega|assumption|rfl) only[go_sem,za3,↓hg1,↓hg8];simp only[zaT,za4];refine⟨?_,?_⟩
      ·simp (disch:=first|omega|assumption|rfl) only[go_sem,za3,↓hg1,↓hg8];apply hK;exact⟨rfl,rfl,vq1 s12,vr0,vq1 s10,vq1 s8,vq1 s7,vq1 s3,vq1 s1,vq1 s2,hx⟩
      ·simp (disch:=first|omega|assumption|rfl) only[go_sem,za3,↓hg1,↓hg8];apply hK;exact⟨rfl,rfl,vq1 s12,vr0,vq1 s10,vq1 s8,vq1 s7,vq1 s3,vq1 s1,vq1 s2,hx⟩
    |false=>
     by_cases hty:glue[j].ty=1
     ·have hisG:isG N.hosts[i].addr glue[j]=decide (glue[j].raw=N.hosts[i].addr):=by unfold isG isA;rw[yet hty];rfl
      rw[hisG];obtain⟨x1,hx1⟩:∃x,adr (some xi) 1=some x:=⟨_,rfl⟩;obtain⟨ar4,cr4,rfl,hcr4,hgr4⟩:=hraw;rw[ylm]at k4 hcr4;refine zdX (fun _=>false) (.run [(0,true),(1,true),(2,true),(3,true),(4,true),(5,true),(6,true),(7,true),(8,true),(9,true),(10,true),(11,true),(12,true),(13,true),(15,true),(16,true),(17,true),(18,true),(19,true)] (.fork 6 [14,20] (fun i=>if i=14 then(.run [(20,false),(21,false),(22,true),(23,true),(24,true),(25,true)] .fin) else(.run [] (.fork 5 [14,21] (fun i=>if i=14 then(.run [(21,false),(22,true),(23,true),(24,true),(25,true)] .fin) else(.run [(14,false),(22,true),(23,true),(24,true),(25,true)] .fin))))))) NoS mixed (by kernel_rfl) ?_;intro gd K x hgd hx hxe hK;clear hxe;have hg1:=gk 1 54 hgd rfl;have hg8:=gk 8 61 hgd rfl;have k1x:=zaa (hEwD.trans hx) k1;have k4x:=zaa (hEwD.trans hx) k4;have p0x:=zaa ((hEAC.trans hCD).trans hx) p0;have dHx:=addr_at (zac ((hBC.trans hCD).trans hx) dH) hx1;have grx:∀k (hk:k<glue[j].raw.length),zad x (adr ar4 k)=some (zae glue[j].raw[k]):=fun k hk=>by
       have:=zaa (hE0D.trans hx) (hgr4 k (by simpa using hk));rw[List.getElem_map]at this;exact this
      simp (disch:=first|omega|assumption|rfl) only[go_sem,s11,s2,s12,s3,s10,hi0,hlt,hj0,hlt2,hyi,hy4,hxi,hx1,zaj,k1x,k4x,p0x,Nat.add_zero,yet hty,za3,↓hg1,↓hg8];have haddr:N.hosts[i].addr=[b1,b2,b3,b4]:=had;simp only[zaT,za4];refine⟨?_,?_⟩
      ·simp (disch:=first|omega|assumption|rfl) only[go_sem,za3,↓hg1,↓hg8];refine zbh (l:=glue[j].raw) rfl rfl rfl vr0 grx ?_;refine⟨.inr (Keep.refl _ _),?_⟩;simp (disch:=first|omega|assumption|rfl) only[go_sem,za3,↓hg1,↓hg8];refine zlC rfl (by decide) (by kernel_rfl) vq0 ?_;refine⟨.inr (Keep.refl _ _),?_⟩;simp (disch:=first|omega|assumption|rfl) only[go_sem,za3,↓hg1,↓hg8];refine zbh (l:=[b1,b2,b3,b4]) rfl rfl rfl vr0 dHx ?_;refine⟨.inr (Keep.refl _ _),?_⟩;simp (disch:=first|omega|assumption|rfl) only[go_sem,za3,↓hg1,↓hg8];apply hK;exact⟨rfl,rfl,vq1 s12,by rw[Bool.false_or,haddr];first| (simp only[go_sem];done)| (simp only[go_sem];rfl),vq1 s10,vq1 s8,vq1 s7,vq1 s3,vq1 s1,vq1 s2,hx⟩
      ·simp (disch:=first|omega|assumption|rfl) only[go_sem,za3,↓hg1,↓hg8];refine zlC rfl (by decide) (by kernel_rfl) vq0 ?_;refine⟨.inr (Keep.refl _ _),?_⟩;simp only[zaT,za4];refine⟨?_,?_⟩
       ·simp (disch:=first|omega|assumption|rfl) only[go_sem,za3,↓hg1,↓hg8];refine zbh (l:=glue[j].raw) rfl rfl rfl vr0 grx ?_;refine⟨.inr (Keep.refl _ _),?_⟩;simp (disch:=first|omega|assumption|rfl) only[go_sem,za3,↓hg1,↓hg8];refine zbh (l:=[b1,b2,b3,b4]) rfl rfl rfl vr0 dHx ?_;refine⟨.inr (Keep.refl _ _),?_⟩;simp (disch:=first|omega|assumption|rfl) only[go_sem,za3,↓hg1,↓hg8];apply hK;exact⟨rfl,rfl,vq1 s12,by rw[Bool.false_or,haddr];first| (simp only[go_sem];done)| (simp only[go_sem];rfl),vq1 s10,vq1 s8,vq1 s7,vq1 s3,vq1 s1,vq1 s2,hx⟩
       ·simp (disch:=first|omega|assumption|rfl) only[go_sem,za3,↓hg1,↓hg8];refine zbh (l:=[b1,b2,b3,b4]) rfl rfl rfl vr0 dHx ?_;refine⟨.inr (Keep.refl _ _),?_⟩;simp (disch:=first|omega|assumption|rfl) only[go_sem,za3,↓hg1,↓hg8];refine zbh (l:=glue[j].raw) rfl rfl rfl vr0 grx ?_;refine⟨.inr (Keep.refl _ _),?_⟩;simp (disch:=first|omega|assumption|rfl) only[go_sem,za3,↓hg1,↓hg8];apply hK;exact⟨rfl,rfl,vq1 s12,by rw[Bool.false_or,haddr];first| (simp only[go_sem];done)| (simp only[go_sem];rfl),vq1 s10,vq1 s8,vq1 s7,vq1 s3,vq1 s1,vq1 s2,hx⟩
     ·have hisG:isG N.hosts[i].addr glue[j]=false:=by unfold isG isA;rw[yef hty];rfl
      rw[hisG];refine zdX (fun _=>false) (.run [(0,true),(1,true),(2,true),(3,true),(4,true),(5,true),(6,true),(7,true),(8,true),(9,true),(10,true),(11,true),(12,true),(13,true),(15,true),(16,true),(17,true),(18,true),(19,true)] (.fork 6 [14,20] (fun i=>if i=14 then(.run [(20,false),(21,false),(22,true),(23,true),(24,true),(25,true)] .fin) else(.run [] (.fork 5 [14,21] (fun i=>if i=14 then(.run [(21,false),(22,true),(23,true),(24,true),(25,true)] .fin) else(.run [(14,false),(22,true),(23,true),(24,true),(25,true)] .fin))))))) NoS mixed (by kernel_rfl) ?_;intro gd K x hgd hx hxe hK;clear hxe;have hg1:=gk 1 54 hgd rfl;have hg8:=gk 8 61 hgd rfl;have k1x:=zaa (hEwD.trans hx) k1;simp (disch:=first|omega|assumption|rfl) only[go_sem,s11,s2,s12,hj0,hlt2,hyi,zaj,k1x,Nat.add_zero,yef hty,za3,↓hg1,↓hg8];simp only[zaT,za4];refine⟨?_,?_⟩
      ·simp (disch:=first|omega|assumption|rfl) only[go_sem,za3,↓hg1,↓hg8];apply hK;exact⟨rfl,rfl,vq1 s12,vr0,vq1 s10,vq1 s8,vq1 s7,vq1 s3,vq1 s1,vq1 s2,hx⟩
      ·simp (disch:=first|omega|assumption|rfl) only[go_sem,za3,↓hg1,↓hg8];simp only[zaT,za4];refine⟨?_,?_⟩
       ·simp (disch:=first|omega|assumption|rfl) only[go_sem,za3,↓hg1,↓hg8];apply hK;exact⟨rfl,rfl,vq1 s12,vr0,vq1 s10,vq1 s8,vq1 s7,vq1 s3,vq1 s1,vq1 s2,hx⟩
       ·simp (disch:=first|omega|assumption|rfl) only[go_sem,za3,↓hg1,↓hg8];apply hK;exact⟨rfl,rfl,vq1 s12,vr0,vq1 s10,vq1 s8,vq1 s7,vq1 s3,vq1 s1,vq1 s2,hx⟩
   clear s12 s11 s10 s8 s7 s3 s1 s2;rintro _ σ2 _ E ⟨rfl,rfl,s12,s11,s10,s8,s7,s3,s1,s2,hDE⟩;refine gz (az2 s12 hj1') ?_;exact⟨m2 - 1,by omega,rfl,j+1,by omega,vq0,by rw[hnx];simp only[go_sem,s11],vq1 s10,vq1 s8,vq1 s7,vq1 s3,vq1 s1,vq1 s2,hCD.trans hDE⟩
  intro hge2;simp only[ydF]at hge2;rw[List.take_of_length_le (by omega)]at s11;have hisH:(sm||glue.any (isG N.hosts[i].addr))=zbF host glue N.hosts[i]:=by
   unfold zbF;rw[←hsm,hany];cases any with
   |true=>simp
   |false=>
    have:glue.any (isG N.hosts[i].addr)=false:=by
     rw[List.any_eq_false]at hany ⊢;intro d hd h;exact hany d hd (by unfold isG at h;rw[Bool.and_eq_true]at h;exact h.1)
    rw[this];simp
  rw[hisH]at s11;have hown2:=hown.ext (hBC.trans hCD);have hpk:=zgq (p:=zbF host glue) hi;have hlen:=zdh (p:=zbF host glue) (l:=N.hosts.take i) (i:=0);have hsz:=(hEAC.trans hCD).size;clear s12 hge2 hjm hisH;refine gz s11 ?_;refine zat (Q:=fun e σ' ds' v'=>e= .normal/\ds'=[]/\σ' 10=vi i/\σ' 8= .bool any/\σ' 3= .pointer (some ⟨w.heap.size,0,.none⟩)/\σ' 1=hv/\σ' 2= .slice a2 glue.length c2/\∃ov',σ' 7=ov'/\Own A.heap.size v' 3 ov' ((zcN (zbF host glue) 0 (N.hosts.take (i+1))).map vi)/\Ext A v') ?_ ?_
  ·cases hb:zbF host glue N.hosts[i] with
   |false=>
    rw[hb,if_neg (by decide),List.append_nil]at hpk;refine wf hb ?_;repeat refine c_r ?_
    exact⟨rfl,rfl,vq1 s10,vq1 s8,vq1 s3,vq1 s1,vq1 s2,ov,vq1 s7,by rw[hpk];exact hown2,hEAC.trans hCD⟩
   |true=>
    rw[hb,if_pos rfl]at hpk;refine wt hb ?_;refine rqz ?_;intro gd K hgd hK;refine sgz (az2 s7 s10) ?_;refine zcu (z:=vi 0) (by rfl) (by rfl) (by rfl) (by rfl) (by rfl) ?_;intro A3 hE8 hs8 ho8;try simp only[go_sem]
    refine zbM (B:=A.heap.size) (hown2.ext hE8) ho8.row (by rfl) (by rfl) (by rfl) (by rfl) (by rfl) (by rfl) ((vr1 s7)) vr0 (fun q hq=>by rw[List.mem_singleton.1 hq];rfl) (by simp at hlen ⊢;omega) (by decide) (by omega) ?_;intro ov' A4 ho9 hE9 _ _;try simp only[go_sem]
    apply hK;exact⟨rfl,rfl,vq1 s10,vq1 s8,vq1 s3,vq1 s1,vq1 s2,ov',vr0,by rw[hpk,List.map_append];exact ho9,hE9 _ ((hEAC.trans hCD).trans hE8) (ynl _)⟩
  clear s11 s10 s8 s7 s3 s1 s2;rintro _ σ2 _ A3 ⟨rfl,rfl,s10,s8,s3,s1,s2,ov',s7,hown3,hE3⟩;refine gz (az2 s10 hi1') ?_;exact⟨m - 1,by omega,rfl,i+1,ov',by omega,vq0,vq1 s8,vq1 s7,vq1 s3,vq1 s1,vq1 s2,hown3,hE3⟩
 ·intro hge2;simp only[ydF]at hge2;rw[List.take_of_length_le (by omega)]at hown;repeat (first|refine c_r ?_| (refine zcb (by rfl) ?_;intro gd K hgd hK;simp (disch:=first|omega|assumption|rfl) only[go_sem,s7];refine hK _ _ ?_;clear hK hgd;clear K gd))
  refine rt0 Tryz.ntmps182 ?_;exact⟨hE1.trans hEB,hown.row,hown.blk.mono hE1.size⟩
theorem zcc(w:World){nv:Value}{l:List Value}(hr:Row w nv l)(s:zao)(k:Int):
  Fn Tryz.prog 141 #[.agg (stV nv s).toArray,vi k] w (fun v w'=>Ext w w'/\Rows 6 (StN nv) w' v (endS s k)/\BlkB w.heap.size w' v):=by
 have h1:=hr.isOne;obtain⟨an,cn,hnv,_⟩:=hr;unfold stV;rw[hnv];refine enter Tryz.func141 Tryz.ntmps141 rfl rfl ?_;refine gz0 ?_;rw[←hnv];repeat refine c_r ?_
 refine zax ?_;intro w1 hE1 hs1 hA;refine rq ?_;intro gd K hgd hK;try simp only[go_sem]
 refine zaU (P:=Tryz.prog) (t:=3) (j:=5) (u:=vi k) (l:=stV nv s) hA (by show 5<6;decide) rfl rfl rfl ?_;intro w2 hs2 hA2 hk2;try simp only[go_sem]
 apply hK;have hE2:=Keep.to_ext hE1 rfl (fun b hb=>by omega) hk2;have d:zaq w2 (some ⟨w.heap.size,0,.none⟩) 6=some (stV nv {s with fin:=k}):=zaf hA2 rfl;refine rqz ?_;intro gd K hgd hK;refine sgz d ?_;refine zaL (C:=StN nv) (zbc nv) (l:=stV nv {s with fin:=k}) (by rfl) (by rfl) (by rfl) (by rfl) ⟨rfl,h1⟩ (by decide) ?_;intro w3 hE3 hs3 ho3;try simp only[go_sem]
 refine en hK ?_;refine rt0 Tryz.ntmps141 ?_;exact⟨hE2.trans hE3,ho3.rows,ho3.blk.mono hE2.size⟩
theorem zkU{w0 w:World}(hE0:Ext w0 w){cs:List Value}{N:NetL}(hN:NetAt w0 cs N)(hrl:N.roots.length<=1000){nv:Value}{q:Nm}(hq:Row w nv (q.map vs)):
  Fn Tryz.prog 85 #[.agg cs.toArray,nv] w (fun v w'=>Ext w w'/\Rows 6 (StC w') w' v (zcM N ⟨0,q,0,0,false,0⟩)/\BlkB w.heap.size w' v):=by
 obtain⟨hv,rv,rfl,hh,hro⟩:=hN.ex;obtain⟨ah,ch,hhv,_⟩:=hh.open;obtain⟨ar,cr,rfl,hcr,hgr⟩:=hro;obtain⟨an,cn,hnv,_⟩:=id hq;have h1:=hq.isOne;simp only[ylm]at hcr hgr;refine enter Tryz.func85 Tryz.ntmps85 rfl rfl ?_;repeat refine c_r ?_
 rw[hhv];refine rq ?_;intro gd K hgd hK;simp (disch:=first|omega|assumption|rfl) only[go_sem,ylm];refine hK _ _ ?_;clear hK hgd;clear K gd;rw[←hhv];repeat refine c_r ?_
 refine zax ?_;intro w1 hE1 hs1 hA;have p1:zad w1 (some ⟨w.heap.size,1,.none⟩)=some (.slice ar N.roots.length cr):=zab hA rfl;refine gz0 ?_;refine zap (fun m σ ds A=>ds=[]/\∃(i:Nat) (ov:Value),i+m=N.roots.length/\σ 6=vi i/\σ 5=ov/\σ 2= .pointer (some ⟨w.heap.size,0,.none⟩)/\σ 1=nv/\Owns 6 (StN nv) w1.heap.size A 84 ov ((N.roots.take i).map fun r=>(⟨r,q,0,0,false,0⟩:zao))/\Ext w1 A) N.roots.length ?_ ?_
 ·exact⟨rfl,0,.slice .none 0 0,by omega,vr0,vr0,vr0,vr0,Owns.nil _ _ _ _ _,Keep.refl _ _⟩
 rintro m σ ds A ⟨rfl,i,ov,him,s6,s5,s2,s1,hown,hEA⟩;have p1A:=zaa hEA p1;refine gz (az4 s6 s2 p1A yn0) ?_;refine wc0 ?_ ?_
 ·intro hlt;simp only[ydT]at hlt;have hi:i<N.roots.length:=by omega
  have hi0:=cj i;have hi1':=ci i;have hg:=zaa (hE0.trans (hE1.trans hEA)) (hgr i hi);rw[List.getElem_map]at hg;obtain⟨xz,rfl⟩:=yxs (zag (hgr 0 (by omega)));have hszA:=hEA.size;refine rqz ?_;intro gd K hgd hK;refine sgz (az2 (az7 s5 s6 s2 s1 p1A hi0 hlt) (az3 hg Nat.mul_one yn0)) ?_;refine⟨by kernel_rfl,?_⟩;rw[hnv,show bdV Tryz.prog 84 [(0,vi N.roots[i]),(1,.slice an (q.map vs).length cn)]=some (.agg #[vi N.roots[i],.slice an (q.map vs).length cn,vi 0,vi 0,.bool false,vi 0]) from by kernel_rfl,←hnv];try simp only[go_sem]
  refine zaL (C:=StN nv) (zbc nv) (l:=stV nv ⟨N.roots[i],q,0,0,false,0⟩) (by rfl) (by rfl) (by rfl) (by rfl) ⟨rfl,h1⟩ (by decide) ?_;intro A2 hE7 hs7 ho7;try simp only[go_sem]
  refine zaC (zbc nv) (hown.ext hE7) ho7.rows (by rfl) (by rfl) (by rfl) (by rfl) (by rfl) (by rfl) (by decide) ((vr1 s5)) vr0 (by simp;omega) (by decide) (by omega) ?_;intro ov' A3 ho8 hE8 hk8 _;try simp only[go_sem]
  apply hK;refine gz (az2 s6 hi1') ?_;refine⟨m - 1,by omega,rfl,i+1,ov',by omega,vq0,vq0,vq1 s2,vq1 s1,?_,hE8 w1 (hEA.trans hE7) (ynl _)⟩;rw[zal hi,List.map_append];exact ho8
 ·intro hge;simp only[ydF]at hge;rw[List.take_of_length_le (by omega)]at hown;repeat (first|refine c_r ?_| (refine zcb (by rfl) ?_;intro gd K hgd hK;simp (disch:=first|omega|assumption|rfl) only[go_sem,s5];refine hK _ _ ?_;clear hK hgd;clear K gd))
  refine rt0 Tryz.ntmps85 ?_;have hE:=hE1.trans hEA;exact⟨hE,zda hown.rows (fun s hs=>by
   obtain⟨r,_,rfl⟩:=List.mem_map.1 hs;exact hq.ext hE),hown.blk.mono hE1.size⟩
end Go.Proofs.YtahbdamijngmmaaGreat
