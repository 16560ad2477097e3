/-
  Texts of a proof, joined.
  Conditions: none.
-/
import Derived.Test.YtfacfpcopcgbdaaGreatPBR14
set_option linter.all false
set_option maxRecDepth 20000
set_option maxHeartbeats 8000000
namespace Go.Proofs.YtfacfpcopcgbdaaGreat
open Go Tryz
variable {w w0 w1 W0 x A:World}{v u lv nv:Value}{cs l:List Value}{B k b i j c m cap:Nat}{t e:TypeId}{a:Option Addr}{S C:Nat->Prop}{q n o:Nm}{N:NetL}
structure IZ(w0:World)(es ez:TypeId)(b5:Nat)(nv:Value)(a b c d:UInt8)(A0 v:World)(pv:Value)(zs:List ZX):Prop where
 h:v.heap[b5]? =some (.cells #[nv,zae a,zae b,zae c,zae d,pv] es (0,0))
 g:GX (zxX w0) zxK 2 zxC ez (b5+1) v pv zs
 e:Ext A0 v
 lo:A0.heap.size<=b5
theorem IZ.app{A0 v v1 v2 v3:World}{es ez:TypeId}{b5:Nat}{pv pv':Value}{a b c d:UInt8}{zs:List ZX}{x:ZX}(h:IZ w0 es ez b5 nv a b c d A0 v pv zs)(hE:Ext v v1)(hB:b5+1<=v.heap.size)(hx:zxX w0 v1 x)(hxb:∀b,zxK x b->v.heap.size<=b/\b<v1.heap.size)
  (ho:Owns 2 zxC (b5+1) v2 ez pv' (zs++ [x])) (hk:Keep (λ b=>some b=pv.ownBlock) v1 v2) (hob:∀b,some b=pv'.ownBlock->some b=pv.ownBlock\/v1.heap.size<=b) (h3:v3.heap[b5]? =some (.cells #[nv,zae a,zae b,zae c,zae d,pv'] es (0,0))) (hk3:Keep (λ b=>b=b5) v2 v3):
  IZ w0 es ez b5 nv a b c d A0 v3 pv' (zs++ [x]):=by
 have lo:=h.lo;have e2:Ext A0 v2:=ykt (h.e.trans hE) rfl (λ b hb=>by have:=(h.g.own.ge hb).1;omega) hk;have g2:=h.g.app (zdE w0) hE hB hx hxb ho hk hob;exact⟨h3,g2.keep (zdE w0) hk3 (λ b hb hb2=>by have:=(g2.in hb).1;omega),ykt e2 rfl (λ b hb=>oM) hk3,lo⟩
theorem Of16_ok(w:World){c:NetL}(hc:NetAt w cs c)(hf:NetZ c):
  Fn prog 8 #[.agg cs.toArray] w (λ v w'=>Ext w w'/\∃cs',v= .agg cs'.toArray/\NetAt w' cs' c):=by
 obtain⟨sv,rv,rfl,hs,hr⟩:=hc.ex;obtain⟨aS,cS,rfl,hat⟩:=znu hs;have hr0:=hr;have r1:=hr.isOne;obtain⟨ar,cr,hrv,_,hgr⟩:=hr;have hsl:=hf.hl;refine enx func8 ntmps8 ?_;repeat refine c_r ?_
 rw[hrv];refine rg0 ?_;rw[←hrv];repeat refine c_r ?_
 rw[zai];refine zaQ ?_;intro w1 hE1 hs1 hA hC;have p0:zad w1 (some ⟨w.heap.size,0,.none⟩)=some (.slice aS c.hosts.length cS):=zab hA rfl;have p1:zad w1 (some ⟨w.heap.size,1,.none⟩)=some rv:=zab hA rfl;have p2:zad w1 (some ⟨w.heap.size,2,.none⟩)=some (vi c.rw):=zab hA rfl;have p3:zad w1 (some ⟨w.heap.size,3,.none⟩)=some (vi c.rf):=zab hA rfl;refine rqz ?_;intro gd K hgd hK;refine sgz (az4 p1 p2 p3 yn0) ?_;refine⟨by kernel_rfl,?_⟩;rw[hrv,show bdV prog 33 [(1,.slice ar (c.roots.map vi).length cr),(2,vi c.rw),(3,vi c.rf)]=some (.agg #[.slice .none 0 0,.slice ar (c.roots.map vi).length cr,vi c.rw,vi c.rf]) from by kernel_rfl,←hrv];try simp only[go_sem]
 refine zaV (P:=prog) (l:=[.slice .none 0 0,rv,vi c.rw,vi c.rf]) rfl (λ v hv=>by simp at hv;rcases hv with rfl|rfl|rfl|rfl<;>first|exact r1|rfl) rfl rfl ?_;intro w2 hE2 hs2 hD;try simp only[go_sem]
 apply hK;obtain⟨c3,hc3⟩:∃b,w1.heap.size=b:=⟨_,rfl⟩;rw[hc3]at hD hs2 ⊢;have hE12:=hE1.trans hE2;have p0w:=zaa hE2 p0;refine gz0 ?_;refine zan (λ m σ ds A=>ds=[]/\∃(i:Nat) (ov:Value) (G:List HX),i+m=c.hosts.length/\σ 4=vi i/\σ 1= .pointer (some ⟨w.heap.size,0,.none⟩)/\σ 2= .pointer (some ⟨w.heap.size+1,0,.none⟩)/\σ 3= .pointer (some ⟨c3,0,.none⟩)/\Ext w1 A/\c3+1<=A.heap.size/\
  A.heap[c3]? =some (.cells #[ov,rv,vi c.rw,vi c.rf] 33 (0,0))/\GX (hxX w 56) hxK 6 hxC 53 (c3+1) A ov G/\G.map Prod.fst=c.hosts.take i) c.hosts.length ?_ ?_
 ·exact⟨rfl,0,.slice .none 0 0,[],oM,vr0,vq0,vq0,vq0,hE2,oM,hD,⟨Owns.nil _ _ _ _ _,λ x h=>by cases h⟩,rfl⟩
 rintro m σ ds A ⟨rfl,i,ov,G,him,s4,s1,s2,s3,hEA,hAs,hB3,hGS,hGf⟩;have p0A:=zaa hEA p0;refine gz (az4 s4 s1 p0A yad) ?_;refine wc0 ?_ ?_
 ·intro hlt;simp only[ydT]at hlt;have hi:i<c.hosts.length:=oM;have hi0:=cj i;have hi1':=ci i;obtain⟨xa,xi,x5,nv,ap,cp,rfl,hxi,hx5,g0,hn,g5,⟨b1,b2,b3,b4,hadr,hcs⟩,hpl⟩:=hat i hi;obtain⟨s,hse⟩:∃s,c.hosts[i]=s:=⟨_,rfl⟩;have fs2:=hf.zl s (hse▸yac hi);have fs3:=hf.z s (hse▸yac hi);rw[hse]at hn g5 hadr hcs;simp only[hse]at hpl;have n1:=hn.isOne;have hz0:adr (some xi) 0=some xi:=zar _;obtain⟨y1,hy1⟩:∃y,adr (some xi) 1=some y:=⟨_,rfl⟩;have gby:zat w (some y1) 4=some [zae b1,zae b2,zae b3,zae b4]:=by
   have h5:=zaZ (m:=1) (k:=5) hcs;rw[hy1]at h5;exact zcB (m:=4) (k:=1) h5
  obtain⟨an,cn,hnv,_⟩:=id hn;repeat refine c_r ?_
  refine zaF (λ i=>i==14) [(0,true),(1,true),(2,true),(3,true),(4,true),(5,true),(6,true),(7,true),(8,true),(9,true),(10,true),(11,true),(12,true),(13,false),(14,false)] NoS mixed kR ?_;intro gd K x hgd hx hxe hK;clear hxe;have hwx:=hE1.trans (hEA.trans hx);have p0x:=zaa hx p0A;have g0x:=zaa hwx g0;have gbx:=zac hwx gby;refine sgz (az2 (az7 s4 s1 p0x yad hi0 hlt hxi) (az4 hz0 hy1 g0x gbx)) ?_;refine⟨by kernel_rfl,?_⟩;rw[hnv,show bdV prog 53 [(0,.slice an (s.name.map vs).length cn),(1,.agg #[zae b1,zae b2,zae b3,zae b4])]=some (.agg #[.slice an (s.name.map vs).length cn,zae b1,zae b2,zae b3,zae b4,.slice .none 0 0]) from by kernel_rfl,←hnv];refine sg0 ?_;refine⟨.inr (yea x _),?_⟩;refine zaV (P:=prog) (l:=[nv,zae b1,zae b2,zae b3,zae b4,.slice .none 0 0]) rfl (λ v hv=>by simp at hv;rcases hv with rfl|rfl|rfl|rfl|rfl|rfl<;>first|exact n1|rfl) rfl rfl ?_;intro A1 hE3 hs3 hB5;refine⟨.inl rfl,?_⟩;refine sg0 ?_;apply hK;have hx3:=hx.trans hE3;obtain⟨b5,hb5⟩:∃b,x.heap.size=b:=⟨_,rfl⟩;have hsx:=hx.size;rw[hb5]at hB5 hs3 hsx ⊢;have hIP:IZ w 53 56 b5 nv b1 b2 b3 b4 A A1 (.slice .none 0 0) []:=⟨hB5,⟨Owns.nil _ _ _ _ _,λ x h=>by cases h⟩,hx3,hsx⟩;clear p0x g0x gbx hx hx3 hwx hE3 hB5;refine gz0 ?_
  refine zan (λ m σ ds v=>ds=[]/\∃(k:Nat) (pv:Value) (zs:List ZX),k+m=s.zones.length/\σ 6=vi k/\σ 4=vi i/\σ 1= .pointer (some ⟨w.heap.size,0,.none⟩)/\σ 2= .pointer (some ⟨w.heap.size+1,0,.none⟩)/\σ 3= .pointer (some ⟨c3,0,.none⟩)/\σ 5= .pointer (some ⟨b5,0,.none⟩)/\
   IZ w 53 56 b5 nv b1 b2 b3 b4 A v pv zs/\zs.map Prod.fst=s.zones.take k/\b5+1<=v.heap.size) s.zones.length ?_ ?_
  ·exact⟨rfl,0,_,[],oM,vr0,vq1 s4,vq1 s1,vq1 s2,vq1 s3,vq0,hIP,rfl,oM⟩
  clear s4 s1 s2 s3 hIP;rintro m2 σ2 ds2 v ⟨rfl,k,pv,zs,hkm,s6,s4,s1,s2,s3,s5,hIP,hzf,hvs⟩;have hEv:=hEA.trans hIP.e;have hwv:=hE1.trans hEv;have p0v:=zaa hEv p0;have g5v:=zaa hwv g5;refine gz (az2 (az7 s6 s4 s1 (an3 p0v yad g5v) hi0 hlt hxi) (az2 hx5 trivial)) ?_;refine wc0 ?_ ?_
  ·intro hlt2;simp only[ydT]at hlt2;have hk:k<s.zones.length:=oM;have hk0:=cj k;have hk1':=ci k;obtain⟨xp,xk,ow,lv,rfl,hxk,dz,ho,hl⟩:=hpl k hk;obtain⟨z,hze⟩:∃z,s.zones[k]=z:=⟨_,rfl⟩;have hgz:=fs3 _ (yac hk);rw[hze]at ho hl hgz;have q5:zad v (some ⟨b5,5,.none⟩)=some pv:=zab hIP.h rfl;have lo:=hIP.lo;have hgzl:=hgz.gd.len;repeat refine c_r ?_
   refine zaF (λ i=>i==15) [(0,true),(1,true),(2,true),(3,true),(4,true),(5,true),(6,true),(7,true),(8,true),(9,true),(10,true),(11,false),(12,false),(13,false),(14,true),(15,false)] (zda (b5+1)) mixed kR ?_;intro gd K x hgd hx hxe hK;have hx0:=zgH hxe;clear hxe;have hwx:=hwv.trans hx0;have p0x:=zaa hx0 p0v;have g5x:=zaa hwx g5;have dzx:=zac hwx dz;have q5x:=zaa hx0 q5;refine sgz (az2 (az7 s6 s4 s1 s5 p0x yad yn0) (az2 (az7 hi0 hlt hk0 hlt2 hxi hx5 hxk) (az3 g5x dzx q5x))) ?_;have l5:x5.block<b5+1:=by have:=zc9 (show w.cell? x5=some _ from g5);have:=hE1.size;have:=hEA.size;omega
   have lk:xk.block<b5+1:=by
    have h0:=zaq (j:=0) dz rfl;rw[zar]at h0;have:=zc9 (show w.cell? xk=some _ from h0);have:=hE1.size;have:=hEA.size;omega
   have lw:w.heap.size<b5+1:=by have:=hE1.size;have:=hEA.size;omega
   refine⟨zdA oM,zdA lw,zgs l5,zgs lk,?_⟩;refine yfm (ZOf_ok hwx ho (hl.ext hwx) (λ r hr=>(hgz.gd.few r hr).2.nn) oM) ?_;rintro _ v0 ⟨hE0,lv',G',rfl,hOI,hG'⟩;refine⟨.inr hE0.keep,?_⟩;obtain⟨al',cl',hlv',_⟩:=hOI.own.rows.open;refine sg0 ?_;refine za4 zkj (l:=[ow,lv']) (a:=((z,(ow,(lv',G'))):ZX)) (by rfl) (by rfl) (by rfl) (by rfl) ⟨rfl,ho.isOne,by rw[hlv'];rfl⟩ (by decide) ?_;intro v1 hE4 hs4' ho4;refine⟨.inr hE4.keep,?_⟩;refine sg0 ?_;have hx04:=(hx0.trans hE0).trans hE4;have hsz4:=hx04.size;have hs0:=hx0.size;have hzl:zs.length=k:=by
    have:=congrArg List.length hzf;simp at this;omega
   refine zaR zkj (hIP.g.ext (zdE w) hx04).own ho4.rows (by rfl) (by rfl) (by rfl) (by rfl) (by rfl) (by rfl) (by decide) vr0 vr0 (by simp;omega) (by decide) oM ?_;intro pv' v2 ho5 hE5 hk5 hb5';refine⟨.inr (hk5.mono λ b _ hb=>(hIP.g.own.ge hb).1),?_⟩;obtain⟨ap',cp',hpv',_⟩:=ho5.rows.open;refine sgz (az2 s5 yn0) ?_;refine za6 (P:=prog) (t:=51) (j:=5) (u:=pv') (l:=[nv,zae b1,zae b2,zae b3,zae b4,pv]) ((hk5.block _ oM (λ hb=>by have:=(hIP.g.own.ge hb).1;omega)).trans (Ext.at hx04 hIP.h)) (by simp) (by rw[hpv'];rfl) rfl rfl ?_;intro v3 hs3' hB3' hk3';refine⟨.inl rfl,?_⟩;refine sg0 ?_;apply hK;have hIPn:=hIP.app hx04 oM (x:=((z,(ow,(lv',G'))):ZX)) ⟨ho,hG',_,hOI.ext hE4⟩ (λ b hb=>by have:=zx_in (x:=((z,(ow,(lv',G'))):ZX)) (hOI.ext hE4) b hb;omega) ho5 hk5 hb5' hB3' hk3';have hs5:=hk5.size;refine gz (az2 s6 hk1') ?_;exact⟨m2 - 1,oM,rfl,k+1,pv',_,oM,vq0,vq1 s4,vq1 s1,vq1 s2,vq1 s3,vq1 s5,hIPn,by rw[zal hk,yaC,hzf,hze];rfl,oM⟩
  ·intro hge2;simp only[ydF]at hge2;have hfull:s.zones.take k=s.zones:=yaf oM;rw[hfull]at hzf;obtain⟨ap',cp',hpv',_⟩:=hIP.g.own.rows.open;have lo:=hIP.lo;have dB:zat v (some ⟨b5,0,.none⟩) 6=some [nv,zae b1,zae b2,zae b3,zae b4,pv]:=zah hIP.h rfl;have q3:zad v (some ⟨c3,0,.none⟩)=some ov:=zab (Ext.at hIP.e hB3) rfl;have ones6:∀q∈ [nv,zae b1,zae b2,zae b3,zae b4,pv],one q=true:=λ q hq=>by
    simp at hq;rcases hq with rfl|rfl|rfl|rfl|rfl|rfl<;>first|exact n1|rfl| (rw[hpv'];rfl)
   have hGl:G.length=i:=by
    have:=congrArg List.length hGf;simp at this;omega
   refine rqz ?_;intro gd K hgd hK;refine sgz (az5 s3 s5 q3 dB yad) ?_;refine za4 (C:=hxC) zkJ (l:=[nv,zae b1,zae b2,zae b3,zae b4,pv]) (a:=((s,(pv,([nv,zae b1,zae b2,zae b3,zae b4,pv],zs))):HX)) (by rfl) (by rfl) (by rfl) (by rfl) ⟨rfl,rfl,ones6⟩ (by decide) ?_;intro v1 hE4 hs4' ho4;try simp only[go_sem]
   have hAv1:=hIP.e.trans hE4;have hsA1:=hAv1.size;refine zaR zkJ ((hGS.ext (zeZ w _) hAv1).own) ho4.rows (by rfl) (by rfl) (by rfl) (by rfl) (by rfl) (by rfl) (by decide) vr0 vr0 (by simp;omega) (by decide) oM ?_;intro ov' v2 ho5 hE5 hk5 hb5';obtain⟨ao',co',hov',_⟩:=ho5.rows.open;refine sgz (az2 s3 yad) ?_;refine za6 (P:=prog) (t:=31) (j:=0) (u:=ov') (l:=[ov,rv,vi c.rw,vi c.rf]) ((hk5.block _ oM (λ hb=>by have:=(hGS.own.ge hb).1;omega)).trans (Ext.at hAv1 hB3)) (by simp) (by rw[hov'];rfl) rfl rfl ?_;intro v3 hs3' hB3' hk3';try simp only[go_sem]
   apply hK;have hg4:=hIP.g.ext (zdE w) hE4;have hGS2:=hGS.app (zeZ w _) hAv1 hAs (x:=((s,(pv,([nv,zae b1,zae b2,zae b3,zae b4,pv],zs))):HX)) ⟨⟨nv,b1,b2,b3,b4,rfl,hadr,hn⟩,hzf,_,hg4⟩ (λ b hb=>by have:=hg4.in hb;omega) ho5 hk5 hb5';have hGS3:=hGS2.keep (zeZ w _) hk3' (λ b h1 h2=>by have:=(hGS2.in h1).1;omega);have hs5:=hk5.size;refine gz (az2 s4 hi1') ?_;refine⟨m - 1,oM,rfl,i+1,ov',_,oM,vq0,vq1 s1,vq1 s2,vq1 s3,ykt (hE5 w1 (hEA.trans hAv1) oM) rfl (λ b hb=>oM) hk3',oM,hB3',hGS3,?_⟩;rw[zal hi,yaC,hGf,hse];rfl
 ·intro hge;simp only[ydF]at hge;rw[yaf oM]at hGf;have hEw:=hE1.trans hEA;have hrows:=zkK hGS hEw;rw[hGf]at hrows;have o1:=hrows.isOne;have dx:=zah (n:=4) (l:=[ov,rv,vi c.rw,vi c.rf]) hB3 rfl;refine rqz ?_;intro gd K hgd hK;refine sgz (az3 s3 s2 dx) ?_;refine zaL (P:=prog) (t:=33) (l:=[ov,rv,vi c.rw,vi c.rf]) (Ext.at hEA hC) rfl (λ v hv=>by simp at hv;rcases hv with rfl|rfl|rfl|rfl<;>first|exact r1|exact o1|rfl) rfl rfl ?_;intro z hsz hBz hkz;try simp only[go_sem]
  refine en hK ?_;refine zau (.inr rfl) ntmps8 rfl (za0 (x:=⟨w.heap.size+1,0,.none⟩) (k:=4) ((vq1 s2)) rfl rfl (zah hBz rfl) zas) ?_;have hEz:Ext w z:=ykt hEw rfl (λ b hb=>oM) hkz;have hGz:=zkK (hGS.keep (zeZ w _) hkz (λ b h1 h2=>by have:=(hGS.in h1).1;omega)) hEz;rw[hGf]at hGz;exact⟨hEz,_,rfl,ov,rv,rfl,hGz,hr0.ext hEz⟩
def kQ:Nm:=[[113],[122],[111]]
theorem znW{ps:List Nm}(h:∀p∈ps,NmK p):∀x∈canN ps,NmK x/\zag x=x:=λ x hx=>⟨inS_k h (mem_canN.1 hx),zkI (mem_canN.1 hx)⟩
structure ClsF(L:List Nm):Prop where
 k:∀c∈clsN L,NmK c.name/\zag c.name=c.name
 f:∀x∈L,zag x=x
 r:[]∈L
 t:∀l g,l::g∈L->g∈L
theorem zk1(hG:zaO N):ClsF (canN (zaU N)):=by
 have hk:=znW (zj1 (ren:=renN N) (k:=N.rw.toNat) (zjj hG));exact⟨λ c hc=>hk _ (zea.1 hc),λ x hx=>(hk x hx).2,mem_canN.2 (.inl rfl),λ l g h=>mem_canN.2 (zkH (mem_canN.1 h))⟩
theorem ClsF.nm{L:List Nm}(h:ClsF L){st:Bool}:NmK (ofF st (clsN L) q).1.name:=ofF_name ⟨(λ l h=>by cases h),sM⟩ λ c hc=>(h.k c hc).1
theorem ClsF.oth{L:List Nm}(h:ClsF L):(ofF true (clsN L) q).1.other=!decide (zag (ofF true (clsN L) q).1.name=zag q):=by
 obtain⟨_,b1,e,o⟩:=of_alike (q:=q) h.r h.f;rw[←o];unfold zmT;rw[b1,e,ybN]
def repN(L:List Nm)(q:Nm):Option Nm:=repC (clsN L) (ofF true (clsN L) q).1
theorem repN_k{L:List Nm}(hF:ClsF L){r:Nm}(h:repN L q=some r):NmK r:=by
 have hc:=hF.nm (st:=true) (q:=q);unfold repN repC at h
 split at h
 ·split at h
  ·cases h
  ·split at h
   ·rename_i hck;cases h;exact za9 hck
   ·cases h
 ·cases h;exact hc
theorem zmH{L:List Nm}(hF:ClsF L){q r:Nm}(h:repN L q=some r):repN L r=some r:=by
 have hm:(ofF true (clsN L) q).1∈clsN L:=zea.2 (zgt (st:=true) (q:=q) hF.r).2.1.mem;have h':=h;obtain⟨e1,e2⟩:=rep_of hF.r hF.f hm h';unfold repN at h ⊢;rw[show (ofF true (clsN L) r).1=(ofF true (clsN L) q).1 by
  cases hx:(ofF true (clsN L) r).1;cases hy:(ofF true (clsN L) q).1;rw[hx,hy]at e1 e2
  simp_all]
 exact h
theorem zln{L:List Nm}(hF:ClsF L){q r:Nm}{l:Lab}(h:repN L q=some r)(hs:zag r≠zag q):repN L (l::q)=some r:=by
 obtain⟨b1,_⟩:=of_below (q:=q) (l:=l) hF.r hF.f hF.t;have ho:=hF.oth (q:=q);unfold repN at h ⊢;cases hco:(ofF true (clsN L) q).1.other with
 |false=>
  rw[hco]at ho;have h1:zag (ofF true (clsN L) q).1.name=zag q:=by
   have:decide (zag (ofF true (clsN L) q).1.name=zag q)=true:=by
    cases hd:decide (zag (ofF true (clsN L) q).1.name=zag q)
    ·rw[hd]at ho;cases ho
    ·rfl
   exact of_decide_eq_true this
  unfold repC at h;rw[hco]at h;cases h;exact absurd h1 hs
 |true=>
  obtain⟨e1,e2⟩:=b1 hco;rw[show (ofF true (clsN L) (l::q)).1=(ofF true (clsN L) q).1 by
   cases hx:(ofF true (clsN L) (l::q)).1;cases hy:(ofF true (clsN L) q).1;rw[hx,hy]at e2;rw[hx]at e1;rw[hy]at hco
   simp_all]
  exact h
theorem Rep_ok(hE0:Ext w0 w){qv:Value}(hN:NetAt w0 cs N)(hG:zaO N)(hl:(canN (zaU N)).length<=4096)(hq:Row w qv (q.map vs))(mq:NmM q):
  Fn prog 14 #[.agg cs.toArray,qv] w (λ v w'=>Ext w w'/\∃rv,v= .tuple #[rv,.bool (repN (canN (zaU N)) q).isSome]/\Row w' rv (((repN (canN (zaU N)) q).getD []).map vs)):=by
 have hN0:=hN;obtain⟨hsv,rv,rfl,hh,hr⟩:=hN.ex;obtain⟨ah,ch,hhv,_⟩:=hh.open;obtain⟨ar0,cr0,hrv,_⟩:=id hr;have hF:=zk1 hG;refine enx func14 ntmps14 ?_;refine cZ ?_;rw[hhv,hrv];refine go trivial ?_;rw[←hhv,←hrv];refine zav ?_;intro w1 hE1 hs1 hA;have dN:zat w1 (some ⟨w.heap.size,0,.none⟩) 4=some [hsv,rv,vi N.rw,vi N.rf]:=zah hA rfl;refine go trivial ?_;refine rc dN (All_ok (hE0.trans hE1) hN0 hG hl) ?_;rintro _ w2 ⟨hE2,lv,rfl,hlv⟩;refine rgo trivial ?_;refine go (show decide ((0:Int)=0)=true from rfl) ?_;obtain⟨L,hL⟩:∃L,canN (zaU N)=L:=⟨_,rfl⟩;rw[hL]at hF hl hlv ⊢;have hCl:=zk0 (L:=L);have o1:=(zgt (st:=true) (q:=q) hF.r).1;have kc:=hF.nm (st:=true) (q:=q);unfold repN;obtain⟨c,hc⟩:∃c,(ofF true (clsN L) q).1=c:=⟨_,rfl⟩;have hO:=COf_ok w2 hlv (q:=q) (hq.ext (hE1.trans hE2)) (λ c hc=>(hF.k c hc).1) mq oM;rw[hc,o1]at hO;rw[hc]at kc ⊢;refine rq ?_;intro gd K hgd hK;refine sg0 ?_;refine yfm hO ?_;rintro _ w3 ⟨hE3,nv,rfl,hnv⟩;refine sg0 ?_;refine zaV (P:=prog) (l:=[nv,.bool c.other]) rfl (za7 hnv.isOne rfl) rfl rfl ?_;intro w4 hE4 hs4 hB;refine sg0 ?_;apply hK;have dC:zat w4 (some ⟨w3.heap.size,0,.none⟩) 2=some [nv,.bool c.other]:=zah (l:=[nv,.bool c.other]) hB rfl;refine go trivial ?_;refine rc dC (CRep_ok w4 (c:=c) (Tr.cls.tr (hE3.trans hE4) hlv) (hnv.ext hE4) hF.k kc oM) ?_;rintro _ w5 ⟨hE5,rv5,rfl,hr5⟩;refine rgo trivial ?_
 refine zau (.inr rfl) ntmps14 rfl (zaj (v:=rv5) vr0 (zaj (v:= .bool (repC (clsN L) c).isSome) vr0 zas)) ?_;exact⟨hE1.trans (hE2.trans (hE3.trans (hE4.trans hE5))),rv5,rfl,hr5⟩
theorem zlD(w:World)(hN:NetAt w cs N)(hv:NumN N):
  Fn prog 13 #[.agg cs.toArray] w (λ v w'=>Ext w w'/\∃t,v= .bool t/\(t=true->zaO N/\(canN (zaU N)).length<=300)):=by
 have hN0:=hN;obtain⟨hsv,rv,rfl,hh,hr⟩:=hN.ex;obtain⟨ah,ch,hhv,_⟩:=hh.open;obtain⟨ar0,cr0,hrv,_⟩:=id hr;refine enx func13 ntmps13 ?_;refine cZ ?_;rw[hhv,hrv];refine go trivial ?_;rw[←hhv,←hrv];refine zav ?_;intro w1 hE1 hs1 hA;have dA:=zah (n:=4) (l:=[hsv,rv,vi N.rw,vi N.rf]) hA rfl;refine go trivial ?_;refine rc dA (zl7 w1 (hN0.ext hE1) hv) ?_;rintro _ w2 ⟨hE2,t,rfl,hg⟩;cases t
 ·refine rgo trivial ?_;refine rt0 ntmps13 ?_;exact⟨hE1.trans hE2,false,rfl,λ h=>by cases h⟩
 have hG:=hg rfl;refine rgo trivial ?_;refine rc (zac hE2 dA) (Of16_ok w2 (hN0.ext (hE1.trans hE2)) hG.z) ?_;rintro _ w3 ⟨hE3,cs',rfl,hX⟩;refine rd trivial (zof (most:=300) ykr hX hG (by decide)) ?_;rintro _ w4 ⟨hE4,(⟨h1,rfl⟩| ⟨h1,lv,rfl,_⟩)⟩
 ·refine rgo (show decide ((11:Int)=0)=false from rfl) ?_;refine go (show decide ((11:Int)=0)=false from rfl) ?_;refine rt0 ntmps13 ?_;exact⟨hE1.trans (hE2.trans (hE3.trans hE4)),false,rfl,λ h=>by cases h⟩
 ·refine rgo (show decide ((0:Int)=0)=true from rfl) ?_;refine go (show decide ((0:Int)=0)=true from rfl) ?_;refine rt0 ntmps13 ?_;exact⟨hE1.trans (hE2.trans (hE3.trans hE4)),true,rfl,λ _=>⟨hG,oM⟩⟩
theorem small_q:repN (canN (zaU smallN)) kQ=some [[48],[111]]:=by rw[zgg];kernel_rfl
theorem small_a1:zk6 smallN [[48],[111]] kQ 1=true:=by kernel_rfl
theorem small_a2:zk6 smallN [[48],[111]] kX 1=false:=by kernel_rfl
theorem znn:zbQ kQ=true:=by kernel_rfl
theorem zno:zbQ [[48],[111]]=true:=by kernel_rfl
theorem zmq:(canN (zaU smallN)).length<=4096:=by rw[zgg];decide
theorem zl8(w:World):Fn prog 5 #[] w (λ v w'=>v= .bool true/\Ext w w'):=by
 refine enx func5 ntmps5 ?_;refine go trivial ?_;refine rq ?_;intro gd K hgd hK;try simp only[go_sem]
 refine yfm (Small_ok w) ?_;rintro _ w1 ⟨hE1,cs,rfl,hN⟩;obtain⟨hv,rv,rfl,hh,hr⟩:=id hN.ex;have hh1:=hh.isOne;have hr1:=hr.isOne;try simp only[go_sem]
 refine zaV (P:=prog) (l:=[hv,rv,vi smallN.rw,vi smallN.rf]) rfl (λ v h=>by simp at h;rcases h with rfl|rfl|rfl|rfl<;>first|assumption|rfl) rfl rfl ?_;intro w2 hE2 hs2 hB;try simp only[go_sem]
 apply hK;have dN:zat w2 (some ⟨w1.heap.size,0,.none⟩) 4=some [hv,rv,vi smallN.rw,vi smallN.rf]:=zah hB rfl;refine go trivial ?_;refine rq ?_;intro gd K hgd hK;refine sgz dN ?_;refine zbK (z:=vs []) (l:=[vs [113],vs [122],vs [111]]) rfl rfl rfl rfl rfl rfl (λ v hv=>by simp at hv;rcases hv with rfl|rfl|rfl<;>rfl) (by simp) ?_;intro w3 hE3 hs3 o3;try simp only[go_sem]
 have hP:=Rep_ok (q:=kQ) (hE2.trans hE3) hN zfe zmq o3.row (zb2 znn).m;rw[small_q]at hP;refine yfm hP ?_;rintro _ w4 ⟨hE4,nv,rfl,hnv⟩;try simp only[go_sem]
 apply hK;obtain⟨an,cn,hne',_,hgn⟩:=id hnv;have hne:nv= .slice an 2 cn:=hne';have g0:zad w4 an=some (vs [48]):=by have:=hgn 0 (by decide);rwa [zar]at this
 obtain⟨xn,rfl⟩:=yxs (show an.isSome=true by cases an with|none=>cases g0|some a=>rfl);have hE24:=hE3.trans hE4;have dN4:=zac hE24 dN;refine go trivial ?_;have q2:decide (((2:Nat):Int)=2)=true:=rfl;have q6:(0:Int)<((2:Nat):Int):=by decide
 have q7:(0:Int)<=0:=by decide
 have hd0:Value.string ⟨#[48]⟩=vs [48]:=rfl;refine rq ?_;intro gd K hgd hK;have hg1:=gk 1 12 hgd rfl;have hg6:=gk 6 17 hgd rfl;have hg12:=gk 12 23 hgd rfl;have hg18:=gk 18 29 hgd rfl;rw[hne];try simp (disch:=first|omega|assumption|rfl) only[go_sem,g0,dN4,hd0,q2,q6,q7,ybc,zar,ybj,ycK,zcR,↓hg1,↓hg6,↓hg12,↓hg18]
 refine zbK (z:=vs []) (l:=[vs [113],vs [122],vs [111]]) rfl rfl rfl rfl rfl rfl (λ v hv=>by simp at hv;rcases hv with rfl|rfl|rfl<;>rfl) (by simp) ?_;intro w5 hE5 hs5 o5;try simp (disch:=first|omega|assumption|rfl) only[go_sem,zcR,↓hg1,↓hg6,↓hg12,↓hg18]
 have hP:=zle (t:=1) (a:=[[48],[111]]) (b:=kQ) ((hE2.trans hE24).trans hE5) hN zfe (hnv.ext hE5) zno o5.row znn;rw[small_a1,hne]at hP;refine yfm hP ?_;rintro _ w6 ⟨rfl,hE6⟩;have dN6:=zac (hE5.trans hE6) dN4;try simp (disch:=first|omega|assumption|rfl) only[go_sem,dN6,zcR,↓hg1,↓hg6,↓hg12,↓hg18]
 refine zbK (z:=vs []) (l:=[vs [120],vs [111]]) rfl rfl rfl rfl rfl rfl (λ v hv=>by simp at hv;rcases hv with rfl|rfl<;>rfl) (by simp) ?_;intro w7 hE7 hs7 o7;try simp (disch:=first|omega|assumption|rfl) only[go_sem,zcR,↓hg1,↓hg6,↓hg12,↓hg18]
 have hE57:=hE5.trans (hE6.trans hE7);have hP:=zle (t:=1) (a:=[[48],[111]]) (b:=kX) ((hE2.trans hE24).trans hE57) hN zfe (hnv.ext hE57) zno o7.row kX_good;rw[small_a2,hne]at hP;refine yfm hP ?_;rintro _ w8 ⟨rfl,hE8⟩;try simp (disch:=first|omega|assumption|rfl) only[go_sem,zcR,↓hg1,↓hg6,↓hg12,↓hg18]
 apply hK;refine go trivial ?_;refine rt0 ntmps5 ?_;exact⟨rfl,hE1.trans (hE2.trans (hE24.trans (hE57.trans hE8)))⟩
theorem zki(W:World){qv:Value}{l:List UInt8}(hN:NetAt W cs N)(hv:NumN N)(hq:Row W qv (q.map vs))(oq:NmOk q):
  Fn prog 4 #[.agg cs.toArray,qv,vs l] W (λ v w'=>v= .bool true/\Ext W w'):=by
 have hN0:=hN;obtain⟨hsv,rv,rfl,hh,hr⟩:=hN.ex;obtain⟨ah,ch,hhv,_⟩:=hh.open;obtain⟨ar0,cr0,hrv,_⟩:=id hr;refine enx func4 ntmps4 ?_;refine cZ ?_;rw[hhv,hrv];refine go trivial ?_;rw[←hhv,←hrv];refine zav ?_;intro w1 hE1 hs1 hA;have dN:zat w1 (some ⟨W.heap.size,0,.none⟩) 4=some [hsv,rv,vi N.rw,vi N.rf]:=zah hA rfl;refine rc trivial (zl8 w1) ?_;rintro _ w2 ⟨rfl,hE2⟩;refine rgo trivial ?_;have hE12:=hE1.trans hE2;refine rc trivial (zf4 w2 qv l q (hq.ext hE12) oq.len) ?_;rintro mv w3 ⟨hm,hE3⟩;refine rgo trivial ?_;have dN3:=zac (hE2.trans hE3) dN;have hE13:=hE12.trans hE3;refine zaw (Q:=λ e σ' ds' v'=>e= .normal/\ds'=[]/\(σ' 3= .pointer (some ⟨W.heap.size,0,.none⟩)/\σ' 1=qv/\σ' 7=mv)/\Ext w3 v'/\∃bb,σ' 31= .bool bb/\(bb=false->zaO N/\zbQ q=true/\zbQ (l::q)=true/\(canN (zaU N)).length<=300)) ?_ ?_
 ·refine rcg [(3,22),(8,27)] dN3 (zlD w3 (hN0.ext hE13) hv) ?_;rintro _ w4 ⟨hE4,b,rfl,hb⟩;cases b with
  |false=>
   refine reg [(3,22),(8,27)] trivial ?_;exact⟨rfl,rfl,sc trivial,hE4,_,vr0,λ h=>by cases h⟩
  |true=>
   refine rdg [(3,22),(8,27)] trivial (zf3 w4 qv q (hq.ext (hE13.trans hE4))) ?_;rintro _ w5 ⟨rfl,hE5⟩;cases hgq:zbQ q with
   |false=>
    refine reg [(3,22),(8,27)] trivial ?_;exact⟨rfl,rfl,sc trivial,hE4.trans hE5,_,vr0,λ h=>by cases h⟩
   |true=>
    refine rdg [(3,22),(8,27)] trivial (zf3 w5 mv (l::q) (hm.1.ext (hE4.trans hE5))) ?_;rintro _ w6 ⟨rfl,hE6⟩;refine reg [(3,22),(8,27)] trivial ?_;exact⟨rfl,rfl,sc trivial,hE4.trans (hE5.trans hE6),_,vr0,λ h=>⟨(hb rfl).1,rfl,by simpa using h,(hb rfl).2⟩⟩
 rintro _ σ1 _ w4 ⟨rfl,rfl,s,hE4,bb,s36,hbb⟩;have hE14:=hE13.trans hE4;cases bb with
 |true=>
  refine go s36 ?_;refine rt0 ntmps4 ?_;exact⟨rfl,hE14⟩
 |false=>
 obtain⟨hG,hgq,hgm,hl3⟩:=hbb rfl;have hF:=zk1 hG;have mq:=(zb2 hgq).m;have mm:=(zb2 hgm).m;have lq:=mq.len;refine go s36 ?_;have dN4:=zac hE4 dN3;have rep:∀{z:World} {xv:Value} {x:Nm},Ext w4 z->Row z xv (x.map vs)->NmM x->Fn prog 14 #[.agg [hsv,rv,vi N.rw,vi N.rf].toArray,xv] z (λ v w'=>Ext z w'/\∃rv,v= .tuple #[rv,.bool (repN (canN (zaU N)) x).isSome]/\Row w' rv (((repN (canN (zaU N)) x).getD []).map vs)):=λ hz hx mx=>
  Rep_ok (hE14.trans hz) hN0 hG oM hx mx
 obtain⟨L,hL⟩:∃L,canN (zaU N)=L:=⟨_,rfl⟩;rw[hL]at hF rep;refine rc (an2 s dN4) (rep ykr (hq.ext hE14) mq) ?_;rintro _ w5 ⟨hE5,rv5,rfl,hr5⟩;cases hrq:repN L q with
 |none=>
  rw[hrq]at hr5;obtain⟨a5,c5,rfl,_⟩:=hr5;refine rgo s ?_;refine rt0 ntmps4 ?_;exact⟨rfl,hE14.trans hE5⟩
 |some r=>
 rw[hrq]at hr5;replace hr5:Row w5 rv5 (r.map vs):=hr5;have kr:=repN_k hF hrq;have lr:=kr.len;refine rgo s ?_;refine rc (an2 s (zac hE5 dN4)) (rep hE5 hr5 kr.m) ?_;rintro _ w6 ⟨hE6,rv6,rfl,hr6⟩;rw[zmH hF hrq]at hr6 ⊢;replace hr6:Row w6 rv6 (r.map vs):=hr6;refine rgo s ?_;refine rcg [(2,51)] s (zdx w6 _ _ r r (hr5.ext hE6) hr6 kr.LB kr.LB oM oM) ?_;rintro _ w7 ⟨rfl,hE7⟩;refine reg [(2,51)] trivial ?_;refine go trivial ?_;have hE57:=hE6.trans hE7;have hE47:=hE5.trans hE57;refine rc s (zdx w7 _ _ r q (hr5.ext hE57) (hq.ext (hE14.trans hE47)) kr.LB mq.LB oM oM) ?_;rintro _ w8 ⟨rfl,hE8⟩;by_cases hs:zag r=zag q
 ·rw[yet hs];refine rgo s ?_;refine rt0 ntmps4 ?_;exact⟨rfl,hE14.trans (hE47.trans hE8)⟩
 rw[yef hs];refine rgo s ?_;have hE48:=hE47.trans hE8;refine rc (an2 s (zac hE48 dN4)) (rep hE48 (hm.1.ext (hE4.trans hE48)) mm) ?_;rintro _ w9 ⟨hE9,rv9,rfl,hr9⟩;rw[zln hF hrq hs]at hr9 ⊢;replace hr9:Row w9 rv9 (r.map vs):=hr9;refine rgo s ?_;refine rcg [(1,67)] s (zdx w9 _ _ r r hr9 (hr5.ext (hE57.trans (hE8.trans hE9))) kr.LB kr.LB oM oM) ?_;rintro _ w10 ⟨rfl,hE10⟩;refine reg [(1,67)] trivial ?_;refine go trivial ?_;refine rt0 ntmps4 ?_;exact⟨sM,hE14.trans (hE48.trans (hE9.trans hE10))⟩
end Go.Proofs.YtfacfpcopcgbdaaGreat
