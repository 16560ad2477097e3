/-
  Texts of a proof, joined: A14, IA, IB, YKO, KR3, ZKO.
  Conditions: none.
-/
import Derived.Test.YtahbdamijngmmaaGreatJO14
import Derived.Test.YtahbdamijngmmaaGreatJO06
import Derived.Test.YtahbdamijngmmaaGreatJO10
import Derived.Test.YtahbdamijngmmaaGreatRows
import Derived.JoinedOf
import Derived.Laws.IdiomArrays
import Derived.Test.YtahbdamijngmmaaGreatJO11
import Derived.Test.YtahbdamijngmmaaGreatJO07
import Derived.OpenShut
set_option linter.unusedVariables false
set_option linter.unusedSimpArgs false
set_option linter.defProp false
set_option linter.unnecessarySimpa false
set_option maxHeartbeats 8000000
namespace Go.Proofs.YtahbdamijngmmaaGreat
open Go
set_option maxRecDepth 10000
theorem zi0(w:World)(av bv:Value)(L:List Nm)(ha:NamesAt w av L)(hb:NamesAt w bv L)(hk:∀x∈L,NmK x∧zag x=x)(hLl:L.length≤1000000000):
  Fn Tryz.prog 29 #[av,bv] w (fun v w'=>v= .bool true∧Ext w w'):=by
 obtain⟨a,c,rfl,hga⟩:=zbs ha
 obtain⟨b,d,rfl,hgb⟩:=zbs hb
 refine enter Tryz.func29 Tryz.ntmps29 rfl rfl ?_
 repeat refine c_r ?_
 refine rg0 ?_
 repeat refine c_r ?_
 refine rg0 ?_
 repeat refine c_r ?_
 refine wf (decide_eq_true (rfl:(L.length:Int)=L.length)) ?_
 repeat refine c_r ?_
 refine rg0 ?_
 repeat refine c_r ?_
 refine zai (fun m σ ds v=>ds=[]∧∃i:Nat,i+m=L.length∧σ 5=vi i∧σ 0= .slice a L.length c∧σ 1= .slice b L.length d∧Ext w v) L.length ?_ ?_
 ·exact⟨rfl,0,by omega,vr0,vq0,vq0,Keep.refl _ _⟩
 rintro m σ ds v ⟨rfl,i,him,s5,s0,s1,hE⟩
 repeat refine c_r ?_
 refine rg2 s5 s0 ?_
 repeat refine c_r ?_
 refine wc0 ?_ ?_
 ·intro hlt
  simp only[decide_eq_true_eq]at hlt
  have hi:i<L.length:=by omega
  have hi0:(0:Int)≤(i:Int):=by omega
  have hi1':(i:Int)+1=((i+1:Nat):Int):=by push_cast;rfl
  obtain⟨av,ga,hra⟩:=hga i hi
  obtain⟨bv,gb,hrb⟩:=hgb i hi
  obtain⟨kx,hfx⟩:=hk _ (List.getElem_mem hi)
  obtain⟨q,hxe⟩:∃x,L[i]=x:=⟨_,rfl⟩
  rw[hxe]at hra hrb kx hfx
  have lx:=kx.len
  obtain⟨xa,rfl⟩:=Option.isSome_iff_exists.1 (zad ga)
  obtain⟨xb,rfl⟩:=Option.isSome_iff_exists.1 (zad gb)
  repeat refine c_r ?_
  refine zax (Q:=fun e σ' ds' v'=>e= .normal∧ds'=[]∧σ' 5=vi i∧σ' 0= .slice (some xa) L.length c∧σ' 1= .slice (some xb) L.length d∧Ext v v'∧σ' 40= .bool false) ?_ ?_
  ·refine zaL (fun _=>false) [(0,true),(1,true),(2,true),(3,true),(4,true),(5,true),(6,true),(7,true),(8,false),(9,true),(10,true),(11,true),(12,true),(13,true),(14,true),(16,true),(17,true),(18,true),(19,true),(15,false),(20,false),(21,true),(22,true)] NoS mixed (by kernel_rfl) ?_;intro gd K x hgd hx hxe hK;clear hxe
   have hg10:∀n σ b,zas gd n σ (some (10,b))=zaj (ev n σ (.tmp 28)) b:=(fun n σ b=>by rw[zab,show gd 10=some 28 from(by rw[hgd];rfl)];rfl)
   have ga1:=zaa (hE.trans hx) ga
   have gb1:=zaa (hE.trans hx) gb
   have hra1:=hra.ext (hE.trans hx)
   simp (disch:=first|omega|assumption|rfl) only[go_sem,s5,s0,s1,hi0,hlt,ga1,gb1]
   refine Fn.mono (zdV x _ _ _ _ hra1 (hrb.ext (hE.trans hx)) kx.LB kx.LB (by omega) (by omega)) ?_
   rintro _ x1 ⟨rfl,hx1⟩
   refine⟨.inr hx1,?_⟩
   have ga2:=zaa hx1 ga1
   simp (disch:=first|omega|assumption|rfl) only[go_sem,s5,s0,s1,hi0,hlt,ga2,decide_true,zbX,↓hg10]
   refine Fn.mono (zcK x1 _ _ (hra1.ext hx1) kx.LB (by omega)) ?_
   rintro f x2 ⟨hf,hx2⟩
   refine⟨.inr hx2,?_⟩
   have ga3:=zaa hx2 ga2
   simp (disch:=first|omega|assumption|rfl) only[go_sem,s5,s0,s1,hi0,hlt,ga3,zbX,↓hg10]
   refine Fn.mono (zdV x2 _ _ _ _ hf.row ((hra1.ext hx1).ext hx2) kx.fold.LB kx.LB (by rw[zau];omega) (by omega)) ?_
   rintro _ x3 ⟨rfl,hx3⟩
   refine⟨.inr hx3,?_⟩
   have hff:decide (zag (zag q)=zag q)=true:=by simp[zdc]
   simp (disch:=first|omega|assumption|rfl) only[go_sem,hff,zbX,↓hg10]
   refine hK _ _ ?_;clear hK hgd;clear K;try clear gd
   exact⟨rfl,rfl,(vq1 s5),(vq1 s0),(vq1 s1),hx.trans (hx1.trans (hx2.trans hx3)),vr0⟩
  clear s5 s0 s1
  rintro _ σ1 _ v1 ⟨rfl,rfl,s5,s0,s1,hE1,s40⟩
  repeat refine c_r ?_
  refine wf s40 ?_
  repeat refine c_r ?_
  refine rg0 ?_
  repeat refine c_r ?_
  have hE2:=hE.trans hE1
  refine zai (fun m σ ds v=>ds=[]∧∃k:Nat,k+m=q.length∧σ 6=vi k∧σ 5=vi i∧σ 0= .slice (some xa) L.length c∧σ 1= .slice (some xb) L.length d∧Ext w v) q.length ?_ ?_
  ·exact⟨rfl,0,by omega,vr0,(vq1 s5),(vq1 s0),(vq1 s1),hE2⟩
  clear s5 s0 s1 s40
  rintro m2 σ2 ds2 v2 ⟨rfl,k,hkm,s6,s5,s0,s1,hE3⟩
  have ga2:=zaa hE3 ga
  have gb2:=zaa hE3 gb
  obtain⟨ax,cx,rfl,hcx,hgx⟩:=id hra
  obtain⟨bx,dx,rfl,hdx,hhx⟩:=id hrb
  rw[List.length_map]at ga2 gb2
  repeat refine c_r ?_
  refine rq ?_;intro gd K hgd hK;simp (disch:=first|omega|assumption|rfl) only[go_sem,s6,s5,s0,hi0,hlt,ga2];refine hK _ _ ?_;clear hK hgd;clear K gd
  repeat refine c_r ?_
  refine wc0 ?_ ?_
  ·intro hlt2
   simp only[decide_eq_true_eq]at hlt2
   have hk':k<q.length:=by omega
   have hk0:(0:Int)≤(k:Int):=by omega
   have hk1':(k:Int)+1=((k+1:Nat):Int):=by push_cast;rfl
   have g1:=hgx k (by rw[List.length_map];exact hk')
   have g2:=hhx k (by rw[List.length_map];exact hk')
   rw[List.getElem_map]at g1 g2
   obtain⟨xc,rfl⟩:=Option.isSome_iff_exists.1 (zad g1)
   obtain⟨xd,rfl⟩:=Option.isSome_iff_exists.1 (zad g2)
   repeat refine c_r ?_
   refine zax (Q:=fun e σ' ds' v'=>e= .normal∧ds'=[]∧σ' 6=vi k∧σ' 5=vi i∧σ' 0= .slice (some xa) L.length c∧σ' 1= .slice (some xb) L.length d∧Ext v2 v'∧σ' 64= .bool false) ?_ ?_
   ·refine zaL (fun _=>false) [(0,true),(1,true),(2,true),(3,true),(4,true),(5,true),(6,true),(7,true),(8,true),(9,true),(10,true),(11,true),(12,true),(13,true),(14,true)] NoS mixed (by kernel_rfl) ?_;intro gd K x hgd hx hxe hK;clear hxe
    have ga3:=zaa hx ga2
    have gb3:=zaa hx gb2
    have g1x:=zaa (hE3.trans hx) g1
    have g2x:=zaa (hE3.trans hx) g2
    simp (disch:=first|omega|assumption|rfl) only[go_sem,s6,s5,s0,s1,hi0,hlt,hk0,hlt2,ga3,gb3,g1x,g2x,decide_true]
    refine hK _ _ ?_;clear hK hgd;clear K;try clear gd
    exact⟨rfl,rfl,(vq1 s6),(vq1 s5),(vq1 s0),(vq1 s1),hx,vr0⟩
   clear s6 s5 s0 s1
   rintro _ σ3 _ v3 ⟨rfl,rfl,s6,s5,s0,s1,hE4,s64⟩
   repeat refine c_r ?_
   refine wf s64 ?_
   repeat refine c_r ?_
   refine rg2 s6 hk1' ?_
   repeat refine c_r ?_
   exact⟨m2 - 1,by omega,rfl,k+1,by omega,vq0,(vq1 s5),(vq1 s0),(vq1 s1),hE3.trans hE4⟩
  ·intro _
   repeat refine c_r ?_
   refine rg2 s5 hi1' ?_
   repeat refine c_r ?_
   exact⟨m - 1,by omega,rfl,i+1,by omega,vq0,(vq1 s0),(vq1 s1),hE3⟩
 ·intro _
  repeat refine c_r ?_
  refine rg0 ?_
  repeat refine c_r ?_
  refine rt0 Tryz.ntmps29 ?_
  exact⟨rfl,hE⟩
theorem zkm{ps:List Nm}(h:∀p∈ps,NmK p):∀x∈canN ps,NmK x∧zag x=x:=fun x hx=>⟨inS_k h (mem_canN.1 hx),zhY (mem_canN.1 hx)⟩
theorem dec_self{α:Type}[DecidableEq α](a:α):decide (a=a)=true:=by simp
structure ClsF(L:List Nm):Prop where
 k:∀c∈clsN L,NmK c.name∧zag c.name=c.name
 f:∀x∈L,zag x=x
 r:[]∈L
 t:∀l g,l::g∈L→g∈L
theorem closed_F{N:NetL}(hG:zbb N):ClsF (canN (zaV N)):=by
 have hk:=zkm (zhp (ren:=renN N) (k:=N.rw.toNat) (zgL hG))
 exact⟨fun c hc=>hk _ (zcE.1 hc),fun x hx=>(hk x hx).2,mem_canN.2 (.inl rfl),fun l g h=>mem_canN.2 (zhX (mem_canN.1 h))⟩
theorem ClsF.nm{L:List Nm}(h:ClsF L){st:Bool}{q:Nm}:NmK (ofF st (clsN L) q).1.name:=ofF_name ⟨(fun l h=>by cases h),by simp⟩ fun c hc=>(h.k c hc).1
theorem rem_nat{P:Program}{t:TypeId}{a b:Nat}(h:0<b):binV P .rem t (.int .i64 (a:Int)) (.int .i64 (b:Int))=some (.int .i64 ((a % b:Nat):Int)):=by
 have hb:¬((b:Int)=0):=by omega
 show(if IntKind.i64=IntKind.i64 then(if (b:Int)=0 then Option.none else some (Value.int .i64 ((a:Int).tmod b))) else Option.none)=_
 rw[if_pos rfl,if_neg hb,←Int.ofNat_tmod]
theorem zhD(W:World){cs:List Value}{N:NetL}{k:Nat}(hk16:k<65536)(hN:NetAt W cs N)(hv:NumN N):
  Fn Tryz.prog 4 #[.agg cs.toArray,.int .u16 (k:Int)] W (fun v w'=>v= .bool true∧Ext W w'):=by
 have hN0:=hN
 obtain⟨hsv,rv,rfl,hh,hr⟩:=hN.ex
 obtain⟨ah,ch,hhv,_⟩:=hh.open
 obtain⟨ar0,cr0,hrv,_⟩:=id hr
 refine enter Tryz.func4 Tryz.ntmps4 rfl rfl ?_
 repeat refine c_r ?_
 rw[hhv,hrv]
 refine go trivial ?_
 rw[←hhv,←hrv]
 refine zaM ?_
 intro w1 hE1 hs1 hA
 have dN:zaw w1 (some ⟨W.heap.size,0,Option.none⟩) 4=some [hsv,rv,vi N.rw,vi N.rf]:=zay hA rfl
 refine rc trivial (zi1 w1) ?_
 rintro _ w2 ⟨rfl,hE2⟩
 refine rgo trivial ?_
 have hE12:=hE1.trans hE2
 have dN2:=zaf hE2 dN
 refine zax (Q:=fun e σ' ds' v'=>e= .normal∧ds'=[]∧(σ' 2= .pointer (some ⟨W.heap.size,0,Option.none⟩)∧σ' 1= .int .u16 (k:Int))∧Ext w2 v'∧∃bb,σ' 23= .bool bb∧(bb=false→zbb N∧(canN (zaV N)).length≤300)) ?_ ?_
 ·refine rcg [(3,19)] dN2 (zkJ w2 (hN0.ext hE12) hv) ?_
  rintro _ w4 ⟨hE4,b,rfl,hb⟩
  cases b with
  |false=>
   refine reg [(3,19)] trivial ?_
   exact⟨rfl,rfl,sc trivial,hE4,_,vr0,fun h=>by cases h⟩
  |true=>
   refine rdg [(3,19)] (zaf hE4 dN2) (light_ok (hE12.trans hE4) hN0 (hb rfl)) ?_
   rintro _ w7 ⟨rfl,hE7⟩
   refine reg [(3,19)] trivial ?_
   exact⟨rfl,rfl,sc trivial,hE4.trans hE7,_,vr0,fun h=>⟨hb rfl,by simpa using h⟩⟩
 rintro _ σ1 _ w4 ⟨rfl,rfl,s,hE4,bb,s23,hbb⟩
 have hE14:=hE12.trans hE4
 cases bb with
 |true=>
  refine go s23 ?_
  refine rt0 Tryz.ntmps4 ?_
  exact⟨rfl,hE14⟩
 |false=>
 obtain⟨hG,hl3⟩:=hbb rfl
 have hF:=closed_F hG
 refine go s23 ?_
 have dN4:=zaf hE4 dN2
 refine rc (an2 s dN4) (All_ok hE14 hN0 hG (by omega)) ?_
 rintro _ w5 ⟨hE5,lv,rfl,hl5⟩
 refine rgo s ?_
 have hE15:=hE14.trans hE5
 refine rc (an2 s (zaf hE5 dN4)) (zil (most:=4096) hE15 hN0 hG (by decide)) ?_
 obtain⟨L,hL⟩:∃L,canN (zaV N)=L:=⟨_,rfl⟩
 rw[hL]at hF hl3 hl5 ⊢
 rintro _ w6 ⟨hE6,(⟨h1,_⟩| ⟨_,nv,rfl,hnv⟩)⟩
 ·omega
 have hCl:=zh8 (L:=L)
 have hL0:0<L.length:=List.length_pos_of_mem hF.r
 obtain⟨C,hC⟩:∃C,clsN L=C:=⟨_,rfl⟩
 have hFk:=hF.k
 have hl6:=Tr.cls.tr hE6 hl5
 rw[hC]at hCl hl6 hFk
 have hrep:∀{c:ClsL} {r:Nm},c∈clsN L→repC (clsN L) c=some r→(ofF true (clsN L) r).1.name=c.name∧(ofF true (clsN L) r).1.other=c.other:=fun h1 h2=>rep_of hF.r hF.f h1 h2
 have hnm:∀r,NmK (ofF true C r).1.name:=fun r=>by rw[←hC];exact hF.nm
 have hof2:∀r,(ofF true C r).2=true:=fun r=>by rw[←hC];exact(of_lng (st:=true) (q:=r) hF.r).1
 rw[hC]at hrep
 have hlr:=hl6
 obtain⟨al,cl,rfl,hg⟩:=zfX hl6
 obtain⟨an,cn,rfl,_⟩:=zbs hnv
 have f1:decide (((C.length:Nat):Int)=2*(L.length:Int))=true:=decide_eq_true (by omega)
 have f2:decide (((C.length:Nat):Int)=0)=false:=decide_eq_false (by omega)
 have f3:decide ((0:Int)=0)=true:=rfl
 refine rgo s ?_
 refine rgg [(4,38),(12,46)] (an5 s f1 f2 f3 Int.add_zero) ?_
 obtain⟨j,hj⟩:∃j,k % C.length=j:=⟨_,rfl⟩
 have hjl:j<C.length:=by rw[←hj];exact Nat.mod_lt _ (by omega)
 have hrem:binV Tryz.prog .rem 3 (.int .i64 (k:Int)) (.int .i64 (C.length:Int))=some (.int .i64 (j:Int)):=by rw[rem_nat (by omega),hj]
 have hj0:(0:Int)≤(j:Int):=by omega
 have hj1:(j:Int)<(C.length:Int):=by omega
 obtain⟨x,yv,hx,ha,hcs,hyv⟩:=hg j hjl
 obtain⟨xa,rfl⟩:=Option.isSome_iff_exists.1 ha
 have hmem:=List.getElem_mem hjl
 obtain⟨c,hce⟩:∃c,C[j]=c:=⟨_,rfl⟩
 rw[hce]at hcs hyv hmem
 obtain⟨kc,fc⟩:=hFk c hmem
 have lc:=kc.len
 refine go s ?_
 refine rq ?_;intro gd K hgd hK
 try simp (disch:=first|omega|assumption|rfl) only[go_sem,s,hrem,hj0,hj1,hx,hcs]
 refine za3 (P:=Tryz.prog) (l:=[yv,.bool c.other]) rfl (zaX hyv.isOne rfl) rfl rfl ?_
 intro w7 hE7 hs7 hA7
 try simp only[go_sem]
 refine hK _ _ ?_;clear hK hgd;clear K;try clear gd
 obtain⟨ba,hba⟩:∃b,w6.heap.size=b:=⟨_,rfl⟩
 rw[hba]at hA7 ⊢
 have dC:zaw w7 (some ⟨ba,0,Option.none⟩) 2=some [yv,.bool c.other]:=zay (l:=[yv,.bool c.other]) hA7 rfl
 have hE17:=hE15.trans (hE6.trans hE7)
 refine go s ?_
 refine rc (an2 s dC) (zkM w7 (c:=c) (Tr.cls.tr hE7 hlr) (hyv.ext hE7) hFk kc (by omega)) ?_
 rintro _ w8 ⟨hE8,rv8,rfl,hrv⟩
 have hA8:=Ext.at hE8 hA7
 have c1:zah w8 (some ⟨ba,1,Option.none⟩)=some (.bool c.other):=zac (i:=1) hA8 rfl
 cases hrc:repC C c with
 |none=>
  have hco:c.other=true:=by
   cases ho:c.other with
   |true=>rfl
   |false=>unfold repC at hrc;rw[ho]at hrc;cases hrc
  rw[hco]at c1
  refine rgo (an2 s c1) ?_
  refine rt0 Tryz.ntmps4 ?_
  exact⟨rfl,hE17.trans hE8⟩
 |some r=>
  rw[hrc]at hrv
  obtain⟨e1,e2⟩:=hrep (hC▸hmem) hrc
  have kr:NmK r:=by
   unfold repC at hrc
   split at hrc
   ·split at hrc
    ·cases hrc
    ·split at hrc
     ·rename_i hck;cases hrc;exact zaZ hck
     ·cases hrc
   ·cases hrc;exact kc
  have kd:=hnm r
  have o2:=hof2 r
  obtain⟨d,hd⟩:∃d,(ofF true C r).1=d:=⟨_,rfl⟩
  rw[hd]at e1 e2 kd
  have ld:=kd.len
  refine rgo s ?_
  refine rq ?_;intro gd K hgd hK
  try simp (disch:=first|omega|assumption|rfl) only[go_sem,s]
  refine Fn.mono (zkN w8 (Tr.cls.tr (hE7.trans hE8) hlr) (q:=r) hrv (fun c hc=>(hFk c hc).1) kr.m (by omega)) ?_
  rintro _ w9 ⟨hE9,dv,rfl,hdv⟩
  rw[hd]at hdv
  rw[hd,o2]
  try simp only[go_sem]
  refine za3 (P:=Tryz.prog) (l:=[dv,.bool d.other]) rfl (zaX hdv.isOne rfl) rfl rfl ?_
  intro w10 hE10 hs10 hA10
  try simp only[go_sem]
  refine hK _ _ ?_;clear hK hgd;clear K;try clear gd
  obtain⟨bd,hbd⟩:∃b,w9.heap.size=b:=⟨_,rfl⟩
  rw[hbd]at hA10 ⊢
  have hE8x:=hE9.trans hE10
  have hA7':=Ext.at hE8x hA8
  have c0:zah w10 (some ⟨ba,0,Option.none⟩)=some yv:=zac (i:=0) hA7' rfl
  have d0:zah w10 (some ⟨bd,0,Option.none⟩)=some dv:=zac (i:=0) hA10 rfl
  refine go s ?_
  refine rcg [(1,76),(8,83),(15,90)] (an3 s c0 d0) (zku w10 _ _ c.name d.name (hyv.ext (hE7.trans (hE8.trans hE8x))) (hdv.ext hE10) kc.LB kd.LB (by omega) (by omega)) ?_
  rintro _ w11 ⟨rfl,hE11⟩
  rw[e1,dec_self]
  have c1':zah w11 (some ⟨ba,1,Option.none⟩)=some (.bool c.other):=zac (i:=1) (Ext.at hE11 hA7') rfl
  have d1':zah w11 (some ⟨bd,1,Option.none⟩)=some (.bool d.other):=zac (i:=1) (Ext.at hE11 hA10) rfl
  rw[e2]at d1'
  have hoo:(c.other==c.other)=true:=by cases c.other<;>rfl
  have hE6x:=hE7.trans (hE8.trans (hE8x.trans hE11))
  refine rdg [(1,76),(8,83),(15,90)] (an4 s c1' d1' hoo) (base2_ok w11 (hnv.ext hE6x) (by omega)) ?_
  rintro bv w12 ⟨hE12',hb2⟩
  refine rdg [(1,76),(8,83),(15,90)] s (zi0 w12 _ _ L (hnv.ext (hE6x.trans hE12')) hb2 (fun x hx=>⟨(hFk ⟨x,false⟩ (hC▸zcE.2 hx)).1,hF.f x hx⟩) (by omega)) ?_
  rintro _ w13 ⟨rfl,hE13⟩
  refine reg [(1,76),(8,83),(15,90)] trivial ?_
  repeat refine c_r ?_
  refine rt0 Tryz.ntmps4 ?_
  exact⟨rfl,hE17.trans (hE8.trans (hE8x.trans (hE11.trans (hE12'.trans hE13))))⟩
end Go.Proofs.YtahbdamijngmmaaGreat
namespace Go.Proofs.YtahbdamijngmmaaGreat.classOne
open Go Go.Proofs.YtahbdamijngmmaaGreat
theorem j1:(Rows.classOneRow.inPlace==Tryz.pinned.checked.prog.inPlace 4)=true:=by kernel_rfl
theorem j2:(Rows.classOneRow.unfollowed==Tryz.pinned.checked.prog.unfollowed 4)=true:=by kernel_rfl
theorem j3:(Rows.classOneRow.recurses==Tryz.pinned.checked.prog.recurses 4)=true:=by kernel_rfl
theorem j4:(Rows.classOneRow.named==Tryz.pinned.checked.prog.varsNamed 4)=true:=by kernel_rfl
theorem j5:(Tryz.pinned.checked.prog.mayEnter)=true:=by kernel_rfl
theorem j6:(Rows.classOneRow.lifted==Tryz.pinned.checked.prog.liftsFinal)=true:=by kernel_rfl
theorem joined:joinedFacts Tryz.pinned.checked.prog 4 Tryz.f4 Rows.classOneSpec Rows.classOneRow=true:=by
 unfold joinedFacts
 rw[j1,j2,j3,j4,j5,j6]
 kernel_rfl
end Go.Proofs.YtahbdamijngmmaaGreat.classOne
namespace Go.Proofs.YtahbdamijngmmaaGreat
open Go
set_option maxRecDepth 100000
theorem zjm{w:World}{α:Type}{k:Nat}{C:List Value→α→Prop}{Q:α→Prop}{v:Value}{L:List (List Value)}(hL:RowK k w v L)(h:∀cs∈L,∃a,C cs a∧Q a):∃R:List α,Rows k C w v R∧∀a∈R,Q a:=by
 have:∀L:List (List Value),(∀cs∈L,∃a,C cs a∧Q a)→∃R:List α,L.length=R.length∧(∀i (h:i<L.length) (h':i<R.length),C L[i] R[i])∧∀a∈R,Q a:=fun L=>by
  induction L with
  |nil=>intro _;exact⟨[],rfl,fun i h=>by simp at h,fun r h=>by cases h⟩
  |cons cs L ih=>
   intro h
   obtain⟨r,h1,h2⟩:=h cs (List.mem_cons_self ..)
   obtain⟨R,a1,a2,a3⟩:=ih (fun x hx=>h x (List.mem_cons_of_mem _ hx))
   refine⟨r::R,by simp[a1],fun i a b=>?_,fun x hx=>?_⟩
   ·cases i with
    |zero=>exact h1
    |succ i=>exact a2 i (by simpa using a) (by simpa using b)
   ·rcases List.mem_cons.1 hx with rfl|hx
    ·exact h2
    ·exact a3 x hx
 obtain⟨R,a1,a2,a3⟩:=this L h
 exact⟨R,⟨L,hL,a1,a2⟩,a3⟩
section
variable {H : Type} {enc : TypeId × Value → H} {w : World} {base : Nat} {sp : Nat → Bool} {held : Bool}
theorem zfM{P:Program}{t:TypeId}{n:Nat}{c:Value}{x:DataW H×List MemPlace}(ht:P.underlying t=some (.int .u8))(h:DataW.trod enc P w base sp held n t [c]=some x):∃b:UInt8,c=zae b:=by
 obtain⟨m,h1,_,h2⟩:=DataW.trod_int ht h
 have hb:=wf_u8 h2
 obtain⟨k,rfl⟩:∃k:Nat,m=(k:Int):=⟨m.toNat,by omega⟩
 exact⟨UInt8.ofNat k,by rw[List.head_eq_of_cons_eq h1,zh9 (by omega)]⟩
theorem rd_addr{t e:TypeId}{c0 c1 c2 c3:Value}{P:Program}(h:RdC enc P w base sp held t [c0,c1,c2,c3])(ht:P.underlying t=some (.array 4 e))(hc:P.cellsOf e=1)(he:P.underlying e=some (.int .u8)):
  ∃a b c d:UInt8,c0=zae a∧c1=zae b∧c2=zae c∧c3=zae d:=by
 obtain⟨n,x,h,_⟩:=h
 obtain⟨_,_,_,_,_,_,h0,h1,h2,h3⟩:=Go.ChangeShapes.trod_array4 ht hc h
 obtain⟨a,ha⟩:=zfM he h0
 obtain⟨b,hb⟩:=zfM he h1
 obtain⟨c,hc⟩:=zfM he h2
 obtain⟨d,hd⟩:=zfM he h3
 exact⟨a,b,c,d,ha,hb,hc,hd⟩
theorem rd_zone{cs:List Value}(h:RdC enc Tryz.prog w base sp held 122 cs):∃z:zdT,ZoneC w cs z∧NumR z.recs:=by
 obtain⟨hl,hf⟩:=zdJ h rfl
 have hl2:cs.length=2:=hl
 match cs,hl2 with
 | [c0,c1],_=>
  obtain⟨o,n0,_⟩:=zeL (P:=Tryz.prog) (RdC.one (hf 0 _ rfl)) (e:=9) rfl rfl rfl rfl
  obtain⟨R,h1,h2⟩:=rd_recs (RdC.one (hf 1 _ rfl))
  exact⟨⟨o,R⟩,⟨c0,c1,rfl,n0,h1⟩,h2⟩
theorem rd_host{cs:List Value}(h:RdC enc Tryz.prog w base sp held 116 cs):∃z:zfm,HostC w cs z∧∀x∈z.zones,NumR x.recs:=by
 obtain⟨hl,hf⟩:=zdJ h rfl
 have hl6:cs.length=6:=hl
 match cs,hl6 with
 | [c0,c1,c2,c3,c4,c5],_=>
  obtain⟨o,n0,_⟩:=zeL (P:=Tryz.prog) (RdC.one (hf 0 _ rfl)) (e:=9) rfl rfl rfl rfl
  have h1:RdC enc Tryz.prog w base sp held 113 [c1,c2,c3,c4]:=hf 1 _ rfl
  obtain⟨a,b,c,d,rfl,rfl,rfl,rfl⟩:=rd_addr h1 rfl rfl (e:=5) rfl
  have h5:RdC enc Tryz.prog w base sp held 114 [c5]:=hf 2 _ rfl
  obtain⟨L,hL,hall,_⟩:=zeK (RdC.one h5) (e:=122) (k:=2) rfl rfl
  obtain⟨R,r1,r2⟩:=zjm hL (fun cs hcs=>rd_zone (hall cs hcs))
  exact⟨⟨o,[a,b,c,d],R⟩,⟨c0,a,b,c,d,c5,rfl,rfl,n0,r1⟩,r2⟩
theorem rd_net{cs:List Value}(h:RdC enc Tryz.prog w base sp held 25 cs):∃N:NetL,NetAt w cs N∧NumN N:=by
 obtain⟨hl,hf⟩:=zdJ h rfl
 have hl4:cs.length=4:=hl
 match cs,hl4 with
 | [c0,c1,c2,c3],_=>
  obtain⟨L,hL,hall,_⟩:=zeK (RdC.one (hf 0 _ rfl)) (e:=116) (k:=6) rfl rfl
  obtain⟨R,r1,r2⟩:=zjm hL (fun cs hcs=>rd_host (hall cs hcs))
  obtain⟨roots,n2,_⟩:=zg8 (RdC.one (hf 1 _ rfl)) (e:=3) (k:= .i64) rfl rfl rfl
  obtain⟨a,e2,_⟩:=zgh (hf 2 _ rfl) (k:= .i64) rfl
  obtain⟨b,e3,_⟩:=zgh (hf 3 _ rfl) (k:= .i64) rfl
  have e2':c2=vi a:=List.head_eq_of_cons_eq (show [c2]=[vi a] from e2)
  have e3':c3=vi b:=List.head_eq_of_cons_eq (show [c3]=[vi b] from e3)
  exact⟨⟨R,roots,a,b⟩,⟨c0,c1,by rw[e2',e3'],r1,n2⟩,r2⟩
end
theorem zg7{H:Type}{enc:TypeId×Value→H}{P:Program}{w:World}{base:Nat}{sp:Nat→Bool}{held:Bool}{t:TypeId}{cs:Array Value}{d:DataW H}{p:List MemPlace}{ts:List TypeId}{ds:List (DataW H)}(h:DataW.Trod enc P w base sp held t (.agg cs) d p)
  (hw:∀x∈DataW.weightsEach P ts ds,x≤reachBytes) {j:Nat} (ht:ts[j]? =some t) (hd:ds[j]? =some d):RdC enc P w base sp held t cs.toList:=by
 obtain⟨n,h⟩:=h
 exact⟨n,_,h,fun k hk=>hw k (DataW.weights_mem_each ht hd k hk)⟩
end Go.Proofs.YtahbdamijngmmaaGreat
namespace Go.Proofs.YtahbdamijngmmaaGreat.classOne
open Go Go.Proofs.YtahbdamijngmmaaGreat Go.ChangeShapes Go.WideShapes Go.ChangeAt Go.RowKit
theorem own:ownKnob Tryz.prog.godebug=none:=by kernel_rfl
set_option maxRecDepth 100000 in
theorem lifted(os:Os)(started:os.Started)(H:Type)(enc:TypeId×Value→H):
  ReturnsInHanded {} Tryz.checked os 4 .any (Rows.classOneSpec.pre6 enc Tryz.prog Tryz.f4 Rows.classOneRow.domain false) (Rows.classOneSpec.post enc Tryz.prog Tryz.f4 false true false false):=by
 refine law_lift (C:=Tryz.checked) own started (by kernel_rfl) Tryz.func4
  (ChangeSpec.witness6 (enc:=enc) (C:=Tryz.checked) false ⟨#[],#[.agg #[.slice Option.none 0 0,.slice Option.none 0 0,.int .i64 0,.int .i64 0],.int .u16 0],[]⟩ 8 (by kernel_rfl) (by kernel_rfl) (by kernel_rfl) (by kernel_rfl)) rfl ?_ (tb:=4) rfl rfl (by kernel_rfl) (by kernel_rfl) ?_
 ·intro ds hds
  match ds,hds with
  | [d0,d1],_=>rfl
 ·intro W base args ds p hval hA0 hw0
  have hA:DataW.TrodAll enc Tryz.prog W 0 (fun _=>true) true [25,56] args ds p:=hA0
  have hw:∀x∈DataW.weightsEach Tryz.prog [25,56] ds,x≤reachBytes:=hw0
  obtain⟨v0,vs0,d0,ds0,p0,q0,rfl,rfl,rfl,h0,r0⟩:=trodAll_cons hA
  obtain⟨v1,vs1,d1,ds1,p1,q1,rfl,rfl,rfl,h1,r1⟩:=trodAll_cons r0
  obtain⟨rfl,rfl,rfl⟩:=trodAll_nil r1
  obtain⟨a0,rfl,_⟩:=okWide_struct rfl (hval 0 _ _ rfl rfl)
  obtain⟨x0,f0,g0⟩:=rd_net (zg7 h0 hw (j:=0) rfl rfl)
  obtain⟨x1,rfl,_,_,f1⟩:=open_int (k:= .u16) rfl (hval 1 _ _ rfl rfl) h1
  obtain⟨b1,c1⟩:=bounds_u16 f1
  obtain⟨t1,rfl⟩:∃t:Nat,x1=(t:Int):=⟨x1.toNat,by omega⟩
  replace f1:t1<65536:=by omega
  exact zhD W f1 f0 g0
theorem over:Rows.classOneRow.holds Tryz.pinned (OpenSpec.ofChange Rows.classOneSpec):=
 OpenClaim.holds_of_wide 4 Tryz.f4 rfl rfl rfl rfl rfl rfl rfl ⟨rfl,rfl,rfl,rfl,rfl⟩ rfl rfl rfl rfl rfl (by kernel_rfl) Tryz.func4 joined
  (of_decide_eq_true (by kernel_rfl)) (by unfold Func.isWrapper;first| (rw[if_pos (by decide+kernel)];kernel_rfl)| (rw[if_neg (by decide+kernel)];exact⟨rfl,rfl⟩))
  (fun os started H enc _=>lifted os started H enc)
theorem proved:Rows.ClassOneSaid:=over
end Go.Proofs.YtahbdamijngmmaaGreat.classOne
