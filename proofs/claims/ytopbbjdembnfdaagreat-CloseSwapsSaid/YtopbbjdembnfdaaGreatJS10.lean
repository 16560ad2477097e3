/-
  Texts of a proof, joined: A5, A6, A7, X0, X1, X2, KC, KN, KR, KR2, G8, L3.
  Conditions: none.
-/
import Derived.Test.YtopbbjdembnfdaaGreatJS08
import Derived.Test.YtopbbjdembnfdaaGreatJS09
import Derived.Test.YtopbbjdembnfdaaGreatJS05
import Derived.Test.YtopbbjdembnfdaaGreatJS07
import Derived.ProofKit
import Derived.OpenShut
import Derived.SizedLaws
import Derived.Deep.Slices
import Derived.Test.YtopbbjdembnfdaaGreatJS02
import Derived.Test.YtopbbjdembnfdaaGreatJS03
import Derived.Test.YtopbbjdembnfdaaGreatJS06
set_option linter.unusedVariables false
set_option linter.unusedSimpArgs false
set_option linter.defProp false
set_option linter.unnecessarySimpa false
namespace Go.Proofs.YtopbbjdembnfdaaGreat
open Go
set_option maxRecDepth 10000
def renO(r:RecL):Option zaK:=if r.dat.ty=39 then r.dat.names.head?.map fun n=>(zah r.owner,zah n) else Option.none
def renZ(z:zdA):List zaK:=z.recs.filterMap renO
def renH(h:zeT):List zaK:=h.zones.flatMap renZ
def zcV(N:NetL):List zaK:=N.hosts.flatMap renH
def renN(N:NetL):List zaK:=renF (zcV N)
theorem zha{Q:zaK→Prop}{l:List zaK}(h:∀p∈l,Q p):∀p∈renF l,Q p:=by
 unfold renF zbX
 suffices hs:∀(l acc:List zaK),(∀p∈l,Q p)→(∀p∈acc,Q p)→∀p∈l.foldl (fun acc r=>putC za8 fstP r acc) acc,Q p from hs l [] h (fun p hp=>by cases hp)
 intro l
 induction l with
 |nil=>exact fun acc _ h=>h
 |cons a l ih=>exact fun acc h1 h2=>ih _ (fun p hp=>h1 p (List.mem_cons_of_mem _ hp)) (zb9 (fun x hx _=>hx) (h1 a (List.mem_cons_self ..)) h2)
theorem zg9{l:List zaK}:(renF l).length≤l.length:=by
 unfold renF zbX
 suffices hs:∀(l acc:List zaK),(l.foldl (fun acc r=>putC za8 fstP r acc) acc).length≤acc.length+l.length from by have:=hs l [];simpa using this
 have hp:∀(r:zaK) (acc:List zaK),(putC za8 fstP r acc).length≤acc.length+1:=by
  intro r acc
  induction acc with
  |nil=>simp[putC]
  |cons x l ih=>
   unfold putC
   split
   ·simp only[List.length_cons];omega
   ·split<;>simp
 intro l
 induction l with
 |nil=>intro acc;simp
 |cons a l ih=>
  intro acc
  rw[List.foldl_cons,List.length_cons]
  have h1:=ih (putC za8 fstP a acc)
  have h2:=hp a acc
  omega
theorem renO_ok{r:RecL}{p:zaK}(h1:zaE r.owner=0)(h2:∀n∈r.dat.names,zaE n=0)(h:renO r=some p):zbH p:=by
 unfold renO at h
 split at h
 ·cases hn:r.dat.names.head? with
  |none=>rw[hn]at h;cases h
  |some n=>
   rw[hn]at h
   cases h
   exact⟨(zbc h1).fold,(zbc (h2 n (List.mem_of_head? hn))).fold⟩
 ·cases h
theorem zed{N:NetL}(hG:zbg N):∀p∈zcV N,zbH p:=by
 intro p hp
 unfold zcV renH renZ at hp
 obtain⟨h,hh,hp⟩:=List.mem_flatMap.1 hp
 obtain⟨z,hz,hp⟩:=List.mem_flatMap.1 hp
 obtain⟨r,hr,hp⟩:=List.mem_filterMap.1 hp
 have gz:=(hG.z.z h hh z hz).gd
 exact renO_ok (gz.own r hr) (gz.names r hr) hp
theorem zdp{N:NetL}(hG:zbg N):(zcV N).length≤2000:=by
 have h3:∀x∈N.hosts,∀z∈x.zones,(renZ z).length≤60:=fun x hx z hz=>by
  have:=(hG.z.z x hx z hz).gd.len
  have:=List.length_filterMap_le renO z.recs
  unfold renZ;omega
 have h4:∀x∈N.hosts,(renH x).length≤240:=fun x hx=>by
  have h1:=zgK (l:=x.zones) (f:=renZ) (k:=60) (h3 x hx)
  have:=hG.zl x hx
  unfold renH;omega
 have h5:=zgK (l:=N.hosts) (f:=renH) (k:=240) h4
 have:=hG.h1.2
 unfold zcV;omega
def RO(S:Nat→Prop)(B:Nat)(v:World)(ov:Value)(xs:List zaK):Prop:=Owns 2 (PairAt (fun b=>S b∨some b=ov.ownBlock) v) B v 95 ov xs
theorem RO.ext{S:Nat→Prop}{B:Nat}{v x:World}{ov:Value}{xs:List zaK}(h:RO S B v ov xs)(hE:Ext v x):RO S B x ov xs:=(Owns.ext h hE).to fun _ _ h=>h.ext hE
set_option maxHeartbeats 4000000 in
theorem zdB{w0 w:World}{S:Nat→Prop}(hE0:Ext w0 w)(hS:∀b,S b→b<w.heap.size){cs:List Value}{N:NetL}(hN:NetAt w0 cs N)(hG:zbg N):
  Fn Tryz.prog 44 #[.agg cs.toArray] w (fun v w'=>Ext w w'∧RenZ S w' v (renN N)):=by
 obtain⟨hv,rv,rfl,hh,hr⟩:=hN.ex
 obtain⟨ah,ch,hhv,hch,hgh⟩:=hh.open
 obtain⟨ar,cr,hrv,_⟩:=id hr
 have hl6:=hG.h1.2
 have hall:=zdp hG
 refine enter Tryz.func44 Tryz.ntmps44 rfl rfl ?_
 repeat refine c_r ?_
 rw[hhv,hrv]
 refine rg0 ?_
 rw[←hrv]
 repeat refine c_r ?_
 refine zaS ?_
 intro w1 hE1 hs1 hA
 have pn:zai w1 (some ⟨w.heap.size,0,Option.none⟩)=some (.slice ah N.hosts.length ch):=zae hA rfl
 have hE01:=hE0.trans hE1
 repeat refine c_r ?_
 refine rg0 ?_
 repeat refine c_r ?_
 refine rg2 pn Nat.add_zero ?_
 repeat refine c_r ?_
 refine zaj (fun m σ ds v=>ds=[]∧∃(i:Nat) (ov:Value) (xs:List zaK),i+m=N.hosts.length∧σ 13=vi i∧σ 12=vi N.hosts.length∧σ 11= .slice ah N.hosts.length ch∧σ 3=ov∧Ext w1 v∧RO S w1.heap.size v ov xs∧zcV N=xs++(N.hosts.drop i).flatMap renH) N.hosts.length ?_ ?_
 ·exact⟨rfl,0,.slice Option.none 0 0,[],by omega,vr0,vq0,vq0,vq0,Keep.refl _ _,Owns.nil _ _ _ _ _,rfl⟩
 rintro m σ ds v ⟨rfl,i,ov,xs,him,s13,s12,s11,s3,hEv,hRO,hbe⟩
 repeat refine c_r ?_
 refine rg2 s13 s12 ?_
 repeat refine c_r ?_
 refine wc0 ?_ ?_
 ·intro hlt
  simp only[decide_eq_true_eq]at hlt
  have hi:i<N.hosts.length:=by omega
  have hi0:(0:Int)≤(i:Int):=by omega
  have hi1':(i:Int)+1=((i+1:Nat):Int):=by push_cast;rfl
  obtain⟨hcs,hce,hH⟩:=hgh i hi
  have hmem:=List.getElem_mem hi
  rw[zcq hi]at hbe
  obtain⟨h,hhe⟩:∃x,N.hosts[i]=x:=⟨_,rfl⟩
  rw[hhe]at hH hmem hbe
  obtain⟨nv,b1,b2,b3,b4,zv,rfl,_,hnv,hz⟩:=hH.ex
  obtain⟨az,cz,rfl,hcz,hgz⟩:=hz.open
  have hzl:=hG.zl h hmem
  obtain⟨xa,rfl⟩:=Option.isSome_iff_exists.1 (zam hce)
  obtain⟨xi,hxi⟩:∃xi,adr (some xa) (i*6)=some xi:=⟨_,rfl⟩
  rw[hxi]at hce
  have d:=zag (hE01.trans hEv) hce
  have n1:=hnv.isOne
  repeat refine c_r ?_
  refine rq ?_;intro gd K hgd hK
  try simp (disch:=first|omega|assumption|rfl) only[go_sem,s13,s11,hi0,hlt,hxi,d]
  refine zbv (P:=Tryz.prog) (l:=[nv,zaf b1,zaf b2,zaf b3,zaf b4,.slice az h.zones.length cz]) rfl (fun q hq=>by simp at hq;rcases hq with rfl|rfl|rfl|rfl|rfl|rfl<;>first|exact n1|rfl) rfl rfl ?_
  intro v1 hE2 hs2 hB4
  try simp only[go_sem]
  refine hK _ _ ?_;clear hK hgd;clear K;try clear gd
  obtain⟨c4,hc4⟩:∃b,v.heap.size=b:=⟨_,rfl⟩
  rw[hc4]at hB4 hs2 ⊢
  have q5:zai v1 (some ⟨c4,5,Option.none⟩)=some (.slice az h.zones.length cz):=zae hB4 rfl
  obtain⟨R1,hR1⟩:∃R,(N.hosts.drop (i+1)).flatMap renH=R:=⟨_,rfl⟩
  rw[hR1]at hbe
  unfold renH at hbe
  repeat refine c_r ?_
  refine rg2 q5 Nat.zero_add ?_
  repeat refine c_r ?_
  refine zaj (fun m σ ds v=>ds=[]∧∃(k:Nat) (ov:Value) (xs:List zaK),k+m=h.zones.length∧σ 20=vi k∧σ 19=vi h.zones.length∧σ 18= .slice az h.zones.length cz∧σ 13=vi i∧σ 12=vi N.hosts.length∧σ 11= .slice (some xa) N.hosts.length ch∧σ 3=ov∧Ext w1 v∧RO S w1.heap.size v ov xs∧zcV N=xs++((h.zones.drop k).flatMap renZ++R1)) h.zones.length ?_ ?_
  ·exact⟨rfl,0,ov,xs,by omega,vr0,vq0,vq0,(vq1 s13),(vq1 s12),(vq1 s11),(vq1 s3),hEv.trans hE2,hRO.ext hE2,hbe⟩
  clear s13 s12 s11 s3 hRO hbe d q5 hB4 hce hE2 hs2
  rintro m2 σ2 ds2 v2 ⟨rfl,k,ov2,xs2,hkm,s20,s19,s18,s13,s12,s11,s3,hEv2,hRO,hbe⟩
  repeat refine c_r ?_
  refine rg2 s20 s19 ?_
  repeat refine c_r ?_
  refine wc0 ?_ ?_
  ·intro hlt2
   simp only[decide_eq_true_eq]at hlt2
   have hk:k<h.zones.length:=by omega
   have hk0:(0:Int)≤(k:Int):=by omega
   have hk1':(k:Int)+1=((k+1:Nat):Int):=by push_cast;rfl
   obtain⟨zcs,hze,hZ⟩:=hgz k hk
   have hzmem:=List.getElem_mem hk
   rw[zcq hk,List.append_assoc]at hbe
   obtain⟨z,hzz⟩:∃x,h.zones[k]=x:=⟨_,rfl⟩
   rw[hzz]at hZ hzmem hbe
   obtain⟨zo,lv,rfl,hov,hlv⟩:=hZ.ex
   obtain⟨al,cl,rfl,hcl,hgl⟩:=hlv.open
   have gz:=(hG.z.z h hmem z hzmem).gd
   have hrl:=gz.len
   obtain⟨xz,rfl⟩:=Option.isSome_iff_exists.1 (zam hze)
   obtain⟨xk,hxk⟩:∃xi,adr (some xz) (k*2)=some xi:=⟨_,rfl⟩
   rw[hxk]at hze
   have d:=zag (hE01.trans hEv2) hze
   have o1:=hov.isOne
   repeat refine c_r ?_
   refine rq ?_;intro gd K hgd hK
   try simp (disch:=first|omega|assumption|rfl) only[go_sem,s20,s18,hk0,hlt2,hxk,d]
   refine zbv (P:=Tryz.prog) (l:=[zo,.slice al z.recs.length cl]) rfl (zd2 o1 rfl) rfl rfl ?_
   intro v3 hE3 hs3 hB6
   try simp only[go_sem]
   refine hK _ _ ?_;clear hK hgd;clear K;try clear gd
   obtain⟨c6,hc6⟩:∃b,v2.heap.size=b:=⟨_,rfl⟩
   rw[hc6]at hB6 hs3 ⊢
   have q1:zai v3 (some ⟨c6,1,Option.none⟩)=some (.slice al z.recs.length cl):=zae hB6 rfl
   obtain⟨R2,hR2⟩:∃R,(h.zones.drop (k+1)).flatMap renZ++R1=R:=⟨_,rfl⟩
   rw[hR2]at hbe
   unfold renZ at hbe
   repeat refine c_r ?_
   refine rg2 q1 Nat.zero_add ?_
   repeat refine c_r ?_
   refine zaj (fun m σ ds v=>ds=[]∧∃(j:Nat) (ov:Value) (xs:List zaK),j+m=z.recs.length∧σ 27=vi j∧σ 26=vi z.recs.length∧σ 25= .slice al z.recs.length cl∧σ 20=vi k∧σ 19=vi h.zones.length∧σ 18= .slice (some xz) h.zones.length cz∧σ 13=vi i∧σ 12=vi N.hosts.length∧σ 11= .slice (some xa) N.hosts.length ch∧σ 3=ov∧Ext w1 v∧RO S w1.heap.size v ov xs∧zcV N=xs++((z.recs.drop j).filterMap renO++R2)) z.recs.length ?_ ?_
   ·exact⟨rfl,0,ov2,xs2,by omega,vr0,vq0,vq0,(vq1 s20),(vq1 s19),(vq1 s18),(vq1 s13),(vq1 s12),(vq1 s11),(vq1 s3),hEv2.trans hE3,hRO.ext hE3,hbe⟩
   clear s20 s19 s18 s13 s12 s11 s3 hRO hbe d q1 hB6 hze hE3 hs3
   rintro m3 σ3 ds3 v4 ⟨rfl,j,ov3,xs3,hjm,s27,s26,s25,s20,s19,s18,s13,s12,s11,s3,hEv4,hRO,hbe⟩
   repeat refine c_r ?_
   refine rg2 s27 s26 ?_
   repeat refine c_r ?_
   refine wc0 ?_ ?_
   ·intro hlt3
    simp only[decide_eq_true_eq]at hlt3
    have hj:j<z.recs.length:=by omega
    have hj0:(0:Int)≤(j:Int):=by omega
    have hj1':(j:Int)+1=((j+1:Nat):Int):=by push_cast;rfl
    obtain⟨rcs,hre,hR⟩:=hgl j hj
    have hrmem:=List.getElem_mem hj
    rw[List.drop_eq_getElem_cons hj]at hbe
    obtain⟨r,hrr⟩:∃x,z.recs[j]=x:=⟨_,rfl⟩
    rw[hrr]at hR hrmem hbe
    have hrone:=hR.ones
    obtain⟨ow,ds,rfl,how,hD⟩:=hR.ex
    obtain⟨nm,nu,tx,rw',rfl,⟨vals,hvr,hvl,hvn⟩,_,_,_⟩:=hD.ex
    obtain⟨xr,rfl⟩:=Option.isSome_iff_exists.1 (zam hre)
    obtain⟨xj,hxj⟩:∃xi,adr (some xr) (j*7)=some xi:=⟨_,rfl⟩
    rw[hxj]at hre
    have hE0v:=hE01.trans hEv4
    have d:=zag hE0v hre
    have n8:=(gz.few r hrmem).2.n8
    obtain⟨an,cn,hnm,hcn,hgn⟩:=id hvr
    repeat refine c_r ?_
    refine rq ?_;intro gd K hgd hK
    try simp (disch:=first|omega|assumption|rfl) only[go_sem,s27,s25,hj0,hlt3,hxj,d]
    refine zbv (P:=Tryz.prog) rfl hrone rfl rfl ?_
    intro v5 hE5 hs5 hB8
    try simp only[go_sem]
    refine hK _ _ ?_;clear hK hgd;clear K;try clear gd
    obtain⟨c8,hc8⟩:∃b,v4.heap.size=b:=⟨_,rfl⟩
    rw[hc8]at hB8 hs5 ⊢
    have q0:zai v5 (some ⟨c8,0,Option.none⟩)=some ow:=zae hB8 rfl
    have q2:zai v5 (some ⟨c8,2,Option.none⟩)=some (vi r.dat.ty):=zae hB8 rfl
    have q3:zai v5 (some ⟨c8,3,Option.none⟩)=some nm:=zae hB8 rfl
    rw[hnm]at q3
    have hRO5:=hRO.ext hE5
    have hE05:=hE0v.trans hE5
    have hEv5:=hEv4.trans hE5
    by_cases e39:r.dat.ty=39
    ·rcases hnames:r.dat.names with _| ⟨n0,ns⟩
     ·have hv0:vals.length=0:=by rw[hvl,hnames];rfl
      have hro:renO r=Option.none:=by unfold renO;rw[if_pos e39,hnames];rfl
      rw[List.filterMap_cons_none hro]at hbe
      repeat refine c_r ?_
      refine rgg [(4,35)] (an6 q2 Nat.add_zero Nat.zero_add (decide_eq_true e39) q3 (show decide ((vals.length:Int)>0)=false from decide_eq_false (by omega))) ?_
      repeat refine c_r ?_
      refine wf trivial ?_
      repeat refine c_r ?_
      refine rg2 s27 hj1' ?_
      repeat refine c_r ?_
      exact⟨m3 - 1,by omega,rfl,j+1,ov3,xs3,by omega,vq0,(vq1 s26),(vq1 s25),(vq1 s20),(vq1 s19),(vq1 s18),(vq1 s13),(vq1 s12),(vq1 s11),(vq1 s3),hEv5,hRO5,hbe⟩
     ·have hv0:0<vals.length:=by rw[hvl,hnames];simp
      have hro:renO r=some (zah r.owner,zah n0):=by unfold renO;rw[if_pos e39,hnames];rfl
      rw[List.filterMap_cons_some hro]at hbe
      have hn0:Row w0 (vals[0]'hv0) (n0.map vs):=by
       have:=hvn 0 hv0 (by rw[hnames];simp)
       simpa only[hnames,List.getElem_cons_zero] using this
      obtain⟨y0,hy0⟩:∃y,vals[0]'hv0=y:=⟨_,rfl⟩
      have g0:=hgn 0 hv0
      obtain⟨xn,rfl⟩:=Option.isSome_iff_exists.1 (zad g0)
      rw[zaA,hy0]at g0
      rw[hy0]at hn0
      have ko:=(zbc (gz.own r hrmem))
      have kn:=(zbc (gz.names r hrmem n0 (by rw[hnames];simp)))
      have lo1:=ko.len
      have ln1:=kn.len
      have hv0i:(0:Int)<(vals.length:Int):=by omega
      repeat refine c_r ?_
      refine rgg [(4,35)] (an6 q2 Nat.add_zero Nat.zero_add (decide_eq_true e39) q3 (show decide ((vals.length:Int)>0)=true from decide_eq_true (by omega))) ?_
      repeat refine c_r ?_
      refine wt trivial ?_
      repeat refine c_r ?_
      have hgo:∀{b},some b=ov3.ownBlock→w1.heap.size≤b∧b<c8:=fun {b} hb=>by have:=hRO.ge hb;omega
      have hxnb:xn.block<w1.heap.size:=by
       have h1:xn.block<w0.heap.size:=zcu g0
       have:=hE01.size;omega
      refine zaG (fun _=>false) [(0,true),(1,true),(2,true),(4,true),(5,true),(6,true),(7,true),(8,true),(3,false),(9,false),(10,true),(11,false),(12,false),(13,true)] ((fun i=>some i=ov3.ownBlock)) mixed (by kernel_rfl) ?_;intro gd K x hgd hx hxe hK;have hx0:=drewX hxe;clear hxe
      have q0x:=zab hx0 q0
      have q3x:=zab hx0 q3
      have hE0x:=hE05.trans hx0
      have g0x:=zab hE0x g0
      have hzx:=hx0.size
      simp (disch:=first|omega|assumption|rfl) only[go_sem,s3,q0x,q3x,g0x,hv0i,Nat.add_zero,Nat.zero_add,Nat.zero_mul,zaA,Int.toNat_zero]
      have o8:∀k,offS (fun i=>some i=ov3.ownBlock) (some ⟨c8,k,Option.none⟩):=fun k a ha hb=>by cases ha;dsimp only at hb;have:=(hgo hb).2;omega
      have ox:offS (fun i=>some i=ov3.ownBlock) (some xn):=fun a ha hb=>by cases ha;have:=(hgo hb).1;omega
      refine⟨o8 _,o8 _,ox,?_⟩
      refine Fn.mono (zhE x ow r.owner (how.ext hE0x) ko.LB (by omega)) ?_
      rintro f1 z1 ⟨hf1,hz1⟩
      refine⟨.inr hz1.keep,?_⟩
      have q3y:=zab hz1 q3x
      have g0y:=zab hz1 g0x
      simp (disch:=first|omega|assumption|rfl) only[go_sem,s3,q3y,g0y,hv0i,Nat.add_zero,Nat.zero_add,Nat.zero_mul,zaA,Int.toNat_zero]
      refine Fn.mono (zhE z1 y0 n0 (hn0.ext (hE0x.trans hz1)) kn.LB (by omega)) ?_
      rintro f2 z2 ⟨hf2,hz2⟩
      refine⟨.inr hz2.keep,?_⟩
      obtain⟨af1,cf1,hf1e,_⟩:=id hf1.1
      obtain⟨af2,cf2,hf2e,_⟩:=id hf2.1
      obtain⟨S1,hS1⟩:∃S1:Nat→Prop,(fun b=>S b∨some b=ov3.ownBlock)=S1:=⟨_,rfl⟩
      have hRO5':=hRO5
      unfold RO at hRO5'
      rw[hS1]at hRO5'
      have hS1x:∀b,S1 b→b<x.heap.size:=fun b hb=>by
       rw[←hS1]at hb
       have hzv:=hEv5.size
       rcases hb with hb|hb
       ·have:=hS b hb;omega
       ·have:=(hRO5.ge hb).2;omega
      have hp2:PairAt S1 z2 [f1,f2] (zah r.owner,zah n0):=⟨f1,f2,rfl,(RowZ.of_base hf1 (Nat.zero_le _) hS1x).ext hz2,RowZ.of_base hf2 (Nat.zero_le _) (fun b hb=>by have:=hS1x b hb;have:=hz1.size;omega)⟩
      simp (disch:=first|omega|assumption|rfl) only[go_sem,s3]
      refine⟨by kernel_rfl,?_⟩
      rw[hf1e,hf2e,show bdV Tryz.prog 95 [(0,.slice af1 ((zah r.owner).map vs).length cf1),(1,.slice af2 ((zah n0).map vs).length cf2)]=some (.agg #[.slice af1 ((zah r.owner).map vs).length cf1,.slice af2 ((zah n0).map vs).length cf2]) from by kernel_rfl,←hf1e,←hf2e]
      simp (disch:=first|omega|assumption|rfl) only[go_sem,s3]
      refine zcd (C:=PairAt S1 z2) ⟨fun h=>h.len,fun h=>h.ones⟩ (l:=[f1,f2]) (a:=(zah r.owner,zah n0)) (by rfl) (by rfl) (by rfl) (by rfl) hp2 (by decide) ?_
      intro z3 hz3 hsz3 hO3
      refine⟨.inr hz3.keep,?_⟩
      simp (disch:=first|omega|assumption|rfl) only[go_sem,s3]
      have hxz:=(hx0.trans hz1).trans (hz2.trans hz3)
      have hO4:Owns 2 (PairAt S1 z3) w1.heap.size z3 95 ov3 xs3:=(Owns.ext hRO5' hxz).to fun _ _ h=>h.ext hxz
      refine zbz (C:=PairAt S1 z3) ⟨fun h=>h.len,fun h=>h.ones⟩ hO4 (hO3.rows.to fun _ _ h=>h.ext hz3) (by rfl) (by rfl) (by rfl) (by rfl) (by rfl) (by rfl) (by decide) (vr0) (vr0) (by
       have:=congrArg List.length hbe
       simp only[List.length_append,List.length_cons,List.length_nil]at this ⊢
       omega) (by decide) (by have:=(hEv5.trans hxz).size;omega) ?_
      intro ov4 v7 hO7 hE7 hk7 hb7
      have hzw:=(hEv5.trans hxz).size
      have hE17:Ext w1 v7:=hE7 w1 (hEv5.trans hxz) (Nat.le_refl _)
      have hRO7:RO S w1.heap.size v7 ov4 (xs3++ [(zah r.owner,zah n0)]):=hO7.to fun _ _ h=>h.turn (hk7.mono fun b _ hb=>by rw[←hS1];exact .inr hb) (fun b hb=>by
       rw[←hS1]
       rcases hb with hb|hb
       ·exact .inl (.inl hb)
       ·rcases hb7 b hb with hb|hb
        ·exact .inl (.inr hb)
        ·exact .inr hb)
      refine⟨.inr hk7,?_⟩
      simp (disch:=first|omega|assumption|rfl) only[go_sem,s3]
      refine hK _ _ ?_;clear hK hgd;clear K;try clear gd
      repeat refine c_r ?_
      refine rg2 s27 hj1' ?_
      repeat refine c_r ?_
      exact⟨m3 - 1,by omega,rfl,j+1,ov4,_,by omega,vq0,(vq1 s26),(vq1 s25),(vq1 s20),(vq1 s19),(vq1 s18),(vq1 s13),(vq1 s12),(vq1 s11),vq0,hE17,hRO7,by rw[hbe];simp⟩
    ·have hro:renO r=Option.none:=by unfold renO;rw[if_neg e39]
     rw[List.filterMap_cons_none hro]at hbe
     repeat refine c_r ?_
     refine rgg [(4,35)] (an4 q2 Nat.add_zero Nat.zero_add (decide_eq_false e39)) ?_
     repeat refine c_r ?_
     refine wf trivial ?_
     repeat refine c_r ?_
     refine rg2 s27 hj1' ?_
     repeat refine c_r ?_
     exact⟨m3 - 1,by omega,rfl,j+1,ov3,xs3,by omega,vq0,(vq1 s26),(vq1 s25),(vq1 s20),(vq1 s19),(vq1 s18),(vq1 s13),(vq1 s12),(vq1 s11),(vq1 s3),hEv5,hRO5,hbe⟩
   ·intro hge3
    simp only[decide_eq_false_iff_not]at hge3
    rw[List.drop_of_length_le (by omega),List.filterMap_nil,List.nil_append,←hR2]at hbe
    repeat refine c_r ?_
    refine rg2 s20 hk1' ?_
    repeat refine c_r ?_
    exact⟨m2 - 1,by omega,rfl,k+1,ov3,xs3,by omega,vq0,(vq1 s19),(vq1 s18),(vq1 s13),(vq1 s12),(vq1 s11),(vq1 s3),hEv4,hRO,hbe⟩
  ·intro hge2
   simp only[decide_eq_false_iff_not]at hge2
   rw[List.drop_of_length_le (by omega),List.flatMap_nil,List.nil_append,←hR1]at hbe
   repeat refine c_r ?_
   refine rg2 s13 hi1' ?_
   repeat refine c_r ?_
   exact⟨m - 1,by omega,rfl,i+1,ov2,xs2,by omega,vq0,(vq1 s12),(vq1 s11),(vq1 s3),hEv2,hRO,hbe⟩
 ·intro hge
  simp only[decide_eq_false_iff_not]at hge
  rw[List.drop_of_length_le (by omega),List.flatMap_nil,List.append_nil]at hbe
  have hrows:Rows 2 (PairAt S v) v ov xs:=hRO.rows.to fun cs p h=>by
   obtain⟨a,b,e,h1,h2⟩:=h.ex
   exact⟨a,b,e,⟨h1.1,fun x n c hv=>⟨(h1.2 x n c hv).1,(h1.2 x n c hv).2.1,fun hb=>(h1.2 x n c hv).2.2 (.inl hb)⟩⟩,⟨h2.1,fun x n c hv=>⟨(h2.2 x n c hv).1,(h2.2 x n c hv).2.1,fun hb=>(h2.2 x n c hv).2.2 (.inl hb)⟩⟩⟩
  have hz1:=(hE1.trans hEv).size
  have hok:∀p∈xs,zbH p:=by rw[←hbe];exact zed hG
  have hlen:xs.length≤1000000000:=by rw[←hbe];omega
  repeat refine c_r ?_
  refine rc s3 (FewPr_ok v v (Keep.refl _ _) hrows hok hlen) ?_
  rintro u w2 ⟨h1,h2,h3⟩
  obtain⟨LO,⟨au,cu,rfl,hcu,hgu⟩,hLl,hLat⟩:=h1
  refine rd trivial (P_pp.Clip_ok hcu) ?_
  rintro _ x0 ⟨rfl,h0⟩
  replace h0:=h0.symm
  subst h0
  refine re trivial ?_
  repeat refine c_r ?_
  refine rt0 Tryz.ntmps44 ?_
  refine⟨hE1.trans (hEv.trans h2),?_,fun a n c hv=>?_⟩
  ·unfold renN
   rw[hbe]
   exact⟨LO,⟨au,LO.length,rfl,Nat.le_refl _,hgu⟩,hLl,fun i h h'=>(hLat i h h').ext h2⟩
  ·cases hv
   obtain⟨k1,k2⟩:=h3 _ _ _ rfl
   exact⟨k2,fun hb=>by have:=hS _ hb;omega⟩
theorem zjx(w:World)(qv fv tv:Value)(q f:Nm)(ht:one tv=true)(hq:Row w qv (q.map vs))(hf:Row w fv (f.map vs))(mq:NmM q)(mf:NmM f)(hu:zdM q f=false):
  Fn Tryz.prog 52 #[qv,fv,tv] w (fun v w'=>Ext w w'∧v= .tuple #[.slice Option.none 0 0,vi 12]):=by
 obtain⟨aq,cq,hqv,_⟩:=id hq
 obtain⟨af,cf,hfv,_⟩:=id hf
 have bq:=mq.len
 have bf:=mf.len
 refine enter Tryz.func52 Tryz.ntmps52 rfl rfl ?_
 repeat refine c_r ?_
 refine rg0 ?_
 repeat refine c_r ?_
 refine rq ?_;intro gd K hgd hK
 try simp only[go_sem]
 refine Fn.mono (zhy _ _ _ _ _ hq hf mq.LB mf.LB (by omega) (by omega)) ?_
 rintro _ w1 ⟨rfl,hE1⟩
 try simp only[go_sem]
 refine hK _ _ ?_;clear hK hgd;clear K;try clear gd
 rw[hu]
 repeat refine c_r ?_
 refine wc0 ?_ ?_
 ·intro _
  repeat (first|refine c_r ?_|refine rg0 ?_)
  refine zaH (.inr rfl) Tryz.ntmps52 rfl (zap (v:= .slice Option.none 0 0) (vr0) (zap (v:=vi 12) (vr0) zaI)) ?_
  exact⟨hE1,rfl⟩
 ·intro h;cases h
theorem zhz(w:World)(qv fv tv:Value)(x:Nm)(r:zaK)(hq:Row w qv (x.map vs))(hf:Row w fv (r.2.map vs))(ht:Row w tv (r.1.map vs))(mq:NmM x)(hr:zbH r):
  Fn Tryz.prog 52 #[qv,fv,tv] w (fun v w'=>Ext w w'∧((∃y sv,zbd x r=some y∧v= .tuple #[sv,vi 0]∧Row w' sv (y.map vs)∧BlkB w.heap.size w' sv)∨∃e:Int,zbd x r=Option.none∧v= .tuple #[.slice Option.none 0 0,vi e]∧e≠0)):=by
 cases hu:zdM x r.2 with
 |false=>
  refine Fn.mono (zjx w qv fv tv x r.2 ht.isOne hq hf mq hr.b.m hu) ?_
  rintro _ w' ⟨hE,rfl⟩
  exact⟨hE,.inr ⟨12,by simp[zbd,hu],rfl,by decide⟩⟩
 |true=>
  refine Fn.mono (NSwap_ok w qv fv tv x r.2 r.1 hq hf ht mq hr.b.m hr.a.m hu) ?_
  rintro v w' ⟨hE,h1,h2⟩
  by_cases hc:zaE (zc6 x r.2 r.1)=0
  ·obtain⟨sv,rfl,h3,h4⟩:=h1 hc
   exact⟨hE,.inl ⟨_,sv,by simp[zbd,hu,hc],rfl,h3,h4⟩⟩
  ·exact⟨hE,.inr ⟨7,by simp[zbd,hu,hc],h2 hc,by decide⟩⟩
theorem ziw{ren:List zaK}{L:List Nm}{x:Nm}:zaw ren (L++ [x])=zaw ren L++ren.filterMap (zbd x):=by simp[zaw]
theorem ziv{ren:List zaK}{L:List Nm}{i j:Nat}(hi:i<L.length):∀y∈zaw ren (L.take i)++(ren.take j).filterMap (zbd L[i]),y∈zaw ren L:=by
 intro y hy
 unfold zaw
 rcases List.mem_append.1 hy with h|h
 ·unfold zaw at h
  obtain⟨x,hx,h⟩:=List.mem_flatMap.1 h
  exact List.mem_flatMap.2 ⟨x,List.mem_of_mem_take hx,h⟩
 ·obtain⟨r,hr,h⟩:=List.mem_filterMap.1 h
  exact List.mem_flatMap.2 ⟨_,List.getElem_mem hi,List.mem_filterMap.2 ⟨r,List.mem_of_mem_take hr,h⟩⟩
set_option maxHeartbeats 4000000 in
theorem back_ok{w0 w:World}{tb:Nat}{s:TS}{ps:List Nm}{rv:Value}{ren:List zaK}{most:Int}(hT:T_bool.TI w0 w tb s (putB ps))(hk:∀p∈ps,NmK p)(hm:((canN ps).length:Int)≤most)(hmost:most≤1000000)
  (hR:RenZ (tblk tb s) w rv ren) (hro:∀r∈ren,zbH r) (hrl:ren.length≤1000000000):
  Fn Tryz.prog 117 #[zaq tb,rv,vi most] w (fun v w'=>(v=vi 0∧((canN (ps++zaw ren (canN ps))).length:Int)≤most∧∃s',T_bool.TI w0 w' tb s' (putB (ps++zaw ren (canN ps)))∧Keep (tblk tb s) w w'∧(∀b,tblk tb s' b→tblk tb s b∨w.heap.size≤b))∨
   (v=vi 11∧most<((canN (ps++zaw ren (canN ps))).length:Int)∧Ext w0 w')):=by
 obtain⟨ar,cr,hrv,_⟩:=hR.rows.open
 unfold zaq
 refine enter Tryz.func117 Tryz.ntmps117 rfl rfl ?_
 repeat refine c_r ?_
 rw[hrv]
 refine rg0 ?_
 rw[←hrv]
 repeat refine c_r ?_
 refine rc trivial (zeN hT hk (by omega)) ?_
 rintro nv w1 ⟨hE1,hnv⟩
 have hZ:=hnv (tblk tb s) hT.lt
 obtain⟨L,hL⟩:∃L,canN ps=L:=⟨_,rfl⟩
 have hLk:∀x∈L,NmK x:=fun x hx=>inS_k hk (mem_canN.1 (by rw[hL];exact hx))
 have hLl:(L.length:Int)≤most:=by rw[←hL];exact hm
 rw[hL]at hZ ⊢
 have hnsl:∃a c,nv= .slice a L.length c:=by
  obtain⟨vals,⟨⟨a,c,e,_⟩,_⟩,h2,_⟩:=hZ
  exact⟨a,c,by rw[e,h2]⟩
 obtain⟨an,cn,hnve⟩:=hnsl
 rw[hnve]
 refine re trivial ?_
 rw[←hnve]
 repeat refine c_r ?_
 have hT1:=hT.on hE1
 have hR1:RenZ (tblk tb s) w1 rv ren:=hR.turn (hE1.mono fun _ _ h=>h.elim) (fun b hb=> .inl hb)
 refine zaC (Q:=fun e σ' ds' v'=>ds'=[]∧((e= .exit 0∧((canN (ps++zaw ren L)).length:Int)≤most∧∃s',T_bool.TI w0 v' tb s' (putB (ps++zaw ren L))∧Keep (tblk tb s) w v'∧(∀b,tblk tb s' b→tblk tb s b∨w.heap.size≤b))∨
   (e= .ret∧σ' 6=vi 11∧most<((canN (ps++zaw ren L)).length:Int)∧Ext w0 v'))) ?_ ?_
 ·refine zaj (fun m σ ds v=>ds=[]∧∃(i:Nat) (s':TS),i+m=L.length∧σ 16=vi i∧σ 15=vi L.length∧σ 14=nv∧σ 0=zaq tb∧σ 1=rv∧σ 2=vi most∧T_bool.TI w0 v tb s' (putB (ps++zaw ren (L.take i)))∧Keep (tblk tb s) w v∧(∀b,tblk tb s' b→tblk tb s b∨w.heap.size≤b)∧
   NamesZ (tblk tb s') v nv L∧RenZ (tblk tb s') v rv ren∧((canN (ps++zaw ren (L.take i))).length:Int)≤most) L.length ?_ ?_
  ·exact⟨rfl,0,s,by omega,vr0,(vq1 hnve),vq0,vq0,vq0,vq0,by simpa [zaw] using hT1,hE1.mono (fun _ _ h=>h.elim),fun b hb=> .inl hb,hZ,hR1,by simpa [zaw,hL] using hLl⟩
  rintro m σ ds v ⟨rfl,i,s1,him,s16,s15,s14,s0,g1,g2,hT2,hkv,hsv,hZ2,hR2,hml⟩
  repeat refine c_r ?_
  refine rg2 s16 s15 ?_
  repeat refine c_r ?_
  refine wc0 ?_ ?_
  ·intro hlt
   simp only[decide_eq_true_eq]at hlt
   have hi:i<L.length:=by omega
   have hi0:(0:Int)≤(i:Int):=by omega
   have hi1':(i:Int)+1=((i+1:Nat):Int):=by push_cast;rfl
   have hx:=hLk _ (List.getElem_mem hi)
   obtain⟨x,hxe⟩:∃x,L[i]=x:=⟨_,rfl⟩
   obtain⟨xv,hcell,hxv⟩:∃xv,zai v (adr an i)=some xv∧RowN (tblk tb s1) v xv x:=by
    obtain⟨vals,⟨⟨a,c,e,_,hg⟩,_⟩,h2,h3⟩:=hZ2
    rw[hnve]at e
    have ea:an=a:=by injection e
    subst ea
    exact⟨vals[i]'(by omega),hg i (by omega),by rw[←hxe];exact h3 i (by omega) hi⟩
   rw[hxe]at hx
   obtain⟨xn,rfl⟩:=Option.isSome_iff_exists.1 (zad hcell)
   obtain⟨ax,cx,hxve,_⟩:=id hxv.1
   have hnve':=hnve
   repeat refine c_r ?_
   rw[hnve]at s14
   refine rg5 s16 s14 hi0 hlt hcell ?_
   repeat refine c_r ?_
   rw[hrv]at g1
   refine rg1 g1 ?_
   rw[←hrv]at g1
   repeat refine c_r ?_
   have hround:∀j,j≤ren.length→(canN (ps++(zaw ren (L.take i)++(ren.take j).filterMap (zbd x)))).length≤(canN (ps++zaw ren L)).length:=fun j _=>zhs fun g=>zdV fun p hp=>by
    rcases List.mem_append.1 hp with h|h
    ·exact List.mem_append_left _ h
    ·refine List.mem_append_right _ (ziv (j:=j) hi p ?_)
     rw[hxe];exact h
   refine zaj (fun m σ ds v=>ds=[]∧∃(j:Nat) (s':TS),j+m=ren.length∧σ 22=vi j∧σ 21=vi ren.length∧σ 20=rv∧σ 8=xv∧σ 16=vi i∧σ 15=vi L.length∧σ 14=nv∧σ 0=zaq tb∧σ 1=rv∧σ 2=vi most∧T_bool.TI w0 v tb s' (putB (ps++(zaw ren (L.take i)++(ren.take j).filterMap (zbd x))))∧Keep (tblk tb s) w v∧(∀b,tblk tb s' b→tblk tb s b∨w.heap.size≤b)∧
    NamesZ (tblk tb s') v nv L∧RenZ (tblk tb s') v rv ren∧RowN (tblk tb s') v xv x∧((canN (ps++(zaw ren (L.take i)++(ren.take j).filterMap (zbd x)))).length:Int)≤most) ren.length ?_ ?_
   ·exact⟨rfl,0,s1,by omega,vr0,(vq1 hrv),by rw[hrv];simp only[go_sem],vq0,(vq1 s16),(vq1 s15),(vq2 s14 hnve),(vq1 s0),(vq1 g1),(vq1 g2),by simpa using hT2,hkv,hsv,hZ2,hR2,hxv,by simpa using hml⟩
   clear s16 s15 s14 s0 g1 g2 hT2 hZ2 hR2 hxv hkv hsv hml hcell
   rintro m2 σ2 ds2 v2 ⟨rfl,j,s2,hjm,s22,s21,s20,s8,s16,s15,s14,s0,g1,g2,hT2,hkv,hsv,hZ2,hR2,hxv,hml⟩
   repeat refine c_r ?_
   refine rg2 s22 s21 ?_
   repeat refine c_r ?_
   refine wc0 ?_ ?_
   ·intro hlt2
    simp only[decide_eq_true_eq]at hlt2
    have hj:j<ren.length:=by omega
    have hj0:(0:Int)≤(j:Int):=by omega
    have hj1':(j:Int)+1=((j+1:Nat):Int):=by push_cast;rfl
    have hro1:=hro _ (List.getElem_mem hj)
    obtain⟨r,hre⟩:∃r,ren[j]=r:=⟨_,rfl⟩
    rw[hrv]at s20
    have hR2':=hR2.rows
    rw[hrv]at hR2'
    obtain⟨pcs,hpc,hP⟩:=hR2'.get hj
    rw[hre]at hP hro1
    obtain⟨p1,p2,rfl,hp1,hp2⟩:=hP.ex
    obtain⟨xr,rfl⟩:=Option.isSome_iff_exists.1 (zam hpc)
    obtain⟨xj,hxj⟩:∃xi,adr (some xr) (j*2)=some xi:=⟨_,rfl⟩
    rw[hxj]at hpc
    have htk:(ren.take (j+1)).filterMap (zbd x)=(ren.take j).filterMap (zbd x)++(zbd x r).toList:=by
     rw[zao hj,List.filterMap_append,hre]
     cases hso:zbd x r<;>simp[hso]
    repeat refine c_r ?_
    refine rq ?_;intro gd K hgd hK
    try simp (disch:=first|omega|assumption|rfl) only[go_sem,s22,s20,hj0,hlt2,hxj,hpc]
    refine zbv (P:=Tryz.prog) (l:=[p1,p2]) rfl (zd2 hp1.1.isOne hp2.1.isOne) rfl rfl ?_
    intro v3 hE3 hs3 hB
    try simp only[go_sem]
    refine hK _ _ ?_;clear hK hgd;clear K;try clear gd
    obtain⟨cb,hcb⟩:∃b,v2.heap.size=b:=⟨_,rfl⟩
    rw[hcb]at hB hs3 ⊢
    have q0:zai v3 (some ⟨cb,0,Option.none⟩)=some p1:=zae hB rfl
    have q1:zai v3 (some ⟨cb,1,Option.none⟩)=some p2:=zae hB rfl
    repeat refine c_r ?_
    have hT3:=hT2.on hE3
    have hs3e:=hE3.size
    have hZ3:NamesZ (tblk tb s2) v3 nv L:=hZ2.ext hE3
    have hR3:RenZ (tblk tb s2) v3 rv ren:=hR2.turn (hE3.mono fun _ _ h=>h.elim) (fun b hb=> .inl hb)
    have hX3:RowN (tblk tb s2) v3 xv x:=hxv.ext hE3
    have hk3:Keep (tblk tb s) w v3:=hkv.trans (hE3.mono fun _ _ h=>h.elim)
    refine zaC (Q:=fun e σ' ds' v'=>e= .normal∧ds'=[]∧σ' 22=vi j∧σ' 21=vi ren.length∧σ' 20=rv∧σ' 8=xv∧σ' 16=vi i∧σ' 15=vi L.length∧σ' 14=nv∧σ' 0=zaq tb∧σ' 1=rv∧σ' 2=vi most∧Ext v3 v'∧∃(sv:Value) (e:Int),σ' 11=sv∧σ' 12=vi e∧
     ((e=0∧∃y,zbd x r=some y∧Row v' sv (y.map vs)∧BlkB v3.heap.size v' sv)∨(e≠0∧zbd x r=Option.none))) ?_ ?_
    ·refine rc (an7 s8 q0 q1 Nat.add_zero Nat.zero_add Int.toNat_zero (show(1:Int).toNat=1 from rfl)) (zhz v3 xv p2 p1 x r hX3.1 (hp2.1.ext hE3) (hp1.1.ext hE3) hx.m hro1) ?_
     rintro _ v4 ⟨hE4,(⟨y,sv,hsw,rfl,hy1,hy2⟩| ⟨e,hsw,rfl,he⟩)⟩
     ·refine re trivial ?_
      exact⟨rfl,rfl,(vq1 s22),(vq1 s21),(vq2 s20 hrv),(vq1 s8),(vq1 s16),(vq1 s15),(vq1 s14),(vq1 s0),(vq1 g1),(vq1 g2),hE4,sv,0,vq0,vr0,.inl ⟨rfl,y,hsw,hy1,hy2⟩⟩
     ·refine re trivial ?_
      exact⟨rfl,rfl,(vq1 s22),(vq1 s21),(vq2 s20 hrv),(vq1 s8),(vq1 s16),(vq1 s15),(vq1 s14),(vq1 s0),(vq1 g1),(vq1 g2),hE4,_,e,vr0,vq0,.inr ⟨he,hsw⟩⟩
    clear s22 s21 s20 s8 s16 s15 s14 s0 g1 g2
    rintro _ σ3 _ v4 ⟨rfl,rfl,s22,s21,s20,s8,s16,s15,s14,s0,g1,g2,hE4,sv,e,s11,s12,hcase⟩
    have hs4e:=hE4.size
    have hT4:=hT3.on hE4
    have hZ4:NamesZ (tblk tb s2) v4 nv L:=hZ3.ext hE4
    have hR4:RenZ (tblk tb s2) v4 rv ren:=hR3.turn (hE4.mono fun _ _ h=>h.elim) (fun b hb=> .inl hb)
    have hX4:RowN (tblk tb s2) v4 xv x:=hX3.ext hE4
    have hk4:Keep (tblk tb s) w v4:=hk3.trans (hE4.mono fun _ _ h=>h.elim)
    have hwv:=hkv.size
    repeat refine c_r ?_
    refine rg1 s12 ?_
    repeat refine c_r ?_
    refine zaC (Q:=fun e' σ' ds' v'=>e'= .normal∧ds'=[]∧σ' 22=vi j∧σ' 21=vi ren.length∧σ' 20=rv∧σ' 8=xv∧σ' 16=vi i∧σ' 15=vi L.length∧σ' 14=nv∧σ' 0=zaq tb∧σ' 1=rv∧σ' 2=vi most∧∃s5,T_bool.TI w0 v' tb s5 (putB (ps++(zaw ren (L.take i)++(ren.take (j+1)).filterMap (zbd x))))∧Keep (tblk tb s) w v'∧(∀b,tblk tb s5 b→tblk tb s b∨w.heap.size≤b)∧
     NamesZ (tblk tb s5) v' nv L∧RenZ (tblk tb s5) v' rv ren∧RowN (tblk tb s5) v' xv x) ?_ ?_
    ·refine zaL (t:=decide (e=0)) (vq0) ?_ ?_
     ·intro he
      simp only[decide_eq_true_eq]at he
      rcases hcase with ⟨_,y,hsw,hy1,hy2⟩| ⟨hne,_⟩
      ·have hyk:NmK y:=zbc (zdR hsw)
       have hyz:RowZ 0 (tblk tb s2) v4 sv (y.map vs):=⟨hy1,fun a n c hv=>by
        obtain⟨k1,k2⟩:=hy2 a n c hv
        exact⟨Nat.zero_le _,k2,fun hb=>by have:=hT2.lt _ hb;omega⟩⟩
       unfold zaq at s0
       repeat refine c_r ?_
       refine rc (an2 s0 s11) (zju hT4 (T_bool.Still.of_row hyz) hyk) ?_
       rintro _ v5 ⟨s5,hT5,hk5,hs5⟩
       refine re trivial ?_
       repeat refine c_r ?_
       have h55:ps++(zaw ren (L.take i)++(ren.take j).filterMap (zbd x))++ [y]=ps++(zaw ren (L.take i)++(ren.take (j+1)).filterMap (zbd x)):=by rw[htk,hsw];simp
       rw[h55]at hT5
       refine⟨rfl,rfl,(vq1 s22),(vq1 s21),(vq1 s20),(vq1 s8),(vq1 s16),(vq1 s15),(vq1 s14),(vq1 s0),(vq1 g1),(vq1 g2),s5,hT5,?_,fun b hb=>?_,hZ4.turn hk5 hs5,hR4.turn hk5 hs5,hX4.turn hk5 hs5⟩
       ·have h6:=hk4.size
        have h7:=hk5.size
        refine⟨hk5.os.trans hk4.os,hk5.tape.trans hk4.tape,hk5.output.trans hk4.output,by omega,fun b hb hn=>?_,Nat.le_trans hk4.drawn hk5.drawn⟩
        exact(hk5.block b (by omega) (fun hc=>(hsv b hc).elim hn (by omega))).trans (hk4.block b hb hn)
       ·rcases hs5 b hb with h|h
        ·exact hsv b h
        ·exact .inr (by omega)
      ·exact absurd he hne
     ·intro hne
      simp only[decide_eq_false_iff_not]at hne
      rcases hcase with ⟨he,_⟩| ⟨_,hsw⟩
      ·exact absurd he hne
      ·repeat refine c_r ?_
       refine⟨rfl,rfl,(vq1 s22),(vq1 s21),(vq1 s20),(vq1 s8),(vq1 s16),(vq1 s15),(vq1 s14),(vq1 s0),(vq1 g1),(vq1 g2),s2,?_,hk4,hsv,hZ4,hR4,hX4⟩
       rw[htk,hsw]
       simpa using hT4
    clear s22 s21 s20 s8 s16 s15 s14 s0 g1 g2 hT3 hT4 hZ3 hZ4 hR3 hR4 hX3 hX4 hk3 hk4 s11 s12 hcase
    rintro _ σ4 _ v5 ⟨rfl,rfl,s22,s21,s20,s8,s16,s15,s14,s0,g1,g2,s5,hT5,hk5,hs5,hZ5,hR5,hX5⟩
    have hrd:=hround (j+1) (by omega)
    have hbig:(canN (ps++(zaw ren (L.take i)++(ren.take (j+1)).filterMap (zbd x)))).length≤1000000000:=by
     rw[htk]
     cases hso:zbd x r with
     |none=>simp only[Option.toList,List.append_nil];omega
     |some q=>
      have h1:=canN_add (ps:=ps++(zaw ren (L.take i)++(ren.take j).filterMap (zbd x))) (zbc (zdR hso))
      simp only[Option.toList]
      rw[List.append_assoc,List.append_assoc]at h1
      omega
    unfold zaq at s0
    repeat refine c_r ?_
    by_cases hgt:((canN (ps++(zaw ren (L.take i)++(ren.take (j+1)).filterMap (zbd x)))).length:Int)>most
    ·refine rc s0 (zc4 hT5 (by omega)) ?_
     rintro _ v6 ⟨rfl,hE6⟩
     refine re (an2 g2 (decide_eq_true hgt)) ?_
     repeat refine c_r ?_
     refine wt trivial ?_
     repeat refine c_r ?_
     refine rg0 ?_
     repeat refine c_r ?_
     refine⟨rfl,.inr ⟨rfl,vr0,by omega,hT5.ext.trans hE6⟩⟩
    ·refine rc s0 (zc4 hT5 (by omega)) ?_
     rintro _ v6 ⟨rfl,hE6⟩
     refine re (an2 g2 (decide_eq_false hgt)) ?_
     repeat refine c_r ?_
     refine wf trivial ?_
     repeat refine c_r ?_
     refine rg2 s22 hj1' ?_
     repeat refine c_r ?_
     have hE6':Keep (tblk tb s5) v5 v6:=hE6.mono fun _ _ h=>h.elim
     exact⟨m2 - 1,by omega,rfl,j+1,s5,by omega,vq0,(vq1 s21),(vq1 s20),(vq1 s8),(vq1 s16),(vq1 s15),(vq1 s14),(vq1 s0),(vq1 g1),(vq1 g2),hT5.on hE6,hk5.trans (hE6.mono fun _ _ h=>h.elim),hs5,hZ5.ext hE6,hR5.turn hE6' (fun b hb=> .inl hb),hX5.ext hE6,by omega⟩
   ·intro hge2
    simp only[decide_eq_false_iff_not]at hge2
    have hfull:ps++(zaw ren (L.take i)++(ren.take j).filterMap (zbd x))=ps++zaw ren (L.take (i+1)):=by
     rw[List.take_of_length_le (l:=ren) (by omega),zao hi,ziw,hxe]
    rw[hfull]at hT2 hml
    repeat refine c_r ?_
    refine rg2 s16 hi1' ?_
    repeat refine c_r ?_
    exact⟨m - 1,by omega,rfl,i+1,s2,by omega,vq0,(vq1 s15),(vq1 s14),(vq1 s0),(vq1 g1),(vq1 g2),hT2,hkv,hsv,hZ2,hR2,hml⟩
  ·intro hge
   simp only[decide_eq_false_iff_not]at hge
   rw[List.take_of_length_le (by omega)]at hT2 hml
   repeat refine c_r ?_
   exact⟨rfl,.inl ⟨rfl,hml,s1,hT2,hkv,hsv⟩⟩
 rintro e σ' ds' v' ⟨rfl,(⟨rfl,hml,s',hT',hk',hs'⟩| ⟨rfl,h6,hgt,hE'⟩)⟩
 ·repeat refine c_r ?_
  refine rg0 ?_
  repeat refine c_r ?_
  refine rt0 Tryz.ntmps117 ?_
  exact .inl ⟨rfl,hml,s',hT',hk',hs'⟩
 ·repeat refine c_r ?_
  refine rt1 h6 Tryz.ntmps117 ?_
  exact .inr ⟨rfl,hgt,hE'⟩
def zaV(N:NetL):List Nm:=zaR (renN N) N.rw.toNat (zbu N)
theorem ze8{ren:List zaK}{k:Nat}{ps:List Nm}:(canN ps).length≤(canN (zaR ren k ps)).length:=zhs fun _=>zdV fun _=>zdx
set_option maxHeartbeats 4000000 in
theorem zdZ{w0 w:World}(hE0:Ext w0 w){cs:List Value}{N:NetL}(hN:NetAt w0 cs N)(hG:zbg N){most:Int}(hmost:most≤1000000):
  Fn Tryz.prog 49 #[.agg cs.toArray,vi most] w (fun v w'=>Ext w w'∧((most<((canN (zaV N)).length:Int)∧v= .tuple #[.slice Option.none 0 0,vi 11])∨
   (((canN (zaV N)).length:Int)≤most∧∃lv,v= .tuple #[lv,vi 0]∧NamesAt w' lv (canN (zaV N))))):=by
 have hN0:=hN
 obtain⟨hv,rv,rfl,hh,hr⟩:=hN.ex
 obtain⟨ah,ch,hhv,_⟩:=hh.open
 obtain⟨ar,cr,hrv,_⟩:=id hr
 have hw:=hG.w
 have bk:=zgm hG
 have bm:=zgj bk (zhu hG)
 refine enter Tryz.func49 Tryz.ntmps49 rfl rfl ?_
 repeat refine c_r ?_
 rw[hhv,hrv]
 refine rg0 ?_
 rw[←hhv,←hrv]
 repeat refine c_r ?_
 refine zaS ?_
 intro w1 hE1 hs1 hA
 have dA:=zau (n:=4) (l:=[hv,rv,vi N.rw,vi N.rf]) hA rfl
 repeat refine c_r ?_
 refine rc dA (zjk (hE0.trans hE1) hN0 hG) ?_
 rintro _ w2 ⟨tb,s,rfl,hT⟩
 refine re trivial ?_
 repeat refine c_r ?_
 have hE2:=hT.ext
 unfold zaq
 by_cases hgt:((canN (zbu N)).length:Int)>most
 ·refine rc trivial (zc4 hT (by omega)) ?_
  rintro _ w3 ⟨rfl,hE3⟩
  refine re (decide_eq_true hgt) ?_
  repeat refine c_r ?_
  refine wt trivial ?_
  repeat refine c_r ?_
  refine rg0 ?_
  repeat refine c_r ?_
  refine zaH (.inr rfl) Tryz.ntmps49 rfl (zap (v:= .slice Option.none 0 0) (vr0) (zap (v:=vi 11) (vr0) zaI)) ?_
  refine⟨hE1.trans (hE2.trans hE3),.inl ⟨?_,rfl⟩⟩
  have:=ze8 (ren:=renN N) (k:=N.rw.toNat) (ps:=zbu N)
  unfold zaV;omega
 refine rc trivial (zc4 hT (by omega)) ?_
 rintro _ w3 ⟨rfl,hE3⟩
 refine re (decide_eq_false hgt) ?_
 repeat refine c_r ?_
 refine wf trivial ?_
 have hE13:=hE2.trans hE3
 have hT3:=hT.on hE3
 have dA3:=zau (n:=4) (l:=[hv,rv,vi N.rw,vi N.rf]) (Ext.at hE13 hA) rfl
 repeat refine c_r ?_
 refine rc dA3 (zdB (S:=tblk tb s) ((hE0.trans hE1).trans hE13) (fun b hb=>hT3.lt b hb) hN0 hG) ?_
 rintro rnv w4 ⟨hE4,hR4⟩
 refine re trivial ?_
 have hT4:=hT3.on hE4
 have hA4:w4.heap[w.heap.size]? =some (.cells #[hv,rv,vi N.rw,vi N.rf] 65 (0,0)):=Ext.at (hE13.trans hE4) hA
 have p2:zai w4 (some ⟨w.heap.size,2,Option.none⟩)=some (vi N.rw):=zae hA4 rfl
 have hro:∀r∈renN N,zbH r:=zha (zed hG)
 have hrl:(renN N).length≤1000000000:=by
  have h1:=zdp hG
  have h2:=zg9 (l:=zcV N)
  unfold renN;omega
 obtain⟨ren,hren⟩:∃r,renN N=r:=⟨_,rfl⟩
 obtain⟨k0,hk0⟩:∃k:Nat,N.rw=(k:Int):=⟨N.rw.toNat,by omega⟩
 have hF:zaV N=zaR ren k0 (zbu N):=by unfold zaV;rw[hren,hk0];rfl
 rw[hren]at hR4 hro hrl
 rw[hF]
 rw[hk0]at p2 hw
 obtain⟨F,hFe⟩:∃F,zaR ren k0 (zbu N)=F:=⟨_,rfl⟩
 rw[hFe]
 have hFk:∀p∈F,NmK p:=by rw[←hFe];exact zft bk
 repeat refine c_r ?_
 refine rg2 p2 Nat.zero_add ?_
 repeat refine c_r ?_
 refine zaC (Q:=fun e σ' ds' v'=>ds'=[]∧Ext w1 v'∧((e= .exit 0∧σ' 6=zaq tb∧((canN F).length:Int)≤most∧∃s',T_bool.TI w1 v' tb s' (putB F))∨(e= .ret∧σ' 4= .slice Option.none 0 0∧σ' 5=vi 11∧most<((canN F).length:Int)))) ?_ ?_
 ·refine zaj (fun m σ ds v=>ds=[]∧∃(i:Nat) (qs:List Nm) (s':TS),i+m=k0∧σ 20=vi i∧σ 19=vi k0∧σ 1=vi most∧σ 6=zaq tb∧σ 7=rnv∧T_bool.TI w1 v tb s' (putB qs)∧RenZ (tblk tb s') v rnv ren∧((canN qs).length:Int)≤most∧(∀p∈qs,NmK p)∧zaR ren (k0 - i) qs=F) k0 ?_ ?_
  ·exact⟨rfl,0,zbu N,s,by omega,vr0,vq0,vq0,vq0,vq0,hT4,hR4,by omega,bk,hFe⟩
  rintro m σ ds v ⟨rfl,i,qs,s1,him,s20,s19,s1',s6,s7,hTv,hRv,hml,hqk,hcl⟩
  unfold zaq at s6
  repeat refine c_r ?_
  refine rg2 s20 s19 ?_
  repeat refine c_r ?_
  refine wc0 ?_ ?_
  ·intro hlt
   simp only[decide_eq_true_eq]at hlt
   have hi:i<k0:=by omega
   have hi1':(i:Int)+1=((i+1:Nat):Int):=by push_cast;rfl
   obtain⟨j,hj⟩:∃j,k0 - i=j+1:=⟨k0 - i - 1,by omega⟩
   rw[hj]at hcl
   have hF1:(canN (qs++zaw ren (canN qs))).length≤(canN F).length:=by
    rw[←hcl]
    unfold zaR
    split
    ·exact Nat.le_refl _
    ·exact ze8
   have hqk2:∀p∈qs++zaw ren (canN qs),NmK p:=fun p hp=>by
    rcases List.mem_append.1 hp with hp|hp
    ·exact hqk p hp
    ·exact zbc (zg6 hp)
   repeat refine c_r ?_
   refine rc s6 (zc4 hTv (by omega)) ?_
   rintro _ v1 ⟨rfl,hE5⟩
   refine re trivial ?_
   have hTv1:=hTv.on hE5
   have hRv1:RenZ (tblk tb s1) v1 rnv ren:=hRv.turn (hE5.mono fun _ _ h=>h.elim) (fun b hb=> .inl hb)
   repeat refine c_r ?_
   refine rc (an3 s6 s7 s1') (back_ok hTv1 hqk hml hmost hRv1 hro hrl) ?_
   rintro _ v2 (⟨rfl,hm2,s2,hT2,hk2,hs2⟩| ⟨rfl,hm2,hE6⟩)
   ·refine re trivial ?_
    have hRv2:=hRv1.turn hk2 hs2
    repeat refine c_r ?_
    refine rg0 ?_
    repeat refine c_r ?_
    refine wf trivial ?_
    repeat refine c_r ?_
    by_cases heq:(canN (qs++zaw ren (canN qs))).length=(canN qs).length
    ·have hFq:qs++zaw ren (canN qs)=F:=by rw[←hcl];unfold zaR;rw[if_pos heq]
     refine rc s6 (zc4 hT2 (by omega)) ?_
     rintro _ v3 ⟨rfl,hE7⟩
     refine re (decide_eq_true (show((canN (qs++zaw ren (canN qs))).length:Int)=((canN qs).length:Int) by omega)) ?_
     repeat refine c_r ?_
     refine wt trivial ?_
     repeat refine c_r ?_
     rw[hFq]at hT2 hm2
     exact⟨rfl,hT2.ext.trans hE7,.inl ⟨rfl,(vq1 s6),hm2,s2,hT2.on hE7⟩⟩
    ·have hFq:zaR ren j (qs++zaw ren (canN qs))=F:=by
      rw[←hcl]
      conv=>rhs;unfold zaR
      rw[if_neg heq]
     refine rc s6 (zc4 hT2 (by omega)) ?_
     rintro _ v3 ⟨rfl,hE7⟩
     refine re (decide_eq_false (show¬((canN (qs++zaw ren (canN qs))).length:Int)=((canN qs).length:Int) by omega)) ?_
     repeat refine c_r ?_
     refine wf trivial ?_
     repeat refine c_r ?_
     refine rg2 s20 hi1' ?_
     repeat refine c_r ?_
     exact⟨m - 1,by omega,rfl,i+1,_,s2,by omega,vq0,(vq1 s19),(vq1 s1'),(vq1 s6),(vq1 s7),hT2.on hE7,hRv2.turn (hE7.mono fun _ _ h=>h.elim) (fun b hb=> .inl hb),hm2,hqk2,by rw[show k0 - (i+1)=j by omega];exact hFq⟩
   ·refine re trivial ?_
    repeat refine c_r ?_
    refine rg0 ?_
    repeat refine c_r ?_
    refine wt trivial ?_
    repeat refine c_r ?_
    refine rg0 ?_
    repeat refine c_r ?_
    exact⟨rfl,hE6,.inr ⟨rfl,vr0,vr0,by omega⟩⟩
  ·intro hge
   simp only[decide_eq_false_iff_not]at hge
   have hFq:qs=F:=by rw[←hcl,show k0 - i=0 by omega];rfl
   rw[hFq]at hTv hml
   repeat refine c_r ?_
   exact⟨rfl,hTv.ext,.inl ⟨rfl,(vq1 s6),hml,s1,hTv⟩⟩
 rintro e σ' ds' v' ⟨rfl,hEv,(⟨rfl,s6,hml,s',hT'⟩| ⟨rfl,h4,h5,hgt2⟩)⟩
 ·unfold zaq at s6
  repeat refine c_r ?_
  refine rc s6 (zeN hT' hFk (by omega)) ?_
  rintro lv w9 ⟨hE9,hlv⟩
  refine re trivial ?_
  repeat refine c_r ?_
  refine zaH (.inr rfl) Tryz.ntmps49 rfl (zap (v:=lv) (vq0) (zap (v:=vi 0) (vr0) zaI)) ?_
  exact⟨hE1.trans (hEv.trans hE9),.inr ⟨hml,lv,rfl,(hlv NoS (fun _ h=>h.elim)).at⟩⟩
 ·repeat refine c_r ?_
  refine zaH (.inr rfl) Tryz.ntmps49 rfl (zap (v:= .slice Option.none 0 0) ((vq1 h4)) (zap (v:=vi 11) ((vq1 h5)) zaI)) ?_
  exact⟨hE1.trans hEv,.inl ⟨hgt2,rfl⟩⟩
end Go.Proofs.YtopbbjdembnfdaaGreat
namespace Go.Proofs.YtopbbjdembnfdaaGreat
open Go Go.ChangeShapes Go.WideShapes Go.ChangeAt Go.RowKit Go.WideElems
theorem Ext.below{w x:World}(h:Ext w x):RowKit.Below w.heap.size w x:=⟨h.os,h.tape,h.output,h.size,fun k hk=>h.block k hk (fun h=>h)⟩
theorem Ext.kept{w x:World}(h:Ext w x)(may:MemPlace→Prop):w.keptBut x may:=by
 refine⟨h.os,h.output,fun i hi=>?_⟩
 rw[h.block i hi (fun h=>h)]
 cases hw:w.heap[i]? with
 |none=>trivial
 |some o=>cases o<;>simp
theorem zc5{H:Type}{enc:TypeId×Value→H}{P:Program}(hl:laidOutB P=true){W W':World}{sp:Nat→Bool}(hE:Ext W W'):
  ∀{ts:List TypeId} {vs:List Value} {ds:List (DataW H)} {ps:List MemPlace},(∀t∈ts,P.readableRec t=true∧t<P.types.size)→DataW.TrodAll enc P W 0 (fun _=>true) true ts vs ds ps→(∀x∈ps,x.block<W.heap.size)→(∀x∈ps,sp x.block=true)→
   DataW.TrodAll enc P W' 0 sp true ts vs ds ps
 | [],_,_,_,_,h,_,_=>by
  obtain⟨rfl,rfl,rfl⟩:=trodAll_nil h
  exact trodAll_mk0
 |_::_,_,_,_,ht,h,hlt,hs=>by
  obtain⟨v,vs1,d,ds1,a,b,rfl,rfl,rfl,h1,h2⟩:=trodAll_cons h
  obtain⟨hr,hrow⟩:=ht _ (List.mem_cons_self ..)
  exact trodAll_cons_mk (WideElems.Trod_stays hl hr hrow h1 (fun x hx=>hE.below.same (hlt x (List.mem_append_left _ hx))) (fun x hx=>hs x (List.mem_append_left _ hx)))
   (zc5 hl hE (fun t h=>ht t (List.mem_cons_of_mem _ h)) h2 (fun x hx=>hlt x (List.mem_append_right _ hx)) (fun x hx=>hs x (List.mem_append_right _ hx)))
theorem zhT{w x:World}(h:Ext w x){b:Nat}(hb:b<w.heap.size)(o:Nat):x.frozen? ⟨b,o,Option.none⟩=w.frozen? ⟨b,o,Option.none⟩:=by
 unfold World.frozen?
 rw[h.block b hb (fun h=>h)]
theorem law_post{H:Type}{enc:TypeId×Value→H}{P:Program}{f:Func}{s:ChangeSpec}{apart fresh handsOn again:Bool}{W W':World}{args:Array Value}{ds gs:List (DataW H)}{before:List MemPlace}
  (hW:DataW.Whole enc P f.params.toList s.vars apart W args.toList ds gs before) (hvn:s.vars=[]) (hspec:s.fn H ds={results:=[.lit (.bool true)],args:=ds}) {tb:TypeId} (hrt:f.resultTypes=#[tb]) (htb:P.underlying tb=some .bool)
  (hl:laidOutB P=true) (hrd:∀t∈f.params.toList,P.readableRec t=true∧t<P.types.size) (hE:Ext W W'):s.post enc P f apart fresh handsOn again W args (.bool true) W':=by
 have hlt:=hW.lt
 have hW0:=hW
 obtain⟨p,q,hA,hV,hpq,hfz,hnd⟩:=hW
 have hq:gs=[]∧q=[]:=by
  rw[hvn]at hV
  cases gs with
  |nil=>exact⟨rfl,hV⟩
  |cons _ _=>exact hV.elim
 obtain⟨rfl,rfl⟩:=hq
 rw[List.append_nil]at hpq
 subst hpq
 have hres:∀(b:Nat) (sp:Nat→Bool) (hd:Bool),DataW.TrodAll enc P W' b sp hd f.resultTypes.toList ((Value.bool true).resultList f.resultTypes.size) (s.fn H (ds++ [])).results []:=fun b sp hd=>by
  rw[List.append_nil,hspec,hrt]
  exact trodAll_mk1 (shut_bool htb true)
 have hargs:∀sp:Nat→Bool,(∀x∈before,sp x.block=true)→DataW.TrodAll enc P W' 0 sp true f.params.toList args.toList (s.fn H (ds++ [])).args before:=fun sp hs=>by
  rw[List.append_nil,hspec]
  exact zc5 hl hE hrd hA hlt hs
 have hvars:∀sp:Nat→Bool,DataW.TrodVars enc P W' sp s.vars (s.fn H (ds++ [])).vars []:=fun sp=>by
  rw[List.append_nil,hspec,hvn];rfl
 have hold:∀x∈before,(fun b=>decide (b<W.heap.size)) x.block=true:=fun x hx=>by simpa using hlt x hx
 refine⟨ds,[],before,[],before,[],hW0,hres _ _ _,hargs _ hold,hvars _,hE.kept _,fun _=>?_⟩
 refine⟨fun j t r h1 h2=>?_,_,_,([]++before)++ [],⟨[]++before,[],trodAll_append (hargs _ (fun _ _=>rfl)) (hres _ _ _),hvars _,rfl,?_,?_⟩,?_⟩
 ·rw[hrt]at h1 h2
  match j with
  |0=>
   simp at h1
   subst h1
   have:r= .bool true:=by simpa [Value.resultList] using h2.symm
   subst this
   exact okWide_bool_mk htb true
  |j+1=>simp at h1
 ·intro b off hp
  have hp':MemPlace.cell b off∈before:=by simpa using hp
  rw[zhT hE (show b<W.heap.size from hlt _ hp')]
  exact hfz b off hp'
 ·intro ha
  simpa using hnd ha
 ·intro x hx _
  simpa using hx
theorem law_lift{C:Checked}{os:Os}{f:FuncId}{fn:Func}{s:ChangeSpec}{conds:List PathCond}{apart fresh handsOn again:Bool}{H:Type}{enc:TypeId×Value→H}
  (own:ownKnob C.prog.godebug=none) (started:os.Started) (noInit:C.prog.inits.idxOf? f=none) (hfn:C.prog.funcs[f]? =some fn)
  (witness:∃(w:World) (tape:Tape) (i:Input),w.os=os∧(w.forCall tape i).Shaped C.prog∧i.vars=[]∧Input.okWide C.prog (w.forCall tape i) .any w.heap.size f i∧
   s.pre6 enc C.prog fn conds apart (w.forCall tape i).memory i.args∧({}:Assume).holds C.prog (lone (Frame.enter C.prog f i.args .normal) [] (w.forCall tape i)))
  (hvn:s.vars=[]) (hspec:∀ds:List (DataW H),ds.length=fn.params.size→s.fn H ds={results:=[.lit (.bool true)],args:=ds}) {tb:TypeId} (hrt:fn.resultTypes=#[tb]) (htb:C.prog.underlying tb=some .bool)
  (hl:laidOutB C.prog=true) (hrd:fn.params.toList.all (fun t=>C.prog.readableRec t && decide (t<C.prog.types.size))=true)
  (walk:∀(W:World) (base:Nat) (args:List Value) (ds:List (DataW H)) (p:List MemPlace),(∀(j:Nat) t v,fn.params[j]? =some t→args[j]? =some v→Value.okWide C.prog W .any base t v)→
   DataW.TrodAll enc C.prog W 0 (fun _=>true) true fn.params.toList args ds p→(∀x∈DataW.weightsEach C.prog fn.params.toList ds,x≤reachBytes)→Fn C.prog f args.toArray W (fun v W'=>v= .bool true∧Ext W W')):
  ReturnsInHanded {} C os f .any (s.pre6 enc C.prog fn conds apart) (s.post enc C.prog fn apart fresh handsOn again):=by
 refine returnsInHanded_of_change_sized own started noInit hfn witness ?_
 intro W base args ds gs before hval hW _ hwt _
 have hW0:=hW
 obtain⟨p,q,hA,hV,_⟩:=hW
 have hgs:gs=[]:=by
  rw[hvn]at hV
  cases gs with
  |nil=>rfl
  |cons _ _=>exact hV.elim
 subst hgs
 have hvt:s.plain.varTypes C.prog=[]:=by
  unfold DataSpec.varTypes
  rw[show s.plain.vars=[] from hvn];rfl
 rw[hvt,List.append_nil,List.append_nil]at hwt
 have hlen:∀{ts:List TypeId} {vs:List Value} {ds:List (DataW H)} {ps:List MemPlace},DataW.TrodAll enc C.prog W 0 (fun _=>true) true ts vs ds ps→ds.length=ts.length:=by
  intro ts
  induction ts with
  |nil=>intro vs ds ps h;obtain⟨rfl,rfl,rfl⟩:=trodAll_nil h;rfl
  |cons t ts ih=>
   intro vs ds ps h
   obtain⟨v,vs1,d,ds1,a,b,rfl,rfl,rfl,h1,h2⟩:=trodAll_cons h
   simp[ih h2]
 have hw:=walk W base args.toList ds p (fun j t v h1 h2=>hval j t v h1 (by simpa using h2)) hA (fun x hx=>by simpa using (List.all_eq_true.1 hwt) x hx)
 rw[Array.toArray_toList]at hw
 refine Calls.mono (callsIn_wide.1 hw) ?_
 rintro e W' ⟨v,rfl,rfl,hE⟩
 refine⟨_,rfl,law_post hW0 hvn (hspec ds (by rw[hlen hA];simp)) hrt htb hl (fun t ht=>?_) hE⟩
 have:=(List.all_eq_true.1 hrd) t ht
 simpa using this
/-! arguments -/
section
variable {H : Type} {enc : TypeId × Value → H} {P : Program} {w : World} {base : Nat} {sp : Nat → Bool} {held : Bool}
def Rd(enc:TypeId×Value→H)(P:Program)(w:World)(base:Nat)(sp:Nat→Bool)(held:Bool)(t:TypeId)(v:Value):Prop:=∃n x,DataW.trod enc P w base sp held n t [v]=some x∧∀k∈x.1.weights P t,k≤reachBytes
theorem zb6{e:TypeId}{d:DataW H}{k:Nat}:∀{l:List (DataW H)},d∈l→k∈d.weights P e→k∈DataW.weightsAll P e l
 |a::l,hd,hk=>by
  simp only[DataW.weightsAll,List.mem_append]
  rcases List.mem_cons.1 hd with rfl|hd
  ·exact .inl hk
  ·exact .inr (zb6 hd hk)
theorem zfi{t e:TypeId}{v:Value}(h:Rd enc P w base sp held t v)(ht:P.underlying t=some (.slice e))(hc:P.cellsOf e=1):
  ∃vals,Row w v vals∧(∀u∈vals,Rd enc P w base sp held e u)∧vals.length*P.bytesOf e≤reachBytes:=by
 obtain⟨n,x,h,hw⟩:=h
 rcases Go.Deep.open_slice1 ht hc h with ⟨h1,_⟩| ⟨a,len,cap,m,k,V,D,Pl,h1,_,hl,hm,hmm,rfl,hx⟩
 ·simp only[List.cons.injEq,and_true]at h1
  subst h1
  exact⟨[],⟨Option.none,0,rfl,Nat.le_refl _,fun j h=>by simp at h⟩,fun u h=>(by cases h),by simp⟩
 ·simp only[List.cons.injEq,and_true]at h1
  subst h1
  have hml:len≤m:=by rw[hmm];split<;>omega
  simp only[DataW.weights,ht]at hw
  refine⟨(List.range len).map V,⟨some a,cap,by simp,by simpa using hl,fun j hj=>?_⟩,fun u hu=>?_,?_⟩
  ·simp at hj
   have:=(hx j (by omega)).1
   simpa [zai,adr] using this
  ·obtain⟨j,hj,rfl⟩:=List.mem_map.1 hu
   simp at hj
   refine⟨_,_,(hx j (by omega)).2,fun q hq=>hw q (List.mem_cons_of_mem _ (List.mem_append_left _ (zb6 (d:=D j) ?_ hq)))⟩
   exact List.mem_map.2 ⟨j,by simpa using hj,rfl⟩
  ·have h1:=hw _ (List.mem_cons_self ..)
   have h2:((List.range len).map V).length*P.bytesOf e≤(((List.range len).map D).length+((List.range (m - len)).map fun j=>D (len+j)).length)*P.bytesOf e:=Nat.mul_le_mul (by simp) (Nat.le_refl _)
   omega
theorem ziC{t:TypeId}{v:Value}(h:Rd enc P w base sp held t v)(ht:P.underlying t=some .string):∃s:List UInt8,v=vs s∧s.length≤reachBytes:=by
 obtain⟨n,x,h,hw⟩:=h
 cases n with
 |zero=>cases h
 |succ n=>
  unfold DataW.trod at h
  rw[ht]at h
  cases v<;>simp at h
  rename_i s
  obtain⟨_,rfl⟩:=h
  exact⟨s.data.toList,by simp[vs],by simpa [DataW.weights,ByteArray.toList_eq] using hw⟩
theorem zgE{α β:Type}{f:α→β}{Q:α→Prop}:∀{l:List β},(∀u∈l,∃s,u=f s∧Q s)→∃m:List α,l=m.map f∧∀s∈m,Q s
 | [],_=>⟨[],rfl,fun s h=>by cases h⟩
 |b::l,h=>by
  obtain⟨s,rfl,hq⟩:=h b (List.mem_cons_self ..)
  obtain⟨m,rfl,hm⟩:=zgE (fun u hu=>h u (List.mem_cons_of_mem _ hu))
  refine⟨s::m,rfl,fun x hx=>?_⟩
  rcases List.mem_cons.1 hx with rfl|hx
  ·exact hq
  ·exact hm x hx
end
end Go.Proofs.YtopbbjdembnfdaaGreat
namespace Go.Proofs.YtopbbjdembnfdaaGreat
open Go
section
variable {H : Type} {enc : TypeId × Value → H} {P : Program} {w : World} {base : Nat} {sp : Nat → Bool} {held : Bool}
structure NmOk(n:Nm):Prop where
 lb:LB n
 len:n.length≤100000000000000
theorem reach_lt:reachBytes<140737488355328:=by decide
theorem zef{t e:TypeId}{v:Value}(h:Rd enc P w base sp held t v)(ht:P.underlying t=some (.slice e))(hc:P.cellsOf e=1)(he:P.underlying e=some .string)(hb:P.bytesOf e=16):∃n:Nm,Row w v (n.map vs)∧NmOk n:=by
 obtain⟨vals,hr,hall,hl⟩:=zfi h ht hc
 obtain⟨m,rfl,hm⟩:=zgE (f:=vs) (fun u hu=>ziC (hall u hu) he)
 have:=reach_lt
 rw[hb]at hl
 exact⟨m,hr,fun l hl=>by have:=hm l hl;omega,by simp at hl;omega⟩
theorem rd_names{t ts tb:TypeId}{v:Value}(h:Rd enc P w base sp held t v)(ht:P.underlying t=some (.slice ts))(hc:P.cellsOf ts=1)(ht2:P.underlying ts=some (.slice tb))(hc2:P.cellsOf tb=1)(he:P.underlying tb=some .string)(hb:P.bytesOf tb=16):
  ∃L:List Nm,NamesAt w v L∧∀n∈L,NmOk n:=by
 obtain⟨vals,hr,hall,hlen0⟩:=zfi h ht hc
 have:∃L:List Nm,(vals.length=L.length∧∀i (h:i<vals.length) (h':i<L.length),Row w vals[i] (L[i].map vs))∧∀n∈L,NmOk n:=by
  clear hr h hlen0
  induction vals with
  |nil=>exact⟨[],⟨rfl,fun i h=>by simp at h⟩,fun n h=>by cases h⟩
  |cons u vals ih=>
   obtain⟨n,hn,hok⟩:=zef (hall u (List.mem_cons_self ..)) ht2 hc2 he hb
   obtain⟨L,⟨h1,h2⟩,h3⟩:=ih (fun x hx=>hall x (List.mem_cons_of_mem _ hx))
   refine⟨n::L,⟨by simp[h1],fun i a b=>?_⟩,fun x hx=>?_⟩
   ·cases i with
    |zero=>exact hn
    |succ i=>exact h2 i (by simpa using a) (by simpa using b)
   ·rcases List.mem_cons.1 hx with rfl|hx
    ·exact hok
    ·exact h3 x hx
 obtain⟨L,⟨h1,h2⟩,h3⟩:=this
 exact⟨L,⟨vals,hr,h1,h2⟩,h3⟩
end
section
variable {H : Type} {enc : TypeId × Value → H} {P : Program} {w : World} {base : Nat} {sp : Nat → Bool} {held : Bool}
def RdC(enc:TypeId×Value→H)(P:Program)(w:World)(base:Nat)(sp:Nat→Bool)(held:Bool)(t:TypeId)(cs:List Value):Prop:=∃n x,DataW.trod enc P w base sp held n t cs=some x∧∀k∈x.1.weights P t,k≤reachBytes
theorem RdC.one{t:TypeId}{v:Value}(h:RdC enc P w base sp held t [v]):Rd enc P w base sp held t v:=h
theorem Rd.c{t:TypeId}{v:Value}(h:Rd enc P w base sp held t v):RdC enc P w base sp held t [v]:=h
theorem zgh{a:Addr}:∀(k i:Nat) {l:List Value},l.length=k→(∀j (h:j<l.length),w.cell? (a.add (i+j))=some l[j])→zaF w a i k=some l
 |0,_,l,hl,_=>by
  have:l=[]:=List.length_eq_zero_iff.1 hl
  subst this;rfl
 |k+1,i,l,hl,h=>by
  cases l with
  |nil=>cases hl
  |cons v l=>
   have h0:=h 0 (by simp)
   have ih:=zgh (l:=l) k (i+1) (by simpa using hl) (fun j hj=>by
    have:=h (j+1) (by simpa using hj)
    rw[show i+(j+1)=i+1+j from by omega]at this
    simpa using this)
   unfold zaF
   rw[Nat.add_zero]at h0
   rw[h0,ih];rfl
theorem zee{t e:TypeId}{k:Nat}{v:Value}(h:Rd enc P w base sp held t v)(ht:P.underlying t=some (.slice e))(hc:P.cellsOf e=k):
  ∃L,RowK k w v L∧(∀cs∈L,RdC enc P w base sp held e cs)∧L.length*P.bytesOf e≤reachBytes:=by
 obtain⟨n,x,h,hw⟩:=h
 rcases Go.Deep.open_slice ht h with ⟨h1,_⟩| ⟨a,len,cap,m,q,D,Pl,h1,_,hl,hm,hmm,rfl,hx⟩
 ·simp only[List.cons.injEq,and_true]at h1
  subst h1
  exact⟨[],⟨Option.none,0,rfl,Nat.le_refl _,fun j h=>by simp at h⟩,fun u h=>(by cases h),by simp⟩
 ·simp only[List.cons.injEq,and_true]at h1
  subst h1
  have hml:len≤m:=by rw[hmm];split<;>omega
  simp only[DataW.weights,ht]at hw
  rw[hc]at hx
  obtain⟨V,hV⟩:=Go.Deep.choose_lt (α:=List Value) (p:=fun i cs=>w.cells? base (a.add (i*k)) k=some cs∧DataW.trod enc P w base sp held q e cs=some (D i,Pl i)) hx
  refine⟨(List.range len).map V,⟨some a,cap,by simp,by simpa using hl,fun j hj=>?_⟩,fun u hu=>?_,?_⟩
  ·simp at hj
   obtain⟨_,h2,h3⟩:=World.cells?_some (hV j (by omega)).1
   have e1:((List.range len).map V)[j]'(by simpa using hj)=V j:=by simp
   rw[e1]
   show zaF w (a.add (j*k)) 0 k=_
   refine zgh k 0 h2 (fun i hi=>?_)
   rw[Nat.zero_add,h3 i (by omega)]
   exact List.getElem?_eq_getElem hi
  ·obtain⟨j,hj,rfl⟩:=List.mem_map.1 hu
   simp at hj
   refine⟨_,_,(hV j (by omega)).2,fun q hq=>hw q (List.mem_cons_of_mem _ (List.mem_append_left _ (zb6 (d:=D j) ?_ hq)))⟩
   exact List.mem_map.2 ⟨j,by simpa using hj,rfl⟩
  ·have h1:=hw _ (List.mem_cons_self ..)
   have h2:((List.range len).map V).length*P.bytesOf e≤(((List.range len).map D).length+((List.range (m - len)).map fun j=>D (len+j)).length)*P.bytesOf e:=Nat.mul_le_mul (by simp) (Nat.le_refl _)
   omega
theorem zda{e:TypeId}{fs:Array Field}{cs:List Value}(h:RdC enc P w base sp held e cs)(he:P.underlying e=some (.struct fs)):cs.length=P.cellsOf e∧∀(i:Nat) (f:Field),fs[i]? =some f→RdC enc P w base sp held f.type ((cs.drop f.offset).take (P.cellsOf f.type)):=by
 obtain⟨n,x,h,hw⟩:=h
 obtain⟨xs,m,_,rfl,hl,hxl,hf⟩:=DataW.trod_struct he h
 refine⟨hl,fun i f hfi=>?_⟩
 have hi:i<fs.size:=(Array.getElem?_eq_some_iff.1 hfi).1
 have h1:=hf i f hfi
 rw[List.getElem?_eq_getElem (by omega)]at h1
 refine⟨m,_,h1,fun k hk=>hw k ?_⟩
 simp only[DataW.weights,he]
 refine DataW.weights_mem_each (ts:=fs.toList.map (·.type)) (ds:=xs.map (·.1)) (j:=i) (t:=f.type) (d:=xs[i].1) ?_ ?_ k hk
 ·rw[List.getElem?_map]
  rw[show fs.toList[i]? =some f from by simpa using hfi];rfl
 ·rw[List.getElem?_map,List.getElem?_eq_getElem (by omega)];rfl
theorem zfL{t:TypeId}{k:IntKind}{cs:List Value}(h:RdC enc P w base sp held t cs)(ht:P.underlying t=some (.int k)):∃n,cs=[.int k n]∧(Lit.int k n).wf=true:=by
 obtain⟨n,x,h,_⟩:=h
 obtain⟨m,h1,_,h2⟩:=DataW.trod_int ht h
 exact⟨m,h1,h2⟩
end
set_option maxRecDepth 100000
section
variable {H : Type} {enc : TypeId × Value → H} {P : Program} {w : World} {base : Nat} {sp : Nat → Bool} {held : Bool}
theorem zgy{t e:TypeId}{k:IntKind}{v:Value}(h:Rd enc P w base sp held t v)(ht:P.underlying t=some (.slice e))(hc:P.cellsOf e=1)(he:P.underlying e=some (.int k)):∃l:List Int,Row w v (l.map (.int k))∧∀n∈l,(Lit.int k n).wf=true:=by
 obtain⟨vals,hr,hall,_⟩:=zfi h ht hc
 obtain⟨m,rfl,hm⟩:=zgE (f:=fun n=>Value.int k n) (Q:=fun n=>(Lit.int k n).wf=true) (fun u hu=>by
  obtain⟨n,h1,h2⟩:=zfL (hall u hu).c he
  exact⟨n,by simpa using h1,h2⟩)
 exact⟨m,hr,hm⟩
theorem wf_u32{n:Int}(h:(Lit.int .u32 n).wf=true):0≤n∧n≤4294967295:=by
 simp[Lit.wf,IntKind.min,IntKind.max,IntKind.signed,IntKind.bits]at h
 omega
theorem wf_u8{n:Int}(h:(Lit.int .u8 n).wf=true):0≤n∧n≤255:=by
 simp[Lit.wf,IntKind.min,IntKind.max,IntKind.signed,IntKind.bits]at h
 omega
theorem bytes_of{l:List Int}(h:∀n∈l,(Lit.int .u8 n).wf=true):∃m:List UInt8,l.map (Value.int .u8)=m.map zaf:=by
 induction l with
 |nil=>exact⟨[],rfl⟩
 |cons n l ih=>
  obtain⟨m,hm⟩:=ih (fun x hx=>h x (List.mem_cons_of_mem _ hx))
  have hb:=wf_u8 (h n (List.mem_cons_self ..))
  obtain⟨k,rfl⟩:∃k:Nat,n=(k:Int):=⟨n.toNat,by omega⟩
  exact⟨UInt8.ofNat k::m,by rw[List.map_cons,List.map_cons,hm,zht (by omega)]⟩
theorem rd_data{cs:List Value}(h:RdC enc Tryz.prog w base sp held 59 cs):∃d:DatL,DatAt w cs d∧∀n∈d.nums,0≤n∧n≤4294967295:=by
 obtain⟨hl,hf⟩:=zda h rfl
 have hl5:cs.length=5:=hl
 match cs,hl5 with
 | [c0,c1,c2,c3,c4],_=>
  obtain⟨ty,e0,_⟩:=zfL (hf 0 _ rfl) rfl
  obtain⟨names,n1,_⟩:=rd_names (P:=Tryz.prog) (ts:=23) (tb:=9) (RdC.one (hf 1 _ rfl)) rfl rfl rfl rfl rfl rfl
  obtain⟨nums,n2,n3⟩:=zgy (RdC.one (hf 2 _ rfl)) rfl rfl rfl
  obtain⟨texts,n4,_⟩:=zef (P:=Tryz.prog) (RdC.one (hf 3 _ rfl)) (e:=9) rfl rfl rfl rfl
  obtain⟨raw,n5,n6⟩:=zgy (RdC.one (hf 4 _ rfl)) rfl rfl rfl
  obtain⟨rb,hrb⟩:=bytes_of n6
  rw[hrb]at n5
  have e0':c0=vi ty:=List.head_eq_of_cons_eq (show [c0]=[vi ty] from e0)
  exact⟨⟨ty,names,nums,texts,rb⟩,⟨c1,c2,c3,c4,by rw[e0'],n1,n2,n4,n5⟩,fun n hn=>wf_u32 (n3 n hn)⟩
theorem rd_rec{cs:List Value}(h:RdC enc Tryz.prog w base sp held 110 cs):∃r:RecL,RecAt w cs r∧∀n∈r.dat.nums,0≤n∧n≤4294967295:=by
 obtain⟨hl,hf⟩:=zda h rfl
 have hl7:cs.length=7:=hl
 match cs,hl7 with
 | [c0,c1,c2,c3,c4,c5,c6],_=>
  obtain⟨owner,n0,_⟩:=zef (P:=Tryz.prog) (RdC.one (hf 0 _ rfl)) (e:=9) rfl rfl rfl rfl
  obtain⟨ttl,e1,_⟩:=zfL (hf 1 _ rfl) rfl
  obtain⟨d,hd,hn⟩:=rd_data (hf 2 _ rfl)
  have e1':c1=v32 ttl:=List.head_eq_of_cons_eq (show [c1]=[v32 ttl] from e1)
  have hd':DatAt w [c2,c3,c4,c5,c6] d:=hd
  exact⟨⟨owner,ttl,d⟩,⟨c0,[c2,c3,c4,c5,c6],by rw[e1'],n0,hd'⟩,hn⟩
theorem rd_recs{v:Value}(h:Rd enc Tryz.prog w base sp held 24 v):∃R:List RecL,Rows 7 (RecAt w) w v R∧NumR R:=by
 obtain⟨L,hL,hall,_⟩:=zee h (e:=110) (k:=7) rfl rfl
 have:∀L:List (List Value),(∀cs∈L,RdC enc Tryz.prog w base sp held 110 cs)→∃R:List RecL,L.length=R.length∧(∀i (h:i<L.length) (h':i<R.length),RecAt w L[i] R[i])∧NumR R:=fun L=>by
  induction L with
  |nil=>intro _;exact⟨[],rfl,fun i h=>by simp at h,fun r h=>by cases h⟩
  |cons cs L ih=>
   intro h
   obtain⟨r,h1,h2⟩:=rd_rec (h cs (List.mem_cons_self ..))
   obtain⟨R,a1,a2,a3⟩:=ih (fun x hx=>h x (List.mem_cons_of_mem _ hx))
   refine⟨r::R,by simp[a1],fun i a b=>?_,fun x hx=>?_⟩
   ·cases i with
    |zero=>exact h1
    |succ i=>exact a2 i (by simpa using a) (by simpa using b)
   ·rcases List.mem_cons.1 hx with rfl|hx
    ·exact h2
    ·exact a3 x hx
 obtain⟨R,a1,a2,a3⟩:=this L hall
 exact⟨R,⟨L,hL,a1,a2⟩,a3⟩
end
end Go.Proofs.YtopbbjdembnfdaaGreat
