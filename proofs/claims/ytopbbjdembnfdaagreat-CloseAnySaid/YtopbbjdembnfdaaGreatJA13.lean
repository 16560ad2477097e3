/-
  Texts of a proof, joined: A8, A9, A10, A11, A12, A13, U0, U1, A14.
  Conditions: none.
-/
import Derived.Test.YtopbbjdembnfdaaGreatJA10
import Derived.Test.YtopbbjdembnfdaaGreatJA12
import Derived.Test.YtopbbjdembnfdaaGreatJA09
import Derived.Test.YtopbbjdembnfdaaGreatJA07
import Derived.Test.YtopbbjdembnfdaaGreatJA05
set_option linter.unusedVariables false
set_option linter.unusedSimpArgs false
set_option linter.defProp false
set_option linter.unnecessarySimpa false
namespace Go.Proofs.YtopbbjdembnfdaaGreat
open Go
set_option maxRecDepth 10000
theorem zh4:zbd smallN:=by
 refine⟨small_z,by decide,by decide,by decide,by decide,by decide,?_,?_⟩
 ·intro h hh
  simp only[smallN,List.mem_cons,List.not_mem_nil,or_false]at hh
  rcases hh with rfl|rfl<;>decide
 ·intro h hh
  simp only[smallN,List.mem_cons,List.not_mem_nil,or_false]at hh
  rcases hh with rfl|rfl<;>exact⟨by decide,by decide⟩
theorem zh5:canN (zaV smallN)=[[],[[97]],[[111]],kH,kX]:=by kernel_rfl
theorem ziJ:renN smallN=[]:=by kernel_rfl
theorem zdk:canN (zbF smallN)=[[],[[97]],[[111]],kH,kX]:=by kernel_rfl
set_option maxHeartbeats 2000000 in
theorem ziB(w:World):Fn Tryz.prog 43 #[] w (fun v w'=>v= .bool true∧Ext w w'):=by
 have hG:=zh4
 refine enter Tryz.func43 Tryz.ntmps43 rfl rfl ?_
 repeat refine c_r ?_
 refine rg0 ?_
 repeat refine c_r ?_
 refine rq ?_;intro gd K hgd hK
 try simp only[go_sem]
 refine Fn.mono (Small_ok w) ?_
 rintro _ w1 ⟨hE1,cs,rfl,hN⟩
 have hc:=hN.one
 try simp only[go_sem]
 refine zbe (P:=Tryz.prog) (l:=cs) (by rw[hc.1];rfl) hc.2 (by rw[hc.1];rfl) rfl ?_
 intro w2 hE2 hs2 hA
 try simp only[go_sem]
 refine hK _ _ ?_;clear hK hgd;clear K;try clear gd
 obtain⟨b1,hb1⟩:∃b,w1.heap.size=b:=⟨_,rfl⟩
 rw[hb1]at hA ⊢
 have dA:=zav (n:=4) hA hc.1.symm
 repeat refine c_r ?_
 refine rc dA (zj6 hE2 hN hG) ?_
 rintro bv w3 ⟨hE3,hbv⟩
 refine re trivial ?_
 rw[zh5]at hbv
 obtain⟨vals,⟨ab,cb,hbe,_,hgb⟩,hvl,hvr⟩:=hbv
 have hv5:vals.length=5:=hvl
 rw[hv5]at hbe
 have dA3:=zag hE3 dA
 repeat refine c_r ?_
 refine rc dA3 (zf2 (most:=100) (hE2.trans hE3) hN hG (by decide)) ?_
 rintro _ w4 ⟨hE4,(⟨hbad,_⟩| ⟨_,lv,rfl,hlv⟩)⟩
 ·rw[zdk]at hbad;exact absurd hbad (by decide)
 refine re trivial ?_
 rw[zdk]at hlv
 obtain⟨vals2,⟨al,cl,hle,_,_⟩,hvl2,_⟩:=hlv
 have hv52:vals2.length=5:=hvl2
 rw[hv52]at hle
 have dA4:=zag hE4 dA3
 repeat refine c_r ?_
 refine rc dA4 (zf2 (most:=2) (hE2.trans (hE3.trans hE4)) hN hG (by decide)) ?_
 rintro _ w5 ⟨hE5,(⟨_,rfl⟩| ⟨hbad,_⟩)⟩
 rotate_left
 ·rw[zdk]at hbad;exact absurd hbad (by decide)
 refine re trivial ?_
 have dA5:=zag hE5 dA4
 have hr0:=hvr 0 (by omega) (by decide)
 obtain⟨a0,c0,e0,_⟩:=hr0
 have g0:=hgb 0 (by omega)
 obtain⟨xb,rfl⟩:=Option.isSome_iff_exists.1 (zaf g0)
 rw[zar,e0]at g0
 have g05:zai w5 (some xb)=some (.slice a0 0 c0):=zab (hE4.trans hE5) g0
 subst hbe hle
 have u1:decide (((5:Nat):Int)=5)=true:=rfl
 have u2:decide (((0:Nat):Int)=0)=true:=rfl
 have u3:(0:Int)<((5:Nat):Int):=by decide
 have u4:(0:Int)≤0:=by decide
 repeat refine c_r ?_
 refine rcg [(3,23),(10,30),(15,35),(19,39),(23,43)] (an9 g05 u1 u2 u3 u4 Int.toNat_zero (Nat.zero_mul 1) (zar (some xb)) (an2 decide_true dA5)) (zd3 (S:=NoS) (hE2.trans (hE3.trans (hE4.trans hE5))) (fun _ h=>h.elim) hN hG) ?_
 rintro rv w6 ⟨hE6,hR⟩
 rw[ziJ]at hR
 obtain⟨ar,cr,rfl,_⟩:=hR.rows.open
 refine reg [(3,23),(10,30),(15,35),(19,39),(23,43)] (an2 (show decide ((([]:List zaE).length:Int)=0)=true from rfl) u2) ?_
 repeat refine c_r ?_
 refine rt0 Tryz.ntmps43 ?_
 exact⟨rfl,hE1.trans (hE2.trans (hE3.trans (hE4.trans (hE5.trans hE6))))⟩
theorem zbP{w:World}{v:Value}{L:List Nm}(h:NamesAt w v L):∃a c,v= .slice a L.length c∧∀i (hi:i<L.length),∃y,zai w (adr a i)=some y∧Row w y (L[i].map vs):=by
 obtain⟨vals,⟨a,c,e,_,hg⟩,hl,hr⟩:=h
 exact⟨a,c,by rw[e,hl],fun i hi=>⟨vals[i]'(by omega),hg i (by omega),hr i (by omega) hi⟩⟩
theorem zeZ{f g:Nm}:(∃k,k≤f.length∧g=f.drop k)↔g<:+f:=by
 constructor
 ·rintro⟨k,_,rfl⟩;exact List.drop_suffix _ _
 ·rintro⟨p,rfl⟩;exact⟨p.length,by simp,by simp⟩
theorem zdM(w:World)(lv nv:Value)(ps:List Nm)(n:Nm)(hl:NamesZ NoS w lv (canN ps))(hn:Row w nv (n.map vs))(hk:∀p∈ps,NmK p)(hnk:NmK n)(hlen:(canN ps).length≤100000000):
  Fn Tryz.prog 115 #[lv,nv] w (fun v w'=>Ext w w'∧NamesZ NoS w' v (canN (ps++ [n]))):=by
 have hnl:=hnk.len
 refine Fn.mono (RAdd_ok w lv nv (canN ps) n hl (fun _ h=>h.elim) hn (fun x hx=>zhG (mem_canN.1 hx)) (fun x hx=>by have h:=inS_k hk (mem_canN.1 hx);have:=h.len;exact⟨h.LB,by omega⟩) hnk.LB (by omega) hlen (zck ps) (fun l f hf=>mem_canN.2 (inS_tail (mem_canN.1 hf)))) ?_
 rintro v w' ⟨hE,L',h1,h2,h3,_⟩
 have:=zhf (ps:=ps++ [n]) h2 fun g=>by
  rw[h3,mem_canN,zjs]
  constructor
  ·rintro(h| ⟨k,hk,rfl⟩)
   ·exact .inl h
   ·exact .inr (.inr ⟨n,by simp,List.drop_suffix _ _⟩)
  ·rintro(h| (rfl| ⟨p,hp,hs⟩))
   ·exact .inl h
   ·exact .inl (.inl rfl)
   ·rw[List.mem_singleton.1 hp]at hs
    obtain⟨k,hk,e⟩:=zeZ.2 hs
    rw[zax]at hk
    exact .inr ⟨k,hk,e⟩
 subst this
 exact⟨hE,h1⟩
theorem ziw{ps:List Nm}(hk:∀p∈ps,NmK p)(hl:ps.length≤20000):(canN ps).length≤100000000:=by
 have h1:=zeS ([]::ps.flatMap fun p=>zcE (zah p))
 have h2:=zgq (l:=ps) (f:=fun p=>zcE (zah p)) (k:=256) (fun p hp=>by rw[zdt,zax];have:=(hk p hp).len;omega)
 unfold canN
 rw[List.length_cons]at h1
 omega
set_option maxHeartbeats 4000000 in
theorem zhZ{w0 w:World}(hE0:Ext w0 w){cs:List Value}{N:NetL}(hN:NetAt w0 cs N)(hG:zbd N):
  Fn Tryz.prog 48 #[.agg cs.toArray] w (fun v w'=>Ext w w'∧NamesZ NoS w' v (canN (zaV N))):=by
 obtain⟨hv,rv,rfl,hh,hr⟩:=hN.ex
 obtain⟨ah,ch,hhv,hch,hgh⟩:=hh.open
 obtain⟨ar,cr,hrv,_⟩:=id hr
 have hl6:=hG.h1.2
 have bk:=zfc hG
 have bl:=zer hG
 have pre_ok:∀{pre suf:List Nm} {x:Nm},zaV N=pre++x::suf→(∀p∈pre,NmK p)∧NmK x∧(canN pre).length≤100000000:=fun {pre suf x} e=>by
  have h1:∀p∈pre,NmK p:=fun p hp=>bk p (by rw[e];exact List.mem_append_left _ hp)
  refine⟨h1,bk x (by rw[e];simp),ziw h1 ?_⟩
  have:=congrArg List.length e
  rw[List.length_append]at this
  omega
 refine enter Tryz.func48 Tryz.ntmps48 rfl rfl ?_
 repeat refine c_r ?_
 rw[hhv,hrv]
 refine rg0 ?_
 rw[←hrv]
 repeat refine c_r ?_
 refine zaN ?_
 intro w1 hE1 hs1 hA
 have p0:zai w1 (some ⟨w.heap.size,0,Option.none⟩)=some (.slice ah N.hosts.length ch):=zae hA rfl
 have hE01:=hE0.trans hE1
 repeat refine c_r ?_
 refine rq ?_;intro gd K hgd hK
 try simp only[go_sem]
 refine zfa (z:= .slice Option.none 0 0) rfl rfl rfl rfl rfl ?_
 intro w2 hE2 hs2 hO
 try simp only[go_sem]
 refine hK _ _ ?_;clear hK hgd;clear K;try clear gd
 have hZ0:NamesZ NoS w2 (.slice (some ⟨w1.heap.size,0,Option.none⟩) 1 1) (canN []):=⟨[.slice Option.none 0 0],⟨hO.row,fun a n c hv=>by cases hv;exact⟨Nat.zero_le _,by show w1.heap.size<_;omega,fun h=>h⟩⟩,rfl,fun i h h'=>by
  have:i=0:=by simp at h;omega
  subst this
  exact⟨⟨Option.none,0,rfl,Nat.le_refl _,fun j h=>absurd h (by simp[canN,insN])⟩,fun a n c hv=>by cases hv⟩⟩
 have hE02:=hE01.trans hE2
 have p02:=zab hE2 p0
 repeat refine c_r ?_
 refine rg0 ?_
 repeat refine c_r ?_
 refine zaj (fun m σ ds v=>ds=[]∧∃(i:Nat) (pre:List Nm) (lv:Value),i+m=N.hosts.length∧σ 4=vi i∧σ 1= .pointer (some ⟨w.heap.size,0,Option.none⟩)∧σ 3=lv∧Ext w2 v∧NamesZ NoS v lv (canN pre)∧zaV N=pre++(N.hosts.drop i).flatMap zeO) N.hosts.length ?_ ?_
 ·exact⟨rfl,0,[],_,by omega,vr0,vq0,vq0,Keep.refl _ _,hZ0,rfl⟩
 rintro m σ ds v ⟨rfl,i,pre,lv,him,s4,s1,s3,hEv,hZ,hbe⟩
 have p0v:=zab hEv p02
 repeat refine c_r ?_
 refine rg4 s4 s1 p0v Nat.add_zero ?_
 repeat refine c_r ?_
 refine wc0 ?_ ?_
 ·intro hlt
  simp only[decide_eq_true_eq]at hlt
  have hi:i<N.hosts.length:=by omega
  have hi0:(0:Int)≤(i:Int):=by omega
  have hi1':(i:Int)+1=((i+1:Nat):Int):=by push_cast;rfl
  obtain⟨hcs,hce,hH⟩:=hgh i hi
  have hmem:=List.getElem_mem hi
  rw[zbg hi]at hbe
  obtain⟨h,hhe⟩:∃x,N.hosts[i]=x:=⟨_,rfl⟩
  rw[hhe]at hH hmem hbe
  obtain⟨nv,b1,b2,b3,b4,zv,rfl,_,hnv,hz⟩:=hH.ex
  obtain⟨az,cz,rfl,hcz,hgz⟩:=hz.open
  have hzl:=hG.zl h hmem
  obtain⟨xa,rfl⟩:=Option.isSome_iff_exists.1 (zak hce)
  obtain⟨xi,hxi⟩:∃xi,adr (some xa) (i*6)=some xi:=⟨_,rfl⟩
  obtain⟨x5,hx5⟩:∃x,adr (some xi) 5=some x:=⟨_,rfl⟩
  rw[hxi]at hce
  have hz0:adr (some xi) 0=some xi:=zar _
  have g0:=zan (j:=0) hce rfl
  rw[hz0]at g0
  have g5:=zan (j:=5) hce rfl
  rw[hx5]at g5
  have hbe1:zaV N=pre++h.name::(h.zones.flatMap zdN++(N.hosts.drop (i+1)).flatMap zeO):=hbe
  obtain⟨k1,k2,k3⟩:=pre_ok hbe1
  have hE0v:=hE02.trans hEv
  repeat refine c_r ?_
  refine rc (an9 s4 s1 s3 p0v Nat.add_zero hi0 hlt hxi (an2 hz0 (zab hE0v g0))) (zdM v lv nv pre h.name hZ (hnv.ext hE0v) k1 k2 k3) ?_
  rintro lv2 v2 ⟨hE3,hZ2⟩
  refine re trivial ?_
  obtain⟨R1,hR1⟩:∃R,(N.hosts.drop (i+1)).flatMap zeO=R:=⟨_,rfl⟩
  have hbe2:zaV N=(pre++ [h.name])++(h.zones.flatMap zdN++R1):=by rw[hbe1,hR1];simp
  clear hbe hbe1 k1 k2 k3
  repeat refine c_r ?_
  refine rg0 ?_
  repeat refine c_r ?_
  refine zaj (fun m σ ds v=>ds=[]∧∃(k:Nat) (pre:List Nm) (lv:Value),k+m=h.zones.length∧σ 5=vi k∧σ 4=vi i∧σ 1= .pointer (some ⟨w.heap.size,0,Option.none⟩)∧σ 3=lv∧Ext w2 v∧NamesZ NoS v lv (canN pre)∧zaV N=pre++((h.zones.drop k).flatMap zdN++R1)) h.zones.length ?_ ?_
  ·exact⟨rfl,0,_,lv2,by omega,vr0,(vq1 s4),(vq1 s1),vq0,hEv.trans hE3,hZ2,hbe2⟩
  clear s4 s1 s3 hZ hZ2 hbe2 p0v hE3
  rintro m2 σ2 ds2 v3 ⟨rfl,k,pre2,lv3,hkm,s5,s4,s1,s3,hEv3,hZ,hbe⟩
  have p03:=zab hEv3 p02
  have hE03:=hE02.trans hEv3
  have g53:=zab hE03 g5
  repeat refine c_r ?_
  refine rg9 s5 s4 s1 p03 Nat.add_zero (an2 hi0 hlt) hxi hx5 g53 ?_
  repeat refine c_r ?_
  refine wc0 ?_ ?_
  ·intro hlt2
   simp only[decide_eq_true_eq]at hlt2
   have hk:k<h.zones.length:=by omega
   have hk0:(0:Int)≤(k:Int):=by omega
   have hk1':(k:Int)+1=((k+1:Nat):Int):=by push_cast;rfl
   obtain⟨zcs,hze,hZn⟩:=hgz k hk
   have hzmem:=List.getElem_mem hk
   rw[zbg hk,List.append_assoc]at hbe
   obtain⟨z,hzz⟩:∃x,h.zones[k]=x:=⟨_,rfl⟩
   rw[hzz]at hZn hzmem hbe
   obtain⟨zo,zl,rfl,hov,hlv⟩:=hZn.ex
   obtain⟨al,cl,rfl,hcl,hgl⟩:=hlv.open
   have gz:=(hG.z.z h hmem z hzmem).gd
   have hrl:=gz.len
   obtain⟨xz,rfl⟩:=Option.isSome_iff_exists.1 (zak hze)
   obtain⟨xk,hxk⟩:∃xi,adr (some xz) (k*2)=some xi:=⟨_,rfl⟩
   rw[hxk]at hze
   have d:=zag hE03 hze
   have o1:=hov.isOne
   repeat refine c_r ?_
   refine rq ?_;intro gd K hgd hK
   try simp (disch:=first|omega|assumption|rfl) only[go_sem,s5,s4,s1,p03,Nat.add_zero,hi0,hlt,hxi,hx5,g53,hk0,hlt2,hxk,d]
   refine zbe (P:=Tryz.prog) (l:=[zo,.slice al z.recs.length cl]) rfl (zbS o1 rfl) rfl rfl ?_
   intro v4 hE4 hs4 hB6
   try simp only[go_sem]
   refine hK _ _ ?_;clear hK hgd;clear K;try clear gd
   obtain⟨c6,hc6⟩:∃b,v3.heap.size=b:=⟨_,rfl⟩
   rw[hc6]at hB6 hs4 ⊢
   have hEv4:=hEv3.trans hE4
   have q0:zai v4 (some ⟨c6,0,Option.none⟩)=some zo:=zae hB6 rfl
   have q1:zai v4 (some ⟨c6,1,Option.none⟩)=some (.slice al z.recs.length cl):=zae hB6 rfl
   obtain⟨R2,hR2⟩:∃R,(h.zones.drop (k+1)).flatMap zdN++R1=R:=⟨_,rfl⟩
   have hbe1:zaV N=pre2++z.o::(z.recs.flatMap recN++R2):=by rw[hbe,hR2];rfl
   obtain⟨k1,k2,k3⟩:=pre_ok hbe1
   repeat refine c_r ?_
   refine rc (an3 s3 q0 Nat.add_zero) (zdM v4 lv3 zo pre2 z.o (hZ.ext hE4) (hov.ext (hE02.trans hEv4)) k1 k2 k3) ?_
   rintro lv4 v5 ⟨hE5,hZ2⟩
   refine re trivial ?_
   have q15:=zab hE5 q1
   have hbe2:zaV N=(pre2++ [z.o])++(z.recs.flatMap recN++R2):=by rw[hbe1];simp
   clear hbe hbe1 k1 k2 k3
   repeat refine c_r ?_
   refine rg0 ?_
   repeat refine c_r ?_
   refine zaj (fun m σ ds v=>ds=[]∧∃(j:Nat) (pre:List Nm) (lv:Value),j+m=z.recs.length∧σ 7=vi j∧σ 6= .pointer (some ⟨c6,0,Option.none⟩)∧σ 5=vi k∧σ 4=vi i∧σ 1= .pointer (some ⟨w.heap.size,0,Option.none⟩)∧σ 3=lv∧Ext v5 v∧NamesZ NoS v lv (canN pre)∧zaV N=pre++((z.recs.drop j).flatMap recN++R2)) z.recs.length ?_ ?_
   ·exact⟨rfl,0,_,lv4,by omega,vr0,vq0,(vq1 s5),(vq1 s4),(vq1 s1),vq0,Keep.refl _ _,hZ2,hbe2⟩
   clear s5 s4 s1 s3 hZ hZ2 hbe2 p03 g53 d
   have hE25:=hEv4.trans hE5
   rintro m3 σ3 ds3 v6 ⟨rfl,j,pre3,lv5,hjm,s7,s6,s5,s4,s1,s3,hE6,hZ,hbe⟩
   have q16:=zab hE6 q15
   have hE06:=hE02.trans (hE25.trans hE6)
   repeat refine c_r ?_
   refine rg4 s7 s6 q16 Nat.zero_add ?_
   repeat refine c_r ?_
   refine wc0 ?_ ?_
   ·intro hlt3
    simp only[decide_eq_true_eq]at hlt3
    have hj:j<z.recs.length:=by omega
    have hj0:(0:Int)≤(j:Int):=by omega
    have hj1':(j:Int)+1=((j+1:Nat):Int):=by push_cast;rfl
    obtain⟨rcs,hre,hR⟩:=hgl j hj
    have hrmem:=List.getElem_mem hj
    rw[zbg hj,List.append_assoc]at hbe
    obtain⟨r,hrr⟩:∃x,z.recs[j]=x:=⟨_,rfl⟩
    rw[hrr]at hR hrmem hbe
    obtain⟨ow,ds,rfl,how,hD⟩:=hR.ex
    obtain⟨nm,nu,tx,rw',rfl,⟨vals,hvr,hvl,hvn⟩,_,_,_⟩:=hD.ex
    obtain⟨an,cn,rfl,hcn,hgn⟩:=id hvr
    have n8:=(gz.few r hrmem).2.n8
    obtain⟨xr,rfl⟩:=Option.isSome_iff_exists.1 (zak hre)
    obtain⟨xj,hxj⟩:∃xi,adr (some xr) (j*7)=some xi:=⟨_,rfl⟩
    rw[hxj]at hre
    have hw0:adr (some xj) 0=some xj:=zar _
    obtain⟨x2,hx2⟩:∃x,adr (some xj) 2=some x:=⟨_,rfl⟩
    obtain⟨x3,hx3⟩:∃x,adr (some x2) 1=some x:=⟨_,rfl⟩
    have f0:=zan (j:=0) hre rfl
    rw[hw0]at f0
    have f2:=zaU (m:=2) (k:=5) hre
    rw[hx2]at f2
    have f3:=zan (j:=1) f2 rfl
    rw[hx3]at f3
    obtain⟨R3,hR3⟩:∃R,(z.recs.drop (j+1)).flatMap recN++R2=R:=⟨_,rfl⟩
    have hbe1:zaV N=pre3++r.owner::(r.dat.names++R3):=by rw[hbe,hR3];rfl
    obtain⟨k1,k2,k3⟩:=pre_ok hbe1
    repeat refine c_r ?_
    refine rc (an9 s3 s7 s6 q16 Nat.zero_add hj0 hlt3 hxj (an2 hw0 (zab hE06 f0))) (zdM v6 lv5 ow pre3 r.owner hZ (how.ext hE06) k1 k2 k3) ?_
    rintro lv6 v7 ⟨hE7,hZ2⟩
    refine re trivial ?_
    have hbe2:zaV N=(pre3++ [r.owner])++(r.dat.names++R3):=by rw[hbe1];simp
    clear hbe hbe1 k1 k2 k3
    repeat refine c_r ?_
    refine rg0 ?_
    repeat refine c_r ?_
    refine zaj (fun m σ ds v=>ds=[]∧∃(q:Nat) (pre:List Nm) (lv:Value),q+m=vals.length∧σ 8=vi q∧σ 7=vi j∧σ 6= .pointer (some ⟨c6,0,Option.none⟩)∧σ 5=vi k∧σ 4=vi i∧σ 1= .pointer (some ⟨w.heap.size,0,Option.none⟩)∧σ 3=lv∧Ext v5 v∧NamesZ NoS v lv (canN pre)∧zaV N=pre++(r.dat.names.drop q++R3)) vals.length ?_ ?_
    ·exact⟨rfl,0,_,lv6,by omega,vr0,(vq1 s7),(vq1 s6),(vq1 s5),(vq1 s4),(vq1 s1),vq0,hE6.trans hE7,hZ2,hbe2⟩
    clear s7 s6 s5 s4 s1 s3 hZ hZ2 hbe2 q16 hE6 hE06 hE7
    rintro m4 σ4 ds4 v8 ⟨rfl,q,pre4,lv7,hqm,s8,s7,s6,s5,s4,s1,s3,hE8,hZ,hbe⟩
    have q18:=zab hE8 q15
    have hE08:=hE02.trans (hE25.trans hE8)
    have f38:=zab hE08 f3
    repeat refine c_r ?_
    refine rg9 s8 s7 s6 q18 Nat.zero_add (an2 hj0 hlt3) hxj (an2 hx2 hx3) f38 ?_
    repeat refine c_r ?_
    refine wc0 ?_ ?_
    ·intro hlt4
     simp only[decide_eq_true_eq]at hlt4
     have hq:q<vals.length:=by omega
     have hqn:q<r.dat.names.length:=by omega
     have hq0:(0:Int)≤(q:Int):=by omega
     have hq1':(q:Int)+1=((q+1:Nat):Int):=by push_cast;rfl
     have gq:=hgn q hq
     have hyr:=hvn q hq hqn
     obtain⟨y,hy⟩:∃y,vals[q]=y:=⟨_,rfl⟩
     obtain⟨x,hxe⟩:∃x,r.dat.names[q]=x:=⟨_,rfl⟩
     rw[hy]at gq hyr
     rw[hxe]at hyr
     obtain⟨xn,rfl⟩:=Option.isSome_iff_exists.1 (zaf gq)
     have hbe1:zaV N=pre4++x::(r.dat.names.drop (q+1)++R3):=by rw[hbe,List.drop_eq_getElem_cons hqn,hxe];rfl
     obtain⟨k1,k2,k3⟩:=pre_ok hbe1
     repeat refine c_r ?_
     refine rc (an9 s3 s8 s7 s6 q18 Nat.zero_add (an4 hj0 hlt3 hxj hx2) hx3 (an4 f38 hq0 hlt4 (zab hE08 gq))) (zdM v8 lv7 y pre4 x hZ (hyr.ext hE08) k1 k2 k3) ?_
     rintro lv8 v9 ⟨hE9,hZ2⟩
     refine re trivial ?_
     repeat refine c_r ?_
     refine rg2 s8 hq1' ?_
     repeat refine c_r ?_
     exact⟨m4 - 1,by omega,rfl,q+1,_,lv8,by omega,vq0,(vq1 s7),(vq1 s6),(vq1 s5),(vq1 s4),(vq1 s1),vq0,hE8.trans hE9,hZ2,by rw[hbe1];simp⟩
    ·intro hge4
     simp only[decide_eq_false_iff_not]at hge4
     rw[List.drop_of_length_le (by omega),List.nil_append,←hR3]at hbe
     repeat refine c_r ?_
     refine rg2 s7 hj1' ?_
     repeat refine c_r ?_
     exact⟨m3 - 1,by omega,rfl,j+1,pre4,lv7,by omega,vq0,(vq1 s6),(vq1 s5),(vq1 s4),(vq1 s1),(vq1 s3),hE8,hZ,hbe⟩
   ·intro hge3
    simp only[decide_eq_false_iff_not]at hge3
    rw[List.drop_of_length_le (by omega),List.flatMap_nil,List.nil_append,←hR2]at hbe
    repeat refine c_r ?_
    refine rg2 s5 hk1' ?_
    repeat refine c_r ?_
    exact⟨m2 - 1,by omega,rfl,k+1,pre3,lv5,by omega,vq0,(vq1 s4),(vq1 s1),(vq1 s3),hE25.trans hE6,hZ,hbe⟩
  ·intro hge2
   simp only[decide_eq_false_iff_not]at hge2
   rw[List.drop_of_length_le (by omega),List.flatMap_nil,List.nil_append,←hR1]at hbe
   repeat refine c_r ?_
   refine rg2 s4 hi1' ?_
   repeat refine c_r ?_
   exact⟨m - 1,by omega,rfl,i+1,pre2,lv3,by omega,vq0,(vq1 s1),(vq1 s3),hEv3,hZ,hbe⟩
 ·intro hge
  simp only[decide_eq_false_iff_not]at hge
  rw[List.drop_of_length_le (by omega),List.flatMap_nil,List.append_nil]at hbe
  repeat refine c_r ?_
  refine rg1 s3 ?_
  repeat refine c_r ?_
  refine rt0 Tryz.ntmps48 ?_
  rw[hbe]
  exact⟨hE1.trans (hE2.trans hEv),hZ⟩
theorem zgK(w:World)(ca cb:List Value)(a b:zaE)(ha:PairAt NoS w ca a)(hb:PairAt NoS w cb b)(oa:zbc a)(ob:zbc b):
  Fn Tryz.prog 112 #[.agg ca.toArray,.agg cb.toArray] w (fun v w'=>Ext w w'∧∃c:Int,v=vi c∧(c<0↔zaR a b<0)∧(c=0↔zaR a b=0)):=by
 obtain⟨a1,a2,rfl,h1,h2⟩:=ha.ex
 obtain⟨b1,b2,rfl,h3,h4⟩:=hb.ex
 have la:=oa.a.len
 have lb:=oa.b.len
 have lc:=ob.a.len
 have ld:=ob.b.len
 obtain⟨x1,c1,e1,_⟩:=id h1.1
 obtain⟨x2,c2,e2,_⟩:=id h2.1
 obtain⟨x3,c3,e3,_⟩:=id h3.1
 obtain⟨x4,c4,e4,_⟩:=id h4.1
 have hc:zaR a b=if cmpN (zah a.1) (zah b.1)=0 then(if cmpN (zah a.2) (zah b.2)=0 then 0 else cmpN (zah a.2) (zah b.2)) else cmpN (zah a.1) (zah b.1):=rfl
 refine enter Tryz.func112 Tryz.ntmps112 rfl rfl ?_
 repeat refine c_r ?_
 rw[e1,e2,e3,e4]
 refine rg0 ?_
 rw[←e1,←e2,←e3,←e4]
 repeat refine c_r ?_
 rw[zaq]
 refine zbK ?_
 intro w1 hE1 hs1 hA hB
 have p0:zai w1 (some ⟨w.heap.size,0,Option.none⟩)=some a1:=zae hA rfl
 have p1:zai w1 (some ⟨w.heap.size,1,Option.none⟩)=some a2:=zae hA rfl
 have q0:zai w1 (some ⟨w.heap.size+1,0,Option.none⟩)=some b1:=zae hB rfl
 have q1:zai w1 (some ⟨w.heap.size+1,1,Option.none⟩)=some b2:=zae hB rfl
 repeat refine c_r ?_
 refine rc (an3 p0 q0 Nat.add_zero) (zb2 w1 _ _ _ _ (h1.1.ext hE1) (h3.1.ext hE1) oa.a.LB ob.a.LB (by omega) (by omega)) ?_
 rintro _ w2 ⟨rfl,hE2⟩
 refine re trivial ?_
 repeat refine c_r ?_
 by_cases hz:cmpN (zah a.1) (zah b.1)=0
 ·refine rg1 (decide_eq_true hz) ?_
  repeat refine c_r ?_
  refine wf trivial ?_
  have p12:=zab hE2 p1
  have q12:=zab hE2 q1
  repeat refine c_r ?_
  refine rc (an3 p12 q12 Nat.zero_add) (zb2 w2 _ _ _ _ (h2.1.ext (hE1.trans hE2)) (h4.1.ext (hE1.trans hE2)) oa.b.LB ob.b.LB (by omega) (by omega)) ?_
  rintro _ w3 ⟨rfl,hE3⟩
  refine re trivial ?_
  repeat refine c_r ?_
  refine rt0 Tryz.ntmps112 ?_
  refine⟨hE1.trans (hE2.trans hE3),_,rfl,?_⟩
  rw[hc,if_pos hz]
  constructor<;>split<;>omega
 ·refine rg1 (decide_eq_false hz) ?_
  repeat refine c_r ?_
  refine wt trivial ?_
  repeat refine c_r ?_
  refine rg0 ?_
  repeat refine c_r ?_
  refine rt0 Tryz.ntmps112 ?_
  refine⟨hE1.trans hE2,_,rfl,?_⟩
  rw[hc,if_neg hz]
  exact⟨Iff.rfl,Iff.rfl⟩
theorem zbI{S:Nat→Prop}(w:World):zd2 2 (PairAt S w):=⟨fun h=>h.len,fun h=>h.ones⟩
theorem RowsP.ext{w x:World}{v:Value}{O:List zaE}(h:Rows 2 (PairAt NoS w) w v O)(hE:Ext w x):Rows 2 (PairAt NoS x) x v O:=Rows.extC (fun _ _ h=>PairAt.ext h hE) h hE
theorem renF_app{xs:List zaE}{p:zaE}:renF (xs++ [p])=putC zaR fstP p (renF xs):=by
 unfold renF zb3;rw[List.foldl_append];rfl
set_option maxHeartbeats 8000000 in
theorem zfh{w0 w:World}(hE0:Ext w0 w){cs:List Value}{N:NetL}(hN:NetAt w0 cs N)(hG:zbd N):
  Fn Tryz.prog 45 #[.agg cs.toArray] w (fun v w'=>Ext w w'∧Rows 2 (PairAt NoS w') w' v (renN N)):=by
 obtain⟨hv,rv,rfl,hh,hr⟩:=hN.ex
 obtain⟨ah,ch,hhv,hch,hgh⟩:=hh.open
 obtain⟨ar,cr,hrv,_⟩:=id hr
 have hl6:=hG.h1.2
 have hall:=zcf hG
 have hallk:=zcK hG
 refine enter Tryz.func45 Tryz.ntmps45 rfl rfl ?_
 repeat refine c_r ?_
 rw[hhv,hrv]
 refine rg0 ?_
 rw[←hrv]
 repeat refine c_r ?_
 refine zaN ?_
 intro w1 hE1 hs1 hA
 have p0:zai w1 (some ⟨w.heap.size,0,Option.none⟩)=some (.slice ah N.hosts.length ch):=zae hA rfl
 have hE01:=hE0.trans hE1
 repeat refine c_r ?_
 refine rg0 ?_
 repeat refine c_r ?_
 refine rg0 ?_
 repeat refine c_r ?_
 refine zaj (fun m σ ds v=>ds=[]∧∃(i:Nat) (ov:Value) (xs:List zaE),i+m=N.hosts.length∧σ 4=vi i∧σ 1= .pointer (some ⟨w.heap.size,0,Option.none⟩)∧σ 3=ov∧Ext w1 v∧Rows 2 (PairAt NoS v) v ov (renF xs)∧zbV N=xs++(N.hosts.drop i).flatMap renH) N.hosts.length ?_ ?_
 ·exact⟨rfl,0,.slice Option.none 0 0,[],by omega,vr0,vq0,vq0,Keep.refl _ _,Rows.nil _ _ _,rfl⟩
 rintro m σ ds v ⟨rfl,i,ov,xs,him,s4,s1,s3,hEv,hRO,hbe⟩
 have p0v:=zab hEv p0
 repeat refine c_r ?_
 refine rg4 s4 s1 p0v Nat.add_zero ?_
 repeat refine c_r ?_
 refine wc0 ?_ ?_
 ·intro hlt
  simp only[decide_eq_true_eq]at hlt
  have hi:i<N.hosts.length:=by omega
  have hi0:(0:Int)≤(i:Int):=by omega
  have hi1':(i:Int)+1=((i+1:Nat):Int):=by push_cast;rfl
  obtain⟨hcs,hce,hH⟩:=hgh i hi
  have hmem:=List.getElem_mem hi
  rw[zbg hi]at hbe
  obtain⟨h,hhe⟩:∃x,N.hosts[i]=x:=⟨_,rfl⟩
  rw[hhe]at hH hmem hbe
  obtain⟨nv,b1,b2,b3,b4,zv,rfl,_,hnv,hz⟩:=hH.ex
  obtain⟨az,cz,rfl,hcz,hgz⟩:=hz.open
  have hzl:=hG.zl h hmem
  obtain⟨xa,rfl⟩:=Option.isSome_iff_exists.1 (zak hce)
  obtain⟨xi,hxi⟩:∃xi,adr (some xa) (i*6)=some xi:=⟨_,rfl⟩
  obtain⟨x5,hx5⟩:∃x,adr (some xi) 5=some x:=⟨_,rfl⟩
  rw[hxi]at hce
  have g5:=zan (j:=5) hce rfl
  rw[hx5]at g5
  obtain⟨R1,hR1⟩:∃R,(N.hosts.drop (i+1)).flatMap renH=R:=⟨_,rfl⟩
  rw[hR1]at hbe
  unfold renH at hbe
  repeat refine c_r ?_
  refine rg0 ?_
  repeat refine c_r ?_
  refine zaj (fun m σ ds v=>ds=[]∧∃(k:Nat) (ov:Value) (xs:List zaE),k+m=h.zones.length∧σ 5=vi k∧σ 4=vi i∧σ 1= .pointer (some ⟨w.heap.size,0,Option.none⟩)∧σ 3=ov∧Ext w1 v∧Rows 2 (PairAt NoS v) v ov (renF xs)∧zbV N=xs++((h.zones.drop k).flatMap renZ++R1)) h.zones.length ?_ ?_
  ·exact⟨rfl,0,ov,xs,by omega,vr0,(vq1 s4),(vq1 s1),(vq1 s3),hEv,hRO,hbe⟩
  clear s4 s1 s3 hRO hbe p0v hEv
  rintro m2 σ2 ds2 v2 ⟨rfl,k,ov2,xs2,hkm,s5,s4,s1,s3,hEv2,hRO,hbe⟩
  have p02:=zab hEv2 p0
  have hE02:=hE01.trans hEv2
  have g52:=zab hE02 g5
  repeat refine c_r ?_
  refine rg9 s5 s4 s1 p02 Nat.add_zero (an2 hi0 hlt) hxi hx5 g52 ?_
  repeat refine c_r ?_
  refine wc0 ?_ ?_
  ·intro hlt2
   simp only[decide_eq_true_eq]at hlt2
   have hk:k<h.zones.length:=by omega
   have hk0:(0:Int)≤(k:Int):=by omega
   have hk1':(k:Int)+1=((k+1:Nat):Int):=by push_cast;rfl
   obtain⟨zcs,hze,hZn⟩:=hgz k hk
   have hzmem:=List.getElem_mem hk
   rw[zbg hk,List.append_assoc]at hbe
   obtain⟨z,hzz⟩:∃x,h.zones[k]=x:=⟨_,rfl⟩
   rw[hzz]at hZn hzmem hbe
   obtain⟨zo,zl,rfl,hov,hlv⟩:=hZn.ex
   obtain⟨al,cl,rfl,hcl,hgl⟩:=hlv.open
   have gz:=(hG.z.z h hmem z hzmem).gd
   have hrl:=gz.len
   obtain⟨xz,rfl⟩:=Option.isSome_iff_exists.1 (zak hze)
   obtain⟨xk,hxk⟩:∃xi,adr (some xz) (k*2)=some xi:=⟨_,rfl⟩
   obtain⟨xk1,hxk1⟩:∃x,adr (some xk) 1=some x:=⟨_,rfl⟩
   rw[hxk]at hze
   have l1:=zan (j:=1) hze rfl
   rw[hxk1]at l1
   have l1v:=zab hE02 l1
   obtain⟨R2,hR2⟩:∃R,(h.zones.drop (k+1)).flatMap renZ++R1=R:=⟨_,rfl⟩
   rw[hR2]at hbe
   unfold renZ at hbe
   repeat refine c_r ?_
   refine rq ?_;intro gd K hgd hK;simp (disch:=first|omega|assumption|rfl) only[go_sem,s5,s4,s1,p02,Nat.add_zero,hi0,hlt,hxi,hx5,g52,hk0,hlt2,hxk,hxk1,l1v];refine hK _ _ ?_;clear hK hgd;clear K gd
   repeat refine c_r ?_
   refine rg0 ?_
   repeat refine c_r ?_
   refine zaj (fun m σ ds v=>ds=[]∧∃(j:Nat) (ov:Value) (xs:List zaE),j+m=z.recs.length∧σ 7=vi j∧σ 6= .slice al z.recs.length cl∧σ 5=vi k∧σ 4=vi i∧σ 1= .pointer (some ⟨w.heap.size,0,Option.none⟩)∧σ 3=ov∧Ext w1 v∧Rows 2 (PairAt NoS v) v ov (renF xs)∧zbV N=xs++((z.recs.drop j).filterMap renO++R2)) z.recs.length ?_ ?_
   ·exact⟨rfl,0,ov2,xs2,by omega,vr0,vq0,(vq1 s5),(vq1 s4),(vq1 s1),(vq1 s3),hEv2,hRO,hbe⟩
   clear s5 s4 s1 s3 hRO hbe p02 g52 l1v hEv2 hE02
   rintro m3 σ3 ds3 v3 ⟨rfl,j,ov3,xs3,hjm,s7,s6,s5,s4,s1,s3,hEv3,hRO,hbe⟩
   repeat refine c_r ?_
   refine rg2 s7 s6 ?_
   repeat refine c_r ?_
   refine wc0 ?_ ?_
   ·intro hlt3
    simp only[decide_eq_true_eq]at hlt3
    have hj:j<z.recs.length:=by omega
    have hj0:(0:Int)≤(j:Int):=by omega
    have hj1':(j:Int)+1=((j+1:Nat):Int):=by push_cast;rfl
    have hE03:=hE01.trans hEv3
    obtain⟨rcs,hre,hR⟩:=hgl j hj
    have hrmem:=List.getElem_mem hj
    rw[List.drop_eq_getElem_cons hj]at hbe
    obtain⟨r,hrr⟩:∃x,z.recs[j]=x:=⟨_,rfl⟩
    rw[hrr]at hR hrmem hbe
    obtain⟨ow,ds,rfl,how,hD⟩:=hR.ex
    obtain⟨nm,nu,tx,rw',rfl,⟨vals,hvr,hvl,hvn⟩,_,_,_⟩:=hD.ex
    obtain⟨an,cn,rfl,hcn,hgn⟩:=id hvr
    obtain⟨xr,rfl⟩:=Option.isSome_iff_exists.1 (zak hre)
    obtain⟨xj,hxj⟩:∃xi,adr (some xr) (j*7)=some xi:=⟨_,rfl⟩
    rw[hxj]at hre
    have hw0:adr (some xj) 0=some xj:=zar _
    obtain⟨x2,hx2⟩:∃x,adr (some xj) 2=some x:=⟨_,rfl⟩
    obtain⟨x3,hx3⟩:∃x,adr (some x2) 1=some x:=⟨_,rfl⟩
    have hz2:adr (some x2) 0=some x2:=zar _
    have f0:=zan (j:=0) hre rfl
    rw[hw0]at f0
    have fd:=zaU (m:=2) (k:=5) hre
    rw[hx2]at fd
    have f2:=zan (j:=0) fd rfl
    rw[hz2]at f2
    have f3:=zan (j:=1) fd rfl
    rw[hx3]at f3
    have f23:=zab hE03 f2
    by_cases e39:r.dat.ty=39
    ·have hlead:=gz.lead r hrmem (.inr (.inr e39))
     obtain⟨n0,ns,hnames⟩:∃n0 ns,r.dat.names=n0::ns:=by
      cases hn:r.dat.names with
      |nil=>rw[hn]at hlead;cases hlead
      |cons a b=>exact⟨a,b,rfl⟩
     have hv0:0<vals.length:=by rw[hvl,hnames];simp
     have hv0i:(0:Int)<(vals.length:Int):=by omega
     have hro:renO r=some (zah r.owner,zah n0):=by unfold renO;rw[if_pos e39,hnames];rfl
     rw[List.filterMap_cons_some hro]at hbe
     obtain⟨p,hp⟩:∃p:zaE,(zah r.owner,zah n0)=p:=⟨_,rfl⟩
     rw[hp]at hbe
     have hpk:zbc p:=hallk p (by rw[hbe];simp)
     have hxk:∀o∈renF xs3,zbc o:=zem fun o ho=>hallk o (by rw[hbe];exact List.mem_append_left _ ho)
     have hxl:(renF xs3).length≤2000:=by
      have h1:=congrArg List.length hbe
      rw[List.length_append]at h1
      have:=zel (l:=xs3)
      omega
     have hn0:Row w0 (vals[0]'hv0) (n0.map vs):=by
      have:=hvn 0 hv0 (by rw[hnames];simp)
      simpa only[hnames,List.getElem_cons_zero] using this
     obtain⟨y0,hy0⟩:∃y,vals[0]'hv0=y:=⟨_,rfl⟩
     have g0:=hgn 0 hv0
     obtain⟨xn,rfl⟩:=Option.isSome_iff_exists.1 (zaf g0)
     rw[zar,hy0]at g0
     rw[hy0]at hn0
     have ko:=za1 (gz.own r hrmem)
     have kn:=za1 (gz.names r hrmem n0 (by rw[hnames];simp))
     have lo1:=ko.len
     have ln1:=kn.len
     repeat refine c_r ?_
     refine rg9 s6 s7 hj0 hlt3 hxj hx2 hz2 f23 (an2 (decide_eq_true e39) Bool.not_true) ?_
     repeat refine c_r ?_
     refine wf trivial ?_
     repeat refine c_r ?_
     refine zaz (Q:=fun e σ' ds' v'=>e= .normal∧ds'=[]∧σ' 7=vi j∧σ' 6= .slice (some xr) z.recs.length cl∧σ' 5=vi k∧σ' 4=vi i∧σ' 1= .pointer (some ⟨w.heap.size,0,Option.none⟩)∧σ' 3=ov3∧Ext v3 v'∧
      ∃(c8:Nat) (f1 f2:Value),σ' 8= .pointer (some ⟨c8,0,Option.none⟩)∧v'.heap[c8]? =some (.cells #[f1,f2] 97 (0,0))∧PairAt NoS v' [f1,f2] p) ?_ ?_
     ·refine zgF (fun i=>i==17) (.run [(0,true),(1,true),(2,true),(3,true),(4,true),(6,true),(7,true),(8,true),(9,true),(10,true),(11,true),(12,true),(13,true)] (.fork 4 [5,16] (fun i=>if i=5 then(.run [] (.fork 3 [14,16] (fun i=>if i=14 then(.run [(15,true),(16,false),(17,false)] .fin) else(.run [(14,false),(15,true),(17,false)] .fin)))) else(.run [(5,false),(14,false),(15,true),(17,false)] .fin)))) NoS mixed (by kernel_rfl) ?_;intro gd K x hgd hx hxe hK;clear hxe
      have f0x:=zab (hE03.trans hx) f0
      have f3x:=zab (hE03.trans hx) f3
      have g0x:=zab (hE03.trans hx) g0
      simp (disch:=first|omega|assumption|rfl) only[go_sem,s7,s6,hj0,hlt3,hxj,hw0,hx2,hx3,hv0i,Nat.zero_mul,zar,Int.toNat_zero,f0x,f3x,g0x]
      simp only[zbx,zbN];refine⟨?_,?_⟩
      ·have f0x:=zab (hE03.trans hx) f0
       have f3x:=zab (hE03.trans hx) f3
       have g0x:=zab (hE03.trans hx) g0
       simp (disch:=first|omega|assumption|rfl) only[go_sem,s7,s6,hj0,hlt3,hxj,hw0,hx2,hx3,hv0i,Nat.zero_mul,zar,Int.toNat_zero,f0x,f3x,g0x]
       refine Fn.mono (zcA x ow r.owner (how.ext (hE03.trans hx)) ko.LB (by omega)) ?_
       rintro f1 y1 ⟨hf1,hy1⟩
       refine⟨.inr hy1,?_⟩
       have f0y:=zab (hE03.trans (hx.trans hy1)) f0
       have f3y:=zab (hE03.trans (hx.trans hy1)) f3
       have g0y:=zab (hE03.trans (hx.trans hy1)) g0
       simp (disch:=first|omega|assumption|rfl) only[go_sem,s7,s6,hj0,hlt3,hxj,hw0,hx2,hx3,hv0i,Nat.zero_mul,zar,Int.toNat_zero,f0y,f3y,g0y]
       simp only[zbx,zbN];refine⟨?_,?_⟩
       ·simp (disch:=first|omega|assumption|rfl) only[go_sem,s7,s6,hj0,hlt3,hxj,hw0,hx2,hx3,hv0i,Nat.zero_mul,zar,Int.toNat_zero,f0y,f3y,g0y]
        refine Fn.mono (zcA y1 y0 n0 (hn0.ext (hE03.trans (hx.trans hy1))) kn.LB (by omega)) ?_
        rintro f2 y2 ⟨hf2,hy2⟩
        refine⟨.inr hy2,?_⟩
        simp (disch:=first|omega|assumption|rfl) only[go_sem]
        obtain⟨af1,cf1,hf1e,_⟩:=id hf1.row
        obtain⟨af2,cf2,hf2e,_⟩:=id hf2.row
        refine⟨by kernel_rfl,?_⟩
        rw[hf1e,hf2e,show bdV Tryz.prog 97 [(0,.slice af1 ((zah r.owner).map vs).length cf1),(1,.slice af2 ((zah n0).map vs).length cf2)]=some (.agg #[.slice af1 ((zah r.owner).map vs).length cf1,.slice af2 ((zah n0).map vs).length cf2]) from by kernel_rfl,←hf1e,←hf2e]
        simp (disch:=first|omega|assumption|rfl) only[go_sem]
        refine⟨.inr (Ext.alloc y2 _),?_⟩
        have hb8:=zam y2 (.cells #[.slice Option.none 0 0,.slice Option.none 0 0] 97 (0,0))
        have hy3:=Ext.alloc y2 (.cells #[.slice Option.none 0 0,.slice Option.none 0 0] 97 (0,0))
        have hs8:=zaq y2 (.cells #[.slice Option.none 0 0,.slice Option.none 0 0] 97 (0,0))
        revert hb8 hy3 hs8
        generalize y2.alloc (.cells #[.slice Option.none 0 0,.slice Option.none 0 0] 97 (0,0))=y3
        intro hb8 hy3 hs8
        obtain⟨c8,hc8⟩:∃b,y2.heap.size=b:=⟨_,rfl⟩
        rw[hc8]at hb8 hs8 ⊢
        try simp only[go_sem]
        have z1:=hy2.size
        refine zbz (P:=Tryz.prog) (t:=97) (l:=[f1,f2]) hb8 rfl (zbS hf1.row.isOne hf2.row.isOne) rfl rfl ?_
        intro y9 hs9 hB9 hk9
        refine⟨.inl rfl,?_⟩
        simp (disch:=first|omega|assumption|rfl) only[go_sem]
        refine hK _ _ ?_;clear hK hgd;clear K;try clear gd
        have hE9:Ext v3 y9:=Keep.to_ext (hx.trans (hy1.trans (hy2.trans hy3))) rfl (fun b hb=>by have:=hx.size;have:=hy1.size;omega) hk9
        have hr1:RowZ 0 (fun b=>b=c8) y3 f1 ((zah r.owner).map vs):=⟨hf1.row.ext (hy2.trans hy3),fun a n c hv=>by have:=hf1.blk a n c hv;exact⟨Nat.zero_le _,by omega,fun e=>by omega⟩⟩
        have hr2:RowZ 0 (fun b=>b=c8) y3 f2 ((zah n0).map vs):=⟨hf2.row.ext hy3,fun a n c hv=>by have:=hf2.blk a n c hv;exact⟨Nat.zero_le _,by omega,fun e=>by omega⟩⟩
        refine⟨rfl,rfl,(vq1 s7),(vq1 s6),(vq1 s5),(vq1 s4),(vq1 s1),(vq1 s3),hE9,c8,f1,f2,vq0,hB9,?_⟩
        rw[←hp]
        exact⟨f1,f2,rfl,hr1.turn hk9 (fun b hb=>hb.elim),hr2.turn hk9 (fun b hb=>hb.elim)⟩
       ·simp (disch:=first|omega|assumption|rfl) only[go_sem,s7,s6,hj0,hlt3,hxj,hw0,hx2,hx3,hv0i,Nat.zero_mul,zar,Int.toNat_zero,f0y,f3y,g0y]
        refine⟨.inr (Ext.alloc y1 _),?_⟩
        have hb8:=zam y1 (.cells #[.slice Option.none 0 0,.slice Option.none 0 0] 97 (0,0))
        have hy2:=Ext.alloc y1 (.cells #[.slice Option.none 0 0,.slice Option.none 0 0] 97 (0,0))
        have hs8:=zaq y1 (.cells #[.slice Option.none 0 0,.slice Option.none 0 0] 97 (0,0))
        revert hb8 hy2 hs8
        generalize y1.alloc (.cells #[.slice Option.none 0 0,.slice Option.none 0 0] 97 (0,0))=y2
        intro hb8 hy2 hs8
        obtain⟨c8,hc8⟩:∃b,y1.heap.size=b:=⟨_,rfl⟩
        rw[hc8]at hb8 hs8 ⊢
        have f0z:=zab (hE03.trans (hx.trans (hy1.trans hy2))) f0
        have f3z:=zab (hE03.trans (hx.trans (hy1.trans hy2))) f3
        have g0z:=zab (hE03.trans (hx.trans (hy1.trans hy2))) g0
        try simp (disch:=first|omega|assumption|rfl) only[go_sem,s7,s6,hj0,hlt3,hxj,hw0,hx2,hx3,hv0i,Nat.zero_mul,zar,Int.toNat_zero,f0z,f3z,g0z]
        refine Fn.mono (zcA y2 y0 n0 (hn0.ext (hE03.trans (hx.trans (hy1.trans hy2)))) kn.LB (by omega)) ?_
        rintro f2 y3 ⟨hf2,hy3⟩
        refine⟨.inr hy3,?_⟩
        simp (disch:=first|omega|assumption|rfl) only[go_sem]
        obtain⟨af1,cf1,hf1e,_⟩:=id hf1.row
        obtain⟨af2,cf2,hf2e,_⟩:=id hf2.row
        refine⟨by kernel_rfl,?_⟩
        rw[hf1e,hf2e,show bdV Tryz.prog 97 [(0,.slice af1 ((zah r.owner).map vs).length cf1),(1,.slice af2 ((zah n0).map vs).length cf2)]=some (.agg #[.slice af1 ((zah r.owner).map vs).length cf1,.slice af2 ((zah n0).map vs).length cf2]) from by kernel_rfl,←hf1e,←hf2e]
        simp (disch:=first|omega|assumption|rfl) only[go_sem]
        have z1:=hy3.size
        refine zbz (P:=Tryz.prog) (t:=97) (l:=[f1,f2]) (Ext.at hy3 hb8) rfl (zbS hf1.row.isOne hf2.row.isOne) rfl rfl ?_
        intro y9 hs9 hB9 hk9
        refine⟨.inl rfl,?_⟩
        simp (disch:=first|omega|assumption|rfl) only[go_sem]
        refine hK _ _ ?_;clear hK hgd;clear K;try clear gd
        have hE9:Ext v3 y9:=Keep.to_ext (hx.trans (hy1.trans (hy2.trans hy3))) rfl (fun b hb=>by have:=hx.size;have:=hy1.size;omega) hk9
        have hr1:RowZ 0 (fun b=>b=c8) y3 f1 ((zah r.owner).map vs):=⟨hf1.row.ext (hy2.trans hy3),fun a n c hv=>by have:=hf1.blk a n c hv;exact⟨Nat.zero_le _,by omega,fun e=>by omega⟩⟩
        have hr2:RowZ 0 (fun b=>b=c8) y3 f2 ((zah n0).map vs):=⟨hf2.row,fun a n c hv=>by have:=hf2.blk a n c hv;exact⟨Nat.zero_le _,by omega,fun e=>by omega⟩⟩
        refine⟨rfl,rfl,(vq1 s7),(vq1 s6),(vq1 s5),(vq1 s4),(vq1 s1),(vq1 s3),hE9,c8,f1,f2,vq0,hB9,?_⟩
        rw[←hp]
        exact⟨f1,f2,rfl,hr1.turn hk9 (fun b hb=>hb.elim),hr2.turn hk9 (fun b hb=>hb.elim)⟩
      ·have f0x:=zab (hE03.trans hx) f0
       have f3x:=zab (hE03.trans hx) f3
       have g0x:=zab (hE03.trans hx) g0
       simp (disch:=first|omega|assumption|rfl) only[go_sem,s7,s6,hj0,hlt3,hxj,hw0,hx2,hx3,hv0i,Nat.zero_mul,zar,Int.toNat_zero,f0x,f3x,g0x]
       refine⟨.inr (Ext.alloc x _),?_⟩
       have hb8:=zam x (.cells #[.slice Option.none 0 0,.slice Option.none 0 0] 97 (0,0))
       have hy1:=Ext.alloc x (.cells #[.slice Option.none 0 0,.slice Option.none 0 0] 97 (0,0))
       have hs8:=zaq x (.cells #[.slice Option.none 0 0,.slice Option.none 0 0] 97 (0,0))
       revert hb8 hy1 hs8
       generalize x.alloc (.cells #[.slice Option.none 0 0,.slice Option.none 0 0] 97 (0,0))=y1
       intro hb8 hy1 hs8
       obtain⟨c8,hc8⟩:∃b,x.heap.size=b:=⟨_,rfl⟩
       rw[hc8]at hb8 hs8 ⊢
       have f0y:=zab (hE03.trans (hx.trans hy1)) f0
       have f3y:=zab (hE03.trans (hx.trans hy1)) f3
       have g0y:=zab (hE03.trans (hx.trans hy1)) g0
       try simp (disch:=first|omega|assumption|rfl) only[go_sem,s7,s6,hj0,hlt3,hxj,hw0,hx2,hx3,hv0i,Nat.zero_mul,zar,Int.toNat_zero,f0y,f3y,g0y]
       refine Fn.mono (zcA y1 ow r.owner (how.ext (hE03.trans (hx.trans hy1))) ko.LB (by omega)) ?_
       rintro f1 y2 ⟨hf1,hy2⟩
       refine⟨.inr hy2,?_⟩
       have f0z:=zab (hE03.trans (hx.trans (hy1.trans hy2))) f0
       have f3z:=zab (hE03.trans (hx.trans (hy1.trans hy2))) f3
       have g0z:=zab (hE03.trans (hx.trans (hy1.trans hy2))) g0
       simp (disch:=first|omega|assumption|rfl) only[go_sem,s7,s6,hj0,hlt3,hxj,hw0,hx2,hx3,hv0i,Nat.zero_mul,zar,Int.toNat_zero,f0z,f3z,g0z]
       refine Fn.mono (zcA y2 y0 n0 (hn0.ext (hE03.trans (hx.trans (hy1.trans hy2)))) kn.LB (by omega)) ?_
       rintro f2 y3 ⟨hf2,hy3⟩
       refine⟨.inr hy3,?_⟩
       simp (disch:=first|omega|assumption|rfl) only[go_sem]
       obtain⟨af1,cf1,hf1e,_⟩:=id hf1.row
       obtain⟨af2,cf2,hf2e,_⟩:=id hf2.row
       refine⟨by kernel_rfl,?_⟩
       rw[hf1e,hf2e,show bdV Tryz.prog 97 [(0,.slice af1 ((zah r.owner).map vs).length cf1),(1,.slice af2 ((zah n0).map vs).length cf2)]=some (.agg #[.slice af1 ((zah r.owner).map vs).length cf1,.slice af2 ((zah n0).map vs).length cf2]) from by kernel_rfl,←hf1e,←hf2e]
       simp (disch:=first|omega|assumption|rfl) only[go_sem]
       have z1:=hy2.size
       have z2:=hy3.size
       refine zbz (P:=Tryz.prog) (t:=97) (l:=[f1,f2]) (Ext.at (hy2.trans hy3) hb8) rfl (zbS hf1.row.isOne hf2.row.isOne) rfl rfl ?_
       intro y9 hs9 hB9 hk9
       refine⟨.inl rfl,?_⟩
       simp (disch:=first|omega|assumption|rfl) only[go_sem]
       refine hK _ _ ?_;clear hK hgd;clear K;try clear gd
       have hE9:Ext v3 y9:=Keep.to_ext (hx.trans (hy1.trans (hy2.trans hy3))) rfl (fun b hb=>by have:=hx.size;omega) hk9
       have hr1:RowZ 0 (fun b=>b=c8) y3 f1 ((zah r.owner).map vs):=⟨hf1.row.ext hy3,fun a n c hv=>by have:=hf1.blk a n c hv;exact⟨Nat.zero_le _,by omega,fun e=>by omega⟩⟩
       have hr2:RowZ 0 (fun b=>b=c8) y3 f2 ((zah n0).map vs):=⟨hf2.row,fun a n c hv=>by have:=hf2.blk a n c hv;exact⟨Nat.zero_le _,by omega,fun e=>by omega⟩⟩
       refine⟨rfl,rfl,(vq1 s7),(vq1 s6),(vq1 s5),(vq1 s4),(vq1 s1),(vq1 s3),hE9,c8,f1,f2,vq0,hB9,?_⟩
       rw[←hp]
       exact⟨f1,f2,rfl,hr1.turn hk9 (fun b hb=>hb.elim),hr2.turn hk9 (fun b hb=>hb.elim)⟩
     clear s7 s6 s5 s4 s1 s3
     rintro _ σ4 _ v4 ⟨rfl,rfl,s7,s6,s5,s4,s1,s3,hE4,c8,f1,f2',s8,hC8,hpr⟩
     have hRO4:=RowsP.ext hRO hE4
     have hEv4:=hEv3.trans hE4
     have hbe2:zbV N=(xs3++ [p])++((z.recs.drop (j+1)).filterMap renO++R2):=by rw[hbe];simp
     have hput0:=renF_app (xs:=xs3) (p:=p)
     obtain⟨O,hO⟩:∃O,renF xs3=O:=⟨_,rfl⟩
     rw[hO]at hRO4 hxk hxl hput0
     obtain⟨aO,cO,rfl,hcO,hgO⟩:=hRO4.open
     have dp:=zav (n:=2) (l:=[f1,f2']) hC8 rfl
     repeat refine c_r ?_
     refine rg0 ?_
     repeat refine c_r ?_
     refine zaj (fun m σ' ds A=>ds=[]∧∃q:Nat,q+m=O.length∧σ' 9=vi q∧σ' 8= .pointer (some ⟨c8,0,Option.none⟩)∧σ' 7=vi j∧σ' 6= .slice (some xr) z.recs.length cl∧σ' 5=vi k∧σ' 4=vi i∧σ' 1= .pointer (some ⟨w.heap.size,0,Option.none⟩)∧σ' 3= .slice aO O.length cO∧Ext v4 A∧∀t (h:t<O.length),t<q→zaR O[t] p<0) O.length ?_ ?_
     ·exact⟨rfl,0,by omega,vr0,(vq1 s8),(vq1 s7),(vq1 s6),(vq1 s5),(vq1 s4),(vq1 s1),(vq1 s3),Keep.refl _ _,fun t h ht=>absurd ht (by omega)⟩
     clear s8 s7 s6 s5 s4 s1 s3
     rintro m4 σ5 ds5 A2 ⟨rfl,q,hqm,s9,s8,s7,s6,s5,s4,s1,s3,hE5,hlow⟩
     repeat refine c_r ?_
     refine zaz (Q:=fun e σ' ds' v'=>e= .normal∧ds'=[]∧σ' 9=vi q∧σ' 8= .pointer (some ⟨c8,0,Option.none⟩)∧σ' 7=vi j∧σ' 6= .slice (some xr) z.recs.length cl∧σ' 5=vi k∧σ' 4=vi i∧σ' 1= .pointer (some ⟨w.heap.size,0,Option.none⟩)∧σ' 3= .slice aO O.length cO∧Ext A2 v'∧σ' 80= .bool (tst O q fun x=>decide (zaR x p<0))) ?_ ?_
     ·by_cases hq:q<O.length
      ·rw[zcD hq]
       obtain⟨ck,hck,hRk⟩:=hgO q hq
       obtain⟨xO,rfl⟩:=Option.isSome_iff_exists.1 (zak hck)
       have hqd:decide ((q:Int)<(O.length:Int))=true:=decide_eq_true (by omega)
       have hq0:(0:Int)≤(q:Int):=by omega
       have hq1:(q:Int)<(O.length:Int):=by omega
       refine zaF (fun _=>false) [(0,true),(1,true),(2,true),(3,true),(4,true),(5,true),(6,true),(7,true),(8,true),(9,true),(10,false),(11,true),(12,true)] NoS mixed (by kernel_rfl) ?_;intro gd K x hgd hx hxe hK;clear hxe
       have hg4:∀n σ b,zas gd n σ (some (4,b))=zal (ev n σ (.tmp 72)) b:=(fun n σ b=>by rw[zac,show gd 4=some 72 from(by rw[hgd];rfl)];rfl)
       have d1:=zag (hE5.trans hx) hck
       have d2:=zag (hE5.trans hx) dp
       simp (disch:=first|omega|assumption|rfl) only[go_sem,s9,s8,s3,hqd,decide_true,hq0,hq1,d1,d2,↓hg4]
       refine Fn.mono (zgK x _ _ O[q] p (hRk.ext (hE5.trans hx)) (hpr.ext (hE5.trans hx)) (hxk _ (List.getElem_mem hq)) hpk) ?_
       rintro _ y2 ⟨hy2,c,rfl,hc,_⟩
       refine⟨.inr hy2,?_⟩
       have hcd:decide (c<0)=decide (zaR O[q] p<0):=decide_eq_decide.2 hc
       simp (disch:=first|omega|assumption|rfl) only[go_sem,hcd,↓hg4]
       refine hK _ _ ?_;clear hK hgd;clear K;try clear gd
       exact⟨rfl,rfl,(vq1 s9),(vq1 s8),(vq1 s7),(vq1 s6),(vq1 s5),(vq1 s4),(vq1 s1),(vq1 s3),hx.trans hy2,vq0⟩
      ·rw[zcG hq]
       have hqd:decide ((q:Int)<(O.length:Int))=false:=decide_eq_false (by omega)
       refine zaF (fun _=>false) [(0,true),(1,true),(2,true),(3,true),(4,true),(5,true),(6,true),(7,true),(8,true),(9,true),(10,false),(11,true),(12,true)] NoS mixed (by kernel_rfl) ?_;intro gd K x hgd hx hxe hK;clear hxe
       have hg4:∀n σ b,zas gd n σ (some (4,b))=zal (ev n σ (.tmp 72)) b:=(fun n σ b=>by rw[zac,show gd 4=some 72 from(by rw[hgd];rfl)];rfl)
       simp (disch:=first|omega|assumption|rfl) only[go_sem,s9,s3,hqd,↓hg4]
       refine hK _ _ ?_;clear hK hgd;clear K;try clear gd
       exact⟨rfl,rfl,(vq1 s9),(vq1 s8),(vq1 s7),(vq1 s6),(vq1 s5),(vq1 s4),(vq1 s1),(vq1 s3),hx,vq0⟩
     clear s9 s8 s7 s6 s5 s4 s1 s3
     rintro _ σ6 _ A3 ⟨rfl,rfl,s9,s8,s7,s6,s5,s4,s1,s3,hE6,s80⟩
     repeat refine c_r ?_
     refine zaL (t:=tst O q fun x=>decide (zaR x p<0)) ((vq1 s80)) ?_ ?_
     ·intro ht
      have hq:q<O.length:=Classical.byContradiction fun h=>by rw[zcG h]at ht;cases ht
      rw[zcD hq,decide_eq_true_eq]at ht
      have hq1':(q:Int)+1=((q+1:Nat):Int):=by push_cast;rfl
      repeat refine c_r ?_
      refine rg2 s9 hq1' ?_
      repeat refine c_r ?_
      refine⟨m4 - 1,by omega,rfl,q+1,by omega,vq0,(vq1 s8),(vq1 s7),(vq1 s6),(vq1 s5),(vq1 s4),(vq1 s1),(vq1 s3),hE5.trans hE6,fun t h ht2=>?_⟩
      by_cases he:t=q
      ·subst he;exact ht
      ·exact hlow t h (by omega)
     intro ht
     have hstop:∀h:q<O.length,¬zaR O[q] p<0:=fun h h2=>by
      rw[zcD h]at ht
      exact of_decide_eq_false ht h2
     have hqO:q≤O.length:=by omega
     have hE43:=hE5.trans hE6
     clear s80 ht hE6 hE5
     repeat refine c_r ?_
     refine zaz (Q:=fun e σ' ds' v'=>e= .normal∧ds'=[]∧σ' 9=vi q∧σ' 8= .pointer (some ⟨c8,0,Option.none⟩)∧σ' 7=vi j∧σ' 6= .slice (some xr) z.recs.length cl∧σ' 5=vi k∧σ' 4=vi i∧σ' 1= .pointer (some ⟨w.heap.size,0,Option.none⟩)∧σ' 3= .slice aO O.length cO∧Ext A3 v'∧σ' 95= .bool (tst O q fun x=>decide (zaR x p=0))) ?_ ?_
     ·by_cases hq:q<O.length
      ·rw[zcD hq]
       obtain⟨ck,hck,hRk⟩:=hgO q hq
       obtain⟨xO,rfl⟩:=Option.isSome_iff_exists.1 (zak hck)
       have hqd:decide ((q:Int)<(O.length:Int))=true:=decide_eq_true (by omega)
       have hq0:(0:Int)≤(q:Int):=by omega
       have hq1:(q:Int)<(O.length:Int):=by omega
       refine zaF (fun _=>false) [(0,true),(1,true),(2,true),(3,true),(4,true),(5,true),(6,true),(7,true),(8,true),(9,true),(10,false),(11,true),(12,true)] NoS mixed (by kernel_rfl) ?_;intro gd K x hgd hx hxe hK;clear hxe
       have hg4:∀n σ b,zas gd n σ (some (4,b))=zal (ev n σ (.tmp 87)) b:=(fun n σ b=>by rw[zac,show gd 4=some 87 from(by rw[hgd];rfl)];rfl)
       have d1:=zag (hE43.trans hx) hck
       have d2:=zag (hE43.trans hx) dp
       simp (disch:=first|omega|assumption|rfl) only[go_sem,s9,s8,s3,hqd,decide_true,hq0,hq1,d1,d2,↓hg4]
       refine Fn.mono (zgK x _ _ O[q] p (hRk.ext (hE43.trans hx)) (hpr.ext (hE43.trans hx)) (hxk _ (List.getElem_mem hq)) hpk) ?_
       rintro _ y2 ⟨hy2,c,rfl,_,hc⟩
       refine⟨.inr hy2,?_⟩
       have hcd:decide (c=0)=decide (zaR O[q] p=0):=decide_eq_decide.2 hc
       simp (disch:=first|omega|assumption|rfl) only[go_sem,hcd,↓hg4]
       refine hK _ _ ?_;clear hK hgd;clear K;try clear gd
       exact⟨rfl,rfl,(vq1 s9),(vq1 s8),(vq1 s7),(vq1 s6),(vq1 s5),(vq1 s4),(vq1 s1),(vq1 s3),hx.trans hy2,vq0⟩
      ·rw[zcG hq]
       have hqd:decide ((q:Int)<(O.length:Int))=false:=decide_eq_false (by omega)
       refine zaF (fun _=>false) [(0,true),(1,true),(2,true),(3,true),(4,true),(5,true),(6,true),(7,true),(8,true),(9,true),(10,false),(11,true),(12,true)] NoS mixed (by kernel_rfl) ?_;intro gd K x hgd hx hxe hK;clear hxe
       have hg4:∀n σ b,zas gd n σ (some (4,b))=zal (ev n σ (.tmp 87)) b:=(fun n σ b=>by rw[zac,show gd 4=some 87 from(by rw[hgd];rfl)];rfl)
       simp (disch:=first|omega|assumption|rfl) only[go_sem,s9,s3,hqd,↓hg4]
       refine hK _ _ ?_;clear hK hgd;clear K;try clear gd
       exact⟨rfl,rfl,(vq1 s9),(vq1 s8),(vq1 s7),(vq1 s6),(vq1 s5),(vq1 s4),(vq1 s1),(vq1 s3),hx,vq0⟩
     clear s9 s8 s7 s6 s5 s4 s1 s3
     rintro _ σ7 _ A4 ⟨rfl,rfl,s9,s8,s7,s6,s5,s4,s1,s3,hE7,s95⟩
     have hE44:=hE43.trans hE7
     have hROA:=RowsP.ext hRO4 hE44
     have hvA:=hEv4.trans hE44
     repeat refine c_r ?_
     refine zaL (t:=tst O q fun x=>decide (zaR x p=0)) ((vq1 s95)) ?_ ?_
     ·intro ht
      have hq:q<O.length:=Classical.byContradiction fun h=>by rw[zcG h]at ht;cases ht
      rw[zcD hq,decide_eq_true_eq]at ht
      have hput:=zfL (jn:=fstP) hq hlow ht
      have hsame:putC zaR fstP p O=O:=by rw[hput];exact List.set_getElem_self ..
      rw[hsame]at hput0
      repeat refine c_r ?_
      refine rg2 s7 hj1' ?_
      repeat refine c_r ?_
      exact⟨m3 - 1,by omega,rfl,j+1,.slice aO O.length cO,xs3++ [p],by omega,vq0,(vq1 s6),(vq1 s5),(vq1 s4),(vq1 s1),(vq1 s3),hvA,by rw[hput0];exact hROA,hbe2⟩
     ·intro ht
      have hmiss:∀h:q<O.length,¬zaR O[q] p<0∧¬zaR O[q] p=0:=fun h=>by
       rw[zcD h,decide_eq_false_iff_not]at ht
       exact⟨hstop h,ht⟩
      have hput:=zeF (jn:=fstP) hqO hlow hmiss
      have hq0:(0:Int)≤(q:Int):=by omega
      have hq1:(q:Int)≤(O.length:Int):=by omega
      have hcutlo:=hROA.cut (lo:=0) (hi:=q) (by omega) hqO
      have hcuthi:=hROA.cut (lo:=q) (hi:=O.length) hqO (Nat.le_refl _)
      rw[List.drop_zero,Nat.sub_zero]at hcutlo
      rw[List.take_of_length_le (by simp)]at hcuthi
      have dpA:=zag hE44 dp
      have hprA:PairAt NoS A4 [f1,f2'] p:=hpr.ext hE44
      have hc8:c8<A4.heap.size:=by have:=(Array.getElem?_eq_some_iff.1 hC8).1;have:=hE44.size;omega
      repeat refine c_r ?_
      refine zaz (Q:=fun e σ' ds' v'=>e= .normal∧ds'=[]∧σ' 9=vi q∧σ' 8= .pointer (some ⟨c8,0,Option.none⟩)∧σ' 7=vi j∧σ' 6= .slice (some xr) z.recs.length cl∧σ' 5=vi k∧σ' 4=vi i∧σ' 1= .pointer (some ⟨w.heap.size,0,Option.none⟩)∧σ' 3= .slice aO O.length cO∧Ext A4 v'∧∃xv,σ' 10=xv∧Owns 2 (PairAt NoS A4) A4.heap.size v' 97 xv (O.take q++ [p])) ?_ ?_
      ·refine zgF (fun _=>false) (.run [(1,true),(2,true),(3,true),(5,true)] (.fork 4 [0,6] (fun i=>if i=0 then(.run [] (.fork 3 [4,6] (fun i=>if i=4 then(.run [(6,false),(7,false),(8,true)] .fin) else(.run [(4,false),(7,false),(8,true)] .fin)))) else(.run [(0,false),(4,false),(7,false),(8,true)] .fin)))) (zcY A4.heap.size) mixed (by kernel_rfl) ?_;intro gd K x hgd hx hxe hK;clear hxe
       have hx0:Ext A4 x:=⟨hx.os,hx.tape,hx.output,hx.size,fun b hb _=>hx.block b hb (by unfold zcY;omega),hx.drawn⟩
       have hxs:=hx.size
       have d2:=zag hx0 dpA
       simp (disch:=first|omega|assumption|rfl) only[go_sem,s9,s8,s3,hq0,hq1,d2]
       refine⟨zd6 hc8,?_⟩
       simp only[zbx,zbN];refine⟨?_,?_⟩
       ·simp (disch:=first|omega|assumption|rfl) only[go_sem]
        refine zfU (k:=2) (C:=PairAt NoS A4) rfl rfl rfl rfl ?_
        intro w3 hE3 hs3 ho3
        refine⟨.inr hE3.keep,?_⟩
        simp (disch:=first|omega|assumption|rfl) only[go_sem]
        simp only[zbx,zbN];refine⟨?_,?_⟩
        ·simp (disch:=first|omega|assumption|rfl) only[go_sem]
         refine zaT (zbI A4) ho3 (hcutlo.ext (hx0.trans hE3)) rfl rfl rfl rfl rfl rfl (by decide) (vr0) (vr0) (by simp;omega) (by decide) (by omega) ?_
         intro u4 w4 ho4 hE4' hk4 _
         refine⟨.inr (hk4.mono fun b _ hb=>by have:=(ho3.ge hb).1;show _≤_;omega),?_⟩
         have hE4'':=hE4' _ hE3 (Nat.le_refl _)
         have hs4:=hk4.size
         simp (disch:=first|omega|assumption|rfl) only[go_sem]
         refine zbv (zbI A4) rfl rfl rfl rfl hprA (by decide) ?_
         intro w5 hE5 hs5 ho5
         refine⟨.inr hE5.keep,?_⟩
         simp (disch:=first|omega|assumption|rfl) only[go_sem]
         refine zaT (zbI A4) (ho4.ext hE5) ho5.rows rfl rfl rfl rfl rfl rfl (by decide) (vr0) (vr0) (by simp;omega) (by decide) (by omega) ?_
         intro u6 w6 ho6 hE6 hk6 _
         refine⟨.inr (hk6.mono fun b _ hb=>by have:=(ho4.ge hb).1;show _≤_;omega),?_⟩
         simp (disch:=first|omega|assumption|rfl) only[go_sem]
         refine hK _ _ ⟨rfl,rfl,(vq1 s9),(vq1 s8),(vq1 s7),(vq1 s6),(vq1 s5),(vq1 s4),(vq1 s1),(vq1 s3),hx0.trans (hE6 _ (hE4''.trans hE5) (Nat.le_refl _)),_,by simp only[go_sem];rfl,?_⟩
         exact ho6.mono hxs
        ·simp (disch:=first|omega|assumption|rfl) only[go_sem]
         refine zbv (zbI A4) rfl rfl rfl rfl hprA (by decide) ?_
         intro w5 hE5 hs5 ho5
         refine⟨.inr hE5.keep,?_⟩
         simp (disch:=first|omega|assumption|rfl) only[go_sem]
         refine zaT (zbI A4) (ho3.ext hE5) (hcutlo.ext ((hx0.trans hE3).trans hE5)) rfl rfl rfl rfl rfl rfl (by decide) (vr0) (vr0) (by simp;omega) (by decide) (by omega) ?_
         intro u4 w4 ho4 hE4' hk4 _
         have hs4:=hk4.size
         refine⟨.inr (hk4.mono fun b _ hb=>by have:=(ho3.ge hb).1;show _≤_;omega),?_⟩
         have ho5':=ho5.keep hk4 (fun b hb hb2=>by have:=(ho5.ge hb).1;have:=(ho3.ge hb2).2;omega)
         simp (disch:=first|omega|assumption|rfl) only[go_sem]
         refine zaT (zbI A4) ho4 ho5'.rows rfl rfl rfl rfl rfl rfl (by decide) (vr0) (vr0) (by simp;omega) (by decide) (by omega) ?_
         intro u6 w6 ho6 hE6 hk6 _
         refine⟨.inr (hk6.mono fun b _ hb=>by have:=(ho4.ge hb).1;show _≤_;omega),?_⟩
         simp (disch:=first|omega|assumption|rfl) only[go_sem]
         refine hK _ _ ⟨rfl,rfl,(vq1 s9),(vq1 s8),(vq1 s7),(vq1 s6),(vq1 s5),(vq1 s4),(vq1 s1),(vq1 s3),hx0.trans (hE6 _ (hE4' _ (hE3.trans hE5) (Nat.le_refl _)) (Nat.le_refl _)),_,by simp only[go_sem];rfl,?_⟩
         exact ho6.mono hxs
       ·simp (disch:=first|omega|assumption|rfl) only[go_sem]
        refine zbv (zbI A4) rfl rfl rfl rfl hprA (by decide) ?_
        intro w5 hE5 hs5 ho5
        refine⟨.inr hE5.keep,?_⟩
        simp (disch:=first|omega|assumption|rfl) only[go_sem]
        refine zfU (k:=2) (C:=PairAt NoS A4) rfl rfl rfl rfl ?_
        intro w3 hE3 hs3 ho3
        refine⟨.inr hE3.keep,?_⟩
        simp (disch:=first|omega|assumption|rfl) only[go_sem]
        refine zaT (zbI A4) ho3 (hcutlo.ext ((hx0.trans hE5).trans hE3)) rfl rfl rfl rfl rfl rfl (by decide) (vr0) (vr0) (by simp;omega) (by decide) (by omega) ?_
        intro u4 w4 ho4 hE4' hk4 _
        refine⟨.inr (hk4.mono fun b _ hb=>by have:=(ho3.ge hb).1;show _≤_;omega),?_⟩
        have hE4'':=hE4' _ hE3 (Nat.le_refl _)
        have hs4:=hk4.size
        simp (disch:=first|omega|assumption|rfl) only[go_sem]
        refine zaT (zbI A4) ho4 (ho5.ext hE4'').rows rfl rfl rfl rfl rfl rfl (by decide) (vr0) (vr0) (by simp;omega) (by decide) (by omega) ?_
        intro u6 w6 ho6 hE6 hk6 _
        refine⟨.inr (hk6.mono fun b _ hb=>by have:=(ho4.ge hb).1;show _≤_;omega),?_⟩
        simp (disch:=first|omega|assumption|rfl) only[go_sem]
        refine hK _ _ ⟨rfl,rfl,(vq1 s9),(vq1 s8),(vq1 s7),(vq1 s6),(vq1 s5),(vq1 s4),(vq1 s1),(vq1 s3),hx0.trans (hE6 _ (hE5.trans hE4'') (by omega)),_,by simp only[go_sem];rfl,?_⟩
        exact ho6.mono (by omega)
      clear s9 s8 s7 s6 s5 s4 s1 s3
      rintro _ σ8 _ u6 ⟨rfl,rfl,s9,s8,s7,s6,s5,s4,s1,s3,hE8,xv,s10,hox⟩
      repeat refine c_r ?_
      refine rq ?_;intro gd K hgd hK
      try simp (disch:=first|omega|assumption|rfl) only[go_sem,s9,s3,s10,hq0,hq1]
      refine zaT (zbI A4) hox (hcuthi.ext hE8) rfl rfl rfl rfl rfl rfl (by decide) ((vq1 s10)) (vr0) (by simp;omega) (by decide) hE8.size ?_
      intro u7 w7 ho7 hE9 _ _
      have hE9':=hE9 _ hE8 (Nat.le_refl _)
      try simp only[go_sem]
      refine hK _ _ ?_;clear hK hgd;clear K;try clear gd
      repeat refine c_r ?_
      refine rg2 s7 hj1' ?_
      repeat refine c_r ?_
      exact⟨m3 - 1,by omega,rfl,j+1,u7,xs3++ [p],by omega,vq0,(vq1 s6),(vq1 s5),(vq1 s4),(vq1 s1),vq0,hvA.trans hE9',by rw[hput0,hput];exact ho7.rows.to fun _ _ h=>h.ext hE9',hbe2⟩
    ·have hro:renO r=Option.none:=by unfold renO;rw[if_neg e39]
     rw[List.filterMap_cons_none hro]at hbe
     repeat refine c_r ?_
     refine rg9 s6 s7 hj0 hlt3 hxj hx2 hz2 f23 (an2 (decide_eq_false e39) Bool.not_false) ?_
     repeat refine c_r ?_
     refine wt trivial ?_
     repeat refine c_r ?_
     refine rg2 s7 hj1' ?_
     repeat refine c_r ?_
     exact⟨m3 - 1,by omega,rfl,j+1,ov3,xs3,by omega,vq0,(vq1 s6),(vq1 s5),(vq1 s4),(vq1 s1),(vq1 s3),hEv3,hRO,hbe⟩
   ·intro hge3
    simp only[decide_eq_false_iff_not]at hge3
    rw[List.drop_of_length_le (by omega),List.filterMap_nil,List.nil_append,←hR2]at hbe
    repeat refine c_r ?_
    refine rg2 s5 hk1' ?_
    repeat refine c_r ?_
    exact⟨m2 - 1,by omega,rfl,k+1,ov3,xs3,by omega,vq0,(vq1 s4),(vq1 s1),(vq1 s3),hEv3,hRO,hbe⟩
  ·intro hge2
   simp only[decide_eq_false_iff_not]at hge2
   rw[List.drop_of_length_le (by omega),List.flatMap_nil,List.nil_append,←hR1]at hbe
   repeat refine c_r ?_
   refine rg2 s4 hi1' ?_
   repeat refine c_r ?_
   exact⟨m - 1,by omega,rfl,i+1,ov2,xs2,by omega,vq0,(vq1 s1),(vq1 s3),hEv2,hRO,hbe⟩
 ·intro hge
  simp only[decide_eq_false_iff_not]at hge
  rw[List.drop_of_length_le (by omega),List.flatMap_nil,List.append_nil]at hbe
  repeat refine c_r ?_
  refine rg1 s3 ?_
  repeat refine c_r ?_
  refine rt0 Tryz.ntmps45 ?_
  unfold renN
  rw[hbe]
  exact⟨hE1.trans hEv,hRO⟩
def zce(ren:List zaE)(L:List Nm):List Nm:=ren.flatMap fun r=>L.filterMap fun x=>za4 x r
theorem zfu{ren:List zaE}{L:List Nm}{y:Nm}:y∈zce ren L↔y∈zay ren L:=by
 simp only[zce,zay,List.mem_flatMap,List.mem_filterMap]
 constructor
 ·rintro⟨r,hr,x,hx,h⟩;exact⟨x,hx,r,hr,h⟩
 ·rintro⟨x,hx,r,hr,h⟩;exact⟨r,hr,x,hx,h⟩
theorem canN_mem{ps qs:List Nm}(h:∀p,p∈ps↔p∈qs):canN ps=canN qs:=
 zhf (zck ps) fun g=>mem_canN.trans ⟨zdE fun p hp=>(h p).1 hp,zdE fun p hp=>(h p).2 hp⟩
theorem zhe{ren:List zaE}{ps L:List Nm}:canN (ps++zce ren L)=canN (ps++zay ren L):=canN_mem fun p=>by simp only[List.mem_append,zfu]
def zdd(ren:List zaE)(L:List Nm)(k j:Nat)(r:zaE):List Nm:=zce (ren.take k) L++(L.take j).filterMap fun x=>za4 x r
theorem zi7{ren:List zaE}{L:List Nm}{k j:Nat}{r:zaE}(hr:r∈ren):∀y∈zdd ren L k j r,y∈zay ren L:=by
 intro y hy
 rw[←zfu]
 unfold zce
 rcases List.mem_append.1 hy with h|h
 ·unfold zce at h
  obtain⟨x,hx,h⟩:=List.mem_flatMap.1 h
  exact List.mem_flatMap.2 ⟨x,List.mem_of_mem_take hx,h⟩
 ·obtain⟨x,hx,h⟩:=List.mem_filterMap.1 h
  exact List.mem_flatMap.2 ⟨r,hr,List.mem_filterMap.2 ⟨x,List.mem_of_mem_take hx,h⟩⟩
theorem zh9{ren:List zaE}{L:List Nm}{k j:Nat}{r:zaE}(hj:j<L.length):zdd ren L k (j+1) r=zdd ren L k j r++(za4 L[j] r).toList:=by
 unfold zdd
 rw[zao hj,List.filterMap_append,←List.append_assoc]
 congr 1
theorem zia{ren:List zaE}{L:List Nm}{k j:Nat}(hk:k<ren.length)(hj:L.length≤j):zdd ren L k j ren[k]=zce (ren.take (k+1)) L:=by
 unfold zdd zce
 rw[List.take_of_length_le hj,zao hk,List.flatMap_append]
 simp
theorem zjG{ren:List zaE}{k:Nat}{ps:List Nm}{p:Nm}(h:p∈ps++zay ren (canN ps)):p∈zbb ren (k+1) ps:=by
 unfold zbb
 split
 ·exact h
 ·exact zdZ h
theorem zjT(w:World)(qv fv tv:Value)(q f:Nm)(ht:one tv=true)(hq:Row w qv (q.map vs))(hf:Row w fv (f.map vs))(mq:NmM q)(mf:NmM f)(hu:zdj q f=false):
  Fn Tryz.prog 71 #[qv,fv,tv] w (fun v w'=>Ext w w'∧v= .tuple #[.slice Option.none 0 0,vi 12]):=by
 obtain⟨aq,cq,hqv,_⟩:=id hq
 obtain⟨af,cf,hfv,_⟩:=id hf
 have bq:=mq.len
 have bf:=mf.len
 refine enter Tryz.func71 Tryz.ntmps71 rfl rfl ?_
 repeat refine c_r ?_
 refine rg0 ?_
 repeat refine c_r ?_
 refine rc trivial (zgJ _ _ _ _ _ hq hf mq.LB mf.LB (by omega) (by omega)) ?_
 rintro _ w1 ⟨rfl,hE1⟩
 rw[hu]
 refine re trivial ?_
 repeat refine c_r ?_
 refine wt trivial ?_
 repeat (first|refine c_r ?_|refine rg0 ?_)
 refine zaB (.inr rfl) Tryz.ntmps71 rfl (zap (v:= .slice Option.none 0 0) (vr0) (zap (v:=vi 12) (vr0) zaC)) ?_
 exact⟨hE1,rfl⟩
theorem zjS(w:World)(qv fv tv:Value)(x:Nm)(r:zaE)(hq:Row w qv (x.map vs))(hf:Row w fv (r.2.map vs))(ht:Row w tv (r.1.map vs))(mq:NmM x)(hr:zbc r):
  Fn Tryz.prog 71 #[qv,fv,tv] w (fun v w'=>Ext w w'∧((∃y sv,za4 x r=some y∧v= .tuple #[sv,vi 0]∧Row w' sv (y.map vs))∨∃e:Int,za4 x r=Option.none∧v= .tuple #[.slice Option.none 0 0,vi e]∧e≠0)):=by
 cases hu:zdj x r.2 with
 |false=>
  refine Fn.mono (zjT w qv fv tv x r.2 ht.isOne hq hf mq hr.b.m hu) ?_
  rintro _ w' ⟨hE,rfl⟩
  exact⟨hE,.inr ⟨12,by simp[za4,hu],rfl,by decide⟩⟩
 |true=>
  refine Fn.mono (RSwap_ok w qv fv tv x r.2 r.1 hq hf ht mq hr.b.m hr.a.m hu) ?_
  rintro v w' ⟨hE,h1,h2⟩
  by_cases hc:zaH (zcd x r.2 r.1)=0
  ·obtain⟨sv,rfl,h3,h4⟩:=h1 hc
   exact⟨hE,.inl ⟨_,sv,by simp[za4,hu,hc],rfl,h3⟩⟩
  ·exact⟨hE,.inr ⟨7,by simp[za4,hu,hc],h2 hc,by decide⟩⟩
set_option maxHeartbeats 4000000 in
theorem zgL{w0 w:World}(hE0:Ext w0 w){cs:List Value}{N:NetL}(hN:NetAt w0 cs N)(hG:zbd N){most:Int}(hmost:most≤1000000):
  Fn Tryz.prog 50 #[.agg cs.toArray,vi most] w (fun v w'=>Ext w w'∧((most<((canN (zbF N)).length:Int)∧v= .tuple #[.slice Option.none 0 0,vi 11])∨
   (((canN (zbF N)).length:Int)≤most∧∃lv,v= .tuple #[lv,vi 0]∧NamesAt w' lv (canN (zbF N))))):=by
 have hN0:=hN
 obtain⟨hv,rv,rfl,hh,hr⟩:=hN.ex
 obtain⟨ah,ch,hhv,_⟩:=hh.open
 obtain⟨ar0,cr0,hrv,_⟩:=id hr
 have hw:=hG.w
 have bk:=zfc hG
 refine enter Tryz.func50 Tryz.ntmps50 rfl rfl ?_
 repeat refine c_r ?_
 rw[hhv,hrv]
 refine rg0 ?_
 rw[←hhv,←hrv]
 repeat refine c_r ?_
 refine zaN ?_
 intro w1 hE1 hs1 hA
 have dA:=zav (n:=4) (l:=[hv,rv,vi N.rw,vi N.rf]) hA rfl
 repeat refine c_r ?_
 refine rc dA (zhZ (hE0.trans hE1) hN0 hG) ?_
 rintro bv w2 ⟨hE2,hZ0⟩
 refine re trivial ?_
 repeat refine c_r ?_
 refine rc (zag hE2 dA) (zfh (hE0.trans (hE1.trans hE2)) hN0 hG) ?_
 rintro rnv w3 ⟨hE3,hR⟩
 refine re trivial ?_
 have hE13:=hE2.trans hE3
 have p2:zai w3 (some ⟨w.heap.size,2,Option.none⟩)=some (vi N.rw):=zae (Ext.at hE13 hA) rfl
 have hro:∀r∈renN N,zbc r:=zem (zcK hG)
 obtain⟨ren,hren⟩:∃r,renN N=r:=⟨_,rfl⟩
 obtain⟨k0,hk0⟩:∃k:Nat,N.rw=(k:Int):=⟨N.rw.toNat,by omega⟩
 have hF:zbF N=zbb ren k0 (zaV N):=by unfold zbF;rw[hren,hk0];rfl
 have hrl:(renN N).length≤1000000000:=by
  have h1:=zcf hG
  have h2:=zel (l:=zbV N)
  unfold renN;omega
 rw[hren]at hR hro hrl
 rw[hF]
 rw[hk0]at p2 hw
 obtain⟨F,hFe⟩:∃F,zbb ren k0 (zaV N)=F:=⟨_,rfl⟩
 rw[hFe]
 obtain⟨ar,cr,rfl,_,hgr⟩:=hR.open
 repeat refine c_r ?_
 refine rg0 ?_
 repeat refine c_r ?_
 refine zaz (Q:=fun e σ' ds' v'=>ds'=[]∧Ext w3 v'∧((e= .exit 0∧σ' 1=vi most∧∃lv,σ' 6=lv∧NamesAt v' lv (canN F))∨(e= .ret∧σ' 4= .slice Option.none 0 0∧σ' 5=vi 11∧most<((canN F).length:Int)))) ?_ ?_
 ·refine zaj (fun m σ ds v=>ds=[]∧∃(i:Nat) (qs:List Nm) (lv:Value),i+m=k0∧σ 8=vi i∧σ 2= .pointer (some ⟨w.heap.size,0,Option.none⟩)∧σ 1=vi most∧σ 6=lv∧σ 7= .slice ar ren.length cr∧Ext w3 v∧NamesZ NoS v lv (canN qs)∧(∀p∈qs,NmK p)∧zbb ren (k0 - i) qs=F) k0 ?_ ?_
  ·exact⟨rfl,0,zaV N,bv,by omega,vr0,vq0,vq0,vq0,vq0,Keep.refl _ _,hZ0.ext hE3,bk,hFe⟩
  rintro m σ ds v ⟨rfl,i,qs,lv,him,s8,s2,s1,s6,s7,hEv,hZ,hqk,hcl⟩
  have p2v:=zab hEv p2
  repeat refine c_r ?_
  refine rg4 s8 s2 p2v Nat.zero_add ?_
  repeat refine c_r ?_
  refine wc0 ?_ ?_
  ·intro hlt
   simp only[decide_eq_true_eq]at hlt
   have hi1':(i:Int)+1=((i+1:Nat):Int):=by push_cast;rfl
   obtain⟨j0,hj0⟩:∃j,k0 - i=j+1:=⟨k0 - i - 1,by omega⟩
   rw[hj0]at hcl
   have hsub:∀p∈qs++zay ren (canN qs),p∈F:=fun p hp=>by rw[←hcl];exact zjG hp
   have hqk2:∀p∈qs++zay ren (canN qs),NmK p:=fun p hp=>by
    rcases List.mem_append.1 hp with hp|hp
    ·exact hqk p hp
    ·exact za1 (zfH hp)
   have hsz:∀ps:List Nm,(∀p∈ps,p∈qs++zay ren (canN qs))→(canN ps).length≤(canN F).length:=fun ps h=>zfT fun g=>zdE fun p hp=>hsub p (h p hp)
   have hq1:=hsz qs fun p hp=>List.mem_append_left _ hp
   obtain⟨ao,co,rfl,hgo⟩:=zbP hZ.at
   obtain⟨L,hL⟩:∃L,canN qs=L:=⟨_,rfl⟩
   have hLk:∀x∈L,NmK x:=fun x hx=>inS_k hqk (mem_canN.1 (by rw[hL];exact hx))
   have hZL:=hZ
   rw[hL]at s6 hgo hsub hqk2 hsz hq1 hZL
   repeat refine c_r ?_
   by_cases hgt:(L.length:Int)>most
   ·refine rg3 s6 s1 (decide_eq_true hgt) ?_
    repeat refine c_r ?_
    refine wt trivial ?_
    repeat refine c_r ?_
    refine rg0 ?_
    repeat refine c_r ?_
    exact⟨rfl,hEv,.inr ⟨rfl,vr0,vr0,by omega⟩⟩
   refine rg3 s6 s1 (decide_eq_false hgt) ?_
   repeat refine c_r ?_
   refine wf trivial ?_
   repeat refine c_r ?_
   refine rg1 s6 ?_
   repeat refine c_r ?_
   refine rg0 ?_
   repeat refine c_r ?_
   refine zaj (fun m σ ds v'=>ds=[]∧∃(k:Nat) (lv:Value),k+m=ren.length∧σ 10=vi k∧σ 9= .slice ao L.length co∧σ 8=vi i∧σ 2= .pointer (some ⟨w.heap.size,0,Option.none⟩)∧σ 1=vi most∧σ 6=lv∧σ 7= .slice ar ren.length cr∧Ext v v'∧NamesZ NoS v' lv (canN (qs++zce (ren.take k) L))∧((canN (qs++zce (ren.take k) L)).length:Int)≤most) ren.length ?_ ?_
   ·exact⟨rfl,0,.slice ao L.length co,by omega,vr0,vq0,(vq1 s8),(vq1 s2),(vq1 s1),(vq1 s6),(vq1 s7),Keep.refl _ _,by simpa [zce,hL] using hZL,by simp[zce,hL];omega⟩
   clear s8 s2 s1 s6 s7 p2v
   rintro m2 σ2 ds2 v2 ⟨rfl,k,lv2,hkm,s10,s9,s8,s2,s1,s6,s7,hE2',hZ2,hml⟩
   repeat refine c_r ?_
   refine rg2 s10 s7 ?_
   repeat refine c_r ?_
   refine wc0 ?_ ?_
   ·intro hlt2
    simp only[decide_eq_true_eq]at hlt2
    have hk:k<ren.length:=by omega
    have hk0':(0:Int)≤(k:Int):=by omega
    have hk1':(k:Int)+1=((k+1:Nat):Int):=by push_cast;rfl
    have hrm:=List.getElem_mem hk
    obtain⟨pcs,hpc,hP⟩:=hgr k hk
    have hfull:∀j,L.length≤j→zdd ren L k j ren[k]=zce (ren.take (k+1)) L:=fun j hj=>zia hk hj
    obtain⟨r,hre⟩:∃r,ren[k]=r:=⟨_,rfl⟩
    rw[hre]at hP hrm hfull
    have hro1:=hro r hrm
    obtain⟨p1,p2',rfl,hp1,hp2⟩:=hP.ex
    obtain⟨xr,rfl⟩:=Option.isSome_iff_exists.1 (zak hpc)
    obtain⟨xk,hxk⟩:∃xi,adr (some xr) (k*2)=some xi:=⟨_,rfl⟩
    rw[hxk]at hpc
    have hz0:adr (some xk) 0=some xk:=zar _
    have c0:=zan (j:=0) hpc rfl
    rw[hz0]at c0
    have c1:=zan (j:=1) hpc rfl
    obtain⟨x1,hx1⟩:∃x,adr (some xk) 1=some x:=⟨_,rfl⟩
    rw[hx1]at c1
    have hps:∀j,∀p∈qs++zdd ren L k j r,p∈qs++zay ren L:=fun j p hp=>by
     rcases List.mem_append.1 hp with h|h
     ·exact List.mem_append_left _ h
     ·exact List.mem_append_right _ (zi7 hrm p h)
    repeat refine c_r ?_
    refine rg0 ?_
    repeat refine c_r ?_
    refine zaj (fun m σ ds v'=>ds=[]∧∃(j:Nat) (lv:Value),j+m=L.length∧σ 11=vi j∧σ 10=vi k∧σ 9= .slice ao L.length co∧σ 8=vi i∧σ 2= .pointer (some ⟨w.heap.size,0,Option.none⟩)∧σ 1=vi most∧σ 6=lv∧σ 7= .slice (some xr) ren.length cr∧Ext v v'∧NamesZ NoS v' lv (canN (qs++zdd ren L k j r))∧((canN (qs++zdd ren L k j r)).length:Int)≤most) L.length ?_ ?_
    ·exact⟨rfl,0,lv2,by omega,vr0,(vq1 s10),(vq1 s9),(vq1 s8),(vq1 s2),(vq1 s1),(vq1 s6),(vq1 s7),hE2',by simpa [zdd] using hZ2,by simpa [zdd] using hml⟩
    clear s10 s9 s8 s2 s1 s6 s7 hE2' hZ2 hml
    rintro m3 σ3 ds3 v3 ⟨rfl,j,lv3,hjm,s11,s10,s9,s8,s2,s1,s6,s7,hE3',hZ3,hml⟩
    repeat refine c_r ?_
    refine rg2 s11 s9 ?_
    repeat refine c_r ?_
    refine wc0 ?_ ?_
    ·intro hlt3
     simp only[decide_eq_true_eq]at hlt3
     have hj:j<L.length:=by omega
     have hj0':(0:Int)≤(j:Int):=by omega
     have hj1':(j:Int)+1=((j+1:Nat):Int):=by push_cast;rfl
     obtain⟨y,gy0,hy⟩:=hgo j hj
     obtain⟨xo,rfl⟩:=Option.isSome_iff_exists.1 (zaf gy0)
     have hxk9:=hLk _ (List.getElem_mem hj)
     have hE03:=hEv.trans hE3'
     have hnext:=zh9 (ren:=ren) (k:=k) (r:=r) hj
     obtain⟨z,hze⟩:∃z,L[j]=z:=⟨_,rfl⟩
     rw[hze]at hy hxk9 hnext
     repeat refine c_r ?_
     refine zaz (Q:=fun e σ' ds' v'=>e= .normal∧ds'=[]∧σ' 11=vi j∧σ' 10=vi k∧σ' 9= .slice (some xo) L.length co∧σ' 8=vi i∧σ' 2= .pointer (some ⟨w.heap.size,0,Option.none⟩)∧σ' 1=vi most∧σ' 6=lv3∧σ' 7= .slice (some xr) ren.length cr∧Ext v3 v'∧∃(sv:Value) (e:Int),σ' 12=sv∧σ' 13=vi e∧
      ((e=0∧∃y,za4 z r=some y∧Row v' sv (y.map vs))∨(e≠0∧za4 z r=Option.none))) ?_ ?_
     ·refine zaF (fun _=>false) [(0,true),(1,true),(2,true),(3,true),(4,true),(5,true),(6,true),(7,true),(8,true),(9,true),(10,true),(11,true),(12,true),(13,true),(14,false),(15,true),(16,true),(17,true),(18,true),(19,true)] NoS mixed (by kernel_rfl) ?_;intro gd K x hgd hx hxe hK;clear hxe
      have gyx:=zab (hE3'.trans hx) gy0
      have c0x:=zab (hE03.trans hx) c0
      have c1x:=zab (hE03.trans hx) c1
      simp (disch:=first|omega|assumption|rfl) only[go_sem,s11,s10,s9,s7,hj0',hlt3,hk0',hlt2,gyx,hxk,hz0,hx1,c0x,c1x]
      refine Fn.mono (zjS x y p2' p1 z r (hy.ext (hE3'.trans hx)) (hp2.1.ext (hE03.trans hx)) (hp1.1.ext (hE03.trans hx)) hxk9.m hro1) ?_
      rintro _ x9 ⟨hx9,(⟨y,sv,hsw,rfl,hy1⟩| ⟨e,hsw,rfl,he⟩)⟩
      ·refine⟨.inr hx9,?_⟩
       simp (disch:=first|omega|assumption|rfl) only[go_sem]
       refine hK _ _ ?_;clear hK hgd;clear K;try clear gd
       exact⟨rfl,rfl,(vq1 s11),(vq1 s10),(vq1 s9),(vq1 s8),(vq1 s2),(vq1 s1),(vq1 s6),(vq1 s7),hx.trans hx9,sv,0,vq0,vr0,.inl ⟨rfl,y,hsw,hy1⟩⟩
      ·refine⟨.inr hx9,?_⟩
       simp (disch:=first|omega|assumption|rfl) only[go_sem]
       refine hK _ _ ?_;clear hK hgd;clear K;try clear gd
       exact⟨rfl,rfl,(vq1 s11),(vq1 s10),(vq1 s9),(vq1 s8),(vq1 s2),(vq1 s1),(vq1 s6),(vq1 s7),hx.trans hx9,_,e,vr0,vq0,.inr ⟨he,hsw⟩⟩
     clear s11 s10 s9 s8 s2 s1 s6 s7
     rintro _ σ4 _ v4 ⟨rfl,rfl,s11,s10,s9,s8,s2,s1,s6,s7,hE4,sv,e,s12,s13,hc⟩
     repeat refine c_r ?_
     refine rg1 s13 ?_
     repeat refine c_r ?_
     refine zaz (Q:=fun e σ' ds' v'=>e= .normal∧ds'=[]∧σ' 11=vi j∧σ' 10=vi k∧σ' 9= .slice (some xo) L.length co∧σ' 8=vi i∧σ' 2= .pointer (some ⟨w.heap.size,0,Option.none⟩)∧σ' 1=vi most∧σ' 7= .slice (some xr) ren.length cr∧Ext v4 v'∧∃lv,σ' 6=lv∧NamesZ NoS v' lv (canN (qs++zdd ren L k (j+1) r))) ?_ ?_
     ·rcases hc with ⟨rfl,y,hsw,hy1⟩| ⟨hne,hsw⟩
      ·refine wt trivial ?_
       repeat refine c_r ?_
       refine rc (an2 s6 s12) (zdM v4 lv3 sv _ y (hZ3.ext hE4) hy1 (fun p hp=>hqk2 p (hps j p hp)) (za1 (zej hsw)) (by omega)) ?_
       rintro lv5 v5 ⟨hE5,hZ5⟩
       refine re trivial ?_
       rw[List.append_assoc,show zdd ren L k j r++ [y]=zdd ren L k (j+1) r by rw[hnext,hsw];rfl]at hZ5
       exact⟨rfl,rfl,(vq1 s11),(vq1 s10),(vq1 s9),(vq1 s8),(vq1 s2),(vq1 s1),(vq1 s7),hE5,lv5,vq0,hZ5⟩
      ·refine wf (decide_eq_false hne) ?_
       repeat refine c_r ?_
       exact⟨rfl,rfl,(vq1 s11),(vq1 s10),(vq1 s9),(vq1 s8),(vq1 s2),(vq1 s1),(vq1 s7),Keep.refl _ _,lv3,(vq1 s6),by rw[hnext,hsw];simpa using hZ3.ext hE4⟩
     clear s11 s10 s9 s8 s2 s1 s6 s7 s12 s13 hc
     rintro _ σ5 _ v5 ⟨rfl,rfl,s11,s10,s9,s8,s2,s1,s7,hE5,lv5,s6,hZ5⟩
     have hE35:=hE3'.trans (hE4.trans hE5)
     have hsz5:=hsz _ (hps (j+1))
     obtain⟨a5,c5,rfl,_⟩:=zbP hZ5.at
     repeat refine c_r ?_
     by_cases hgt5:((canN (qs++zdd ren L k (j+1) r)).length:Int)>most
     ·refine rg3 s6 s1 (decide_eq_true hgt5) ?_
      repeat refine c_r ?_
      refine wt trivial ?_
      repeat refine c_r ?_
      refine rg0 ?_
      repeat refine c_r ?_
      exact⟨rfl,hEv.trans hE35,.inr ⟨rfl,vr0,vr0,by omega⟩⟩
     ·refine rg3 s6 s1 (decide_eq_false hgt5) ?_
      repeat refine c_r ?_
      refine wf trivial ?_
      repeat refine c_r ?_
      refine rg2 s11 hj1' ?_
      repeat refine c_r ?_
      exact⟨m3 - 1,by omega,rfl,j+1,_,by omega,vq0,(vq1 s10),(vq1 s9),(vq1 s8),(vq1 s2),(vq1 s1),(vq1 s6),(vq1 s7),hE35,hZ5,by omega⟩
    ·intro hge3
     simp only[decide_eq_false_iff_not]at hge3
     rw[hfull j (by omega)]at hZ3 hml
     repeat refine c_r ?_
     refine rg2 s10 hk1' ?_
     repeat refine c_r ?_
     exact⟨m2 - 1,by omega,rfl,k+1,lv3,by omega,vq0,(vq1 s9),(vq1 s8),(vq1 s2),(vq1 s1),(vq1 s6),(vq1 s7),hE3',hZ3,hml⟩
   ·intro hge2
    simp only[decide_eq_false_iff_not]at hge2
    rw[List.take_of_length_le (by omega),zhe]at hZ2 hml
    obtain⟨a5,c5,rfl,_⟩:=zbP hZ2.at
    have hE05:=hEv.trans hE2'
    repeat refine c_r ?_
    by_cases heq:(canN (qs++zay ren L)).length=L.length
    ·have hFq:qs++zay ren L=F:=by rw[←hcl];unfold zbb;rw[hL,if_pos heq]
     refine rg3 s6 s9 (decide_eq_true (show((canN (qs++zay ren L)).length:Int)=(L.length:Int) by omega)) ?_
     repeat refine c_r ?_
     refine wt trivial ?_
     repeat refine c_r ?_
     rw[hFq]at hZ2
     exact⟨rfl,hE05,.inl ⟨rfl,(vq1 s1),_,by rw[←hFq];simp only[go_sem,s6],hZ2.at⟩⟩
    ·have hFq:zbb ren j0 (qs++zay ren L)=F:=by
      rw[←hcl];conv=>rhs;unfold zbb
      rw[hL,if_neg heq]
     refine rg3 s6 s9 (decide_eq_false (show¬((canN (qs++zay ren L)).length:Int)=(L.length:Int) by omega)) ?_
     repeat refine c_r ?_
     refine wf trivial ?_
     repeat refine c_r ?_
     refine rg2 s8 hi1' ?_
     repeat refine c_r ?_
     exact⟨m - 1,by omega,rfl,i+1,_,_,by omega,vq0,(vq1 s2),(vq1 s1),(vq1 s6),(vq1 s7),hE05,hZ2,hqk2,by rw[show k0 - (i+1)=j0 by omega];exact hFq⟩
  ·intro hge
   simp only[decide_eq_false_iff_not]at hge
   have hFq:qs=F:=by rw[←hcl,show k0 - i=0 by omega];rfl
   rw[hFq]at hZ
   repeat refine c_r ?_
   exact⟨rfl,hEv,.inl ⟨rfl,(vq1 s1),lv,(vq1 s6),hZ.at⟩⟩
 rintro e σ' ds' v' ⟨rfl,hEv,(⟨rfl,s1,lv,s6,hlv⟩| ⟨rfl,h4,h5,hgt2⟩)⟩
 ·obtain⟨a5,c5,rfl,_⟩:=zbP hlv
  repeat refine c_r ?_
  by_cases hgt:((canN F).length:Int)>most
  ·refine rg3 s6 s1 (decide_eq_true hgt) ?_
   repeat refine c_r ?_
   refine wt trivial ?_
   repeat refine c_r ?_
   refine rg0 ?_
   repeat refine c_r ?_
   refine zaB (.inr rfl) Tryz.ntmps50 rfl (zap (v:= .slice Option.none 0 0) (vr0) (zap (v:=vi 11) (vr0) zaC)) ?_
   exact⟨hE1.trans (hE13.trans hEv),.inl ⟨by omega,rfl⟩⟩
  ·refine rg3 s6 s1 (decide_eq_false hgt) ?_
   repeat refine c_r ?_
   refine wf trivial ?_
   repeat refine c_r ?_
   refine rg1 s6 ?_
   repeat refine c_r ?_
   refine zaB (.inr rfl) Tryz.ntmps50 rfl (zap (v:= .slice a5 (canN F).length c5) (vr0) (zap (v:=vi 0) (vr0) zaC)) ?_
   exact⟨hE1.trans (hE13.trans hEv),.inr ⟨by omega,_,rfl,hlv⟩⟩
 ·repeat refine c_r ?_
  refine zaB (.inr rfl) Tryz.ntmps50 rfl (zap (v:= .slice Option.none 0 0) ((vq1 h4)) (zap (v:=vi 11) ((vq1 h5)) zaC)) ?_
  exact⟨hE1.trans (hE13.trans hEv),.inl ⟨hgt2,rfl⟩⟩
def zgI{α:Type}(X:World→α→Prop)(K:α→Nat→Prop):Prop:=∀{A A':World} {S:Nat→Prop} {x:α},X A x→(∀b,K x b→b<A.heap.size)→Keep S A A'→(∀b,K x b→¬S b)→X A' x
structure GX{α:Type}(X:World→α→Prop)(K:α→Nat→Prop)(k:Nat)(C:List Value→α→Prop)(e:TypeId)(B:Nat)(A:World)(ov:Value)(G:List α):Prop where
 own:Owns k C B A e ov G
 row:∀x∈G,X A x∧(∀b,K x b→B≤b∧b<A.heap.size)∧∀b,K x b→some b≠ov.ownBlock
def gxK{α:Type}(K:α→Nat→Prop)(ov:Value)(G:List α)(b:Nat):Prop:=(∃x∈G,K x b)∨some b=ov.ownBlock
section
variable {α : Type} {X : World → α → Prop} {K : α → Nat → Prop} {k : Nat} {C : List Value → α → Prop} {e : TypeId} {B : Nat} {A A' A1 A2 : World} {ov ov' : Value} {G : List α}
theorem GX.keep(h:GX X K k C e B A ov G)(st:zgI X K){S:Nat→Prop}(hk:Keep S A A')(hS:∀b,gxK K ov G b→¬S b):GX X K k C e B A' ov G:=
 ⟨h.own.keep hk (fun b hb=>hS b (.inr hb)),fun x hx=>by
  obtain⟨h1,h2,h3⟩:=h.row x hx
  exact⟨st h1 (fun b hb=>(h2 b hb).2) hk (fun b hb=>hS b (.inl ⟨x,hx,hb⟩)),fun b hb=>⟨(h2 b hb).1,Nat.lt_of_lt_of_le (h2 b hb).2 hk.size⟩,h3⟩⟩
theorem GX.in(h:GX X K k C e B A ov G){b:Nat}(hb:gxK K ov G b):B≤b∧b<A.heap.size:=by
 rcases hb with ⟨x,hx,hb⟩|hb
 ·exact(h.row x hx).2.1 b hb
 ·exact h.own.ge hb
theorem GX.ext(h:GX X K k C e B A ov G)(st:zgI X K)(hE:Ext A A'):GX X K k C e B A' ov G:=h.keep st hE (fun _ _ h=>h)
theorem GX.app{x:α}(h:GX X K k C e B A ov G)(st:zgI X K)(hE:Ext A A1)(hB:B≤A.heap.size)(hx:X A1 x)(hxb:∀b,K x b→A.heap.size≤b∧b<A1.heap.size)
  (ho:Owns k C B A2 e ov' (G++ [x])) (hk:Keep (fun b=>some b=ov.ownBlock) A1 A2) (hob:∀b,some b=ov'.ownBlock→some b=ov.ownBlock∨A1.heap.size≤b):GX X K k C e B A2 ov' (G++ [x]):=by
 refine⟨ho,fun y hy=>?_⟩
 have h1:=h.ext st hE
 have hy2:X A1 y∧(∀b,K y b→B≤b∧b<A1.heap.size)∧∀b,K y b→some b≠ov.ownBlock:=by
  rcases List.mem_append.1 hy with hy|hy
  ·exact h1.row y hy
  ·rw[List.mem_singleton.1 hy]
   exact⟨hx,fun b hb=>by have:=hxb b hb;omega,fun b hb he=>by have:=hxb b hb;have:=(h.own.ge he).2;omega⟩
 obtain⟨g1,g2,g3⟩:=hy2
 refine⟨st g1 (fun b hb=>(g2 b hb).2) hk g3,fun b hb=>by have:=g2 b hb;have:=hk.size;omega,fun b hb he=>?_⟩
 rcases hob b he with e|e
 ·exact g3 b hb e
 ·have:=(g2 b hb).2;omega
end
abbrev ZX:=zdK×(Value×(Value×List OX))
def zxX(w0:World)(A:World)(x:ZX):Prop:=Row w0 x.2.1 (x.1.o.map vs)∧x.2.2.2.map Prod.fst=x.1.recs∧∃B,OI w0 B A x.2.2.1 x.2.2.2
def zxK(x:ZX)(b:Nat):Prop:=some b=x.2.2.1.ownBlock∨∃y∈x.2.2.2,∃a n c,y.2.1= .slice (some a) n c∧b=a.block
def zxC(cs:List Value)(x:ZX):Prop:=cs=[x.2.1,x.2.2.1]∧one x.2.1=true∧one x.2.2.1=true
theorem zhq:zd2 2 zxC:=⟨fun h=>by rw[h.1];rfl,fun h=>by rw[h.1];exact zbS h.2.1 h.2.2⟩
theorem zcF(w0:World):zgI (zxX w0) zxK:=by
 intro A A' S x h hK hk hS
 obtain⟨h1,h2,B,h3⟩:=h
 exact⟨h1,h2,B,h3.own.keep hk (fun b hb=>hS b (.inl hb)),fun y hy=>by
  obtain⟨g1,g2⟩:=h3.row y hy
  exact⟨g1.keep hk (fun a n c hv=>hS _ (.inr ⟨y,hy,a,n,c,hv,rfl⟩)),g2⟩⟩
theorem zx_in{w0 A:World}{B:Nat}{x:ZX}(h:OI w0 B A x.2.2.1 x.2.2.2):∀b,zxK x b→B≤b∧b<A.heap.size:=fun b hb=>by
 rcases hb with hb| ⟨y,hy,a,n,c,hv,rfl⟩
 ·exact h.own.ge hb
 ·exact(h.row y hy).1.blk a n c hv
theorem zx_zone{w0 A:World}{x:ZX}(h:zxX w0 A x)(hE:Ext w0 A):ZoneC A [x.2.1,x.2.2.1] x.1:=by
 obtain⟨h1,h2,B,h3⟩:=h
 have:=h3.rows hE
 rw[h2]at this
 exact⟨_,_,rfl,h1.ext hE,this⟩
abbrev HX:=zfn×(Value×(List Value×List ZX))
def hxX(w0:World)(ez:TypeId)(A:World)(x:HX):Prop:=(∃nv a b c d,x.2.2.1=[nv,zad a,zad b,zad c,zad d,x.2.1]∧x.1.addr=[a,b,c,d]∧Row w0 nv (x.1.name.map vs))∧x.2.2.2.map Prod.fst=x.1.zones∧∃B,GX (zxX w0) zxK 2 zxC ez B A x.2.1 x.2.2.2
def hxK(x:HX)(b:Nat):Prop:=gxK zxK x.2.1 x.2.2.2 b
def hxC(cs:List Value)(x:HX):Prop:=cs=x.2.2.1∧cs.length=6∧∀q∈cs,one q=true
theorem zhH:zd2 6 hxC:=⟨fun h=>h.2.1,fun h=>h.2.2⟩
theorem zdF(w0:World)(ez:TypeId):zgI (hxX w0 ez) hxK:=by
 intro A A' S x h hK hk hS
 obtain⟨h1,h2,B,h3⟩:=h
 exact⟨h1,h2,B,h3.keep (zcF w0) hk hS⟩
theorem hx_host{w0 A:World}{ez:TypeId}{x:HX}(h:hxX w0 ez A x)(hE:Ext w0 A):HostC A x.2.2.1 x.1:=by
 obtain⟨⟨nv,a,b,c,d,e,ha,hn⟩,h2,B,h3⟩:=h
 have hz:Rows 2 (ZoneC A) A x.2.1 (x.2.2.2.map Prod.fst):=h3.own.rows.mapM (C':=ZoneC A) Prod.fst fun cs y hy hc=>by
  rw[hc.1]
  exact zx_zone (h3.row y hy).1 hE
 rw[h2]at hz
 exact⟨nv,a,b,c,d,_,e,ha,hn.ext hE,hz⟩
theorem zhI{w0 A:World}{ez eh:TypeId}{B:Nat}{ov:Value}{G:List HX}(h:GX (hxX w0 ez) hxK 6 hxC eh B A ov G)(hE:Ext w0 A):Rows 6 (HostC A) A ov (G.map Prod.fst):=
 h.own.rows.mapM (C':=HostC A) Prod.fst fun cs y hy hc=>by
  rw[hc.1]
  exact hx_host (h.row y hy).1 hE
set_option maxHeartbeats 1000000 in
theorem ZOf_ok{w0 w:World}(hE0:Ext w0 w){ov lv:Value}{o:Nm}{R:List RecL}(ho:Row w0 ov (o.map vs))(hl:Rows 7 (RecAt w0) w lv R)(hnn:∀r∈R,r.dat.names.length≤1000000000)(hlen:R.length≤1000000000):
  Fn Tryz.prog 95 #[.agg #[ov,lv]] w (fun v w'=>Ext w w'∧∃lv' G,v= .agg #[ov,lv']∧OI w0 (w.heap.size+2) w' lv' G∧G.map Prod.fst=R):=by
 obtain⟨ao,co,hov,_⟩:=id ho
 obtain⟨al,cl,hlv,_⟩:=hl.open
 refine enter Tryz.func95 Tryz.ntmps95 rfl rfl ?_
 repeat refine c_r ?_
 rw[hov,hlv]
 refine rg0 ?_
 rw[←hov,←hlv]
 repeat refine c_r ?_
 rw[zaq]
 refine zbK ?_
 intro w1 hE1 hs1 hA hC
 have p0:zai w1 (some ⟨w.heap.size,0,Option.none⟩)=some ov:=zae hA rfl
 have p1:zai w1 (some ⟨w.heap.size,1,Option.none⟩)=some lv:=zae hA rfl
 repeat refine c_r ?_
 refine zaF (fun i=>i==6) [(0,true),(1,true),(2,true),(3,true),(4,false),(5,true),(6,false)] NoS mixed (by kernel_rfl) ?_;intro gd K x hgd hx hxe hK;clear hxe
 have p0x:=zab hx p0
 have p1x:=zab hx p1
 have hxs:=hx.size
 simp (disch:=first|omega|assumption|rfl) only[go_sem,p0x,p1x,Nat.add_zero,Nat.zero_add]
 refine Fn.mono (zgN (hE0.trans (hE1.trans hx)) (hl.ext (hE1.trans hx)) hnn hlen) ?_
 rintro lv' w2 ⟨hE2,G,hOI,hG⟩
 refine⟨.inr hE2,?_⟩
 obtain⟨al',cl',hlv',_⟩:=hOI.own.rows.open
 simp (disch:=first|omega|assumption|rfl) only[go_sem,p0x,p1x,Nat.add_zero,Nat.zero_add]
 refine⟨by kernel_rfl,?_⟩
 rw[hov,hlv',show bdV Tryz.prog 43 [(0,.slice ao (o.map vs).length co),(1,.slice al' G.length cl')]=some (.agg #[.slice ao (o.map vs).length co,.slice al' G.length cl']) from by kernel_rfl,←hov,←hlv']
 simp (disch:=first|omega|assumption|rfl) only[go_sem]
 refine zbz (P:=Tryz.prog) (t:=43) (l:=[ov,lv']) (Ext.at (hx.trans hE2) hC) rfl (zbS ho.isOne (by rw[hlv'];rfl)) rfl rfl ?_
 intro z hz' hbz hkz
 refine⟨.inl rfl,?_⟩
 simp (disch:=first|omega|assumption|rfl) only[go_sem]
 refine hK _ _ ?_;clear hK hgd;clear K;try clear gd
 repeat refine c_r ?_
 refine zaB (.inr rfl) Tryz.ntmps95 rfl (zcJ (x:=⟨w.heap.size+1,0,Option.none⟩) (k:=2) (vq0) rfl rfl (zav hbz rfl) zaC) ?_
 have hEz:Ext w z:=Keep.to_ext (hE1.trans (hx.trans hE2)) rfl (fun b hb=>by omega) hkz
 refine⟨hEz,lv',G,rfl,⟨(hOI.own.keep hkz (fun b hb h=>by have:=(hOI.own.ge hb).1;omega)).mono (by omega),fun y hy=>?_⟩,hG⟩
 obtain⟨g1,g2⟩:=hOI.row y hy
 exact⟨(g1.keep hkz (fun a n c hv h=>by have:=(g1.blk a n c hv).1;omega)).mono (by omega),g2⟩
structure IZ(w0:World)(es ez:TypeId)(b5:Nat)(nv:Value)(a b c d:UInt8)(A0 v:World)(pv:Value)(zs:List ZX):Prop where
 h:v.heap[b5]? =some (.cells #[nv,zad a,zad b,zad c,zad d,pv] es (0,0))
 g:GX (zxX w0) zxK 2 zxC ez (b5+1) v pv zs
 e:Ext A0 v
 lo:A0.heap.size≤b5
theorem IZ.app{w0 A0 v v1 v2 v3:World}{es ez:TypeId}{b5:Nat}{nv pv pv':Value}{a b c d:UInt8}{zs:List ZX}{x:ZX}(h:IZ w0 es ez b5 nv a b c d A0 v pv zs)(hE:Ext v v1)(hB:b5+1≤v.heap.size)(hx:zxX w0 v1 x)(hxb:∀b,zxK x b→v.heap.size≤b∧b<v1.heap.size)
  (ho:Owns 2 zxC (b5+1) v2 ez pv' (zs++ [x])) (hk:Keep (fun b=>some b=pv.ownBlock) v1 v2) (hob:∀b,some b=pv'.ownBlock→some b=pv.ownBlock∨v1.heap.size≤b) (h3:v3.heap[b5]? =some (.cells #[nv,zad a,zad b,zad c,zad d,pv'] es (0,0))) (hk3:Keep (fun b=>b=b5) v2 v3):
  IZ w0 es ez b5 nv a b c d A0 v3 pv' (zs++ [x]):=by
 have lo:=h.lo
 have e2:Ext A0 v2:=Keep.to_ext (h.e.trans hE) rfl (fun b hb=>by have:=(h.g.own.ge hb).1;omega) hk
 have g2:=h.g.app (zcF w0) hE hB hx hxb ho hk hob
 exact⟨h3,g2.keep (zcF w0) hk3 (fun b hb hb2=>by have:=(g2.in hb).1;omega),Keep.to_ext e2 rfl (fun b hb=>by omega) hk3,lo⟩
set_option maxHeartbeats 4000000 in
theorem Of16_ok(w:World){cs:List Value}{c:NetL}(hc:NetAt w cs c)(hf:NetZ c):
  Fn Tryz.prog 34 #[.agg cs.toArray] w (fun v w'=>Ext w w'∧∃cs',v= .agg cs'.toArray∧NetAt w' cs' c):=by
 obtain⟨sv,rv,rfl,hs,hr⟩:=hc.ex
 obtain⟨aS,cS,rfl,hat⟩:=zju hs
 have hr0:=hr
 have r1:=hr.isOne
 obtain⟨ar,cr,hrv,_,hgr⟩:=hr
 have hsl:=hf.hl
 refine enter Tryz.func34 Tryz.ntmps34 rfl rfl ?_
 repeat refine c_r ?_
 rw[hrv]
 refine rg0 ?_
 rw[←hrv]
 repeat refine c_r ?_
 rw[zaq]
 refine zbK ?_
 intro w1 hE1 hs1 hA hC
 have p0:zai w1 (some ⟨w.heap.size,0,Option.none⟩)=some (.slice aS c.hosts.length cS):=zae hA rfl
 have p1:zai w1 (some ⟨w.heap.size,1,Option.none⟩)=some rv:=zae hA rfl
 have p2:zai w1 (some ⟨w.heap.size,2,Option.none⟩)=some (vi c.rw):=zae hA rfl
 have p3:zai w1 (some ⟨w.heap.size,3,Option.none⟩)=some (vi c.rf):=zae hA rfl
 repeat refine c_r ?_
 refine rq ?_;intro gd K hgd hK
 try simp (disch:=first|omega|assumption|rfl) only[go_sem,p1,p2,p3,Nat.zero_add]
 refine⟨by kernel_rfl,?_⟩
 rw[hrv,show bdV Tryz.prog 72 [(1,.slice ar (c.roots.map vi).length cr),(2,vi c.rw),(3,vi c.rf)]=some (.agg #[.slice Option.none 0 0,.slice ar (c.roots.map vi).length cr,vi c.rw,vi c.rf]) from by kernel_rfl,←hrv]
 try simp only[go_sem]
 refine zbe (P:=Tryz.prog) (l:=[.slice Option.none 0 0,rv,vi c.rw,vi c.rf]) rfl (fun v hv=>by simp at hv;rcases hv with rfl|rfl|rfl|rfl<;>first|exact r1|rfl) rfl rfl ?_
 intro w2 hE2 hs2 hD
 try simp only[go_sem]
 refine hK _ _ ?_;clear hK hgd;clear K;try clear gd
 obtain⟨c3,hc3⟩:∃b,w1.heap.size=b:=⟨_,rfl⟩
 rw[hc3]at hD hs2 ⊢
 have hE12:=hE1.trans hE2
 have p0w:=zab hE2 p0
 repeat refine c_r ?_
 refine rg0 ?_
 repeat refine c_r ?_
 refine zaj (fun m σ ds A=>ds=[]∧∃(i:Nat) (ov:Value) (G:List HX),i+m=c.hosts.length∧σ 4=vi i∧σ 1= .pointer (some ⟨w.heap.size,0,Option.none⟩)∧σ 2= .pointer (some ⟨w.heap.size+1,0,Option.none⟩)∧σ 3= .pointer (some ⟨c3,0,Option.none⟩)∧Ext w1 A∧c3+1≤A.heap.size∧
  A.heap[c3]? =some (.cells #[ov,rv,vi c.rw,vi c.rf] 72 (0,0))∧GX (hxX w 43) hxK 6 hxC 176 (c3+1) A ov G∧G.map Prod.fst=c.hosts.take i) c.hosts.length ?_ ?_
 ·exact⟨rfl,0,.slice Option.none 0 0,[],by omega,vr0,vq0,vq0,vq0,hE2,by omega,hD,⟨Owns.nil _ _ _ _ _,fun x h=>by cases h⟩,rfl⟩
 rintro m σ ds A ⟨rfl,i,ov,G,him,s4,s1,s2,s3,hEA,hAs,hB3,hGS,hGf⟩
 have p0A:=zab hEA p0
 repeat refine c_r ?_
 refine rg4 s4 s1 p0A Nat.add_zero ?_
 repeat refine c_r ?_
 refine wc0 ?_ ?_
 ·intro hlt
  simp only[decide_eq_true_eq]at hlt
  have hi:i<c.hosts.length:=by omega
  have hi0:(0:Int)≤(i:Int):=by omega
  have hi1':(i:Int)+1=((i+1:Nat):Int):=by push_cast;rfl
  obtain⟨xa,xi,x5,nv,ap,cp,rfl,hxi,hx5,g0,hn,g5,⟨b1,b2,b3,b4,hadr,hcs⟩,hpl⟩:=hat i hi
  obtain⟨s,hse⟩:∃s,c.hosts[i]=s:=⟨_,rfl⟩
  have fs2:=hf.zl s (hse▸List.getElem_mem hi)
  have fs3:=hf.z s (hse▸List.getElem_mem hi)
  rw[hse]at hn g5 hadr hcs
  simp only[hse]at hpl
  have n1:=hn.isOne
  have hz0:adr (some xi) 0=some xi:=zar _
  obtain⟨y1,hy1⟩:∃y,adr (some xi) 1=some y:=⟨_,rfl⟩
  have gby:zaw w (some y1) 4=some [zad b1,zad b2,zad b3,zad b4]:=by
   have h5:=zaU (m:=1) (k:=5) hcs
   rw[hy1]at h5
   exact zci (m:=4) (k:=1) h5
  obtain⟨an,cn,hnv,_⟩:=id hn
  repeat refine c_r ?_
  refine zaF (fun i=>i==14) [(0,true),(1,true),(2,true),(3,true),(4,true),(5,true),(6,true),(7,true),(8,true),(9,true),(10,true),(11,true),(12,true),(13,false),(14,false)] NoS mixed (by kernel_rfl) ?_;intro gd K x hgd hx hxe hK;clear hxe
  have hwx:=hE1.trans (hEA.trans hx)
  have p0x:=zab hx p0A
  have g0x:=zab hwx g0
  have gbx:=zag hwx gby
  simp (disch:=first|omega|assumption|rfl) only[go_sem,s4,s1,p0x,Nat.add_zero,hi0,hlt,hxi,hz0,hy1,g0x,gbx]
  refine⟨by kernel_rfl,?_⟩
  rw[hnv,show bdV Tryz.prog 176 [(0,.slice an (s.name.map vs).length cn),(1,.agg #[zad b1,zad b2,zad b3,zad b4])]=some (.agg #[.slice an (s.name.map vs).length cn,zad b1,zad b2,zad b3,zad b4,.slice Option.none 0 0]) from by kernel_rfl,←hnv]
  simp (disch:=first|omega|assumption|rfl) only[go_sem]
  refine⟨.inr (Ext.alloc x _),?_⟩
  refine zbe (P:=Tryz.prog) (l:=[nv,zad b1,zad b2,zad b3,zad b4,.slice Option.none 0 0]) rfl (fun v hv=>by simp at hv;rcases hv with rfl|rfl|rfl|rfl|rfl|rfl<;>first|exact n1|rfl) rfl rfl ?_
  intro A1 hE3 hs3 hB5
  refine⟨.inl rfl,?_⟩
  simp (disch:=first|omega|assumption|rfl) only[go_sem]
  refine hK _ _ ?_;clear hK hgd;clear K;try clear gd
  have hx3:=hx.trans hE3
  obtain⟨b5,hb5⟩:∃b,x.heap.size=b:=⟨_,rfl⟩
  have hsx:=hx.size
  rw[hb5]at hB5 hs3 hsx ⊢
  have hIP:IZ w 176 43 b5 nv b1 b2 b3 b4 A A1 (.slice Option.none 0 0) []:=⟨hB5,⟨Owns.nil _ _ _ _ _,fun x h=>by cases h⟩,hx3,hsx⟩
  clear p0x g0x gbx hx hx3 hwx hE3 hB5
  repeat refine c_r ?_
  refine rg0 ?_
  repeat refine c_r ?_
  refine zaj (fun m σ ds v=>ds=[]∧∃(k:Nat) (pv:Value) (zs:List ZX),k+m=s.zones.length∧σ 6=vi k∧σ 4=vi i∧σ 1= .pointer (some ⟨w.heap.size,0,Option.none⟩)∧σ 2= .pointer (some ⟨w.heap.size+1,0,Option.none⟩)∧σ 3= .pointer (some ⟨c3,0,Option.none⟩)∧σ 5= .pointer (some ⟨b5,0,Option.none⟩)∧
   IZ w 176 43 b5 nv b1 b2 b3 b4 A v pv zs∧zs.map Prod.fst=s.zones.take k∧b5+1≤v.heap.size) s.zones.length ?_ ?_
  ·exact⟨rfl,0,_,[],by omega,vr0,(vq1 s4),(vq1 s1),(vq1 s2),(vq1 s3),vq0,hIP,rfl,by omega⟩
  clear s4 s1 s2 s3 hIP
  rintro m2 σ2 ds2 v ⟨rfl,k,pv,zs,hkm,s6,s4,s1,s2,s3,s5,hIP,hzf,hvs⟩
  have hEv:=hEA.trans hIP.e
  have hwv:=hE1.trans hEv
  have p0v:=zab hEv p0
  have g5v:=zab hwv g5
  repeat refine c_r ?_
  refine rg9 s6 s4 s1 (an3 p0v Nat.add_zero g5v) hi0 hlt hxi hx5 trivial ?_
  repeat refine c_r ?_
  refine wc0 ?_ ?_
  ·intro hlt2
   simp only[decide_eq_true_eq]at hlt2
   have hk:k<s.zones.length:=by omega
   have hk0:(0:Int)≤(k:Int):=by omega
   have hk1':(k:Int)+1=((k+1:Nat):Int):=by push_cast;rfl
   obtain⟨xp,xk,ow,lv,rfl,hxk,dz,ho,hl⟩:=hpl k hk
   obtain⟨z,hze⟩:∃z,s.zones[k]=z:=⟨_,rfl⟩
   have hgz:=fs3 _ (List.getElem_mem hk)
   rw[hze]at ho hl hgz
   have q5:zai v (some ⟨b5,5,Option.none⟩)=some pv:=zae hIP.h rfl
   have lo:=hIP.lo
   have hgzl:=hgz.gd.len
   repeat refine c_r ?_
   refine zaF (fun i=>i==15) [(0,true),(1,true),(2,true),(3,true),(4,true),(5,true),(6,true),(7,true),(8,true),(9,true),(10,true),(11,false),(12,false),(13,false),(14,true),(15,false)] (zcY (b5+1)) mixed (by kernel_rfl) ?_;intro gd K x hgd hx hxe hK;have hx0:=drewX hxe;clear hxe
   have hwx:=hwv.trans hx0
   have p0x:=zab hx0 p0v
   have g5x:=zab hwx g5
   have dzx:=zag hwx dz
   have q5x:=zab hx0 q5
   simp (disch:=first|omega|assumption|rfl) only[go_sem,s6,s4,s1,s5,p0x,Nat.add_zero,Nat.zero_add,hi0,hlt,hk0,hlt2,hxi,hx5,hxk,g5x,dzx,q5x]
   have l5:x5.block<b5+1:=by have:=zcb (show w.cell? x5=some _ from g5);have:=hE1.size;have:=hEA.size;omega
   have lk:xk.block<b5+1:=by
    have h0:=zan (j:=0) dz rfl
    rw[zar]at h0
    have:=zcb (show w.cell? xk=some _ from h0);have:=hE1.size;have:=hEA.size;omega
   have lw:w.heap.size<b5+1:=by have:=hE1.size;have:=hEA.size;omega
   refine⟨zd6 (by omega),zd6 lw,zeL l5,zeL lk,?_⟩
   refine Fn.mono (ZOf_ok hwx ho (hl.ext hwx) (fun r hr=>(hgz.gd.few r hr).2.nn) (by omega)) ?_
   rintro _ v0 ⟨hE0,lv',G',rfl,hOI,hG'⟩
   refine⟨.inr hE0.keep,?_⟩
   obtain⟨al',cl',hlv',_⟩:=hOI.own.rows.open
   simp (disch:=first|omega|assumption|rfl) only[go_sem]
   refine zbv zhq (l:=[ow,lv']) (a:=((z,(ow,(lv',G'))):ZX)) (by rfl) (by rfl) (by rfl) (by rfl) ⟨rfl,ho.isOne,by rw[hlv'];rfl⟩ (by decide) ?_
   intro v1 hE4 hs4' ho4
   refine⟨.inr hE4.keep,?_⟩
   simp (disch:=first|omega|assumption|rfl) only[go_sem]
   have hx04:=(hx0.trans hE0).trans hE4
   have hsz4:=hx04.size
   have hs0:=hx0.size
   have hzl:zs.length=k:=by
    have:=congrArg List.length hzf
    simp at this;omega
   refine zaT zhq (hIP.g.ext (zcF w) hx04).own ho4.rows (by rfl) (by rfl) (by rfl) (by rfl) (by rfl) (by rfl) (by decide) (vr0) (vr0) (by simp;omega) (by decide) (by omega) ?_
   intro pv' v2 ho5 hE5 hk5 hb5'
   refine⟨.inr (hk5.mono fun b _ hb=>(hIP.g.own.ge hb).1),?_⟩
   obtain⟨ap',cp',hpv',_⟩:=ho5.rows.open
   simp (disch:=first|omega|assumption|rfl) only[go_sem,s5,Nat.zero_add]
   refine zfp (P:=Tryz.prog) (t:=174) (j:=5) (u:=pv') (l:=[nv,zad b1,zad b2,zad b3,zad b4,pv]) ((hk5.block _ (by omega) (fun hb=>by have:=(hIP.g.own.ge hb).1;omega)).trans (Ext.at hx04 hIP.h)) (by simp) (by rw[hpv'];rfl) rfl rfl ?_
   intro v3 hs3' hB3' hk3'
   refine⟨.inl rfl,?_⟩
   simp (disch:=first|omega|assumption|rfl) only[go_sem]
   refine hK _ _ ?_;clear hK hgd;clear K;try clear gd
   have hIPn:=hIP.app hx04 (by omega) (x:=((z,(ow,(lv',G'))):ZX)) ⟨ho,hG',_,hOI.ext hE4⟩ (fun b hb=>by have:=zx_in (x:=((z,(ow,(lv',G'))):ZX)) (hOI.ext hE4) b hb;omega) ho5 hk5 hb5' hB3' hk3'
   have hs5:=hk5.size
   repeat refine c_r ?_
   refine rg2 s6 hk1' ?_
   repeat refine c_r ?_
   exact⟨m2 - 1,by omega,rfl,k+1,pv',_,by omega,vq0,(vq1 s4),(vq1 s1),(vq1 s2),(vq1 s3),(vq1 s5),hIPn,by rw[zao hk,List.map_append,hzf,hze];rfl,by omega⟩
  ·intro hge2
   simp only[decide_eq_false_iff_not]at hge2
   have hfull:s.zones.take k=s.zones:=List.take_of_length_le (by omega)
   rw[hfull]at hzf
   obtain⟨ap',cp',hpv',_⟩:=hIP.g.own.rows.open
   have lo:=hIP.lo
   have dB:zaw v (some ⟨b5,0,Option.none⟩) 6=some [nv,zad b1,zad b2,zad b3,zad b4,pv]:=zav hIP.h rfl
   have q3:zai v (some ⟨c3,0,Option.none⟩)=some ov:=zae (Ext.at hIP.e hB3) rfl
   have ones6:∀q∈ [nv,zad b1,zad b2,zad b3,zad b4,pv],one q=true:=fun q hq=>by
    simp at hq
    rcases hq with rfl|rfl|rfl|rfl|rfl|rfl<;>first|exact n1|rfl| (rw[hpv'];rfl)
   have hGl:G.length=i:=by
    have:=congrArg List.length hGf
    simp at this;omega
   repeat refine c_r ?_
   refine rq ?_;intro gd K hgd hK
   try simp (disch:=first|omega|assumption|rfl) only[go_sem,s3,s5,q3,dB,Nat.add_zero]
   refine zbv (C:=hxC) zhH (l:=[nv,zad b1,zad b2,zad b3,zad b4,pv]) (a:=((s,(pv,([nv,zad b1,zad b2,zad b3,zad b4,pv],zs))):HX)) (by rfl) (by rfl) (by rfl) (by rfl) ⟨rfl,rfl,ones6⟩ (by decide) ?_
   intro v1 hE4 hs4' ho4
   try simp only[go_sem]
   have hAv1:=hIP.e.trans hE4
   have hsA1:=hAv1.size
   refine zaT zhH ((hGS.ext (zdF w _) hAv1).own) ho4.rows (by rfl) (by rfl) (by rfl) (by rfl) (by rfl) (by rfl) (by decide) (vr0) (vr0) (by simp;omega) (by decide) (by omega) ?_
   intro ov' v2 ho5 hE5 hk5 hb5'
   obtain⟨ao',co',hov',_⟩:=ho5.rows.open
   try simp (disch:=first|omega|assumption|rfl) only[go_sem,s3,Nat.add_zero]
   refine zfp (P:=Tryz.prog) (t:=70) (j:=0) (u:=ov') (l:=[ov,rv,vi c.rw,vi c.rf]) ((hk5.block _ (by omega) (fun hb=>by have:=(hGS.own.ge hb).1;omega)).trans (Ext.at hAv1 hB3)) (by simp) (by rw[hov'];rfl) rfl rfl ?_
   intro v3 hs3' hB3' hk3'
   try simp only[go_sem]
   refine hK _ _ ?_;clear hK hgd;clear K;try clear gd
   have hg4:=hIP.g.ext (zcF w) hE4
   have hGS2:=hGS.app (zdF w _) hAv1 hAs (x:=((s,(pv,([nv,zad b1,zad b2,zad b3,zad b4,pv],zs))):HX)) ⟨⟨nv,b1,b2,b3,b4,rfl,hadr,hn⟩,hzf,_,hg4⟩ (fun b hb=>by have:=hg4.in hb;omega) ho5 hk5 hb5'
   have hGS3:=hGS2.keep (zdF w _) hk3' (fun b h1 h2=>by have:=(hGS2.in h1).1;omega)
   have hs5:=hk5.size
   repeat refine c_r ?_
   refine rg2 s4 hi1' ?_
   repeat refine c_r ?_
   refine⟨m - 1,by omega,rfl,i+1,ov',_,by omega,vq0,(vq1 s1),(vq1 s2),(vq1 s3),Keep.to_ext (hE5 w1 (hEA.trans hAv1) (by omega)) rfl (fun b hb=>by omega) hk3',by omega,hB3',hGS3,?_⟩
   rw[zao hi,List.map_append,hGf,hse];rfl
 ·intro hge
  simp only[decide_eq_false_iff_not]at hge
  rw[List.take_of_length_le (by omega)]at hGf
  have hEw:=hE1.trans hEA
  have hrows:=zhI hGS hEw
  rw[hGf]at hrows
  have o1:=hrows.isOne
  have dx:=zav (n:=4) (l:=[ov,rv,vi c.rw,vi c.rf]) hB3 rfl
  repeat refine c_r ?_
  refine rq ?_;intro gd K hgd hK
  try simp (disch:=first|omega|assumption|rfl) only[go_sem,s3,s2,dx]
  refine zbz (P:=Tryz.prog) (t:=72) (l:=[ov,rv,vi c.rw,vi c.rf]) (Ext.at hEA hC) rfl (fun v hv=>by simp at hv;rcases hv with rfl|rfl|rfl|rfl<;>first|exact r1|exact o1|rfl) rfl rfl ?_
  intro z hsz hBz hkz
  try simp only[go_sem]
  refine hK _ _ ?_;clear hK hgd;clear K;try clear gd
  repeat refine c_r ?_
  refine zaB (.inr rfl) Tryz.ntmps34 rfl (zcJ (x:=⟨w.heap.size+1,0,Option.none⟩) (k:=4) ((vq1 s2)) rfl rfl (zav hBz rfl) zaC) ?_
  have hEz:Ext w z:=Keep.to_ext hEw rfl (fun b hb=>by omega) hkz
  have hGz:=zhI (hGS.keep (zdF w _) hkz (fun b h1 h2=>by have:=(hGS.in h1).1;omega)) hEz
  rw[hGf]at hGz
  exact⟨hEz,_,rfl,ov,rv,rfl,hGz,hr0.ext hEz⟩
set_option maxHeartbeats 4000000 in
theorem zd4(w:World)(av bv:Value)(L:List Nm)(ha:NamesAt w av L)(hb:NamesAt w bv L)(hk:∀x∈L,NmK x∧zah x=x)(hLl:L.length≤1000000000):
  Fn Tryz.prog 46 #[av,bv] w (fun v w'=>v= .bool true∧Ext w w'):=by
 obtain⟨a,c,rfl,hga⟩:=zbP ha
 obtain⟨b,d,rfl,hgb⟩:=zbP hb
 refine enter Tryz.func46 Tryz.ntmps46 rfl rfl ?_
 repeat refine c_r ?_
 refine rg0 ?_
 repeat refine c_r ?_
 refine rg0 ?_
 repeat refine c_r ?_
 refine wf (decide_eq_true (rfl:(L.length:Int)=L.length)) ?_
 repeat refine c_r ?_
 refine rg0 ?_
 repeat refine c_r ?_
 refine zaj (fun m σ ds v=>ds=[]∧∃i:Nat,i+m=L.length∧σ 5=vi i∧σ 0= .slice a L.length c∧σ 1= .slice b L.length d∧Ext w v) L.length ?_ ?_
 ·exact⟨rfl,0,by omega,vr0,vq0,vq0,Keep.refl _ _⟩
 rintro m σ ds v ⟨rfl,i,him,s5,s0,s1,hE⟩
 repeat refine c_r ?_
 refine rg2 s5 s0 ?_
 repeat refine c_r ?_
 refine wc0 ?_ ?_
 ·intro hlt
  simp only[decide_eq_true_eq]at hlt
  have hi:i<L.length:=by omega
  have hi0:(0:Int)≤(i:Int):=by omega
  have hi1':(i:Int)+1=((i+1:Nat):Int):=by push_cast;rfl
  obtain⟨av,ga,hra⟩:=hga i hi
  obtain⟨bv,gb,hrb⟩:=hgb i hi
  obtain⟨kx,hfx⟩:=hk _ (List.getElem_mem hi)
  obtain⟨q,hxe⟩:∃x,L[i]=x:=⟨_,rfl⟩
  rw[hxe]at hra hrb kx hfx
  have lx:=kx.len
  obtain⟨xa,rfl⟩:=Option.isSome_iff_exists.1 (zaf ga)
  obtain⟨xb,rfl⟩:=Option.isSome_iff_exists.1 (zaf gb)
  repeat refine c_r ?_
  refine zaz (Q:=fun e σ' ds' v'=>e= .normal∧ds'=[]∧σ' 5=vi i∧σ' 0= .slice (some xa) L.length c∧σ' 1= .slice (some xb) L.length d∧Ext v v'∧σ' 40= .bool false) ?_ ?_
  ·refine zaF (fun _=>false) [(0,true),(1,true),(2,true),(3,true),(4,true),(5,true),(6,true),(7,true),(8,false),(9,true),(10,true),(11,true),(12,true),(13,true),(14,true),(16,true),(17,true),(18,true),(19,true),(15,false),(20,false),(21,true),(22,true)] NoS mixed (by kernel_rfl) ?_;intro gd K x hgd hx hxe hK;clear hxe
   have hg10:∀n σ b,zas gd n σ (some (10,b))=zal (ev n σ (.tmp 28)) b:=(fun n σ b=>by rw[zac,show gd 10=some 28 from(by rw[hgd];rfl)];rfl)
   have ga1:=zab (hE.trans hx) ga
   have gb1:=zab (hE.trans hx) gb
   have hra1:=hra.ext (hE.trans hx)
   simp (disch:=first|omega|assumption|rfl) only[go_sem,s5,s0,s1,hi0,hlt,ga1,gb1]
   refine Fn.mono (zcz x _ _ _ _ hra1 (hrb.ext (hE.trans hx)) kx.LB kx.LB (by omega) (by omega)) ?_
   rintro _ x1 ⟨rfl,hx1⟩
   refine⟨.inr hx1,?_⟩
   have ga2:=zab hx1 ga1
   simp (disch:=first|omega|assumption|rfl) only[go_sem,s5,s0,s1,hi0,hlt,ga2,decide_true,zb1,↓hg10]
   refine Fn.mono (zcA x1 _ _ (hra1.ext hx1) kx.LB (by omega)) ?_
   rintro f x2 ⟨hf,hx2⟩
   refine⟨.inr hx2,?_⟩
   have ga3:=zab hx2 ga2
   simp (disch:=first|omega|assumption|rfl) only[go_sem,s5,s0,s1,hi0,hlt,ga3,zb1,↓hg10]
   refine Fn.mono (zcz x2 _ _ _ _ hf.row ((hra1.ext hx1).ext hx2) kx.fold.LB kx.LB (by rw[zax];omega) (by omega)) ?_
   rintro _ x3 ⟨rfl,hx3⟩
   refine⟨.inr hx3,?_⟩
   have hff:decide (zah (zah q)=zah q)=true:=by simp[zc3]
   simp (disch:=first|omega|assumption|rfl) only[go_sem,hff,zb1,↓hg10]
   refine hK _ _ ?_;clear hK hgd;clear K;try clear gd
   exact⟨rfl,rfl,(vq1 s5),(vq1 s0),(vq1 s1),hx.trans (hx1.trans (hx2.trans hx3)),vr0⟩
  clear s5 s0 s1
  rintro _ σ1 _ v1 ⟨rfl,rfl,s5,s0,s1,hE1,s40⟩
  repeat refine c_r ?_
  refine wf s40 ?_
  repeat refine c_r ?_
  refine rg0 ?_
  repeat refine c_r ?_
  have hE2:=hE.trans hE1
  refine zaj (fun m σ ds v=>ds=[]∧∃k:Nat,k+m=q.length∧σ 6=vi k∧σ 5=vi i∧σ 0= .slice (some xa) L.length c∧σ 1= .slice (some xb) L.length d∧Ext w v) q.length ?_ ?_
  ·exact⟨rfl,0,by omega,vr0,(vq1 s5),(vq1 s0),(vq1 s1),hE2⟩
  clear s5 s0 s1 s40
  rintro m2 σ2 ds2 v2 ⟨rfl,k,hkm,s6,s5,s0,s1,hE3⟩
  have ga2:=zab hE3 ga
  have gb2:=zab hE3 gb
  obtain⟨ax,cx,rfl,hcx,hgx⟩:=id hra
  obtain⟨bx,dx,rfl,hdx,hhx⟩:=id hrb
  rw[List.length_map]at ga2 gb2
  repeat refine c_r ?_
  refine rq ?_;intro gd K hgd hK;simp (disch:=first|omega|assumption|rfl) only[go_sem,s6,s5,s0,hi0,hlt,ga2];refine hK _ _ ?_;clear hK hgd;clear K gd
  repeat refine c_r ?_
  refine wc0 ?_ ?_
  ·intro hlt2
   simp only[decide_eq_true_eq]at hlt2
   have hk':k<q.length:=by omega
   have hk0:(0:Int)≤(k:Int):=by omega
   have hk1':(k:Int)+1=((k+1:Nat):Int):=by push_cast;rfl
   have g1:=hgx k (by rw[List.length_map];exact hk')
   have g2:=hhx k (by rw[List.length_map];exact hk')
   rw[List.getElem_map]at g1 g2
   obtain⟨xc,rfl⟩:=Option.isSome_iff_exists.1 (zaf g1)
   obtain⟨xd,rfl⟩:=Option.isSome_iff_exists.1 (zaf g2)
   repeat refine c_r ?_
   refine zaz (Q:=fun e σ' ds' v'=>e= .normal∧ds'=[]∧σ' 6=vi k∧σ' 5=vi i∧σ' 0= .slice (some xa) L.length c∧σ' 1= .slice (some xb) L.length d∧Ext v2 v'∧σ' 64= .bool false) ?_ ?_
   ·refine zaF (fun _=>false) [(0,true),(1,true),(2,true),(3,true),(4,true),(5,true),(6,true),(7,true),(8,true),(9,true),(10,true),(11,true),(12,true),(13,true),(14,true)] NoS mixed (by kernel_rfl) ?_;intro gd K x hgd hx hxe hK;clear hxe
    have ga3:=zab hx ga2
    have gb3:=zab hx gb2
    have g1x:=zab (hE3.trans hx) g1
    have g2x:=zab (hE3.trans hx) g2
    simp (disch:=first|omega|assumption|rfl) only[go_sem,s6,s5,s0,s1,hi0,hlt,hk0,hlt2,ga3,gb3,g1x,g2x,decide_true]
    refine hK _ _ ?_;clear hK hgd;clear K;try clear gd
    exact⟨rfl,rfl,(vq1 s6),(vq1 s5),(vq1 s0),(vq1 s1),hx,vr0⟩
   clear s6 s5 s0 s1
   rintro _ σ3 _ v3 ⟨rfl,rfl,s6,s5,s0,s1,hE4,s64⟩
   repeat refine c_r ?_
   refine wf s64 ?_
   repeat refine c_r ?_
   refine rg2 s6 hk1' ?_
   repeat refine c_r ?_
   exact⟨m2 - 1,by omega,rfl,k+1,by omega,vq0,(vq1 s5),(vq1 s0),(vq1 s1),hE3.trans hE4⟩
  ·intro _
   repeat refine c_r ?_
   refine rg2 s5 hi1' ?_
   repeat refine c_r ?_
   exact⟨m - 1,by omega,rfl,i+1,by omega,vq0,(vq1 s0),(vq1 s1),hE3⟩
 ·intro _
  repeat refine c_r ?_
  refine rg0 ?_
  repeat refine c_r ?_
  refine rt0 Tryz.ntmps46 ?_
  exact⟨rfl,hE⟩
theorem zgC{ps:List Nm}(h:∀p∈ps,NmK p):∀x∈canN ps,NmK x∧zah x=x:=fun x hx=>⟨inS_k h (mem_canN.1 hx),zhG (mem_canN.1 hx)⟩
set_option maxHeartbeats 4000000 in
theorem zho(W:World){cs:List Value}{N:NetL}{most:Int}(hN:NetAt W cs N)(hv:NumN N):
  Fn Tryz.prog 12 #[.agg cs.toArray,vi most] W (fun v w'=>v= .bool true∧Ext W w'):=by
 have hN0:=hN
 obtain⟨hsv,rv,rfl,hh,hr⟩:=hN.ex
 obtain⟨ah,ch,hhv,_⟩:=hh.open
 obtain⟨ar0,cr0,hrv,_⟩:=id hr
 refine enter Tryz.func12 Tryz.ntmps12 rfl rfl ?_
 repeat refine c_r ?_
 rw[hhv,hrv]
 refine rg0 ?_
 rw[←hhv,←hrv]
 repeat refine c_r ?_
 refine zaN ?_
 intro w1 hE1 hs1 hA
 have dN:zaw w1 (some ⟨W.heap.size,0,Option.none⟩) 4=some [hsv,rv,vi N.rw,vi N.rf]:=zav hA rfl
 repeat refine c_r ?_
 refine rc trivial (ziB w1) ?_
 rintro _ w2 ⟨rfl,hE2⟩
 refine re trivial ?_
 repeat refine c_r ?_
 refine wf trivial ?_
 have dN2:=zag hE2 dN
 have hE12:=hE1.trans hE2
 repeat refine c_r ?_
 refine zaz (Q:=fun e σ' ds' v'=>e= .normal∧ds'=[]∧σ' 2= .pointer (some ⟨W.heap.size,0,Option.none⟩)∧σ' 1=vi most∧Ext w2 v'∧∃bb,σ' 21= .bool bb∧(bb=false→zbd N∧most≤400)) ?_ ?_
 ·refine rcg [(3,18)] dN2 (zj3 w2 (hN0.ext hE12) hv) ?_
  rintro _ w3 ⟨hE3,b,rfl,hb⟩
  cases b with
  |false=>
   refine reg [(3,18)] Bool.not_false ?_
   exact⟨rfl,rfl,vq0,vq0,hE3,_,vr0,fun h=>by cases h⟩
  |true=>
   by_cases h4:most>400
   ·refine reg [(3,18)] (an2 Bool.not_true (decide_eq_true h4)) ?_
    exact⟨rfl,rfl,vq0,vq0,hE3,_,vr0,fun h=>by cases h⟩
   ·refine reg [(3,18)] (an2 Bool.not_true (decide_eq_false h4)) ?_
    exact⟨rfl,rfl,vq0,vq0,hE3,_,vr0,fun _=>⟨hb rfl,by omega⟩⟩
 rintro _ σ1 _ w3 ⟨rfl,rfl,s2,s1,hE3,bb,s21,hbb⟩
 have hE13:=hE12.trans hE3
 repeat refine c_r ?_
 cases bb with
 |true=>
  refine wt s21 ?_
  repeat (first|refine c_r ?_|refine rg0 ?_)
  refine rt0 Tryz.ntmps12 ?_
  exact⟨rfl,hE13⟩
 |false=>
 refine wf s21 ?_
 obtain⟨hG,hm4⟩:=hbb rfl
 clear hbb s21
 have dN3:=zag hE3 dN2
 have hbk:=zfc hG
 have hFk:∀p∈zbF N,NmK p:=zhb hbk
 have hbl:=ze7 hbk (zer hG)
 have hro:∀r∈renN N,zbc r:=zem (zcK hG)
 have hrl:(renN N).length≤1000000000:=by
  have h1:=zcf hG
  have h2:=zel (l:=zbV N)
  unfold renN;omega
 repeat refine c_r ?_
 refine rq ?_;intro gd K hgd hK
 try simp (disch:=first|omega|assumption|rfl) only[go_sem,s2,dN3]
 refine Fn.mono (Of16_ok w3 (hN0.ext hE13) hG.z) ?_
 rintro _ w4 ⟨hE4,cs',rfl,hX⟩
 obtain⟨hv',rv',rfl,hh',hr'⟩:=id hX.ex
 have hh1:=hh'.isOne
 have hr1:=hr'.isOne
 try simp only[go_sem]
 refine zbe (P:=Tryz.prog) (l:=[hv',rv',vi N.rw,vi N.rf]) rfl (fun v h=>by simp at h;rcases h with rfl|rfl|rfl|rfl<;>first|assumption|rfl) rfl rfl ?_
 intro w5 hE5 hs5 hC
 try simp only[go_sem]
 refine hK _ _ ?_;clear hK hgd;clear K;try clear gd
 have hE35:=hE4.trans hE5
 have hE15:=hE13.trans hE35
 have dN5:=zag hE35 dN3
 obtain⟨xb,hxb⟩:∃b,w4.heap.size=b:=⟨_,rfl⟩
 rw[hxb]at hC ⊢
 have dX5:zaw w5 (some ⟨xb,0,Option.none⟩) 4=some [hv',rv',vi N.rw,vi N.rf]:=zav hC rfl
 have hX5:=hX.ext hE5
 repeat refine c_r ?_
 refine rc (an2 s2 dN5) (zd3 (S:=NoS) hE15 (fun _ h=>h.elim) hN0 hG) ?_
 rintro rv1 w6 ⟨hE6,hR1⟩
 refine re trivial ?_
 have dN6:=zag hE6 dN5
 have dX6:=zag hE6 dX5
 repeat refine c_r ?_
 refine rc dX6 (zfh hE6 hX5 hG) ?_
 rintro rv2 w7 ⟨hE7,hR2⟩
 refine re trivial ?_
 have dN7:=zag hE7 dN6
 have dX7:=zag hE7 dX6
 have hR1':=RowsP.ext hR1.rows hE7
 obtain⟨a1,c1,rfl,_,hg1⟩:=hR1'.open
 obtain⟨a2,c2,rfl,_,hg2⟩:=hR2.open
 have hE57:=hE6.trans hE7
 repeat refine c_r ?_
 refine zaz (Q:=fun e σ' ds' v'=>e= .normal∧ds'=[]∧σ' 2= .pointer (some ⟨W.heap.size,0,Option.none⟩)∧σ' 1=vi most∧σ' 5= .pointer (some ⟨xb,0,Option.none⟩)∧σ' 6= .slice a1 (renN N).length c1∧σ' 7= .slice a2 (renN N).length c2∧Ext w7 v'∧σ' 40= .bool false) ?_ ?_
 ·refine zaF (fun _=>false) [(0,true),(2,true),(1,false),(3,false),(4,false),(5,true),(6,true),(7,true),(8,true),(9,true),(10,true),(11,true),(12,true)] NoS mixed (by kernel_rfl) ?_;intro gd K x hgd hx hxe hK;clear hxe
  have hg6:∀n σ b,zas gd n σ (some (6,b))=zal (ev n σ (.tmp 34)) b:=(fun n σ b=>by rw[zac,show gd 6=some 34 from(by rw[hgd];rfl)];rfl)
  have dNx:=zag hx dN7
  have dXx:=zag hx dX7
  simp (disch:=first|omega|assumption|rfl) only[go_sem,s2,dNx,dXx]
  refine Fn.mono (zj6 ((hE15.trans hE57).trans hx) hN0 hG) ?_
  rintro bv x1 ⟨hx1,hB1⟩
  refine⟨.inr hx1,?_⟩
  have dXy:=zag hx1 dXx
  simp (disch:=first|omega|assumption|rfl) only[go_sem,dXy]
  refine Fn.mono (zhZ ((hE57.trans hx).trans hx1) hX5 hG) ?_
  rintro bw x2 ⟨hx2,hB2⟩
  refine⟨.inr hx2,?_⟩
  simp (disch:=first|omega|assumption|rfl) only[go_sem]
  refine Fn.mono (zd4 x2 _ _ _ (hB1.ext hx2) hB2.at (zgC hbk) (by omega)) ?_
  rintro _ x3 ⟨rfl,hx3⟩
  refine⟨.inr hx3,?_⟩
  simp (disch:=first|omega|assumption|rfl) only[go_sem,decide_true,↓hg6]
  refine hK _ _ ?_;clear hK hgd;clear K;try clear gd
  exact⟨rfl,rfl,(vq1 s2),(vq1 s1),vq0,vq0,vq0,hx.trans (hx1.trans (hx2.trans hx3)),vr0⟩
 clear s2 s1
 rintro _ σ2 _ w8 ⟨rfl,rfl,s2,s1,s5,s6,s7,hE8,s40⟩
 repeat refine c_r ?_
 refine wf s40 ?_
 repeat refine c_r ?_
 refine rg0 ?_
 repeat refine c_r ?_
 refine zaz (Q:=fun e σ' ds' v'=>e= .exit 0∧ds'=[]∧σ' 2= .pointer (some ⟨W.heap.size,0,Option.none⟩)∧σ' 1=vi most∧σ' 5= .pointer (some ⟨xb,0,Option.none⟩)∧Ext w7 v') ?_ ?_
 ·refine zaj (fun m σ ds v=>ds=[]∧∃k:Nat,k+m=(renN N).length∧σ 8=vi k∧σ 2= .pointer (some ⟨W.heap.size,0,Option.none⟩)∧σ 1=vi most∧σ 5= .pointer (some ⟨xb,0,Option.none⟩)∧σ 6= .slice a1 (renN N).length c1∧σ 7= .slice a2 (renN N).length c2∧Ext w7 v) (renN N).length ?_ ?_
  ·exact⟨rfl,0,by omega,vr0,(vq1 s2),(vq1 s1),(vq1 s5),(vq1 s6),(vq1 s7),hE8⟩
  clear s2 s1 s5 s6 s7 s40
  rintro m σ ds v ⟨rfl,k,hkm,s8,s2,s1,s5,s6,s7,hEv⟩
  repeat refine c_r ?_
  refine rg2 s8 s6 ?_
  repeat refine c_r ?_
  refine wc0 ?_ ?_
  ·intro hlt
   simp only[decide_eq_true_eq]at hlt
   have hk:k<(renN N).length:=by omega
   have hk0:(0:Int)≤(k:Int):=by omega
   have hk1':(k:Int)+1=((k+1:Nat):Int):=by push_cast;rfl
   obtain⟨pcs,hpc,hP⟩:=hg1 k hk
   obtain⟨qcs,hqc,hQ⟩:=hg2 k hk
   have hrm:=List.getElem_mem hk
   obtain⟨r,hre⟩:∃r,(renN N)[k]=r:=⟨_,rfl⟩
   rw[hre]at hP hQ hrm
   have hro1:=hro r hrm
   have l1:=hro1.a.len
   have l2:=hro1.b.len
   obtain⟨p1,p2,rfl,hp1,hp2⟩:=hP.ex
   obtain⟨q1,q2,rfl,hq1,hq2⟩:=hQ.ex
   obtain⟨xr,rfl⟩:=Option.isSome_iff_exists.1 (zak hpc)
   obtain⟨yr,rfl⟩:=Option.isSome_iff_exists.1 (zak hqc)
   obtain⟨xk,hxk⟩:∃xi,adr (some xr) (k*2)=some xi:=⟨_,rfl⟩
   obtain⟨yk,hyk⟩:∃xi,adr (some yr) (k*2)=some xi:=⟨_,rfl⟩
   rw[hxk]at hpc
   rw[hyk]at hqc
   have hz0:adr (some xk) 0=some xk:=zar _
   have hz1:adr (some yk) 0=some yk:=zar _
   have c0:=zan (j:=0) hpc rfl
   rw[hz0]at c0
   have c1':=zan (j:=1) hpc rfl
   obtain⟨x1,hx1⟩:∃x,adr (some xk) 1=some x:=⟨_,rfl⟩
   rw[hx1]at c1'
   have e0:=zan (j:=0) hqc rfl
   rw[hz1]at e0
   have e1:=zan (j:=1) hqc rfl
   obtain⟨y1,hy1⟩:∃x,adr (some yk) 1=some x:=⟨_,rfl⟩
   rw[hy1]at e1
   have t1:(1:Int).toNat=1:=rfl
   repeat refine c_r ?_
   refine zaz (Q:=fun e σ' ds' v'=>e= .normal∧ds'=[]∧σ' 8=vi k∧σ' 2= .pointer (some ⟨W.heap.size,0,Option.none⟩)∧σ' 1=vi most∧σ' 5= .pointer (some ⟨xb,0,Option.none⟩)∧σ' 6= .slice (some xr) (renN N).length c1∧σ' 7= .slice (some yr) (renN N).length c2∧Ext v v'∧σ' 72= .bool false) ?_ ?_
   ·refine zaF (fun _=>false) [(0,true),(1,true),(2,true),(3,true),(4,true),(5,true),(6,true),(7,true),(8,true),(9,true),(10,false),(11,true),(12,true),(13,true),(14,true),(15,true),(16,true),(17,true),(18,true),(19,true),(20,true),(21,true),(22,true),(23,false),(24,true),(25,true)] NoS mixed (by kernel_rfl) ?_;intro gd K x hgd hx hxe hK;clear hxe
    have hg12:∀n σ b,zas gd n σ (some (12,b))=zal (ev n σ (.tmp 59)) b:=(fun n σ b=>by rw[zac,show gd 12=some 59 from(by rw[hgd];rfl)];rfl)
    have hvx:=hEv.trans hx
    have f1:=zab hvx c0
    have f2:=zab hvx e0
    simp (disch:=first|omega|assumption|rfl) only[go_sem,s8,s6,s7,hk0,hlt,hxk,hyk,hz0,hz1,t1,Int.toNat_zero,f1,f2]
    refine Fn.mono (zcz x _ _ _ _ (hp1.1.ext hvx) (hq1.1.ext hvx) hro1.a.LB hro1.a.LB (by omega) (by omega)) ?_
    rintro _ x9 ⟨rfl,hx9⟩
    refine⟨.inr hx9,?_⟩
    have hv9:=hvx.trans hx9
    have f3:=zab hv9 c1'
    have f4:=zab hv9 e1
    simp (disch:=first|omega|assumption|rfl) only[go_sem,s8,s6,s7,hk0,hlt,hxk,hyk,hx1,hy1,t1,f3,f4,decide_true,zb1,↓hg12]
    refine Fn.mono (zcz x9 _ _ _ _ (hp2.1.ext hv9) (hq2.1.ext hv9) hro1.b.LB hro1.b.LB (by omega) (by omega)) ?_
    rintro _ x10 ⟨rfl,hx10⟩
    refine⟨.inr hx10,?_⟩
    simp (disch:=first|omega|assumption|rfl) only[go_sem,decide_true,zb1,↓hg12]
    refine hK _ _ ?_;clear hK hgd;clear K;try clear gd
    exact⟨rfl,rfl,(vq1 s8),(vq1 s2),(vq1 s1),(vq1 s5),(vq1 s6),(vq1 s7),hx.trans (hx9.trans hx10),vr0⟩
   clear s8 s2 s1 s5 s6 s7
   rintro _ σ3 _ v3 ⟨rfl,rfl,s8,s2,s1,s5,s6,s7,hE9,s72⟩
   repeat refine c_r ?_
   refine wf s72 ?_
   repeat refine c_r ?_
   refine rg2 s8 hk1' ?_
   repeat refine c_r ?_
   exact⟨m - 1,by omega,rfl,k+1,by omega,vq0,(vq1 s2),(vq1 s1),(vq1 s5),(vq1 s6),(vq1 s7),hEv.trans hE9⟩
  ·intro _
   repeat refine c_r ?_
   exact⟨rfl,rfl,(vq1 s2),(vq1 s1),(vq1 s5),hEv⟩
 clear s2 s1 s5 s6 s7 s40
 rintro _ σ3 _ w9 ⟨rfl,rfl,s2,s1,s5,hE9⟩
 have dN9:=zag hE9 dN7
 have dX9:=zag hE9 dX7
 have hE59:=hE57.trans hE9
 have hE19:=hE15.trans hE59
 repeat refine c_r ?_
 refine rc (an3 s2 s1 dN9) (zf2 (most:=most) hE19 hN0 hG (by omega)) ?_
 rintro _ w10 ⟨hE10,(⟨h3,rfl⟩| ⟨hm,lv,rfl,hlv⟩)⟩
 ·refine re trivial ?_
  have dX10:=zag hE10 dX9
  repeat refine c_r ?_
  refine rc (an3 s5 s1 dX10) (zgL (most:=most) (hE59.trans hE10) hX5 hG (by omega)) ?_
  rintro _ w11 ⟨hE11,(⟨_,rfl⟩| ⟨hm',_⟩)⟩
  ·refine re trivial ?_
   repeat refine c_r ?_
   refine rcg [(3,88)] decide_true (zd4 w11 _ _ [] (zdA _) (zdA _) (fun _ h=>by cases h) (by decide)) ?_
   rintro _ w12 ⟨rfl,hE12⟩
   refine reg [(3,88)] decide_true ?_
   repeat refine c_r ?_
   refine rt0 Tryz.ntmps12 ?_
   exact⟨rfl,hE19.trans (hE10.trans (hE11.trans hE12))⟩
  ·omega
 ·refine re trivial ?_
  have dX10:=zag hE10 dX9
  repeat refine c_r ?_
  refine rc (an3 s5 s1 dX10) (zgL (most:=most) (hE59.trans hE10) hX5 hG (by omega)) ?_
  rintro _ w11 ⟨hE11,(⟨h3,_⟩| ⟨_,mv,rfl,hmv⟩)⟩
  ·omega
  ·refine re trivial ?_
   repeat refine c_r ?_
   refine rcg [(3,88)] decide_true (zd4 w11 _ _ _ (hlv.ext hE11) hmv (zgC hFk) (by omega)) ?_
   rintro _ w12 ⟨rfl,hE12⟩
   refine reg [(3,88)] decide_true ?_
   repeat refine c_r ?_
   refine rt0 Tryz.ntmps12 ?_
   exact⟨rfl,hE19.trans (hE10.trans (hE11.trans hE12))⟩
end Go.Proofs.YtopbbjdembnfdaaGreat
