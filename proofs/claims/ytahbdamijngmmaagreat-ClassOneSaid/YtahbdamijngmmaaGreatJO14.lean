/-
  Texts of a proof, joined: A8, A9, A10, A11, A12, A13, I8, U0, U1, I9.
  Conditions: none.
-/
import Derived.Test.YtahbdamijngmmaaGreatJO10
import Derived.Test.YtahbdamijngmmaaGreatJO13
import Derived.Test.YtahbdamijngmmaaGreatJO09
import Derived.Test.YtahbdamijngmmaaGreatJO07
import Derived.Test.YtahbdamijngmmaaGreatJO05
import Derived.Test.YtahbdamijngmmaaGreatJO11
set_option linter.unusedVariables false
set_option linter.unusedSimpArgs false
set_option linter.defProp false
set_option linter.unnecessarySimpa false
set_option maxHeartbeats 8000000
namespace Go.Proofs.YtahbdamijngmmaaGreat
open Go
set_option maxRecDepth 10000
theorem zir:zbb smallN:=by
 refine⟨small_z,by decide,by decide,by decide,by decide,by decide,?_,?_⟩
 ·intro h hh
  simp only[smallN,List.mem_cons,List.not_mem_nil,or_false]at hh
  rcases hh with rfl|rfl<;>decide
 ·intro h hh
  simp only[smallN,List.mem_cons,List.not_mem_nil,or_false]at hh
  rcases hh with rfl|rfl<;>exact⟨by decide,by decide⟩
theorem zeH:canN (zaV smallN)=[[],[[97]],[[111]],kH,kX]:=by kernel_rfl
theorem zbs{w:World}{v:Value}{L:List Nm}(h:NamesAt w v L):∃a c,v= .slice a L.length c∧∀i (hi:i<L.length),∃y,zah w (adr a i)=some y∧Row w y (L[i].map vs):=by
 obtain⟨vals,⟨a,c,e,_,hg⟩,hl,hr⟩:=h
 exact⟨a,c,by rw[e,hl],fun i hi=>⟨vals[i]'(by omega),hg i (by omega),hr i (by omega) hi⟩⟩
theorem ze3{f g:Nm}:(∃k,k≤f.length∧g=f.drop k)↔g<:+f:=by
 constructor
 ·rintro⟨k,_,rfl⟩;exact List.drop_suffix _ _
 ·rintro⟨p,rfl⟩;exact⟨p.length,by simp,by simp⟩
theorem zdW(w:World)(lv nv:Value)(ps:List Nm)(n:Nm)(hl:NamesZ NoS w lv (canN ps))(hn:Row w nv (n.map vs))(hk:∀p∈ps,NmK p)(hnk:NmK n)(hlen:(canN ps).length≤100000000):
  Fn Tryz.prog 123 #[lv,nv] w (fun v w'=>Ext w w'∧NamesZ NoS w' v (canN (ps++ [n]))):=by
 have hnl:=hnk.len
 refine Fn.mono (RAdd_ok w lv nv (canN ps) n hl (fun _ h=>h.elim) hn (fun x hx=>zhY (mem_canN.1 hx)) (fun x hx=>by have h:=inS_k hk (mem_canN.1 hx);have:=h.len;exact⟨h.LB,by omega⟩) hnk.LB (by omega) hlen (zct ps) (fun l f hf=>mem_canN.2 (zhX (mem_canN.1 hf)))) ?_
 rintro v w' ⟨hE,L',h1,h2,h3,_⟩
 have:=zht (ps:=ps++ [n]) h2 fun g=>by
  rw[h3,mem_canN,zjZ]
  constructor
  ·rintro(h| ⟨k,hk,rfl⟩)
   ·exact .inl h
   ·exact .inr (.inr ⟨n,by simp,List.drop_suffix _ _⟩)
  ·rintro(h| (rfl| ⟨p,hp,hs⟩))
   ·exact .inl h
   ·exact .inl (.inl rfl)
   ·rw[List.mem_singleton.1 hp]at hs
    obtain⟨k,hk,e⟩:=ze3.2 hs
    rw[zau]at hk
    exact .inr ⟨k,hk,e⟩
 subst this
 exact⟨hE,h1⟩
theorem ziU{ps:List Nm}(hk:∀p∈ps,NmK p)(hl:ps.length≤20000):(canN ps).length≤100000000:=by
 have h1:=zeZ ([]::ps.flatMap fun p=>zcN (zag p))
 have h2:=zgy (l:=ps) (f:=fun p=>zcN (zag p)) (k:=256) (fun p hp=>by rw[zdD,zau];have:=(hk p hp).len;omega)
 unfold canN
 rw[List.length_cons]at h1
 omega
theorem RBase_ok{w0 w:World}(hE0:Ext w0 w){cs:List Value}{N:NetL}(hN:NetAt w0 cs N)(hG:zbb N):
  Fn Tryz.prog 120 #[.agg cs.toArray] w (fun v w'=>Ext w w'∧NamesZ NoS w' v (canN (za2 N))):=by
 obtain⟨hv,rv,rfl,hh,hr⟩:=hN.ex
 obtain⟨ah,ch,hhv,hch,hgh⟩:=hh.open
 obtain⟨ar,cr,hrv,_⟩:=id hr
 have hl6:=hG.h1.2
 have bk:=zgL hG
 have bl:=zib hG
 have pre_ok:∀{pre suf:List Nm} {x:Nm},za2 N=pre++x::suf→(∀p∈pre,NmK p)∧NmK x∧(canN pre).length≤100000000:=fun {pre suf x} e=>by
  have h1:∀p∈pre,NmK p:=fun p hp=>bk p (by rw[e];exact List.mem_append_left _ hp)
  refine⟨h1,bk x (by rw[e];simp),ziU h1 ?_⟩
  have:=congrArg List.length e
  rw[List.length_append]at this
  omega
 refine enter Tryz.func120 Tryz.ntmps120 rfl rfl ?_
 repeat refine c_r ?_
 rw[hhv,hrv]
 refine rg0 ?_
 rw[←hrv]
 repeat refine c_r ?_
 refine zaM ?_
 intro w1 hE1 hs1 hA
 have p0:zah w1 (some ⟨w.heap.size,0,Option.none⟩)=some (.slice ah N.hosts.length ch):=zac hA rfl
 have hE01:=hE0.trans hE1
 repeat refine c_r ?_
 refine rq ?_;intro gd K hgd hK
 try simp only[go_sem]
 refine zdS (z:= .slice Option.none 0 0) rfl rfl rfl rfl rfl ?_
 intro w2 hE2 hs2 hO
 try simp only[go_sem]
 refine hK _ _ ?_;clear hK hgd;clear K;try clear gd
 have hZ0:NamesZ NoS w2 (.slice (some ⟨w1.heap.size,0,Option.none⟩) 1 1) (canN []):=⟨[.slice Option.none 0 0],⟨hO.row,fun a n c hv=>by cases hv;exact⟨Nat.zero_le _,by show w1.heap.size<_;omega,fun h=>h⟩⟩,rfl,fun i h h'=>by
  have:i=0:=by simp at h;omega
  subst this
  exact⟨⟨Option.none,0,rfl,Nat.le_refl _,fun j h=>absurd h (by simp[canN,insN])⟩,fun a n c hv=>by cases hv⟩⟩
 have hE02:=hE01.trans hE2
 have p02:=zaa hE2 p0
 repeat refine c_r ?_
 refine rg0 ?_
 repeat refine c_r ?_
 refine zai (fun m σ ds v=>ds=[]∧∃(i:Nat) (pre:List Nm) (lv:Value),i+m=N.hosts.length∧σ 4=vi i∧σ 1= .pointer (some ⟨w.heap.size,0,Option.none⟩)∧σ 3=lv∧Ext w2 v∧NamesZ NoS v lv (canN pre)∧za2 N=pre++(N.hosts.drop i).flatMap zeV) N.hosts.length ?_ ?_
 ·exact⟨rfl,0,[],_,by omega,vr0,vq0,vq0,Keep.refl _ _,hZ0,rfl⟩
 rintro m σ ds v ⟨rfl,i,pre,lv,him,s4,s1,s3,hEv,hZ,hbe⟩
 have p0v:=zaa hEv p02
 repeat refine c_r ?_
 refine rg4 s4 s1 p0v Nat.add_zero ?_
 repeat refine c_r ?_
 refine wc0 ?_ ?_
 ·intro hlt
  simp only[decide_eq_true_eq]at hlt
  have hi:i<N.hosts.length:=by omega
  have hi0:(0:Int)≤(i:Int):=by omega
  have hi1':(i:Int)+1=((i+1:Nat):Int):=by push_cast;rfl
  obtain⟨hcs,hce,hH⟩:=hgh i hi
  have hmem:=List.getElem_mem hi
  rw[zbl hi]at hbe
  obtain⟨h,hhe⟩:∃x,N.hosts[i]=x:=⟨_,rfl⟩
  rw[hhe]at hH hmem hbe
  obtain⟨nv,b1,b2,b3,b4,zv,rfl,_,hnv,hz⟩:=hH.ex
  obtain⟨az,cz,rfl,hcz,hgz⟩:=hz.open
  have hzl:=hG.zl h hmem
  obtain⟨xa,rfl⟩:=Option.isSome_iff_exists.1 (zan hce)
  obtain⟨xi,hxi⟩:∃xi,adr (some xa) (i*6)=some xi:=⟨_,rfl⟩
  obtain⟨x5,hx5⟩:∃x,adr (some xi) 5=some x:=⟨_,rfl⟩
  rw[hxi]at hce
  have hz0:adr (some xi) 0=some xi:=zar _
  have g0:=zaq (j:=0) hce rfl
  rw[hz0]at g0
  have g5:=zaq (j:=5) hce rfl
  rw[hx5]at g5
  have hbe1:za2 N=pre++h.name::(h.zones.flatMap zdX++(N.hosts.drop (i+1)).flatMap zeV):=hbe
  obtain⟨k1,k2,k3⟩:=pre_ok hbe1
  have hE0v:=hE02.trans hEv
  repeat refine c_r ?_
  refine rc (an9 s4 s1 s3 p0v Nat.add_zero hi0 hlt hxi (an2 hz0 (zaa hE0v g0))) (zdW v lv nv pre h.name hZ (hnv.ext hE0v) k1 k2 k3) ?_
  rintro lv2 v2 ⟨hE3,hZ2⟩
  refine re trivial ?_
  obtain⟨R1,hR1⟩:∃R,(N.hosts.drop (i+1)).flatMap zeV=R:=⟨_,rfl⟩
  have hbe2:za2 N=(pre++ [h.name])++(h.zones.flatMap zdX++R1):=by rw[hbe1,hR1];simp
  clear hbe hbe1 k1 k2 k3
  repeat refine c_r ?_
  refine rg0 ?_
  repeat refine c_r ?_
  refine zai (fun m σ ds v=>ds=[]∧∃(k:Nat) (pre:List Nm) (lv:Value),k+m=h.zones.length∧σ 5=vi k∧σ 4=vi i∧σ 1= .pointer (some ⟨w.heap.size,0,Option.none⟩)∧σ 3=lv∧Ext w2 v∧NamesZ NoS v lv (canN pre)∧za2 N=pre++((h.zones.drop k).flatMap zdX++R1)) h.zones.length ?_ ?_
  ·exact⟨rfl,0,_,lv2,by omega,vr0,(vq1 s4),(vq1 s1),vq0,hEv.trans hE3,hZ2,hbe2⟩
  clear s4 s1 s3 hZ hZ2 hbe2 p0v hE3
  rintro m2 σ2 ds2 v3 ⟨rfl,k,pre2,lv3,hkm,s5,s4,s1,s3,hEv3,hZ,hbe⟩
  have p03:=zaa hEv3 p02
  have hE03:=hE02.trans hEv3
  have g53:=zaa hE03 g5
  repeat refine c_r ?_
  refine rg9 s5 s4 s1 p03 Nat.add_zero (an2 hi0 hlt) hxi hx5 g53 ?_
  repeat refine c_r ?_
  refine wc0 ?_ ?_
  ·intro hlt2
   simp only[decide_eq_true_eq]at hlt2
   have hk:k<h.zones.length:=by omega
   have hk0:(0:Int)≤(k:Int):=by omega
   have hk1':(k:Int)+1=((k+1:Nat):Int):=by push_cast;rfl
   obtain⟨zcs,hze,hZn⟩:=hgz k hk
   have hzmem:=List.getElem_mem hk
   rw[zbl hk,List.append_assoc]at hbe
   obtain⟨z,hzz⟩:∃x,h.zones[k]=x:=⟨_,rfl⟩
   rw[hzz]at hZn hzmem hbe
   obtain⟨zo,zl,rfl,hov,hlv⟩:=hZn.ex
   obtain⟨al,cl,rfl,hcl,hgl⟩:=hlv.open
   have gz:=(hG.z.z h hmem z hzmem).gd
   have hrl:=gz.len
   obtain⟨xz,rfl⟩:=Option.isSome_iff_exists.1 (zan hze)
   obtain⟨xk,hxk⟩:∃xi,adr (some xz) (k*2)=some xi:=⟨_,rfl⟩
   rw[hxk]at hze
   have d:=zaf hE03 hze
   have o1:=hov.isOne
   repeat refine c_r ?_
   refine rq ?_;intro gd K hgd hK
   try simp (disch:=first|omega|assumption|rfl) only[go_sem,s5,s4,s1,p03,Nat.add_zero,hi0,hlt,hxi,hx5,g53,hk0,hlt2,hxk,d]
   refine za3 (P:=Tryz.prog) (l:=[zo,.slice al z.recs.length cl]) rfl (zaX o1 rfl) rfl rfl ?_
   intro v4 hE4 hs4 hB6
   try simp only[go_sem]
   refine hK _ _ ?_;clear hK hgd;clear K;try clear gd
   obtain⟨c6,hc6⟩:∃b,v3.heap.size=b:=⟨_,rfl⟩
   rw[hc6]at hB6 hs4 ⊢
   have hEv4:=hEv3.trans hE4
   have q0:zah v4 (some ⟨c6,0,Option.none⟩)=some zo:=zac hB6 rfl
   have q1:zah v4 (some ⟨c6,1,Option.none⟩)=some (.slice al z.recs.length cl):=zac hB6 rfl
   obtain⟨R2,hR2⟩:∃R,(h.zones.drop (k+1)).flatMap zdX++R1=R:=⟨_,rfl⟩
   have hbe1:za2 N=pre2++z.o::(z.recs.flatMap recN++R2):=by rw[hbe,hR2];rfl
   obtain⟨k1,k2,k3⟩:=pre_ok hbe1
   repeat refine c_r ?_
   refine rc (an3 s3 q0 Nat.add_zero) (zdW v4 lv3 zo pre2 z.o (hZ.ext hE4) (hov.ext (hE02.trans hEv4)) k1 k2 k3) ?_
   rintro lv4 v5 ⟨hE5,hZ2⟩
   refine re trivial ?_
   have q15:=zaa hE5 q1
   have hbe2:za2 N=(pre2++ [z.o])++(z.recs.flatMap recN++R2):=by rw[hbe1];simp
   clear hbe hbe1 k1 k2 k3
   repeat refine c_r ?_
   refine rg0 ?_
   repeat refine c_r ?_
   refine zai (fun m σ ds v=>ds=[]∧∃(j:Nat) (pre:List Nm) (lv:Value),j+m=z.recs.length∧σ 7=vi j∧σ 6= .pointer (some ⟨c6,0,Option.none⟩)∧σ 5=vi k∧σ 4=vi i∧σ 1= .pointer (some ⟨w.heap.size,0,Option.none⟩)∧σ 3=lv∧Ext v5 v∧NamesZ NoS v lv (canN pre)∧za2 N=pre++((z.recs.drop j).flatMap recN++R2)) z.recs.length ?_ ?_
   ·exact⟨rfl,0,_,lv4,by omega,vr0,vq0,(vq1 s5),(vq1 s4),(vq1 s1),vq0,Keep.refl _ _,hZ2,hbe2⟩
   clear s5 s4 s1 s3 hZ hZ2 hbe2 p03 g53 d
   have hE25:=hEv4.trans hE5
   rintro m3 σ3 ds3 v6 ⟨rfl,j,pre3,lv5,hjm,s7,s6,s5,s4,s1,s3,hE6,hZ,hbe⟩
   have q16:=zaa hE6 q15
   have hE06:=hE02.trans (hE25.trans hE6)
   repeat refine c_r ?_
   refine rg4 s7 s6 q16 Nat.zero_add ?_
   repeat refine c_r ?_
   refine wc0 ?_ ?_
   ·intro hlt3
    simp only[decide_eq_true_eq]at hlt3
    have hj:j<z.recs.length:=by omega
    have hj0:(0:Int)≤(j:Int):=by omega
    have hj1':(j:Int)+1=((j+1:Nat):Int):=by push_cast;rfl
    obtain⟨rcs,hre,hR⟩:=hgl j hj
    have hrmem:=List.getElem_mem hj
    rw[zbl hj,List.append_assoc]at hbe
    obtain⟨r,hrr⟩:∃x,z.recs[j]=x:=⟨_,rfl⟩
    rw[hrr]at hR hrmem hbe
    obtain⟨ow,ds,rfl,how,hD⟩:=hR.ex
    obtain⟨nm,nu,tx,rw',rfl,⟨vals,hvr,hvl,hvn⟩,_,_,_⟩:=hD.ex
    obtain⟨an,cn,rfl,hcn,hgn⟩:=id hvr
    have n8:=(gz.few r hrmem).2.n8
    obtain⟨xr,rfl⟩:=Option.isSome_iff_exists.1 (zan hre)
    obtain⟨xj,hxj⟩:∃xi,adr (some xr) (j*7)=some xi:=⟨_,rfl⟩
    rw[hxj]at hre
    have hw0:adr (some xj) 0=some xj:=zar _
    obtain⟨x2,hx2⟩:∃x,adr (some xj) 2=some x:=⟨_,rfl⟩
    obtain⟨x3,hx3⟩:∃x,adr (some x2) 1=some x:=⟨_,rfl⟩
    have f0:=zaq (j:=0) hre rfl
    rw[hw0]at f0
    have f2:=zaW (m:=2) (k:=5) hre
    rw[hx2]at f2
    have f3:=zaq (j:=1) f2 rfl
    rw[hx3]at f3
    obtain⟨R3,hR3⟩:∃R,(z.recs.drop (j+1)).flatMap recN++R2=R:=⟨_,rfl⟩
    have hbe1:za2 N=pre3++r.owner::(r.dat.names++R3):=by rw[hbe,hR3];rfl
    obtain⟨k1,k2,k3⟩:=pre_ok hbe1
    repeat refine c_r ?_
    refine rc (an9 s3 s7 s6 q16 Nat.zero_add hj0 hlt3 hxj (an2 hw0 (zaa hE06 f0))) (zdW v6 lv5 ow pre3 r.owner hZ (how.ext hE06) k1 k2 k3) ?_
    rintro lv6 v7 ⟨hE7,hZ2⟩
    refine re trivial ?_
    have hbe2:za2 N=(pre3++ [r.owner])++(r.dat.names++R3):=by rw[hbe1];simp
    clear hbe hbe1 k1 k2 k3
    repeat refine c_r ?_
    refine rg0 ?_
    repeat refine c_r ?_
    refine zai (fun m σ ds v=>ds=[]∧∃(q:Nat) (pre:List Nm) (lv:Value),q+m=vals.length∧σ 8=vi q∧σ 7=vi j∧σ 6= .pointer (some ⟨c6,0,Option.none⟩)∧σ 5=vi k∧σ 4=vi i∧σ 1= .pointer (some ⟨w.heap.size,0,Option.none⟩)∧σ 3=lv∧Ext v5 v∧NamesZ NoS v lv (canN pre)∧za2 N=pre++(r.dat.names.drop q++R3)) vals.length ?_ ?_
    ·exact⟨rfl,0,_,lv6,by omega,vr0,(vq1 s7),(vq1 s6),(vq1 s5),(vq1 s4),(vq1 s1),vq0,hE6.trans hE7,hZ2,hbe2⟩
    clear s7 s6 s5 s4 s1 s3 hZ hZ2 hbe2 q16 hE6 hE06 hE7
    rintro m4 σ4 ds4 v8 ⟨rfl,q,pre4,lv7,hqm,s8,s7,s6,s5,s4,s1,s3,hE8,hZ,hbe⟩
    have q18:=zaa hE8 q15
    have hE08:=hE02.trans (hE25.trans hE8)
    have f38:=zaa hE08 f3
    repeat refine c_r ?_
    refine rg9 s8 s7 s6 q18 Nat.zero_add (an2 hj0 hlt3) hxj (an2 hx2 hx3) f38 ?_
    repeat refine c_r ?_
    refine wc0 ?_ ?_
    ·intro hlt4
     simp only[decide_eq_true_eq]at hlt4
     have hq:q<vals.length:=by omega
     have hqn:q<r.dat.names.length:=by omega
     have hq0:(0:Int)≤(q:Int):=by omega
     have hq1':(q:Int)+1=((q+1:Nat):Int):=by push_cast;rfl
     have gq:=hgn q hq
     have hyr:=hvn q hq hqn
     obtain⟨y,hy⟩:∃y,vals[q]=y:=⟨_,rfl⟩
     obtain⟨x,hxe⟩:∃x,r.dat.names[q]=x:=⟨_,rfl⟩
     rw[hy]at gq hyr
     rw[hxe]at hyr
     obtain⟨xn,rfl⟩:=Option.isSome_iff_exists.1 (zad gq)
     have hbe1:za2 N=pre4++x::(r.dat.names.drop (q+1)++R3):=by rw[hbe,List.drop_eq_getElem_cons hqn,hxe];rfl
     obtain⟨k1,k2,k3⟩:=pre_ok hbe1
     repeat refine c_r ?_
     refine rc (an9 s3 s8 s7 s6 q18 Nat.zero_add (an4 hj0 hlt3 hxj hx2) hx3 (an4 f38 hq0 hlt4 (zaa hE08 gq))) (zdW v8 lv7 y pre4 x hZ (hyr.ext hE08) k1 k2 k3) ?_
     rintro lv8 v9 ⟨hE9,hZ2⟩
     refine re trivial ?_
     repeat refine c_r ?_
     refine rg2 s8 hq1' ?_
     repeat refine c_r ?_
     exact⟨m4 - 1,by omega,rfl,q+1,_,lv8,by omega,vq0,(vq1 s7),(vq1 s6),(vq1 s5),(vq1 s4),(vq1 s1),vq0,hE8.trans hE9,hZ2,by rw[hbe1];simp⟩
    ·intro hge4
     simp only[decide_eq_false_iff_not]at hge4
     rw[List.drop_of_length_le (by omega),List.nil_append,←hR3]at hbe
     repeat refine c_r ?_
     refine rg2 s7 hj1' ?_
     repeat refine c_r ?_
     exact⟨m3 - 1,by omega,rfl,j+1,pre4,lv7,by omega,vq0,(vq1 s6),(vq1 s5),(vq1 s4),(vq1 s1),(vq1 s3),hE8,hZ,hbe⟩
   ·intro hge3
    simp only[decide_eq_false_iff_not]at hge3
    rw[List.drop_of_length_le (by omega),List.flatMap_nil,List.nil_append,←hR2]at hbe
    repeat refine c_r ?_
    refine rg2 s5 hk1' ?_
    repeat refine c_r ?_
    exact⟨m2 - 1,by omega,rfl,k+1,pre3,lv5,by omega,vq0,(vq1 s4),(vq1 s1),(vq1 s3),hE25.trans hE6,hZ,hbe⟩
  ·intro hge2
   simp only[decide_eq_false_iff_not]at hge2
   rw[List.drop_of_length_le (by omega),List.flatMap_nil,List.nil_append,←hR1]at hbe
   repeat refine c_r ?_
   refine rg2 s4 hi1' ?_
   repeat refine c_r ?_
   exact⟨m - 1,by omega,rfl,i+1,pre2,lv3,by omega,vq0,(vq1 s1),(vq1 s3),hEv3,hZ,hbe⟩
 ·intro hge
  simp only[decide_eq_false_iff_not]at hge
  rw[List.drop_of_length_le (by omega),List.flatMap_nil,List.append_nil]at hbe
  repeat refine c_r ?_
  refine rg1 s3 ?_
  repeat refine c_r ?_
  refine rt0 Tryz.ntmps120 ?_
  rw[hbe]
  exact⟨hE1.trans (hE2.trans hEv),hZ⟩
theorem zgS(w:World)(ca cb:List Value)(a b:zaI)(ha:PairAt NoS w ca a)(hb:PairAt NoS w cb b)(oa:zbn a)(ob:zbn b):
  Fn Tryz.prog 168 #[.agg ca.toArray,.agg cb.toArray] w (fun v w'=>Ext w w'∧∃c:Int,v=vi c∧(c<0↔zaT a b<0)∧(c=0↔zaT a b=0)):=by
 obtain⟨a1,a2,rfl,h1,h2⟩:=ha.ex
 obtain⟨b1,b2,rfl,h3,h4⟩:=hb.ex
 have la:=oa.a.len
 have lb:=oa.b.len
 have lc:=ob.a.len
 have ld:=ob.b.len
 obtain⟨x1,c1,e1,_⟩:=id h1.1
 obtain⟨x2,c2,e2,_⟩:=id h2.1
 obtain⟨x3,c3,e3,_⟩:=id h3.1
 obtain⟨x4,c4,e4,_⟩:=id h4.1
 have hc:zaT a b=if cmpN (zag a.1) (zag b.1)=0 then(if cmpN (zag a.2) (zag b.2)=0 then 0 else cmpN (zag a.2) (zag b.2)) else cmpN (zag a.1) (zag b.1):=rfl
 refine enter Tryz.func168 Tryz.ntmps168 rfl rfl ?_
 repeat refine c_r ?_
 rw[e1,e2,e3,e4]
 refine rg0 ?_
 rw[←e1,←e2,←e3,←e4]
 repeat refine c_r ?_
 rw[zap]
 refine zbP ?_
 intro w1 hE1 hs1 hA hB
 have p0:zah w1 (some ⟨w.heap.size,0,Option.none⟩)=some a1:=zac hA rfl
 have p1:zah w1 (some ⟨w.heap.size,1,Option.none⟩)=some a2:=zac hA rfl
 have q0:zah w1 (some ⟨w.heap.size+1,0,Option.none⟩)=some b1:=zac hB rfl
 have q1:zah w1 (some ⟨w.heap.size+1,1,Option.none⟩)=some b2:=zac hB rfl
 repeat refine c_r ?_
 refine rc (an3 p0 q0 Nat.add_zero) (zca w1 _ _ _ _ (h1.1.ext hE1) (h3.1.ext hE1) oa.a.LB ob.a.LB (by omega) (by omega)) ?_
 rintro _ w2 ⟨rfl,hE2⟩
 refine re trivial ?_
 repeat refine c_r ?_
 by_cases hz:cmpN (zag a.1) (zag b.1)=0
 ·refine rg1 (decide_eq_true hz) ?_
  repeat refine c_r ?_
  refine wf trivial ?_
  have p12:=zaa hE2 p1
  have q12:=zaa hE2 q1
  repeat refine c_r ?_
  refine rc (an3 p12 q12 Nat.zero_add) (zca w2 _ _ _ _ (h2.1.ext (hE1.trans hE2)) (h4.1.ext (hE1.trans hE2)) oa.b.LB ob.b.LB (by omega) (by omega)) ?_
  rintro _ w3 ⟨rfl,hE3⟩
  refine re trivial ?_
  repeat refine c_r ?_
  refine rt0 Tryz.ntmps168 ?_
  refine⟨hE1.trans (hE2.trans hE3),_,rfl,?_⟩
  rw[hc,if_pos hz]
  constructor<;>split<;>omega
 ·refine rg1 (decide_eq_false hz) ?_
  repeat refine c_r ?_
  refine wt trivial ?_
  repeat refine c_r ?_
  refine rg0 ?_
  repeat refine c_r ?_
  refine rt0 Tryz.ntmps168 ?_
  refine⟨hE1.trans hE2,_,rfl,?_⟩
  rw[hc,if_neg hz]
  exact⟨Iff.rfl,Iff.rfl⟩
theorem zbN{S:Nat→Prop}(w:World):zfq 2 (PairAt S w):=⟨fun h=>h.len,fun h=>h.ones⟩
theorem RowsP.ext{w x:World}{v:Value}{O:List zaI}(h:Rows 2 (PairAt NoS w) w v O)(hE:Ext w x):Rows 2 (PairAt NoS x) x v O:=Rows.extC (fun _ _ h=>PairAt.ext h hE) h hE
theorem renF_app{xs:List zaI}{p:zaI}:renF (xs++ [p])=putC zaT fstP p (renF xs):=by
 unfold renF zcb;rw[List.foldl_append];rfl
theorem zhz{w0 w:World}(hE0:Ext w0 w){cs:List Value}{N:NetL}(hN:NetAt w0 cs N)(hG:zbb N):
  Fn Tryz.prog 121 #[.agg cs.toArray] w (fun v w'=>Ext w w'∧Rows 2 (PairAt NoS w') w' v (renN N)):=by
 obtain⟨hv,rv,rfl,hh,hr⟩:=hN.ex
 obtain⟨ah,ch,hhv,hch,hgh⟩:=hh.open
 obtain⟨ar,cr,hrv,_⟩:=id hr
 have hl6:=hG.h1.2
 have hall:=zc6 hG
 have hallk:=zdG hG
 refine enter Tryz.func121 Tryz.ntmps121 rfl rfl ?_
 repeat refine c_r ?_
 rw[hhv,hrv]
 refine rg0 ?_
 rw[←hrv]
 repeat refine c_r ?_
 refine zaM ?_
 intro w1 hE1 hs1 hA
 have p0:zah w1 (some ⟨w.heap.size,0,Option.none⟩)=some (.slice ah N.hosts.length ch):=zac hA rfl
 have hE01:=hE0.trans hE1
 repeat refine c_r ?_
 refine rg0 ?_
 repeat refine c_r ?_
 refine rg0 ?_
 repeat refine c_r ?_
 refine zai (fun m σ ds v=>ds=[]∧∃(i:Nat) (ov:Value) (xs:List zaI),i+m=N.hosts.length∧σ 4=vi i∧σ 1= .pointer (some ⟨w.heap.size,0,Option.none⟩)∧σ 3=ov∧Ext w1 v∧Rows 2 (PairAt NoS v) v ov (renF xs)∧zce N=xs++(N.hosts.drop i).flatMap renH) N.hosts.length ?_ ?_
 ·exact⟨rfl,0,.slice Option.none 0 0,[],by omega,vr0,vq0,vq0,Keep.refl _ _,Rows.nil _ _ _,rfl⟩
 rintro m σ ds v ⟨rfl,i,ov,xs,him,s4,s1,s3,hEv,hRO,hbe⟩
 have p0v:=zaa hEv p0
 repeat refine c_r ?_
 refine rg4 s4 s1 p0v Nat.add_zero ?_
 repeat refine c_r ?_
 refine wc0 ?_ ?_
 ·intro hlt
  simp only[decide_eq_true_eq]at hlt
  have hi:i<N.hosts.length:=by omega
  have hi0:(0:Int)≤(i:Int):=by omega
  have hi1':(i:Int)+1=((i+1:Nat):Int):=by push_cast;rfl
  obtain⟨hcs,hce,hH⟩:=hgh i hi
  have hmem:=List.getElem_mem hi
  rw[zbl hi]at hbe
  obtain⟨h,hhe⟩:∃x,N.hosts[i]=x:=⟨_,rfl⟩
  rw[hhe]at hH hmem hbe
  obtain⟨nv,b1,b2,b3,b4,zv,rfl,_,hnv,hz⟩:=hH.ex
  obtain⟨az,cz,rfl,hcz,hgz⟩:=hz.open
  have hzl:=hG.zl h hmem
  obtain⟨xa,rfl⟩:=Option.isSome_iff_exists.1 (zan hce)
  obtain⟨xi,hxi⟩:∃xi,adr (some xa) (i*6)=some xi:=⟨_,rfl⟩
  obtain⟨x5,hx5⟩:∃x,adr (some xi) 5=some x:=⟨_,rfl⟩
  rw[hxi]at hce
  have g5:=zaq (j:=5) hce rfl
  rw[hx5]at g5
  obtain⟨R1,hR1⟩:∃R,(N.hosts.drop (i+1)).flatMap renH=R:=⟨_,rfl⟩
  rw[hR1]at hbe
  unfold renH at hbe
  repeat refine c_r ?_
  refine rg0 ?_
  repeat refine c_r ?_
  refine zai (fun m σ ds v=>ds=[]∧∃(k:Nat) (ov:Value) (xs:List zaI),k+m=h.zones.length∧σ 5=vi k∧σ 4=vi i∧σ 1= .pointer (some ⟨w.heap.size,0,Option.none⟩)∧σ 3=ov∧Ext w1 v∧Rows 2 (PairAt NoS v) v ov (renF xs)∧zce N=xs++((h.zones.drop k).flatMap renZ++R1)) h.zones.length ?_ ?_
  ·exact⟨rfl,0,ov,xs,by omega,vr0,(vq1 s4),(vq1 s1),(vq1 s3),hEv,hRO,hbe⟩
  clear s4 s1 s3 hRO hbe p0v hEv
  rintro m2 σ2 ds2 v2 ⟨rfl,k,ov2,xs2,hkm,s5,s4,s1,s3,hEv2,hRO,hbe⟩
  have p02:=zaa hEv2 p0
  have hE02:=hE01.trans hEv2
  have g52:=zaa hE02 g5
  repeat refine c_r ?_
  refine rg9 s5 s4 s1 p02 Nat.add_zero (an2 hi0 hlt) hxi hx5 g52 ?_
  repeat refine c_r ?_
  refine wc0 ?_ ?_
  ·intro hlt2
   simp only[decide_eq_true_eq]at hlt2
   have hk:k<h.zones.length:=by omega
   have hk0:(0:Int)≤(k:Int):=by omega
   have hk1':(k:Int)+1=((k+1:Nat):Int):=by push_cast;rfl
   obtain⟨zcs,hze,hZn⟩:=hgz k hk
   have hzmem:=List.getElem_mem hk
   rw[zbl hk,List.append_assoc]at hbe
   obtain⟨z,hzz⟩:∃x,h.zones[k]=x:=⟨_,rfl⟩
   rw[hzz]at hZn hzmem hbe
   obtain⟨zo,zl,rfl,hov,hlv⟩:=hZn.ex
   obtain⟨al,cl,rfl,hcl,hgl⟩:=hlv.open
   have gz:=(hG.z.z h hmem z hzmem).gd
   have hrl:=gz.len
   obtain⟨xz,rfl⟩:=Option.isSome_iff_exists.1 (zan hze)
   obtain⟨xk,hxk⟩:∃xi,adr (some xz) (k*2)=some xi:=⟨_,rfl⟩
   obtain⟨xk1,hxk1⟩:∃x,adr (some xk) 1=some x:=⟨_,rfl⟩
   rw[hxk]at hze
   have l1:=zaq (j:=1) hze rfl
   rw[hxk1]at l1
   have l1v:=zaa hE02 l1
   obtain⟨R2,hR2⟩:∃R,(h.zones.drop (k+1)).flatMap renZ++R1=R:=⟨_,rfl⟩
   rw[hR2]at hbe
   unfold renZ at hbe
   repeat refine c_r ?_
   refine rq ?_;intro gd K hgd hK;simp (disch:=first|omega|assumption|rfl) only[go_sem,s5,s4,s1,p02,Nat.add_zero,hi0,hlt,hxi,hx5,g52,hk0,hlt2,hxk,hxk1,l1v];refine hK _ _ ?_;clear hK hgd;clear K gd
   repeat refine c_r ?_
   refine rg0 ?_
   repeat refine c_r ?_
   refine zai (fun m σ ds v=>ds=[]∧∃(j:Nat) (ov:Value) (xs:List zaI),j+m=z.recs.length∧σ 7=vi j∧σ 6= .slice al z.recs.length cl∧σ 5=vi k∧σ 4=vi i∧σ 1= .pointer (some ⟨w.heap.size,0,Option.none⟩)∧σ 3=ov∧Ext w1 v∧Rows 2 (PairAt NoS v) v ov (renF xs)∧zce N=xs++((z.recs.drop j).filterMap renO++R2)) z.recs.length ?_ ?_
   ·exact⟨rfl,0,ov2,xs2,by omega,vr0,vq0,(vq1 s5),(vq1 s4),(vq1 s1),(vq1 s3),hEv2,hRO,hbe⟩
   clear s5 s4 s1 s3 hRO hbe p02 g52 l1v hEv2 hE02
   rintro m3 σ3 ds3 v3 ⟨rfl,j,ov3,xs3,hjm,s7,s6,s5,s4,s1,s3,hEv3,hRO,hbe⟩
   repeat refine c_r ?_
   refine rg2 s7 s6 ?_
   repeat refine c_r ?_
   refine wc0 ?_ ?_
   ·intro hlt3
    simp only[decide_eq_true_eq]at hlt3
    have hj:j<z.recs.length:=by omega
    have hj0:(0:Int)≤(j:Int):=by omega
    have hj1':(j:Int)+1=((j+1:Nat):Int):=by push_cast;rfl
    have hE03:=hE01.trans hEv3
    obtain⟨rcs,hre,hR⟩:=hgl j hj
    have hrmem:=List.getElem_mem hj
    rw[List.drop_eq_getElem_cons hj]at hbe
    obtain⟨r,hrr⟩:∃x,z.recs[j]=x:=⟨_,rfl⟩
    rw[hrr]at hR hrmem hbe
    obtain⟨ow,ds,rfl,how,hD⟩:=hR.ex
    obtain⟨nm,nu,tx,rw',rfl,⟨vals,hvr,hvl,hvn⟩,_,_,_⟩:=hD.ex
    obtain⟨an,cn,rfl,hcn,hgn⟩:=id hvr
    obtain⟨xr,rfl⟩:=Option.isSome_iff_exists.1 (zan hre)
    obtain⟨xj,hxj⟩:∃xi,adr (some xr) (j*7)=some xi:=⟨_,rfl⟩
    rw[hxj]at hre
    have hw0:adr (some xj) 0=some xj:=zar _
    obtain⟨x2,hx2⟩:∃x,adr (some xj) 2=some x:=⟨_,rfl⟩
    obtain⟨x3,hx3⟩:∃x,adr (some x2) 1=some x:=⟨_,rfl⟩
    have hz2:adr (some x2) 0=some x2:=zar _
    have f0:=zaq (j:=0) hre rfl
    rw[hw0]at f0
    have fd:=zaW (m:=2) (k:=5) hre
    rw[hx2]at fd
    have f2:=zaq (j:=0) fd rfl
    rw[hz2]at f2
    have f3:=zaq (j:=1) fd rfl
    rw[hx3]at f3
    have f23:=zaa hE03 f2
    by_cases e39:r.dat.ty=39
    ·have hlead:=gz.lead r hrmem (.inr (.inr e39))
     obtain⟨n0,ns,hnames⟩:∃n0 ns,r.dat.names=n0::ns:=by
      cases hn:r.dat.names with
      |nil=>rw[hn]at hlead;cases hlead
      |cons a b=>exact⟨a,b,rfl⟩
     have hv0:0<vals.length:=by rw[hvl,hnames];simp
     have hv0i:(0:Int)<(vals.length:Int):=by omega
     have hro:renO r=some (zag r.owner,zag n0):=by unfold renO;rw[if_pos e39,hnames];rfl
     rw[List.filterMap_cons_some hro]at hbe
     obtain⟨p,hp⟩:∃p:zaI,(zag r.owner,zag n0)=p:=⟨_,rfl⟩
     rw[hp]at hbe
     have hpk:zbn p:=hallk p (by rw[hbe];simp)
     have hxk:∀o∈renF xs3,zbn o:=zfK fun o ho=>hallk o (by rw[hbe];exact List.mem_append_left _ ho)
     have hxl:(renF xs3).length≤2000:=by
      have h1:=congrArg List.length hbe
      rw[List.length_append]at h1
      have:=zfJ (l:=xs3)
      omega
     have hn0:Row w0 (vals[0]'hv0) (n0.map vs):=by
      have:=hvn 0 hv0 (by rw[hnames];simp)
      simpa only[hnames,List.getElem_cons_zero] using this
     obtain⟨y0,hy0⟩:∃y,vals[0]'hv0=y:=⟨_,rfl⟩
     have g0:=hgn 0 hv0
     obtain⟨xn,rfl⟩:=Option.isSome_iff_exists.1 (zad g0)
     rw[zar,hy0]at g0
     rw[hy0]at hn0
     have ko:=zaZ (gz.own r hrmem)
     have kn:=zaZ (gz.names r hrmem n0 (by rw[hnames];simp))
     have lo1:=ko.len
     have ln1:=kn.len
     repeat refine c_r ?_
     refine rg9 s6 s7 hj0 hlt3 hxj hx2 hz2 f23 (an2 (decide_eq_true e39) Bool.not_true) ?_
     repeat refine c_r ?_
     refine wf trivial ?_
     repeat refine c_r ?_
     refine zax (Q:=fun e σ' ds' v'=>e= .normal∧ds'=[]∧σ' 7=vi j∧σ' 6= .slice (some xr) z.recs.length cl∧σ' 5=vi k∧σ' 4=vi i∧σ' 1= .pointer (some ⟨w.heap.size,0,Option.none⟩)∧σ' 3=ov3∧Ext v3 v'∧
      ∃(c8:Nat) (f1 f2:Value),σ' 8= .pointer (some ⟨c8,0,Option.none⟩)∧v'.heap[c8]? =some (.cells #[f1,f2] 226 (0,0))∧PairAt NoS v' [f1,f2] p) ?_ ?_
     ·refine zgM (fun i=>i==17) (.run [(0,true),(1,true),(2,true),(3,true),(4,true),(6,true),(7,true),(8,true),(9,true),(10,true),(11,true),(12,true),(13,true)] (.fork 4 [5,16] (fun i=>if i=5 then(.run [] (.fork 3 [14,16] (fun i=>if i=14 then(.run [(15,true),(16,false),(17,false)] .fin) else(.run [(14,false),(15,true),(17,false)] .fin)))) else(.run [(5,false),(14,false),(15,true),(17,false)] .fin)))) NoS mixed (by kernel_rfl) ?_;intro gd K x hgd hx hxe hK;clear hxe
      have f0x:=zaa (hE03.trans hx) f0
      have f3x:=zaa (hE03.trans hx) f3
      have g0x:=zaa (hE03.trans hx) g0
      simp (disch:=first|omega|assumption|rfl) only[go_sem,s7,s6,hj0,hlt3,hxj,hw0,hx2,hx3,hv0i,Nat.zero_mul,zar,Int.toNat_zero,f0x,f3x,g0x]
      simp only[zbE,zbY];refine⟨?_,?_⟩
      ·have f0x:=zaa (hE03.trans hx) f0
       have f3x:=zaa (hE03.trans hx) f3
       have g0x:=zaa (hE03.trans hx) g0
       simp (disch:=first|omega|assumption|rfl) only[go_sem,s7,s6,hj0,hlt3,hxj,hw0,hx2,hx3,hv0i,Nat.zero_mul,zar,Int.toNat_zero,f0x,f3x,g0x]
       refine Fn.mono (zcK x ow r.owner (how.ext (hE03.trans hx)) ko.LB (by omega)) ?_
       rintro f1 y1 ⟨hf1,hy1⟩
       refine⟨.inr hy1,?_⟩
       have f0y:=zaa (hE03.trans (hx.trans hy1)) f0
       have f3y:=zaa (hE03.trans (hx.trans hy1)) f3
       have g0y:=zaa (hE03.trans (hx.trans hy1)) g0
       simp (disch:=first|omega|assumption|rfl) only[go_sem,s7,s6,hj0,hlt3,hxj,hw0,hx2,hx3,hv0i,Nat.zero_mul,zar,Int.toNat_zero,f0y,f3y,g0y]
       simp only[zbE,zbY];refine⟨?_,?_⟩
       ·simp (disch:=first|omega|assumption|rfl) only[go_sem,s7,s6,hj0,hlt3,hxj,hw0,hx2,hx3,hv0i,Nat.zero_mul,zar,Int.toNat_zero,f0y,f3y,g0y]
        refine Fn.mono (zcK y1 y0 n0 (hn0.ext (hE03.trans (hx.trans hy1))) kn.LB (by omega)) ?_
        rintro f2 y2 ⟨hf2,hy2⟩
        refine⟨.inr hy2,?_⟩
        simp (disch:=first|omega|assumption|rfl) only[go_sem]
        obtain⟨af1,cf1,hf1e,_⟩:=id hf1.row
        obtain⟨af2,cf2,hf2e,_⟩:=id hf2.row
        refine⟨by kernel_rfl,?_⟩
        rw[hf1e,hf2e,show bdV Tryz.prog 226 [(0,.slice af1 ((zag r.owner).map vs).length cf1),(1,.slice af2 ((zag n0).map vs).length cf2)]=some (.agg #[.slice af1 ((zag r.owner).map vs).length cf1,.slice af2 ((zag n0).map vs).length cf2]) from by kernel_rfl,←hf1e,←hf2e]
        simp (disch:=first|omega|assumption|rfl) only[go_sem]
        refine⟨.inr (Ext.alloc y2 _),?_⟩
        have hb8:=zam y2 (.cells #[.slice Option.none 0 0,.slice Option.none 0 0] 226 (0,0))
        have hy3:=Ext.alloc y2 (.cells #[.slice Option.none 0 0,.slice Option.none 0 0] 226 (0,0))
        have hs8:=zap y2 (.cells #[.slice Option.none 0 0,.slice Option.none 0 0] 226 (0,0))
        revert hb8 hy3 hs8
        generalize y2.alloc (.cells #[.slice Option.none 0 0,.slice Option.none 0 0] 226 (0,0))=y3
        intro hb8 hy3 hs8
        obtain⟨c8,hc8⟩:∃b,y2.heap.size=b:=⟨_,rfl⟩
        rw[hc8]at hb8 hs8 ⊢
        try simp only[go_sem]
        have z1:=hy2.size
        refine zbQ (P:=Tryz.prog) (t:=226) (l:=[f1,f2]) hb8 rfl (zaX hf1.row.isOne hf2.row.isOne) rfl rfl ?_
        intro y9 hs9 hB9 hk9
        refine⟨.inl rfl,?_⟩
        simp (disch:=first|omega|assumption|rfl) only[go_sem]
        refine hK _ _ ?_;clear hK hgd;clear K;try clear gd
        have hE9:Ext v3 y9:=Keep.to_ext (hx.trans (hy1.trans (hy2.trans hy3))) rfl (fun b hb=>by have:=hx.size;have:=hy1.size;omega) hk9
        have hr1:RowZ 0 (fun b=>b=c8) y3 f1 ((zag r.owner).map vs):=⟨hf1.row.ext (hy2.trans hy3),fun a n c hv=>by have:=hf1.blk a n c hv;exact⟨Nat.zero_le _,by omega,fun e=>by omega⟩⟩
        have hr2:RowZ 0 (fun b=>b=c8) y3 f2 ((zag n0).map vs):=⟨hf2.row.ext hy3,fun a n c hv=>by have:=hf2.blk a n c hv;exact⟨Nat.zero_le _,by omega,fun e=>by omega⟩⟩
        refine⟨rfl,rfl,(vq1 s7),(vq1 s6),(vq1 s5),(vq1 s4),(vq1 s1),(vq1 s3),hE9,c8,f1,f2,vq0,hB9,?_⟩
        rw[←hp]
        exact⟨f1,f2,rfl,hr1.turn hk9 (fun b hb=>hb.elim),hr2.turn hk9 (fun b hb=>hb.elim)⟩
       ·simp (disch:=first|omega|assumption|rfl) only[go_sem,s7,s6,hj0,hlt3,hxj,hw0,hx2,hx3,hv0i,Nat.zero_mul,zar,Int.toNat_zero,f0y,f3y,g0y]
        refine⟨.inr (Ext.alloc y1 _),?_⟩
        have hb8:=zam y1 (.cells #[.slice Option.none 0 0,.slice Option.none 0 0] 226 (0,0))
        have hy2:=Ext.alloc y1 (.cells #[.slice Option.none 0 0,.slice Option.none 0 0] 226 (0,0))
        have hs8:=zap y1 (.cells #[.slice Option.none 0 0,.slice Option.none 0 0] 226 (0,0))
        revert hb8 hy2 hs8
        generalize y1.alloc (.cells #[.slice Option.none 0 0,.slice Option.none 0 0] 226 (0,0))=y2
        intro hb8 hy2 hs8
        obtain⟨c8,hc8⟩:∃b,y1.heap.size=b:=⟨_,rfl⟩
        rw[hc8]at hb8 hs8 ⊢
        have f0z:=zaa (hE03.trans (hx.trans (hy1.trans hy2))) f0
        have f3z:=zaa (hE03.trans (hx.trans (hy1.trans hy2))) f3
        have g0z:=zaa (hE03.trans (hx.trans (hy1.trans hy2))) g0
        try simp (disch:=first|omega|assumption|rfl) only[go_sem,s7,s6,hj0,hlt3,hxj,hw0,hx2,hx3,hv0i,Nat.zero_mul,zar,Int.toNat_zero,f0z,f3z,g0z]
        refine Fn.mono (zcK y2 y0 n0 (hn0.ext (hE03.trans (hx.trans (hy1.trans hy2)))) kn.LB (by omega)) ?_
        rintro f2 y3 ⟨hf2,hy3⟩
        refine⟨.inr hy3,?_⟩
        simp (disch:=first|omega|assumption|rfl) only[go_sem]
        obtain⟨af1,cf1,hf1e,_⟩:=id hf1.row
        obtain⟨af2,cf2,hf2e,_⟩:=id hf2.row
        refine⟨by kernel_rfl,?_⟩
        rw[hf1e,hf2e,show bdV Tryz.prog 226 [(0,.slice af1 ((zag r.owner).map vs).length cf1),(1,.slice af2 ((zag n0).map vs).length cf2)]=some (.agg #[.slice af1 ((zag r.owner).map vs).length cf1,.slice af2 ((zag n0).map vs).length cf2]) from by kernel_rfl,←hf1e,←hf2e]
        simp (disch:=first|omega|assumption|rfl) only[go_sem]
        have z1:=hy3.size
        refine zbQ (P:=Tryz.prog) (t:=226) (l:=[f1,f2]) (Ext.at hy3 hb8) rfl (zaX hf1.row.isOne hf2.row.isOne) rfl rfl ?_
        intro y9 hs9 hB9 hk9
        refine⟨.inl rfl,?_⟩
        simp (disch:=first|omega|assumption|rfl) only[go_sem]
        refine hK _ _ ?_;clear hK hgd;clear K;try clear gd
        have hE9:Ext v3 y9:=Keep.to_ext (hx.trans (hy1.trans (hy2.trans hy3))) rfl (fun b hb=>by have:=hx.size;have:=hy1.size;omega) hk9
        have hr1:RowZ 0 (fun b=>b=c8) y3 f1 ((zag r.owner).map vs):=⟨hf1.row.ext (hy2.trans hy3),fun a n c hv=>by have:=hf1.blk a n c hv;exact⟨Nat.zero_le _,by omega,fun e=>by omega⟩⟩
        have hr2:RowZ 0 (fun b=>b=c8) y3 f2 ((zag n0).map vs):=⟨hf2.row,fun a n c hv=>by have:=hf2.blk a n c hv;exact⟨Nat.zero_le _,by omega,fun e=>by omega⟩⟩
        refine⟨rfl,rfl,(vq1 s7),(vq1 s6),(vq1 s5),(vq1 s4),(vq1 s1),(vq1 s3),hE9,c8,f1,f2,vq0,hB9,?_⟩
        rw[←hp]
        exact⟨f1,f2,rfl,hr1.turn hk9 (fun b hb=>hb.elim),hr2.turn hk9 (fun b hb=>hb.elim)⟩
      ·have f0x:=zaa (hE03.trans hx) f0
       have f3x:=zaa (hE03.trans hx) f3
       have g0x:=zaa (hE03.trans hx) g0
       simp (disch:=first|omega|assumption|rfl) only[go_sem,s7,s6,hj0,hlt3,hxj,hw0,hx2,hx3,hv0i,Nat.zero_mul,zar,Int.toNat_zero,f0x,f3x,g0x]
       refine⟨.inr (Ext.alloc x _),?_⟩
       have hb8:=zam x (.cells #[.slice Option.none 0 0,.slice Option.none 0 0] 226 (0,0))
       have hy1:=Ext.alloc x (.cells #[.slice Option.none 0 0,.slice Option.none 0 0] 226 (0,0))
       have hs8:=zap x (.cells #[.slice Option.none 0 0,.slice Option.none 0 0] 226 (0,0))
       revert hb8 hy1 hs8
       generalize x.alloc (.cells #[.slice Option.none 0 0,.slice Option.none 0 0] 226 (0,0))=y1
       intro hb8 hy1 hs8
       obtain⟨c8,hc8⟩:∃b,x.heap.size=b:=⟨_,rfl⟩
       rw[hc8]at hb8 hs8 ⊢
       have f0y:=zaa (hE03.trans (hx.trans hy1)) f0
       have f3y:=zaa (hE03.trans (hx.trans hy1)) f3
       have g0y:=zaa (hE03.trans (hx.trans hy1)) g0
       try simp (disch:=first|omega|assumption|rfl) only[go_sem,s7,s6,hj0,hlt3,hxj,hw0,hx2,hx3,hv0i,Nat.zero_mul,zar,Int.toNat_zero,f0y,f3y,g0y]
       refine Fn.mono (zcK y1 ow r.owner (how.ext (hE03.trans (hx.trans hy1))) ko.LB (by omega)) ?_
       rintro f1 y2 ⟨hf1,hy2⟩
       refine⟨.inr hy2,?_⟩
       have f0z:=zaa (hE03.trans (hx.trans (hy1.trans hy2))) f0
       have f3z:=zaa (hE03.trans (hx.trans (hy1.trans hy2))) f3
       have g0z:=zaa (hE03.trans (hx.trans (hy1.trans hy2))) g0
       simp (disch:=first|omega|assumption|rfl) only[go_sem,s7,s6,hj0,hlt3,hxj,hw0,hx2,hx3,hv0i,Nat.zero_mul,zar,Int.toNat_zero,f0z,f3z,g0z]
       refine Fn.mono (zcK y2 y0 n0 (hn0.ext (hE03.trans (hx.trans (hy1.trans hy2)))) kn.LB (by omega)) ?_
       rintro f2 y3 ⟨hf2,hy3⟩
       refine⟨.inr hy3,?_⟩
       simp (disch:=first|omega|assumption|rfl) only[go_sem]
       obtain⟨af1,cf1,hf1e,_⟩:=id hf1.row
       obtain⟨af2,cf2,hf2e,_⟩:=id hf2.row
       refine⟨by kernel_rfl,?_⟩
       rw[hf1e,hf2e,show bdV Tryz.prog 226 [(0,.slice af1 ((zag r.owner).map vs).length cf1),(1,.slice af2 ((zag n0).map vs).length cf2)]=some (.agg #[.slice af1 ((zag r.owner).map vs).length cf1,.slice af2 ((zag n0).map vs).length cf2]) from by kernel_rfl,←hf1e,←hf2e]
       simp (disch:=first|omega|assumption|rfl) only[go_sem]
       have z1:=hy2.size
       have z2:=hy3.size
       refine zbQ (P:=Tryz.prog) (t:=226) (l:=[f1,f2]) (Ext.at (hy2.trans hy3) hb8) rfl (zaX hf1.row.isOne hf2.row.isOne) rfl rfl ?_
       intro y9 hs9 hB9 hk9
       refine⟨.inl rfl,?_⟩
       simp (disch:=first|omega|assumption|rfl) only[go_sem]
       refine hK _ _ ?_;clear hK hgd;clear K;try clear gd
       have hE9:Ext v3 y9:=Keep.to_ext (hx.trans (hy1.trans (hy2.trans hy3))) rfl (fun b hb=>by have:=hx.size;omega) hk9
       have hr1:RowZ 0 (fun b=>b=c8) y3 f1 ((zag r.owner).map vs):=⟨hf1.row.ext hy3,fun a n c hv=>by have:=hf1.blk a n c hv;exact⟨Nat.zero_le _,by omega,fun e=>by omega⟩⟩
       have hr2:RowZ 0 (fun b=>b=c8) y3 f2 ((zag n0).map vs):=⟨hf2.row,fun a n c hv=>by have:=hf2.blk a n c hv;exact⟨Nat.zero_le _,by omega,fun e=>by omega⟩⟩
       refine⟨rfl,rfl,(vq1 s7),(vq1 s6),(vq1 s5),(vq1 s4),(vq1 s1),(vq1 s3),hE9,c8,f1,f2,vq0,hB9,?_⟩
       rw[←hp]
       exact⟨f1,f2,rfl,hr1.turn hk9 (fun b hb=>hb.elim),hr2.turn hk9 (fun b hb=>hb.elim)⟩
     clear s7 s6 s5 s4 s1 s3
     rintro _ σ4 _ v4 ⟨rfl,rfl,s7,s6,s5,s4,s1,s3,hE4,c8,f1,f2',s8,hC8,hpr⟩
     have hRO4:=RowsP.ext hRO hE4
     have hEv4:=hEv3.trans hE4
     have hbe2:zce N=(xs3++ [p])++((z.recs.drop (j+1)).filterMap renO++R2):=by rw[hbe];simp
     have hput0:=renF_app (xs:=xs3) (p:=p)
     obtain⟨O,hO⟩:∃O,renF xs3=O:=⟨_,rfl⟩
     rw[hO]at hRO4 hxk hxl hput0
     obtain⟨aO,cO,rfl,hcO,hgO⟩:=hRO4.open
     have dp:=zay (n:=2) (l:=[f1,f2']) hC8 rfl
     repeat refine c_r ?_
     refine rg0 ?_
     repeat refine c_r ?_
     refine zai (fun m σ' ds A=>ds=[]∧∃q:Nat,q+m=O.length∧σ' 9=vi q∧σ' 8= .pointer (some ⟨c8,0,Option.none⟩)∧σ' 7=vi j∧σ' 6= .slice (some xr) z.recs.length cl∧σ' 5=vi k∧σ' 4=vi i∧σ' 1= .pointer (some ⟨w.heap.size,0,Option.none⟩)∧σ' 3= .slice aO O.length cO∧Ext v4 A∧∀t (h:t<O.length),t<q→zaT O[t] p<0) O.length ?_ ?_
     ·exact⟨rfl,0,by omega,vr0,(vq1 s8),(vq1 s7),(vq1 s6),(vq1 s5),(vq1 s4),(vq1 s1),(vq1 s3),Keep.refl _ _,fun t h ht=>absurd ht (by omega)⟩
     clear s8 s7 s6 s5 s4 s1 s3
     rintro m4 σ5 ds5 A2 ⟨rfl,q,hqm,s9,s8,s7,s6,s5,s4,s1,s3,hE5,hlow⟩
     repeat refine c_r ?_
     refine zax (Q:=fun e σ' ds' v'=>e= .normal∧ds'=[]∧σ' 9=vi q∧σ' 8= .pointer (some ⟨c8,0,Option.none⟩)∧σ' 7=vi j∧σ' 6= .slice (some xr) z.recs.length cl∧σ' 5=vi k∧σ' 4=vi i∧σ' 1= .pointer (some ⟨w.heap.size,0,Option.none⟩)∧σ' 3= .slice aO O.length cO∧Ext A2 v'∧σ' 80= .bool (tst O q fun x=>decide (zaT x p<0))) ?_ ?_
     ·by_cases hq:q<O.length
      ·rw[zcM hq]
       obtain⟨ck,hck,hRk⟩:=hgO q hq
       obtain⟨xO,rfl⟩:=Option.isSome_iff_exists.1 (zan hck)
       have hqd:decide ((q:Int)<(O.length:Int))=true:=decide_eq_true (by omega)
       have hq0:(0:Int)≤(q:Int):=by omega
       have hq1:(q:Int)<(O.length:Int):=by omega
       refine zaL (fun _=>false) [(0,true),(1,true),(2,true),(3,true),(4,true),(5,true),(6,true),(7,true),(8,true),(9,true),(10,false),(11,true),(12,true)] NoS mixed (by kernel_rfl) ?_;intro gd K x hgd hx hxe hK;clear hxe
       have hg4:∀n σ b,zas gd n σ (some (4,b))=zaj (ev n σ (.tmp 72)) b:=(fun n σ b=>by rw[zab,show gd 4=some 72 from(by rw[hgd];rfl)];rfl)
       have d1:=zaf (hE5.trans hx) hck
       have d2:=zaf (hE5.trans hx) dp
       simp (disch:=first|omega|assumption|rfl) only[go_sem,s9,s8,s3,hqd,decide_true,hq0,hq1,d1,d2,↓hg4]
       refine Fn.mono (zgS x _ _ O[q] p (hRk.ext (hE5.trans hx)) (hpr.ext (hE5.trans hx)) (hxk _ (List.getElem_mem hq)) hpk) ?_
       rintro _ y2 ⟨hy2,c,rfl,hc,_⟩
       refine⟨.inr hy2,?_⟩
       have hcd:decide (c<0)=decide (zaT O[q] p<0):=decide_eq_decide.2 hc
       simp (disch:=first|omega|assumption|rfl) only[go_sem,hcd,↓hg4]
       refine hK _ _ ?_;clear hK hgd;clear K;try clear gd
       exact⟨rfl,rfl,(vq1 s9),(vq1 s8),(vq1 s7),(vq1 s6),(vq1 s5),(vq1 s4),(vq1 s1),(vq1 s3),hx.trans hy2,vq0⟩
      ·rw[zcP hq]
       have hqd:decide ((q:Int)<(O.length:Int))=false:=decide_eq_false (by omega)
       refine zaL (fun _=>false) [(0,true),(1,true),(2,true),(3,true),(4,true),(5,true),(6,true),(7,true),(8,true),(9,true),(10,false),(11,true),(12,true)] NoS mixed (by kernel_rfl) ?_;intro gd K x hgd hx hxe hK;clear hxe
       have hg4:∀n σ b,zas gd n σ (some (4,b))=zaj (ev n σ (.tmp 72)) b:=(fun n σ b=>by rw[zab,show gd 4=some 72 from(by rw[hgd];rfl)];rfl)
       simp (disch:=first|omega|assumption|rfl) only[go_sem,s9,s3,hqd,↓hg4]
       refine hK _ _ ?_;clear hK hgd;clear K;try clear gd
       exact⟨rfl,rfl,(vq1 s9),(vq1 s8),(vq1 s7),(vq1 s6),(vq1 s5),(vq1 s4),(vq1 s1),(vq1 s3),hx,vq0⟩
     clear s9 s8 s7 s6 s5 s4 s1 s3
     rintro _ σ6 _ A3 ⟨rfl,rfl,s9,s8,s7,s6,s5,s4,s1,s3,hE6,s80⟩
     repeat refine c_r ?_
     refine zaO (t:=tst O q fun x=>decide (zaT x p<0)) ((vq1 s80)) ?_ ?_
     ·intro ht
      have hq:q<O.length:=Classical.byContradiction fun h=>by rw[zcP h]at ht;cases ht
      rw[zcM hq,decide_eq_true_eq]at ht
      have hq1':(q:Int)+1=((q+1:Nat):Int):=by push_cast;rfl
      repeat refine c_r ?_
      refine rg2 s9 hq1' ?_
      repeat refine c_r ?_
      refine⟨m4 - 1,by omega,rfl,q+1,by omega,vq0,(vq1 s8),(vq1 s7),(vq1 s6),(vq1 s5),(vq1 s4),(vq1 s1),(vq1 s3),hE5.trans hE6,fun t h ht2=>?_⟩
      by_cases he:t=q
      ·subst he;exact ht
      ·exact hlow t h (by omega)
     intro ht
     have hstop:∀h:q<O.length,¬zaT O[q] p<0:=fun h h2=>by
      rw[zcM h]at ht
      exact of_decide_eq_false ht h2
     have hqO:q≤O.length:=by omega
     have hE43:=hE5.trans hE6
     clear s80 ht hE6 hE5
     repeat refine c_r ?_
     refine zax (Q:=fun e σ' ds' v'=>e= .normal∧ds'=[]∧σ' 9=vi q∧σ' 8= .pointer (some ⟨c8,0,Option.none⟩)∧σ' 7=vi j∧σ' 6= .slice (some xr) z.recs.length cl∧σ' 5=vi k∧σ' 4=vi i∧σ' 1= .pointer (some ⟨w.heap.size,0,Option.none⟩)∧σ' 3= .slice aO O.length cO∧Ext A3 v'∧σ' 95= .bool (tst O q fun x=>decide (zaT x p=0))) ?_ ?_
     ·by_cases hq:q<O.length
      ·rw[zcM hq]
       obtain⟨ck,hck,hRk⟩:=hgO q hq
       obtain⟨xO,rfl⟩:=Option.isSome_iff_exists.1 (zan hck)
       have hqd:decide ((q:Int)<(O.length:Int))=true:=decide_eq_true (by omega)
       have hq0:(0:Int)≤(q:Int):=by omega
       have hq1:(q:Int)<(O.length:Int):=by omega
       refine zaL (fun _=>false) [(0,true),(1,true),(2,true),(3,true),(4,true),(5,true),(6,true),(7,true),(8,true),(9,true),(10,false),(11,true),(12,true)] NoS mixed (by kernel_rfl) ?_;intro gd K x hgd hx hxe hK;clear hxe
       have hg4:∀n σ b,zas gd n σ (some (4,b))=zaj (ev n σ (.tmp 87)) b:=(fun n σ b=>by rw[zab,show gd 4=some 87 from(by rw[hgd];rfl)];rfl)
       have d1:=zaf (hE43.trans hx) hck
       have d2:=zaf (hE43.trans hx) dp
       simp (disch:=first|omega|assumption|rfl) only[go_sem,s9,s8,s3,hqd,decide_true,hq0,hq1,d1,d2,↓hg4]
       refine Fn.mono (zgS x _ _ O[q] p (hRk.ext (hE43.trans hx)) (hpr.ext (hE43.trans hx)) (hxk _ (List.getElem_mem hq)) hpk) ?_
       rintro _ y2 ⟨hy2,c,rfl,_,hc⟩
       refine⟨.inr hy2,?_⟩
       have hcd:decide (c=0)=decide (zaT O[q] p=0):=decide_eq_decide.2 hc
       simp (disch:=first|omega|assumption|rfl) only[go_sem,hcd,↓hg4]
       refine hK _ _ ?_;clear hK hgd;clear K;try clear gd
       exact⟨rfl,rfl,(vq1 s9),(vq1 s8),(vq1 s7),(vq1 s6),(vq1 s5),(vq1 s4),(vq1 s1),(vq1 s3),hx.trans hy2,vq0⟩
      ·rw[zcP hq]
       have hqd:decide ((q:Int)<(O.length:Int))=false:=decide_eq_false (by omega)
       refine zaL (fun _=>false) [(0,true),(1,true),(2,true),(3,true),(4,true),(5,true),(6,true),(7,true),(8,true),(9,true),(10,false),(11,true),(12,true)] NoS mixed (by kernel_rfl) ?_;intro gd K x hgd hx hxe hK;clear hxe
       have hg4:∀n σ b,zas gd n σ (some (4,b))=zaj (ev n σ (.tmp 87)) b:=(fun n σ b=>by rw[zab,show gd 4=some 87 from(by rw[hgd];rfl)];rfl)
       simp (disch:=first|omega|assumption|rfl) only[go_sem,s9,s3,hqd,↓hg4]
       refine hK _ _ ?_;clear hK hgd;clear K;try clear gd
       exact⟨rfl,rfl,(vq1 s9),(vq1 s8),(vq1 s7),(vq1 s6),(vq1 s5),(vq1 s4),(vq1 s1),(vq1 s3),hx,vq0⟩
     clear s9 s8 s7 s6 s5 s4 s1 s3
     rintro _ σ7 _ A4 ⟨rfl,rfl,s9,s8,s7,s6,s5,s4,s1,s3,hE7,s95⟩
     have hE44:=hE43.trans hE7
     have hROA:=RowsP.ext hRO4 hE44
     have hvA:=hEv4.trans hE44
     repeat refine c_r ?_
     refine zaO (t:=tst O q fun x=>decide (zaT x p=0)) ((vq1 s95)) ?_ ?_
     ·intro ht
      have hq:q<O.length:=Classical.byContradiction fun h=>by rw[zcP h]at ht;cases ht
      rw[zcM hq,decide_eq_true_eq]at ht
      have hput:=zfN (jn:=fstP) hq hlow ht
      have hsame:putC zaT fstP p O=O:=by rw[hput];exact List.set_getElem_self ..
      rw[hsame]at hput0
      repeat refine c_r ?_
      refine rg2 s7 hj1' ?_
      repeat refine c_r ?_
      exact⟨m3 - 1,by omega,rfl,j+1,.slice aO O.length cO,xs3++ [p],by omega,vq0,(vq1 s6),(vq1 s5),(vq1 s4),(vq1 s1),(vq1 s3),hvA,by rw[hput0];exact hROA,hbe2⟩
     ·intro ht
      have hmiss:∀h:q<O.length,¬zaT O[q] p<0∧¬zaT O[q] p=0:=fun h=>by
       rw[zcM h,decide_eq_false_iff_not]at ht
       exact⟨hstop h,ht⟩
      have hput:=zeM (jn:=fstP) hqO hlow hmiss
      have hq0:(0:Int)≤(q:Int):=by omega
      have hq1:(q:Int)≤(O.length:Int):=by omega
      have hcutlo:=hROA.cut (lo:=0) (hi:=q) (by omega) hqO
      have hcuthi:=hROA.cut (lo:=q) (hi:=O.length) hqO (Nat.le_refl _)
      rw[List.drop_zero,Nat.sub_zero]at hcutlo
      rw[List.take_of_length_le (by simp)]at hcuthi
      have dpA:=zaf hE44 dp
      have hprA:PairAt NoS A4 [f1,f2'] p:=hpr.ext hE44
      have hc8:c8<A4.heap.size:=by have:=(Array.getElem?_eq_some_iff.1 hC8).1;have:=hE44.size;omega
      repeat refine c_r ?_
      refine zax (Q:=fun e σ' ds' v'=>e= .normal∧ds'=[]∧σ' 9=vi q∧σ' 8= .pointer (some ⟨c8,0,Option.none⟩)∧σ' 7=vi j∧σ' 6= .slice (some xr) z.recs.length cl∧σ' 5=vi k∧σ' 4=vi i∧σ' 1= .pointer (some ⟨w.heap.size,0,Option.none⟩)∧σ' 3= .slice aO O.length cO∧Ext A4 v'∧∃xv,σ' 10=xv∧Owns 2 (PairAt NoS A4) A4.heap.size v' 226 xv (O.take q++ [p])) ?_ ?_
      ·refine zgM (fun _=>false) (.run [(1,true),(2,true),(3,true),(5,true)] (.fork 4 [0,6] (fun i=>if i=0 then(.run [] (.fork 3 [4,6] (fun i=>if i=4 then(.run [(6,false),(7,false),(8,true)] .fin) else(.run [(4,false),(7,false),(8,true)] .fin)))) else(.run [(0,false),(4,false),(7,false),(8,true)] .fin)))) (zc5 A4.heap.size) mixed (by kernel_rfl) ?_;intro gd K x hgd hx hxe hK;clear hxe
       have hx0:Ext A4 x:=⟨hx.os,hx.tape,hx.output,hx.size,fun b hb _=>hx.block b hb (by unfold zc5;omega),hx.drawn⟩
       have hxs:=hx.size
       have d2:=zaf hx0 dpA
       simp (disch:=first|omega|assumption|rfl) only[go_sem,s9,s8,s3,hq0,hq1,d2]
       refine⟨zed hc8,?_⟩
       simp only[zbE,zbY];refine⟨?_,?_⟩
       ·simp (disch:=first|omega|assumption|rfl) only[go_sem]
        refine zf0 (k:=2) (C:=PairAt NoS A4) rfl rfl rfl rfl ?_
        intro w3 hE3 hs3 ho3
        refine⟨.inr hE3.keep,?_⟩
        simp (disch:=first|omega|assumption|rfl) only[go_sem]
        simp only[zbE,zbY];refine⟨?_,?_⟩
        ·simp (disch:=first|omega|assumption|rfl) only[go_sem]
         refine zaQ (zbN A4) ho3 (hcutlo.ext (hx0.trans hE3)) rfl rfl rfl rfl rfl rfl (by decide) (vr0) (vr0) (by simp;omega) (by decide) (by omega) ?_
         intro u4 w4 ho4 hE4' hk4 _
         refine⟨.inr (hk4.mono fun b _ hb=>by have:=(ho3.ge hb).1;show _≤_;omega),?_⟩
         have hE4'':=hE4' _ hE3 (Nat.le_refl _)
         have hs4:=hk4.size
         simp (disch:=first|omega|assumption|rfl) only[go_sem]
         refine zbC (zbN A4) rfl rfl rfl rfl hprA (by decide) ?_
         intro w5 hE5 hs5 ho5
         refine⟨.inr hE5.keep,?_⟩
         simp (disch:=first|omega|assumption|rfl) only[go_sem]
         refine zaQ (zbN A4) (ho4.ext hE5) ho5.rows rfl rfl rfl rfl rfl rfl (by decide) (vr0) (vr0) (by simp;omega) (by decide) (by omega) ?_
         intro u6 w6 ho6 hE6 hk6 _
         refine⟨.inr (hk6.mono fun b _ hb=>by have:=(ho4.ge hb).1;show _≤_;omega),?_⟩
         simp (disch:=first|omega|assumption|rfl) only[go_sem]
         refine hK _ _ ⟨rfl,rfl,(vq1 s9),(vq1 s8),(vq1 s7),(vq1 s6),(vq1 s5),(vq1 s4),(vq1 s1),(vq1 s3),hx0.trans (hE6 _ (hE4''.trans hE5) (Nat.le_refl _)),_,by simp only[go_sem];rfl,?_⟩
         exact ho6.mono hxs
        ·simp (disch:=first|omega|assumption|rfl) only[go_sem]
         refine zbC (zbN A4) rfl rfl rfl rfl hprA (by decide) ?_
         intro w5 hE5 hs5 ho5
         refine⟨.inr hE5.keep,?_⟩
         simp (disch:=first|omega|assumption|rfl) only[go_sem]
         refine zaQ (zbN A4) (ho3.ext hE5) (hcutlo.ext ((hx0.trans hE3).trans hE5)) rfl rfl rfl rfl rfl rfl (by decide) (vr0) (vr0) (by simp;omega) (by decide) (by omega) ?_
         intro u4 w4 ho4 hE4' hk4 _
         have hs4:=hk4.size
         refine⟨.inr (hk4.mono fun b _ hb=>by have:=(ho3.ge hb).1;show _≤_;omega),?_⟩
         have ho5':=ho5.keep hk4 (fun b hb hb2=>by have:=(ho5.ge hb).1;have:=(ho3.ge hb2).2;omega)
         simp (disch:=first|omega|assumption|rfl) only[go_sem]
         refine zaQ (zbN A4) ho4 ho5'.rows rfl rfl rfl rfl rfl rfl (by decide) (vr0) (vr0) (by simp;omega) (by decide) (by omega) ?_
         intro u6 w6 ho6 hE6 hk6 _
         refine⟨.inr (hk6.mono fun b _ hb=>by have:=(ho4.ge hb).1;show _≤_;omega),?_⟩
         simp (disch:=first|omega|assumption|rfl) only[go_sem]
         refine hK _ _ ⟨rfl,rfl,(vq1 s9),(vq1 s8),(vq1 s7),(vq1 s6),(vq1 s5),(vq1 s4),(vq1 s1),(vq1 s3),hx0.trans (hE6 _ (hE4' _ (hE3.trans hE5) (Nat.le_refl _)) (Nat.le_refl _)),_,by simp only[go_sem];rfl,?_⟩
         exact ho6.mono hxs
       ·simp (disch:=first|omega|assumption|rfl) only[go_sem]
        refine zbC (zbN A4) rfl rfl rfl rfl hprA (by decide) ?_
        intro w5 hE5 hs5 ho5
        refine⟨.inr hE5.keep,?_⟩
        simp (disch:=first|omega|assumption|rfl) only[go_sem]
        refine zf0 (k:=2) (C:=PairAt NoS A4) rfl rfl rfl rfl ?_
        intro w3 hE3 hs3 ho3
        refine⟨.inr hE3.keep,?_⟩
        simp (disch:=first|omega|assumption|rfl) only[go_sem]
        refine zaQ (zbN A4) ho3 (hcutlo.ext ((hx0.trans hE5).trans hE3)) rfl rfl rfl rfl rfl rfl (by decide) (vr0) (vr0) (by simp;omega) (by decide) (by omega) ?_
        intro u4 w4 ho4 hE4' hk4 _
        refine⟨.inr (hk4.mono fun b _ hb=>by have:=(ho3.ge hb).1;show _≤_;omega),?_⟩
        have hE4'':=hE4' _ hE3 (Nat.le_refl _)
        have hs4:=hk4.size
        simp (disch:=first|omega|assumption|rfl) only[go_sem]
        refine zaQ (zbN A4) ho4 (ho5.ext hE4'').rows rfl rfl rfl rfl rfl rfl (by decide) (vr0) (vr0) (by simp;omega) (by decide) (by omega) ?_
        intro u6 w6 ho6 hE6 hk6 _
        refine⟨.inr (hk6.mono fun b _ hb=>by have:=(ho4.ge hb).1;show _≤_;omega),?_⟩
        simp (disch:=first|omega|assumption|rfl) only[go_sem]
        refine hK _ _ ⟨rfl,rfl,(vq1 s9),(vq1 s8),(vq1 s7),(vq1 s6),(vq1 s5),(vq1 s4),(vq1 s1),(vq1 s3),hx0.trans (hE6 _ (hE5.trans hE4'') (by omega)),_,by simp only[go_sem];rfl,?_⟩
        exact ho6.mono (by omega)
      clear s9 s8 s7 s6 s5 s4 s1 s3
      rintro _ σ8 _ u6 ⟨rfl,rfl,s9,s8,s7,s6,s5,s4,s1,s3,hE8,xv,s10,hox⟩
      repeat refine c_r ?_
      refine rq ?_;intro gd K hgd hK
      try simp (disch:=first|omega|assumption|rfl) only[go_sem,s9,s3,s10,hq0,hq1]
      refine zaQ (zbN A4) hox (hcuthi.ext hE8) rfl rfl rfl rfl rfl rfl (by decide) ((vq1 s10)) (vr0) (by simp;omega) (by decide) hE8.size ?_
      intro u7 w7 ho7 hE9 _ _
      have hE9':=hE9 _ hE8 (Nat.le_refl _)
      try simp only[go_sem]
      refine hK _ _ ?_;clear hK hgd;clear K;try clear gd
      repeat refine c_r ?_
      refine rg2 s7 hj1' ?_
      repeat refine c_r ?_
      exact⟨m3 - 1,by omega,rfl,j+1,u7,xs3++ [p],by omega,vq0,(vq1 s6),(vq1 s5),(vq1 s4),(vq1 s1),vq0,hvA.trans hE9',by rw[hput0,hput];exact ho7.rows.to fun _ _ h=>h.ext hE9',hbe2⟩
    ·have hro:renO r=Option.none:=by unfold renO;rw[if_neg e39]
     rw[List.filterMap_cons_none hro]at hbe
     repeat refine c_r ?_
     refine rg9 s6 s7 hj0 hlt3 hxj hx2 hz2 f23 (an2 (decide_eq_false e39) Bool.not_false) ?_
     repeat refine c_r ?_
     refine wt trivial ?_
     repeat refine c_r ?_
     refine rg2 s7 hj1' ?_
     repeat refine c_r ?_
     exact⟨m3 - 1,by omega,rfl,j+1,ov3,xs3,by omega,vq0,(vq1 s6),(vq1 s5),(vq1 s4),(vq1 s1),(vq1 s3),hEv3,hRO,hbe⟩
   ·intro hge3
    simp only[decide_eq_false_iff_not]at hge3
    rw[List.drop_of_length_le (by omega),List.filterMap_nil,List.nil_append,←hR2]at hbe
    repeat refine c_r ?_
    refine rg2 s5 hk1' ?_
    repeat refine c_r ?_
    exact⟨m2 - 1,by omega,rfl,k+1,ov3,xs3,by omega,vq0,(vq1 s4),(vq1 s1),(vq1 s3),hEv3,hRO,hbe⟩
  ·intro hge2
   simp only[decide_eq_false_iff_not]at hge2
   rw[List.drop_of_length_le (by omega),List.flatMap_nil,List.nil_append,←hR1]at hbe
   repeat refine c_r ?_
   refine rg2 s4 hi1' ?_
   repeat refine c_r ?_
   exact⟨m - 1,by omega,rfl,i+1,ov2,xs2,by omega,vq0,(vq1 s1),(vq1 s3),hEv2,hRO,hbe⟩
 ·intro hge
  simp only[decide_eq_false_iff_not]at hge
  rw[List.drop_of_length_le (by omega),List.flatMap_nil,List.append_nil]at hbe
  repeat refine c_r ?_
  refine rg1 s3 ?_
  repeat refine c_r ?_
  refine rt0 Tryz.ntmps121 ?_
  unfold renN
  rw[hbe]
  exact⟨hE1.trans hEv,hRO⟩
def zcn(ren:List zaI)(L:List Nm):List Nm:=ren.flatMap fun r=>L.filterMap fun x=>za9 x r
theorem zfu{ren:List zaI}{L:List Nm}{y:Nm}:y∈zcn ren L↔y∈zaB ren L:=by
 simp only[zcn,zaB,List.mem_flatMap,List.mem_filterMap]
 constructor
 ·rintro⟨r,hr,x,hx,h⟩;exact⟨x,hx,r,hr,h⟩
 ·rintro⟨x,hx,r,hr,h⟩;exact⟨r,hr,x,hx,h⟩
theorem canN_mem{ps qs:List Nm}(h:∀p,p∈ps↔p∈qs):canN ps=canN qs:=
 zht (zct ps) fun g=>mem_canN.trans ⟨zdO fun p hp=>(h p).1 hp,zdO fun p hp=>(h p).2 hp⟩
theorem zhs{ren:List zaI}{ps L:List Nm}:canN (ps++zcn ren L)=canN (ps++zaB ren L):=canN_mem fun p=>by simp only[List.mem_append,zfu]
def zdo(ren:List zaI)(L:List Nm)(k j:Nat)(r:zaI):List Nm:=zcn (ren.take k) L++(L.take j).filterMap fun x=>za9 x r
theorem zjC{ren:List zaI}{L:List Nm}{k j:Nat}{r:zaI}(hr:r∈ren):∀y∈zdo ren L k j r,y∈zaB ren L:=by
 intro y hy
 rw[←zfu]
 unfold zcn
 rcases List.mem_append.1 hy with h|h
 ·unfold zcn at h
  obtain⟨x,hx,h⟩:=List.mem_flatMap.1 h
  exact List.mem_flatMap.2 ⟨x,List.mem_of_mem_take hx,h⟩
 ·obtain⟨x,hx,h⟩:=List.mem_filterMap.1 h
  exact List.mem_flatMap.2 ⟨r,hr,List.mem_filterMap.2 ⟨x,List.mem_of_mem_take hx,h⟩⟩
theorem ziv{ren:List zaI}{L:List Nm}{k j:Nat}{r:zaI}(hj:j<L.length):zdo ren L k (j+1) r=zdo ren L k j r++(za9 L[j] r).toList:=by
 unfold zdo
 rw[zak hj,List.filterMap_append,←List.append_assoc]
 congr 1
theorem ziw{ren:List zaI}{L:List Nm}{k j:Nat}(hk:k<ren.length)(hj:L.length≤j):zdo ren L k j ren[k]=zcn (ren.take (k+1)) L:=by
 unfold zdo zcn
 rw[List.take_of_length_le hj,zak hk,List.flatMap_append]
 simp
theorem zkj{ren:List zaI}{k:Nat}{ps:List Nm}{p:Nm}(h:p∈ps++zaB ren (canN ps)):p∈zbi ren (k+1) ps:=by
 unfold zbi
 split
 ·exact h
 ·exact zd8 h
theorem zkz(w:World)(qv fv tv:Value)(q f:Nm)(ht:one tv=true)(hq:Row w qv (q.map vs))(hf:Row w fv (f.map vs))(mq:NmM q)(mf:NmM f)(hu:za0 q f=false):
  Fn Tryz.prog 122 #[qv,fv,tv] w (fun v w'=>Ext w w'∧v= .tuple #[.slice Option.none 0 0,vi 12]):=by
 obtain⟨aq,cq,hqv,_⟩:=id hq
 obtain⟨af,cf,hfv,_⟩:=id hf
 have bq:=mq.len
 have bf:=mf.len
 refine enter Tryz.func122 Tryz.ntmps122 rfl rfl ?_
 repeat refine c_r ?_
 refine rg0 ?_
 repeat refine c_r ?_
 refine rc trivial (zgR _ _ _ _ _ hq hf mq.LB mf.LB (by omega) (by omega)) ?_
 rintro _ w1 ⟨rfl,hE1⟩
 rw[hu]
 refine re trivial ?_
 repeat refine c_r ?_
 refine wt trivial ?_
 repeat (first|refine c_r ?_|refine rg0 ?_)
 refine zaA (.inr rfl) Tryz.ntmps122 rfl (zal (v:= .slice Option.none 0 0) (vr0) (zal (v:=vi 12) (vr0) zaz)) ?_
 exact⟨hE1,rfl⟩
theorem zky(w:World)(qv fv tv:Value)(x:Nm)(r:zaI)(hq:Row w qv (x.map vs))(hf:Row w fv (r.2.map vs))(ht:Row w tv (r.1.map vs))(mq:NmM x)(hr:zbn r):
  Fn Tryz.prog 122 #[qv,fv,tv] w (fun v w'=>Ext w w'∧((∃y sv,za9 x r=some y∧v= .tuple #[sv,vi 0]∧Row w' sv (y.map vs))∨∃e:Int,za9 x r=Option.none∧v= .tuple #[.slice Option.none 0 0,vi e]∧e≠0)):=by
 cases hu:za0 x r.2 with
 |false=>
  refine Fn.mono (zkz w qv fv tv x r.2 ht.isOne hq hf mq hr.b.m hu) ?_
  rintro _ w' ⟨hE,rfl⟩
  exact⟨hE,.inr ⟨12,by simp[za9,hu],rfl,by decide⟩⟩
 |true=>
  refine Fn.mono (RSwap_ok w qv fv tv x r.2 r.1 hq hf ht mq hr.b.m hr.a.m hu) ?_
  rintro v w' ⟨hE,h1,h2⟩
  by_cases hc:zaH (zcl x r.2 r.1)=0
  ·obtain⟨sv,rfl,h3,h4⟩:=h1 hc
   exact⟨hE,.inl ⟨_,sv,by simp[za9,hu,hc],rfl,h3⟩⟩
  ·exact⟨hE,.inr ⟨7,by simp[za9,hu,hc],h2 hc,by decide⟩⟩
theorem zkB{w0 w:World}(hE0:Ext w0 w){cs:List Value}{N:NetL}(hN:NetAt w0 cs N)(hG:zbb N){most:Int}(hmost:most≤1000000):
  Fn Tryz.prog 69 #[.agg cs.toArray,vi most] w (fun v w'=>Ext w w'∧((most<((canN (zaV N)).length:Int)∧v= .tuple #[.slice Option.none 0 0,vi 11])∨
   (((canN (zaV N)).length:Int)≤most∧∃lv,v= .tuple #[lv,vi 0]∧NamesAt w' lv (canN (zaV N))))):=by
 have hN0:=hN
 obtain⟨hv,rv,rfl,hh,hr⟩:=hN.ex
 obtain⟨ah,ch,hhv,_⟩:=hh.open
 obtain⟨ar0,cr0,hrv,_⟩:=id hr
 have hw:=hG.w
 have bk:=zgL hG
 refine enter Tryz.func69 Tryz.ntmps69 rfl rfl ?_
 repeat refine c_r ?_
 rw[hhv,hrv]
 refine rg0 ?_
 rw[←hhv,←hrv]
 repeat refine c_r ?_
 refine zaM ?_
 intro w1 hE1 hs1 hA
 have dA:=zay (n:=4) (l:=[hv,rv,vi N.rw,vi N.rf]) hA rfl
 repeat refine c_r ?_
 refine rc dA (RBase_ok (hE0.trans hE1) hN0 hG) ?_
 rintro bv w2 ⟨hE2,hZ0⟩
 refine re trivial ?_
 repeat refine c_r ?_
 refine rc (zaf hE2 dA) (zhz (hE0.trans (hE1.trans hE2)) hN0 hG) ?_
 rintro rnv w3 ⟨hE3,hR⟩
 refine re trivial ?_
 have hE13:=hE2.trans hE3
 have p2:zah w3 (some ⟨w.heap.size,2,Option.none⟩)=some (vi N.rw):=zac (Ext.at hE13 hA) rfl
 have hro:∀r∈renN N,zbn r:=zfK (zdG hG)
 obtain⟨ren,hren⟩:∃r,renN N=r:=⟨_,rfl⟩
 obtain⟨k0,hk0⟩:∃k:Nat,N.rw=(k:Int):=⟨N.rw.toNat,by omega⟩
 have hF:zaV N=zbi ren k0 (za2 N):=by unfold zaV;rw[hren,hk0];rfl
 have hrl:(renN N).length≤1000000000:=by
  have h1:=zc6 hG
  have h2:=zfJ (l:=zce N)
  unfold renN;omega
 rw[hren]at hR hro hrl
 rw[hF]
 rw[hk0]at p2 hw
 obtain⟨F,hFe⟩:∃F,zbi ren k0 (za2 N)=F:=⟨_,rfl⟩
 rw[hFe]
 obtain⟨ar,cr,rfl,_,hgr⟩:=hR.open
 repeat refine c_r ?_
 refine rg0 ?_
 repeat refine c_r ?_
 refine zax (Q:=fun e σ' ds' v'=>ds'=[]∧Ext w3 v'∧((e= .exit 0∧σ' 1=vi most∧∃lv,σ' 6=lv∧NamesAt v' lv (canN F))∨(e= .ret∧σ' 4= .slice Option.none 0 0∧σ' 5=vi 11∧most<((canN F).length:Int)))) ?_ ?_
 ·refine zai (fun m σ ds v=>ds=[]∧∃(i:Nat) (qs:List Nm) (lv:Value),i+m=k0∧σ 8=vi i∧σ 2= .pointer (some ⟨w.heap.size,0,Option.none⟩)∧σ 1=vi most∧σ 6=lv∧σ 7= .slice ar ren.length cr∧Ext w3 v∧NamesZ NoS v lv (canN qs)∧(∀p∈qs,NmK p)∧zbi ren (k0 - i) qs=F) k0 ?_ ?_
  ·exact⟨rfl,0,za2 N,bv,by omega,vr0,vq0,vq0,vq0,vq0,Keep.refl _ _,hZ0.ext hE3,bk,hFe⟩
  rintro m σ ds v ⟨rfl,i,qs,lv,him,s8,s2,s1,s6,s7,hEv,hZ,hqk,hcl⟩
  have p2v:=zaa hEv p2
  repeat refine c_r ?_
  refine rg4 s8 s2 p2v Nat.zero_add ?_
  repeat refine c_r ?_
  refine wc0 ?_ ?_
  ·intro hlt
   simp only[decide_eq_true_eq]at hlt
   have hi1':(i:Int)+1=((i+1:Nat):Int):=by push_cast;rfl
   obtain⟨j0,hj0⟩:∃j,k0 - i=j+1:=⟨k0 - i - 1,by omega⟩
   rw[hj0]at hcl
   have hsub:∀p∈qs++zaB ren (canN qs),p∈F:=fun p hp=>by rw[←hcl];exact zkj hp
   have hqk2:∀p∈qs++zaB ren (canN qs),NmK p:=fun p hp=>by
    rcases List.mem_append.1 hp with hp|hp
    ·exact hqk p hp
    ·exact zaZ (zfH hp)
   have hsz:∀ps:List Nm,(∀p∈ps,p∈qs++zaB ren (canN qs))→(canN ps).length≤(canN F).length:=fun ps h=>zfY fun g=>zdO fun p hp=>hsub p (h p hp)
   have hq1:=hsz qs fun p hp=>List.mem_append_left _ hp
   obtain⟨ao,co,rfl,hgo⟩:=zbs hZ.at
   obtain⟨L,hL⟩:∃L,canN qs=L:=⟨_,rfl⟩
   have hLk:∀x∈L,NmK x:=fun x hx=>inS_k hqk (mem_canN.1 (by rw[hL];exact hx))
   have hZL:=hZ
   rw[hL]at s6 hgo hsub hqk2 hsz hq1 hZL
   repeat refine c_r ?_
   by_cases hgt:(L.length:Int)>most
   ·refine rg3 s6 s1 (decide_eq_true hgt) ?_
    repeat refine c_r ?_
    refine wt trivial ?_
    repeat refine c_r ?_
    refine rg0 ?_
    repeat refine c_r ?_
    exact⟨rfl,hEv,.inr ⟨rfl,vr0,vr0,by omega⟩⟩
   refine rg3 s6 s1 (decide_eq_false hgt) ?_
   repeat refine c_r ?_
   refine wf trivial ?_
   repeat refine c_r ?_
   refine rg1 s6 ?_
   repeat refine c_r ?_
   refine rg0 ?_
   repeat refine c_r ?_
   refine zai (fun m σ ds v'=>ds=[]∧∃(k:Nat) (lv:Value),k+m=ren.length∧σ 10=vi k∧σ 9= .slice ao L.length co∧σ 8=vi i∧σ 2= .pointer (some ⟨w.heap.size,0,Option.none⟩)∧σ 1=vi most∧σ 6=lv∧σ 7= .slice ar ren.length cr∧Ext v v'∧NamesZ NoS v' lv (canN (qs++zcn (ren.take k) L))∧((canN (qs++zcn (ren.take k) L)).length:Int)≤most) ren.length ?_ ?_
   ·exact⟨rfl,0,.slice ao L.length co,by omega,vr0,vq0,(vq1 s8),(vq1 s2),(vq1 s1),(vq1 s6),(vq1 s7),Keep.refl _ _,by simpa [zcn,hL] using hZL,by simp[zcn,hL];omega⟩
   clear s8 s2 s1 s6 s7 p2v
   rintro m2 σ2 ds2 v2 ⟨rfl,k,lv2,hkm,s10,s9,s8,s2,s1,s6,s7,hE2',hZ2,hml⟩
   repeat refine c_r ?_
   refine rg2 s10 s7 ?_
   repeat refine c_r ?_
   refine wc0 ?_ ?_
   ·intro hlt2
    simp only[decide_eq_true_eq]at hlt2
    have hk:k<ren.length:=by omega
    have hk0':(0:Int)≤(k:Int):=by omega
    have hk1':(k:Int)+1=((k+1:Nat):Int):=by push_cast;rfl
    have hrm:=List.getElem_mem hk
    obtain⟨pcs,hpc,hP⟩:=hgr k hk
    have hfull:∀j,L.length≤j→zdo ren L k j ren[k]=zcn (ren.take (k+1)) L:=fun j hj=>ziw hk hj
    obtain⟨r,hre⟩:∃r,ren[k]=r:=⟨_,rfl⟩
    rw[hre]at hP hrm hfull
    have hro1:=hro r hrm
    obtain⟨p1,p2',rfl,hp1,hp2⟩:=hP.ex
    obtain⟨xr,rfl⟩:=Option.isSome_iff_exists.1 (zan hpc)
    obtain⟨xk,hxk⟩:∃xi,adr (some xr) (k*2)=some xi:=⟨_,rfl⟩
    rw[hxk]at hpc
    have hz0:adr (some xk) 0=some xk:=zar _
    have c0:=zaq (j:=0) hpc rfl
    rw[hz0]at c0
    have c1:=zaq (j:=1) hpc rfl
    obtain⟨x1,hx1⟩:∃x,adr (some xk) 1=some x:=⟨_,rfl⟩
    rw[hx1]at c1
    have hps:∀j,∀p∈qs++zdo ren L k j r,p∈qs++zaB ren L:=fun j p hp=>by
     rcases List.mem_append.1 hp with h|h
     ·exact List.mem_append_left _ h
     ·exact List.mem_append_right _ (zjC hrm p h)
    repeat refine c_r ?_
    refine rg0 ?_
    repeat refine c_r ?_
    refine zai (fun m σ ds v'=>ds=[]∧∃(j:Nat) (lv:Value),j+m=L.length∧σ 11=vi j∧σ 10=vi k∧σ 9= .slice ao L.length co∧σ 8=vi i∧σ 2= .pointer (some ⟨w.heap.size,0,Option.none⟩)∧σ 1=vi most∧σ 6=lv∧σ 7= .slice (some xr) ren.length cr∧Ext v v'∧NamesZ NoS v' lv (canN (qs++zdo ren L k j r))∧((canN (qs++zdo ren L k j r)).length:Int)≤most) L.length ?_ ?_
    ·exact⟨rfl,0,lv2,by omega,vr0,(vq1 s10),(vq1 s9),(vq1 s8),(vq1 s2),(vq1 s1),(vq1 s6),(vq1 s7),hE2',by simpa [zdo] using hZ2,by simpa [zdo] using hml⟩
    clear s10 s9 s8 s2 s1 s6 s7 hE2' hZ2 hml
    rintro m3 σ3 ds3 v3 ⟨rfl,j,lv3,hjm,s11,s10,s9,s8,s2,s1,s6,s7,hE3',hZ3,hml⟩
    repeat refine c_r ?_
    refine rg2 s11 s9 ?_
    repeat refine c_r ?_
    refine wc0 ?_ ?_
    ·intro hlt3
     simp only[decide_eq_true_eq]at hlt3
     have hj:j<L.length:=by omega
     have hj0':(0:Int)≤(j:Int):=by omega
     have hj1':(j:Int)+1=((j+1:Nat):Int):=by push_cast;rfl
     obtain⟨y,gy0,hy⟩:=hgo j hj
     obtain⟨xo,rfl⟩:=Option.isSome_iff_exists.1 (zad gy0)
     have hxk9:=hLk _ (List.getElem_mem hj)
     have hE03:=hEv.trans hE3'
     have hnext:=ziv (ren:=ren) (k:=k) (r:=r) hj
     obtain⟨z,hze⟩:∃z,L[j]=z:=⟨_,rfl⟩
     rw[hze]at hy hxk9 hnext
     repeat refine c_r ?_
     refine zax (Q:=fun e σ' ds' v'=>e= .normal∧ds'=[]∧σ' 11=vi j∧σ' 10=vi k∧σ' 9= .slice (some xo) L.length co∧σ' 8=vi i∧σ' 2= .pointer (some ⟨w.heap.size,0,Option.none⟩)∧σ' 1=vi most∧σ' 6=lv3∧σ' 7= .slice (some xr) ren.length cr∧Ext v3 v'∧∃(sv:Value) (e:Int),σ' 12=sv∧σ' 13=vi e∧
      ((e=0∧∃y,za9 z r=some y∧Row v' sv (y.map vs))∨(e≠0∧za9 z r=Option.none))) ?_ ?_
     ·refine zaL (fun _=>false) [(0,true),(1,true),(2,true),(3,true),(4,true),(5,true),(6,true),(7,true),(8,true),(9,true),(10,true),(11,true),(12,true),(13,true),(14,false),(15,true),(16,true),(17,true),(18,true),(19,true)] NoS mixed (by kernel_rfl) ?_;intro gd K x hgd hx hxe hK;clear hxe
      have gyx:=zaa (hE3'.trans hx) gy0
      have c0x:=zaa (hE03.trans hx) c0
      have c1x:=zaa (hE03.trans hx) c1
      simp (disch:=first|omega|assumption|rfl) only[go_sem,s11,s10,s9,s7,hj0',hlt3,hk0',hlt2,gyx,hxk,hz0,hx1,c0x,c1x]
      refine Fn.mono (zky x y p2' p1 z r (hy.ext (hE3'.trans hx)) (hp2.1.ext (hE03.trans hx)) (hp1.1.ext (hE03.trans hx)) hxk9.m hro1) ?_
      rintro _ x9 ⟨hx9,(⟨y,sv,hsw,rfl,hy1⟩| ⟨e,hsw,rfl,he⟩)⟩
      ·refine⟨.inr hx9,?_⟩
       simp (disch:=first|omega|assumption|rfl) only[go_sem]
       refine hK _ _ ?_;clear hK hgd;clear K;try clear gd
       exact⟨rfl,rfl,(vq1 s11),(vq1 s10),(vq1 s9),(vq1 s8),(vq1 s2),(vq1 s1),(vq1 s6),(vq1 s7),hx.trans hx9,sv,0,vq0,vr0,.inl ⟨rfl,y,hsw,hy1⟩⟩
      ·refine⟨.inr hx9,?_⟩
       simp (disch:=first|omega|assumption|rfl) only[go_sem]
       refine hK _ _ ?_;clear hK hgd;clear K;try clear gd
       exact⟨rfl,rfl,(vq1 s11),(vq1 s10),(vq1 s9),(vq1 s8),(vq1 s2),(vq1 s1),(vq1 s6),(vq1 s7),hx.trans hx9,_,e,vr0,vq0,.inr ⟨he,hsw⟩⟩
     clear s11 s10 s9 s8 s2 s1 s6 s7
     rintro _ σ4 _ v4 ⟨rfl,rfl,s11,s10,s9,s8,s2,s1,s6,s7,hE4,sv,e,s12,s13,hc⟩
     repeat refine c_r ?_
     refine rg1 s13 ?_
     repeat refine c_r ?_
     refine zax (Q:=fun e σ' ds' v'=>e= .normal∧ds'=[]∧σ' 11=vi j∧σ' 10=vi k∧σ' 9= .slice (some xo) L.length co∧σ' 8=vi i∧σ' 2= .pointer (some ⟨w.heap.size,0,Option.none⟩)∧σ' 1=vi most∧σ' 7= .slice (some xr) ren.length cr∧Ext v4 v'∧∃lv,σ' 6=lv∧NamesZ NoS v' lv (canN (qs++zdo ren L k (j+1) r))) ?_ ?_
     ·rcases hc with ⟨rfl,y,hsw,hy1⟩| ⟨hne,hsw⟩
      ·refine wt trivial ?_
       repeat refine c_r ?_
       refine rc (an2 s6 s12) (zdW v4 lv3 sv _ y (hZ3.ext hE4) hy1 (fun p hp=>hqk2 p (hps j p hp)) (zaZ (zeq hsw)) (by omega)) ?_
       rintro lv5 v5 ⟨hE5,hZ5⟩
       refine re trivial ?_
       rw[List.append_assoc,show zdo ren L k j r++ [y]=zdo ren L k (j+1) r by rw[hnext,hsw];rfl]at hZ5
       exact⟨rfl,rfl,(vq1 s11),(vq1 s10),(vq1 s9),(vq1 s8),(vq1 s2),(vq1 s1),(vq1 s7),hE5,lv5,vq0,hZ5⟩
      ·refine wf (decide_eq_false hne) ?_
       repeat refine c_r ?_
       exact⟨rfl,rfl,(vq1 s11),(vq1 s10),(vq1 s9),(vq1 s8),(vq1 s2),(vq1 s1),(vq1 s7),Keep.refl _ _,lv3,(vq1 s6),by rw[hnext,hsw];simpa using hZ3.ext hE4⟩
     clear s11 s10 s9 s8 s2 s1 s6 s7 s12 s13 hc
     rintro _ σ5 _ v5 ⟨rfl,rfl,s11,s10,s9,s8,s2,s1,s7,hE5,lv5,s6,hZ5⟩
     have hE35:=hE3'.trans (hE4.trans hE5)
     have hsz5:=hsz _ (hps (j+1))
     obtain⟨a5,c5,rfl,_⟩:=zbs hZ5.at
     repeat refine c_r ?_
     by_cases hgt5:((canN (qs++zdo ren L k (j+1) r)).length:Int)>most
     ·refine rg3 s6 s1 (decide_eq_true hgt5) ?_
      repeat refine c_r ?_
      refine wt trivial ?_
      repeat refine c_r ?_
      refine rg0 ?_
      repeat refine c_r ?_
      exact⟨rfl,hEv.trans hE35,.inr ⟨rfl,vr0,vr0,by omega⟩⟩
     ·refine rg3 s6 s1 (decide_eq_false hgt5) ?_
      repeat refine c_r ?_
      refine wf trivial ?_
      repeat refine c_r ?_
      refine rg2 s11 hj1' ?_
      repeat refine c_r ?_
      exact⟨m3 - 1,by omega,rfl,j+1,_,by omega,vq0,(vq1 s10),(vq1 s9),(vq1 s8),(vq1 s2),(vq1 s1),(vq1 s6),(vq1 s7),hE35,hZ5,by omega⟩
    ·intro hge3
     simp only[decide_eq_false_iff_not]at hge3
     rw[hfull j (by omega)]at hZ3 hml
     repeat refine c_r ?_
     refine rg2 s10 hk1' ?_
     repeat refine c_r ?_
     exact⟨m2 - 1,by omega,rfl,k+1,lv3,by omega,vq0,(vq1 s9),(vq1 s8),(vq1 s2),(vq1 s1),(vq1 s6),(vq1 s7),hE3',hZ3,hml⟩
   ·intro hge2
    simp only[decide_eq_false_iff_not]at hge2
    rw[List.take_of_length_le (by omega),zhs]at hZ2 hml
    obtain⟨a5,c5,rfl,_⟩:=zbs hZ2.at
    have hE05:=hEv.trans hE2'
    repeat refine c_r ?_
    by_cases heq:(canN (qs++zaB ren L)).length=L.length
    ·have hFq:qs++zaB ren L=F:=by rw[←hcl];unfold zbi;rw[hL,if_pos heq]
     refine rg3 s6 s9 (decide_eq_true (show((canN (qs++zaB ren L)).length:Int)=(L.length:Int) by omega)) ?_
     repeat refine c_r ?_
     refine wt trivial ?_
     repeat refine c_r ?_
     rw[hFq]at hZ2
     exact⟨rfl,hE05,.inl ⟨rfl,(vq1 s1),_,by rw[←hFq];simp only[go_sem,s6],hZ2.at⟩⟩
    ·have hFq:zbi ren j0 (qs++zaB ren L)=F:=by
      rw[←hcl];conv=>rhs;unfold zbi
      rw[hL,if_neg heq]
     refine rg3 s6 s9 (decide_eq_false (show¬((canN (qs++zaB ren L)).length:Int)=(L.length:Int) by omega)) ?_
     repeat refine c_r ?_
     refine wf trivial ?_
     repeat refine c_r ?_
     refine rg2 s8 hi1' ?_
     repeat refine c_r ?_
     exact⟨m - 1,by omega,rfl,i+1,_,_,by omega,vq0,(vq1 s2),(vq1 s1),(vq1 s6),(vq1 s7),hE05,hZ2,hqk2,by rw[show k0 - (i+1)=j0 by omega];exact hFq⟩
  ·intro hge
   simp only[decide_eq_false_iff_not]at hge
   have hFq:qs=F:=by rw[←hcl,show k0 - i=0 by omega];rfl
   rw[hFq]at hZ
   repeat refine c_r ?_
   exact⟨rfl,hEv,.inl ⟨rfl,(vq1 s1),lv,(vq1 s6),hZ.at⟩⟩
 rintro e σ' ds' v' ⟨rfl,hEv,(⟨rfl,s1,lv,s6,hlv⟩| ⟨rfl,h4,h5,hgt2⟩)⟩
 ·obtain⟨a5,c5,rfl,_⟩:=zbs hlv
  repeat refine c_r ?_
  by_cases hgt:((canN F).length:Int)>most
  ·refine rg3 s6 s1 (decide_eq_true hgt) ?_
   repeat refine c_r ?_
   refine wt trivial ?_
   repeat refine c_r ?_
   refine rg0 ?_
   repeat refine c_r ?_
   refine zaA (.inr rfl) Tryz.ntmps69 rfl (zal (v:= .slice Option.none 0 0) (vr0) (zal (v:=vi 11) (vr0) zaz)) ?_
   exact⟨hE1.trans (hE13.trans hEv),.inl ⟨by omega,rfl⟩⟩
  ·refine rg3 s6 s1 (decide_eq_false hgt) ?_
   repeat refine c_r ?_
   refine wf trivial ?_
   repeat refine c_r ?_
   refine rg1 s6 ?_
   repeat refine c_r ?_
   refine zaA (.inr rfl) Tryz.ntmps69 rfl (zal (v:= .slice a5 (canN F).length c5) (vr0) (zal (v:=vi 0) (vr0) zaz)) ?_
   exact⟨hE1.trans (hE13.trans hEv),.inr ⟨by omega,_,rfl,hlv⟩⟩
 ·repeat refine c_r ?_
  refine zaA (.inr rfl) Tryz.ntmps69 rfl (zal (v:= .slice Option.none 0 0) ((vq1 h4)) (zal (v:=vi 11) ((vq1 h5)) zaz)) ?_
  exact⟨hE1.trans (hE13.trans hEv),.inl ⟨hgt2,rfl⟩⟩
theorem zki(w:World):zfq 2 (ClsAt w):=⟨fun h=>(by obtain⟨nv,rfl,_⟩:=h.ex;rfl),fun h=>(by
 obtain⟨nv,rfl,hr⟩:=h.ex
 exact zaX hr.isOne rfl)⟩
theorem bs_cls{P:Program}{t e:TypeId}{parts:List (Nat×Value)}{w:World}{K:Value→World→Prop}{w0:World}{nv:Value}{x:Nm}(hn:Row w0 nv (x.map vs))(hC:bsC P t 2 parts=some (e,#[nv,.bool false,nv,.bool true]))
  (h:∀w1,Ext w w1→w1.heap.size=w.heap.size+1→Rows 2 (ClsAt w0) w1 (.slice (some ⟨w.heap.size,0,Option.none⟩) 2 2) [⟨x,false⟩,⟨x,true⟩]→K (.slice (some ⟨w.heap.size,0,Option.none⟩) 2 2) w1):bsL P t 2 parts w K .mk:=by
 unfold bsL bsK
 rw[hC]
 refine h _ (Ext.alloc w _) (zap w _) ⟨[[nv,.bool false],[nv,.bool true]],⟨some ⟨w.heap.size,0,Option.none⟩,2,rfl,Nat.le_refl _,fun i hi=>?_⟩,rfl,fun i h1 h2=>?_⟩
 ·have hb:=zam w (.cells #[nv,.bool false,nv,.bool true] e (0,0))
  match i,hi with
  |0,_=>exact zaE (o:=0) (k:=2) hb (by simp)
  |1,_=>exact zaE (o:=2) (k:=2) hb (by simp)
 ·match i,h1 with
  |0,_=>exact⟨nv,rfl,hn⟩
  |1,_=>exact⟨nv,rfl,hn⟩
theorem cls_next{L:List Nm}{i:Nat}(h:i<L.length):clsN (L.take (i+1))=clsN (L.take i)++ [⟨L[i],false⟩,⟨L[i],true⟩]:=by
 unfold clsN;rw[zak h,List.flatMap_append];simp
theorem All_ok{w0 w:World}(hE0:Ext w0 w){cs:List Value}{N:NetL}(hN:NetAt w0 cs N)(hG:zbb N)(hl:(canN (zaV N)).length≤4096):
  Fn Tryz.prog 19 #[.agg cs.toArray] w (fun v w'=>Ext w w'∧∃lv,v= .tuple #[lv,vi 0]∧Rows 2 (ClsAt w') w' lv (clsN (canN (zaV N)))):=by
 have hN0:=hN
 obtain⟨hv,rv,rfl,hh,hr⟩:=hN.ex
 obtain⟨ah,ch,hhv,_⟩:=hh.open
 obtain⟨ar0,cr0,hrv,_⟩:=id hr
 refine enter Tryz.func19 Tryz.ntmps19 rfl rfl ?_
 repeat refine c_r ?_
 rw[hhv,hrv]
 refine go trivial ?_
 rw[←hhv,←hrv]
 refine zaM ?_
 intro w1 hE1 hs1 hA
 have dA:=zay (n:=4) (l:=[hv,rv,vi N.rw,vi N.rf]) hA rfl
 refine rc dA (zil (most:=4096) (hE0.trans hE1) hN0 hG (by decide)) ?_
 rintro _ w2 ⟨hE2,(⟨h1,_⟩| ⟨_,lv,rfl,hlv⟩)⟩
 ·omega
 obtain⟨L,hL⟩:∃L,canN (zaV N)=L:=⟨_,rfl⟩
 rw[hL]at hlv hl ⊢
 obtain⟨a,c,rfl,hg⟩:=zbs hlv
 refine rgo trivial ?_
 refine zax (Q:=fun e σ' ds' v=>e= .exit 0∧ds'=[]∧Ext w2 v∧∃ov,σ' 6=ov∧Owns 2 (ClsAt w2) w2.heap.size v 44 ov (clsN L)) ?_ ?_
 ·refine zgP L.length (fun i σ v=>(σ 19=vi i∧σ 18=vi L.length∧σ 17= .slice a L.length c)∧Ext w2 v∧∃ov,σ 6=ov∧Owns 2 (ClsAt w2) w2.heap.size v 44 ov (clsN (L.take i))) ?_ ?_ ?_
  ·exact⟨⟨vr0,vq0,vq0⟩,Keep.refl _ _,_,vr0,Owns.nil _ _ _ _ _⟩
  ·rintro i σ v hi p ⟨s,hE,ov,s6,ho⟩
   obtain⟨xv,gx,hxv⟩:=hg i hi
   have g:=zaa hE gx
   obtain⟨xa,rfl⟩:=Option.isSome_iff_exists.1 (zad g)
   obtain⟨ax,cx,hxe,_⟩:=id hxv
   rw[List.length_map]at hxe
   rw[hxe]at g
   have hnx:=cls_next hi
   have hcl:=zh8 (L:=L.take i)
   have:=List.length_take_le i L
   refine go (an3 s p g) ?_
   refine rq ?_;intro gd K hgd hK
   try simp (disch:=first|omega|assumption|rfl) only[go_sem,s6]
   refine⟨by kernel_rfl,?_⟩
   rw[show bdV Tryz.prog 44 [(0,.slice ax L[i].length cx),(1,.bool false)]=some (.agg #[.slice ax L[i].length cx,.bool false]) from by kernel_rfl]
   try simp (disch:=first|omega|assumption|rfl) only[go_sem,s6]
   refine⟨by kernel_rfl,?_⟩
   rw[show bdV Tryz.prog 44 [(0,.slice ax L[i].length cx),(1,.bool true)]=some (.agg #[.slice ax L[i].length cx,.bool true]) from by kernel_rfl]
   try simp (disch:=first|omega|assumption|rfl) only[go_sem,s6]
   refine bs_cls (e:=44) (x:=L[i]) (w0:=w2) (nv:= .slice ax L[i].length cx) (by rw[←hxe];exact hxv) (by kernel_rfl) ?_
   intro v1 hE3 hs3 hr3
   try simp (disch:=first|omega|assumption|rfl) only[go_sem,s6]
   refine zaQ (zki w2) (ho.ext hE3) hr3 rfl rfl rfl rfl rfl rfl (by decide) ((vq1 s6)) (vr0) (by simp;omega) (by decide) (hE.trans hE3).size ?_
   intro u v2 ho2 hE4 _ _
   try simp only[go_sem]
   refine hK _ _ ?_;clear hK hgd;clear K;try clear gd
   refine go (an2 s p) ?_
   exact⟨rfl,sc (an2 s p),hE4 _ (hE.trans hE3) (Nat.le_refl _),u,vq0,by rw[hnx];exact ho2⟩
  ·rintro σ v p ⟨s,hE,ov,s6,ho⟩
   rw[List.take_length]at ho
   refine go (an2 s p) ?_
   exact⟨rfl,rfl,hE,ov,(vq1 s6),ho⟩
 rintro _ σ _ v ⟨rfl,rfl,hE,ov,s6,ho⟩
 refine go s6 ?_
 refine zaA (.inr rfl) Tryz.ntmps19 rfl (zal (v:=ov) ((vq1 s6)) (zal (v:=vi 0) (vr0) zaz)) ?_
 exact⟨hE1.trans (hE2.trans hE),ov,rfl,ho.rows.to fun _ _ h=>h.ext hE⟩
def zgQ{α:Type}(X:World→α→Prop)(K:α→Nat→Prop):Prop:=∀{A A':World} {S:Nat→Prop} {x:α},X A x→(∀b,K x b→b<A.heap.size)→Keep S A A'→(∀b,K x b→¬S b)→X A' x
structure GX{α:Type}(X:World→α→Prop)(K:α→Nat→Prop)(k:Nat)(C:List Value→α→Prop)(e:TypeId)(B:Nat)(A:World)(ov:Value)(G:List α):Prop where
 own:Owns k C B A e ov G
 row:∀x∈G,X A x∧(∀b,K x b→B≤b∧b<A.heap.size)∧∀b,K x b→some b≠ov.ownBlock
def gxK{α:Type}(K:α→Nat→Prop)(ov:Value)(G:List α)(b:Nat):Prop:=(∃x∈G,K x b)∨some b=ov.ownBlock
section
variable {α : Type} {X : World → α → Prop} {K : α → Nat → Prop} {k : Nat} {C : List Value → α → Prop} {e : TypeId} {B : Nat} {A A' A1 A2 : World} {ov ov' : Value} {G : List α}
theorem GX.keep(h:GX X K k C e B A ov G)(st:zgQ X K){S:Nat→Prop}(hk:Keep S A A')(hS:∀b,gxK K ov G b→¬S b):GX X K k C e B A' ov G:=
 ⟨h.own.keep hk (fun b hb=>hS b (.inr hb)),fun x hx=>by
  obtain⟨h1,h2,h3⟩:=h.row x hx
  exact⟨st h1 (fun b hb=>(h2 b hb).2) hk (fun b hb=>hS b (.inl ⟨x,hx,hb⟩)),fun b hb=>⟨(h2 b hb).1,Nat.lt_of_lt_of_le (h2 b hb).2 hk.size⟩,h3⟩⟩
theorem GX.in(h:GX X K k C e B A ov G){b:Nat}(hb:gxK K ov G b):B≤b∧b<A.heap.size:=by
 rcases hb with ⟨x,hx,hb⟩|hb
 ·exact(h.row x hx).2.1 b hb
 ·exact h.own.ge hb
theorem GX.ext(h:GX X K k C e B A ov G)(st:zgQ X K)(hE:Ext A A'):GX X K k C e B A' ov G:=h.keep st hE (fun _ _ h=>h)
theorem GX.app{x:α}(h:GX X K k C e B A ov G)(st:zgQ X K)(hE:Ext A A1)(hB:B≤A.heap.size)(hx:X A1 x)(hxb:∀b,K x b→A.heap.size≤b∧b<A1.heap.size)
  (ho:Owns k C B A2 e ov' (G++ [x])) (hk:Keep (fun b=>some b=ov.ownBlock) A1 A2) (hob:∀b,some b=ov'.ownBlock→some b=ov.ownBlock∨A1.heap.size≤b):GX X K k C e B A2 ov' (G++ [x]):=by
 refine⟨ho,fun y hy=>?_⟩
 have h1:=h.ext st hE
 have hy2:X A1 y∧(∀b,K y b→B≤b∧b<A1.heap.size)∧∀b,K y b→some b≠ov.ownBlock:=by
  rcases List.mem_append.1 hy with hy|hy
  ·exact h1.row y hy
  ·rw[List.mem_singleton.1 hy]
   exact⟨hx,fun b hb=>by have:=hxb b hb;omega,fun b hb he=>by have:=hxb b hb;have:=(h.own.ge he).2;omega⟩
 obtain⟨g1,g2,g3⟩:=hy2
 refine⟨st g1 (fun b hb=>(g2 b hb).2) hk g3,fun b hb=>by have:=g2 b hb;have:=hk.size;omega,fun b hb he=>?_⟩
 rcases hob b he with e|e
 ·exact g3 b hb e
 ·have:=(g2 b hb).2;omega
end
abbrev ZX:=zdT×(Value×(Value×List OX))
def zxX(w0:World)(A:World)(x:ZX):Prop:=Row w0 x.2.1 (x.1.o.map vs)∧x.2.2.2.map Prod.fst=x.1.recs∧∃B,OI w0 B A x.2.2.1 x.2.2.2
def zxK(x:ZX)(b:Nat):Prop:=some b=x.2.2.1.ownBlock∨∃y∈x.2.2.2,∃a n c,y.2.1= .slice (some a) n c∧b=a.block
def zxC(cs:List Value)(x:ZX):Prop:=cs=[x.2.1,x.2.2.1]∧one x.2.1=true∧one x.2.2.1=true
theorem zhF:zfq 2 zxC:=⟨fun h=>by rw[h.1];rfl,fun h=>by rw[h.1];exact zaX h.2.1 h.2.2⟩
theorem zcO(w0:World):zgQ (zxX w0) zxK:=by
 intro A A' S x h hK hk hS
 obtain⟨h1,h2,B,h3⟩:=h
 exact⟨h1,h2,B,h3.own.keep hk (fun b hb=>hS b (.inl hb)),fun y hy=>by
  obtain⟨g1,g2⟩:=h3.row y hy
  exact⟨g1.keep hk (fun a n c hv=>hS _ (.inr ⟨y,hy,a,n,c,hv,rfl⟩)),g2⟩⟩
theorem zx_in{w0 A:World}{B:Nat}{x:ZX}(h:OI w0 B A x.2.2.1 x.2.2.2):∀b,zxK x b→B≤b∧b<A.heap.size:=fun b hb=>by
 rcases hb with hb| ⟨y,hy,a,n,c,hv,rfl⟩
 ·exact h.own.ge hb
 ·exact(h.row y hy).1.blk a n c hv
theorem zx_zone{w0 A:World}{x:ZX}(h:zxX w0 A x)(hE:Ext w0 A):ZoneC A [x.2.1,x.2.2.1] x.1:=by
 obtain⟨h1,h2,B,h3⟩:=h
 have:=h3.rows hE
 rw[h2]at this
 exact⟨_,_,rfl,h1.ext hE,this⟩
abbrev HX:=zfm×(Value×(List Value×List ZX))
def hxX(w0:World)(ez:TypeId)(A:World)(x:HX):Prop:=(∃nv a b c d,x.2.2.1=[nv,zae a,zae b,zae c,zae d,x.2.1]∧x.1.addr=[a,b,c,d]∧Row w0 nv (x.1.name.map vs))∧x.2.2.2.map Prod.fst=x.1.zones∧∃B,GX (zxX w0) zxK 2 zxC ez B A x.2.1 x.2.2.2
def hxK(x:HX)(b:Nat):Prop:=gxK zxK x.2.1 x.2.2.2 b
def hxC(cs:List Value)(x:HX):Prop:=cs=x.2.2.1∧cs.length=6∧∀q∈cs,one q=true
theorem zhZ:zfq 6 hxC:=⟨fun h=>h.2.1,fun h=>h.2.2⟩
theorem zdP(w0:World)(ez:TypeId):zgQ (hxX w0 ez) hxK:=by
 intro A A' S x h hK hk hS
 obtain⟨h1,h2,B,h3⟩:=h
 exact⟨h1,h2,B,h3.keep (zcO w0) hk hS⟩
theorem hx_host{w0 A:World}{ez:TypeId}{x:HX}(h:hxX w0 ez A x)(hE:Ext w0 A):HostC A x.2.2.1 x.1:=by
 obtain⟨⟨nv,a,b,c,d,e,ha,hn⟩,h2,B,h3⟩:=h
 have hz:Rows 2 (ZoneC A) A x.2.1 (x.2.2.2.map Prod.fst):=h3.own.rows.mapM (C':=ZoneC A) Prod.fst fun cs y hy hc=>by
  rw[hc.1]
  exact zx_zone (h3.row y hy).1 hE
 rw[h2]at hz
 exact⟨nv,a,b,c,d,_,e,ha,hn.ext hE,hz⟩
theorem zh0{w0 A:World}{ez eh:TypeId}{B:Nat}{ov:Value}{G:List HX}(h:GX (hxX w0 ez) hxK 6 hxC eh B A ov G)(hE:Ext w0 A):Rows 6 (HostC A) A ov (G.map Prod.fst):=
 h.own.rows.mapM (C':=HostC A) Prod.fst fun cs y hy hc=>by
  rw[hc.1]
  exact hx_host (h.row y hy).1 hE
theorem ZOf_ok{w0 w:World}(hE0:Ext w0 w){ov lv:Value}{o:Nm}{R:List RecL}(ho:Row w0 ov (o.map vs))(hl:Rows 7 (RecAt w0) w lv R)(hnn:∀r∈R,r.dat.names.length≤1000000000)(hlen:R.length≤1000000000):
  Fn Tryz.prog 70 #[.agg #[ov,lv]] w (fun v w'=>Ext w w'∧∃lv' G,v= .agg #[ov,lv']∧OI w0 (w.heap.size+2) w' lv' G∧G.map Prod.fst=R):=by
 obtain⟨ao,co,hov,_⟩:=id ho
 obtain⟨al,cl,hlv,_⟩:=hl.open
 refine enter Tryz.func70 Tryz.ntmps70 rfl rfl ?_
 repeat refine c_r ?_
 rw[hov,hlv]
 refine rg0 ?_
 rw[←hov,←hlv]
 repeat refine c_r ?_
 rw[zap]
 refine zbP ?_
 intro w1 hE1 hs1 hA hC
 have p0:zah w1 (some ⟨w.heap.size,0,Option.none⟩)=some ov:=zac hA rfl
 have p1:zah w1 (some ⟨w.heap.size,1,Option.none⟩)=some lv:=zac hA rfl
 repeat refine c_r ?_
 refine zaL (fun i=>i==6) [(0,true),(1,true),(2,true),(3,true),(4,false),(5,true),(6,false)] NoS mixed (by kernel_rfl) ?_;intro gd K x hgd hx hxe hK;clear hxe
 have p0x:=zaa hx p0
 have p1x:=zaa hx p1
 have hxs:=hx.size
 simp (disch:=first|omega|assumption|rfl) only[go_sem,p0x,p1x,Nat.add_zero,Nat.zero_add]
 refine Fn.mono (zgU (hE0.trans (hE1.trans hx)) (hl.ext (hE1.trans hx)) hnn hlen) ?_
 rintro lv' w2 ⟨hE2,G,hOI,hG⟩
 refine⟨.inr hE2,?_⟩
 obtain⟨al',cl',hlv',_⟩:=hOI.own.rows.open
 simp (disch:=first|omega|assumption|rfl) only[go_sem,p0x,p1x,Nat.add_zero,Nat.zero_add]
 refine⟨by kernel_rfl,?_⟩
 rw[hov,hlv',show bdV Tryz.prog 128 [(0,.slice ao (o.map vs).length co),(1,.slice al' G.length cl')]=some (.agg #[.slice ao (o.map vs).length co,.slice al' G.length cl']) from by kernel_rfl,←hov,←hlv']
 simp (disch:=first|omega|assumption|rfl) only[go_sem]
 refine zbQ (P:=Tryz.prog) (t:=128) (l:=[ov,lv']) (Ext.at (hx.trans hE2) hC) rfl (zaX ho.isOne (by rw[hlv'];rfl)) rfl rfl ?_
 intro z hz' hbz hkz
 refine⟨.inl rfl,?_⟩
 simp (disch:=first|omega|assumption|rfl) only[go_sem]
 refine hK _ _ ?_;clear hK hgd;clear K;try clear gd
 repeat refine c_r ?_
 refine zaA (.inr rfl) Tryz.ntmps70 rfl (zcB (x:=⟨w.heap.size+1,0,Option.none⟩) (k:=2) (vq0) rfl rfl (zay hbz rfl) zaz) ?_
 have hEz:Ext w z:=Keep.to_ext (hE1.trans (hx.trans hE2)) rfl (fun b hb=>by omega) hkz
 refine⟨hEz,lv',G,rfl,⟨(hOI.own.keep hkz (fun b hb h=>by have:=(hOI.own.ge hb).1;omega)).mono (by omega),fun y hy=>?_⟩,hG⟩
 obtain⟨g1,g2⟩:=hOI.row y hy
 exact⟨(g1.keep hkz (fun a n c hv h=>by have:=(g1.blk a n c hv).1;omega)).mono (by omega),g2⟩
structure IZ(w0:World)(es ez:TypeId)(b5:Nat)(nv:Value)(a b c d:UInt8)(A0 v:World)(pv:Value)(zs:List ZX):Prop where
 h:v.heap[b5]? =some (.cells #[nv,zae a,zae b,zae c,zae d,pv] es (0,0))
 g:GX (zxX w0) zxK 2 zxC ez (b5+1) v pv zs
 e:Ext A0 v
 lo:A0.heap.size≤b5
theorem IZ.app{w0 A0 v v1 v2 v3:World}{es ez:TypeId}{b5:Nat}{nv pv pv':Value}{a b c d:UInt8}{zs:List ZX}{x:ZX}(h:IZ w0 es ez b5 nv a b c d A0 v pv zs)(hE:Ext v v1)(hB:b5+1≤v.heap.size)(hx:zxX w0 v1 x)(hxb:∀b,zxK x b→v.heap.size≤b∧b<v1.heap.size)
  (ho:Owns 2 zxC (b5+1) v2 ez pv' (zs++ [x])) (hk:Keep (fun b=>some b=pv.ownBlock) v1 v2) (hob:∀b,some b=pv'.ownBlock→some b=pv.ownBlock∨v1.heap.size≤b) (h3:v3.heap[b5]? =some (.cells #[nv,zae a,zae b,zae c,zae d,pv'] es (0,0))) (hk3:Keep (fun b=>b=b5) v2 v3):
  IZ w0 es ez b5 nv a b c d A0 v3 pv' (zs++ [x]):=by
 have lo:=h.lo
 have e2:Ext A0 v2:=Keep.to_ext (h.e.trans hE) rfl (fun b hb=>by have:=(h.g.own.ge hb).1;omega) hk
 have g2:=h.g.app (zcO w0) hE hB hx hxb ho hk hob
 exact⟨h3,g2.keep (zcO w0) hk3 (fun b hb hb2=>by have:=(g2.in hb).1;omega),Keep.to_ext e2 rfl (fun b hb=>by omega) hk3,lo⟩
theorem Of16_ok(w:World){cs:List Value}{c:NetL}(hc:NetAt w cs c)(hf:NetZ c):
  Fn Tryz.prog 21 #[.agg cs.toArray] w (fun v w'=>Ext w w'∧∃cs',v= .agg cs'.toArray∧NetAt w' cs' c):=by
 obtain⟨sv,rv,rfl,hs,hr⟩:=hc.ex
 obtain⟨aS,cS,rfl,hat⟩:=zj1 hs
 have hr0:=hr
 have r1:=hr.isOne
 obtain⟨ar,cr,hrv,_,hgr⟩:=hr
 have hsl:=hf.hl
 refine enter Tryz.func21 Tryz.ntmps21 rfl rfl ?_
 repeat refine c_r ?_
 rw[hrv]
 refine rg0 ?_
 rw[←hrv]
 repeat refine c_r ?_
 rw[zap]
 refine zbP ?_
 intro w1 hE1 hs1 hA hC
 have p0:zah w1 (some ⟨w.heap.size,0,Option.none⟩)=some (.slice aS c.hosts.length cS):=zac hA rfl
 have p1:zah w1 (some ⟨w.heap.size,1,Option.none⟩)=some rv:=zac hA rfl
 have p2:zah w1 (some ⟨w.heap.size,2,Option.none⟩)=some (vi c.rw):=zac hA rfl
 have p3:zah w1 (some ⟨w.heap.size,3,Option.none⟩)=some (vi c.rf):=zac hA rfl
 repeat refine c_r ?_
 refine rq ?_;intro gd K hgd hK
 try simp (disch:=first|omega|assumption|rfl) only[go_sem,p1,p2,p3,Nat.zero_add]
 refine⟨by kernel_rfl,?_⟩
 rw[hrv,show bdV Tryz.prog 40 [(1,.slice ar (c.roots.map vi).length cr),(2,vi c.rw),(3,vi c.rf)]=some (.agg #[.slice Option.none 0 0,.slice ar (c.roots.map vi).length cr,vi c.rw,vi c.rf]) from by kernel_rfl,←hrv]
 try simp only[go_sem]
 refine za3 (P:=Tryz.prog) (l:=[.slice Option.none 0 0,rv,vi c.rw,vi c.rf]) rfl (fun v hv=>by simp at hv;rcases hv with rfl|rfl|rfl|rfl<;>first|exact r1|rfl) rfl rfl ?_
 intro w2 hE2 hs2 hD
 try simp only[go_sem]
 refine hK _ _ ?_;clear hK hgd;clear K;try clear gd
 obtain⟨c3,hc3⟩:∃b,w1.heap.size=b:=⟨_,rfl⟩
 rw[hc3]at hD hs2 ⊢
 have hE12:=hE1.trans hE2
 have p0w:=zaa hE2 p0
 repeat refine c_r ?_
 refine rg0 ?_
 repeat refine c_r ?_
 refine zai (fun m σ ds A=>ds=[]∧∃(i:Nat) (ov:Value) (G:List HX),i+m=c.hosts.length∧σ 4=vi i∧σ 1= .pointer (some ⟨w.heap.size,0,Option.none⟩)∧σ 2= .pointer (some ⟨w.heap.size+1,0,Option.none⟩)∧σ 3= .pointer (some ⟨c3,0,Option.none⟩)∧Ext w1 A∧c3+1≤A.heap.size∧
  A.heap[c3]? =some (.cells #[ov,rv,vi c.rw,vi c.rf] 40 (0,0))∧GX (hxX w 128) hxK 6 hxC 143 (c3+1) A ov G∧G.map Prod.fst=c.hosts.take i) c.hosts.length ?_ ?_
 ·exact⟨rfl,0,.slice Option.none 0 0,[],by omega,vr0,vq0,vq0,vq0,hE2,by omega,hD,⟨Owns.nil _ _ _ _ _,fun x h=>by cases h⟩,rfl⟩
 rintro m σ ds A ⟨rfl,i,ov,G,him,s4,s1,s2,s3,hEA,hAs,hB3,hGS,hGf⟩
 have p0A:=zaa hEA p0
 repeat refine c_r ?_
 refine rg4 s4 s1 p0A Nat.add_zero ?_
 repeat refine c_r ?_
 refine wc0 ?_ ?_
 ·intro hlt
  simp only[decide_eq_true_eq]at hlt
  have hi:i<c.hosts.length:=by omega
  have hi0:(0:Int)≤(i:Int):=by omega
  have hi1':(i:Int)+1=((i+1:Nat):Int):=by push_cast;rfl
  obtain⟨xa,xi,x5,nv,ap,cp,rfl,hxi,hx5,g0,hn,g5,⟨b1,b2,b3,b4,hadr,hcs⟩,hpl⟩:=hat i hi
  obtain⟨s,hse⟩:∃s,c.hosts[i]=s:=⟨_,rfl⟩
  have fs2:=hf.zl s (hse▸List.getElem_mem hi)
  have fs3:=hf.z s (hse▸List.getElem_mem hi)
  rw[hse]at hn g5 hadr hcs
  simp only[hse]at hpl
  have n1:=hn.isOne
  have hz0:adr (some xi) 0=some xi:=zar _
  obtain⟨y1,hy1⟩:∃y,adr (some xi) 1=some y:=⟨_,rfl⟩
  have gby:zaw w (some y1) 4=some [zae b1,zae b2,zae b3,zae b4]:=by
   have h5:=zaW (m:=1) (k:=5) hcs
   rw[hy1]at h5
   exact zcq (m:=4) (k:=1) h5
  obtain⟨an,cn,hnv,_⟩:=id hn
  repeat refine c_r ?_
  refine zaL (fun i=>i==14) [(0,true),(1,true),(2,true),(3,true),(4,true),(5,true),(6,true),(7,true),(8,true),(9,true),(10,true),(11,true),(12,true),(13,false),(14,false)] NoS mixed (by kernel_rfl) ?_;intro gd K x hgd hx hxe hK;clear hxe
  have hwx:=hE1.trans (hEA.trans hx)
  have p0x:=zaa hx p0A
  have g0x:=zaa hwx g0
  have gbx:=zaf hwx gby
  simp (disch:=first|omega|assumption|rfl) only[go_sem,s4,s1,p0x,Nat.add_zero,hi0,hlt,hxi,hz0,hy1,g0x,gbx]
  refine⟨by kernel_rfl,?_⟩
  rw[hnv,show bdV Tryz.prog 143 [(0,.slice an (s.name.map vs).length cn),(1,.agg #[zae b1,zae b2,zae b3,zae b4])]=some (.agg #[.slice an (s.name.map vs).length cn,zae b1,zae b2,zae b3,zae b4,.slice Option.none 0 0]) from by kernel_rfl,←hnv]
  simp (disch:=first|omega|assumption|rfl) only[go_sem]
  refine⟨.inr (Ext.alloc x _),?_⟩
  refine za3 (P:=Tryz.prog) (l:=[nv,zae b1,zae b2,zae b3,zae b4,.slice Option.none 0 0]) rfl (fun v hv=>by simp at hv;rcases hv with rfl|rfl|rfl|rfl|rfl|rfl<;>first|exact n1|rfl) rfl rfl ?_
  intro A1 hE3 hs3 hB5
  refine⟨.inl rfl,?_⟩
  simp (disch:=first|omega|assumption|rfl) only[go_sem]
  refine hK _ _ ?_;clear hK hgd;clear K;try clear gd
  have hx3:=hx.trans hE3
  obtain⟨b5,hb5⟩:∃b,x.heap.size=b:=⟨_,rfl⟩
  have hsx:=hx.size
  rw[hb5]at hB5 hs3 hsx ⊢
  have hIP:IZ w 143 128 b5 nv b1 b2 b3 b4 A A1 (.slice Option.none 0 0) []:=⟨hB5,⟨Owns.nil _ _ _ _ _,fun x h=>by cases h⟩,hx3,hsx⟩
  clear p0x g0x gbx hx hx3 hwx hE3 hB5
  repeat refine c_r ?_
  refine rg0 ?_
  repeat refine c_r ?_
  refine zai (fun m σ ds v=>ds=[]∧∃(k:Nat) (pv:Value) (zs:List ZX),k+m=s.zones.length∧σ 6=vi k∧σ 4=vi i∧σ 1= .pointer (some ⟨w.heap.size,0,Option.none⟩)∧σ 2= .pointer (some ⟨w.heap.size+1,0,Option.none⟩)∧σ 3= .pointer (some ⟨c3,0,Option.none⟩)∧σ 5= .pointer (some ⟨b5,0,Option.none⟩)∧
   IZ w 143 128 b5 nv b1 b2 b3 b4 A v pv zs∧zs.map Prod.fst=s.zones.take k∧b5+1≤v.heap.size) s.zones.length ?_ ?_
  ·exact⟨rfl,0,_,[],by omega,vr0,(vq1 s4),(vq1 s1),(vq1 s2),(vq1 s3),vq0,hIP,rfl,by omega⟩
  clear s4 s1 s2 s3 hIP
  rintro m2 σ2 ds2 v ⟨rfl,k,pv,zs,hkm,s6,s4,s1,s2,s3,s5,hIP,hzf,hvs⟩
  have hEv:=hEA.trans hIP.e
  have hwv:=hE1.trans hEv
  have p0v:=zaa hEv p0
  have g5v:=zaa hwv g5
  repeat refine c_r ?_
  refine rg9 s6 s4 s1 (an3 p0v Nat.add_zero g5v) hi0 hlt hxi hx5 trivial ?_
  repeat refine c_r ?_
  refine wc0 ?_ ?_
  ·intro hlt2
   simp only[decide_eq_true_eq]at hlt2
   have hk:k<s.zones.length:=by omega
   have hk0:(0:Int)≤(k:Int):=by omega
   have hk1':(k:Int)+1=((k+1:Nat):Int):=by push_cast;rfl
   obtain⟨xp,xk,ow,lv,rfl,hxk,dz,ho,hl⟩:=hpl k hk
   obtain⟨z,hze⟩:∃z,s.zones[k]=z:=⟨_,rfl⟩
   have hgz:=fs3 _ (List.getElem_mem hk)
   rw[hze]at ho hl hgz
   have q5:zah v (some ⟨b5,5,Option.none⟩)=some pv:=zac hIP.h rfl
   have lo:=hIP.lo
   have hgzl:=hgz.gd.len
   repeat refine c_r ?_
   refine zaL (fun i=>i==15) [(0,true),(1,true),(2,true),(3,true),(4,true),(5,true),(6,true),(7,true),(8,true),(9,true),(10,true),(11,false),(12,false),(13,false),(14,true),(15,false)] (zc5 (b5+1)) mixed (by kernel_rfl) ?_;intro gd K x hgd hx hxe hK;have hx0:=drewX hxe;clear hxe
   have hwx:=hwv.trans hx0
   have p0x:=zaa hx0 p0v
   have g5x:=zaa hwx g5
   have dzx:=zaf hwx dz
   have q5x:=zaa hx0 q5
   simp (disch:=first|omega|assumption|rfl) only[go_sem,s6,s4,s1,s5,p0x,Nat.add_zero,Nat.zero_add,hi0,hlt,hk0,hlt2,hxi,hx5,hxk,g5x,dzx,q5x]
   have l5:x5.block<b5+1:=by have:=zcj (show w.cell? x5=some _ from g5);have:=hE1.size;have:=hEA.size;omega
   have lk:xk.block<b5+1:=by
    have h0:=zaq (j:=0) dz rfl
    rw[zar]at h0
    have:=zcj (show w.cell? xk=some _ from h0);have:=hE1.size;have:=hEA.size;omega
   have lw:w.heap.size<b5+1:=by have:=hE1.size;have:=hEA.size;omega
   refine⟨zed (by omega),zed lw,zeS l5,zeS lk,?_⟩
   refine Fn.mono (ZOf_ok hwx ho (hl.ext hwx) (fun r hr=>(hgz.gd.few r hr).2.nn) (by omega)) ?_
   rintro _ v0 ⟨hE0,lv',G',rfl,hOI,hG'⟩
   refine⟨.inr hE0.keep,?_⟩
   obtain⟨al',cl',hlv',_⟩:=hOI.own.rows.open
   simp (disch:=first|omega|assumption|rfl) only[go_sem]
   refine zbC zhF (l:=[ow,lv']) (a:=((z,(ow,(lv',G'))):ZX)) (by rfl) (by rfl) (by rfl) (by rfl) ⟨rfl,ho.isOne,by rw[hlv'];rfl⟩ (by decide) ?_
   intro v1 hE4 hs4' ho4
   refine⟨.inr hE4.keep,?_⟩
   simp (disch:=first|omega|assumption|rfl) only[go_sem]
   have hx04:=(hx0.trans hE0).trans hE4
   have hsz4:=hx04.size
   have hs0:=hx0.size
   have hzl:zs.length=k:=by
    have:=congrArg List.length hzf
    simp at this;omega
   refine zaQ zhF (hIP.g.ext (zcO w) hx04).own ho4.rows (by rfl) (by rfl) (by rfl) (by rfl) (by rfl) (by rfl) (by decide) (vr0) (vr0) (by simp;omega) (by decide) (by omega) ?_
   intro pv' v2 ho5 hE5 hk5 hb5'
   refine⟨.inr (hk5.mono fun b _ hb=>(hIP.g.own.ge hb).1),?_⟩
   obtain⟨ap',cp',hpv',_⟩:=ho5.rows.open
   simp (disch:=first|omega|assumption|rfl) only[go_sem,s5,Nat.zero_add]
   refine zfo (P:=Tryz.prog) (t:=141) (j:=5) (u:=pv') (l:=[nv,zae b1,zae b2,zae b3,zae b4,pv]) ((hk5.block _ (by omega) (fun hb=>by have:=(hIP.g.own.ge hb).1;omega)).trans (Ext.at hx04 hIP.h)) (by simp) (by rw[hpv'];rfl) rfl rfl ?_
   intro v3 hs3' hB3' hk3'
   refine⟨.inl rfl,?_⟩
   simp (disch:=first|omega|assumption|rfl) only[go_sem]
   refine hK _ _ ?_;clear hK hgd;clear K;try clear gd
   have hIPn:=hIP.app hx04 (by omega) (x:=((z,(ow,(lv',G'))):ZX)) ⟨ho,hG',_,hOI.ext hE4⟩ (fun b hb=>by have:=zx_in (x:=((z,(ow,(lv',G'))):ZX)) (hOI.ext hE4) b hb;omega) ho5 hk5 hb5' hB3' hk3'
   have hs5:=hk5.size
   repeat refine c_r ?_
   refine rg2 s6 hk1' ?_
   repeat refine c_r ?_
   exact⟨m2 - 1,by omega,rfl,k+1,pv',_,by omega,vq0,(vq1 s4),(vq1 s1),(vq1 s2),(vq1 s3),(vq1 s5),hIPn,by rw[zak hk,List.map_append,hzf,hze];rfl,by omega⟩
  ·intro hge2
   simp only[decide_eq_false_iff_not]at hge2
   have hfull:s.zones.take k=s.zones:=List.take_of_length_le (by omega)
   rw[hfull]at hzf
   obtain⟨ap',cp',hpv',_⟩:=hIP.g.own.rows.open
   have lo:=hIP.lo
   have dB:zaw v (some ⟨b5,0,Option.none⟩) 6=some [nv,zae b1,zae b2,zae b3,zae b4,pv]:=zay hIP.h rfl
   have q3:zah v (some ⟨c3,0,Option.none⟩)=some ov:=zac (Ext.at hIP.e hB3) rfl
   have ones6:∀q∈ [nv,zae b1,zae b2,zae b3,zae b4,pv],one q=true:=fun q hq=>by
    simp at hq
    rcases hq with rfl|rfl|rfl|rfl|rfl|rfl<;>first|exact n1|rfl| (rw[hpv'];rfl)
   have hGl:G.length=i:=by
    have:=congrArg List.length hGf
    simp at this;omega
   repeat refine c_r ?_
   refine rq ?_;intro gd K hgd hK
   try simp (disch:=first|omega|assumption|rfl) only[go_sem,s3,s5,q3,dB,Nat.add_zero]
   refine zbC (C:=hxC) zhZ (l:=[nv,zae b1,zae b2,zae b3,zae b4,pv]) (a:=((s,(pv,([nv,zae b1,zae b2,zae b3,zae b4,pv],zs))):HX)) (by rfl) (by rfl) (by rfl) (by rfl) ⟨rfl,rfl,ones6⟩ (by decide) ?_
   intro v1 hE4 hs4' ho4
   try simp only[go_sem]
   have hAv1:=hIP.e.trans hE4
   have hsA1:=hAv1.size
   refine zaQ zhZ ((hGS.ext (zdP w _) hAv1).own) ho4.rows (by rfl) (by rfl) (by rfl) (by rfl) (by rfl) (by rfl) (by decide) (vr0) (vr0) (by simp;omega) (by decide) (by omega) ?_
   intro ov' v2 ho5 hE5 hk5 hb5'
   obtain⟨ao',co',hov',_⟩:=ho5.rows.open
   try simp (disch:=first|omega|assumption|rfl) only[go_sem,s3,Nat.add_zero]
   refine zfo (P:=Tryz.prog) (t:=38) (j:=0) (u:=ov') (l:=[ov,rv,vi c.rw,vi c.rf]) ((hk5.block _ (by omega) (fun hb=>by have:=(hGS.own.ge hb).1;omega)).trans (Ext.at hAv1 hB3)) (by simp) (by rw[hov'];rfl) rfl rfl ?_
   intro v3 hs3' hB3' hk3'
   try simp only[go_sem]
   refine hK _ _ ?_;clear hK hgd;clear K;try clear gd
   have hg4:=hIP.g.ext (zcO w) hE4
   have hGS2:=hGS.app (zdP w _) hAv1 hAs (x:=((s,(pv,([nv,zae b1,zae b2,zae b3,zae b4,pv],zs))):HX)) ⟨⟨nv,b1,b2,b3,b4,rfl,hadr,hn⟩,hzf,_,hg4⟩ (fun b hb=>by have:=hg4.in hb;omega) ho5 hk5 hb5'
   have hGS3:=hGS2.keep (zdP w _) hk3' (fun b h1 h2=>by have:=(hGS2.in h1).1;omega)
   have hs5:=hk5.size
   repeat refine c_r ?_
   refine rg2 s4 hi1' ?_
   repeat refine c_r ?_
   refine⟨m - 1,by omega,rfl,i+1,ov',_,by omega,vq0,(vq1 s1),(vq1 s2),(vq1 s3),Keep.to_ext (hE5 w1 (hEA.trans hAv1) (by omega)) rfl (fun b hb=>by omega) hk3',by omega,hB3',hGS3,?_⟩
   rw[zak hi,List.map_append,hGf,hse];rfl
 ·intro hge
  simp only[decide_eq_false_iff_not]at hge
  rw[List.take_of_length_le (by omega)]at hGf
  have hEw:=hE1.trans hEA
  have hrows:=zh0 hGS hEw
  rw[hGf]at hrows
  have o1:=hrows.isOne
  have dx:=zay (n:=4) (l:=[ov,rv,vi c.rw,vi c.rf]) hB3 rfl
  repeat refine c_r ?_
  refine rq ?_;intro gd K hgd hK
  try simp (disch:=first|omega|assumption|rfl) only[go_sem,s3,s2,dx]
  refine zbQ (P:=Tryz.prog) (t:=40) (l:=[ov,rv,vi c.rw,vi c.rf]) (Ext.at hEA hC) rfl (fun v hv=>by simp at hv;rcases hv with rfl|rfl|rfl|rfl<;>first|exact r1|exact o1|rfl) rfl rfl ?_
  intro z hsz hBz hkz
  try simp only[go_sem]
  refine hK _ _ ?_;clear hK hgd;clear K;try clear gd
  repeat refine c_r ?_
  refine zaA (.inr rfl) Tryz.ntmps21 rfl (zcB (x:=⟨w.heap.size+1,0,Option.none⟩) (k:=4) ((vq1 s2)) rfl rfl (zay hBz rfl) zaz) ?_
  have hEz:Ext w z:=Keep.to_ext hEw rfl (fun b hb=>by omega) hkz
  have hGz:=zh0 (hGS.keep (zdP w _) hkz (fun b h1 h2=>by have:=(hGS.in h1).1;omega)) hEz
  rw[hGf]at hGz
  exact⟨hEz,_,rfl,ov,rv,rfl,hGz,hr0.ext hEz⟩
theorem light_ok{w0 w:World}(hE0:Ext w0 w){cs:List Value}{N:NetL}(hN:NetAt w0 cs N)(hG:zbb N):
  Fn Tryz.prog 18 #[.agg cs.toArray] w (fun v w'=>v= .bool (decide ((canN (zaV N)).length≤300))∧Ext w w'):=by
 have hN0:=hN
 obtain⟨hv,rv,rfl,hh,hr⟩:=hN.ex
 obtain⟨ah,ch,hhv,_⟩:=hh.open
 obtain⟨ar0,cr0,hrv,_⟩:=id hr
 refine enter Tryz.func18 Tryz.ntmps18 rfl rfl ?_
 repeat refine c_r ?_
 rw[hhv,hrv]
 refine go trivial ?_
 rw[←hhv,←hrv]
 refine zaM ?_
 intro w1 hE1 hs1 hA
 have dA:=zay (n:=4) (l:=[hv,rv,vi N.rw,vi N.rf]) hA rfl
 refine rc dA (Of16_ok w1 (hN0.ext (hE0.trans hE1)) hG.z) ?_
 rintro _ w2 ⟨hE2,cs',rfl,hX⟩
 refine rd trivial (zkB (most:=300) (Keep.refl _ _) hX hG (by decide)) ?_
 rintro _ w3 ⟨hE3,(⟨h1,rfl⟩| ⟨h1,lv,rfl,_⟩)⟩
 ·refine rgo trivial ?_
  refine rt0 Tryz.ntmps18 ?_
  refine⟨?_,hE1.trans (hE2.trans hE3)⟩
  rw[decide_eq_false (show¬(canN (zaV N)).length≤300 by omega)];rfl
 ·refine rgo trivial ?_
  refine rt0 Tryz.ntmps18 ?_
  refine⟨?_,hE1.trans (hE2.trans hE3)⟩
  rw[decide_eq_true (show(canN (zaV N)).length≤300 by omega)]
theorem base2_ok(w:World){lv:Value}{L:List Nm}(hl:NamesAt w lv L)(hlen:L.length≤1000000000):
  Fn Tryz.prog 30 #[lv] w (fun v w'=>Ext w w'∧NamesAt w' v L):=by
 obtain⟨vals,⟨a,c,rfl,hc,hg⟩,hvl,hvr⟩:=hl
 rw[hvl]
 refine enter Tryz.func30 Tryz.ntmps30 rfl rfl ?_
 refine go trivial ?_
 refine zax (Q:=fun e σ' ds' v=>e= .exit 0∧ds'=[]∧Ext w v∧∃ov,σ' 3=ov∧Own w.heap.size v 26 ov vals) ?_ ?_
 ·refine zgP L.length (fun i σ v=>(σ 4=vi i∧σ 0= .slice a L.length c)∧Ext w v∧∃ov,σ 3=ov∧Own w.heap.size v 26 ov (vals.take i)) ?_ ?_ ?_
  ·exact⟨⟨vr0,vq0⟩,Keep.refl _ _,_,vr0,Own.nil _ _ _⟩
  ·rintro i σ v hi p ⟨s,hE,ov,s3,ho⟩
   have hi':i<vals.length:=by omega
   have g:=zaa hE (hg i hi')
   obtain⟨xa,rfl⟩:=Option.isSome_iff_exists.1 (zad g)
   have h1:=(hvr i hi' hi).isOne
   have hcz:vals[i].cells=#[vals[i]]:=by cases hh:vals[i]<;>rw[hh]at h1<;>first|rfl|cases h1
   refine go (an2 s p) ?_
   refine rq ?_;intro gd K hgd hK
   try simp (disch:=first|omega|assumption|rfl) only[go_sem,s,p,s3,g]
   refine zdS (z:= .slice Option.none 0 0) rfl rfl rfl rfl hcz ?_
   intro v1 hE1 hs1 ho1
   try simp (disch:=first|omega|assumption|rfl) only[go_sem,s3]
   refine zbU (ho.ext hE1) ho1.row rfl rfl rfl rfl rfl rfl ((vq1 s3)) (vr0) (fun q hq=>by rw[List.mem_singleton.1 hq];exact h1) (by rw[List.length_take];simp;omega) (by decide) (hE.trans hE1).size ?_
   intro u v2 ho2 hE2 _ _
   try simp only[go_sem]
   refine hK _ _ ?_;clear hK hgd;clear K;try clear gd
   refine go (an2 s p) ?_
   exact⟨rfl,sc (an2 s p),hE2 _ (hE.trans hE1) (Nat.le_refl _),u,vq0,by rw[zak hi'];exact ho2⟩
  ·rintro σ v p ⟨s,hE,ov,s3,ho⟩
   rw[←hvl,List.take_length]at ho
   refine go (an2 s p) ?_
   exact⟨rfl,rfl,hE,ov,(vq1 s3),ho⟩
 rintro _ σ _ v ⟨rfl,rfl,hE,ov,s3,ho⟩
 refine go s3 ?_
 refine rt0 Tryz.ntmps30 ?_
 exact⟨hE,vals,ho.row,hvl,fun i h h'=>(hvr i h h').ext hE⟩
def kQ:Nm:=[[113],[122],[111]]
def kXO:Nm:=[[88],[111]]
theorem zjd:clsN (canN (zaV smallN))=clsN [[],[[97]],[[111]],kH,kX]:=by rw[zeH]
theorem zjc:ofF true (clsN [[],[[97]],[[111]],kH,kX]) kXO=(⟨kX,false⟩,true):=by kernel_rfl
theorem zjb:ofF true (clsN [[],[[97]],[[111]],kH,kX]) kQ=(⟨[[111]],true⟩,true):=by kernel_rfl
theorem zja:repC (clsN [[],[[97]],[[111]],kH,kX]) ⟨[[111]],true⟩=some [[48],[111]]:=by kernel_rfl
theorem zg3:zbc [[48],[49]]=[50]:=by kernel_rfl
theorem small_k:∀c∈clsN [[],[[97]],[[111]],kH,kX],NmK c.name∧zag c.name=c.name:=by
 intro c hc
 have h:=zcE.1 hc
 simp only[List.mem_cons,List.not_mem_nil,or_false]at h
 have hk:∀n∈ [[],[[97]],[[111]],kH,kX],(n.all fun l=>decide (l.length≤100))=true∧n.length≤255∧zag n=n:=by decide
 obtain⟨h1,h2,h3⟩:=hk c.name (by simpa using h)
 exact⟨⟨fun l hl=>by have:=List.all_eq_true.1 h1 l hl;simpa using this,h2⟩,h3⟩
theorem zi1(w:World):Fn Tryz.prog 15 #[] w (fun v w'=>v= .bool true∧Ext w w'):=by
 have hG:=zir
 obtain⟨C,hC⟩:∃C,clsN [[],[[97]],[[111]],kH,kX]=C:=⟨_,rfl⟩
 have hCl:C.length=10:=by rw[←hC];rfl
 have hsk:=small_k
 have h1:=zjc
 have h2:=zjb
 have h3:=zja
 rw[hC]at hsk h1 h2 h3
 have mm:∀n∈ [kQ,kXO,[[111]],[[48],[111]]],NmK n:=by
  intro n hn
  have hk:∀n∈ [kQ,kXO,[[111]],[[48],[111]]],(n.all fun l=>decide (l.length≤100))=true∧n.length≤255:=by decide
  obtain⟨h1,h2⟩:=hk n hn
  exact⟨fun l hl=>by have:=List.all_eq_true.1 h1 l hl;simpa using this,h2⟩
 refine enter Tryz.func15 Tryz.ntmps15 rfl rfl ?_
 refine go trivial ?_
 refine rq ?_;intro gd K hgd hK
 try simp only[go_sem]
 refine Fn.mono (Small_ok w) ?_
 rintro _ w1 ⟨hE1,cs,rfl,hN⟩
 obtain⟨hv,rv,rfl,hh,hr⟩:=id hN.ex
 have hh1:=hh.isOne
 have hr1:=hr.isOne
 try simp only[go_sem]
 refine za3 (P:=Tryz.prog) (l:=[hv,rv,vi smallN.rw,vi smallN.rf]) rfl (fun v h=>by simp at h;rcases h with rfl|rfl|rfl|rfl<;>first|assumption|rfl) rfl rfl ?_
 intro w2 hE2 hs2 hB
 try simp only[go_sem]
 refine hK _ _ ?_;clear hK hgd;clear K;try clear gd
 have dN:zaw w2 (some ⟨w1.heap.size,0,Option.none⟩) 4=some [hv,rv,vi smallN.rw,vi smallN.rf]:=zay hB rfl
 refine go trivial ?_
 refine rc dN (All_ok hE2 hN hG (by rw[zeH];decide)) ?_
 rintro _ w3 ⟨hE3,lv,rfl,hl⟩
 rw[zjd,hC]at hl
 refine rgo trivial ?_
 obtain⟨al,cl,hlv,_⟩:=hl.open
 rw[hCl]at hlv
 refine rq ?_;intro gd K hgd hK
 try simp only[go_sem]
 refine zko (z:=vs []) rfl rfl rfl rfl rfl rfl ?_
 intro w4 hE4 hs4 ho4
 try simp only[go_sem]
 refine Fn.mono (zkN w4 (Tr.cls.tr hE4 hl) (q:=kXO) ho4.row (fun c hc=>(hsk c hc).1) (mm _ (by simp)).m (by omega)) ?_
 rintro _ w5 ⟨hE5,av,rfl,hav⟩
 rw[h1]at hav ⊢
 try simp only[go_sem]
 refine za3 (P:=Tryz.prog) (l:=[av,.bool false]) rfl (zaX hav.isOne rfl) rfl rfl ?_
 intro w6 hE6 hs6 hA
 try simp only[go_sem]
 refine hK _ _ ?_;clear hK hgd;clear K;try clear gd
 obtain⟨ba,hba⟩:∃b,w5.heap.size=b:=⟨_,rfl⟩
 rw[hba]at hA ⊢
 have hl6:Rows 2 (ClsAt w6) w6 lv C:=Tr.cls.tr (hE4.trans (hE5.trans hE6)) hl
 refine go trivial ?_
 refine rq ?_;intro gd K hgd hK
 try simp only[go_sem]
 refine zbT (l:=[vs [113],vs [122],vs [111]]) (z:=vs []) rfl rfl rfl rfl rfl rfl (by intro v hv;simp at hv;rcases hv with rfl|rfl|rfl<;>rfl) (by decide) ?_
 intro w7 hE7 hs7 ho7
 try simp only[go_sem]
 refine Fn.mono (zkN w7 (Tr.cls.tr hE7 hl6) (q:=kQ) ho7.row (fun c hc=>(hsk c hc).1) (mm _ (by simp)).m (by omega)) ?_
 rintro _ w8 ⟨hE8,bv,rfl,hbv⟩
 rw[h2]at hbv ⊢
 try simp only[go_sem]
 refine za3 (P:=Tryz.prog) (l:=[bv,.bool true]) rfl (zaX hbv.isOne rfl) rfl rfl ?_
 intro w9 hE9 hs9 hBb
 try simp only[go_sem]
 refine hK _ _ ?_;clear hK hgd;clear K;try clear gd
 obtain⟨bb,hbb⟩:∃b,w8.heap.size=b:=⟨_,rfl⟩
 rw[hbb]at hBb ⊢
 have hl9:Rows 2 (ClsAt w9) w9 lv C:=Tr.cls.tr (hE7.trans (hE8.trans hE9)) hl6
 have dB:zaw w9 (some ⟨bb,0,Option.none⟩) 2=some [bv,.bool true]:=zay (l:=[bv,.bool true]) hBb rfl
 have hA9:=Ext.at (hE7.trans (hE8.trans hE9)) hA
 refine go trivial ?_
 refine rc dB (zkM w9 (c:=⟨[[111]],true⟩) hl9 (hbv.ext hE9) hsk (mm _ (by simp)) (by omega)) ?_
 rintro _ w10 ⟨hE10,rv',rfl,hrv⟩
 rw[h3]at hrv ⊢
 refine rgo trivial ?_
 obtain⟨ar,cr,hre',_,hgr⟩:=id hrv
 have hre:rv'= .slice ar 2 cr:=hre'
 have g0:zah w10 ar=some (vs [48]):=by have:=hgr 0 (by decide);rwa [zar]at this
 obtain⟨xr,rfl⟩:=Option.isSome_iff_exists.1 (show ar.isSome=true by cases ar with|none=>cases g0|some a=>rfl)
 obtain⟨aa,ca,hae',_⟩:=id hav
 have hae:av= .slice aa 2 ca:=hae'
 obtain⟨ab,cb,hbe',_⟩:=id hbv
 have hbe:bv= .slice ab 1 cb:=hbe'
 have f1:zah w10 (some ⟨ba,1,Option.none⟩)=some (.bool false):=zac (i:=1) (Ext.at hE10 hA9) rfl
 have f0:zah w10 (some ⟨ba,0,Option.none⟩)=some av:=zac (i:=0) (Ext.at hE10 hA9) rfl
 have e1:zah w10 (some ⟨bb,1,Option.none⟩)=some (.bool true):=zac (i:=1) (Ext.at hE10 hBb) rfl
 have e0:zah w10 (some ⟨bb,0,Option.none⟩)=some bv:=zac (i:=0) (Ext.at hE10 hBb) rfl
 rw[hae]at f0
 rw[hbe]at e0
 have hd0:Value.string ⟨#[48]⟩=vs [48]:=rfl
 have hd2:Value.string ⟨#[50]⟩=vs [50]:=rfl
 have q1:decide ((0:Int)=0)=true:=rfl
 have q2:decide (((10:Nat):Int)=10)=true:=rfl
 have q3:decide (((2:Nat):Int)=2)=true:=rfl
 have q4:decide (((1:Nat):Int)=1)=true:=rfl
 have q6:(0:Int)<((2:Nat):Int):=by decide
 have q7:(0:Int)≤0:=by decide
 refine rq ?_;intro gd K hgd hK
 have hg2:∀n σ b,zas gd n σ (some (2,b))=zaj (ev n σ (.tmp 36)) b:=(fun n σ b=>by rw[zab,show gd 2=some 36 from(by rw[hgd];rfl)];rfl);have hg7:∀n σ b,zas gd n σ (some (7,b))=zaj (ev n σ (.tmp 41)) b:=(fun n σ b=>by rw[zab,show gd 7=some 41 from(by rw[hgd];rfl)];rfl);have hg10:∀n σ b,zas gd n σ (some (10,b))=zaj (ev n σ (.tmp 44)) b:=(fun n σ b=>by rw[zab,show gd 10=some 44 from(by rw[hgd];rfl)];rfl);have hg15:∀n σ b,zas gd n σ (some (15,b))=zaj (ev n σ (.tmp 49)) b:=(fun n σ b=>by rw[zab,show gd 15=some 49 from(by rw[hgd];rfl)];rfl);have hg21:∀n σ b,zas gd n σ (some (21,b))=zaj (ev n σ (.tmp 55)) b:=(fun n σ b=>by rw[zab,show gd 21=some 55 from(by rw[hgd];rfl)];rfl);have hg24:∀n σ b,zas gd n σ (some (24,b))=zaj (ev n σ (.tmp 58)) b:=(fun n σ b=>by rw[zab,show gd 24=some 58 from(by rw[hgd];rfl)];rfl);have hg28:∀n σ b,zas gd n σ (some (28,b))=zaj (ev n σ (.tmp 62)) b:=(fun n σ b=>by rw[zab,show gd 28=some 62 from(by rw[hgd];rfl)];rfl);have hg34:∀n σ b,zas gd n σ (some (34,b))=zaj (ev n σ (.tmp 68)) b:=(fun n σ b=>by rw[zab,show gd 34=some 68 from(by rw[hgd];rfl)];rfl);have hg37:∀n σ b,zas gd n σ (some (37,b))=zaj (ev n σ (.tmp 71)) b:=(fun n σ b=>by rw[zab,show gd 37=some 71 from(by rw[hgd];rfl)];rfl);have hg42:∀n σ b,zas gd n σ (some (42,b))=zaj (ev n σ (.tmp 76)) b:=(fun n σ b=>by rw[zab,show gd 42=some 76 from(by rw[hgd];rfl)];rfl);have hg48:∀n σ b,zas gd n σ (some (48,b))=zaj (ev n σ (.tmp 82)) b:=(fun n σ b=>by rw[zab,show gd 48=some 82 from(by rw[hgd];rfl)];rfl)
 rw[hlv,hre]
 try simp (disch:=first|omega|assumption|rfl) only[go_sem,f1,f0,e1,e0,g0,hd0,q1,q2,q3,q4,q6,q7,Int.toNat_zero,zar,Nat.zero_mul,Option.isSome_some,zbX,↓hg2,↓hg7,↓hg10,↓hg15,↓hg21,↓hg24,↓hg28,↓hg34,↓hg37,↓hg42,↓hg48]
 refine zko (z:=vs []) rfl rfl rfl rfl rfl rfl ?_
 intro w11 hE11 hs11 ho11
 try simp (disch:=first|omega|assumption|rfl) only[go_sem,zbX,↓hg2,↓hg7,↓hg10,↓hg15,↓hg21,↓hg24,↓hg28,↓hg34,↓hg37,↓hg42,↓hg48]
 refine Fn.mono (zij w11 _ [[48],[49]] ho11.row (fun l hl=>by simp at hl;rcases hl with rfl|rfl<;>decide) (by decide)) ?_
 rintro _ w12 ⟨rfl,hE12⟩
 rw[zg3]
 try simp (disch:=first|omega|assumption|rfl) only[go_sem,hd2,zbX,↓hg2,↓hg7,↓hg10,↓hg15,↓hg21,↓hg24,↓hg28,↓hg34,↓hg37,↓hg42,↓hg48]
 refine hK _ _ ?_;clear hK hgd;clear K;try clear gd
 refine go trivial ?_
 refine rt0 Tryz.ntmps15 ?_
 exact⟨rfl,hE1.trans (hE2.trans (hE3.trans (hE4.trans (hE5.trans (hE6.trans (hE7.trans (hE8.trans (hE9.trans (hE10.trans (hE11.trans hE12))))))))))⟩
end Go.Proofs.YtahbdamijngmmaaGreat
