/-
  Texts of a proof, joined: A8, A9, YCW, KR3, ZCW.
  Conditions: none.
-/
import Derived.Test.YtopbbjdembnfdaaGreatJW10
import Derived.Test.YtopbbjdembnfdaaGreatJW12
import Derived.Test.YtopbbjdembnfdaaGreatRows
import Derived.JoinedOf
import Derived.Laws.IdiomArrays
import Derived.Test.YtopbbjdembnfdaaGreatJW07
set_option linter.unusedVariables false
set_option linter.unusedSimpArgs false
set_option linter.defProp false
set_option linter.unnecessarySimpa false
namespace Go.Proofs.YtopbbjdembnfdaaGreat
open Go
set_option maxRecDepth 10000
theorem zgn(w:World)(nv:Value)(l:Lab)(q:Nm)(hn:Row w nv ((l::q).map vs))(hl:(l::q).length≤1000000):
  Fn Tryz.prog 53 #[nv] w (fun v w'=>Ext w w'∧Row w' v (q.map vs)):=by
 obtain⟨a,c,hnv,hc,hg⟩:=id hn
 simp only[List.length_map,List.length_cons]at hnv hc hg hl
 have h0:¬(((q.length+1:Nat):Int)=0):=by omega
 have e2:(0:Int)≤1:=by decide
 have e3:(1:Int)≤((q.length+1:Nat):Int):=by omega
 refine enter Tryz.func53 Tryz.ntmps53 rfl rfl ?_
 repeat refine c_r ?_
 rw[hnv]
 refine rg0 ?_
 repeat refine c_r ?_
 refine rg0 ?_
 repeat refine c_r ?_
 refine wf (decide_eq_false h0) ?_
 have hcut:=Row.tail (w:=w) (a:=a) (c:=c) (n:=q.length+1) (l:=(l::q).map vs) (by simp) (by simpa using hc) (fun j hj=>hg j (by simpa using hj)) (lo:=1) (by simp)
 rw[←List.map_drop]at hcut
 simp only[List.drop_succ_cons,List.drop_zero]at hcut
 have t1:(1:Int).toNat=1:=rfl
 repeat refine c_r ?_
 refine rq ?_;intro gd K hgd hK
 try simp (disch:=first|omega|assumption|rfl) only[go_sem,e2,e3,t1]
 refine Fn.mono (zgq hcut (by omega)) ?_
 rintro u w2 ⟨hou,hE2⟩
 obtain⟨au,cu,hue,hcu,hgu⟩:=id hou.row
 rw[List.length_map]at hue hcu
 try simp only[go_sem]
 rw[hue]
 refine Fn.mono (P_cs.Clip_ok hcu) ?_
 rintro _ y0 ⟨rfl,hy0⟩
 try simp only[go_sem]
 rw[hy0]
 clear hy0 y0
 refine hK _ _ ?_;clear hK hgd;clear K;try clear gd
 repeat refine c_r ?_
 refine rt0 Tryz.ntmps53 ?_
 exact⟨hE2,⟨au,q.length,by rw[List.length_map],by rw[List.length_map];exact Nat.le_refl _,hgu⟩⟩
theorem In_ok(w:World)(lv nv:Value)(L:List Nm)(n:Nm)(hl:NamesAt w lv L)(hn:Row w nv (n.map vs))(hk:∀x∈L,NmK x)(hLl:L.length≤1000000000)(hm:NmM n):
  Fn Tryz.prog 51 #[lv,nv] w (fun v w'=>Ext w w'∧v= .bool (L.any fun x=>decide (zah x=zah n))):=by
 obtain⟨vals,⟨a,c,hlv,hc,hg⟩,hvl,hvr⟩:=hl
 obtain⟨a1,c1,hnv,_⟩:=id hn
 have ln:=hm.len
 rw[hvl]at hlv hc
 refine enter Tryz.func51 Tryz.ntmps51 rfl rfl ?_
 repeat refine c_r ?_
 rw[hlv,hnv]
 refine rg0 ?_
 rw[←hnv]
 repeat refine c_r ?_
 refine rg0 ?_
 repeat refine c_r ?_
 refine zaB (Q:=fun e σ' ds' v'=>ds'=[]∧Ext w v'∧((e= .exit 0∧∀x∈L,¬zah x=zah n)∨(e= .ret∧σ' 4= .bool true∧∃x∈L,zah x=zah n))) ?_ ?_
 ·refine zak (fun m σ ds v=>ds=[]∧∃i:Nat,i+m=L.length∧σ 5=vi i∧σ 0= .slice a L.length c∧σ 1=nv∧Ext w v∧∀j (h:j<L.length),j<i→¬zah L[j]=zah n) L.length ?_ ?_
  ·exact⟨rfl,0,by omega,vr0,vq0,(vq1 hnv),Keep.refl _ _,fun j h h2=>absurd h2 (by omega)⟩
  rintro m σ ds v ⟨rfl,i,him,s5,s0,s1,hE,hlow⟩
  repeat refine c_r ?_
  refine rg2 s5 s0 ?_
  repeat refine c_r ?_
  refine wc0 ?_ ?_
  ·intro hlt
   simp only[decide_eq_true_eq]at hlt
   have hi:i<L.length:=by omega
   have hi0:(0:Int)≤(i:Int):=by omega
   have hi1':(i:Int)+1=((i+1:Nat):Int):=by push_cast;rfl
   have g:=zab hE (hg i (by omega))
   have hr:=hvr i (by omega) hi
   have kx:=hk _ (List.getElem_mem hi)
   have lx:=kx.len
   obtain⟨xa,rfl⟩:=Option.isSome_iff_exists.1 (zad g)
   repeat refine c_r ?_
   refine rc (an5 s5 s0 s1 hi0 (an2 hlt g)) (zdV v _ nv L[i] n (hr.ext hE) (hn.ext hE) kx.LB hm.LB (by omega) (by omega)) ?_
   rintro _ v1 ⟨rfl,hE1⟩
   refine re trivial ?_
   repeat refine c_r ?_
   by_cases hs:zah L[i]=zah n
   ·refine wt (decide_eq_true hs) ?_
    repeat refine c_r ?_
    refine rg0 ?_
    repeat refine c_r ?_
    exact⟨rfl,hE.trans hE1,.inr ⟨rfl,vr0,_,List.getElem_mem hi,hs⟩⟩
   ·refine wf (decide_eq_false hs) ?_
    repeat refine c_r ?_
    refine rg2 s5 hi1' ?_
    repeat refine c_r ?_
    refine⟨m - 1,by omega,rfl,i+1,by omega,vq0,(vq1 s0),(vq1 s1),hE.trans hE1,fun j hj hji=>?_⟩
    by_cases hj2:j=i
    ·subst hj2;exact hs
    ·exact hlow j hj (by omega)
  ·intro hge
   simp only[decide_eq_false_iff_not]at hge
   repeat refine c_r ?_
   refine⟨rfl,hE,.inl ⟨rfl,fun x hx=>?_⟩⟩
   obtain⟨j,hj,rfl⟩:=List.mem_iff_getElem.1 hx
   exact hlow j hj (by omega)
 rintro e σ' ds' v' ⟨rfl,hE,(⟨rfl,hno⟩| ⟨rfl,s4,x,hx,he⟩)⟩
 ·repeat refine c_r ?_
  refine rg0 ?_
  repeat refine c_r ?_
  refine rt0 Tryz.ntmps51 ?_
  refine⟨hE,?_⟩
  rw[show (L.any fun x=>decide (zah x=zah n))=false from List.any_eq_false.2 fun x hx=>by simpa using hno x hx]
 ·repeat refine c_r ?_
  refine rt1 s4 Tryz.ntmps51 ?_
  refine⟨hE,?_⟩
  rw[show (L.any fun x=>decide (zah x=zah n))=true from List.any_eq_true.2 ⟨x,hx,by simpa using he⟩]
theorem zhB:zbE smallN:=by
 refine⟨small_z,by decide,by decide,by decide,by decide,by decide,?_,?_⟩
 ·intro h hh
  simp only[smallN,List.mem_cons,List.not_mem_nil,or_false]at hh
  rcases hh with rfl|rfl<;>decide
 ·intro h hh
  simp only[smallN,List.mem_cons,List.not_mem_nil,or_false]at hh
  rcases hh with rfl|rfl<;>exact⟨by decide,by decide⟩
theorem zhC:canN (zbq smallN)=[[],[[97]],[[111]],kH,kX]:=by kernel_rfl
theorem zic:renN smallN=[]:=by kernel_rfl
theorem zcX:canN (zbj smallN)=[[],[[97]],[[111]],kH,kX]:=by kernel_rfl
set_option maxHeartbeats 2000000 in
theorem zh2(w:World):Fn Tryz.prog 43 #[] w (fun v w'=>v= .bool true∧Ext w w'):=by
 have hG:=zhB
 refine enter Tryz.func43 Tryz.ntmps43 rfl rfl ?_
 repeat refine c_r ?_
 refine rg0 ?_
 repeat refine c_r ?_
 refine rq ?_;intro gd K hgd hK
 try simp only[go_sem]
 refine Fn.mono (Small_ok w) ?_
 rintro _ w1 ⟨hE1,cs,rfl,hN⟩
 have hc:=hN.one
 try simp only[go_sem]
 refine zbB (P:=Tryz.prog) (l:=cs) (by rw[hc.1];rfl) hc.2 (by rw[hc.1];rfl) rfl ?_
 intro w2 hE2 hs2 hA
 try simp only[go_sem]
 refine hK _ _ ?_;clear hK hgd;clear K;try clear gd
 obtain⟨b1,hb1⟩:∃b,w1.heap.size=b:=⟨_,rfl⟩
 rw[hb1]at hA ⊢
 have dA:=zau (n:=4) hA hc.1.symm
 repeat refine c_r ?_
 refine rc dA (zjv hE2 hN hG) ?_
 rintro bv w3 ⟨hE3,hbv⟩
 refine re trivial ?_
 rw[zhC]at hbv
 obtain⟨vals,⟨ab,cb,hbe,_,hgb⟩,hvl,hvr⟩:=hbv
 have hv5:vals.length=5:=hvl
 rw[hv5]at hbe
 have dA3:=zag hE3 dA
 repeat refine c_r ?_
 refine rc dA3 (zfz (most:=100) (hE2.trans hE3) hN hG (by decide)) ?_
 rintro _ w4 ⟨hE4,(⟨hbad,_⟩| ⟨_,lv,rfl,hlv⟩)⟩
 ·rw[zcX]at hbad;exact absurd hbad (by decide)
 refine re trivial ?_
 rw[zcX]at hlv
 obtain⟨vals2,⟨al,cl,hle,_,_⟩,hvl2,_⟩:=hlv
 have hv52:vals2.length=5:=hvl2
 rw[hv52]at hle
 have dA4:=zag hE4 dA3
 repeat refine c_r ?_
 refine rc dA4 (zfz (most:=2) (hE2.trans (hE3.trans hE4)) hN hG (by decide)) ?_
 rintro _ w5 ⟨hE5,(⟨_,rfl⟩| ⟨hbad,_⟩)⟩
 rotate_left
 ·rw[zcX]at hbad;exact absurd hbad (by decide)
 refine re trivial ?_
 have dA5:=zag hE5 dA4
 have hr0:=hvr 0 (by omega) (by decide)
 obtain⟨a0,c0,e0,_⟩:=hr0
 have g0:=hgb 0 (by omega)
 obtain⟨xb,rfl⟩:=Option.isSome_iff_exists.1 (zad g0)
 rw[zaA,e0]at g0
 have g05:zai w5 (some xb)=some (.slice a0 0 c0):=zab (hE4.trans hE5) g0
 subst hbe hle
 have u1:decide (((5:Nat):Int)=5)=true:=rfl
 have u2:decide (((0:Nat):Int)=0)=true:=rfl
 have u3:(0:Int)<((5:Nat):Int):=by decide
 have u4:(0:Int)≤0:=by decide
 repeat refine c_r ?_
 refine rcg [(3,23),(10,30),(15,35),(19,39),(23,43)] (an9 g05 u1 u2 u3 u4 Int.toNat_zero (Nat.zero_mul 1) (zaA (some xb)) (an2 decide_true dA5)) (zfa (S:=NoS) (hE2.trans (hE3.trans (hE4.trans hE5))) (fun _ h=>h.elim) hN hG) ?_
 rintro rv w6 ⟨hE6,hR⟩
 rw[zic]at hR
 obtain⟨ar,cr,rfl,_⟩:=hR.rows.open
 refine reg [(3,23),(10,30),(15,35),(19,39),(23,43)] (an2 (show decide ((([]:List zaM).length:Int)=0)=true from rfl) u2) ?_
 repeat refine c_r ?_
 refine rt0 Tryz.ntmps43 ?_
 exact⟨rfl,hE1.trans (hE2.trans (hE3.trans (hE4.trans (hE5.trans hE6))))⟩
theorem ziU{L:List Nm}{x:Nm}(h:x∈L):(L.any fun y=>decide (zah y=zah x))=true:=List.any_eq_true.2 ⟨x,h,by simp⟩
theorem canN_k{ps:List Nm}(h:∀p∈ps,NmK p):∀x∈canN ps,NmK x:=fun _ hx=>inS_k h (mem_canN.1 hx)
theorem zeV{w:World}{v:Value}{L:List Nm}(h:NamesAt w v L):∃a c,v= .slice a L.length c∧∀i (hi:i<L.length),∃y,zai w (adr a i)=some y∧Row w y (L[i].map vs):=by
 obtain⟨vals,⟨a,c,e,_,hg⟩,hl,hr⟩:=h
 exact⟨a,c,by rw[e,hl],fun i hi=>⟨vals[i]'(by omega),hg i (by omega),hr i (by omega) hi⟩⟩
set_option maxHeartbeats 4000000 in
theorem zgp(W:World){cs:List Value}{N:NetL}(hN:NetAt W cs N)(hv:NumN N):
  Fn Tryz.prog 14 #[.agg cs.toArray] W (fun v w'=>v= .bool true∧Ext W w'):=by
 have hN0:=hN
 obtain⟨hsv,rv,rfl,hh,hr⟩:=hN.ex
 obtain⟨ah,ch,hhv,_⟩:=hh.open
 obtain⟨ar,cr,hrv,_⟩:=id hr
 refine enter Tryz.func14 Tryz.ntmps14 rfl rfl ?_
 repeat refine c_r ?_
 rw[hhv,hrv]
 refine rg0 ?_
 rw[←hhv,←hrv]
 repeat refine c_r ?_
 refine zaR ?_
 intro w1 hE1 hs1 hA
 have dN:zat w1 (some ⟨W.heap.size,0,Option.none⟩) 4=some [hsv,rv,vi N.rw,vi N.rf]:=zau hA rfl
 repeat refine c_r ?_
 refine rc trivial (zh2 w1) ?_
 rintro _ w2 ⟨rfl,hE2⟩
 refine re trivial ?_
 repeat refine c_r ?_
 refine wf trivial ?_
 have dN2:=zag hE2 dN
 have hE12:=hE1.trans hE2
 repeat refine c_r ?_
 refine rc dN2 (zjt w2 (hN0.ext hE12) hv) ?_
 rintro _ w3 ⟨hE3,b,rfl,hb⟩
 cases b with
 |false=>
  refine re trivial ?_
  repeat refine c_r ?_
  refine wt trivial ?_
  repeat (first|refine c_r ?_|refine rg0 ?_)
  refine rt0 Tryz.ntmps14 ?_
  exact⟨rfl,hE12.trans hE3⟩
 |true=>
 refine re trivial ?_
 repeat refine c_r ?_
 refine wf trivial ?_
 have hG:=hb rfl
 have dN3:=zag hE3 dN2
 have hE13:=hE12.trans hE3
 repeat refine c_r ?_
 refine rc dN3 (zjv hE13 hN0 hG) ?_
 rintro bv w4 ⟨hE4,hbv⟩
 refine re trivial ?_
 have dN4:=zag hE4 dN3
 have hE14:=hE13.trans hE4
 repeat refine c_r ?_
 refine rc dN4 (zfz (most:=400) hE14 hN0 hG (by decide)) ?_
 rintro _ w5 ⟨hE5,(⟨_,rfl⟩| ⟨hm,lv,rfl,hlv⟩)⟩
 ·refine re trivial ?_
  repeat refine c_r ?_
  refine rg0 ?_
  repeat refine c_r ?_
  refine wt trivial ?_
  repeat refine c_r ?_
  refine rg0 ?_
  repeat refine c_r ?_
  refine rt0 Tryz.ntmps14 ?_
  exact⟨rfl,hE14.trans hE5⟩
 refine re trivial ?_
 repeat refine c_r ?_
 refine rg0 ?_
 repeat refine c_r ?_
 refine wf trivial ?_
 have hbk:=zgj hG
 have hbl:=zex hbk (zfr hG)
 have hFk:∀p∈zbj N,NmK p:=zgP hbk
 have hLk:=canN_k hFk
 have hBL:∀x∈canN (zbq N),x∈canN (zbj N):=fun x hx=>mem_canN.2 (zfn (fun _=>zdw) (mem_canN.1 hx))
 have hLf:∀x∈canN (zbj N),zah x=x:=fun x hx=>inS_fold (mem_canN.1 hx)
 have hLr:=zcw (zbj N)
 have hLt:∀l q,l::q∈canN (zbj N)→q∈canN (zbj N):=fun l q hx=>mem_canN.2 (inS_tail (mem_canN.1 hx))
 have hBk:=canN_k hbk
 obtain⟨B,hB⟩:∃B,canN (zbq N)=B:=⟨_,rfl⟩
 obtain⟨L,hL⟩:∃L,canN (zbj N)=L:=⟨_,rfl⟩
 rw[hB]at hbv hbl hBL hBk
 rw[hL]at hlv hm hLk hBL hLf hLr hLt
 have hE15:=hE14.trans hE5
 have hbv5:=hbv.ext hE5
 obtain⟨ab,cb,rfl,hgb⟩:=zeV hbv5
 obtain⟨al,cl,rfl,hgl⟩:=zeV hlv
 repeat refine c_r ?_
 refine rg0 ?_
 repeat refine c_r ?_
 refine zak (fun m σ ds v=>ds=[]∧∃i:Nat,i+m=B.length∧σ 6=vi i∧σ 3= .slice ab B.length cb∧σ 4= .slice al L.length cl∧Ext w5 v) B.length ?_ ?_
 ·exact⟨rfl,0,by omega,vr0,vq0,vq0,Keep.refl _ _⟩
 rintro m σ ds v ⟨rfl,i,him,s6,s3,s4,hEv⟩
 repeat refine c_r ?_
 refine rg2 s6 s3 ?_
 repeat refine c_r ?_
 refine wc0 ?_ ?_
 ·intro hlt
  simp only[decide_eq_true_eq]at hlt
  have hi:i<B.length:=by omega
  have hi0:(0:Int)≤(i:Int):=by omega
  have hi1':(i:Int)+1=((i+1:Nat):Int):=by push_cast;rfl
  obtain⟨y,gy,hy⟩:=hgb i hi
  have gyv:=zab hEv gy
  obtain⟨xa,rfl⟩:=Option.isSome_iff_exists.1 (zad gyv)
  have hxm:=List.getElem_mem hi
  repeat refine c_r ?_
  refine rc (an6 s6 s3 s4 hi0 hlt gyv) (In_ok v _ y L B[i] (hlv.ext hEv) (hy.ext hEv) hLk (by omega) (hBk _ hxm).m) ?_
  rintro _ v1 ⟨hE6,rfl⟩
  rw[ziU (hBL _ hxm)]
  refine re trivial ?_
  repeat refine c_r ?_
  refine wf trivial ?_
  repeat refine c_r ?_
  refine rg2 s6 hi1' ?_
  repeat refine c_r ?_
  exact⟨m - 1,by omega,rfl,i+1,by omega,vq0,(vq1 s3),(vq1 s4),hEv.trans hE6⟩
 ·intro hge
  clear hge
  repeat refine c_r ?_
  refine rg0 ?_
  repeat refine c_r ?_
  refine zak (fun m σ ds v=>ds=[]∧∃i:Nat,i+m=L.length∧σ 7=vi i∧σ 4= .slice al L.length cl∧Ext w5 v) L.length ?_ ?_
  ·exact⟨rfl,0,by omega,vr0,(vq1 s4),hEv⟩
  clear s6 s3 s4 hEv him
  rintro m2 σ2 ds2 v2 ⟨rfl,j,hjm,s7,s4,hEv⟩
  repeat refine c_r ?_
  refine rg2 s7 s4 ?_
  repeat refine c_r ?_
  refine wc0 ?_ ?_
  ·intro hlt
   simp only[decide_eq_true_eq]at hlt
   have hj:j<L.length:=by omega
   have hj0:(0:Int)≤(j:Int):=by omega
   have hj1':(j:Int)+1=((j+1:Nat):Int):=by push_cast;rfl
   obtain⟨y,gy0,hy⟩:=hgl j hj
   have gy:=zab hEv gy0
   obtain⟨xa,rfl⟩:=Option.isSome_iff_exists.1 (zad gy)
   have hxm:=List.getElem_mem hj
   obtain⟨ay,cy,hye,_⟩:=id hy
   rw[List.length_map]at hye
   have hxk:=hLk _ hxm
   have hxl:=hxk.len
   repeat refine c_r ?_
   refine zaB (Q:=fun e σ' ds' v'=>e= .normal∧ds'=[]∧σ' 76= .bool false∧σ' 7=vi j∧σ' 4= .slice (some xa) L.length cl∧Ext v2 v') ?_ ?_
   ·rcases hxe:L[j] with _| ⟨l,q⟩
    ·rw[hxe]at hye hy hxm hxk
     have z0:decide ((([]:Nm).length:Int)>0)=false:=rfl
     rcases j with _|k
     ·have z1:decide (((0:Nat):Int)>0)=false:=rfl
      refine zaF (fun _=>false) [(0,true),(1,true),(2,true),(3,true),(4,true),(5,true),(6,true),(7,true),(8,true),(9,true),(10,true),(11,true),(12,false),(13,false),(14,true),(15,true),(16,true),(17,true),(18,true),(19,true),(20,true),(21,true),(22,true),(23,true),(24,true),(25,true),(26,true),(27,true),(28,true),(29,false),(30,true),(31,true),(32,true)] NoS mixed (by kernel_rfl) ?_;intro gd K x hgd hx hxe hK;clear hxe
      have hg6:∀n σ b,zap gd n σ (some (6,b))=zaj (ev n σ (.tmp 50)) b:=(fun n σ b=>by rw[zac,show gd 6=some 50 from(by rw[hgd];rfl)];rfl);have hg16:∀n σ b,zap gd n σ (some (16,b))=zaj (ev n σ (.tmp 60)) b:=(fun n σ b=>by rw[zac,show gd 16=some 60 from(by rw[hgd];rfl)];rfl);have hg19:∀n σ b,zap gd n σ (some (19,b))=zaj (ev n σ (.tmp 63)) b:=(fun n σ b=>by rw[zac,show gd 19=some 63 from(by rw[hgd];rfl)];rfl)
      have gyx:=zab hx gy
      rw[hye]at gyx
      simp (disch:=first|omega|assumption|rfl) only[go_sem,s7,s4,hj0,hlt,gyx,z0,z1,zbD,↓hg6,↓hg16,↓hg19]
      refine hK _ _ ?_;clear hK hgd;clear K;try clear gd
      exact⟨rfl,rfl,vr0,(vq1 s7),(vq1 s4),hx⟩
     ·exfalso
      have h1:=hLr.get (i:=k) (j:=k+1) (by omega) hj
      rw[hxe]at h1
      rcases hy0:L[k] with _| ⟨c0,p0⟩
      ·rw[hy0,zcq]at h1;omega
      ·have h2:=ze3 (f:=[]) (p:=c0::p0) (by simp)
       rw[List.append_nil]at h2
       rw[hy0]at h1
       have:=zdT [] (c0::p0)
       omega
    ·rw[hxe]at hye hy hxm hxk
     have hqm:=hLt l q hxm
     have hqk:=hLk q hqm
     have hxl2:=hxk.len
     have z0:decide (((l::q).length:Int)>0)=true:=decide_eq_true (by simp only[List.length_cons];omega)
     rcases j with _|k
     ·have z1:decide (((0:Nat):Int)>0)=false:=rfl
      refine zaF (fun _=>false) [(0,true),(1,true),(2,true),(3,true),(4,true),(5,true),(6,true),(7,true),(8,true),(9,true),(10,true),(11,true),(12,false),(13,false),(14,true),(15,true),(16,true),(17,true),(18,true),(19,true),(20,true),(21,true),(22,true),(23,true),(24,true),(25,true),(26,true),(27,true),(28,true),(29,false),(30,true),(31,true),(32,true)] NoS mixed (by kernel_rfl) ?_;intro gd K x hgd hx hxe hK;clear hxe
      have hg6:∀n σ b,zap gd n σ (some (6,b))=zaj (ev n σ (.tmp 50)) b:=(fun n σ b=>by rw[zac,show gd 6=some 50 from(by rw[hgd];rfl)];rfl);have hg16:∀n σ b,zap gd n σ (some (16,b))=zaj (ev n σ (.tmp 60)) b:=(fun n σ b=>by rw[zac,show gd 16=some 60 from(by rw[hgd];rfl)];rfl);have hg19:∀n σ b,zap gd n σ (some (19,b))=zaj (ev n σ (.tmp 63)) b:=(fun n σ b=>by rw[zac,show gd 19=some 63 from(by rw[hgd];rfl)];rfl)
      have gyx:=zab hx gy
      rw[hye]at gyx
      simp (disch:=first|omega|assumption|rfl) only[go_sem,s7,s4,hj0,hlt,gyx,z0,z1,zbD,↓hg6,↓hg16,↓hg19]
      rw[←hye]
      refine Fn.mono (zgn x y l q (hy.ext (hEv.trans hx)) (by omega)) ?_
      rintro pv x1 ⟨hx1,hpv⟩
      refine⟨.inr hx1,?_⟩
      simp (disch:=first|omega|assumption|rfl) only[go_sem,s7,s4,zbD,↓hg6,↓hg16,↓hg19]
      refine Fn.mono (In_ok x1 _ pv L q (hlv.ext (hEv.trans (hx.trans hx1))) hpv hLk (by omega) hqk.m) ?_
      rintro _ x2 ⟨hx2,rfl⟩
      refine⟨.inr hx2,?_⟩
      rw[ziU hqm]
      simp (disch:=first|omega|assumption|rfl) only[go_sem,s7,s4,z1,zbD,Bool.not_true,↓hg6,↓hg16,↓hg19]
      refine hK _ _ ?_;clear hK hgd;clear K;try clear gd
      exact⟨rfl,rfl,vr0,(vq1 s7),(vq1 s4),hx.trans (hx1.trans hx2)⟩
     ·have z1:decide (((k+1:Nat):Int)>0)=true:=decide_eq_true (by omega)
      have hs:((k+1:Nat):Int) - 1=(k:Int):=by omega
      have hk0:(0:Int)≤(k:Int):=by omega
      have hk1:(k:Int)<(L.length:Int):=by omega
      obtain⟨y2,gz0,hz⟩:=hgl k (by omega)
      have hzk:=hLk _ (List.getElem_mem (show k<L.length by omega))
      have hzl:=hzk.len
      have hcmp:=hLr.get (i:=k) (j:=k+1) (by omega) hj
      rw[hxe]at hcmp
      obtain⟨az,cz,hze,_⟩:=id hz
      have z2:decide (cmpN (zah L[k]) (zah (l::q))≥0)=false:=decide_eq_false (by
       rw[hLf _ (List.getElem_mem (show k<L.length by omega)),hLf _ hxm];omega)
      refine zaF (fun _=>false) [(0,true),(1,true),(2,true),(3,true),(4,true),(5,true),(6,true),(7,true),(8,true),(9,true),(10,true),(11,true),(12,false),(13,false),(14,true),(15,true),(16,true),(17,true),(18,true),(19,true),(20,true),(21,true),(22,true),(23,true),(24,true),(25,true),(26,true),(27,true),(28,true),(29,false),(30,true),(31,true),(32,true)] NoS mixed (by kernel_rfl) ?_;intro gd K x hgd hx hxe hK;clear hxe
      have hg6:∀n σ b,zap gd n σ (some (6,b))=zaj (ev n σ (.tmp 50)) b:=(fun n σ b=>by rw[zac,show gd 6=some 50 from(by rw[hgd];rfl)];rfl);have hg16:∀n σ b,zap gd n σ (some (16,b))=zaj (ev n σ (.tmp 60)) b:=(fun n σ b=>by rw[zac,show gd 16=some 60 from(by rw[hgd];rfl)];rfl);have hg19:∀n σ b,zap gd n σ (some (19,b))=zaj (ev n σ (.tmp 63)) b:=(fun n σ b=>by rw[zac,show gd 19=some 63 from(by rw[hgd];rfl)];rfl)
      have gyx:=zab hx gy
      have gzx:=zab (hEv.trans hx) gz0
      rw[hye]at gyx
      simp (disch:=first|omega|assumption|rfl) only[go_sem,s7,s4,hj0,hlt,gyx,z0,z1,hs,hk0,hk1,gzx,zbD,↓hg6,↓hg16,↓hg19]
      rw[←hye]
      refine Fn.mono (zgn x y l q (hy.ext (hEv.trans hx)) (by omega)) ?_
      rintro pv x1 ⟨hx1,hpv⟩
      refine⟨.inr hx1,?_⟩
      simp (disch:=first|omega|assumption|rfl) only[go_sem,s7,s4,zbD,↓hg6,↓hg16,↓hg19]
      refine Fn.mono (In_ok x1 _ pv L q (hlv.ext (hEv.trans (hx.trans hx1))) hpv hLk (by omega) hqk.m) ?_
      rintro _ x2 ⟨hx2,rfl⟩
      refine⟨.inr hx2,?_⟩
      rw[ziU hqm]
      have hvx2:=hEv.trans (hx.trans (hx1.trans hx2))
      have gy2:=zab (hx1.trans hx2) gyx
      have gz2:=zab (hx1.trans hx2) gzx
      simp (disch:=first|omega|assumption|rfl) only[go_sem,s7,s4,hj0,hlt,gy2,gz2,z1,hs,hk0,hk1,zbD,Bool.not_true,↓hg6,↓hg16,↓hg19]
      rw[←hye]
      refine Fn.mono (zbR x2 _ _ _ _ (hz.ext hvx2) (hy.ext hvx2) hzk.LB hxk.LB (by omega) (by omega)) ?_
      rintro _ x3 ⟨rfl,hx3⟩
      refine⟨.inr hx3,?_⟩
      simp (disch:=first|omega|assumption|rfl) only[go_sem,s7,s4,z1,z2,zbD,Bool.not_true,↓hg6,↓hg16,↓hg19]
      refine hK _ _ ?_;clear hK hgd;clear K;try clear gd
      exact⟨rfl,rfl,vr0,(vq1 s7),(vq1 s4),hx.trans (hx1.trans (hx2.trans hx3))⟩
   clear s7 s4
   rintro _ σ3 _ v3 ⟨rfl,rfl,s76,s7,s4,hE7⟩
   repeat refine c_r ?_
   refine wf s76 ?_
   repeat refine c_r ?_
   refine rg2 s7 hj1' ?_
   repeat refine c_r ?_
   exact⟨m2 - 1,by omega,rfl,j+1,by omega,vq0,(vq1 s4),hEv.trans hE7⟩
  ·intro hge
   repeat refine c_r ?_
   refine rg0 ?_
   repeat refine c_r ?_
   refine rt0 Tryz.ntmps14 ?_
   exact⟨rfl,hE15.trans hEv⟩
end Go.Proofs.YtopbbjdembnfdaaGreat
namespace Go.Proofs.YtopbbjdembnfdaaGreat.closeWays
open Go Go.Proofs.YtopbbjdembnfdaaGreat
theorem j1:(Rows.closeWaysRow.inPlace==Tryz.pinned.checked.prog.inPlace 14)=true:=by kernel_rfl
theorem j2:(Rows.closeWaysRow.unfollowed==Tryz.pinned.checked.prog.unfollowed 14)=true:=by kernel_rfl
theorem j3:(Rows.closeWaysRow.recurses==Tryz.pinned.checked.prog.recurses 14)=true:=by kernel_rfl
theorem j4:(Rows.closeWaysRow.named==Tryz.pinned.checked.prog.varsNamed 14)=true:=by kernel_rfl
theorem j5:(Tryz.pinned.checked.prog.mayEnter)=true:=by kernel_rfl
theorem j6:(Rows.closeWaysRow.lifted==Tryz.pinned.checked.prog.liftsFinal)=true:=by kernel_rfl
theorem joined:joinedFacts Tryz.pinned.checked.prog 14 Tryz.f14 Rows.closeWaysSpec Rows.closeWaysRow=true:=by
 unfold joinedFacts
 rw[j1,j2,j3,j4,j5,j6]
 kernel_rfl
end Go.Proofs.YtopbbjdembnfdaaGreat.closeWays
namespace Go.Proofs.YtopbbjdembnfdaaGreat
open Go
set_option maxRecDepth 100000
theorem zil{w:World}{α:Type}{k:Nat}{C:List Value→α→Prop}{Q:α→Prop}{v:Value}{L:List (List Value)}(hL:RowK k w v L)(h:∀cs∈L,∃a,C cs a∧Q a):∃R:List α,Rows k C w v R∧∀a∈R,Q a:=by
 have:∀L:List (List Value),(∀cs∈L,∃a,C cs a∧Q a)→∃R:List α,L.length=R.length∧(∀i (h:i<L.length) (h':i<R.length),C L[i] R[i])∧∀a∈R,Q a:=fun L=>by
  induction L with
  |nil=>intro _;exact⟨[],rfl,fun i h=>by simp at h,fun r h=>by cases h⟩
  |cons cs L ih=>
   intro h
   obtain⟨r,h1,h2⟩:=h cs (List.mem_cons_self ..)
   obtain⟨R,a1,a2,a3⟩:=ih (fun x hx=>h x (List.mem_cons_of_mem _ hx))
   refine⟨r::R,by simp[a1],fun i a b=>?_,fun x hx=>?_⟩
   ·cases i with
    |zero=>exact h1
    |succ i=>exact a2 i (by simpa using a) (by simpa using b)
   ·rcases List.mem_cons.1 hx with rfl|hx
    ·exact h2
    ·exact a3 x hx
 obtain⟨R,a1,a2,a3⟩:=this L h
 exact⟨R,⟨L,hL,a1,a2⟩,a3⟩
section
variable {H : Type} {enc : TypeId × Value → H} {w : World} {base : Nat} {sp : Nat → Bool} {held : Bool}
theorem zfh{P:Program}{t:TypeId}{n:Nat}{c:Value}{x:DataW H×List MemPlace}(ht:P.underlying t=some (.int .u8))(h:DataW.trod enc P w base sp held n t [c]=some x):∃b:UInt8,c=zaf b:=by
 obtain⟨m,h1,_,h2⟩:=DataW.trod_int ht h
 have hb:=wf_u8 h2
 obtain⟨k,rfl⟩:∃k:Nat,m=(k:Int):=⟨m.toNat,by omega⟩
 exact⟨UInt8.ofNat k,by rw[List.head_eq_of_cons_eq h1,zhq (by omega)]⟩
theorem rd_addr{t e:TypeId}{c0 c1 c2 c3:Value}{P:Program}(h:RdC enc P w base sp held t [c0,c1,c2,c3])(ht:P.underlying t=some (.array 4 e))(hc:P.cellsOf e=1)(he:P.underlying e=some (.int .u8)):
  ∃a b c d:UInt8,c0=zaf a∧c1=zaf b∧c2=zaf c∧c3=zaf d:=by
 obtain⟨n,x,h,_⟩:=h
 obtain⟨_,_,_,_,_,_,h0,h1,h2,h3⟩:=Go.ChangeShapes.trod_array4 ht hc h
 obtain⟨a,ha⟩:=zfh he h0
 obtain⟨b,hb⟩:=zfh he h1
 obtain⟨c,hc⟩:=zfh he h2
 obtain⟨d,hd⟩:=zfh he h3
 exact⟨a,b,c,d,ha,hb,hc,hd⟩
theorem rd_zone{cs:List Value}(h:RdC enc Tryz.prog w base sp held 34 cs):∃z:zdz,ZoneC w cs z∧NumR z.recs:=by
 obtain⟨hl,hf⟩:=zdb h rfl
 have hl2:cs.length=2:=hl
 match cs,hl2 with
 | [c0,c1],_=>
  obtain⟨o,n0,_⟩:=zea (P:=Tryz.prog) (RdC.one (hf 0 _ rfl)) (e:=9) rfl rfl rfl rfl
  obtain⟨R,h1,h2⟩:=rd_recs (RdC.one (hf 1 _ rfl))
  exact⟨⟨o,R⟩,⟨c0,c1,rfl,n0,h1⟩,h2⟩
theorem rd_host{cs:List Value}(h:RdC enc Tryz.prog w base sp held 160 cs):∃z:zeQ,HostC w cs z∧∀x∈z.zones,NumR x.recs:=by
 obtain⟨hl,hf⟩:=zdb h rfl
 have hl6:cs.length=6:=hl
 match cs,hl6 with
 | [c0,c1,c2,c3,c4,c5],_=>
  obtain⟨o,n0,_⟩:=zea (P:=Tryz.prog) (RdC.one (hf 0 _ rfl)) (e:=9) rfl rfl rfl rfl
  have h1:RdC enc Tryz.prog w base sp held 157 [c1,c2,c3,c4]:=hf 1 _ rfl
  obtain⟨a,b,c,d,rfl,rfl,rfl,rfl⟩:=rd_addr h1 rfl rfl (e:=5) rfl
  have h5:RdC enc Tryz.prog w base sp held 158 [c5]:=hf 2 _ rfl
  obtain⟨L,hL,hall,_⟩:=zd9 (RdC.one h5) (e:=34) (k:=2) rfl rfl
  obtain⟨R,r1,r2⟩:=zil hL (fun cs hcs=>rd_zone (hall cs hcs))
  exact⟨⟨o,[a,b,c,d],R⟩,⟨c0,a,b,c,d,c5,rfl,rfl,n0,r1⟩,r2⟩
theorem rd_net{cs:List Value}(h:RdC enc Tryz.prog w base sp held 65 cs):∃N:NetL,NetAt w cs N∧NumN N:=by
 obtain⟨hl,hf⟩:=zdb h rfl
 have hl4:cs.length=4:=hl
 match cs,hl4 with
 | [c0,c1,c2,c3],_=>
  obtain⟨L,hL,hall,_⟩:=zd9 (RdC.one (hf 0 _ rfl)) (e:=160) (k:=6) rfl rfl
  obtain⟨R,r1,r2⟩:=zil hL (fun cs hcs=>rd_host (hall cs hcs))
  obtain⟨roots,n2,_⟩:=zgy (RdC.one (hf 1 _ rfl)) (e:=3) (k:= .i64) rfl rfl rfl
  obtain⟨a,e2,_⟩:=zfK (hf 2 _ rfl) (k:= .i64) rfl
  obtain⟨b,e3,_⟩:=zfK (hf 3 _ rfl) (k:= .i64) rfl
  have e2':c2=vi a:=List.head_eq_of_cons_eq (show [c2]=[vi a] from e2)
  have e3':c3=vi b:=List.head_eq_of_cons_eq (show [c3]=[vi b] from e3)
  exact⟨⟨R,roots,a,b⟩,⟨c0,c1,by rw[e2',e3'],r1,n2⟩,r2⟩
end
theorem zgx{H:Type}{enc:TypeId×Value→H}{P:Program}{w:World}{base:Nat}{sp:Nat→Bool}{held:Bool}{t:TypeId}{cs:Array Value}{d:DataW H}{p:List MemPlace}{ts:List TypeId}{ds:List (DataW H)}(h:DataW.Trod enc P w base sp held t (.agg cs) d p)
  (hw:∀x∈DataW.weightsEach P ts ds,x≤reachBytes) {j:Nat} (ht:ts[j]? =some t) (hd:ds[j]? =some d):RdC enc P w base sp held t cs.toList:=by
 obtain⟨n,h⟩:=h
 exact⟨n,_,h,fun k hk=>hw k (DataW.weights_mem_each ht hd k hk)⟩
end Go.Proofs.YtopbbjdembnfdaaGreat
namespace Go.Proofs.YtopbbjdembnfdaaGreat.closeWays
open Go Go.Proofs.YtopbbjdembnfdaaGreat Go.ChangeShapes Go.WideShapes Go.ChangeAt Go.RowKit
theorem own:ownKnob Tryz.prog.godebug=none:=by kernel_rfl
set_option maxRecDepth 100000 in
theorem lifted(os:Os)(started:os.Started)(H:Type)(enc:TypeId×Value→H):
  ReturnsInHanded {} Tryz.checked os 14 .any (Rows.closeWaysSpec.pre6 enc Tryz.prog Tryz.f14 Rows.closeWaysRow.domain false) (Rows.closeWaysSpec.post enc Tryz.prog Tryz.f14 false true false false):=by
 refine law_lift (C:=Tryz.checked) own started (by kernel_rfl) Tryz.func14
  (ChangeSpec.witness6 (enc:=enc) (C:=Tryz.checked) false ⟨#[],#[.agg #[.slice Option.none 0 0,.slice Option.none 0 0,.int .i64 0,.int .i64 0]],[]⟩ 8 (by kernel_rfl) (by kernel_rfl) (by kernel_rfl) (by kernel_rfl)) rfl ?_ (tb:=4) rfl rfl (by kernel_rfl) (by kernel_rfl) ?_
 ·intro ds hds
  match ds,hds with
  | [d0],_=>rfl
 ·intro W base args ds p hval hA0 hw0
  have hA:DataW.TrodAll enc Tryz.prog W 0 (fun _=>true) true [65] args ds p:=hA0
  have hw:∀x∈DataW.weightsEach Tryz.prog [65] ds,x≤reachBytes:=hw0
  obtain⟨v0,vs0,d0,ds0,p0,q0,rfl,rfl,rfl,h0,r0⟩:=trodAll_cons hA
  obtain⟨rfl,rfl,rfl⟩:=trodAll_nil r0
  obtain⟨a0,rfl,_⟩:=okWide_struct rfl (hval 0 _ _ rfl rfl)
  obtain⟨x0,f0,g0⟩:=rd_net (zgx h0 hw (j:=0) rfl rfl)
  exact zgp W f0 g0
theorem over:Rows.closeWaysRow.holds Tryz.pinned (OpenSpec.ofChange Rows.closeWaysSpec):=
 OpenClaim.holds_of_wide 14 Tryz.f14 rfl rfl rfl rfl rfl rfl rfl ⟨rfl,rfl,rfl,rfl,rfl⟩ rfl rfl rfl rfl rfl (by kernel_rfl) Tryz.func14 joined
  (of_decide_eq_true (by kernel_rfl)) (by unfold Func.isWrapper;first| (rw[if_pos (by decide+kernel)];kernel_rfl)| (rw[if_neg (by decide+kernel)];exact⟨rfl,rfl⟩))
  (fun os started H enc _=>lifted os started H enc)
theorem proved:Rows.CloseWaysSaid:=over
end Go.Proofs.YtopbbjdembnfdaaGreat.closeWays
