/-
  Texts of a proof, joined: A8, A9, A10, YCS, KR3, ZCS.
  Conditions: none.
-/
import Derived.Test.YtopbbjdembnfdaaGreatJS10
import Derived.Test.YtopbbjdembnfdaaGreatJS12
import Derived.Test.YtopbbjdembnfdaaGreatRows
import Derived.JoinedOf
import Derived.Laws.IdiomArrays
import Derived.Test.YtopbbjdembnfdaaGreatJS07
set_option linter.unusedVariables false
set_option linter.unusedSimpArgs false
set_option linter.defProp false
set_option linter.unnecessarySimpa false
namespace Go.Proofs.YtopbbjdembnfdaaGreat
open Go
set_option maxRecDepth 10000
theorem In_ok(w:World)(lv nv:Value)(L:List Nm)(n:Nm)(hl:NamesAt w lv L)(hn:Row w nv (n.map vs))(hk:∀x∈L,NmK x)(hLl:L.length≤1000000000)(hm:NmM n):
  Fn Tryz.prog 51 #[lv,nv] w (fun v w'=>Ext w w'∧v= .bool (L.any fun x=>decide (zah x=zah n))):=by
 obtain⟨vals,⟨a,c,hlv,hc,hg⟩,hvl,hvr⟩:=hl
 obtain⟨a1,c1,hnv,_⟩:=id hn
 have ln:=hm.len
 rw[hvl]at hlv hc
 refine enter Tryz.func51 Tryz.ntmps51 rfl rfl ?_
 repeat refine c_r ?_
 rw[hlv,hnv]
 refine rg0 ?_
 rw[←hnv]
 repeat refine c_r ?_
 refine rg0 ?_
 repeat refine c_r ?_
 refine zaC (Q:=fun e σ' ds' v'=>ds'=[]∧Ext w v'∧((e= .exit 0∧∀x∈L,¬zah x=zah n)∨(e= .ret∧σ' 4= .bool true∧∃x∈L,zah x=zah n))) ?_ ?_
 ·refine zaj (fun m σ ds v=>ds=[]∧∃i:Nat,i+m=L.length∧σ 5=vi i∧σ 0= .slice a L.length c∧σ 1=nv∧Ext w v∧∀j (h:j<L.length),j<i→¬zah L[j]=zah n) L.length ?_ ?_
  ·exact⟨rfl,0,by omega,vr0,vq0,(vq1 hnv),Keep.refl _ _,fun j h h2=>absurd h2 (by omega)⟩
  rintro m σ ds v ⟨rfl,i,him,s5,s0,s1,hE,hlow⟩
  repeat refine c_r ?_
  refine rg2 s5 s0 ?_
  repeat refine c_r ?_
  refine wc0 ?_ ?_
  ·intro hlt
   simp only[decide_eq_true_eq]at hlt
   have hi:i<L.length:=by omega
   have hi0:(0:Int)≤(i:Int):=by omega
   have hi1':(i:Int)+1=((i+1:Nat):Int):=by push_cast;rfl
   have g:=zab hE (hg i (by omega))
   have hr:=hvr i (by omega) hi
   have kx:=hk _ (List.getElem_mem hi)
   have lx:=kx.len
   obtain⟨xa,rfl⟩:=Option.isSome_iff_exists.1 (zad g)
   repeat refine c_r ?_
   refine rc (an5 s5 s0 s1 hi0 (an2 hlt g)) (zdY v _ nv L[i] n (hr.ext hE) (hn.ext hE) kx.LB hm.LB (by omega) (by omega)) ?_
   rintro _ v1 ⟨rfl,hE1⟩
   refine re trivial ?_
   repeat refine c_r ?_
   by_cases hs:zah L[i]=zah n
   ·refine wt (decide_eq_true hs) ?_
    repeat refine c_r ?_
    refine rg0 ?_
    repeat refine c_r ?_
    exact⟨rfl,hE.trans hE1,.inr ⟨rfl,vr0,_,List.getElem_mem hi,hs⟩⟩
   ·refine wf (decide_eq_false hs) ?_
    repeat refine c_r ?_
    refine rg2 s5 hi1' ?_
    repeat refine c_r ?_
    refine⟨m - 1,by omega,rfl,i+1,by omega,vq0,(vq1 s0),(vq1 s1),hE.trans hE1,fun j hj hji=>?_⟩
    by_cases hj2:j=i
    ·subst hj2;exact hs
    ·exact hlow j hj (by omega)
  ·intro hge
   simp only[decide_eq_false_iff_not]at hge
   repeat refine c_r ?_
   refine⟨rfl,hE,.inl ⟨rfl,fun x hx=>?_⟩⟩
   obtain⟨j,hj,rfl⟩:=List.mem_iff_getElem.1 hx
   exact hlow j hj (by omega)
 rintro e σ' ds' v' ⟨rfl,hE,(⟨rfl,hno⟩| ⟨rfl,s4,x,hx,he⟩)⟩
 ·repeat refine c_r ?_
  refine rg0 ?_
  repeat refine c_r ?_
  refine rt0 Tryz.ntmps51 ?_
  refine⟨hE,?_⟩
  rw[show (L.any fun x=>decide (zah x=zah n))=false from List.any_eq_false.2 fun x hx=>by simpa using hno x hx]
 ·repeat refine c_r ?_
  refine rt1 s4 Tryz.ntmps51 ?_
  refine⟨hE,?_⟩
  rw[show (L.any fun x=>decide (zah x=zah n))=true from List.any_eq_true.2 ⟨x,hx,by simpa using he⟩]
theorem zhG:zbg smallN:=by
 refine⟨small_z,by decide,by decide,by decide,by decide,by decide,?_,?_⟩
 ·intro h hh
  simp only[smallN,List.mem_cons,List.not_mem_nil,or_false]at hh
  rcases hh with rfl|rfl<;>decide
 ·intro h hh
  simp only[smallN,List.mem_cons,List.not_mem_nil,or_false]at hh
  rcases hh with rfl|rfl<;>exact⟨by decide,by decide⟩
theorem zhH:canN (zbu smallN)=[[],[[97]],[[111]],kH,kX]:=by kernel_rfl
theorem zij:renN smallN=[]:=by kernel_rfl
theorem zcX:canN (zaV smallN)=[[],[[97]],[[111]],kH,kX]:=by kernel_rfl
set_option maxHeartbeats 2000000 in
theorem zh9(w:World):Fn Tryz.prog 43 #[] w (fun v w'=>v= .bool true∧Ext w w'):=by
 have hG:=zhG
 refine enter Tryz.func43 Tryz.ntmps43 rfl rfl ?_
 repeat refine c_r ?_
 refine rg0 ?_
 repeat refine c_r ?_
 refine rq ?_;intro gd K hgd hK
 try simp only[go_sem]
 refine Fn.mono (Small_ok w) ?_
 rintro _ w1 ⟨hE1,cs,rfl,hN⟩
 have hc:=hN.one
 try simp only[go_sem]
 refine zbv (P:=Tryz.prog) (l:=cs) (by rw[hc.1];rfl) hc.2 (by rw[hc.1];rfl) rfl ?_
 intro w2 hE2 hs2 hA
 try simp only[go_sem]
 refine hK _ _ ?_;clear hK hgd;clear K;try clear gd
 obtain⟨b1,hb1⟩:∃b,w1.heap.size=b:=⟨_,rfl⟩
 rw[hb1]at hA ⊢
 have dA:=zau (n:=4) hA hc.1.symm
 repeat refine c_r ?_
 refine rc dA (Base_ok hE2 hN hG) ?_
 rintro bv w3 ⟨hE3,hbv⟩
 refine re trivial ?_
 rw[zhH]at hbv
 obtain⟨vals,⟨ab,cb,hbe,_,hgb⟩,hvl,hvr⟩:=hbv
 have hv5:vals.length=5:=hvl
 rw[hv5]at hbe
 have dA3:=zag hE3 dA
 repeat refine c_r ?_
 refine rc dA3 (zdZ (most:=100) (hE2.trans hE3) hN hG (by decide)) ?_
 rintro _ w4 ⟨hE4,(⟨hbad,_⟩| ⟨_,lv,rfl,hlv⟩)⟩
 ·rw[zcX]at hbad;exact absurd hbad (by decide)
 refine re trivial ?_
 rw[zcX]at hlv
 obtain⟨vals2,⟨al,cl,hle,_,_⟩,hvl2,_⟩:=hlv
 have hv52:vals2.length=5:=hvl2
 rw[hv52]at hle
 have dA4:=zag hE4 dA3
 repeat refine c_r ?_
 refine rc dA4 (zdZ (most:=2) (hE2.trans (hE3.trans hE4)) hN hG (by decide)) ?_
 rintro _ w5 ⟨hE5,(⟨_,rfl⟩| ⟨hbad,_⟩)⟩
 rotate_left
 ·rw[zcX]at hbad;exact absurd hbad (by decide)
 refine re trivial ?_
 have dA5:=zag hE5 dA4
 have hr0:=hvr 0 (by omega) (by decide)
 obtain⟨a0,c0,e0,_⟩:=hr0
 have g0:=hgb 0 (by omega)
 obtain⟨xb,rfl⟩:=Option.isSome_iff_exists.1 (zad g0)
 rw[zaA,e0]at g0
 have g05:zai w5 (some xb)=some (.slice a0 0 c0):=zab (hE4.trans hE5) g0
 subst hbe hle
 have u1:decide (((5:Nat):Int)=5)=true:=rfl
 have u2:decide (((0:Nat):Int)=0)=true:=rfl
 have u3:(0:Int)<((5:Nat):Int):=by decide
 have u4:(0:Int)≤0:=by decide
 repeat refine c_r ?_
 refine rcg [(3,23),(10,30),(15,35),(19,39),(23,43)] (an9 g05 u1 u2 u3 u4 Int.toNat_zero (Nat.zero_mul 1) (zaA (some xb)) (an2 decide_true dA5)) (zdB (S:=NoS) (hE2.trans (hE3.trans (hE4.trans hE5))) (fun _ h=>h.elim) hN hG) ?_
 rintro rv w6 ⟨hE6,hR⟩
 rw[zij]at hR
 obtain⟨ar,cr,rfl,_⟩:=hR.rows.open
 refine reg [(3,23),(10,30),(15,35),(19,39),(23,43)] (an2 (show decide ((([]:List zaK).length:Int)=0)=true from rfl) u2) ?_
 repeat refine c_r ?_
 refine rt0 Tryz.ntmps43 ?_
 exact⟨rfl,hE1.trans (hE2.trans (hE3.trans (hE4.trans (hE5.trans hE6))))⟩
theorem in_any{L:List Nm}{x:Nm}(h:x∈L):(L.any fun y=>decide (zah y=zah x))=true:=List.any_eq_true.2 ⟨x,h,by simp⟩
theorem canN_k{ps:List Nm}(h:∀p∈ps,NmK p):∀x∈canN ps,NmK x:=fun _ hx=>inS_k h (mem_canN.1 hx)
theorem zeX{w:World}{v:Value}{L:List Nm}(h:NamesAt w v L):∃a c,v= .slice a L.length c∧∀i (hi:i<L.length),∃y,zai w (adr a i)=some y∧Row w y (L[i].map vs):=by
 obtain⟨vals,⟨a,c,e,_,hg⟩,hl,hr⟩:=h
 exact⟨a,c,by rw[e,hl],fun i hi=>⟨vals[i]'(by omega),hg i (by omega),hr i (by omega) hi⟩⟩
theorem zhj{ps:List Nm}{y:Nm}(h:y∈ps):inS ps (zah y):= .inr ⟨y,h,List.suffix_refl _⟩
theorem zfZ{ren:List zaK}{L:List Nm}{x y:Nm}{r:zaK}(hx:x∈L)(hr:r∈ren)(h:zbd x r=some y):y∈zaw ren L:=
 List.mem_flatMap.2 ⟨x,hx,List.mem_filterMap.2 ⟨r,hr,h⟩⟩
theorem ze6{ren:List zaK}:∀{k:Nat} {ps:List Nm} {x y:Nm} {r:zaK},x∈canN (zaR ren k ps)→r∈ren→zbd x r=some y→inS (zaR ren (k+1) ps) (zah y)
 |0,ps,x,y,r,hx,hr,h=>by
  have hy:=zhj (ps:=ps++zaw ren (canN ps)) (List.mem_append_right _ (zfZ hx hr h))
  unfold zaR
  split
  ·exact hy
  ·exact hy
 |k+1,ps,x,y,r,hx,hr,h=>by
  by_cases hc:(canN (ps++zaw ren (canN ps))).length=(canN ps).length
  ·have e1:∀j,zaR ren (j+1) ps=ps++zaw ren (canN ps):=fun j=>by unfold zaR;rw[if_pos hc]
   rw[e1]at hx ⊢
   rw[zjf (ps:=ps) (fun g=>zdV fun p hp=>List.mem_append_left _ hp) (by omega)]at hx
   exact zhj (List.mem_append_right _ (zfZ hx hr h))
  ·have e1:∀j,zaR ren (j+1) ps=zaR ren j (ps++zaw ren (canN ps)):=fun j=>if_neg hc
   rw[e1]at hx ⊢
   exact ze6 hx hr h
theorem ze7{ren:List zaK}:∀{k:Nat} {ps:List Nm} {g:Nm},inS (zaR ren k ps) g→inS (zaR ren (k+1) ps) g
 |0,ps,g,h=>zdV (fun _=>zdx) h
 |k+1,ps,g,h=>by
  by_cases hc:(canN (ps++zaw ren (canN ps))).length=(canN ps).length
  ·have e1:∀j,zaR ren (j+1) ps=ps++zaw ren (canN ps):=fun j=>by unfold zaR;rw[if_pos hc]
   rw[e1]at h ⊢
   exact h
  ·have e1:∀j,zaR ren (j+1) ps=zaR ren j (ps++zaw ren (canN ps)):=fun j=>if_neg hc
   rw[e1]at h ⊢
   exact ze7 h
def zfm(N:NetL):NetL:={N with rw:=N.rw+1}
theorem zhO{N:NetL}(h:0≤N.rw):zaV N=zaR (renN N) N.rw.toNat (zbu N)∧zaV (zfm N)=zaR (renN N) (N.rw.toNat+1) (zbu N):=by
 refine⟨rfl,?_⟩
 have e:(zfm N).rw.toNat=N.rw.toNat+1:=by show(N.rw+1).toNat=_;omega
 unfold zaV
 rw[e];rfl
theorem ziQ{N:NetL}(h:zbg N)(hw:N.rw<4):zbg (zfm N):=
 ⟨⟨h.z.hl,h.z.nm,h.z.zl,h.z.z,h.z.rl⟩,h.h1,h.r1,h.rin,⟨by have:=h.w.1;show 0≤N.rw+1;omega,by show N.rw+1≤4;omega⟩,h.f,h.zl,h.sh⟩
set_option maxHeartbeats 4000000 in
theorem zfC(W:World){cs:List Value}{N:NetL}(hN:NetAt W cs N)(hv:NumN N):
  Fn Tryz.prog 13 #[.agg cs.toArray] W (fun v w'=>v= .bool true∧Ext W w'):=by
 have hN0:=hN
 obtain⟨hsv,rv,rfl,hh,hr⟩:=hN.ex
 obtain⟨ah,ch,hhv,_⟩:=hh.open
 obtain⟨ar0,cr0,hrv,_⟩:=id hr
 have n1:=hh.isOne
 have n2:=hr.isOne
 refine enter Tryz.func13 Tryz.ntmps13 rfl rfl ?_
 repeat refine c_r ?_
 rw[hhv,hrv]
 refine rg0 ?_
 rw[←hhv,←hrv]
 repeat refine c_r ?_
 refine zaS ?_
 intro w1 hE1 hs1 hA
 have dN:zat w1 (some ⟨W.heap.size,0,Option.none⟩) 4=some [hsv,rv,vi N.rw,vi N.rf]:=zau hA rfl
 have p2:zai w1 (some ⟨W.heap.size,2,Option.none⟩)=some (vi N.rw):=zae hA rfl
 repeat refine c_r ?_
 refine rc trivial (zh9 w1) ?_
 rintro _ w2 ⟨rfl,hE2⟩
 refine re trivial ?_
 repeat refine c_r ?_
 refine wf trivial ?_
 have dN2:=zag hE2 dN
 have p22:=zab hE2 p2
 have hE12:=hE1.trans hE2
 repeat refine c_r ?_
 refine zaC (Q:=fun e σ' ds' v'=>e= .normal∧ds'=[]∧σ' 1= .pointer (some ⟨W.heap.size,0,Option.none⟩)∧Ext w2 v'∧∃bb,σ' 23= .bool bb∧(bb=false→zbg N∧N.rw<4)) ?_ ?_
 ·refine rcg [(3,19)] dN2 (zjB w2 (hN0.ext hE12) hv) ?_
  rintro _ w3 ⟨hE3,b,rfl,hb⟩
  cases b with
  |false=>
   refine reg [(3,19)] Bool.not_false ?_
   exact⟨rfl,rfl,vq0,hE3,_,vr0,fun h=>by cases h⟩
  |true=>
   by_cases h4:N.rw≥4
   ·refine reg [(3,19)] (an4 (zab hE3 p22) Nat.zero_add Bool.not_true (decide_eq_true h4)) ?_
    exact⟨rfl,rfl,vq0,hE3,_,vr0,fun h=>by cases h⟩
   ·refine reg [(3,19)] (an4 (zab hE3 p22) Nat.zero_add Bool.not_true (decide_eq_false h4)) ?_
    exact⟨rfl,rfl,vq0,hE3,_,vr0,fun _=>⟨hb rfl,by omega⟩⟩
 rintro _ σ1 _ w3 ⟨rfl,rfl,s1,hE3,bb,s23,hbb⟩
 have hE13:=hE12.trans hE3
 repeat refine c_r ?_
 cases bb with
 |true=>
  refine wt s23 ?_
  repeat (first|refine c_r ?_|refine rg0 ?_)
  refine rt0 Tryz.ntmps13 ?_
  exact⟨rfl,hE13⟩
 |false=>
 refine wf s23 ?_
 obtain⟨hG,hw4⟩:=hbb rfl
 clear hbb s23
 have hG':=ziQ hG hw4
 obtain⟨m1,m2⟩:=zhO hG.w.1
 have hbk:=zgm hG
 have hFk:∀p∈zaV N,NmK p:=zft hbk
 have hFk':∀p∈zaV (zfm N),NmK p:=by rw[m2];exact zft hbk
 have hLk:=canN_k hFk
 have hLk':=canN_k hFk'
 have hsub:∀x∈canN (zaV N),x∈canN (zaV (zfm N)):=fun x hx=>by
  rw[m2];rw[m1]at hx
  exact mem_canN.2 (ze7 (mem_canN.1 hx))
 have hlen:(canN (zaV N)).length≤(canN (zaV (zfm N))).length:=zbn (zbG _).nodup hsub
 have hstep:∀x∈canN (zaV N),∀r∈renN N,∀y,zbd x r=some y→((canN (zaV (zfm N))).any fun z=>decide (zah z=zah y))=true:=fun x hx r hr y h=>by
  rw[m1]at hx
  have h1:=ze6 hx hr h
  rw[←m2]at h1
  exact List.any_eq_true.2 ⟨zah y,mem_canN.2 h1,by simp[ze0]⟩
 have hro:∀r∈renN N,zbH r:=zha (zed hG)
 have hrl:(renN N).length≤1000000000:=by
  have h1:=zdp hG
  have h2:=zg9 (l:=zcV N)
  unfold renN;omega
 clear m1 m2
 obtain⟨L,hL⟩:∃L,canN (zaV N)=L:=⟨_,rfl⟩
 obtain⟨M,hM⟩:∃M,canN (zaV (zfm N))=M:=⟨_,rfl⟩
 obtain⟨ren,hren⟩:∃r,renN N=r:=⟨_,rfl⟩
 rw[hL]at hLk hsub hlen hstep
 rw[hM]at hLk' hsub hlen hstep
 rw[hren]at hstep hro hrl
 have dN3:=zag hE3 dN2
 repeat refine c_r ?_
 refine zaC (Q:=fun e σ' ds' v'=>e= .normal∧ds'=[]∧σ' 1= .pointer (some ⟨W.heap.size,0,Option.none⟩)∧Ext w3 v'∧((300<(L.length:Int)∧σ' 3= .slice Option.none 0 0∧σ' 4=vi 11)∨((L.length:Int)≤300∧σ' 4=vi 0∧∃lv,σ' 3=lv∧NamesAt v' lv L))) ?_ ?_
 ·refine rc (an2 s1 dN3) (zdZ (most:=300) hE13 hN0 hG (by decide)) ?_
  rintro _ w4 ⟨hE4,(⟨h3,rfl⟩| ⟨hm,lv,rfl,hlv⟩)⟩
  ·rw[hL]at h3
   refine re trivial ?_
   exact⟨rfl,rfl,(vq1 s1),hE4,.inl ⟨h3,vq0,vq0⟩⟩
  ·rw[hL]at hm hlv
   refine re trivial ?_
   exact⟨rfl,rfl,(vq1 s1),hE4,.inr ⟨hm,vq0,lv,vq0,hlv⟩⟩
 clear s1
 rintro _ σ2 _ w4 ⟨rfl,rfl,s1,hE4,hcase⟩
 have dN4:=zag hE4 dN3
 have hE14:=hE13.trans hE4
 repeat refine c_r ?_
 refine rq ?_;intro gd K hgd hK
 try simp (disch:=first|omega|assumption|rfl) only[go_sem,s1,dN4]
 refine zbv (P:=Tryz.prog) (l:=[hsv,rv,vi N.rw,vi N.rf]) rfl (fun q hq=>by simp at hq;rcases hq with rfl|rfl|rfl|rfl<;>first|assumption|rfl) rfl rfl ?_
 intro w5 hE5 hs5 hB
 try simp only[go_sem]
 refine hK _ _ ?_;clear hK hgd;clear K;try clear gd
 obtain⟨b5,hb5⟩:∃b,w4.heap.size=b:=⟨_,rfl⟩
 rw[hb5]at hB hs5 ⊢
 have p25:=zab (hE3.trans (hE4.trans hE5)) p22
 have hww:=hG.w
 repeat refine c_r ?_
 refine rq ?_;intro gd K hgd hK
 try simp (disch:=first|omega|assumption|rfl) only[go_sem,s1,p25,Nat.zero_add]
 refine zff (P:=Tryz.prog) (t:=3) (j:=2) (u:=vi (N.rw+1)) (l:=[hsv,rv,vi N.rw,vi N.rf]) hB (by simp) rfl rfl rfl ?_
 intro w6 hs6 hB6 hk6
 try simp only[go_sem]
 refine hK _ _ ?_;clear hK hgd;clear K;try clear gd
 have hE46:Ext w4 w6:=Keep.to_ext hE5 rfl (fun b hb=>by omega) hk6
 have hE16:=hE14.trans hE46
 have hN':NetAt W [hsv,rv,vi (N.rw+1),vi N.rf] (zfm N):=⟨hsv,rv,rfl,hh,hr⟩
 have dM:zat w6 (some ⟨b5,0,Option.none⟩) 4=some [hsv,rv,vi (N.rw+1),vi N.rf]:=zau hB6 rfl
 repeat refine c_r ?_
 refine rc dM (zdZ (most:=300) hE16 hN' hG' (by decide)) ?_
 rintro _ w7 ⟨hE7,(⟨_,rfl⟩| ⟨hm',mv,rfl,hmv⟩)⟩
 ·refine re trivial ?_
  repeat refine c_r ?_
  refine rg0 ?_
  repeat refine c_r ?_
  refine wt trivial ?_
  repeat refine c_r ?_
  refine rg0 ?_
  repeat refine c_r ?_
  refine rt0 Tryz.ntmps13 ?_
  exact⟨rfl,hE16.trans hE7⟩
 rw[hM]at hm' hmv
 rcases hcase with ⟨h3,_⟩| ⟨hm,s4,lv,s3,hlv4⟩
 ·exfalso;omega
 have hE17:=hE16.trans hE7
 have hlv:=hlv4.ext (hE46.trans hE7)
 obtain⟨al,cl,rfl,hgl⟩:=zeX hlv
 obtain⟨am,cm,rfl,hgm⟩:=zeX hmv
 refine re trivial ?_
 repeat refine c_r ?_
 refine rg0 ?_
 repeat refine c_r ?_
 refine wf trivial ?_
 have dN7:=zag (hE46.trans hE7) dN4
 repeat refine c_r ?_
 refine rgg [(2,46)] (an5 s4 s3 decide_true Bool.not_true (show decide ((M.length:Int)<(L.length:Int))=false from decide_eq_false (by omega))) ?_
 repeat refine c_r ?_
 refine wf trivial ?_
 repeat refine c_r ?_
 refine rg0 ?_
 repeat refine c_r ?_
 refine zaj (fun m σ ds v=>ds=[]∧∃i:Nat,i+m=L.length∧σ 8=vi i∧σ 3= .slice al L.length cl∧σ 6= .slice am M.length cm∧σ 1= .pointer (some ⟨W.heap.size,0,Option.none⟩)∧Ext w7 v) L.length ?_ ?_
 ·exact⟨rfl,0,by omega,vr0,(vq1 s3),vq0,(vq1 s1),Keep.refl _ _⟩
 clear s1 s3 s4
 rintro m σ ds v ⟨rfl,i,him,s8,s3,s6,s1,hEv⟩
 repeat refine c_r ?_
 refine rg2 s8 s3 ?_
 repeat refine c_r ?_
 refine wc0 ?_ ?_
 ·intro hlt
  simp only[decide_eq_true_eq]at hlt
  have hi:i<L.length:=by omega
  have hi0:(0:Int)≤(i:Int):=by omega
  have hi1':(i:Int)+1=((i+1:Nat):Int):=by push_cast;rfl
  obtain⟨y,gy,hy⟩:=hgl i hi
  have gyv:=zab hEv gy
  obtain⟨xa,rfl⟩:=Option.isSome_iff_exists.1 (zad gyv)
  have hxm:=List.getElem_mem hi
  repeat refine c_r ?_
  refine rc (an6 s8 s3 s6 hi0 hlt gyv) (In_ok v _ y M L[i] (hmv.ext hEv) (hy.ext hEv) hLk' (by omega) (hLk _ hxm).m) ?_
  rintro _ v1 ⟨hE8,rfl⟩
  rw[in_any (hsub _ hxm)]
  refine re trivial ?_
  repeat refine c_r ?_
  refine wf trivial ?_
  repeat refine c_r ?_
  refine rg2 s8 hi1' ?_
  repeat refine c_r ?_
  exact⟨m - 1,by omega,rfl,i+1,by omega,vq0,(vq1 s3),(vq1 s6),(vq1 s1),hEv.trans hE8⟩
 ·intro hge
  clear hge
  have dNv:=zag hEv dN7
  repeat refine c_r ?_
  refine rc (an2 s1 dNv) (zdB (S:=NoS) (hE17.trans hEv) (fun _ h=>h.elim) hN0 hG) ?_
  rintro rnv v1 ⟨hE8,hR⟩
  rw[hren]at hR
  obtain⟨ar,cr,rfl,_,hgr⟩:=hR.rows.open
  refine re trivial ?_
  have hEv1:=hEv.trans hE8
  repeat refine c_r ?_
  refine rg0 ?_
  repeat refine c_r ?_
  refine zaj (fun m σ ds v=>ds=[]∧∃k:Nat,k+m=ren.length∧σ 10=vi k∧σ 9= .slice ar ren.length cr∧σ 3= .slice al L.length cl∧σ 6= .slice am M.length cm∧Ext v1 v) ren.length ?_ ?_
  ·exact⟨rfl,0,by omega,vr0,vq0,(vq1 s3),(vq1 s6),Keep.refl _ _⟩
  clear s8 s3 s6 s1 him
  rintro m2 σ2 ds2 v2 ⟨rfl,k,hkm,s10,s9,s3,s6,hEv2⟩
  repeat refine c_r ?_
  refine rg2 s10 s9 ?_
  repeat refine c_r ?_
  refine wc0 ?_ ?_
  ·intro hlt
   simp only[decide_eq_true_eq]at hlt
   have hk:k<ren.length:=by omega
   have hk0:(0:Int)≤(k:Int):=by omega
   have hk1':(k:Int)+1=((k+1:Nat):Int):=by push_cast;rfl
   obtain⟨pcs,hpc,hP⟩:=hgr k hk
   have hrm:=List.getElem_mem hk
   obtain⟨r,hre⟩:∃r,ren[k]=r:=⟨_,rfl⟩
   rw[hre]at hP hrm
   have hro1:=hro r hrm
   obtain⟨p1,p2',rfl,hp1,hp2⟩:=hP.ex
   obtain⟨xr,rfl⟩:=Option.isSome_iff_exists.1 (zam hpc)
   obtain⟨xk,hxk⟩:∃xi,adr (some xr) (k*2)=some xi:=⟨_,rfl⟩
   rw[hxk]at hpc
   have c0:=zay (j:=0) hpc rfl
   rw[zaA]at c0
   have c1:=zay (j:=1) hpc rfl
   obtain⟨x1,hx1⟩:∃x,adr (some xk) 1=some x:=⟨_,rfl⟩
   rw[hx1]at c1
   repeat refine c_r ?_
   refine rg0 ?_
   repeat refine c_r ?_
   refine zaj (fun m σ ds v=>ds=[]∧∃i:Nat,i+m=L.length∧σ 11=vi i∧σ 10=vi k∧σ 9= .slice (some xr) ren.length cr∧σ 3= .slice al L.length cl∧σ 6= .slice am M.length cm∧Ext v1 v) L.length ?_ ?_
   ·exact⟨rfl,0,by omega,vr0,(vq1 s10),(vq1 s9),(vq1 s3),(vq1 s6),hEv2⟩
   clear s10 s9 s3 s6 hEv2
   rintro m3 σ3 ds3 v3 ⟨rfl,i,him,s11,s10,s9,s3,s6,hEv3⟩
   repeat refine c_r ?_
   refine rg2 s11 s3 ?_
   repeat refine c_r ?_
   refine wc0 ?_ ?_
   ·intro hlt2
    simp only[decide_eq_true_eq]at hlt2
    have hi:i<L.length:=by omega
    have hi0:(0:Int)≤(i:Int):=by omega
    have hi1':(i:Int)+1=((i+1:Nat):Int):=by push_cast;rfl
    have hE73:=hEv1.trans hEv3
    obtain⟨y,gy0,hy⟩:=hgl i hi
    have gy:=zab hE73 gy0
    obtain⟨xa,rfl⟩:=Option.isSome_iff_exists.1 (zad gy)
    have hxm:=List.getElem_mem hi
    have hxk9:=hLk _ hxm
    have c03:=zab hEv3 c0
    have c13:=zab hEv3 c1
    have hz0:adr (some xk) 0=some xk:=zaA _
    have t1:(1:Int).toNat=1:=rfl
    repeat refine c_r ?_
    refine zaC (Q:=fun e σ' ds' v'=>e= .normal∧ds'=[]∧σ' 11=vi i∧σ' 10=vi k∧σ' 9= .slice (some xr) ren.length cr∧σ' 3= .slice (some xa) L.length cl∧σ' 6= .slice am M.length cm∧Ext v3 v'∧∃(sv:Value) (e:Int),σ' 12=sv∧σ' 13=vi e∧
     ((e=0∧∃y,zbd L[i] r=some y∧Row v' sv (y.map vs))∨e≠0)) ?_ ?_
    ·refine zaG (fun _=>false) [(0,true),(1,true),(2,true),(3,true),(4,true),(5,true),(6,true),(7,true),(8,true),(9,true),(10,true),(11,true),(12,true),(13,true),(14,false),(15,true),(16,true),(17,true),(18,true),(19,true)] NoS mixed (by kernel_rfl) ?_;intro gd K x hgd hx hxe hK;clear hxe
     have gyx:=zab hx gy
     have c0x:=zab hx c03
     have c1x:=zab hx c13
     have hv1x:=hEv3.trans hx
     simp (disch:=first|omega|assumption|rfl) only[go_sem,s11,s10,s9,s3,hi0,hlt2,hk0,hlt,gyx,hxk,hz0,hx1,t1,Int.toNat_zero,c0x,c1x]
     refine Fn.mono (zhz x y p2' p1 L[i] r (hy.ext (hE73.trans hx)) (hp2.1.ext hv1x) (hp1.1.ext hv1x) hxk9.m hro1) ?_
     rintro _ x9 ⟨hx9,(⟨z,sv,hsw,rfl,hz,_⟩| ⟨e,hsw,rfl,he⟩)⟩
     ·refine⟨.inr hx9,?_⟩
      simp (disch:=first|omega|assumption|rfl) only[go_sem]
      refine hK _ _ ?_;clear hK hgd;clear K;try clear gd
      exact⟨rfl,rfl,(vq1 s11),(vq1 s10),(vq1 s9),(vq1 s3),(vq1 s6),hx.trans hx9,sv,0,vq0,vr0,.inl ⟨rfl,z,hsw,hz⟩⟩
     ·refine⟨.inr hx9,?_⟩
      simp (disch:=first|omega|assumption|rfl) only[go_sem]
      refine hK _ _ ?_;clear hK hgd;clear K;try clear gd
      exact⟨rfl,rfl,(vq1 s11),(vq1 s10),(vq1 s9),(vq1 s3),(vq1 s6),hx.trans hx9,_,e,vr0,vq0,.inr he⟩
    clear s11 s10 s9 s3 s6
    rintro _ σ4 _ v4 ⟨rfl,rfl,s11,s10,s9,s3,s6,hE9,sv,e,s12,s13,hc⟩
    have hE74:=hE73.trans hE9
    repeat refine c_r ?_
    rcases hc with ⟨rfl,z,hsw,hz⟩|hne
    ·have hany:=hstep _ hxm r hrm z hsw
     have hzk:NmK z:=zbc (zdR hsw)
     refine rcg [(2,100)] (an4 s12 s13 s6 decide_true) (In_ok v4 _ sv M z (hmv.ext hE74) hz hLk' (by omega) hzk.m) ?_
     rintro _ v5 ⟨hE10,rfl⟩
     rw[hany]
     refine reg [(2,100)] Bool.not_true ?_
     repeat refine c_r ?_
     refine wf trivial ?_
     repeat refine c_r ?_
     refine rg2 s11 hi1' ?_
     repeat refine c_r ?_
     exact⟨m3 - 1,by omega,rfl,i+1,by omega,vq0,(vq1 s10),(vq1 s9),(vq1 s3),(vq1 s6),hEv3.trans (hE9.trans hE10)⟩
    ·refine rgg [(2,100)] (an2 s13 (decide_eq_false hne)) ?_
     repeat refine c_r ?_
     refine wf trivial ?_
     repeat refine c_r ?_
     refine rg2 s11 hi1' ?_
     repeat refine c_r ?_
     exact⟨m3 - 1,by omega,rfl,i+1,by omega,vq0,(vq1 s10),(vq1 s9),(vq1 s3),(vq1 s6),hEv3.trans hE9⟩
   ·intro hge
    clear hge
    repeat refine c_r ?_
    refine rg2 s10 hk1' ?_
    repeat refine c_r ?_
    exact⟨m2 - 1,by omega,rfl,k+1,by omega,vq0,(vq1 s9),(vq1 s3),(vq1 s6),hEv3⟩
  ·intro hge
   clear hge
   repeat refine c_r ?_
   refine rg0 ?_
   repeat refine c_r ?_
   refine rt0 Tryz.ntmps13 ?_
   exact⟨rfl,hE17.trans (hEv1.trans hEv2)⟩
end Go.Proofs.YtopbbjdembnfdaaGreat
namespace Go.Proofs.YtopbbjdembnfdaaGreat.closeSwaps
open Go Go.Proofs.YtopbbjdembnfdaaGreat
theorem j1:(Rows.closeSwapsRow.inPlace==Tryz.pinned.checked.prog.inPlace 13)=true:=by kernel_rfl
theorem j2:(Rows.closeSwapsRow.unfollowed==Tryz.pinned.checked.prog.unfollowed 13)=true:=by kernel_rfl
theorem j3:(Rows.closeSwapsRow.recurses==Tryz.pinned.checked.prog.recurses 13)=true:=by kernel_rfl
theorem j4:(Rows.closeSwapsRow.named==Tryz.pinned.checked.prog.varsNamed 13)=true:=by kernel_rfl
theorem j5:(Tryz.pinned.checked.prog.mayEnter)=true:=by kernel_rfl
theorem j6:(Rows.closeSwapsRow.lifted==Tryz.pinned.checked.prog.liftsFinal)=true:=by kernel_rfl
theorem joined:joinedFacts Tryz.pinned.checked.prog 13 Tryz.f13 Rows.closeSwapsSpec Rows.closeSwapsRow=true:=by
 unfold joinedFacts
 rw[j1,j2,j3,j4,j5,j6]
 kernel_rfl
end Go.Proofs.YtopbbjdembnfdaaGreat.closeSwaps
namespace Go.Proofs.YtopbbjdembnfdaaGreat
open Go
set_option maxRecDepth 100000
theorem zit{w:World}{α:Type}{k:Nat}{C:List Value→α→Prop}{Q:α→Prop}{v:Value}{L:List (List Value)}(hL:RowK k w v L)(h:∀cs∈L,∃a,C cs a∧Q a):∃R:List α,Rows k C w v R∧∀a∈R,Q a:=by
 have:∀L:List (List Value),(∀cs∈L,∃a,C cs a∧Q a)→∃R:List α,L.length=R.length∧(∀i (h:i<L.length) (h':i<R.length),C L[i] R[i])∧∀a∈R,Q a:=fun L=>by
  induction L with
  |nil=>intro _;exact⟨[],rfl,fun i h=>by simp at h,fun r h=>by cases h⟩
  |cons cs L ih=>
   intro h
   obtain⟨r,h1,h2⟩:=h cs (List.mem_cons_self ..)
   obtain⟨R,a1,a2,a3⟩:=ih (fun x hx=>h x (List.mem_cons_of_mem _ hx))
   refine⟨r::R,by simp[a1],fun i a b=>?_,fun x hx=>?_⟩
   ·cases i with
    |zero=>exact h1
    |succ i=>exact a2 i (by simpa using a) (by simpa using b)
   ·rcases List.mem_cons.1 hx with rfl|hx
    ·exact h2
    ·exact a3 x hx
 obtain⟨R,a1,a2,a3⟩:=this L h
 exact⟨R,⟨L,hL,a1,a2⟩,a3⟩
section
variable {H : Type} {enc : TypeId × Value → H} {w : World} {base : Nat} {sp : Nat → Bool} {held : Bool}
theorem zfj{P:Program}{t:TypeId}{n:Nat}{c:Value}{x:DataW H×List MemPlace}(ht:P.underlying t=some (.int .u8))(h:DataW.trod enc P w base sp held n t [c]=some x):∃b:UInt8,c=zaf b:=by
 obtain⟨m,h1,_,h2⟩:=DataW.trod_int ht h
 have hb:=wf_u8 h2
 obtain⟨k,rfl⟩:∃k:Nat,m=(k:Int):=⟨m.toNat,by omega⟩
 exact⟨UInt8.ofNat k,by rw[List.head_eq_of_cons_eq h1,zht (by omega)]⟩
theorem rd_addr{t e:TypeId}{c0 c1 c2 c3:Value}{P:Program}(h:RdC enc P w base sp held t [c0,c1,c2,c3])(ht:P.underlying t=some (.array 4 e))(hc:P.cellsOf e=1)(he:P.underlying e=some (.int .u8)):
  ∃a b c d:UInt8,c0=zaf a∧c1=zaf b∧c2=zaf c∧c3=zaf d:=by
 obtain⟨n,x,h,_⟩:=h
 obtain⟨_,_,_,_,_,_,h0,h1,h2,h3⟩:=Go.ChangeShapes.trod_array4 ht hc h
 obtain⟨a,ha⟩:=zfj he h0
 obtain⟨b,hb⟩:=zfj he h1
 obtain⟨c,hc⟩:=zfj he h2
 obtain⟨d,hd⟩:=zfj he h3
 exact⟨a,b,c,d,ha,hb,hc,hd⟩
theorem rd_zone{cs:List Value}(h:RdC enc Tryz.prog w base sp held 34 cs):∃z:zdA,ZoneC w cs z∧NumR z.recs:=by
 obtain⟨hl,hf⟩:=zda h rfl
 have hl2:cs.length=2:=hl
 match cs,hl2 with
 | [c0,c1],_=>
  obtain⟨o,n0,_⟩:=zef (P:=Tryz.prog) (RdC.one (hf 0 _ rfl)) (e:=9) rfl rfl rfl rfl
  obtain⟨R,h1,h2⟩:=rd_recs (RdC.one (hf 1 _ rfl))
  exact⟨⟨o,R⟩,⟨c0,c1,rfl,n0,h1⟩,h2⟩
theorem rd_host{cs:List Value}(h:RdC enc Tryz.prog w base sp held 160 cs):∃z:zeT,HostC w cs z∧∀x∈z.zones,NumR x.recs:=by
 obtain⟨hl,hf⟩:=zda h rfl
 have hl6:cs.length=6:=hl
 match cs,hl6 with
 | [c0,c1,c2,c3,c4,c5],_=>
  obtain⟨o,n0,_⟩:=zef (P:=Tryz.prog) (RdC.one (hf 0 _ rfl)) (e:=9) rfl rfl rfl rfl
  have h1:RdC enc Tryz.prog w base sp held 157 [c1,c2,c3,c4]:=hf 1 _ rfl
  obtain⟨a,b,c,d,rfl,rfl,rfl,rfl⟩:=rd_addr h1 rfl rfl (e:=5) rfl
  have h5:RdC enc Tryz.prog w base sp held 158 [c5]:=hf 2 _ rfl
  obtain⟨L,hL,hall,_⟩:=zee (RdC.one h5) (e:=34) (k:=2) rfl rfl
  obtain⟨R,r1,r2⟩:=zit hL (fun cs hcs=>rd_zone (hall cs hcs))
  exact⟨⟨o,[a,b,c,d],R⟩,⟨c0,a,b,c,d,c5,rfl,rfl,n0,r1⟩,r2⟩
theorem rd_net{cs:List Value}(h:RdC enc Tryz.prog w base sp held 65 cs):∃N:NetL,NetAt w cs N∧NumN N:=by
 obtain⟨hl,hf⟩:=zda h rfl
 have hl4:cs.length=4:=hl
 match cs,hl4 with
 | [c0,c1,c2,c3],_=>
  obtain⟨L,hL,hall,_⟩:=zee (RdC.one (hf 0 _ rfl)) (e:=160) (k:=6) rfl rfl
  obtain⟨R,r1,r2⟩:=zit hL (fun cs hcs=>rd_host (hall cs hcs))
  obtain⟨roots,n2,_⟩:=zgy (RdC.one (hf 1 _ rfl)) (e:=3) (k:= .i64) rfl rfl rfl
  obtain⟨a,e2,_⟩:=zfL (hf 2 _ rfl) (k:= .i64) rfl
  obtain⟨b,e3,_⟩:=zfL (hf 3 _ rfl) (k:= .i64) rfl
  have e2':c2=vi a:=List.head_eq_of_cons_eq (show [c2]=[vi a] from e2)
  have e3':c3=vi b:=List.head_eq_of_cons_eq (show [c3]=[vi b] from e3)
  exact⟨⟨R,roots,a,b⟩,⟨c0,c1,by rw[e2',e3'],r1,n2⟩,r2⟩
end
theorem zgx{H:Type}{enc:TypeId×Value→H}{P:Program}{w:World}{base:Nat}{sp:Nat→Bool}{held:Bool}{t:TypeId}{cs:Array Value}{d:DataW H}{p:List MemPlace}{ts:List TypeId}{ds:List (DataW H)}(h:DataW.Trod enc P w base sp held t (.agg cs) d p)
  (hw:∀x∈DataW.weightsEach P ts ds,x≤reachBytes) {j:Nat} (ht:ts[j]? =some t) (hd:ds[j]? =some d):RdC enc P w base sp held t cs.toList:=by
 obtain⟨n,h⟩:=h
 exact⟨n,_,h,fun k hk=>hw k (DataW.weights_mem_each ht hd k hk)⟩
end Go.Proofs.YtopbbjdembnfdaaGreat
namespace Go.Proofs.YtopbbjdembnfdaaGreat.closeSwaps
open Go Go.Proofs.YtopbbjdembnfdaaGreat Go.ChangeShapes Go.WideShapes Go.ChangeAt Go.RowKit
theorem own:ownKnob Tryz.prog.godebug=none:=by kernel_rfl
set_option maxRecDepth 100000 in
theorem lifted(os:Os)(started:os.Started)(H:Type)(enc:TypeId×Value→H):
  ReturnsInHanded {} Tryz.checked os 13 .any (Rows.closeSwapsSpec.pre6 enc Tryz.prog Tryz.f13 Rows.closeSwapsRow.domain false) (Rows.closeSwapsSpec.post enc Tryz.prog Tryz.f13 false true false false):=by
 refine law_lift (C:=Tryz.checked) own started (by kernel_rfl) Tryz.func13
  (ChangeSpec.witness6 (enc:=enc) (C:=Tryz.checked) false ⟨#[],#[.agg #[.slice Option.none 0 0,.slice Option.none 0 0,.int .i64 0,.int .i64 0]],[]⟩ 8 (by kernel_rfl) (by kernel_rfl) (by kernel_rfl) (by kernel_rfl)) rfl ?_ (tb:=4) rfl rfl (by kernel_rfl) (by kernel_rfl) ?_
 ·intro ds hds
  match ds,hds with
  | [d0],_=>rfl
 ·intro W base args ds p hval hA0 hw0
  have hA:DataW.TrodAll enc Tryz.prog W 0 (fun _=>true) true [65] args ds p:=hA0
  have hw:∀x∈DataW.weightsEach Tryz.prog [65] ds,x≤reachBytes:=hw0
  obtain⟨v0,vs0,d0,ds0,p0,q0,rfl,rfl,rfl,h0,r0⟩:=trodAll_cons hA
  obtain⟨rfl,rfl,rfl⟩:=trodAll_nil r0
  obtain⟨a0,rfl,_⟩:=okWide_struct rfl (hval 0 _ _ rfl rfl)
  obtain⟨x0,f0,g0⟩:=rd_net (zgx h0 hw (j:=0) rfl rfl)
  exact zfC W f0 g0
theorem over:Rows.closeSwapsRow.holds Tryz.pinned (OpenSpec.ofChange Rows.closeSwapsSpec):=
 OpenClaim.holds_of_wide 13 Tryz.f13 rfl rfl rfl rfl rfl rfl rfl ⟨rfl,rfl,rfl,rfl,rfl⟩ rfl rfl rfl rfl rfl (by kernel_rfl) Tryz.func13 joined
  (of_decide_eq_true (by kernel_rfl)) (by unfold Func.isWrapper;first| (rw[if_pos (by decide+kernel)];kernel_rfl)| (rw[if_neg (by decide+kernel)];exact⟨rfl,rfl⟩))
  (fun os started H enc _=>lifted os started H enc)
theorem proved:Rows.CloseSwapsSaid:=over
end Go.Proofs.YtopbbjdembnfdaaGreat.closeSwaps
