/-
  Texts of a proof, joined: RC, RD, K36, RE, RF.
  Conditions: none.
-/
import Derived.Test.YtahbdamijngmmaaGreatJPA14
import Derived.Test.YtahbdamijngmmaaGreatJPA11
set_option linter.unusedVariables false
set_option linter.unusedSimpArgs false
set_option linter.defProp false
set_option linter.unnecessarySimpa false
set_option maxHeartbeats 8000000
namespace Go.Proofs.YtahbdamijngmmaaGreat
open Go
set_option maxRecDepth 10000
def zeW(N:NetL)(x:zav×Bool):Lab:=zgV N x.1.sv++ [32]++zaL x.1.name
def wayF(N:NetL)(F:List (zav×Bool)):List Lab:=if F=[] then [] else F.map (zeW N)++ [zhf (F.getLastD (stZ,false)).1.fin]
def zfw(N:NetL)(s:zeE):List Lab:=wayF N ((zbi N s.ty s.picks (zcd N s.name)).takeWhile (·.2))
theorem zd3{pre suf:List (zav×Bool)}(h:∀x∈pre,x.2=true)(hs:suf=[]\/∃x r,suf=x::r/\x.2=false):(pre++suf).takeWhile (·.2)=pre:=by
 induction pre with
 |nil=>
  rcases hs with rfl| ⟨x,r,rfl,hx⟩
  ·rfl
  ·rw[List.nil_append,List.takeWhile_cons,hx];rfl
 |cons a l ih=>
  rw[List.cons_append,List.takeWhile_cons,h a (by simp)]
  simp[ih fun x hx=>h x (by simp[hx])]
theorem zd8{N:NetL}{t:Int}:∀{ch:List Int} {L:List zav},(zbi N t ch L).length<=ch.length
 | [],_=>Nat.le_refl _
 |c::cs,L=>by
  unfold zbi
  split
  ·simp
  ·split
   ·rw[List.length_cons,List.length_cons]
    exact Nat.succ_le_succ zd8
   ·simp
theorem ziU{w0 w:World}(hE0:Ext w0 w){cs sc:List Value}{N:NetL}{s:zeE}(hN:NetAt w0 cs N)(hG:zby N)(hs:SeenC w sc s)(hgq:zbX s.name=true)(hp:s.picks.length<=1000000):
  Fn Tryz.prog 52 #[.agg cs.toArray,.agg sc.toArray] w (fun v w'=>Row w' v ((zfw N s).map vs)/\Ext w w'):=by
 have hN0:=hN
 obtain⟨hsv,rv,rfl,hh,hr⟩:=id hN.ex
 obtain⟨ah,ch0,hhv,_⟩:=hh.open
 obtain⟨ar0,cr0,hrv,_⟩:=id hr
 obtain⟨qv,cv,rfl,hq,hcv⟩:=hs.ex
 obtain⟨aq,cq,hqe,_⟩:=id hq
 obtain⟨ac,cc,hce,_⟩:=id hcv
 refine enter Tryz.func52 Tryz.ntmps52 rfl rfl ?_
 repeat refine c_r ?_
 rw[hhv,hrv,hqe,hce]
 refine go trivial ?_
 rw[←hhv,←hrv,←hqe,←hce,zai,zai,zai]
 refine zcz ?_
 intro w1 hE1 hs1 hA hB hC
 obtain⟨b,hb⟩:∃b,w.heap.size=b:=⟨_,rfl⟩
 rw[hb]at hA hB hC hs1 ⊢
 rw[show b+1+1=b+2 from rfl]at hC ⊢
 refine rq ?_;intro gd K hgd hK
 try simp only[go_sem]
 rw[hs1]
 refine zkP ?_
 intro z hEz hsz hD
 rw[hs1]at hD
 refine zda rfl rfl rfl hD (by simp) (by simp) ?_
 intro w2 hs2 hD2 hk2
 try simp only[go_sem]
 refine hK _ _ ?_;clear hK hgd;clear K;try clear gd
 have hE2:Ext w1 w2:=Keep.to_ext hEz rfl (fun i hi=>by omega) hk2
 have hA2:=Ext.at hE2 hA
 have hB2:=Ext.at hE2 hB
 have hC2:=Ext.at hE2 hC
 have hEw2:=hE1.trans hE2
 have hz2:w2.heap.size=b+4:=by omega
 have dN:zan w2 (some ⟨b,0,Option.none⟩) 4=some [hsv,rv,vi N.rw,vi N.rf]:=zae hA2 rfl
 have g1:zad w2 (some ⟨b+1,1,Option.none⟩)=some qv:=zab hB2 rfl
 have g2:zad w2 (some ⟨b+1,2,Option.none⟩)=some (vi s.ty):=zab hB2 rfl
 have g3:zad w2 (some ⟨b+1,3,Option.none⟩)=some cv:=zab hB2 rfl
 clear hEz hsz hD hs2 hk2 hA hB hC
 refine go trivial ?_
 refine rc (an5 dN g1 g2 g3 Nat.zero_add) (zjL w2) ?_
 rintro _ w3 ⟨rfl,hE3,hs3,k1,k2,k3,k4⟩
 refine re trivial ?_
 obtain⟨m,hm⟩:∃m,w2.heap.size=m:=⟨_,rfl⟩
 rw[hm]at k1 k2 k3 k4 hs3 hz2 ⊢
 have k2':w3.heap[m+1]? =some (.cells #[qv] 27 (0,0)):=by rw[k2,hqe];rfl
 have k4':w3.heap[m+3]? =some (.cells #[cv] 23 (0,0)):=by rw[k4,hce];rfl
 have hC3:=Ext.at hE3 hC2
 have hD3:=Ext.at hE3 hD2
 have dN3:=zac hE3 dN
 have hEw3:=hEw2.trans hE3
 obtain⟨F,hF⟩:∃F,zbi N s.ty s.picks (zcd N s.name)=F:=⟨_,rfl⟩
 have hFl:F.length<=1000000:=by rw[←hF];exact Nat.le_trans zd8 hp
 have hFg:=zfs (t:=s.ty) (ch:=s.picks) hG (zfk hG hgq)
 rw[hF]at hFg
 unfold zfw
 rw[hF]
 refine c_r ?_
 refine zaw (Q:=fun e σ' ds' v=>e= .normal/\ds'=[{target:= .collected w3.heap.size,args:=#[]}]/\(σ' 5= .pointer (some ⟨b+2,0,Option.none⟩)/\σ' 6= .pointer (some ⟨b+3,0,Option.none⟩))/\v.heap[w3.heap.size]? =some (.deferred (some []))/\w3.heap.size+2<=v.heap.size/\
  ∃G ov,F.takeWhile (·.2)=G/\v.heap[b+2]? =some (.cells #[ov] 26 (0,0))/\v.heap[b+3]? =some (.cells #[vi (G.getLastD (stZ,false)).1.fin] 3 (0,0))/\Own (w3.heap.size+2) v 9 ov ((G.map (zeW N)).map vs)/\Ext w v/\G.length<=1000000) ?_ ?_
 ·refine c_r ?_
  refine zek (own:=0) (n0:=w3.heap.size) (C:=fun i=>i=b+2\/i=b+3) (W0:=w3) (vq0) (by rfl)
   (zlc (w0:=w0) (w1:=w) (t:=s.ty) (ch:=s.picks) (q:=s.name) hE0 hEw3 k1 k2' k4' k3 (fun i hi=>by omega) (by omega) hN0 hG hq hgq hcv (by omega)) (Keep.refl _ _) (Nat.le_refl _) (fun i hi=>by omega)
   (fun x U A args h=>by obtain⟨nv,rfl,_⟩:=h;rfl)
   (fun pre U A=>(∀x∈pre,x.2=true)/\∃ov,A.heap[b+2]? =some (.cells #[ov] 26 (0,0))/\A.heap[b+3]? =some (.cells #[vi (pre.getLastD (stZ,false)).1.fin] 3 (0,0))/\Own (w3.heap.size+2) A 9 ov ((pre.map (zeW N)).map vs)/\(∀i,some i=ov.ownBlock->U i)/\A.heap[b]? =some (.cells #[hsv,rv,vi N.rw,vi N.rf] 25 (0,0))/\Ext w A)
   (fun c pre' A=>c= .exit 0/\∃pre x ov,pre'=pre++ [x]/\x.2=false/\(∀x∈pre,x.2=true)/\A.heap[b+2]? =some (.cells #[ov] 26 (0,0))/\A.heap[b+3]? =some (.cells #[vi (pre.getLastD (stZ,false)).1.fin] 3 (0,0))/\Own (w3.heap.size+2) A 9 ov ((pre.map (zeW N)).map vs)/\Ext w A) ?_ ?_ ?_ ?_ ?_ ?_
  ·rintro pre U A B ⟨ht,ov,h1,h2,ho,hu,hn,hE⟩ hU hk
   have hno:∀i,i<w3.heap.size->¬span w3.heap.size (2+0) i:=fun i h1 h2=>by unfold span at h2;omega
   have l1:=(Array.getElem?_eq_some_iff.1 h1).1
   have l2:=(Array.getElem?_eq_some_iff.1 h2).1
   exact⟨ht,ov,(hk.block _ l1 (hno _ (by omega))).trans h1,(hk.block _ l2 (hno _ (by omega))).trans h2,ho.keep hk fun i hi hs=>by have:=hU i (hu i hi);unfold span at hs;omega,hu,(hk.block _ (by omega) (hno _ (by omega))).trans hn,Keep.to_ext hE rfl (fun i hi=>by unfold span at hi;omega) hk⟩
  ·rintro c pre' A B ⟨rfl,pre,x,ov,e,hx,ht,h1,h2,ho,hE⟩ hk
   have hno:∀i,i<w3.heap.size->¬span w3.heap.size (2+0) i:=fun i h1 h2=>by unfold span at h2;omega
   have l1:=(Array.getElem?_eq_some_iff.1 h1).1
   have l2:=(Array.getElem?_eq_some_iff.1 h2).1
   exact⟨rfl,pre,x,ov,e,hx,ht,(hk.block _ l1 (hno _ (by omega))).trans h1,(hk.block _ l2 (hno _ (by omega))).trans h2,ho.keep hk fun i hi hs=>by have:=(ho.ge hi).1;unfold span at hs;omega,Keep.to_ext hE rfl (fun i hi=>by unfold span at hi;omega) hk⟩
  ·exact⟨(fun x hx=>by cases hx),.slice Option.none 0 0,hC3,hD3,Own.nil _ _ _,(fun i hi=>by cases hi),Ext.at hE3 hA2,hEw3⟩
  ·rintro lp pre U ⟨S,ok⟩ A args ⟨suf,hsp⟩ hszA ⟨ht,ov,h1,h2,ho,hu,hn,hE⟩ hUb ⟨xv,rfl,hx⟩
   rw[hF]at hsp
   have hmS:=hFg (S,ok) (by rw[hsp];simp)
   have hpl:pre.length<=1000000:=by rw[hsp]at hFl;simp at hFl;omega
   have l1:=(Array.getElem?_eq_some_iff.1 h1).1
   have l2:=(Array.getElem?_eq_some_iff.1 h2).1
   refine go trivial ?_
   refine rq ?_;intro gd K hgd hK
   try simp only[go_sem]
   refine za3 (P:=Tryz.prog) (l:=stV xv S) rfl (zbs hx.1.isOne) rfl rfl ?_
   intro A1 hEA1 hs1' hB7
   try simp only[go_sem]
   refine hK _ _ ?_;clear hK hgd;clear K;try clear gd
   refine go trivial ?_
   refine⟨rfl,hEA1.mono fun _ _ h=>h.elim,fun A3 hk3=>?_⟩
   have hno:∀i,i<w3.heap.size->¬two w3.heap.size i:=fun i h1 h2=>by unfold two at h2;omega
   have hno2:∀i,w3.heap.size+2<=i->¬two w3.heap.size i:=fun i h1 h2=>by unfold two at h2;omega
   have hE3':Ext w A3:=Keep.to_ext (hE.trans hEA1) rfl (fun i hi=>by unfold two at hi;omega) hk3
   have hs3':=hk3.size
   have h1':=(hk3.block _ (by omega) (hno _ (by omega))).trans (Ext.at hEA1 h1)
   have h2':=(hk3.block _ (by omega) (hno _ (by omega))).trans (Ext.at hEA1 h2)
   have hB7':=(hk3.block _ (by omega) (hno2 _ (by omega))).trans hB7
   have ho':=(ho.ext hEA1).keep hk3 fun i hi hs=>by have:=(ho.ge hi).1;unfold two at hs;omega
   cases ok with
   |false=>
    refine go trivial ?_
    exact⟨⟨rfl,pre,(S,false),ov,rfl,rfl,ht,h1',h2',ho',hE3'⟩,Keep.refl _ _⟩
   |true=>
   have gS:=hmS.1 rfl
   have gm:=zcb gS.nm
   have hxv:Row A3 xv (S.name.map vs):=by
    by_cases hl:S.name=[]
    ·have h6:=hx.1
     rw[hl]at h6 ⊢
     obtain⟨a1,c1,e1,e2,_⟩:=h6
     exact⟨a1,c1,e1,e2,fun j hj=>absurd hj (by simp)⟩
    ·have h6:=hx.1.ext hEA1
     refine h6.blocks fun a n c e=>?_
     obtain⟨q1,q2⟩:=hx.2 (fun h=>hl (by simpa using h)) a n c e
     refine hk3.block _ (by omega) fun h=>q2 (.inl (.inr ?_))
     unfold two at h;omega
   have e5:zad A3 (some ⟨b+2,0,Option.none⟩)=some ov:=zab (i:=0) h1' rfl
   have l3:=(Array.getElem?_eq_some_iff.1 hB7').1
   have hn':=(hk3.block _ (by omega) (hno _ (by omega))).trans (Ext.at hEA1 hn)
   have dN3:zan A3 (some ⟨b,0,Option.none⟩) 4=some [hsv,rv,vi N.rw,vi N.rf]:=zae hn' rfl
   obtain⟨c7,hc7⟩:∃c,A.heap.size=c:=⟨_,rfl⟩
   rw[hc7]at hB7' l3 hszA hs1' hUb ⊢
   have f0:zad A3 (some ⟨c7,0,Option.none⟩)=some (vi S.sv):=zab hB7' rfl
   have f1:zad A3 (some ⟨c7,1,Option.none⟩)=some xv:=zab hB7' rfl
   have t1:=zfC hG S.sv
   have t2:(zaL S.name).length<=10000000:=zcU (fun l hl=>by have:=(zfK (Bool.and_eq_true_iff.1 gS.nm).1).1 l hl;omega) (by have:=gm.len;omega)
   have a1:(zgV N S.sv).length+([32]:Lab).length<=9223372036854775807:=by rw[List.length_singleton];omega
   have a2:(zgV N S.sv++ [32]).length+(zaL S.name).length<=9223372036854775807:=by rw[List.length_append,List.length_singleton];omega
   refine go trivial ?_
   refine zaw (Q:=fun e σ' ds' B=>e= .normal/\ds'=[]/\(σ' 6= .pointer (some ⟨b+3,0,Option.none⟩)/\σ' 7= .pointer (some ⟨c7,0,Option.none⟩))/\∃u y,Ext A3 y/\B.heap[b+2]? =some (.cells #[u] 26 (0,0))/\Own (w3.heap.size+2) B 9 u (((pre++ [(S,true)]).map (zeW N)).map vs)/\(∀i,some i=u.ownBlock->some i=ov.ownBlock\/A3.heap.size<=i)/\Keep (fun i=>i=b+2\/some i=ov.ownBlock) y B) ?_ ?_
   ·refine zaJ (fun i=>i==11||i==12) [(0,true),(1,true),(2,true),(3,true),(6,true),(7,true),(4,false),(5,true),(8,false),(9,true),(10,false),(11,false),(12,false)] NoS mixed (by kernel_rfl) ?_;intro gd K x hgd hx hxe hK;clear hxe
    have e5x:=zaa hx e5
    have f0x:=zaa hx f0
    have f1x:=zaa hx f1
    have dNx:=zac hx dN3
    simp (disch:=first|omega|assumption|rfl) only[go_sem,e5x,dNx,f0x,f1x,Nat.zero_add,Nat.add_zero]
    refine Fn.mono (host_ok (k:=S.sv) (hE0.trans (hE3'.trans hx)) hN0 hG) ?_
    rintro _ y ⟨rfl,hy⟩
    refine⟨.inr hy,?_⟩
    simp (disch:=first|omega|assumption|rfl) only[go_sem]
    refine Fn.mono (zhd y xv S.name (hxv.ext (hx.trans hy)) (fun l hl=>by have:=gm.m.lb l hl;omega) (by have:=gm.len;omega)) ?_
    rintro _ z ⟨rfl,hz⟩
    refine⟨.inr hz,?_⟩
    simp (disch:=first|omega|assumption|rfl) only[go_sem]
    refine zdk (z:=vs []) rfl rfl rfl rfl rfl ?_
    intro y3 hy3 hs3y ho3
    refine⟨.inr hy3.keep,?_⟩
    simp (disch:=first|omega|assumption|rfl) only[go_sem]
    have hA3y:=hx.trans (hy.trans (hz.trans hy3))
    have hys:=hA3y.size
    refine zcv (B:=w3.heap.size+2) (ho'.ext hA3y) ho3.row rfl rfl rfl rfl rfl rfl (vr0) (vr0) (fun q hq=>by rw[List.mem_singleton.1 hq];rfl) (by simp;omega) (by decide) (by omega) ?_
    intro u y4 ho4 hE4 hk4 hb4
    refine⟨.inl rfl,?_⟩
    simp (disch:=first|omega|assumption|rfl) only[go_sem]
    have hb2:=(hk4.block _ (by omega) (fun h=>by have:=(ho.ge h).1;omega)).trans (Ext.at hA3y h1')
    refine zda rfl rfl ho4.row.isOne hb2 (by simp) (by simp) ?_
    intro y5 hs5 hD5 hk5
    refine⟨.inl rfl,?_⟩
    simp (disch:=first|omega|assumption|rfl) only[go_sem]
    refine hK _ _ ?_;clear hK hgd;clear K;try clear gd
    refine⟨rfl,rfl,sc trivial,u,y3,hA3y,hD5,?_,fun i hi=>(hb4 i hi).imp id fun h=>by omega,(hk4.mono fun i _ h=> .inr h).trans (hk5.mono fun i _ h=> .inl h)⟩
    have:=ho4.keep hk5 fun i hi h=>by have:=(ho4.ge hi).1;omega
    rw[List.map_append,List.map_append]
    exact this
   rintro _ σ1 _ A4 ⟨rfl,rfl,st,u,y,hyE,hu2,hou,hub,hkB⟩
   have hys:=hyE.size
   have h46:=hkB.size
   have hB74:=(hkB.block _ (by omega) (fun h=>h.elim (by omega) fun h=>by have:=hUb _ (hu _ h);omega)).trans (Ext.at hyE hB7')
   have h24:=(hkB.block _ (by omega) (fun h=>h.elim (by omega) fun h=>by have:=(ho.ge h).1;omega)).trans (Ext.at hyE h2')
   have hn4:=(hkB.block _ (by omega) (fun h=>h.elim (by omega) fun h=>by have:=(ho.ge h).1;omega)).trans (Ext.at hyE hn')
   have f5:zad A4 (some ⟨c7,5,Option.none⟩)=some (vi S.fin):=zab hB74 rfl
   refine go trivial ?_
   refine rq ?_;intro gd K hgd hK
   try simp (disch:=first|omega|assumption|rfl) only[go_sem,st,f5,Nat.zero_add]
   refine zda rfl rfl rfl h24 (by simp) (by simp) ?_
   intro A5 hs5 hD5 hk5
   try simp only[go_sem]
   refine hK _ _ ?_;clear hK hgd;clear K;try clear gd
   refine go trivial ?_
   have hl:(pre++ [(S,true)]).getLastD (stZ,false)=(S,true):=by rw[List.getLastD_eq_getLast?];simp
   have hkall:Keep (fun i=>(i=b+2\/i=b+3)\/U i) A3 A5:=((hyE.mono fun _ _ h=>h.elim).trans (hkB.mono fun i _ h=>h.elim (fun h=> .inl (.inl h)) fun h=> .inr (hu _ h))).trans (hk5.mono fun i _ h=> .inl (.inr h))
   refine⟨fun i=>some i=u.ownBlock,⟨?_,u,(hk5.block _ (by omega) (by omega)).trans hu2,?_,hou.keep hk5 fun i hi h=>by have:=(hou.ge hi).1;omega,fun i hi=>hi,(hk5.block _ (by omega) (by omega)).trans hn4,Keep.to_ext (Keep.to_ext (hE3'.trans hyE) rfl (fun i hi=>hi.elim (by omega) fun h=>by have:=(ho.ge h).1;omega) hkB) rfl (fun i hi=>by omega) hk5⟩,fun i hi=>?_,hkall⟩
   ·intro x hx
    rcases List.mem_append.1 hx with hx|hx
    ·exact ht x hx
    ·rw[List.mem_singleton.1 hx]
   ·rw[hl];exact hD5
   ·have:=(hou.ge hi).2
    rcases hub i hi with h|h
    ·exact .inl (hu _ h)
    ·exact .inr ⟨h,by omega⟩
  ·rintro xs U v hxs hsz hUv ⟨ht,ov,h1,h2,ho,hu,hn,hE⟩ hDv
   rw[hF]at hxs
   subst hxs
   refine go trivial ?_
   refine⟨rfl,rfl,sc trivial,hDv,hsz,xs,ov,?_,h1,h2,ho,hE,hFl⟩
   have:=zd3 (suf:=[]) ht (.inl rfl)
   rwa [List.append_nil]at this
  ·rintro c pre' x v hsz ⟨suf,hsp⟩ ⟨rfl,pre,x',ov,e,hx,ht,h1,h2,ho,hE⟩ hDv
   obtain⟨rfl,e2⟩:=List.append_inj' e rfl
   obtain rfl:=(List.cons.inj e2).1
   rw[hF]at hsp
   refine go trivial ?_
   refine⟨rfl,rfl,sc trivial,hDv,hsz,_,ov,rfl,?_⟩
   rw[hsp,zd3 ht (.inr ⟨x,suf,rfl,hx⟩)]
   exact⟨h1,h2,ho,hE,by rw[hsp]at hFl;simp at hFl;omega⟩
 rintro _ σ1 _ v ⟨rfl,rfl,st,hDv,hvs2,G,ov,hG',h1,h2,ho,hE,hGl⟩
 rw[hG']
 unfold wayF
 have e5:zad v (some ⟨b+2,0,Option.none⟩)=some ov:=zab (i:=0) h1 rfl
 have e6:zad v (some ⟨b+3,0,Option.none⟩)=some (vi (G.getLastD (stZ,false)).1.fin):=zab (i:=0) h2 rfl
 have l1:=(Array.getElem?_eq_some_iff.1 h1).1
 obtain⟨ao,co,hov⟩:=ho.slice
 simp only[List.length_map]at hov
 by_cases hg0:G=[]
 ·rw[if_pos hg0]
  subst hg0
  rw[hov]at e5
  refine go (an2 st e5) ?_
  refine zbz (.inr rfl) Tryz.ntmps52 rfl hDv ?_
  intro y hk hs
  exact⟨_,zam (v:= .slice Option.none 0 0) (vr0) zap,⟨Option.none,0,rfl,Nat.le_refl _,fun j h=>by simp at h⟩,Keep.to_ext hE rfl (fun i hi=>by have:=hEw3.size;omega) hk⟩
 rw[if_neg hg0]
 have hd:decide ((G.length:Int)=0)=false:=decide_eq_false (by have:=List.length_pos_iff.2 hg0;omega)
 have e5':=e5
 rw[hov]at e5'
 refine go (an3 st e5' hd) ?_
 refine zaw (Q:=fun e σ' ds' y=>e= .normal/\ds'=[{target:= .collected w3.heap.size,args:=#[]}]/\∃u,σ' 4=u/\Row y u ((G.map (zeW N)++ [zhf (G.getLastD (stZ,false)).1.fin]).map vs)/\BlkB (w3.heap.size+2) y u/\y.heap[w3.heap.size]? =some (.deferred (some []))/\Ext w y) ?_ ?_
 ·refine zaJ (fun i=>i==4||i==5) [(0,true),(1,true),(2,false),(3,false),(4,false),(5,false),(6,true)] NoS mixed (by kernel_rfl) ?_;intro gd K x hgd hx hxe hK;clear hxe
  have e5x:=zaa hx e5
  have e6x:=zaa hx e6
  simp (disch:=first|omega|assumption|rfl) only[go_sem,st,e5x,e6x]
  refine Fn.mono (Word_ok x _) ?_
  rintro _ y ⟨rfl,hy⟩
  refine⟨.inr hy,?_⟩
  simp (disch:=first|omega|assumption|rfl) only[go_sem]
  refine zdk (z:=vs []) rfl rfl rfl rfl rfl ?_
  intro y3 hy3 hs3y ho3
  refine⟨.inr hy3.keep,?_⟩
  simp (disch:=first|omega|assumption|rfl) only[go_sem]
  have hvy:=hx.trans (hy.trans hy3)
  have hys:=hvy.size
  have hvs:=(Array.getElem?_eq_some_iff.1 hDv).1
  refine zcv (B:=w3.heap.size+2) (ho.ext hvy) ho3.row rfl rfl rfl rfl rfl rfl (vr0) (vr0) (fun q hq=>by rw[List.mem_singleton.1 hq];rfl) (by simp;omega) (by decide) (by omega) ?_
  intro u y4 ho4 hE4 hk4 hb4
  refine⟨.inl rfl,?_⟩
  rw[←List.map_singleton (f:=vs),←List.map_append]at ho4
  have hrow4:=ho4.row
  have hblk4:∀i,some i=u.ownBlock->w3.heap.size+2<=i/\i<y4.heap.size:=fun i hi=>ho4.ge hi
  obtain⟨au,cu,rfl,hcu,hgu⟩:=ho4.row
  simp (disch:=first|omega|assumption|rfl) only[go_sem]
  refine Fn.mono (P_ss.Clip_ok hcu) ?_
  rintro _ _ ⟨rfl,rfl⟩
  refine⟨.inl rfl,?_⟩
  simp (disch:=first|omega|assumption|rfl) only[go_sem]
  refine hK _ _ ?_;clear hK hgd;clear K;try clear gd
  refine⟨rfl,rfl,_,vr0,⟨au,_,rfl,Nat.le_refl _,hgu⟩,fun a n c e=>?_,(hk4.block _ (by omega) (fun h=>by have:=(ho.ge h).1;omega)).trans (Ext.at hvy hDv),hE4 w (hE.trans hvy) (by have:=hEw3.size;omega)⟩
  injection e with e1 e2 e3
  subst e1
  exact hblk4 _ rfl
 rintro _ σ2 _ y ⟨rfl,rfl,u,s4,hru,hbu,hDy,hEy⟩
 refine go trivial ?_
 refine zbz (.inr rfl) Tryz.ntmps52 rfl hDy ?_
 intro y2 hk hs
 exact⟨_,zam (v:=u) ((vq1 s4)) zap,hru.blocks fun a n c e=>hk.block _ (hbu a n c e).2 (by have:=(hbu a n c e).1;omega),Keep.to_ext hEy rfl (fun i hi=>by have:=hEw3.size;omega) hk⟩
theorem Types_ok(w:World):Fn Tryz.prog 55 #[] w (fun v w'=>Row w' v (typesL.map vi)/\Ext w w'):=by
 refine enter Tryz.func55 Tryz.ntmps55 rfl rfl ?_
 refine go trivial ?_
 refine rq ?_;intro gd K hgd hK
 try simp only[go_sem]
 refine zbx (z:=vi 0) (l:=typesL.map vi) rfl rfl rfl rfl rfl rfl (zlj typesL) (by decide) ?_
 intro w1 hE1 hs1 ho
 try simp only[go_sem]
 refine hK _ _ ?_;clear hK hgd;clear K;try clear gd
 refine go trivial ?_
 refine rt0 Tryz.ntmps55 ?_
 exact⟨ho.row,hE1⟩
def zkW:zeE:=⟨1,kX,1,[0,0,0]⟩
theorem small_r1:zcI smallN zkW=true:=by kernel_rfl
theorem small_r2:zcI smallN {zkW with kind:=6}=false:=by kernel_rfl
theorem zjU:zfw smallN zkW=[[97,46,32,120,46,111,46],[98,46,111,46,32,120,46,111,46],[98,46,111,46,32,120,46,111,46],[102,111,117,110,100]]:=by kernel_rfl
theorem zjV:zfw smallN ⟨0,[],0,[]⟩=[]:=by kernel_rfl
theorem nil_good:zbX []=true:=by kernel_rfl
theorem kX_few:few kX=true:=by kernel_rfl
theorem zkw(w:World):Fn Tryz.prog 47 #[] w (fun v w'=>v= .bool true/\Ext w w'):=by
 refine enter Tryz.func47 Tryz.ntmps47 rfl rfl ?_
 refine go trivial ?_
 refine rq ?_;intro gd K hgd hK
 try simp only[go_sem]
 refine Fn.mono (Small_ok w) ?_
 rintro _ w1 ⟨hE1,cs,rfl,hN⟩
 obtain⟨hv,rv,rfl,hh,hr⟩:=id hN.ex
 have hh1:=hh.isOne
 have hr1:=hr.isOne
 try simp only[go_sem]
 refine za3 (P:=Tryz.prog) (l:=[hv,rv,vi smallN.rw,vi smallN.rf]) rfl (fun v h=>by simp at h;rcases h with rfl|rfl|rfl|rfl<;>first|assumption|rfl) rfl rfl ?_
 intro w2 hE2 hs2 hB
 try simp only[go_sem]
 refine hK _ _ ?_;clear hK hgd;clear K;try clear gd
 have dN:zan w2 (some ⟨w1.heap.size,0,Option.none⟩) 4=some [hv,rv,vi smallN.rw,vi smallN.rf]:=zae hB rfl
 refine go trivial ?_
 refine rq ?_;intro gd K hgd hK
 try simp only[go_sem]
 refine zbx (z:=vs []) (l:=kX.map vs) rfl rfl rfl rfl rfl rfl (fun v hv=>by simp[kX]at hv;rcases hv with rfl|rfl<;>rfl) (by decide) ?_
 intro w3 hE3 hs3 o3
 try simp only[go_sem]
 refine zbx (z:=vi 0) (l:=[vi 0,vi 0,vi 0]) rfl rfl rfl rfl rfl rfl (zlj [0,0,0]) (by simp) ?_
 intro w4 hE4 hs4 o4
 try simp only[go_sem]
 have kb:∀(a b:Int) (x y:Option Addr) (n m c d:Nat),bdV Tryz.prog 98 [(0,vi a),(1,.slice x n c),(2,vi b),(3,.slice y m d)]=some (.agg #[vi a,.slice x n c,vi b,.slice y m d]):=fun a b x y n m c d=>by kernel_rfl
 refine⟨by kernel_rfl,?_⟩
 rw[kb]
 try simp only[go_sem]
 obtain⟨qv,hqv⟩:∃v,Value.slice (some ⟨w2.heap.size,0,Option.none⟩) 2 2=v:=⟨_,rfl⟩
 obtain⟨pv,hpv⟩:∃v,Value.slice (some ⟨w3.heap.size,0,Option.none⟩) 3 3=v:=⟨_,rfl⟩
 have r3:Row w3 qv (kX.map vs):=by rw[←hqv];exact o3.row
 have r4:Row w4 pv ([(0:Int),0,0].map vi):=by rw[←hpv];exact o4.row
 rw[hqv,hpv]
 refine za3 (P:=Tryz.prog) (l:=[vi 1,qv,vi 1,pv]) rfl (fun v h=>by simp at h;rcases h with rfl|rfl|rfl|rfl;rfl;exact r3.isOne;rfl;exact r4.isOne) rfl rfl ?_
 intro w5 hE5 hs5 hC
 try simp only[go_sem]
 refine hK _ _ ?_;clear hK hgd;clear K;try clear gd
 have hE25:=hE3.trans (hE4.trans hE5)
 have dN5:=zac hE25 dN
 obtain⟨b2,hb2⟩:∃b,w4.heap.size=b:=⟨_,rfl⟩
 rw[hb2]at hC ⊢
 have dS:zan w5 (some ⟨b2,0,Option.none⟩) 4=some [vi 1,qv,vi 1,pv]:=zae (l:=[vi 1,qv,vi 1,pv]) hC rfl
 have hS5:SeenC w5 [vi 1,qv,vi 1,pv] zkW:=⟨qv,pv,rfl,r3.ext (hE4.trans hE5),r4.ext hE5⟩
 refine go trivial ?_
 refine rc (an2 dN5 dS) (ziU (hE2.trans hE25) hN zdt hS5 kX_good (by decide)) ?_
 rintro lv w6 ⟨hl6,hE6⟩
 rw[zjU]at hl6
 obtain⟨PL,hPL⟩:∃l,([[97,46,32,120,46,111,46],[98,46,111,46,32,120,46,111,46],[98,46,111,46,32,120,46,111,46],[102,111,117,110,100]]:List Lab).map vs=l:=⟨_,rfl⟩
 rw[hPL]at hl6
 have hPl:PL.length=4:=by rw[←hPL];rfl
 have u0:PL[0]'(by omega)=vs [97,46,32,120,46,111,46]:=by subst hPL;rfl
 have u1:PL[1]'(by omega)=vs [98,46,111,46,32,120,46,111,46]:=by subst hPL;rfl
 have u3:PL[3]'(by omega)=vs [102,111,117,110,100]:=by subst hPL;rfl
 clear hPL
 refine rgo trivial ?_
 refine rq ?_;intro gd K hgd hK
 try simp (disch:=first|omega|assumption|rfl) only[go_sem,zac hE6 dS]
 refine za3 (P:=Tryz.prog) (l:=[vi 1,qv,vi 1,pv]) rfl (fun v h=>by simp at h;rcases h with rfl|rfl|rfl|rfl;rfl;exact r3.isOne;rfl;exact r4.isOne) rfl rfl ?_
 intro w7 hE7 hs7 hD
 try simp only[go_sem]
 refine hK _ _ ?_;clear hK hgd;clear K;try clear gd
 obtain⟨b4,hb4⟩:∃b,w6.heap.size=b:=⟨_,rfl⟩
 rw[hb4]at hD hs7 ⊢
 refine go trivial ?_
 refine rq ?_;intro gd K hgd hK
 try simp only[go_sem]
 refine zaU (P:=Tryz.prog) (t:=3) (j:=0) (u:=vi 6) (l:=[vi 1,qv,vi 1,pv]) hD (by simp) rfl rfl rfl ?_
 intro w8 hs8 hD8 hk8
 try simp only[go_sem]
 refine hK _ _ ?_;clear hK hgd;clear K;try clear gd
 have hE68:Ext w6 w8:=Keep.to_ext hE7 rfl (fun i hi=>by omega) hk8
 have dT:zan w8 (some ⟨b4,0,Option.none⟩) 4=some [vi 6,qv,vi 1,pv]:=zae (l:=[vi 6,qv,vi 1,pv]) hD8 rfl
 have hE58:=hE6.trans hE68
 have hE28:=hE25.trans hE58
 have dN8:=zac hE28 dN
 have dS8:=zac hE58 dS
 have hS8:=hS5.ext hE58
 have hT8:SeenC w8 [vi 6,qv,vi 1,pv] {zkW with kind:=6}:=⟨qv,pv,rfl,r3.ext ((hE4.trans hE5).trans hE58),r4.ext (hE5.trans hE58)⟩
 have h8:=hl6.ext hE68
 obtain⟨al,cl,rfl,_,hgl⟩:=id h8
 have m0:=hgl 0 (by omega)
 have m1:=hgl 1 (by omega)
 have m3:=hgl 3 (by omega)
 rw[u0]at m0
 rw[u1]at m1
 rw[u3]at m3
 rw[hPl]
 obtain⟨xl,rfl⟩:=Option.isSome_iff_exists.1 (zag m0)
 rw[zaj]at m0
 have hf:=kX_few
 have z0:(0:Int)<=0:=by decide
 have z1:(0:Int)<((4:Nat):Int):=by decide
 have z2:(1:Int)<((4:Nat):Int):=by decide
 have z3:(3:Int)<((4:Nat):Int):=by decide
 have z4:(0:Int)<=1:=by decide
 have z5:(0:Int)<=3:=by decide
 have t1:Int.toNat 1=1:=rfl
 have t3:Int.toNat 3=3:=rfl
 have q4:decide (((4:Nat):Int)=4)=true:=rfl
 have q0:decide (((0:Nat):Int)=0)=true:=rfl
 refine go trivial ?_
 refine rq ?_;intro gd K hgd hK
 have hg3:∀n σ b,zcE gd n σ (some (3,b))=zbS (ev n σ (.tmp 17)) b:=(fun n σ b=>by rw[zaY,show gd 3=some 17 from(by rw[hgd];rfl)];rfl);have hg9:∀n σ b,zcE gd n σ (some (9,b))=zbS (ev n σ (.tmp 23)) b:=(fun n σ b=>by rw[zaY,show gd 9=some 23 from(by rw[hgd];rfl)];rfl);have hg14:∀n σ b,zcE gd n σ (some (14,b))=zbS (ev n σ (.tmp 28)) b:=(fun n σ b=>by rw[zaY,show gd 14=some 28 from(by rw[hgd];rfl)];rfl);have hg20:∀n σ b,zcE gd n σ (some (20,b))=zbS (ev n σ (.tmp 34)) b:=(fun n σ b=>by rw[zaY,show gd 20=some 34 from(by rw[hgd];rfl)];rfl);have hg26:∀n σ b,zcE gd n σ (some (26,b))=zbS (ev n σ (.tmp 40)) b:=(fun n σ b=>by rw[zaY,show gd 26=some 40 from(by rw[hgd];rfl)];rfl);have hg32:∀n σ b,zcE gd n σ (some (32,b))=zbS (ev n σ (.tmp 46)) b:=(fun n σ b=>by rw[zaY,show gd 32=some 46 from(by rw[hgd];rfl)];rfl)
 try simp (disch:=first|omega|assumption|rfl) only[go_sem,dN8,dS8,zaT,↓hg3,↓hg9,↓hg14,↓hg20,↓hg26,↓hg32]
 have hP:=zg9 (hE2.trans hE28) hN zdt hS8 hf (by decide)
 rw[small_r1]at hP
 refine Fn.mono hP ?_
 rintro _ w9 ⟨rfl,hE9⟩
 try simp (disch:=first|omega|assumption|rfl) only[go_sem,zac hE9 dN8,zac hE9 dT,zaT,↓hg3,↓hg9,↓hg14,↓hg20,↓hg26,↓hg32]
 have hP:=zg9 ((hE2.trans hE28).trans hE9) hN zdt (hT8.ext hE9) hf (by decide)
 rw[small_r2]at hP
 refine Fn.mono hP ?_
 rintro _ w10 ⟨rfl,hE10⟩
 have hE80:=hE9.trans hE10
 try simp (disch:=first|omega|assumption|rfl) only[go_sem,zaa hE80 m0,zaa hE80 m1,zaa hE80 m3,z0,z1,z2,z3,z4,z5,t1,t3,q4,Int.toNat_zero,zaj,Nat.zero_mul,zac hE80 dN8,zaT,↓hg3,↓hg9,↓hg14,↓hg20,↓hg26,↓hg32]
 refine⟨by kernel_rfl,?_⟩
 rw[show bdV Tryz.prog 98 []=some (.agg #[vi 0,.slice Option.none 0 0,vi 0,.slice Option.none 0 0]) from by kernel_rfl]
 try simp (disch:=first|omega|assumption|rfl) only[go_sem,zaT,↓hg3,↓hg9,↓hg14,↓hg20,↓hg26,↓hg32]
 have hZ:SeenC w10 [vi 0,.slice Option.none 0 0,vi 0,.slice Option.none 0 0] ⟨0,[],0,[]⟩:=⟨_,_,rfl,⟨Option.none,0,rfl,Nat.le_refl _,fun j h=>by simp at h⟩,⟨Option.none,0,rfl,Nat.le_refl _,fun j h=>by simp at h⟩⟩
 refine Fn.mono (ziU ((hE2.trans hE28).trans hE80) hN zdt hZ nil_good (by decide)) ?_
 rintro ev w11 ⟨hl11,hE11⟩
 rw[zjV]at hl11
 obtain⟨ae,ce,rfl,_⟩:=hl11
 try simp (disch:=first|omega|assumption|rfl) only[go_sem,q0,List.map_nil,List.length_nil,zaT,↓hg3,↓hg9,↓hg14,↓hg20,↓hg26,↓hg32]
 refine hK _ _ ?_;clear hK hgd;clear K;try clear gd
 refine go trivial ?_
 refine rt0 Tryz.ntmps47 ?_
 exact⟨rfl,hE1.trans (hE2.trans (hE28.trans (hE80.trans hE11)))⟩
def ZT(w:World)(v:Value):Prop:=∀g n c,v= .slice (some ⟨g,0,Option.none⟩) n c->∀cur e p,w.heap[g]? =some (.cells cur e p)->∀j,n<=j->∀q,cur.toList[j]? =some q->q=vs []
theorem ZT.nil{w:World}{n c:Nat}:ZT w (.slice Option.none n c):=fun _ _ _ h=>by cases h
theorem ZT.block{w x:World}{v:Value}(h:ZT w v)(hb:∀b,some b=v.ownBlock->x.heap[b]? =w.heap[b]?):ZT x v:=fun g n c e cur t p hc=>h g n c e cur t p ((hb g (by rw[e];rfl)).symm.trans hc)
def KeptN(w x:World):Prop:=∀v (ns:Nm),(∀l∈ns,l≠ [])->Row w v (ns.map vs)->Row x v (ns.map vs)
section
variable {P : Program} {w : World} {B : Nat}
theorem zmg{t ty e:TypeId}{i:TypeInfo}(ht:P.underlying t=some (.slice e))(hi:P.info? e=some i)(hz:i.zero=some (vs []))(hsize:i.size=1)
  {v:Value} {n:Nat} {xs:List Value} (hown:w.ownsRow B e 1 v n xs) {a:Addr} {m c:Nat} {news:List Value} (hl:news.length=m) (hnews:∀j u,news[j]? =some u->w.cell? (a.add j)=some u) (h1:∀u∈news,u.oneCell'=true)
  (h63:n+m<=maxLen) (hbytes:(n+m)*i.bytes<=140737488355328) (hm:0<m) (hT:ZT w v)
  {v':Value} {w':World} (hrun:(Builtin.append_ #[t,t] ty #[v,.slice (some a) m c]).run P w= .ok v' w'):ZT w' v'/\KeptN w w':=by
 have hsmall:n+m<=9223372036854775807:=by simp only[maxLen]at h63;omega
 have hl1:news.length=m*i.size:=by rw[hsize,Nat.mul_one];exact hl
 have new:∀(ys:List Value) (k:Nat) (r cp:Nat),ys.length+m<=r->ZT (w.drew.alloc (.cells (ys.toArray++news.toArray++Builtin.zeroCells (vs []).cells k) e)) (.slice (some ⟨w.heap.size,0,Option.none⟩) r cp):=fun ys k r cp hr g n' c' hb cur e' p hc j hj q hq=>by
  have hb':=hb
  injection hb' with e1 e2 e3
  injection e1 with e1
  injection e1 with e1
  subst e1
  subst e2
  have hn:=World.alloc_heap_new w.drew (.cells (ys.toArray++news.toArray++Builtin.zeroCells (vs []).cells k) e)
  have e1:w.drew.heap.size=w.heap.size:=rfl
  rw[e1]at hn
  rw[hn]at hc
  cases hc
  rw[Array.toList_append,List.getElem?_append_right (by simp;omega)]at hq
  have:=zgO (List.mem_of_getElem? hq)
  simpa [Value.cells,vs] using this
 have ext:∀o,KeptN w (w.drew.alloc o):=fun o v ns _ h=>by
  exact h.ext (Ext.drew_alloc w o)
 rcases hown.2 with ⟨rfl,rfl⟩| ⟨g,cap,cur,rfl,hbg,hg,hnc,hcm,hcs,htake⟩
 ·have hx:xs=[]:=List.eq_nil_of_length_eq_zero (by simpa using hown.1)
  subst hx
  have hr:=run_append_nil (P:=P) w t ty e i (vs []) ht hi hz a m c news hl1 hnews (by omega) (by omega) (by have hb:=hbytes;simp only[Nat.zero_add]at hb;omega)
  rw[hr]at hrun
  cases hrun
  have:=new [] (grownCap w m 0 e - m) m (grownCap w m 0 e) (by simp)
  exact⟨by simpa using this,ext _⟩
 ·by_cases hroom:n+m<=cap
  ·have hfit:n*i.size+news.length<=cur.size:=by rw[hl,hsize,hcs];omega
   have hr:=run_append_room (P:=P) w t ty e i ht hi g n cap cur hg a m c news hl1 hnews h1 hroom hfit
   rw[hr]at hrun
   cases hrun
   rw[hsize,Nat.mul_one]at*
   have hold:=hT g n cap rfl _ _ _ hg
   refine⟨fun g' n' c' hb cur' e' p hc j hj q hq=>?_,fun v ns hns hrow=>?_⟩
   ·injection hb with e1 e2 e3
    injection e1 with e1
    injection e1 with e1
    subst e1
    subst e2
    rw[setRow_heap w g cur _ e _ hg]at hc
    cases hc
    have hcl:cur.toList.length=cap:=by simpa using hcs
    simp only at hq
    rw[List.getElem?_append_right (by simp;omega),List.getElem?_drop]at hq
    exact hold _ (by simp at hq ⊢;omega) _ hq
   ·obtain⟨ar,cr,e0,hc,hcell⟩:=hrow
    refine⟨ar,cr,e0,hc,fun j hj=>?_⟩
    have h2:=hcell j hj
    obtain⟨y,hy⟩:=Option.isSome_iff_exists.1 (zag h2)
    subst hy
    have h3:w.cell? (y.add j)=some (ns.map vs)[j]:=h2
    show World.cell? _ (y.add j)=some (ns.map vs)[j]
    by_cases hb:(y.add j).block=g
    ·unfold World.cell? at h3 ⊢
     rw[hb,hg]at h3
     rw[hb,setRow_heap w g cur _ e _ hg]
     simp only at h3 ⊢
     split at h3
     ·cases h3
     ·rename_i hsp
      rw[if_neg hsp]
      have hne:(ns.map vs)[j]≠vs []:=by
       rw[List.getElem_map]
       intro h
       exact hns _ (List.getElem_mem (by simpa using hj)) (vs_inj.1 h)
      have hlt:(y.add j).off<n:=Nat.lt_of_not_le fun h=>hne (hold _ h _ (by rw[Array.getElem?_toList];exact h3))
      rw[←h3]
      have hcl:cur.toList.length=cap:=by simpa using hcs
      rw[←Array.getElem?_toList,←Array.getElem?_toList]
      simp only
      rw[List.append_assoc,List.getElem?_append_left (by simp;omega),List.getElem?_take_of_lt hlt]
    ·unfold World.cell? at h3 ⊢
     rw[setRow_other w g _ _ hb]
     exact h3
  ·have holds:∀j u,xs[j]? =some u->w.cell? ((⟨g,0,Option.none⟩:Addr).add j)=some u:=hown.cells (g:=g) rfl
   have hr:=run_append_grow (P:=P) w t ty e i (vs []) ht hi hz ⟨g,0,Option.none⟩ n cap xs (by rw[hsize];exact hown.1) holds a m c news hl1 hnews (by omega) (by omega) (growslice_fits (by omega) hbytes)
   rw[hr]at hrun
   cases hrun
   refine⟨?_,ext _⟩
   have hx:=hown.1
   have:=new xs (grownCap w (n+m) cap e - (n+m)) (n+m) (grownCap w (n+m) cap e) (by omega)
   simpa using this
end
section
variable {P : Program} {d : Option Tmp} {ty : TypeId} {ps : String} {af : Array Edge} {g : Option (Nat × Bool)} {ρ : Operand -> Value} {w : World} {K : Value -> World -> Prop}
theorem op_appZ{B:Nat}{s x:Operand}{t e:TypeId}{inf:TypeInfo}{bytes:Nat}{v u:Value}{l:List Value}{q:Value}(hown:Own B w e v l)(hrow:Row w u [q])
  (ht:tyU P t=some (.slice e)) (hi:P.info? e=some inf) (hz:inf.zero=some (vs []))
  (hsize:inf.size=1) (hby:inf.bytes=bytes) (hv:ρ s=v) (hu:ρ x=u)
  (h1:one q=true) (hlen:l.length+1<=1000000000000) (hbytes:bytes<=100) (hB:B<=w.heap.size) (hT:ZT w v)
  (h:∀v' w',Own B w' e v' (l++ [q])->ZT w' v'->KeptN w w'->(∀w0,Ext w0 w->w0.heap.size<=B->Ext w0 w')->Keep (fun b=>some b=v.ownBlock) w w'->(∀b,some b=v'.ownBlock->some b=v.ownBlock\/w.heap.size<=b)->K v' w'):
  opW P ⟨d,.call ⟨.builtin .append,#[s,x],#[t,t]⟩,ty,ps,af,g⟩ ρ w K:=by
 obtain⟨a,c,rfl,hc,hg⟩:=id hrow
 have g0:=hg 0 (by simp)
 obtain⟨a,rfl⟩:∃x,a=some x:=by
  cases a with
  |none=>simp[zad,adr]at g0
  |some x=>exact⟨x,rfl⟩
 have hcell:∀j p,[q][j]? =some p->w.cell? (a.add j)=some p:=fun j p hj=>by
  obtain⟨hj1,hj2⟩:=List.getElem?_eq_some_iff.1 hj
  have:=hg j hj1
  rw[hj2]at this
  exact this
 have hb:(l.length+1)*bytes<=1000000000000*100:=Nat.mul_le_mul hlen hbytes
 refine zko (zcv (K:=fun v' w'=>Own B w' e v' (l++ [q])/\(∀w0,Ext w0 w->w0.heap.size<=B->Ext w0 w')/\Keep (fun b=>some b=v.ownBlock) w w'/\∀b,some b=v'.ownBlock->some b=v.ownBlock\/w.heap.size<=b) hown hrow ht hi hz hsize hby rfl hv hu (fun p hp=>by rw[List.mem_singleton.1 hp];exact h1) (by simpa using hlen) hbytes hB (fun v' w' a b c d=>⟨a,b,c,d⟩)) ?_
 rintro v' w' hr ⟨k1,k2,k3,k4⟩
 rw[hv,hu]at hr
 obtain⟨z1,z2⟩:=zmg ht hi hz hsize hown (m:=1) (news:=[q]) rfl hcell (fun p hp=>by rw[List.mem_singleton.1 hp];cases q<;>first|rfl| (simp[one]at h1)) (by simp[maxLen];omega) (by rw[hby];omega) (by decide) hT hr
 exact h v' w' k1 z1 z2 k2 k3 k4
end
theorem zjo{N:NetL}{k:Nat}(hk:k<N.hosts.length):zgV N (k:Int)=zaL N.hosts[k].name:=by
 unfold zgV
 rw[if_neg (by omega),Int.toNat_natCast,List.getElem?_eq_getElem hk]
theorem wordF_at{k:Nat}(hk:k<wordsE.length):zhf (k:Int)=wordsE[k]:=by
 unfold zhf
 rw[if_neg (by omega),Int.toNat_natCast,List.getElem?_eq_getElem hk]
 rfl
theorem goodN_ne{n:Nm}(h:zbX n=true):∀l∈n,l≠ []:=by
 unfold zbX at h
 simp only[Bool.and_eq_true,decide_eq_true_eq]at h
 exact fun l hl=>(zbk h.2 l hl).1
theorem RWay_ok{w0 w:World}(hE0:Ext w0 w){cs sc:List Value}{N:NetL}{s:zeE}(hN:NetAt w0 cs N)(hG:zby N)(hs:SeenC w sc s)(hgq:zbX s.name=true)(hp:s.picks.length<=1000000):
  Fn Tryz.prog 53 #[.agg cs.toArray,.agg sc.toArray] w (fun v w'=>Row w' v ((zfw N s).map vs)/\Ext w w'):=by
 have hN0:=hN
 obtain⟨hsv,rv,rfl,hh,hr⟩:=id hN.ex
 obtain⟨ah,ch0,hhv,_⟩:=hh.open
 obtain⟨ar0,cr0,hrv,_⟩:=id hr
 obtain⟨qv,cv,rfl,hq,hcv⟩:=hs.ex
 obtain⟨aq,cq,hqe,_⟩:=id hq
 obtain⟨ac,cc,hce,hgc⟩:=zgg hcv
 refine enter Tryz.func53 Tryz.ntmps53 rfl rfl ?_
 repeat refine c_r ?_
 rw[hhv,hrv,hqe,hce]
 refine go trivial ?_
 rw[←hhv,←hrv,←hqe,zai]
 refine zaF ?_
 intro w1 hE1 hs1 hA hB
 obtain⟨b,hb⟩:∃b,w.heap.size=b:=⟨_,rfl⟩
 rw[hb]at hA hB hs1 ⊢
 have dN:zan w1 (some ⟨b,0,Option.none⟩) 4=some [hsv,rv,vi N.rw,vi N.rf]:=zae hA rfl
 have g1:zad w1 (some ⟨b+1,1,Option.none⟩)=some qv:=zab hB rfl
 have g2:zad w1 (some ⟨b+1,2,Option.none⟩)=some (vi s.ty):=zab hB rfl
 have g3:zad w1 (some ⟨b+1,3,Option.none⟩)=some (.slice ac s.picks.length cc):=zab hB rfl
 refine go trivial ?_
 refine rq ?_;intro gd K hgd hK
 try simp (disch:=first|omega|assumption|rfl) only[go_sem,dN]
 refine Fn.mono (ziV w1 (hN0.ext (hE0.trans hE1)) hG.z) ?_
 rintro _ w2 ⟨hE2,cs',rfl,hX⟩
 obtain⟨hv',rv',rfl,hh',hr'⟩:=id hX.ex
 have hh1:=hh'.isOne
 have hr1:=hr'.isOne
 try simp only[go_sem]
 refine za3 (P:=Tryz.prog) (l:=[hv',rv',vi N.rw,vi N.rf]) rfl (fun v h=>by simp at h;rcases h with rfl|rfl|rfl|rfl<;>first|assumption|rfl) rfl rfl ?_
 intro w3 hE3 hs3 hC
 try simp only[go_sem]
 refine hK _ _ ?_;clear hK hgd;clear K;try clear gd
 obtain⟨b6,hb6⟩:∃b,w2.heap.size=b:=⟨_,rfl⟩
 rw[hb6]at hC ⊢
 have hE13:=hE2.trans hE3
 have dX:zan w3 (some ⟨b6,0,Option.none⟩) 4=some [hv',rv',vi N.rw,vi N.rf]:=zae hC rfl
 obtain⟨aH,cH,hHv,_,hgh⟩:=hh'.open
 have m0:zad w3 (some ⟨b6,0,Option.none⟩)=some (.slice aH N.hosts.length cH):=by rw[←hHv];exact zab hC rfl
 refine go trivial ?_
 refine rc (an3 dX (zaa hE13 g1) trivial) (zgz hE3 hX hG.z.rl (hq.ext (hE1.trans hE13))) ?_
 rintro sv0 w4 ⟨hE4,hst0,_⟩
 refine rgo trivial ?_
 have hE14:=hE13.trans hE4
 have hw4:=hE1.trans hE14
 refine rq ?_;intro gd K hgd hK
 try simp only[go_sem]
 refine⟨by kernel_rfl,?_⟩
 have zbd:bdV Tryz.prog 84 []=some (.agg #[vi 0,.slice Option.none 0 0,vi 0,vi 0,.bool false,vi 0]):=by kernel_rfl
 rw[zbd]
 try simp only[go_sem]
 refine za3 (P:=Tryz.prog) (l:=stV (.slice Option.none 0 0) stZ) rfl (zbs rfl) rfl rfl ?_
 intro w5 hE5 hs5 hD
 try simp only[go_sem]
 refine hK _ _ ?_;clear hK hgd;clear K;try clear gd
 obtain⟨b8,hb8⟩:∃b,w4.heap.size=b:=⟨_,rfl⟩
 rw[hb8]at hD hs5 ⊢
 refine go trivial ?_
 have dX4:=zac hE4 dX
 have m04:=zaa hE4 m0
 have g2':=zaa hE14 g2
 have g3':=zaa hE14 g3
 have hgc4:∀i (hi:i<s.picks.length),∃x,ac=some x/\zad w4 (adr (some x) i)=some (vi s.picks[i]):=fun i hi=>by
  obtain⟨x,h1,h2⟩:=hgc i hi
  exact⟨x,h1,zaa hw4 h2⟩
 obtain⟨F,hF⟩:∃F,zbi N s.ty s.picks (zcd N s.name)=F:=⟨_,rfl⟩
 have hFl:F.length<=1000000:=by rw[←hF];exact Nat.le_trans zd8 hp
 unfold zfw
 rw[hF]
 have e24:=hE3.trans hE4
 refine zaw (Q:=fun e σ' ds' v=>e= .exit 0/\ds'=[]/\(σ' 8= .pointer (some ⟨b8,0,Option.none⟩))/\∃ov aS nS cS S0 G,σ' 5=ov/\Ext w4 v/\v.heap[b8]? =some (.cells (stV (.slice aS nS cS) S0).toArray 84 (0,0))/\Own (b8+1) v 9 ov ((G.map (zeW N)).map vs)/\F.takeWhile (·.2)=G/\(G.getLastD (stZ,false)).1=S0/\(G≠ []->GoodSt N S0)/\G.length<=1000000) ?_ ?_
 ·refine zh4 s.picks.length (fun i σ v=>(σ 9=vi i/\σ 2= .pointer (some ⟨b,0,Option.none⟩)/\σ 3= .pointer (some ⟨b+1,0,Option.none⟩)/\σ 6= .pointer (some ⟨b6,0,Option.none⟩)/\σ 8= .pointer (some ⟨b8,0,Option.none⟩))/\
   ∃ov sv L aS nS cS S0 pre,σ 5=ov/\σ 7=sv/\Ext w4 v/\Rows 6 (StC v) v sv L/\(∀x∈L,GoodSt N x)/\v.heap[b8]? =some (.cells (stV (.slice aS nS cS) S0).toArray 84 (0,0))/\Own (b8+1) v 9 ov ((pre.map (zeW N)).map vs)/\ZT v ov/\(∀x∈pre,x.2=true)/\F=pre++zbi N s.ty (s.picks.drop i) L/\(pre.getLastD (stZ,false)).1=S0/\(pre≠ []->GoodSt N S0)) ?_ ?_ ?_
  ·exact⟨⟨vr0,vq0,vq0,vq0,vr0⟩,.slice Option.none 0 0,sv0,zcd N s.name,Option.none,0,0,stZ,[],vr0,vr0,hE5,Rows.extC (fun _ _ h=>StC.ext h hE5) hst0 hE5,zfk hG hgq,hD,Own.nil _ _ _,ZT.nil,(fun x hx=>by cases hx),hF.symm,rfl,fun h=>absurd rfl h⟩
  ·rintro i σ v hi p ⟨st,ov,sv,L,aS,nS,cS,S0,pre,h5,h7,hEv,hL,hgL,hBv,ho,hzt,hpt,hFe,hlast,hgd⟩
   obtain⟨aL,cS',rfl,_,hgs⟩:=hL.open
   obtain⟨xp,rfl,g6⟩:=hgc4 i hi
   have gp:=zaa hEv g6
   have g3v:=zaa hEv g3'
   obtain⟨c,hc⟩:∃c,s.picks[i]=c:=⟨_,rfl⟩
   have hdr:s.picks.drop i=c::s.picks.drop (i+1):=by rw[←hc];exact List.drop_eq_getElem_cons hi
   rw[hc]at gp
   rw[hdr]at hFe
   have hpl:pre.length<=1000000:=by rw[hFe]at hFl;simp at hFl;omega
   refine go (an3 st p g3v) ?_
   by_cases hb:c<0\/(L.length:Int)<=c
   ·rw[zft hb]at hFe
    have hfin:F.takeWhile (·.2)=pre:=by rw[hFe];exact zd3 hpt (.inr ⟨_,_,rfl,rfl⟩)
    by_cases hc0:c<0
    ·refine rgg [(6,31)] (an5 st p gp g3v (decide_eq_true hc0)) ?_
     refine go trivial ?_
     exact⟨rfl,rfl,(vq1 st),ov,_,_,_,_,pre,(vr1 h5),hEv,hBv,ho,hfin,hlast,hgd,hpl⟩
    ·have hd:decide ((L.length:Int)<=c)=true:=decide_eq_true (hb.resolve_left hc0)
     refine rgg [(6,31)] (an7 st p gp g3v h7 (decide_eq_false hc0) hd) ?_
     refine go trivial ?_
     exact⟨rfl,rfl,(vq1 st),ov,_,_,_,_,pre,(vr1 h5),hEv,hBv,ho,hfin,hlast,hgd,hpl⟩
   ·obtain⟨k,rfl⟩:=Int.eq_ofNat_of_zero_le (show 0<=c by omega)
    have hkL:k<L.length:=by omega
    rw[zfu hkL]at hFe
    have hc0:decide ((k:Int)<0)=false:=decide_eq_false (by omega)
    have hd:decide ((k:Int)>=(L.length:Int))=false:=decide_eq_false (by omega)
    have hk0:(0:Int)<=(k:Int):=by omega
    have hk1:(k:Int)<(L.length:Int):=by omega
    refine rgg [(6,31)] (an7 st p gp g3v h7 hc0 hd) ?_
    refine go trivial ?_
    obtain⟨cs6,hcs,hXs⟩:=hgs k hkL
    have hmem:=List.getElem_mem hkL
    obtain⟨S,hSe⟩:∃S,L[k]=S:=⟨_,rfl⟩
    rw[hSe]at hXs hmem hFe
    obtain⟨nv,rfl,hnm⟩:=hXs.ex
    obtain⟨an,cn,hnv,_⟩:=id hnm
    obtain⟨xs,rfl⟩:=Option.isSome_iff_exists.1 (zak hcs)
    obtain⟨xi,hxi⟩:∃xi,adr (some xs) (k*6)=some xi:=⟨_,rfl⟩
    rw[hxi]at hcs
    have n1:=hnm.isOne
    have gS:=hgL S hmem
    refine rq ?_;intro gd K hgd hK
    try simp (disch:=first|omega|assumption|rfl) only[go_sem,st,p,h7,gp,g3v,hk0,hk1,hxi,hcs]
    refine zaD (P:=Tryz.prog) (t:=84) (l:=stV nv S) hBv rfl (zbs n1) rfl rfl ?_
    intro v2 hs2v hB2 hk2
    try simp only[go_sem]
    refine hK _ _ ?_;clear hK hgd;clear K;try clear gd
    have hEv2:Ext w4 v2:=Keep.to_ext hEv rfl (fun b hb=>by omega) hk2
    have hnm2:=zis hBv hnm hk2
    have l8:=(Array.getElem?_eq_some_iff.1 hBv).1
    have ho2:=ho.keep hk2 fun i hi h=>by have:=(ho.ge hi).1;omega
    have hzt2:ZT v2 ov:=hzt.block fun i hi=>hk2.block _ (ho.ge hi).2 fun h=>by have:=(ho.ge hi).1;omega
    obtain⟨n,hn⟩:=Int.eq_ofNat_of_zero_le gS.s0
    have hnl:n<N.hosts.length:=by have:=gS.s1;omega
    obtain⟨c6,hc6,hH⟩:=hgh n hnl
    have hsh:=hG.sh _ (List.getElem_mem hnl)
    obtain⟨hnv0,a0,a1,a2,a3,zv,rfl,_,hnr,_⟩:=hH.ex
    obtain⟨xh,rfl⟩:=Option.isSome_iff_exists.1 (zak hc6)
    obtain⟨xj,hxj⟩:∃xj,adr (some xh) (n*6)=some xj:=⟨_,rfl⟩
    rw[hxj]at hc6
    have g0:=zah (j:=0) hc6 rfl
    rw[zaj]at g0
    have z0:adr (some xj) 0=some xj:=zaj _
    have hi0:(0:Int)<=(n:Int):=by omega
    have hi1:(n:Int)<(N.hosts.length:Int):=by omega
    have e2v:=e24.trans hEv2
    have q0:=zaa e2v g0
    have q1:=zaa hEv2 m04
    have f0:zad v2 (some ⟨b8,0,Option.none⟩)=some (vi n):=by rw[zab hB2 rfl];exact congrArg some (congrArg vi hn)
    have f1:zad v2 (some ⟨b8,1,Option.none⟩)=some nv:=zab hB2 rfl
    have gm:=zcb gS.nm
    have hst:zeW N (S,true)=zaL N.hosts[n].name++ [32]++zaL S.name:=by unfold zeW;rw[hn,zjo hnl]
    have t1:=zfC hG S.sv
    rw[hn,zjo hnl]at t1
    have t2:(zaL S.name).length<=10000000:=zcU (fun l hl=>by have:=(zfK (Bool.and_eq_true_iff.1 gS.nm).1).1 l hl;omega) (by have:=gm.len;omega)
    obtain⟨T1,hT1⟩:∃T,zaL N.hosts[n].name=T:=⟨_,rfl⟩
    have hn1:=zb9
    refine go trivial ?_
    refine zaw (Q:=fun e σ' ds' B=>e= .normal/\ds'=[]/\(σ' 9=vi i/\σ' 2= .pointer (some ⟨b,0,Option.none⟩)/\σ' 3= .pointer (some ⟨b+1,0,Option.none⟩)/\σ' 6= .pointer (some ⟨b6,0,Option.none⟩)/\σ' 8= .pointer (some ⟨b8,0,Option.none⟩))/\∃u y,σ' 5=u/\Ext v2 y/\Own (b8+1) B 9 u (((pre++ [(S,true)]).map (zeW N)).map vs)/\ZT B u/\KeptN y B/\Ext w4 B/\Keep (fun i=>some i=ov.ownBlock) y B) ?_ ?_
    ·refine zaJ (fun i=>i==15) [(0,true),(1,true),(2,true),(3,true),(4,true),(5,true),(6,true),(7,true),(10,true),(11,true),(8,false),(9,true),(12,false),(13,true),(14,false),(15,false),(16,true)] NoS mixed (by kernel_rfl) ?_;intro gd K x hgd hx hxe hK;clear hxe
     have q0x:=zaa hx q0
     have q1x:=zaa hx q1
     have f0x:=zaa hx f0
     have f1x:=zaa hx f1
     simp (disch:=first|omega|assumption|rfl) only[go_sem,st,h5,q1x,f0x,f1x,q0x,hxj,z0,hi0,hi1,Nat.zero_add,Nat.add_zero]
     have hP:=zb9 x _ _ (hnr.ext (e2v.trans hx)) (fun l hl=>by have:=hsh.lb l hl;omega) (by have:=hsh.len;omega)
     rw[hT1]at hP
     refine Fn.mono hP ?_
     rintro _ y ⟨rfl,hy⟩
     refine⟨.inr hy,?_⟩
     have f1y:=zaa hy f1x
     rw[hT1]at t1
     have a1:T1.length+([32]:Lab).length<=9223372036854775807:=by rw[List.length_singleton];omega
     simp (disch:=first|omega|assumption|rfl) only[go_sem,st,f1y]
     refine Fn.mono (zb9 y nv S.name (hnm2.ext (hx.trans hy)) (fun l hl=>by have:=gm.m.lb l hl;omega) (by have:=gm.len;omega)) ?_
     rintro _ z ⟨rfl,hz⟩
     refine⟨.inr hz,?_⟩
     have a2:(T1++ [32]).length+(zaL S.name).length<=9223372036854775807:=by rw[List.length_append,List.length_singleton];omega
     simp (disch:=first|omega|assumption|rfl) only[go_sem,st]
     refine zdk (z:=vs []) rfl rfl rfl rfl rfl ?_
     intro y3 hy3 hs3y ho3
     refine⟨.inr hy3.keep,?_⟩
     simp (disch:=first|omega|assumption|rfl) only[go_sem]
     have hA3y:=hx.trans (hy.trans (hz.trans hy3))
     have hys:=hA3y.size
     refine op_appZ (B:=b8+1) (ho2.ext hA3y) ho3.row rfl rfl rfl rfl rfl ((vr1 h5)) (vr0) rfl (by simp;omega) (by decide) (by omega) (hzt2.block fun i hi=>hA3y.block _ (ho2.ge hi).2 fun h=>h) ?_
     intro u y4 ho4 hz4 hk4n hE4' hk4 hb4
     refine⟨.inl rfl,?_⟩
     simp (disch:=first|omega|assumption|rfl) only[go_sem]
     refine hK _ _ ?_;clear hK hgd;clear K;try clear gd
     refine⟨rfl,rfl,sc st,u,y3,vr0,hA3y,?_,hz4,hk4n,hE4' w4 (hEv2.trans hA3y) (by omega),hk4⟩
     rw[List.map_append,List.map_append,List.map_singleton,List.map_singleton,hst,hT1]
     exact ho4
    clear st
    rintro _ σ1 _ v4 ⟨rfl,rfl,st,u,y,s5,hyE,hou,hzu,hkn,hE4v,hkB⟩
    have hys:=hyE.size
    have hB4:=(hkB.block _ (by omega) (fun h=>by have:=(ho2.ge h).1;omega)).trans (Ext.at hyE hB2)
    have hnm4:=hkn _ _ (goodN_ne gS.nm) (hnm2.ext hyE)
    have dS:zan v4 (some ⟨b8,0,Option.none⟩) 6=some (stV nv S):=zae hB4 rfl
    have dXv:=zac hE4v dX4
    refine go trivial ?_
    refine rc (an4 st dXv dS (zaa hE4v g2')) (zia (t:=s.ty) (e24.trans hE4v) hX hG.z ⟨nv,rfl,hnm4⟩ (gS.b hG) (zjE hG.z (zcb gS.nm).m)) ?_
    rintro sv5 v5 ⟨hE5v,hR5,_⟩
    rw[zlq]at hR5
    refine rgo (an2 st p) ?_
    rw[hnv]at hB4
    refine⟨rfl,sc (an2 st p),u,sv5,_,_,_,_,S,pre++ [(S,true)],(vr1 s5),vr0,hE4v.trans hE5v,hR5,fun x hx=>(zji hG gS hx).2.g,Ext.at hE5v hB4,hou.ext hE5v,hzu.block fun i hi=>hE5v.block _ (hou.ge hi).2 fun h=>h,?_,by rw[hFe,List.append_assoc];rfl,by simp[List.getLastD_eq_getLast?],fun _=>gS⟩
    intro x hx
    rcases List.mem_append.1 hx with hx|hx
    ·exact hpt x hx
    ·rw[List.mem_singleton.1 hx]
  ·rintro σ v p ⟨st,ov,sv,L,aS,nS,cS,S0,pre,h5,h7,hEv,hL,hgL,hBv,ho,hzt,hpt,hFe,hlast,hgd⟩
   rw[List.drop_length]at hFe
   have hFp:F=pre:=by rw[hFe];simp[zbi]
   refine go (an3 st p (zaa hEv g3')) ?_
   refine⟨rfl,rfl,(vq1 st),ov,_,_,_,_,pre,(vr1 h5),hEv,hBv,ho,?_,hlast,hgd,by rw[←hFp];exact hFl⟩
   rw[hFp]
   have:=zd3 (suf:=[]) hpt (.inl rfl)
   rwa [List.append_nil]at this
 rintro _ σ1 _ v ⟨rfl,rfl,s8,ov,aS,nS,cS,S0,G,s5,hEv,hBv,ho,hG',hlast,hgd,hGl⟩
 rw[hG']
 unfold wayF
 obtain⟨ao,co,hov⟩:=ho.slice
 simp only[List.length_map]at hov
 have hEwv:=hw4.trans hEv
 by_cases hg0:G=[]
 ·rw[if_pos hg0]
  subst hg0
  rw[hov]at s5
  refine go (an2 s8 s5) ?_
  refine rt0 Tryz.ntmps53 ?_
  exact⟨⟨Option.none,0,rfl,Nat.le_refl _,fun j h=>by simp at h⟩,hEwv⟩
 rw[if_neg hg0]
 have hd:decide ((G.length:Int)=0)=false:=decide_eq_false (by have:=List.length_pos_iff.2 hg0;omega)
 have s5':=s5
 rw[hov]at s5'
 have gS:=hgd hg0
 obtain⟨n,hn⟩:=Int.eq_ofNat_of_zero_le gS.e0
 have hn9:n<wordsE.length:=by have:=gS.e1;show n<10;omega
 refine go (an3 s8 s5' hd) ?_
 refine rq ?_;intro gd K hgd hK
 try simp (disch:=first|omega|assumption|rfl) only[go_sem,s8,s5]
 refine zbx (z:=vs []) (l:=wordsE.map vs) rfl rfl rfl rfl rfl rfl (fun v hv=>by obtain⟨l,_,rfl⟩:=List.mem_map.1 hv;rfl) (by decide) ?_
 intro v2 hE2v hs2v ho2
 try simp only[go_sem]
 refine hK _ _ ?_;clear hK hgd;clear K;try clear gd
 obtain⟨b10,hb10⟩:∃b,v.heap.size=b:=⟨_,rfl⟩
 rw[hb10]at ho2 ⊢
 have l8:=(Array.getElem?_eq_some_iff.1 hBv).1
 have f5:zad v2 (some ⟨b8,5,Option.none⟩)=some (vi n):=by rw[zaa hE2v (zab hBv rfl)];exact congrArg some (congrArg vi hn)
 obtain⟨aw,cw,hw10,_,hgw⟩:=ho2.row
 injection hw10 with hw1 hw2 hw3
 have gw:=hgw n (by simpa using hn9)
 rw[←hw1,List.getElem_map]at gw
 have gw':zad v2 (some ⟨b10,n,Option.none⟩)=some (vs wordsE[n]):=by
  have ea:∀n,adr (some ⟨b10,0,Option.none⟩) n=some ⟨b10,n,Option.none⟩:=fun n=>by cases n<;>simp[adr,Addr.add]
  rw[ea]at gw
  exact gw
 have hn0:(0:Int)<=(n:Int):=by omega
 have hn1:(n:Int)<((10:Nat):Int):=by have:n<10:=hn9;omega
 have ho3:=ho.ext hE2v
 have hwf:zhf S0.fin=wordsE[n]:=by rw[hn,wordF_at hn9]
 refine go trivial ?_
 refine rq ?_;intro gd K hgd hK
 try simp (disch:=first|omega|assumption|rfl) only[go_sem,s8,s5,f5,gw',hn0,hn1,Nat.zero_add,Nat.mul_one]
 refine zdk (z:=vs []) rfl rfl rfl rfl rfl ?_
 intro v3 hE3v hs3v ho4
 try simp only[go_sem]
 refine zcv (B:=b8+1) (ho3.ext hE3v) ho4.row rfl rfl rfl rfl rfl rfl ((vr1 s5)) (vr0) (fun q hq=>by rw[List.mem_singleton.1 hq];rfl) (by simp;omega) (by decide) (by have:=hE2v.size;have:=hE3v.size;omega) ?_
 intro u v4 ho5 hE4v hk4 hb4
 try simp only[go_sem]
 refine hK _ _ ?_;clear hK hgd;clear K;try clear gd
 refine go trivial ?_
 refine rt0 Tryz.ntmps53 ?_
 rw[←List.map_singleton (f:=vs),←List.map_append]at ho5
 rw[hlast,hwf]
 have h45:=hE5.size
 exact⟨ho5.row,hE4v w (hEwv.trans (hE2v.trans hE3v)) (by have:=hw4.size;omega)⟩
theorem zh9(w:World)(t:Int):Fn Tryz.prog 100 #[vi t] w (fun v w'=>(∃s:Lab,v=vs s/\decide (s≠ [])=decide (t∈typesL))/\Ext w w'):=by
 refine enter Tryz.func100 Tryz.ntmps100 rfl rfl ?_
 refine go trivial ?_
 refine rc trivial (Types_ok w) ?_
 rintro tv w1 ⟨htv,hE1⟩
 refine rgo trivial ?_
 obtain⟨a,c,rfl,hg⟩:=zgg htv
 rw[show typesL.length=9 from rfl]
 refine rq ?_;intro gd K hgd hK
 try simp only[go_sem]
 refine zbx (z:=vs []) (l:=wordsT.map vs) rfl rfl rfl rfl rfl rfl (fun v hv=>by obtain⟨l,_,rfl⟩:=List.mem_map.1 hv;rfl) (by decide) ?_
 intro w2 hE2 hs2 ho
 try simp only[go_sem]
 refine hK _ _ ?_;clear hK hgd;clear K;try clear gd
 obtain⟨b,hb⟩:∃b,w1.heap.size=b:=⟨_,rfl⟩
 rw[hb]at ho ⊢
 obtain⟨aw,cw,hw10,_,hgw⟩:=ho.row
 injection hw10 with hw1 hw2 hw3
 have gw:∀i (hi:i<9) (h9:i<wordsT.length),zad w2 (some ⟨b,i,Option.none⟩)=some (vs wordsT[i]):=fun i hi h9=>by
  have h:=hgw i (by simpa using h9)
  rw[←hw1,List.getElem_map]at h
  have ea:∀n,adr (some ⟨b,0,Option.none⟩) n=some ⟨b,n,Option.none⟩:=fun n=>by cases n<;>simp[adr,Addr.add]
  rw[ea]at h
  exact h
 refine go trivial ?_
 refine zh4 9 (fun i σ v=>(σ 5=vi i/\σ 0=vi t/\σ 3= .slice a 9 c/\σ 4= .slice (some ⟨b,0,Option.none⟩) 9 9)/\v=w2/\t∉typesL.take i) ?_ ?_ ?_
 ·exact⟨⟨vr0,vq0,vq0,vr0⟩,rfl,by simp⟩
 ·rintro i σ v hi r ⟨s,rfl,ht⟩
  have hi':i<typesL.length:=hi
  have hi2:i<wordsT.length:=hi
  obtain⟨x1,rfl,g1⟩:=hg i hi'
  have g1:=zaa hE2 g1
  refine go (an2 s r) ?_
  obtain⟨k,hk⟩:∃k,typesL[i]=k:=⟨_,rfl⟩
  have g1:=g1.trans (congrArg (fun z=>some (vi z)) hk)
  by_cases h:k=t
  ·refine go (an7 s r g1 (decide_eq_true h) (gw i hi hi2) Nat.zero_add Nat.mul_one) ?_
   refine rt0 Tryz.ntmps100 ?_
   refine⟨⟨wordsT[i],rfl,?_⟩,hE1.trans hE2⟩
   rw[decide_eq_true (show t∈typesL from h▸hk▸List.getElem_mem hi')]
   have h9:i=0\/i=1\/i=2\/i=3\/i=4\/i=5\/i=6\/i=7\/i=8:=by omega
   rcases h9 with rfl|rfl|rfl|rfl|rfl|rfl|rfl|rfl|rfl<;>rfl
  ·refine go (an4 s r g1 (decide_eq_false h)) ?_
   refine⟨rfl,sc (an2 s r),rfl,fun hm=>?_⟩
   rw[zal hi']at hm
   rcases List.mem_append.1 hm with hm|hm
   ·exact ht hm
   ·exact h (hk.symm.trans (List.mem_singleton.1 hm).symm)
 ·rintro σ v r ⟨s,rfl,ht⟩
  have ht:t∉typesL:=ht
  refine go (an2 s r) ?_
  refine rt0 Tryz.ntmps100 ?_
  exact⟨⟨[],rfl,by rw[decide_eq_false ht];rfl⟩,hE1.trans hE2⟩
theorem zmz(w:World)(t:Int):Fn Tryz.prog 50 #[vi t] w (fun v w'=>v= .bool (decide (t∈typesL))/\Ext w w'):=by
 refine enter Tryz.func50 Tryz.ntmps50 rfl rfl ?_
 refine go trivial ?_
 refine rc trivial (zh9 w t) ?_
 rintro _ w1 ⟨⟨s,rfl,hs⟩,hE⟩
 refine rgo trivial ?_
 refine rt0 Tryz.ntmps50 ?_
 exact⟨by rw[←hs,decide_not],hE⟩
theorem zk1{w:World}{v:Value}{ps:List Lab}(h:Row w v (ps.map vs)):∃a c,v= .slice a ps.length c/\∀i (hi:i<ps.length),∃x,a=some x/\zad w (adr (some x) i)=some (vs ps[i]):=by
 obtain⟨a,c,rfl,_,hg⟩:=h
 refine⟨a,c,by rw[List.length_map],fun i hi=>?_⟩
 have g:=hg i (by rw[List.length_map];exact hi)
 rw[List.getElem_map]at g
 obtain⟨x,rfl⟩:=Option.isSome_iff_exists.1 (zag g)
 exact⟨x,rfl,g⟩
theorem zkC{α:Type}{p:α->Bool}:∀{l:List α} {x:α},x∈l.takeWhile p->p x=true
 | [],_,h=>by cases h
 |a::l,x,h=>by
  rw[List.takeWhile_cons]at h
  split at h
  ·rcases List.mem_cons.1 h with rfl|h
   ·assumption
   ·exact zkC h
  ·cases h
theorem way_len{N:NetL}(hG:zby N){s:zeE}(hgq:zbX s.name=true):∀l∈zfw N s,l.length<=30000000:=by
 unfold zfw wayF
 have hm:=zfs (t:=s.ty) (ch:=s.picks) hG (zfk hG hgq)
 obtain⟨F,hF⟩:∃F,zbi N s.ty s.picks (zcd N s.name)=F:=⟨_,rfl⟩
 rw[hF]at hm ⊢
 split
 ·intro l hl;cases hl
 ·intro l hl
  rcases List.mem_append.1 hl with hl|hl
  ·obtain⟨x,hx,rfl⟩:=List.mem_map.1 hl
   have h2:=zkC hx
   have gS:=(hm x (List.takeWhile_subset _ hx)).1 h2
   have gm:=zcb gS.nm
   have t1:=zfC hG x.1.sv
   have t2:(zaL x.1.name).length<=10000000:=zcU (fun l hl=>by have:=(zfK (Bool.and_eq_true_iff.1 gS.nm).1).1 l hl;omega) (by have:=gm.len;omega)
   unfold zeW
   simp only[List.length_append,List.length_singleton]
   omega
  ·rw[List.mem_singleton.1 hl]
   unfold zhf
   split
   ·simp
   ·cases h:wordsE[(List.getLastD (List.takeWhile (·.2) F) (stZ,false)).1.fin.toNat]? with
    |none=>simp
    |some l=>
     have h3:∀l∈wordsE,l.length<=30000000:=by decide
     exact h3 l (List.mem_of_getElem? h)
theorem zkA{N:NetL}{s:zeE}:(zfw N s).length<=s.picks.length+1:=by
 unfold zfw wayF
 have h1:=zd8 (N:=N) (t:=s.ty) (ch:=s.picks) (L:=zcd N s.name)
 have h2:=(List.takeWhile_sublist (·.2) (l:=zbi N s.ty s.picks (zcd N s.name))).length_le
 split
 ·simp
 ·simp only[List.length_append,List.length_map,List.length_singleton]
  omega
theorem zjX{N:NetL}{s:zeE}{t:Bool}(h:(decide (zaA s.name=0) && decide (s.ty∈typesL))=t)(ht:t=false):zcI N s=false:=by
 unfold zcI
 rw[←Bool.and_assoc,h,ht];rfl
theorem zh8(W:World){cs sc:List Value}{N:NetL}{s:zeE}(hN:NetAt W cs N)(hv:NumN N)(hs:SeenC W sc s):
  Fn Tryz.prog 11 #[.agg cs.toArray,.agg sc.toArray] W (fun v w'=>v= .bool true/\Ext W w'):=by
 have hN0:=hN
 obtain⟨hsv,rv,rfl,hh,hr⟩:=id hN.ex
 obtain⟨ah,ch0,hhv,_⟩:=hh.open
 obtain⟨ar0,cr0,hrv,_⟩:=id hr
 obtain⟨qv,cv,rfl,hq,hcv⟩:=id hs.ex
 obtain⟨aq,cq,hqe,_⟩:=id hq
 obtain⟨ac,cc,hce,hgc⟩:=zgg hcv
 refine enter Tryz.func11 Tryz.ntmps11 rfl rfl ?_
 repeat refine c_r ?_
 rw[hhv,hrv,hqe,hce]
 refine go trivial ?_
 rw[←hhv,←hrv,←hqe,←hce,zai]
 refine zaF ?_
 intro w1 hE1 hs1 hA hB
 obtain⟨b,hb⟩:∃b,W.heap.size=b:=⟨_,rfl⟩
 rw[hb]at hA hB hs1 ⊢
 have dN:zan w1 (some ⟨b,0,Option.none⟩) 4=some [hsv,rv,vi N.rw,vi N.rf]:=zae hA rfl
 have dS:zan w1 (some ⟨b+1,0,Option.none⟩) 4=some [vi s.kind,qv,vi s.ty,cv]:=zae hB rfl
 have g0:zad w1 (some ⟨b+1,0,Option.none⟩)=some (vi s.kind):=zab hB rfl
 have g1:zad w1 (some ⟨b+1,1,Option.none⟩)=some qv:=zab hB rfl
 have g2:zad w1 (some ⟨b+1,2,Option.none⟩)=some (vi s.ty):=zab hB rfl
 have g3:zad w1 (some ⟨b+1,3,Option.none⟩)=some cv:=zab hB rfl
 refine rc trivial (zkw w1) ?_
 rintro _ w2 ⟨rfl,hE2⟩
 refine rgo trivial ?_
 have hE12:=hE1.trans hE2
 have dN2:=zac hE2 dN
 refine zaw (Q:=fun e σ' ds' v'=>e= .normal/\ds'=[]/\(σ' 2= .pointer (some ⟨b,0,Option.none⟩)/\σ' 3= .pointer (some ⟨b+1,0,Option.none⟩))/\Ext w2 v'/\∃bb,σ' 27= .bool bb/\(bb=false->zby N/\few s.name=true/\s.picks.length<=40)) ?_ ?_
 ·obtain⟨b4,h4⟩:∃b,decide (((s.picks.length:Nat):Int)>40)=b:=⟨_,rfl⟩
  refine rcg [(3,16),(9,22)] dN2 (zmD w2 (hN0.ext hE12) hv) ?_
  rintro _ w4 ⟨hE4,b,rfl,hb⟩
  cases b with
  |false=>
   refine reg [(3,16),(9,22)] trivial ?_
   exact⟨rfl,rfl,sc trivial,hE4,_,vr0,fun h=>by cases h⟩
  |true=>
   refine rdg [(3,16),(9,22)] (an2 (zaa (hE2.trans hE4) g1) Nat.zero_add) (zgB w4 qv s.name (hq.ext (hE12.trans hE4))) ?_
   rintro _ w7 ⟨rfl,hE7⟩
   cases hgq:few s.name with
   |false=>
    refine reg [(3,16),(9,22)] trivial ?_
    exact⟨rfl,rfl,sc trivial,hE4.trans hE7,_,vr0,fun h=>by cases h⟩
   |true=>
    have g3y:=zaa (hE2.trans (hE4.trans hE7)) g3
    rw[hce]at g3y
    refine reg [(3,16),(9,22)] (an3 h4 g3y Nat.zero_add) ?_
    exact⟨rfl,rfl,sc trivial,hE4.trans hE7,_,vr0,fun h=>⟨hb rfl,rfl,by have:=of_decide_eq_false (h4.trans h);omega⟩⟩
 rintro _ σ1 _ w4 ⟨rfl,rfl,st,hE4,bb,s27,hbb⟩
 have hE14:=hE12.trans hE4
 cases bb with
 |true=>
  refine go s27 ?_
  refine rt0 Tryz.ntmps11 ?_
  exact⟨rfl,hE14⟩
 |false=>
 obtain⟨hG,hf,hp40⟩:=hbb rfl
 obtain⟨f1,f2⟩:=zfK hf
 have e14:=hE2.trans hE4
 refine go (an2 st s27) ?_
 obtain⟨t1,ht1⟩:∃t,decide (zaA s.name=0)=t:=⟨_,rfl⟩
 obtain⟨t2,ht2⟩:∃t,decide (s.ty∈typesL)=t:=⟨_,rfl⟩
 refine zaw (Q:=fun e σ' ds' v'=>e= .normal/\ds'=[]/\(σ' 2= .pointer (some ⟨b,0,Option.none⟩)/\σ' 3= .pointer (some ⟨b+1,0,Option.none⟩)/\σ' 5= .bool false)/\Ext w4 v'/\σ' 36= .bool (t1 && t2)) ?_ ?_
 ·refine rcg [(4,32)] (an3 st (zaa e14 g1) Nat.zero_add) (zbc w4 qv s.name (hq.ext hE14) (fun l hl=>by have:=f1 l hl;omega) (by omega)) ?_
  rintro _ w5 ⟨rfl,hE5⟩
  have ht1':decide ((0:Int)=zaA s.name)=t1:=by rw[←ht1];exact decide_eq_decide.2 ⟨Eq.symm,Eq.symm⟩
  cases t1 with
  |false=>
   refine reg [(4,32)] ht1' ?_
   exact⟨rfl,rfl,sc st,hE5,vr0⟩
  |true=>
   refine rdg [(4,32)] (an4 st ht1' (zaa (e14.trans hE5) g2) Nat.zero_add) (zmz w5 s.ty) ?_
   rintro _ w6 ⟨rfl,hE6⟩
   rw[ht2]
   refine reg [(4,32)] trivial ?_
   exact⟨rfl,rfl,sc st,hE5.trans hE6,vr0⟩
 clear st s27
 rintro _ σ2 _ w5 ⟨rfl,rfl,st,hE5,s36⟩
 have hE15:=hE14.trans hE5
 have e15:=e14.trans hE5
 have rw0:∀t,(decide (zaA s.name=0) && decide (s.ty∈typesL))=t->t=false->zcI N s=false:=fun _=>zjX
 rw[ht1,ht2]at rw0
 obtain⟨t3,ht3⟩:∃t,(t1 && t2)=t:=⟨_,rfl⟩
 rw[ht3]at s36
 refine zaw (Q:=fun e σ' ds' v'=>e= .normal/\ds'=[]/\(σ' 2= .pointer (some ⟨b,0,Option.none⟩)/\σ' 3= .pointer (some ⟨b+1,0,Option.none⟩))/\Ext w5 v'/\σ' 5= .bool (zcI N s)) ?_ ?_
 ·cases t3 with
  |false=>
   refine go (an2 st s36) ?_
   rw[rw0 _ ht3 rfl]
   exact⟨rfl,rfl,sc st,Keep.refl _ _,(vq1 st)⟩
  |true=>
   have hc0:zaA s.name=0:=by
    cases t1 with
    |false=>cases ht3
    |true=>exact of_decide_eq_true ht1
   have hgq:=zg1 hf hc0
   have hri:zcI N s=((zcJ N s.name s.ty s.picks).2 && decide ((zcJ N s.name s.ty s.picks).1.fin=s.kind)):=by
    unfold zcI
    rw[←Bool.and_assoc,ht1,ht2,ht3,Bool.true_and]
   rw[hri]
   have dN5:=zac (hE4.trans hE5) dN2
   have g05:=zaa e15 g0
   have g15:=zaa e15 g1
   have g25:=zaa e15 g2
   have g35:=zaa e15 g3
   refine go (an2 st s36) ?_
   obtain⟨S,hS⟩:∃S,(zcJ N s.name s.ty s.picks).1=S:=⟨_,rfl⟩
   obtain⟨ok,hok⟩:∃ok,(zcJ N s.name s.ty s.picks).2=ok:=⟨_,rfl⟩
   rw[hS,hok]
   refine zaw (Q:=fun e σ' ds' v'=>e= .normal/\ds'=[]/\(σ' 2= .pointer (some ⟨b,0,Option.none⟩)/\σ' 3= .pointer (some ⟨b+1,0,Option.none⟩))/\Ext w5 v'/\∃x nv,σ' 6= .pointer (some ⟨x,0,Option.none⟩)/\σ' 7= .bool ok/\zan v' (some ⟨x,0,Option.none⟩) 6=some (stV nv S)) ?_ ?_
   ·refine zeT (fun i=>i==13) (.run [(0,true),(2,true),(3,true),(4,true),(5,true),(6,true),(7,true)] (.fork 7 [1,12] (fun i=>if i=1 then(.run [] (.fork 6 [8,12] (fun i=>if i=8 then(.run [(9,true),(10,true),(11,true),(12,false),(13,false),(14,true)] .fin) else(.run [(8,false),(9,true),(10,true),(11,true),(13,false),(14,true)] .fin)))) else(.run [(1,false),(8,false),(9,true),(10,true),(11,true),(13,false),(14,true)] .fin)))) NoS mixed (by kernel_rfl) ?_;intro gd K x hgd hx hxe hK;clear hxe
    have dNx:=zac hx dN5
    have g1x:=zaa hx g15
    have g2x:=zaa hx g25
    have g3x:=zaa hx g35
    simp (disch:=first|omega|assumption|rfl) only[go_sem,st,dNx,g1x,g2x,g3x,Nat.zero_add]
    have hE5x:=hE15.trans hx
    rw[za5,zbl]
    refine⟨?_,?_⟩
    ·simp (disch:=first|omega|assumption|rfl) only[go_sem,st,dNx,g1x,g2x,g3x,Nat.zero_add]
     refine Fn.mono (ziV x (hN0.ext hE5x) hG.z) ?_
     rintro _ y ⟨hy,cs',rfl,hX⟩
     refine⟨.inr hy,?_⟩
     have g1y:=zaa hy g1x
     have g2y:=zaa hy g2x
     have g3y:=zaa hy g3x
     simp (disch:=first|omega|assumption|rfl) only[go_sem,st,g1y,g2y,g3y,Nat.zero_add]
     rw[za5,zbl]
     refine⟨?_,?_⟩
     ·simp (disch:=first|omega|assumption|rfl) only[go_sem,st,g1y,g2y,g3y,Nat.zero_add]
      have hR:=zha (t:=s.ty) (Keep.refl _ y) hX hG (hq.ext (hE5x.trans hy)) hgq (hcv.ext (hE5x.trans hy)) (by omega)
      refine Fn.mono hR ?_
      rintro _ z ⟨hz,nv,rfl,hnm⟩
      rw[hS]at hnm
      rw[hS,hok]
      refine⟨.inr hz,?_⟩
      simp (disch:=first|omega|assumption|rfl) only[go_sem,st]
      refine⟨.inr (Ext.alloc z _),?_⟩
      refine za3 (P:=Tryz.prog) (l:=stV nv S) rfl (zbs hnm.isOne) rfl rfl ?_
      intro u hEu hsu hBu
      refine⟨.inl rfl,?_⟩
      simp (disch:=first|omega|assumption|rfl) only[go_sem]
      refine hK _ _ ?_;clear hK hgd;clear K;try clear gd
      exact⟨rfl,rfl,sc st,hx.trans (hy.trans (hz.trans hEu)),_,nv,vr0,vr0,zae hBu rfl⟩
     ·simp (disch:=first|omega|assumption|rfl) only[go_sem,st,g1y,g2y,g3y,Nat.zero_add]
      refine⟨.inr (Ext.alloc y _),?_⟩
      have hEa:∀o,Ext y (y.alloc o):=fun o=>Ext.alloc y o
      have hEh:=hE5x.trans hy
      refine Fn.mono (zha (t:=s.ty) (hEa _) hX hG (hq.ext (hEh.trans (hEa _))) hgq (hcv.ext (hEh.trans (hEa _))) (by omega)) ?_
      rintro _ z ⟨hz,nv,rfl,hnm⟩
      have hBz:=Ext.at hz (zau y _)
      have hExz:=(hx.trans hy).trans ((hEa _).trans hz)
      have hyx:=(hx.trans hy).size
      rw[hS]at hnm
      rw[hS,hok]
      refine⟨.inr hz,?_⟩
      simp (disch:=first|omega|assumption|rfl) only[go_sem,st]
      refine zaD (P:=Tryz.prog) (l:=stV nv S) hBz rfl (zbs hnm.isOne) rfl rfl ?_
      intro u hsu hBu hku
      refine⟨.inl rfl,?_⟩
      simp (disch:=first|omega|assumption|rfl) only[go_sem]
      refine hK _ _ ?_;clear hK hgd;clear K;try clear gd
      exact⟨rfl,rfl,sc st,Keep.to_ext hExz rfl (fun b hb=>by omega) hku,_,nv,vr0,vr0,zae hBu rfl⟩
    ·simp (disch:=first|omega|assumption|rfl) only[go_sem,st,dNx,g1x,g2x,g3x,Nat.zero_add]
     refine⟨.inr (Ext.alloc x _),?_⟩
     have hEa:∀o,Ext x (x.alloc o):=fun o=>Ext.alloc x o
     refine Fn.mono (ziV _ (hN0.ext (hE5x.trans (hEa _))) hG.z) ?_
     rintro _ y ⟨hy,cs',rfl,hX⟩
     refine⟨.inr hy,?_⟩
     have hEh:=hE5x.trans ((hEa _).trans hy)
     have hxy:=(hEa _).trans hy
     have g1y:=zaa hxy g1x
     have g2y:=zaa hxy g2x
     have g3y:=zaa hxy g3x
     simp (disch:=first|omega|assumption|rfl) only[go_sem,st,g1y,g2y,g3y,Nat.zero_add]
     have hR:=zha (t:=s.ty) (Keep.refl _ y) hX hG (hq.ext hEh) hgq (hcv.ext hEh) (by omega)
     refine Fn.mono hR ?_
     rintro _ z ⟨hz,nv,rfl,hnm⟩
     have hBz:=Ext.at (hy.trans hz) (zau x _)
     have hExz:=hx.trans (hxy.trans hz)
     have hyx:=hx.size
     rw[hS]at hnm
     rw[hS,hok]
     refine⟨.inr hz,?_⟩
     simp (disch:=first|omega|assumption|rfl) only[go_sem,st]
     refine zaD (P:=Tryz.prog) (l:=stV nv S) hBz rfl (zbs hnm.isOne) rfl rfl ?_
     intro u hsu hBu hku
     refine⟨.inl rfl,?_⟩
     simp (disch:=first|omega|assumption|rfl) only[go_sem]
     refine hK _ _ ?_;clear hK hgd;clear K;try clear gd
     exact⟨rfl,rfl,sc st,Keep.to_ext hExz rfl (fun b hb=>by omega) hku,_,nv,vr0,vr0,zae hBu rfl⟩
   clear st s36
   rintro _ σ3 _ w6 ⟨rfl,rfl,st,hE6,x,nv,s6,s7,hcs⟩
   have g06:=zaa hE6 g05
   have f5:zad w6 (some ⟨x,5,Option.none⟩)=some (vi S.fin):=zah (j:=5) hcs rfl
   cases ok with
   |false=>
    refine rgg [(1,50)] (an3 st s6 s7) ?_
    exact⟨rfl,rfl,sc st,hE6,vr0⟩
   |true=>
    refine rgg [(1,50)] (an6 st s6 s7 f5 g06 Nat.zero_add) ?_
    exact⟨rfl,rfl,sc st,hE6,vr0⟩
 clear st s36
 rintro _ σ3 _ w6 ⟨rfl,rfl,st,hE6,s5⟩
 have hE16:=hE15.trans hE6
 have e16:=e15.trans hE6
 have dN6:=zac ((hE4.trans hE5).trans hE6) dN2
 have dS6:=zac e16 dS
 have hP:=zg9 hE16 hN0 hG (hs.ext hE16) hf (by omega)
 refine go trivial ?_
 refine rc (an3 st dN6 dS6) hP ?_
 rintro _ w7 ⟨rfl,hE7⟩
 have bt:(zcI N s==zcI N s)=true:=by cases zcI N s<;>rfl
 refine rgo (an3 st s5 bt) ?_
 have hE17:=hE16.trans hE7
 have e17:=e16.trans hE7
 refine rc (an3 st (zaa e17 g1) Nat.zero_add) (zbc w7 qv s.name (hq.ext hE17) (fun l hl=>by have:=f1 l hl;omega) (by omega)) ?_
 rintro _ w8 ⟨rfl,hE8⟩
 have hE18:=hE17.trans hE8
 by_cases hc:zaA s.name=0
 rotate_left
 ·refine rgo (decide_eq_false hc) ?_
  refine rt0 Tryz.ntmps11 ?_
  exact⟨rfl,hE18⟩
 refine rgo (an2 st (decide_eq_true hc)) ?_
 have hgq:=zg1 hf hc
 have dN8:=zac (hE7.trans hE8) dN6
 have dS8:=zac (hE7.trans hE8) dS6
 have hPa:=ziU hE18 hN0 hG (hs.ext hE18) hgq (by omega)
 refine rc (an3 st dN8 dS8) hPa ?_
 rintro av w9 ⟨hav,hE9⟩
 refine rgo st ?_
 have hE19:=hE18.trans hE9
 have hWy:=RWay_ok hE19 hN0 hG (hs.ext hE19) hgq (by omega)
 refine rc (an3 st (zac hE9 dN8) (zac hE9 dS8)) hWy ?_
 rintro bv w10 ⟨hbv,hE10⟩
 refine rgo st ?_
 have hav:=hav.ext hE10
 have hwl:=way_len hG hgq
 have hws:=zkA (N:=N) (s:=s)
 obtain⟨L,hL⟩:∃L,zfw N s=L:=⟨_,rfl⟩
 rw[hL]at hav hbv hwl hws
 obtain⟨aa,ca,rfl,hga⟩:=zk1 hav
 obtain⟨ab,cb,rfl,hgb⟩:=zk1 hbv
 have hE110:=hE19.trans hE10
 refine go trivial ?_
 refine go trivial ?_
 refine zh4 L.length (fun i σ v=>(σ 10=vi i/\σ 8= .slice aa L.length ca/\σ 9= .slice ab L.length cb)/\Ext w10 v) ?_ ?_ ?_
 ·exact⟨⟨vr0,(vq1 st),vq0⟩,Keep.refl _ _⟩
 ·rintro i σ v hi p ⟨st,hEv⟩
  obtain⟨xa,rfl,ga⟩:=hga i hi
  obtain⟨xb,rfl,gb⟩:=hgb i hi
  have ga:=zaa hEv ga
  have gb:=zaa hEv gb
  have hll:=hwl _ (List.getElem_mem hi)
  obtain⟨l,hl⟩:∃l,L[i]=l:=⟨_,rfl⟩
  rw[hl]at ga gb hll
  refine go (an2 st p) ?_
  refine zaw (Q:=fun e σ' ds' v'=>e= .normal/\ds'=[]/\(σ' 10=vi i/\σ' 8= .slice (some xa) L.length ca/\σ' 9= .slice (some xb) L.length cb)/\Ext v v'/\σ' 93= .bool false) ?_ ?_
  ·refine zaJ (fun _=>false) [(0,true),(1,true),(2,true),(3,true),(5,true),(6,true),(7,true),(8,true),(4,false),(9,false),(10,true)] NoS mixed (by kernel_rfl) ?_;intro gd K x hgd hx hxe hK;clear hxe
   have gax:=zaa hx ga
   have gbx:=zaa hx gb
   simp (disch:=first|omega|assumption|rfl) only[go_sem,st,p,gax,gbx]
   refine Fn.mono (zbm x l (by omega)) ?_
   rintro _ y ⟨rfl,hy⟩
   refine⟨.inr hy,?_⟩
   simp (disch:=first|omega|assumption|rfl) only[go_sem,st,p,zaa hy gbx]
   refine Fn.mono (zbm y l (by omega)) ?_
   rintro _ z ⟨rfl,hz⟩
   refine⟨.inr hz,?_⟩
   have bl:(zbf l==zbf l)=true:=beq_self_eq_true _
   simp (disch:=first|omega|assumption|rfl) only[go_sem,st,bl]
   refine hK _ _ ?_;clear hK hgd;clear K;try clear gd
   exact⟨rfl,rfl,sc st,hx.trans (hy.trans hz),(vr1 bl)⟩
  clear st
  rintro _ σ1 _ v2 ⟨rfl,rfl,st,hEv2,s93⟩
  refine go (an3 st p s93) ?_
  exact⟨rfl,sc (an2 st p),hEv.trans hEv2⟩
 ·rintro σ v p ⟨st,hEv⟩
  refine go (an2 st p) ?_
  refine rt0 Tryz.ntmps11 ?_
  exact⟨rfl,hE110.trans hEv⟩
end Go.Proofs.YtahbdamijngmmaaGreat
