/-
  Texts of a proof, joined: HO, HP, HQ, KM, KMR, HR, HS, HT, Y0, HU, HW, D6, D7, K18, E0, D8, E1, E2, E3, Y1, E4, E5, B4.
  Conditions: none.
-/
import Derived.Test.YtanmnkbccfcagaaGreatDoorQSH05
import Derived.MapFrom
import Derived.Test.YtanmnkbccfcagaaGreatDoorQSH01
import Derived.Maps.RangeRun
import Derived.Maps.Range
import Derived.Test.YtanmnkbccfcagaaGreatDoorQSH04
import Derived.Test.YtanmnkbccfcagaaGreatDoorQSH02
set_option linter.unusedVariables false
set_option linter.unusedSimpArgs false
set_option linter.defProp false
set_option linter.unnecessarySimpa false
set_option maxHeartbeats 8000000
namespace Go.Proofs.YtanmnkbccfcagaaGreatDoor
open Go
set_option maxRecDepth 10000
def zbl(n o:Nm):Lab:=if zas n=zas o then [64] else if zew n o=true then zbc [46] ((n.take (n.length - o.length)).map zao) else zbj n
def NmT(n:Nm):Prop:=(∀l∈n,l.length≤1000)∧n.length≤1000
theorem NmT.lb{n:Nm}(h:NmT n):LB n:=fun l hl=>by have:=h.1 l hl;omega
theorem zdk{w:World}{nv ov:Value}{n o:Nm}(hn:Row w nv (n.map vs))(ho:Row w ov (o.map vs))(hnT:NmT n)(hoT:NmT o):Fn Tryz.prog 19 #[nv,ov] w (fun u w'=>u=vs (zbl n o)∧Ext w w'):=by
 have hn2:=hnT.2
 have ho2:=hoT.2
 refine enter Tryz.func19 Tryz.ntmps19 rfl rfl ?_
 refine go trivial ?_
 refine rc trivial (zfL w nv ov n o hn ho hnT.lb hoT.lb (by omega) (by omega)) ?_
 rintro _ w1 ⟨rfl,hE1⟩
 unfold zbl
 by_cases hs:zas n=zas o
 ·rw[if_pos hs]
  refine rgo (decide_eq_true hs) ?_
  refine rt0 Tryz.ntmps19 ?_
  exact⟨rfl,hE1⟩
 rw[if_neg hs]
 refine rgo (decide_eq_false hs) ?_
 refine rc trivial (Under_ok w1 nv ov n o (hn.ext hE1) (ho.ext hE1) hnT.lb hoT.lb (by omega) (by omega)) ?_
 rintro _ w2 ⟨rfl,hE2⟩
 have hE12:=hE1.trans hE2
 cases hu:zew n o with
 |false=>
  rw[if_neg (by decide)]
  refine rgo hu ?_
  refine rc trivial (zdl w2 nv n (hn.ext hE12) (fun l hl=>by have:=hnT.1 l hl;omega) hnT.2) ?_
  rintro _ w3 ⟨rfl,hE3⟩
  refine rgo trivial ?_
  refine rt0 Tryz.ntmps19 ?_
  exact⟨rfl,hE12.trans hE3⟩
 |true=>
 have hol:o.length≤n.length:=by
  have h:=hu
  unfold zew at h
  simp only[Bool.and_eq_true,decide_eq_true_eq]at h
  exact h.1
 rw[if_pos rfl]
 obtain⟨an,cn,rfl,hcn,hgn⟩:=hn
 obtain⟨ao,co,rfl,hco,hgo⟩:=ho
 rw[List.length_map]at hcn hco
 rw[show (n.map vs).length=n.length from List.length_map ..,show(o.map vs).length=o.length from List.length_map ..]
 obtain⟨M,hM⟩:∃M,n.length - o.length=M:=⟨_,rfl⟩
 have e1:(n.length:Int) - (o.length:Int)=(M:Int):=by omega
 have z1:(0:Int)≤(M:Int):=by omega
 have l1:(M:Int)≤(cn:Int):=by omega
 have hite:(if cn=0 then an else an)=an:=ite_self _
 refine rgo (an7 hu e1 z1 l1 (za7 an) hite (an2 (Nat.sub_zero M) (Nat.sub_zero cn))) ?_
 have hMn:M≤n.length:=by omega
 have hgx:∀i (hi:i<M),zae w2 (adr an i)=some (vs ((n.take M)[i]'(by rw[List.length_take];omega))):=fun i hi=>by
  have h1:=zaa hE12 (hgn i (by rw[List.length_map];omega))
  rw[List.getElem_map]at h1
  rw[List.getElem_take];exact h1
 have htl:(n.take M).length=M:=by rw[List.length_take];omega
 obtain⟨N,hN⟩:∃N,n.take M=N:=⟨_,rfl⟩
 have hNT:∀l∈N,l.length≤1000:=fun l hl=>hnT.1 l (List.mem_of_mem_take (hN▸hl))
 simp only[hN]at hgx htl
 refine zcH M (fun i σ v=>σ 25= .slice an M cn∧σ 26=vi M∧σ 27=vi i∧(∃sv,σ 5=sv∧Own w2.heap.size v 9 sv (((N.take i).map zao).map vs))∧Ext w2 v) ?_ ?_ ?_
 ·exact⟨vr0,vr0,vr0,⟨_,vr0,Own.nil _ _ _⟩,Keep.refl _ _⟩
 ·rintro i σ v hi p ⟨s25,s26,s27,⟨sv,s5,hown⟩,hE⟩
  have hiN:i<N.length:=by omega
  have g:=zaa hE (hgx i hi)
  obtain⟨l,hl⟩:∃l,N[i]=l:=⟨_,rfl⟩
  rw[hl]at g
  have hlT:=hNT l (hl▸List.getElem_mem hiN)
  obtain⟨xa,rfl⟩:=Option.isSome_iff_exists.1 (zad g)
  have hi0:(0:Int)≤(i:Int):=by omega
  have hi1:(i:Int)<(M:Int):=by omega
  have hi2:(i:Int)+1=((i+1:Nat):Int):=by push_cast;rfl
  have hsv:=hE.size
  refine go (an7 s25 s26 s27 s5 p g (an2 hi0 hi1)) ?_
  refine rq ?_;intro gd K hgd hK
  try simp (disch:=first|omega|assumption|rfl) only[go_sem,s5]
  refine Fn.mono (zgf v l (by omega)) ?_
  rintro _ y0 ⟨rfl,hy0⟩
  try simp (disch:=first|omega|assumption|rfl) only[go_sem,s5]
  refine zbv (z:=vs []) rfl rfl rfl rfl rfl ?_
  intro y1 hy1 hys1 hyo
  try simp (disch:=first|omega|assumption|rfl) only[go_sem,s5]
  have hsy0:=hy0.size
  have hxy1:=hy0.trans hy1
  refine za1 (e:=9) (hown.ext hxy1) hyo.row rfl rfl rfl rfl rfl rfl ((vr1 s5)) (vr0) (fun q hq=>by simp at hq;subst hq;rfl) (by simp;omega) (by decide) (by omega) ?_
  intro sv' y2 hown2 hX2 hK2 hb2
  try simp only[go_sem]
  refine hK _ _ ?_;clear hK hgd;clear K;try clear gd
  refine go (an5 s25 s26 s27 hi2 s5) ?_
  refine⟨rfl,(vq1 s25),(vq1 s26),(vq1 hi2),⟨sv',vr0,?_⟩,hX2 w2 (hE.trans hxy1) (Nat.le_refl _)⟩
  rw[show ((N.take (i+1)).map zao).map vs=((N.take i).map zao).map vs++ [vs (zao l)] by rw[zag hiN,hl];simp]
  exact hown2
 ·rintro σ v p ⟨s25,s26,s27,⟨sv,s5,hown⟩,hE⟩
  rw[←htl,List.take_length]at hown
  refine go (an5 s25 s26 s27 p s5) ?_
  have hln:zar (N.map zao)≤4000*N.length:=zbB fun l hl=>by
   have h1:=zbk l
   have h2:=hNT l hl
   omega
  have h4:4000*N.length≤4000*1000:=Nat.mul_le_mul_left _ (by omega)
  refine rc s5 (zcY (sep:=[46]) hown.row (by rw[List.length_map];omega) (by decide) (by decide) (by omega)) ?_
  rintro _ v1 ⟨rfl,hE3⟩
  refine rgo trivial ?_
  refine rt0 Tryz.ntmps19 ?_
  rw[hM,hN]
  exact⟨rfl,(hE12.trans hE).trans hE3⟩
def ze2(R:List RecL)(i:Nat):Bool:=decide (i=0)||!decide ((R[i]?.map RecL.owner)=(R[i - 1]?.map RecL.owner))
def za9(R:List RecL):List (Nat×Bool):=(List.range R.length).map fun i=>(i,ze2 R i)
theorem zb2(R:List RecL):(za9 R).length=R.length:=by simp[za9]
theorem zb3{R:List RecL}{i:Nat}(h:i<(za9 R).length):(za9 R)[i]=(i,ze2 R i):=by simp[za9]
def encF(w0:World)(R:List RecL)(x:Nat×Bool)(_:World)(args:Array Value):Prop:=∃cs r,R[x.1]? =some r∧RecAt w0 cs r∧args=#[.agg cs.toArray,.bool x.2]
theorem Fresh_ok(w:World)(a:Option Addr)(n c:Nat):Fn Tryz.prog 62 #[.slice a n c] w (fun u w'=>u= .func (.func 123) #[] #[.pointer (some ⟨w.heap.size,0,Option.none⟩)]∧Ext w w'∧w'.heap.size=w.heap.size+1∧w'.heap[w.heap.size]? =some (.cells #[.slice a n c] 22 (0,0))):=by
 refine enter Tryz.func62 Tryz.ntmps62 rfl rfl ?_
 repeat refine c_r ?_
 refine rg0 ?_
 repeat refine c_r ?_
 refine zaK ?_
 intro w1 hE1 hs1 hA
 refine go trivial ?_
 refine rt0 Tryz.ntmps62 ?_
 exact⟨rfl,hE1,hs1,hA⟩
theorem zfq{w:World}{v:Value}{ps:List Lab}(h:Row w v (ps.map vs)):∃a c,v= .slice a ps.length c∧∀i (hi:i<ps.length),∃x,a=some x∧zae w (adr (some x) i)=some (vs ps[i]):=by
 obtain⟨a,c,rfl,_,hg⟩:=h
 refine⟨a,c,by rw[List.length_map],fun i hi=>?_⟩
 have g:=hg i (by rw[List.length_map];exact hi)
 rw[List.getElem_map]at g
 obtain⟨x,rfl⟩:=Option.isSome_iff_exists.1 (zad g)
 exact⟨x,rfl,g⟩
theorem zgV{w:World}{av bv:Value}{p q:Nm}(ha:Row w av (p.map vs))(hb:Row w bv (q.map vs))(hp:p.length≤1000000000)(hq:q.length≤1000000000):
  Fn Tryz.prog 124 #[av,bv] w (fun v w'=>v= .bool (decide (p=q))∧Ext w w'):=by
 obtain⟨a,c,rfl,hga⟩:=zfq ha
 obtain⟨b,d,rfl,hgb⟩:=zfq hb
 refine enter Tryz.func124 Tryz.ntmps124 rfl rfl ?_
 by_cases hlen:p.length=q.length
 rotate_left
 ·have h1:decide ((p.length:Int)=(q.length:Int))=false:=decide_eq_false (by omega)
  refine go h1 ?_
  refine rt0 Tryz.ntmps124 ?_
  exact⟨by rw[decide_eq_false fun h=>hlen (by rw[h])],Keep.refl _ _⟩
 have h1:decide ((p.length:Int)=(q.length:Int))=true:=decide_eq_true (by omega)
 refine go h1 ?_
 refine zcH p.length (fun i σ v=>(σ 13=vi i∧σ 12=vi p.length∧σ 0= .slice a p.length c∧σ 1= .slice b q.length d)∧Ext w v∧p.take i=q.take i) ?_ ?_ ?_
 ·exact⟨⟨vr0,vr0,vq0,vq0⟩,Keep.refl _ _,rfl⟩
 ·rintro i σ v hi r ⟨s,hE,ht⟩
  obtain⟨x1,rfl,g1⟩:=hga i hi
  obtain⟨x2,rfl,g2⟩:=hgb i (by omega)
  have hi2:(i:Int)<(q.length:Int):=by omega
  refine go (an2 s r) ?_
  obtain⟨t,htt⟩:∃t,decide (p[i]=q[i])=t:=⟨_,rfl⟩
  refine zaI (Q:=fun e σ' ds' v'=>e= .normal∧ds'=[]∧(σ' 13=vi i∧σ' 12=vi p.length∧σ' 0= .slice (some x1) p.length c∧σ' 1= .slice (some x2) q.length d)∧Ext v v'∧σ' 24= .bool (!t)) ?_ ?_
  ·refine zaJ (fun _=>false) [(0,true),(1,true),(2,true),(3,true),(4,true),(5,true),(6,true),(7,true),(8,true)] NoS mixed (by kernel_rfl) ?_;intro gd K x hgd hx hxe hK;clear hxe
   have e1:=zaa (hE.trans hx) g1
   have e2:=zaa (hE.trans hx) g2
   simp (disch:=first|omega|assumption|rfl) only[go_sem,s,r,hi2,e1,e2,htt]
   refine hK _ _ ?_;clear hK hgd;clear K;try clear gd
   exact⟨rfl,rfl,sc s,hx,vr0⟩
  clear s
  rintro _ σ1 _ v1 ⟨rfl,rfl,s,hv1,s25⟩
  cases t with
  |true=>
   refine go (an3 s r s25) ?_
   refine⟨rfl,sc (an2 s r),hE.trans hv1,?_⟩
   rw[zag hi,zag (by omega),ht,of_decide_eq_true htt]
  |false=>
   refine go (an2 s s25) ?_
   refine rt0 Tryz.ntmps124 ?_
   exact⟨by rw[decide_eq_false fun h=>(of_decide_eq_false htt) (by subst h;rfl)],hE.trans hv1⟩
 ·rintro σ v r ⟨s,hE,ht⟩
  refine go (an2 s r) ?_
  refine rt0 Tryz.ntmps124 ?_
  rw[List.take_length,hlen,List.take_length]at ht
  exact⟨by rw[decide_eq_true ht],hE⟩
theorem freshIt{w0 W0:World}{n0:Nat}{C:Nat→Prop}{b:Nat}{T:TypeId}{fr:Nat×Nat}{v:Value}{R:List RecL}(hE0:Ext w0 W0)(hR:Rows 7 (RecAt w0) w0 v R)(hb:W0.heap[b]? =some (.cells #[v] T fr))(hbn:b<n0)(hbC:¬C b)(hC:∀b,C b→w0.heap.size≤b)(hn0:w0.heap.size≤n0)(hl:R.length≤100000)(hrl:∀r∈R,r.owner.length≤1000000):
  Iter Tryz.prog 123 #[.pointer (some ⟨b,0,Option.none⟩)] W0 n0 C (za9 R) (encF w0 R):=by
 intro lp J Jx W hW hnW hJ hJx hY h0
 obtain⟨a,c,rfl,hc,hg⟩:=hR.open
 have cell1:∀{v:World},KeepB n0 C W v→zae v (some ⟨b,0,Option.none⟩)=some (.slice a R.length c):=fun hk=>zbi hk hbn hbC (zab (hW.at hb) rfl)
 -- what lay in w0 is kept
 have hEW:=hE0.trans hW
 have old:∀{v:World},KeepB n0 C W v→Ext w0 v:=fun {v} hk=>
  ⟨hk.os.trans hEW.os,hk.tape.trans hEW.tape,hk.output.trans hEW.output,Nat.le_trans hEW.size hk.size,fun b hb _=>(hk.block b (by omega) (fun h=>by have:=hC b h;omega)).trans (hEW.block b hb (fun h=>h)),Nat.le_trans hEW.drawn hk.drawn⟩
 refine enter Tryz.func123 Tryz.ntmps123 rfl rfl ?_
 have c0:=cell1 (KeepB.refl n0 C W)
 refine go c0 ?_
 refine zay (fun m σ ds v=>ds=[]∧∃i,i+m=R.length∧σ 0= .func (.yield lp) #[] #[]∧σ 1= .pointer (some ⟨b,0,Option.none⟩)∧σ 5= .slice a R.length c∧σ 6=vi R.length∧σ 7=vi i∧J ((za9 R).take i) v∧KeepB n0 C W v) R.length ?_ ?_
 ·exact⟨rfl,0,by omega,vr0,vr0,vr0,vr0,vr0,by simpa using h0,KeepB.refl _ _ _⟩
 rintro m σ ds v ⟨rfl,i,him,f0,f1,s5,s6,s7,hj,hK⟩
 by_cases hi:i<R.length
 rotate_left
 ·have d1:decide ((i:Int)<(R.length:Int))=false:=decide_eq_false (by omega)
  refine go (an6 f0 f1 s5 s6 s7 d1) ?_
  refine zau (by simp) rfl (.inl ?_)
  rw[List.take_of_length_le (by rw[zb2];omega)]at hj
  exact hj
 have d1:decide ((i:Int)<(R.length:Int))=true:=decide_eq_true (by omega)
 have hif:i<(za9 R).length:=by rw[zb2];exact hi
 obtain⟨cs,g0,hcs⟩:=hg i hi
 have g:=zak (old hK) g0
 obtain⟨r,hr⟩:∃r,R[i]=r:=⟨_,rfl⟩
 rw[hr]at hcs
 obtain⟨xa,rfl⟩:=Option.isSome_iff_exists.1 (za5 g)
 obtain⟨xi,hxi⟩:∃xi,adr (some xa) (i*7)=some xi:=⟨_,rfl⟩
 rw[hxi]at g
 have hi0:(0:Int)≤(i:Int):=by omega
 have hi1:(i:Int)<(R.length:Int):=by omega
 have hi2:(i:Int)+1=((i+1:Nat):Int):=by push_cast;rfl
 have hc7:=hcs.len
 refine go (an6 f0 f1 s5 s6 s7 d1) ?_
 refine rq ?_;intro gd K hgd hK
 try simp (disch:=first|omega|assumption|rfl) only[go_sem,s5,s7,hi0,hi1,hxi,g]
 refine zeF (P:=Tryz.prog) (l:=cs) (by rw[hc7];rfl) hcs.ones (by rw[hc7];rfl) rfl ?_
 intro v1 hEv1 hsv1 hBv
 try simp only[go_sem]
 refine hK _ _ ?_;clear hK hgd;clear K;try clear gd
 have q:=zcs (n:=7) hBv hc7.symm
 have hKv1:KeepB n0 C W v1:=hK.trans (hEv1.toB (by have:=hK.size;omega) (fun _ _ h=>h.elim))
 refine zat ?_
 by_cases hz:i=0
 ·have dz:decide ((i:Int)=0)=true:=decide_eq_true (by omega)
  repeat refine c_r ?_
  refine zaJ (fun i=>i==16) [(0,true),(1,true),(2,true),(3,true),(4,true),(5,true),(6,true),(7,true),(8,true),(9,true),(10,true),(11,true),(12,true),(13,false),(14,true),(15,true),(16,false),(17,true)] NoS mixed (by kernel_rfl) ?_;intro gd K x hgd hx hxe hK;have hx0:=za3 hxe;clear hxe
  have hg4:∀n σ b,zaQ gd n σ (some (4,b))=zaC (ev n σ (.tmp 16)) b:=(fun n σ b=>by rw[zah,show gd 4=some 16 from(by rw[hgd];rfl)];rfl)
  have qx:=zak hx0 q
  simp (disch:=first|omega|assumption|rfl) only[go_sem,f0,f1,qx,dz,↓hg4]
  have hfb:ze2 R i=true:=by rw[hz];rfl
  have hKx:KeepB n0 C W x:=hKv1.trans (hx0.toB (by have:=hKv1.size;omega) (fun _ _ h=>h.elim))
  refine Yld.mono (hY ((za9 R).take i) (za9 R)[i] ((za9 R).drop (i+1)) x _ (zaW hif) (hJ _ _ _ hj (hEv1.trans hx0)) hKx ⟨cs,r,by rw[zb3];simp only;rw[List.getElem?_eq_getElem hi,hr],hcs,by rw[zb3,hfb]⟩) ?_
  rintro u y (⟨rfl,hj',hk'⟩| ⟨rfl,hjx⟩)
  ·refine⟨.inl rfl,?_⟩
   simp (disch:=first|omega|assumption|rfl) only[go_sem,↓hg4]
   refine hK _ _ ?_;clear hK hgd;clear K;try clear gd
   refine go (an7 f0 f1 s5 s6 s7 hi2 d1) ?_
   refine⟨m - 1,by omega,rfl,i+1,by omega,(vq1 f0),(vq1 f1),(vq1 s5),(vq1 s6),(vq1 hi2),?_,hKx.trans hk'⟩
   rw[zag hif];exact hj'
  ·refine⟨.inl rfl,?_⟩
   simp (disch:=first|omega|assumption|rfl) only[go_sem,↓hg4]
   refine hK _ _ ?_;clear hK hgd;clear K;try clear gd
   refine go trivial ?_
   exact zau (by simp) rfl (.inr ⟨_,_,_,zaW hif,hjx⟩)
 have dz:decide ((i:Int)=0)=false:=decide_eq_false (by omega)
 obtain⟨cs',g0',hcs'⟩:=hg (i - 1) (by omega)
 obtain⟨r',hr'⟩:∃r',R[i - 1]'(by omega)=r':=⟨_,rfl⟩
 rw[hr']at hcs'
 have g':=zak ((old hK).trans hEv1) g0'
 obtain⟨ow,ds,hce,how,_⟩:=hcs.ex
 obtain⟨ow',ds',hce',how',_⟩:=hcs'.ex
 obtain⟨xj,hxj⟩:∃xj,adr (some xa) ((i - 1)*7)=some xj:=⟨_,rfl⟩
 rw[hxj]at g'
 have ej:(i:Int) - 1=((i - 1:Nat):Int):=by omega
 have j0:(0:Int)≤((i - 1:Nat):Int):=by omega
 have j1:((i - 1:Nat):Int)<(R.length:Int):=by omega
 have o0:zae v1 (some ⟨v.heap.size,0,Option.none⟩)=some ow:=zcb (l:=cs) (j:=0) hBv (by rw[hce];rfl)
 have o1:zae v1 (some xj)=some ow':=by
  subst hce'
  have:zae v1 (adr (some xj) 0)=some ow':=zed g' (j:=0) (by simp)
  rwa [za7]at this
 have cv:=cell1 hKv1
 repeat refine c_r ?_
 refine zaJ (fun i=>i==16) [(0,true),(1,true),(2,true),(3,true),(4,true),(5,true),(6,true),(7,true),(8,true),(9,true),(10,true),(11,true),(12,true),(13,false),(14,true),(15,true),(16,false),(17,true)] NoS mixed (by kernel_rfl) ?_;intro gd K x hgd hx hxe hK;have hx0:=za3 hxe;clear hxe
 have hg4:∀n σ b,zaQ gd n σ (some (4,b))=zaC (ev n σ (.tmp 16)) b:=(fun n σ b=>by rw[zah,show gd 4=some 16 from(by rw[hgd];rfl)];rfl)
 have qx:=zak hx0 q
 have o0x:=zaa hx0 o0
 have o1x:=zaa hx0 o1
 have cvx:=zaa hx0 cv
 simp (disch:=first|omega|assumption|rfl) only[go_sem,f0,f1,qx,dz,o0x,o1x,cvx,ej,j0,j1,hxj,za7,Nat.zero_add,↓hg4]
 refine Fn.mono (zgV (how.ext ((old hKv1).trans hx0)) (how'.ext ((old hKv1).trans hx0)) (by have:=hrl r (hr▸List.getElem_mem hi);omega) (by have:=hrl r' (hr'▸List.getElem_mem (by omega));omega)) ?_
 rintro _ y0 ⟨rfl,hy0⟩
 refine⟨.inr hy0.keep,?_⟩
 have hxy:=hx0.trans hy0
 have hfb:ze2 R i=!decide (r.owner=r'.owner):=by
  unfold ze2
  rw[decide_eq_false hz,Bool.false_or,List.getElem?_eq_getElem hi,List.getElem?_eq_getElem (show i - 1<R.length by omega),hr,hr']
  simp
 simp (disch:=first|omega|assumption|rfl) only[go_sem,↓hg4]
 have hKx:KeepB n0 C W y0:=hKv1.trans (hxy.toB (by have:=hKv1.size;omega) (fun _ _ h=>h.elim))
 refine Yld.mono (hY ((za9 R).take i) (za9 R)[i] ((za9 R).drop (i+1)) y0 _ (zaW hif) (hJ _ _ _ hj (hEv1.trans hxy)) hKx ⟨cs,r,by rw[zb3];simp only;rw[List.getElem?_eq_getElem hi,hr],hcs,by rw[zb3,hfb]⟩) ?_
 rintro u y (⟨rfl,hj',hk'⟩| ⟨rfl,hjx⟩)
 ·refine⟨.inl rfl,?_⟩
  simp (disch:=first|omega|assumption|rfl) only[go_sem,↓hg4]
  refine hK _ _ ?_;clear hK hgd;clear K;try clear gd
  refine go (an7 f0 f1 s5 s6 s7 hi2 d1) ?_
  refine⟨m - 1,by omega,rfl,i+1,by omega,(vq1 f0),(vq1 f1),(vq1 s5),(vq1 s6),(vq1 hi2),?_,hKx.trans hk'⟩
  rw[zag hif];exact hj'
 ·refine⟨.inl rfl,?_⟩
  simp (disch:=first|omega|assumption|rfl) only[go_sem,↓hg4]
  refine hK _ _ ?_;clear hK hgd;clear K;try clear gd
  refine go trivial ?_
  exact zau (by simp) rfl (.inr ⟨_,_,_,zaW hif,hjx⟩)
theorem zgh{w:World}(hW:WY w)(u:Nat)(hu:u<4294967296):Fn Tryz.prog 59 #[.int .u32 (u:Nat)] w (fun v w'=>v=vs (Lib.decDigits u)∧Ext w w'):=by
 refine enter Tryz.func59 Tryz.ntmps59 rfl rfl ?_
 refine go trivial ?_
 refine rc trivial (zbw hW u (by omega)) ?_
 rintro _ w1 ⟨rfl,hE1⟩
 refine rgo trivial ?_
 refine rt0 Tryz.ntmps59 ?_
 exact⟨rfl,hE1⟩
theorem zgi{w:World}{v:Value}{xs:List Lab}{B b:Nat}{acc:Lab}(hR:Row w v (xs.map vs))(hx:xs.length≤1000000)(hl:zar xs≤1000000000)(hB:Bld B w b acc)(hBw:B≤w.heap.size)(hacc:acc.length≤50000000000):
  Fn Tryz.prog 56 #[v,.pointer (some ⟨b,0,Option.none⟩)] w (fun _ w'=>Bld B w' b (acc++(zbc [32] xs++ [10]))∧Keep (fun i=>i=b∨B≤i) w w'):=by
 have hj:=zaZ [32] xs
 rw[show ([32]:Lab).length=1 from rfl]at hj
 refine enter Tryz.func56 Tryz.ntmps56 rfl rfl ?_
 refine rc trivial (zcY (sep:=[32]) hR hx (by decide) (by decide) hl) ?_
 rintro _ w1 ⟨rfl,hE1⟩
 have l1:(zbc [32] xs).length+([10]:Lab).length≤9223372036854775807:=by simp;omega
 have hs1:=hE1.size
 refine rd l1 (zaz (s:=zbc [32] xs++ [10]) (hB.ext' hE1) (by omega) (by rw[List.length_append,show([10]:Lab).length=1 from rfl];omega)) ?_
 rintro _ w2 ⟨hB2,hk2⟩
 refine rgo trivial ?_
 exact zau (by simp) rfl ⟨hB2,(hE1.mono fun _ _ h=>h.elim).trans hk2⟩
end Go.Proofs.YtanmnkbccfcagaaGreatDoor
namespace Go.Proofs.YtanmnkbccfcagaaGreatDoor.M32
open Go Go.Proofs.YtanmnkbccfcagaaGreatDoor
abbrev v32(n:Int):Value:= .int .u32 n
def MapAt(w:World)(r:Nat)(l:List (Int×Value)):Prop:=
 ∃es clk,w.heap[r]? =some (.map es clk)∧es.toList.map (fun e=>(e.key,e.val))=l.map (fun p=>(v32 p.1,p.2))∧(es.toList.map (·.born)).Pairwise (·≠·)∧(∀e∈es.toList,e.born<clk)
theorem MapAt.block{w x:World}{r:Nat}{l:List (Int×Value)}(h:MapAt w r l)(hb:x.heap[r]? =w.heap[r]?):MapAt x r l:=by
 obtain⟨es,clk,h1,h2⟩:=h
 exact⟨es,clk,hb.trans h1,h2⟩
theorem zbN(a b:Int):Instr.sameNow (.int .u32) (v32 a) (v32 b)=some (a==b):=by
 simp[Instr.sameNow]
theorem zbC{key:Int}:∀(es:List MapEntry) (l:List (Int×Value)) (i:Nat),es.map (fun e=>(e.key,e.val))=l.map (fun p=>(v32 p.1,p.2))→l.lookup key=Option.none→Instr.findNow (.int .u32) (v32 key) es i=some Option.none
 | [],[],_,_,_=>rfl
 | [],_::_,_,h,_=>by simp at h
 |_::_,[],_,h,_=>by simp at h
 |e::es,(k,v)::l,i,h,hl=>by
  simp only[List.map_cons,List.cons.injEq,Prod.mk.injEq]at h
  obtain⟨⟨h1,h2⟩,h3⟩:=h
  simp only[List.lookup_cons]at hl
  split at hl
  ·cases hl
  ·rename_i hne
   simp only[Instr.findNow,h1,zbN,hne]
   exact zbC es l (i+1) h3 hl
theorem zcA{key:Int}{v:Value}:∀(es:List MapEntry) (l:List (Int×Value)) (i:Nat),es.map (fun e=>(e.key,e.val))=l.map (fun p=>(v32 p.1,p.2))→l.lookup key=some v→∃j,Instr.findNow (.int .u32) (v32 key) es i=some (some (j,v))
 | [],[],_,_,h=>by simp at h
 | [],_::_,_,h,_=>by simp at h
 |_::_,[],_,h,_=>by simp at h
 |e::es,(k,u)::l,i,h,hl=>by
  simp only[List.map_cons,List.cons.injEq,Prod.mk.injEq]at h
  obtain⟨⟨h1,h2⟩,h3⟩:=h
  simp only[List.lookup_cons]at hl
  split at hl
  ·rename_i heq
   cases hl
   exact⟨i,by simp only[Instr.findNow,h1,zbN,heq,h2]⟩
  ·rename_i hne
   simp only[Instr.findNow,h1,zbN,hne]
   exact zcA es l (i+1) h3 hl
def setK(key:Int)(v:Value):List (Int×Value)→List (Int×Value)
 | []=>[]
 |p::l=>if key==p.1 then(p.1,v)::l else p::setK key v l
theorem zf7{key:Int}{u v:Value}:∀(es:List MapEntry) (l:List (Int×Value)) (i:Nat),es.map (fun e=>(e.key,e.val))=l.map (fun p=>(v32 p.1,p.2))→l.lookup key=some u→
  ∃j e,Instr.findNow (.int .u32) (v32 key) es i=some (some (i+j,u))∧es[j]? =some e∧e.key=v32 key∧(es.set j {e with key:=v32 key,val:=v}).map (fun e=>(e.key,e.val))=(setK key v l).map (fun p=>(v32 p.1,p.2))
 | [],[],_,_,h=>by simp at h
 | [],_::_,_,h,_=>by simp at h
 |_::_,[],_,h,_=>by simp at h
 |e::es,(k,x)::l,i,h,hl=>by
  simp only[List.map_cons,List.cons.injEq,Prod.mk.injEq]at h
  obtain⟨⟨h1,h2⟩,h3⟩:=h
  simp only[List.lookup_cons]at hl
  split at hl
  ·rename_i heq
   cases hl
   have hk:key=k:=by simpa using heq
   subst hk
   refine⟨0,e,by simp only[Instr.findNow,h1,zbN,heq,h2];rfl,rfl,h1,?_⟩
   simp[setK,h3]
  ·rename_i hne
   obtain⟨j,e',g1,g2,g3,g4⟩:=zf7 (v:=v) es l (i+1) h3 hl
   refine⟨j+1,e',?_,g2,g3,?_⟩
   ·simp only[Instr.findNow,h1,zbN,hne,g1]
    rw[show i+1+j=i+(j+1) by omega]
   ·simp only[List.set_cons_succ,List.map_cons,g4,setK,hne]
    simp[h1,h2]
section
variable {P : Program} {d : Option Tmp} {ty : TypeId} {ps : String} {af : Array Edge} {g : Option (Nat × Bool)} {ρ : Operand → Value} {w : World} {K : Value → World → Prop}
theorem zbR{kt:TypeId}(hk:tyU P kt=some (.int .u32))(n:Nat)(e:Bool)(key:Int):(Instr.checkKey e (n+1) kt (v32 key)).run P w= .ok () w:=by
 simp[Instr.checkKey,run_underlying (show P.underlying kt=_ from hk)]
theorem lk_run{r:Nat}{l:List (Int×Value)}(h:MapAt w r l){t kt et:TypeId}{z:Value}{inf:TypeInfo}(ht:tyU P t=some (.map kt et))(hk:tyU P kt=some (.int .u32))(hi:P.info? et=some inf)(hz:inf.zero=some z)(key:Int):
  (Instr.lookup t (.map (some r)) (v32 key) false).run P w= .ok ((l.lookup key).getD z) w:=by
 obtain⟨es,clk,h1,h2,_⟩:=h
 have hck:∀e,(Instr.checkKey e 10000 kt (v32 key)).run P w= .ok () w:=fun e=>zbR hk 9999 e key
 cases hl:l.lookup key with
 |none=>
  have hf:=zbC _ _ 0 h2 hl
  simp[Instr.lookup,run_underlying (show P.underlying t=_ from ht),MapKept.run_getObj_map h1,hck,Instr.findKey,run_underlying (show P.underlying kt=_ from hk),hf,zeroValue,typeInfo,hi,hz,Result.andThen]
 |some v=>
  obtain⟨j,hj⟩:=zcA _ _ 0 h2 hl
  simp[Instr.lookup,run_underlying (show P.underlying t=_ from ht),MapKept.run_getObj_map h1,hck,Instr.findKey,run_underlying (show P.underlying kt=_ from hk),hj,zeroValue,typeInfo,hi,hz,Result.andThen]
theorem op_mapUpdate{t kt et:TypeId}{m k x:Operand}{r:Nat}{l:List (Int×Value)}{key:Int}{v:Value}(ht:tyU P t=some (.map kt et))(hk:tyU P kt=some (.int .u32))
  (hm:ρ m= .map (some r)) (hkey:ρ k=v32 key) (hx:ρ x=v) (hat:MapAt w r l) (hno:l.lookup key=Option.none)
  (h:∀w',MapAt w' r (l++ [(key,v)])→Keep (fun i=>i=r) w w'→w'.heap.size=w.heap.size→K undef w'):
  opW P ⟨d,.mapUpdate t m k x,ty,ps,af,g⟩ ρ w K:=by
 obtain⟨es,clk,h1,h2,h3,h4⟩:=hat
 have hf:=zbC es.toList l 0 h2 hno
 have hrun:(Instr.mapUpdate t (.map (some r)) (v32 key) v).run P w= .ok () (w.putObj r (.map (es.push {key:=v32 key,val:=v,born:=clk}) (clk+1))):=by
  have hck:∀e,(Instr.checkKey e 10000 kt (v32 key)).run P w= .ok () w:=fun e=>zbR hk 9999 e key
  simp[Instr.mapUpdate,run_underlying (show P.underlying t=_ from ht),MapKept.run_getObj_map h1,hck,Instr.findKey,run_underlying (show P.underlying kt=_ from hk),hf,MapKept.run_setObj_map _ h1,Result.andThen]
  rfl
 have hlt:r<w.heap.size:=(Array.getElem?_eq_some_iff.1 h1).1
 have hat':MapAt (w.putObj r (.map (es.push {key:=v32 key,val:=v,born:=clk}) (clk+1))) r (l++ [(key,v)]):=by
  refine⟨_,_,World.putObj_heap_same hlt,by simp[h2],?_,?_⟩
  ·simp only[Array.toList_push,List.map_append,List.map_cons,List.map_nil,List.pairwise_append]
   refine⟨h3,by simp,fun a ha b hb=>?_⟩
   simp at hb;subst hb
   obtain⟨e,he,rfl⟩:=List.mem_map.1 ha
   exact Nat.ne_of_lt (h4 e he)
  ·intro e he
   simp only[Array.toList_push,List.mem_append,List.mem_singleton]at he
   rcases he with he|rfl
   ·exact Nat.lt_succ_of_lt (h4 e he)
   ·exact Nat.lt_succ_self _
 have hfin:=h _ hat' (zaF rfl) (by simp)
 show opR P K ((do Instr.mapUpdate t (ρ m) (ρ k) (ρ x);pure .skip:Sem Next).run P w)
 rw[hm,hkey,hx]
 simp only[Sem.run_bind,hrun,Result.andThen_ok,Sem.run_pure]
 exact hfin
theorem op_mapTurn{t kt et:TypeId}{m k x:Operand}{r:Nat}{l:List (Int×Value)}{key:Int}{u v:Value}(ht:tyU P t=some (.map kt et))(hk:tyU P kt=some (.int .u32))
  (hm:ρ m= .map (some r)) (hkey:ρ k=v32 key) (hx:ρ x=v) (hat:MapAt w r l) (hin:l.lookup key=some u)
  (h:∀w',MapAt w' r (setK key v l)→Keep (fun i=>i=r) w w'→w'.heap.size=w.heap.size→K undef w'):
  opW P ⟨d,.mapUpdate t m k x,ty,ps,af,g⟩ ρ w K:=by
 obtain⟨es,clk,h1,h2,h3,h4⟩:=hat
 obtain⟨j,e,hf,hj,hek,hset⟩:=zf7 (v:=v) es.toList l 0 h2 hin
 rw[Nat.zero_add]at hf
 have hj':es[j]? =some e:=by simpa using hj
 have hrun:(Instr.mapUpdate t (.map (some r)) (v32 key) v).run P w= .ok () (w.putObj r (.map (es.modify j fun e=>{e with key:=v32 key,val:=v}) clk)):=by
  have hck:∀e,(Instr.checkKey e 10000 kt (v32 key)).run P w= .ok () w:=fun e=>zbR hk 9999 e key
  have hst:(Instr.keyThatStays (v32 key) (v32 key)).run P w= .ok (v32 key) w:=MapKept.run_keyThatStays (d:= .int .u32) (by unfold MapKept.IsKey;first|exact⟨_,rfl⟩|rfl|simp[v32])
  simp[Instr.mapUpdate,run_underlying (show P.underlying t=_ from ht),MapKept.run_getObj_map h1,hck,Instr.findKey,run_underlying (show P.underlying kt=_ from hk),hf,hj',hek,hst,MapKept.run_setObj_map _ h1,Result.andThen]
  rfl
 have hlt:r<w.heap.size:=(Array.getElem?_eq_some_iff.1 h1).1
 have hmod:(es.modify j fun e=>{e with key:=v32 key,val:=v}).toList=es.toList.set j {e with key:=v32 key,val:=v}:=by
  apply List.ext_getElem?
  intro i
  rw[Array.getElem?_toList,Array.getElem?_modify,List.getElem?_set]
  by_cases hi:j=i
  ·subst hi
   rw[if_pos rfl,if_pos rfl,hj',if_pos (by have:=(List.getElem?_eq_some_iff.1 hj).1;exact this)]
   rfl
  ·rw[if_neg hi,if_neg hi,Array.getElem?_toList]
 have hborn:(es.toList.set j {e with key:=v32 key,val:=v}).map (·.born)=es.toList.map (·.born):=by
  rw[List.map_set]
  apply List.ext_getElem?
  intro i
  rw[List.getElem?_set]
  by_cases hi:j=i
  ·subst hi
   rw[if_pos rfl,List.getElem?_map,hj]
   have hjl:=(List.getElem?_eq_some_iff.1 hj).1
   rw[List.length_map,if_pos hjl];rfl
  ·rw[if_neg hi]
 have hat':MapAt (w.putObj r (.map (es.modify j fun e=>{e with key:=v32 key,val:=v}) clk)) r (setK key v l):=by
  refine⟨_,_,World.putObj_heap_same hlt,by rw[hmod];exact hset,by rw[hmod,hborn];exact h3,fun q hq=>?_⟩
  rw[hmod]at hq
  have:q.born∈es.toList.map (·.born):=by rw[←hborn];exact List.mem_map.2 ⟨q,hq,rfl⟩
  obtain⟨q',hq',e'⟩:=List.mem_map.1 this
  rw[←e'];exact h4 q' hq'
 have hfin:=h _ hat' (zaF rfl) (by simp)
 show opR P K ((do Instr.mapUpdate t (ρ m) (ρ k) (ρ x);pure .skip:Sem Next).run P w)
 rw[hm,hkey,hx]
 simp only[Sem.run_bind,hrun,Result.andThen_ok,Sem.run_pure]
 exact hfin
theorem op_lk32{t kt et:TypeId}{m k:Operand}{r:Nat}{l:List (Int×Value)}{key:Int}{z:Value}{inf:TypeInfo}(ht:tyU P t=some (.map kt et))(hk:tyU P kt=some (.int .u32))(hi:P.info? et=some inf)(hz:inf.zero=some z)
  (hm:ρ m= .map (some r)) (hkey:ρ k=v32 key) (hat:MapAt w r l) (h:K ((l.lookup key).getD z) w):opW P ⟨d,.lookup t m k false,ty,ps,af,g⟩ ρ w K:=by
 have:=zan (P:=P) (K:=K) (lk_run hat ht hk hi hz key) h
 rw[←hm,←hkey]at this
 exact this
theorem new_map(w:World):MapAt (w.alloc (.map #[] 0)) w.heap.size []:=⟨_,_,zai w _,rfl,by simp,by simp⟩
end
def MapIt(w:World)(r m:Nat)(l:List (Int×Value))(pre:List Int):Prop:=
 ∃es clk,∃ds:List MapEntry,w.heap[m]? =some (.map es clk)∧es.toList.map (fun e=>(e.key,e.val))=l.map (fun p=>(v32 p.1,p.2))∧(es.toList.map (·.born)).Pairwise (·≠·)∧(∀e∈es.toList,e.born<clk)∧
  w.heap[r]? =some (.mapIter (some m) clk (ds.map (·.born)).toArray clk)∧(∀d∈ds,d∈es.toList)∧ds.map (·.key)=pre.map v32
theorem MapIt.map{w:World}{r m:Nat}{l:List (Int×Value)}{pre:List Int}(h:MapIt w r m l pre):MapAt w m l:=by
 obtain⟨es,clk,ds,h1,h2,h3,h4,_⟩:=h
 exact⟨es,clk,h1,h2,h3,h4⟩
theorem zgZ{a b:Int}(h:v32 a=v32 b):a=b:=by
 simpa [v32] using h
theorem zcR{es:List MapEntry}{l:List (Int×Value)}(h:es.map (fun e=>(e.key,e.val))=l.map (fun p=>(v32 p.1,p.2)))(hn:(l.map (·.1)).Nodup):es.Pairwise (fun x y=>x.key≠y.key):=by
 have h1:es.map (·.key)=l.map (fun p=>v32 p.1):=by
  have:=congrArg (List.map Prod.fst) h
  simpa [List.map_map,Function.comp_def] using this
 have h2:(l.map (fun p=>v32 p.1)).Pairwise (·≠·):=by
  rw[List.pairwise_map]
  have:=List.pairwise_map.1 hn
  exact this.imp (fun hne e=>hne (zgZ e))
 rw[←h1,List.pairwise_map]at h2
 exact h2
section
variable {P : Program} {d : Option Tmp} {ty : TypeId} {ps : String} {af : Array Edge} {g : Option (Nat × Bool)} {ρ : Operand → Value} {w : World} {K : Value → World → Prop}
theorem op_range{t kt et:TypeId}{x:Operand}{m:Nat}{l:List (Int×Value)}(ht:tyU P t=some (.map kt et))(hx:ρ x= .map (some m))(hm:MapAt w m l)
  (h:∀w',MapIt w' w.heap.size m l []→Ext w w'→w'.heap.size=w.heap.size+1→K (.pointer (some ⟨w.heap.size,0,Option.none⟩)) w'):
  opW P ⟨d,.range t x,ty,ps,af,g⟩ ρ w K:=by
 obtain⟨es,clk,h1,h2,h3,h4⟩:=hm
 have hrun:(Instr.range t (.map (some m))).run P w= .ok (.pointer (some ⟨w.heap.size,0,Option.none⟩)) (w.alloc (.mapIter (some m) clk #[] clk)):=by
  simp[Instr.range,run_underlying (show P.underlying t=_ from ht),MapKept.run_getObj_map h1,newObj,Sem.run,Result.andThen]
 have hlt:=(Array.getElem?_eq_some_iff.1 h1).1
 show opR P K _
 refine zan (s:=Instr.range t (ρ x)) (by rw[hx];exact hrun) (h _ ⟨es,clk,[],?_,h2,h3,h4,?_,by simp,rfl⟩ (Ext.alloc w _) (by simp))
 ·exact(RowKit.Below.heap_alloc _ _ _ hlt).trans h1
 ·exact zai w _
theorem op_next{x:Operand}{r m:Nat}{l:List (Int×Value)}{pre:List Int}(hx:ρ x= .pointer (some ⟨r,0,Option.none⟩))(hit:MapIt w r m l pre)(hn:(l.map (·.1)).Nodup)
  (h1:(∀k∈l.map (·.1),k∈pre)→K (.tuple #[.bool false]) w)
  (h2:∀k v w',(k,v)∈l→k∉pre→MapIt w' r m l (pre++ [k])→Keep (fun b=>b=r) w w'→w'.heap.size=w.heap.size→K (.tuple #[.bool true,v32 k,v]) w'):
  opW P ⟨d,.next x false,ty,ps,af,g⟩ ρ w K:=by
 obtain⟨es,clk,ds,e1,e2,e3,e4,e5,e6,e7⟩:=hit
 have hap:=zcR e2 hn
 have hmem:∀e:MapEntry,e∈es.toList→∃k v,(k,v)∈l∧e.key=v32 k∧e.val=v:=fun e he=>by
  have:(e.key,e.val)∈l.map (fun p=>(v32 p.1,p.2)):=by rw[←e2];exact List.mem_map.2 ⟨e,he,rfl⟩
  obtain⟨⟨k,v⟩,hp,heq⟩:=List.mem_map.1 this
  simp only[Prod.mk.injEq]at heq
  exact⟨k,v,hp,heq.1.symm,heq.2.symm⟩
 rcases run_next_at (P:=P) w ty r m clk clk (ds.map (·.born)).toArray es clk e5 e1 e4 (Nat.le_refl _) with ⟨h0,hrun⟩| ⟨e,he,w1,hw1,hrun⟩
 ·show opR P K _
  refine zan (s:=Instr.next (ρ x) false ty) (by rw[hx];exact hrun) (h1 fun k hk=>?_)
  obtain⟨⟨k,v⟩,hp,rfl⟩:=List.mem_map.1 hk
  have:(v32 k,v)∈es.toList.map (fun e=>(e.key,e.val)):=by rw[e2];exact List.mem_map.2 ⟨_,hp,rfl⟩
  obtain⟨e,he,heq⟩:=List.mem_map.1 this
  simp only[Prod.mk.injEq]at heq
  have hin:(ds.map (·.born)).toArray.contains e.born=true:=by
   cases hc:(ds.map (·.born)).toArray.contains e.born with
   |true=>rfl
   |false=>
    have:e∈(leftOf es (ds.map (·.born)).toArray).toList:=by
     unfold leftOf;simp only[Array.toList_filter,List.mem_filter];exact⟨he,by rw[hc];rfl⟩
    rw[Array.size_eq_length_toList,List.length_eq_zero_iff]at h0
    rw[h0]at this;cases this
  simp only[List.contains_toArray,List.contains_iff_mem,List.mem_map]at hin
  obtain⟨d',hd,hb⟩:=hin
  have hde:d'=e:=by
   exact born_inj e3 (e6 _ hd) he hb
  subst hde
  have:d'.key∈pre.map v32:=by rw[←e7];exact List.mem_map.2 ⟨_,hd,rfl⟩
  rw[heq.1]at this
  obtain⟨k',hk',hkk⟩:=List.mem_map.1 this
  rw[zgZ hkk]at hk';exact hk'
 ·have hel:e∈es.toList∧(ds.map (·.born)).toArray.contains e.born=false:=by
   unfold leftOf at he
   simp only[Array.toList_filter,List.mem_filter]at he
   exact⟨he.1,by simpa using he.2⟩
  obtain⟨k,v,hkv,hk,hv⟩:=hmem e hel.1
  have hlt:r<w1.heap.size:=by
   have:=(Array.getElem?_eq_some_iff.1 e5).1
   rcases hw1 with rfl|rfl<;>exact this
  have hrm:r≠m:=fun e=>by rw[e,e1]at e5;cases e5
  have hk1:Keep (fun b=>b=r) w w1:=by rcases hw1 with rfl|rfl<;>first|exact Keep.refl _ _|exact Keep.drew _ _
  have hput:ChangeMaps.setBlock w1 r (.mapIter (some m) clk ((ds.map (·.born)).toArray.push e.born) clk)=w1.putObj r (.mapIter (some m) clk ((ds.map (·.born)).toArray.push e.born) clk):=rfl
  rw[hput]at hrun
  show opR P K _
  rw[hk,hv]at hrun
  refine zan (s:=Instr.next (ρ x) false ty) (by rw[hx];exact hrun) (h2 k v _ hkv ?_ ⟨es,clk,ds++ [e],?_,e2,e3,e4,?_,?_,?_⟩ (hk1.trans (zaF rfl)) ?_)
  ·intro hkp
   have:v32 k∈ds.map (·.key):=by rw[e7];exact List.mem_map.2 ⟨_,hkp,rfl⟩
   obtain⟨d',hd,hdk⟩:=List.mem_map.1 this
   have hde:d'=e:=entry_eq_of_key hap (e6 _ hd) hel.1 (by rw[hdk,hk])
   subst hde
   have:=hel.2
   simp only[List.contains_toArray]at this
   have h3:(ds.map (·.born)).contains d'.born=true:=by rw[List.contains_iff_mem];exact List.mem_map.2 ⟨_,hd,rfl⟩
   rw[h3]at this;cases this
  ·refine(World.putObj_heap_other (fun e=>hrm e.symm)).trans ?_
   rcases hw1 with rfl|rfl<;>exact e1
  ·rw[World.putObj_heap_same hlt];simp
  ·intro d' hd
   rcases List.mem_append.1 hd with hd|hd
   ·exact e6 _ hd
   ·rw[List.mem_singleton.1 hd];exact hel.1
  ·rw[List.map_append,e7,List.map_append];simp[hk]
  ·rcases hw1 with rfl|rfl<;>simp
theorem op_entryV{x:Operand}{r m:Nat}{l:List (Int×Value)}{pre:List Int}{k:Int}(hx:ρ x= .pointer (some ⟨r,0,Option.none⟩))(hit:MapIt w r m l (pre++ [k]))
  (h:∀v,(k,v)∈l→K (.tuple #[v32 k,v]) w):
  opW P ⟨d,.entry x,ty,ps,af,g⟩ ρ w K:=by
 obtain⟨es,clk,ds,e1,e2,e3,e4,e5,e6,e7⟩:=hit
 rcases List.eq_nil_or_concat ds with rfl| ⟨ds',e,rfl⟩
 ·simp at e7
 ·rw[List.concat_eq_append,List.map_append,List.map_append]at e7
  have e7':=List.append_inj' e7 rfl
  have hk:e.key=v32 k:=by simpa using e7'.2
  have hmem:e∈es.toList:=e6 _ (by simp)
  have hl:(k,e.val)∈l:=by
   have h1:(e.key,e.val)∈es.toList.map (fun e=>(e.key,e.val)):=List.mem_map.2 ⟨e,hmem,rfl⟩
   rw[e2]at h1
   obtain⟨q,hq,hqe⟩:=List.mem_map.1 h1
   rw[hk]at hqe
   have h2:v32 q.1=v32 k:=congrArg Prod.fst hqe
   have h3:q.2=e.val:=congrArg Prod.snd hqe
   have h4:q.1=k:=by simpa [v32] using h2
   rw[←h4,←h3];exact hq
  have hrun:=run_entry_at (P:=P) w r m clk (ds'.map (·.born)).toArray es clk e (by rw[e5];simp) e1 hmem e3
  rw[hk]at hrun
  show opR P K _
  exact zan (s:=Instr.entry (ρ x)) (by rw[hx];exact hrun) (h _ hl)
end
end Go.Proofs.YtanmnkbccfcagaaGreatDoor.M32
namespace Go.Proofs.YtanmnkbccfcagaaGreatDoor
open Go
def cnt(t:Int)(ts:List Int):Nat:=ts.count t
def zbr(ts:List Int)(b u:Int):Bool:=decide (cnt b ts<cnt u ts)|| (decide (cnt u ts=cnt b ts) && decide (u<b))
def zca:List Int→Int
 | []=>0
 |t::r=>r.foldl (fun b u=>if zbr (t::r) b u then u else b) t
def CntAt(ts:List Int)(l:List (Int×Value)):Prop:=(l.map (·.1)).Nodup∧∀t,l.lookup t=if t∈ts then some (vi (cnt t ts)) else Option.none
theorem zdg(t u:Int)(ts:List Int):cnt t (ts++ [u])=cnt t ts+if u=t then 1 else 0:=by
 unfold cnt
 rw[List.count_append,List.count_singleton]
 simp
theorem zbI{t:Int}{v:Value}:∀{l:List (Int×Value)},(l.map (·.1)).Nodup→(l.lookup t=some v↔(t,v)∈l)
 | [],_=>by simp
 | (k,u)::l,h=>by
  rw[List.map_cons,List.nodup_cons]at h
  have ih:=zbI (t:=t) (v:=v) h.2
  rw[List.lookup_cons]
  by_cases e:t=k
  ·subst e
   have:¬(t,v)∈l:=fun hm=>h.1 (List.mem_map.2 ⟨_,hm,rfl⟩)
   simp[this,eq_comm]
  ·have e1:(t==k)=false:=by simpa using e
   rw[e1]
   simp[ih,e]
theorem zeI(key:Int)(v:Value):∀l:List (Int×Value),(M32.setK key v l).map (·.1)=l.map (·.1)
 | []=>rfl
 |p::l=>by
  unfold M32.setK
  split
  ·rfl
  ·simp[zeI key v l]
theorem zdu{key:Int}{v:Value}(t:Int):∀{l:List (Int×Value)},key∈l.map (·.1)→(M32.setK key v l).lookup t=if t=key then some v else l.lookup t
 | [],h=>by simp at h
 | (k,u)::l,h=>by
  unfold M32.setK
  by_cases e:key=k
  ·subst e
   rw[if_pos (by simp)]
   simp only[List.lookup_cons]
   by_cases e2:t=key
   ·subst e2;simp
   ·have e3:(t==key)=false:=by simpa using e2
    rw[e3,if_neg e2]
  ·rw[if_neg (by simpa using e)]
   simp only[List.lookup_cons]
   have hk:key∈l.map (·.1):=by simpa [e] using h
   by_cases e2:t=k
   ·subst e2
    have:¬t=key:=fun h=>e h.symm
    simp[this]
   ·have e3:(t==k)=false:=by simpa using e2
    rw[e3]
    exact zdu t hk
theorem zbH{t:Int}{v:Value}:∀{l:List (Int×Value)},l.lookup t=some v→t∈l.map (·.1)
 | [],h=>by simp at h
 | (k,u)::l,h=>by
  rw[List.lookup_cons]at h
  by_cases e:t=k
  ·subst e;simp
  ·have e1:(t==k)=false:=by simpa using e
   rw[e1]at h
   exact List.mem_cons_of_mem _ (zbH h)
theorem CntAt.new{ts:List Int}{l:List (Int×Value)}(h:CntAt ts l){t:Int}(ht:t∉ts):CntAt (ts++ [t]) (l++ [(t,vi 1)]):=by
 obtain⟨hn,hl⟩:=h
 have hno:l.lookup t=Option.none:=by rw[hl,if_neg ht]
 have htl:t∉l.map (·.1):=fun hm=>by
  obtain⟨p,hp,rfl⟩:=List.mem_map.1 hm
  have:=(zbI (t:=p.1) (v:=p.2) hn).2 hp
  rw[hno]at this;cases this
 refine⟨?_,fun u=>?_⟩
 ·rw[List.map_append,List.nodup_append]
  exact⟨hn,by simp,fun a ha b hb=>by simp at hb;subst hb;rintro rfl;exact htl ha⟩
 ·rw[List.lookup_append,hl,List.lookup_cons]
  by_cases hu:u∈ts
  ·have e:¬t=u:=fun h=>ht (h▸hu)
   simp[hu,zdg,e]
  ·by_cases e:u=t
   ·subst e
    have:cnt u ts=0:=by unfold cnt;exact List.count_eq_zero.2 hu
    simp[hu,zdg,this]
   ·have e1:(u==t)=false:=by simpa using e
    simp[hu,e1,e]
theorem CntAt.more{ts:List Int}{l:List (Int×Value)}(h:CntAt ts l){t:Int}(ht:t∈ts):CntAt (ts++ [t]) (M32.setK t (vi (cnt t ts+1)) l):=by
 obtain⟨hn,hl⟩:=h
 have htl:t∈l.map (·.1):=zbH (v:=vi (cnt t ts)) (by rw[hl,if_pos ht])
 refine⟨by rw[zeI];exact hn,fun u=>?_⟩
 rw[zdu u htl,hl]
 by_cases e:u=t
 ·subst e;simp[zdg]
 ·have e2:¬t=u:=fun h=>e h.symm
  simp[e,zdg,e2]
theorem CntAt.keys{ts:List Int}{l:List (Int×Value)}(h:CntAt ts l)(t:Int):t∈l.map (·.1)↔t∈ts:=by
 constructor
 ·intro hm
  obtain⟨p,hp,rfl⟩:=List.mem_map.1 hm
  have h2:=(zbI (t:=p.1) (v:=p.2) h.1).2 hp
  rw[h.2]at h2
  by_cases e:p.1∈ts
  ·exact e
  ·rw[if_neg e]at h2;cases h2
 ·intro hm
  exact zbH (v:=vi (cnt t ts)) (by rw[h.2,if_pos hm])
theorem CntAt.val{ts:List Int}{l:List (Int×Value)}(h:CntAt ts l){t:Int}{v:Value}(hm:(t,v)∈l):t∈ts∧v=vi (cnt t ts):=by
 have h2:=(zbI h.1).2 hm
 rw[h.2]at h2
 by_cases e:t∈ts
 ·rw[if_pos e]at h2;cases h2;exact⟨e,rfl⟩
 ·rw[if_neg e]at h2;cases h2
def BestOf(ts pre:List Int)(b:Int)(n:Nat):Prop:=(pre=[]∧b=0∧n=0)∨(b∈pre∧n=cnt b ts∧0<n∧∀t∈pre,zbr ts b t=false)
theorem zee{ts:List Int}{b u:Int}:zbr ts b u=true↔cnt b ts<cnt u ts∨(cnt u ts=cnt b ts∧u<b):=by
 unfold zbr;simp
theorem zaG{ts:List Int}{b u:Int}:zbr ts b u=false↔¬(cnt b ts<cnt u ts∨(cnt u ts=cnt b ts∧u<b)):=by
 rw[←zee];simp
theorem BestOf.take{ts pre:List Int}{b t:Int}{n:Nat}(h:BestOf ts pre b n)(ht:t∈ts)(hb:n<cnt t ts∨(cnt t ts=n∧t<b)):BestOf ts (pre++ [t]) t (cnt t ts):=by
 have h0:0<cnt t ts:=List.count_pos_iff.2 ht
 refine .inr ⟨by simp,rfl,h0,fun u hu=>?_⟩
 rw[zaG]
 rcases List.mem_append.1 hu with hu|hu
 ·rcases h with ⟨rfl,_⟩| ⟨_,hn,_,hal⟩
  ·cases hu
  ·have:=zaG.1 (hal u hu)
   omega
 ·rw[List.mem_singleton.1 hu];omega
theorem BestOf.skip{ts pre:List Int}{b t:Int}{n:Nat}(h:BestOf ts pre b n)(ht:t∈ts)(hb:¬(n<cnt t ts∨(cnt t ts=n∧t<b))):BestOf ts (pre++ [t]) b n:=by
 have h0:0<cnt t ts:=List.count_pos_iff.2 ht
 rcases h with ⟨_,_,rfl⟩| ⟨hbp,hn,hp,hal⟩
 ·omega
 ·refine .inr ⟨List.mem_append_left _ hbp,hn,hp,fun u hu=>?_⟩
  rcases List.mem_append.1 hu with hu|hu
  ·exact hal u hu
  ·rw[List.mem_singleton.1 hu,zaG];omega
theorem zbY(ts:List Int):∀(r pre:List Int) (b:Int),b∈pre→(∀t∈pre,zbr ts b t=false)→
  r.foldl (fun b u=>if zbr ts b u then u else b) b∈pre++r∧∀t∈pre++r,zbr ts (r.foldl (fun b u=>if zbr ts b u then u else b) b) t=false
 | [],pre,b,h1,h2=>by simpa using ⟨h1,h2⟩
 |u::r,pre,b,h1,h2=>by
  rw[List.foldl_cons]
  by_cases hb:zbr ts b u=true
  ·rw[if_pos hb]
   have:=zbY ts r (pre++ [u]) u (by simp) (fun t ht=>by
    rw[zaG]
    rw[zee]at hb
    rcases List.mem_append.1 ht with ht|ht
    ·have:=zaG.1 (h2 t ht);omega
    ·rw[List.mem_singleton.1 ht];omega)
   simpa using this
  ·rw[if_neg hb]
   have:=zbY ts r (pre++ [u]) b (by simp[h1]) (fun t ht=>by
    rcases List.mem_append.1 ht with ht|ht
    ·exact h2 t ht
    ·rw[List.mem_singleton.1 ht];simpa using hb)
   simpa using this
theorem BestOf.usual{ts pre:List Int}{b:Int}{n:Nat}(h:BestOf ts pre b n)(hp:∀t,t∈ts→t∈pre)(hp2:∀t∈pre,t∈ts):b=zca ts:=by
 cases ts with
 |nil=>
  rcases h with ⟨_,rfl,_⟩| ⟨hb,_⟩
  ·rfl
  ·have:=hp2 b hb;cases this
 |cons a r=>
  have:=zbY (a::r) r [a] a (by simp) (fun t ht=>by rw[List.mem_singleton.1 ht,zaG];omega)
  obtain⟨g1,g2⟩:=this
  have e:zca (a::r)=r.foldl (fun b u=>if zbr (a::r) b u then u else b) a:=rfl
  rw[←e]at g1 g2
  rcases h with ⟨rfl,_⟩| ⟨hb,hn,_,hal⟩
  ·have:=hp a (by simp);cases this
  ·have h1:=zaG.1 (hal _ (hp _ g1))
   have h2:=zaG.1 (g2 b (hp2 b hb))
   omega
theorem zg0{ts:List Int}(h:ts≠ []):zca ts∈ts:=by
 cases ts with
 |nil=>exact absurd rfl h
 |cons a r=>exact(zbY (a::r) r [a] a (by simp) (fun t ht=>by rw[List.mem_singleton.1 ht,zaG];omega)).1
set_option maxRecDepth 10000
theorem zg2{α:Type}[DecidableEq α]:∀{l m:List α},l.Nodup→(∀a∈l,a∈m)→l.length≤m.length
 | [],_,_,_=>Nat.zero_le _
 |a::l,m,h,hs=>by
  have h1:=List.nodup_cons.1 h
  have ha:=hs a (List.mem_cons_self ..)
  have:=zg2 (l:=l) (m:=m.erase a) h1.2 (fun b hb=>(List.mem_erase_of_ne (fun (e:b=a)=>h1.1 (e▸hb))).2 (hs b (List.mem_cons_of_mem _ hb)))
  rw[List.length_erase_of_mem ha]at this
  have:=List.length_pos_of_mem ha
  simp;omega
theorem usual_ok{w:World}{v:Value}{R:List RecL}(hR:Rows 7 (RecAt w) w v R)(hl:R.length≤100000)(ht:∀r∈R,0≤r.ttl∧r.ttl≤4294967295):Fn Tryz.prog 55 #[v] w (fun u w'=>u=v32 (zca (R.map RecL.ttl))∧Ext w w'):=by
 obtain⟨a,c,rfl,hc,hg⟩:=hR.open
 refine enter Tryz.func55 Tryz.ntmps55 rfl rfl ?_
 refine go trivial ?_
 have hm0:=M32.new_map w
 have hE0:Ext w (w.alloc (.map #[] 0)):=Ext.alloc _ _
 have hs0:(w.alloc (.map #[] 0)).heap.size=w.heap.size+1:=zap _ _
 refine zcH R.length (fun i σ v=>(σ 3= .map (some w.heap.size)∧σ 11= .slice a R.length c∧σ 12=vi R.length∧σ 13=vi i)∧(∃l,M32.MapAt v w.heap.size l∧CntAt ((R.take i).map RecL.ttl) l)∧Ext w v∧w.heap.size+1≤v.heap.size) ?_ ?_ ?_
 ·exact⟨⟨vr0,vr0,vr0,vr0⟩,⟨[],hm0,by simp,by simp⟩,hE0,by omega⟩
 ·rintro i σ v hi p ⟨⟨s3,s11,s12,s13⟩,⟨l,hM,hC⟩,hE,hsv⟩
  obtain⟨cs,g0,hcs⟩:=hg i hi
  have g:=zak hE g0
  obtain⟨r,hr⟩:∃r,R[i]=r:=⟨_,rfl⟩
  rw[hr]at hcs
  have hrt:=ht r (hr▸List.getElem_mem hi)
  obtain⟨xa,rfl⟩:=Option.isSome_iff_exists.1 (za5 g)
  obtain⟨xi,hxi⟩:∃xi,adr (some xa) (i*7)=some xi:=⟨_,rfl⟩
  rw[hxi]at g
  have hi0:(0:Int)≤(i:Int):=by omega
  have hi1:(i:Int)<(R.length:Int):=by omega
  have hi2:(i:Int)+1=((i+1:Nat):Int):=by push_cast;rfl
  have hc7:=hcs.len
  refine go (an5 s3 s11 s12 s13 p) ?_
  refine rq ?_;intro gd K hgd hK
  try simp (disch:=first|omega|assumption|rfl) only[go_sem,s11,s13,hi0,hi1,hxi,g]
  refine zeF (P:=Tryz.prog) (l:=cs) (by rw[hc7];rfl) hcs.ones (by rw[hc7];rfl) rfl ?_
  intro v1 hEv1 hsv1 hBv
  try simp only[go_sem]
  refine hK _ _ ?_;clear hK hgd;clear K;try clear gd
  obtain⟨ow,ds,hce,how,_⟩:=hcs.ex
  have o1:zae v1 (some ⟨v.heap.size,1,Option.none⟩)=some (v32 r.ttl):=zcb (l:=cs) (j:=1) hBv (by rw[hce];rfl)
  have hM1:M32.MapAt v1 w.heap.size l:=hM.block (hEv1.block _ (by omega) (fun h=>h))
  have htk:(R.take (i+1)).map RecL.ttl=(R.take i).map RecL.ttl++ [r.ttl]:=by rw[zag hi,hr,List.map_append];rfl
  have hcl:cnt r.ttl ((R.take i).map RecL.ttl)≤100000:=by
   refine Nat.le_trans List.count_le_length ?_
   rw[List.length_map,List.length_take];omega
  obtain⟨k,hk⟩:∃k,cnt r.ttl ((R.take i).map RecL.ttl)=k:=⟨_,rfl⟩
  rw[hk]at hcl
  have hk2:(k:Int)+1=((k+1:Nat):Int):=by push_cast;rfl
  have hE1:=hE.trans hEv1
  refine go trivial ?_
  by_cases hin:r.ttl∈(R.take i).map RecL.ttl
  ·have hlk:l.lookup r.ttl=some (vi k):=by rw[hC.2,if_pos hin,hk]
   refine rq ?_;intro gd K hgd hK
   try simp (disch:=first|omega|assumption|rfl) only[go_sem,s3,o1]
   refine M32.op_lk32 (z:=vi 0) rfl rfl rfl rfl ((vr1 s3)) (vr0) hM1 ?_
   rw[hlk,Option.getD_some]
   try simp (disch:=first|omega|assumption|rfl) only[go_sem,hk2]
   refine M32.op_mapTurn rfl rfl ((vr1 s3)) (vr0) (vr0) hM1 hlk ?_
   intro z hMz hkz hsz
   try simp only[go_sem]
   refine hK _ _ ?_;clear hK hgd;clear K;try clear gd
   refine go (an5 s3 s11 s12 s13 hi2) ?_
   refine⟨rfl,⟨(vq1 s3),(vq1 s11),(vq1 s12),(vq1 hi2)⟩,⟨_,hMz,?_⟩,Keep.to_ext hE1 rfl (fun b hb=>by omega) hkz,by omega⟩
   rw[htk,←hk2,←hk]
   exact hC.more hin
  ·have hlk:l.lookup r.ttl=Option.none:=by rw[hC.2,if_neg hin]
   refine rq ?_;intro gd K hgd hK
   try simp (disch:=first|omega|assumption|rfl) only[go_sem,s3,o1]
   refine M32.op_lk32 (z:=vi 0) rfl rfl rfl rfl ((vr1 s3)) (vr0) hM1 ?_
   rw[hlk,Option.getD_none]
   try simp only[go_sem]
   refine M32.op_mapUpdate (v:=vi 1) rfl rfl ((vr1 s3)) (vr0) (vr0) hM1 hlk ?_
   intro z hMz hkz hsz
   try simp only[go_sem]
   refine hK _ _ ?_;clear hK hgd;clear K;try clear gd
   refine go (an5 s3 s11 s12 s13 hi2) ?_
   refine⟨rfl,⟨(vq1 s3),(vq1 s11),(vq1 s12),(vq1 hi2)⟩,⟨_,hMz,?_⟩,Keep.to_ext hE1 rfl (fun b hb=>by omega) hkz,by omega⟩
   rw[htk]
   exact hC.new hin
 ·rintro σ v p ⟨⟨s3,s11,s12,s13⟩,⟨l,hM,hC⟩,hE,hsv⟩
  rw[List.take_length]at hC
  obtain⟨ts,hts⟩:∃ts,R.map RecL.ttl=ts:=⟨_,rfl⟩
  rw[hts]at hC ⊢
  have htl:ts.length≤100000:=by rw[←hts,List.length_map];exact hl
  have htb:∀t∈ts,0≤t∧t≤4294967295:=fun t hm=>by
   rw[←hts]at hm
   obtain⟨r,hr,rfl⟩:=List.mem_map.1 hm
   exact ht r hr
  refine go (an5 s3 s11 s12 s13 p) ?_
  refine rq ?_;intro gd K hgd hK
  try simp (disch:=first|omega|assumption|rfl) only[go_sem,s3]
  refine M32.op_range rfl ((vr1 s3)) hM ?_
  intro W1 hit1 hE1 hs1
  try simp only[go_sem]
  refine hK _ _ ?_;clear hK hgd;clear K;try clear gd
  refine go trivial ?_
  refine zay (fun k σ ds x=>ds=[]∧(∃(best:Int) (n:Nat),σ 24= .pointer (some ⟨v.heap.size,0,Option.none⟩)∧σ 6=v32 best∧σ 7=vi n∧∃pre,M32.MapIt x v.heap.size w.heap.size l pre∧BestOf ts pre best n∧Ext w x∧v.heap.size+1≤x.heap.size∧
   pre.Nodup∧(∀j∈pre,j∈l.map (·.1))∧k+pre.length=(l.map (·.1)).length)) (l.map (·.1)).length ?_ ?_
  ·exact⟨rfl,0,0,vr0,vr0,vr0,[],hit1,.inl ⟨rfl,rfl,rfl⟩,hE.trans hE1,by omega,by simp,by simp,by simp⟩
  rintro k σ ds x ⟨rfl,best,n,s24,s6,s7,pre,hit,hB,hEx,hsx,hnd,hsub,hlen⟩
  refine go (an3 s24 s6 s7) ?_
  refine rq ?_;intro gd K hgd hK
  try simp (disch:=first|omega|assumption|rfl) only[go_sem,s24]
  refine M32.op_next ((vr1 s24)) hit hC.1 ?_ ?_
  ·intro hall
   try simp only[go_sem]
   refine hK _ _ ?_;clear hK hgd;clear K;try clear gd
   refine go trivial ?_
   refine rt0 Tryz.ntmps55 ?_
   refine⟨?_,hEx⟩
   rw[s6,hB.usual (fun t ht=>hall t ((hC.keys t).2 ht)) (fun t ht=>(hC.keys t).1 (hsub t ht))]
  ·intro key u w2 hkv hnk hit2 hk2 hs2
   have hkm:key∈l.map (·.1):=List.mem_map.2 ⟨_,hkv,rfl⟩
   obtain⟨hkt,rfl⟩:=hC.val hkv
   obtain⟨m,hm⟩:∃m,cnt key ts=m:=⟨_,rfl⟩
   have hml:m≤100000:=by rw[←hm];exact Nat.le_trans List.count_le_length htl
   have hkb:=htb key hkt
   have hE2:Ext w w2:=Keep.to_ext hEx rfl (fun b hb=>by omega) hk2
   try simp only[go_sem]
   refine hK _ _ ?_;clear hK hgd;clear K;try clear gd
   refine go trivial ?_
   refine rq ?_;intro gd K hgd hK
   try simp (disch:=first|omega|assumption|rfl) only[go_sem,s24]
   refine M32.op_entryV ((vr1 s24)) hit2 (fun u' hu'=>?_)
   obtain⟨_,rfl⟩:=hC.val hu'
   rw[hm]
   try simp only[go_sem]
   refine hK _ _ ?_;clear hK hgd;clear K;try clear gd
   have hnd':(pre++ [key]).Nodup:=by
    rw[List.nodup_append]
    exact⟨hnd,by simp,fun a ha b hb=>by simp at hb;subst hb;rintro rfl;exact hnk ha⟩
   have hsub':∀j∈pre++ [key],j∈l.map (·.1):=fun j hj=>by
    rcases List.mem_append.1 hj with h|h
    ·exact hsub j h
    ·rw[List.mem_singleton.1 h];exact hkm
   have hlt:(pre++ [key]).length≤(l.map (·.1)).length:=zg2 hnd' hsub'
   refine go trivial ?_
   refine zaI (Q:=fun e σ' ds' v'=>e= .normal∧ds'=[]∧v'=w2∧σ' 24= .pointer (some ⟨v.heap.size,0,Option.none⟩)∧σ' 6=v32 best∧σ' 7=vi n∧σ' 8=v32 key∧σ' 9=vi m∧σ' 42= .bool (decide (n<m∨(m=n∧key<best)))) ?_ ?_
   ·by_cases c1:(n:Int)<(m:Int)
    ·refine rgg [(3,33),(7,37)] (an4 s24 s6 s7 (decide_eq_true c1)) ?_
     refine⟨rfl,rfl,rfl,(vq1 s24),(vq1 s6),(vq1 s7),vr0,vr0,?_⟩
     rw[show decide (n<m∨(m=n∧key<best))=true from decide_eq_true (.inl (by omega))]
     first| (simp only[go_sem];done)| (simp only[go_sem];rfl)
    ·by_cases c2:(m:Int)=(n:Int)
     ·obtain⟨t,ht3⟩:∃t,decide (key<best)=t:=⟨_,rfl⟩
      refine rgg [(3,33),(7,37)] (an6 s24 s6 s7 (decide_eq_false c1) (decide_eq_true c2) ht3) ?_
      refine⟨rfl,rfl,rfl,(vq1 s24),(vq1 s6),(vq1 s7),vr0,vr0,?_⟩
      rw[show decide (n<m∨(m=n∧key<best))=t from by rw[←ht3];exact decide_eq_decide.2 ⟨fun h=>by omega,fun h=> .inr ⟨by omega,h⟩⟩]
      first| (simp only[go_sem];done)| (simp only[go_sem];rfl)
     ·refine rgg [(3,33),(7,37)] (an5 s24 s6 s7 (decide_eq_false c1) (decide_eq_false c2)) ?_
      refine⟨rfl,rfl,rfl,(vq1 s24),(vq1 s6),(vq1 s7),vr0,vr0,?_⟩
      rw[show decide (n<m∨(m=n∧key<best))=false from decide_eq_false (by omega)]
      first| (simp only[go_sem];done)| (simp only[go_sem];rfl)
   rintro _ σ1 _ z ⟨rfl,rfl,hz,g24,g6,g7,g8,g9,g42⟩
   subst hz
   by_cases hb:n<m∨(m=n∧key<best)
   ·rw[decide_eq_true hb]at g42
    refine go (an6 g24 g6 g7 g8 g9 g42) ?_
    refine⟨k - 1,by simp at hlt hlen;omega,rfl,key,m,(vq1 g24),(vq1 g8),(vq1 g9),pre++ [key],hit2,?_,hE2,by omega,hnd',hsub',by simp at hlt hlen ⊢;omega⟩
    have:=hB.take hkt (by rw[hm];exact hb)
    rwa [hm]at this
   ·rw[decide_eq_false hb]at g42
    refine go (an6 g24 g6 g7 g8 g9 g42) ?_
    refine⟨k - 1,by simp at hlt hlen;omega,rfl,best,n,(vq1 g24),(vq1 g6),(vq1 g7),pre++ [key],hit2,hB.skip hkt (by rw[hm];exact hb),hE2,by omega,hnd',hsub',by simp at hlt hlen ⊢;omega⟩
section
variable {P : Program} {d : Option Tmp} {ty : TypeId} {ps : String} {af : Array Edge} {g : Option (Nat × Bool)} {ρ : Operand → Value} {w : World} {K : Value → World → Prop}
theorem op_appS2{B:Nat}{s x:Operand}{t tu e:TypeId}{inf:TypeInfo}{v:Value}{l:List Value}{bs:List UInt8}(hown:Own B w e v l)(ht:tyU P t=some (.slice e))(hu:tyU P tu=some .string)(hi:P.info? e=some inf)(hz:inf.zero=some (.int .u8 0))
  (hsize:inf.size=1) (hby:inf.bytes=1) (hv:ρ s=v) (hx:ρ x=vs bs) (hlen:l.length+bs.length≤100000000000) (hB:B≤w.heap.size)
  (h:∀v' w',Own B w' e v' (l++bs.map zaj)→Keep (fun b=>some b=v.ownBlock) w w'→(∀b,some b=v'.ownBlock→some b=v.ownBlock∨w.heap.size≤b)→K v' w'):
  opW P ⟨d,.call ⟨.builtin .append,#[s,x],#[t,tu]⟩,ty,ps,af,g⟩ ρ w K:=by
 have hs:(⟨bs.toArray⟩:ByteArray).size=bs.length:=by simp[ByteArray.size]
 obtain⟨v',w',hr,h2,h3,h4⟩:=Lib.run_append_own_string (P:=P) w B t tu ty e inf (show P.underlying t=_ from ht) (show P.underlying tu=_ from hu) hi hz hsize hby v l.length l hown ⟨bs.toArray⟩ (by rw[hs];simp[maxLen];omega) (by rw[hs];omega) hB
 have hnew:∀b,some b=v'.ownBlock→some b=v.ownBlock∨w.heap.size≤b:=fun b hb=>by
  rcases hown.2 with ⟨rfl,hl0⟩| ⟨g,cap,cur,rfl,hbg,hg,hnc,hcm,hcs,htake⟩
  ·obtain⟨v2,w2,k1,k2,_⟩:=Lib.run_append_own_string (P:=P) w w.heap.size t tu ty e inf (show P.underlying t=_ from ht) (show P.underlying tu=_ from hu) hi hz hsize hby (.slice Option.none 0 0) l.length l ⟨hown.1,.inl ⟨rfl,hl0⟩⟩ ⟨bs.toArray⟩ (by rw[hs];simp[maxLen];omega) (by rw[hs];omega) (Nat.le_refl _)
   rw[k1]at hr
   cases hr
   rcases k2.2 with ⟨rfl,_⟩| ⟨g,cap,cur,rfl,hg,_⟩
   ·cases hb
   ·cases hb;exact .inr hg
  ·by_cases hroom:l.length+(⟨bs.toArray⟩:ByteArray).size≤cap
   ·have k1:=Lib.run_append_room_string (P:=P) w t tu ty e inf (show P.underlying t=_ from ht) (show P.underlying tu=_ from hu) hi hsize g l.length cap cur hg ⟨bs.toArray⟩ hroom (by rw[hs];omega)
    rw[k1]at hr
    cases hr
    exact .inl hb
   ·have holds:∀j u,l[j]? =some u→w.cell? ((⟨g,0,Option.none⟩:Addr).add j)=some u:=hown.cells (g:=g) rfl
    have k1:=Lib.run_append_grow_string (P:=P) w t tu ty e inf (.int .u8 0) (show P.underlying t=_ from ht) (show P.underlying tu=_ from hu) hi hz ⟨g,0,Option.none⟩ l.length cap l (by rw[hsize];simp) holds ⟨bs.toArray⟩ (by omega) (by rw[hs];omega) (by rw[hby];exact growslice_fits (by omega) (by rw[hs];omega))
    rw[k1]at hr
    cases hr
    cases hb
    exact .inr (Nat.le_refl _)
 have hc:Lib.strCells ⟨bs.toArray⟩=bs.map zaj:=by simp[Lib.strCells,zaj]
 rw[hs,hc]at h2
 refine zbm (b:= .append) (r:= .ok v' w') (fun v2 w2 h'=>?_) ⟨v',w',by rw[hv,hx];exact hr⟩
 rw[hv,hx]at h'
 have e1:(Builtin.append_ #[t,tu] ty #[v,.string ⟨bs.toArray⟩]).run P w= .ok v2 w2:=h'
 rw[hr]at e1
 cases e1
 have hl:l.length+bs.length=(l++bs.map zaj).length:=by simp
 rw[hl]at h2
 exact h v' w' h2 (zcT h3 (zaw _ _ _ _ hr)) hnew
end
def BldU(U:Nat→Prop)(w:World)(b:Nat)(bs:Lab):Prop:=∃p v,(p= .pointer Option.none∨p= .pointer (some ⟨b,0,Option.none⟩))∧w.heap[b]? =some (.cells #[p,v] 106 (0,0))∧Own 0 w 5 v (bs.map zaj)∧∀i,some i=v.ownBlock→U i
theorem Bld.toU{U:Nat→Prop}{B:Nat}{w:World}{b:Nat}{bs:Lab}(h:Bld B w b bs)(hU:∀i,B≤i→i<w.heap.size→U i):BldU U w b bs:=by
 obtain⟨p,v,h1,h2,h3⟩:=h.ex
 exact⟨p,v,h1,h2,h3.mono (Nat.zero_le _),fun i hi=>hU i (h3.ge hi).1 (h3.ge hi).2⟩
theorem BldU.keep{U S:Nat→Prop}{w x:World}{b:Nat}{bs:Lab}(h:BldU U w b bs)(hk:Keep S w x)(hb:¬S b)(hS:∀i,U i→i<w.heap.size→¬S i):BldU U x b bs:=by
 obtain⟨p,v,h1,h2,h3,h4⟩:=h
 exact⟨p,v,h1,(hk.block _ (Array.getElem?_eq_some_iff.1 h2).1 hb).trans h2,h3.keep hk (fun i hi=>hS i (h4 i hi) (h3.ge hi).2),h4⟩
theorem BldU.ext{U:Nat→Prop}{w x:World}{b:Nat}{bs:Lab}(h:BldU U w b bs)(hE:Ext w x):BldU U x b bs:=h.keep hE (fun h=>h) (fun _ _ _ h=>h)
theorem zfb{U:Nat→Prop}{w:World}{b:Nat}{bs s:List UInt8}(h:BldU U w b bs)(hU:∀i,w.heap.size≤i→U i)(hlen:bs.length+s.length≤100000000000):
  Fn Tryz.prog 57 #[.pointer (some ⟨b,0,Option.none⟩),vs s] w (fun _ w'=>BldU U w' b (bs++s)∧Keep (fun i=>i=b∨U i) w w'):=by
 obtain⟨p,v,hp,hb,hown,hUv⟩:=h
 have hne:=zib hown hb
 obtain⟨inf,hi,hz,hsz,hby⟩:=info_parts (P:=Tryz.prog) (e:=5) (z:= .int .u8 0) (size:=1) (bytes:=1) (by kernel_rfl)
 refine enter Tryz.func57 Tryz.ntmps57 rfl rfl ?_
 repeat refine c_r ?_
 refine rg0 ?_
 repeat refine c_r ?_
 refine rq ?_;intro gd K hgd hK
 try simp only[go_sem]
 refine Fn.mono (zbu hp hb) ?_
 rintro _ w1 ⟨hb1,hk1,hs1⟩
 try simp only[go_sem]
 refine hK _ _ ?_;clear hK hgd;clear K;try clear gd
 have hown1:=hown.keep hk1 (fun i hi he=>hne (he▸hi))
 have c1:zae w1 (some ⟨b,1,Option.none⟩)=some v:=zab hb1 rfl
 repeat refine c_r ?_
 refine rq ?_;intro gd K hgd hK
 try simp (disch:=first|omega|assumption|rfl) only[go_sem,c1,Nat.zero_add]
 refine op_appS2 hown1 (by rfl) (by rfl) hi hz hsz hby (by rfl) (by rfl) (by simpa using hlen) (by omega) ?_
 intro v2 w2 hown2 hk2 hnew
 try simp only[go_sem]
 have hb2:=(hk2.block b (Array.getElem?_eq_some_iff.1 hb1).1 hne).trans hb1
 have hne2:some b≠v2.ownBlock:=fun he=>by
  obtain⟨cur,fr,h1⟩:=zdd hown2 he
  rw[hb2]at h1
  injection h1 with h1
  injection h1 with _ h2
  revert h2;decide
 obtain⟨a2,c2,hv2⟩:=hown2.slice
 refine zfn (P:=Tryz.prog) (t:=31) (j:=1) (l:=[.pointer (some ⟨b,0,Option.none⟩),v]) hb2 (by simp) (by rw[hv2];rfl) rfl rfl ?_
 intro w3 hs3 hb3 hk3
 try simp only[go_sem]
 refine hK _ _ ?_;clear hK hgd;clear K;try clear gd
 have hown3:=hown2.keep hk3 (fun i hi he=>hne2 (he▸hi))
 repeat refine c_r ?_
 refine rg0 ?_
 repeat refine c_r ?_
 refine zaq (.inr rfl) Tryz.ntmps57 rfl (zaf rfl (zaf rfl zam)) ?_
 refine⟨⟨_,v2,.inr rfl,by simpa using hb3,by rw[List.map_append];exact hown3,fun i hi=>?_⟩,?_⟩
 ·rcases hnew i hi with h|h
  ·exact hUv i h
  ·exact hU i (by omega)
 exact((hk1.mono (fun i _ h=> .inl h)).trans (hk2.mono (fun i _ h=> .inr (hUv i h)))).trans (hk3.mono (fun i _ h=> .inl h))
theorem File1_U{U:Nat→Prop}{w:World}{v:Value}{xs:List Lab}{b:Nat}{acc:Lab}(hR:Row w v (xs.map vs))(hx:xs.length≤1000000)(hl:zar xs≤1000000000)(hB:BldU U w b acc)(hU:∀i,w.heap.size≤i→U i)(hacc:acc.length≤50000000000):
  Fn Tryz.prog 56 #[v,.pointer (some ⟨b,0,Option.none⟩)] w (fun _ w'=>BldU U w' b (acc++(zbc [32] xs++ [10]))∧Keep (fun i=>i=b∨U i) w w'):=by
 have hj:=zaZ [32] xs
 rw[show ([32]:Lab).length=1 from rfl]at hj
 refine enter Tryz.func56 Tryz.ntmps56 rfl rfl ?_
 refine rc trivial (zcY (sep:=[32]) hR hx (by decide) (by decide) hl) ?_
 rintro _ w1 ⟨rfl,hE1⟩
 have l1:(zbc [32] xs).length+([10]:Lab).length≤9223372036854775807:=by simp;omega
 have hs1:=hE1.size
 refine rd l1 (zfb (s:=zbc [32] xs++ [10]) (hB.ext hE1) (fun i hi=>hU i (by omega)) (by rw[List.length_append,show([10]:Lab).length=1 from rfl];omega)) ?_
 rintro _ w2 ⟨hB2,hk2⟩
 refine rgo trivial ?_
 exact zau (by simp) rfl ⟨hB2,(hE1.mono fun _ _ h=>h.elim).trans hk2⟩
theorem String_U{U:Nat→Prop}{w:World}{b:Nat}{bs:List UInt8}(h:BldU U w b bs)(hlen:bs.length≤100000000000):
  Fn Tryz.prog 64 #[.pointer (some ⟨b,0,Option.none⟩)] w (fun v w'=>v=vs bs∧Keep U w w'):=by
 obtain⟨p,v,hp,hb,hown,hU⟩:=h
 rcases hown.2 with ⟨rfl,hl⟩| ⟨g,cap,cur,rfl,_,hg,hn,hcap,hcs,hx⟩
 ·have h0:bs=[]:=by simpa using hl
  subst h0
  refine enter Tryz.func64 Tryz.ntmps64 rfl rfl ?_
  repeat refine c_r ?_
  refine rg0 ?_
  repeat refine c_r ?_
  refine zaJ (fun _=>false) [(0,true),(1,true),(2,true),(3,true),(5,true),(6,true),(7,true),(8,true),(9,true),(4,false),(10,false),(11,true)] NoS mixed (by kernel_rfl) ?_;intro gd K x hgd hx hxe hK;have hx0:=za3 hxe;clear hxe
  have c1:zae x (some ⟨b,1,Option.none⟩)=some (.slice Option.none 0 0):=zab (Ext.at hx0 hb) rfl
  simp (disch:=first|omega|assumption|rfl) only[go_sem,c1,Nat.zero_add]
  refine zaM (u:= .slice Option.none 0 0) (vq0) (Lib.run_unsafeSliceData_nil _ _ _ _ _) ?_
  refine⟨.inr (Keep.refl _ _),?_⟩
  refine zav (u:= .pointer Option.none) (z:=vi 0) (vq0) (vr0) (Lib.run_unsafeString_none (P:=Tryz.prog) _ _ _ _ _) ?_
  refine⟨.inr (Keep.refl _ _),?_⟩
  refine hK _ _ ?_;clear hK hgd;clear K;try clear gd
  repeat refine c_r ?_
  refine zaq (.inr rfl) Tryz.ntmps64 rfl (zaf (vr0) zam) ?_
  exact⟨rfl,hx0.mono (fun i _ h=>h.elim)⟩
 by_cases h0:bs=[]
 ·subst h0
  refine enter Tryz.func64 Tryz.ntmps64 rfl rfl ?_
  repeat refine c_r ?_
  refine rg0 ?_
  repeat refine c_r ?_
  refine zaJ (fun _=>false) [(0,true),(1,true),(2,true),(3,true),(5,true),(6,true),(7,true),(8,true),(9,true),(4,false),(10,false),(11,true)] NoS mixed (by kernel_rfl) ?_;intro gd K x hgd hx hxe hK;have hx0:=za3 hxe;clear hxe
  have c1:zae x (some ⟨b,1,Option.none⟩)=some (.slice (some ⟨g,0,Option.none⟩) 0 cap):=zab (Ext.at hx0 hb) rfl
  have hgx:=Ext.at hx0 hg
  simp (disch:=first|omega|assumption|rfl) only[go_sem,c1,Nat.zero_add]
  by_cases hc0:cap=0
  ·subst hc0
   refine zaM (u:= .slice (some ⟨g,0,Option.none⟩) 0 0) (vq0) (Lib.run_unsafeSliceData_zero (P:=Tryz.prog) _ _ _ 5 (by rfl) _ _ _ (by simp only[World.shape?,hgx];rfl)) ?_
   refine⟨.inr (Ext.alloc x _),?_⟩
   refine zav (u:= .pointer (some ⟨x.heap.size,0,Option.none⟩)) (z:=vi 0) (vq0) (vr0) (Lib.run_unsafeString_none (P:=Tryz.prog) _ _ _ _ _) ?_
   refine⟨.inr (Keep.refl _ _),?_⟩
   refine hK _ _ ?_;clear hK hgd;clear K;try clear gd
   repeat refine c_r ?_
   refine zaq (.inr rfl) Tryz.ntmps64 rfl (zaf (vr0) zam) ?_
   exact⟨rfl,(hx0.trans (Ext.alloc x _)).mono (fun i _ h=>h.elim)⟩
  ·refine zaM (u:= .slice (some ⟨g,0,Option.none⟩) 0 cap) (vq0) (Lib.run_unsafeSliceData_row _ _ _ _ _ _ hc0) ?_
   refine⟨.inr (Keep.refl _ _),?_⟩
   refine zav (u:= .pointer (some ⟨g,0,Option.none⟩)) (z:=vi 0) (vq0) (vr0) (Lib.run_unsafeString_none (P:=Tryz.prog) _ _ _ _ _) ?_
   refine⟨.inr (Keep.refl _ _),?_⟩
   refine hK _ _ ?_;clear hK hgd;clear K;try clear gd
   repeat refine c_r ?_
   refine zaq (.inr rfl) Tryz.ntmps64 rfl (zaf (vr0) zam) ?_
   exact⟨rfl,hx0.mono (fun i _ h=>h.elim)⟩
 simp only[List.length_map,Nat.mul_one]at hn hx hb hcs
 have hlen0:0<bs.length:=List.length_pos_iff.2 h0
 refine enter Tryz.func64 Tryz.ntmps64 rfl rfl ?_
 repeat refine c_r ?_
 refine rg0 ?_
 repeat refine c_r ?_
 have hbg:b≠g:=fun he=>by
  subst he
  rw[hb]at hg
  injection hg with hg
  injection hg with _ h2
  revert h2;decide
 have hc0:cap≠0:=by omega
 refine zaJ (fun _=>false) [(0,true),(1,true),(2,true),(3,true),(5,true),(6,true),(7,true),(8,true),(9,true),(4,false),(10,false),(11,true)] ((fun i=>i=g)) mixed (by kernel_rfl) ?_;intro gd K x hgd hx hxe hK;have hx0:=za3 hxe;clear hxe
 have c1:zae x (some ⟨b,1,Option.none⟩)=some (.slice (some ⟨g,0,Option.none⟩) bs.length cap):=zab (Ext.at hx0 hb) rfl
 have hgx:=Ext.at hx0 hg
 simp (disch:=first|omega|assumption|rfl) only[go_sem,c1,Nat.zero_add]
 refine⟨fun a ha hb=>(by cases ha;exact hbg hb),fun a ha hb=>(by cases ha;exact hbg hb),?_⟩
 refine zaM (u:= .slice (some ⟨g,0,Option.none⟩) bs.length cap) (vq0) (Lib.run_unsafeSliceData_row _ _ _ _ _ _ hc0) ?_
 refine⟨.inr (Keep.refl _ _),?_⟩
 refine zav (u:= .pointer (some ⟨g,0,Option.none⟩)) (z:=vi bs.length) (vq0) (vq0) (Lib.run_unsafeString_row (P:=Tryz.prog) _ _ _ _ 5 (by rfl) (by rfl) g (cap*1) (by simp[World.shape?,hgx,hcs]) bs h0 (by omega) (by omega) ?_) ?_
 ·intro j y hj
  obtain⟨hj1,hj2⟩:=List.getElem?_eq_some_iff.1 hj
  have hcell:=hown.row
  obtain⟨a,c,e,hc,hgt⟩:=hcell.ext hx0
  injection e with e1 e2 e3
  have h2:=hgt j (by simpa using hj1)
  rw[←e1,List.getElem_map,hj2]at h2
  exact h2
 have hfk:Keep (fun i=>i=g) x (x.freeze ⟨g,0,Option.none⟩ bs.length):=zcf x ⟨g,0,Option.none⟩ bs.length
 refine⟨.inr hfk,?_⟩
 refine hK _ _ ?_;clear hK hgd;clear K;try clear gd
 repeat refine c_r ?_
 refine zaq (.inr rfl) Tryz.ntmps64 rfl (zaf (vr0) zam) ?_
 exact⟨rfl,(hx0.mono (fun i _ h=>h.elim)).trans (hfk.mono (fun i _ h=>h▸hU g rfl))⟩
theorem own_one{B g:Nat}{w:World}{e:TypeId}{x:Value}(h:Own B w e (.slice (some ⟨g,0,Option.none⟩) 1 1) [x]):w.heap[g]? =some (.cells #[x] e (0,0)):=by
 rcases h.2 with ⟨h1,_⟩| ⟨g',cap,cur,h1,_,hg,_,_,hcs,htake⟩
 ·cases h1
 ·cases h1
  rw[hg]
  have h2:cur.toList.length=1:=by simpa using hcs
  have h3:cur.toList=[x]:=by
   rw[←htake,List.take_of_length_le (by simp[h2])]
  rw[show cur=#[x] from Array.toList_inj.1 (by simpa using h3)]
theorem zhs{B g:Nat}{w:World}{e:TypeId}{x:Value}(hg:w.heap[g]? =some (.cells #[x] e (0,0)))(hB:B≤g):Own B w e (.slice (some ⟨g,0,Option.none⟩) 1 1) [x]:=⟨rfl,.inr ⟨g,1,#[x],rfl,hB,hg,Nat.le_refl _,by decide,rfl,rfl⟩⟩
theorem ze4{β:Type}{cf:RecL→RecL→Int}{jn:RecL→RecL→RecL}{p:β→RecL}{Q:RecL→Prop}(hj:∀x r,Q x→Q r→cf x r=0→Q (jn x r)):∀(l:List β) (acc:List RecL),(∀x∈l,Q (p x))→(∀x∈acc,Q x)→∀x∈zch cf jn p l acc,Q x
 | [],_,_,h=>h
 |r::l,acc,hl,ha=>ze4 hj l _ (fun x hx=>hl x (List.mem_cons_of_mem _ hx)) (zdc (fun x hx h0=>hj x (p r) hx (hl r (List.mem_cons_self ..)) h0) (hl r (List.mem_cons_self ..)) ha)
theorem zgM:∀(l:List RecL),(zbK l).length≤l.length:=by
 have h1:∀(r:RecL) (O:List RecL),(putC zaA minT r O).length≤O.length+1:=fun r O=>by
  induction O with
  |nil=>simp[putC]
  |cons x O ih=>
   simp only[putC]
   split
   ·simp;omega
   ·split<;>simp
 have h2:∀(l acc:List RecL),(zch zaA minT (fun r=>r) l acc).length≤acc.length+l.length:=fun l=>by
  induction l with
  |nil=>intro acc;simp[zch]
  |cons r l ih=>
   intro acc
   have:=ih (putC zaA minT r acc)
   have:=h1 r acc
   show(zch zaA minT (fun r=>r) l (putC zaA minT r acc)).length≤_
   simp only[List.length_cons];omega
 intro l
 have h3:(zbK l).length≤([]:List RecL).length+l.length:=h2 l []
 simpa using h3
def zeX(C:List RecL)(m:Int)(o:Nm)(x:Nat×Bool):List Lab:=match C[x.1]? with
 |some r=>((if x.2=true then zbl r.owner o else [])::(if r.ttl=m then [] else [numT r.ttl]))++ [[73,78],tyT r.dat.ty,zcK hexU r.dat]
 |Option.none=>[]
def zgw(C:List RecL)(m:Int)(o:Nm)(x:Nat×Bool):Lab:=zbc [32] (zeX C m o x)++ [10]
def zeZ(m:Int)(o:Nm):Lab:=(zbc [32] [[36,79,82,73,71,73,78],zbj o]++ [10])++(zbc [32] [[36,84,84,76],numT m]++ [10])
def fileT(R:List RecL)(o:Nm):Lab:=zeZ (zca ((zbK R).map RecL.ttl)) o++(za9 (zbK R)).flatMap (zgw (zbK R) (zca ((zbK R).map RecL.ttl)) o)
theorem zd0{n o:Nm}(hn:NmT n):(zbl n o).length≤5000000:=by
 have h1:=zbz hn.1 hn.2
 unfold zbl
 split
 ·simp
 ·split
  ·have h2:=zaZ [46] ((n.take (n.length - o.length)).map zao)
   have h3:zar ((n.take (n.length - o.length)).map zao)≤4000*(n.take (n.length - o.length)).length:=zbB fun l hl=>by
    have h1:=zbk l
    have h2:=hn.1 l (List.mem_of_mem_take hl)
    omega
   have h4:(n.take (n.length - o.length)).length≤1000:=by rw[List.length_take];have:=hn.2;omega
   have h5:4000*(n.take (n.length - o.length)).length≤4000*1000:=Nat.mul_le_mul_left _ h4
   rw[show ([46]:Lab).length=1 from rfl,List.length_map]at h2
   omega
  ·exact h1
theorem zg3{d:DatL}(h:DatT d):(zcK hexU d).length≤300000000:=by
 obtain⟨g1,g2⟩:=zcn (fx:=hexU) (fun u hu=>by have:=zcz 3 u (by simpa using hu);omega) h
 have:=zaZ [32] (zby hexU d)
 unfold zcK
 rw[show ([32]:Lab).length=1 from rfl]at this
 omega
theorem zfY{n:Int}(h:n≤4294967295):(numT n).length≤20:=zfZ h
theorem zeW{C:List RecL}{m:Int}{o:Nm}{x:Nat×Bool}(hT:∀r∈C,RecT r):(zeX C m o x).length≤5∧zar (zeX C m o x)≤310000000:=by
 unfold zeX
 split
 ·rename_i r hr
  have hrT:=hT r (List.mem_of_getElem? hr)
  have a1:=zd0 (o:=o) (n:=r.owner) ⟨hrT.ow.1,hrT.ow.2⟩
  have a2:=zfY hrT.tl.2
  have a3:=zfl hrT.ty.1 hrT.ty.2
  have a4:=zg3 hrT.dat
  have a5:(if x.2=true then zbl r.owner o else([]:Lab)).length≤5000000:=by
   split
   ·exact a1
   ·simp
  by_cases hm:r.ttl=m
  ·rw[if_pos hm]
   refine⟨by simp,?_⟩
   simp only[zar,List.map_cons,List.map_nil,List.sum_cons,List.sum_nil,List.length_cons,List.length_nil,List.cons_append,List.nil_append]
   omega
  ·rw[if_neg hm]
   refine⟨by simp,?_⟩
   simp only[zar,List.map_cons,List.map_nil,List.sum_cons,List.sum_nil,List.length_cons,List.length_nil,List.cons_append,List.nil_append]
   omega
 ·exact⟨by simp,by simp[zar]⟩
theorem zhy{C:List RecL}{m:Int}{o:Nm}{x:Nat×Bool}(hT:∀r∈C,RecT r):(zgw C m o x).length≤400000000:=by
 obtain⟨h1,h2⟩:=zeW (m:=m) (o:=o) (x:=x) hT
 have h3:=zaZ [32] (zeX C m o x)
 unfold zgw
 rw[show ([32]:Lab).length=1 from rfl]at h3
 rw[List.length_append,show([10]:Lab).length=1 from rfl]
 omega
theorem zcQ{C:List RecL}{m:Int}{o:Nm}(hT:∀r∈C,RecT r):∀l:List (Nat×Bool),(l.flatMap (zgw C m o)).length≤400000000*l.length
 | []=>Nat.zero_le _
 |x::l=>by
  have h1:=zcQ (m:=m) (o:=o) hT l
  have h2:=zhy (m:=m) (o:=o) (x:=x) hT
  rw[List.flatMap_cons,List.length_append,List.length_cons]
  omega
theorem zhL{m:Int}{o:Nm}(hm:m≤4294967295)(ho:NmT o):(zeZ m o).length≤6000000:=by
 have a1:=zbz ho.1 ho.2
 have a2:=zfY hm
 have a3:=zaZ [32] [[36,79,82,73,71,73,78],zbj o]
 have a4:=zaZ [32] [[36,84,84,76],numT m]
 simp only[zar,List.map_cons,List.map_nil,List.sum_cons,List.sum_nil,List.length_cons,List.length_nil]at a3 a4
 unfold zeZ
 simp only[List.length_append,List.length_cons,List.length_nil]
 omega
theorem canonT{R:List RecL}(hT:∀r∈R,RecT r):∀r∈zbK R,RecT r:=
 ze4 (Q:=RecT) (cf:=zaA) (jn:=minT) (p:=fun r=>r) (fun a b ha hb _=>⟨ha.ow,by have h1:=ha.tl;have h2:=hb.tl;unfold minT;simp only;omega,ha.ty,ha.dat⟩) R [] hT (fun x h=>by cases h)
theorem File_ok{w:World}(hW:WY w){v ov:Value}{R:List RecL}{o:Nm}(hR:Rows 7 (RecAt w) w v R)(hT:∀r∈R,RecT r)(hok:∀r∈R,zc6 r)(hl:R.length≤100)(ho:Row w ov (o.map vs))(hoT:NmT o):
  Fn Tryz.prog 17 #[v,ov] w (fun u w'=>u=vs (fileT R o)∧Ext w w'):=by
 unfold fileT
 have hCT:=canonT hT
 have hCl:=zgM R
 obtain⟨oa,oc,hov,_⟩:=id ho
 obtain⟨on,hon⟩:∃on,(o.map vs).length=on:=⟨_,rfl⟩
 rw[hon]at hov
 subst hov
 refine enter Tryz.func17 Tryz.ntmps17 rfl rfl ?_
 refine go trivial ?_
 refine zaK ?_
 intro w1 hE1 hs1 hA1
 refine go trivial ?_
 refine rc trivial (Canon_ok w w1 hE1 (hR.ext hE1) hok (by omega)) ?_
 rintro cv w2 ⟨hC,hE2,_⟩
 obtain⟨C,hCC⟩:∃C,zbK R=C:=⟨_,rfl⟩
 rw[hCC]at hC hCT hCl ⊢
 have hE12:=hE1.trans hE2
 have hC2:Rows 7 (RecAt w2) w2 cv C:=hC.to fun cs a h=>h.ext hE12
 refine rgo trivial ?_
 refine rq ?_;intro gd K hgd hK
 try simp only[go_sem]
 refine Fn.mono (usual_ok hC2 (by omega) fun r hr=>(hCT r hr).tl) ?_
 rintro _ w3 ⟨rfl,hE3⟩
 have hm0:0≤zca (C.map RecL.ttl)∧zca (C.map RecL.ttl)≤4294967295:=by
  cases hcc:C with
  |nil=>exact⟨Int.le_refl _,by decide⟩
  |cons r l=>
   have:=zg0 (ts:=C.map RecL.ttl) (by rw[hcc];simp)
   obtain⟨q,hq,hqe⟩:=List.mem_map.1 this
   rw[←hcc,←hqe]
   exact(hCT q hq).tl
 obtain⟨u,hu⟩:∃u:Nat,zca (C.map RecL.ttl)=(u:Int):=⟨(zca (C.map RecL.ttl)).toNat,by omega⟩
 rw[hu]at hm0 ⊢
 have hul:u≤4294967295:=by omega
 have hE13:=hE12.trans hE3
 have hR3:Rows 7 (RecAt w3) w3 cv C:=(hC2.ext hE3).to fun cs a h=>h.ext hE3
 obtain⟨ca,cc,rfl,_,_⟩:=hR3.open
 try simp only[go_sem]
 refine zaB (P:=Tryz.prog) rfl rfl rfl (zai w3 _) (by simp) (by simp) ?_
 intro wA hsA hbA hkA
 rw[zap]at hsA
 have hEA:Ext w3 wA:=Keep.to_ext (Ext.alloc w3 _) rfl (fun b hb=>by omega) hkA
 try simp only[go_sem]
 refine hK _ _ ?_;clear hK hgd;clear K;try clear gd
 refine go trivial ?_
 refine zaK ?_
 intro wB hEB hsB hbB
 refine rq ?_;intro gd K hgd hK
 try simp only[go_sem]
 refine zaB (P:=Tryz.prog) rfl rfl rfl (zai wB _) (by simp) (by simp) ?_
 intro wC hsC hbC hkC
 rw[zap]at hsC
 have hEC:Ext wB wC:=Keep.to_ext (Ext.alloc wB _) rfl (fun b hb=>by omega) hkC
 try simp only[go_sem]
 refine hK _ _ ?_;clear hK hgd;clear K;try clear gd
 refine go trivial ?_
 refine rq ?_;intro gd K hgd hK
 try simp only[go_sem]
 refine zaB (P:=Tryz.prog) rfl rfl rfl (zai wC _) (by simp) (by simp) ?_
 intro w4 hs4 hbD hkD
 rw[zap]at hs4
 have hED:Ext wC w4:=Keep.to_ext (Ext.alloc wC _) rfl (fun b hb=>by omega) hkD
 try simp only[go_sem]
 refine hK _ _ ?_;clear hK hgd;clear K;try clear gd
 refine go trivial ?_
 rw[hsA]at hsB hbB hbC
 rw[hsB]at hsC hbC
 rw[hsC]at hs4 hbD
 have hE34:Ext w3 w4:=((hEA.trans hEB).trans hEC).trans hED
 have hB5:=Ext.at ((hEB.trans hEC).trans hED) hbA
 have hB6:=Ext.at (hEC.trans hED) hbB
 have hB7:=Ext.at hED hbC
 obtain⟨S,hS⟩:∃S,w3.heap.size=S:=⟨_,rfl⟩
 obtain⟨B,hB⟩:∃B,w4.heap.size=B:=⟨_,rfl⟩
 obtain⟨D0,hD0⟩:∃D0,w.heap.size=D0:=⟨_,rfl⟩
 have hz1:=hE1.size
 have hz2:=hE2.size
 have hz3:=hE3.size
 have hA4:w4.heap[D0]? =_:=Ext.at hE34 (Ext.at hE3 (Ext.at hE2 (hD0▸hA1)))
 have cc4:∀{z:World},Keep (fun i=>i=S+1∨B≤i) w4 z→zae z (some ⟨D0,0,Option.none⟩)=some (.slice oa on oc)∧zae z (some ⟨S,0,Option.none⟩)=some (v32 u)∧zae z (some ⟨S+2,0,Option.none⟩)=some (.func (.func 56) #[] #[.pointer (some ⟨S+1,0,Option.none⟩)])∧zae z (some ⟨S+3,0,Option.none⟩)=some (.func (.func 59) #[] #[]):=fun {z} hk=>
  ⟨zab ((hk.block _ (by omega) (by omega)).trans hA4) rfl,zab ((hk.block _ (by omega) (by omega)).trans (hS▸hB5)) rfl,zab ((hk.block _ (by omega) (by omega)).trans (hS▸hB7)) rfl,zab ((hk.block _ (by omega) (by omega)).trans (hS▸hbD)) rfl⟩
 have hbld4:Bld B w4 (S+1) []:=⟨⟨_,_,.inl rfl,hS▸hB6,Own.nil _ _ _⟩⟩
 have hE4':Ext w w4:=hE13.trans hE34
 have hW4:=hW.ext hE4'
 have ho4:=ho.ext hE4'
 have a1:=zbz hoT.1 hoT.2
 have a2:=zbp 19 u (by omega)
 have g1:wA.heap.size=S+1:=by omega
 have g2:wB.heap.size=S+2:=by omega
 have g3:wC.heap.size=S+3:=by omega
 simp only[g1,g2,g3,hS,hD0]
 -- the first two rows
 obtain⟨c3,c5,c7,c8⟩:=cc4 (Keep.refl _ w4)
 refine zaJ (fun i=>i==4) [(0,true),(1,true),(2,false),(3,false),(4,false)] NoS mixed (by kernel_rfl) ?_;intro gd K x hgd hx hxe hK;have hx0:=za3 hxe;clear hxe
 have d3:=zaa hx0 c3
 have d7:=zaa hx0 c7
 simp (disch:=first|omega|assumption|rfl) only[go_sem,d3,d7]
 refine Fn.mono (zdl _ _ o (ho4.ext hx0) (fun l hl=>by have:=hoT.1 l hl;omega) hoT.2) ?_
 rintro _ y1 ⟨rfl,hy1⟩
 refine⟨.inr hy1.keep,?_⟩
 simp (disch:=first|omega|assumption|rfl) only[go_sem]
 refine za6 (z:=vs []) (l:=([[36,79,82,73,71,73,78],zbj o]:List Lab).map vs) rfl rfl rfl rfl rfl rfl (fun v hv=>by obtain⟨q,_,rfl⟩:=List.mem_map.1 hv;rfl) (by simp) ?_
 intro y2 hy2 hys2 hyo
 refine⟨.inr hy2.keep,?_⟩
 simp (disch:=first|omega|assumption|rfl) only[go_sem]
 have hxy:=(hx0.trans hy1).trans hy2
 have hsxy:=hxy.size
 refine Fn.mono (zgi (B:=B) hyo.row (by simp) (by simp only[zar,List.map_cons,List.map_nil,List.sum_cons,List.sum_nil,List.length_cons,List.length_nil];omega) (hbld4.ext' hxy) (by omega) (by simp)) ?_
 rintro _ y3 ⟨hB3,hk3⟩
 refine⟨.inl rfl,?_⟩
 simp (disch:=first|omega|assumption|rfl) only[go_sem]
 refine hK _ _ ?_;clear hK hgd;clear K;try clear gd
 have hk34:Keep (fun i=>i=S+1∨B≤i) w4 y3:=(hxy.mono fun _ _ h=>h.elim).trans hk3
 have hs3:=hk34.size
 clear hk3 d3 d7 c3 c5 c7 c8 hyo
 obtain⟨c3,c5,c7,c8⟩:=cc4 hk34
 have hW3:WY y3:=hW.ext (Keep.to_ext hE4' rfl (fun b hb=>by omega) hk34)
 repeat refine c_r ?_
 refine zaJ (fun i=>i==5) [(0,true),(1,true),(2,true),(3,false),(4,false),(5,false)] NoS mixed (by kernel_rfl) ?_;intro gd K x hgd hx hxe hK;have hx0:=za3 hxe;clear hxe
 have d5:=zaa hx0 c5
 have d7:=zaa hx0 c7
 have d8:=zaa hx0 c8
 simp (disch:=first|omega|assumption|rfl) only[go_sem,d5,d7,d8]
 refine Fn.mono (zgh (hW3.ext hx0) u (by omega)) ?_
 rintro _ x1 ⟨rfl,hx1⟩
 refine⟨.inr hx1.keep,?_⟩
 simp (disch:=first|omega|assumption|rfl) only[go_sem]
 refine za6 (z:=vs []) (l:=([[36,84,84,76],Lib.decDigits u]:List Lab).map vs) rfl rfl rfl rfl rfl rfl (fun v hv=>by obtain⟨q,_,rfl⟩:=List.mem_map.1 hv;rfl) (by simp) ?_
 intro x2 hx2 hxs2 hxo
 refine⟨.inr hx2.keep,?_⟩
 simp (disch:=first|omega|assumption|rfl) only[go_sem]
 have hxx:=(hx0.trans hx1).trans hx2
 have hsxx:=hxx.size
 have b1:=zaZ [32] [[36,79,82,73,71,73,78],zbj o]
 simp only[zar,List.map_cons,List.map_nil,List.sum_cons,List.sum_nil,List.length_cons,List.length_nil]at b1
 refine Fn.mono (zgi (B:=B) hxo.row (by simp) (by simp only[zar,List.map_cons,List.map_nil,List.sum_cons,List.sum_nil,List.length_cons,List.length_nil];omega) (hB3.ext' hxx) (by omega) (by simp only[List.nil_append,List.length_append,List.length_cons,List.length_nil];omega)) ?_
 rintro _ z ⟨hBz,hkz⟩
 refine⟨.inl rfl,?_⟩
 simp (disch:=first|omega|assumption|rfl) only[go_sem]
 refine hK _ _ ?_;clear hK hgd;clear K;try clear gd
 have hk4z:Keep (fun i=>i=S+1∨B≤i) w4 z:=(hk34.trans (hxx.mono fun _ _ h=>h.elim)).trans hkz
 have hsz:=hk4z.size
 clear hkz d5 d7 d8 c3 c5 c7 c8 hxo
 rw[List.nil_append,show zbc [32] [[36,79,82,73,71,73,78],zbj o]++ [10]++(zbc [32] [[36,84,84,76],Lib.decDigits u]++ [10])=zeZ (u:Int) o by unfold zeZ numT;rw[Int.toNat_natCast]]at hBz
 have hhl:=zhL (m:=(u:Int)) (o:=o) (by omega) hoT
 refine go trivial ?_
 refine rc trivial (Fresh_ok z ca C.length cc) ?_
 rintro _ z1 ⟨rfl,hEz1,hsz1,hbz1⟩
 refine rgo trivial ?_
 obtain⟨f,hf⟩:∃f,z.heap.size=f:=⟨_,rfl⟩
 have hz1s:z1.heap.size=f+1:=by omega
 have hk4z1:=hk4z.trans (hEz1.mono fun _ _ h=>h.elim)
 have hE3z1:Ext w3 z1:=Keep.to_ext hE34 rfl (fun b hb=>by omega) hk4z1
 have hU0:BldU (fun i=>B≤i∧(i<f∨f+3≤i)) z1 (S+1) (zeZ (u:Int) o):=(hBz.toU fun i h1 h2=>⟨h1,.inl (by omega)⟩).ext hEz1
 refine zcm (g:=123) (cap:=#[.pointer (some ⟨z.heap.size,0,Option.none⟩)]) (vq0) rfl (freshIt (n0:=z1.heap.size) (C:=fun i=>i=S+1∨(B≤i∧i<f)) hE3z1 hR3 hbz1 (by omega) (by omega) (fun b hb=>by omega) (by omega) (by omega) (fun r hr=>by have:=(hCT r hr).ow.2;omega)) (Keep.refl _ _) (Nat.le_refl _) (fun b hb=>by omega)
  (fun x A args h=>by obtain⟨cs,r,_,_,rfl⟩:=h;rfl)
  (fun pre A=>Keep (fun i=>i=S+1∨B≤i) w4 A∧BldU (fun i=>B≤i∧(i<f∨f+3≤i)) A (S+1) (zeZ (u:Int) o++pre.flatMap (zgw C (u:Int) o)))
  (fun _ _ _=>False) ?_ (fun _ _ _ _ h _=>h.elim) ?_ ?_ ?_ (fun _ _ _ _ _ _ _ h _=>h.elim)
 ·rintro pre A A' ⟨h1,h2⟩ hk
  exact⟨h1.trans (hk.mono fun i _ hi=>by unfold two at hi;omega),h2.keep hk (by unfold two;omega) fun i hi _ ht=>by unfold two at ht;omega⟩
 ·exact⟨hk4z1,by simpa using hU0⟩
 ·rintro lp pre x suf A args hxs hszA ⟨hkA,hBA⟩ ⟨cs,r,hxr,hcs,rfl⟩
  obtain⟨xi,xb⟩:=x
  simp only at hxr
  have hrT:=hCT r (List.mem_of_getElem? hxr)
  have hc7:=hcs.len
  obtain⟨ow,ds',hce,how,hdat⟩:=hcs.ex
  obtain⟨nm,nu,tx,rw',hde,_⟩:=hdat.ex
  have hE3A:Ext w3 A:=Keep.to_ext hE34 rfl (fun b hb=>by omega) hkA
  repeat refine c_r ?_
  refine rq ?_;intro gd K hgd hK
  try simp only[go_sem]
  refine zeF (P:=Tryz.prog) (l:=cs) (by rw[hc7];rfl) hcs.ones (by rw[hc7];rfl) rfl ?_
  intro A1 hEA1 hsA1 hBv
  try simp only[go_sem]
  refine hK _ _ ?_;clear hK hgd;clear K;try clear gd
  repeat refine c_r ?_
  refine rq ?_;intro gd K hgd hK
  try simp only[go_sem]
  refine hK _ _ ?_;clear hK hgd;clear K;try clear gd
  refine zat ?_
  refine⟨rfl,hEA1.toB (by omega) (fun _ _ h=>h.elim),fun A2 hA2=>?_⟩
  have hs2A:=hA2.size
  have hk42:Keep (fun i=>i=S+1∨B≤i) w4 A2:=(hkA.trans (hEA1.mono fun _ _ h=>h.elim)).trans (hA2.mono fun i _ hi=>by unfold two at hi;omega)
  have hBU2:=(hBA.ext hEA1).keep hA2 (by unfold two;omega) (fun i hi _ ht=>by unfold two at ht;omega)
  have hp2:=(hA2.block _ (by omega) (by unfold two;omega)).trans hBv
  obtain⟨e3,e5,e7,e8⟩:=cc4 hk42
  obtain⟨p,hp⟩:∃p,A.heap.size=p:=⟨_,rfl⟩
  rw[hp]at hp2
  have o0:zae A2 (some ⟨p,0,Option.none⟩)=some ow:=zcb (l:=cs) (j:=0) hp2 (by rw[hce];rfl)
  have o1:zae A2 (some ⟨p,1,Option.none⟩)=some (v32 r.ttl):=zcb (l:=cs) (j:=1) hp2 (by rw[hce];rfl)
  have o2:zae A2 (some ⟨p,2,Option.none⟩)=some (vi r.dat.ty):=zcb (l:=cs) (j:=2) hp2 (by rw[hce,hde];rfl)
  have o5:zax A2 (some ⟨p,2,Option.none⟩) 5=some ds':=by
   have h7:=zcs (n:=7) hp2 hc7.symm
   have:=zgK (m:=2) (k:=5) h7
   rw[za8]at this
   rw[hce,hde]at this
   rw[hde]
   exact this
  have hE3A2:Ext w3 A2:=Keep.to_ext hE34 rfl (fun b hb=>by omega) hk42
  have hWA2:WY A2:=hW.ext (hE13.trans hE3A2)
  have howA:=how.ext hE3A2
  have hoA:=ho.ext (hE13.trans hE3A2)
  obtain⟨k,hk⟩:∃k:Nat,r.ttl=k:=⟨r.ttl.toNat,by have:=hrT.tl;omega⟩
  have hkl:=hrT.tl
  obtain⟨N2,hN2⟩:∃N2,A2.heap.size=N2:=⟨_,rfl⟩
  simp only[hp]
  refine go trivial ?_
  refine rq ?_;intro gd K hgd hK
  try simp only[go_sem]
  refine zbv (z:=vs []) rfl rfl rfl rfl rfl ?_
  intro y1 hy1 hys1 hyo
  try simp only[go_sem]
  refine hK _ _ ?_;clear hK hgd;clear K;try clear gd
  rw[hN2]at hyo hys1 ⊢
  have hyb:=own_one hyo
  refine go trivial ?_
  refine zaI (Q:=fun e σ' ds' v'=>e= .normal∧ds'=[]∧Ext A2 v'∧v'.heap[N2]? =some (.cells #[vs (if xb=true then zbl r.owner o else [])] 9 (0,0))∧
   (σ' 5= .pointer (some ⟨S,0,Option.none⟩)∧σ' 7= .pointer (some ⟨S+2,0,Option.none⟩)∧σ' 8= .pointer (some ⟨S+3,0,Option.none⟩)∧σ' 9= .pointer (some ⟨p,0,Option.none⟩)∧σ' 11= .slice (some ⟨N2,0,Option.none⟩) 1 1)) ?_ ?_
  ·cases xb with
   |false=>
    refine go trivial ?_
    exact⟨rfl,rfl,hy1,by simpa using hyb,vr0,vr0,vr0,vr0,vr0⟩
   |true=>
    refine go trivial ?_
    have q0:=zaa hy1 o0
    have q3:=zaa hy1 e3
    refine rq ?_;intro gd K hgd hK
    try simp (disch:=first|omega|assumption|rfl) only[go_sem,q0,q3,Nat.zero_add]
    refine Fn.mono (zdk (howA.ext hy1) (hoA.ext hy1) ⟨hrT.ow.1,hrT.ow.2⟩ hoT) ?_
    rintro _ y2 ⟨rfl,hy2⟩
    try simp (disch:=first|omega|assumption|rfl) only[go_sem,za7,Nat.zero_mul]
    refine zaB (P:=Tryz.prog) rfl rfl rfl (Ext.at hy2 hyb) (by simp) (by simp) ?_
    intro y3 hs3' hb3 hk3
    try simp only[go_sem]
    refine hK _ _ ?_;clear hK hgd;clear K;try clear gd
    refine go trivial ?_
    exact⟨rfl,rfl,Keep.to_ext (hy1.trans hy2) rfl (fun b hb=>by omega) hk3,by simpa using hb3,vr0,vr0,vr0,vr0,vr0⟩
  rintro _ σ1 _ v1 ⟨rfl,rfl,hEv1,hrow1,s5,s7,s8,s9,s11⟩
  have hlv1:=(Array.getElem?_eq_some_iff.1 hrow1).1
  obtain⟨sh,hsh⟩:∃sh,(if xb=true then zbl r.owner o else([]:Lab))=sh:=⟨_,rfl⟩
  rw[hsh]at hrow1
  obtain⟨t,ht⟩:∃t,decide (r.ttl=(u:Int))=t:=⟨_,rfl⟩
  have r1:=zaa hEv1 o1
  have r5:=zaa hEv1 e5
  refine go (an8 s5 s7 s8 s9 s11 r1 r5 ht) ?_
  refine zaI (Q:=fun e σ' ds' v'=>e= .normal∧ds'=[]∧Ext A2 v'∧(∃sv,σ' 11=sv∧Own N2 v' 9 sv ((sh::if t=true then [] else [numT r.ttl]).map vs))∧
   (σ' 7= .pointer (some ⟨S+2,0,Option.none⟩)∧σ' 9= .pointer (some ⟨p,0,Option.none⟩))) ?_ ?_
  ·cases t with
   |true=>
    refine go trivial ?_
    exact⟨rfl,rfl,hEv1,⟨_,(vq1 s11),zhs hrow1 (Nat.le_refl _)⟩,(vq1 s7),(vq1 s9)⟩
   |false=>
    refine go trivial ?_
    have r8:=zaa hEv1 e8
    have r1':zae v1 (some ⟨p,1,Option.none⟩)=some (.int .u32 (k:Nat)):=by rw[r1,hk]
    refine rq ?_;intro gd K hgd hK
    try simp (disch:=first|omega|assumption|rfl) only[go_sem,s11,s8,s9,r8,r1',Nat.zero_add]
    refine Fn.mono (zgh (hWA2.ext hEv1) k (by omega)) ?_
    rintro _ q1 ⟨rfl,hq1⟩
    try simp only[go_sem]
    refine zbv (z:=vs []) rfl rfl rfl rfl rfl ?_
    intro q2 hq2 hqs2 hqo
    try simp (disch:=first|omega|assumption|rfl) only[go_sem,s11]
    have hq12:=hq1.trans hq2
    have hsq:=hq12.size
    refine za1 (e:=9) ((zhs hrow1 (Nat.le_refl _)).ext hq12) hqo.row rfl rfl rfl rfl rfl rfl ((vr1 s11)) (vr0) (fun q hq=>by simp at hq;subst hq;rfl) (by simp) (by decide) (by omega) ?_
    intro sv' q3 hown3 hX3 hK3 hb3
    try simp only[go_sem]
    refine hK _ _ ?_;clear hK hgd;clear K;try clear gd
    refine go trivial ?_
    refine⟨rfl,rfl,hX3 A2 (hEv1.trans hq12) (by omega),⟨sv',vr0,?_⟩,(vq1 s7),(vq1 s9)⟩
    rw[if_neg (by decide),hk]
    have:numT (k:Int)=Lib.decDigits k:=by unfold numT;rw[Int.toNat_natCast]
    rw[this]
    exact hown3
  clear s5 s7 s8 s9 s11 r1 r5
  rintro _ σ2 _ v2 ⟨rfl,rfl,hEv2,⟨sv,s11,hown⟩,s7,s9⟩
  have hsv2:=hEv2.size
  have r7:=zaa hEv2 e7
  have r2:=zaa hEv2 o2
  have r5:=zak hEv2 o5
  refine go (an2 s7 s9) ?_
  refine zaJ (fun i=>i==11) [(0,true),(1,true),(2,true),(3,true),(4,true),(6,true),(7,true),(5,false),(8,false),(9,false),(10,false),(11,false)] (zcG N2) mixed (by kernel_rfl) ?_;intro gd K x hgd hx hxe hK;have hx0:=za3 hxe;clear hxe
  have q7:=zaa hx0 r7
  have q2:=zaa hx0 r2
  have q5:=zak hx0 r5
  simp (disch:=first|omega|assumption|rfl) only[go_sem,s7,s9,s11,q7,q2,q5,Nat.zero_add]
  refine⟨zaV (by omega),zaV (by omega),zaV (by omega),?_⟩
  refine Fn.mono (zgc ((hWA2.ext hEv2).ext hx0) r.dat.ty hrT.ty.1 hrT.ty.2) ?_
  rintro _ y1 ⟨rfl,hy1'⟩
  refine⟨.inr hy1'.keep,?_⟩
  simp (disch:=first|omega|assumption|rfl) only[go_sem]
  refine Fn.mono (zdU (((hWA2.ext hEv2).ext hx0).ext hy1') (hdat.ext (((hE3A2.trans hEv2).trans hx0).trans hy1')) hrT.dat) ?_
  rintro _ y2 ⟨rfl,hy2⟩
  refine⟨.inr hy2.keep,?_⟩
  simp (disch:=first|omega|assumption|rfl) only[go_sem]
  refine za6 (z:=vs []) (l:=([[73,78],tyT r.dat.ty,zcK hexU r.dat]:List Lab).map vs) rfl rfl rfl rfl rfl rfl (fun v hv=>by obtain⟨q,_,rfl⟩:=List.mem_map.1 hv;rfl) (by simp) ?_
  intro y3 hy3 hys3 hyo3
  refine⟨.inr hy3.keep,?_⟩
  simp (disch:=first|omega|assumption|rfl) only[go_sem,s11]
  have hxy:=((hx0.trans hy1').trans hy2).trans hy3
  have hsxy:=hxy.size
  have hll:(sh::if t=true then([]:List Lab) else [numT r.ttl]).length≤2:=by split<;>simp
  refine za1 (e:=9) (hown.ext hxy) hyo3.row rfl rfl rfl rfl rfl rfl ((vr1 s11)) (vr0) (fun q hq=>by obtain⟨_,_,rfl⟩:=List.mem_map.1 hq;rfl) (by rw[List.length_map,List.length_map];simp only[List.length_cons,List.length_nil];simp only[List.length_cons]at hll;omega) (by decide) (by omega) ?_
  intro sv4 y4 hown4 hX4 hK4 hb4
  refine⟨.inr (hK4.mono fun b _ hb=>by have:=(hown.ge hb).1;show _≤_;omega),?_⟩
  simp (disch:=first|omega|assumption|rfl) only[go_sem,s7,q7]
  have hsy4:=hK4.size
  have hE24:Ext A2 y4:=hX4 A2 (hEv2.trans hxy) (by omega)
  have hline:zeX C (u:Int) o (xi,xb)=(sh::if t=true then [] else [numT r.ttl])++ [[73,78],tyT r.dat.ty,zcK hexU r.dat]:=by
   unfold zeX
   simp only[hxr,hsh,←ht,decide_eq_true_eq]
  have hrow4:Row y4 sv4 ((zeX C (u:Int) o (xi,xb)).map vs):=by
   rw[hline,List.map_append];exact hown4.row
  obtain⟨k1,k2⟩:=zeW (C:=C) (m:=(u:Int)) (o:=o) (x:=(xi,xb)) hCT
  have hpl:pre.length<C.length:=by
   have:=congrArg List.length hxs
   rw[zb2,List.length_append,List.length_cons]at this
   omega
  have hfl:=zcQ (m:=(u:Int)) (o:=o) hCT pre
  have hm4:400000000*pre.length≤400000000*100:=Nat.mul_le_mul_left _ (by omega)
  refine Fn.mono (File1_U hrow4 (by omega) (by omega) (hBU2.ext hE24) (fun i hi=>by constructor<;>omega) (by rw[List.length_append];omega)) ?_
  rintro _ y5 ⟨hB5',hk5⟩
  refine⟨.inl rfl,?_⟩
  simp (disch:=first|omega|assumption|rfl) only[go_sem]
  refine hK _ _ ?_;clear hK hgd;clear K;try clear gd
  refine go trivial ?_
  refine⟨⟨(hk42.trans (hE24.mono fun _ _ h=>h.elim)).trans (hk5.mono fun i _ hi=>by omega),?_⟩,(hE24.toB (by omega) (fun _ _ h=>h.elim)).trans (hk5.toB (by omega) (fun j hj h=>by omega))⟩
  rw[List.flatMap_append,List.flatMap_singleton,←List.append_assoc]
  exact hB5'
 ·intro A hszA ⟨hkA,hBA⟩ hD
  have hfl:=zcQ (m:=(u:Int)) (o:=o) hCT (za9 C)
  rw[zb2]at hfl
  have hm4:400000000*C.length≤400000000*100:=Nat.mul_le_mul_left _ (by omega)
  refine go trivial ?_
  refine rq ?_;intro gd K hgd hK
  try simp only[go_sem]
  refine Fn.mono (String_U hBA (by rw[List.length_append];omega)) ?_
  rintro _ z2 ⟨rfl,hkz⟩
  try simp only[go_sem]
  refine hK _ _ ?_;clear hK hgd;clear K;try clear gd
  refine go trivial ?_
  refine zdb (v:=vs (zeZ (u:Int) o++(za9 C).flatMap (zgw C (u:Int) o))) (.inr rfl) (by rfl) Tryz.ntmps17 (vr0) ((hkz.block _ (by omega) (by omega)).trans hD) ?_
  intro Z hkZ hsZ
  exact⟨by rw[hu],Keep.to_ext (Keep.to_ext (Keep.to_ext hE4' rfl (fun b hb=>by omega) hkA) rfl (fun b hb=>by omega) hkz) rfl (fun b hb=>by omega) hkZ⟩
set_option maxRecDepth 100000
theorem bsL_at{P:Program}{w:World}{K:Value→World→Prop}{t e:TypeId}{n:Nat}{parts:List (Nat×Value)}{arr:Array Value}(h:bsC P t n parts=some (e,arr))
  (hk:∀w1,Ext w w1→w1.heap.size=w.heap.size+1→w1.heap[w.heap.size]? =some (.cells arr e (0,0))→K (.slice (some ⟨w.heap.size,0,Option.none⟩) n n) w1):bsL P t n parts w K .mk:=by
 unfold bsL bsK
 rw[h]
 exact hk _ (Ext.alloc w _) (zap w _) (zai w _)
theorem zgu(w:World):NamesAt w (.slice Option.none 0 0) []:=⟨[],(Own.nil 0 w 0).row,rfl,fun i h=>absurd h (by simp)⟩
theorem zht{w:World}{nv sv:Value}{n:Nm}(h1:Row w sv [nv])(h2:Row w nv (n.map vs)):NamesAt w sv [n]:=⟨[nv],h1,rfl,fun i h h'=>by
 have h0:i=0:=by simp at h;omega
 subst h0
 exact h2⟩
def kNm:Nm:=[[97],[111]]
def kRa:RecL:=⟨kNm,60,⟨1,[],[],[],[1,2,3,4]⟩⟩
def kRb:RecL:=⟨kNm,60,⟨2,[[[120]]],[],[],[]⟩⟩
theorem kRa_T:RecT kRa:=⟨by decide,by decide,by decide,⟨⟨by decide,by decide,by decide,by decide,by decide,by decide,by decide⟩,by decide⟩⟩
theorem kRb_T:RecT kRb:=⟨by decide,by decide,by decide,⟨⟨by decide,by decide,by decide,by decide,by decide,by decide,by decide⟩,by decide⟩⟩
theorem kRa_ok:zc6 kRa:=⟨by unfold LB;decide,by decide,⟨by unfold LB;decide,by decide,by decide,by decide,by decide,by decide⟩⟩
theorem kRb_ok:zc6 kRb:=⟨by unfold LB;decide,by decide,⟨by unfold LB;decide,by decide,by decide,by decide,by decide,by decide⟩⟩
theorem k_all{Q:RecL→Prop}(h1:Q kRa)(h2:Q kRb):∀r∈ [kRa,kRb],Q r:=fun r hr=>by
 simp only[List.mem_cons,List.not_mem_nil,or_false]at hr
 rcases hr with rfl|rfl
 ·exact h1
 ·exact h2
theorem k_file:fileT [kRa,kRb] [[111]]=[36,79,82,73,71,73,78,32,111,46,10,36,84,84,76,32,54,48,10,97,32,73,78,32,65,32,49,46,50,46,51,46,52,10,32,73,78,32,78,83,32,120,46,10]:=by decide+kernel
theorem k_sh1:zbl kNm kNm=[64]:=by decide+kernel
theorem k_sh2:zbl kNm [[113]]=[97,46,111,46]:=by decide+kernel
theorem k_lin:zd5 [kRa]=[97,46,111,46,32,54,48,32,73,78,32,65,32,49,46,50,46,51,46,52,10]:=by decide+kernel
theorem zgT{w0:World}(hW:WY w0):Fn Tryz.prog 13 #[] w0 (fun v w'=>v= .bool true∧Ext w0 w'):=by
 refine enter Tryz.func13 Tryz.ntmps13 rfl rfl ?_
 refine go trivial ?_
 refine rq ?_;intro gd K hgd hK
 try simp only[go_sem]
 refine za6 (z:=vs []) (l:=[vs [97],vs [111]]) rfl rfl rfl rfl rfl rfl (fun v hv=>by simp at hv;rcases hv with rfl|rfl<;>rfl) (by simp) ?_
 intro x1 e1 s1 o1
 obtain⟨c1,hc1⟩:∃c,w0.heap.size=c:=⟨_,rfl⟩
 rw[hc1]at o1 ⊢
 have r1:Row x1 (.slice (some ⟨c1,0,Option.none⟩) 2 2) (kNm.map vs):=o1.row
 try simp only[go_sem]
 refine hK _ _ ?_;clear hK hgd;clear K;try clear gd
 refine go trivial ?_
 refine rq ?_;intro gd K hgd hK
 try simp only[go_sem]
 refine za6 (z:= .int .u8 0) (l:=[.int .u8 1,.int .u8 2,.int .u8 3,.int .u8 4]) rfl rfl rfl rfl rfl rfl (fun v hv=>by simp at hv;rcases hv with rfl|rfl|rfl|rfl<;>rfl) (by simp) ?_
 intro x2 e2 s2 o2
 obtain⟨c2,hc2⟩:∃c,x1.heap.size=c:=⟨_,rfl⟩
 rw[hc2]at o2 ⊢
 have r2:Row x2 (.slice (some ⟨c2,0,Option.none⟩) 4 4) (([1,2,3,4]:List UInt8).map zaj):=o2.row
 try simp only[go_sem]
 refine⟨by kernel_rfl,?_⟩
 rw[show bdV Tryz.prog 33 [(0,vi 1),(4,.slice (some ⟨c2,0,Option.none⟩) 4 4)]=some (.agg #[vi 1,.slice Option.none 0 0,.slice Option.none 0 0,.slice Option.none 0 0,.slice (some ⟨c2,0,Option.none⟩) 4 4]) from by kernel_rfl]
 try simp only[go_sem]
 refine⟨by kernel_rfl,?_⟩
 rw[show bdV Tryz.prog 35 [(0,.slice (some ⟨c1,0,Option.none⟩) 2 2),(1,v32 60),(2,.agg #[vi 1,.slice Option.none 0 0,.slice Option.none 0 0,.slice Option.none 0 0,.slice (some ⟨c2,0,Option.none⟩) 4 4])]=some (.agg #[.slice (some ⟨c1,0,Option.none⟩) 2 2,v32 60,vi 1,.slice Option.none 0 0,.slice Option.none 0 0,.slice Option.none 0 0,.slice (some ⟨c2,0,Option.none⟩) 4 4]) from by kernel_rfl]
 try simp only[go_sem]
 refine za6 (z:=vs []) (l:=[vs [120]]) rfl rfl rfl rfl rfl rfl (fun v hv=>by simp at hv;rcases hv with rfl;rfl) (by simp) ?_
 intro x3 e3 s3 o3
 obtain⟨c3,hc3⟩:∃c,x2.heap.size=c:=⟨_,rfl⟩
 rw[hc3]at o3 ⊢
 have r3:Row x3 (.slice (some ⟨c3,0,Option.none⟩) 1 1) (([[120]]:Nm).map vs):=o3.row
 try simp only[go_sem]
 refine za6 (z:= .slice Option.none 0 0) (l:=[.slice (some ⟨c3,0,Option.none⟩) 1 1]) rfl rfl rfl rfl rfl rfl (fun v hv=>by simp at hv;subst hv;rfl) (by simp) ?_
 intro x4 e4 s4 o4
 obtain⟨c4,hc4⟩:∃c,x3.heap.size=c:=⟨_,rfl⟩
 rw[hc4]at o4 ⊢
 have r4:=o4.row
 try simp only[go_sem]
 refine⟨by kernel_rfl,?_⟩
 rw[show bdV Tryz.prog 33 [(0,vi 2),(1,.slice (some ⟨c4,0,Option.none⟩) 1 1)]=some (.agg #[vi 2,.slice (some ⟨c4,0,Option.none⟩) 1 1,.slice Option.none 0 0,.slice Option.none 0 0,.slice Option.none 0 0]) from by kernel_rfl]
 try simp only[go_sem]
 refine⟨by kernel_rfl,?_⟩
 rw[show bdV Tryz.prog 35 [(0,.slice (some ⟨c1,0,Option.none⟩) 2 2),(1,v32 60),(2,.agg #[vi 2,.slice (some ⟨c4,0,Option.none⟩) 1 1,.slice Option.none 0 0,.slice Option.none 0 0,.slice Option.none 0 0])]=some (.agg #[.slice (some ⟨c1,0,Option.none⟩) 2 2,v32 60,vi 2,.slice (some ⟨c4,0,Option.none⟩) 1 1,.slice Option.none 0 0,.slice Option.none 0 0,.slice Option.none 0 0]) from by kernel_rfl]
 try simp only[go_sem]
 refine bsL_at (e:=35) (arr:=#[.slice (some ⟨c1,0,Option.none⟩) 2 2,v32 60,vi 1,.slice Option.none 0 0,.slice Option.none 0 0,.slice Option.none 0 0,.slice (some ⟨c2,0,Option.none⟩) 4 4,.slice (some ⟨c1,0,Option.none⟩) 2 2,v32 60,vi 2,.slice (some ⟨c4,0,Option.none⟩) 1 1,.slice Option.none 0 0,.slice Option.none 0 0,.slice Option.none 0 0]) (by kernel_rfl) ?_
 intro x5 e5 s5 b5
 obtain⟨c5,hc5⟩:∃c,x4.heap.size=c:=⟨_,rfl⟩
 rw[hc5]at b5 ⊢
 try simp only[go_sem]
 refine hK _ _ ?_;clear hK hgd;clear K;try clear gd
 have hE5:=(((e1.trans e2).trans e3).trans e4).trans e5
 have hn5:=r1.ext (((e2.trans e3).trans e4).trans e5)
 have hrows:Rows 7 (RecAt x5) x5 (.slice (some ⟨c5,0,Option.none⟩) [kRa,kRb].length 2) [kRa,kRb]:=by
  refine Rows.close (by decide) (fun i hi=>?_)
  have hi2:i=0∨i=1:=by
   have h2:i<2:=hi
   omega
  rcases hi2 with rfl|rfl
  ·refine⟨_,by rw[za8];exact zal b5 (Nat.le_of_ble_eq_true rfl),⟨_,_,rfl,hn5,⟨_,_,_,_,rfl,zgu _,(Own.nil 0 _ 0).row,(Own.nil 0 _ 0).row,r2.ext ((e3.trans e4).trans e5)⟩⟩⟩
  ·refine⟨_,by rw[za8];exact zal b5 (Nat.le_of_ble_eq_true rfl),⟨_,_,rfl,hn5,⟨_,_,_,_,rfl,zht (r4.ext e5) (r3.ext (e4.trans e5)),(Own.nil 0 _ 0).row,(Own.nil 0 _ 0).row,(Own.nil 0 _ 0).row⟩⟩⟩
 refine go trivial ?_
 refine rq ?_;intro gd K hgd hK
 have hg4:∀n σ b,zaQ gd n σ (some (4,b))=zaC (ev n σ (.tmp 18)) b:=(fun n σ b=>by rw[zah,show gd 4=some 18 from(by rw[hgd];rfl)];rfl);have hg10:∀n σ b,zaQ gd n σ (some (10,b))=zaC (ev n σ (.tmp 24)) b:=(fun n σ b=>by rw[zah,show gd 10=some 24 from(by rw[hgd];rfl)];rfl);have hg16:∀n σ b,zaQ gd n σ (some (16,b))=zaC (ev n σ (.tmp 30)) b:=(fun n σ b=>by rw[zah,show gd 16=some 30 from(by rw[hgd];rfl)];rfl)
 try simp (disch:=first|omega|assumption|rfl) only[go_sem,↓hg4,↓hg10,↓hg16]
 refine za6 (z:=vs []) (l:=[vs [111]]) rfl rfl rfl rfl rfl rfl (fun v hv=>by simp at hv;rcases hv with rfl;rfl) (by simp) ?_
 intro x6 e6 s6 o6
 try simp (disch:=first|omega|assumption|rfl) only[go_sem,↓hg4,↓hg10,↓hg16]
 have hW6:=(hW.ext hE5).ext e6
 refine Fn.mono (File_ok (o:=[[111]]) hW6 ((hrows.ext e6).to fun cs a h=>h.ext e6) (k_all kRa_T kRb_T) (k_all kRa_ok kRb_ok) (by decide) o6.row ⟨by decide,by decide⟩) ?_
 rintro _ x7 ⟨rfl,e7⟩
 rw[k_file]
 have d1:decide (([36,79,82,73,71,73,78,32,111,46,10,36,84,84,76,32,54,48,10,97,32,73,78,32,65,32,49,46,50,46,51,46,52,10,32,73,78,32,78,83,32,120,46,10]:Lab)=[36,79,82,73,71,73,78,32,111,46,10,36,84,84,76,32,54,48,10,97,32,73,78,32,65,32,49,46,50,46,51,46,52,10,32,73,78,32,78,83,32,120,46,10])=true:=decide_eq_true rfl
 try simp (disch:=first|omega|assumption|rfl) only[go_sem,d1,↓hg4,↓hg10,↓hg16]
 have hn7:=(hn5.ext e6).ext e7
 refine Fn.mono (zdk (n:=kNm) (o:=kNm) hn7 hn7 ⟨by decide,by decide⟩ ⟨by decide,by decide⟩) ?_
 rintro _ x8 ⟨rfl,e8⟩
 rw[k_sh1]
 have d2:decide (([64]:Lab)=[64])=true:=decide_eq_true rfl
 try simp (disch:=first|omega|assumption|rfl) only[go_sem,d2,↓hg4,↓hg10,↓hg16]
 refine za6 (z:=vs []) (l:=[vs [113]]) rfl rfl rfl rfl rfl rfl (fun v hv=>by simp at hv;rcases hv with rfl;rfl) (by simp) ?_
 intro x9 e9 s9 o9
 try simp (disch:=first|omega|assumption|rfl) only[go_sem,↓hg4,↓hg10,↓hg16]
 refine Fn.mono (zdk (n:=kNm) (o:=[[113]]) ((hn7.ext e8).ext e9) o9.row ⟨by decide,by decide⟩ ⟨by decide,by decide⟩) ?_
 rintro _ y1 ⟨rfl,f1⟩
 rw[k_sh2]
 have d3:decide (([97,46,111,46]:Lab)=[97,46,111,46])=true:=decide_eq_true rfl
 have hE57:=(((e6.trans e7).trans e8).trans e9).trans f1
 try simp (disch:=first|omega|assumption|rfl) only[go_sem,d3,za7,↓hg4,↓hg10,↓hg16]
 refine Fn.mono (Lines_ok (R:=[kRa]) (hW.ext (hE5.trans hE57)) (((hrows.take (m:=1) (c2:=2) (by decide) (by decide)).ext hE57).to fun cs a h=>h.ext hE57) (fun r hr=>by rw[List.mem_singleton.1 hr];exact kRa_T) (by decide)) ?_
 rintro _ y2 ⟨rfl,f2⟩
 rw[k_lin]
 have d4:decide (([97,46,111,46,32,54,48,32,73,78,32,65,32,49,46,50,46,51,46,52,10]:Lab)=[97,46,111,46,32,54,48,32,73,78,32,65,32,49,46,50,46,51,46,52,10])=true:=decide_eq_true rfl
 try simp (disch:=first|omega|assumption|rfl) only[go_sem,d4,↓hg4,↓hg10,↓hg16]
 refine hK _ _ ?_;clear hK hgd;clear K;try clear gd
 refine go trivial ?_
 refine rt0 Tryz.ntmps13 ?_
 exact⟨rfl,(hE5.trans hE57).trans f2⟩
set_option maxRecDepth 10000
section
variable {α : Type} {cf : α → α → Int} {jn : α → α → α}
end
theorem RecAt.ttl{w:World}{cs:List Value}{r:RecL}(h:RecAt w cs r):cs[1]? =some (v32 r.ttl):=by
 obtain⟨ow,ds,rfl,_⟩:=h.ex
 rfl
theorem RecAt.cells{w0:World}{cs:List Value}{r:RecL}(h:RecAt w0 cs r):∃ow ds,cs=[ow,v32 r.ttl]++ds∧Row w0 ow (r.owner.map vs)∧DatAt w0 ds r.dat∧cs[0]? =some ow∧cs[1]? =some (v32 r.ttl)∧cs[2]? =some (vi r.dat.ty)∧cs.drop 2=ds:=by
 obtain⟨ow,ds,rfl,h1,h2⟩:=h.ex
 obtain⟨nm,nu,tx,rw',rfl,_⟩:=h2.ex
 exact⟨ow,_,rfl,h1,h2,rfl,rfl,rfl,rfl⟩
theorem zil{w:World}{v:Value}{n:Nm}(hr:Row w v (n.map vs))(hlen:n.length≤1000000000000):
  Fn Tryz.prog 66 #[v] w (fun u w'=>Own w.heap.size w' 9 u (n.map vs)∧Ext w w'):=by
 have hr':=hr
 obtain⟨a,c,rfl,hc,hl⟩:=hr
 refine enter Tryz.func66 Tryz.ntmps66 rfl rfl ?_
 repeat refine c_r ?_
 refine rg0 ?_
 repeat refine c_r ?_
 refine rq ?_;intro gd K hgd hK
 try simp only[go_sem]
 refine zhT (by rfl) (by rfl) (by rfl) ?_
 try simp only[go_sem]
 refine hK _ _ ?_;clear hK hgd;clear K;try clear gd
 repeat refine c_r ?_
 cases a with
 |none=>
  have:n=[]:=by
   cases n with
   |nil=>rfl
   |cons x L=>have:=hl 0 (by simp);simp[zae,adr]at this
  subst this
  refine wc0 ?_ ?_
  ·intro _
   repeat refine c_r ?_
   refine rg0 ?_
   repeat refine c_r ?_
   refine rt0 Tryz.ntmps66 ?_
   exact⟨Own.nil _ _ _,Keep.refl _ _⟩
  ·intro h;cases h
 |some a=>
  refine wc0 ?_ ?_
  ·intro h;cases h
  intro _
  repeat refine c_r ?_
  refine rq ?_;intro gd K hgd hK
  try simp only[go_sem]
  refine zf9 (z:=vs []) (by rfl) (by rfl) (by rfl) (by rfl) ?_
  intro w1 hE1 hs1 ho1
  try simp only[go_sem]
  refine za1 (B:=w.heap.size) ho1 (hr'.ext hE1) (by rfl) (by rfl) (by rfl) (by rfl) (by rfl) (by rfl) (by rfl) (by rfl) (ones_vs _) (by simp;omega) (by decide) (by omega) ?_
  intro v' w2 ho2 hE2 _ _
  try simp only[go_sem]
  refine hK _ _ ?_;clear hK hgd;clear K;try clear gd
  repeat refine c_r ?_
  refine rt0 Tryz.ntmps66 ?_
  exact⟨by simpa using ho2,hE2 w hE1 (Nat.le_refl _)⟩
theorem findL_at{α:Type}{p:α→Bool}{l pre suf:List α}{x:α}(h:l=pre++x::suf)(hp:∀y∈pre,p y=false)(hx:p x=true):l.find? p=some x:=by
 rw[h,List.find?_append]
 have:pre.find? p=Option.none:=by
  rw[List.find?_eq_none]
  intro y hy
  rw[hp y hy];exact Bool.false_ne_true
 rw[this]
 simp[hx]
theorem zgC{α:Type}{p:α→Bool}{l:List α}(hp:∀y∈l,p y=false):l.find? p=Option.none:=by
 rw[List.find?_eq_none]
 intro y hy
 rw[hp y hy];exact Bool.false_ne_true
def errL(l:Lab):Int:=if l=[] then 8 else if 63<l.length then 3 else 0
def lenN(n:Nm):Nat:=1+(n.map fun l=>1+l.length).sum
def zaP(n:Nm):Int:=match n.find? (fun l=>decide (errL l≠0)) with
 |some l=>errL l
 |Option.none=>if 255<lenN n then 3 else 0
theorem zff(w:World)(l:Lab)(hl:l.length≤9000000000000000000):Fn Tryz.prog 129 #[vs l] w (fun v w'=>v=vi (errL l)∧Ext w w'):=by
 refine enter Tryz.func129 Tryz.ntmps129 rfl rfl ?_
 repeat refine c_r ?_
 refine rg0 ?_
 repeat refine c_r ?_
 refine rg0 ?_
 repeat refine c_r ?_
 refine wc0 ?_ ?_
 ·intro h
  simp only[decide_eq_true_eq]at h
  repeat (first|refine c_r ?_|refine rg0 ?_)
  refine rt0 Tryz.ntmps129 ?_
  exact⟨by unfold errL;rw[if_pos h],Keep.refl _ _⟩
 intro h
 simp only[decide_eq_false_iff_not]at h
 repeat refine c_r ?_
 refine rg0 ?_
 repeat refine c_r ?_
 refine wc0 ?_ ?_
 ·intro h2
  simp only[decide_eq_true_eq]at h2
  repeat (first|refine c_r ?_|refine rg0 ?_)
  refine rt0 Tryz.ntmps129 ?_
  exact⟨by unfold errL;rw[if_neg h,if_pos (by omega)],Keep.refl _ _⟩
 ·intro h2
  simp only[decide_eq_false_iff_not]at h2
  repeat (first|refine c_r ?_|refine rg0 ?_)
  refine rt0 Tryz.ntmps129 ?_
  exact⟨by unfold errL;rw[if_neg h,if_neg (by omega)],Keep.refl _ _⟩
theorem zdZ(w:World)(l:Lab)(hl:l.length≤9000000000000000000):Fn Tryz.prog 114 #[vs l] w (fun v w'=>v=vi (errL l)∧Ext w w'):=by
 refine enter Tryz.func114 Tryz.ntmps114 rfl rfl ?_
 repeat refine c_r ?_
 refine rg0 ?_
 repeat refine c_r ?_
 refine rg0 ?_
 repeat refine c_r ?_
 refine wc0 ?_ ?_
 ·intro h
  simp only[decide_eq_true_eq]at h
  repeat (first|refine c_r ?_|refine rg0 ?_)
  refine rt0 Tryz.ntmps114 ?_
  exact⟨by unfold errL;rw[if_pos h],Keep.refl _ _⟩
 intro h
 simp only[decide_eq_false_iff_not]at h
 repeat refine c_r ?_
 refine rg0 ?_
 repeat refine c_r ?_
 refine wc0 ?_ ?_
 ·intro h2
  simp only[decide_eq_true_eq]at h2
  repeat (first|refine c_r ?_|refine rg0 ?_)
  refine rt0 Tryz.ntmps114 ?_
  exact⟨by unfold errL;rw[if_neg h,if_pos (by omega)],Keep.refl _ _⟩
 ·intro h2
  simp only[decide_eq_false_iff_not]at h2
  repeat (first|refine c_r ?_|refine rg0 ?_)
  refine rt0 Tryz.ntmps114 ?_
  exact⟨by unfold errL;rw[if_neg h,if_neg (by omega)],Keep.refl _ _⟩
theorem sum_take{n:Nm}{i:Nat}(hi:i<n.length)(f:Lab→Nat):((n.take (i+1)).map f).sum=((n.take i).map f).sum+f n[i]:=by
 rw[zag hi,List.map_append,List.sum_append,List.map_cons,List.map_nil,List.sum_cons,List.sum_nil,Nat.add_zero]
theorem zdr:∀(k:Nm),(∀l∈k,l.length≤1000000000)→(k.map fun l=>1+l.length).sum≤1000000001*k.length
 | [],_=>by simp
 |x::k,h=>by
  have h3:=zdr k (fun l hl=>h l (List.mem_cons_of_mem _ hl))
  have h4:=h x (List.mem_cons_self ..)
  rw[List.map_cons,List.sum_cons,List.length_cons];omega
theorem RLen_ok(w:World)(nv:Value)(n:Nm)(hn:Row w nv (n.map vs))(hl:∀l∈n,l.length≤1000000000)(hnl:n.length≤1000000000):
  Fn Tryz.prog 115 #[nv] w (fun v w'=>v=vi (lenN n)∧Ext w w'):=by
 obtain⟨an,cn,rfl,hcn,hgn⟩:=hn
 simp only[List.length_map]at hcn hgn
 rw[List.length_map]
 refine enter Tryz.func115 Tryz.ntmps115 rfl rfl ?_
 repeat refine c_r ?_
 refine rg0 ?_
 repeat refine c_r ?_
 refine rg0 ?_
 repeat refine c_r ?_
 refine rg0 ?_
 repeat refine c_r ?_
 refine zay (fun m σ ds A=>ds=[]∧∃(i:Nat),i+m=n.length∧σ 4=vi i∧σ 0= .slice an n.length cn∧σ 3=vi (lenN (n.take i))∧Ext w A) n.length ?_ ?_
 ·exact⟨rfl,0,by omega,vr0,vq0,vr0,Keep.refl _ _⟩
 rintro m σ ds A ⟨rfl,i,him,h4,h0,h3,hEA⟩
 repeat refine c_r ?_
 refine rg2 h4 h0 ?_
 repeat refine c_r ?_
 refine wc0 ?_ ?_
 ·intro hlt
  simp only[decide_eq_true_eq]at hlt
  have hi:i<n.length:=by omega
  have hi0:(0:Int)≤(i:Int):=by omega
  have hi1:(i:Int)<(n.length:Int):=by omega
  have hi1':(i:Int)+1=((i+1:Nat):Int):=by push_cast;rfl
  have hg:=zaa hEA (hgn i (by simpa using hi))
  rw[List.getElem_map]at hg
  obtain⟨xn,rfl⟩:=Option.isSome_iff_exists.1 (zad hg)
  have hb:=zdr (n.take i) (fun l hl'=>hl l (List.mem_of_mem_take hl'))
  rw[List.length_take]at hb
  have hb2:=hl n[i] (List.getElem_mem hi)
  have hs:((n.take (i+1)).map fun l=>1+l.length).sum=((n.take i).map fun l=>1+l.length).sum+(1+n[i].length):=sum_take hi _
  have hlen:((lenN (n.take i):Nat):Int)+1+((n[i]).length:Int)=((lenN (n.take (i+1)):Nat):Int):=by unfold lenN;rw[hs];omega
  have hln:lenN (n.take i)≤2000000000000000000:=by
   unfold lenN
   have:min i n.length≤1000000000:=by omega
   omega
  repeat refine c_r ?_
  refine rg7 h0 h3 h4 hi0 hi1 hg hlen ?_
  repeat refine c_r ?_
  refine rg2 h4 hi1' ?_
  repeat refine c_r ?_
  exact⟨m - 1,by omega,rfl,i+1,by omega,vq0,(vq1 h0),vq0,hEA⟩
 ·intro hge
  simp only[decide_eq_false_iff_not]at hge
  rw[List.take_of_length_le (by omega)]at h3
  repeat refine c_r ?_
  refine rg1 h3 ?_
  repeat refine c_r ?_
  refine rt1 h3 Tryz.ntmps115 ?_
  exact⟨rfl,hEA⟩
end Go.Proofs.YtanmnkbccfcagaaGreatDoor
