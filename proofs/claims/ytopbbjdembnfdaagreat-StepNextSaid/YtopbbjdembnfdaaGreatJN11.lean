/-
  Texts of a proof, joined: V7, V8, V9, VA, Y6, VB, VC, W3, W4, K29, W5, W6, W7.
  Conditions: none.
-/
import Derived.Test.YtopbbjdembnfdaaGreatJN10
set_option linter.unusedVariables false
set_option linter.unusedSimpArgs false
set_option linter.defProp false
set_option linter.unnecessarySimpa false
namespace Go.Proofs.YtopbbjdembnfdaaGreat
open Go
set_option maxRecDepth 10000
def sameS(a b:zax):Bool:=decide (zaq a.name=zaq b.name) && (decide (a.sv=b.sv) && (decide (a.rw=b.rw) && (decide (a.rf=b.rf) && ((a.ref==b.ref) && decide (a.fin=b.fin)))))
set_option maxHeartbeats 1000000 in
theorem zja(w:World){ca cb:List Value}{a b:zax}(ha:StC w ca a)(hb:StC w cb b)(ma:LB a.name)(mb:LB b.name)(la:a.name.length≤1000000000000000)(lb:b.name.length≤1000000000000000):
  Fn Tryz.prog 42 #[.agg ca.toArray,.agg cb.toArray] w (fun v w'=>v= .bool (sameS a b)∧Ext w w'):=by
 obtain⟨na,rfl,h1⟩:=ha.ex
 obtain⟨nb,rfl,h2⟩:=hb.ex
 obtain⟨a1,c1,hna,_⟩:=id h1
 obtain⟨a2,c2,hnb,_⟩:=id h2
 unfold stV
 rw[hna,hnb]
 refine enter Tryz.func42 Tryz.ntmps42 rfl rfl ?_
 repeat refine c_r ?_
 refine rg0 ?_
 rw[←hna,←hnb]
 repeat refine c_r ?_
 rw[zam]
 refine zaH ?_
 intro w1 hE1 hs1 hA hB
 have pa:zaf w1 (some ⟨w.heap.size,1,Option.none⟩)=some na:=zac hA rfl
 have pb:zaf w1 (some ⟨w.heap.size+1,1,Option.none⟩)=some nb:=zac hB rfl
 repeat refine c_r ?_
 refine rc (an3 pa pb Nat.zero_add) (zdJ w1 na nb a.name b.name (h1.ext hE1) (h2.ext hE1) ma mb (by omega) (by omega)) ?_
 rintro _ w2 ⟨rfl,hE2⟩
 refine re trivial ?_
 have hs2:=hE2.size
 repeat refine c_r ?_
 refine rq ?_;intro gd K hgd hK
 try simp only[go_sem]
 refine zaV (P:=Tryz.prog) (t:=23) (j:=1) (u:= .slice Option.none 0 0) (l:=stV na a) (Ext.at hE2 hA) (by show 1<6;decide) rfl rfl rfl ?_
 intro w3 hs3 hA3 hk3
 try simp only[go_sem]
 refine zaV (P:=Tryz.prog) (t:=23) (j:=1) (u:= .slice Option.none 0 0) (l:=stV nb b) ((hk3.block _ (by omega) (by omega)).trans (Ext.at hE2 hB)) (by show 1<6;decide) rfl rfl rfl ?_
 intro w4 hs4 hB4 hk4
 try simp only[go_sem]
 refine hK _ _ ?_;clear hK hgd;clear K;try clear gd
 have hA4:=(hk4.block _ (by omega) (by omega)).trans hA3
 have hE4:Ext w w4:=Keep.to_ext (Keep.to_ext (hE1.trans hE2) rfl (fun b hb=>by omega) hk3) rfl (fun b hb=>by omega) hk4
 have a0:zaf w4 (some ⟨w.heap.size,0,Option.none⟩)=some (vi a.sv):=zac hA4 rfl
 have a2':zaf w4 (some ⟨w.heap.size,2,Option.none⟩)=some (vi a.rw):=zac hA4 rfl
 have a3:zaf w4 (some ⟨w.heap.size,3,Option.none⟩)=some (vi a.rf):=zac hA4 rfl
 have a4:zaf w4 (some ⟨w.heap.size,4,Option.none⟩)=some (.bool a.ref):=zac hA4 rfl
 have a5:zaf w4 (some ⟨w.heap.size,5,Option.none⟩)=some (vi a.fin):=zac hA4 rfl
 have b0:zaf w4 (some ⟨w.heap.size+1,0,Option.none⟩)=some (vi b.sv):=zac hB4 rfl
 have b2:zaf w4 (some ⟨w.heap.size+1,2,Option.none⟩)=some (vi b.rw):=zac hB4 rfl
 have b3:zaf w4 (some ⟨w.heap.size+1,3,Option.none⟩)=some (vi b.rf):=zac hB4 rfl
 have b4:zaf w4 (some ⟨w.heap.size+1,4,Option.none⟩)=some (.bool b.ref):=zac hB4 rfl
 have b5:zaf w4 (some ⟨w.heap.size+1,5,Option.none⟩)=some (vi b.fin):=zac hB4 rfl
 unfold sameS
 obtain⟨x0,k0⟩:∃x,decide (zaq a.name=zaq b.name)=x:=⟨_,rfl⟩
 obtain⟨x1,k1⟩:∃x,decide (a.sv=b.sv)=x:=⟨_,rfl⟩
 obtain⟨x2,k2⟩:∃x,decide (a.rw=b.rw)=x:=⟨_,rfl⟩
 obtain⟨x3,k3⟩:∃x,decide (a.rf=b.rf)=x:=⟨_,rfl⟩
 obtain⟨x4,k4⟩:∃x,(a.ref==b.ref)=x:=⟨_,rfl⟩
 obtain⟨x5,k5⟩:∃x,decide (a.fin=b.fin)=x:=⟨_,rfl⟩
 rw[k0,k1,k2,k3,k4,k5]
 repeat refine c_r ?_
 refine zaC (Q:=fun e σ' ds' v'=>e= .normal∧ds'=[]∧v'=w4∧σ' 4= .bool (x0 && (x1 && (x2 && (x3 && (x4 && x5)))))) ?_ ?_
 ·cases x0
  ·refine rgg [(1,14),(8,21),(15,28),(22,35),(29,42)] trivial ?_
   exact⟨rfl,rfl,rfl,vr0⟩
  cases x1
  ·refine rgg [(1,14),(8,21),(15,28),(22,35),(29,42)] (an4 a0 b0 k1 Nat.add_zero) ?_
   exact⟨rfl,rfl,rfl,vr0⟩
  cases x2
  ·refine rgg [(1,14),(8,21),(15,28),(22,35),(29,42)] (an8 a0 b0 k1 Nat.add_zero a2' b2 k2 Nat.zero_add) ?_
   exact⟨rfl,rfl,rfl,vr0⟩
  cases x3
  ·refine rgg [(1,14),(8,21),(15,28),(22,35),(29,42)] (an4 (an8 a0 b0 k1 Nat.add_zero a2' b2 k2 Nat.zero_add) a3 b3 k3) ?_
   exact⟨rfl,rfl,rfl,vr0⟩
  cases x4
  ·refine rgg [(1,14),(8,21),(15,28),(22,35),(29,42)] (an7 (an8 a0 b0 k1 Nat.add_zero a2' b2 k2 Nat.zero_add) a3 b3 k3 a4 b4 k4) ?_
   exact⟨rfl,rfl,rfl,vr0⟩
  ·refine rgg [(1,14),(8,21),(15,28),(22,35),(29,42)] (an2 (an7 (an8 a0 b0 k1 Nat.add_zero a2' b2 k2 Nat.zero_add) a3 b3 k3 a4 b4 k4) (an3 a5 b5 k5)) ?_
   exact⟨rfl,rfl,rfl,vr0⟩
 rintro _ σ1 _ w5 ⟨rfl,rfl,rfl,h4⟩
 repeat refine c_r ?_
 refine rt1 h4 Tryz.ntmps42 ?_
 exact⟨rfl,hE4⟩
def zcf(to:Nm):List (Nm×List DatL)→List DatL
 | []=>[]
 |g::l=>if zaq g.1=zaq to then g.2 else zcf to l
theorem zhj{to:Nm}:∀{l:List (Nm×List DatL)},zcf to l=[]∨∃g∈l,zcf to l=g.2
 | []=> .inl rfl
 |g::l=>by
  unfold zcf
  split
  ·exact .inr ⟨g,List.mem_cons_self ..,rfl⟩
  ·rcases zhj (to:=to) (l:=l) with h| ⟨x,hx,h⟩
   ·exact .inl h
   ·exact .inr ⟨x,List.mem_cons_of_mem _ hx,h⟩
set_option maxHeartbeats 1000000 in
theorem Hints_ok{w0 w:World}(hE0:Ext w0 w){cs:List Value}{r:ResL}{hv:Value}{to:Nm}(hr:ResAt w0 w cs r)(kr:zjM r)(hh:Row w hv (to.map vs))(mh:NmS to):
  Fn Tryz.prog 196 #[.agg cs.toArray,hv] w (fun v w'=>Ext w w'∧Rows 5 (DatAt w0) w' v (zcf to r.glue)):=by
 obtain⟨dv,nv,gv,rfl,h1,h2,h3⟩:=hr.ex
 obtain⟨a1,c1,hdv,_⟩:=h1.open
 obtain⟨a2,c2,hnv,_⟩:=id h2
 obtain⟨ag,cg,rfl,hcg,hgg⟩:=h3.open
 have gl:=kr.gl
 have ml:=mh.len
 refine enter Tryz.func196 Tryz.ntmps196 rfl rfl ?_
 repeat refine c_r ?_
 rw[hdv,hnv]
 refine rg0 ?_
 rw[←hdv,←hnv]
 repeat refine c_r ?_
 refine zaA ?_
 intro w1 hE1 hs1 hA
 have p4:zaf w1 (some ⟨w.heap.size,4,Option.none⟩)=some (.slice ag r.glue.length cg):=zac hA rfl
 repeat refine c_r ?_
 refine rg2 p4 Nat.zero_add ?_
 repeat refine c_r ?_
 refine zap (fun m σ ds A=>ds=[]∧∃(i:Nat),i+m=r.glue.length∧σ 10=vi i∧σ 9=vi r.glue.length∧σ 8= .slice ag r.glue.length cg∧σ 1=hv∧zcf to r.glue=zcf to (r.glue.drop i)∧Ext w A) r.glue.length ?_ ?_
 ·exact⟨rfl,0,by omega,vr0,vq0,vq0,vq0,rfl,hE1⟩
 rintro m σ ds A ⟨rfl,i,him,s10,s9,s8,s1,hgo,hEA⟩
 repeat refine c_r ?_
 refine rg2 s10 s9 ?_
 repeat refine c_r ?_
 refine wc0 ?_ ?_
 ·intro hlt
  simp only[decide_eq_true_eq]at hlt
  have hi:i<r.glue.length:=by omega
  have hi0:(0:Int)≤(i:Int):=by omega
  have hi1':(i:Int)+1=((i+1:Nat):Int):=by push_cast;rfl
  obtain⟨cs,hcs,hG⟩:=hgg i hi
  obtain⟨g,hge⟩:∃g,r.glue[i]=g:=⟨_,rfl⟩
  rw[hge]at hG
  obtain⟨gh,gdv,rfl,g1,g2⟩:=hG
  have kg:=kr.g g (hge▸List.getElem_mem hi)
  have kgl:=kg.1.len
  obtain⟨xz,rfl⟩:=Option.isSome_iff_exists.1 (zan hcs)
  obtain⟨xi,hxi⟩:∃xi,adr (some xz) (i*2)=some xi:=⟨_,rfl⟩
  rw[hxi]at hcs
  have d:=zae hEA hcs
  rw[List.drop_eq_getElem_cons hi,hge,show zcf to (g::r.glue.drop (i+1))=if zaq g.1=zaq to then g.2 else zcf to (r.glue.drop (i+1)) from rfl]at hgo
  repeat refine c_r ?_
  refine rq ?_;intro gd K hgd hK
  try simp (disch:=first|omega|assumption|rfl) only[go_sem,s10,s8,hi0,hlt,hxi,d]
  refine zbo (P:=Tryz.prog) (l:=[gh,gdv]) rfl (zd9 g1.isOne g2.isOne) rfl rfl ?_
  intro A1 hE6 hs6 hB6
  try simp only[go_sem]
  refine hK _ _ ?_;clear hK hgd;clear K;try clear gd
  have q0:zaf A1 (some ⟨A.heap.size,0,Option.none⟩)=some gh:=zac hB6 rfl
  have q1:zaf A1 (some ⟨A.heap.size,1,Option.none⟩)=some gdv:=zac hB6 rfl
  have hE06:=hE0.trans (hEA.trans hE6)
  repeat refine c_r ?_
  refine rc (an3 q0 s1 Nat.add_zero) (zdJ A1 gh hv g.1 to (g1.ext hE06) (hh.ext (hEA.trans hE6)) kg.1.lb mh.lb (by omega) (by omega)) ?_
  rintro _ A2 ⟨rfl,hE7⟩
  refine re trivial ?_
  have q1':=zab hE7 q1
  have hE67:=hE6.trans hE7
  repeat refine c_r ?_
  by_cases hs:zaq g.1=zaq to
  ·refine wt (decide_eq_true hs) ?_
   rw[if_pos hs]at hgo
   repeat refine c_r ?_
   refine rg2 q1' Nat.zero_add ?_
   repeat refine c_r ?_
   refine rt0 Tryz.ntmps196 ?_
   rw[hgo]
   exact⟨hEA.trans hE67,g2.ext (hEA.trans hE67)⟩
  ·refine wf (decide_eq_false hs) ?_
   rw[if_neg hs]at hgo
   repeat refine c_r ?_
   refine rg2 s10 hi1' ?_
   repeat refine c_r ?_
   exact⟨m - 1,by omega,rfl,i+1,by omega,vq0,(vq1 s9),(vq1 s8),(vq1 s1),hgo,hEA.trans hE67⟩
 ·intro hge
  simp only[decide_eq_false_iff_not]at hge
  rw[List.drop_eq_nil_of_le (by omega)]at hgo
  repeat refine c_r ?_
  refine rg0 ?_
  repeat refine c_r ?_
  refine rt0 Tryz.ntmps196 ?_
  rw[hgo]
  exact⟨hEA,Rows.nil _ _ _⟩
def ofR(N:NetL)(r:ResL)(x:Nm):List Int:=zdX N x (zcf x r.glue)
def encM(N:NetL)(r:ResL)(n0:Nat)(x:Nm)(U:Nat→Prop)(A:World)(args:Array Value):Prop:=∃v B,args=#[v]∧Row A v ((ofR N r x).map vi)∧BlkB B A v∧(∀b,U b→b<B)∧n0≤B
theorem meant_ok(w:World){a b c d e f g h k:Value}:
  Fn Tryz.prog 154 #[.agg #[a,b,c,d],.agg #[e,f,g,h,k]] w (fun v w'=>v= .func (.func 194) #[] #[.pointer (some ⟨w.heap.size+1,0,Option.none⟩),.pointer (some ⟨w.heap.size,0,Option.none⟩)]∧Ext w w'∧w'.heap.size=w.heap.size+2∧
   w'.heap[w.heap.size]? =some (.cells #[a,b,c,d] 65 (0,0))∧w'.heap[w.heap.size+1]? =some (.cells #[e,f,g,h,k] 31 (0,0))):=by
 refine enter Tryz.func154 Tryz.ntmps154 rfl rfl ?_
 repeat refine c_r ?_
 refine rg0 ?_
 repeat refine c_r ?_
 rw[zam]
 refine zaH ?_
 intro w1 hE1 hs1 hA hC
 refine rg0 ?_
 repeat refine c_r ?_
 refine rt0 Tryz.ntmps154 ?_
 exact⟨rfl,hE1,hs1,hA,hC⟩
set_option maxHeartbeats 1000000 in
theorem meantIt{w0 w1 W0:World}{C:Nat→Prop}{br bn:Nat}{cs cr:List Value}{N:NetL}{r:ResL}(hE01:Ext w0 w1)(hE1:Ext w1 W0)(hb:W0.heap[br]? =some (.cells cr.toArray 31 (0,0)))(hn:W0.heap[bn]? =some (.cells cs.toArray 65 (0,0)))
  (hC:∀b,C b→w1.heap.size≤b∧b<W0.heap.size) (hCb:¬C br) (hCn:¬C bn) (hN:NetAt w0 cs N) (hG:NetZ N) (hr:ResAt w0 w1 cr r) (kr:zjM r) (hgood:∀n∈zaz 2 r.data,NmM n):
  IterU Tryz.prog 194 #[.pointer (some ⟨br,0,Option.none⟩),.pointer (some ⟨bn,0,Option.none⟩)] W0 W0.heap.size C 0 (fun pre x=>∃suf,zaz 2 r.data=pre++x::suf) (fun xs=>xs=zaz 2 r.data) (encM N r):=by
 intro lp J Jx W hW hnW hJ hJx hY h0
 have hr0:=hr
 have hN0:=hN
 have hn4:=hN.one
 obtain⟨dv,nv,gv,rfl,h1,h2,h3⟩:=hr.ex
 have dl:=kr.dl
 obtain⟨a1,c1,hdv,_⟩:=h1.open
 have hs1:=hE1.size
 have hbl:=(Array.getElem?_eq_some_iff.1 hb).1
 have hnl:=(Array.getElem?_eq_some_iff.1 hn).1
 have hE1W:=hE1.trans hW
 have pd:zaf W (some ⟨br,1,Option.none⟩)=some dv:=zac (Ext.at hW hb) rfl
 refine enter Tryz.func194 Tryz.ntmps194 rfl rfl ?_
 repeat refine c_r ?_
 refine rq ?_;intro gd K hgd hK
 try simp (disch:=first|omega|assumption|rfl) only[go_sem,pd]
 refine⟨by kernel_rfl,?_⟩
 rw[hdv,show bdV Tryz.prog 209 [(1,vi 2),(3,.slice a1 r.data.length c1)]=some (.agg #[.slice Option.none 0 0,vi 2,v32 0,.slice a1 r.data.length c1]) from by kernel_rfl,←hdv]
 try simp only[go_sem]
 refine Fn.mono (zge (t:=2) (ow:= .slice Option.none 0 0) (tl:=v32 0) (hE01.trans hE1W) rfl rfl (h1.ext hE1W) dl) ?_
 rintro tv X ⟨hEX,htv,htb⟩
 obtain⟨aT,cT,rfl,hcT,hgT⟩:=htv.open
 obtain⟨L,hL⟩:∃L,zaz 2 r.data=L:=⟨_,rfl⟩
 rw[hL]at htv htb hcT hgood hY ⊢
 simp only[hL]at hgT
 try simp only[go_sem]
 refine hK _ _ ?_;clear hK hgd;clear K;try clear gd
 have hLl:L.length≤1000000000:=by
  rw[←hL];unfold zaz
  split
  ·have:=List.length_filterMap_le (fun d:DatL=>d.names.head?) r.data;omega
  ·simp
 have hsX:=hEX.size
 repeat refine c_r ?_
 refine zap (fun m σ ds' v=>ds'=[]∧∃(i:Nat) (U:Nat→Prop),i+m=L.length∧σ 11=vi i∧σ 10=vi L.length∧σ 9= .slice aT L.length cT∧σ 0= .func (.yield lp) #[] #[]∧σ 1= .pointer (some ⟨br,0,Option.none⟩)∧σ 2= .pointer (some ⟨bn,0,Option.none⟩)∧
  J (L.take i) U v∧(∀b,U b→X.heap.size≤b∧b<v.heap.size)∧X.heap.size≤v.heap.size∧KeepB W0.heap.size C W v∧Ext w1 v∧Rows 1 (NmC w0) v (.slice aT L.length cT) L) L.length ?_ ?_
 ·exact⟨rfl,0,NoS,by omega,vr0,vq0,vq0,vq0,vq0,vq0,hJ _ _ _ _ h0 (hEX.mono (fun _ _ h=>h.elim)),fun b h=>h.elim,Nat.le_refl _,zcN hEX (by omega),hE1W.trans hEX,htv⟩
 rintro m σ ds' v ⟨rfl,i,U,him,s11,s10,s9,s0,s1,s2,hj,hU,hsv,hKB,hEv,hrow⟩
 repeat refine c_r ?_
 refine rg2 s11 s10 ?_
 repeat refine c_r ?_
 refine wc0 ?_ ?_
 ·intro hlt
  simp only[decide_eq_true_eq]at hlt
  have hi:i<L.length:=by omega
  have hi0:(0:Int)≤(i:Int):=by omega
  have hi1':(i:Int)+1=((i+1:Nat):Int):=by push_cast;rfl
  obtain⟨h,hh⟩:∃h,L[i]=h:=⟨_,rfl⟩
  have hgh:NmM h:=hh▸hgood _ (List.getElem_mem hi)
  obtain⟨cs',hcs,hv,rfl,hvr⟩:=hrow.get hi
  rw[hh]at hvr
  have hcell:zaf v (adr aT i)=some hv:=by
   have:=zaj hcs (j:=0) rfl
   rwa [Nat.mul_one,zak]at this
  obtain⟨xT,rfl⟩:=Option.isSome_iff_exists.1 (zai hcell)
  have hbv:v.heap[br]? =some (.cells #[vi r.kind,dv,nv,.bool r.wild,gv] 31 (0,0)):=(hKB.block _ (by omega) hCb).trans (Ext.at hW hb)
  have hnv:v.heap[bn]? =some (.cells cs.toArray 65 (0,0)):=(hKB.block _ (by omega) hCn).trans (Ext.at hW hn)
  have db:=zah (n:=5) (l:=[vi r.kind,dv,nv,.bool r.wild,gv]) hbv rfl
  have dn:=zah (n:=4) hnv hn4.1.symm
  have hE0v:=hE01.trans hEv
  repeat refine c_r ?_
  refine rg5 s9 s11 hi0 hlt hcell ?_
  repeat refine c_r ?_
  refine zaN (fun i=>i==7) [(0,true),(1,true),(2,true),(3,true),(4,true),(5,false),(6,false),(7,false),(8,true)] NoS mixed (by kernel_rfl) ?_;intro gd K x hgd hx hxe hK;clear hxe
  have dbx:=zae hx db
  have dnx:=zae hx dn
  simp (disch:=first|omega|assumption|rfl) only[go_sem,s0,s1,s2,dbx,dnx]
  have hE0x:=hE0v.trans hx
  refine Fn.mono (Hints_ok hE0x ((hr0.ext hEv).ext hx) kr (hvr.ext hE0x) hgh.s) ?_
  rintro gv' y1 ⟨hy1,hg1⟩
  refine⟨.inr hy1,?_⟩
  have dny:=zae hy1 dnx
  have hgl:(zcf h r.glue).length≤1000000000:=by
   rcases zhj (to:=h) (l:=r.glue) with e| ⟨g,hg,e⟩
   ·rw[e];simp
   ·rw[e];exact(kr.g g hg).2.2
  simp (disch:=first|omega|assumption|rfl) only[go_sem]
  refine Fn.mono (Meant_ok (hE0x.trans hy1) hN0 hG hvr hgh hg1 hgl) ?_
  rintro mv y2 ⟨hy2,hm2,hB2⟩
  refine⟨.inr hy2,?_⟩
  have hvy:=(hx.trans hy1).trans hy2
  have hsy:=hvy.size
  have hsy1:=(hx.trans hy1).size
  simp (disch:=first|omega|assumption|rfl) only[go_sem,s0]
  refine Yld.mono (hY (L.take i) U h y2 _ ⟨L.drop (i+1),by rw[←hh,←List.drop_eq_getElem_cons,List.take_append_drop]⟩ (hJ _ _ _ _ hj (hvy.mono (fun _ _ h=>h.elim))) (by omega) (hKB.trans (zcN hvy (by have:=hKB.size;omega))) ⟨mv,_,rfl,hm2,hB2,fun b hb=>by have:=(hU b hb).2;omega,by omega⟩) ?_
  rintro u z (⟨rfl,U',hj',hU',hkr⟩| ⟨rfl,hjx⟩)
  ·refine⟨.inl rfl,?_⟩
   simp (disch:=first|omega|assumption|rfl) only[go_sem]
   refine hK _ _ ?_;clear hK hgd;clear K;try clear gd
   have hzs:=hkr.size
   have hCb:∀b,W.heap.size≤b→b<X.heap.size→¬(C b∨U b):=fun b h1 h2 h3=>by
    rcases h3 with h3|h3
    ·have:=hC b h3;omega
    ·have:=hU b h3;omega
   have hrowz:Rows 1 (NmC w0) z (.slice (some xT) L.length cT) L:=(hrow.ext hvy).blocks fun a n c hv=>by
    have h1:=htb a n c hv
    exact hkr.block _ (by omega) (.inr (by omega)) (hCb _ (by omega) h1.2)
   have hKz:KeepB W0.heap.size C W z:=(hKB.trans (zcN hvy (by have:=hKB.size;omega))).trans ⟨hkr.os,hkr.tape,hkr.output,hkr.size,fun b hb hc=>hkr.block b (by omega) (.inl hb) (fun h=>by
    rcases h with h|h
    ·exact hc h
    ·have:=hU b h;omega),hkr.drawn⟩
   have htk:L.take (i+1)=L.take i++ [h]:=by rw[zao hi,hh]
   repeat refine c_r ?_
   refine wf trivial ?_
   repeat refine c_r ?_
   refine rg2 s11 hi1' ?_
   repeat refine c_r ?_
   refine⟨m - 1,by omega,rfl,i+1,U',by omega,vq0,(vq1 s10),(vq1 s9),(vq1 s0),(vq1 s1),(vq1 s2),by rw[htk];exact hj',fun b hb=>?_,by omega,hKz,zc2 hE1W hKz (by omega) (fun b hb=>(hC b hb).1),hrowz⟩
   rcases hU' b hb with h|h
   ·have:=hU b h;omega
   ·omega
  ·refine⟨.inl rfl,?_⟩
   simp (disch:=first|omega|assumption|rfl) only[go_sem]
   refine hK _ _ ?_;clear hK hgd;clear K;try clear gd
   repeat refine c_r ?_
   refine wt trivial ?_
   repeat refine c_r ?_
   refine zaJ (by simp) rfl (.inr ⟨_,_,⟨L.drop (i+1),by rw[←hh,←List.drop_eq_getElem_cons,List.take_append_drop,hL]⟩,hjx⟩)
 ·intro hge
  simp only[decide_eq_false_iff_not]at hge
  repeat refine c_r ?_
  refine zaJ (by simp) rfl (.inl ⟨_,U,rfl,?_⟩)
  rw[List.take_of_length_le (by omega)]at hj
  rw[hL];exact hj
def zd6(N:NetL)(s:zax)(to:Nm):List zax:=if s.rw≥N.rw then endS s 7 else if (zbN N s.sv to).2=true then [{s with rw:=s.rw+1,name:=to,ref:=false}] else zcn N {s with rw:=s.rw+1,name:=to,ref:=false}
def zdC(N:NetL)(r:ResL)(s:zax)(h:Nm):List zax:=(if ((ofR N r h).length:Int)=0 then endS s 9 else [])++(ofR N r h).map fun k=>{s with sv:=k,ref:=true}
def zet(N:NetL)(s:zax)(r:ResL):List zax:=if s.rf≥N.rf then endS s 8 else(zaz 2 r.data).flatMap (zdC N r {s with rf:=s.rf+1})
theorem za5{s x:zax}{k:Int}(h:x∈endS s k):x.name=s.name:=by
 rw[List.mem_singleton.1 h]
set_option maxHeartbeats 1000000 in
theorem alias_ok{w0 w:World}(hE0:Ext w0 w){cs:List Value}{N:NetL}(hN:NetAt w0 cs N)(hG:NetZ N){nv tv:Value}{s:zax}{to:Nm}(hr:Row w nv (s.name.map vs))(ht:Row w tv (to.map vs))(mt:NmM to)(b0:0≤s.rw)(b1:s.rw≤1000000):
  Fn Tryz.prog 100 #[.agg (stV nv s).toArray,.agg cs.toArray,tv] w (fun v w'=>Ext w w'∧Rows 6 (StC w') w' v (zd6 N s to)):=by
 have hN0:=hN
 obtain⟨hv,rv,rfl,hh,hro⟩:=hN.ex
 obtain⟨ah,ch,hhv,_⟩:=hh.open
 obtain⟨ar,cr,hrv,_⟩:=id hro
 obtain⟨an,cn,hnv,_⟩:=id hr
 have t1:=ht.isOne
 obtain⟨at1,ct,htv,_⟩:=id ht
 unfold stV
 refine enter Tryz.func100 Tryz.ntmps100 rfl rfl ?_
 repeat refine c_r ?_
 rw[hhv,hrv,hnv]
 refine rg0 ?_
 rw[←hhv,←hrv,←hnv]
 repeat refine c_r ?_
 rw[zam]
 refine zaH ?_
 intro w1 hE1 hs1 hA hB
 have p2:zaf w1 (some ⟨w.heap.size,2,Option.none⟩)=some (vi s.rw):=zac hA rfl
 have q2:zaf w1 (some ⟨w.heap.size+1,2,Option.none⟩)=some (vi N.rw):=zac hB rfl
 have dA:zat w1 (some ⟨w.heap.size,0,Option.none⟩) 6=some (stV nv s):=zah hA rfl
 repeat refine c_r ?_
 unfold zd6
 by_cases hge:s.rw≥N.rw
 ·rw[if_pos hge]
  refine rg4 p2 q2 Nat.zero_add (decide_eq_true hge) ?_
  repeat refine c_r ?_
  refine wt trivial ?_
  repeat refine c_r ?_
  refine rc dA (zcO w1 (hr.ext hE1) s 7) ?_
  rintro v w2 ⟨hE2,hv2⟩
  refine re trivial ?_
  repeat refine c_r ?_
  refine rt0 Tryz.ntmps100 ?_
  exact⟨hE1.trans hE2,zbp hv2 fun x hx=>by rw[za5 hx];exact hr.ext (hE1.trans hE2)⟩
 rw[if_neg hge]
 refine rg4 p2 q2 Nat.zero_add (decide_eq_false hge) ?_
 repeat refine c_r ?_
 refine wf trivial ?_
 repeat refine c_r ?_
 refine rq ?_;intro gd K hgd hK
 try simp (disch:=first|omega|assumption|rfl) only[go_sem,p2,Nat.zero_add]
 refine zaV (P:=Tryz.prog) (t:=3) (j:=2) (u:=vi (s.rw+1)) (l:=stV nv s) hA (by show 2<6;decide) rfl rfl rfl ?_
 intro w2 hs2 hA2 hk2
 try simp only[go_sem]
 refine hK _ _ ?_;clear hK hgd;clear K;try clear gd
 repeat refine c_r ?_
 refine rq ?_;intro gd K hgd hK
 try simp only[go_sem]
 refine zaV (P:=Tryz.prog) (t:=23) (j:=1) (u:=tv) hA2 (by show 1<6;decide) t1 rfl rfl ?_
 intro w3 hs3 hA3 hk3
 try simp only[go_sem]
 refine zaV (P:=Tryz.prog) (t:=4) (j:=4) (u:= .bool false) hA3 (by show 4<6;decide) rfl rfl rfl ?_
 intro w4 hs4 hA4 hk4
 try simp only[go_sem]
 refine hK _ _ ?_;clear hK hgd;clear K;try clear gd
 obtain⟨s2,hs2e⟩:∃s2:zax,{s with rw:=s.rw+1,name:=to,ref:=false}=s2:=⟨_,rfl⟩
 have hA4':w4.heap[w.heap.size]? =some (.cells (stV tv s2).toArray 67 (0,0)):=by rw[←hs2e];exact hA4
 have hE4:Ext w w4:=Keep.to_ext (Keep.to_ext (Keep.to_ext hE1 rfl (fun b hb=>by omega) hk2) rfl (fun b hb=>by omega) hk3) rfl (fun b hb=>by omega) hk4
 have hB4:=(hk4.block _ (by omega) (by omega)).trans ((hk3.block _ (by omega) (by omega)).trans ((hk2.block _ (by omega) (by omega)).trans hB))
 have dN:zat w4 (some ⟨w.heap.size+1,0,Option.none⟩) 4=some [hv,rv,vi N.rw,vi N.rf]:=zah hB4 rfl
 have r0:zaf w4 (some ⟨w.heap.size,0,Option.none⟩)=some (vi s.sv):=by rw[←hs2e]at hA4';exact zac hA4' rfl
 have hE04:=hE0.trans hE4
 have mn:s2.name=to:=by rw[←hs2e]
 rw[hs2e]
 repeat refine c_r ?_
 refine rc (an3 dN r0 Nat.add_zero) (zlA (s:=s.sv) hE04 hN0 hG (ht.ext hE4) mt) ?_
 rintro _ w5 ⟨rfl,hE5⟩
 refine re trivial ?_
 have hE45:=hE4.trans hE5
 have dS:zat w5 (some ⟨w.heap.size,0,Option.none⟩) 6=some (stV tv s2):=zae hE5 (zah hA4' rfl)
 have dN5:=zae hE5 dN
 repeat refine c_r ?_
 cases hb:(zbN N s.sv to).2 with
 |true=>
  rw[if_pos rfl]
  refine wt trivial ?_
  repeat refine c_r ?_
  refine rq ?_;intro gd K hgd hK
  try simp (disch:=first|omega|assumption|rfl) only[go_sem,dS]
  refine zaT (C:=StN tv) (zba tv) (l:=stV tv s2) (a:=s2) (by rfl) (by rfl) (by rfl) (by rfl) ⟨rfl,t1⟩ (by decide) ?_
  intro w6 hE6 hs6 ho6
  try simp only[go_sem]
  refine hK _ _ ?_;clear hK hgd;clear K;try clear gd
  repeat refine c_r ?_
  refine rt0 Tryz.ntmps100 ?_
  exact⟨hE45.trans hE6,zbp ho6.rows fun x hx=>by rw[List.mem_singleton.1 hx,mn];exact ht.ext (hE45.trans hE6)⟩
 |false=>
  rw[if_neg Bool.false_ne_true]
  refine wf trivial ?_
  repeat refine c_r ?_
  refine rc (an2 dS dN5) (ziE (hE0.trans hE45) hN0 hG.rl (ht.ext hE45) s2) ?_
  rintro v w6 ⟨hE6,hv6⟩
  refine re trivial ?_
  repeat refine c_r ?_
  refine rt0 Tryz.ntmps100 ?_
  exact⟨hE45.trans hE6,zbp hv6 fun x hx=>by
   obtain⟨k,_,rfl⟩:=List.mem_map.1 hx
   show Row _ _ (s2.name.map vs)
   rw[mn];exact ht.ext (hE45.trans hE6)⟩
theorem zkH{N:NetL}{r:ResL}{s x:zax}{h:Nm}(hx:x∈zdC N r s h):x.name=s.name:=by
 unfold zdC at hx
 rcases List.mem_append.1 hx with hx|hx
 ·split at hx
  ·exact za5 hx
  ·cases hx
 ·obtain⟨k,_,rfl⟩:=List.mem_map.1 hx;rfl
theorem zkB{N:NetL}{r:ResL}{h:Nm}:(ofR N r h).length≤N.hosts.length:=zcY
theorem zhi{N:NetL}{r:ResL}{s:zax}{h:Nm}:(zdC N r s h).length≤N.hosts.length+1:=by
 have:=zkB (N:=N) (r:=r) (h:=h)
 unfold zdC endS
 split<;>simp<;>omega
theorem zgC{α β:Type}{f:α→List β}{k:Nat}(hf:∀a,(f a).length≤k):∀l:List α,(l.flatMap f).length≤l.length*k
 | []=>by simp
 |a::l=>by
  have h1:=hf a
  have h2:=zgC hf l
  rw[List.flatMap_cons,List.length_append,List.length_cons,Nat.succ_mul]
  omega
structure SRf(w Y:World)(b7 b3 n0:Nat)(nv iv:Value)(U U':Nat→Prop)(s2:zax)(L:List Int)(ov:Value)(G:List zax)(v:World):Prop where
 h7:v.heap[b7]? =some (.cells #[ov] 75 (0,0))
 own:Owns 6 (StN nv) n0 v 67 ov G
 u1:∀b,some b=ov.ownBlock→U' b
 u2:∀b,U' b→U b∨(Y.heap.size≤b∧b<v.heap.size)
 kb:KeepB Y.heap.size (fun b=>b=b7∨U b) Y v
 e:Ext w v
 h3:v.heap[b3]? =some (.cells (stV nv s2).toArray 67 (0,0))
 riv:Row v iv (L.map vi)
 blk:∃B,BlkB B Y iv∧(∀b,U b→b<B)∧n0≤B
 lo:w.heap.size≤b3∧w.heap.size≤b7∧b3≠b7∧b3<n0∧b7<n0∧n0≤Y.heap.size∧∀b,U b→n0≤b∧b<Y.heap.size
theorem SRf.app{w Y v v1 v2 v3:World}{b7 b3 n0:Nat}{nv iv ov ov':Value}{U U':Nat→Prop}{s2:zax}{L:List Int}{G news:List zax}(h:SRf w Y b7 b3 n0 nv iv U U' s2 L ov G v)(hE:Ext v v1)
  (ho:Owns 6 (StN nv) n0 v2 67 ov' (G++news)) (hk:Keep (fun b=>some b=ov.ownBlock) v1 v2) (hb:∀b,some b=ov'.ownBlock→some b=ov.ownBlock∨v1.heap.size≤b)
  (h7:v3.heap[b7]? =some (.cells #[ov'] 75 (0,0))) (hk3:Keep (fun b=>b=b7) v2 v3):SRf w Y b7 b3 n0 nv iv U (fun b=>U' b∨(v1.heap.size≤b∧b<v3.heap.size)) s2 L ov' (G++news) v3:=by
 obtain⟨B,hB1,hB2,hB3⟩:=h.blk
 obtain⟨l1,l2,l3,l4,l5,l6,l7⟩:=h.lo
 have z0:=h.kb.size
 have z1:=hE.size
 have z2:=hk.size
 have z3:=hk3.size
 have ow:∀b,some b=ov.ownBlock→n0≤b∧b<v.heap.size:=fun b hb=>h.own.ge hb
 have low:∀b,some b=ov.ownBlock→b<Y.heap.size→U b:=fun b hb hY=>(h.u2 b (h.u1 b hb)).resolve_right (by omega)
 have k2:KeepB Y.heap.size (fun b=>b=b7∨U b) v1 v2:=hk.toB (by omega) (fun b hY hb=> .inr (low b hb hY))
 have k3:KeepB Y.heap.size (fun b=>b=b7∨U b) v2 v3:=hk3.toB (by omega) (fun b hY hb=> .inl hb)
 have e2:Ext w v2:=Keep.to_ext (h.e.trans hE) rfl (fun b hb=>by have:=ow b hb;omega) hk
 refine⟨h7,ho.keep hk3 (fun b hb hb2=>by have:=ho.ge hb;omega),fun b hb'=>?_,fun b hb'=>?_,(h.kb.trans (zcN hE (by omega))).trans (k2.trans k3),Keep.to_ext e2 rfl (fun b hb=>by omega) hk3,?_,?_,h.blk,h.lo⟩
 ·rcases hb b hb' with e|e
  ·exact .inl (h.u1 b e)
  ·have:=ho.ge hb';exact .inr (by omega)
 ·rcases hb' with e|e
  ·rcases h.u2 b e with e|e
   ·exact .inl e
   ·exact .inr (by omega)
  ·exact .inr (by omega)
 ·exact(hk3.block _ (by have:=(Array.getElem?_eq_some_iff.1 h.h3).1;omega) (by omega)).trans ((hk.block _ (by have:=(Array.getElem?_eq_some_iff.1 h.h3).1;omega) (fun hb=>by have:=ow _ hb;omega)).trans (Ext.at hE h.h3))
 ·have hivb:BlkB B v1 iv:=hB1.ext (by omega)
  refine(((h.riv.ext hE).blocks fun a n c hv=>hk.block _ (by have:=(hB1 a n c hv).2;omega) (fun hb=>?_))).blocks fun a n c hv=>hk3.block _ (by have:=(hB1 a n c hv).2;omega) (by have:=(hB1 a n c hv).1;omega)
  have h1:=(hB1 a n c hv)
  have:=hB2 _ (low _ hb h1.2)
  omega
set_option maxHeartbeats 2000000 in
theorem refer_ok{w0 w:World}(hE0:Ext w0 w){cs cr:List Value}{N:NetL}{r:ResL}(hN:NetAt w0 cs N)(hG:NetZ N){nv:Value}{s:zax}(hr:Row w nv (s.name.map vs))(hres:ResAt w0 w cr r)(kr:zjM r)(kl:r.data.length≤1000)(hgood:∀n∈zaz 2 r.data,NmM n)(b0:0≤s.rf)(b1:s.rf≤1000000):
  Fn Tryz.prog 101 #[.agg (stV nv s).toArray,.agg cs.toArray,.agg cr.toArray] w (fun v w'=>Ext w w'∧Rows 6 (StC w') w' v (zet N s r)):=by
 have hN0:=hN
 have hres0:=hres
 obtain⟨hv,rv,rfl,hh,hro⟩:=hN.ex
 obtain⟨dv,mv,gv,rfl,g1,g2,g3⟩:=hres.ex
 obtain⟨ah,ch,hhv,_⟩:=hh.open
 obtain⟨ar,cr,hrv,_⟩:=id hro
 obtain⟨an,cn,hnv,_⟩:=id hr
 obtain⟨ad,cd,hdv,_⟩:=g1.open
 obtain⟨am,cm,hmv,_⟩:=id g2
 obtain⟨ag,cg,hgv,_⟩:=g3.open
 have n1:=hr.isOne
 unfold stV
 refine enter Tryz.func101 Tryz.ntmps101 rfl rfl ?_
 repeat refine c_r ?_
 rw[hhv,hrv,hnv,hdv,hmv,hgv]
 refine rg0 ?_
 rw[←hhv,←hrv,←hnv,←hdv,←hmv,←hgv]
 repeat refine c_r ?_
 rw[zam,zam,zam]
 refine zdt ?_
 intro w1 hE1 hs1 hA hB hC
 have p3:zaf w1 (some ⟨w.heap.size,3,Option.none⟩)=some (vi s.rf):=zac hA rfl
 have q3:zaf w1 (some ⟨w.heap.size+1,3,Option.none⟩)=some (vi N.rf):=zac hB rfl
 have dA:zat w1 (some ⟨w.heap.size,0,Option.none⟩) 6=some (stV nv s):=zah hA rfl
 repeat refine c_r ?_
 unfold zet
 by_cases hge:s.rf≥N.rf
 ·rw[if_pos hge]
  refine rg4 p3 q3 Nat.zero_add (decide_eq_true hge) ?_
  repeat refine c_r ?_
  refine wt trivial ?_
  repeat refine c_r ?_
  refine rc dA (zcO w1 (hr.ext hE1) s 8) ?_
  rintro v w2 ⟨hE2,hv2⟩
  refine re trivial ?_
  repeat refine c_r ?_
  refine rt0 Tryz.ntmps101 ?_
  exact⟨hE1.trans hE2,zbp hv2 fun x hx=>by rw[za5 hx];exact hr.ext (hE1.trans hE2)⟩
 rw[if_neg hge]
 refine rg4 p3 q3 Nat.zero_add (decide_eq_false hge) ?_
 repeat refine c_r ?_
 refine wf trivial ?_
 repeat refine c_r ?_
 refine rq ?_;intro gd K hgd hK
 try simp (disch:=first|omega|assumption|rfl) only[go_sem,p3,Nat.zero_add]
 refine zaV (P:=Tryz.prog) (t:=3) (j:=3) (u:=vi (s.rf+1)) (l:=stV nv s) hA (by show 3<6;decide) rfl rfl rfl ?_
 intro w2 hs2 hA2 hk2
 try simp only[go_sem]
 refine hK _ _ ?_;clear hK hgd;clear K;try clear gd
 obtain⟨s2,hs2e⟩:∃s2:zax,{s with rf:=s.rf+1}=s2:=⟨_,rfl⟩
 have hA2':w2.heap[w.heap.size]? =some (.cells (stV nv s2).toArray 67 (0,0)):=by rw[←hs2e];exact hA2
 have mn:s2.name=s.name:=by rw[←hs2e]
 rw[hs2e]
 have hE2:Ext w w2:=Keep.to_ext hE1 rfl (fun b hb=>by omega) hk2
 have hB2:=(hk2.block _ (by omega) (by omega)).trans hB
 have hC2:=(hk2.block _ (by omega) (by omega)).trans hC
 repeat refine c_r ?_
 refine rg0 ?_
 refine zaA ?_
 intro w3 hE3 hs3 hD
 obtain⟨b7,hb7⟩:∃b,w2.heap.size=b:=⟨_,rfl⟩
 rw[hb7]at hD hs3 ⊢
 have hE03:=hE2.trans hE3
 have dN:zat w3 (some ⟨w.heap.size+1,0,Option.none⟩) 4=some [hv,rv,vi N.rw,vi N.rf]:=zah (Ext.at hE3 hB2) rfl
 have dR:zat w3 (some ⟨w.heap.size+1+1,0,Option.none⟩) 5=some [vi r.kind,dv,mv,.bool r.wild,gv]:=zah (Ext.at hE3 hC2) rfl
 repeat refine c_r ?_
 refine rc (an2 dN dR) (meant_ok w3) ?_
 rintro _ w4 ⟨rfl,hE4,hs4,hbn,hbr⟩
 refine re trivial ?_
 have hE04:=hE03.trans hE4
 have hA4:=Ext.at (hE3.trans hE4) hA2'
 have hD4:=Ext.at hE4 hD
 repeat refine c_r ?_
 refine zgK (g:=194) (cap:=#[.pointer (some ⟨w3.heap.size+1,0,Option.none⟩),.pointer (some ⟨w3.heap.size,0,Option.none⟩)]) (vq0) rfl (meantIt (C:=fun b=>b=b7) hE0 hE04 hbr hbn (fun b hb=>by omega) (by omega) (by omega) hN0 hG hres0 kr hgood) (Keep.refl _ _) (Nat.le_refl _) (fun b hb=>by omega) (fun x U A args h=>by obtain⟨_,_,e,_⟩:=h;rw[e];rfl)
  (fun pre U A=>Ext w A∧∃ov,A.heap[b7]? =some (.cells #[ov] 75 (0,0))∧Owns 6 (StN nv) (w4.heap.size+2) A 67 ov (pre.flatMap (zdC N r s2))∧(∀b,some b=ov.ownBlock→U b)∧A.heap[w.heap.size]? =some (.cells (stV nv s2).toArray 67 (0,0)))
  (fun _ _ _=>False) ?_ (fun _ _ _ _ h _=>h.elim) ?_ ?_ ?_ (fun _ _ _ _ _ _ h _=>h.elim)
 ·rintro pre U A B ⟨h1,ov,h2,h3,h4,h5⟩ hU hk
  have f:∀{b:Nat} {O:Obj},A.heap[b]? =some O→b<w4.heap.size→B.heap[b]? =some O:=fun h hb=>(hk.block _ (Array.getElem?_eq_some_iff.1 h).1 (by unfold span;omega)).trans h
  exact⟨Keep.to_ext h1 rfl (fun b hb=>by unfold span at hb;omega) hk,ov,f h2 (by omega),h3.keep hk (fun b hb hb2=>by have:=hU b (h4 b hb);unfold span at hb2;omega),h4,f h5 (by omega)⟩
 ·exact⟨hE04,.slice Option.none 0 0,hD4,Owns.nil _ _ _ _ _,fun b hb=>by simp[Value.ownBlock]at hb,hA4⟩
 ·rintro lp pre U y A args ⟨suf,hxs⟩ hszA ⟨hEA,ov,k7,hown,hU,k3⟩ hUb ⟨iv,B,rfl,hmv,hmb,hmB,hmn⟩
  refine rg0 ?_
  refine zav ?_
  refine⟨rfl,Keep.refl _ _,fun Y hY=>?_⟩
  have hsY:=hY.size
  have f:∀{b:Nat} {O:Obj},A.heap[b]? =some O→¬two w4.heap.size b→Y.heap[b]? =some O:=fun h hb=>(hY.block _ (Array.getElem?_eq_some_iff.1 h).1 hb).trans h
  have hEY:Ext w Y:=Keep.to_ext hEA rfl (fun b hb=>by unfold two at hb;omega) hY
  have hRI:SRf w Y b7 w.heap.size (w4.heap.size+2) nv iv U U s2 (ofR N r y) ov (pre.flatMap (zdC N r s2)) Y:=⟨f k7 (by unfold two;omega),hown.keep hY (fun b hb hb2=>by have:=(hown.ge hb).1;unfold two at hb2;omega),hU,fun b hb=> .inl hb,KeepB.refl _ _ _,hEY,f k3 (by unfold two;omega),hmv.keepB hY hmb (fun b h1 _ h2=>by unfold two at h2;omega),⟨B,hmb.ext hsY,hmB,hmn⟩,by omega,by omega,by omega,by omega,by omega,by omega,fun b hb=>by have:=hUb b hb;omega⟩
  clear hmv hmb hmB hmn hown hU k7 k3
  obtain⟨L,hL⟩:∃L,ofR N r y=L:=⟨_,rfl⟩
  have hLl:L.length≤1000:=by
   have:=zkB (N:=N) (r:=r) (h:=y)
   have:=hG.hl
   rw[←hL];omega
  have hho:zdC N r s2 y=(if (L.length:Int)=0 then endS s2 9 else [])++L.map fun k=>{s2 with sv:=k,ref:=true}:=by unfold zdC;rw[hL]
  have hpl:pre.length≤1000:=by
   have h1:=congrArg List.length hxs
   have h2:(zaz 2 r.data).length≤r.data.length:=by
    unfold zaz
    split
    ·exact List.length_filterMap_le _ _
    ·simp
   simp at h1;omega
  have hGl:(pre.flatMap (zdC N r s2)).length≤2000000:=by
   have h1:=zgC (fun a=>zhi (N:=N) (r:=r) (s:=s2) (h:=a)) pre
   have h2:=hG.hl
   have h3:pre.length*(N.hosts.length+1)≤1000*1001:=Nat.mul_le_mul hpl (by omega)
   omega
  rw[hL]at hRI
  obtain⟨ai,ci,rfl,hci,_⟩:=id hRI.riv
  simp only[List.length_map]at hRI hci ⊢
  obtain⟨G,hGe⟩:∃G,pre.flatMap (zdC N r s2)=G:=⟨_,rfl⟩
  rw[hGe]at hRI hGl
  have hb7n:b7<w4.heap.size+2:=by omega
  have hb3n:w.heap.size<w4.heap.size+2:=by omega
  repeat refine c_r ?_
  refine rg0 ?_
  repeat refine c_r ?_
  refine zaC (Q:=fun e σ' ds' v'=>e= .normal∧ds'=[]∧σ' 8= .slice ai L.length ci∧σ' 3= .pointer (some ⟨w.heap.size,0,Option.none⟩)∧σ' 7= .pointer (some ⟨b7,0,Option.none⟩)∧∃ov' U',SRf w Y b7 w.heap.size (w4.heap.size+2) nv (.slice ai L.length ci) U U' s2 L ov' (G++if (L.length:Int)=0 then endS s2 9 else []) v') ?_ ?_
  ·by_cases h0:(L.length:Int)=0
   ·rw[if_pos h0]
    refine wt (decide_eq_true h0) ?_
    repeat refine c_r ?_
    refine zaN (fun i=>i==4) [(0,true),(1,true),(2,false),(3,false),(4,false)] (zbB (w4.heap.size+2)) mixed (by kernel_rfl) ?_;intro gd K x hgd hx hxe hK;have hx0:=zfM hxe;clear hxe
    have q7:zaf x (some ⟨b7,0,Option.none⟩)=some ov:=zac (Ext.at hx0 hRI.h7) rfl
    have q3:zat x (some ⟨w.heap.size,0,Option.none⟩) 6=some (stV nv s2):=zah (Ext.at hx0 hRI.h3) rfl
    simp (disch:=first|omega|assumption|rfl) only[go_sem,q7,q3]
    refine⟨zco hb7n,zco hb3n,?_⟩
    refine Fn.mono (zcO x (hr.ext (hRI.e.trans hx0)) s2 9) ?_
    rintro ev y1 ⟨hy1,hev⟩
    refine⟨.inr hy1.keep,?_⟩
    have sx:=hx0.size
    have sy:=hy1.size
    have sY:=hRI.lo.2.2.2.2.2.1
    simp (disch:=first|omega|assumption|rfl) only[go_sem]
    refine zaI (zba nv) (hRI.own.ext (hx0.trans hy1)) hev (by rfl) (by rfl) (by rfl) (by rfl) (by rfl) (by rfl) (by decide) (vr0) (vr0) (by unfold endS;simp;omega) (by decide) (by omega) ?_
    intro ov' y2 ho2 hE2 hk2 hb2
    refine⟨.inr (hk2.mono fun b _ hb=>(hRI.own.ge hb).1),?_⟩
    obtain⟨ao,co,hov,_⟩:=ho2.rows.open
    simp (disch:=first|omega|assumption|rfl) only[go_sem]
    refine zaV (P:=Tryz.prog) (t:=75) (j:=0) (u:=ov') (l:=[ov]) ((hk2.block _ (by omega) (fun hb=>by have:=(hRI.own.ge hb).1;omega)).trans (Ext.at (hx0.trans hy1) hRI.h7)) (by simp) (by rw[hov];rfl) rfl rfl ?_
    intro y3 hs3 h73 hk3
    refine⟨.inl rfl,?_⟩
    simp (disch:=first|omega|assumption|rfl) only[go_sem]
    refine hK _ _ ?_;clear hK hgd;clear K;try clear gd
    exact⟨rfl,rfl,vq0,vq0,vq0,ov',_,hRI.app (hx0.trans hy1) ho2 hk2 hb2 h73 hk3⟩
   ·rw[if_neg h0,List.append_nil]
    refine wf (decide_eq_false h0) ?_
    repeat refine c_r ?_
    exact⟨rfl,rfl,vq0,vq0,vq0,ov,U,hRI⟩
  rintro _ σ1 _ Y1 ⟨rfl,rfl,s8,s3,s7,ov1,U1,hR1⟩
  obtain⟨G1,hG1⟩:∃G1,(G++if (L.length:Int)=0 then endS s2 9 else [])=G1:=⟨_,rfl⟩
  have hG1l:G1.length≤2000001:=by
   rw[←hG1];unfold endS
   split<;>simp<;>omega
  rw[hG1]at hR1
  repeat refine c_r ?_
  refine rg1 s8 ?_
  repeat refine c_r ?_
  refine zap (fun m σ ds v=>ds=[]∧∃(i:Nat) (ov:Value) (U':Nat→Prop),i+m=L.length∧σ 36=vi i∧σ 35=vi L.length∧σ 34= .slice ai L.length ci∧σ 3= .pointer (some ⟨w.heap.size,0,Option.none⟩)∧σ 7= .pointer (some ⟨b7,0,Option.none⟩)∧
   SRf w Y b7 w.heap.size (w4.heap.size+2) nv (.slice ai L.length ci) U U' s2 L ov (G1++(L.take i).map fun k=>{s2 with sv:=k,ref:=true}) v) L.length ?_ ?_
  ·exact⟨rfl,0,ov1,U1,by omega,vr0,vq0,vq0,(vq1 s3),(vq1 s7),by simpa using hR1⟩
  clear s8 s3 s7
  rintro m σ ds v ⟨rfl,i,ov,U',him,s36,s35,s34,s3,s7,hR⟩
  repeat refine c_r ?_
  refine rg2 s36 s35 ?_
  repeat refine c_r ?_
  refine wc0 ?_ ?_
  ·intro hlt
   simp only[decide_eq_true_eq]at hlt
   have hi:i<L.length:=by omega
   have hi0:(0:Int)≤(i:Int):=by omega
   have hi1':(i:Int)+1=((i+1:Nat):Int):=by push_cast;rfl
   have hcell:zaf v (adr ai i)=some (vi L[i]):=by
    obtain⟨a',c',e,_,hg⟩:=hR.riv
    injection e with e1 _ _
    subst e1
    have:=hg i (by simpa using hi)
    simpa using this
   obtain⟨xz,rfl⟩:=Option.isSome_iff_exists.1 (zai hcell)
   have sY:=hR.lo.2.2.2.2.2.1
   have sv0:=hR.kb.size
   have d3:zat v (some ⟨w.heap.size,0,Option.none⟩) 6=some (stV nv s2):=zah hR.h3 rfl
   repeat refine c_r ?_
   refine rq ?_;intro gd K hgd hK;simp (disch:=first|omega|assumption|rfl) only[go_sem,s36,s34,hi0,hlt,hcell,Nat.mul_one];refine hK _ _ ?_;clear hK hgd;clear K gd
   repeat refine c_r ?_
   refine rq ?_;intro gd K hgd hK
   try simp (disch:=first|omega|assumption|rfl) only[go_sem,s3,d3]
   refine zbo (P:=Tryz.prog) (l:=stV nv s2) rfl (zec n1) rfl rfl ?_
   intro v1 hE1 hs1 hB1
   try simp only[go_sem]
   refine hK _ _ ?_;clear hK hgd;clear K;try clear gd
   obtain⟨bx,hbx⟩:∃b,v.heap.size=b:=⟨_,rfl⟩
   rw[hbx]at hB1 hs1 ⊢
   repeat refine c_r ?_
   refine rq ?_;intro gd K hgd hK
   try simp only[go_sem]
   refine zaV (P:=Tryz.prog) (t:=3) (j:=0) (u:=vi L[i]) (l:=stV nv s2) hB1 (by show 0<6;decide) rfl rfl rfl ?_
   intro v2 hs2' hB2' hk2'
   try simp only[go_sem]
   refine zaV (P:=Tryz.prog) (t:=4) (j:=4) (u:= .bool true) hB2' (by show 4<6;decide) rfl rfl rfl ?_
   intro v3 hs3' hB3' hk3'
   try simp only[go_sem]
   refine hK _ _ ?_;clear hK hgd;clear K;try clear gd
   obtain⟨sk,hsk⟩:∃sk:zax,{s2 with sv:=L[i],ref:=true}=sk:=⟨_,rfl⟩
   have hB3:v3.heap[bx]? =some (.cells (stV nv sk).toArray 67 (0,0)):=by rw[←hsk];exact hB3'
   have hEv:Ext v v3:=Keep.to_ext (Keep.to_ext hE1 rfl (fun b hb=>by omega) hk2') rfl (fun b hb=>by omega) hk3'
   have q7:zaf v3 (some ⟨b7,0,Option.none⟩)=some ov:=zac (Ext.at hEv hR.h7) rfl
   have dx:zat v3 (some ⟨bx,0,Option.none⟩) 6=some (stV nv sk):=zah hB3 rfl
   repeat refine c_r ?_
   refine rq ?_;intro gd K hgd hK
   try simp (disch:=first|omega|assumption|rfl) only[go_sem,s7,q7,dx]
   refine zaT (C:=StN nv) (zba nv) (l:=stV nv sk) (a:=sk) (by rfl) (by rfl) (by rfl) (by rfl) ⟨rfl,n1⟩ (by decide) ?_
   intro v4 hE4' hs4' ho4
   try simp only[go_sem]
   refine zaI (zba nv) (hR.own.ext (hEv.trans hE4')) ho4.rows (by rfl) (by rfl) (by rfl) (by rfl) (by rfl) (by rfl) (by decide) (vr0) (vr0) (by simp;omega) (by decide) (by omega) ?_
   intro ov' v5 ho5 hE5 hk5 hb5
   obtain⟨ao,co,hov,_⟩:=ho5.rows.open
   try simp (disch:=first|omega|assumption|rfl) only[go_sem,s7]
   refine zaV (P:=Tryz.prog) (t:=75) (j:=0) (u:=ov') (l:=[ov]) ((hk5.block _ (by omega) (fun hb=>by have:=(hR.own.ge hb).1;omega)).trans (Ext.at (hEv.trans hE4') hR.h7)) (by simp) (by rw[hov];rfl) rfl rfl ?_
   intro v6 hs6 h76 hk6
   try simp only[go_sem]
   refine hK _ _ ?_;clear hK hgd;clear K;try clear gd
   have hRn:=hR.app (hEv.trans hE4') ho5 hk5 hb5 h76 hk6
   obtain⟨U2,hU2⟩:∃U2,(fun b=>U' b∨(v4.heap.size≤b∧b<v6.heap.size))=U2:=⟨_,rfl⟩
   rw[hU2]at hRn
   repeat refine c_r ?_
   refine rg2 s36 hi1' ?_
   repeat refine c_r ?_
   refine⟨m - 1,by omega,rfl,i+1,ov',U2,by omega,vq0,(vq1 s35),(vq1 s34),(vq1 s3),(vq1 s7),?_⟩
   rw[zao hi,List.map_append,←List.append_assoc,List.map_cons,List.map_nil,hsk]
   exact hRn
  ·intro hge
   simp only[decide_eq_false_iff_not]at hge
   have hfin:G1++(L.take i).map (fun k=>({s2 with sv:=k,ref:=true}:zax))=(pre++ [y]).flatMap (zdC N r s2):=by
    rw[List.take_of_length_le (by omega),List.flatMap_append,hGe,List.flatMap_cons,List.flatMap_nil,List.append_nil,hho,←hG1,List.append_assoc]
   rw[hfin]at hR
   repeat refine c_r ?_
   exact⟨U',⟨hR.e,ov,hR.h7,hR.own,hR.u1,hR.h3⟩,hR.u2,hR.kb.keep⟩
 ·rintro xs U A rfl hszA hUb ⟨hEA,ov,k7,hown,hU,k3⟩ hD
  obtain⟨ao,co,rfl,hco,_⟩:=hown.rows.open
  have q7:zaf A (some ⟨b7,0,Option.none⟩)=some (.slice ao _ co):=zac k7 rfl
  repeat refine c_r ?_
  refine rc q7 (P_st.Clip_ok hco) ?_
  rintro _ A1 ⟨rfl,rfl⟩
  refine re trivial ?_
  repeat refine c_r ?_
  refine zdQ (.inr rfl) (by rfl) Tryz.ntmps101 (vr0) hD ?_
  intro Z hkZ hsZ
  have hrows:=hown.rows.take (m:=_) (c2:=_) (Nat.le_refl _) (Nat.le_refl _)
  rw[List.take_length]at hrows
  have hEZ:Ext w Z:=Keep.to_ext hEA rfl (fun b hb=>by omega) hkZ
  refine⟨hEZ,zbp (hrows.keep hkZ hown.blk.same (fun b h1 _ h2=>by omega)) fun x hx=>?_⟩
  obtain⟨h,_,hx⟩:=List.mem_flatMap.1 hx
  rw[zkH hx,mn]
  exact hr.ext hEZ
theorem zk8(c:UInt8):zfK (zfK c)=zfK c:=by
 by_cases h:65≤c∧c≤90
 ·rw[zgB h]
  refine zeR (fun h2=>?_)
  have a:=UInt8.le_iff_toNat_le.1 h.1
  have b:=UInt8.le_iff_toNat_le.1 h.2
  have d:=UInt8.le_iff_toNat_le.1 h2.2
  simp at a b d
  have:(c+32).toNat=c.toNat+32:=by rw[UInt8.toNat_add];simp;omega
  omega
 ·rw[zeR h,zeR h]
theorem zk7(l:List UInt8):zbi (zbi l)=zbi l:=by
 unfold zbi
 rw[List.map_map]
 exact List.map_congr_left fun c _=>zk8 c
theorem zk6(n:Nm):zaq (zaq n)=zaq n:=by
 unfold zaq
 rw[List.map_map]
 exact List.map_congr_left fun c _=>zk7 c
section
variable {R : List RecL} {o q n : Nm} {t : Int}
theorem isL_fold(n:Nm)(t:Int):isL (zaq n) t=isL n t:=by
 funext r
 unfold isL
 rw[zk6]
theorem ofC_fold:ofC R (zaq n) t=ofC R n t:=by unfold ofC;rw[isL_fold]
theorem zd2:datC R (zaq n) t=datC R n t:=by unfold datC;rw[ofC_fold]
theorem zjB(n:Nm):∀k,zbl (zaq n) k=(zbl n k).map zaq
 |0=>by simp only[zbl,List.map_cons,List.map_nil];rw[zdm]
 |k+1=>by simp only[zbl,List.map_cons];rw[zjB n k,zdm]
end
/-! types -/
section
variable {R : List RecL} {o q n : Nm} {t u : Int}
theorem zes{r:ResL}(h:zaG R q n=some r):(r.kind=5∨r.kind=6)∧(r.kind=5→∀d∈r.data,d.ty=39):=by
 unfold zaG at h
 split at h
 ·cases h
 ·split at h
  ·cases h
   exact⟨.inl rfl,fun _ d hd=>zen (List.mem_of_mem_take hd)⟩
  ·cases h
   exact⟨.inr rfl,fun h=>by cases h⟩
theorem at_kind{b:Bool}:((atL R n t b).kind=1∨(atL R n t b).kind=2∨(atL R n t b).kind=5)∧((atL R n t b).kind=1→∀d∈(atL R n t b).data,d.ty=t)∧((atL R n t b).kind=5→∀d∈(atL R n t b).data,d.ty=5):=by
 unfold atL
 split
 ·exact⟨.inl rfl,(fun _ d hd=>zen hd),fun h=>by cases h⟩
 ·split
  ·exact⟨.inr (.inr rfl),(fun h=>by cases h),fun _ d hd=>zen (List.mem_of_mem_take hd)⟩
  ·exact⟨.inr (.inl rfl),(fun h=>by cases h),fun h=>by cases h⟩
end
/-! cuts -/
section
variable {R : List RecL} {o q : Nm} {t u : Int}
theorem zfo{n:Nm}{i:Nat}:∀{K:Nat},i≤K→∃suf,zbl n K=zbl (n.drop i) (K - i)++suf
 |0,h=>by
  have:i=0:=by omega
  subst this
  exact⟨[],by simp[zbl]⟩
 |K+1,h=>by
  by_cases hi:i=K+1
  ·subst hi
   refine⟨zbl n K,?_⟩
   rw[show K+1 - (K+1)=0 from by omega]
   simp[zbl]
  ·obtain⟨suf,hs⟩:=zfo (n:=n) (i:=i) (K:=K) (by omega)
   refine⟨suf,?_⟩
   rw[show K+1 - i=(K - i)+1 from by omega]
   simp only[zbl,List.cons_append]
   rw[hs,List.drop_drop,show i+(K - i+1)=K+1 from by omega]
theorem zf5{n:Nm}:∀{K:Nat},∃pre,zbl n K=pre++ [n]∧∀x∈pre,∃i,0<i∧i≤K∧x=n.drop i
 |0=>⟨[],by simp[zbl],fun x h=>by cases h⟩
 |K+1=>by
  obtain⟨pre,h1,h2⟩:=zf5 (n:=n) (K:=K)
  refine⟨n.drop (K+1)::pre,by simp only[zbl,h1,List.cons_append],fun x hx=>?_⟩
  rcases List.mem_cons.1 hx with rfl|hx
  ·exact⟨K+1,by omega,Nat.le_refl _,rfl⟩
  ·obtain⟨i,a,b,c⟩:=h2 x hx
   exact⟨i,a,by omega,c⟩
theorem zgA{x:Nm}:∀{pre:List Nm} {suf:List Nm},(∀n∈pre,cutP o R n=false∧n.length≠x.length)→(∀n∈pre,n.length≠q.length)→
  ((∀n∈pre,datC R n 39=[])∧goL o R q (pre++suf)=goL o R q suf)∨((∃n∈pre,datC R n 39≠ [])∧∃r,goL o R q (pre++suf)=some r∧(r.kind=5∨r.kind=6))
 | [],suf,_,_=> .inl ⟨fun n h=>(by cases h),rfl⟩
 |n::pre,suf,h1,h2=>by
  obtain⟨a,b⟩:=h1 n (List.mem_cons_self ..)
  have c:=h2 n (List.mem_cons_self ..)
  simp only[List.cons_append,goL]
  rw[a,if_neg Bool.false_ne_true,if_neg c]
  by_cases hd:datC R n 39=[]
  ·have:zaG R q n=Option.none:=by unfold zaG;rw[if_pos hd]
   rw[this]
   rcases zgA (suf:=suf) (fun m hm=>h1 m (List.mem_cons_of_mem _ hm)) (fun m hm=>h2 m (List.mem_cons_of_mem _ hm)) with ⟨g1,g2⟩| ⟨⟨m,hm,hm2⟩,g2⟩
   ·refine .inl ⟨fun m hm=>?_,g2⟩
    rcases List.mem_cons.1 hm with rfl|hm
    ·exact hd
    ·exact g1 m hm
   ·exact .inr ⟨⟨m,List.mem_cons_of_mem _ hm,hm2⟩,g2⟩
  ·right
   refine⟨⟨n,List.mem_cons_self ..,hd⟩,?_⟩
   cases hr:zaG R q n with
   |none=>
    unfold zaG at hr
    rw[if_neg hd]at hr
    split at hr<;>cases hr
   |some r=>exact⟨r,rfl,(zes hr).1⟩
theorem zf2{α:Type}{p:α→Bool}{x:α}:∀{l:List α},l.find? p=some x→∃pre suf,l=pre++x::suf∧p x=true∧∀y∈pre,p y=false
 | [],h=>by cases h
 |a::l,h=>by
  rw[List.find?_cons]at h
  split at h
  ·rename_i ha
   cases h
   exact⟨[],l,rfl,ha,fun y h=>by cases h⟩
  ·rename_i ha
   obtain⟨pre,suf,h1,h2,h3⟩:=zf2 h
   refine⟨a::pre,suf,by rw[h1];rfl,h2,fun y hy=>?_⟩
   rcases List.mem_cons.1 hy with rfl|hy
   ·simpa using ha
   ·exact h3 y hy
theorem zjq(hu:zaY q o=true)(hc:cutL o R q=Option.none):(za3 o R q t).kind≠4∧(za3 o R q t).kind≠7:=by
 unfold cutL at hc
 rw[if_pos hu]at hc
 have hno:∀x∈za8 o q,cutP o R x=false:=fun x hx=>by simpa using (List.find?_eq_none.1 hc) x hx
 have h4:∀{l:List Nm} {r:ResL},(∀x∈l,cutP o R x=false)→goL o R q l=some r→r.kind=5∨r.kind=6:=by
  intro l
  induction l with
  |nil=>intro r _ h;cases h
  |cons n l ih=>
   intro r hl h
   simp only[goL]at h
   rw[hl n (List.mem_cons_self ..),if_neg Bool.false_ne_true]at h
   split at h
   ·cases h
   ·split at h
    ·rename_i r' hr
     cases h
     exact(zes hr).1
    ·exact ih (fun x hx=>hl x (List.mem_cons_of_mem _ hx)) h
 unfold za3
 rw[if_neg (by rw[hu];simp)]
 cases hg:goL o R q (za8 o q) with
 |some r=>
  have:=h4 hno hg
  show r.kind≠4∧r.kind≠7
  omega
 |none=>
  have key:∀{n:Nm} {b:Bool},(atL R n t b).kind≠4∧(atL R n t b).kind≠7:=fun {n b}=>by
   have:=(at_kind (R:=R) (n:=n) (t:=t) (b:=b)).1
   omega
  by_cases he:zaM o R q=true
  ·simp only[if_pos he]
   exact key
  ·simp only[if_neg he]
   cases zaZ o R q with
   |none=>exact⟨(by decide:(3:Int)≠4),(by decide:(3:Int)≠7)⟩
   |some s=>exact key
theorem look_cut(hs:zdI R){c:Nm}(hu:zaY q o=true)(hc:cutL o R q=some c):
    (∃k,k≤q.length∧c=q.drop k)∧
    ((∀t,za3 o R c t=zeu R c)∧(∀t,za3 o R q t=zeu R c)∧datC R c 2≠ []∨
     (∀t,(za3 o R c t).kind=5∨(za3 o R c t).kind=6)∧∀t,(za3 o R q t).kind=5∨(za3 o R q t).kind=6):=by
  unfold cutL at hc
  rw[if_pos hu]at hc
  have hol:=zbZ hu
  have hdn:za8 o q=zbl q (q.length - o.length):=if_pos hol
  rw[hdn]at hc
  obtain⟨pre,suf,hsp,hcp,hpre⟩:=zf2 hc
  obtain⟨k,hk,hck⟩:=zbH.1 (show c∈zbl q (q.length - o.length) from by rw[hsp];simp)
  have hkl:k≤q.length:=by omega
  refine⟨⟨k,hkl,hck⟩,?_⟩
  have hcl:c.length=q.length - k:=by rw[hck,List.length_drop]
  have hol2:o.length<c.length:=by
    unfold cutP at hcp
    simp only[Bool.and_eq_true,decide_eq_true_eq]at hcp
    exact hcp.1
  have huc:zaY c o=true:=by rw[hck,zdf hkl,hu,Bool.and_true];exact decide_eq_true hk
  -- what is ahead of the cut is the same from the cut and from the name
  obtain⟨suf2,hsf⟩:=zfo (n:=q) hk
  obtain⟨pre2,hp2,hp3⟩:=zf5 (n:=q.drop k) (K:=q.length - o.length - k)
  have hdc:za8 o c=pre2++ [c]:=by
    unfold za8
    rw[if_pos (by omega),hck,List.length_drop,show q.length - k - o.length=q.length - o.length - k from by omega]
    exact hp2
  have hlen:∀x∈pre2,x.length<c.length:=fun x hx=>by
    obtain⟨i,a,b,rfl⟩:=hp3 x hx
    rw[List.length_drop,List.length_drop]
    omega
  have hall:zbl q (q.length - o.length)=pre2++c::suf2:=by
    rw[hsf,hp2,List.append_assoc,hck];rfl
  have hpp:pre=pre2:=by
    have h1:pre++c::suf=pre2++c::suf2:=by rw[←hsp,hall]
    -- the first that is a cut
    have hx:∀x∈pre2,cutP o R x=false:=by
      intro x hx
      -- lengths rise along the row
      have hrise:∀(K:Nat),(zbl q K).Pairwise (fun a b=>a.length≤b.length):=fun K=>by
        induction K with
        |zero=>simp[zbl]
        |succ K ih=>
          simp only[zbl]
          refine List.pairwise_cons.2 ⟨fun y hy=>?_,ih⟩
          obtain⟨i,hi,rfl⟩:=zbH.1 hy
          rw[List.length_drop,List.length_drop];omega
      have hr:=hrise (q.length - o.length)
      have hx1:x∈pre++c::suf:=by rw[h1];exact List.mem_append_left _ hx
      rw[hsp]at hr
      rcases List.mem_append.1 hx1 with h|h
      · exact hpre x h
      · exfalso
        have hlx:=hlen x hx
        rcases List.mem_cons.1 h with rfl|h
        · omega
        · have:=(List.pairwise_append.1 hr).2.1
          have:=(List.pairwise_cons.1 this).1 x h
          omega
    have key:∀{a b s1 s2:List Nm},a++c::s1=b++c::s2→(∀x∈a,cutP o R x=false)→(∀x∈b,cutP o R x=false)→a=b:=by
      intro a
      induction a with
      |nil=>
        intro b s1 s2 h _ hb
        cases b with
        |nil=>rfl
        |cons y b=>
          simp only[List.nil_append,List.cons_append,List.cons.injEq]at h
          have:=hb y (List.mem_cons_self ..)
          rw[←h.1,hcp]at this
          cases this
      |cons x a ih=>
        intro b s1 s2 h ha hb
        cases b with
        |nil=>
          simp only[List.nil_append,List.cons_append,List.cons.injEq]at h
          have:=ha x (List.mem_cons_self ..)
          rw[h.1,hcp]at this
          cases this
        |cons y b=>
          simp only[List.cons_append,List.cons.injEq]at h
          rw[h.1,ih h.2 (fun z hz=>ha z (List.mem_cons_of_mem _ hz)) (fun z hz=>hb z (List.mem_cons_of_mem _ hz))]
    exact key h1 hpre hx
  subst hpp
  have g1:=zgA (q:=c) (x:=c) (suf:=[c]) (fun n hn=>⟨hpre n hn,by have:=hlen n hn;omega⟩) (fun n hn=>by have:=hlen n hn;omega)
  have g2:=zgA (q:=q) (x:=c) (suf:=c::suf2) (fun n hn=>⟨hpre n hn,by have:=hlen n hn;omega⟩) (fun n hn=>by have:=hlen n hn;omega)
  have hdq:za8 o q=pre++c::suf2:=by rw[hdn,hall]
  have lk:∀{y:Nm} {r:ResL} (t:Int),zaY y o=true→goL o R y (za8 o y)=some r→za3 o R y t=r:=fun {y r} t hy hr=>by
    unfold za3
    rw[if_neg (by rw[hy];simp),hr]
  have hcc:∀y l,goL o R y (c::l)=some (zeu R c):=fun y l=>by
    simp only[goL]
    rw[if_pos hcp]
  rcases g1 with ⟨a1,a2⟩| ⟨⟨m,hm,hm2⟩,r,hr,hk1⟩
  · rcases g2 with ⟨_,b2⟩| ⟨⟨m,hm,hm2⟩,_⟩
    · left
      refine⟨fun t=>lk t huc (by rw[hdc,a2,hcc]),fun t=>lk t hu (by rw[hdq,b2,hcc]),?_⟩
      unfold cutP hasL at hcp
      simp only[Bool.and_eq_true]at hcp
      obtain⟨r,hr,hr2⟩:=List.any_eq_true.1 hcp.2
      have:r∈ofC R c 2:=by rw[zei hs];exact List.mem_filter.2 ⟨hr,hr2⟩
      intro e
      unfold datC at e
      rw[List.map_eq_nil_iff]at e
      rw[e]at this
      cases this
    · exact absurd (a1 m hm) hm2
  · right
    rcases g2 with ⟨b1,_⟩| ⟨_,r2,hr2,hk2⟩
    · exact absurd (b1 m hm) hm2
    · refine⟨fun t=>?_,fun t=>?_⟩
      · rw[lk t huc (by rw[hdc];exact hr)];exact hk1
      · rw[lk t hu (by rw[hdq];exact hr2)];exact hk2
end
section
variable {R : List RecL} {o q n : Nm} {t u : Int}
theorem zcV{ds:List DatL}{x:Nm}(h:x∈zaz u ds):∃d∈ds,x∈d.names:=by
 unfold zaz at h
 split at h
 ·obtain⟨d,hd,h2⟩:=List.mem_filterMap.1 h
  exact⟨d,hd,List.mem_of_head? h2⟩
 ·cases h
theorem zjE:zaF []=0:=by decide
theorem zjV(hck:∀r∈R,∀n∈r.dat.names,zaF n=0):zaF (toN u ((datC R n t).take 1))=0:=by
 unfold toN
 cases hq:(zbk u ((datC R n t).take 1)).getLast? with
 |none=>exact zjE
 |some x=>
  have h1:=List.mem_of_getLast? hq
  obtain⟨d,hd,h2⟩:=zcV (zb9 _ _ x h1)
  obtain⟨r,hr,rfl⟩:=zdo (List.mem_of_mem_take hd)
  exact hck r hr x h2
theorem zgl{r:ResL}(h:zaG R q n=some r)(h5:r.kind=5):zaF r.name=0:=by
 unfold zaG at h
 split at h
 ·cases h
 ·split at h
  ·rename_i hc
   cases h;exact hc
  ·cases h;cases h5
theorem ziS:∀{l:List Nm} {r:ResL},goL o R q l=some r→r.kind=5→zaF r.name=0
 | [],_,h,_=>by cases h
 |n::l,r,h,h5=>by
  simp only[goL]at h
  split at h
  ·cases h;cases h5
  ·split at h
   ·cases h
   ·split at h
    ·rename_i r' hr
     cases h
     exact zgl hr h5
    ·exact ziS h h5
theorem zi4(hck:∀r∈R,∀n∈r.dat.names,zaF n=0){b:Bool}(h5:(atL R n t b).kind=5):zaF (atL R n t b).name=0:=by
 unfold atL at h5 ⊢
 split at h5
 ·cases h5
 ·rename_i h1
  rw[if_neg h1]
  split at h5
  ·rename_i h2
   rw[if_pos h2]
   exact zjV hck
  ·cases h5
theorem zjr(hck:∀r∈R,∀n∈r.dat.names,zaF n=0)(h5:(za3 o R q t).kind=5):zaF (za3 o R q t).name=0:=by
 unfold za3 at h5 ⊢
 split at h5
 ·cases h5
 rename_i h1
 rw[if_neg h1]
 split at h5
 ·rename_i r hr
  exact ziS hr h5
 ·rename_i hr
  split at h5
  ·rename_i h2
   rw[if_pos h2]
   exact zi4 hck h5
  ·rename_i h2
   rw[if_neg h2]
   split at h5
   ·rename_i s hs
    exact zi4 hck h5
   ·cases h5
end
structure AskF(r:ResL):Prop where
 ok:zjM r
 dl:r.data.length≤1000
 nm:r.kind=5→zaF r.name=0
 tg:∀n∈zaz 2 r.data,NmM n
 tc:∀d∈r.data,∀n∈d.names,zaF n=0
 ld:r.kind=4→zaz 2 r.data≠ []
theorem zlt{N:NetL}(hG:NetZ N){s:Int}{q:Nm}{t:Int}(mq:NmM q):AskF (askN N s q t):=by
 have hno:AskF ⟨7,[],[],false,[]⟩:=⟨⟨zjp,fun d h=>(by cases h),Nat.zero_le _,Nat.zero_le _,fun x h=>(by cases h)⟩,Nat.zero_le _,fun h=>(by cases h),fun n hn=>(by
  obtain⟨d,hd,_⟩:=zcV hn
  cases hd),fun d h=>(by cases h),fun h=>(by cases h)⟩
 unfold askN
 split
 ·cases hz:(N.zones s)[(zbN N s q).1.toNat]? with
  |none=>exact hno
  |some z=>
   have gz:=(zbO hG).1 z (List.mem_of_getElem? hz)
   have gc:=gz.c
   have hf:=look_F (o:=z.o) (P:=fun d=>∀n∈d.names,zaF n=0) gz.gd.names gc.gd (t:=t) mq
   have hk:=look_ok (o:=z.o) gc (t:=t) mq
   refine⟨hk,?_,zjr gz.gd.names,fun n hn=>?_,hf.dat,?_⟩
   ·have:=hf.dl
    have:=gc.len
    show(za3 z.o z.recs q t).data.length≤1000
    omega
   ·obtain⟨d,hd,h2⟩:=zcV hn
    exact(zd4 (hf.dat d hd n h2)).m
   ·intro h4
    dsimp only at h4 ⊢
    have hu:zaY q z.o=true:=by
     cases hu:zaY q z.o with
     |true=>rfl
     |false=>
      unfold za3 at h4
      rw[if_pos hu]at h4
      cases h4
    cases hcut:cutL z.o z.recs q with
    |none=>exact absurd h4 (zjq (t:=t) hu hcut).1
    |some c=>
     obtain⟨_,hcase⟩:=look_cut gc.srt hu hcut
     rcases hcase with ⟨_,c2,hne⟩| ⟨_,c2⟩
     ·rw[c2 t]
      show zaz 2 (datC z.recs c 2)≠ []
      obtain⟨d,hd⟩:=List.exists_mem_of_ne_nil _ hne
      obtain⟨r,hr,rfl⟩:=zdo hd
      have hl:=gz.gd.lead r hr (by rw[zen hd];exact .inl rfl)
      obtain⟨x,hx⟩:∃x,r.dat.names.head? =some x:=by
       cases hn:r.dat.names with
       |nil=>rw[hn]at hl;cases hl
       |cons x l=>exact⟨x,rfl⟩
      intro he
      have:x∈zaz 2 (datC z.recs c 2):=by
       unfold zaz
       rw[if_pos (by decide)]
       exact List.mem_filterMap.2 ⟨_,hd,hx⟩
      rw[he]at this;cases this
     ·have:=c2 t;omega
 ·exact hno
def zc1(N:NetL)(s:zax)(t:Int):List zax:=
 if s.fin=0 then
  (if (askN N s.sv s.name t).kind=1 then endS s 1 else if (askN N s.sv s.name t).kind=2 then endS s 2 else if (askN N s.sv s.name t).kind=3 then endS s 3 else if (askN N s.sv s.name t).kind=6 then endS s 4 else if (askN N s.sv s.name t).kind=5 then zd6 N s (askN N s.sv s.name t).name
  else if (askN N s.sv s.name t).kind=4 then zet N s (askN N s.sv s.name t) else if s.ref=true then endS s 6 else endS s 5)
 else []
structure StB(s:zax):Prop where
 nm:NmM s.name
 rw0:0≤s.rw
 rw1:s.rw≤1000000
 rf0:0≤s.rf
 rf1:s.rf≤1000000
set_option maxHeartbeats 2000000 in
theorem zgO{w0 w:World}(hE0:Ext w0 w){cs sc:List Value}{N:NetL}{s:zax}{t:Int}(hN:NetAt w0 cs N)(hG:NetZ N)(hs:StC w sc s)(bs:StB s):
  Fn Tryz.prog 38 #[.agg cs.toArray,.agg sc.toArray,vi t] w (fun v w'=>Ext w w'∧Rows 6 (StC w') w' v (zc1 N s t)):=by
 have hN0:=hN
 obtain⟨hv,rv,rfl,hh,hro⟩:=hN.ex
 obtain⟨nv,rfl,hr⟩:=hs.ex
 obtain⟨ah,ch,hhv,_⟩:=hh.open
 obtain⟨ar,cr,hrv,_⟩:=id hro
 obtain⟨an,cn,hnv,_⟩:=id hr
 unfold stV
 refine enter Tryz.func38 Tryz.ntmps38 rfl rfl ?_
 repeat refine c_r ?_
 rw[hhv,hrv,hnv]
 refine rg0 ?_
 rw[←hhv,←hrv,←hnv]
 repeat refine c_r ?_
 rw[zam]
 refine zaH ?_
 intro w1 hE1 hs1 hA hB
 have p5:zaf w1 (some ⟨w.heap.size+1,5,Option.none⟩)=some (vi s.fin):=zac hB rfl
 have p0:zaf w1 (some ⟨w.heap.size+1,0,Option.none⟩)=some (vi s.sv):=zac hB rfl
 have p1:zaf w1 (some ⟨w.heap.size+1,1,Option.none⟩)=some nv:=zac hB rfl
 have p4:zaf w1 (some ⟨w.heap.size+1,4,Option.none⟩)=some (.bool s.ref):=zac hB rfl
 have dN:zat w1 (some ⟨w.heap.size,0,Option.none⟩) 4=some [hv,rv,vi N.rw,vi N.rf]:=zah hA rfl
 have dS:zat w1 (some ⟨w.heap.size+1,0,Option.none⟩) 6=some (stV nv s):=zah hB rfl
 repeat refine c_r ?_
 unfold zc1
 by_cases hf:s.fin=0
 rotate_left
 ·rw[if_neg hf]
  refine rg3 p5 Nat.zero_add (decide_eq_false hf) ?_
  repeat refine c_r ?_
  refine wt Bool.not_false ?_
  repeat (first|refine c_r ?_|refine rg0 ?_)
  refine rt0 Tryz.ntmps38 ?_
  exact⟨hE1,Rows.nil _ _ _⟩
 rw[if_pos hf]
 refine rg3 p5 Nat.zero_add (decide_eq_true hf) ?_
 repeat refine c_r ?_
 refine wf Bool.not_true ?_
 repeat refine c_r ?_
 refine rq ?_;intro gd K hgd hK
 try simp (disch:=first|omega|assumption|rfl) only[go_sem,dN,p0,p1,Nat.add_zero,Nat.zero_add]
 refine Fn.mono (Ask_ok (s:=s.sv) (t:=t) (hE0.trans hE1) hN0 hG (hr.ext hE1) bs.nm) ?_
 rintro _ w2 ⟨hE2,cs,rfl,hres⟩
 have hra:=hres.at ((hE0.trans hE1).trans hE2)
 have hF:=zlt (s:=s.sv) (t:=t) hG bs.nm
 try simp only[go_sem]
 refine zbo (P:=Tryz.prog) (l:=cs) (by rw[hres.cells.1];rfl) hres.cells.2 (by rw[hres.cells.1];rfl) rfl ?_
 intro w3 hE3 hs3 hB3
 try simp only[go_sem]
 refine hK _ _ ?_;clear hK hgd;clear K;try clear gd
 obtain⟨r,hre⟩:∃r,askN N s.sv s.name t=r:=⟨_,rfl⟩
 rw[hre]at hra hF hres ⊢
 have hra3:=hra.ext hE3
 have d3:=zah (n:=5) hB3 hres.cells.1.symm
 obtain⟨b,hb⟩:∃b,w2.heap.size=b:=⟨_,rfl⟩
 rw[hb]at hB3 d3 ⊢
 have hE23:=hE2.trans hE3
 have hE13:=hE1.trans hE23
 have hE03:=hE0.trans hE13
 have dN3:=zae hE23 dN
 have dS3:=zae hE23 dS
 have p43:=zab hE23 p4
 clear hres hra p5 p0 p1 p4 dN dS
 have k0:zaf w3 (some ⟨b,0,Option.none⟩)=some (vi r.kind):=by
  obtain⟨dv,mv,gv,e,_⟩:=hra3.ex
  rw[e]at hB3
  exact zac hB3 rfl
 have hrn:=hr.ext hE13
 repeat refine c_r ?_
 refine rg2 k0 Nat.add_zero ?_
 repeat refine c_r ?_
 by_cases k1:r.kind=1
 ·rw[if_pos k1]
  refine rg1 (decide_eq_true k1) ?_
  repeat refine c_r ?_
  refine wt trivial ?_
  repeat refine c_r ?_
  refine rc dS3 (zcO w3 hrn s 1) ?_
  rintro v w4 ⟨hE4,hv⟩
  refine re trivial ?_
  repeat refine c_r ?_
  refine rt0 Tryz.ntmps38 ?_
  exact⟨hE13.trans hE4,zbp hv fun x hx=>by rw[za5 hx];exact hrn.ext hE4⟩
 rw[if_neg k1]
 refine rg1 (decide_eq_false k1) ?_
 repeat refine c_r ?_
 refine wf trivial ?_
 repeat refine c_r ?_
 by_cases k2:r.kind=2
 ·rw[if_pos k2]
  refine rg1 (decide_eq_true k2) ?_
  repeat refine c_r ?_
  refine wt trivial ?_
  repeat refine c_r ?_
  refine rc dS3 (zcO w3 hrn s 2) ?_
  rintro v w4 ⟨hE4,hv⟩
  refine re trivial ?_
  repeat refine c_r ?_
  refine rt0 Tryz.ntmps38 ?_
  exact⟨hE13.trans hE4,zbp hv fun x hx=>by rw[za5 hx];exact hrn.ext hE4⟩
 rw[if_neg k2]
 refine rg1 (decide_eq_false k2) ?_
 repeat refine c_r ?_
 refine wf trivial ?_
 repeat refine c_r ?_
 by_cases k3:r.kind=3
 ·rw[if_pos k3]
  refine rg1 (decide_eq_true k3) ?_
  repeat refine c_r ?_
  refine wt trivial ?_
  repeat refine c_r ?_
  refine rc dS3 (zcO w3 hrn s 3) ?_
  rintro v w4 ⟨hE4,hv⟩
  refine re trivial ?_
  repeat refine c_r ?_
  refine rt0 Tryz.ntmps38 ?_
  exact⟨hE13.trans hE4,zbp hv fun x hx=>by rw[za5 hx];exact hrn.ext hE4⟩
 rw[if_neg k3]
 refine rg1 (decide_eq_false k3) ?_
 repeat refine c_r ?_
 refine wf trivial ?_
 repeat refine c_r ?_
 by_cases k6:r.kind=6
 ·rw[if_pos k6]
  refine rg1 (decide_eq_true k6) ?_
  repeat refine c_r ?_
  refine wt trivial ?_
  repeat refine c_r ?_
  refine rc dS3 (zcO w3 hrn s 4) ?_
  rintro v w4 ⟨hE4,hv⟩
  refine re trivial ?_
  repeat refine c_r ?_
  refine rt0 Tryz.ntmps38 ?_
  exact⟨hE13.trans hE4,zbp hv fun x hx=>by rw[za5 hx];exact hrn.ext hE4⟩
 rw[if_neg k6]
 refine rg1 (decide_eq_false k6) ?_
 repeat refine c_r ?_
 refine wf trivial ?_
 repeat refine c_r ?_
 by_cases k5:r.kind=5
 ·rw[if_pos k5]
  refine rg1 (decide_eq_true k5) ?_
  repeat refine c_r ?_
  refine wt trivial ?_
  obtain⟨dv,mv,gv,e,_,hnm,_⟩:=hra3.ex
  rw[e]at hB3
  have k2:zaf w3 (some ⟨b,2,Option.none⟩)=some mv:=zac hB3 rfl
  repeat refine c_r ?_
  refine rc (an4 dS3 dN3 k2 Nat.zero_add) (alias_ok hE03 hN0 hG hrn hnm (zd4 (hF.nm k5)).m bs.rw0 bs.rw1) ?_
  rintro v w4 ⟨hE4,hv⟩
  refine re trivial ?_
  repeat refine c_r ?_
  refine rt0 Tryz.ntmps38 ?_
  exact⟨hE13.trans hE4,hv⟩
 rw[if_neg k5]
 refine rg1 (decide_eq_false k5) ?_
 repeat refine c_r ?_
 refine wf trivial ?_
 repeat refine c_r ?_
 by_cases k4:r.kind=4
 ·rw[if_pos k4]
  refine rg1 (decide_eq_true k4) ?_
  repeat refine c_r ?_
  refine wt trivial ?_
  repeat refine c_r ?_
  refine rc (an3 dS3 dN3 d3) (refer_ok hE03 hN0 hG hrn hra3 hF.ok hF.dl hF.tg bs.rf0 bs.rf1) ?_
  rintro v w4 ⟨hE4,hv⟩
  refine re trivial ?_
  repeat refine c_r ?_
  refine rt0 Tryz.ntmps38 ?_
  exact⟨hE13.trans hE4,hv⟩
 rw[if_neg k4]
 refine rg1 (decide_eq_false k4) ?_
 repeat refine c_r ?_
 refine wf trivial ?_
 repeat refine c_r ?_
 refine rg2 p43 Nat.add_zero ?_
 repeat refine c_r ?_
 cases hrf:s.ref with
 |true=>
  rw[if_pos rfl]
  refine wt hrf ?_
  repeat refine c_r ?_
  refine rc dS3 (zcO w3 hrn s 6) ?_
  rintro v w4 ⟨hE4,hv⟩
  refine re trivial ?_
  repeat refine c_r ?_
  refine rt0 Tryz.ntmps38 ?_
  exact⟨hE13.trans hE4,zbp hv fun x hx=>by rw[za5 hx];exact hrn.ext hE4⟩
 |false=>
  rw[if_neg Bool.false_ne_true]
  refine wf hrf ?_
  repeat refine c_r ?_
  refine rc dS3 (zcO w3 hrn s 5) ?_
  rintro v w4 ⟨hE4,hv⟩
  refine re trivial ?_
  repeat refine c_r ?_
  refine rt0 Tryz.ntmps38 ?_
  exact⟨hE13.trans hE4,zbp hv fun x hx=>by rw[za5 hx];exact hrn.ext hE4⟩
structure zfH where
 o:Nm
 path:Lab
structure SrvL where
 host:Nm
 addr:List UInt8
 places:List zfH
structure zgQ where
 servers:List SrvL
 roots:List Int
 rw:Int
 rf:Int
structure PlaceC(w:World)(cs:List Value)(p:zfH):Prop where
 ex:∃ov,cs=[ov,vs p.path]∧Row w ov (p.o.map vs)
structure SrvC(w:World)(cs:List Value)(s:SrvL):Prop where
 ex:∃nv a b c d pv,cs=[nv,zag a,zag b,zag c,zag d,pv]∧s.addr=[a,b,c,d]∧Row w nv (s.host.map vs)∧Rows 2 (PlaceC w) w pv s.places
structure ConfAt(w:World)(cs:List Value)(c:zgQ):Prop where
 ex:∃sv rv,cs=[sv,rv,vi c.rw,vi c.rf]∧Rows 6 (SrvC w) w sv c.servers∧Row w rv (c.roots.map vi)
theorem PlaceC.ext{w x:World}{cs:List Value}{p:zfH}(h:PlaceC w cs p)(hE:Ext w x):PlaceC x cs p:=by
 obtain⟨ov,e,h1⟩:=h.ex
 exact⟨ov,e,h1.ext hE⟩
theorem SrvC.ext{w x:World}{cs:List Value}{z:SrvL}(h:SrvC w cs z)(hE:Ext w x):SrvC x cs z:=by
 obtain⟨nv,a,b,c,d,zv,e,ha,h1,h2⟩:=h.ex
 exact⟨nv,a,b,c,d,zv,e,ha,h1.ext hE,Rows.extC (fun _ _ h=>PlaceC.ext h hE) h2 hE⟩
theorem ConfAt.ext{w x:World}{cs:List Value}{z:zgQ}(h:ConfAt w cs z)(hE:Ext w x):ConfAt x cs z:=by
 obtain⟨hv,rv,e,h1,h2⟩:=h.ex
 exact⟨hv,rv,e,Rows.extC (fun _ _ h=>SrvC.ext h hE) h1 hE,h2.ext hE⟩
structure Sh(n:Nm):Prop where
 len:n.length≤130
 lb:∀l∈n,l.length≤100
theorem Sh.m{n:Nm}(h:Sh n):NmM n:=⟨fun l hl=>by have:=h.lb l hl;omega,by have:=h.len;omega⟩
structure FewC(c:zgQ):Prop where
 sl:c.servers.length≤20
 rl:c.roots.length≤20
 s:∀s∈c.servers,Sh s.host∧s.places.length≤20∧∀p∈s.places,Sh p.o∧p.path.length≤50
theorem zi9(w:World){a:Value}{n:Nm}(ha:Row w a (n.map vs)):
  Fn Tryz.prog 151 #[a] w (fun v w'=>Ext w w'∧∃t,v= .bool t∧(t=true→Sh n)):=by
 obtain⟨a1,c1,rfl,_,h1⟩:=ha
 simp only[List.length_map,List.getElem_map]at h1 ⊢
 refine enter Tryz.func151 Tryz.ntmps151 rfl rfl ?_
 repeat refine c_r ?_
 refine rg0 ?_
 repeat refine c_r ?_
 by_cases hn:(n.length:Int)>130
 ·refine rg1 (decide_eq_true hn) ?_
  repeat refine c_r ?_
  refine wt trivial ?_
  repeat (first|refine c_r ?_|refine rg0 ?_)
  refine rt0 Tryz.ntmps151 ?_
  exact⟨Keep.refl _ _,_,rfl,fun h=>by cases h⟩
 refine rg1 (decide_eq_false hn) ?_
 repeat refine c_r ?_
 refine wf trivial ?_
 repeat refine c_r ?_
 refine rg0 ?_
 repeat refine c_r ?_
 refine zap (fun m σ ds A=>ds=[]∧∃(i:Nat),i+m=n.length∧σ 3=vi i∧σ 0= .slice a1 n.length c1∧Ext w A∧∀j (h:j<n.length),j<i→n[j].length≤100) n.length ?_ ?_
 ·exact⟨rfl,0,by omega,vr0,vq0,Keep.refl _ _,fun j h h2=>absurd h2 (by omega)⟩
 rintro m σ ds A ⟨rfl,i,him,s3,s0,hEA,ht⟩
 repeat refine c_r ?_
 refine rg2 s3 s0 ?_
 repeat refine c_r ?_
 refine wc0 ?_ ?_
 ·intro hlt
  simp only[decide_eq_true_eq]at hlt
  have hi:i<n.length:=by omega
  have hi0:(0:Int)≤(i:Int):=by omega
  have hi1':(i:Int)+1=((i+1:Nat):Int):=by push_cast;rfl
  have g1:=zab hEA (h1 i hi)
  obtain⟨x1,rfl⟩:=Option.isSome_iff_exists.1 (zai (h1 i hi))
  repeat refine c_r ?_
  refine rq ?_;intro gd K hgd hK;simp (disch:=first|omega|assumption|rfl) only[go_sem,s3,s0,hi0,hlt,g1,Nat.mul_one];refine hK _ _ ?_;clear hK hgd;clear K gd
  repeat refine c_r ?_
  by_cases hl:(n[i].length:Int)>100
  ·refine wt (decide_eq_true hl) ?_
   repeat (first|refine c_r ?_|refine rg0 ?_)
   refine rt0 Tryz.ntmps151 ?_
   exact⟨hEA,_,rfl,fun h=>by cases h⟩
  ·refine wf (decide_eq_false hl) ?_
   repeat refine c_r ?_
   refine rg2 s3 hi1' ?_
   repeat refine c_r ?_
   refine⟨m - 1,by omega,rfl,i+1,by omega,vq0,(vq1 s0),hEA,fun j hj hji=>?_⟩
   by_cases hj2:j=i
   ·subst hj2;omega
   ·exact ht j hj (by omega)
 ·intro hge
  simp only[decide_eq_false_iff_not]at hge
  repeat (first|refine c_r ?_|refine rg0 ?_)
  refine rt0 Tryz.ntmps151 ?_
  refine⟨hEA,_,rfl,fun _=>⟨by omega,fun l hl=>?_⟩⟩
  obtain⟨j,hj,rfl⟩:=List.mem_iff_getElem.1 hl
  exact ht j hj (by omega)
theorem RPath_ok(w:World){l:Lab}(hl:l.length≤1000000):
  Fn Tryz.prog 193 #[vs l] w (fun v w'=>Ext w w'∧∃t,v= .bool t):=by
 refine enter Tryz.func193 Tryz.ntmps193 rfl rfl ?_
 repeat refine c_r ?_
 refine rg0 ?_
 repeat refine c_r ?_
 refine rg0 ?_
 repeat refine c_r ?_
 refine zap (fun m σ ds A=>ds=[]∧∃(i:Nat),i+m=l.length∧σ 3=vi i∧σ 0=vs l∧Ext w A) l.length ?_ ?_
 ·exact⟨rfl,0,by omega,vr0,vq0,Keep.refl _ _⟩
 rintro m σ ds A ⟨rfl,i,him,s3,s0,hEA⟩
 repeat refine c_r ?_
 refine rg2 s3 s0 ?_
 repeat refine c_r ?_
 refine wc0 ?_ ?_
 ·intro hlt
  simp only[decide_eq_true_eq]at hlt
  have hi:i<l.length:=by omega
  have hi0:(0:Int)≤(i:Int):=by omega
  have hi2:((i:Int)).toNat<l.length:=by omega
  have hi1':(i:Int)+1=((i+1:Nat):Int):=by push_cast;rfl
  repeat refine c_r ?_
  refine rg2 s3 s0 ?_
  repeat refine c_r ?_
  refine wc0 ?_ ?_
  ·intro _
   repeat (first|refine c_r ?_|refine rg0 ?_)
   refine rt0 Tryz.ntmps193 ?_
   exact⟨hEA,_,rfl⟩
  ·intro _
   repeat refine c_r ?_
   refine rg2 s3 hi1' ?_
   repeat refine c_r ?_
   exact⟨m - 1,by omega,rfl,i+1,by omega,vq0,(vq1 s0),hEA⟩
 ·intro hge
  repeat refine c_r ?_
  refine rg1 s0 ?_
  repeat refine c_r ?_
  refine rt0 Tryz.ntmps193 ?_
  exact⟨hEA,_,rfl⟩
theorem ziB{w:World}{sv:Value}{l:List SrvL}(hs:Rows 6 (SrvC w) w sv l):∃a c,sv= .slice a l.length c∧∀i (h:i<l.length),∃xa xi x5 nv ap cp,a=some xa∧adr (some xa) (i*6)=some xi∧adr (some xi) 5=some x5∧zaf w (some xi)=some nv∧Row w nv (l[i].host.map vs)∧
  zaf w (some x5)=some (.slice ap l[i].places.length cp)∧(∃b1 b2 b3 b4,l[i].addr=[b1,b2,b3,b4]∧zat w (some xi) 6=some [nv,zag b1,zag b2,zag b3,zag b4,.slice ap l[i].places.length cp])∧Rows 2 (PlaceC w) w (.slice ap l[i].places.length cp) l[i].places∧
  ∀k (h:k<l[i].places.length),∃xp xk xk1 ov,ap=some xp∧adr (some xp) (k*2)=some xk∧adr (some xk) 1=some xk1∧zaf w (some xk)=some ov∧Row w ov (l[i].places[k].o.map vs)∧zaf w (some xk1)=some (vs l[i].places[k].path):=by
 obtain⟨a,c,rfl,_,hg⟩:=hs.open
 refine⟨a,c,rfl,fun i hi=>?_⟩
 obtain⟨cs,hcs,hS⟩:=hg i hi
 obtain⟨nv,b1,b2,b3,b4,pv,rfl,ha,hn,hp⟩:=hS.ex
 have hp0:=hp
 obtain⟨ap,cp,rfl,_,hgp⟩:=hp.open
 obtain⟨xa,rfl⟩:=Option.isSome_iff_exists.1 (zan hcs)
 obtain⟨xi,hxi⟩:∃xi,adr (some xa) (i*6)=some xi:=⟨_,rfl⟩
 obtain⟨x5,hx5⟩:∃x,adr (some xi) 5=some x:=⟨_,rfl⟩
 rw[hxi]at hcs
 have h0:=zaj (j:=0) hcs rfl
 rw[zak]at h0
 have h5:=zaj (j:=5) hcs rfl
 rw[hx5]at h5
 refine⟨xa,xi,x5,nv,ap,cp,rfl,hxi,hx5,h0,hn,h5,⟨b1,b2,b3,b4,ha,hcs⟩,hp0,fun k hk=>?_⟩
 obtain⟨c2,hc2,hP⟩:=hgp k hk
 obtain⟨ov,rfl,ho⟩:=hP.ex
 obtain⟨xp,rfl⟩:=Option.isSome_iff_exists.1 (zan hc2)
 obtain⟨xk,hxk⟩:∃xi,adr (some xp) (k*2)=some xi:=⟨_,rfl⟩
 obtain⟨xk1,hxk1⟩:∃x,adr (some xk) 1=some x:=⟨_,rfl⟩
 rw[hxk]at hc2
 have g0:=zaj (j:=0) hc2 rfl
 rw[zak]at g0
 have g1:=zaj (j:=1) hc2 rfl
 rw[hxk1]at g1
 exact⟨xp,xk,xk1,ov,rfl,hxk,hxk1,g0,ho,g1⟩
set_option maxHeartbeats 2000000 in
theorem Few15_ok(w:World){cs:List Value}{c:zgQ}(hc:ConfAt w cs c):
  Fn Tryz.prog 92 #[.agg cs.toArray] w (fun v w'=>Ext w w'∧∃t,v= .bool t∧(t=true→FewC c)):=by
 obtain⟨sv,rv,rfl,hs,hr⟩:=hc.ex
 obtain⟨aS,cS,rfl,hat⟩:=ziB hs
 obtain⟨ar,cr,rfl,_⟩:=hr
 simp only[List.length_map]
 refine enter Tryz.func92 Tryz.ntmps92 rfl rfl ?_
 repeat refine c_r ?_
 refine rg0 ?_
 repeat refine c_r ?_
 refine zaA ?_
 intro w1 hE1 hs1 hA
 have p0:zaf w1 (some ⟨w.heap.size,0,Option.none⟩)=some (.slice aS c.servers.length cS):=zac hA rfl
 have p1:zaf w1 (some ⟨w.heap.size,1,Option.none⟩)=some (.slice ar c.roots.length cr):=zac hA rfl
 repeat refine c_r ?_
 by_cases h1:(c.servers.length:Int)>20
 ·refine rgg [(4,9)] (an3 p0 Nat.add_zero (decide_eq_true h1)) ?_
  repeat refine c_r ?_
  refine wt trivial ?_
  repeat (first|refine c_r ?_|refine rg0 ?_)
  refine rt0 Tryz.ntmps92 ?_
  exact⟨hE1,_,rfl,fun h=>by cases h⟩
 by_cases h2:(c.roots.length:Int)>20
 ·refine rgg [(4,9)] (an6 p0 Nat.add_zero (decide_eq_false h1) p1 Nat.zero_add (decide_eq_true h2)) ?_
  repeat refine c_r ?_
  refine wt trivial ?_
  repeat (first|refine c_r ?_|refine rg0 ?_)
  refine rt0 Tryz.ntmps92 ?_
  exact⟨hE1,_,rfl,fun h=>by cases h⟩
 refine rgg [(4,9)] (an6 p0 Nat.add_zero (decide_eq_false h1) p1 Nat.zero_add (decide_eq_false h2)) ?_
 repeat refine c_r ?_
 refine wf trivial ?_
 repeat refine c_r ?_
 refine rg0 ?_
 repeat refine c_r ?_
 refine zap (fun m σ ds A=>ds=[]∧∃(i:Nat),i+m=c.servers.length∧σ 3=vi i∧σ 1= .pointer (some ⟨w.heap.size,0,Option.none⟩)∧Ext w1 A∧∀j (h:j<c.servers.length),j<i→Sh c.servers[j].host∧c.servers[j].places.length≤20∧∀p∈c.servers[j].places,Sh p.o∧p.path.length≤50) c.servers.length ?_ ?_
 ·exact⟨rfl,0,by omega,vr0,vq0,Keep.refl _ _,fun j h h2=>absurd h2 (by omega)⟩
 rintro m σ ds A ⟨rfl,i,him,s3,s1,hEA,ht⟩
 have p0A:=zab hEA p0
 repeat refine c_r ?_
 refine rg4 s3 s1 p0A Nat.add_zero ?_
 repeat refine c_r ?_
 refine wc0 ?_ ?_
 ·intro hlt
  simp only[decide_eq_true_eq]at hlt
  have hi:i<c.servers.length:=by omega
  have hi0:(0:Int)≤(i:Int):=by omega
  have hi1':(i:Int)+1=((i+1:Nat):Int):=by push_cast;rfl
  obtain⟨xa,xi,x5,nv,ap,cp,rfl,hxi,hx5,g0,hn,g5,_,_,hpl⟩:=hat i hi
  obtain⟨s,hse⟩:∃s,c.servers[i]=s:=⟨_,rfl⟩
  rw[hse]at hn g5
  simp only[hse]at hpl
  have hz0:adr (some xi) 0=some xi:=zak _
  have g0A:=zab (hE1.trans hEA) g0
  repeat refine c_r ?_
  refine rcg [(8,30)] (an9 s3 s1 p0A Nat.add_zero hi0 hlt hxi hz0 g0A) (zi9 A (hn.ext (hE1.trans hEA))) ?_
  rintro _ A1 ⟨hE2,t,rfl,hsh⟩
  have hEA1:=hEA.trans hE2
  have p0B:=zab hEA1 p0
  have g5B:=zab (hE1.trans hEA1) g5
  cases t with
  |false=>
   refine reg [(8,30)] Bool.not_false ?_
   repeat refine c_r ?_
   refine wt trivial ?_
   repeat (first|refine c_r ?_|refine rg0 ?_)
   refine rt0 Tryz.ntmps92 ?_
   exact⟨hE1.trans hEA1,_,rfl,fun h=>by cases h⟩
  |true=>
  by_cases h3:(s.places.length:Int)>20
  ·refine reg [(8,30)] (an2 (an9 s3 s1 p0B Nat.add_zero hi0 hlt hxi hx5 g5B) (an2 Bool.not_true (decide_eq_true h3))) ?_
   repeat refine c_r ?_
   refine wt trivial ?_
   repeat (first|refine c_r ?_|refine rg0 ?_)
   refine rt0 Tryz.ntmps92 ?_
   exact⟨hE1.trans hEA1,_,rfl,fun h=>by cases h⟩
  refine reg [(8,30)] (an2 (an9 s3 s1 p0B Nat.add_zero hi0 hlt hxi hx5 g5B) (an2 Bool.not_true (decide_eq_false h3))) ?_
  repeat refine c_r ?_
  refine wf trivial ?_
  repeat refine c_r ?_
  refine rg0 ?_
  repeat refine c_r ?_
  refine zap (fun m σ ds B=>ds=[]∧∃(k:Nat),k+m=s.places.length∧σ 4=vi k∧σ 3=vi i∧σ 1= .pointer (some ⟨w.heap.size,0,Option.none⟩)∧Ext w1 B∧∀j (h:j<s.places.length),j<k→Sh s.places[j].o∧s.places[j].path.length≤50) s.places.length ?_ ?_
  ·exact⟨rfl,0,by omega,vr0,(vq1 s3),(vq1 s1),hEA1,fun j h h2=>absurd h2 (by omega)⟩
  clear s3 s1
  rintro m2 σ2 ds2 B ⟨rfl,k,hkm,s4,s3,s1,hEB,ht2⟩
  have p0C:=zab hEB p0
  have g5C:=zab (hE1.trans hEB) g5
  repeat refine c_r ?_
  refine rg9 s4 s3 s1 (an3 p0C Nat.add_zero g5C) hi0 hlt hxi hx5 trivial ?_
  repeat refine c_r ?_
  refine wc0 ?_ ?_
  ·intro hlt2
   simp only[decide_eq_true_eq]at hlt2
   have hk:k<s.places.length:=by omega
   have hk0:(0:Int)≤(k:Int):=by omega
   have hk1':(k:Int)+1=((k+1:Nat):Int):=by push_cast;rfl
   obtain⟨xp,xk,xk1,ov,rfl,hxk,hxk1,f0,ho,f1⟩:=hpl k hk
   have hz1:adr (some xk) 0=some xk:=zak _
   have f0C:=zab (hE1.trans hEB) f0
   repeat refine c_r ?_
   refine rcg [(12,63)] (an2 (an9 s4 s3 s1 p0C Nat.add_zero g5C hi0 hlt hxi) (an7 hx5 hk0 hlt2 hxk hz1 f0C trivial)) (zi9 B (ho.ext (hE1.trans hEB))) ?_
   rintro _ B1 ⟨hE3,t,rfl,hsh2⟩
   have hEB1:=hEB.trans hE3
   cases t with
   |false=>
    refine reg [(12,63)] Bool.not_false ?_
    repeat refine c_r ?_
    refine wt trivial ?_
    repeat (first|refine c_r ?_|refine rg0 ?_)
    refine rt0 Tryz.ntmps92 ?_
    exact⟨hE1.trans hEB1,_,rfl,fun h=>by cases h⟩
   |true=>
   have p0D:=zab hEB1 p0
   have g5D:=zab (hE1.trans hEB1) g5
   have f1D:=zab (hE1.trans hEB1) f1
   by_cases h4:((s.places[k].path).length:Int)>50
   ·refine reg [(12,63)] (an3 (an9 s4 s3 s1 p0D Nat.add_zero g5D hi0 hlt hxi) (an6 hx5 hk0 hlt2 hxk hxk1 f1D) (an2 Bool.not_true (decide_eq_true h4))) ?_
    repeat refine c_r ?_
    refine wt trivial ?_
    repeat (first|refine c_r ?_|refine rg0 ?_)
    refine rt0 Tryz.ntmps92 ?_
    exact⟨hE1.trans hEB1,_,rfl,fun h=>by cases h⟩
   refine reg [(12,63)] (an3 (an9 s4 s3 s1 p0D Nat.add_zero g5D hi0 hlt hxi) (an6 hx5 hk0 hlt2 hxk hxk1 f1D) (an2 Bool.not_true (decide_eq_false h4))) ?_
   repeat refine c_r ?_
   refine wf trivial ?_
   repeat refine c_r ?_
   refine rg2 s4 hk1' ?_
   repeat refine c_r ?_
   refine⟨m2 - 1,by omega,rfl,k+1,by omega,vq0,(vq1 s3),(vq1 s1),hEB1,fun j hj hjk=>?_⟩
   by_cases hj2:j=k
   ·subst hj2;exact⟨hsh2 rfl,by omega⟩
   ·exact ht2 j hj (by omega)
  ·intro hge2
   simp only[decide_eq_false_iff_not]at hge2
   repeat refine c_r ?_
   refine rg2 s3 hi1' ?_
   repeat refine c_r ?_
   refine⟨m - 1,by omega,rfl,i+1,by omega,vq0,(vq1 s1),hEB,fun j hj hji=>?_⟩
   by_cases hj2:j=i
   ·subst hj2
    rw[hse]
    refine⟨hsh rfl,by omega,fun p hp=>?_⟩
    obtain⟨k2,hk2,rfl⟩:=List.mem_iff_getElem.1 hp
    exact ht2 k2 hk2 (by omega)
   ·exact ht j hj (by omega)
 ·intro hge
  simp only[decide_eq_false_iff_not]at hge
  repeat (first|refine c_r ?_|refine rg0 ?_)
  refine rt0 Tryz.ntmps92 ?_
  refine⟨hE1.trans hEA,_,rfl,fun _=>⟨by omega,by omega,fun s hs=>?_⟩⟩
  obtain⟨j,hj,rfl⟩:=List.mem_iff_getElem.1 hs
  exact ht j hj (by omega)
section
variable {P : Program} {d : Option Tmp} {ty : TypeId} {ps : String} {af : Array Edge} {g : Option (Nat × Bool)} {ρ : Operand → Value} {w : World} {K : Value → World → Prop}
theorem zeM{e:TypeId}{cs:Array Value}{i:Nat}{v:Value}(he:P.underlying e=some (.int .u8))(hv:cs[i]? =some v):(part e cs i).run P w= .ok v w:=by
 have hi:(isAgg e).run P w= .ok false w:=by simp[isAgg,underlying,program,Sem.run,he]
 unfold part
 simp only[Sem.run_bind,hi,Result.andThen_ok,Bool.false_eq_true,if_false,hv,Sem.run_pure]
theorem zc3{e:TypeId}(he:P.underlying e=some (.int .u8))(n:Nat)(a b:UInt8):(Op.equalIn (n+1) e (zag a) (zag b)).run P w= .ok (decide (a=b)) w:=by
 have:((a.toNat:Int)==(b.toNat:Int))=decide (a=b):=by
  by_cases h:a=b
  ·subst h;simp
  ·rw[decide_eq_false h]
   have:a.toNat≠b.toNat:=fun h2=>h (UInt8.toNat_inj.1 h2)
   simp;omega
 simp[Op.equalIn,underlying,program,Sem.run,he,zag,this]
theorem eqIn_arr{t e:TypeId}{inf:TypeInfo}(ht:P.underlying t=some (.array 4 e))(he:P.underlying e=some (.int .u8))(hi:P.info? e=some inf)(hs:inf.size=1)(n:Nat)(a b c d a' b' c' d':UInt8):
  (Op.equalIn (n+2) t (.agg #[zag a,zag b,zag c,zag d]) (.agg #[zag a',zag b',zag c',zag d'])).run P w= .ok (decide ([a,b,c,d]=[a',b',c',d'])) w:=by
 rw[Op.equalIn]
 have hsz:(sizeOf e).run P w= .ok 1 w:=by simp[sizeOf,typeInfo,program,Sem.run,hi,hs]
 have hu:(underlying t).run P w= .ok (.array 4 e) w:=by simp[underlying,program,Sem.run,ht]
 simp only[Sem.run_bind,hu,Result.andThen_ok,hsz,Std.Legacy.Range.forIn_eq_forIn_range',Std.Legacy.Range.size,List.range']
 have p0:∀x0 x1 x2 x3:Value,(part e #[x0,x1,x2,x3] 0).run P w= .ok x0 w:=fun _ _ _ _=>zeM he rfl
 have p1:∀x0 x1 x2 x3:Value,(part e #[x0,x1,x2,x3] 1).run P w= .ok x1 w:=fun _ _ _ _=>zeM he rfl
 have p2:∀x0 x1 x2 x3:Value,(part e #[x0,x1,x2,x3] 2).run P w= .ok x2 w:=fun _ _ _ _=>zeM he rfl
 have p3:∀x0 x1 x2 x3:Value,(part e #[x0,x1,x2,x3] 3).run P w= .ok x3 w:=fun _ _ _ _=>zeM he rfl
 by_cases h1:a=a'
 ·by_cases h2:b=b'
  ·by_cases h3:c=c'
   ·by_cases h4:d=d'
    ·simp[List.forIn_cons,Sem.run_bind,p0,p1,p2,p3,zc3 he,h1,h2,h3,h4]
    ·simp[List.forIn_cons,Sem.run_bind,p0,p1,p2,p3,zc3 he,h1,h2,h3,h4]
   ·simp[List.forIn_cons,Sem.run_bind,p0,p1,p2,p3,zc3 he,h1,h2,h3]
  ·simp[List.forIn_cons,Sem.run_bind,p0,p1,p2,p3,zc3 he,h1,h2]
 ·simp[List.forIn_cons,Sem.run_bind,p0,p1,p2,p3,zc3 he,h1]
theorem op_eqA{t e yt:TypeId}{x y:Operand}{inf:TypeInfo}{a b c d1 a' b' c' d':UInt8}(ht:P.underlying t=some (.array 4 e))(he:P.underlying e=some (.int .u8))(hi:P.info? e=some inf)(hs:inf.size=1)(hg:P.eqGuardType P.depth t=false)
  (hx:ρ x= .agg #[zag a,zag b,zag c,zag d1]) (hy:ρ y= .agg #[zag a',zag b',zag c',zag d']) (h:K (.bool (decide ([a,b,c,d1]=[a',b',c',d']))) w):
  opW P ⟨d,.binOp .eql t x y yt,ty,ps,af,g⟩ ρ w K:=by
 have h2:(Op.equal t (.agg #[zag a,zag b,zag c,zag d1]) (.agg #[zag a',zag b',zag c',zag d'])).run P w= .ok (decide ([a,b,c,d1]=[a',b',c',d'])) w:=eqIn_arr ht he hi hs 9998 a b c d1 a' b' c' d'
 have hr:(do eqGuard .eql t x y (.agg #[zag a,zag b,zag c,zag d1]) (.agg #[zag a',zag b',zag c',zag d']);binOp .eql t (.agg #[zag a,zag b,zag c,zag d1]) (.agg #[zag a',zag b',zag c',zag d']):Sem Value).run P w= .ok (.bool (decide ([a,b,c,d1]=[a',b',c',d']))) w:=by
  simp[eqGuard,binOp,h2,program,Sem.run,hg]
 have:=zaQ (P:=P) (K:=K) hr h
 rw[←hx,←hy]at this
 exact this
end
theorem Sh.lb9{n:Nm}(h:Sh n):(∀l∈n,l.length≤1000000000)∧n.length≤1000000000:=⟨fun l hl=>by have:=h.lb l hl;omega,by have:=h.len;omega⟩
set_option maxHeartbeats 4000000 in
theorem zlB(w:World){cs:List Value}{c:zgQ}(hc:ConfAt w cs c)(hf:FewC c){i:Nat}(hi:i<c.servers.length):
  Fn Tryz.prog 152 #[.agg cs.toArray,vi i] w (fun v w'=>Ext w w'∧∃e,v=vi e):=by
 obtain⟨sv,rv,rfl,hs,hr⟩:=hc.ex
 obtain⟨aS,cS,rfl,hat⟩:=ziB hs
 obtain⟨ar,cr,rfl,_⟩:=hr
 simp only[List.length_map]
 have hsl:=hf.sl
 refine enter Tryz.func152 Tryz.ntmps152 rfl rfl ?_
 repeat refine c_r ?_
 refine rg0 ?_
 repeat refine c_r ?_
 refine zaA ?_
 intro w1 hE1 hs1 hA
 have p0:zaf w1 (some ⟨w.heap.size,0,Option.none⟩)=some (.slice aS c.servers.length cS):=zac hA rfl
 obtain⟨xa,xi,x5,nv,ap,cp,rfl,hxi,hx5,g0,hn,g5,⟨b1,b2,b3,b4,hadr,hcs⟩,hpr,hpl⟩:=hat i hi
 obtain⟨s,hse⟩:∃s,c.servers[i]=s:=⟨_,rfl⟩
 obtain⟨fs1,fs2,fs3⟩:=hf.s s (hse▸List.getElem_mem hi)
 rw[hse]at hn g5 hadr hcs hpr
 simp only[hse]at hpl
 have n1:=hn.isOne
 have i0:(0:Int)≤(i:Int):=by omega
 have i1:(i:Int)<(c.servers.length:Int):=by omega
 have d:=zae hE1 hcs
 repeat refine c_r ?_
 refine rq ?_;intro gd K hgd hK
 try simp (disch:=first|omega|assumption|rfl) only[go_sem,p0,Nat.add_zero,i0,i1,hxi,d]
 refine zbo (P:=Tryz.prog) (l:=[nv,zag b1,zag b2,zag b3,zag b4,.slice ap s.places.length cp]) rfl (fun v hv=>by simp at hv;rcases hv with rfl|rfl|rfl|rfl|rfl|rfl<;>first|exact n1|rfl) rfl rfl ?_
 intro w2 hE2 hs2 hB
 try simp only[go_sem]
 refine hK _ _ ?_;clear hK hgd;clear K;try clear gd
 obtain⟨b5,hb5⟩:∃b,w1.heap.size=b:=⟨_,rfl⟩
 rw[hb5]at hB ⊢
 have hE12:=hE1.trans hE2
 have p02:=zab hE2 p0
 have q0:zaf w2 (some ⟨b5,0,Option.none⟩)=some nv:=zac hB rfl
 have q1:zat w2 (some ⟨b5,1,Option.none⟩) 4=some [zag b1,zag b2,zag b3,zag b4]:=by
  have h6:=zah (n:=6) (l:=[nv,zag b1,zag b2,zag b3,zag b4,.slice ap s.places.length cp]) hB rfl
  have h5:=za9 (m:=1) (k:=5) h6
  rw[za6]at h5
  exact zcE (m:=4) (k:=1) h5
 have q5:zaf w2 (some ⟨b5,5,Option.none⟩)=some (.slice ap s.places.length cp):=zac hB rfl
 repeat refine c_r ?_
 refine rc (an2 q0 Nat.add_zero) (zbw w2 nv s.host (hn.ext hE12) fs1.lb9.1 fs1.lb9.2) ?_
 rintro _ w3 ⟨rfl,hE3⟩
 refine re trivial ?_
 have hE23:=hE12.trans hE3
 repeat refine c_r ?_
 by_cases hck:zaF s.host=0
 rotate_left
 ·refine rg1 (decide_eq_false hck) ?_
  repeat refine c_r ?_
  refine wt Bool.not_false ?_
  repeat (first|refine c_r ?_|refine rg0 ?_)
  refine rt0 Tryz.ntmps152 ?_
  exact⟨hE23,_,rfl⟩
 refine rg1 (decide_eq_true hck) ?_
 repeat refine c_r ?_
 refine wf Bool.not_true ?_
 have p03:=zab hE3 p02
 have q03:=zab hE3 q0
 have q13:=zae hE3 q1
 have q53:=zab hE3 q5
 repeat refine c_r ?_
 refine rg0 ?_
 repeat refine c_r ?_
 refine zap (fun m σ ds A=>ds=[]∧∃(k:Nat),k+m=i∧σ 7=vi k∧σ 1=vi i∧σ 2= .pointer (some ⟨w.heap.size,0,Option.none⟩)∧σ 5= .pointer (some ⟨b5,0,Option.none⟩)∧Ext w3 A) i ?_ ?_
 ·exact⟨rfl,0,by omega,vr0,vq0,vq0,vq0,Keep.refl _ _⟩
 rintro m σ ds A ⟨rfl,k,hkm,s7,s1,s2,s5,hEA⟩
 have hEwA:=hE23.trans hEA
 repeat refine c_r ?_
 refine rg2 s7 s1 ?_
 repeat refine c_r ?_
 refine wc0 ?_ ?_
 ·intro hlt
  simp only[decide_eq_true_eq]at hlt
  have hk:k<c.servers.length:=by omega
  have hk0:(0:Int)≤(k:Int):=by omega
  have hk1:(k:Int)<(c.servers.length:Int):=by omega
  have hk1':(k:Int)+1=((k+1:Nat):Int):=by push_cast;rfl
  obtain⟨xa',xk,_,nv',_,_,hae,hxk,_,f0,hn',_,⟨d1,d2,d3,d4,_,fcs⟩,_,_⟩:=hat k hk
  injection hae with hae
  subst hae
  obtain⟨fsk,_,_⟩:=hf.s _ (List.getElem_mem hk)
  obtain⟨y1,hy1⟩:∃y,adr (some xk) 1=some y:=⟨_,rfl⟩
  have hz0:adr (some xk) 0=some xk:=zak _
  have fby:zat w (some y1) 4=some [zag d1,zag d2,zag d3,zag d4]:=by
   have h5:=za9 (m:=1) (k:=5) fcs
   rw[hy1]at h5
   exact zcE (m:=4) (k:=1) h5
  repeat refine c_r ?_
  refine zaN (fun _=>false) [(0,true),(1,true),(2,true),(3,true),(4,true),(5,true),(6,true),(7,true),(8,false),(9,true),(10,true),(11,true),(12,true),(13,true),(14,true),(15,true),(16,true),(17,true),(18,false),(19,true)] NoS mixed (by kernel_rfl) ?_;intro gd K x hgd hx hxe hK;clear hxe
  have hg9:∀n σ b,zas gd n σ (some (9,b))=zal (ev n σ (.tmp 35)) b:=(fun n σ b=>by rw[zad,show gd 9=some 35 from(by rw[hgd];rfl)];rfl)
  have hW:=hEwA.trans hx
  have p0x:=zab (hEA.trans hx) p03
  have q0x:=zab (hEA.trans hx) q03
  have q1x:=zae (hEA.trans hx) q13
  have f0x:=zab hW f0
  have fbx:=zae hW fby
  simp (disch:=first|omega|assumption|rfl) only[go_sem,s7,s2,s5,p0x,q0x,Nat.add_zero,hk0,hk1,hxk,hz0,f0x]
  refine Fn.mono (zbK x nv' nv _ s.host (hn'.ext hW) (hn.ext hW) fsk.m.LB fs1.m.LB (by have:=fsk.len;omega) (by have:=fs1.len;omega)) ?_
  rintro _ y ⟨rfl,hy⟩
  refine⟨.inr hy,?_⟩
  obtain⟨sm,hsm⟩:∃b,decide (zaq c.servers[k].host=zaq s.host)=b:=⟨_,rfl⟩
  rw[hsm]
  cases sm with
  |true=>
   simp (disch:=first|omega|assumption|rfl) only[go_sem,↓hg9]
   refine hK _ _ ?_;clear hK hgd;clear K;try clear gd
   repeat refine c_r ?_
   refine wt trivial ?_
   repeat (first|refine c_r ?_|refine rg0 ?_)
   refine rt0 Tryz.ntmps152 ?_
   exact⟨hW.trans hy,_,rfl⟩
  |false=>
  have p0y:=zab hy p0x
  have q1y:=zae hy q1x
  have fby':=zae hy fbx
  simp (disch:=first|omega|assumption|rfl) only[go_sem,s7,s2,s5,p0y,Nat.add_zero,hk0,hk1,hxk,hy1,fby',q1y,↓hg9]
  refine op_eqA (a:=d1) (b:=d2) (c:=d3) (d1:=d4) (a':=b1) (b':=b2) (c':=b3) (d':=b4) rfl rfl rfl rfl (by kernel_rfl) (vr0) (vr0) ?_
  refine⟨.inr (Keep.refl _ _),?_⟩
  simp (disch:=first|omega|assumption|rfl) only[go_sem,↓hg9]
  refine hK _ _ ?_;clear hK hgd;clear K;try clear gd
  have hWy:=hW.trans hy
  have hAy:=(hEA.trans hx).trans hy
  repeat refine c_r ?_
  refine wc0 ?_ ?_
  ·intro _
   repeat (first|refine c_r ?_|refine rg0 ?_)
   refine rt0 Tryz.ntmps152 ?_
   exact⟨hWy,_,rfl⟩
  ·intro _
   repeat refine c_r ?_
   refine rg2 s7 hk1' ?_
   repeat refine c_r ?_
   exact⟨m - 1,by omega,rfl,k+1,by omega,vq0,(vq1 s1),(vq1 s2),(vq1 s5),hAy⟩
 intro hge
 clear hkm hge s7
 have q5A:=zab hEA q53
 repeat refine c_r ?_
 by_cases h16:(s.places.length:Int)>16
 ·refine rg4 s5 q5A Nat.zero_add (decide_eq_true h16) ?_
  repeat refine c_r ?_
  refine wt trivial ?_
  repeat (first|refine c_r ?_|refine rg0 ?_)
  refine rt0 Tryz.ntmps152 ?_
  exact⟨hEwA,_,rfl⟩
 refine rg4 s5 q5A Nat.zero_add (decide_eq_false h16) ?_
 repeat refine c_r ?_
 refine wf trivial ?_
 repeat refine c_r ?_
 refine rg0 ?_
 repeat refine c_r ?_
 refine zap (fun m σ ds B=>ds=[]∧∃(k:Nat),k+m=s.places.length∧σ 8=vi k∧σ 5= .pointer (some ⟨b5,0,Option.none⟩)∧Ext w3 B) s.places.length ?_ ?_
 ·exact⟨rfl,0,by omega,vr0,(vq1 s5),hEA⟩
 clear s1 s2 s5 q5A hEwA hEA
 rintro m2 σ2 ds2 B ⟨rfl,k,hkm,s8,s5,hEB⟩
 have hEwB:=hE23.trans hEB
 have q5B:=zab hEB q53
 repeat refine c_r ?_
 refine rg4 s8 s5 q5B Nat.zero_add ?_
 repeat refine c_r ?_
 refine wc0 ?_ ?_
 rotate_left
 ·intro _
  repeat (first|refine c_r ?_|refine rg0 ?_)
  refine rt0 Tryz.ntmps152 ?_
  exact⟨hEwB,_,rfl⟩
 intro hlt
 simp only[decide_eq_true_eq]at hlt
 have hk:k<s.places.length:=by omega
 have hk0:(0:Int)≤(k:Int):=by omega
 have hk1':(k:Int)+1=((k+1:Nat):Int):=by push_cast;rfl
 obtain⟨xp,xk,xk1,ov,rfl,hxk,hxk1,f0,ho,f1⟩:=hpl k hk
 obtain⟨fo,fp⟩:=fs3 _ (List.getElem_mem hk)
 have hz1:adr (some xk) 0=some xk:=zak _
 have f0B:=zab hEwB f0
 repeat refine c_r ?_
 refine rc (an9 s8 s5 q5B Nat.zero_add hk0 hlt hxk hz1 f0B) (zbw B ov _ (ho.ext hEwB) fo.lb9.1 fo.lb9.2) ?_
 rintro _ B1 ⟨rfl,hE4⟩
 refine re trivial ?_
 have hEB1:=hEB.trans hE4
 have hEwB1:=hE23.trans hEB1
 have q5B1:=zab hEB1 q53
 have f1B1:=zab hEwB1 f1
 repeat refine c_r ?_
 by_cases hck2:zaF s.places[k].o=0
 rotate_left
 ·refine rg1 (decide_eq_false hck2) ?_
  repeat refine c_r ?_
  refine wt Bool.not_false ?_
  repeat (first|refine c_r ?_|refine rg0 ?_)
  refine rt0 Tryz.ntmps152 ?_
  exact⟨hEwB1,_,rfl⟩
 refine rg1 (decide_eq_true hck2) ?_
 repeat refine c_r ?_
 refine wf Bool.not_true ?_
 repeat refine c_r ?_
 refine rc (an9 s8 s5 q5B1 Nat.zero_add hk0 hlt hxk hxk1 f1B1) (RPath_ok B1 (l:=s.places[k].path) (by omega)) ?_
 rintro _ B2 ⟨hE5,t,rfl⟩
 refine re trivial ?_
 have hEB2:=hEB1.trans hE5
 repeat refine c_r ?_
 cases t with
 |false=>
  refine wt Bool.not_false ?_
  repeat (first|refine c_r ?_|refine rg0 ?_)
  refine rt0 Tryz.ntmps152 ?_
  exact⟨hE23.trans hEB2,_,rfl⟩
 |true=>
 refine wf Bool.not_true ?_
 repeat refine c_r ?_
 refine rg0 ?_
 repeat refine c_r ?_
 refine zap (fun m σ ds C=>ds=[]∧∃(j:Nat),j+m=k∧σ 9=vi j∧σ 8=vi k∧σ 5= .pointer (some ⟨b5,0,Option.none⟩)∧Ext w3 C) k ?_ ?_
 ·exact⟨rfl,0,by omega,vr0,(vq1 s8),(vq1 s5),hEB2⟩
 clear s8 s5
 rintro m3 σ3 ds3 C ⟨rfl,j,hjm,s9,s8,s5,hEC⟩
 have hEwC:=hE23.trans hEC
 repeat refine c_r ?_
 refine rg2 s9 s8 ?_
 repeat refine c_r ?_
 refine wc0 ?_ ?_
 rotate_left
 ·intro _
  repeat refine c_r ?_
  refine rg2 s8 hk1' ?_
  repeat refine c_r ?_
  exact⟨m2 - 1,by omega,rfl,k+1,by omega,vq0,(vq1 s5),hEC⟩
 intro hlt2
 simp only[decide_eq_true_eq]at hlt2
 have hj:j<s.places.length:=by omega
 have hj0:(0:Int)≤(j:Int):=by omega
 have hj1:(j:Int)<(s.places.length:Int):=by omega
 have hj1':(j:Int)+1=((j+1:Nat):Int):=by push_cast;rfl
 obtain⟨xp',xj,_,ov',hpe,hxj,_,e0,ho',_⟩:=hpl j hj
 injection hpe with hpe
 subst hpe
 obtain⟨fo',_⟩:=fs3 _ (List.getElem_mem hj)
 have hz2:adr (some xj) 0=some xj:=zak _
 repeat refine c_r ?_
 refine zaN (fun _=>false) [(0,true),(1,true),(2,true),(3,true),(4,true),(5,true),(6,true),(7,true),(8,true),(9,true),(10,true),(11,true),(12,false)] NoS mixed (by kernel_rfl) ?_;intro gd K x hgd hx hxe hK;clear hxe
 have hW:=hEwC.trans hx
 have q5x:=zab (hEC.trans hx) q53
 have f0x:=zab hW f0
 have e0x:=zab hW e0
 simp (disch:=first|omega|assumption|rfl) only[go_sem,s9,s8,s5,q5x,Nat.zero_add,hk0,hlt,hj0,hj1,hxk,hxj,hz1,hz2,f0x,e0x]
 refine Fn.mono (zbK x ov' ov _ _ (ho'.ext hW) (ho.ext hW) fo'.m.LB fo.m.LB (by have:=fo'.len;omega) (by have:=fo.len;omega)) ?_
 rintro _ y ⟨rfl,hy⟩
 refine⟨.inr hy,?_⟩
 simp (disch:=first|omega|assumption|rfl) only[go_sem]
 refine hK _ _ ?_;clear hK hgd;clear K;try clear gd
 repeat refine c_r ?_
 refine wc0 ?_ ?_
 ·intro _
  repeat (first|refine c_r ?_|refine rg0 ?_)
  refine rt0 Tryz.ntmps152 ?_
  exact⟨hW.trans hy,_,rfl⟩
 ·intro _
  repeat refine c_r ?_
  refine rg2 s9 hj1' ?_
  repeat refine c_r ?_
  exact⟨m3 - 1,by omega,rfl,j+1,by omega,vq0,(vq1 s8),(vq1 s5),(hEC.trans hx).trans hy⟩
structure zlD(c:zgQ):Prop where
 ne:c.roots≠ []
 inn:∀r∈c.roots,0≤r∧r<(c.servers.length:Int)
set_option maxHeartbeats 4000000 in
theorem zhU(w:World){cs:List Value}{c:zgQ}(hc:ConfAt w cs c)(hf:FewC c):
  Fn Tryz.prog 93 #[.agg cs.toArray] w (fun v w'=>Ext w w'∧∃a e,v= .tuple #[vi a,vi e]∧(e=0→zlD c)):=by
 have hc0:=hc
 obtain⟨sv,rv,rfl,hs,hr⟩:=hc.ex
 obtain⟨aS,cS,rfl,hat⟩:=ziB hs
 obtain⟨ar,cr,rfl,_,hgr⟩:=hr
 simp only[List.length_map,List.getElem_map]at hgr hc0 ⊢
 have hsl:=hf.sl
 have hrl:=hf.rl
 refine enter Tryz.func93 Tryz.ntmps93 rfl rfl ?_
 repeat refine c_r ?_
 refine rg0 ?_
 repeat refine c_r ?_
 refine zaA ?_
 intro w1 hE1 hs1 hA
 have p0:zaf w1 (some ⟨w.heap.size,0,Option.none⟩)=some (.slice aS c.servers.length cS):=zac hA rfl
 have p1:zaf w1 (some ⟨w.heap.size,1,Option.none⟩)=some (.slice ar c.roots.length cr):=zac hA rfl
 have p2:zaf w1 (some ⟨w.heap.size,2,Option.none⟩)=some (vi c.rw):=zac hA rfl
 have p3:zaf w1 (some ⟨w.heap.size,3,Option.none⟩)=some (vi c.rf):=zac hA rfl
 have dC:zat w1 (some ⟨w.heap.size,0,Option.none⟩) 4=some [.slice aS c.servers.length cS,.slice ar c.roots.length cr,vi c.rw,vi c.rf]:=zah hA rfl
 repeat refine c_r ?_
 by_cases h1:(c.servers.length:Int)=0
 ·refine rgg [(4,14)] (an3 p0 Nat.add_zero (decide_eq_true h1)) ?_
  repeat refine c_r ?_
  refine wt trivial ?_
  repeat (first|refine c_r ?_|refine rg0 ?_)
  refine zay (by simp) Tryz.ntmps93 rfl (zar (vr0) (zar (vr0) zau)) ?_
  exact⟨hE1,_,_,rfl,fun h=>by cases h⟩
 by_cases h2:(c.roots.length:Int)=0
 ·refine rgg [(4,14)] (an6 p0 Nat.add_zero (decide_eq_false h1) p1 Nat.zero_add (decide_eq_true h2)) ?_
  repeat refine c_r ?_
  refine wt trivial ?_
  repeat (first|refine c_r ?_|refine rg0 ?_)
  refine zay (by simp) Tryz.ntmps93 rfl (zar (vr0) (zar (vr0) zau)) ?_
  exact⟨hE1,_,_,rfl,fun h=>by cases h⟩
 refine rgg [(4,14)] (an6 p0 Nat.add_zero (decide_eq_false h1) p1 Nat.zero_add (decide_eq_false h2)) ?_
 repeat refine c_r ?_
 refine wf trivial ?_
 repeat refine c_r ?_
 refine rg2 p0 Nat.add_zero ?_
 repeat refine c_r ?_
 refine wc0 ?_ ?_
 ·intro _
  repeat (first|refine c_r ?_|refine rg0 ?_)
  refine zay (by simp) Tryz.ntmps93 rfl (zar (vr0) (zar (vr0) zau)) ?_
  exact⟨hE1,_,_,rfl,fun h=>by cases h⟩
 intro _
 repeat refine c_r ?_
 refine zaC (Q:=fun e σ' ds' v'=>e= .normal∧ds'=[]∧v'=w1∧σ' 1= .pointer (some ⟨w.heap.size,0,Option.none⟩)∧∃t,σ' 25= .bool t) ?_ ?_
 ·by_cases e0:c.rw<0
  ·refine rgg [(3,29),(8,34),(13,39)] (an3 p2 Nat.zero_add (decide_eq_true e0)) ?_
   exact⟨rfl,rfl,rfl,vq0,_,vr0⟩
  by_cases e1:c.rw>8
  ·refine rgg [(3,29),(8,34),(13,39)] (an4 p2 Nat.zero_add (decide_eq_false e0) (decide_eq_true e1)) ?_
   exact⟨rfl,rfl,rfl,vq0,_,vr0⟩
  by_cases e2:c.rf<0
  ·refine rgg [(3,29),(8,34),(13,39)] (an6 p2 Nat.zero_add (decide_eq_false e0) (decide_eq_false e1) p3 (decide_eq_true e2)) ?_
   exact⟨rfl,rfl,rfl,vq0,_,vr0⟩
  refine rgg [(3,29),(8,34),(13,39)] (an6 p2 Nat.zero_add (decide_eq_false e0) (decide_eq_false e1) p3 (decide_eq_false e2)) ?_
  exact⟨rfl,rfl,rfl,vq0,_,vr0⟩
 rintro _ σ1 _ w2 ⟨rfl,rfl,rfl,s1,t,s25⟩
 repeat refine c_r ?_
 cases t with
 |true=>
  refine wt s25 ?_
  repeat (first|refine c_r ?_|refine rg0 ?_)
  refine zay (by simp) Tryz.ntmps93 rfl (zar (vr0) (zar (vr0) zau)) ?_
  exact⟨hE1,_,_,rfl,fun h=>by cases h⟩
 |false=>
 refine wf s25 ?_
 clear s25
 repeat refine c_r ?_
 refine rg0 ?_
 repeat refine c_r ?_
 refine zap (fun m σ ds A=>ds=[]∧∃(i:Nat),i+m=c.roots.length∧σ 4=vi i∧σ 1= .pointer (some ⟨w.heap.size,0,Option.none⟩)∧Ext w2 A∧∀j (h:j<c.roots.length),j<i→0≤c.roots[j]∧c.roots[j]<(c.servers.length:Int)) c.roots.length ?_ ?_
 ·exact⟨rfl,0,by omega,vr0,(vq1 s1),Keep.refl _ _,fun j h h2=>absurd h2 (by omega)⟩
 clear s1
 rintro m σ ds A ⟨rfl,i,him,s4,s1,hEA,ht⟩
 have p1A:=zab hEA p1
 repeat refine c_r ?_
 refine rg4 s4 s1 p1A Nat.zero_add ?_
 repeat refine c_r ?_
 refine wc0 ?_ ?_
 ·intro hlt
  simp only[decide_eq_true_eq]at hlt
  have hi:i<c.roots.length:=by omega
  have hi0:(0:Int)≤(i:Int):=by omega
  have hi1':(i:Int)+1=((i+1:Nat):Int):=by push_cast;rfl
  have g:=hgr i hi
  obtain⟨x1,rfl⟩:=Option.isSome_iff_exists.1 (zai g)
  repeat refine c_r ?_
  refine zaN (fun _=>false) [(0,true),(1,true),(2,true),(3,true),(4,true),(5,true),(6,true),(7,true),(8,true),(9,true),(10,true),(11,true),(12,true),(13,true),(14,true),(15,true),(16,true)] NoS mixed (by kernel_rfl) ?_;intro gd K x hgd hx hxe hK;clear hxe
  have hg6:∀n σ b,zas gd n σ (some (6,b))=zal (ev n σ (.tmp 57)) b:=(fun n σ b=>by rw[zad,show gd 6=some 57 from(by rw[hgd];rfl)];rfl)
  have p1x:=zab hx p1A
  have p0x:=zab (hEA.trans hx) p0
  have gx:=zab (hE1.trans (hEA.trans hx)) g
  by_cases hneg:c.roots[i]<0
  ·simp (disch:=first|omega|assumption|rfl) only[go_sem,s4,s1,p1x,Nat.zero_add,Nat.mul_one,hi0,hlt,gx,decide_eq_true hneg,zaW,↓hg6]
   refine hK _ _ ?_;clear hK hgd;clear K;try clear gd
   repeat refine c_r ?_
   refine wt trivial ?_
   repeat (first|refine c_r ?_|refine rg0 ?_)
   refine zay (by simp) Tryz.ntmps93 rfl (zar (vr0) (zar (vr0) zau)) ?_
   exact⟨hE1.trans (hEA.trans hx),_,_,rfl,fun h=>by cases h⟩
  by_cases hbig:c.roots[i]≥(c.servers.length:Int)
  ·simp (disch:=first|omega|assumption|rfl) only[go_sem,s4,s1,p1x,p0x,Nat.zero_add,Nat.add_zero,Nat.mul_one,hi0,hlt,gx,decide_eq_false hneg,decide_eq_true hbig,zaW,↓hg6]
   refine hK _ _ ?_;clear hK hgd;clear K;try clear gd
   repeat refine c_r ?_
   refine wt trivial ?_
   repeat (first|refine c_r ?_|refine rg0 ?_)
   refine zay (by simp) Tryz.ntmps93 rfl (zar (vr0) (zar (vr0) zau)) ?_
   exact⟨hE1.trans (hEA.trans hx),_,_,rfl,fun h=>by cases h⟩
  simp (disch:=first|omega|assumption|rfl) only[go_sem,s4,s1,p1x,p0x,Nat.zero_add,Nat.add_zero,Nat.mul_one,hi0,hlt,gx,decide_eq_false hneg,decide_eq_false hbig,zaW,↓hg6]
  refine hK _ _ ?_;clear hK hgd;clear K;try clear gd
  repeat refine c_r ?_
  refine wf trivial ?_
  repeat refine c_r ?_
  refine rg2 s4 hi1' ?_
  repeat refine c_r ?_
  refine⟨m - 1,by omega,rfl,i+1,by omega,vq0,(vq1 s1),hEA.trans hx,fun j hj hji=>?_⟩
  by_cases hj2:j=i
  ·subst hj2;omega
  ·exact ht j hj (by omega)
 intro hge
 simp only[decide_eq_false_iff_not]at hge
 have hro:zlD c:=⟨fun h=>by rw[h]at h2;exact h2 rfl,fun r hr=>by
  obtain⟨j,hj,rfl⟩:=List.mem_iff_getElem.1 hr
  exact ht j hj (by omega)⟩
 clear him hge s4 ht p1A
 repeat refine c_r ?_
 refine rg0 ?_
 repeat refine c_r ?_
 refine zap (fun m σ ds B=>ds=[]∧∃(i:Nat),i+m=c.roots.length∧σ 5=vi i∧σ 1= .pointer (some ⟨w.heap.size,0,Option.none⟩)∧Ext w2 B) c.roots.length ?_ ?_
 ·exact⟨rfl,0,by omega,vr0,(vq1 s1),hEA⟩
 clear s1 hEA
 rintro m2 σ2 ds2 B ⟨rfl,i,him,s5,s1,hEB⟩
 have p1B:=zab hEB p1
 repeat refine c_r ?_
 refine rg4 s5 s1 p1B Nat.zero_add ?_
 repeat refine c_r ?_
 refine wc0 ?_ ?_
 ·intro hlt
  simp only[decide_eq_true_eq]at hlt
  have hi:i<c.roots.length:=by omega
  have hi0:(0:Int)≤(i:Int):=by omega
  have hi1':(i:Int)+1=((i+1:Nat):Int):=by push_cast;rfl
  have g:=hgr i hi
  obtain⟨x1,rfl⟩:=Option.isSome_iff_exists.1 (zai g)
  repeat refine c_r ?_
  refine rg0 ?_
  repeat refine c_r ?_
  refine zap (fun m σ ds C=>ds=[]∧∃(j:Nat),j+m=i∧σ 6=vi j∧σ 5=vi i∧σ 1= .pointer (some ⟨w.heap.size,0,Option.none⟩)∧Ext w2 C) i ?_ ?_
  ·exact⟨rfl,0,by omega,vr0,(vq1 s5),(vq1 s1),hEB⟩
  clear s5 s1
  rintro m3 σ3 ds3 C ⟨rfl,j,hjm,s6,s5,s1,hEC⟩
  have p1C:=zab hEC p1
  repeat refine c_r ?_
  refine rg2 s6 s5 ?_
  repeat refine c_r ?_
  refine wc0 ?_ ?_
  ·intro hlt2
   simp only[decide_eq_true_eq]at hlt2
   have hj:j<c.roots.length:=by omega
   have hj0:(0:Int)≤(j:Int):=by omega
   have hj1:(j:Int)<(c.roots.length:Int):=by omega
   have hj1':(j:Int)+1=((j+1:Nat):Int):=by push_cast;rfl
   have gj:=hgr j hj
   repeat refine c_r ?_
   refine zaN (fun _=>false) [(0,true),(1,true),(2,true),(3,true),(4,true),(5,true),(6,true),(7,true),(8,true),(9,true),(10,true)] NoS mixed (by kernel_rfl) ?_;intro gd K x hgd hx hxe hK;clear hxe
   have p1x:=zab hx p1C
   have gx:=zab (hE1.trans (hEC.trans hx)) g
   have gjx:=zab (hE1.trans (hEC.trans hx)) gj
   simp (disch:=first|omega|assumption|rfl) only[go_sem,s6,s5,s1,p1x,Nat.zero_add,Nat.mul_one,hi0,hlt,hj0,hj1,gx,gjx]
   refine hK _ _ ?_;clear hK hgd;clear K;try clear gd
   repeat refine c_r ?_
   refine wc0 ?_ ?_
   ·intro _
    repeat (first|refine c_r ?_|refine rg0 ?_)
    refine zay (by simp) Tryz.ntmps93 rfl (zar (vr0) (zar (vr0) zau)) ?_
    exact⟨hE1.trans (hEC.trans hx),_,_,rfl,fun h=>by cases h⟩
   ·intro _
    repeat refine c_r ?_
    refine rg2 s6 hj1' ?_
    repeat refine c_r ?_
    exact⟨m3 - 1,by omega,rfl,j+1,by omega,vq0,(vq1 s5),(vq1 s1),hEC.trans hx⟩
  ·intro _
   repeat refine c_r ?_
   refine rg2 s5 hi1' ?_
   repeat refine c_r ?_
   exact⟨m2 - 1,by omega,rfl,i+1,by omega,vq0,(vq1 s1),hEC⟩
 intro hge
 clear him hge s5 p1B
 repeat refine c_r ?_
 refine rg0 ?_
 repeat refine c_r ?_
 refine zap (fun m σ ds B=>ds=[]∧∃(i:Nat),i+m=c.servers.length∧σ 7=vi i∧σ 1= .pointer (some ⟨w.heap.size,0,Option.none⟩)∧Ext w2 B) c.servers.length ?_ ?_
 ·exact⟨rfl,0,by omega,vr0,(vq1 s1),hEB⟩
 clear s1 hEB
 rintro m3 σ3 ds3 C ⟨rfl,i,him,s7,s1,hEC⟩
 have p0C:=zab hEC p0
 have dCC:=zae hEC dC
 repeat refine c_r ?_
 refine rg4 s7 s1 p0C Nat.add_zero ?_
 repeat refine c_r ?_
 refine wc0 ?_ ?_
 ·intro hlt
  simp only[decide_eq_true_eq]at hlt
  have hi:i<c.servers.length:=by omega
  have hi1':(i:Int)+1=((i+1:Nat):Int):=by push_cast;rfl
  repeat refine c_r ?_
  refine rc (an3 s7 s1 dCC) (zlB C (hc0.ext (hE1.trans hEC)) hf hi) ?_
  rintro _ C1 ⟨hE2,e,rfl⟩
  refine re trivial ?_
  repeat refine c_r ?_
  by_cases he:e=0
  ·refine rg1 (decide_eq_true he) ?_
   repeat refine c_r ?_
   refine wf Bool.not_true ?_
   repeat refine c_r ?_
   refine rg2 s7 hi1' ?_
   repeat refine c_r ?_
   exact⟨m3 - 1,by omega,rfl,i+1,by omega,vq0,(vq1 s1),hEC.trans hE2⟩
  ·refine rg1 (decide_eq_false he) ?_
   repeat refine c_r ?_
   refine wt Bool.not_false ?_
   repeat refine c_r ?_
   refine rg1 s7 ?_
   repeat refine c_r ?_
   refine zay (by simp) Tryz.ntmps93 rfl (zar (vr0) (zar (vr0) zau)) ?_
   exact⟨hE1.trans (hEC.trans hE2),_,_,rfl,fun h=>absurd h he⟩
 ·intro _
  repeat (first|refine c_r ?_|refine rg0 ?_)
  refine zay (by simp) Tryz.ntmps93 rfl (zar (vr0) (zar (vr0) zau)) ?_
  exact⟨hE1.trans hEC,_,_,rfl,fun _=>hro⟩
theorem zcJ(w:World):zdb 2 (PlaceC w):=by
 refine⟨fun h=>?_,fun h=>?_⟩
 ·obtain⟨ov,rfl,_⟩:=h.ex;rfl
 ·obtain⟨ov,rfl,h1⟩:=h.ex
  intro q hq
  simp at hq
  rcases hq with rfl|rfl
  ·exact h1.isOne
  ·rfl
def gxC(cs:List Value)(x:SrvL×(Value×List Value)):Prop:=cs=x.2.2∧cs.length=6∧∀q∈cs,one q=true
theorem zeO:zdb 6 gxC:=⟨fun h=>h.2.1,fun h=>h.2.2⟩
structure SrvX(w0 A:World)(pv:Value)(cs:List Value)(s:SrvL):Prop where
 ex:∃nv a b c d,cs=[nv,zag a,zag b,zag c,zag d,pv]∧s.addr=[a,b,c,d]∧Row w0 nv (s.host.map vs)∧Rows 2 (PlaceC w0) A pv s.places
theorem SrvX.keep{w0 A A':World}{pv:Value}{cs:List Value}{s:SrvL}(h:SrvX w0 A pv cs s){S:Nat→Prop}(hk:Keep S A A')(hS:∀a n c,pv= .slice (some a) n c→a.block<A.heap.size∧¬S a.block):SrvX w0 A' pv cs s:=by
 obtain⟨nv,a,b,c,d,e,ha,h1,h2⟩:=h.ex
 exact⟨nv,a,b,c,d,e,ha,h1,h2.blocks fun a n c hv=>hk.block _ (hS a n c hv).1 (hS a n c hv).2⟩
structure GS(w0:World)(e:TypeId)(B:Nat)(A:World)(ov:Value)(G:List (SrvL×(Value×List Value))):Prop where
 own:Owns 6 gxC B A e ov G
 row:∀x∈G,SrvX w0 A x.2.1 x.2.2 x.1∧BlkB B A x.2.1∧∀a n c,x.2.1= .slice (some a) n c→some a.block≠ov.ownBlock
theorem GS.keep{w0 A A':World}{e:TypeId}{B:Nat}{ov:Value}{G:List (SrvL×(Value×List Value))}(h:GS w0 e B A ov G){S:Nat→Prop}(hk:Keep S A A')(hS:∀b,B≤b→b<A.heap.size→¬S b):GS w0 e B A' ov G:=
 ⟨h.own.keep hk (fun b hb=>hS b (h.own.ge hb).1 (h.own.ge hb).2),fun x hx=>by
  obtain⟨h1,h2,h3⟩:=h.row x hx
  exact⟨h1.keep hk (fun a n c hv=>⟨(h2 a n c hv).2,hS _ (h2 a n c hv).1 (h2 a n c hv).2⟩),h2.ext hk.size,h3⟩⟩
theorem GS.ext{w0 A A':World}{e:TypeId}{B:Nat}{ov:Value}{G:List (SrvL×(Value×List Value))}(h:GS w0 e B A ov G)(hE:Ext A A'):GS w0 e B A' ov G:=h.keep hE (fun _ _ _ h=>h)
theorem GS.app{w0 A A1 A2:World}{e:TypeId}{B:Nat}{ov ov':Value}{G:List (SrvL×(Value×List Value))}{x:SrvL×(Value×List Value)}(h:GS w0 e B A ov G)(hE:Ext A A1)(hB:B≤A.heap.size)
  (hx:SrvX w0 A1 x.2.1 x.2.2 x.1) (hxb:BlkB A.heap.size A1 x.2.1) (ho:Owns 6 gxC B A2 e ov' (G++ [x])) (hk:Keep (fun b=>some b=ov.ownBlock) A1 A2) (hb:∀b,some b=ov'.ownBlock→some b=ov.ownBlock∨A1.heap.size≤b):GS w0 e B A2 ov' (G++ [x]):=by
 refine⟨ho,fun y hy=>?_⟩
 have h1:=h.ext hE
 have hge:∀b,some b=ov.ownBlock→b<A.heap.size:=fun b hb=>(h.own.ge hb).2
 have hy2:SrvX w0 A1 y.2.1 y.2.2 y.1∧BlkB B A1 y.2.1∧∀a n c,y.2.1= .slice (some a) n c→some a.block≠ov.ownBlock:=by
  rcases List.mem_append.1 hy with hy|hy
  ·exact h1.row y hy
  ·rw[List.mem_singleton.1 hy]
   exact⟨hx,hxb.mono hB,fun a n c hv hbb=>by have:=hge _ hbb;have:=(hxb a n c hv).1;omega⟩
 obtain⟨g1,g2,g3⟩:=hy2
 refine⟨g1.keep hk (fun a n c hv=>⟨(g2 a n c hv).2,g3 a n c hv⟩),g2.ext hk.size,fun a n c hv hbb=>?_⟩
 rcases hb _ hbb with e|e
 ·exact g3 a n c hv e
 ·have:=(g2 a n c hv).2;omega
theorem GS.rows{w0 A:World}{e:TypeId}{B:Nat}{ov:Value}{G:List (SrvL×(Value×List Value))}(h:GS w0 e B A ov G)(hE:Ext w0 A):Rows 6 (SrvC A) A ov (G.map Prod.fst):=by
 obtain⟨L,h1,h2,h3⟩:=h.own.rows
 refine⟨L,h1,by rw[h2,List.length_map],fun i hi hi'=>?_⟩
 have hi2:i<G.length:=by omega
 obtain⟨e1,_⟩:=h3 i hi hi2
 obtain⟨g1,_⟩:=h.row _ (List.getElem_mem hi2)
 obtain⟨nv,a,b,c,d,e2,ha,g2,g3⟩:=g1.ex
 rw[e1,e2,List.getElem_map]
 exact⟨nv,a,b,c,d,_,rfl,ha,g2.ext hE,g3.to fun _ _ h=>h.ext hE⟩
structure IP(w0:World)(es ep:TypeId)(b5:Nat)(nv:Value)(a b c d:UInt8)(A0 v:World)(pv:Value)(ps:List zfH):Prop where
 h:v.heap[b5]? =some (.cells #[nv,zag a,zag b,zag c,zag d,pv] es (0,0))
 own:Owns 2 (PlaceC w0) (b5+1) v ep pv ps
 e:Ext A0 v
 lo:A0.heap.size≤b5
theorem IP.app{w0 A0 v v1 v2 v3:World}{es ep:TypeId}{b5:Nat}{nv pv pv':Value}{a b c d:UInt8}{ps:List zfH}{p:zfH}(h:IP w0 es ep b5 nv a b c d A0 v pv ps)(hE:Ext v v1)
  (ho:Owns 2 (PlaceC w0) (b5+1) v2 ep pv' (ps++ [p])) (hk:Keep (fun b=>some b=pv.ownBlock) v1 v2) (h3:v3.heap[b5]? =some (.cells #[nv,zag a,zag b,zag c,zag d,pv'] es (0,0))) (hk3:Keep (fun b=>b=b5) v2 v3):IP w0 es ep b5 nv a b c d A0 v3 pv' (ps++ [p]):=by
 have lo:=h.lo
 have e2:Ext A0 v2:=Keep.to_ext (h.e.trans hE) rfl (fun b hb=>by have:=(h.own.ge hb).1;omega) hk
 exact⟨h3,ho.keep hk3 (fun b hb hb2=>by have:=(ho.ge hb).1;omega),Keep.to_ext e2 rfl (fun b hb=>by omega) hk3,lo⟩
end Go.Proofs.YtopbbjdembnfdaaGreat
