/-
  Texts of a proof, joined: JS, JT, JU, LF, ND, JY, JZ, NA, NF, NG, NI, NH.
  Conditions: none.
-/
import Derived.Test.YtihbdhjibplldaaGreatDoorQLI07
import Derived.Test.YtihbdhjibplldaaGreatDoorQLI06
import Derived.Test.YtihbdhjibplldaaGreatDoorQLI02
import Derived.Test.YtihbdhjibplldaaGreatDoorQLI05
import Derived.Test.YtihbdhjibplldaaGreatDoorQLI04
import Derived.Test.YtihbdhjibplldaaGreatDoorQLI03
import Derived.Lib.SplitLaws
set_option linter.unusedVariables false
set_option linter.unusedSimpArgs false
set_option linter.defProp false
set_option linter.unnecessarySimpa false
set_option maxHeartbeats 8000000
namespace Go.Proofs.YtihbdhjibplldaaGreatDoor
open Go
set_option maxRecDepth 10000
theorem zbI(w:World):Row w (.slice Option.none 0 0) []:=(Own.nil 0 w 0).row
def rawD(T:Int)(bs:List UInt8):DatL:=⟨T,[],[],[],bs⟩
theorem raw_at{w:World}{rv:Value}{T:Int}{bs:List UInt8}(h:Row w rv (bs.map zao)):DatAt w [vi T,.slice Option.none 0 0,.slice Option.none 0 0,.slice Option.none 0 0,rv] (rawD T bs):=⟨_,_,_,_,rfl,zb7 w,zbI w,zbI w,h⟩
theorem raw_T{T:Int}{bs:List UInt8}(h:bs.length≤2000):DatT (rawD T bs):=⟨⟨(fun n hn=>by cases hn),(by simp[rawD]),(by simp[rawD]),(fun n hn=>by cases hn),(by simp[rawD]),(fun n hn=>by cases hn),h⟩,(by simp[rawD])⟩
theorem any_ok{W0 w:World}{b:Nat}{t0 t:Lab}{q0:Bool}{ws:List (Lab×Bool)}{ov:Value}{n:Nat}{bs:List UInt8}(hW:WX W0)(h:Rdr W0 w b ((t0,q0)::(t,false)::ws) ov 0)(T:Int)(hT:(zax T).2.2.2≠0)(hl:ws.length≤1000)(ht:t.length≤1000000)(hn:decP 4294967295 t=(n,0))(hn2:n≤1024)(hwq:∀x∈ws,x.2=false∧x.1.length≤1000000)(htr:Lib.trimS (catW ws) digs16=[])(hlen:(catW ws).length=2*n)(hp:Pairs (catW ws) bs):
  Fn Tryz.prog 159 #[.pointer (some ⟨b,0,Option.none⟩),vi T] w (fun v w'=>(∃rv,v= .agg #[vi T,.slice Option.none 0 0,.slice Option.none 0 0,.slice Option.none 0 0,rv]∧Own w.heap.size w' 5 rv (bs.map zao))∧Rdr W0 w' b [] ov (za9 (rawD T bs))∧Keep (fun i=>i=b) w w'):=by
 have hbl:=h.lt
 have hlow:=h.low
 obtain⟨wv,hb,hr⟩:=h.at'
 obtain⟨a,c,rfl,hc,hg⟩:=hr.open
 rw[List.length_cons]at hc
 have hdr:=hr.drop (m:=1) (by simp)
 rw[List.drop_one,List.tail_cons,List.length_cons]at hdr
 have l1:(1:Int)≤((((t,false)::ws).length+1:Nat):Int):=by omega
 have l2:(1:Int)≤(c:Int):=by omega
 have hbsl:bs.length=n:=by have:=hp.1;omega
 refine enter Tryz.func159 Tryz.ntmps159 rfl rfl ?_
 refine go trivial ?_
 refine zan ?_
 intro w1 hE1 hs1 hA
 have hb1:=Ext.at hE1 hb
 have c0:zad w1 (some ⟨b,0,Option.none⟩)=some (.slice a (((t,false)::ws).length+1) c):=zaa hb1 rfl
 refine rq ?_;intro gd K hgd hK
 try simp (disch:=first|omega|assumption|rfl) only[go_sem,c0,l1,l2,Nat.zero_add]
 refine zaq (P:=Tryz.prog) rfl rfl rfl hb1 (by simp) (by simp) ?_
 intro w2 hs2 hb2 hk2
 try simp only[go_sem]
 refine hK _ _ ?_;clear hK hgd;clear K;try clear gd
 have hR2:Rdr W0 w2 b ((t,false)::ws) ov 0:=⟨Keep.to_ext (h.ext.trans hE1) rfl (fun i hi=>by omega) hk2,h.low,⟨_,hb2,hdr⟩,h.one⟩
 refine go trivial ?_
 refine rq ?_;intro gd K hgd hK
 try simp only[go_sem]
 refine⟨by kernel_rfl,?_⟩
 rw[show bdV Tryz.prog 34 [(0,vi T)]=some (.agg #[vi T,.slice Option.none 0 0,.slice Option.none 0 0,.slice Option.none 0 0,.slice Option.none 0 0]) from by kernel_rfl]
 try simp only[go_sem]
 refine zbo (P:=Tryz.prog) (l:=[vi T,.slice Option.none 0 0,.slice Option.none 0 0,.slice Option.none 0 0,.slice Option.none 0 0]) rfl (zc2 _ _ _ _ _ rfl rfl rfl rfl) rfl rfl ?_
 intro w3 hE3 hs3 hB3
 try simp only[go_sem]
 refine hK _ _ ?_;clear hK hgd;clear K;try clear gd
 have hw2:w2.heap.size=w.heap.size+1:=by omega
 rw[hw2]at hB3
 simp only[hw2]
 have hR3:=hR2.extx hE3
 refine go trivial ?_
 refine rq ?_;intro gd K hgd hK
 try simp only[go_sem]
 refine Fn.mono (zjK w3 T) ?_
 rintro _ w4 ⟨rfl,hE4⟩
 unfold ze5
 try simp only[go_sem]
 refine zfD (cs:=#[vi (zax T).1,vi (zax T).2.1,vi (zax T).2.2.1,vi (zax T).2.2.2]) rfl rfl rfl rfl (vr0) rfl ?_
 have d1:decide ((zax T).2.2.2=0)=false:=decide_eq_false hT
 try simp (disch:=first|omega|assumption|rfl) only[go_sem,d1]
 refine hK _ _ ?_;clear hK hgd;clear K;try clear gd
 have hR4:=hR3.extx hE4
 obtain⟨wv4,hb4,hr4⟩:=hR4.at'
 obtain⟨a4,k4,rfl,_,_⟩:=hr4.open
 have c4:zad w4 (some ⟨b,0,Option.none⟩)=some (.slice a4 ((t,false)::ws).length k4):=zaa hb4 rfl
 have d2:decide ((((t,false)::ws).length:Int)=0)=false:=decide_eq_false (by rw[List.length_cons];omega)
 refine go (an4 d1 c4 d2 (Nat.zero_add 0)) ?_
 have hs4:=hE4.size
 refine rq ?_;intro gd K hgd hK
 try simp only[go_sem]
 refine Fn.mono (zit hW hR4 hl ht hn hn2 hwq htr hlen hp) ?_
 rintro rv w5 ⟨hown,hR5,hk5⟩
 obtain⟨ra,rc',hrv⟩:=hown.slice
 have hs5:=hk5.size
 have hB5:=(hk5.block (w.heap.size+1) (by omega) (by omega)).trans (Ext.at hE4 hB3)
 try simp (disch:=first|omega|assumption|rfl) only[go_sem,Nat.zero_add]
 refine zcw (P:=Tryz.prog) (t:=32) (j:=4) (u:=rv) hB5 (by simp) (by rw[hrv];rfl) rfl rfl ?_
 intro w6 hs6 hB6 hk6
 try simp only[go_sem]
 refine hK _ _ ?_;clear hK hgd;clear K;try clear gd
 simp only[List.set_cons_zero,List.set_cons_succ]at hB6
 have hR6:Rdr W0 w6 b [] ov 0:=hR5.keep hk6 fun i hi=>by omega
 have hown6:=hown.keep hk6 fun i hi hs=>by have:=(hown.ge hi).1;omega
 obtain⟨wv6,hb6,_⟩:=hR6.at'
 have c6:zad w6 (some ⟨b,2,Option.none⟩)=some (vi 0):=zaa hb6 rfl
 have q6:=zaj (n:=5) hB6 rfl
 have ez:decide ((0:Int)=0)=true:=rfl
 refine go (an3 c6 ez (Nat.zero_add 2)) ?_
 refine rc q6 (zk8 (cs:=[vi T,.slice Option.none 0 0,.slice Option.none 0 0,.slice Option.none 0 0,rv]) (raw_at hown6.row) (raw_T (by omega))) ?_
 rintro _ w7 ⟨rfl,hE7⟩
 refine rd trivial (zcE (hR6.extx hE7) (za9 (rawD T bs))) ?_
 rw[show zbe 0 (za9 (rawD T bs))=za9 (rawD T bs) from rfl]
 rintro _ w8 ⟨hR8,hk8⟩
 have hs7:=hE7.size
 have hs8:=hk8.size
 refine rgo trivial ?_
 have hB8:=(hk8.block (w.heap.size+1) (by omega) (by omega)).trans (Ext.at hE7 hB6)
 have q8:=zaj (n:=5) hB8 rfl
 refine rq ?_;intro gd K hgd hK
 try simp (disch:=first|omega|assumption|rfl) only[go_sem,q8]
 have hk36:Keep (fun i=>i=b∨i=w.heap.size+1) w3 w8:=(((hE4.mono fun _ _ h=>h.elim).trans (hk5.mono fun _ _ h=> .inl h)).trans (hk6.mono fun _ _ h=> .inr h)).trans ((hE7.mono fun _ _ h=>h.elim).trans (hk8.mono fun _ _ h=> .inl h))
 have hA8:w8.heap[w.heap.size]? =_:=(hk36.block _ (by omega) (by omega)).trans (Ext.at hE3 ((hk2.block _ (by omega) (by omega)).trans hA))
 refine zaK (P:=Tryz.prog) (t:=34) (l:=[vi T,.slice Option.none 0 0,.slice Option.none 0 0,.slice Option.none 0 0,rv]) hA8 rfl (zc2 _ _ _ _ _ rfl rfl rfl (by rw[hrv];rfl)) rfl rfl ?_
 intro w9 hs9 hB9 hk9
 try simp only[go_sem]
 refine hK _ _ ?_;clear hK hgd;clear K;try clear gd
 refine go trivial ?_
 refine zaf (.inr rfl) Tryz.ntmps159 rfl (zaO (x:=⟨w.heap.size,0,Option.none⟩) (k:=5) (vr0) rfl rfl (zaj hB9 rfl) zae) ?_
 refine⟨⟨rv,rfl,((((hown6.ext hE7).keep hk8 fun i hi hs=>by have:=(hown6.ge hi).1;omega)).keep hk9 fun i hi hs=>by have:=(hown6.ge hi).1;omega).mono (by omega)⟩,hR8.keep hk9 fun i hi=>by omega,?_⟩
 have hk03:Keep (fun i=>i=b) w w3:=((hE1.mono fun _ _ h=>h.elim).trans hk2).trans (hE3.mono fun _ _ h=>h.elim)
 exact(hk03.own hk36 fun i hi h=>by omega).own hk9 fun i hi h=>by omega
def zbQ(ws:List (Lab×Bool)):Bool:=match ws with|x::_=>decide (x=([92,35],false))| []=>false
theorem zfl{w:World}{t:Int}{wv:Value}{oa:Option Addr}{on oc:Nat}{ws:List (Lab×Bool)}{e:Int}{G:Nat→List Value→World→Prop}(ht1:1≤t)(ht2:t≤65535)(hr:Rows 2 WdC w wv ws)
  (hG:∀B cs x y S,G B cs x→Keep S x y→(∀i,S i→i<B)→G B cs y)
  (hc:∀(b:Nat) (w1:World),Rdr w w1 b ws (.slice oa on oc) 0→Fn Tryz.prog (if zbQ ws=true then 159 else 160) #[.pointer (some ⟨b,0,Option.none⟩),vi t] w1 (fun v w'=>(∃cs:List Value,v= .agg cs.toArray∧cs.length=5∧(∀x∈cs,one x=true)∧G w1.heap.size cs w')∧Rdr w w' b [] (.slice oa on oc) e∧Keep (fun i=>i=b) w1 w')):
  Fn Tryz.prog 134 #[vi t,wv,.slice oa on oc] w (fun v w'=>Ext w w'∧(e=0→∃cs:List Value,∃B,v= .tuple #[.agg cs.toArray,vi 0]∧w.heap.size≤B∧G B cs w')∧(¬e=0→v= .tuple #[.agg ([vi 0,.slice Option.none 0 0,.slice Option.none 0 0,.slice Option.none 0 0,.slice Option.none 0 0]:List Value).toArray,vi e])):=by
 obtain⟨wa,wc,rfl,hcap,hget⟩:=hr.open
 refine enter Tryz.func134 Tryz.ntmps134 rfl rfl ?_
 refine go trivial ?_
 refine zan ?_
 intro w1 hE1 hs1 hA
 refine rq ?_;intro gd K hgd hK
 try simp only[go_sem]
 refine⟨by kernel_rfl,?_⟩
 rw[show bdV Tryz.prog 234 [(0,.slice wa ws.length wc),(1,.slice oa on oc)]=some (.agg #[.slice wa ws.length wc,.slice oa on oc,vi 0]) from by kernel_rfl]
 try simp only[go_sem]
 refine hK _ _ ?_;clear hK hgd;clear K;try clear gd
 refine zan ?_
 intro w2 hE2 hs2 hB
 rw[hs1]at hB
 simp only[hs1]
 refine go trivial ?_
 refine zan ?_
 intro w3 hE3 hs3 hC
 have hw2:w2.heap.size=w.heap.size+2:=by omega
 rw[hw2]at hC
 simp only[hw2]
 have hR3:Rdr w w3 (w.heap.size+1) ws (.slice oa on oc) 0:=⟨(hE1.trans hE2).trans hE3,by omega,⟨_,Ext.at hE3 hB,hr⟩,rfl⟩
 refine rgg [(2,20)] (an2 (decide_eq_false (show¬t<1 by omega)) (decide_eq_false (show¬65535<t by omega))) ?_
 refine go trivial ?_
 refine zat (Q:=fun e' σ' ds' v'=>e'= .normal∧ds'=[]∧v'=w3∧(σ' 0=vi t∧σ' 6= .pointer (some ⟨w.heap.size,0,Option.none⟩)∧σ' 8= .pointer (some ⟨w.heap.size+1,0,Option.none⟩)∧σ' 9= .pointer (some ⟨w.heap.size+2,0,Option.none⟩))∧σ' 25= .bool (zbQ ws)) ?_ ?_
 ·cases ws with
  |nil=>
   refine rgg [(3,29)] (show decide ((0:Int)<(([]:List (Lab×Bool)).length:Int))=false from rfl) ?_
   exact⟨rfl,rfl,rfl,⟨vr0,vr0,vr0,vr0⟩,vr0⟩
  |cons x rest=>
   obtain⟨tx,qx⟩:=x
   obtain⟨cs0,g0,hcs⟩:=hget 0 (by simp)
   simp only[List.getElem_cons_zero,Nat.zero_mul,zal]at g0 hcs
   unfold WdC at hcs
   subst hcs
   have g:=zah hR3.ext g0
   obtain⟨xa,rfl⟩:∃x,wa=some x:=by
    cases wa with
    |none=>cases g0
    |some x=>exact⟨x,rfl⟩
   have l0:decide ((0:Int)<((((tx,qx)::rest).length:Nat):Int))=true:=decide_eq_true (by rw[List.length_cons];omega)
   have l0':(0:Int)<((((tx,qx)::rest).length:Nat):Int):=by rw[List.length_cons];omega
   refine rq ?_;intro gd K hgd hK
   have hg3:∀n σ b,zaw gd n σ (some (3,b))=zap (ev n σ (.tmp 29)) b:=(fun n σ b=>by rw[zag,show gd 3=some 29 from(by rw[hgd];rfl)];rfl)
   try simp (disch:=first|omega|assumption|rfl) only[go_sem,l0,l0',Int.toNat_zero,Nat.zero_mul,zal,g,↓hg3]
   refine⟨by kernel_rfl,?_⟩
   rw[show bdV Tryz.prog 145 [(0,vs [92,35])]=some (.agg #[vs [92,35],.bool false]) from by kernel_rfl]
   try simp (disch:=first|omega|assumption|rfl) only[go_sem,l0,↓hg3]
   refine op_eqS (a:=tx) (b:=qx) (a':=[92,35]) (b':=false) rfl (by decide) (by decide) rfl rfl (by kernel_rfl) rfl rfl (by kernel_rfl) (vr0) (vr0) ?_
   try simp (disch:=first|omega|assumption|rfl) only[go_sem,l0,↓hg3]
   refine hK _ _ ?_;clear hK hgd;clear K;try clear gd
   exact⟨rfl,rfl,rfl,⟨vr0,vr0,vr0,vr0⟩,vr0⟩
 rintro _ σ1 _ w1 ⟨rfl,rfl,rfl,⟨s0,s6,s8,s9⟩,s25⟩
 have hcb:=hc _ _ hR3
 cases hm:zbQ ws
 all_goals
  rw[hm]at s25 hcb
  first
   |rw[if_pos rfl]at hcb
   |rw[if_neg (by decide)]at hcb
  refine go (an5 s0 s6 s8 s9 s25) ?_
  refine rq ?_;intro gd K hgd hK
  try simp (disch:=first|omega|assumption|rfl) only[go_sem,s0,s6,s8,s9]
  refine Fn.mono hcb ?_
  rintro _ w4 ⟨⟨cs,rfl,hcs,hcs1,hg4⟩,hR4,hk4⟩
  have hs4:=hk4.size
  have hC4:=(hk4.block (w.heap.size+2) (by omega) (by omega)).trans hC
  try simp (disch:=first|omega|assumption|rfl) only[go_sem,s9]
  refine zaK (P:=Tryz.prog) (t:=34) (l:=cs) hC4 (by simp[hcs]) hcs1 (by rw[hcs];rfl) rfl ?_
  intro w5 hs5 hC5 hk5
  try simp only[go_sem]
  refine hK _ _ ?_;clear hK hgd;clear K;try clear gd
  rw[show w1.heap.size=w.heap.size+3 by omega]at hg4
  have hG5:=hG _ _ _ _ _ hg4 hk5 fun i hi=>by omega
  have hR5:Rdr w w5 (w.heap.size+1) [] (.slice oa on oc) e:=hR4.keep hk5 fun i hi=>by omega
  obtain⟨wv5,hb5,_⟩:=hR5.at'
  have c5:zad w5 (some ⟨w.heap.size+1,2,Option.none⟩)=some (vi e):=zaa hb5 rfl
  have hA5:=(hk5.block w.heap.size (by omega) (by omega)).trans ((hk4.block w.heap.size (by omega) (by omega)).trans (Ext.at (hE2.trans hE3) hA))
  have hE5:Ext w w5:=hR5.ext
  by_cases he:e=0
  ·subst he
   have ez:decide ((0:Int)=0)=true:=rfl
   have p9:zar w5 (some ⟨w.heap.size+2,0,Option.none⟩) 5=some cs:=by
    have:=zaj (n:=5) hC5 (by simp[hcs])
    exact this
   refine go (an6 s6 s8 s9 c5 ez (Nat.zero_add 2)) ?_
   refine rq ?_;intro gd K hgd hK
   try simp (disch:=first|omega|assumption|rfl) only[go_sem,s6,s9,p9]
   refine zaK (P:=Tryz.prog) (t:=34) (l:=cs) hA5 (by rw[hcs];rfl) hcs1 (by rw[hcs];rfl) rfl ?_
   intro w6 hs6 hB6 hk6
   try simp only[go_sem]
   refine hK _ _ ?_;clear hK hgd;clear K;try clear gd
   refine go trivial ?_
   refine zaf (.inr rfl) Tryz.ntmps134 rfl (zaO (x:=⟨w.heap.size,0,Option.none⟩) (k:=5) ((vr1 s6)) rfl rfl (zaj (n:=5) hB6 (by simp[hcs])) (zac (vr0) zae)) ?_
   exact⟨Keep.to_ext hE5 rfl (fun i hi=>by omega) hk6,fun _=>⟨cs,_,rfl,(by omega),hG _ _ _ _ _ hG5 hk6 fun i hi=>by omega⟩,fun h=>absurd rfl h⟩
  ·refine go (an6 s6 s8 s9 c5 (decide_eq_false he) (Nat.zero_add 2)) ?_
   refine zaT (fun _=>false) [(0,true),(1,true),(2,true),(3,true),(4,true),(5,false),(6,true)] ((fun i=>i=w.heap.size)) mixed (by kernel_rfl) ?_;intro gd K x hgd hx hxe hK;have hx0:=zaR hxe;clear hxe
   have c5x:=zab hx0 c5
   simp (disch:=first|omega|assumption|rfl) only[go_sem]
   refine⟨by kernel_rfl,?_⟩
   rw[show bdV Tryz.prog 34 []=some (.agg #[vi 0,.slice Option.none 0 0,.slice Option.none 0 0,.slice Option.none 0 0,.slice Option.none 0 0]) from by kernel_rfl]
   simp (disch:=first|omega|assumption|rfl) only[go_sem,s6,s8,c5x,Nat.zero_add]
   refine⟨fun a ha hb'=>by cases ha;dsimp only at hb';omega,?_⟩
   refine zaK (P:=Tryz.prog) (t:=34) (l:=[vi 0,.slice Option.none 0 0,.slice Option.none 0 0,.slice Option.none 0 0,.slice Option.none 0 0]) (Ext.at hx0 hA5) rfl (zc2 _ _ _ _ _ rfl rfl rfl rfl) rfl rfl ?_
   intro w6 hs6 hB6 hk6
   refine⟨.inr hk6,?_⟩
   simp (disch:=first|omega|assumption|rfl) only[go_sem]
   refine hK _ _ ?_;clear hK hgd;clear K;try clear gd
   refine go trivial ?_
   have hE6:Ext w w6:=Keep.to_ext (hE5.trans hx0) rfl (fun i hi=>by omega) hk6
   refine zaf (.inr rfl) Tryz.ntmps134 rfl (zaO (x:=⟨w.heap.size,0,Option.none⟩) (k:=5) ((vr1 s6)) rfl rfl (zaj (n:=5) hB6 rfl) (zac (vr0) zae)) ?_
   exact⟨hE6,fun h=>absurd h he,fun _=>rfl⟩
set_option maxRecDepth 100000
theorem zdU{B:Nat}{e:TypeId}{w:World}{v:Value}{l:List Value}(h:Own B w e v l):Hz (fun i=>i<B) w (fun X=>Row X v l):=fun X hX=>(h.keep hX fun i hi hs=>by have:=(h.ge hi).1;omega).row
def GD(d:DatL)(B:Nat)(cs:List Value)(w:World):Prop:=Hz (fun i=>i<B) w (fun X=>DatAt X cs d)
theorem zk5(d:DatL):∀B cs x y S,GD d B cs x→Keep S x y→(∀i,S i→i<B)→GD d B cs y:=fun B cs x y S h hk hS X hX=>h X ((hk.mono fun i _ hi=>hS i hi).trans hX)
theorem zfm{d:DatL}{B:Nat}{cs:List Value}{w:World}(h:GD d B cs w):cs.length=5∧∀x∈cs,one x=true:=by
 obtain⟨nm,nu,tx,rw',rfl,⟨vals,h1,_,_⟩,h2,h3,h4⟩:=h.now.ex
 exact⟨rfl,zc2 _ _ _ _ _ h1.isOne h2.isOne h3.isOne h4.isOne⟩
theorem PkG{w:World}{t:Int}{wv:Value}{oa:Option Addr}{on oc:Nat}{ws:List (Lab×Bool)}{d:DatL}(ht1:1≤t)(ht2:t≤65535)(hr:Rows 2 WdC w wv ws)
  (hc:∀(b:Nat) (w1:World),Rdr w w1 b ws (.slice oa on oc) 0→Fn Tryz.prog (if zbQ ws=true then 159 else 160) #[.pointer (some ⟨b,0,Option.none⟩),vi t] w1 (fun v w'=>(∃cs:List Value,v= .agg cs.toArray∧GD d w1.heap.size cs w')∧Rdr w w' b [] (.slice oa on oc) 0∧Keep (fun i=>i=b) w1 w')):
  Fn Tryz.prog 134 #[vi t,wv,.slice oa on oc] w (fun v w'=>Ext w w'∧∃cs:List Value,v= .tuple #[.agg cs.toArray,vi 0]∧GD d w.heap.size cs w'):=by
 refine Fn.mono (zfl (e:=0) (G:=GD d) ht1 ht2 hr (zk5 d) (fun b w1 h=>Fn.mono (hc b w1 h) ?_)) ?_
 ·rintro v w' ⟨⟨cs,rfl,hg⟩,h2⟩
  exact⟨⟨cs,rfl,(zfm hg).1,(zfm hg).2,hg⟩,h2⟩
 ·rintro v w' ⟨hE,h0,_⟩
  obtain⟨cs,B,rfl,hB,hg⟩:=h0 rfl
  exact⟨hE,cs,rfl,fun X hX=>hg X (hX.mono fun i _ h=>by omega)⟩
set_option maxRecDepth 10000
def zcI(l:Lab):Bool:=match l with
 |c::_=>decide (c=32)||decide (c=9)
 | []=>false
def zkn(n:Nat)(x:Lab×List (Lab×Bool)):List EntL:=if x.2=[] then [] else [⟨n,zcI x.1,x.2⟩]
def entF(n:Nat):List (Lab×List (Lab×Bool))→List EntL
 | []=>[]
 |x::xs=>zkn n x++entF (n+1) xs
theorem zfT:∀(n:Nat) (xs ys:List (Lab×List (Lab×Bool))),entF n (xs++ys)=entF n xs++entF (n+xs.length) ys
 |n,[],ys=>rfl
 |n,x::xs,ys=>by
  rw[List.cons_append,entF,entF,zfT (n+1) xs ys,List.append_assoc,List.length_cons,show n+1+xs.length=n+(xs.length+1) by omega]
theorem zfS:∀(n:Nat) (xs:List (Lab×List (Lab×Bool))),(entF n xs).length≤xs.length
 |n,[]=>Nat.le_refl _
 |n,x::xs=>by
  have:=zfS (n+1) xs
  rw[entF,List.length_append,List.length_cons]
  unfold zkn
  split<;>simp<;>omega
theorem zjP:∀(ls:List Lab) (n:Nat) (pre suf:List (Nat×Lab)) (x:Nat×Lab),numL n ls=pre++x::suf→∃h:pre.length<ls.length,x=(n+pre.length,ls[pre.length])
 | [],n,pre,suf,x,h=>by simp[numL]at h
 |l::ls,n,[],suf,x,h=>by
  injection h with h1 _
  exact⟨by simp,h1.symm⟩
 |l::ls,n,p::pre,suf,x,h=>by
  injection h with _ h2
  obtain⟨h3,h4⟩:=zjP ls (n+1) pre suf x h2
  refine⟨by simpa using h3,?_⟩
  rw[h4]
  simp
  omega
theorem zfF:∀(ls:List Lab) (n:Nat),(numL n ls).length=ls.length
 | [],_=>rfl
 |l::ls,n=>by rw[numL,List.length_cons,zfF ls,List.length_cons]
theorem TR.rows{B b:Nat}{w:World}{out:List EntL}{nl ln:Int}{nb bg:Bool}{nw:List (Lab×Bool)}{ov wv:Value}{G:List (EntL×List Value)}(h:TR B w b out nl nb nw ln bg ov wv G):Rows 3 (EntC w) w ov out:=by
 obtain⟨L,k1,k2,k3⟩:=h.oo.rows
 rw[h.ol]
 refine⟨L,k1,by rw[k2,List.length_map],fun i hi hi'=>?_⟩
 have hi2:i<G.length:=by omega
 rw[(k3 i hi hi2).1,List.getElem_map]
 obtain⟨v,e,h1,_⟩:=h.fr _ (List.getElem_mem hi2)
 exact⟨v,e,h1⟩
structure zkU(xs:List (Lab×List (Lab×Bool))):Prop where
 each:∀x∈xs,Toks x.1 x.2∧zeU x.1∧x.1.length≤100000000
 len:(zas (xs.map Prod.fst)).length≤3900000000
 few:xs.length≤1000000000
theorem ziW{w:World}(hX:WX w){xs:List (Lab×List (Lab×Bool))}(hx:zkU xs):Fn Tryz.prog 59 #[vs (zas (xs.map Prod.fst))] w (fun v w'=>Ext w w'∧∃ev,v= .tuple #[ev,vi 0,vi 0]∧(∀a n c,ev= .slice (some a) n c→w.heap.size≤a.block)∧Hz (fun i=>i<w.heap.size) w' (fun X=>Rows 3 (EntC X) X ev (entF 1 xs))):=by
 obtain⟨s,hs⟩:∃s,zas (xs.map Prod.fst)=s:=⟨_,rfl⟩
 have hfew:=hx.few
 have hsl:s.length≤3900000000:=hs▸hx.len
 rw[hs]
 refine enter Tryz.func59 Tryz.ntmps59 rfl rfl ?_
 refine go trivial ?_
 refine zf1 ?_
 intro w1 hE1 hs1 hA hB hC
 obtain⟨A,hAe⟩:∃A,w.heap.size=A:=⟨_,rfl⟩
 simp only[World.size_alloc]
 rw[hAe]at hA hB hC ⊢
 refine go trivial ?_
 refine rq ?_;intro gd K hgd hK
 try simp only[go_sem]
 refine⟨by kernel_rfl,?_⟩
 rw[show bdV Tryz.prog 139 []=some (.agg #[.slice Option.none 0 0,vi 0,.bool false,.slice Option.none 0 0,vi 0,.bool false,.slice Option.none 0 0]) from by kernel_rfl]
 try simp only[go_sem]
 simp only[World.size_alloc]
 refine st_al2 ?_
 intro z1 hz1 hzs hR hP
 have hw1:w1.heap.size=A+3:=by omega
 rw[hw1]at hR hP ⊢
 refine zaq (P:=Tryz.prog) rfl rfl rfl hP (by simp) (by simp) ?_
 intro w2 hs2 hP2 hk2
 try simp only[go_sem]
 refine hK _ _ ?_;clear hK hgd;clear K;try clear gd
 have hE2:Ext w1 w2:=Keep.to_ext hz1 rfl (fun i hi=>by omega) hk2
 have hR2:=(hk2.block (A+3) (by omega) (by omega)).trans hR
 have hw2:w2.heap.size=A+5:=by omega
 have e9:w1.heap.size+1=A+4:=by omega
 simp only[World.size_alloc,e9,hw1]
 refine go trivial ?_
 refine rc trivial (zkV w2 s) ?_
 rintro _ w3 ⟨rfl,hE3,hs3,hL3⟩
 rw[hw2]at hL3 ⊢
 have hw3:w3.heap.size=A+6:=by omega
 have hE13:=(hE1.trans hE2).trans hE3
 have hA3:=Ext.at (hE2.trans hE3) hA
 have hB3:=Ext.at (hE2.trans hE3) hB
 have hC3:=Ext.at (hE2.trans hE3) hC
 have hR3:=Ext.at hE3 hR2
 have hP3:=Ext.at hE3 hP2
 refine rgo trivial ?_
 refine W_rangeT (g:=99) (cap:=#[.pointer (some ⟨A+5,0,Option.none⟩)]) (vq0) rfl (linesIt (w0:=w) (C:=fun i=>i=A+3) (ls:=xs.map Prod.fst) hX hE13 (by rw[hs];exact hL3) (by omega) (by omega) (fun i hi=>by omega) (by omega) (fun l hl=>by
   obtain⟨x,hxm,rfl⟩:=List.mem_map.1 hl
   exact(hx.each x hxm).2.1) (by rw[hs];exact hsl) (by rw[List.length_map];exact hfew)) (Keep.refl _ _) (Nat.le_refl _) (fun i hi=>by omega) (fun i hi=>by omega)
  (fun x B args h=>by rw[show args=_ from h];rfl)
  (fun pre V=>(V.heap[A]? =some (.cells #[.slice Option.none 0 0] 110 (0,0))∧V.heap[A+1]? =some (.cells #[vi 0] 3 (0,0))∧V.heap[A+1+1]? =some (.cells #[vi 0] 57 (0,0))∧V.heap[A+4]? =some (.cells #[.pointer (some ⟨A+3,0,Option.none⟩)] 137 (0,0)))∧Keep (fun i=>i=A+3∨i=A+5∨A+6≤i) w3 V∧
   ((pre=[]∧V.heap[A+3]? =some (.cells #[.slice Option.none 0 0,vi 0,.bool false,.slice Option.none 0 0,vi 0,.bool false,.slice Option.none 0 0] 139 (0,0)))∨∃ln,TRx (A+8) V (A+3) (entF 1 (xs.take pre.length)) 0 false [] ln false))
  (fun _ _ _=>False) ?_ (fun _ _ _ _ h _=>h.elim) ?_ ?_ ?_ (fun _ _ _ _ _ _ h _=>h.elim)
 ·rintro pre V V' ⟨⟨h1,h2,h3,h4⟩,h5,h6⟩ hk
  have lt:=fun {i:Nat} {o:Obj} (h:V.heap[i]? =some o)=>(Array.getElem?_eq_some_iff.1 h).1
  have kp:∀{i:Nat} {o:Obj},V.heap[i]? =some o→i<A+5→V'.heap[i]? =some o:=fun {i o} h hi=>(hk.block i (lt h) (by unfold span;omega)).trans h
  refine⟨⟨kp h1 (by omega),kp h2 (by omega),kp h3 (by omega),kp h4 (by omega)⟩,h5.trans (hk.mono fun i _ h=>by unfold span at h;omega),?_⟩
  rcases h6 with ⟨h6,h7⟩| ⟨ln,ov,wv,G,h6⟩
  ·exact .inl ⟨h6,kp h7 (by omega)⟩
  ·exact .inr ⟨ln,ov,wv,G,h6.low (hk.mono fun i _ h=>by unfold span at h;omega)⟩
 ·exact⟨⟨hA3,hB3,hC3,hP3⟩,Keep.refl _ _,.inl ⟨rfl,hR3⟩⟩
 ·rintro lp pre ⟨n,l⟩ V args ⟨suf,hsf⟩ hszV ⟨⟨h1,h2,h3,h4⟩,h5,h6⟩ hargs
  obtain⟨hpl,hxe⟩:=zjP _ _ _ _ _ hsf
  rw[List.length_map]at hpl
  injection hxe with hn hle
  rw[List.getElem_map]at hle
  obtain⟨x,hxx⟩:∃x,xs[pre.length]=x:=⟨_,rfl⟩
  rw[hxx]at hle
  obtain⟨hT,_,hll⟩:=hx.each x (hxx▸List.getElem_mem hpl)
  obtain rfl:args=#[vi (n:Nat),vs l]:=hargs
  have hout:entF 1 (xs.take (pre.length+1))=entF 1 (xs.take pre.length)++zkn n x:=by
   rw[zak hpl,zfT,hxx,List.length_take,Nat.min_eq_left (by omega),←hn,entF,entF,List.append_nil]
  have hol:(entF 1 (xs.take pre.length)).length≤1000000000:=by
   have:=zfS 1 (xs.take pre.length)
   rw[List.length_take]at this
   omega
  refine go trivial ?_
  refine⟨rfl,KeepB.refl _ _ _,fun V2 hV2=>?_⟩
  have lt:=fun {i:Nat} {o:Obj} (h:V.heap[i]? =some o)=>(Array.getElem?_eq_some_iff.1 h).1
  have hs22:=hV2.size
  have kp:∀{i:Nat} {o:Obj},V.heap[i]? =some o→i<A+5→V2.heap[i]? =some o:=fun {i o} h hi=>(hV2.block i (lt h) (by unfold two;omega)).trans h
  obtain⟨ln,ov,wv,G,hTR⟩:∃ln,TRx (A+8) V2 (A+3) (entF 1 (xs.take pre.length)) 0 false [] ln false:=by
   rcases h6 with ⟨h6,h7⟩| ⟨ln,ov,wv,G,h6⟩
   ·refine⟨0,.slice Option.none 0 0,.slice Option.none 0 0,[],kp h7 (by omega),by omega,by omega,Owns.nil _ _ _ _ _,Owns.nil _ _ _ _ _,fun i h=>(by cases h),?_,fun y hy=>(by cases hy)⟩
    rw[h6];rfl
   ·exact⟨ln,ov,wv,G,h6.low (hV2.mono fun i _ h=>by unfold two at h;omega)⟩
  have g4:=kp h4 (by omega)
  have q40:zad V2 (some ⟨A+4,0,Option.none⟩)=some (.pointer (some ⟨A+3,0,Option.none⟩)):=zaa g4 rfl
  refine go trivial ?_
  refine rq ?_;intro gd K hgd hK
  try simp (disch:=first|omega|assumption|rfl) only[go_sem,q40,Nat.zero_add]
  refine zaq (P:=Tryz.prog) rfl rfl rfl hTR.h (by simp) (by simp) ?_
  intro v1 hs1' hb1 hk1
  try simp only[go_sem]
  refine hK _ _ ?_;clear hK hgd;clear K;try clear gd
  have hT1:TR (A+8) v1 (A+3) (entF 1 (xs.take pre.length)) 0 false [] n false ov wv G:=TR.turn hTR (hk1.mono fun i _ e=>by omega) hb1
  have hV2l:=(Array.getElem?_eq_some_iff.1 g4).1
  have q41:zad v1 (some ⟨A+4,0,Option.none⟩)=some (.pointer (some ⟨A+3,0,Option.none⟩)):=zaa ((hk1.block (A+4) hV2l (by omega)).trans g4) rfl
  have k5:zad v1 (some ⟨A+3,5,Option.none⟩)=some (.bool false):=zaa hT1.h rfl
  refine go (an4 q41 k5 Nat.zero_add Bool.not_false) ?_
  refine rq ?_;intro gd K hgd hK
  try simp (disch:=first|omega|assumption|rfl) only[go_sem,q41,Nat.zero_add]
  refine zaq (P:=Tryz.prog) rfl rfl rfl hT1.h (by simp) (by simp) ?_
  intro v2 hs2' hb2 hk2'
  try simp only[go_sem]
  refine hK _ _ ?_;clear hK hgd;clear K;try clear gd
  have hT2:TR (A+8) v2 (A+3) (entF 1 (xs.take pre.length)) 0 false [] n true ov wv G:=TR.turn hT1 (hk2'.mono fun i _ e=>by omega) hb2
  have g42:=(hk2'.block (A+4) (by omega) (by omega)).trans ((hk1.block (A+4) hV2l (by omega)).trans g4)
  have q42:zad v2 (some ⟨A+4,0,Option.none⟩)=some (.pointer (some ⟨A+3,0,Option.none⟩)):=zaa g42 rfl
  refine go trivial ?_
  refine zat (Q:=fun e' σ' ds' v'=>e'= .normal∧ds'=[]∧(σ' 5= .pointer (some ⟨A+4,0,Option.none⟩)∧σ' 7=vs l)∧TR (A+8) v' (A+3) (entF 1 (xs.take pre.length)) 0 (zcI l) [] n true ov wv G∧Keep (fun i=>i=A+3) v2 v') ?_ ?_
  ·have i00:(0:Int)≤0:=by decide
   cases hlc:l with
   |nil=>
    have dn:decide (([]:Lab)=[])=true:=rfl
    refine zaT (fun i=>i==16) [(0,true),(1,true),(2,true),(3,true),(4,true),(5,true),(6,true),(7,true),(8,true),(9,true),(10,true),(11,true),(12,true),(13,true),(14,true),(15,true),(16,false)] NoS mixed (by kernel_rfl) ?_;intro gd K x hgd hx hxe hK;have hx0:=zaR hxe;clear hxe
    have hg3:∀n σ b,zaw gd n σ (some (3,b))=zap (ev n σ (.tmp 30)) b:=(fun n σ b=>by rw[zag,show gd 3=some 30 from(by rw[hgd];rfl)];rfl);have hg7:∀n σ b,zaw gd n σ (some (7,b))=zap (ev n σ (.tmp 34)) b:=(fun n σ b=>by rw[zag,show gd 7=some 34 from(by rw[hgd];rfl)];rfl)
    have q4x:=zab hx0 q42
    have hTx:=hT2.ext hx0
    simp (disch:=first|omega|assumption|rfl) only[go_sem,q4x,Nat.zero_add,dn,zeX,↓hg3,↓hg7]
    refine zaq (P:=Tryz.prog) rfl rfl rfl hTx.h (by simp) (by simp) ?_
    intro v3 hs3' hb3 hk3
    refine⟨.inl rfl,?_⟩
    simp (disch:=first|omega|assumption|rfl) only[go_sem,↓hg3,↓hg7]
    refine hK _ _ ?_;clear hK hgd;clear K;try clear gd
    exact⟨rfl,rfl,⟨vr0,vr0⟩,TR.turn hTx (hk3.mono fun i _ e=>by omega) hb3,(hx0.mono fun _ _ h=>h.elim).trans hk3⟩
   |cons c r=>
    have dn:decide (c::r=[])=false:=rfl
    have r0:(0:Int)<((c::r).length:Int):=by rw[List.length_cons];omega
    have o32:decide ((c.toNat:Int)=32)=decide (c=32):=zjL c 32 (by decide)
    have o9:decide ((c.toNat:Int)=9)=decide (c=9):=zjL c 9 (by decide)
    have hin:(0:Int).toNat<(c::r).length:=by simp
    have hb9:(c::r)[(0:Int).toNat]'hin=c:=rfl
    have hbc:zao c= .int .u8 (c.toNat:Int):=rfl
    by_cases h32:c=32
    ·have hbl:zcI (c::r)=true:=by show(decide (c=32)||decide (c=9))=_;rw[decide_eq_true h32];rfl
     have d32:decide ((c.toNat:Int)=32)=true:=by rw[o32];exact decide_eq_true h32
     rw[hbl]
     refine zaT (fun i=>i==16) [(0,true),(1,true),(2,true),(3,true),(4,true),(5,true),(6,true),(7,true),(8,true),(9,true),(10,true),(11,true),(12,true),(13,true),(14,true),(15,true),(16,false)] NoS mixed (by kernel_rfl) ?_;intro gd K x hgd hx hxe hK;have hx0:=zaR hxe;clear hxe
     have hg3:∀n σ b,zaw gd n σ (some (3,b))=zap (ev n σ (.tmp 30)) b:=(fun n σ b=>by rw[zag,show gd 3=some 30 from(by rw[hgd];rfl)];rfl);have hg7:∀n σ b,zaw gd n σ (some (7,b))=zap (ev n σ (.tmp 34)) b:=(fun n σ b=>by rw[zag,show gd 7=some 34 from(by rw[hgd];rfl)];rfl)
     have q4x:=zab hx0 q42
     have hTx:=hT2.ext hx0
     simp (disch:=first|omega|assumption|rfl) only[go_sem,q4x,Nat.zero_add,dn,i00,r0,hb9,hbc,d32,↓hg3,↓hg7]
     refine zaq (P:=Tryz.prog) rfl rfl rfl hTx.h (by simp) (by simp) ?_
     intro v3 hs3' hb3 hk3
     refine⟨.inl rfl,?_⟩
     simp (disch:=first|omega|assumption|rfl) only[go_sem,↓hg3,↓hg7]
     refine hK _ _ ?_;clear hK hgd;clear K;try clear gd
     exact⟨rfl,rfl,⟨vr0,vr0⟩,TR.turn hTx (hk3.mono fun i _ e=>by omega) hb3,(hx0.mono fun _ _ h=>h.elim).trans hk3⟩
    ·have d32:decide ((c.toNat:Int)=32)=false:=by rw[o32];exact decide_eq_false h32
     obtain⟨z,hz⟩:∃z,decide (c=9)=z:=⟨_,rfl⟩
     have d9:decide ((c.toNat:Int)=9)=z:=by rw[←hz];exact o9
     have hbl:zcI (c::r)=z:=by show(decide (c=32)||decide (c=9))=_;rw[decide_eq_false h32,hz];rfl
     rw[hbl]
     cases z with
     |true=>
      refine zaT (fun i=>i==16) [(0,true),(1,true),(2,true),(3,true),(4,true),(5,true),(6,true),(7,true),(8,true),(9,true),(10,true),(11,true),(12,true),(13,true),(14,true),(15,true),(16,false)] NoS mixed (by kernel_rfl) ?_;intro gd K x hgd hx hxe hK;have hx0:=zaR hxe;clear hxe
      have hg3:∀n σ b,zaw gd n σ (some (3,b))=zap (ev n σ (.tmp 30)) b:=(fun n σ b=>by rw[zag,show gd 3=some 30 from(by rw[hgd];rfl)];rfl);have hg7:∀n σ b,zaw gd n σ (some (7,b))=zap (ev n σ (.tmp 34)) b:=(fun n σ b=>by rw[zag,show gd 7=some 34 from(by rw[hgd];rfl)];rfl)
      have q4x:=zab hx0 q42
      have hTx:=hT2.ext hx0
      simp (disch:=first|omega|assumption|rfl) only[go_sem,q4x,Nat.zero_add,dn,i00,r0,hb9,hbc,d32,d9,↓hg3,↓hg7]
      refine zaq (P:=Tryz.prog) rfl rfl rfl hTx.h (by simp) (by simp) ?_
      intro v3 hs3' hb3 hk3
      refine⟨.inl rfl,?_⟩
      simp (disch:=first|omega|assumption|rfl) only[go_sem,↓hg3,↓hg7]
      refine hK _ _ ?_;clear hK hgd;clear K;try clear gd
      exact⟨rfl,rfl,⟨vr0,vr0⟩,TR.turn hTx (hk3.mono fun i _ e=>by omega) hb3,(hx0.mono fun _ _ h=>h.elim).trans hk3⟩
     |false=>
      refine zaT (fun i=>i==16) [(0,true),(1,true),(2,true),(3,true),(4,true),(5,true),(6,true),(7,true),(8,true),(9,true),(10,true),(11,true),(12,true),(13,true),(14,true),(15,true),(16,false)] NoS mixed (by kernel_rfl) ?_;intro gd K x hgd hx hxe hK;have hx0:=zaR hxe;clear hxe
      have hg3:∀n σ b,zaw gd n σ (some (3,b))=zap (ev n σ (.tmp 30)) b:=(fun n σ b=>by rw[zag,show gd 3=some 30 from(by rw[hgd];rfl)];rfl);have hg7:∀n σ b,zaw gd n σ (some (7,b))=zap (ev n σ (.tmp 34)) b:=(fun n σ b=>by rw[zag,show gd 7=some 34 from(by rw[hgd];rfl)];rfl)
      have q4x:=zab hx0 q42
      have hTx:=hT2.ext hx0
      simp (disch:=first|omega|assumption|rfl) only[go_sem,q4x,Nat.zero_add,dn,i00,r0,hb9,hbc,d32,d9,↓hg3,↓hg7]
      refine zaq (P:=Tryz.prog) rfl rfl rfl hTx.h (by simp) (by simp) ?_
      intro v3 hs3' hb3 hk3
      refine⟨.inl rfl,?_⟩
      simp (disch:=first|omega|assumption|rfl) only[go_sem,↓hg3,↓hg7]
      refine hK _ _ ?_;clear hK hgd;clear K;try clear gd
      exact⟨rfl,rfl,⟨vr0,vr0⟩,TR.turn hTx (hk3.mono fun i _ e=>by omega) hb3,(hx0.mono fun _ _ h=>h.elim).trans hk3⟩
  rintro _ σ1 _ v3 ⟨rfl,rfl,⟨s5,s7⟩,hT3,hk3⟩
  have hs3':=hk3.size
  have g43:=(hk3.block (A+4) (by omega) (by omega)).trans g42
  have q43:zad v3 (some ⟨A+4,0,Option.none⟩)=some (.pointer (some ⟨A+3,0,Option.none⟩)):=zaa g43 rfl
  rw[hle]at s7
  have hT':Toks l x.2:=by rw[hle];exact hT
  rw[←hle]at s7
  refine go (an2 s5 s7) ?_
  refine rc (an3 s5 s7 q43) (read_ok ⟨ov,wv,G,hT3⟩ hT' (by rw[hle];exact hll)) ?_
  rintro _ v4 ⟨rfl,hR4,hk4⟩
  have hs4':=hk4.size
  have g44:=(hk4.block (A+4) (by omega) (by omega)).trans g43
  have q44:zad v4 (some ⟨A+4,0,Option.none⟩)=some (.pointer (some ⟨A+3,0,Option.none⟩)):=zaa g44 rfl
  have hR4':=hR4
  obtain⟨ov4,wv4,G4,hT4⟩:=hR4
  have k6:zad v4 (some ⟨A+3,6,Option.none⟩)=some (.slice Option.none 0 0):=zaa hT4.h rfl
  refine rgo (an6 s5 s7 (show decide ((0:Int)=0)=true from rfl) q44 k6 Nat.zero_add) ?_
  have hwl:=zfo hT
  refine rc (an2 s5 q44) (end_ok hR4' hol (by omega)) ?_
  rintro _ v5 ⟨hR5,hk5⟩
  have hs5':=hk5.size
  refine rgo trivial ?_
  have hkk:Keep (fun i=>i=A+3∨A+8≤i) V2 v5:=(((((hk1.mono fun i _ e=> .inl e).trans (hk2'.mono fun i _ e=> .inl e)).trans (hk3.mono fun i _ e=> .inl e)).trans hk4).trans hk5)
  have kq:∀{i:Nat} {o:Obj},V.heap[i]? =some o→i<A+5→i≠A+3→v5.heap[i]? =some o:=fun {i o} h h1 h2=>(hkk.block i (by have:=(Array.getElem?_eq_some_iff.1 (kp h h1)).1;exact this) (by omega)).trans (kp h h1)
  refine⟨⟨⟨kq h1 (by omega) (by omega),kq h2 (by omega) (by omega),kq h3 (by omega) (by omega),kq h4 (by omega) (by omega)⟩,(h5.trans (hV2.mono fun i _ h=>by unfold two at h;omega)).trans (hkk.mono fun i _ h=>by omega),.inr ⟨n,?_⟩⟩,hkk.toB (by omega) fun i hi h=>by omega⟩
  have hfin:(if x.2=[] then entF 1 (xs.take pre.length) else entF 1 (xs.take pre.length)++ [⟨if x.2=[] then 0 else(n:Int),zcI l,x.2⟩])=entF 1 (xs.take (pre++ [(n,l)]).length):=by
   rw[List.length_append,show([(n,l)]:List (Nat×Lab)).length=1 from rfl,hout]
   unfold zkn
   by_cases h0:x.2=[]
   ·rw[if_pos h0,if_pos h0,List.append_nil]
   ·rw[if_neg h0,if_neg h0,if_neg h0,hle]
  rw[←hfin]
  exact hR5
 ·rintro xs' w6 rfl hsz6 ⟨⟨h1,h2,h3,h4⟩,h5,h6⟩ hD
  have q4:zad w6 (some ⟨A+4,0,Option.none⟩)=some (.pointer (some ⟨A+3,0,Option.none⟩)):=zaa h4 rfl
  obtain⟨ov,y1,y2,y3,y4,y5,hR6,h1v,hblk,hfin⟩:∃ov y1 y2 y3 y4 y5,w6.heap[A+3]? =some (.cells #[ov,y1,y2,y3,y4,y5,.slice Option.none 0 0] 139 (0,0))∧one ov=true∧(∀a n c,ov= .slice (some a) n c→A≤a.block)∧∀X,Keep (fun i=>i<A+8∧i≠A+3) w6 X→Rows 3 (EntC X) X ov (entF 1 xs):=by
   rcases h6 with ⟨h6,h7⟩| ⟨ln,ov,wv,G,h6⟩
   ·have hx0:xs=[]:=by
     have:=congrArg List.length h6
     rw[zfF,List.length_map]at this
     exact List.length_eq_zero_iff.1 this
    refine⟨_,_,_,_,_,_,h7,rfl,(fun a n c h=>by cases h),fun X _=>?_⟩
    rw[hx0]
    exact Rows.nil _ _ _
   ·rw[zfF,List.length_map,List.take_length]at h6
    have h1v:one ov=true:=by rcases h6.oo.cases with ⟨e,_⟩| ⟨_,_,_,e,_⟩<;>rw[e]<;>rfl
    exact⟨_,_,_,_,_,_,h6.h,h1v,(fun a n c h=>by have:=(h6.oo.ge (b:=a.block) (by rw[h];rfl)).1;omega),fun X hX=>(h6.low hX).rows⟩
  have k6:zad w6 (some ⟨A+3,6,Option.none⟩)=some (.slice Option.none 0 0):=zaa hR6 rfl
  have k0:zad w6 (some ⟨A+3,0,Option.none⟩)=some ov:=zaa hR6 rfl
  have lt:=fun {i:Nat} {o:Obj} (h:w6.heap[i]? =some o)=>(Array.getElem?_eq_some_iff.1 h).1
  have l3:=lt hR6
  have lD:=lt hD
  refine go (an4 q4 k6 Nat.zero_add (show decide ((0:Int)<((0:Nat):Int))=false from rfl)) ?_
  refine rq ?_;intro gd K hgd hK
  try simp (disch:=first|omega|assumption|rfl) only[go_sem,q4,k0,Nat.zero_add]
  refine zaq (P:=Tryz.prog) rfl rfl h1v h1 (by simp) (by simp) ?_
  intro z1 hz1 hb1 hk1
  try simp only[go_sem]
  refine zaq (P:=Tryz.prog) rfl rfl rfl ((hk1.block (A+1) (lt h2) (by omega)).trans h2) (by simp) (by simp) ?_
  intro z2 hz2 hb2 hk2
  try simp only[go_sem]
  refine zaq (P:=Tryz.prog) rfl rfl rfl ((hk2.block (A+1+1) (by have:=lt h3;omega) (by omega)).trans ((hk1.block (A+1+1) (lt h3) (by omega)).trans h3)) (by simp) (by simp) ?_
  intro z3 hz3 hb3 hk3
  try simp only[go_sem]
  refine hK _ _ ?_;clear hK hgd;clear K;try clear gd
  have hkz:Keep (fun i=>A≤i∧i<A+3) w6 z3:=((hk1.mono fun i _ e=>by omega).trans (hk2.mono fun i _ e=>by omega)).trans (hk3.mono fun i _ e=>by omega)
  have g1:z3.heap[A]? =some (.cells #[ov] 110 (0,0)):=(hk3.block A (by omega) (by omega)).trans ((hk2.block A (by omega) (by omega)).trans hb1)
  have g2:z3.heap[A+1]? =some (.cells #[vi 0] 3 (0,0)):=(hk3.block (A+1) (by omega) (by omega)).trans hb2
  refine go trivial ?_
  refine zcR (.inr rfl) Tryz.ntmps59 rfl ((hkz.block _ lD (by omega)).trans hD) ?_
  intro Z hkZ hsZ
  have e1:zad Z (some ⟨A,0,Option.none⟩)=some ov:=zaa ((hkZ.block A (by omega) (by omega)).trans g1) rfl
  have e2:zad Z (some ⟨A+1,0,Option.none⟩)=some (vi 0):=zaa ((hkZ.block (A+1) (by omega) (by omega)).trans g2) rfl
  have e3:zad Z (some ⟨A+1+1,0,Option.none⟩)=some (vi 0):=zaa ((hkZ.block (A+1+1) (by omega) (by omega)).trans hb3) rfl
  refine⟨_,zci (vr0) rfl rfl e1 (zci (vr0) rfl rfl e2 (zci (vr0) rfl rfl e3 zae)),?_⟩
  refine⟨Keep.to_ext (Keep.to_ext (Keep.to_ext hE13 rfl (fun i hi=>by omega) h5) rfl (fun i hi=>by omega) hkz) rfl (fun i hi=>by omega) hkZ,ov,rfl,hblk,fun X hX=>?_⟩
  have e1:Keep (fun i=>i<A+8∧i≠A+3) w6 z3:=hkz.mono fun i _ e=>by omega
  have e2:Keep (fun i=>i<A+8∧i≠A+3) z3 Z:=hkZ.mono fun i _ (e:i=w3.heap.size)=>by omega
  have e3:Keep (fun i=>i<A+8∧i≠A+3) Z X:=hX.mono fun i _ (e:i<A)=>by omega
  exact hfin X ((e1.trans e2).trans e3)
def wF:Bool→Lab→Lab→Bool→List (Lab×Bool)
 |_,[],w,_=>if w=[] then [] else [(w,false)]
 |true,c::s,w,q=>wF false s (w++ [c]) q
 |false,c::s,w,q=>
  if c=92∧s≠ [] then wF true s (w++ [c]) q
  else if c=34 then(if q=true then(w,true)::wF false s [] false else wF false s w true)
  else if q=true then wF false s (w++ [c]) true
  else if c=32 then(if w=[] then wF false s [] false else(w,false)::wF false s [] false)
  else wF false s (w++ [c]) false
theorem zhs(w:World)(t:Int):Fn Tryz.prog 62 #[vi t] w (fun v w'=>v= .tuple #[vi (zax t).1,vi (zax t).2.1,vi (zax t).2.2.2]∧w'=w):=by
 refine enter Tryz.func62 Tryz.ntmps62 rfl rfl ?_
 by_cases h1:t=1
 ·subst h1
  refine go (an9 (show decide ((1:Int)=1)=true from rfl) trivial trivial trivial trivial trivial trivial trivial trivial) ?_
  refine zaf (.inr rfl) Tryz.ntmps62 rfl (zac (vr0) (zac (vr0) (zac (vr0) zae))) ?_
  exact⟨rfl,rfl⟩
 by_cases h28:t=28
 ·subst h28
  refine go (an9 (show decide ((28:Int)=1)=false from rfl) (show decide ((28:Int)=28)=true from rfl) trivial trivial trivial trivial trivial trivial trivial) ?_
  refine zaf (.inr rfl) Tryz.ntmps62 rfl (zac (vr0) (zac (vr0) (zac (vr0) zae))) ?_
  exact⟨rfl,rfl⟩
 by_cases h2:t=2
 ·subst h2
  refine go (an9 (show decide ((2:Int)=1)=false from rfl) (show decide ((2:Int)=28)=false from rfl) (show decide ((2:Int)=2)=true from rfl) trivial trivial trivial trivial trivial trivial) ?_
  refine zaf (.inr rfl) Tryz.ntmps62 rfl (zac (vr0) (zac (vr0) (zac (vr0) zae))) ?_
  exact⟨rfl,rfl⟩
 by_cases h5:t=5
 ·subst h5
  refine go (an9 (show decide ((5:Int)=1)=false from rfl) (show decide ((5:Int)=28)=false from rfl) (show decide ((5:Int)=2)=false from rfl) (show decide ((5:Int)=5)=true from rfl) trivial trivial trivial trivial trivial) ?_
  refine zaf (.inr rfl) Tryz.ntmps62 rfl (zac (vr0) (zac (vr0) (zac (vr0) zae))) ?_
  exact⟨rfl,rfl⟩
 by_cases h12:t=12
 ·subst h12
  refine go (an9 (show decide ((12:Int)=1)=false from rfl) (show decide ((12:Int)=28)=false from rfl) (show decide ((12:Int)=2)=false from rfl) (show decide ((12:Int)=5)=false from rfl) (show decide ((12:Int)=12)=true from rfl) trivial trivial trivial trivial) ?_
  refine zaf (.inr rfl) Tryz.ntmps62 rfl (zac (vr0) (zac (vr0) (zac (vr0) zae))) ?_
  exact⟨rfl,rfl⟩
 by_cases h39:t=39
 ·subst h39
  refine go (an9 (show decide ((39:Int)=1)=false from rfl) (show decide ((39:Int)=28)=false from rfl) (show decide ((39:Int)=2)=false from rfl) (show decide ((39:Int)=5)=false from rfl) (show decide ((39:Int)=12)=false from rfl) (show decide ((39:Int)=39)=true from rfl) trivial trivial trivial) ?_
  refine zaf (.inr rfl) Tryz.ntmps62 rfl (zac (vr0) (zac (vr0) (zac (vr0) zae))) ?_
  exact⟨rfl,rfl⟩
 by_cases h15:t=15
 ·subst h15
  refine go (an9 (show decide ((15:Int)=1)=false from rfl) (show decide ((15:Int)=28)=false from rfl) (show decide ((15:Int)=2)=false from rfl) (show decide ((15:Int)=5)=false from rfl) (show decide ((15:Int)=12)=false from rfl) (show decide ((15:Int)=39)=false from rfl) (show decide ((15:Int)=15)=true from rfl) trivial trivial) ?_
  refine zaf (.inr rfl) Tryz.ntmps62 rfl (zac (vr0) (zac (vr0) (zac (vr0) zae))) ?_
  exact⟨rfl,rfl⟩
 by_cases h6:t=6
 ·subst h6
  refine go (an9 (show decide ((6:Int)=1)=false from rfl) (show decide ((6:Int)=28)=false from rfl) (show decide ((6:Int)=2)=false from rfl) (show decide ((6:Int)=5)=false from rfl) (show decide ((6:Int)=12)=false from rfl) (show decide ((6:Int)=39)=false from rfl) (show decide ((6:Int)=15)=false from rfl) (show decide ((6:Int)=6)=true from rfl) trivial) ?_
  refine zaf (.inr rfl) Tryz.ntmps62 rfl (zac (vr0) (zac (vr0) (zac (vr0) zae))) ?_
  exact⟨rfl,rfl⟩
 by_cases h16:t=16
 ·subst h16
  refine go (an9 (show decide ((16:Int)=1)=false from rfl) (show decide ((16:Int)=28)=false from rfl) (show decide ((16:Int)=2)=false from rfl) (show decide ((16:Int)=5)=false from rfl) (show decide ((16:Int)=12)=false from rfl) (show decide ((16:Int)=39)=false from rfl) (show decide ((16:Int)=15)=false from rfl) (show decide ((16:Int)=6)=false from rfl) (show decide ((16:Int)=16)=true from rfl)) ?_
  refine zaf (.inr rfl) Tryz.ntmps62 rfl (zac (vr0) (zac (vr0) (zac (vr0) zae))) ?_
  exact⟨rfl,rfl⟩
 have hsh:zax t=(0,0,0, -1):=by
  unfold zax
  rw[if_neg h1,if_neg h28,if_neg h15,if_neg h6,if_neg h16,if_neg (by rintro(h|h|h|h);exact h2 h;exact h5 h;exact h12 h;exact h39 h)]
 rw[hsh]
 refine go (an9 (decide_eq_false h1) (decide_eq_false h28) (decide_eq_false h2) (decide_eq_false h5) (decide_eq_false h12) (decide_eq_false h39) (decide_eq_false h15) (decide_eq_false h6) (decide_eq_false h16)) ?_
 refine zaf (.inr rfl) Tryz.ntmps62 rfl (zac (vr0) (zac (vr0) (zac (vr0) zae))) ?_
 exact⟨rfl,rfl⟩
theorem shape_x(t:Int):(zax t).2.2.1=if t=16 then -1 else 0:=by
 unfold zax
 by_cases h:t=16
 ·subst h;rfl
 ·rw[if_neg h]
  (repeat' split)<;>rfl
theorem ziT{w:World}{cs:List Value}{d:DatL}(hd:DatAt w cs d)(hT:DatT d):Fn Tryz.prog 44 #[.agg cs.toArray] w (fun v w'=>v=vi (za9 d)∧Ext w w'):=by
 have hS:=hT.s
 obtain⟨nm,nu,tx,rw',rfl,⟨vals,⟨an,cn,rfl,hcn,hgn⟩,hvl,hvr⟩,hnu,htx,hrw⟩:=hd.ex
 obtain⟨au,cu,hau,hcu,hgu⟩:=id hnu
 obtain⟨at1,ct,hat,hgt⟩:=zc9 htx
 obtain⟨ar,cr,har,_⟩:=id hrw
 rw[List.length_map]at hau har hcu
 subst hau
 subst hat
 subst har
 unfold za9
 refine enter Tryz.func44 Tryz.ntmps44 rfl rfl ?_
 refine go trivial ?_
 refine zan ?_
 intro w1 hE1 hs1 hA
 have p0:zad w1 (some ⟨w.heap.size,0,Option.none⟩)=some (vi d.ty):=zaa hA rfl
 have p1:zad w1 (some ⟨w.heap.size,1,Option.none⟩)=some (.slice an vals.length cn):=zaa hA rfl
 have p2:zad w1 (some ⟨w.heap.size,2,Option.none⟩)=some (.slice au d.nums.length cu):=zaa hA rfl
 have p3:zad w1 (some ⟨w.heap.size,3,Option.none⟩)=some (.slice at1 d.texts.length ct):=zaa hA rfl
 have p4:zad w1 (some ⟨w.heap.size,4,Option.none⟩)=some (.slice ar d.raw.length cr):=zaa hA rfl
 obtain⟨p,hp⟩:∃p,w.heap.size=p:=⟨_,rfl⟩
 rw[hp]at p0 p1 p2 p3 p4 hA ⊢
 by_cases c1:d.ty<1
 ·rw[if_pos (.inl c1)]
  refine go trivial ?_
  refine rgg [(3,13)] (an3 p0 (decide_eq_true c1) (Nat.add_zero 0)) ?_
  refine go trivial ?_
  refine zaf (.inr rfl) Tryz.ntmps44 rfl (zac (vr0) zae) ?_
  exact⟨rfl,hE1⟩
 by_cases c2:65535<d.ty
 ·rw[if_pos (.inr c2)]
  refine go trivial ?_
  refine rgg [(3,13)] (an4 p0 (decide_eq_false c1) (decide_eq_true c2) (Nat.add_zero 0)) ?_
  refine go trivial ?_
  refine zaf (.inr rfl) Tryz.ntmps44 rfl (zac (vr0) zae) ?_
  exact⟨rfl,hE1⟩
 rw[if_neg (by omega)]
 refine go trivial ?_
 refine rgg [(3,13)] (an4 p0 (decide_eq_false c1) (decide_eq_false c2) (Nat.add_zero 0)) ?_
 refine go trivial ?_
 refine rc (an2 p0 (Nat.add_zero 0)) (zhs w1 d.ty) ?_
 rintro _ w2 ⟨rfl,hw2⟩
 subst hw2
 have hx:=shape_x d.ty
 obtain⟨⟨a,c,x,r⟩,hsh⟩:∃x,zax d.ty=x:=⟨_,rfl⟩
 have htxd:txD d=if x<0 then min (max (d.texts.length:Int) 1) 32 else x:=by unfold txD;rw[hsh]
 have hrwd:rwD d=if r<0 then(d.raw.length:Int) else r:=by unfold rwD;rw[hsh]
 have hfb:zbF d=(decide ((d.names.length:Int)=a) && decide ((d.nums.length:Int)=c) && decide ((d.texts.length:Int)=txD d) && decide ((d.raw.length:Int)=rwD d)):=by unfold zbF;rw[hsh]
 rw[hsh]at hx ⊢
 simp only at hx ⊢
 obtain⟨b6,hb6⟩:∃b,decide ((d.texts.length:Int)=txD d)=b:=⟨_,rfl⟩
 rw[hb6]at hfb
 obtain⟨z,hz⟩:∃b,decide ((d.texts.length:Int)=0)=b:=⟨_,rfl⟩
 refine rgo (an3 p3 (Nat.zero_add 3) hz) ?_
 refine rg2 p0 Nat.add_zero ?_
 repeat refine c_r ?_
 refine zat (Q:=fun e σ' ds' v'=>e= .normal∧ds'=[]∧v'=w2∧(σ' 1= .pointer (some ⟨p,0,Option.none⟩)∧σ' 3=vi a∧σ' 4=vi c∧σ' 5=vi r∧σ' 6= .bool b6)) ?_ ?_
 ·refine wc0 ?_ ?_
  ·intro h16
   have h16':=of_decide_eq_true h16
   rw[if_pos h16']at hx
   rw[if_pos (by omega)]at htxd
   repeat refine c_r ?_
   by_cases k1:(1:Int)≤(d.texts.length:Int)
   ·obtain⟨z2,hz2⟩:∃b,decide ((d.texts.length:Int)≤32)=b:=⟨_,rfl⟩
    have e6:z2=b6:=by rw[←hz2,←hb6];exact decide_eq_decide.2 (by rw[htxd];omega)
    refine rgg [(4,36)] (an5 p3 (Nat.zero_add 3) (decide_eq_true k1) hz2 trivial) ?_
    exact⟨rfl,rfl,rfl,vr0,vr0,vr0,vr0,by rw[←e6];first| (simp only[go_sem];done)| (simp only[go_sem];rfl)⟩
   ·have e6:b6=false:=by rw[←hb6];exact decide_eq_false (by rw[htxd];omega)
    subst e6
    refine rgg [(4,36)] (an3 p3 (Nat.zero_add 3) (decide_eq_false k1)) ?_
    exact⟨rfl,rfl,rfl,vr0,vr0,vr0,vr0,vr0⟩
  ·intro h16
   have h16':=of_decide_eq_false h16
   rw[if_neg h16']at hx
   rw[if_neg (by omega),hx]at htxd
   have e6:z=b6:=by rw[←hz,←hb6,htxd]
   repeat refine c_r ?_
   exact⟨rfl,rfl,rfl,vr0,vr0,vr0,vr0,by rw[←e6];first| (simp only[go_sem];done)| (simp only[go_sem];rfl)⟩
 rintro _ σ1 _ w3 ⟨rfl,rfl,rfl,⟨s1,s3,s4,s5,s6⟩⟩
 repeat refine c_r ?_
 rw[←hvl]at hfb
 refine zat (Q:=fun e σ' ds' v'=>e= .normal∧ds'=[]∧v'=w3∧σ' 1= .pointer (some ⟨p,0,Option.none⟩)∧σ' 68= .bool (!zbF d)) ?_ ?_
 ·by_cases kA:(vals.length:Int)=a
  rotate_left
  ·have e7:(!zbF d)=true:=by rw[hfb,decide_eq_false kA];rfl
   rw[e7]
   refine rgg [(5,47),(12,54),(15,57),(23,65)] (an9 s1 s3 s4 s5 s6 p1 (Nat.zero_add 1) (decide_eq_false kA) (an3 Bool.not_true Bool.not_false zb1)) ?_
   exact⟨rfl,rfl,rfl,(vq1 s1),vr0⟩
  by_cases kB:(d.nums.length:Int)=c
  rotate_left
  ·have e7:(!zbF d)=true:=by rw[hfb,decide_eq_false kB];simp
   rw[e7]
   refine rgg [(5,47),(12,54),(15,57),(23,65)] (an9 s1 s3 s4 s5 s6 p1 (Nat.zero_add 1) (decide_eq_true kA) (an6 p2 (Nat.zero_add 2) (decide_eq_false kB) Bool.not_true Bool.not_false zb1)) ?_
   exact⟨rfl,rfl,rfl,(vq1 s1),vr0⟩
  by_cases kC:(0:Int)≤r
  ·rw[if_neg (by omega)]at hrwd
   by_cases kD:(d.raw.length:Int)=r
   ·have e7:(!zbF d)=!b6:=by rw[hfb,decide_eq_true kA,decide_eq_true kB,hrwd,decide_eq_true kD];simp
    rw[e7]
    refine rgg [(5,47),(12,54),(15,57),(23,65)] (an9 s1 s3 s4 s5 s6 p1 (Nat.zero_add 1) (decide_eq_true kA) (an9 p2 (Nat.zero_add 2) (decide_eq_true kB) Bool.not_true Bool.not_false (decide_eq_true kC) p4 (Nat.zero_add 4) (decide_eq_true kD))) ?_
    exact⟨rfl,rfl,rfl,(vq1 s1),vr0⟩
   ·have e7:(!zbF d)=true:=by rw[hfb,hrwd,decide_eq_false kD];simp
    rw[e7]
    refine rgg [(5,47),(12,54),(15,57),(23,65)] (an9 s1 s3 s4 s5 s6 p1 (Nat.zero_add 1) (decide_eq_true kA) (an9 p2 (Nat.zero_add 2) (decide_eq_true kB) Bool.not_true Bool.not_false (decide_eq_true kC) p4 (Nat.zero_add 4) (decide_eq_false kD))) ?_
    exact⟨rfl,rfl,rfl,(vq1 s1),vr0⟩
  ·rw[if_pos (by omega)]at hrwd
   have e7:(!zbF d)=!b6:=by rw[hfb,decide_eq_true kA,decide_eq_true kB,hrwd];simp
   rw[e7]
   refine rgg [(5,47),(12,54),(15,57),(23,65)] (an9 s1 s3 s4 s5 s6 p1 (Nat.zero_add 1) (decide_eq_true kA) (an9 p2 (Nat.zero_add 2) (decide_eq_true kB) Bool.not_true Bool.not_false (decide_eq_false kC) p4 (Nat.zero_add 4) zb1)) ?_
   exact⟨rfl,rfl,rfl,(vq1 s1),vr0⟩
 clear s1 s3 s4 s5 s6
 rintro _ σ2 _ w4 ⟨rfl,rfl,rfl,s1,s68⟩
 cases hf:zbF d with
 |false=>
  rw[hf]at s68
  rw[if_pos rfl]
  refine go (an2 s1 s68) ?_
  refine zaf (.inr rfl) Tryz.ntmps44 rfl (zac (vr0) zae) ?_
  exact⟨rfl,hE1⟩
 |true=>
 rw[hf]at s68
 rw[if_neg (by decide)]
 refine go (an2 s1 s68) ?_
 have hnames:=hS.names
 have hnn:=hT.nn
 refine zba vals.length (fun i σ v=>(σ 1= .pointer (some ⟨p,0,Option.none⟩)∧σ 7=vi i)∧Ext w4 v∧∀j (h:j<d.names.length),j<i→zaE d.names[j]=0) ?_ ?_ ?_
 ·exact⟨⟨(vr1 s1),vr0⟩,Keep.refl _ _,fun j _ h=>by omega⟩
 ·rintro i σ v hi r ⟨⟨s1,s7⟩,hE,hlow⟩
  have g0:=hgn i hi
  obtain⟨xN,rfl⟩:=Option.isSome_iff_exists.1 (zam g0)
  have hEv:=hE1.trans hE
  have g:=zab hEv g0
  have hin:i<d.names.length:=by omega
  have hrow:=(hvr i hi hin).ext hEv
  obtain⟨nv,hnv⟩:∃nv,vals[i]=nv:=⟨_,rfl⟩
  obtain⟨n,hn⟩:∃n,d.names[i]=n:=⟨_,rfl⟩
  rw[hnv]at g hrow
  rw[hn]at hrow
  have hnS:=hnames n (hn▸List.getElem_mem hin)
  obtain⟨r1,r2,r3,r4⟩:=r
  have q1:=zab hE p1
  refine go (an9 s1 s7 q1 (Nat.zero_add 1) r1 r2 r3 g trivial) ?_
  refine rc (an9 s1 s7 q1 (Nat.zero_add 1) r1 r2 r3 g trivial) (zbL v nv n hrow (fun l hl=>by have:=hnS.1 l hl;omega) (by have:=hnS.2;omega)) ?_
  rintro _ v1 ⟨rfl,hE1'⟩
  by_cases hc:zaE n=0
  ·refine rgo (an4 s1 s7 r4 (decide_eq_true hc)) ?_
   refine⟨rfl,⟨(vq1 s1),(vq1 r4)⟩,hE.trans hE1',fun j hj hji=>?_⟩
   by_cases e:j=i
   ·subst e;rw[hn];exact hc
   ·exact hlow j hj (by omega)
  ·refine rgo (an2 s1 (decide_eq_false hc)) ?_
   refine zaf (.inr rfl) Tryz.ntmps44 rfl (zac (vr0) zae) ?_
   have hfind:d.names.find? (fun n=>decide (zaE n≠0))=some n:=by
    rw[List.find?_eq_some_iff_getElem]
    refine⟨decide_eq_true hc,i,hin,hn,fun j hj=>?_⟩
    simp[hlow j (by omega) hj]
   rw[hfind]
   exact⟨rfl,hEv.trans hE1'⟩
 clear s1 s68
 rintro σ v r ⟨⟨s1,s7⟩,hE,hlow⟩
 have hnone:d.names.find? (fun n=>decide (zaE n≠0))=Option.none:=by
  rw[List.find?_eq_none]
  intro n hn
  obtain⟨j,hj,rfl⟩:=List.mem_iff_getElem.1 hn
  simp[hlow j hj (by omega)]
 rw[hnone]
 simp only
 have hEv:=hE1.trans hE
 have u0:=zab hE p0
 have u1:=zab hE p1
 have u2:=zab hE p2
 have u3:=zab hE p3
 have u4:=zab hE p4
 refine go (an5 s1 s7 u1 r (Nat.zero_add 1)) ?_
 obtain⟨tt,htt⟩:∃tt,decide (d.ty=15∧65535<d.nums.headD 0)=tt:=⟨_,rfl⟩
 refine zat (Q:=fun e σ' ds' v'=>e= .normal∧ds'=[]∧v=v'∧σ' 1= .pointer (some ⟨p,0,Option.none⟩)∧σ' 94= .bool tt) ?_ ?_
 ·by_cases c3:d.ty=15
  ·have hn1:d.nums.length=1:=by
    unfold zbF at hf
    simp only[Bool.and_eq_true,decide_eq_true_eq]at hf
    have h2:=hf.1.1.2
    rw[c3]at h2
    have h3:(zax 15).2.1=1:=rfl
    rw[h3]at h2
    omega
   obtain⟨x,hx⟩:∃x,d.nums[0]'(by omega)=x:=⟨_,rfl⟩
   have hhd:d.nums.headD 0=x:=by
    cases hnn:d.nums with
    |nil=>rw[hnn]at hn1;cases hn1
    |cons a l=>simp[hnn]at hx;simpa using hx
   have gu:=zab hEv (hgu 0 (by rw[List.length_map];omega))
   rw[List.getElem_map,hx,zal]at gu
   obtain⟨xU,rfl⟩:∃x,au=some x:=by
    cases au with
    |none=>cases gu
    |some x=>exact⟨x,rfl⟩
   have n0:(0:Int)<(d.nums.length:Int):=by omega
   have d2:decide ((65535:Int)<x)=tt:=by rw[←htt,hhd];exact decide_eq_decide.2 ⟨fun h=>⟨c3,h⟩,fun h=>h.2⟩
   refine rgg [(3,88)] (an9 s1 u0 u2 (decide_eq_true c3) gu n0 d2 (Nat.add_zero 0) (an4 (Nat.zero_add 2) Int.toNat_zero (Nat.zero_mul 1) (zal (some xU)))) ?_
   exact⟨rfl,rfl,rfl,(vq1 s1),vr0⟩
  ·have d2:tt=false:=by rw[←htt];exact decide_eq_false fun h=>c3 h.1
   subst d2
   refine rgg [(3,88)] (an4 s1 u0 (decide_eq_false c3) (Nat.add_zero 0)) ?_
   exact⟨rfl,rfl,rfl,(vq1 s1),vr0⟩
 clear s1
 rintro _ σ3 _ v1 ⟨rfl,rfl,hv1,s1,s94⟩
 subst hv1
 cases tt with
 |true=>
  rw[if_pos (of_decide_eq_true htt)]
  refine go (an2 s1 s94) ?_
  refine zaf (.inr rfl) Tryz.ntmps44 rfl (zac (vr0) zae) ?_
  exact⟨rfl,hEv⟩
 |false=>
 rw[if_neg (of_decide_eq_false htt)]
 have htx':=hS.tx
 have hnt:=hS.nt
 refine go (an2 s1 s94) ?_
 clear hlow
 refine zba d.texts.length (fun i σ v'=>(σ 1= .pointer (some ⟨p,0,Option.none⟩)∧σ 9=vi i)∧v'=v∧∀j (h:j<d.texts.length),j<i→d.texts[j].length≤255) ?_ ?_ ?_
 ·exact⟨⟨(vr1 s1),vr0⟩,rfl,fun j _ h=>by omega⟩
 ·rintro i σ v' hi ⟨r1,r2,r3,r4⟩ ⟨⟨s1,s9⟩,rfl,hlow⟩
  obtain⟨xT,rfl,g0⟩:=hgt i hi
  have g:=zab hEv g0
  obtain⟨tx,htxi⟩:∃t,d.texts[i]=t:=⟨_,rfl⟩
  rw[htxi]at g
  have htl:=htx' tx (htxi▸List.getElem_mem hi)
  by_cases hlt:255<tx.length
  ·have d5:decide ((255:Int)<(tx.length:Int))=true:=decide_eq_true (by omega)
   refine go (an9 s1 s9 u3 (Nat.zero_add 3) r1 r2 r3 g d5) ?_
   refine zaf (.inr rfl) Tryz.ntmps44 rfl (zac (vr0) zae) ?_
   have hlg:zdv d.texts=true:=by
    unfold zdv
    rw[List.any_eq_true]
    exact⟨tx,htxi▸List.getElem_mem hi,decide_eq_true hlt⟩
   rw[if_pos (.inr hlg)]
   exact⟨rfl,hEv⟩
  ·have d5:decide ((255:Int)<(tx.length:Int))=false:=decide_eq_false (by omega)
   refine go (an9 s1 s9 u3 (Nat.zero_add 3) r1 r2 r3 g (an2 r4 d5)) ?_
   refine⟨rfl,⟨(vq1 s1),(vq1 r4)⟩,rfl,fun j hj hji=>?_⟩
   by_cases e:j=i
   ·subst e;rw[htxi];omega
   ·exact hlow j hj (by omega)
 clear s1
 rintro σ v' r ⟨⟨s1,s9⟩,rfl,hlow⟩
 have hlg:zdv d.texts=false:=by
  unfold zdv
  rw[List.any_eq_false]
  intro t ht
  obtain⟨j,hj,rfl⟩:=List.mem_iff_getElem.1 ht
  have:=hlow j hj hj
  simp;omega
 by_cases c4:1024<d.raw.length
 ·have d4:decide ((1024:Int)<(d.raw.length:Int))=true:=decide_eq_true (by omega)
  rw[if_pos (.inl c4)]
  refine go (an9 s1 s9 u3 (Nat.zero_add 3) r u4 d4 (Nat.zero_add 4) trivial) ?_
  refine zaf (.inr rfl) Tryz.ntmps44 rfl (zac (vr0) zae) ?_
  exact⟨rfl,hEv⟩
 ·have d4:decide ((1024:Int)<(d.raw.length:Int))=false:=decide_eq_false (by omega)
  rw[if_neg (fun h=>by rcases h with h|h;exact c4 h;rw[hlg]at h;cases h)]
  refine go (an9 s1 s9 u3 (Nat.zero_add 3) r u4 d4 (Nat.zero_add 4) trivial) ?_
  refine zaf (.inr rfl) Tryz.ntmps44 rfl (zac (vr0) zae) ?_
  exact⟨rfl,hEv⟩
theorem zdM{d:DatL}(hf:zbF d=true):(d.names.length:Int)=(zax d.ty).1∧(d.nums.length:Int)=(zax d.ty).2.1∧(d.texts.length:Int)=txD d∧(d.raw.length:Int)=rwD d:=by
 unfold zbF at hf
 simp only[Bool.and_eq_true,decide_eq_true_eq]at hf
 exact⟨hf.1.1.1,hf.1.1.2,hf.1.2,hf.2⟩
theorem zbf{α:Type}{l:List α}(h:(l.length:Int)=0):l=[]:=List.length_eq_zero_iff.1 (by omega)
theorem zbd{d:DatL}(hf:zbF d=true){a c r:Int}(h:zax d.ty=(a,c,0,r)):(d.names.length:Int)=a∧(d.nums.length:Int)=c∧d.texts=[]∧(0≤r→(d.raw.length:Int)=r):=by
 obtain⟨h1,h2,h3,h4⟩:=zdM hf
 unfold txD at h3
 unfold rwD at h4
 rw[h]at h1 h2 h3 h4
 exact⟨h1,h2,zbf h3,fun hr=>by rw[if_neg (by simp only;omega)]at h4;exact h4⟩
theorem zbY(sep x:Lab):zaX sep [x]=x:=by simp[zaX]
theorem ziJ(l:List UInt8):zaS 1 l=l.map fun c=>[c]:=by
 refine List.ext_getElem (by rw[zb9];simp) fun i h1 h2=>?_
 rw[zdN]
 have hi:i<l.length:=by simpa using h2
 rw[List.getElem_map,Nat.mul_one,List.drop_eq_getElem_cons hi]
 rfl
theorem zi8{d:DatL}(hf:zbF d=true)(ht:d.ty=1):za6 hexU d=zaX [46] (d.raw.map fun c=>Lib.decDigits c.toNat):=by
 obtain⟨h1,h2,h3,h4⟩:=zbd hf (a:=0) (c:=0) (r:=4) (by rw[ht];rfl)
 have e1:=zbf h1
 have e2:=zbf h2
 unfold za6 zbD zbJ zdn zcj
 rw[e1,e2,h3,ht]
 simp only[List.map_nil,ite_self,List.append_nil,List.nil_append,if_true]
 rw[zbY]
 unfold zcC
 rw[ziJ,List.map_map]
 congr 1
 refine List.map_congr_left fun c _=>?_
 show Lib.decDigits (0*256+c.toNat)=_
 rw[Nat.zero_mul,Nat.zero_add]
def zgm(raw:List UInt8)(i:Nat):Lab:=hexU ((raw.getD (2*i) 0).toNat*256+(raw.getD (2*i+1) 0).toNat)
theorem tx_28{d:DatL}(hf:zbF d=true)(ht:d.ty=28):d.raw.length=16∧za6 hexU d=zaX [58] ((List.range 8).map (zgm d.raw)):=by
 obtain⟨h1,h2,h3,h4⟩:=zbd hf (a:=0) (c:=0) (r:=16) (by rw[ht];rfl)
 have e1:=zbf h1
 have e2:=zbf h2
 have e4:d.raw.length=16:=by have:=h4 (by decide);omega
 refine⟨e4,?_⟩
 unfold za6 zbD zbJ zdn zcj
 rw[e1,e2,h3,ht]
 simp only[List.map_nil,ite_self,List.append_nil,List.nil_append,if_true,if_neg (show¬(28:Int)=1 by decide)]
 rw[zbY]
 unfold zcC
 congr 1
 refine List.ext_getElem (by rw[List.length_map,zb9,e4];simp) fun i h1 h2=>?_
 have hi:i<8:=by simpa using h2
 rw[List.getElem_map,List.getElem_map,zdN,List.getElem_range]
 unfold zgm
 rw[List.getD_eq_getElem?_getD,List.getElem?_eq_getElem (show 2*i<d.raw.length by omega),List.getD_eq_getElem?_getD,List.getElem?_eq_getElem (show 2*i+1<d.raw.length by omega)]
 rw[show i*2=2*i from Nat.mul_comm _ _,List.drop_eq_getElem_cons (show 2*i<d.raw.length by omega),List.drop_eq_getElem_cons (show 2*i+1<d.raw.length by omega)]
 show hexU ((0*256+_)*256+_)=_
 rw[Nat.zero_mul,Nat.zero_add]
 rfl
theorem tx_16{d:DatL}(hf:zbF d=true)(ht:d.ty=16):za6 hexU d=zaX [32] (d.texts.map quoT):=by
 obtain⟨h1,h2,_,_⟩:=zdM hf
 rw[ht]at h1 h2
 have e1:=zbf h1
 have e2:=zbf h2
 unfold za6 zbD zbJ zdn zcj
 rw[e1,e2,ht,show(zby 16 tyTab).2=true from rfl]
 simp
theorem tx_15{d:DatL}(hf:zbF d=true)(ht:d.ty=15):∃m n,d.nums=[m]∧d.names=[n]∧za6 hexU d=(numT m++ [32])++zaV n:=by
 obtain⟨h1,h2,h3,h4⟩:=zbd hf (a:=1) (c:=1) (r:=0) (by rw[ht];rfl)
 obtain⟨n,hn⟩:=List.length_eq_one_iff.1 (show d.names.length=1 by omega)
 obtain⟨m,hm⟩:=List.length_eq_one_iff.1 (show d.nums.length=1 by omega)
 refine⟨m,n,hm,hn,?_⟩
 unfold za6 zbD zbJ zdn zcj
 rw[hn,hm,h3,ht,show(zby 15 tyTab).2=true from rfl]
 simp[zaX]
theorem zfn{d:DatL}(hf:zbF d=true)(ht:d.ty=2∨d.ty=5∨d.ty=12∨d.ty=39∨d.ty=6):za6 hexU d=zaX [32] (d.names.map zaV++d.nums.map numT):=by
 have h3:d.texts=[]:=by
  rcases ht with h|h|h|h|h
  ·exact(zbd hf (a:=1) (c:=0) (r:=0) (by rw[h];rfl)).2.2.1
  ·exact(zbd hf (a:=1) (c:=0) (r:=0) (by rw[h];rfl)).2.2.1
  ·exact(zbd hf (a:=1) (c:=0) (r:=0) (by rw[h];rfl)).2.2.1
  ·exact(zbd hf (a:=1) (c:=0) (r:=0) (by rw[h];rfl)).2.2.1
  ·exact(zbd hf (a:=2) (c:=5) (r:=0) (by rw[h];rfl)).2.2.1
 unfold za6 zbD zbJ zdn zcj
 rw[h3]
 rcases ht with h|h|h|h|h<;>(rw[h];simp[show (zby 2 tyTab).2=true from rfl,show(zby 5 tyTab).2=true from rfl,show(zby 12 tyTab).2=true from rfl,show(zby 39 tyTab).2=true from rfl,show(zby 6 tyTab).2=true from rfl])
theorem zi9{d:DatL}(hf:zbF d=true)(ht:¬(d.ty=1∨d.ty=28∨d.ty=16∨d.ty=15∨d.ty=2∨d.ty=5∨d.ty=12∨d.ty=39∨d.ty=6)):za6 hexU d=([92,35,32]++Lib.decDigits d.raw.length++if 0<d.raw.length then [32] else [])++hexT d.raw:=by
 have hsh:zax d.ty=(0,0,0, -1):=by
  unfold zax
  rw[if_neg (by omega),if_neg (by omega),if_neg (by omega),if_neg (by omega),if_neg (by omega),if_neg (by omega)]
 obtain⟨h1,h2,h3,_⟩:=zbd hf hsh
 have e1:=zbf h1
 have e2:=zbf h2
 have hfd:(zby d.ty tyTab).2=false:=by
  unfold tyTab
  simp only[zby]
  rw[if_neg (by omega),if_neg (by omega),if_neg (by omega),if_neg (by omega),if_neg (by omega),if_neg (by omega),if_neg (by omega),if_neg (by omega),if_neg (by omega)]
 unfold za6 zbD zbJ zdn zcj
 rw[e1,e2,h3,hfd,if_neg (show¬d.ty=1 by omega),if_neg (show¬d.ty=28 by omega),if_neg (show¬false=true by decide),zfL]
 simp only[List.map_nil,ite_self,List.append_nil,List.nil_append]
 by_cases h0:d.raw.length=0
 ·rw[if_pos h0,if_neg (by omega),zbf (l:=d.raw) (by omega)]
  simp[zaX,hexT]
 ·rw[if_neg h0,if_pos (by omega)]
  simp[zaX]
theorem ix_at(c:UInt8)(r:Lab):∀p:Lab,c∉p→Lib.index (p++c::r) [c]=(p.length:Int)
 | [],_=>by
  show Lib.index (c::r) [c]=0
  rw[Lib.index];simp[List.isPrefixOf]
 |b::p,h=>by
  have hb:¬c=b:=fun e=>h (by rw[e];exact List.mem_cons_self ..)
  have ih:=ix_at c r p fun e=>h (List.mem_cons_of_mem _ e)
  show Lib.index (b::(p++c::r)) [c]=_
  rw[Lib.index,ih]
  have hp:([c]:List UInt8).isPrefixOf (b::(p++c::r))=false:=by simp[List.isPrefixOf,hb]
  have hn:¬((p.length:Int)== -1)=true:=fun e=>by have:=beq_iff_eq.1 e;omega
  rw[hp,if_neg (by decide),if_neg hn,List.length_cons]
  omega
structure SplC(c:UInt8)(s:Lab)(ps:List Lab):Prop where
 sp:Lib.splitB ⟨#[c]⟩ 0 (Lib.countB ⟨s.toArray⟩ ⟨#[c]⟩) ⟨s.toArray⟩=ps.map fun l=>⟨l.toArray⟩
 ct:Lib.countB ⟨s.toArray⟩ ⟨#[c]⟩+1=ps.length
theorem ex_front(p r:Lab):(⟨(p++r).toArray⟩:ByteArray).extract 0 (p.length+0)=⟨p.toArray⟩:=by
 apply ByteArray.ext
 rw[ByteArray.data_extract]
 simp
theorem ex_back(p:Lab)(c:UInt8)(r:Lab):(⟨(p++c::r).toArray⟩:ByteArray).extract (p.length+(⟨#[c]⟩:ByteArray).size) (⟨(p++c::r).toArray⟩:ByteArray).size=⟨r.toArray⟩:=by
 have e1:(⟨#[c]⟩:ByteArray).size=1:=rfl
 have e2:(⟨(p++c::r).toArray⟩:ByteArray).size=p.length+1+r.length:=by
  show(p++c::r).toArray.size=_
  simp;omega
 rw[e1,e2]
 apply ByteArray.ext
 rw[ByteArray.data_extract]
 apply Array.toList_inj.1
 simp
theorem zaJ(sep p q:Lab)(r:List Lab):zaX sep (p::q::r)=p++(sep++zaX sep (q::r)):=by
 simp[zaX]
theorem zj3{sep x:Lab}:zaX sep [x]=x:=by simp[zaX]
theorem zep(c:UInt8):∀(r:List Lab) (p:Lab),(∀x∈p::r,c∉x)→SplC c (zaX [c] (p::r)) (p::r)
 | [],p,h=>by
  have h0:c∉p:=h p (List.mem_cons_self ..)
  have hc:Lib.countB ⟨p.toArray⟩ ⟨#[c]⟩=0:=by
   show Lib.count p [c]=0
   rw[Lib.count_one]
   exact List.count_eq_zero.2 h0
  rw[zj3]
  exact⟨by rw[hc];rfl,by rw[hc];rfl⟩
 |q::r,p,h=>by
  have ih:=zep c r q fun x hx=>h x (List.mem_cons_of_mem _ hx)
  have h0:c∉p:=h p (List.mem_cons_self ..)
  rw[zaJ]
  obtain⟨u,hu⟩:∃u,zaX [c] (q::r)=u:=⟨_,rfl⟩
  rw[hu]at ih ⊢
  have hc:Lib.countB ⟨(p++c::u).toArray⟩ ⟨#[c]⟩=Lib.countB ⟨u.toArray⟩ ⟨#[c]⟩+1:=by
   show Lib.count (p++c::u) [c]=Lib.count u [c]+1
   rw[Lib.count_one,Lib.count_one,List.count_append,List.count_eq_zero.2 h0,List.count_cons_self,Nat.zero_add]
  have hi:Lib.indexB ⟨(p++c::u).toArray⟩ ⟨#[c]⟩=(p.length:Int):=ix_at c u p h0
  show SplC c (p++c::u) _
  refine⟨?_,by rw[hc,ih.ct];rfl⟩
  rw[hc,Lib.splitB_hit _ _ _ _ _ hi,ex_back,ih.sp,ex_front]
  rfl
theorem zgK{p:UInt8→Bool}:∀l:Lab,(∀c∈l,p c=true)→l.dropWhile p=[]
 | [],_=>rfl
 |c::l,h=>by rw[List.dropWhile_cons_of_pos (h c (List.mem_cons_self ..))];exact zgK l fun x hx=>h x (List.mem_cons_of_mem _ hx)
theorem zhz{l cs:Lab}(h:∀c∈l,c∈cs):Lib.trimS l cs=[]:=by
 have h1:Lib.trimRightS l cs=[]:=by
  unfold Lib.trimRightS
  rw[zgK _ fun c hc=>List.contains_iff_mem.2 (h c (List.mem_reverse.1 hc))]
  rfl
 unfold Lib.trimS
 rw[h1]
 rfl
theorem zcU:∀k,k<16→hexV (hexD k)=some k∧hexD k∈digs16∧hexD k≠58∧hexD k≠92∧hexD k≠34∧hexD k≠32:=by decide
theorem zfP:∀(k n:Nat),n≤k→∀c∈hexU n,∃j,j<16∧c=hexD j
 |0,n,h,c,hc=>by
  rw[zcB (by omega)]at hc
  exact⟨n,by omega,List.mem_singleton.1 hc⟩
 |k+1,n,h,c,hc=>by
  by_cases h1:n<16
  ·rw[zcB h1]at hc
   exact⟨n,h1,List.mem_singleton.1 hc⟩
  ·rw[zew h1]at hc
   rcases List.mem_append.1 hc with h2|h2
   ·exact zfP k (n / 16) (by omega) c h2
   ·exact⟨n % 16,Nat.mod_lt _ (by decide),List.mem_singleton.1 h2⟩
theorem zdb(l:Lab){k:Nat}(h:k<16):za2 (l++ [hexD k])=16*za2 l+k:=by
 unfold za2
 rw[List.foldl_append]
 simp[(zcU k h).1]
theorem zhZ:∀(k n:Nat),n≤k→za2 (hexU n)=n
 |0,n,h=>by
  rw[zcB (by omega)]
  exact(zdb [] (k:=n) (by omega)).trans (by show 16*0+n=n;omega)
 |k+1,n,h=>by
  by_cases h1:n<16
  ·rw[zcB h1]
   exact(zdb [] (k:=n) (by omega)).trans (by show 16*0+n=n;omega)
  ·rw[zew h1,zdb _ (Nat.mod_lt _ (by decide)),zhZ k (n / 16) (by omega)]
   omega
theorem zj9(n:Nat):hexU n≠ []:=by
 by_cases h1:n<16
 ·rw[zcB h1];simp
 ·rw[zew h1];simp
theorem b_shr8{P:Program}{t:TypeId}{n:Nat}:binV P .shr t (.int .u64 (n:Int)) (.int .u64 8)=some (.int .u64 ((n / 256:Nat):Int)):=by
 show some (Value.int .u64 (Int.fdiv (n:Int) (2 ^ (min (Int.toNat 8) 64))))=_
 have:(2:Int) ^ (min (Int.toNat 8) 64)=((256:Nat):Int):=by decide
 rw[this,Int.fdiv_eq_ediv_of_nonneg _ (by omega)];rfl
theorem zhy{n:Nat}:IntKind.u8.wrap (n:Int)=((n % 256:Nat):Int):=by
 show(n:Int) % 256=_
 omega
theorem zkL{w:World}(hW:WX w){c:UInt8}{s:Lab}{ps:List Lab}{n:Nat}(hs:s.length<4000000000)(h:SplC c s ps)(hn:ps.length=n):
  Fn Tryz.prog 170 #[vs s,vs [c]] w (fun v w'=>v= .slice (some ⟨w.heap.size,0,Option.none⟩) n n∧w'.heap[w.heap.size]? =some (.cells (ps.map vs).toArray 9 (0,0))∧Ext w w'):=by
 obtain⟨m,hm⟩:=hW.ml
 refine Fn.of_calls ((Any.strings_Split Tryz.lays146 (by kernel_rfl) ⟨s.toArray⟩ ⟨#[c]⟩ m w (show s.toArray.size<_ by simp;omega) hm (Nat.le_refl 1)).mono ?_)
 rintro _ w' ⟨he,rfl⟩
 subst hn
 rw[h.sp,h.ct,List.map_map]at*
 refine⟨_,he,rfl,?_,Ext.alloc w _⟩
 rw[World.alloc_heap_new]
 rfl
def zgu(p:Lab):List UInt8:=[UInt8.ofNat (za2 p / 256),UInt8.ofNat (za2 p % 256)]
theorem zgt:∀l:List Lab,(l.flatMap zgu).length=2*l.length
 | []=>rfl
 |p::l=>by rw[List.flatMap_cons,List.length_append,zgt l,List.length_cons,show(zgu p).length=2 from rfl];omega
theorem zj7:∀l:Lab,za2 l<16 ^ l.length:=fun l=>by
 have:∀(l:Lab) (n k:Nat),n<16 ^ k→l.foldl (fun n c=>16*n+(hexV c).getD 0) n<16 ^ (k+l.length):=fun l=>by
  induction l with
  |nil=>intro n k h;exact h
  |cons c l ih=>
   intro n k h
   have hc:(hexV c).getD 0<16:=by
    cases hv:hexV c with
    |none=>decide
    |some x=>exact zfO hv
   have:=ih (16*n+(hexV c).getD 0) (k+1) (by rw[Nat.pow_succ];omega)
   rw[List.foldl_cons,List.length_cons,show k+(l.length+1)=k+1+l.length by omega]
   exact this
 have:=this l 0 0 (by decide)
 rwa [Nat.zero_add]at this
theorem long_ok{W0 w:World}{b:Nat}{t:Lab}{ws:List (Lab×Bool)}{ov:Value}{ps:List Lab}(hW:WX W0)(h:Rdr W0 w b ((t,false)::ws) ov 0)(hl:ws.length≤1000000)(ht:t.length≤1000000)(hsp:SplC 58 t ps)(h8:ps.length=8)(hps:∀p∈ps,p≠ []∧p.length≤4∧∀c∈p,c∈digs16∧(hexV c).isSome=true):
  Fn Tryz.prog 189 #[.pointer (some ⟨b,0,Option.none⟩)] w (fun v w'=>Own w.heap.size w' 5 v ((ps.flatMap zgu).map zao)∧Rdr W0 w' b ws ov 0∧Keep (fun i=>i=b) w w'):=by
 have hbl:=h.lt
 refine enter Tryz.func189 Tryz.ntmps189 rfl rfl ?_
 refine go trivial ?_
 refine rc trivial (zc7 h hl) ?_
 rintro _ w1 ⟨rfl,hR1,hk1⟩
 simp only[if_neg (show¬false=true by decide)]at hR1
 refine rd trivial (zkL (n:=8) (hW.ext hR1.ext) (by omega) hsp h8) ?_
 rintro _ w2 ⟨rfl,hB2,hE2⟩
 have hs1:=hk1.size
 have hs2:=hE2.size
 have hP:w1.heap.size<w2.heap.size:=(Array.getElem?_eq_some_iff.1 hB2).1
 obtain⟨P,hPe⟩:∃P,w1.heap.size=P:=⟨_,rfl⟩
 rw[hPe]at hB2 hP ⊢
 have hk2:Keep (fun i=>i=b) w w2:=hk1.trans (hE2.mono fun _ _ h=>h.elim)
 have d8:decide (((8:Nat):Int)=8)=true:=rfl
 have hR2:=hR1.extx hE2
 refine rgo (an2 d8 Bool.not_true) ?_
 refine zba 8 (fun i σ v=>(σ 0= .pointer (some ⟨b,0,Option.none⟩)∧σ 17= .slice (some ⟨P,0,Option.none⟩) 8 8∧σ 18=vi (8:Nat)∧σ 19=vi i)∧Ext w2 v∧∃sv,σ 4=sv∧Own w2.heap.size v 5 sv (((ps.take i).flatMap zgu).map zao)) ?_ ?_ ?_
 ·exact⟨⟨vr0,vr0,vr0,vr0⟩,Keep.refl _ _,_,vr0,Own.nil _ _ _⟩
 ·rintro i σ v hi ⟨r1,r2,r3,r4⟩ ⟨⟨s0,s17,s18,s19⟩,hE,sv,s4,hown⟩
  obtain⟨p,hp⟩:∃p,ps[i]'(by omega)=p:=⟨_,rfl⟩
  have hpm:p∈ps:=hp▸List.getElem_mem _
  obtain⟨hp0,hp4,hpc⟩:=hps p hpm
  have hsv:=hE.size
  have hBv:=Ext.at hE hB2
  have g:zad v (some ⟨P,i,Option.none⟩)=some (vs p):=za1 (j:=i) hBv (by rw[List.getElem?_map,List.getElem?_eq_getElem (by omega),hp];rfl)
  have d1:decide (p=[])=false:=decide_eq_false hp0
  have d2:decide ((4:Int)<(p.length:Int))=false:=decide_eq_false (by omega)
  have hvl:za2 p<65536:=by
   have h1:=zj7 p
   have h2:16 ^ p.length≤16 ^ 4:=Nat.pow_le_pow_right (by decide) hp4
   omega
  refine go (an9 s0 s17 s18 s19 s4 r1 g r2 (an3 r3 (Nat.mul_one i) (Nat.zero_add i))) ?_
  refine rcg [(2,25),(7,30)] (an6 s0 s4 d1 d2 r2 trivial) (ze4 v p (by omega)) ?_
  rintro _ v1 ⟨rfl,hE1⟩
  rw[decide_eq_true (zhz fun c hc=>(hpc c hc).1)]
  refine reg [(2,25),(7,30)] (an6 s0 s4 d1 d2 Bool.not_true r2) ?_
  refine go (an2 s0 s4) ?_
  refine rc (an2 s0 s4) (PuH_ok v1 (bt:=16) (mx:=65535) (.inr ⟨rfl,rfl⟩) hp0 (by omega) (fun c hc=>(hpc c hc).2) (by omega)) ?_
  rintro _ v2 ⟨rfl,hE2'⟩
  obtain⟨x,hx⟩:∃x,za2 p=x:=⟨_,rfl⟩
  rw[hx]at hvl ⊢
  have f1:=b_shr8 (P:=Tryz.prog) (t:=71) (n:=x)
  have f2:IntKind.u8.wrap ((x / 256:Nat):Int)=((x / 256:Nat):Int):=by rw[zhy];omega
  have f3:IntKind.u8.wrap (x:Int)=((x % 256:Nat):Int):=zhy
  have hsE:=hE1.size
  have hsE2:=hE2'.size
  refine rgo (an2 s0 s4) ?_
  refine rq ?_;intro gd K hgd hK
  try simp (disch:=first|omega|assumption|rfl) only[go_sem,s4,f1,f2,f3]
  refine zkA (z:= .int .u8 0) rfl rfl rfl rfl rfl rfl ?_
  intro y1 hy1 hys1 hyo
  try simp (disch:=first|omega|assumption|rfl) only[go_sem,s4]
  refine za0 (e:=5) (((hown.ext hE1).ext hE2').ext hy1) hyo.row rfl rfl rfl rfl rfl rfl ((vr1 s4)) (vr0) (fun q hq=>by simp only[List.mem_cons,List.not_mem_nil,or_false]at hq;rcases hq with rfl|rfl<;>rfl) (by rw[List.length_map,zgt,List.length_take];simp;omega) (by decide) (by omega) ?_
  intro sv' y2 hown2 hX2 hK2 hb2'
  try simp only[go_sem]
  refine hK _ _ ?_;clear hK hgd;clear K;try clear gd
  refine go (an5 s0 s17 s18 s19 r4) ?_
  refine⟨rfl,⟨(vq1 s0),(vq1 s17),(vq1 s18),(vq1 r4)⟩,hX2 w2 (((hE.trans hE1).trans hE2').trans hy1) (Nat.le_refl _),sv',vr0,?_⟩
  rw[zak (by omega),hp,List.flatMap_append,List.map_append]
  have e2:(([p]:List Lab).flatMap zgu).map zao=[.int .u8 ((x / 256:Nat):Int),.int .u8 ((x % 256:Nat):Int)]:=by
   show [zao (UInt8.ofNat (za2 p / 256)),zao (UInt8.ofNat (za2 p % 256))]=_
   rw[hx,zb0 (by omega),zb0 (by omega)]
  rw[e2]
  exact hown2
 ·rintro σ v r ⟨⟨s0,s17,s18,s19⟩,hE,sv,s4,hown⟩
  rw[List.take_of_length_le (by omega)]at hown
  refine go (an6 s0 s17 s18 s19 s4 r) ?_
  refine zaf (.inr rfl) Tryz.ntmps189 rfl (zac ((vr1 s4)) zae) ?_
  exact⟨hown.mono (by omega),hR2.extx hE,hk2.trans (hE.mono fun _ _ h=>h.elim)⟩
theorem zdi{c:UInt8}(h1:c≠92)(h2:c≠34)(h3:c≠32)(s w:Lab)(q:Bool):wF false (c::s) w q=wF false s (w++ [c]) q:=by
 rw[wF,if_neg (fun h=>h1 h.1),if_neg h2]
 cases q
 ·rw[if_neg (by decide),if_neg h3]
 ·rw[if_pos rfl]
theorem zef(d:UInt8)(s w:Lab)(q:Bool):wF false (92::d::s) w q=wF false s (w++ [92,d]) q:=by
 rw[wF,if_pos ⟨rfl,by simp⟩,wF,List.append_assoc]
 rfl
theorem zi0:∀(l s w:Lab) (q:Bool),(∀c∈l,c≠92∧c≠34∧c≠32)→wF false (l++s) w q=wF false s (w++l) q
 | [],s,w,q,_=>by rw[List.nil_append,List.append_nil]
 |c::l,s,w,q,h=>by
  obtain⟨h1,h2,h3⟩:=h c (List.mem_cons_self ..)
  rw[List.cons_append,zdi h1 h2 h3,zi0 l s _ q fun x hx=>h x (List.mem_cons_of_mem _ hx),List.append_assoc]
  rfl
theorem zdC{c:UInt8}(h:digB c=true):c≠92∧c≠34∧c≠32∧c≠46∧c≠58:=by
 refine⟨?_,?_,?_,?_,?_⟩<;>(rintro rfl;revert h;decide)
theorem wF_esc(c:UInt8)(s w:Lab)(q:Bool):wF false (escB c++s) w q=wF false s (w++escB c) q:=by
 have h2:=zeC (k:=c.toNat / 10 % 10) (by omega)
 have h3:=zeC (k:=c.toNat % 10) (by omega)
 unfold escB
 show wF false (92::_::_::_::s) w q=_
 rw[zef,zdi (zdC h2).1 (zdC h2).2.1 (zdC h2).2.2.1,zdi (zdC h3).1 (zdC h3).2.1 (zdC h3).2.2.1,List.append_assoc,List.append_assoc]
 rfl
theorem wF_lab(c:UInt8)(s w:Lab)(q:Bool):wF false (labB c++s) w q=wF false s (w++labB c) q:=by
 unfold labB
 by_cases h1:c.toNat≤32∨127≤c.toNat
 ·rw[if_pos h1];exact wF_esc c s w q
 ·rw[if_neg h1]
  by_cases h2:marksL.contains c=true
  ·rw[if_pos h2];exact zef c s w q
  ·rw[if_neg h2]
   have m1:c≠92:=fun e=>h2 (by rw[e];decide)
   have m2:c≠34:=fun e=>h2 (by rw[e];decide)
   have m3:c≠32:=fun e=>h1 (.inl (by rw[e];decide))
   exact zdi m1 m2 m3 s w q
theorem ziZ:∀(l s w:Lab) (q:Bool),wF false (zay l++s) w q=wF false s (w++zay l) q
 | [],s,w,q=>by unfold zay;simp
 |c::l,s,w,q=>by
  have e:zay (c::l)=labB c++zay l:=by unfold zay;rw[List.flatMap_cons]
  rw[e,List.append_assoc,wF_lab,ziZ l,List.append_assoc]
theorem zi3:∀(n:Nm) (s w:Lab) (q:Bool),wF false ((n.flatMap fun l=>zay l++ [46])++s) w q=wF false s (w++n.flatMap fun l=>zay l++ [46]) q
 | [],s,w,q=>by simp
 |l::n,s,w,q=>by
  rw[List.flatMap_cons,List.append_assoc,List.append_assoc,ziZ]
  show wF false (46::((n.flatMap fun l=>zay l++ [46])++s)) (w++zay l) q=_
  rw[zdi (by decide) (by decide) (by decide),zi3 n]
  simp
def Tok(p:Lab):Prop:=p≠ []∧∀s w:Lab,wF false (p++s) w false=wF false s (w++p) false
theorem zd8(n:Nm):Tok (zaV n):=by
 unfold zaV
 by_cases h:n=[]
 ·rw[if_pos h]
  exact⟨by simp,fun s w=>zi0 [46] s w false (by decide)⟩
 ·rw[if_neg h]
  refine⟨?_,fun s w=>zi3 n s w false⟩
  cases n with
  |nil=>exact absurd rfl h
  |cons l n=>simp
theorem zei{p:Lab}(h0:p≠ [])(h:∀c∈p,c≠92∧c≠34∧c≠32):Tok p:=⟨h0,fun s w=>zi0 p s w false h⟩
theorem zc8(n:Nat):Tok (Lib.decDigits n):=zei (zeD n) fun c hc=>by
 have:=zdC (zbC n c hc)
 exact⟨this.1,this.2.1,this.2.2.1⟩
theorem zbO{p:Lab}(h:Tok p):wF false p [] false=[(p,false)]:=by
 have:=h.2 [] []
 rw[List.append_nil,List.nil_append]at this
 rw[this,wF,if_neg h.1]
theorem zcf{p:Lab}(h:Tok p)(s:Lab):wF false (p++([32]++s)) [] false=(p,false)::wF false s [] false:=by
 rw[h.2,List.nil_append]
 show wF false (32::s) p false=_
 rw[wF,if_neg (fun e=>absurd e.1 (by decide)),if_neg (by decide),if_neg (by decide),if_pos rfl,if_neg h.1]
theorem zg5:∀ps:List Lab,(∀p∈ps,Tok p)→wF false (zaX [32] ps) [] false=ps.map fun p=>(p,false)
 | [],_=>rfl
 | [p],h=>by rw[zbY];exact zbO (h p (List.mem_cons_self ..))
 |p::q::r,h=>by
  rw[zaJ,zcf (h p (List.mem_cons_self ..)),zg5 (q::r) fun x hx=>h x (List.mem_cons_of_mem _ hx)]
  rfl
theorem wF_quoB(c:UInt8)(s w:Lab):wF false (quoB c++s) w true=wF false s (w++quoB c) true:=by
 unfold quoB
 split
 ·exact wF_esc c s w true
 ·rename_i h1
  split
  ·exact zef c s w true
  ·rename_i h2
   show wF false (c::s) w true=_
   rw[wF,if_neg (fun h=>h2 (.inr h.1)),if_neg (fun h=>h2 (.inl h)),if_pos rfl]
theorem zi2:∀(l s w:Lab),wF false (quoL l++s) w true=wF false s (w++quoL l) true
 | [],s,w=>by unfold quoL;simp
 |c::l,s,w=>by
  have e:quoL (c::l)=quoB c++quoL l:=by unfold quoL;rw[List.flatMap_cons]
  rw[e,List.append_assoc,wF_quoB,zi2 l,List.append_assoc]
theorem zi1(t s:Lab):wF false (quoT t++s) [] false=(quoL t,true)::wF false s [] false:=by
 unfold quoT
 show wF false (34::(quoL t++ [34]++s)) [] false=_
 rw[wF,if_neg (fun e=>absurd e.1 (by decide)),if_pos rfl,if_neg (by decide),List.append_assoc,zi2,List.nil_append]
 show wF false (34::s) (quoL t) true=_
 rw[wF,if_neg (fun e=>absurd e.1 (by decide)),if_pos rfl,if_pos rfl]
theorem zg4:∀ts:List Lab,wF false (zaX [32] (ts.map quoT)) [] false=ts.map fun t=>(quoL t,true)
 | []=>rfl
 | [t]=>by
  rw[List.map_singleton,zbY]
  have:=zi1 t []
  rw[List.append_nil]at this
  rw[this,wF]
  rfl
 |t::u::r=>by
  rw[List.map_cons,List.map_cons,zaJ,zi1]
  show(quoL t,true)::wF false (32::zaX [32] (quoT u::r.map quoT)) [] false=_
  have ih:=zg4 (u::r)
  rw[List.map_cons]at ih
  rw[wF,if_neg (fun e=>absurd e.1 (by decide)),if_neg (by decide),if_neg (by decide),if_pos rfl,if_pos rfl,ih]
  rfl
theorem un_quoB(c:UInt8)(r acc:Lab):unD [] 0 (quoB c++r) acc=unD [] 0 r (acc++ [c]):=by
 unfold quoB
 split
 ·have he:=zki c r
  have e:escB c++r=92::((escB c).tail++r):=rfl
  rw[e,unD,if_pos rfl,he]
  simp only[if_true]
  have e2:(escB c).tail++r=UInt8.ofNat (48+c.toNat / 100)::UInt8.ofNat (48+c.toNat / 10 % 10)::UInt8.ofNat (48+c.toNat % 10)::r:=rfl
  rw[e2,unD,unD,unD]
 ·split
  ·rename_i h2
   have hd:digB c=false:=by rcases h2 with rfl|rfl<;>decide
   show unD [] 0 (92::(c::r)) acc=_
   rw[unD,if_pos rfl,zgH hd]
   simp only[if_true]
   rw[unD]
  ·rename_i h2
   show unD [] 0 (c::r) acc=_
   rw[unD,if_neg (fun h=>h2 (.inr h)),if_neg (by simp)]
theorem zi6:∀(l acc:Lab),unD [] 0 (quoL l) acc=(acc++l,0)
 | [],acc=>by unfold quoL unD;simp
 |c::l,acc=>by
  have e:quoL (c::l)=quoB c++quoL l:=by unfold quoL;rw[List.flatMap_cons]
  rw[e,un_quoB,zi6 l]
  simp
theorem zdu{n o:Nm}(h:zaE n=0):zaI (zaV n) o=(n,0):=by
 have h1:=(zeE h).1
 unfold zaV
 by_cases hn:n=[]
 ·rw[if_pos hn,hn];rfl
 ·rw[if_neg hn]
  have hh:¬(n.flatMap fun l=>zay l++ [46])=[64]∧¬(n.flatMap fun l=>zay l++ [46])=[46]∧¬(n.flatMap fun l=>zay l++ [46])=[]:=by
   cases n with
   |nil=>exact absurd rfl hn
   |cons l n=>
    have:=zjb (errL_ne (h1 l (List.mem_cons_self ..))) ([46]++n.flatMap fun l=>zay l++ [46])
    rw[List.flatMap_cons,List.append_assoc]
    exact this
  have hp:zbx (n.flatMap fun l=>zay l++ [46])=(n,true,0):=by
   unfold zbx
   rw[zhC,if_neg (fun e=>by cases e),ze7 n [] true h1 (fun e=>absurd e hn),List.nil_append]
  unfold zaI
  rw[if_neg hh.1,if_neg hh.2.1,if_neg hh.2.2,hp]
  simp[h]
theorem own28_ok{W0 w:World}{b:Nat}{t:Lab}{ov:Value}{ps:List Lab}(hW:WX W0)(h:Rdr W0 w b [(t,false)] ov 0)(ht:t.length≤1000000)(hsp:SplC 58 t ps)(h8:ps.length=8)(hps:∀p∈ps,p≠ []∧p.length≤4∧∀c∈p,c∈digs16∧(hexV c).isSome=true):
  Fn Tryz.prog 160 #[.pointer (some ⟨b,0,Option.none⟩),vi 28] w (fun v w'=>(∃rv,v= .agg #[vi 28,.slice Option.none 0 0,.slice Option.none 0 0,.slice Option.none 0 0,rv]∧Own w.heap.size w' 5 rv ((ps.flatMap zgu).map zao))∧Rdr W0 w' b [] ov 0∧Keep (fun i=>i=b) w w'):=by
 have hbl:=h.lt
 have hlow:=h.low
 refine enter Tryz.func160 Tryz.ntmps160 rfl rfl ?_
 refine go trivial ?_
 refine zan ?_
 intro w1 hE1 hs1 hA
 refine rq ?_;intro gd K hgd hK
 try simp only[go_sem]
 refine⟨by kernel_rfl,?_⟩
 rw[show bdV Tryz.prog 34 [(0,vi 28)]=some (.agg #[vi 28,.slice Option.none 0 0,.slice Option.none 0 0,.slice Option.none 0 0,.slice Option.none 0 0]) from by kernel_rfl]
 try simp only[go_sem]
 refine zbo (P:=Tryz.prog) (l:=[vi 28,.slice Option.none 0 0,.slice Option.none 0 0,.slice Option.none 0 0,.slice Option.none 0 0]) rfl (zc2 _ _ _ _ _ rfl rfl rfl rfl) rfl rfl ?_
 intro w2 hE2 hs2 hB2
 try simp only[go_sem]
 refine hK _ _ ?_;clear hK hgd;clear K;try clear gd
 rw[hs1]at hB2
 simp only[hs1]
 have hR2:=(h.extx hE1).extx hE2
 refine go trivial ?_
 refine rc trivial (zev hR2 28) ?_
 rintro _ w3 ⟨rfl,hE3⟩
 rw[show zfJ 28 ([(t,false)]:List (Lab×Bool)).length=true from rfl]
 have d1:decide ((28:Int)=1)=false:=rfl
 have d2:decide ((28:Int)=28)=true:=rfl
 refine rgo (an2 d1 d2) ?_
 have hR3:=hR2.extx hE3
 have hs3:=hE3.size
 refine rq ?_;intro gd K hgd hK
 try simp only[go_sem]
 refine Fn.mono (long_ok hW hR3 (by simp) ht hsp h8 hps) ?_
 rintro rv w4 ⟨hown,hR4,hk4⟩
 obtain⟨ra,rc',hrv⟩:=hown.slice
 have hs4:=hk4.size
 have hB4:=(hk4.block (w.heap.size+1) (by omega) (by omega)).trans (Ext.at hE3 hB2)
 try simp (disch:=first|omega|assumption|rfl) only[go_sem,Nat.zero_add]
 refine zcw (P:=Tryz.prog) (t:=32) (j:=4) (u:=rv) hB4 (by simp) (by rw[hrv];rfl) rfl rfl ?_
 intro w5 hs5 hB5 hk5
 try simp only[go_sem]
 refine hK _ _ ?_;clear hK hgd;clear K;try clear gd
 simp only[List.set_cons_zero,List.set_cons_succ]at hB5
 have q5:=zaj (n:=5) hB5 rfl
 refine go trivial ?_
 refine rq ?_;intro gd K hgd hK
 try simp (disch:=first|omega|assumption|rfl) only[go_sem,q5]
 have hA5:w5.heap[w.heap.size]? =_:=(hk5.block _ (by omega) (by omega)).trans ((hk4.block _ (by omega) (by omega)).trans (Ext.at (hE2.trans hE3) hA))
 refine zaK (P:=Tryz.prog) (t:=34) (l:=[vi 28,.slice Option.none 0 0,.slice Option.none 0 0,.slice Option.none 0 0,rv]) hA5 rfl (zc2 _ _ _ _ _ rfl rfl rfl (by rw[hrv];rfl)) rfl rfl ?_
 intro w6 hs6 hB6 hk6
 try simp only[go_sem]
 refine hK _ _ ?_;clear hK hgd;clear K;try clear gd
 refine go trivial ?_
 refine zaf (.inr rfl) Tryz.ntmps160 rfl (zaO (x:=⟨w.heap.size,0,Option.none⟩) (k:=5) (vr0) rfl rfl (zaj hB6 rfl) zae) ?_
 have hE13:=(hE1.trans hE2).trans hE3
 refine⟨⟨rv,rfl,((hown.keep hk5 fun i hi hs=>by have:=(hown.ge hi).1;omega).keep hk6 fun i hi hs=>by have:=(hown.ge hi).1;omega).mono (by omega)⟩,(hR4.keep hk5 fun i hi=>by omega).keep hk6 fun i hi=>by omega,?_⟩
 exact((((hE13.mono fun _ _ h=>h.elim):Keep (fun i=>i=b) w w3).trans hk4).own hk5 fun i hi h=>by omega).own hk6 fun i hi h=>by omega
theorem zjA{W0 w:World}{tx:Nm→Lab}{b:Nat}{ov:Value}{o:Nm}{T:Int}{ns:List Nm}{us:List Int}(hW:WX W0)(hT:T=2∨T=5∨T=12∨T=39∨T=6)(hsh:zax T=((ns.length:Int),(us.length:Int),0,0))(hnl:ns.length≤10)(hul:us.length≤10)(h:Rdr W0 w b (ns.map (fun n=>(tx n,false))++us.map fun m=>(numT m,false)) ov 0)(ho:Row W0 ov (o.map vs))(hoT:NmT o)
  (hN:∀n∈ns,zaI (tx n) o=(n,0)∧(tx n).length≤500000000∧True) (hNu:∀m∈us,(decP 4294967295 (numT m)=(m.toNat,0)∧(m.toNat:Int)=m)∧(numT m).length≤1000000):
  Fn Tryz.prog 160 #[.pointer (some ⟨b,0,Option.none⟩),vi T] w (fun v w'=>(∃nmv nuv,v= .agg #[vi T,nmv,nuv,.slice Option.none 0 0,.slice Option.none 0 0]∧Own w.heap.size w' 29 nuv (us.map v32)∧Hz (fun i=>i<w.heap.size) w' (fun X=>NamesAt X nmv ns))∧Rdr W0 w' b [] ov 0∧Keep (fun i=>i=b) w w'):=by
 have hbl:=h.lt
 have hlow:=h.low
 refine enter Tryz.func160 Tryz.ntmps160 rfl rfl ?_
 refine go trivial ?_
 refine zan ?_
 intro w1 hE1 hs1 hA
 refine rq ?_;intro gd K hgd hK
 try simp only[go_sem]
 refine⟨by kernel_rfl,?_⟩
 rw[show bdV Tryz.prog 34 [(0,vi T)]=some (.agg #[vi T,.slice Option.none 0 0,.slice Option.none 0 0,.slice Option.none 0 0,.slice Option.none 0 0]) from by kernel_rfl]
 try simp only[go_sem]
 refine zbo (P:=Tryz.prog) (l:=[vi T,.slice Option.none 0 0,.slice Option.none 0 0,.slice Option.none 0 0,.slice Option.none 0 0]) rfl (zc2 _ _ _ _ _ rfl rfl rfl rfl) rfl rfl ?_
 intro w2 hE2 hs2 hB2
 try simp only[go_sem]
 refine hK _ _ ?_;clear hK hgd;clear K;try clear gd
 rw[hs1]at hB2
 simp only[hs1]
 have hR2:=(h.extx hE1).extx hE2
 have hwl:(ns.map (fun n=>(tx n,false))++us.map fun m=>(numT m,false)).length=ns.length+us.length:=by simp
 refine go trivial ?_
 refine rc trivial (zev hR2 T) ?_
 rintro _ w3 ⟨rfl,hE3⟩
 have hmany:zfJ T (ns.map (fun n=>(tx n,false))++us.map fun m=>(numT m,false)).length=true:=by
  unfold zfJ
  rw[hwl,hsh]
  simp
 rw[hmany]
 have hR3:=hR2.extx hE3
 have hs3:=hE3.size
 have hB3:=Ext.at hE3 hB2
 obtain⟨P,hP⟩:∃P,w.heap.size+1=P:=⟨_,rfl⟩
 rw[hP]at hB3 ⊢
 have d1:decide (T=1)=false:=decide_eq_false (by omega)
 have d28:decide (T=28)=false:=decide_eq_false (by omega)
 have d16:decide (T=16)=false:=decide_eq_false (by omega)
 have d15:decide (T=15)=false:=decide_eq_false (by omega)
 refine rgo (an4 d1 d28 d16 d15) ?_
 refine rq ?_;intro gd K hgd hK
 try simp (disch:=first|omega|assumption|rfl) only[go_sem,Nat.zero_add]
 refine Fn.mono (zjK w3 T) ?_
 rintro _ wo ⟨rfl,hEo⟩
 rw[hsh]
 unfold ze5
 simp only
 try simp only[go_sem]
 refine zfD (cs:=#[vi ns.length,vi us.length,vi 0,vi 0]) rfl rfl rfl rfl (vr0) rfl ?_
 try simp only[go_sem]
 refine hK _ _ ?_;clear hK hgd;clear K;try clear gd
 replace hR3:=hR3.extx hEo
 have hB3':=Ext.at hEo hB3
 refine go trivial ?_
 refine zba ns.length (fun i σ v=>(σ 0= .pointer (some ⟨b,0,Option.none⟩)∧σ 1=vi T∧σ 4= .pointer (some ⟨w.heap.size,0,Option.none⟩)∧σ 5= .pointer (some ⟨P,0,Option.none⟩)∧σ 18=vi ns.length∧σ 19=vi i)∧Rdr W0 v b ((ns.drop i).map (fun n=>(tx n,false))++us.map fun m=>(numT m,false)) ov 0∧Keep (fun i=>i=b∨i=P) w3 v∧∃nv nvals,v.heap[P]? =some (.cells [vi T,nv,.slice Option.none 0 0,.slice Option.none 0 0,.slice Option.none 0 0].toArray 34 (0,0))∧Own w3.heap.size v 24 nv nvals∧nvals.length=i∧∀j (h:j<nvals.length) (h':j<ns.length),Hz (fun i=>i<w3.heap.size∨some i=nv.ownBlock) v (fun X=>Row X nvals[j] (ns[j].map vs))) ?_ ?_ ?_
 ·exact⟨⟨vr0,vr0,vr0,vr0,vr0,vr0⟩,hR3,hEo.mono fun _ _ h=>h.elim,_,[],hB3',Own.nil _ _ _,rfl,fun j h=>absurd h (by simp)⟩
 ·rintro i σ v hi ⟨r1,r2,r3,r4⟩ ⟨⟨s0,s1,s4,s5,s18,s19⟩,hR,hk,nv,nvals,hB,hown,hnl,hnr⟩
  obtain⟨n,hn⟩:∃n,ns[i]=n:=⟨_,rfl⟩
  rw[List.drop_eq_getElem_cons hi,hn,List.map_cons,List.cons_append]at hR
  have hnm:=hN n (hn▸List.getElem_mem hi)
  have qf:zad v (some ⟨P,1,Option.none⟩)=some nv:=za1 (j:=1) hB rfl
  have hvs:=hk.size
  have hPv:P<v.heap.size:=(Array.getElem?_eq_some_iff.1 hB).1
  refine go (an4 s0 s18 s19 r1) ?_
  refine zaT (fun i=>i==7) [(0,true),(1,true),(2,true),(3,false),(4,false),(5,false),(6,true),(7,false)] ((fun i=>i=b∨w3.heap.size≤i)) mixed (by kernel_rfl) ?_;intro gd K x hgd hx hxe hK;have hx0:=zaR hxe;clear hxe
  have qx:=zab hx0 qf
  have hsx:=hx0.size
  simp (disch:=first|omega|assumption|rfl) only[go_sem,s0,s5,qx,Nat.zero_add]
  refine⟨fun a ha hb'=>by cases ha;dsimp only at hb';omega,?_⟩
  refine Fn.mono (zjT (hR.extx hx0) (by simp;omega) hnm.2.1 ho hoT) ?_
  rw[hnm.1]
  rintro fv y1 ⟨hrow,hbk,hR1,hk1⟩
  rw[show zbe (if false=true then zbe 0 2 else 0) ((n,0):Nm×Int).2=0 from rfl]at hR1
  refine⟨.inr (hk1.mono fun i _ h=> .inl h),?_⟩
  obtain⟨fva,fvc,hfve,_⟩:=id hrow
  simp (disch:=first|omega|assumption|rfl) only[go_sem]
  refine zbc (z:= .slice Option.none 0 0) (v:=fv) rfl rfl rfl rfl (by rw[hfve];rfl) ?_
  intro y2 hy2 hys2 hyo
  refine⟨.inr hy2.keep,?_⟩
  simp (disch:=first|omega|assumption|rfl) only[go_sem]
  have hsy1:=hk1.size
  have hsy2:=hy2.size
  have hownY:=((hown.ext hx0).keep hk1 fun j hj hs=>by have:=(hown.ge hj).1;omega).ext hy2
  refine za0 (e:=24) hownY hyo.row rfl rfl rfl rfl rfl rfl (vr0) (vr0) (fun q hq=>by rw[List.mem_singleton.1 hq];rw[hfve];rfl) (by rw[List.length_singleton];omega) (by decide) (by omega) ?_
  intro nv' y3 hown3 hX3 hK3 hb3
  refine⟨.inr (hK3.mono fun j _ hj=> .inr (hownY.ge hj).1),?_⟩
  simp (disch:=first|omega|assumption|rfl) only[go_sem,s5,Nat.zero_add]
  have hsK:=hK3.size
  obtain⟨a7,c7,hnv7⟩:=hown3.slice
  have hBP3:y3.heap[P]? =_:=(hK3.block P (by omega) (fun h=>by have:=(hownY.ge h).1;omega)).trans ((hy2.block P (by omega) (fun h=>h)).trans ((hk1.block P (by omega) (by omega)).trans (Ext.at hx0 hB)))
  refine zcw (P:=Tryz.prog) (t:=30) (j:=1) (u:=nv') hBP3 (by simp) (by rw[hnv7];rfl) rfl rfl ?_
  intro z hzs hBz hkz
  refine⟨.inl rfl,?_⟩
  simp (disch:=first|omega|assumption|rfl) only[go_sem]
  refine hK _ _ ?_;clear hK hgd;clear K;try clear gd
  simp only[List.set_cons_zero,List.set_cons_succ]at hBz
  have hob:∀i,i<y2.heap.size→(i<w3.heap.size∨some i=nv'.ownBlock)→(i<w3.heap.size∨some i=nv.ownBlock):=fun i hi h=>by
   rcases h with h|h
   ·exact .inl h
   ·rcases hb3 i h with h|h
    ·exact .inr h
    ·omega
  have mv:∀{P':World→Prop},Hz (fun i=>i<w3.heap.size∨some i=nv.ownBlock) v P'→Hz (fun i=>i<w3.heap.size∨some i=nv'.ownBlock) z P':=fun h=>
   ((((h.ext hx0).app hk1 (fun i _ hi=> .inl (by omega)) (fun i _ hi=>hi)).ext hy2).app hK3 (fun i _ hi=> .inr hi) hob).app hkz (fun i _ hi=> .inl (by omega)) (fun i _ hi=>hi)
  have hkf:Keep (fun i=>i=b∨i=P) w3 z:=((((hk.trans (hx0.mono fun _ _ h=>h.elim)).trans (hk1.mono fun _ _ h=> .inl h)).trans (hy2.mono fun _ _ h=>h.elim)).own hK3 fun j hj h=>by have:=(hownY.ge h).1;omega).trans (hkz.mono fun _ _ h=> .inr h)
  have hRz:Rdr W0 z b _ ov 0:=((hR1.extx hy2).keep hK3 fun j hj=>by have:=(hownY.ge hj).1;omega).keep hkz fun j hj=>by omega
  have hoz:=hown3.keep hkz fun j hj hs=>by have:=(hown3.ge hj).1;omega
  refine go (an9 s0 s1 s4 s5 s18 s19 r4 trivial trivial) ?_
  refine⟨rfl,⟨(vq1 s0),(vq1 s1),(vq1 s4),(vq1 s5),(vq1 s18),(vq1 r4)⟩,hRz,hkf,nv',nvals++ [fv],hBz,hoz,by simp;omega,fun j h h'=>?_⟩
  by_cases hj:j<nvals.length
  ·rw[List.getElem_append_left hj]
   exact mv (hnr j hj h')
  ·have hjk:j=i:=by simp at h;omega
   subst hjk
   rw[List.getElem_append_right (by omega)]
   simp only[hnl,Nat.sub_self,List.getElem_cons_zero,hn]
   have hrz:Row z fv (n.map vs):=by
    refine Row.blocks (w:=y3) (Row.blocks (w:=y2) (hrow.ext hy2) fun a n' c hv=>?_) fun a n' c hv=>?_
    ·have h2:=hbk a n' c hv
     exact hK3.block _ (by omega) (fun hh=>by have:=(hown.ge hh).2;omega)
    ·have h2:=hbk a n' c hv
     exact hkz.block _ (by omega) (by omega)
   refine row_hz hrz fun a n' c hv=>?_
   have h2:=hbk a n' c hv
   refine⟨by omega,?_⟩
   rintro(h3|h3)
   ·omega
   ·rcases hb3 _ h3 with h3|h3
    ·have:=(hown.ge h3).2;omega
    ·omega
 rintro σ v r ⟨⟨s0,s1,s4,s5,s18,s19⟩,hR,hk,nmv,nvals,hB,hown,hnl2,hnr⟩
 have hNz:Hz (fun i=>i<w3.heap.size∨some i=(Value.slice Option.none 0 0).ownBlock) v (fun X=>NamesAt X nmv ns):=fun X hX=>by
  refine⟨nvals,(hown.keep hX fun i hi hs=>?_).row,hnl2,fun j h h'=>hnr j h h' X (hX.mono fun i _ hi=>?_)⟩
  ·have:=(hown.ge hi).1
   rcases hs with hs|hs
   ·omega
   ·cases hs
  ·rcases hi with hi|hi
   ·exact .inl hi
   ·cases hi
 rw[List.drop_length,List.map_nil,List.nil_append]at hR
 refine go (an6 s0 s1 s4 s5 s18 (an2 s19 r)) ?_
 refine rq ?_;intro gd K hgd hK
 try simp (disch:=first|omega|assumption|rfl) only[go_sem,s1]
 refine Fn.mono (zjK v T) ?_
 rintro _ vo ⟨rfl,hEo⟩
 rw[hsh]
 unfold ze5
 simp only
 try simp only[go_sem]
 refine zfD (cs:=#[vi ns.length,vi us.length,vi 0,vi 0]) rfl rfl rfl rfl (vr0) rfl ?_
 try simp only[go_sem]
 refine hK _ _ ?_;clear hK hgd;clear K;try clear gd
 replace hNz:=hNz.ext hEo
 refine go (an4 s0 s1 s4 s5) ?_
 refine zba us.length (fun i σ v=>(σ 0= .pointer (some ⟨b,0,Option.none⟩)∧σ 1=vi T∧σ 4= .pointer (some ⟨w.heap.size,0,Option.none⟩)∧σ 5= .pointer (some ⟨P,0,Option.none⟩)∧σ 31=vi us.length∧σ 32=vi i)∧Rdr W0 v b ((us.drop i).map fun m=>(numT m,false)) ov 0∧Keep (fun i=>i=b∨i=P) w3 v∧∃nv nvals,v.heap[P]? =some (.cells [vi T,nmv,nv,.slice Option.none 0 0,.slice Option.none 0 0].toArray 34 (0,0))∧Own w3.heap.size v 29 nv nvals∧nvals.length=i∧nvals=(us.take i).map v32∧Hz (fun i=>i<w3.heap.size∨some i=nv.ownBlock) v (fun X=>NamesAt X nmv ns)) ?_ ?_ ?_
 ·exact⟨⟨(vr1 s0),(vr1 s1),(vr1 s4),(vr1 s5),vr0,vr0⟩,hR.extx hEo,hk.trans (hEo.mono fun _ _ h=>h.elim),_,[],Ext.at hEo hB,Own.nil _ _ _,rfl,rfl,hNz⟩
 clear s0 s1 s4 s5 s18 s19 r hR hk hB
 ·rintro i σ v hi ⟨r1,r2,r3,r4⟩ ⟨⟨s0,s1,s4,s5,s18,s19⟩,hR,hk,nv,nvals,hB,hown,hnl,hnr,hNz⟩
  obtain⟨n,hn⟩:∃n,us[i]=n:=⟨_,rfl⟩
  rw[List.drop_eq_getElem_cons hi,hn,List.map_cons]at hR
  have hnm:=hNu n (hn▸List.getElem_mem hi)
  have qf:zad v (some ⟨P,2,Option.none⟩)=some nv:=za1 (j:=2) hB rfl
  have hvs:=hk.size
  have hPv:P<v.heap.size:=(Array.getElem?_eq_some_iff.1 hB).1
  refine go (an4 s0 s18 s19 r1) ?_
  refine zaT (fun i=>i==7) [(0,true),(1,true),(2,true),(3,false),(4,false),(5,false),(6,true),(7,false)] ((fun i=>i=b∨w3.heap.size≤i)) mixed (by kernel_rfl) ?_;intro gd K x hgd hx hxe hK;have hx0:=zaR hxe;clear hxe
  have qx:=zab hx0 qf
  have hsx:=hx0.size
  simp (disch:=first|omega|assumption|rfl) only[go_sem,s0,s5,qx,Nat.zero_add]
  refine⟨fun a ha hb'=>by cases ha;dsimp only at hb';omega,?_⟩
  refine Fn.mono (num_ok hW (hR.extx hx0) (by simp;omega) (by have:=hnm.2;omega) 4294967295 (by decide)) ?_
  rw[hnm.1.1]
  rintro fv y1 ⟨hfv,hR1,hk1⟩
  rw[show zbe (if false=true then zbe 0 2 else 0) ((n.toNat,0):Nat×Int).2=0 from rfl]at hR1
  rw[show (((n.toNat,0):Nat×Int).1:Int)=n from hnm.1.2]at hfv
  subst hfv
  refine⟨.inr (hk1.mono fun i _ h=> .inl h),?_⟩
  simp (disch:=first|omega|assumption|rfl) only[go_sem]
  refine zbc (z:=v32 0) rfl rfl rfl rfl rfl ?_
  intro y2 hy2 hys2 hyo
  refine⟨.inr hy2.keep,?_⟩
  simp (disch:=first|omega|assumption|rfl) only[go_sem]
  have hsy1:=hk1.size
  have hsy2:=hy2.size
  have hownY:=((hown.ext hx0).keep hk1 fun j hj hs=>by have:=(hown.ge hj).1;omega).ext hy2
  refine za0 (e:=29) hownY hyo.row rfl rfl rfl rfl rfl rfl (vr0) (vr0) (fun q hq=>by rw[List.mem_singleton.1 hq];rfl) (by rw[List.length_singleton];omega) (by decide) (by omega) ?_
  intro nv' y3 hown3 hX3 hK3 hb3
  refine⟨.inr (hK3.mono fun j _ hj=> .inr (hownY.ge hj).1),?_⟩
  simp (disch:=first|omega|assumption|rfl) only[go_sem,s5,Nat.zero_add]
  have hsK:=hK3.size
  obtain⟨a7,c7,hnv7⟩:=hown3.slice
  have hBP3:y3.heap[P]? =_:=(hK3.block P (by omega) (fun h=>by have:=(hownY.ge h).1;omega)).trans ((hy2.block P (by omega) (fun h=>h)).trans ((hk1.block P (by omega) (by omega)).trans (Ext.at hx0 hB)))
  refine zcw (P:=Tryz.prog) (t:=31) (j:=2) (u:=nv') hBP3 (by simp) (by rw[hnv7];rfl) rfl rfl ?_
  intro z hzs hBz hkz
  refine⟨.inl rfl,?_⟩
  simp (disch:=first|omega|assumption|rfl) only[go_sem]
  refine hK _ _ ?_;clear hK hgd;clear K;try clear gd
  simp only[List.set_cons_zero,List.set_cons_succ]at hBz
  have hob:∀i,i<y2.heap.size→(i<w3.heap.size∨some i=nv'.ownBlock)→(i<w3.heap.size∨some i=nv.ownBlock):=fun i hi h=>by
   rcases h with h|h
   ·exact .inl h
   ·rcases hb3 i h with h|h
    ·exact .inr h
    ·omega
  have mv:∀{P':World→Prop},Hz (fun i=>i<w3.heap.size∨some i=nv.ownBlock) v P'→Hz (fun i=>i<w3.heap.size∨some i=nv'.ownBlock) z P':=fun h=>
   ((((h.ext hx0).app hk1 (fun i _ hi=> .inl (by omega)) (fun i _ hi=>hi)).ext hy2).app hK3 (fun i _ hi=> .inr hi) hob).app hkz (fun i _ hi=> .inl (by omega)) (fun i _ hi=>hi)
  have hkf:Keep (fun i=>i=b∨i=P) w3 z:=((((hk.trans (hx0.mono fun _ _ h=>h.elim)).trans (hk1.mono fun _ _ h=> .inl h)).trans (hy2.mono fun _ _ h=>h.elim)).own hK3 fun j hj h=>by have:=(hownY.ge h).1;omega).trans (hkz.mono fun _ _ h=> .inr h)
  have hRz:Rdr W0 z b _ ov 0:=((hR1.extx hy2).keep hK3 fun j hj=>by have:=(hownY.ge hj).1;omega).keep hkz fun j hj=>by omega
  have hoz:=hown3.keep hkz fun j hj hs=>by have:=(hown3.ge hj).1;omega
  refine go (an9 s0 s1 s4 s5 s18 s19 r4 trivial trivial) ?_
  exact⟨rfl,⟨(vq1 s0),(vq1 s1),(vq1 s4),(vq1 s5),(vq1 s18),(vq1 r4)⟩,hRz,hkf,nv',nvals++ [v32 n],hBz,hoz,by simp;omega,by rw[hnr,zak hi,hn,List.map_append];rfl,mv hNz⟩
 clear hNz hB hR hk s0 s1 s4 s5 s18 s19 r
 rintro σ z r ⟨⟨s0,s1,s4,s5,s18,s19⟩,hR,hk,nuv,uvals,hB,hownU,hul2,hur,hNz⟩
 rw[List.drop_length,List.map_nil]at hR
 rw[List.take_length]at hur
 subst hur
 obtain⟨una,unc,hnuv⟩:=hownU.slice
 obtain⟨_,hnmr,_,_⟩:=hNz.now
 have q5:=zaj (n:=5) hB rfl
 have hks:=hk.size
 refine go (an6 s0 s4 s5 s18 s19 r) ?_
 refine rq ?_;intro gd K hgd hK
 try simp (disch:=first|omega|assumption|rfl) only[go_sem,s4,s5,q5]
 have hA5:z.heap[w.heap.size]? =_:=(hk.block _ (by omega) (by omega)).trans (Ext.at (hE2.trans hE3) hA)
 refine zaK (P:=Tryz.prog) (t:=34) (l:=[vi T,nmv,nuv,.slice Option.none 0 0,.slice Option.none 0 0]) hA5 rfl (zc2 _ _ _ _ _ hnmr.isOne (by rw[hnuv];rfl) rfl rfl) rfl rfl ?_
 intro w6 hs6 hB6 hk6
 try simp only[go_sem]
 refine hK _ _ ?_;clear hK hgd;clear K;try clear gd
 refine go trivial ?_
 refine zaf (.inr rfl) Tryz.ntmps160 rfl (zaO (x:=⟨w.heap.size,0,Option.none⟩) (k:=5) ((vr1 s4)) rfl rfl (zaj hB6 rfl) zae) ?_
 have hE13:=(hE1.trans hE2).trans hE3
 refine⟨⟨nmv,nuv,rfl,(hownU.keep hk6 fun i hi hs=>by have:=(hownU.ge hi).1;omega).mono (by omega),hNz.app hk6 (fun i _ hi=> .inl (by omega)) (fun i _ hi=> .inl (by omega))⟩,hR.keep hk6 fun i hi=>by omega,?_⟩
 exact(((hE13.mono fun _ _ h=>h.elim):Keep (fun i=>i=b) w w3).own hk fun i hi h=>by omega).own hk6 fun i hi h=>by omega
end Go.Proofs.YtihbdhjibplldaaGreatDoor
