/-
  Texts of a proof, joined: JT, JU, JV, JW, JX.
  Conditions: none.
-/
import Derived.Test.YtanmnkbccfcagaaGreatDoorQDW06
import Derived.Test.YtanmnkbccfcagaaGreatDoorQDW05
import Derived.Test.YtanmnkbccfcagaaGreatDoorQDW03
set_option linter.unusedVariables false
set_option linter.unusedSimpArgs false
set_option linter.defProp false
set_option linter.unnecessarySimpa false
set_option maxHeartbeats 8000000
namespace Go.Proofs.YtanmnkbccfcagaaGreatDoor
open Go
set_option maxRecDepth 10000
def zdW(ws:List (Lab×Bool)):Bool:=match ws with|x::_=>decide (x=([92,35],false))| []=>false
theorem zdH{w:World}{t:Int}{wv:Value}{oa:Option Addr}{on oc:Nat}{ws:List (Lab×Bool)}{e:Int}{G:Nat→List Value→World→Prop}(ht1:1≤t)(ht2:t≤65535)(hr:Rows 2 WdC w wv ws)
  (hG:∀B cs x y S,G B cs x→Keep S x y→(∀i,S i→i<B)→G B cs y)
  (hc:∀(b:Nat) (w1:World),Rdr w w1 b ws (.slice oa on oc) 0→Fn Tryz.prog (if zdW ws=true then 105 else 106) #[.pointer (some ⟨b,0,Option.none⟩),vi t] w1 (fun v w'=>(∃cs:List Value,v= .agg cs.toArray∧cs.length=5∧(∀x∈cs,one x=true)∧G w1.heap.size cs w')∧Rdr w w' b [] (.slice oa on oc) e∧Keep (fun i=>i=b) w1 w')):
  Fn Tryz.prog 38 #[vi t,wv,.slice oa on oc] w (fun v w'=>Ext w w'∧(e=0→∃cs:List Value,∃B,v= .tuple #[.agg cs.toArray,vi 0]∧w.heap.size≤B∧G B cs w')∧(¬e=0→v= .tuple #[.agg ([vi 0,.slice Option.none 0 0,.slice Option.none 0 0,.slice Option.none 0 0,.slice Option.none 0 0]:List Value).toArray,vi e])):=by
 obtain⟨wa,wc,rfl,hcap,hget⟩:=hr.open
 refine enter Tryz.func38 Tryz.ntmps38 rfl rfl ?_
 refine go trivial ?_
 refine zas ?_
 intro w1 hE1 hs1 hA
 refine rq ?_;intro gd K hgd hK
 try simp only[go_sem]
 refine⟨by kernel_rfl,?_⟩
 rw[show bdV Tryz.prog 162 [(0,.slice wa ws.length wc),(1,.slice oa on oc)]=some (.agg #[.slice wa ws.length wc,.slice oa on oc,vi 0]) from by kernel_rfl]
 try simp only[go_sem]
 refine hK _ _ ?_;clear hK hgd;clear K;try clear gd
 refine zas ?_
 intro w2 hE2 hs2 hB
 rw[hs1]at hB
 simp only[hs1]
 refine go trivial ?_
 refine zas ?_
 intro w3 hE3 hs3 hC
 have hw2:w2.heap.size=w.heap.size+2:=by omega
 rw[hw2]at hC
 simp only[hw2]
 have hR3:Rdr w w3 (w.heap.size+1) ws (.slice oa on oc) 0:=⟨(hE1.trans hE2).trans hE3,by omega,⟨_,Ext.at hE3 hB,hr⟩,rfl⟩
 refine rgg [(2,20)] (an2 (decide_eq_false (show¬t<1 by omega)) (decide_eq_false (show¬65535<t by omega))) ?_
 refine go trivial ?_
 refine zat (Q:=fun e' σ' ds' v'=>e'= .normal∧ds'=[]∧v'=w3∧(σ' 0=vi t∧σ' 6= .pointer (some ⟨w.heap.size,0,Option.none⟩)∧σ' 8= .pointer (some ⟨w.heap.size+1,0,Option.none⟩)∧σ' 9= .pointer (some ⟨w.heap.size+2,0,Option.none⟩))∧σ' 25= .bool (zdW ws)) ?_ ?_
 ·cases ws with
  |nil=>
   refine rgg [(3,29)] (show decide ((0:Int)<(([]:List (Lab×Bool)).length:Int))=false from rfl) ?_
   exact⟨rfl,rfl,rfl,⟨vr0,vr0,vr0,vr0⟩,vr0⟩
  |cons x rest=>
   obtain⟨tx,qx⟩:=x
   obtain⟨cs0,g0,hcs⟩:=hget 0 (by simp)
   simp only[List.getElem_cons_zero,Nat.zero_mul,zaL]at g0 hcs
   unfold WdC at hcs
   subst hcs
   have g:=zaf hR3.ext g0
   obtain⟨xa,rfl⟩:∃x,wa=some x:=by
    cases wa with
    |none=>cases g0
    |some x=>exact⟨x,rfl⟩
   have l0:decide ((0:Int)<((((tx,qx)::rest).length:Nat):Int))=true:=decide_eq_true (by rw[List.length_cons];omega)
   have l0':(0:Int)<((((tx,qx)::rest).length:Nat):Int):=by rw[List.length_cons];omega
   refine rq ?_;intro gd K hgd hK
   have hg3:∀n σ b,zau gd n σ (some (3,b))=zan (ev n σ (.tmp 29)) b:=(fun n σ b=>by rw[zad,show gd 3=some 29 from(by rw[hgd];rfl)];rfl)
   try simp (disch:=first|omega|assumption|rfl) only[go_sem,l0,l0',Int.toNat_zero,Nat.zero_mul,zaL,g,↓hg3]
   refine⟨by kernel_rfl,?_⟩
   rw[show bdV Tryz.prog 141 [(0,vs [92,35])]=some (.agg #[vs [92,35],.bool false]) from by kernel_rfl]
   try simp (disch:=first|omega|assumption|rfl) only[go_sem,l0,↓hg3]
   refine op_eqS (a:=tx) (b:=qx) (a':=[92,35]) (b':=false) rfl (by decide) (by decide) rfl rfl (by kernel_rfl) rfl rfl (by kernel_rfl) (vr0) (vr0) ?_
   try simp (disch:=first|omega|assumption|rfl) only[go_sem,l0,↓hg3]
   refine hK _ _ ?_;clear hK hgd;clear K;try clear gd
   exact⟨rfl,rfl,rfl,⟨vr0,vr0,vr0,vr0⟩,vr0⟩
 rintro _ σ1 _ w1 ⟨rfl,rfl,rfl,⟨s0,s6,s8,s9⟩,s25⟩
 have hcb:=hc _ _ hR3
 cases hm:zdW ws
 all_goals
  rw[hm]at s25 hcb
  first
   |rw[if_pos rfl]at hcb
   |rw[if_neg (by decide)]at hcb
  refine go (an5 s0 s6 s8 s9 s25) ?_
  refine rq ?_;intro gd K hgd hK
  try simp (disch:=first|omega|assumption|rfl) only[go_sem,s0,s6,s8,s9]
  refine Fn.mono hcb ?_
  rintro _ w4 ⟨⟨cs,rfl,hcs,hcs1,hg4⟩,hR4,hk4⟩
  have hs4:=hk4.size
  have hC4:=(hk4.block (w.heap.size+2) (by omega) (by omega)).trans hC
  try simp (disch:=first|omega|assumption|rfl) only[go_sem,s9]
  refine zaY (P:=Tryz.prog) (t:=33) (l:=cs) hC4 (by simp[hcs]) hcs1 (by rw[hcs];rfl) rfl ?_
  intro w5 hs5 hC5 hk5
  try simp only[go_sem]
  refine hK _ _ ?_;clear hK hgd;clear K;try clear gd
  rw[show w1.heap.size=w.heap.size+3 by omega]at hg4
  have hG5:=hG _ _ _ _ _ hg4 hk5 fun i hi=>by omega
  have hR5:Rdr w w5 (w.heap.size+1) [] (.slice oa on oc) e:=hR4.keep hk5 fun i hi=>by omega
  obtain⟨wv5,hb5,_⟩:=hR5.at'
  have c5:zag w5 (some ⟨w.heap.size+1,2,Option.none⟩)=some (vi e):=zab hb5 rfl
  have hA5:=(hk5.block w.heap.size (by omega) (by omega)).trans ((hk4.block w.heap.size (by omega) (by omega)).trans (Ext.at (hE2.trans hE3) hA))
  have hE5:Ext w w5:=hR5.ext
  by_cases he:e=0
  ·subst he
   have ez:decide ((0:Int)=0)=true:=rfl
   have p9:zaB w5 (some ⟨w.heap.size+2,0,Option.none⟩) 5=some cs:=by
    have:=zam (n:=5) hC5 (by simp[hcs])
    exact this
   refine go (an6 s6 s8 s9 c5 ez (Nat.zero_add 2)) ?_
   refine rq ?_;intro gd K hgd hK
   try simp (disch:=first|omega|assumption|rfl) only[go_sem,s6,s9,p9]
   refine zaY (P:=Tryz.prog) (t:=33) (l:=cs) hA5 (by rw[hcs];rfl) hcs1 (by rw[hcs];rfl) rfl ?_
   intro w6 hs6 hB6 hk6
   try simp only[go_sem]
   refine hK _ _ ?_;clear hK hgd;clear K;try clear gd
   refine go trivial ?_
   refine zaj (.inr rfl) Tryz.ntmps38 rfl (zaM (x:=⟨w.heap.size,0,Option.none⟩) (k:=5) ((vr1 s6)) rfl rfl (zam (n:=5) hB6 (by simp[hcs])) (zac (vr0) zai)) ?_
   exact⟨Keep.to_ext hE5 rfl (fun i hi=>by omega) hk6,fun _=>⟨cs,_,rfl,(by omega),hG _ _ _ _ _ hG5 hk6 fun i hi=>by omega⟩,fun h=>absurd rfl h⟩
  ·refine go (an6 s6 s8 s9 c5 (decide_eq_false he) (Nat.zero_add 2)) ?_
   refine zaS (fun _=>false) [(0,true),(1,true),(2,true),(3,true),(4,true),(5,false),(6,true)] ((fun i=>i=w.heap.size)) mixed (by kernel_rfl) ?_;intro gd K x hgd hx hxe hK;have hx0:=za9 hxe;clear hxe
   have c5x:=zaa hx0 c5
   simp (disch:=first|omega|assumption|rfl) only[go_sem]
   refine⟨by kernel_rfl,?_⟩
   rw[show bdV Tryz.prog 33 []=some (.agg #[vi 0,.slice Option.none 0 0,.slice Option.none 0 0,.slice Option.none 0 0,.slice Option.none 0 0]) from by kernel_rfl]
   simp (disch:=first|omega|assumption|rfl) only[go_sem,s6,s8,c5x,Nat.zero_add]
   refine⟨fun a ha hb'=>by cases ha;dsimp only at hb';omega,?_⟩
   refine zaY (P:=Tryz.prog) (t:=33) (l:=[vi 0,.slice Option.none 0 0,.slice Option.none 0 0,.slice Option.none 0 0,.slice Option.none 0 0]) (Ext.at hx0 hA5) rfl (zcz _ _ _ _ _ rfl rfl rfl rfl) rfl rfl ?_
   intro w6 hs6 hB6 hk6
   refine⟨.inr hk6,?_⟩
   simp (disch:=first|omega|assumption|rfl) only[go_sem]
   refine hK _ _ ?_;clear hK hgd;clear K;try clear gd
   refine go trivial ?_
   have hE6:Ext w w6:=Keep.to_ext (hE5.trans hx0) rfl (fun i hi=>by omega) hk6
   refine zaj (.inr rfl) Tryz.ntmps38 rfl (zaM (x:=⟨w.heap.size,0,Option.none⟩) (k:=5) ((vr1 s6)) rfl rfl (zam (n:=5) hB6 rfl) (zac (vr0) zai)) ?_
   exact⟨hE6,fun h=>absurd h he,fun _=>rfl⟩
set_option maxRecDepth 100000
theorem zee{B:Nat}{e:TypeId}{w:World}{v:Value}{l:List Value}(h:Own B w e v l):Hz (fun i=>i<B) w (fun X=>Row X v l):=fun X hX=>(h.keep hX fun i hi hs=>by have:=(h.ge hi).1;omega).row
def GD(d:DatL)(B:Nat)(cs:List Value)(w:World):Prop:=Hz (fun i=>i<B) w (fun X=>DatAt X cs d)
theorem GD_keep(d:DatL):∀B cs x y S,GD d B cs x→Keep S x y→(∀i,S i→i<B)→GD d B cs y:=fun B cs x y S h hk hS X hX=>h X ((hk.mono fun i _ hi=>hS i hi).trans hX)
theorem GD_one{d:DatL}{B:Nat}{cs:List Value}{w:World}(h:GD d B cs w):cs.length=5∧∀x∈cs,one x=true:=by
 obtain⟨nm,nu,tx,rw',rfl,⟨vals,h1,_,_⟩,h2,h3,h4⟩:=h.now.ex
 exact⟨rfl,zcz _ _ _ _ _ h1.isOne h2.isOne h3.isOne h4.isOne⟩
theorem PkD{w:World}{t:Int}{wv:Value}{oa:Option Addr}{on oc:Nat}{ws:List (Lab×Bool)}{d:DatL}(ht1:1≤t)(ht2:t≤65535)(hr:Rows 2 WdC w wv ws)
  (hc:∀(b:Nat) (w1:World),Rdr w w1 b ws (.slice oa on oc) 0→Fn Tryz.prog (if zdW ws=true then 105 else 106) #[.pointer (some ⟨b,0,Option.none⟩),vi t] w1 (fun v w'=>(∃cs:List Value,v= .agg cs.toArray∧GD d w1.heap.size cs w')∧Rdr w w' b [] (.slice oa on oc) 0∧Keep (fun i=>i=b) w1 w')):
  Fn Tryz.prog 38 #[vi t,wv,.slice oa on oc] w (fun v w'=>Ext w w'∧∃cs:List Value,v= .tuple #[.agg cs.toArray,vi 0]∧DatAt w' cs d):=by
 refine Fn.mono (zdH (e:=0) (G:=GD d) ht1 ht2 hr (GD_keep d) (fun b w1 h=>Fn.mono (hc b w1 h) ?_)) ?_
 ·rintro v w' ⟨⟨cs,rfl,hg⟩,h2⟩
  exact⟨⟨cs,rfl,(GD_one hg).1,(GD_one hg).2,hg⟩,h2⟩
 ·rintro v w' ⟨hE,h0,_⟩
  obtain⟨cs,B,rfl,_,hg⟩:=h0 rfl
  exact⟨hE,cs,rfl,hg.now⟩
def dA:DatL:=⟨1,[],[],[],[10,0,0,7]⟩
def dM:DatL:=⟨15,[[[120],[111]]],[5],[],[]⟩
def dU:DatL:=⟨99,[],[],[],[10,255]⟩
def dT:DatL:=⟨16,[],[],[[97,34,98]],[]⟩
theorem splA:SplP [49,48,46,48,46,48,46,55] [[49,48],[48],[48],[55]]:=⟨by decide+kernel,by decide+kernel⟩
theorem splB:SplP [50,53,54,46,48,46,48,46,49] [[50,53,54],[48],[48],[49]]:=⟨by decide+kernel,by decide+kernel⟩
theorem pk1{w:World}(hW:WX w){wv:Value}(hr:Rows 2 WdC w wv [([49,48,46,48,46,48,46,55],false)]):Fn Tryz.prog 38 #[vi 1,wv,.slice Option.none 0 0] w (fun v w'=>Ext w w'∧∃cs:List Value,v= .tuple #[.agg cs.toArray,vi 0]∧DatAt w' cs dA):=by
 refine PkD (by decide) (by decide) hr fun b w1 h=>?_
 rw[if_neg (by decide)]
 have he:zfW (if ([[49,48],[48],[48],[55]]:List Lab).length=4 then(if (false:Bool)=true then zaQ 0 2 else 0) else zaQ (if (false:Bool)=true then zaQ 0 2 else 0) 2) [[49,48],[48],[48],[55]]=0:=by decide+kernel
 refine Fn.mono (zgv hW h (by decide) splA (by decide) (by decide)) ?_
 rintro _ w' ⟨⟨rv,rfl,ho⟩,hR,hk⟩
 rw[he]at hR
 rw[show ([[49,48],[48],[48],[55]]:List Lab).map octP=([10,0,0,7]:List UInt8).map zak from by kernel_rfl]at ho
 exact⟨⟨_,rfl,fun X hX=>⟨_,_,_,_,rfl,zbN X,zb1 X,zb1 X,zee ho X hX⟩⟩,hR,hk⟩
theorem pk2{w:World}(hW:WX w){wv:Value}{oa:Addr}{oc:Nat}(ho:Row w (.slice (some oa) 1 oc) (([[111]]:Nm).map vs))(hr:Rows 2 WdC w wv [([53],false),([120],false)]):Fn Tryz.prog 38 #[vi 15,wv,.slice (some oa) 1 oc] w (fun v w'=>Ext w w'∧∃cs:List Value,v= .tuple #[.agg cs.toArray,vi 0]∧DatAt w' cs dM):=by
 refine PkD (by decide) (by decide) hr fun b w1 h=>?_
 rw[if_neg (by decide)]
 refine Fn.mono (own15_ok (e1:=0) (e2:=0) hW h (by decide) (by decide) ho ⟨by decide,by decide⟩ (by decide+kernel) (by decide+kernel)) ?_
 rintro _ w' ⟨⟨nmv,nuv,nv,rfl,h1,h2,h3,h4⟩,hR,hk⟩
 rw[show (zcB [120] [[111]]).1=[[120],[111]] from by decide+kernel]at h3
 rw[show v32 ((decP 65535 [53]).1:Int)=v32 5 from by kernel_rfl]at h1
 refine⟨⟨_,rfl,fun X hX=>⟨_,_,_,_,rfl,zgD (zee h2 X hX) ?_,zee h1 X hX,zb1 X,zb1 X⟩⟩,hR,hk⟩
 exact h3.blocks fun a n c hv=>hX.block _ (h4 a n c hv).2 (by have:=(h4 a n c hv).1;omega)
theorem pk3{w:World}(hW:WX w){wv:Value}(hr:Rows 2 WdC w wv [([92,35],false),([50],false),([48,65],false),([102,102],false)]):Fn Tryz.prog 38 #[vi 99,wv,.slice Option.none 0 0] w (fun v w'=>Ext w w'∧∃cs:List Value,v= .tuple #[.agg cs.toArray,vi 0]∧DatAt w' cs dU):=by
 refine PkD (by decide) (by decide) hr fun b w1 h=>?_
 rw[if_pos (by decide)]
 have hp:Pairs (catW [([48,65],false),([102,102],false)]) [10,255]:=by
  refine⟨rfl,fun i h1 h2 h3=>?_⟩
  have:i=0∨i=1:=by
   have h2:i<2:=h1
   omega
  rcases this with rfl|rfl
  ·exact⟨0,10,rfl,rfl,rfl⟩
  ·exact⟨15,15,rfl,rfl,rfl⟩
 refine Fn.mono (any_ok (n:=2) hW h 99 (by decide) (by decide) (by decide) (by decide+kernel) (by decide) (by decide) (by decide) (by decide+kernel) (by decide) hp) ?_
 rintro _ w' ⟨⟨rv,rfl,ho⟩,hR,hk⟩
 rw[show zcM (rawD 99 [10,255])=0 from by decide+kernel]at hR
 exact⟨⟨_,rfl,fun X hX=>⟨_,_,_,_,rfl,zbN X,zb1 X,zb1 X,zee ho X hX⟩⟩,hR,hk⟩
theorem pk4{w:World}(hW:WX w){wv:Value}(hr:Rows 2 WdC w wv [([50,53,54,46,48,46,48,46,49],false)]):Fn Tryz.prog 38 #[vi 1,wv,.slice Option.none 0 0] w (fun v w'=>Ext w w'∧v= .tuple #[.agg ([vi 0,.slice Option.none 0 0,.slice Option.none 0 0,.slice Option.none 0 0,.slice Option.none 0 0]:List Value).toArray,vi 7]):=by
 have he:zfW (if ([[50,53,54],[48],[48],[49]]:List Lab).length=4 then(if (false:Bool)=true then zaQ 0 2 else 0) else zaQ (if (false:Bool)=true then zaQ 0 2 else 0) 2) [[50,53,54],[48],[48],[49]]=7:=by decide+kernel
 refine Fn.mono (zdH (e:=7) (G:=fun _ _ _=>True) (by decide) (by decide) hr (fun _ _ _ _ _ _ _ _=>trivial) fun b w1 h=>?_) ?_
 ·rw[if_neg (by decide)]
  refine Fn.mono (zgv hW h (by decide) splB (by decide) (by decide)) ?_
  rintro _ w' ⟨⟨rv,rfl,ho⟩,hR,hk⟩
  rw[he]at hR
  obtain⟨ra,rc',hrv⟩:=ho.slice
  exact⟨⟨_,rfl,rfl,zcz _ _ _ _ _ rfl rfl rfl (by rw[hrv];rfl),trivial⟩,hR,hk⟩
 ·rintro v w' ⟨hE,_,h1⟩
  exact⟨hE,h1 (by decide)⟩
theorem pk5{w:World}{wv:Value}(hr:Rows 2 WdC w wv [([97,92,34,98],true)]):Fn Tryz.prog 38 #[vi 16,wv,.slice Option.none 0 0] w (fun v w'=>Ext w w'∧∃cs:List Value,v= .tuple #[.agg cs.toArray,vi 0]∧DatAt w' cs dT):=by
 refine PkD (by decide) (by decide) hr fun b w1 h=>?_
 rw[if_neg (by decide)]
 refine Fn.mono (own16_ok h (by decide) (by decide) (by decide)) ?_
 rintro _ w' ⟨⟨tv,rfl,ho⟩,hR,hk⟩
 rw[show zfV 0 [([97,92,34,98],true)]=0 from by decide+kernel]at hR
 rw[show ((([([97,92,34,98],true)]:List (Lab×Bool)).map fun x=>untT x.1).map vs)=([[97,34,98]]:List Lab).map vs from by kernel_rfl]at ho
 exact⟨⟨_,rfl,fun X hX=>⟨_,_,_,_,rfl,zbN X,zb1 X,zee ho X hX,zb1 X⟩⟩,hR,hk⟩
theorem dA_T:DatT dA:=⟨⟨by decide,by decide,by decide,by decide,by decide,by decide,by decide⟩,by decide⟩
theorem dM_T:DatT dM:=⟨⟨by decide,by decide,by decide,by decide,by decide,by decide,by decide⟩,by decide⟩
theorem dU_T:DatT dU:=⟨⟨by decide,by decide,by decide,by decide,by decide,by decide,by decide⟩,by decide⟩
theorem dT_T:DatT dT:=⟨⟨by decide,by decide,by decide,by decide,by decide,by decide,by decide⟩,by decide⟩
theorem dA_ok:zcS dA:=⟨by unfold LB;decide,by decide,by decide,by decide,by decide,by decide⟩
theorem dM_ok:zcS dM:=⟨by unfold LB;decide,by decide,by decide,by decide,by decide,by decide⟩
theorem tA:zfC hexU dA=[49,48,46,48,46,48,46,55]:=by decide+kernel
theorem tM:zfC hexU dM=[53,32,120,46,111,46]:=by decide+kernel
theorem tU:zfC hexU dU=[92,35,32,50,32,48,97,102,102]:=by decide+kernel
theorem tT:zfC hexU dT=[34,97,92,34,98,34]:=by decide+kernel
theorem zbr{w:World}{cs:List Value}{d:DatL}(h:DatAt w cs d):cs.length=5∧∀x∈cs,one x=true:=by
 obtain⟨nm,nu,tx,rw',rfl,⟨vals,h1,_,_⟩,h2,h3,h4⟩:=h.ex
 exact⟨rfl,zcz _ _ _ _ _ h1.isOne h2.isOne h3.isOne h4.isOne⟩
theorem zhi{w0:World}(hW:WX w0)(hY:WY w0):Fn Tryz.prog 28 #[] w0 (fun v w'=>v= .bool true∧Ext w0 w'):=by
 refine enter Tryz.func28 Tryz.ntmps28 rfl rfl ?_
 refine go trivial ?_
 refine rq ?_;intro gd K hgd hK
 try simp only[go_sem]
 refine⟨by kernel_rfl,?_⟩
 rw[show bdV Tryz.prog 141 [(0,vs [49,48,46,48,46,48,46,55])]=some (.agg #[vs [49,48,46,48,46,48,46,55],.bool false]) from by kernel_rfl]
 try simp only[go_sem]
 refine zeu (e:=141) (arr:=#[vs [49,48,46,48,46,48,46,55],.bool false]) (by kernel_rfl) ?_
 intro a1 ea1 sa1 ba1
 obtain⟨ca1,hca1⟩:∃c,w0.heap.size=c:=⟨_,rfl⟩
 rw[hca1]at ba1 ⊢
 have rr1:Rows 2 WdC a1 (.slice (some ⟨ca1,0,Option.none⟩) 1 1) ([([49,48,46,48,46,48,46,55],false)]:List (Lab×Bool)):=by
  refine Rows.close (xs:=([([49,48,46,48,46,48,46,55],false)]:List (Lab×Bool))) (by decide) (fun i hi=>?_)
  have hi2:i<1:=hi
  have hi3:i=0:=by omega
  subst hi3
  exact⟨_,by rw[za6];exact zao ba1 (Nat.le_of_ble_eq_true rfl),rfl⟩
 try simp only[go_sem]
 have hF1:Ext w0 a1:=ea1
 refine Fn.mono (pk1 (hW.ext hF1) rr1) ?_
 rintro _ p1 ⟨ep1,cs1,rfl,hd1⟩
 obtain⟨hl1,ho1⟩:=zbr hd1
 try simp only[go_sem]
 refine zbo (P:=Tryz.prog) (l:=cs1) (by rw[hl1];rfl) ho1 (by rw[hl1];rfl) rfl ?_
 intro b1 eb1 sb1 hB1
 obtain⟨cb1,hcb1⟩:∃c,p1.heap.size=c:=⟨_,rfl⟩
 rw[hcb1]at hB1 ⊢
 try simp only[go_sem]
 refine hK _ _ ?_;clear hK hgd;clear K;try clear gd
 have hE1:Ext w0 b1:=(hF1.trans ep1).trans eb1
 have hX1:Ext b1 b1:=Keep.refl _ _
 refine go trivial ?_
 refine rq ?_;intro gd K hgd hK
 try simp only[go_sem]
 refine⟨by kernel_rfl,?_⟩
 rw[show bdV Tryz.prog 141 [(0,vs [53])]=some (.agg #[vs [53],.bool false]) from by kernel_rfl]
 try simp only[go_sem]
 refine⟨by kernel_rfl,?_⟩
 rw[show bdV Tryz.prog 141 [(0,vs [120])]=some (.agg #[vs [120],.bool false]) from by kernel_rfl]
 try simp only[go_sem]
 refine zeu (e:=141) (arr:=#[vs [53],.bool false,vs [120],.bool false]) (by kernel_rfl) ?_
 intro a2 ea2 sa2 ba2
 obtain⟨ca2,hca2⟩:∃c,b1.heap.size=c:=⟨_,rfl⟩
 rw[hca2]at ba2 ⊢
 have rr2:Rows 2 WdC a2 (.slice (some ⟨ca2,0,Option.none⟩) 2 2) ([([53],false),([120],false)]:List (Lab×Bool)):=by
  refine Rows.close (xs:=([([53],false),([120],false)]:List (Lab×Bool))) (by decide) (fun i hi=>?_)
  have hi2:i<2:=hi
  have hi3:i=0∨i=1:=by omega
  rcases hi3 with rfl|rfl
  all_goals exact⟨_,by rw[za6];exact zao ba2 (Nat.le_of_ble_eq_true rfl),rfl⟩
 try simp only[go_sem]
 refine ze2 (z:=vs []) (l:=[vs [111]]) rfl rfl rfl rfl rfl rfl (fun v hv=>by simp at hv;rcases hv with rfl;rfl) (by simp) ?_
 intro o2 eo2 so2 oo2
 obtain⟨co2,hco2⟩:∃c,a2.heap.size=c:=⟨_,rfl⟩
 rw[hco2]at oo2 ⊢
 have rr2o:=rr2.ext eo2
 try simp only[go_sem]
 have hF2:Ext w0 o2:=(hE1.trans ea2).trans eo2
 refine Fn.mono (pk2 (hW.ext hF2) (oa:=⟨co2,0,Option.none⟩) (oc:=1) oo2.row rr2o) ?_
 rintro _ p2 ⟨ep2,cs2,rfl,hd2⟩
 obtain⟨hl2,ho2⟩:=zbr hd2
 try simp only[go_sem]
 refine zbo (P:=Tryz.prog) (l:=cs2) (by rw[hl2];rfl) ho2 (by rw[hl2];rfl) rfl ?_
 intro b2 eb2 sb2 hB2
 obtain⟨cb2,hcb2⟩:∃c,p2.heap.size=c:=⟨_,rfl⟩
 rw[hcb2]at hB2 ⊢
 try simp only[go_sem]
 refine hK _ _ ?_;clear hK hgd;clear K;try clear gd
 have hE2:Ext w0 b2:=(hF2.trans ep2).trans eb2
 have hX2:Ext b2 b2:=Keep.refl _ _
 refine go trivial ?_
 refine rq ?_;intro gd K hgd hK
 try simp only[go_sem]
 refine⟨by kernel_rfl,?_⟩
 rw[show bdV Tryz.prog 141 [(0,vs [92,35])]=some (.agg #[vs [92,35],.bool false]) from by kernel_rfl]
 try simp only[go_sem]
 refine⟨by kernel_rfl,?_⟩
 rw[show bdV Tryz.prog 141 [(0,vs [50])]=some (.agg #[vs [50],.bool false]) from by kernel_rfl]
 try simp only[go_sem]
 refine⟨by kernel_rfl,?_⟩
 rw[show bdV Tryz.prog 141 [(0,vs [48,65])]=some (.agg #[vs [48,65],.bool false]) from by kernel_rfl]
 try simp only[go_sem]
 refine⟨by kernel_rfl,?_⟩
 rw[show bdV Tryz.prog 141 [(0,vs [102,102])]=some (.agg #[vs [102,102],.bool false]) from by kernel_rfl]
 try simp only[go_sem]
 refine zeu (e:=141) (arr:=#[vs [92,35],.bool false,vs [50],.bool false,vs [48,65],.bool false,vs [102,102],.bool false]) (by kernel_rfl) ?_
 intro a3 ea3 sa3 ba3
 obtain⟨ca3,hca3⟩:∃c,b2.heap.size=c:=⟨_,rfl⟩
 rw[hca3]at ba3 ⊢
 have rr3:Rows 2 WdC a3 (.slice (some ⟨ca3,0,Option.none⟩) 4 4) ([([92,35],false),([50],false),([48,65],false),([102,102],false)]:List (Lab×Bool)):=by
  refine Rows.close (xs:=([([92,35],false),([50],false),([48,65],false),([102,102],false)]:List (Lab×Bool))) (by decide) (fun i hi=>?_)
  have hi2:i<4:=hi
  have hi3:i=0∨i=1∨i=2∨i=3:=by omega
  rcases hi3 with rfl|rfl|rfl|rfl
  all_goals exact⟨_,by rw[za6];exact zao ba3 (Nat.le_of_ble_eq_true rfl),rfl⟩
 try simp only[go_sem]
 have hF3:Ext w0 a3:=hE2.trans ea3
 refine Fn.mono (pk3 (hW.ext hF3) rr3) ?_
 rintro _ p3 ⟨ep3,cs3,rfl,hd3⟩
 obtain⟨hl3,ho3⟩:=zbr hd3
 try simp only[go_sem]
 refine zbo (P:=Tryz.prog) (l:=cs3) (by rw[hl3];rfl) ho3 (by rw[hl3];rfl) rfl ?_
 intro b3 eb3 sb3 hB3
 obtain⟨cb3,hcb3⟩:∃c,p3.heap.size=c:=⟨_,rfl⟩
 rw[hcb3]at hB3 ⊢
 try simp only[go_sem]
 refine hK _ _ ?_;clear hK hgd;clear K;try clear gd
 have hE3:Ext w0 b3:=(hF3.trans ep3).trans eb3
 have hX3:Ext b3 b3:=Keep.refl _ _
 refine go trivial ?_
 refine rq ?_;intro gd K hgd hK
 try simp only[go_sem]
 refine⟨by kernel_rfl,?_⟩
 rw[show bdV Tryz.prog 141 [(0,vs [50,53,54,46,48,46,48,46,49])]=some (.agg #[vs [50,53,54,46,48,46,48,46,49],.bool false]) from by kernel_rfl]
 try simp only[go_sem]
 refine zeu (e:=141) (arr:=#[vs [50,53,54,46,48,46,48,46,49],.bool false]) (by kernel_rfl) ?_
 intro a4 ea4 sa4 ba4
 obtain⟨ca4,hca4⟩:∃c,b3.heap.size=c:=⟨_,rfl⟩
 rw[hca4]at ba4 ⊢
 have rr4:Rows 2 WdC a4 (.slice (some ⟨ca4,0,Option.none⟩) 1 1) ([([50,53,54,46,48,46,48,46,49],false)]:List (Lab×Bool)):=by
  refine Rows.close (xs:=([([50,53,54,46,48,46,48,46,49],false)]:List (Lab×Bool))) (by decide) (fun i hi=>?_)
  have hi2:i<1:=hi
  have hi3:i=0:=by omega
  subst hi3
  exact⟨_,by rw[za6];exact zao ba4 (Nat.le_of_ble_eq_true rfl),rfl⟩
 try simp only[go_sem]
 have hF4:Ext w0 a4:=hE3.trans ea4
 refine Fn.mono (pk4 (hW.ext hF4) rr4) ?_
 rintro _ p4 ⟨ep4,rfl⟩
 obtain⟨cs4,hcs4⟩:∃l,([vi 0,.slice Option.none 0 0,.slice Option.none 0 0,.slice Option.none 0 0,.slice Option.none 0 0]:List Value)=l:=⟨_,rfl⟩
 rw[hcs4]
 obtain⟨hl4,ho4⟩:cs4.length=5∧∀x∈cs4,one x=true:=by subst hcs4;exact⟨rfl,zcz _ _ _ _ _ rfl rfl rfl rfl⟩
 try simp only[go_sem]
 refine zbo (P:=Tryz.prog) (l:=cs4) (by rw[hl4];rfl) ho4 (by rw[hl4];rfl) rfl ?_
 intro b4 eb4 sb4 hB4
 obtain⟨cb4,hcb4⟩:∃c,p4.heap.size=c:=⟨_,rfl⟩
 rw[hcb4]at hB4 ⊢
 try simp only[go_sem]
 refine hK _ _ ?_;clear hK hgd;clear K;try clear gd
 have hE4:Ext w0 b4:=(hF4.trans ep4).trans eb4
 have hX4:Ext b4 b4:=Keep.refl _ _
 refine go trivial ?_
 refine rq ?_;intro gd K hgd hK
 try simp only[go_sem]
 refine⟨by kernel_rfl,?_⟩
 rw[show bdV Tryz.prog 141 [(0,vs [97,92,34,98]),(1,.bool true)]=some (.agg #[vs [97,92,34,98],.bool true]) from by kernel_rfl]
 try simp only[go_sem]
 refine zeu (e:=141) (arr:=#[vs [97,92,34,98],.bool true]) (by kernel_rfl) ?_
 intro a5 ea5 sa5 ba5
 obtain⟨ca5,hca5⟩:∃c,b4.heap.size=c:=⟨_,rfl⟩
 rw[hca5]at ba5 ⊢
 have rr5:Rows 2 WdC a5 (.slice (some ⟨ca5,0,Option.none⟩) 1 1) ([([97,92,34,98],true)]:List (Lab×Bool)):=by
  refine Rows.close (xs:=([([97,92,34,98],true)]:List (Lab×Bool))) (by decide) (fun i hi=>?_)
  have hi2:i<1:=hi
  have hi3:i=0:=by omega
  subst hi3
  exact⟨_,by rw[za6];exact zao ba5 (Nat.le_of_ble_eq_true rfl),rfl⟩
 try simp only[go_sem]
 have hF5:Ext w0 a5:=hE4.trans ea5
 refine Fn.mono (pk5 rr5) ?_
 rintro _ p5 ⟨ep5,cs5,rfl,hd5⟩
 obtain⟨hl5,ho5⟩:=zbr hd5
 try simp only[go_sem]
 refine zbo (P:=Tryz.prog) (l:=cs5) (by rw[hl5];rfl) ho5 (by rw[hl5];rfl) rfl ?_
 intro b5 eb5 sb5 hB5
 obtain⟨cb5,hcb5⟩:∃c,p5.heap.size=c:=⟨_,rfl⟩
 rw[hcb5]at hB5 ⊢
 try simp only[go_sem]
 refine hK _ _ ?_;clear hK hgd;clear K;try clear gd
 have hE5:Ext w0 b5:=(hF5.trans ep5).trans eb5
 have hX5:Ext b5 b5:=Keep.refl _ _
 refine go trivial ?_
 have hZ1:Ext b1 b5:=(((((((((((((hX1).trans ea2).trans eo2).trans ep2).trans eb2).trans ea3).trans ep3).trans eb3).trans ea4).trans ep4).trans eb4).trans ea5).trans ep5).trans eb5
 have hq1:DatAt b5 cs1 dA:=(hd1.ext eb1).ext hZ1
 have pc1:zaB b5 (some ⟨cb1,0,Option.none⟩) 5=some cs1:=zam (n:=5) (Ext.at hZ1 hB1) (by simp[hl1])
 have hZ2:Ext b2 b5:=(((((((((hX2).trans ea3).trans ep3).trans eb3).trans ea4).trans ep4).trans eb4).trans ea5).trans ep5).trans eb5
 have hq2:DatAt b5 cs2 dM:=(hd2.ext eb2).ext hZ2
 have pc2:zaB b5 (some ⟨cb2,0,Option.none⟩) 5=some cs2:=zam (n:=5) (Ext.at hZ2 hB2) (by simp[hl2])
 have hZ3:Ext b3 b5:=((((((hX3).trans ea4).trans ep4).trans eb4).trans ea5).trans ep5).trans eb5
 have hq3:DatAt b5 cs3 dU:=(hd3.ext eb3).ext hZ3
 have pc3:zaB b5 (some ⟨cb3,0,Option.none⟩) 5=some cs3:=zam (n:=5) (Ext.at hZ3 hB3) (by simp[hl3])
 have hZ5:Ext b5 b5:=hX5
 have hq5:DatAt b5 cs5 dT:=(hd5.ext eb5).ext hZ5
 have pc5:zaB b5 (some ⟨cb5,0,Option.none⟩) 5=some cs5:=zam (n:=5) (Ext.at hZ5 hB5) (by simp[hl5])
 obtain⟨nm,nu,tx,rv,hcs1,_,_,_,a4⟩:=hq1.ex
 obtain⟨ar,cr,hrv,_,hgr⟩:=a4
 have g3:=hgr 3 (by decide)
 obtain⟨ax,rfl⟩:=Option.isSome_iff_exists.1 (zae g3)
 rw[show (dA.raw.map zak).length=4 from rfl]at hrv
 have p4:zag b5 (some ⟨cb1,4,Option.none⟩)=some (.slice (some ax) 4 cr):=by
  have:=zaK (j:=4) (u:=rv) (Ext.at hZ1 hB1) (by rw[hcs1];rfl)
  rwa [hrv]at this
 have g3':zag b5 (adr (some ax) (Int.toNat 3))=some (zak 7):=g3
 have hW5:=hY.ext hE5
 have z0:decide ((0:Int)=0)=true:=rfl
 have z4:decide (((4:Nat):Int)=4)=true:=rfl
 have i0:(0:Int)≤3:=by decide
 have i3:(3:Int)<((4:Nat):Int):=by decide
 have z7:decide (((7:UInt8).toNat:Int)=7)=true:=rfl
 have z7':decide ((7:Int)=7)=true:=rfl
 have b7:binV Tryz.prog BinOp.eql 5 (zak 7) (Value.int IntKind.u8 7)=some (.bool true):=by kernel_rfl
 refine rq ?_;intro gd K hgd hK
 have hg8:∀n σ b,zau gd n σ (some (8,b))=zan (ev n σ (.tmp 54)) b:=(fun n σ b=>by rw[zad,show gd 8=some 54 from(by rw[hgd];rfl)];rfl);have hg14:∀n σ b,zau gd n σ (some (14,b))=zan (ev n σ (.tmp 60)) b:=(fun n σ b=>by rw[zad,show gd 14=some 60 from(by rw[hgd];rfl)];rfl);have hg21:∀n σ b,zau gd n σ (some (21,b))=zan (ev n σ (.tmp 67)) b:=(fun n σ b=>by rw[zad,show gd 21=some 67 from(by rw[hgd];rfl)];rfl);have hg26:∀n σ b,zau gd n σ (some (26,b))=zan (ev n σ (.tmp 72)) b:=(fun n σ b=>by rw[zad,show gd 26=some 72 from(by rw[hgd];rfl)];rfl);have hg31:∀n σ b,zau gd n σ (some (31,b))=zan (ev n σ (.tmp 77)) b:=(fun n σ b=>by rw[zad,show gd 31=some 77 from(by rw[hgd];rfl)];rfl);have hg36:∀n σ b,zau gd n σ (some (36,b))=zan (ev n σ (.tmp 82)) b:=(fun n σ b=>by rw[zad,show gd 36=some 82 from(by rw[hgd];rfl)];rfl);have hg40:∀n σ b,zau gd n σ (some (40,b))=zan (ev n σ (.tmp 86)) b:=(fun n σ b=>by rw[zad,show gd 40=some 86 from(by rw[hgd];rfl)];rfl);have hg45:∀n σ b,zau gd n σ (some (45,b))=zan (ev n σ (.tmp 91)) b:=(fun n σ b=>by rw[zad,show gd 45=some 91 from(by rw[hgd];rfl)];rfl);have hg50:∀n σ b,zau gd n σ (some (50,b))=zan (ev n σ (.tmp 96)) b:=(fun n σ b=>by rw[zad,show gd 50=some 96 from(by rw[hgd];rfl)];rfl);have hg55:∀n σ b,zau gd n σ (some (55,b))=zan (ev n σ (.tmp 101)) b:=(fun n σ b=>by rw[zad,show gd 55=some 101 from(by rw[hgd];rfl)];rfl);have hg61:∀n σ b,zau gd n σ (some (61,b))=zan (ev n σ (.tmp 107)) b:=(fun n σ b=>by rw[zad,show gd 61=some 107 from(by rw[hgd];rfl)];rfl)
 simp only[List.append_eq,List.cons_append,List.nil_append]
 try simp (disch:=first|omega|assumption|rfl) only[go_sem,Int.add_zero,z0,p4,z4,i0,i3,g3',z7,z7',b7,pc1,pc2,pc3,pc5,Nat.zero_add,↓hg8,↓hg14,↓hg21,↓hg26,↓hg31,↓hg36,↓hg40,↓hg45,↓hg50,↓hg55,↓hg61]
 have dd1:decide (([49,48,46,48,46,48,46,55]:Lab)=[49,48,46,48,46,48,46,55])=true:=decide_eq_true rfl
 refine Fn.mono (zbx hW5 hq1 dA_T) ?_
 rintro _ y1 ⟨rfl,f1⟩
 have x1:Ext b5 y1:=f1
 rw[tA]
 have pc1_1:=zaf x1 pc1
 have pc2_1:=zaf x1 pc2
 have pc3_1:=zaf x1 pc3
 have pc5_1:=zaf x1 pc5
 try simp (disch:=first|omega|assumption|rfl) only[go_sem,dd1,z0,z7,z7',Nat.zero_add,pc1_1,pc2_1,pc3_1,pc5_1,↓hg8,↓hg14,↓hg21,↓hg26,↓hg31,↓hg36,↓hg40,↓hg45,↓hg50,↓hg55,↓hg61]
 have dd2:decide (([53,32,120,46,111,46]:Lab)=[53,32,120,46,111,46])=true:=decide_eq_true rfl
 refine Fn.mono (zbx (hW5.ext x1) (hq2.ext x1) dM_T) ?_
 rintro _ y2 ⟨rfl,f2⟩
 have x2:Ext b5 y2:=x1.trans f2
 rw[tM]
 have pc1_2:=zaf x2 pc1
 have pc2_2:=zaf x2 pc2
 have pc3_2:=zaf x2 pc3
 have pc5_2:=zaf x2 pc5
 try simp (disch:=first|omega|assumption|rfl) only[go_sem,dd2,z0,z7,z7',Nat.zero_add,pc1_2,pc2_2,pc3_2,pc5_2,↓hg8,↓hg14,↓hg21,↓hg26,↓hg31,↓hg36,↓hg40,↓hg45,↓hg50,↓hg55,↓hg61]
 have dd3:decide (([92,35,32,50,32,48,97,102,102]:Lab)=[92,35,32,50,32,48,97,102,102])=true:=decide_eq_true rfl
 refine Fn.mono (zbx (hW5.ext x2) (hq3.ext x2) dU_T) ?_
 rintro _ y3 ⟨rfl,f3⟩
 have x3:Ext b5 y3:=x2.trans f3
 rw[tU]
 have pc1_3:=zaf x3 pc1
 have pc2_3:=zaf x3 pc2
 have pc3_3:=zaf x3 pc3
 have pc5_3:=zaf x3 pc5
 try simp (disch:=first|omega|assumption|rfl) only[go_sem,dd3,z0,z7,z7',Nat.zero_add,pc1_3,pc2_3,pc3_3,pc5_3,↓hg8,↓hg14,↓hg21,↓hg26,↓hg31,↓hg36,↓hg40,↓hg45,↓hg50,↓hg55,↓hg61]
 have dd5:decide (([34,97,92,34,98,34]:Lab)=[34,97,92,34,98,34])=true:=decide_eq_true rfl
 refine Fn.mono (zbx (hW5.ext x3) (hq5.ext x3) dT_T) ?_
 rintro _ y4 ⟨rfl,f4⟩
 have x4:Ext b5 y4:=x3.trans f4
 rw[tT]
 have pc1_4:=zaf x4 pc1
 have pc2_4:=zaf x4 pc2
 have pc3_4:=zaf x4 pc3
 have pc5_4:=zaf x4 pc5
 try simp (disch:=first|omega|assumption|rfl) only[go_sem,dd5,z0,z7,z7',Nat.zero_add,pc1_4,pc2_4,pc3_4,pc5_4,↓hg8,↓hg14,↓hg21,↓hg26,↓hg31,↓hg36,↓hg40,↓hg45,↓hg50,↓hg55,↓hg61]
 refine Fn.mono (zeE (hq1.ext x4) dA_T) ?_
 rintro _ y5 ⟨rfl,f5⟩
 have x5:Ext b5 y5:=x4.trans f5
 rw[show zcM dA=0 from by decide+kernel]
 have pc1_5:=zaf x5 pc1
 have pc2_5:=zaf x5 pc2
 have pc3_5:=zaf x5 pc3
 have pc5_5:=zaf x5 pc5
 try simp (disch:=first|omega|assumption|rfl) only[go_sem,z0,z7,z7',Nat.zero_add,pc1_5,pc2_5,pc3_5,pc5_5,↓hg8,↓hg14,↓hg21,↓hg26,↓hg31,↓hg36,↓hg40,↓hg45,↓hg50,↓hg55,↓hg61]
 have e1:decide (cmpD dM dM=0)=true:=by decide+kernel
 have e2:decide (cmpD dA dM=0)=false:=by decide+kernel
 refine Fn.mono (zd4 _ _ _ dM dM (hq2.ext x5) (hq2.ext x5) dM_ok dM_ok) ?_
 rintro _ y6 ⟨rfl,f6⟩
 have x6:Ext b5 y6:=x5.trans f6
 rw[e1]
 have pc1_6:=zaf x6 pc1
 have pc2_6:=zaf x6 pc2
 have pc3_6:=zaf x6 pc3
 have pc5_6:=zaf x6 pc5
 try simp (disch:=first|omega|assumption|rfl) only[go_sem,z0,z7,z7',Nat.zero_add,pc1_6,pc2_6,pc3_6,pc5_6,↓hg8,↓hg14,↓hg21,↓hg26,↓hg31,↓hg36,↓hg40,↓hg45,↓hg50,↓hg55,↓hg61]
 refine Fn.mono (zd4 _ _ _ dA dM (hq1.ext x6) (hq2.ext x6) dA_ok dM_ok) ?_
 rintro _ y7 ⟨rfl,f7⟩
 have x7:Ext b5 y7:=x6.trans f7
 rw[e2]
 have pc1_7:=zaf x7 pc1
 have pc2_7:=zaf x7 pc2
 have pc3_7:=zaf x7 pc3
 have pc5_7:=zaf x7 pc5
 try simp (disch:=first|omega|assumption|rfl) only[go_sem,Bool.not_false,z0,z7,z7',Nat.zero_add,pc1_7,pc2_7,pc3_7,pc5_7,↓hg8,↓hg14,↓hg21,↓hg26,↓hg31,↓hg36,↓hg40,↓hg45,↓hg50,↓hg55,↓hg61]
 refine Fn.mono (zby _ _ _ dA dM (hq1.ext x7) (hq2.ext x7) dA_ok dM_ok) ?_
 rintro _ y8 ⟨rfl,f8⟩
 have x8:Ext b5 y8:=x7.trans f8
 rw[show cmpD dA dM= -1 from by decide+kernel]
 have pc1_8:=zaf x8 pc1
 have pc2_8:=zaf x8 pc2
 have pc3_8:=zaf x8 pc3
 have pc5_8:=zaf x8 pc5
 try simp (disch:=first|omega|assumption|rfl) only[go_sem,decide_true,z0,z7,z7',Nat.zero_add,pc1_8,pc2_8,pc3_8,pc5_8,↓hg8,↓hg14,↓hg21,↓hg26,↓hg31,↓hg36,↓hg40,↓hg45,↓hg50,↓hg55,↓hg61]
 refine hK _ _ ?_;clear hK hgd;clear K;try clear gd
 refine go trivial ?_
 refine rt0 Tryz.ntmps28 ?_
 exact⟨rfl,hE5.trans x8⟩
def foldD(d:DatL):DatL:=⟨d.ty,d.names.map zaG,d.nums,d.texts,d.raw⟩
def moreD(d:DatL):DatL:=⟨d.ty,d.names,d.nums,d.texts++ [[120]],d.raw⟩
theorem few_D{d:DatL}(hf:DatF d)(hn:NumsD d):DatT d∧zcS d∧zcS (foldD d)∧zcS (moreD d):=by
 obtain⟨n1,n2,n3⟩:=hn
 obtain⟨f1,f2,f3,f4,f5⟩:=hf.f4
 have h8:=hf.n8
 have hnm:∀n∈d.names,NmT n:=fun n hn=>few_T (f5 n hn)
 have hok:zcS d:=⟨fun n hn=>⟨(hnm n hn).lb,by have:=(hnm n hn).2;omega⟩,by omega,by omega,by omega,n1,by omega⟩
 refine⟨⟨⟨hnm,by omega,by omega,n1,by omega,fun t ht=>by have:=f3 t ht;omega,by omega⟩,by omega⟩,hok,⟨fun n hn=>?_,?_,hok.nu,hok.nt,n1,hok.nr⟩,⟨hok.names,hok.nn,hok.nu,?_,n1,hok.nr⟩⟩
 ·obtain⟨x,hx,rfl⟩:=List.mem_map.1 hn
  have:=fold_T (hnm x hx)
  exact⟨this.lb,by have:=this.2;omega⟩
 ·show(d.names.map zaG).length≤_
  rw[List.length_map];omega
 ·show(d.texts++ [[120]]).length≤_
  rw[List.length_append,List.length_singleton];omega
def In3(c:Int):Prop:= -1≤c∧c≤1
theorem lex3{α:Type}{cf:α→α→Int}(h:∀x y,In3 (cf x y)):∀a b:List α,In3 (lexC cf a b)
 | [],[]=>(show In3 0 from⟨by decide,by decide⟩)
 | [],_::_=>(show In3 (-1) from⟨by decide,by decide⟩)
 |_::_,[]=>(show In3 1 from⟨by decide,by decide⟩)
 |x::l,y::m=>by
  unfold lexC
  split
  ·exact lex3 h l m
  ·exact h x y
theorem cmpR3:∀a b:Nm,In3 (cmpR a b)
 | [],[]=>(show In3 0 from⟨by decide,by decide⟩)
 | [],_::_=>(show In3 (-1) from⟨by decide,by decide⟩)
 |_::_,[]=>(show In3 1 from⟨by decide,by decide⟩)
 |x::l,y::m=>by
  unfold cmpR
  split
  ·exact cmpR3 l m
  ·rcases zbP x y with h|h|h<;>rw[h]<;>exact⟨by decide,by decide⟩
theorem cmpL3(a b:Lab):In3 (cmpL a b):=by rcases zbP a b with h|h|h<;>rw[h]<;>exact⟨by decide,by decide⟩
theorem cmpI3(a b:Int):In3 (cmpI a b):=by unfold cmpI In3;(repeat' split)<;>omega
theorem orI3:∀l:List Int,(∀x∈l,In3 x)→In3 (orI l)
 | [],_=>⟨by decide,by decide⟩
 |x::l,h=>by
  unfold orI
  split
  ·exact orI3 l fun y hy=>h y (List.mem_cons_of_mem _ hy)
  ·exact h x (List.mem_cons_self ..)
theorem cmpD3(a b:DatL):In3 (cmpD a b):=orI3 _ fun x hx=>by
 simp only[List.mem_cons,List.not_mem_nil,or_false]at hx
 rcases hx with rfl|rfl|rfl|rfl|rfl
 ·exact cmpI3 _ _
 ·exact lex3 (fun x y=>cmpR3 _ _) _ _
 ·exact lex3 cmpI3 _ _
 ·exact lex3 cmpL3 _ _
 ·exact cmpL3 _ _
theorem zgb{W:World}(hX:WX W)(hY:WY W){ca cb:List Value}{a b:DatL}(ha:DatAt W ca a)(hNa:NumsD a)(hb:DatAt W cb b)(hNb:NumsD b):Fn Tryz.prog 9 #[.agg ca.toArray,.agg cb.toArray] W (fun v w'=>v= .bool true∧Ext W w'):=by
 obtain⟨hla,h1a⟩:=zbr ha
 obtain⟨hlb,h1b⟩:=zbr hb
 refine enter Tryz.func9 Tryz.ntmps9 rfl rfl ?_
 refine go trivial ?_
 refine zcr ?_
 intro w1 hE1 hs1 hA hB
 simp only[zaq]
 obtain⟨p1,hp1⟩:∃p,W.heap.size=p:=⟨_,rfl⟩
 rw[hp1]at hA hB ⊢
 refine go trivial ?_
 refine rc trivial (zhi (hX.ext hE1) (hY.ext hE1)) ?_
 rintro _ w2 ⟨rfl,hE2⟩
 refine rgo trivial ?_
 have hE02:=hE1.trans hE2
 have qa:=zam (n:=5) (Ext.at hE2 hA) (by simp[hla])
 have qb:=zam (n:=5) (Ext.at hE2 hB) (by simp[hlb])
 refine zat (Q:=fun e' σ' ds' v'=>e'= .normal∧ds'=[]∧(σ' 2= .pointer (some ⟨p1,0,Option.none⟩)∧σ' 3= .pointer (some ⟨p1+1,0,Option.none⟩))∧Ext w2 v'∧∃bb:Bool,σ' 15= .bool bb∧(bb=false→DatF a∧DatF b)) ?_ ?_
 ·refine rcg [(3,11)] qa (zhk hE02 ha) ?_
  rintro _ w3 ⟨hE3,b1,rfl,hb1⟩
  cases b1 with
  |false=>
   refine reg [(3,11)] Bool.not_false ?_
   exact⟨rfl,rfl,⟨vr0,vr0⟩,hE3,true,vr0,fun h=>by cases h⟩
  |true=>
   refine rdg [(3,11)] (an2 Bool.not_true (zaf hE3 qb)) (zhk (hE02.trans hE3) hb) ?_
   rintro _ w4 ⟨hE4,b2,rfl,hb2⟩
   refine reg [(3,11)] Bool.not_true ?_
   exact⟨rfl,rfl,⟨vr0,vr0⟩,hE3.trans hE4,!b2,vr0,fun h=>⟨hb1 rfl,hb2 (by simpa using h)⟩⟩
 rintro _ σ1 _ w3 ⟨rfl,rfl,⟨s2,s3⟩,hE3,bb,s15,hbb⟩
 have hE03:=hE02.trans hE3
 cases bb with
 |true=>
  refine go (an3 s2 s3 s15) ?_
  refine rt0 Tryz.ntmps9 ?_
  exact⟨rfl,hE03⟩
 |false=>
 obtain⟨hFa,hFb⟩:=hbb rfl
 have hOa:=(few_D hFa hNa).2.1
 have hOb:=(few_D hFb hNb).2.1
 have qa3:=zaf hE3 qa
 have qb3:=zaf hE3 qb
 refine go (an3 s2 s3 s15) ?_
 refine zat (Q:=fun e' σ' ds' v'=>e'= .normal∧ds'=[]∧(σ' 2= .pointer (some ⟨p1,0,Option.none⟩)∧σ' 3= .pointer (some ⟨p1+1,0,Option.none⟩)∧σ' 5=vi (cmpD a b))∧Ext w3 v') ?_ ?_
 ·refine zaS (fun _=>false) [(0,true),(2,true),(1,false),(3,false),(4,false),(5,true)] NoS mixed (by kernel_rfl) ?_;intro gd K x hgd hx hxe hK;have hx0:=za9 hxe;clear hxe
  have hE0x:=hE03.trans hx0
  have qax:=zaf hx0 qa3
  have qbx:=zaf hx0 qb3
  simp (disch:=first|omega|assumption|rfl) only[go_sem,s2,s3,qax,qbx]
  refine Fn.mono (DOf_ok hE0x ha hFa.nn) ?_
  rintro _ y1 ⟨hy1,csa,nma,rfl,hda⟩
  refine⟨.inr hy1.keep,?_⟩
  simp (disch:=first|omega|assumption|rfl) only[go_sem]
  have hE1y:=hE0x.trans hy1
  refine Fn.mono (DOf_ok hE1y hb hFb.nn) ?_
  rintro _ y2 ⟨hy2,csb,nmb,rfl,hdb⟩
  refine⟨.inr hy2.keep,?_⟩
  simp (disch:=first|omega|assumption|rfl) only[go_sem]
  refine Fn.mono (zdt _ _ _ a b ((hda.at hE1y).ext hy2) (hdb.at (hE1y.trans hy2)) hOa hOb) ?_
  rintro _ y3 ⟨rfl,hy3⟩
  refine⟨.inr hy3.keep,?_⟩
  simp (disch:=first|omega|assumption|rfl) only[go_sem]
  refine hK _ _ ?_;clear hK hgd;clear K;try clear gd
  exact⟨rfl,rfl,⟨(vq1 s2),(vq1 s3),vr0⟩,((hx0.trans hy1).trans hy2).trans hy3⟩
 clear s2 s3 s15
 rintro _ σ2 _ w4 ⟨rfl,rfl,⟨s2,s3,s5⟩,hE4⟩
 have hE04:=hE03.trans hE4
 have ra:=zaf hE4 qa3
 have rb:=zaf hE4 qb3
 have hneg:=cpr_D.neg a b
 obtain⟨c,hc⟩:∃c,cmpD a b=c:=⟨_,rfl⟩
 rw[hc]at s5 hneg
 have e1:decide (c=c)=true:=decide_eq_true rfl
 have e2:decide (-c= -c)=true:=decide_eq_true rfl
 have a4:=ha.ext hE04
 have b4:=hb.ext hE04
 refine go (an3 s2 s3 s5) ?_
 refine rq ?_;intro gd K hgd hK
 have hg5:∀n σ b,zau gd n σ (some (5,b))=zan (ev n σ (.tmp 26)) b:=(fun n σ b=>by rw[zad,show gd 5=some 26 from(by rw[hgd];rfl)];rfl);have hg13:∀n σ b,zau gd n σ (some (13,b))=zan (ev n σ (.tmp 34)) b:=(fun n σ b=>by rw[zad,show gd 13=some 34 from(by rw[hgd];rfl)];rfl)
 try simp (disch:=first|omega|assumption|rfl) only[go_sem,s2,s3,s5,ra,rb,↓hg5,↓hg13]
 refine Fn.mono (zby _ _ _ a b a4 b4 hOa hOb) ?_
 rintro _ z1 ⟨rfl,k1⟩
 rw[hc]
 try simp (disch:=first|omega|assumption|rfl) only[go_sem,s2,s3,s5,e1,zaf k1 ra,zaf k1 rb,↓hg5,↓hg13]
 refine Fn.mono (zby _ _ _ b a (b4.ext k1) (a4.ext k1) hOb hOa) ?_
 rintro _ z2 ⟨rfl,k2⟩
 rw[hneg]
 have k12:=k1.trans k2
 have hcb: -9223372036854775808<c∧c≤9223372036854775807:=by have:=cmpD3 a b;rw[hc]at this;exact⟨by have:=this.1;omega,by have:=this.2;omega⟩
 try simp (disch:=first|omega|assumption|rfl) only[go_sem,s2,s3,s5,e2,Int.zero_sub,zaf k12 ra,zaf k12 rb,↓hg5,↓hg13]
 refine Fn.mono (zd4 _ _ _ a b (a4.ext k12) (b4.ext k12) hOa hOb) ?_
 rintro _ z3 ⟨rfl,k3⟩
 rw[hc]
 have e3:binV Tryz.prog BinOp.eql 4 (.bool (decide (c=0))) (.bool (decide (c=0)))=some (.bool true):=by cases decide (c=0)<;>kernel_rfl
 try simp (disch:=first|omega|assumption|rfl) only[go_sem,s5,e3,beq_self_eq_true,↓hg5,↓hg13]
 refine hK _ _ ?_;clear hK hgd;clear K;try clear gd
 refine go trivial ?_
 refine rt0 Tryz.ntmps9 ?_
 exact⟨rfl,(hE04.trans k12).trans k3⟩
end Go.Proofs.YtanmnkbccfcagaaGreatDoor
