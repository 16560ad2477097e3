/-
  Texts of a proof, joined: NU, NV, NW, NX, NY.
  Conditions: none.
-/
import Derived.Test.YtanmnkbccfcagaaGreatDoorQCC07
import Derived.Test.YtanmnkbccfcagaaGreatDoorQCC02
set_option linter.unusedVariables false
set_option linter.unusedSimpArgs false
set_option linter.defProp false
set_option linter.unnecessarySimpa false
set_option maxHeartbeats 8000000
namespace Go.Proofs.YtanmnkbccfcagaaGreatDoor
open Go
set_option maxRecDepth 10000
def stAt(rs:List RowL)(j:Nat):StL:=za2 init0 (rs.take j)
def zbP(rs:List RowL)(j:Nat):Int:=match rs[j]? with
 |some r=>(zbn (stAt rs j) r).2
 |Option.none=>0
def POut(rs:List RowL)(t:Lab)(cs:List Value)(i e:Int)(w:World):Prop:=
 (∃j,j<rs.length∧i=(j:Int)∧e=zbP rs j∧¬zbP rs j=0)∨
 ((∀k,k<rs.length→zbP rs k=0)∧(((t≠ []∨rs=[])∧i=(rs.length:Int)∧e=2)∨(i=(rs.length:Int)∧¬e=0∧¬zf3 (za2 init0 rs).c)∨(t=[]∧i=0∧e=0∧ConfAt w cs (za2 init0 rs).c)))
theorem zeO{rs:List RowL}{j:Nat}(h:j<rs.length):stAt rs (j+1)=(zbn (stAt rs j) rs[j]).1:=by
 unfold stAt za2
 rw[zan h,List.foldl_append]
 rfl
theorem stage_ne(s:StL)(r:RowL):¬(zbn s r).1.stage=0:=by
 cases r
 ·exact(by decide:¬(1:Int)=0)
 ·exact(by decide:¬(2:Int)=0)
 ·exact(by decide:¬(2:Int)=0)
 ·exact(by decide:¬(3:Int)=0)
theorem zcB{w:World}{cs:List Value}{c:za4}(h:ConfAt w cs c):cs.length=4∧∀q∈cs,one q=true:=by
 obtain⟨sv,rv,rfl,h1,h2⟩:=h.ex
 obtain⟨a,k,rfl,_⟩:=h1.open
 refine⟨rfl,fun q hq=>?_⟩
 simp at hq
 rcases hq with rfl|rfl|rfl|rfl<;>first|rfl|exact h2.isOne
theorem zgG:([.slice Option.none 0 0,.slice Option.none 0 0,vi 0,vi 0]:List Value).length=4∧∀q∈([.slice Option.none 0 0,.slice Option.none 0 0,vi 0,vi 0]:List Value),one q=true:=⟨rfl,fun q hq=>by simp at hq;rcases hq with rfl|rfl<;>rfl⟩
theorem zbX{w:World}(hX:WX w){rs:List RowL}{t:Lab}(hr:∀r∈rs,zcJ r)(hf:∀j (h:j<rs.length),zfd (stAt rs j) rs[j])(ht:(10:UInt8)∉t)(hl:rs.length≤500)(htl:t.length≤10000000):
  Fn Tryz.prog 46 #[vs (zaO rs++t)] w (fun v w'=>Ext w w'∧∃cs:List Value,∃i e:Int,v= .tuple #[.agg cs.toArray,vi i,vi e]∧(cs.length=4∧∀q∈cs,one q=true)∧POut rs t cs i e w'):=by
 refine enter Tryz.func46 Tryz.ntmps46 rfl rfl ?_
 refine go trivial ?_
 refine zap ?_
 intro w1 hE1 hs1 hA
 refine rq ?_;intro gd K hgd hK
 try simp only[go_sem]
 refine⟨by kernel_rfl,?_⟩
 rw[show bdV Tryz.prog 183 []=some (.agg #[.slice Option.none 0 0,.slice Option.none 0 0,vi 0,vi 0,vi 0,vi 0]) from by kernel_rfl]
 try simp only[go_sem]
 refine hK _ _ ?_;clear hK hgd;clear K;try clear gd
 refine zap ?_
 intro w2 hE2 hs2 hB
 obtain⟨A,hAe⟩:∃A,w.heap.size=A:=⟨_,rfl⟩
 rw[hs1]at hB
 rw[hAe]at hA hB
 simp only[hs1,hAe]
 have hE12:=hE1.trans hE2
 have hA2:=Ext.at hE2 hA
 have hR0:RCx (A+2) w2 (A+1) (stAt rs 0) 0:=⟨.slice Option.none 0 0,.slice Option.none 0 0,.slice Option.none 0 0,[],[],hB,by omega,by omega,Owns.nil _ _ _ _ _,Own.nil _ _ _,Owns.nil _ _ _ _ _,fun i h=>(by cases h),fun i h=>(by cases h),rfl,fun x h=>(by cases h),fun x h=>(by cases h),fun x h=>(by cases h)⟩
 have hlen:∀i,(zaO (rs.drop i)++t).length<4000000000:=fun i=>by
  have:=zcq (rs:=rs.drop i) fun r h=>hr r (List.mem_of_mem_drop h)
  rw[List.length_drop]at this
  rw[List.length_append]
  omega
 refine go trivial ?_
 refine zaM (Q:=fun e' σ' ds' v=>(e'= .ret∧ds'=[]∧∃j,j<rs.length∧¬zbP rs j=0∧(σ' 2= .pointer (some ⟨A,0,Option.none⟩)∧σ' 3=vi j∧σ' 4=vi (zbP rs j))∧v.heap[A]? =some (.cells #[.slice Option.none 0 0,.slice Option.none 0 0,vi 0,vi 0] 83 (0,0))∧Keep (fun i=>A≤i) w2 v)∨(e'= .exit 0∧ds'=[]∧(σ' 0=vs t∧σ' 2= .pointer (some ⟨A,0,Option.none⟩)∧σ' 5= .pointer (some ⟨A+1,0,Option.none⟩)∧σ' 6=vi rs.length)∧RCx (A+2) v (A+1) (za2 init0 rs) 0∧Keep (fun i=>A+1≤i) w2 v∧∀k,k<rs.length→zbP rs k=0)) ?_ ?_
 ·refine go trivial ?_
  refine zaR (fun m σ ds v=>ds=[]∧∃i,i+m=rs.length∧(σ 0=vs (zaO (rs.drop i)++t)∧σ 2= .pointer (some ⟨A,0,Option.none⟩)∧σ 5= .pointer (some ⟨A+1,0,Option.none⟩)∧σ 6=vi i)∧RCx (A+2) v (A+1) (stAt rs i) 0∧Keep (fun i=>A+1≤i) w2 v∧∀k,k<i→zbP rs k=0) rs.length ?_ ?_
  ·exact⟨rfl,0,by omega,⟨vr0,vr0,vr0,vr0⟩,hR0,Keep.refl _ _,fun k h=>by omega⟩
  rintro m σ ds v ⟨rfl,i,him,⟨s0,s2,s5,s6⟩,hR,hK,hno⟩
  have hEv:Ext w v:=Keep.to_ext hE12 rfl (fun j hj=>by omega) hK
  by_cases hi:i<rs.length
  rotate_left
  ·have hin:i=rs.length:=by omega
   have hC:Fn Tryz.prog 73 #[vs (zaO (rs.drop i)++t),vs [10]] v (fun u v'=>u= .tuple #[vs t,vs [],.bool false]∧Ext v v'):=by
    have h1:=Cut_ok (hX.ext hEv) (zaO (rs.drop i)++t) 10 (hlen i)
    have h2:cutB 10 (zaO (rs.drop i)++t)=(t,[],false):=by
     rw[List.drop_eq_nil_of_le (by omega)]
     exact zgw 10 t ht
    rw[h2]at h1
    exact h1
   refine go (an4 s0 s2 s5 s6) ?_
   refine rc s0 hC ?_
   rintro _ v1 ⟨rfl,hE⟩
   refine rgo (an5 s0 s2 s5 s6 Bool.not_false) ?_
   have hat:stAt rs i=za2 init0 rs:=by unfold stAt;rw[List.take_of_length_le (by omega)]
   rw[hat]at hR
   obtain⟨sv,rv,pv,G,GP,hR⟩:=hR
   have e0:vs (zaO (rs.drop i)++t)=vs t:=by rw[List.drop_eq_nil_of_le (by omega)];rfl
   exact .inr ⟨rfl,rfl,⟨by rw[←e0];simp only[go_sem,s0],(vq1 s2),(vq1 s5),by rw[←hin];simp only[go_sem,s6]⟩,⟨sv,rv,pv,G,GP,hR.ext hE⟩,hK.trans (hE.mono fun _ _ h=>h.elim),fun k hk=>hno k (by omega)⟩
  obtain⟨r,hre⟩:∃r,rs[i]=r:=⟨_,rfl⟩
  have hrm:r∈rs:=hre▸List.getElem_mem hi
  have hC:Fn Tryz.prog 73 #[vs (zaO (rs.drop i)++t),vs [10]] v (fun u v'=>u= .tuple #[vs (zbv r),vs (zaO (rs.drop (i+1))++t),.bool true]∧Ext v v'):=by
   have h1:=Cut_ok (hX.ext hEv) (zaO (rs.drop i)++t) 10 (hlen i)
   have h2:cutB 10 (zaO (rs.drop i)++t)=(zbv r,zaO (rs.drop (i+1))++t,true):=by
    rw[List.drop_eq_getElem_cons hi,hre,zby,List.append_assoc,List.cons_append]
    exact zgx 10 _ _ (zh1 (hr r hrm))
   rw[h2]at h1
   exact h1
  have hz:Szn rs.length (stAt rs i).c:=by
   have:=zc8 (rs.take i) init0 0 zeg fun x hx=>hr x (List.mem_of_mem_take hx)
   rw[List.length_take,Nat.zero_add]at this
   refine⟨by have:=this.sl;unfold stAt;omega,by have:=this.rl;unfold stAt;omega,fun s hs=>?_⟩
   obtain⟨g1,g2,g3⟩:=this.sv s hs
   exact⟨g1,by omega,g3⟩
  have hfi:zfd (stAt rs i) r:=hre▸hf i hi
  have hsucc:stAt rs (i+1)=(zbn (stAt rs i) r).1:=by rw[zeO hi,hre]
  have herr:zbP rs i=(zbn (stAt rs i) r).2:=by unfold zbP;rw[List.getElem?_eq_getElem hi,hre]
  have hi2:(i:Int)+1=((i+1:Nat):Int):=by push_cast;rfl
  refine go (an4 s0 s2 s5 s6) ?_
  refine rc s0 hC ?_
  rintro _ v1 ⟨rfl,hE⟩
  refine rgo (an5 s0 s2 s5 s6 Bool.not_true) ?_
  obtain⟨sv,rv,pv,G,GP,hR⟩:=hR
  refine rc s5 (line_ok ((hX.ext hEv).ext hE) ⟨sv,rv,pv,G,GP,hR.ext hE⟩ (hr r hrm) hfi hz (by omega)) ?_
  rintro _ v2 ⟨hR2,hk2⟩
  rw[←herr,←hsucc]at hR2
  have hK2:Keep (fun i=>A+1≤i) w2 v2:=(hK.trans (hE.mono fun _ _ h=>h.elim)).trans hk2
  obtain⟨e,he⟩:∃e,zbP rs i=e:=⟨_,rfl⟩
  rw[he]at hR2
  have hR2':=hR2
  obtain⟨sv',rv',pv',G',GP',hR3⟩:=hR2
  have k5:zag v2 (some ⟨A+1,5,Option.none⟩)=some (vi e):=zad hR3.h rfl
  have hA3:=(hK2.block A (by omega) (by omega)).trans hA2
  by_cases h0:e=0
  ·subst h0
   refine rgo (an7 s0 s2 s5 s6 k5 Nat.zero_add (show decide ((0:Int)=0)=true from rfl)) ?_
   refine⟨m - 1,by omega,rfl,i+1,by omega,⟨vq0,(vq1 s2),(vq1 s5),(vq2 hi2 s6)⟩,hR2',hK2,fun k hk=>?_⟩
   by_cases e1:k=i
   ·rw[e1];exact he
   ·exact hno k (by omega)
  ·refine rgo (an7 s0 s2 s5 s6 k5 Nat.zero_add (decide_eq_false h0)) ?_
   refine zaU (fun _=>false) [(0,true),(1,true),(2,true),(3,true),(4,true),(5,true),(6,false),(7,true),(8,true)] ((fun i=>i=A)) mixed (by kernel_rfl) ?_;intro gd K x hgd hx hxe hK;have hx0:=za0 hxe;clear hxe
   have k5x:=zaa hx0 k5
   simp (disch:=first|omega|assumption|rfl) only[go_sem]
   refine⟨by kernel_rfl,?_⟩
   rw[show bdV Tryz.prog 83 []=some (.agg #[.slice Option.none 0 0,.slice Option.none 0 0,vi 0,vi 0]) from by kernel_rfl]
   simp (disch:=first|omega|assumption|rfl) only[go_sem,s2,s5,s6,k5x,Nat.zero_add]
   refine⟨fun a ha hb'=>by cases ha;dsimp only at hb';omega,?_⟩
   refine za1 (P:=Tryz.prog) (t:=83) (l:=[.slice Option.none 0 0,.slice Option.none 0 0,vi 0,vi 0]) (Ext.at hx0 hA3) rfl zgG.2 rfl rfl ?_
   intro w6 hs6 hB6 hk6
   refine⟨.inr hk6,?_⟩
   simp (disch:=first|omega|assumption|rfl) only[go_sem]
   refine hK _ _ ?_;clear hK hgd;clear K;try clear gd
   refine go trivial ?_
   exact .inl ⟨rfl,rfl,i,hi,by rw[he];exact h0,⟨(vr1 s2),(vr1 s6),by rw[he];first| (simp only[go_sem];done)| (simp only[go_sem];rfl)⟩,hB6,((hK2.mono fun i _ h=>by omega).trans (hx0.mono fun _ _ h=>h.elim)).trans (hk6.mono fun i _ h=>by omega)⟩
 rintro e' σ1 ds' v (⟨rfl,rfl,j,hj,hne,⟨s2,s3,s4⟩,hBA,hK⟩| ⟨rfl,rfl,⟨s0,s2,s5,s6⟩,⟨sv,rv,pv,G,GP,hR⟩,hK,hno⟩)
 ·repeat refine c_r ?_
  refine zaf (.inr rfl) Tryz.ntmps46 rfl (zaS (x:=⟨A,0,Option.none⟩) (k:=4) ((vq1 s2)) rfl rfl (zam (n:=4) (l:=[.slice Option.none 0 0,.slice Option.none 0 0,vi 0,vi 0]) hBA rfl) (zac (v:=vi j) ((vq1 s3)) (zac (v:=vi (zbP rs j)) ((vq1 s4)) zae))) ?_
  exact⟨Keep.to_ext hE12 rfl (fun i hi=>by omega) hK,_,_,_,rfl,zgG,.inl ⟨j,hj,rfl,rfl,hne⟩⟩
 have hEv:Ext w v:=Keep.to_ext hE12 rfl (fun j hj=>by omega) hK
 have hAv:=(hK.block A (by omega) (by omega)).trans hA2
 have hst:decide ((za2 init0 rs).stage=0)=decide (rs=[]):=by
  by_cases h:rs=[]
  ·rw[h];rfl
  ·have hl0:rs.length≠0:=fun e=>h (List.length_eq_zero_iff.1 e)
   have e1:za2 init0 rs=stAt rs (rs.length - 1+1):=by unfold stAt;rw[List.take_of_length_le (by omega)]
   rw[decide_eq_false h,e1,zeO (by omega)]
   exact decide_eq_false (stage_ne _ _)
 have k4:zag v (some ⟨A+1,4,Option.none⟩)=some (vi (za2 init0 rs).stage):=zad hR.h rfl
 refine go (an4 s0 s2 s5 s6) ?_
 refine zaM (Q:=fun e' σ' ds' v'=>e'= .normal∧ds'=[]∧v'=v∧(σ' 2= .pointer (some ⟨A,0,Option.none⟩)∧σ' 5= .pointer (some ⟨A+1,0,Option.none⟩)∧σ' 6=vi rs.length)∧σ' 47= .bool (!decide (t=[])||decide (rs=[]))) ?_ ?_
 ·by_cases htn:t=[]
  ·have d1:=decide_eq_true htn
   obtain⟨z,hz⟩:∃z,decide (rs=[])=z:=⟨_,rfl⟩
   rw[hz]at hst
   refine rgg [(2,41)] (an6 s0 s2 s5 s6 d1 (an4 Bool.not_true k4 hst Nat.zero_add)) ?_
   exact⟨rfl,rfl,rfl,⟨(vq1 s2),(vq1 s5),(vq1 s6)⟩,by rw[d1,hz];first| (simp only[go_sem];done)| (simp only[go_sem];rfl)⟩
  ·have d1:=decide_eq_false htn
   refine rgg [(2,41)] (an6 s0 s2 s5 s6 d1 Bool.not_false) ?_
   exact⟨rfl,rfl,rfl,⟨(vq1 s2),(vq1 s5),(vq1 s6)⟩,by rw[d1];first| (simp only[go_sem];done)| (simp only[go_sem];rfl)⟩
 clear s0 s2 s5 s6
 rintro _ σ2 _ v3 ⟨rfl,rfl,hv3,⟨s2,s5,s6⟩,s47⟩
 replace hv3:=hv3.symm
 subst hv3
 by_cases hcond:t≠ []∨rs=[]
 ·have hc:(!decide (t=[])||decide (rs=[]))=true:=by
   rcases hcond with h|h
   ·rw[decide_eq_false h];rfl
   ·rw[decide_eq_true h,Bool.or_true]
  rw[hc]at s47
  refine go (an4 s2 s5 s6 s47) ?_
  refine rq ?_;intro gd K hgd hK
  try simp only[go_sem]
  refine⟨by kernel_rfl,?_⟩
  rw[show bdV Tryz.prog 83 []=some (.agg #[.slice Option.none 0 0,.slice Option.none 0 0,vi 0,vi 0]) from by kernel_rfl]
  try simp (disch:=first|omega|assumption|rfl) only[go_sem,s2,s6]
  refine za1 (P:=Tryz.prog) (t:=83) (l:=[.slice Option.none 0 0,.slice Option.none 0 0,vi 0,vi 0]) hAv rfl zgG.2 rfl rfl ?_
  intro v6 hs6 hB6 hk6
  try simp only[go_sem]
  refine hK _ _ ?_;clear hK hgd;clear K;try clear gd
  refine go trivial ?_
  refine zaf (.inr rfl) Tryz.ntmps46 rfl (zaS (x:=⟨A,0,Option.none⟩) (k:=4) ((vr1 s2)) rfl rfl (zam (n:=4) hB6 rfl) (zac ((vr1 s6)) (zac (vr0) zae))) ?_
  exact⟨Keep.to_ext hEv rfl (fun i hi=>by omega) hk6,_,_,_,rfl,zgG,.inr ⟨hno,.inl ⟨hcond,rfl,rfl⟩⟩⟩
 have hc:(!decide (t=[])||decide (rs=[]))=false:=by
  have h1:t=[]:=Classical.byContradiction fun h=>hcond (.inl h)
  have h2:¬rs=[]:=fun h=>hcond (.inr h)
  rw[decide_eq_true h1,decide_eq_false h2];rfl
 have htn:t=[]:=Classical.byContradiction fun h=>hcond (.inl h)
 rw[hc]at s47
 have hzz:SzC (za2 init0 rs).c:=(zc8 rs init0 0 zeg hr).z (by omega)
 have q4:zao v (some ⟨A+1,0,Option.none⟩) 4=some [sv,rv,vi (za2 init0 rs).c.rw,vi (za2 init0 rs).c.rf]:=zbB (m:=4) (k:=2) (zam (n:=6) (l:=[sv,rv,vi (za2 init0 rs).c.rw,vi (za2 init0 rs).c.rf,vi (za2 init0 rs).stage,vi 0]) hR.h rfl)
 refine go (an4 s2 s5 s6 s47) ?_
 refine rc (an3 s5 q4 Nat.zero_add) (zcW hR.conf hzz) ?_
 rintro _ v4 ⟨hE4,ci,ce,rfl,hfin,_⟩
 have hAv4:=Ext.at hE4 hAv
 by_cases hce:ce=0
 ·subst hce
  have q44:=zai hE4 q4
  have hc4:=hR.conf
  have ho4:=zcB hc4
  refine rgo (an4 s2 s5 s6 (show decide ((0:Int)=0)=true from rfl)) ?_
  refine rq ?_;intro gd K hgd hK
  try simp (disch:=first|omega|assumption|rfl) only[go_sem,s2,s5,q44,Nat.zero_add]
  refine za1 (P:=Tryz.prog) (t:=83) (l:=[sv,rv,vi (za2 init0 rs).c.rw,vi (za2 init0 rs).c.rf]) hAv4 rfl ho4.2 rfl rfl ?_
  intro v6 hs6 hB6 hk6
  try simp only[go_sem]
  refine hK _ _ ?_;clear hK hgd;clear K;try clear gd
  refine go trivial ?_
  refine zaf (.inr rfl) Tryz.ntmps46 rfl (zaS (x:=⟨A,0,Option.none⟩) (k:=4) ((vr1 s2)) rfl rfl (zam (n:=4) hB6 rfl) (zac (vr0) (zac (vr0) zae))) ?_
  refine⟨Keep.to_ext (hEv.trans hE4) rfl (fun i hi=>by omega) hk6,_,_,_,rfl,ho4,.inr ⟨hno,.inr (.inr ⟨htn,rfl,rfl,?_⟩)⟩⟩
  exact(RC.turnA (hR.ext hE4) hk6 (by omega)).conf
 ·refine rgo (an4 s2 s5 s6 (decide_eq_false hce)) ?_
  refine rq ?_;intro gd K hgd hK
  try simp only[go_sem]
  refine⟨by kernel_rfl,?_⟩
  rw[show bdV Tryz.prog 83 []=some (.agg #[.slice Option.none 0 0,.slice Option.none 0 0,vi 0,vi 0]) from by kernel_rfl]
  try simp (disch:=first|omega|assumption|rfl) only[go_sem,s2,s6]
  refine za1 (P:=Tryz.prog) (t:=83) (l:=[.slice Option.none 0 0,.slice Option.none 0 0,vi 0,vi 0]) hAv4 rfl zgG.2 rfl rfl ?_
  intro v6 hs6 hB6 hk6
  try simp only[go_sem]
  refine hK _ _ ?_;clear hK hgd;clear K;try clear gd
  refine go trivial ?_
  refine zaf (.inr rfl) Tryz.ntmps46 rfl (zaS (x:=⟨A,0,Option.none⟩) (k:=4) ((vr1 s2)) rfl rfl (zam (n:=4) hB6 rfl) (zac ((vr1 s6)) (zac (vr0) zae))) ?_
  exact⟨Keep.to_ext (hEv.trans hE4) rfl (fun i hi=>by omega) hk6,_,_,_,rfl,zgG,.inr ⟨hno,.inr (.inl ⟨rfl,hce,fun h=>hce (hfin h)⟩)⟩⟩
theorem zho(w:World)(a1 a2 a3 a4:UInt8):Fn Tryz.prog 179 #[.agg #[zab a1,zab a2,zab a3,zab a4]] w (fun v w'=>Ext w w'∧∃cs:List Value,v= .agg cs.toArray∧DatAt w' cs (rawD 1 [a1,a2,a3,a4])):=by
 refine enter Tryz.func179 Tryz.ntmps179 rfl rfl ?_
 refine go trivial ?_
 refine zcH ?_
 intro w1 hE1 hs1 hA hB
 simp only[World.size_alloc]at hB ⊢
 refine go trivial ?_
 refine rq ?_;intro gd K hgd hK
 try simp only[go_sem]
 refine op_slA rfl (by decide) (by kernel_rfl) (vq0) ?_
 try simp only[go_sem]
 refine⟨by kernel_rfl,?_⟩
 rw[show bdV Tryz.prog 33 [(0,vi 1),(4,.slice (some ⟨w.heap.size,0,Option.none⟩) 4 4)]=some (.agg #[vi 1,.slice Option.none 0 0,.slice Option.none 0 0,.slice Option.none 0 0,.slice (some ⟨w.heap.size,0,Option.none⟩) 4 4]) from by kernel_rfl]
 try simp only[go_sem]
 refine za1 (P:=Tryz.prog) (t:=33) (l:=[vi 1,.slice Option.none 0 0,.slice Option.none 0 0,.slice Option.none 0 0,.slice (some ⟨w.heap.size,0,Option.none⟩) 4 4]) hB rfl (zhV _ _ _ _ _ rfl rfl rfl rfl) rfl rfl ?_
 intro w2 hs2 hB2 hk2
 try simp only[go_sem]
 refine hK _ _ ?_;clear hK hgd;clear K;try clear gd
 refine go trivial ?_
 refine zaf (.inr rfl) Tryz.ntmps179 rfl (zaS (x:=⟨w.heap.size+1,0,Option.none⟩) (k:=5) (vr0) rfl rfl (zam (n:=5) hB2 rfl) zae) ?_
 refine⟨Keep.to_ext hE1 rfl (fun i hi=>by omega) hk2,_,rfl,raw_at (T:=1) ⟨some ⟨w.heap.size,0,Option.none⟩,4,rfl,by simp,fun i hi=>?_⟩⟩
 have hA2:=(hk2.block w.heap.size (by omega) (by omega)).trans hA
 rw[zbb,Nat.zero_add]
 refine zad hA2 ?_
 simp only[List.map_cons,List.map_nil,List.length_cons,List.length_nil]at hi
 rcases i with _|_|_|_|i<;>first|rfl|omega
theorem ziI(w:World){cs:List Value}(hl:cs.length=4):Fn Tryz.prog 111 #[.agg cs.toArray] w (fun u w'=>u= .func (.func 178) #[] #[.pointer (some ⟨w.heap.size,0,Option.none⟩)]∧Ext w w'∧w'.heap.size=w.heap.size+1∧w'.heap[w.heap.size]? =some (.cells cs.toArray 83 (0,0))):=by
 refine enter Tryz.func111 Tryz.ntmps111 rfl rfl ?_
 repeat refine c_r ?_
 refine rg0 ?_
 repeat refine c_r ?_
 refine zap ?_
 intro w1 hE1 hs1 hA
 refine go trivial ?_
 refine rt0 Tryz.ntmps111 ?_
 exact⟨rfl,hE1,hs1,hA⟩
def encRow(n1:Nat)(x:RowL)(_:Nat→Prop)(A:World)(args:Array Value):Prop:=∃X k,args=#[.slice (some ⟨X,0,Option.none⟩) k k]∧n1≤X∧Row A (.slice (some ⟨X,0,Option.none⟩) k k) ((zaI x).map vs)
structure RwI(w0 W0 W:World)(C:Nat→Prop)(J:List RowL→(Nat→Prop)→World→Prop)(pre:List RowL)(U:Nat→Prop)(v:World):Prop where
 j:J pre U v
 u:∀b,U b→W.heap.size≤b∧b<v.heap.size
 kb:KeepB W0.heap.size C W v
 e:Ext w0 v
 s:W.heap.size≤v.heap.size
theorem zeE(w:World)(n:Nm)(v:Value)(h:Row w v (n.map vs))(hn:NmT n):Fn Tryz.prog 61 #[v] w (fun v w'=>v=vs (zaW n)∧Ext w w'):=
 zeH w v n h (fun l hl=>by have:=hn.1 l hl;omega) hn.2
theorem zfO{α β:Type}{f:α→List β}{l:List α}{i:Nat}(h:i<l.length):(l.drop i).flatMap f=f l[i]++(l.drop (i+1)).flatMap f:=by
 rw[List.drop_eq_getElem_cons h,List.flatMap_cons]
theorem zd6{α β:Type}{f:α→β}{l:List α}{i:Nat}(h:i<l.length):(l.drop i).map f=f l[i]::(l.drop (i+1)).map f:=by
 rw[List.drop_eq_getElem_cons h,List.map_cons]
theorem addr_T{a:List UInt8}(h:a.length≤4):DatT (rawD 1 a):=raw_T (by omega)
theorem rowsIt{w0 W0:World}{C:Nat→Prop}{b:Nat}{cs:List Value}{c:za4}(hX:WX w0)(hY:WY w0)(hE0:Ext w0 W0)(hb:W0.heap[b]? =some (.cells cs.toArray 83 (0,0)))(hbC:¬C b)(hC:∀b,C b→w0.heap.size≤b∧b<W0.heap.size)(hc:ConfAt w0 cs c)(hG:zhm c):
  IterU Tryz.prog 178 #[.pointer (some ⟨b,0,Option.none⟩)] W0 W0.heap.size C 0 (fun pre x=>∃suf,zbo c=pre++x::suf) (fun xs=>xs=zbo c) encRow:=by
 intro lp J Jx W hW hnW hJ hJx hY' h0
 obtain⟨sv,rv,rfl,hs,hr⟩:=hc.ex
 obtain⟨a,k,rfl,hk,hg⟩:=hs.open
 obtain⟨ar,kr,rfl,hgr⟩:=zc9 hr
 have hsl:=hG.few.sl
 have hrl:=hG.few.rl
 have hrw:=hG.rw
 have hrf:=hG.rf
 have hEW:=hE0.trans hW
 have hbl:b<W0.heap.size:=(Array.getElem?_eq_some_iff.1 hb).1
 have hnotC:∀{b},W.heap.size≤b→¬C b:=fun {b} h hc=>by have:=(hC b hc).2;omega
 have hblk:∀{v:World},KeepB W0.heap.size C W v→v.heap[b]? =some (.cells #[.slice a c.servers.length k,.slice ar c.roots.length kr,vi c.rw,vi c.rf] 83 (0,0)):=fun hk=>(hk.block b hbl hbC).trans (hW.at hb)
 have up:∀{pre:List RowL} {U:Nat→Prop} {v x:World},RwI w0 W0 W C J pre U v→Ext v x→RwI w0 W0 W C J pre U x:=fun {pre U v x} h hE=>by
  have h1:=hE.size
  have h2:=h.s
  exact⟨hJ _ _ _ _ h.j (hE.mono (fun _ _ h=>h.elim)),fun b hb=>by have:=h.u b hb;omega,h.kb.trans (hE.toB (by omega) (fun _ _ h=>h.elim)),h.e.trans hE,by omega⟩
 have yl:∀{pre:List RowL} {U:Nat→Prop} {v:World} {x:RowL} {X k:Nat} {suf:List RowL},RwI w0 W0 W C J pre U v→zbo c=pre++x::suf→W.heap.size≤X→Row v (.slice (some ⟨X,0,Option.none⟩) k k) ((zaI x).map vs)→Yld Tryz.prog lp #[.slice (some ⟨X,0,Option.none⟩) k k] v (fun r B=>
   (r= .bool true∧∃U',RwI w0 W0 W C J (pre++ [x]) U' B∧(∀b,U' b→U b∨(v.heap.size≤b∧b<B.heap.size))∧KeepR W0.heap.size W.heap.size (fun b=>C b∨U b) v B)∨(r= .bool false∧Jx (pre++ [x]) B)):=fun {pre U v x X k suf} h he hXW hr=>by
  have h2:=h.s
  refine Yld.mono (hY' pre U x v _ ⟨suf,he⟩ h.j (by omega) h.kb ⟨X,k,rfl,hXW,hr⟩) ?_
  rintro r B (⟨rfl,U',hj',hU',hk⟩| ⟨rfl,hjx⟩)
  ·have h3:=hk.size
   have h4:=hk.toB h.kb (by omega) (fun b hb=>by have:=(h.u b hb).1;omega)
   exact .inl ⟨rfl,U',⟨hj',fun b hb=>by
    rcases hU' b hb with h'|h'
    ·have:=h.u b h';omega
    ·omega,h4,zh9 hEW h4 (by have:=hE0.size;omega) (fun b hb=>(hC b hb).1),by omega⟩,hU',hk⟩
  ·exact .inr ⟨rfl,hjx⟩
 have own:∀{U:Nat→Prop} {v B:World} {b:Nat} {o:Obj},KeepR W0.heap.size W.heap.size (fun b=>C b∨U b) v B→v.heap[b]? =some o→W.heap.size≤b→¬U b→B.heap[b]? =some o:=fun {U v B b o} hk h h1 h2=>
  (hk.block b (Array.getElem?_eq_some_iff.1 h).1 (.inr h1) (fun hc=>hc.elim (hnotC h1) h2)).trans h
 have dr:∀n:Int,0≤n→n≤16→∀v,WX v→Fn Tryz.prog 82 #[vi n] v (fun u v'=>u=vs (Lib.decDigits n.toNat)∧Ext v v'):=fun n h0 h1 v hv=>by
  have h:=Itoa_ok hv n (by omega) (by omega)
  have e:Lib.itoa n=Lib.decDigits n.toNat:=by
   obtain⟨m,rfl⟩:∃m:Nat,n=(m:Int):=⟨n.toNat,by omega⟩
   rw[zgl];rfl
  rw[e]at h
  exact h
 have own3:∀{v:World} {X:Nat} {u1 u2 u3:Lab},Own X v 9 (.slice (some ⟨X,0,Option.none⟩) 3 3) [vs u1,vs u2,vs u3]→Row v (.slice (some ⟨X,0,Option.none⟩) 3 3) ([u1,u2,u3].map vs):=fun h=>h.row
 have hI0:RwI w0 W0 W C J [] NoS W:=⟨h0,fun b h=>h.elim,KeepB.refl _ _ _,hEW,Nat.le_refl _⟩
 obtain⟨rest,hrest⟩:∃r,(c.servers.flatMap zcr++c.roots.map fun r=>RowL.root (zcQ c.servers r))=r:=⟨_,rfl⟩
 have hall:zbo c=[]++ .bound c.rw.toNat c.rf.toNat::rest:=by rw[←hrest];rfl
 have hB0:=hblk hI0.kb
 have p2:zag W (some ⟨b,2,Option.none⟩)=some (vi c.rw):=zad hB0 rfl
 have p3:zag W (some ⟨b,3,Option.none⟩)=some (vi c.rf):=zad hB0 rfl
 refine enter Tryz.func178 Tryz.ntmps178 rfl rfl ?_
 refine go trivial ?_
 refine zaU (fun i=>i==8) [(0,true),(1,true),(2,true),(4,true),(5,true),(3,false),(6,false),(7,false),(8,false),(9,true)] NoS mixed (by kernel_rfl) ?_;intro gd K x hgd hx hxe hK;have hx0:=za0 hxe;clear hxe
 have p2x:=zaa hx0 p2
 have p3x:=zaa hx0 p3
 simp (disch:=first|omega|assumption|rfl) only[go_sem,p2x,p3x,Nat.zero_add]
 refine Fn.mono (dr c.rw hrw.1 (by omega) x (hX.ext (hEW.trans hx0))) ?_
 rintro _ y1 ⟨rfl,hy1⟩
 refine⟨.inr hy1.keep,?_⟩
 have p3y:=zaa hy1 p3x
 simp (disch:=first|omega|assumption|rfl) only[go_sem,p3y,Nat.zero_add]
 refine Fn.mono (dr c.rf hrf.1 (by omega) y1 (hX.ext ((hEW.trans hx0).trans hy1))) ?_
 rintro _ y2 ⟨rfl,hy2⟩
 refine⟨.inr hy2.keep,?_⟩
 simp (disch:=first|omega|assumption|rfl) only[go_sem]
 refine zdO (z:=vs []) (l:=[vs [98,111,117,110,100],vs (Lib.decDigits c.rw.toNat),vs (Lib.decDigits c.rf.toNat)]) rfl rfl rfl rfl rfl rfl (fun v hv=>by simp at hv;rcases hv with rfl|rfl|rfl<;>rfl) (by simp) ?_
 intro y3 hy3 hys3 ho3
 refine⟨.inr hy3.keep,?_⟩
 simp (disch:=first|omega|assumption|rfl) only[go_sem]
 refine Yld.mono (yl (up hI0 (((hx0.trans hy1).trans hy2).trans hy3)) hall (by have:=hx0.size;have:=hy1.size;have:=hy2.size;omega) (own3 ho3)) ?_
 rintro r B (⟨rfl,U1,hI1,hU1,hk1⟩| ⟨rfl,hjx⟩)
 rotate_left
 ·refine⟨.inl rfl,?_⟩
  simp (disch:=first|omega|assumption|rfl) only[go_sem]
  refine hK _ _ ?_;clear hK hgd;clear K;try clear gd
  refine go trivial ?_
  exact zar (by simp) rfl (.inr ⟨_,_,⟨_,hall⟩,hjx⟩)
 refine⟨.inl rfl,?_⟩
 simp (disch:=first|omega|assumption|rfl) only[go_sem]
 refine hK _ _ ?_;clear hK hgd;clear K;try clear gd
 have q0:zag B (some ⟨b,0,Option.none⟩)=some (.slice a c.servers.length k):=zad (hblk hI1.kb) rfl
 refine go (an2 q0 Nat.add_zero) ?_
 obtain⟨R0,hR0⟩:∃R,(c.roots.map fun r=>RowL.root (zcQ c.servers r))=R:=⟨_,rfl⟩
 have hbe1:zbo c=([]++ [RowL.bound c.rw.toNat c.rf.toNat])++((c.servers.drop 0).flatMap zcr++R0):=by rw[←hR0];rfl
 clear p2 p3 p2x p3x p3y hU1 hk1 q0
 refine zaM (Q:=fun e' σ' ds' v=>(e'= .exit 0∧ds'=[]∧(σ' 0= .func (.yield lp) #[] #[]∧σ' 1= .pointer (some ⟨b,0,Option.none⟩))∧∃(pre:List RowL) (U:Nat→Prop),RwI w0 W0 W C J pre U v∧zbo c=pre++R0)∨(e'= .ret∧ds'=[]∧∃(pre:List RowL) (x:RowL) (suf:List RowL),zbo c=pre++x::suf∧Jx (pre++ [x]) v)) ?_ ?_
 ·refine zbq c.servers.length (fun i σ v=>(σ 0= .func (.yield lp) #[] #[]∧σ 1= .pointer (some ⟨b,0,Option.none⟩)∧σ 20= .slice a c.servers.length k∧σ 21=vi c.servers.length∧σ 22=vi i)∧∃(pre:List RowL) (U:Nat→Prop),RwI w0 W0 W C J pre U v∧zbo c=pre++((c.servers.drop i).flatMap zcr++R0)) ?_ ?_ ?_
  ·exact⟨⟨vr0,vr0,vr0,vr0,vr0⟩,_,U1,hI1,hbe1⟩
  rotate_left
  ·rintro σ v r ⟨⟨s0,s1,s20,s21,s22⟩,pre,U,hI,hbe⟩
   refine go (an6 s0 s1 s20 s21 s22 r) ?_
   refine .inl ⟨rfl,rfl,⟨(vq1 s0),(vq1 s1)⟩,pre,U,hI,?_⟩
   rw[List.drop_length]at hbe
   exact hbe
  clear hI1 hbe1
  rintro i σ v hi r ⟨⟨s0,s1,s20,s21,s22⟩,pre,U,hI,hbe⟩
  obtain⟨cs0,g0,hcs⟩:=hg i hi
  have g:=zai hI.e g0
  rw[zfO hi,List.append_assoc]at hbe
  obtain⟨s,hse⟩:∃s,c.servers[i]=s:=⟨_,rfl⟩
  have hsm:s∈c.servers:=hse▸List.getElem_mem hi
  rw[hse]at hcs hbe
  obtain⟨fs1,fs2,fs3⟩:=hG.few.s s hsm
  obtain⟨xa,rfl⟩:=Option.isSome_iff_exists.1 (zaF g)
  obtain⟨xi,hxi⟩:∃xi,adr (some xa) (i*6)=some xi:=⟨_,rfl⟩
  rw[hxi]at g
  have hone:=(zdt w0).ones hcs
  obtain⟨nv,a1,a2,a3,a4,pv,rfl,hadr,hnv,hpl⟩:=hcs.ex
  obtain⟨pa,pc,rfl,hpc,hgp⟩:=hpl.open
  have hi0:(0:Int)≤(i:Int):=by omega
  have hi1:(i:Int)<(c.servers.length:Int):=by omega
  have hi2:(i:Int)+1=((i+1:Nat):Int):=by push_cast;rfl
  refine go (an6 s0 s1 s20 s21 s22 r) ?_
  refine rq ?_;intro gd K hgd hK
  try simp (disch:=first|omega|assumption|rfl) only[go_sem,s20,s22,hi0,hi1,hxi,g]
  refine zbg (P:=Tryz.prog) (l:=[nv,zab a1,zab a2,zab a3,zab a4,.slice pa s.places.length pc]) rfl hone rfl rfl ?_
  intro v1 hE1 hs1 hB4
  try simp only[go_sem]
  refine hK _ _ ?_;clear hK hgd;clear K;try clear gd
  have hI1:=up hI hE1
  have hvs:=hI.s
  obtain⟨b4,hb4⟩:∃b,v.heap.size=b:=⟨_,rfl⟩
  rw[hb4]at hB4 hs1 ⊢
  have q0:zag v1 (some ⟨b4,0,Option.none⟩)=some nv:=zad hB4 rfl
  have q1:zao v1 (some ⟨b4,1,Option.none⟩) 4=some [zab a1,zab a2,zab a3,zab a4]:=zcE (zam (n:=6) (l:=[nv,zab a1,zab a2,zab a3,zab a4,.slice pa s.places.length pc]) hB4 rfl)
  have hbe1:zbo c=pre++ .server s.host s.addr::((s.places.map fun p=> .zone p.o p.path)++((c.servers.drop (i+1)).flatMap zcr++R0)):=hbe
  refine go (an2 s0 s1) ?_
  refine zaU (fun i=>i==9) [(0,true),(1,true),(2,true),(4,true),(5,true),(3,false),(6,false),(7,false),(8,false),(9,false),(10,true)] NoS mixed (by kernel_rfl) ?_;intro gd K x hgd hx hxe hK;have hx0:=za0 hxe;clear hxe
  have q0x:=zaa hx0 q0
  have q1x:=zai hx0 q1
  simp (disch:=first|omega|assumption|rfl) only[go_sem,s0,q0x,q1x,Nat.zero_add,Nat.add_zero]
  refine Fn.mono (zeE x s.host nv ((hnv.ext hI1.e).ext hx0) fs1.t) ?_
  rintro _ y1 ⟨rfl,hy1⟩
  refine⟨.inr hy1.keep,?_⟩
  have q1y:=zai hy1 q1x
  simp (disch:=first|omega|assumption|rfl) only[go_sem,q1y,Nat.zero_add]
  refine Fn.mono (zho y1 a1 a2 a3 a4) ?_
  rintro _ y2 ⟨hy2,csd,rfl,hda⟩
  refine⟨.inr hy2.keep,?_⟩
  simp (disch:=first|omega|assumption|rfl) only[go_sem]
  refine Fn.mono (zf4 (((hY.ext hI1.e).ext hx0).ext (hy1.trans hy2)) hda (addr_T (by simp))) ?_
  rintro _ y3 ⟨rfl,hy3⟩
  refine⟨.inr hy3.keep,?_⟩
  simp (disch:=first|omega|assumption|rfl) only[go_sem]
  refine zdO (z:=vs []) (l:=[vs [115,101,114,118,101,114],vs (zaW s.host),vs (zeN hexU (rawD 1 [a1,a2,a3,a4]))]) rfl rfl rfl rfl rfl rfl (fun v hv=>by simp at hv;rcases hv with rfl|rfl|rfl<;>rfl) (by simp) ?_
  intro y4 hy4 hys4 ho4
  refine⟨.inr hy4.keep,?_⟩
  simp (disch:=first|omega|assumption|rfl) only[go_sem,s0]
  have hEy:=(((hx0.trans hy1).trans hy2).trans hy3).trans hy4
  refine Yld.mono (yl (x:= .server s.host s.addr) (up hI1 hEy) hbe1 (by have:=hI1.s;have:=hx0.size;have:=hy1.size;have:=hy2.size;have:=hy3.size;omega) (by have:=own3 ho4;rw[hadr];exact this)) ?_
  rintro r' B1 (⟨rfl,U1,hI2,hU1,hk1⟩| ⟨rfl,hjx⟩)
  rotate_left
  ·refine⟨.inl rfl,?_⟩
   simp (disch:=first|omega|assumption|rfl) only[go_sem]
   refine hK _ _ ?_;clear hK hgd;clear K;try clear gd
   refine go trivial ?_
   exact .inr ⟨rfl,rfl,_,_,_,hbe1,hjx⟩
  refine⟨.inl rfl,?_⟩
  simp (disch:=first|omega|assumption|rfl) only[go_sem]
  refine hK _ _ ?_;clear hK hgd;clear K;try clear gd
  have hB42:=own hk1 (Ext.at hEy hB4) (by omega) (fun hu=>by have:=hI.u _ hu;omega)
  have q5:zag B1 (some ⟨b4,5,Option.none⟩)=some (.slice pa s.places.length pc):=zad hB42 rfl
  obtain⟨R1,hR1⟩:∃R,(c.servers.drop (i+1)).flatMap zcr++R0=R:=⟨_,rfl⟩
  have hbe2:zbo c=(pre++ [RowL.server s.host s.addr])++(((s.places.drop 0).map fun p=> .zone p.o p.path)++R1):=by rw[hbe1,hR1];simp
  clear hbe hbe1 hI hI1 q0 q1 q0x q1x q1y g g0
  refine go (an7 s0 s1 s20 s21 s22 q5 Nat.zero_add) ?_
  refine zbq s.places.length (fun j σ v=>(σ 0= .func (.yield lp) #[] #[]∧σ 1= .pointer (some ⟨b,0,Option.none⟩)∧σ 20= .slice (some xa) c.servers.length k∧σ 21=vi c.servers.length∧σ 22=vi i∧σ 38= .slice pa s.places.length pc∧σ 39=vi s.places.length∧σ 40=vi j)∧∃(pre:List RowL) (U:Nat→Prop),RwI w0 W0 W C J pre U v∧zbo c=pre++(((s.places.drop j).map fun p=> .zone p.o p.path)++R1)) ?_ ?_ ?_
  ·exact⟨⟨(vq1 s0),(vq1 s1),(vq1 s20),(vq1 s21),(vq1 s22),vr0,vr0,vr0⟩,_,U1,hI2,hbe2⟩
  rotate_left
  ·rintro σ v r ⟨⟨s0,s1,s20,s21,s22,s38,s39,s40⟩,pre,U,hI,hbe⟩
   refine go (an9 s0 s1 s20 s21 s22 s38 s39 s40 (an2 r hi2)) ?_
   rw[List.drop_length,←hR1]at hbe
   exact⟨rfl,⟨(vq1 s0),(vq1 s1),(vq1 s20),(vq1 s21),(vq1 hi2)⟩,pre,U,hI,hbe⟩
  clear hbe2 hI2 s0 s1 s20 s21 s22 q5
  rintro j σ v hj r2 ⟨⟨s0,s1,s20,s21,s22,s38,s39,s40⟩,pre,U,hI,hbe⟩
  obtain⟨csp,gp,hcp⟩:=hgp j hj
  have gpv:=zai hI.e gp
  rw[zd6 hj,List.cons_append]at hbe
  obtain⟨p,hpe⟩:∃p,s.places[j]=p:=⟨_,rfl⟩
  rw[hpe]at hcp hbe
  have hpm:p∈s.places:=hpe▸List.getElem_mem hj
  have hpo:=(fs3 p hpm).1.t
  obtain⟨xp,rfl⟩:=Option.isSome_iff_exists.1 (zaF gpv)
  obtain⟨xj,hxj⟩:∃xi,adr (some xp) (j*2)=some xi:=⟨_,rfl⟩
  rw[hxj]at gpv
  have honep:=(zbH w0).ones hcp
  obtain⟨ov,rfl,hov⟩:=hcp.ex
  have hj0:(0:Int)≤(j:Int):=by omega
  have hj1:(j:Int)<(s.places.length:Int):=by omega
  have hj2:(j:Int)+1=((j+1:Nat):Int):=by push_cast;rfl
  refine go (an9 s0 s1 s20 s21 s22 s38 s39 s40 r2) ?_
  refine rq ?_;intro gd K hgd hK
  try simp (disch:=first|omega|assumption|rfl) only[go_sem,s38,s40,hj0,hj1,hxj,gpv]
  refine zbg (P:=Tryz.prog) (l:=[ov,vs p.path]) rfl honep rfl rfl ?_
  intro v1 hE1 hs1 hB6
  try simp only[go_sem]
  refine hK _ _ ?_;clear hK hgd;clear K;try clear gd
  have hI1:=up hI hE1
  obtain⟨b6,hb6⟩:∃b,v.heap.size=b:=⟨_,rfl⟩
  rw[hb6]at hB6 hs1 ⊢
  have q0:zag v1 (some ⟨b6,0,Option.none⟩)=some ov:=zad hB6 rfl
  have q1:zag v1 (some ⟨b6,1,Option.none⟩)=some (vs p.path):=zad hB6 rfl
  refine go (an2 s0 s1) ?_
  refine zaU (fun i=>i==7) [(0,true),(1,true),(2,true),(4,true),(5,true),(3,false),(6,false),(7,false),(8,true)] NoS mixed (by kernel_rfl) ?_;intro gd K x hgd hx hxe hK;have hx0:=za0 hxe;clear hxe
  have q0x:=zaa hx0 q0
  have q1x:=zaa hx0 q1
  simp (disch:=first|omega|assumption|rfl) only[go_sem,s0,q0x,q1x,Nat.zero_add,Nat.add_zero]
  refine Fn.mono (zeE x p.o ov ((hov.ext hI1.e).ext hx0) hpo) ?_
  rintro _ y1 ⟨rfl,hy1⟩
  refine⟨.inr hy1.keep,?_⟩
  have q1y:=zaa hy1 q1x
  simp (disch:=first|omega|assumption|rfl) only[go_sem,q1y,Nat.zero_add]
  refine zdO (z:=vs []) (l:=[vs [122,111,110,101],vs (zaW p.o),vs p.path]) rfl rfl rfl rfl rfl rfl (fun v hv=>by simp at hv;rcases hv with rfl|rfl|rfl<;>rfl) (by simp) ?_
  intro y4 hy4 hys4 ho4
  refine⟨.inr hy4.keep,?_⟩
  simp (disch:=first|omega|assumption|rfl) only[go_sem,s0]
  have hEy:=(hx0.trans hy1).trans hy4
  refine Yld.mono (yl (x:= .zone p.o p.path) (up hI1 hEy) hbe (by have:=hI1.s;have:=hx0.size;have:=hy1.size;omega) (own3 ho4)) ?_
  rintro r' B2 (⟨rfl,U2,hI3,hU2,hk2⟩| ⟨rfl,hjx⟩)
  rotate_left
  ·refine⟨.inl rfl,?_⟩
   simp (disch:=first|omega|assumption|rfl) only[go_sem]
   refine hK _ _ ?_;clear hK hgd;clear K;try clear gd
   refine go trivial ?_
   exact .inr ⟨rfl,rfl,_,_,_,hbe,hjx⟩
  refine⟨.inl rfl,?_⟩
  simp (disch:=first|omega|assumption|rfl) only[go_sem]
  refine hK _ _ ?_;clear hK hgd;clear K;try clear gd
  refine go (an9 s0 s1 s20 s21 s22 s38 s39 s40 hj2) ?_
  exact⟨rfl,⟨(vq1 s0),(vq1 s1),(vq1 s20),(vq1 s21),(vq1 s22),(vq1 s38),(vq1 s39),(vq1 hj2)⟩,_,U2,hI3,by rw[hbe];simp⟩
 rintro e' σ1 ds' v (⟨rfl,rfl,⟨s0,s1⟩,pre,U,hI,hbe⟩| ⟨rfl,rfl,pre,x,suf,he,hjx⟩)
 rotate_left
 ·repeat refine c_r ?_
  exact zar (.inr rfl) rfl (.inr ⟨pre,x,⟨suf,he⟩,hjx⟩)
 have p1:zag v (some ⟨b,1,Option.none⟩)=some (.slice ar c.roots.length kr):=zad (hblk hI.kb) rfl
 have hbe2:zbo c=pre++((c.roots.drop 0).map fun r=>RowL.root (zcQ c.servers r)):=by rw[hbe,←hR0];rfl
 refine go (an4 s0 s1 p1 Nat.zero_add) ?_
 refine zbq c.roots.length (fun i σ v=>(σ 0= .func (.yield lp) #[] #[]∧σ 1= .pointer (some ⟨b,0,Option.none⟩)∧σ 56= .slice ar c.roots.length kr∧σ 57=vi c.roots.length∧σ 58=vi i)∧∃(pre:List RowL) (U:Nat→Prop),RwI w0 W0 W C J pre U v∧zbo c=pre++((c.roots.drop i).map fun r=>RowL.root (zcQ c.servers r))) ?_ ?_ ?_
 ·exact⟨⟨(vq1 s0),(vq1 s1),vr0,vr0,vr0⟩,pre,U,hI,hbe2⟩
 rotate_left
 ·rintro σ v r ⟨⟨s0,s1,s56,s57,s58⟩,pre,U,hI,hbe⟩
  refine go (an6 s0 s1 s56 s57 s58 r) ?_
  rw[List.drop_length,List.map_nil,List.append_nil]at hbe
  exact zar (by simp) rfl (.inl ⟨pre,U,hbe.symm,hI.j⟩)
 clear hbe hbe2 hI s0 s1 p1
 rintro i σ v hi r ⟨⟨s0,s1,s56,s57,s58⟩,pre,U,hI,hbe⟩
 obtain⟨xr,rfl,g0⟩:=hgr i hi
 have g:=zaa hI.e g0
 rw[zd6 hi]at hbe
 obtain⟨h0r,h1r⟩:=hG.inn c.roots[i] (List.getElem_mem hi)
 obtain⟨m,hm⟩:∃m:Nat,c.roots[i]=(m:Int):=⟨c.roots[i].toNat,by omega⟩
 rw[hm]at g hbe h1r
 have hmn:m<c.servers.length:=by omega
 obtain⟨csm,gm,hcm⟩:=hg m hmn
 have gmv:=zai hI.e gm
 obtain⟨s,hse⟩:∃s,c.servers[m]=s:=⟨_,rfl⟩
 rw[hse]at hcm
 have hsm:s∈c.servers:=hse▸List.getElem_mem hmn
 obtain⟨fs1,_,_⟩:=hG.few.s s hsm
 have hho:zcQ c.servers (m:Int)=s.host:=by
  unfold zcQ
  rw[Int.toNat_natCast,List.getElem?_eq_getElem hmn,hse]
 rw[hho]at hbe
 obtain⟨xa,rfl⟩:=Option.isSome_iff_exists.1 (zaF gmv)
 obtain⟨xi,hxi⟩:∃xi,adr (some xa) (m*6)=some xi:=⟨_,rfl⟩
 rw[hxi]at gmv
 obtain⟨nv,a1,a2,a3,a4,pv,rfl,hadr,hnv,hpl⟩:=hcm.ex
 have gn:zag v (some xi)=some nv:=by
  have h1:zag v (adr (some xi) 0)=some nv:=zbf gmv (j:=0) (by simp)
  rwa [zal]at h1
 have p0:zag v (some ⟨b,0,Option.none⟩)=some (.slice (some xa) c.servers.length k):=zad (hblk hI.kb) rfl
 have hi0:(0:Int)≤(i:Int):=by omega
 have hi1:(i:Int)<(c.roots.length:Int):=by omega
 have hi2:(i:Int)+1=((i+1:Nat):Int):=by push_cast;rfl
 have hm0:(0:Int)≤(m:Int):=by omega
 refine go (an9 s0 s1 s56 s57 s58 r g hi0 (an2 hi1 (Nat.mul_one i))) ?_
 refine rq ?_;intro gd K hgd hK
 try simp (disch:=first|omega|assumption|rfl) only[go_sem,s0,s1,p0,hm0,h1r,hxi,zal,gn,Nat.add_zero]
 refine Fn.mono (zeE v s.host nv (hnv.ext hI.e) fs1.t) ?_
 rintro _ y1 ⟨rfl,hy1⟩
 try simp only[go_sem]
 refine zdO (z:=vs []) (l:=[vs [114,111,111,116],vs (zaW s.host)]) rfl rfl rfl rfl rfl rfl (fun v hv=>by simp at hv;rcases hv with rfl|rfl<;>rfl) (by simp) ?_
 intro y4 hy4 hys4 ho4
 try simp (disch:=first|omega|assumption|rfl) only[go_sem,s0]
 refine Yld.mono (yl (x:= .root s.host) (up hI (hy1.trans hy4)) hbe (by have:=hI.s;have:=hy1.size;omega) ho4.row) ?_
 rintro r' B2 (⟨rfl,U2,hI3,hU2,hk2⟩| ⟨rfl,hjx⟩)
 ·try simp only[go_sem]
  refine hK _ _ ?_;clear hK hgd;clear K;try clear gd
  refine go (an8 s0 s1 s56 s57 s58 hi2 trivial trivial) ?_
  exact⟨rfl,⟨(vq1 s0),(vq1 s1),(vq1 s56),(vq1 s57),(vq1 hi2)⟩,_,U2,hI3,by rw[hbe];simp⟩
 ·try simp only[go_sem]
  refine hK _ _ ?_;clear hK hgd;clear K;try clear gd
  refine go trivial ?_
  exact zar (by simp) rfl (.inr ⟨_,_,⟨_,hbe⟩,hjx⟩)
theorem zdW{w:World}(hX:WX w)(hY:WY w){cs:List Value}{c:za4}(hc:ConfAt w cs c)(hG:zhm c):Fn Tryz.prog 45 #[.agg cs.toArray] w (fun v w'=>v=vs (zaO (zbo c))∧Ext w w'):=by
 have hl4:=(zcB hc).1
 have hok:=zgb hG
 have hlen:=zeS hG.few
 refine enter Tryz.func45 Tryz.ntmps45 rfl rfl ?_
 refine go trivial ?_
 refine zcH ?_
 intro w2 hE2 hs2 hA hB
 simp only[World.size_alloc]at hB ⊢
 obtain⟨b,hb⟩:∃b,w.heap.size+1=b:=⟨_,rfl⟩
 rw[hb]at hB ⊢
 have q4:=zam (n:=4) hA hl4.symm
 refine go trivial ?_
 refine rc q4 (ziI w2 hl4) ?_
 rintro _ w3 ⟨rfl,hE3,hs3,hC3⟩
 have hE13:=hE2.trans hE3
 have hB3:=Ext.at hE3 hB
 refine rgo trivial ?_
 refine W_rangeU (own:=0) (n0:=w3.heap.size) (C:=fun i=>i=b) (W0:=w3) (vq0) (by rfl) (rowsIt (w0:=w) hX hY hE13 hC3 (by omega) (fun i hi=>by omega) hc hG) (Keep.refl _ _) (Nat.le_refl _) (fun i hi=>by omega)
  (fun x U A args h=>by obtain⟨X,k,rfl,_⟩:=h;rfl)
  (fun pre U A=>Keep (fun i=>i=b∨w3.heap.size≤i) w3 A∧BldU U A b (zaO pre))
  (fun _ _ _=>False) ?_ (fun _ _ _ _ h _=>h.elim) ?_ ?_ ?_ (fun _ _ _ _ _ _ h _=>h.elim)
 ·rintro pre U A B ⟨h1,h2⟩ hU hk
  refine⟨h1.trans (hk.mono fun i _ h=>by unfold span at h;omega),h2.keep hk (by unfold span;omega) fun i hi _ h=>?_⟩
  have:=hU i hi
  unfold span at h
  omega
 ·exact⟨Keep.refl _ _,⟨_,_,.inl rfl,hB3,Own.nil _ _ _,fun i hi=>by cases hi⟩⟩
 ·rintro lp pre U x A args ⟨suf,hsf⟩ hszA ⟨hkA,hBA⟩ hU ⟨X,k,rfl,hXn,hrow⟩
  have hmem:∀y∈pre++ [x],y∈zbo c:=fun y hy=>by
   rw[hsf]
   rcases List.mem_append.1 hy with h|h
   ·exact List.mem_append_left _ h
   ·rw[List.mem_singleton.1 h];simp
  have hxo:=hok x (hmem x (by simp))
  have hpl:(zaO pre).length≤6000001*pre.length:=zcq fun y hy=>hok y (hmem y (List.mem_append_left _ hy))
  have hpn:pre.length≤500:=by
   have:=congrArg List.length hsf
   rw[List.length_append]at this
   omega
  obtain⟨hll,hlw⟩:=zdh hxo
  have hwl:(zaI x).length≤3:=by cases x<;>simp[zaI]
  have hlt:zas (zaI x)≤20000000:=by
   have:=zbc (m:=5000000) (l:=zaI x) hlw
   have h2:5000000*(zaI x).length≤5000000*3:=Nat.mul_le_mul_left _ hwl
   omega
  refine go trivial ?_
  refine⟨rfl,Keep.refl _ _,fun A2 hA2=>?_⟩
  have hs2:=hA2.size
  have hr2:Row A2 (.slice (some ⟨X,0,Option.none⟩) k k) ((zaI x).map vs):=hrow.blocks fun a n c' hv=>by
   cases hv
   have hXl:X<A.heap.size:=by
    obtain⟨p,l,e⟩:=zf5 x
    obtain⟨a',c',e1,_,hg⟩:=id hrow
    cases e1
    have g:=hg 0 (by rw[e];simp)
    rw[zal]at g
    exact zcl (a:=⟨X,0,Option.none⟩) g
   exact hA2.block X hXl (by unfold two;omega)
  have hB2:BldU U A2 b (zaO pre):=hBA.keep hA2 (by unfold two;omega) fun i hi _ h=>by
   have:=hU i hi
   unfold two at h
   omega
  have hB2':BldU (fun i=>U i∨A2.heap.size≤i) A2 b (zaO pre):=by
   obtain⟨p,v,h1,h2,h3,h4⟩:=hB2
   exact⟨p,v,h1,h2,h3,fun i hi=> .inl (h4 i hi)⟩
  refine go trivial ?_
  refine rc trivial (zf2 (sep:=[32]) hr2 (by omega) (by decide) (by decide) (by omega)) ?_
  rintro _ A3 ⟨rfl,hE⟩
  have hs3':=hE.size
  have l1:(za6 [32] (zaI x)).length+([10]:Lab).length≤9223372036854775807:=by have:(za6 [32] (zaI x)).length≤6000000:=hll;simp;omega
  refine rd l1 (zfo (s:=za6 [32] (zaI x)++ [10]) (hB2'.ext hE) (fun i hi=> .inr (by omega)) (by have:(za6 [32] (zaI x)).length≤6000000:=hll;rw[List.length_append,show([10]:Lab).length=1 from rfl];omega)) ?_
  rintro _ A4 ⟨hB4,hk4⟩
  have hs4:=hk4.size
  have hk24:Keep (fun i=>i=b∨U i∨A2.heap.size≤i) A2 A4:=(hE.mono fun _ _ h=>h.elim).trans hk4
  refine rgo trivial ?_
  refine⟨fun i=>U i∨(A2.heap.size≤i∧i<A4.heap.size),⟨(hkA.trans (hA2.mono fun i _ h=>by unfold two at h;omega)).trans (hk24.mono fun i _ h=>?_),?_⟩,fun i hi=>hi,hk24.mono fun i hi h=>?_⟩
  ·rcases h with h|h|h
   ·exact .inl h
   ·have:=hU i h;omega
   ·omega
  ·obtain⟨p,v,h1,h2,h3,h4⟩:=hB4
   refine⟨p,v,h1,h2,?_,fun i hi=>?_⟩
   ·rw[zhx,show zaO [x]=zbv x++ [10] by simp[zaO]]
    exact h3
   ·rcases h4 i hi with h|h
    ·exact .inl h
    ·exact .inr ⟨h,(h3.ge hi).2⟩
  ·rcases h with h|h|h
   ·exact .inl h
   ·exact .inr h
   ·omega
 ·rintro xs U w6 rfl hsz6 hU ⟨hk6,hB6⟩ hD
  have hfl:=zcq hok
  refine go trivial ?_
  refine rc trivial (String_U hB6 (by omega)) ?_
  rintro _ z2 ⟨rfl,hkz⟩
  refine rgo trivial ?_
  refine zda (v:=vs (zaO (zbo c))) (.inr rfl) (by rfl) Tryz.ntmps45 (vr0) ((hkz.block _ (by omega) (fun h=>by have:=hU _ h;omega)).trans hD) ?_
  intro Z hkZ hsZ
  exact⟨rfl,Keep.to_ext (Keep.to_ext (Keep.to_ext hE13 rfl (fun i hi=>by omega) hk6) rfl (fun i hi=>by have:=hU i hi;have:=hE13.size;omega) hkz) rfl (fun i hi=>by have:=hE13.size;omega) hkZ⟩
set_option maxRecDepth 100000
def kR1:List RowL:=[.bound 2 3,.server [[97]] [10,0,0,1],.zone [] [114,111,111,116],.server [[98],[120]] [10,0,0,2],.zone [[120]] [120],.root [[97]]]
def kR2:List RowL:=[.bound 2 3,.server [[97]] [10,0,0,1],.root [[98]]]
def kT1:Lab:=[98,111,117,110,100,32,50,32,51,10,115,101,114,118,101,114,32,97,46,32,49,48,46,48,46,48,46,49,10,122,111,110,101,32,46,32,114,111,111,116,10,115,101,114,118,101,114,32,98,46,120,46,32,49,48,46,48,46,48,46,50,10,122,111,110,101,32,120,46,32,120,10,114,111,111,116,32,97,46,10]
def kT2:Lab:=[98,111,117,110,100,32,50,32,51,10,115,101,114,118,101,114,32,97,46,32,49,48,46,48,46,48,46,49,10,114,111,111,116,32,98,46,10]
def kC:za4:=⟨[⟨[[97]],[10,0,0,1],[⟨[],[114,111,111,116]⟩]⟩,⟨[[98],[120]],[10,0,0,2],[⟨[[120]],[120]⟩]⟩],[0],2,3⟩
theorem kT1_eq:zaO kR1++ []=kT1:=by decide+kernel
theorem kT2_eq:zaO kR2++ []=kT2:=by decide+kernel
theorem kC_rows:zbo kC=kR1:=by kernel_rfl
theorem zfI:za2 init0 kR1=⟨kC,3⟩:=by kernel_rfl
theorem kR1_ok:∀r∈kR1,zcJ r:=fun r hr=>by
 simp only[kR1,List.mem_cons,List.not_mem_nil,or_false]at hr
 rcases hr with rfl|rfl|rfl|rfl|rfl|rfl
 ·exact⟨by decide,by decide⟩
 ·exact⟨⟨by decide+kernel,⟨by decide,by decide⟩⟩,rfl⟩
 ·exact⟨⟨by decide+kernel,⟨by decide,by decide⟩⟩,⟨by decide,by decide⟩,by decide⟩
 ·exact⟨⟨by decide+kernel,⟨by decide,by decide⟩⟩,rfl⟩
 ·exact⟨⟨by decide+kernel,⟨by decide,by decide⟩⟩,⟨by decide,by decide⟩,by decide⟩
 ·exact⟨by decide+kernel,⟨by decide,by decide⟩⟩
theorem kR2_ok:∀r∈kR2,zcJ r:=fun r hr=>by
 simp only[kR2,List.mem_cons,List.not_mem_nil,or_false]at hr
 rcases hr with rfl|rfl|rfl
 ·exact⟨by decide,by decide⟩
 ·exact⟨⟨by decide+kernel,⟨by decide,by decide⟩⟩,rfl⟩
 ·exact⟨by decide+kernel,⟨by decide,by decide⟩⟩
theorem kR1_fits:∀j (h:j<kR1.length),zfd (stAt kR1 j) kR1[j]:=fun j h=>by
 rcases j with _|_|_|_|_|_|j
 ·exact(by decide:(0:Int)=0)
 ·exact .inl (by decide:(1:Int)=1)
 ·exact⟨(by decide:(2:Int)=2),(by intro h;cases h)⟩
 ·exact .inr (by decide:(2:Int)=2)
 ·exact⟨(by decide:(2:Int)=2),(by intro h;cases h)⟩
 ·exact .inl (by decide:(2:Int)=2)
 ·exact absurd h (by simp[kR1])
theorem kR2_fits:∀j (h:j<kR2.length),zfd (stAt kR2 j) kR2[j]:=fun j h=>by
 rcases j with _|_|_|j
 ·exact(by decide:(0:Int)=0)
 ·exact .inl (by decide:(1:Int)=1)
 ·exact .inl (by decide:(2:Int)=2)
 ·exact absurd h (by simp[kR2])
theorem kR1_err:∀j,j<kR1.length→zbP kR1 j=0:=fun j h=>by
 rcases j with _|_|_|_|_|_|j
 ·rfl
 ·rfl
 ·rfl
 ·rfl
 ·rfl
 ·exact(by decide+kernel:zbP kR1 5=0)
 ·exact absurd h (by simp[kR1])
theorem zgj:zbP kR2 2=4:=by decide+kernel
theorem kR2_err:∀j,j<kR2.length→¬zbP kR2 j=0→j=2:=fun j h hn=>by
 rcases j with _|_|_|j
 ·exact absurd rfl hn
 ·exact absurd rfl hn
 ·rfl
 ·exact absurd h (by simp[kR2])
theorem kC_szn:SzC kC:=by
 have:=zc8 kR1 init0 0 zeg kR1_ok
 rw[zfI]at this
 exact this.z (by decide)
theorem zia:zf3 kC:=by
 refine⟨(by intro h;cases h),(by intro h;cases h),by decide,by decide,by decide,by decide,fun i h=>?_,fun i h=>?_⟩
 ·rcases i with _|i
  ·simp
  ·exact absurd h (by simp[kC])
 ·have a:zay [[97]]=0:=by decide+kernel
  have b:zay [[98],[120]]=0:=by decide+kernel
  have c:zay []=0:=by decide+kernel
  have d:zay [[120]]=0:=by decide+kernel
  have p1:zbF [114,111,111,116]:=⟨by decide,by decide⟩
  have p2:zbF [120]:=⟨by decide,by decide⟩
  have e:¬zaA [[97]]=zaA [[98],[120]]:=by decide+kernel
  have f:¬([10,0,0,1]:List UInt8)=[10,0,0,2]:=by decide
  have one:∀(o:Nm) (p:Lab),zay o=0→zbF p→FineZ [⟨o,p⟩]:=fun o p h1 h2=>⟨by simp,fun j hj=>by
   rcases j with _|j
   ·exact⟨h1,h2,fun j hj=>absurd hj (by omega)⟩
   ·exact absurd hj (by simp)⟩
  rcases i with _|_|i
  ·exact⟨a,one _ _ c p1,fun j hj=>absurd hj (by omega)⟩
  ·refine⟨b,one _ _ d p2,fun j hj=>?_⟩
   obtain rfl:j=0:=by omega
   exact⟨e,f⟩
  ·exact absurd h (by simp[kC])
theorem kC_good:zhm kC:=by
 refine⟨⟨(by intro h;cases h),by decide,by decide,by decide,fun s hs=>?_⟩,⟨by decide,by decide,fun s hs=>?_⟩,fun s hs=>?_⟩
 ·simp only[kC,List.mem_cons,List.not_mem_nil,or_false]at hs
  rcases hs with rfl|rfl
  ·refine⟨by decide+kernel,fun p hp=>?_⟩
   simp only[List.mem_cons,List.not_mem_nil,or_false]at hp
   subst hp
   exact⟨by decide+kernel,⟨by decide,by decide⟩⟩
  ·refine⟨by decide+kernel,fun p hp=>?_⟩
   simp only[List.mem_cons,List.not_mem_nil,or_false]at hp
   subst hp
   exact⟨by decide+kernel,⟨by decide,by decide⟩⟩
 ·simp only[kC,List.mem_cons,List.not_mem_nil,or_false]at hs
  rcases hs with rfl|rfl
  ·refine⟨⟨by decide,by decide⟩,by decide,fun p hp=>?_⟩
   simp only[List.mem_cons,List.not_mem_nil,or_false]at hp
   subst hp
   exact⟨⟨by decide,by decide⟩,by decide⟩
  ·refine⟨⟨by decide,by decide⟩,by decide,fun p hp=>?_⟩
   simp only[List.mem_cons,List.not_mem_nil,or_false]at hp
   subst hp
   exact⟨⟨by decide,by decide⟩,by decide⟩
 ·simp only[kC,List.mem_cons,List.not_mem_nil,or_false]at hs
  rcases hs with rfl|rfl<;>rfl
theorem kParse1{w:World}(hX:WX w):Fn Tryz.prog 46 #[vs kT1] w (fun v w'=>Ext w w'∧∃cs:List Value,∃i:Int,v= .tuple #[.agg cs.toArray,vi i,vi 0]∧ConfAt w' cs kC):=by
 have h:=zbX hX (t:=[]) kR1_ok kR1_fits (by simp) (by decide) (by decide)
 rw[kT1_eq]at h
 refine Fn.mono h ?_
 rintro v w' ⟨hE,cs,i,e,rfl,_,hp⟩
 refine⟨hE,cs,i,?_⟩
 rcases hp with ⟨j,hj,_,_,hn⟩| ⟨_,⟨h1,_,_⟩| ⟨_,_,h2⟩| ⟨_,_,rfl,h2⟩⟩
 ·exact absurd (kR1_err j hj) hn
 ·rcases h1 with h1|h1
  ·exact absurd rfl h1
  ·cases h1
 ·rw[zfI]at h2;exact absurd zia h2
 ·rw[zfI]at h2;exact⟨rfl,h2⟩
theorem kParse2{w:World}(hX:WX w):Fn Tryz.prog 46 #[vs kT2] w (fun v w'=>Ext w w'∧∃cs:List Value,v= .tuple #[.agg cs.toArray,vi 2,vi 4]∧cs.length=4∧∀q∈cs,one q=true):=by
 have h:=zbX hX (t:=[]) kR2_ok kR2_fits (by simp) (by decide) (by decide)
 rw[kT2_eq]at h
 refine Fn.mono h ?_
 rintro v w' ⟨hE,cs,i,e,rfl,ho,hp⟩
 rcases hp with ⟨j,hj,rfl,rfl,hn⟩| ⟨hno,_⟩
 ·obtain rfl:=kR2_err j hj hn
  exact⟨hE,cs,by rw[zgj];rfl,ho⟩
 ·exact absurd (hno 2 (by decide)) (by rw[zgj];decide)
theorem zhk{w:World}(hX:WX w)(hY:WY w):Fn Tryz.prog 41 #[] w (fun v w'=>v= .bool true∧Ext w w'):=by
 refine enter Tryz.func41 Tryz.ntmps41 rfl rfl ?_
 refine go trivial ?_
 refine rq ?_;intro gd K hgd hK
 try simp only[go_sem]
 refine Fn.mono (kParse1 hX) ?_
 rintro _ w1 ⟨hE1,cs1,i1,rfl,hc1⟩
 try simp only[go_sem]
 obtain⟨hl1,ho1⟩:=zcB hc1
 refine zbg (P:=Tryz.prog) (l:=cs1) (by rw[hl1];rfl) ho1 (by rw[hl1];rfl) rfl ?_
 intro w2 hE2 hs2 hB2
 try simp only[go_sem]
 refine hK _ _ ?_;clear hK hgd;clear K;try clear gd
 have hX2:=(hX.ext hE1).ext hE2
 obtain⟨p,hp⟩:∃p,w1.heap.size=p:=⟨_,rfl⟩
 rw[hp]at hB2 ⊢
 refine go trivial ?_
 refine rq ?_;intro gd K hgd hK
 try simp only[go_sem]
 refine Fn.mono (kParse2 hX2) ?_
 rintro _ w3 ⟨hE3,cs2,rfl,hl2,ho2⟩
 try simp only[go_sem]
 refine zbg (P:=Tryz.prog) (l:=cs2) (by rw[hl2];rfl) ho2 (by rw[hl2];rfl) rfl ?_
 intro w4 hE4 hs4 hB4
 try simp only[go_sem]
 refine hK _ _ ?_;clear hK hgd;clear K;try clear gd
 have q4:=zam (n:=4) (Ext.at (hE3.trans hE4) hB2) hl1.symm
 refine go trivial ?_
 refine rq ?_;intro gd K hgd hK
 try simp (disch:=first|omega|assumption|rfl) only[go_sem,q4]
 refine zbg (P:=Tryz.prog) (l:=cs1) (by rw[hl1];rfl) ho1 (by rw[hl1];rfl) rfl ?_
 intro w5 hE5 hs5 hB5
 try simp only[go_sem]
 refine hK _ _ ?_;clear hK hgd;clear K;try clear gd
 have hE25:=(hE3.trans hE4).trans hE5
 have hc5:=hc1.ext (hE2.trans hE25)
 obtain⟨sv,rv,rfl,hsv,hrv⟩:=hc1.ex
 obtain⟨d,hd⟩:∃d,w4.heap.size=d:=⟨_,rfl⟩
 rw[hd]at hB5 ⊢
 refine go trivial ?_
 refine rq ?_;intro gd K hgd hK
 try simp (disch:=first|omega|assumption|rfl) only[go_sem,Nat.zero_add]
 refine zdq (P:=Tryz.prog) (t:=3) (j:=2) (l:=[sv,rv,vi kC.rw,vi kC.rf]) hB5 (by simp) rfl rfl rfl ?_
 intro w6 hs6 hB6 hk6
 try simp only[go_sem]
 refine hK _ _ ?_;clear hK hgd;clear K;try clear gd
 have hpd:p<d:=by have:=(Array.getElem?_eq_some_iff.1 hB2).1;have:=(hE3.trans hE4).size;omega
 have hE6:Ext w4 w6:=Keep.to_ext hE5 rfl (fun i hi=>by omega) hk6
 have hE26:=(hE3.trans hE4).trans hE6
 have hd6:ConfAt w6 [sv,rv,vi 9,vi kC.rf] {kC with rw:=9}:=by
  obtain⟨sv',rv',e,h1,h2⟩:=(hc1.ext (hE2.trans hE26)).ex
  cases e
  exact⟨sv,rv,rfl,h1,h2⟩
 have r6:zao w6 (some ⟨d,0,Option.none⟩) 4=some [sv,rv,vi 9,vi kC.rf]:=zam (n:=4) (l:=[sv,rv,vi 9,vi kC.rf]) hB6 rfl
 have hz9:SzC {kC with rw:=9}:=⟨kC_szn.sl,kC_szn.rl,kC_szn.sv⟩
 refine go trivial ?_
 refine rc r6 (zcW hd6 hz9) ?_
 rintro _ w7 ⟨hE7,i7,e7,rfl,_,h9⟩
 obtain rfl:e7=1:=h9 (by intro h;cases h) (by intro h;cases h) (by decide) rfl
 have hE27:=hE26.trans hE7
 have q7:=zam (n:=4) (Ext.at hE27 hB2) rfl
 refine rgo trivial ?_
 refine rc q7 (zcW (hc1.ext (hE2.trans hE27)) kC_szn) ?_
 rintro _ w8 ⟨hE8,i8,e8,rfl,h8,_⟩
 obtain rfl:e8=0:=h8 zia
 have hE28:=hE27.trans hE8
 have hc8:=hc1.ext (hE2.trans hE28)
 have q8:=zam (n:=4) (Ext.at hE28 hB2) rfl
 refine rgo trivial ?_
 have d0:decide ((0:Int)+0=0)=true:=rfl
 have d00:decide ((0:Int)=0)=true:=rfl
 have ht:zaO (zbo kC)=kT1:=by rw[kC_rows,←kT1_eq,List.append_nil]
 have hT:Fn Tryz.prog 45 #[.agg ([sv,rv,vi kC.rw,vi kC.rf]:List Value).toArray] w8 (fun v w'=>v=vs kT1∧Ext w8 w'):=by
  have:=zdW ((hX2.ext hE28)) (((hY.ext hE1).ext hE2).ext hE28) hc8 kC_good
  rw[ht]at this
  exact this
 refine rq ?_;intro gd K hgd hK
 have hg4:∀n σ b,zaV gd n σ (some (4,b))=zaD (ev n σ (.tmp 40)) b:=(fun n σ b=>by rw[zak,show gd 4=some 40 from(by rw[hgd];rfl)];rfl);have hg10:∀n σ b,zaV gd n σ (some (10,b))=zaD (ev n σ (.tmp 46)) b:=(fun n σ b=>by rw[zak,show gd 10=some 46 from(by rw[hgd];rfl)];rfl);have hg16:∀n σ b,zaV gd n σ (some (16,b))=zaD (ev n σ (.tmp 52)) b:=(fun n σ b=>by rw[zak,show gd 16=some 52 from(by rw[hgd];rfl)];rfl);have hg25:∀n σ b,zaV gd n σ (some (25,b))=zaD (ev n σ (.tmp 61)) b:=(fun n σ b=>by rw[zak,show gd 25=some 61 from(by rw[hgd];rfl)];rfl);have hg34:∀n σ b,zaV gd n σ (some (34,b))=zaD (ev n σ (.tmp 70)) b:=(fun n σ b=>by rw[zak,show gd 34=some 70 from(by rw[hgd];rfl)];rfl);have hg46:∀n σ b,zaV gd n σ (some (46,b))=zaD (ev n σ (.tmp 82)) b:=(fun n σ b=>by rw[zak,show gd 46=some 82 from(by rw[hgd];rfl)];rfl);have hg52:∀n σ b,zaV gd n σ (some (52,b))=zaD (ev n σ (.tmp 88)) b:=(fun n σ b=>by rw[zak,show gd 52=some 88 from(by rw[hgd];rfl)];rfl);have hg56:∀n σ b,zaV gd n σ (some (56,b))=zaD (ev n σ (.tmp 92)) b:=(fun n σ b=>by rw[zak,show gd 56=some 92 from(by rw[hgd];rfl)];rfl);have hg60:∀n σ b,zaV gd n σ (some (60,b))=zaD (ev n σ (.tmp 96)) b:=(fun n σ b=>by rw[zak,show gd 60=some 96 from(by rw[hgd];rfl)];rfl)
 simp only[List.append_eq,List.cons_append,List.nil_append]
 try simp (disch:=first|omega|assumption|rfl) only[go_sem,q8,Int.add_zero,d00,Nat.zero_add,↓hg4,↓hg10,↓hg16,↓hg25,↓hg34,↓hg46,↓hg52,↓hg56,↓hg60]
 refine Fn.mono hT ?_
 rintro _ w9 ⟨rfl,hE9⟩
 have hE29:=hE28.trans hE9
 have hc9:=hc1.ext (hE2.trans hE29)
 have q9:=zai hE9 q8
 have c0:zag w9 (some ⟨p,0,Option.none⟩)=some sv:=zaK (j:=0) (l:=[sv,rv,vi kC.rw,vi kC.rf]) (Ext.at hE29 hB2) rfl
 have c1:zag w9 (some ⟨p,1,Option.none⟩)=some rv:=zaK (j:=1) (l:=[sv,rv,vi kC.rw,vi kC.rf]) (Ext.at hE29 hB2) rfl
 obtain⟨ra,rc',rfl,_⟩:=id hrv
 obtain⟨a,k,hsve,_,hg⟩:=hc9.servers
 rw[hsve]at c0
 obtain⟨cs0,g0,hs0⟩:=hg 0 (by decide)
 obtain⟨n0v,x1,x2,x3,x4,p0v,rfl,_,_,hpl0⟩:=hs0.ex
 obtain⟨cs1,g1,hs1⟩:=hg 1 (by decide)
 obtain⟨n1v,y1,y2,y3,y4,p1v,rfl,hadr,_,_⟩:=hs1.ex
 obtain⟨pa,pc,rfl,_,hgp⟩:=hpl0.open
 obtain⟨csp,gp,hcp⟩:=hgp 0 (by decide)
 obtain⟨ov,rfl,hov⟩:=hcp.ex
 obtain⟨oa,oc,rfl,_⟩:=id hov
 obtain⟨xa,rfl⟩:=Option.isSome_iff_exists.1 (zaF g0)
 obtain⟨ya,rfl⟩:=Option.isSome_iff_exists.1 (zaF gp)
 rw[Nat.zero_mul,zal]at g0 gp
 rw[Nat.one_mul]at g1
 obtain⟨x6,hx6⟩:∃y,adr (some xa) 6=some y:=⟨_,rfl⟩
 obtain⟨x61,hx61⟩:∃y,adr (some x6) 1=some y:=⟨_,rfl⟩
 obtain⟨x613,hx613⟩:∃y,adr (some x61) 3=some y:=⟨_,rfl⟩
 obtain⟨x05,hx05⟩:∃y,adr (some xa) 5=some y:=⟨_,rfl⟩
 rw[hx6]at g1
 have hy4:zab y4= .int .u8 2:=by
  have e:([10,0,0,2]:List UInt8)=[y1,y2,y3,y4]:=hadr
  cases e
  rfl
 have gy:zag w9 (some x613)=some (.int .u8 2):=by
  have h:=zcE g1
  rw[hx61]at h
  have h2:=zbf h (j:=3) (by simp)
  rw[hx613]at h2
  rw[h2]
  exact congrArg some hy4
 have g5:zag w9 (some x05)=some (.slice (some ya) 1 pc):=by
  have h:=zbf g0 (j:=5) (by simp)
  rwa [hx05]at h
 have go0:zag w9 (some ya)=some (.slice oa 0 oc):=by
  have h:zag w9 (adr (some ya) 0)=some (.slice oa 0 oc):=zbf gp (j:=0) (by simp)
  rwa [zal]at h
 have l2:decide (((kC.servers.length:Nat):Int)=2)=true:=rfl
 have l1:decide (((1:Nat):Int)=1)=true:=rfl
 have l0:decide (((0:Nat):Int)=0)=true:=rfl
 have lr:decide ((((List.map vi kC.roots).length:Nat):Int)=1)=true:=rfl
 have i0:(0:Int)≤0:=by decide
 have i01:(0:Int)<((1:Nat):Int):=by decide
 have i02:(0:Int)<((kC.servers.length:Nat):Int):=by decide
 have i12:(1:Int)<((kC.servers.length:Nat):Int):=by decide
 have i1:(0:Int)≤1:=by decide
 have t1:(1:Int).toNat=1:=rfl
 have t3:(3:Int).toNat=3:=rfl
 have tt:decide (kT1=[98,111,117,110,100,32,50,32,51,10,115,101,114,118,101,114,32,97,46,32,49,48,46,48,46,48,46,49,10,122,111,110,101,32,46,32,114,111,111,116,10,115,101,114,118,101,114,32,98,46,120,46,32,49,48,46,48,46,48,46,50,10,122,111,110,101,32,120,46,32,120,10,114,111,111,116,32,97,46,10])=true:=decide_eq_true rfl
 have e22:decide ((2:Int)=2)=true:=rfl
 have e44:decide ((4:Int)=4)=true:=rfl
 have e11:decide ((1:Int)=1)=true:=rfl
 try simp (disch:=first|omega|assumption|rfl) only[go_sem,c0,c1,tt,l2,l1,l0,lr,i0,i01,i02,i12,i1,t1,t3,Int.toNat_zero,Nat.zero_mul,Nat.one_mul,Nat.mul_one,Nat.zero_add,Nat.add_zero,zal,hx6,hx61,hx613,hx05,gy,g5,go0,e22,e44,e11,↓hg4,↓hg10,↓hg16,↓hg25,↓hg34,↓hg46,↓hg52,↓hg56,↓hg60]
 refine hK _ _ ?_;clear hK hgd;clear K;try clear gd
 refine go trivial ?_
 refine rt0 Tryz.ntmps41 ?_
 exact⟨rfl,((hE1.trans hE2).trans hE29)⟩
set_option maxRecDepth 10000
theorem good_of{w:World}{cs:List Value}{c:za4}(hc:ConfAt w cs c)(hf:FewC c)(hr:zeF c):zhm c:=by
 refine⟨hr,hf,fun s hs=>?_⟩
 obtain⟨sv,rv,rfl,h1,_⟩:=hc.ex
 obtain⟨cs0,hcs⟩:=h1.mem hs
 obtain⟨nv,a,b,c',d,pv,_,ha,_⟩:=hcs.ex
 rw[ha];rfl
theorem zhn{W:World}(hX:WX W)(hY:WY W){cs:List Value}{c:za4}{u:Nat}(hc:ConfAt W cs c)(hu:u<65536):Fn Tryz.prog 12 #[.agg cs.toArray,.int .u16 (u:Nat)] W (fun v w'=>v= .bool true∧Ext W w'):=by
 have hl4:=(zcB hc).1
 refine enter Tryz.func12 Tryz.ntmps12 rfl rfl ?_
 refine go trivial ?_
 refine zap ?_
 intro w1 hE1 hs1 hA
 obtain⟨p,hp⟩:∃p,W.heap.size=p:=⟨_,rfl⟩
 rw[hp]at hA ⊢
 refine go trivial ?_
 refine rc trivial (zhk (hX.ext hE1) (hY.ext hE1)) ?_
 rintro _ w2 ⟨rfl,hE2⟩
 have hE02:=hE1.trans hE2
 have q2:=zam (n:=4) (Ext.at hE2 hA) hl4.symm
 refine rgo Bool.not_true ?_
 refine rc q2 (Few15_ok w2 (hc.ext hE02)) ?_
 rintro _ w3 ⟨hE3,t3,rfl,hf⟩
 have hE03:=hE02.trans hE3
 cases t3 with
 |false=>
  refine rgo Bool.not_false ?_
  refine rt0 Tryz.ntmps12 ?_
  exact⟨rfl,hE03⟩
 |true=>
 have hF:=hf rfl
 have q3:=zai hE3 q2
 refine rgo Bool.not_true ?_
 refine rc q3 (Of15_ok w3 (hc.ext hE03) hF) ?_
 rintro _ w4 ⟨hE4,cs',rfl,hc4⟩
 have hE04:=hE03.trans hE4
 refine rd trivial (zfy w4 hc4 hF) ?_
 rintro _ w5 ⟨hE5,ia,e,rfl,hro⟩
 have hE05:=hE04.trans hE5
 by_cases he:e=0
 rotate_left
 ·refine rgo (decide_eq_false he) ?_
  refine rt0 Tryz.ntmps12 ?_
  exact⟨rfl,hE05⟩
 subst he
 have hG:=good_of hc hF (hro rfl)
 have hok:=zgb hG
 have hrl:=zeS hF
 have hrun:=zgK hG
 have hlen:=zcq hok
 have q5:=zai (hE4.trans hE5) q3
 refine rgo (show decide ((0:Int)=0)=true from rfl) ?_
 refine rc q5 (zdW (hX.ext hE05) (hY.ext hE05) (hc.ext hE05) hG) ?_
 rintro _ w6 ⟨rfl,hE6⟩
 have hE06:=hE05.trans hE6
 obtain⟨R,hR⟩:∃R,zbo c=R:=⟨_,rfl⟩
 rw[hR]at hok hrl hrun hlen ⊢
 obtain⟨s,hs⟩:∃s,zaO R=s:=⟨_,rfl⟩
 have hs0:0<s.length:=by
  rw[←hs,←hR]
  unfold zbo
  rw[zby,List.length_append,List.length_cons]
  omega
 have hfr:=fun k=>zgr R hok k
 rw[hs]at hlen hfr ⊢
 have hsl:s.length≤3100000000:=by omega
 have d0:decide ((s.length:Int)=0)=false:=decide_eq_false (by omega)
 obtain⟨k,hk⟩:∃k,u % s.length=k:=⟨_,rfl⟩
 have hkl:k<s.length:=hk▸Nat.mod_lt _ hs0
 have hrem:(u:Int).tmod (s.length:Int)=(k:Int):=by rw[←hk];rfl
 have hn0:¬(s.length:Int)=0:=by omega
 have hwu:IntKind.i64.wrap (u:Int)=(u:Int):=zee (by omega) (by omega)
 have k0:(0:Int)≤(k:Int):=by omega
 have k1:(k:Int)≤(s.length:Int):=by omega
 obtain⟨j,t,hj,htl,hfs,hnt,hcnt,hiff⟩:=hfr k hkl
 have hRj:∀r∈R.take j,zcJ r:=fun r h=>hok r (List.mem_of_mem_take h)
 have hst:∀i,i<j→stAt (R.take j) i=stAt R i:=fun i hi=>by
  unfold stAt
  rw[List.take_take,Nat.min_eq_left (by omega)]
 have hjl:(R.take j).length=j:=by rw[List.length_take];omega
 have hfit:∀i (h:i<(R.take j).length),zfd (stAt (R.take j) i) (R.take j)[i]:=fun i h=>by
  rw[hjl]at h
  rw[hst i h,List.getElem_take]
  exact(zfB hrun i (by omega)).1
 have herr:∀i,i<(R.take j).length→zbP (R.take j) i=0:=fun i h=>by
  rw[hjl]at h
  unfold zbP
  rw[List.getElem?_eq_getElem (by omega),List.getElem_take,hst i h]
  exact(zfB hrun i (by omega)).2
 refine rgo (an8 d0 hrem hn0 hwu k0 k1 trivial trivial) ?_
 have hP:=zbX (hX.ext hE06) (t:=t) hRj hfit hnt (by omega) (by omega)
 rw[←hfs]at hP
 refine rq ?_;intro gd K hgd hK
 try simp (disch:=first|omega|assumption|rfl) only[go_sem,k0,k1,Int.toNat_natCast]
 refine Fn.mono hP ?_
 rintro _ w7 ⟨hE7,csr,ir,er,rfl,⟨hl7,ho7⟩,hpo⟩
 try simp only[go_sem]
 refine zbg (P:=Tryz.prog) (l:=csr) (by rw[hl7];rfl) ho7 (by rw[hl7];rfl) rfl ?_
 intro w8 hE8 hs8 hB8
 try simp only[go_sem]
 refine hK _ _ ?_;clear hK hgd;clear K;try clear gd
 have hout:(t≠ []→¬er=0∧ir=(j:Int))∧(er=0∨ir=(j:Int)):=by
  rcases hpo with ⟨i,hi,_,_,hn⟩| ⟨_,⟨_,h2,h3⟩| ⟨h2,h3,_⟩| ⟨h1,_,h3,_⟩⟩
  ·exact absurd (herr i hi) hn
  ·rw[hjl]at h2
   exact⟨fun _=>⟨by omega,h2⟩,.inr h2⟩
  ·rw[hjl]at h2
   exact⟨fun _=>⟨h3,h2⟩,.inr h2⟩
  ·exact⟨fun h=>absurd h1 h,.inl h3⟩
 have hE08:=(hE06.trans hE7).trans hE8
 have e10:∀c:UInt8,decide ((c.toNat:Int)=10)=decide (c=10):=fun c=>decide_eq_decide.2 ⟨fun h=>UInt8.toNat_inj.1 (show c.toNat=10 by omega),fun h=>by rw[h];rfl⟩
 have w8r:∀r:World→Prop,r w8→r w8:=fun _ h=>h
 refine go trivial ?_
 refine zbq k (fun i σ v=>(σ 7=vs s∧σ 8=vi k∧σ 10=vi ir∧σ 11=vi er∧σ 12=vi ((s.take i).count 10:Nat)∧σ 13=vi i)∧v=w8) ?_ ?_ ?_
 ·exact⟨⟨vr0,vr0,vr0,vr0,vr0,vr0⟩,rfl⟩
 ·rintro i σ v hi r ⟨⟨s7,s8,s10,s11,s12,s13⟩,hv⟩
  subst hv
  obtain⟨b,hb⟩:∃b,s[i]'(by omega)=b:=⟨_,rfl⟩
  have hin:(i:Int).toNat<s.length:=by omega
  have hb2:s[(i:Int).toNat]'hin=b:=hb
  have b4:((i:Nat):Int).toNat=i:=rfl
  have hbc:zab b= .int .u8 (b.toNat:Int):=rfl
  have r2:(i:Int)<(s.length:Int):=by omega
  obtain⟨n,hn⟩:∃n,(s.take i).count 10=n:=⟨_,rfl⟩
  have hnl:n≤i:=by
   have:=List.count_le_length (a:=(10:UInt8)) (l:=s.take i)
   rw[hn,List.length_take]at this
   omega
  have hn1:(n:Int)+1=((n+1:Nat):Int):=by push_cast;rfl
  have htk:(s.take (i+1)).count 10=n+if b=10 then 1 else 0:=by
   rw[zan (show i<s.length by omega),List.count_append,hn,hb]
   congr 1
   by_cases h:b=10
   ·rw[if_pos h,h];rfl
   ·rw[if_neg h,List.count_singleton];simp[h]
  rw[hn]at s12
  by_cases h10:b=10
  ·have d:decide ((b.toNat:Int)=10)=true:=by rw[e10];exact decide_eq_true h10
   rw[if_pos h10]at htk
   refine go (an9 s7 s8 s10 s11 s12 s13 r r2 (an6 hb2 hb b4 hbc d hn1)) ?_
   exact⟨rfl,⟨(vq1 s7),(vq1 s8),(vq1 s10),(vq1 s11),by rw[htk];simp only[go_sem,hn1],(vq1 r)⟩,rfl⟩
  ·have d:decide ((b.toNat:Int)=10)=false:=by rw[e10];exact decide_eq_false h10
   rw[if_neg h10]at htk
   replace htk:(s.take (i+1)).count 10=n:=htk
   refine go (an9 s7 s8 s10 s11 s12 s13 r r2 (an5 hb2 hb b4 hbc d)) ?_
   exact⟨rfl,⟨(vq1 s7),(vq1 s8),(vq1 s10),(vq1 s11),by rw[htk];simp only[go_sem,s12],(vq1 r)⟩,rfl⟩
 ·rintro σ v r ⟨⟨s7,s8,s10,s11,s12,s13⟩,hv⟩
  subst hv
  rw[hcnt]at s12
  refine go (an7 s7 s8 s10 s11 s12 s13 r) ?_
  refine zaM (Q:=fun e' σ' ds' v'=>e'= .normal∧ds'=[]∧v'=v∧(σ' 10=vi ir∧σ' 11=vi er∧σ' 12=vi j)∧∃z,σ' 64= .bool z∧(z=true→t≠ [])) ?_ ?_
  ·by_cases hk0:k=0
   ·have d1:decide ((0:Int)<(k:Int))=false:=decide_eq_false (by omega)
    refine rgg [(2,58)] (an7 s7 s8 s10 s11 s12 s13 d1) ?_
    exact⟨rfl,rfl,rfl,⟨(vq1 s10),(vq1 s11),(vq1 s12)⟩,false,vr0,fun h=>by cases h⟩
   ·have d1:decide ((0:Int)<(k:Int))=true:=decide_eq_true (by omega)
    obtain⟨b,hb⟩:∃b,s[k - 1]'(by omega)=b:=⟨_,rfl⟩
    have hin:((k - 1:Nat):Int).toNat<s.length:=by omega
    have hb2:s[((k - 1:Nat):Int).toNat]'hin=b:=hb
    have b4:((k - 1:Nat):Int).toNat=k - 1:=rfl
    have hbc:zab b= .int .u8 (b.toNat:Int):=rfl
    have e1:(k:Int) - 1=((k - 1:Nat):Int):=by omega
    have e2:(0:Int)≤((k - 1:Nat):Int):=by omega
    have e3:((k - 1:Nat):Int)<(s.length:Int):=by omega
    have hopt:s[k - 1]? =some b:=by rw[List.getElem?_eq_getElem (by omega),hb]
    by_cases h10:b=10
    ·have d:decide ((b.toNat:Int)=10)=true:=by rw[e10];exact decide_eq_true h10
     refine rgg [(2,58)] (an9 s7 s8 s10 s11 s12 s13 d1 e1 (an7 e2 e3 hb2 hb b4 hbc d)) ?_
     exact⟨rfl,rfl,rfl,⟨(vq1 s10),(vq1 s11),(vq1 s12)⟩,false,vr0,fun h=>by cases h⟩
    ·have d:decide ((b.toNat:Int)=10)=false:=by rw[e10];exact decide_eq_false h10
     refine rgg [(2,58)] (an9 s7 s8 s10 s11 s12 s13 d1 e1 (an7 e2 e3 hb2 hb b4 hbc d)) ?_
     refine⟨rfl,rfl,rfl,⟨(vq1 s10),(vq1 s11),(vq1 s12)⟩,true,vr0,fun _ ht=>?_⟩
     rcases hiff.1 ht with h|h
     ·exact hk0 h
     ·rw[hopt]at h
      exact h10 (Option.some.inj h)
  rintro _ σ1 _ v2 ⟨rfl,rfl,hv2,⟨s10,s11,s12⟩,z,s64,hz⟩
  have hE0v:Ext W v2:=by rw[hv2];exact hE08
  cases z with
  |true=>
   obtain⟨g1,g2⟩:=hout.1 (hz rfl)
   rw[g2]at s10
   refine go (an4 s10 s11 s12 s64) ?_
   refine rgg [(2,67)] (an6 s10 s11 s12 (decide_eq_false g1) Bool.not_false (decide_eq_true (Int.le_refl (j:Int)))) ?_
   refine go trivial ?_
   refine rt0 Tryz.ntmps12 ?_
   exact⟨rfl,hE0v⟩
  |false=>
   refine go (an4 s10 s11 s12 s64) ?_
   by_cases g0:er=0
   ·refine rgg [(2,74)] (an4 s10 s11 s12 (decide_eq_true g0)) ?_
    refine go trivial ?_
    refine rt0 Tryz.ntmps12 ?_
    exact⟨rfl,hE0v⟩
   ·have g2:=hout.2.resolve_left g0
    rw[g2]at s10
    refine rgg [(2,74)] (an5 s10 s11 s12 (decide_eq_false g0) (decide_eq_true (rfl:(j:Int)=(j:Int)))) ?_
    refine go trivial ?_
    refine rt0 Tryz.ntmps12 ?_
    exact⟨rfl,hE0v⟩
end Go.Proofs.YtanmnkbccfcagaaGreatDoor
