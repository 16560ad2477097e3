/-
  Texts of a proof, joined: NH, NJ, QD, JV, JW, QE, W3, W4, W5, W6, NL, NM, LG, LH, LI, LJ, LM, M4wd, LN.
  Conditions: none.
-/
import Derived.Test.YtkpdfhbpdkifoaaGreatDoorQPB08
import Derived.Test.YtkpdfhbpdkifoaaGreatDoorQPB05
import Derived.Test.YtkpdfhbpdkifoaaGreatDoorQPB03
import Derived.Test.YtkpdfhbpdkifoaaGreatDoorQPB07
import Derived.Test.YtkpdfhbpdkifoaaGreatDoorQPB04
import Derived.Test.YtkpdfhbpdkifoaaGreatDoorQPB06
import Derived.Test.YtkpdfhbpdkifoaaGreatDoorQPB02
import Derived.Test.YtkpdfhbpdkifoaaGreatDoorQPB01
set_option linter.unusedVariables false
set_option linter.unusedSimpArgs false
set_option linter.defProp false
set_option linter.unnecessarySimpa false
set_option maxHeartbeats 8000000
namespace Go.Proofs.YtkpdfhbpdkifoaaGreatDoor
open Go
set_option maxRecDepth 10000
theorem own28_ok{W0 w:World}{b:Nat}{t:Lab}{ov:Value}{ps:List Lab}(hW:WX W0)(h:Rdr W0 w b [(t,false)] ov 0)(ht:t.length≤1000000)(hsp:SplC 58 t ps)(h8:ps.length=8)(hps:∀p∈ps,p≠ []∧p.length≤4∧∀c∈p,c∈digs16∧(hexV c).isSome=true):
  Fn Tryz.prog 194 #[.pointer (some ⟨b,0,Option.none⟩),vi 28] w (fun v w'=>(∃rv,v= .agg #[vi 28,.slice Option.none 0 0,.slice Option.none 0 0,.slice Option.none 0 0,rv]∧Own w.heap.size w' 5 rv ((ps.flatMap zh9).map zao))∧Rdr W0 w' b [] ov 0∧Keep (fun i=>i=b) w w'):=by
 have hbl:=h.lt
 have hlow:=h.low
 refine enter Tryz.func194 Tryz.ntmps194 rfl rfl ?_
 refine go trivial ?_
 refine zan ?_
 intro w1 hE1 hs1 hA
 refine rq ?_;intro gd K hgd hK
 try simp only[go_sem]
 refine⟨by kernel_rfl,?_⟩
 rw[show bdV Tryz.prog 47 [(0,vi 28)]=some (.agg #[vi 28,.slice Option.none 0 0,.slice Option.none 0 0,.slice Option.none 0 0,.slice Option.none 0 0]) from by kernel_rfl]
 try simp only[go_sem]
 refine zbm (P:=Tryz.prog) (l:=[vi 28,.slice Option.none 0 0,.slice Option.none 0 0,.slice Option.none 0 0,.slice Option.none 0 0]) rfl (zem _ _ _ _ _ rfl rfl rfl rfl) rfl rfl ?_
 intro w2 hE2 hs2 hB2
 try simp only[go_sem]
 refine hK _ _ ?_;clear hK hgd;clear K;try clear gd
 rw[hs1]at hB2
 simp only[hs1]
 have hR2:=(h.extx hE1).extx hE2
 refine go trivial ?_
 refine rc trivial (zfQ hR2 28) ?_
 rintro _ w3 ⟨rfl,hE3⟩
 rw[show zhe 28 ([(t,false)]:List (Lab×Bool)).length=true from rfl]
 have d1:decide ((28:Int)=1)=false:=rfl
 have d2:decide ((28:Int)=28)=true:=rfl
 refine rgo (an2 d1 d2) ?_
 have hR3:=hR2.extx hE3
 have hs3:=hE3.size
 refine rq ?_;intro gd K hgd hK
 try simp only[go_sem]
 refine Fn.mono (long_ok hW hR3 (by simp) ht hsp h8 hps) ?_
 rintro rv w4 ⟨hown,hR4,hk4⟩
 obtain⟨ra,rc',hrv⟩:=hown.slice
 have hs4:=hk4.size
 have hB4:=(hk4.block (w.heap.size+1) (by omega) (by omega)).trans (Ext.at hE3 hB2)
 try simp (disch:=first|omega|assumption|rfl) only[go_sem,Nat.zero_add]
 refine zdc (P:=Tryz.prog) (t:=43) (j:=4) (u:=rv) hB4 (by simp) (by rw[hrv];rfl) rfl rfl ?_
 intro w5 hs5 hB5 hk5
 try simp only[go_sem]
 refine hK _ _ ?_;clear hK hgd;clear K;try clear gd
 simp only[List.set_cons_zero,List.set_cons_succ]at hB5
 have q5:=zal (n:=5) hB5 rfl
 refine go trivial ?_
 refine rq ?_;intro gd K hgd hK
 try simp (disch:=first|omega|assumption|rfl) only[go_sem,q5]
 have hA5:w5.heap[w.heap.size]? =_:=(hk5.block _ (by omega) (by omega)).trans ((hk4.block _ (by omega) (by omega)).trans (Ext.at (hE2.trans hE3) hA))
 refine zaR (P:=Tryz.prog) (t:=47) (l:=[vi 28,.slice Option.none 0 0,.slice Option.none 0 0,.slice Option.none 0 0,rv]) hA5 rfl (zem _ _ _ _ _ rfl rfl rfl (by rw[hrv];rfl)) rfl rfl ?_
 intro w6 hs6 hB6 hk6
 try simp only[go_sem]
 refine hK _ _ ?_;clear hK hgd;clear K;try clear gd
 refine go trivial ?_
 refine zaf (.inr rfl) Tryz.ntmps194 rfl (zaW (x:=⟨w.heap.size,0,Option.none⟩) (k:=5) (vr0) rfl rfl (zal hB6 rfl) zae) ?_
 have hE13:=(hE1.trans hE2).trans hE3
 refine⟨⟨rv,rfl,((hown.keep hk5 fun i hi hs=>by have:=(hown.ge hi).1;omega).keep hk6 fun i hi hs=>by have:=(hown.ge hi).1;omega).mono (by omega)⟩,(hR4.keep hk5 fun i hi=>by omega).keep hk6 fun i hi=>by omega,?_⟩
 exact((((hE13.mono fun _ _ h=>h.elim):Keep (fun i=>i=b) w w3).trans hk4).own hk5 fun i hi h=>by omega).own hk6 fun i hi h=>by omega
theorem ownN_ok{W0 w:World}{tx:Nm→Lab}{b:Nat}{ov:Value}{o:Nm}{T:Int}{ns:List Nm}{us:List Int}(hW:WX W0)(hT:T=2∨T=5∨T=12∨T=39∨T=6)(hsh:zaJ T=((ns.length:Int),(us.length:Int),0,0))(hnl:ns.length≤10)(hul:us.length≤10)(h:Rdr W0 w b (ns.map (fun n=>(tx n,false))++us.map fun m=>(numT m,false)) ov 0)(ho:Row W0 ov (o.map vs))(hoT:NmT o)
  (hN:∀n∈ns,za6 (tx n) o=(n,0)∧(tx n).length≤500000000∧True) (hNu:∀m∈us,(decP 4294967295 (numT m)=(m.toNat,0)∧(m.toNat:Int)=m)∧(numT m).length≤1000000):
  Fn Tryz.prog 194 #[.pointer (some ⟨b,0,Option.none⟩),vi T] w (fun v w'=>(∃nmv nuv,v= .agg #[vi T,nmv,nuv,.slice Option.none 0 0,.slice Option.none 0 0]∧Own w.heap.size w' 42 nuv (us.map v32)∧Hz (fun i=>i<w.heap.size) w' (fun X=>NamesAt X nmv ns))∧Rdr W0 w' b [] ov 0∧Keep (fun i=>i=b) w w'):=by
 have hbl:=h.lt
 have hlow:=h.low
 refine enter Tryz.func194 Tryz.ntmps194 rfl rfl ?_
 refine go trivial ?_
 refine zan ?_
 intro w1 hE1 hs1 hA
 refine rq ?_;intro gd K hgd hK
 try simp only[go_sem]
 refine⟨by kernel_rfl,?_⟩
 rw[show bdV Tryz.prog 47 [(0,vi T)]=some (.agg #[vi T,.slice Option.none 0 0,.slice Option.none 0 0,.slice Option.none 0 0,.slice Option.none 0 0]) from by kernel_rfl]
 try simp only[go_sem]
 refine zbm (P:=Tryz.prog) (l:=[vi T,.slice Option.none 0 0,.slice Option.none 0 0,.slice Option.none 0 0,.slice Option.none 0 0]) rfl (zem _ _ _ _ _ rfl rfl rfl rfl) rfl rfl ?_
 intro w2 hE2 hs2 hB2
 try simp only[go_sem]
 refine hK _ _ ?_;clear hK hgd;clear K;try clear gd
 rw[hs1]at hB2
 simp only[hs1]
 have hR2:=(h.extx hE1).extx hE2
 have hwl:(ns.map (fun n=>(tx n,false))++us.map fun m=>(numT m,false)).length=ns.length+us.length:=by simp
 refine go trivial ?_
 refine rc trivial (zfQ hR2 T) ?_
 rintro _ w3 ⟨rfl,hE3⟩
 have hmany:zhe T (ns.map (fun n=>(tx n,false))++us.map fun m=>(numT m,false)).length=true:=by
  unfold zhe
  rw[hwl,hsh]
  simp
 rw[hmany]
 have hR3:=hR2.extx hE3
 have hs3:=hE3.size
 have hB3:=Ext.at hE3 hB2
 obtain⟨P,hP⟩:∃P,w.heap.size+1=P:=⟨_,rfl⟩
 rw[hP]at hB3 ⊢
 have d1:decide (T=1)=false:=decide_eq_false (by omega)
 have d28:decide (T=28)=false:=decide_eq_false (by omega)
 have d16:decide (T=16)=false:=decide_eq_false (by omega)
 have d15:decide (T=15)=false:=decide_eq_false (by omega)
 refine rgo (an4 d1 d28 d16 d15) ?_
 refine rq ?_;intro gd K hgd hK
 try simp (disch:=first|omega|assumption|rfl) only[go_sem,Nat.zero_add]
 refine Fn.mono (zl9 w3 T) ?_
 rintro _ wo ⟨rfl,hEo⟩
 rw[hsh]
 unfold zgz
 simp only
 try simp only[go_sem]
 refine zg8 (cs:=#[vi ns.length,vi us.length,vi 0,vi 0]) rfl rfl rfl rfl (vr0) rfl ?_
 try simp only[go_sem]
 refine hK _ _ ?_;clear hK hgd;clear K;try clear gd
 replace hR3:=hR3.extx hEo
 have hB3':=Ext.at hEo hB3
 refine go trivial ?_
 refine zbq ns.length (fun i σ v=>(σ 0= .pointer (some ⟨b,0,Option.none⟩)∧σ 1=vi T∧σ 4= .pointer (some ⟨w.heap.size,0,Option.none⟩)∧σ 5= .pointer (some ⟨P,0,Option.none⟩)∧σ 18=vi ns.length∧σ 19=vi i)∧Rdr W0 v b ((ns.drop i).map (fun n=>(tx n,false))++us.map fun m=>(numT m,false)) ov 0∧Keep (fun i=>i=b∨i=P) w3 v∧∃nv nvals,v.heap[P]? =some (.cells [vi T,nv,.slice Option.none 0 0,.slice Option.none 0 0,.slice Option.none 0 0].toArray 47 (0,0))∧Own w3.heap.size v 24 nv nvals∧nvals.length=i∧∀j (h:j<nvals.length) (h':j<ns.length),Hz (fun i=>i<w3.heap.size∨some i=nv.ownBlock) v (fun X=>Row X nvals[j] (ns[j].map vs))) ?_ ?_ ?_
 ·exact⟨⟨vr0,vr0,vr0,vr0,vr0,vr0⟩,hR3,hEo.mono fun _ _ h=>h.elim,_,[],hB3',Own.nil _ _ _,rfl,fun j h=>absurd h (by simp)⟩
 ·rintro i σ v hi ⟨r1,r2,r3,r4⟩ ⟨⟨s0,s1,s4,s5,s18,s19⟩,hR,hk,nv,nvals,hB,hown,hnl,hnr⟩
  obtain⟨n,hn⟩:∃n,ns[i]=n:=⟨_,rfl⟩
  rw[List.drop_eq_getElem_cons hi,hn,List.map_cons,List.cons_append]at hR
  have hnm:=hN n (hn▸List.getElem_mem hi)
  have qf:zad v (some ⟨P,1,Option.none⟩)=some nv:=za2 (j:=1) hB rfl
  have hvs:=hk.size
  have hPv:P<v.heap.size:=(Array.getElem?_eq_some_iff.1 hB).1
  refine go (an4 s0 s18 s19 r1) ?_
  refine zaF (fun i=>i==7) [(0,true),(1,true),(2,true),(3,false),(4,false),(5,false),(6,true),(7,false)] ((fun i=>i=b∨w3.heap.size≤i)) mixed (by kernel_rfl) ?_;intro gd K x hgd hx hxe hK;have hx0:=zaT hxe;clear hxe
  have qx:=zab hx0 qf
  have hsx:=hx0.size
  simp (disch:=first|omega|assumption|rfl) only[go_sem,s0,s5,qx,Nat.zero_add]
  refine⟨fun a ha hb'=>by cases ha;dsimp only at hb';omega,?_⟩
  refine Fn.mono (zmh (hR.extx hx0) (by simp;omega) hnm.2.1 ho hoT) ?_
  rw[hnm.1]
  rintro fv y1 ⟨hrow,hbk,hR1,hk1⟩
  rw[show zbL (if false=true then zbL 0 2 else 0) ((n,0):Nm×Int).2=0 from rfl]at hR1
  refine⟨.inr (hk1.mono fun i _ h=> .inl h),?_⟩
  obtain⟨fva,fvc,hfve,_⟩:=id hrow
  simp (disch:=first|omega|assumption|rfl) only[go_sem]
  refine zbk (z:= .slice Option.none 0 0) (v:=fv) rfl rfl rfl rfl (by rw[hfve];rfl) ?_
  intro y2 hy2 hys2 hyo
  refine⟨.inr hy2.keep,?_⟩
  simp (disch:=first|omega|assumption|rfl) only[go_sem]
  have hsy1:=hk1.size
  have hsy2:=hy2.size
  have hownY:=((hown.ext hx0).keep hk1 fun j hj hs=>by have:=(hown.ge hj).1;omega).ext hy2
  refine za8 (e:=24) hownY hyo.row rfl rfl rfl rfl rfl rfl (vr0) (vr0) (fun q hq=>by rw[List.mem_singleton.1 hq];rw[hfve];rfl) (by rw[List.length_singleton];omega) (by decide) (by omega) ?_
  intro nv' y3 hown3 hX3 hK3 hb3
  refine⟨.inr (hK3.mono fun j _ hj=> .inr (hownY.ge hj).1),?_⟩
  simp (disch:=first|omega|assumption|rfl) only[go_sem,s5,Nat.zero_add]
  have hsK:=hK3.size
  obtain⟨a7,c7,hnv7⟩:=hown3.slice
  have hBP3:y3.heap[P]? =_:=(hK3.block P (by omega) (fun h=>by have:=(hownY.ge h).1;omega)).trans ((hy2.block P (by omega) (fun h=>h)).trans ((hk1.block P (by omega) (by omega)).trans (Ext.at hx0 hB)))
  refine zdc (P:=Tryz.prog) (t:=44) (j:=1) (u:=nv') hBP3 (by simp) (by rw[hnv7];rfl) rfl rfl ?_
  intro z hzs hBz hkz
  refine⟨.inl rfl,?_⟩
  simp (disch:=first|omega|assumption|rfl) only[go_sem]
  refine hK _ _ ?_;clear hK hgd;clear K;try clear gd
  simp only[List.set_cons_zero,List.set_cons_succ]at hBz
  have hob:∀i,i<y2.heap.size→(i<w3.heap.size∨some i=nv'.ownBlock)→(i<w3.heap.size∨some i=nv.ownBlock):=fun i hi h=>by
   rcases h with h|h
   ·exact .inl h
   ·rcases hb3 i h with h|h
    ·exact .inr h
    ·omega
  have mv:∀{P':World→Prop},Hz (fun i=>i<w3.heap.size∨some i=nv.ownBlock) v P'→Hz (fun i=>i<w3.heap.size∨some i=nv'.ownBlock) z P':=fun h=>
   ((((h.ext hx0).app hk1 (fun i _ hi=> .inl (by omega)) (fun i _ hi=>hi)).ext hy2).app hK3 (fun i _ hi=> .inr hi) hob).app hkz (fun i _ hi=> .inl (by omega)) (fun i _ hi=>hi)
  have hkf:Keep (fun i=>i=b∨i=P) w3 z:=((((hk.trans (hx0.mono fun _ _ h=>h.elim)).trans (hk1.mono fun _ _ h=> .inl h)).trans (hy2.mono fun _ _ h=>h.elim)).own hK3 fun j hj h=>by have:=(hownY.ge h).1;omega).trans (hkz.mono fun _ _ h=> .inr h)
  have hRz:Rdr W0 z b _ ov 0:=((hR1.extx hy2).keep hK3 fun j hj=>by have:=(hownY.ge hj).1;omega).keep hkz fun j hj=>by omega
  have hoz:=hown3.keep hkz fun j hj hs=>by have:=(hown3.ge hj).1;omega
  refine go (an9 s0 s1 s4 s5 s18 s19 r4 trivial trivial) ?_
  refine⟨rfl,⟨(vq1 s0),(vq1 s1),(vq1 s4),(vq1 s5),(vq1 s18),(vq1 r4)⟩,hRz,hkf,nv',nvals++ [fv],hBz,hoz,by simp;omega,fun j h h'=>?_⟩
  by_cases hj:j<nvals.length
  ·rw[List.getElem_append_left hj]
   exact mv (hnr j hj h')
  ·have hjk:j=i:=by simp at h;omega
   subst hjk
   rw[List.getElem_append_right (by omega)]
   simp only[hnl,Nat.sub_self,List.getElem_cons_zero,hn]
   have hrz:Row z fv (n.map vs):=by
    refine Row.blocks (w:=y3) (Row.blocks (w:=y2) (hrow.ext hy2) fun a n' c hv=>?_) fun a n' c hv=>?_
    ·have h2:=hbk a n' c hv
     exact hK3.block _ (by omega) (fun hh=>by have:=(hown.ge hh).2;omega)
    ·have h2:=hbk a n' c hv
     exact hkz.block _ (by omega) (by omega)
   refine row_hz hrz fun a n' c hv=>?_
   have h2:=hbk a n' c hv
   refine⟨by omega,?_⟩
   rintro(h3|h3)
   ·omega
   ·rcases hb3 _ h3 with h3|h3
    ·have:=(hown.ge h3).2;omega
    ·omega
 rintro σ v r ⟨⟨s0,s1,s4,s5,s18,s19⟩,hR,hk,nmv,nvals,hB,hown,hnl2,hnr⟩
 have hNz:Hz (fun i=>i<w3.heap.size∨some i=(Value.slice Option.none 0 0).ownBlock) v (fun X=>NamesAt X nmv ns):=fun X hX=>by
  refine⟨nvals,(hown.keep hX fun i hi hs=>?_).row,hnl2,fun j h h'=>hnr j h h' X (hX.mono fun i _ hi=>?_)⟩
  ·have:=(hown.ge hi).1
   rcases hs with hs|hs
   ·omega
   ·cases hs
  ·rcases hi with hi|hi
   ·exact .inl hi
   ·cases hi
 rw[List.drop_length,List.map_nil,List.nil_append]at hR
 refine go (an6 s0 s1 s4 s5 s18 (an2 s19 r)) ?_
 refine rq ?_;intro gd K hgd hK
 try simp (disch:=first|omega|assumption|rfl) only[go_sem,s1]
 refine Fn.mono (zl9 v T) ?_
 rintro _ vo ⟨rfl,hEo⟩
 rw[hsh]
 unfold zgz
 simp only
 try simp only[go_sem]
 refine zg8 (cs:=#[vi ns.length,vi us.length,vi 0,vi 0]) rfl rfl rfl rfl (vr0) rfl ?_
 try simp only[go_sem]
 refine hK _ _ ?_;clear hK hgd;clear K;try clear gd
 replace hNz:=hNz.ext hEo
 refine go (an4 s0 s1 s4 s5) ?_
 refine zbq us.length (fun i σ v=>(σ 0= .pointer (some ⟨b,0,Option.none⟩)∧σ 1=vi T∧σ 4= .pointer (some ⟨w.heap.size,0,Option.none⟩)∧σ 5= .pointer (some ⟨P,0,Option.none⟩)∧σ 31=vi us.length∧σ 32=vi i)∧Rdr W0 v b ((us.drop i).map fun m=>(numT m,false)) ov 0∧Keep (fun i=>i=b∨i=P) w3 v∧∃nv nvals,v.heap[P]? =some (.cells [vi T,nmv,nv,.slice Option.none 0 0,.slice Option.none 0 0].toArray 47 (0,0))∧Own w3.heap.size v 42 nv nvals∧nvals.length=i∧nvals=(us.take i).map v32∧Hz (fun i=>i<w3.heap.size∨some i=nv.ownBlock) v (fun X=>NamesAt X nmv ns)) ?_ ?_ ?_
 ·exact⟨⟨(vr1 s0),(vr1 s1),(vr1 s4),(vr1 s5),vr0,vr0⟩,hR.extx hEo,hk.trans (hEo.mono fun _ _ h=>h.elim),_,[],Ext.at hEo hB,Own.nil _ _ _,rfl,rfl,hNz⟩
 clear s0 s1 s4 s5 s18 s19 r hR hk hB
 ·rintro i σ v hi ⟨r1,r2,r3,r4⟩ ⟨⟨s0,s1,s4,s5,s18,s19⟩,hR,hk,nv,nvals,hB,hown,hnl,hnr,hNz⟩
  obtain⟨n,hn⟩:∃n,us[i]=n:=⟨_,rfl⟩
  rw[List.drop_eq_getElem_cons hi,hn,List.map_cons]at hR
  have hnm:=hNu n (hn▸List.getElem_mem hi)
  have qf:zad v (some ⟨P,2,Option.none⟩)=some nv:=za2 (j:=2) hB rfl
  have hvs:=hk.size
  have hPv:P<v.heap.size:=(Array.getElem?_eq_some_iff.1 hB).1
  refine go (an4 s0 s18 s19 r1) ?_
  refine zaF (fun i=>i==7) [(0,true),(1,true),(2,true),(3,false),(4,false),(5,false),(6,true),(7,false)] ((fun i=>i=b∨w3.heap.size≤i)) mixed (by kernel_rfl) ?_;intro gd K x hgd hx hxe hK;have hx0:=zaT hxe;clear hxe
  have qx:=zab hx0 qf
  have hsx:=hx0.size
  simp (disch:=first|omega|assumption|rfl) only[go_sem,s0,s5,qx,Nat.zero_add]
  refine⟨fun a ha hb'=>by cases ha;dsimp only at hb';omega,?_⟩
  refine Fn.mono (num_ok hW (hR.extx hx0) (by simp;omega) (by have:=hnm.2;omega) 4294967295 (by decide)) ?_
  rw[hnm.1.1]
  rintro fv y1 ⟨hfv,hR1,hk1⟩
  rw[show zbL (if false=true then zbL 0 2 else 0) ((n.toNat,0):Nat×Int).2=0 from rfl]at hR1
  rw[show (((n.toNat,0):Nat×Int).1:Int)=n from hnm.1.2]at hfv
  subst hfv
  refine⟨.inr (hk1.mono fun i _ h=> .inl h),?_⟩
  simp (disch:=first|omega|assumption|rfl) only[go_sem]
  refine zbk (z:=v32 0) rfl rfl rfl rfl rfl ?_
  intro y2 hy2 hys2 hyo
  refine⟨.inr hy2.keep,?_⟩
  simp (disch:=first|omega|assumption|rfl) only[go_sem]
  have hsy1:=hk1.size
  have hsy2:=hy2.size
  have hownY:=((hown.ext hx0).keep hk1 fun j hj hs=>by have:=(hown.ge hj).1;omega).ext hy2
  refine za8 (e:=42) hownY hyo.row rfl rfl rfl rfl rfl rfl (vr0) (vr0) (fun q hq=>by rw[List.mem_singleton.1 hq];rfl) (by rw[List.length_singleton];omega) (by decide) (by omega) ?_
  intro nv' y3 hown3 hX3 hK3 hb3
  refine⟨.inr (hK3.mono fun j _ hj=> .inr (hownY.ge hj).1),?_⟩
  simp (disch:=first|omega|assumption|rfl) only[go_sem,s5,Nat.zero_add]
  have hsK:=hK3.size
  obtain⟨a7,c7,hnv7⟩:=hown3.slice
  have hBP3:y3.heap[P]? =_:=(hK3.block P (by omega) (fun h=>by have:=(hownY.ge h).1;omega)).trans ((hy2.block P (by omega) (fun h=>h)).trans ((hk1.block P (by omega) (by omega)).trans (Ext.at hx0 hB)))
  refine zdc (P:=Tryz.prog) (t:=45) (j:=2) (u:=nv') hBP3 (by simp) (by rw[hnv7];rfl) rfl rfl ?_
  intro z hzs hBz hkz
  refine⟨.inl rfl,?_⟩
  simp (disch:=first|omega|assumption|rfl) only[go_sem]
  refine hK _ _ ?_;clear hK hgd;clear K;try clear gd
  simp only[List.set_cons_zero,List.set_cons_succ]at hBz
  have hob:∀i,i<y2.heap.size→(i<w3.heap.size∨some i=nv'.ownBlock)→(i<w3.heap.size∨some i=nv.ownBlock):=fun i hi h=>by
   rcases h with h|h
   ·exact .inl h
   ·rcases hb3 i h with h|h
    ·exact .inr h
    ·omega
  have mv:∀{P':World→Prop},Hz (fun i=>i<w3.heap.size∨some i=nv.ownBlock) v P'→Hz (fun i=>i<w3.heap.size∨some i=nv'.ownBlock) z P':=fun h=>
   ((((h.ext hx0).app hk1 (fun i _ hi=> .inl (by omega)) (fun i _ hi=>hi)).ext hy2).app hK3 (fun i _ hi=> .inr hi) hob).app hkz (fun i _ hi=> .inl (by omega)) (fun i _ hi=>hi)
  have hkf:Keep (fun i=>i=b∨i=P) w3 z:=((((hk.trans (hx0.mono fun _ _ h=>h.elim)).trans (hk1.mono fun _ _ h=> .inl h)).trans (hy2.mono fun _ _ h=>h.elim)).own hK3 fun j hj h=>by have:=(hownY.ge h).1;omega).trans (hkz.mono fun _ _ h=> .inr h)
  have hRz:Rdr W0 z b _ ov 0:=((hR1.extx hy2).keep hK3 fun j hj=>by have:=(hownY.ge hj).1;omega).keep hkz fun j hj=>by omega
  have hoz:=hown3.keep hkz fun j hj hs=>by have:=(hown3.ge hj).1;omega
  refine go (an9 s0 s1 s4 s5 s18 s19 r4 trivial trivial) ?_
  exact⟨rfl,⟨(vq1 s0),(vq1 s1),(vq1 s4),(vq1 s5),(vq1 s18),(vq1 r4)⟩,hRz,hkf,nv',nvals++ [v32 n],hBz,hoz,by simp;omega,by rw[hnr,zak hi,hn,List.map_append];rfl,mv hNz⟩
 clear hNz hB hR hk s0 s1 s4 s5 s18 s19 r
 rintro σ z r ⟨⟨s0,s1,s4,s5,s18,s19⟩,hR,hk,nuv,uvals,hB,hownU,hul2,hur,hNz⟩
 rw[List.drop_length,List.map_nil]at hR
 rw[List.take_length]at hur
 subst hur
 obtain⟨una,unc,hnuv⟩:=hownU.slice
 obtain⟨_,hnmr,_,_⟩:=hNz.now
 have q5:=zal (n:=5) hB rfl
 have hks:=hk.size
 refine go (an6 s0 s4 s5 s18 s19 r) ?_
 refine rq ?_;intro gd K hgd hK
 try simp (disch:=first|omega|assumption|rfl) only[go_sem,s4,s5,q5]
 have hA5:z.heap[w.heap.size]? =_:=(hk.block _ (by omega) (by omega)).trans (Ext.at (hE2.trans hE3) hA)
 refine zaR (P:=Tryz.prog) (t:=47) (l:=[vi T,nmv,nuv,.slice Option.none 0 0,.slice Option.none 0 0]) hA5 rfl (zem _ _ _ _ _ hnmr.isOne (by rw[hnuv];rfl) rfl rfl) rfl rfl ?_
 intro w6 hs6 hB6 hk6
 try simp only[go_sem]
 refine hK _ _ ?_;clear hK hgd;clear K;try clear gd
 refine go trivial ?_
 refine zaf (.inr rfl) Tryz.ntmps194 rfl (zaW (x:=⟨w.heap.size,0,Option.none⟩) (k:=5) ((vr1 s4)) rfl rfl (zal hB6 rfl) zae) ?_
 have hE13:=(hE1.trans hE2).trans hE3
 refine⟨⟨nmv,nuv,rfl,(hownU.keep hk6 fun i hi hs=>by have:=(hownU.ge hi).1;omega).mono (by omega),hNz.app hk6 (fun i _ hi=> .inl (by omega)) (fun i _ hi=> .inl (by omega))⟩,hR.keep hk6 fun i hi=>by omega,?_⟩
 exact(((hE13.mono fun _ _ h=>h.elim):Keep (fun i=>i=b) w w3).own hk fun i hi h=>by omega).own hk6 fun i hi h=>by omega
theorem zbp{d:DatL}(h:zbv d=0):(1≤d.ty∧d.ty≤65535)∧zb2 d=true∧(∀n∈d.names,zaL n=0)∧(d.ty=15→d.nums.headD 0≤65535)∧d.raw.length≤1024∧∀t∈d.texts,t.length≤255:=by
 unfold zbv at h
 split at h
 ·cases h
 ·rename_i h1
  split at h
  ·cases h
  ·rename_i h2
   split at h
   ·rename_i n hn
    have:=List.find?_some hn
    simp[h]at this
   ·rename_i hn
    rw[List.find?_eq_none]at hn
    split at h
    ·cases h
    ·rename_i h3
     split at h
     ·cases h
     ·rename_i h4
      refine⟨by omega,by simpa using h2,fun n hm=>by simpa using hn n hm,fun h=>by omega,by omega,fun t ht=>?_⟩
      have h5:¬zep d.texts=true:=fun e=>h4 (.inr e)
      unfold zep at h5
      rw[List.any_eq_true]at h5
      by_cases h6:t.length≤255
      ·exact h6
      ·exact absurd ⟨t,ht,decide_eq_true (by omega)⟩ h5
theorem zes{c:UInt8}{ps:List Lab}{Q:UInt8→Prop}(hc:Q c)(h:∀p∈ps,∀x∈p,Q x):∀x∈zaM [c] ps,Q x:=fun x hx=>by
 cases ps with
 |nil=>cases hx
 |cons p r=>
  rcases List.mem_append.1 (show x∈p++r.flatMap fun y=>[c]++y from hx) with h1|h1
  ·exact h p (List.mem_cons_self ..) x h1
  ·obtain⟨y,hy,hxy⟩:=List.mem_flatMap.1 h1
   rcases List.mem_append.1 hxy with h2|h2
   ·rw[List.mem_singleton.1 h2];exact hc
   ·exact h y (List.mem_cons_of_mem _ hy) x h2
theorem zfq{c:UInt8}{ps:List Lab}(h0:ps≠ [])(h:∀p∈ps,p≠ []):zaM [c] ps≠ []:=by
 cases ps with
 |nil=>exact absurd rfl h0
 |cons p r=>
  intro e
  have:=List.append_eq_nil_iff.1 (show p++r.flatMap (fun y=>[c]++y)=[] from e)
  exact h p (List.mem_cons_self ..) this.1
theorem zi7{p:Lab}{q:Bool}{r:List (Lab×Bool)}(h:q=true∨p≠ [92,35]):zcY ((p,q)::r)=false:=by
 show decide ((p,q)=(([92,35]:Lab),false))=false
 refine decide_eq_false fun e=>?_
 have e1:=congrArg Prod.fst e
 have e2:=congrArg Prod.snd e
 rcases h with h|h
 ·rw[h]at e2;cases e2
 ·exact h e1
theorem zhd{p:Lab}{r:List (Lab×Bool)}(h:∀c∈p,c≠92):zcY ((p,false)::r)=false:=zi7 (.inr fun e=>h 92 (by rw[e];simp) rfl)
theorem zec{n:Nm}(h:zaL n=0):(zaV n).length≤2000:=by
 have h1:=(zci h).2
 have h2:=zfB n
 have h3:∀n:Nm,(n.map fun l=>1+l.length).sum=(n.map List.length).sum+n.length:=fun n=>by
  induction n with
  |nil=>rfl
  |cons l n ih=>simp only[List.map_cons,List.sum_cons,List.length_cons,ih];omega
 have h4:=h3 n
 unfold lenN at h1
 unfold zaV
 split
 ·decide
 ·omega
theorem SplC.p{s:Lab}{ps:List Lab}(h:SplC 46 s ps):SplP s ps:=⟨h.sp,h.ct⟩
theorem octP_dec(c:UInt8):octP (Lib.decDigits c.toNat)=zao c:=by
 have hc:=c.toNat_lt
 unfold octP
 rw[zcq (by omega)]
 simp
theorem zit:∀l:List UInt8,zkW 0 (l.map fun c=>Lib.decDigits c.toNat)=0
 | []=>rfl
 |c::l=>by
  have hc:=c.toNat_lt
  have ih:=zit l
  unfold zkW at*
  rw[List.map_cons,List.foldl_cons,zcq (by omega)]
  exact ih
theorem zgH{α β:Type}{f g:α→List β}:∀{l:List α},(∀x∈l,f x=g x)→l.flatMap f=l.flatMap g
 | [],_=>rfl
 |x::l,h=>by rw[List.flatMap_cons,List.flatMap_cons,h x (List.mem_cons_self ..),zgH fun y hy=>h y (List.mem_cons_of_mem _ hy)]
theorem zlZ(raw:List UInt8)(h:raw.length=16):(List.range 8).flatMap (fun i=>[raw.getD (2*i) 0,raw.getD (2*i+1) 0])=raw:=by
 iterate 16 (rcases raw with _| ⟨a,raw⟩;· exact absurd h (by simp))
 rcases raw with _| ⟨a,raw⟩
 ·rfl
 ·exact absurd h (by simp)
section
variable {w : World} {wv : Value} {oa : Option Addr} {on oc : Nat} {o : Nm} {d : DatL}
theorem back1(hW:WX w)(hc:zbv d=0)(ht:d.ty=1)(hr:Rows 2 WdC w wv (wF false (za5 hexU d) [] false)):Fn Tryz.prog 166 #[vi d.ty,wv,.slice oa on oc] w (fun v w'=>Ext w w'∧∃cs:List Value,v= .tuple #[.agg cs.toArray,vi 0]∧GD d w.heap.size cs w'):=by
 obtain⟨⟨t1,t2⟩,hf,hnm,_,_,_⟩:=zbp hc
 obtain⟨h1,h2,h3,h4⟩:=zbx hf (a:=0) (c:=0) (r:=4) (by rw[ht];rfl)
 have h4:=h4 (by decide)
 have e1:=zbA h1
 have e2:=zbA h2
 obtain⟨ps,hps⟩:∃ps,(d.raw.map fun c=>Lib.decDigits c.toNat)=ps:=⟨_,rfl⟩
 have hp4:ps.length=4:=by rw[←hps,List.length_map];omega
 have hpd:∀p∈ps,p≠ []∧p.length≤20∧∀c∈p,digB c=true:=fun p hp=>by
  rw[←hps]at hp
  obtain⟨c,_,rfl⟩:=List.mem_map.1 hp
  have hcl:=c.toNat_lt
  exact⟨zfY _,by have:=zbo 19 c.toNat (by omega);omega,zbY _⟩
 have hch:∀c∈zaM [46] ps,c≠92∧c≠34∧c≠32:=zes (by decide) fun p hp c hc=>by
  have:=zez ((hpd p hp).2.2 c hc)
  exact⟨this.1,this.2.1,this.2.2.1⟩
 have hne:zaM [46] ps≠ []:=zfq (fun e=>by rw[e]at hp4;cases hp4) fun p hp=>(hpd p hp).1
 have hlen:(zaM [46] ps).length≤1000:=by
  have:=za4 [46] ps
  have h2:=zcg (m:=20) (l:=ps) fun p hp=>(hpd p hp).2.1
  simp at this;omega
 rw[zly hf ht,hps,zcb (zfz hne hch)]at hr
 have hsp:SplC 46 (zaM [46] ps) ps:=by
  cases ps with
  |nil=>cases hp4
  |cons p r=>exact zfF 46 r p fun x hx e=>absurd ((hpd x hx).2.2 46 e) (by decide)
 rw[ht]
 refine PkG (by decide) (by decide) hr fun b w1 h=>?_
 rw[if_neg (by rw[zhd fun c hc=>(hch c hc).1];decide)]
 refine Fn.mono (own1_ok hW h (by omega) hsp.p (by omega) fun p hp=>by have:=(hpd p hp).2.1;omega) ?_
 rintro _ w' ⟨⟨rv,rfl,hown⟩,hR,hk⟩
 rw[if_pos hp4,if_neg (by decide),←hps,zit]at hR
 have hrow:ps.map octP=d.raw.map zao:=by
  rw[←hps,List.map_map]
  exact List.map_congr_left fun c _=>octP_dec c
 rw[hrow]at hown
 exact⟨⟨_,rfl,fun X hX=>⟨_,_,_,_,by rw[ht],by rw[e1];exact zb9 X,by rw[e2];exact zco X,by rw[h3];exact zco X,zfM hown X hX⟩⟩,hR,hk⟩
theorem back28(hW:WX w)(hc:zbv d=0)(ht:d.ty=28)(hr:Rows 2 WdC w wv (wF false (za5 hexU d) [] false)):Fn Tryz.prog 166 #[vi d.ty,wv,.slice oa on oc] w (fun v w'=>Ext w w'∧∃cs:List Value,v= .tuple #[.agg cs.toArray,vi 0]∧GD d w.heap.size cs w'):=by
 obtain⟨⟨t1,t2⟩,hf,hnm,_,_,_⟩:=zbp hc
 obtain⟨h1,h2,h3,_⟩:=zbx hf (a:=0) (c:=0) (r:=16) (by rw[ht];rfl)
 have e1:=zbA h1
 have e2:=zbA h2
 obtain⟨h16,htx⟩:=tx_28 hf ht
 obtain⟨ps,hps⟩:∃ps,(List.range 8).map (zh0 d.raw)=ps:=⟨_,rfl⟩
 have hp8:ps.length=8:=by rw[←hps];rfl
 have hpd:∀p∈ps,p≠ []∧p.length≤4∧∀c∈p,∃j,j<16∧c=hexD j:=fun p hp=>by
  rw[←hps]at hp
  obtain⟨i,_,rfl⟩:=List.mem_map.1 hp
  unfold zh0
  have g1:=(d.raw.getD (2*i) 0).toNat_lt
  have g2:=(d.raw.getD (2*i+1) 0).toNat_lt
  exact⟨zmD _,zcX 3 _ (by omega),zhl _ _ (Nat.le_refl _)⟩
 have hpc:∀p∈ps,∀c∈p,c≠92∧c≠34∧c≠32∧c≠58∧c∈digs16∧(hexV c).isSome=true:=fun p hp c hc=>by
  obtain⟨j,hj,rfl⟩:=(hpd p hp).2.2 c hc
  obtain⟨a1,a2,a3,a4,a5,a6⟩:=zdE j hj
  exact⟨a4,a5,a6,a3,a2,by rw[a1];rfl⟩
 have hch:∀c∈zaM [58] ps,c≠92∧c≠34∧c≠32:=zes (by decide) fun p hp c hc=>by
  have:=hpc p hp c hc
  exact⟨this.1,this.2.1,this.2.2.1⟩
 have hne:zaM [58] ps≠ []:=zfq (fun e=>by rw[e]at hp8;cases hp8) fun p hp=>(hpd p hp).1
 have hlen:(zaM [58] ps).length≤1000:=by
  have:=za4 [58] ps
  have h2:=zcg (m:=4) (l:=ps) fun p hp=>(hpd p hp).2.1
  simp at this;omega
 rw[htx,hps,zcb (zfz hne hch)]at hr
 have hsp:SplC 58 (zaM [58] ps) ps:=by
  cases ps with
  |nil=>cases hp8
  |cons p r=>exact zfF 58 r p fun x hx e=>(hpc x hx 58 e).2.2.2.1 rfl
 rw[ht]
 refine PkG (by decide) (by decide) hr fun b w1 h=>?_
 rw[if_neg (by rw[zhd fun c hc=>(hch c hc).1];decide)]
 refine Fn.mono (own28_ok hW h (by omega) hsp hp8 fun p hp=>⟨(hpd p hp).1,(hpd p hp).2.1,fun c hc=>(hpc p hp c hc).2.2.2.2⟩) ?_
 rintro _ w' ⟨⟨rv,rfl,hown⟩,hR,hk⟩
 have hrow:ps.flatMap zh9=d.raw:=by
  rw[←zlZ d.raw h16,←hps,List.flatMap_map]
  refine zgH fun i _=>?_
  have g1:=(d.raw.getD (2*i) 0).toNat_lt
  have g2:=(d.raw.getD (2*i+1) 0).toNat_lt
  unfold zh9 zh0
  rw[zjW _ _ (Nat.le_refl _)]
  rw[show ((d.raw.getD (2*i) 0).toNat*256+(d.raw.getD (2*i+1) 0).toNat) / 256=(d.raw.getD (2*i) 0).toNat by omega,show((d.raw.getD (2*i) 0).toNat*256+(d.raw.getD (2*i+1) 0).toNat) % 256=(d.raw.getD (2*i+1) 0).toNat by omega]
  simp
 rw[hrow]at hown
 exact⟨⟨_,rfl,fun X hX=>⟨_,_,_,_,by rw[ht],by rw[e1];exact zb9 X,by rw[e2];exact zco X,by rw[h3];exact zco X,zfM hown X hX⟩⟩,hR,hk⟩
theorem back16(hc:zbv d=0)(ht:d.ty=16)(hr:Rows 2 WdC w wv (wF false (za5 hexU d) [] false)):Fn Tryz.prog 166 #[vi d.ty,wv,.slice oa on oc] w (fun v w'=>Ext w w'∧∃cs:List Value,v= .tuple #[.agg cs.toArray,vi 0]∧GD d w.heap.size cs w'):=by
 obtain⟨⟨t1,t2⟩,hf,hnm,_,_,htl⟩:=zbp hc
 obtain⟨h1,h2,h3,h4⟩:=zeT hf
 unfold txD at h3
 unfold rwD at h4
 rw[ht]at h1 h2 h3 h4
 have e1:=zbA h1
 have e2:=zbA h2
 have e4:=zbA (show(d.raw.length:Int)=0 from h4)
 rw[if_pos (by decide)]at h3
 rw[tx_16 hf ht,ziU]at hr
 rw[ht]
 refine PkG (by decide) (by decide) hr fun b w1 h=>?_
 have hne:d.texts≠ []:=fun e=>by rw[e,List.length_nil]at h3;omega
 have hmk:zcY (d.texts.map fun t=>(quoL t,true))=false:=by
  cases hx:d.texts with
  |nil=>exact absurd hx hne
  |cons t r=>exact zi7 (.inl rfl)
 rw[if_neg (by rw[hmk];decide)]
 refine Fn.mono (own16_ok h (by rw[List.length_map];omega) (by rw[List.length_map];omega) fun x hx=>?_) ?_
 ·obtain⟨t,htm,rfl⟩:=List.mem_map.1 hx
  have:=htl t htm
  have h5:=zeh t
  show(quoL t).length≤_
  omega
 rintro _ w' ⟨⟨tv,rfl,hown⟩,hR,hk⟩
 have hun:∀t,unD [] 0 (quoL t) []=(t,0):=fun t=>by rw[zlw,List.nil_append]
 have herr:zis 0 (d.texts.map fun t=>(quoL t,true))=0:=by
  have:∀l:List Lab,(∀t∈l,t.length≤255)→zis 0 (l.map fun t=>(quoL t,true))=0:=fun l=>by
   induction l with
   |nil=>intro _;rfl
   |cons t l ih=>
    intro h
    have h6:errT (quoL t)=0:=by
     unfold errT
     rw[hun]
     have:=h t (List.mem_cons_self ..)
     show(if (0:Int)=0∧255<t.length then(3:Int) else 0)=0
     rw[if_neg (by omega)]
    have ih':=ih fun x hx=>h x (List.mem_cons_of_mem _ hx)
    unfold zis at*
    rw[List.map_cons,List.foldl_cons,h6]
    exact ih'
  exact this _ htl
 rw[herr]at hR
 have hrow:((d.texts.map fun t=>(quoL t,true)).map fun x=>untT x.1)=d.texts:=by
  rw[List.map_map]
  have:∀t∈d.texts,((fun x:Lab×Bool=>untT x.1)∘fun t=>(quoL t,true)) t=t:=fun t _=>by
   show(unD [] 0 (quoL t) []).1=t
   rw[hun]
  rw[List.map_congr_left this,List.map_id']
 rw[hrow]at hown
 exact⟨⟨_,rfl,fun X hX=>⟨_,_,_,_,by rw[ht],by rw[e1];exact zb9 X,by rw[e2];exact zco X,zfM hown X hX,by rw[e4];exact zco X⟩⟩,hR,hk⟩
theorem back15(hW:WX w)(ho:Row w (.slice oa on oc) (o.map vs))(hoT:NmT o)(hc:zbv d=0)(hT:DatT d)(ht:d.ty=15)(hr:Rows 2 WdC w wv (wF false (za5 hexU d) [] false)):Fn Tryz.prog 166 #[vi d.ty,wv,.slice oa on oc] w (fun v w'=>Ext w w'∧∃cs:List Value,v= .tuple #[.agg cs.toArray,vi 0]∧GD d w.heap.size cs w'):=by
 obtain⟨_,hf,hnm,hmx,_,_⟩:=zbp hc
 obtain⟨m,n,hm,hn,htx⟩:=tx_15 hf ht
 obtain⟨h1,h2,h3,h4⟩:=zbx hf (a:=1) (c:=1) (r:=0) (by rw[ht];rfl)
 have e4:=zbA (h4 (by decide))
 have hm2:m≤65535:=by have:=hmx ht;rw[hm]at this;exact this
 have hm1:=hT.s.nv m (by rw[hm];simp)
 have hn0:=hnm n (by rw[hn];simp)
 have hnS:=hT.s.names n (by rw[hn];simp)
 have hx:=zec hn0
 have hnl:=zcT hm1.2
 obtain⟨k,rfl⟩:∃k:Nat,m=(k:Int):=⟨m.toNat,by omega⟩
 have hdk:decP 65535 (numT (k:Int))=(k,0):=zcq (by omega)
 have hd:∀c∈numT (k:Int),c≠92:=fun c hc=>(zez (zbY k c hc)).1
 rw[htx,List.append_assoc,zcO (show Tok (numT (k:Int)) from zdT k),zcb (zfh n)]at hr
 rw[ht]
 refine PkG (by decide) (by decide) hr fun b w1 h=>?_
 rw[if_neg (by rw[zhd hd];decide)]
 refine Fn.mono (own15_ok (e1:=0) (e2:=0) hW h (by have:(numT (k:Int)).length≤20:=hnl;omega) (by omega) ho hoT (by rw[hdk];rfl) (by rw[zeo hn0];rfl)) ?_
 rintro _ w' ⟨⟨nmv,nuv,nv,rfl,a1,a2,a3,a4⟩,hR,hk⟩
 rw[show (za6 (zaV n) o).1=n from by rw[zeo hn0]]at a3
 rw[hdk]at a1
 refine⟨⟨_,rfl,fun X hX=>⟨_,_,_,_,by rw[ht],?_,by rw[hm];exact zfM a1 X hX,by rw[h3];exact zco X,by rw[e4];exact zco X⟩⟩,hR,hk⟩
 rw[hn]
 exact zh6 (zfM a2 X hX) (a3.blocks fun a n c hv=>hX.block _ (a4 a n c hv).2 (by have:=(a4 a n c hv).1;omega))
theorem backN(hW:WX w)(ho:Row w (.slice oa on oc) (o.map vs))(hoT:NmT o)(hc:zbv d=0)(hT:DatT d)(ht:d.ty=2∨d.ty=5∨d.ty=12∨d.ty=39∨d.ty=6)(hr:Rows 2 WdC w wv (wF false (za5 hexU d) [] false)):Fn Tryz.prog 166 #[vi d.ty,wv,.slice oa on oc] w (fun v w'=>Ext w w'∧∃cs:List Value,v= .tuple #[.agg cs.toArray,vi 0]∧GD d w.heap.size cs w'):=by
 obtain⟨⟨t1,t2⟩,hf,hnm,_,_,_⟩:=zbp hc
 obtain⟨a,c,hsh,hac⟩:∃a c:Int,zaJ d.ty=(a,c,0,0)∧1≤a∧a≤5∧0≤c∧c≤5:=by
  rcases ht with h|h|h|h|h<;>rw[h]
  ·exact⟨1,0,rfl,by decide⟩
  ·exact⟨1,0,rfl,by decide⟩
  ·exact⟨1,0,rfl,by decide⟩
  ·exact⟨1,0,rfl,by decide⟩
  ·exact⟨2,5,rfl,by decide⟩
 obtain⟨h1,h2,h3,h4⟩:=zbx hf hsh
 have e4:=zbA (h4 (by decide))
 have htk:∀p∈d.names.map zaV++d.nums.map numT,Tok p:=fun p hp=>by
  rcases List.mem_append.1 hp with h|h
  ·obtain⟨n,_,rfl⟩:=List.mem_map.1 h
   exact zfh n
  ·obtain⟨m,_,rfl⟩:=List.mem_map.1 h
   exact zdT m.toNat
 rw[zgX hf ht,ziV _ htk,List.map_append,List.map_map,List.map_map]at hr
 refine PkG t1 t2 hr fun b w1 h=>?_
 have hmk:zcY (d.names.map ((fun p=>(p,false))∘zaV)++d.nums.map ((fun p=>(p,false))∘numT))=false:=by
  cases hx:d.names with
  |nil=>rw[hx]at h1;simp at h1;omega
  |cons n r=>
   refine zi7 (.inr fun e=>?_)
   have h5:(zaV n).getLast? =some 46:=by
    unfold zaV
    split
    ·rfl
    ·rename_i hn
     have:∀n:Nm,n≠ []→(n.flatMap fun l=>zau l++ [46]).getLast? =some 46:=fun n=>by
      induction n with
      |nil=>intro h;exact absurd rfl h
      |cons l n ih=>
       intro _
       rw[List.flatMap_cons]
       cases n with
       |nil=>simp
       |cons m n=>rw[List.getLast?_append,ih (by simp)];rfl
     exact this n hn
   have e2:zaV n=[92,35]:=e
   rw[e2]at h5
   cases h5
 rw[if_neg (by rw[hmk];decide)]
 refine Fn.mono (ownN_ok (tx:=zaV) hW (by omega) (by rw[hsh,←h1,←h2]) (by omega) (by omega) h ho hoT (fun n hn=>?_) (fun m hm=>?_)) ?_
 ·have:=hT.s.names n hn
  exact⟨zeo (hnm n hn),by have:=zcd this.1 this.2;omega,trivial⟩
 ·have:=hT.s.nv m hm
  exact⟨⟨zcq (by omega),by omega⟩,by have:=zcT this.2;omega⟩
 rintro _ w' ⟨⟨nmv,nuv,rfl,a1,a2⟩,hR,hk⟩
 refine⟨⟨_,rfl,fun X hX=>⟨_,_,_,_,rfl,a2 X hX,zfM a1 X hX,by rw[h3];exact zco X,by rw[e4];exact zco X⟩⟩,hR,hk⟩
theorem backA(hW:WX w)(hc:zbv d=0)(ht:¬(d.ty=1∨d.ty=28∨d.ty=16∨d.ty=15∨d.ty=2∨d.ty=5∨d.ty=12∨d.ty=39∨d.ty=6))(hr:Rows 2 WdC w wv (wF false (za5 hexU d) [] false)):Fn Tryz.prog 166 #[vi d.ty,wv,.slice oa on oc] w (fun v w'=>Ext w w'∧∃cs:List Value,v= .tuple #[.agg cs.toArray,vi 0]∧GD d w.heap.size cs w'):=by
 obtain⟨⟨t1,t2⟩,hf,hnm,_,hrl,_⟩:=zbp hc
 have hsh:zaJ d.ty=(0,0,0, -1):=by
  unfold zaJ
  rw[if_neg (by omega),if_neg (by omega),if_neg (by omega),if_neg (by omega),if_neg (by omega),if_neg (by omega)]
 obtain⟨h1,h2,h3,_⟩:=zbx hf hsh
 have e1:=zbA h1
 have e2:=zbA h2
 have hd:d=rawD d.ty d.raw:=by
  cases d
  simp only at e1 e2 h3
  rw[e1,e2,h3]
  rfl
 obtain⟨rest,hrest⟩:∃r,(if 0<d.raw.length then [(hexT d.raw,false)] else [])=r:=⟨_,rfl⟩
 have hmt:Tok [92,35]:=⟨by simp,fun s w=>zeF 35 s w false⟩
 have hhx:∀c∈hexT d.raw,c≠92∧c≠34∧c≠32∧c∈digs16:=fun c hc=>by
  obtain⟨x,_,hx⟩:=List.mem_flatMap.1 hc
  have hxl:=x.toNat_lt
  simp only[hexB,List.mem_cons,List.not_mem_nil,or_false]at hx
  rcases hx with rfl|rfl
  ·have:=zdE (x.toNat / 16) (by omega);exact⟨this.2.2.2.1,this.2.2.2.2.1,this.2.2.2.2.2,this.2.1⟩
  ·have:=zdE (x.toNat % 16) (by omega);exact⟨this.2.2.2.1,this.2.2.2.2.1,this.2.2.2.2.2,this.2.1⟩
 have htk:wF false (za5 hexU d) [] false=([92,35],false)::(Lib.decDigits d.raw.length,false)::rest:=by
  rw[zlz hf ht,←hrest]
  by_cases h0:0<d.raw.length
  ·rw[if_pos h0,if_pos h0]
   have e:([92,35,32]++Lib.decDigits d.raw.length++ [32])++hexT d.raw=[92,35]++([32]++(Lib.decDigits d.raw.length++([32]++hexT d.raw))):=by simp
   have hne:hexT d.raw≠ []:=fun e=>by have:=zcp d.raw;rw[e]at this;simp at this;omega
   rw[e,zcO hmt,zcO (zdT _),zcb (zfz hne fun c hc=>⟨(hhx c hc).1,(hhx c hc).2.1,(hhx c hc).2.2.1⟩)]
  ·rw[if_neg h0,if_neg h0]
   have hr0:d.raw=[]:=List.length_eq_zero_iff.1 (by omega)
   have e:([92,35,32]++Lib.decDigits d.raw.length++ [])++hexT d.raw=[92,35]++([32]++Lib.decDigits d.raw.length):=by rw[hr0];simp[hexT]
   rw[e,zcO hmt,zcb (zdT _)]
 rw[htk]at hr
 have hcat:catW rest=hexT d.raw:=by
  rw[←hrest]
  by_cases h0:0<d.raw.length
  ·rw[if_pos h0];simp[catW]
  ·rw[if_neg h0,List.length_eq_zero_iff.1 (show d.raw.length=0 by omega)];rfl
 have hdl:=zbo 19 d.raw.length (by omega)
 refine PkG t1 t2 hr fun b w1 h=>?_
 rw[if_pos (show zcY _=true from rfl)]
 have hrs:∀x∈rest,x=(hexT d.raw,false):=fun x hx=>by
  rw[←hrest]at hx
  split at hx
  ·exact List.mem_singleton.1 hx
  ·cases hx
 have hrl2:rest.length≤1:=by rw[←hrest];split<;>simp
 have hpr:Pairs (catW rest) d.raw:=by
  rw[hcat]
  refine⟨zcp _,fun i hi k1 k2=>?_⟩
  have:∀(l:List UInt8) (i:Nat) (h:i<l.length),(hexT l)[2*i]? =some (hexD (l[i].toNat / 16))∧(hexT l)[2*i+1]? =some (hexD (l[i].toNat % 16)):=fun l=>by
   induction l with
   |nil=>intro i h;simp at h
   |cons c l ih=>
    intro i h
    have e:hexT (c::l)=hexD (c.toNat / 16)::hexD (c.toNat % 16)::hexT l:=rfl
    cases i with
    |zero=>rw[e];exact⟨rfl,rfl⟩
    |succ j=>
     have:=ih j (by simpa using h)
     rw[e,show 2*(j+1)=2*j+1+1 by omega]
     simpa using this
  obtain⟨g1,g2⟩:=this d.raw i hi
  have hcl:=d.raw[i].toNat_lt
  rw[List.getElem?_eq_getElem k1]at g1
  rw[List.getElem?_eq_getElem k2]at g2
  rw[Option.some.inj g1,Option.some.inj g2]
  exact⟨_,_,(zdE _ (by omega)).1,(zdE _ (by omega)).1,by omega⟩
 refine Fn.mono (any_ok (n:=d.raw.length) hW h d.ty (by rw[hsh];decide) (by omega) (by omega) (zcq (by omega)) hrl (fun x hx=>?_) (by rw[hcat];exact zjx fun c hc=>(hhx c hc).2.2.2) (by rw[hcat];exact zcp _) hpr) ?_
 ·rw[hrs x hx]
  have:=zcp d.raw
  exact⟨rfl,by show(hexT d.raw).length≤_;omega⟩
 rintro _ w' ⟨⟨rv,rfl,hown⟩,hR,hk⟩
 rw[←hd,hc]at hR
 exact⟨⟨_,rfl,fun X hX=>⟨_,_,_,_,rfl,by rw[e1];exact zb9 X,by rw[e2];exact zco X,by rw[h3];exact zco X,zfM hown X hX⟩⟩,hR,hk⟩
theorem back_ok(hW:WX w)(ho:Row w (.slice oa on oc) (o.map vs))(hoT:NmT o)(hc:zbv d=0)(hT:DatT d)(hr:Rows 2 WdC w wv (wF false (za5 hexU d) [] false)):Fn Tryz.prog 166 #[vi d.ty,wv,.slice oa on oc] w (fun v w'=>Ext w w'∧∃cs:List Value,v= .tuple #[.agg cs.toArray,vi 0]∧GD d w.heap.size cs w'):=by
 by_cases h1:d.ty=1
 ·exact back1 hW hc h1 hr
 by_cases h28:d.ty=28
 ·exact back28 hW hc h28 hr
 by_cases h16:d.ty=16
 ·exact back16 hc h16 hr
 by_cases h15:d.ty=15
 ·exact back15 hW ho hoT hc hT h15 hr
 by_cases hn:d.ty=2∨d.ty=5∨d.ty=12∨d.ty=39∨d.ty=6
 ·exact backN hW ho hoT hc hT hn hr
 ·exact backA hW hc (by omega) hr
end
def prnB(c:UInt8):Bool:=decide (32≤c.toNat) && decide (c.toNat<127)
def Prn(s:Lab):Prop:=∀c∈s,prnB c=true
theorem Prn.app{s t:Lab}(h:Prn s)(k:Prn t):Prn (s++t):=fun c hc=>(List.mem_append.1 hc).elim (h c) (k c)
theorem zej{α:Type}{f:α→Lab}{l:List α}(h:∀x∈l,Prn (f x)):Prn (l.flatMap f):=fun c hc=>by
 obtain⟨x,hx,hc⟩:=List.mem_flatMap.1 hc
 exact h x hx c hc
def zk6:Lab→Bool
 | []=>true
 |92::_::r=>zk6 r
 |c::r=>!stopsL.contains c && c !=92 && zk6 r
def zkD:Lab→Bool
 | []=>true
 |92::_::r=>zkD r
 |c::r=>c !=34 && c !=92 && zkD r
theorem zc3:∀(k:Nat) (p:Lab),p.length≤k→zk6 p=true→BareW p
 |_,[],_,_=> .nil
 |0,_::_,h,_=>by simp at h
 |k+1,c::r,hl,h=>by
  by_cases hc:c=92
  ·subst hc
   cases r with
   |nil=>exact absurd h (by decide)
   |cons d r=>exact .pair d r (zc3 k r (by simp at hl;omega) h)
  ·have h2:(!stopsL.contains c && c !=92 && zk6 r)=true:=by
    unfold zk6 at h
    split at h
    ·rename_i e;cases e
    ·rename_i e;injection e with e;exact absurd e hc
    ·rename_i e;injection e with e1 e2;rw[e1,e2];exact h
   simp only[Bool.and_eq_true,Bool.not_eq_true',bne_iff_ne]at h2
   refine .one c r (fun hm=>?_) hc (zc3 k r (by simp at hl;omega) h2.2)
   have:=List.contains_iff_mem.2 hm
   rw[h2.1.1]at this;cases this
theorem zg6:∀(k:Nat) (p:Lab),p.length≤k→zkD p=true→QuotW p
 |_,[],_,_=> .nil
 |0,_::_,h,_=>by simp at h
 |k+1,c::r,hl,h=>by
  by_cases hc:c=92
  ·subst hc
   cases r with
   |nil=>exact absurd h (by decide)
   |cons d r=>exact .pair d r (zg6 k r (by simp at hl;omega) h)
  ·have h2:(c !=34 && c !=92 && zkD r)=true:=by
    unfold zkD at h
    split at h
    ·rename_i e;cases e
    ·rename_i e;injection e with e;exact absurd e hc
    ·rename_i e;injection e with e1 e2;rw[e1,e2];exact h
   simp only[Bool.and_eq_true,bne_iff_ne]at h2
   exact .one c r h2.1.1 hc (zg6 k r (by simp at hl;omega) h2.2)
theorem BareW.app{p q:Lab}(h:BareW p)(k:BareW q):BareW (p++q):=by
 induction h with
 |nil=>exact k
 |pair d r _ ih=>exact .pair d _ ih
 |one c r h1 h2 _ ih=>exact .one c _ h1 h2 ih
theorem QuotW.app{p q:Lab}(h:QuotW p)(k:QuotW q):QuotW (p++q):=by
 induction h with
 |nil=>exact k
 |pair d r _ ih=>exact .pair d _ ih
 |one c r h1 h2 _ ih=>exact .one c _ h1 h2 ih
theorem zdw{α:Type}{f:α→Lab}:∀{l:List α},(∀x∈l,BareW (f x))→BareW (l.flatMap f)
 | [],_=> .nil
 |x::l,h=>by rw[List.flatMap_cons];exact(h x (List.mem_cons_self ..)).app (zdw fun y hy=>h y (List.mem_cons_of_mem _ hy))
theorem zfp(c:UInt8):BareW (labB c)∧Prn (labB c):=by
 have h:=zcA (P:=fun c=>zk6 (labB c)=true∧(labB c).all prnB=true) (by decide+kernel) c
 exact⟨zc3 _ _ (Nat.le_refl _) h.1,fun x hx=>List.all_eq_true.1 h.2 x hx⟩
theorem zjG(c:UInt8):QuotW (quoB c)∧Prn (quoB c):=by
 have h:=zcA (P:=fun c=>zkD (quoB c)=true∧(quoB c).all prnB=true) (by decide+kernel) c
 exact⟨zg6 _ _ (Nat.le_refl _) h.1,fun x hx=>List.all_eq_true.1 h.2 x hx⟩
theorem zeg:∀l:Lab,QuotW (quoL l)∧Prn (quoL l)
 | []=>⟨.nil,fun _ h=>by cases h⟩
 |c::l=>by
  have e:quoL (c::l)=quoB c++quoL l:=by unfold quoL;rw[List.flatMap_cons]
  rw[e]
  exact⟨(zjG c).1.app (zeg l).1,(zjG c).2.app (zeg l).2⟩
structure TkB(p:Lab):Prop where
 t:Tok p
 b:BareW p
 p:Prn p
def plnB(c:UInt8):Bool:=prnB c && !stopsL.contains c && c !=92
theorem zcx{p:Lab}(h0:p≠ [])(h:∀c∈p,plnB c=true):TkB p:=by
 have key:∀c,plnB c=true→prnB c=true∧(c∉stopsL)∧c≠92:=fun c h=>by
  unfold plnB at h
  simp only[Bool.and_eq_true,Bool.not_eq_true',bne_iff_ne]at h
  exact⟨h.1.1,fun hm=>(by have:=List.contains_iff_mem.2 hm;rw[h.1.2]at this;cases this),h.2⟩
 refine⟨zfz h0 fun c hc=>?_,?_,fun c hc=>(key c (h c hc)).1⟩
 ·obtain⟨_,h1,h2⟩:=key c (h c hc)
  exact⟨h2,(fun e=>h1 (by rw[e];decide)),fun e=>h1 (by rw[e];decide)⟩
 ·have:∀q:Lab,(∀c∈q,plnB c=true)→BareW q:=fun q=>by
   induction q with
   |nil=>intro _;exact .nil
   |cons c q ih=>intro h;exact .one c q (key c (h c (List.mem_cons_self ..))).2.1 (key c (h c (List.mem_cons_self ..))).2.2 (ih fun x hx=>h x (List.mem_cons_of_mem _ hx))
  exact this p h
theorem zji{c:UInt8}(h:digB c=true):plnB c=true:=zcA (P:=fun c=>digB c=true→plnB c=true) (by decide+kernel) c h
theorem zi9{j:Nat}(h:j<16):plnB (hexD j)=true:=by
 have:∀j:Fin 16,plnB (hexD j.val)=true:=by decide+kernel
 exact this ⟨j,h⟩
theorem zcy(n:Nat):TkB (Lib.decDigits n):=zcx (zfY n) fun c hc=>zji (zbY n c hc)
theorem zea(n:Nm):TkB (zaV n):=by
 have hb:BareW (zaV n)∧Prn (zaV n):=by
  unfold zaV
  split
  ·exact⟨zc3 1 _ (by decide) (by decide),by unfold Prn;decide⟩
  ·refine⟨zdw fun l _=>BareW.app (zdw fun c _=>(zfp c).1) (zc3 1 _ (by decide) (by decide)),zej fun l _=>Prn.app (zej fun c _=>(zfp c).2) (by unfold Prn;decide)⟩
 exact⟨zfh n,hb.1,hb.2⟩
theorem zjL{sep:Lab}{ps:List Lab}(h0:Prn sep)(h:∀p∈ps,Prn p):Prn (zaM sep ps):=by
 cases ps with
 |nil=>intro c hc;cases hc
 |cons p r=>exact(h p (List.mem_cons_self ..)).app (zej fun y hy=>h0.app (h y (List.mem_cons_of_mem _ hy)))
theorem zbZ{p:Lab}(h:TkB p):Toks p [(p,false)]:=by
 have:=Toks.word p [] [] h.t.1 h.b (.inl rfl) .nil
 rwa [List.append_nil]at this
theorem zbl{p s:Lab}{ws:List (Lab×Bool)}(h:TkB p)(hs:Toks s ws):Toks (p++([32]++s)) ((p,false)::ws):=Toks.word p (32::s) ws h.t.1 h.b (.inr ⟨32,s,rfl,by decide⟩) (.blank 32 s ws (.inl rfl) hs)
theorem zhI:∀ps:List Lab,(∀p∈ps,TkB p)→Toks (zaM [32] ps) (ps.map fun p=>(p,false))
 | [],_=> .nil
 | [p],h=>by rw[zbX];exact zbZ (h p (List.mem_cons_self ..))
 |p::q::r,h=>by
  rw[zaP]
  exact zbl (h p (List.mem_cons_self ..)) (zhI (q::r) fun x hx=>h x (List.mem_cons_of_mem _ hx))
theorem zjy(t s:Lab)(ws:List (Lab×Bool))(hs:Toks s ws):Toks (quoT t++s) ((quoL t,true)::ws):=by
 have:=Toks.quot (quoL t) s ws (zeg t).1 hs
 unfold quoT
 rw[show (34::(quoL t++ [34]))++s=34::(quoL t++34::s) by simp]
 exact this
theorem zhH:∀ts:List Lab,Toks (zaM [32] (ts.map quoT)) (ts.map fun t=>(quoL t,true))
 | []=> .nil
 | [t]=>by
  rw[List.map_singleton,zbX]
  have:=zjy t [] [] .nil
  rwa [List.append_nil]at this
 |t::u::r=>by
  rw[List.map_cons,List.map_cons,zaP]
  exact zjy t _ _ (.blank 32 _ _ (.inl rfl) (by have:=zhH (u::r);rw[List.map_cons]at this;exact this))
theorem prn_quoT(t:Lab):Prn (quoT t):=by
 unfold quoT
 intro c hc
 rcases List.mem_cons.1 hc with rfl|hc
 ·decide
 ·exact((zeg t).2.app (by unfold Prn;decide)) c hc
theorem zfZ{d:DatL}(hc:zbv d=0):Toks (za5 hexU d) (wF false (za5 hexU d) [] false)∧Prn (za5 hexU d):=by
 obtain⟨⟨t1,t2⟩,hf,hnm,_,_,_⟩:=zbp hc
 by_cases h1:d.ty=1
 ·obtain⟨_,_,_,h4⟩:=zbx hf (a:=0) (c:=0) (r:=4) (by rw[h1];rfl)
  have h4:=h4 (by decide)
  have tk:TkB (zaM [46] (d.raw.map fun c=>Lib.decDigits c.toNat)):=by
   refine zcx (zfq (fun e=>?_) fun p hp=>?_) (zes (Q:=fun c=>plnB c=true) (by decide) fun p hp c hc=>?_)
   ·have:=congrArg List.length e
    rw[List.length_map]at this
    simp at this;rw[this]at h4;simp at h4
   ·obtain⟨c,_,rfl⟩:=List.mem_map.1 hp;exact zfY _
   ·obtain⟨x,_,rfl⟩:=List.mem_map.1 hp;exact zji (zbY _ c hc)
  rw[zly hf h1,zcb tk.t]
  exact⟨zbZ tk,tk.p⟩
 by_cases h28:d.ty=28
 ·obtain⟨h16,htx⟩:=tx_28 hf h28
  have tk:TkB (zaM [58] ((List.range 8).map (zh0 d.raw))):=by
   refine zcx (zfq (by simp) fun p hp=>?_) (zes (Q:=fun c=>plnB c=true) (by decide) fun p hp c hc=>?_)
   ·obtain⟨i,_,rfl⟩:=List.mem_map.1 hp;exact zmD _
   ·obtain⟨i,_,rfl⟩:=List.mem_map.1 hp
    obtain⟨j,hj,rfl⟩:=zhl _ _ (Nat.le_refl _) c hc
    exact zi9 hj
  rw[htx,zcb tk.t]
  exact⟨zbZ tk,tk.p⟩
 by_cases h16:d.ty=16
 ·rw[tx_16 hf h16,ziU]
  exact⟨zhH _,zjL (by unfold Prn;decide) fun p hp=>by obtain⟨t,_,rfl⟩:=List.mem_map.1 hp;exact prn_quoT t⟩
 by_cases h15:d.ty=15
 ·obtain⟨m,n,_,_,htx⟩:=tx_15 hf h15
  rw[htx,List.append_assoc,zcO (show Tok (numT m) from zdT m.toNat),zcb (zfh n)]
  exact⟨zbl (zcy m.toNat) (zbZ (zea n)),(zcy m.toNat).p.app (Prn.app (by unfold Prn;decide) (zea n).p)⟩
 by_cases hn:d.ty=2∨d.ty=5∨d.ty=12∨d.ty=39∨d.ty=6
 ·have htk:∀p∈d.names.map zaV++d.nums.map numT,TkB p:=fun p hp=>by
   rcases List.mem_append.1 hp with h|h
   ·obtain⟨n,_,rfl⟩:=List.mem_map.1 h
    exact zea n
   ·obtain⟨m,_,rfl⟩:=List.mem_map.1 h
    exact zcy m.toNat
  rw[zgX hf hn,ziV _ fun p hp=>(htk p hp).t]
  exact⟨zhI _ htk,zjL (by unfold Prn;decide) fun p hp=>(htk p hp).p⟩
 ·have hmt:TkB [92,35]:=⟨⟨by simp,fun s w=>zeF 35 s w false⟩,zc3 2 _ (by decide) (by decide),by unfold Prn;decide⟩
  have hxp:∀c∈hexT d.raw,plnB c=true:=fun c hc=>by
   obtain⟨x,_,hx⟩:=List.mem_flatMap.1 hc
   have hxl:=x.toNat_lt
   simp only[hexB,List.mem_cons,List.not_mem_nil,or_false]at hx
   rcases hx with rfl|rfl
   ·exact zi9 (by omega)
   ·exact zi9 (by omega)
  rw[zlz hf (by omega)]
  by_cases h0:0<d.raw.length
  ·have hne:hexT d.raw≠ []:=fun e=>by have:=zcp d.raw;rw[e]at this;simp at this;omega
   have tk:=zcx hne hxp
   rw[if_pos h0]
   have e:([92,35,32]++Lib.decDigits d.raw.length++ [32])++hexT d.raw=[92,35]++([32]++(Lib.decDigits d.raw.length++([32]++hexT d.raw))):=by simp
   rw[e,zcO hmt.t,zcO (zdT _),zcb tk.t]
   exact⟨zbl hmt (zbl (zcy _) (zbZ tk)),hmt.p.app (Prn.app (by unfold Prn;decide) ((zcy _).p.app (Prn.app (by unfold Prn;decide) tk.p)))⟩
  ·rw[if_neg h0]
   have hr0:d.raw=[]:=List.length_eq_zero_iff.1 (by omega)
   have e:([92,35,32]++Lib.decDigits d.raw.length++ [])++hexT d.raw=[92,35]++([32]++Lib.decDigits d.raw.length):=by rw[hr0];simp[hexT]
   rw[e,zcO hmt.t,zcb (zdT _)]
   exact⟨zbl hmt (zbZ (zcy _)),hmt.p.app (Prn.app (by unfold Prn;decide) (zcy _).p)⟩
set_option maxRecDepth 100000
def foldD(d:DatL):DatL:=⟨d.ty,d.names.map zaB,d.nums,d.texts,d.raw⟩
def moreD(d:DatL):DatL:=⟨d.ty,d.names,d.nums,d.texts++ [[120]],d.raw⟩
theorem few_D{d:DatL}(hf:DatF d)(hn:znq d):DatT d∧zhD d∧zhD (foldD d)∧zhD (moreD d):=by
 obtain⟨n1,n2,n3⟩:=hn
 obtain⟨f1,f2,f3,f4,f5⟩:=hf.f4
 have h8:=hf.n8
 have hnm:∀n∈d.names,NmT n:=fun n hn=>few_T (f5 n hn)
 have hok:zhD d:=⟨fun n hn=>⟨(hnm n hn).lb,by have:=(hnm n hn).2;omega⟩,by omega,by omega,by omega,n1,by omega⟩
 refine⟨⟨⟨hnm,by omega,by omega,n1,by omega,fun t ht=>by have:=f3 t ht;omega,by omega⟩,by omega⟩,hok,⟨fun n hn=>?_,?_,hok.nu,hok.nt,n1,hok.nr⟩,⟨hok.names,hok.nn,hok.nu,?_,n1,hok.nr⟩⟩
 ·obtain⟨x,hx,rfl⟩:=List.mem_map.1 hn
  have:=fold_T (hnm x hx)
  exact⟨this.lb,by have:=this.2;omega⟩
 ·show(d.names.map zaB).length≤_
  rw[List.length_map];omega
 ·show(d.texts++ [[120]]).length≤_
  rw[List.length_append,List.length_singleton];omega
set_option maxRecDepth 10000
theorem zhB{w:World}{cs:List Value}{r:RecL}(hr:RecAt w cs r)(hT:DatT r.dat)(ho:(∀l∈r.owner,l.length≤1000000000)∧r.owner.length≤1000000000):
  Fn Tryz.prog 17 #[.agg cs.toArray] w (fun v w'=>Ext w w'∧∃e:Int,v=vi e∧(e=0→zaL r.owner=0∧r.ttl≤2147483647∧zbv r.dat=0)):=by
 obtain⟨ow,ds,rfl,h1,h2⟩:=hr.ex
 obtain⟨b1,m1,e1,b2,m2,e2,b3,m3,e3,b4,m4,e4,hds⟩:=h2.open
 subst hds
 refine enter Tryz.func17 Tryz.ntmps17 rfl rfl ?_
 refine go trivial ?_
 refine zan ?_
 intro w1 hE1 hs1 hA
 have p0:zad w1 (some ⟨w.heap.size,0,Option.none⟩)=some ow:=zaa hA rfl
 have p1:zad w1 (some ⟨w.heap.size,1,Option.none⟩)=some (v32 r.ttl):=zaa hA rfl
 refine rc (an2 p0 Nat.add_zero) (zc7 w1 ow r.owner (h1.ext hE1) ho.1 ho.2) ?_
 rintro _ w2 ⟨rfl,hE2⟩
 have hE12:=hE1.trans hE2
 have p1':=zab hE2 p1
 have p2':zar w2 (some ⟨w.heap.size,2,Option.none⟩) 5=some [vi r.dat.ty,.slice b1 m1 e1,.slice b2 m2 e2,.slice b3 m3 e3,.slice b4 m4 e4]:=by
  have h7:=zal (n:=7) (l:=[ow,v32 r.ttl,vi r.dat.ty,.slice b1 m1 e1,.slice b2 m2 e2,.slice b3 m3 e3,.slice b4 m4 e4]) (Ext.at hE2 hA) rfl
  have:=zbI (m:=2) (k:=5) h7
  rw[zaZ]at this
  exact this
 by_cases h0:zaL r.owner=0
 rotate_left
 ·refine rgo (decide_eq_false h0) ?_
  refine rt0 Tryz.ntmps17 ?_
  exact⟨hE12,_,rfl,fun h=>absurd h h0⟩
 by_cases ht:(2147483647:Int)<r.ttl
 ·refine rgo (an4 (decide_eq_true h0) p1' (decide_eq_true ht) Nat.zero_add) ?_
  refine rt0 Tryz.ntmps17 ?_
  exact⟨hE12,7,rfl,fun h=>by cases h⟩
 refine rgo (an4 (decide_eq_true h0) p1' (decide_eq_false ht) Nat.zero_add) ?_
 refine rc (an2 p2' Nat.zero_add) (zld (h2.ext hE12) hT) ?_
 rintro _ w3 ⟨rfl,hE3⟩
 refine rgo trivial ?_
 refine rt0 Tryz.ntmps17 ?_
 exact⟨hE12.trans hE3,_,rfl,fun h=>⟨h0,by omega,h⟩⟩
structure RecG(r:RecL):Prop where
 few:few r.owner=true
 dat:DatF r.dat
 own:zaL r.owner=0
 ttl:0≤r.ttl∧r.ttl≤2147483647
 chk:zbv r.dat=0
 num:znq r.dat
theorem zlb{w:World}{lv:Value}{R:List RecL}(hl:Rows 7 (RecAt w) w lv R)(hn:∀r∈R,znp r):
  Fn Tryz.prog 5 #[lv] w (fun v w'=>Ext w w'∧∃b:Bool,v= .bool b∧(b=true→R.length≤60∧∀r∈R,RecG r)):=by
 obtain⟨aR,cR,rfl,hcR,hgR⟩:=hl.open
 refine enter Tryz.func5 Tryz.ntmps5 rfl rfl ?_
 refine go trivial ?_
 refine rc trivial (RsFew_ok (Keep.refl _ _) hl) ?_
 rintro _ w1 ⟨hE1,b,rfl,hb⟩
 cases b with
 |false=>
  refine rgo Bool.not_false ?_
  refine rt0 Tryz.ntmps5 ?_
  exact⟨hE1,false,rfl,fun h=>by cases h⟩
 |true=>
 obtain⟨hRl,hRf⟩:=hb rfl
 refine rgo Bool.not_true ?_
 refine zbq R.length (fun i σ A=>(σ 0= .slice aR R.length cR∧σ 3=vi i)∧Ext w A∧∀j (h:j<R.length),j<i→RecG R[j]) ?_ ?_ ?_
 ·exact⟨⟨vq0,vr0⟩,hE1,fun j h hj=>absurd hj (by omega)⟩
 ·rintro i σ A hi rr ⟨⟨s0,s3⟩,hEA,hlow⟩
  have hi0:(0:Int)≤(i:Int):=by omega
  have hi1:(i:Int)<(R.length:Int):=by omega
  have hi2:(i:Int)+1=((i+1:Nat):Int):=by push_cast;rfl
  obtain⟨cr,hcr,hRr⟩:=hgR i hi
  obtain⟨r,hr⟩:∃r,R[i]=r:=⟨_,rfl⟩
  rw[hr]at hRr
  have hmem:r∈R:=hr▸List.getElem_mem hi
  obtain⟨f1,f2⟩:=hRf r hmem
  obtain⟨n1,n2,n3⟩:=hn r hmem
  obtain⟨xR,rfl⟩:=Option.isSome_iff_exists.1 (zav hcr)
  obtain⟨xi,hxi⟩:∃xi,adr (some xR) (i*7)=some xi:=⟨_,rfl⟩
  rw[hxi]at hcr
  have hcA:=zah hEA hcr
  refine go (an3 s0 s3 rr) ?_
  refine rc (an6 s0 s3 hi0 hi1 hxi hcA) (znl hEA hRr f2.nn) ?_
  rintro _ A2 ⟨hA2,cs',nm',rfl,hx⟩
  refine rd trivial (zhB (hx.at (hEA.trans hA2)) (few_D f2 n1).1 (few_f f1)) ?_
  rintro _ A3 ⟨hA3,e,rfl,he⟩
  have hE3:=hEA.trans (hA2.trans hA3)
  by_cases h0e:e=0
  ·refine rgo (an5 s0 s3 (decide_eq_true h0e) hi2 rr) ?_
   refine⟨rfl,⟨(vq1 s0),(vq1 hi2)⟩,hE3,fun j hj hji=>?_⟩
   by_cases hj2:j=i
   ·subst hj2
    rw[hr]
    obtain⟨g1,g2,g3⟩:=he h0e
    exact⟨f1,f2,g1,⟨n2,g2⟩,g3,n1⟩
   ·exact hlow j hj (by omega)
  ·refine rgo (decide_eq_false h0e) ?_
   refine rt0 Tryz.ntmps5 ?_
   exact⟨hE3,false,rfl,fun h=>by cases h⟩
 ·rintro σ A rr ⟨⟨s0,s3⟩,hEA,hlow⟩
  refine go (an3 s0 s3 rr) ?_
  refine rt0 Tryz.ntmps5 ?_
  refine⟨hEA,true,rfl,fun _=>⟨hRl,fun r hr=>?_⟩⟩
  obtain⟨j,hj,rfl⟩:=List.getElem_of_mem hr
  exact hlow j hj hj
def ixB(q:Nat→Bool)(n:Nat):Int:=match (List.range n).find? q with
 |some k=>(k:Int)
 |Option.none=> -1
theorem zmy{q:Nat→Bool}{n i:Nat}(hi:i<n)(hq:q i=true)(hl:∀j,j<i→q j=false):ixB q n=(i:Int):=by
 have:(List.range n).find? q=some i:=by
  rw[List.find?_range_eq_some]
  exact⟨hq,List.mem_range.2 hi,fun j hj=>by rw[hl j hj];rfl⟩
 unfold ixB
 rw[this]
theorem zjU{q:Nat→Bool}{n:Nat}(hl:∀j,j<n→q j=false):ixB q n= -1:=by
 have:(List.range n).find? q=Option.none:=by
  rw[List.find?_eq_none]
  intro x hx
  rw[hl x (List.mem_range.1 hx)];decide
 unfold ixB
 rw[this]
theorem IxFil_ok{w:World}{a:Option Addr}{n c:Nat}{N:FuncId}{cap:Value}{q:Nat→Bool}(hN:zaj Tryz.prog N=true)(hn:n≤1000000000)(hg:∀i,i<n→∃cs:List Value,zar w (adr a (i*2)) 2=some cs∧∀v,Ext w v→Fn Tryz.prog N #[.agg cs.toArray,cap] v (fun u v'=>u= .bool (q i)∧Ext v v')):
  Fn Tryz.prog 90 #[.slice a n c,.func (.func N) #[] #[cap]] w (fun u w'=>u=vi (ixB q n)∧Ext w w'):=by
 refine enter Tryz.func90 Tryz.ntmps90 rfl rfl ?_
 refine go trivial ?_
 refine zbq n (fun i σ v=>(σ 0= .slice a n c∧σ 1= .func (.func N) #[] #[cap]∧σ 7=vi n∧σ 8=vi i)∧Ext w v∧∀j,j<i→q j=false) ?_ ?_ ?_
 ·exact⟨⟨vr0,vr0,vr0,vr0⟩,Keep.refl _ _,fun j h=>by omega⟩
 ·rintro i σ v hi r ⟨⟨s0,s1,s7,s8⟩,hE,hlow⟩
  obtain⟨cs,g0,hF⟩:=hg i hi
  have g:=zah hE g0
  obtain⟨xa,rfl⟩:=Option.isSome_iff_exists.1 (zav g)
  obtain⟨xi,hxi⟩:∃xi,adr (some xa) (i*2)=some xi:=⟨_,rfl⟩
  rw[hxi]at g
  have hi0:(0:Int)≤(i:Int):=by omega
  have hi1:(i:Int)<(n:Int):=by omega
  have hi2:(i:Int)+1=((i+1:Nat):Int):=by push_cast;rfl
  refine go (an5 s0 s1 s7 s8 r) ?_
  refine rc (an8 s0 s1 s8 g hi0 hi1 hxi hN) (hF v hE) ?_
  rintro _ v1 ⟨rfl,hE1⟩
  cases hq:q i with
  |true=>
   refine rgo (an2 s0 s8) ?_
   refine zaf (.inr rfl) Tryz.ntmps90 rfl (zac ((vr1 s8)) zae) ?_
   exact⟨by rw[zmy hi hq hlow];rfl,hE.trans hE1⟩
  |false=>
   refine rgo (an5 s0 s1 s7 s8 hi2) ?_
   refine⟨rfl,⟨(vq1 s0),(vq1 s1),(vq1 s7),(vq1 hi2)⟩,hE.trans hE1,fun j hj=>?_⟩
   by_cases e:j=i
   ·rw[e];exact hq
   ·exact hlow j (by omega)
 ·rintro σ v r ⟨⟨s0,s1,s7,s8⟩,hE,hlow⟩
  refine go (an5 s0 s1 s7 s8 r) ?_
  refine zaf (.inr rfl) Tryz.ntmps90 rfl (zac (vr0) zae) ?_
  exact⟨by rw[zjU hlow];rfl,hE⟩
theorem IxWrd_ok{w:World}{a:Option Addr}{n c:Nat}{N:FuncId}{q:Nat→Bool}(hN:zaj Tryz.prog N=true)(hn:n≤1000000000)(hg:∀i,i<n→∃cs:List Value,zar w (adr a (i*2)) 2=some cs∧∀v,Ext w v→Fn Tryz.prog N #[.agg cs.toArray] v (fun u v'=>u= .bool (q i)∧Ext v v')):
  Fn Tryz.prog 199 #[.slice a n c,.func (.func N) #[] #[]] w (fun u w'=>u=vi (ixB q n)∧Ext w w'):=by
 refine enter Tryz.func199 Tryz.ntmps199 rfl rfl ?_
 refine go trivial ?_
 refine zbq n (fun i σ v=>(σ 0= .slice a n c∧σ 1= .func (.func N) #[] #[]∧σ 7=vi n∧σ 8=vi i)∧Ext w v∧∀j,j<i→q j=false) ?_ ?_ ?_
 ·exact⟨⟨vr0,vr0,vr0,vr0⟩,Keep.refl _ _,fun j h=>by omega⟩
 ·rintro i σ v hi r ⟨⟨s0,s1,s7,s8⟩,hE,hlow⟩
  obtain⟨cs,g0,hF⟩:=hg i hi
  have g:=zah hE g0
  obtain⟨xa,rfl⟩:=Option.isSome_iff_exists.1 (zav g)
  obtain⟨xi,hxi⟩:∃xi,adr (some xa) (i*2)=some xi:=⟨_,rfl⟩
  rw[hxi]at g
  have hi0:(0:Int)≤(i:Int):=by omega
  have hi1:(i:Int)<(n:Int):=by omega
  have hi2:(i:Int)+1=((i+1:Nat):Int):=by push_cast;rfl
  refine go (an5 s0 s1 s7 s8 r) ?_
  refine rc (an8 s0 s1 s8 g hi0 hi1 hxi hN) (hF v hE) ?_
  rintro _ v1 ⟨rfl,hE1⟩
  cases hq:q i with
  |true=>
   refine rgo (an2 s0 s8) ?_
   refine zaf (.inr rfl) Tryz.ntmps199 rfl (zac ((vr1 s8)) zae) ?_
   exact⟨by rw[zmy hi hq hlow];rfl,hE.trans hE1⟩
  |false=>
   refine rgo (an5 s0 s1 s7 s8 hi2) ?_
   refine⟨rfl,⟨(vq1 s0),(vq1 s1),(vq1 s7),(vq1 hi2)⟩,hE.trans hE1,fun j hj=>?_⟩
   by_cases e:j=i
   ·rw[e];exact hq
   ·exact hlow j (by omega)
 ·rintro σ v r ⟨⟨s0,s1,s7,s8⟩,hE,hlow⟩
  refine go (an5 s0 s1 s7 s8 r) ?_
  refine zaf (.inr rfl) Tryz.ntmps199 rfl (zac (vr0) zae) ?_
  exact⟨by rw[zjU hlow];rfl,hE⟩
theorem znw{w:World}{a:Option Addr}{n c:Nat}{N:FuncId}{q:Nat→Bool}(hN:zaj Tryz.prog N=true)(hn:n≤1000000000)(hg:∀i,i<n→∃cs:List Value,zar w (adr a (i*2)) 2=some cs∧∀v,Ext w v→Fn Tryz.prog N #[.agg cs.toArray] v (fun u v'=>u= .bool (q i)∧Ext v v')):
  Fn Tryz.prog 172 #[.slice a n c,.func (.func N) #[] #[]] w (fun u w'=>u= .bool (decide (0≤ixB q n))∧Ext w w'):=by
 refine enter Tryz.func172 Tryz.ntmps172 rfl rfl ?_
 refine go trivial ?_
 refine rc trivial (IxWrd_ok hN hn hg) ?_
 rintro _ w1 ⟨rfl,hE1⟩
 refine rgo trivial ?_
 refine rt0 Tryz.ntmps172 ?_
 exact⟨rfl,hE1⟩
structure LdS where
 path:Lab
 line:Int
 origin:Nm
 owner:Option Nm
 ttl:Option Int
 last:Option Int
 out:List RecL
 reads:List Lab
 many:Int
structure FltL where
 path:Lab
 line:Int
 err:Int
def zfc(cs:List Value)(x:Lab×Lab):Prop:=cs=[vs x.1,vs x.2]
def gR(cs:List Value)(x:RecL×List Value):Prop:=cs=x.2∧cs.length=7∧∀q∈cs,one q=true
theorem zjY:zgf 7 gR:=⟨fun h=>h.2.1,fun h=>h.2.2⟩
def MutL(D:Nat→Prop)(b:Nat)(ov rv:Value):Nat→Prop:=fun i=>i=b∨some i=ov.ownBlock∨some i=rv.ownBlock∨D i
def OwnerZ(M:Nat→Prop)(w:World)(v:Value):Option Nm→Prop
 |some n=>Hz M w (fun X=>Row X v (n.map vs))
 |Option.none=>v= .slice Option.none 0 0
theorem OwnerZ.app{M M' T:Nat→Prop}{w x:World}{v:Value}{o:Option Nm}(h:OwnerZ M w v o)(hk:Keep T w x)(hT:∀i,i<w.heap.size→T i→M i)(hM:∀i,i<w.heap.size→M' i→M i):OwnerZ M' x v o:=by
 cases o with
 |none=>exact h
 |some n=>exact Hz.app h hk hT hM
theorem OwnerZ.one{M:Nat→Prop}{w:World}{v:Value}{o:Option Nm}(h:OwnerZ M w v o):one v=true:=by
 cases o with
 |none=>rw[show v=_ from h];rfl
 |some n=>exact(Hz.now h).isOne
def zkd(fv ov rv orv owv:Value)(st:LdS):List Value:=[fv,ov,rv,vi st.many,vs st.path,vi st.line,orv,owv,.bool st.owner.isSome,.int .u32 (st.ttl.getD 0),.bool st.ttl.isSome,.int .u32 (st.last.getD 0),.bool st.last.isSome]
structure LX(D:Nat→Prop)(B:Nat)(w:World)(b:Nat)(fs:Value→World→Prop)(st:LdS)(fv ov rv orv owv:Value)(G:List (RecL×List Value)):Prop where
 h:w.heap[b]? =some (.cells (zkd fv ov rv orv owv st).toArray 88 (0,0))
 lt:b<B
 le:B≤w.heap.size
 oo:Owns 7 gR B w 49 ov G
 ow:Own B w 9 rv (st.reads.map vs)
 d:∀i,some i=ov.ownBlock→some i≠rv.ownBlock
 dd:∀i,D i→b<i∧i<w.heap.size∧some i≠ov.ownBlock∧some i≠rv.ownBlock
 ol:st.out=G.map Prod.fst
 fr:∀x∈G,Hz (MutL D b ov rv) w (fun X=>RecAt X x.2 x.1)
 ff:Hz (MutL D b ov rv) w (fs fv)
 fo:Hz (MutL D b ov rv) w (fun X=>Row X orv (st.origin.map vs))
 fw:OwnerZ (MutL D b ov rv) w owv st.owner
 ot:NmT st.origin
def LdX(D:Nat→Prop)(B:Nat)(w:World)(b:Nat)(fs:Value→World→Prop)(st:LdS):Prop:=∃fv ov rv orv owv G,LX D B w b fs st fv ov rv orv owv G
def za7(D:Nat→Prop)(b:Nat)(w x:World):Prop:=Keep (fun i=>b≤i∧¬D i) w x
theorem zi0{M:Nat→Prop}{w x:World}{v:Value}{l:List Value}(hr:Row x v l)(hb:BlkB w.heap.size x v)(hM:∀i,M i→i<w.heap.size):Hz M x (fun X=>Row X v l):=fun X hX=>
 hr.blocks fun a n c hv=>hX.block _ (hb a n c hv).2 fun h=>by have:=hM _ h;have:=(hb a n c hv).1;omega
section
variable {D : Nat → Prop} {B b : Nat} {w x : World} {fs : Value → World → Prop} {st : LdS} {fv ov rv orv owv : Value} {G : List (RecL × List Value)}
theorem LX.mut(h:LX D B w b fs st fv ov rv orv owv G):∀i,MutL D b ov rv i→b≤i∧i<w.heap.size:=fun i hi=>by
 have h1:=h.lt
 have h2:=h.le
 rcases hi with hi|hi|hi|hi
 ·omega
 ·have:=h.oo.ge hi;omega
 ·have:=h.ow.ge hi;omega
 ·have:=h.dd i hi;omega
theorem LX.step(h:LX D B w b fs st fv ov rv orv owv G){D':Nat→Prop}(hE:Ext w x)(hD:∀i,D' i→D i∨(w.heap.size≤i∧i<x.heap.size)):LX D' B x b fs st fv ov rv orv owv G:=by
 have hl:=h.lt
 have hle:=h.le
 have hs:=hE.size
 have hM:∀i,i<w.heap.size→MutL D' b ov rv i→MutL D b ov rv i:=fun i hi hm=>by
  rcases hm with e|e|e|e
  ·exact .inl e
  ·exact .inr (.inl e)
  ·exact .inr (.inr (.inl e))
  ·rcases hD i e with e2|e2
   ·exact .inr (.inr (.inr e2))
   ·omega
 have hT:∀i,i<w.heap.size→NoS i→MutL D b ov rv i:=fun i _ h=>h.elim
 refine⟨Ext.at hE h.h,hl,by omega,h.oo.ext hE,h.ow.ext hE,h.d,fun i hi=>?_,h.ol,fun y hy=>Hz.app (h.fr y hy) hE hT hM,Hz.app h.ff hE hT hM,Hz.app h.fo hE hT hM,OwnerZ.app h.fw hE hT hM,h.ot⟩
 rcases hD i hi with e|e
 ·obtain⟨a1,a2,a3,a4⟩:=h.dd i e
  exact⟨a1,by omega,a3,a4⟩
 ·exact⟨by omega,by omega,fun e2=>by have:=(h.oo.ge e2).2;omega,fun e2=>by have:=(h.ow.ge e2).2;omega⟩
theorem LX.ext(h:LX D B w b fs st fv ov rv orv owv G)(hE:Ext w x):LX D B x b fs st fv ov rv orv owv G:=h.step hE fun _ h=> .inl h
theorem LdX.ext(h:LdX D B w b fs st)(hE:Ext w x):LdX D B x b fs st:=by
 obtain⟨fv,ov,rv,orv,owv,G,h⟩:=h
 exact⟨fv,ov,rv,orv,owv,G,h.ext hE⟩
theorem LX.loc(h:LX D B w b fs st fv ov rv orv owv G)(hk:Keep D w x):LX D B x b fs st fv ov rv orv owv G:=by
 have hs:=hk.size
 have hl:=h.lt
 have hle:=h.le
 have hT:∀i,i<w.heap.size→D i→MutL D b ov rv i:=fun i _ h=> .inr (.inr (.inr h))
 have hM:∀i,i<w.heap.size→MutL D b ov rv i→MutL D b ov rv i:=fun _ _ h=>h
 exact⟨(hk.block b (by omega) fun e=>by have:=(h.dd b e).1;omega).trans h.h,hl,by omega,h.oo.keep hk fun i hi e=>(h.dd i e).2.2.1 hi,h.ow.keep hk fun i hi e=>(h.dd i e).2.2.2 hi,h.d,fun i hi=>by
  obtain⟨a1,a2,a3,a4⟩:=h.dd i hi
  exact⟨a1,by omega,a3,a4⟩,h.ol,fun y hy=>Hz.app (h.fr y hy) hk hT hM,Hz.app h.ff hk hT hM,Hz.app h.fo hk hT hM,OwnerZ.app h.fw hk hT hM,h.ot⟩
theorem LX.turn(h:LX D B w b fs st fv ov rv orv owv G){st':LdS}{orv' owv':Value}(hk:Keep (fun i=>i=b) w x)(hb:x.heap[b]? =some (.cells (zkd fv ov rv orv' owv' st').toArray 88 (0,0)))(ho:st'.out=st.out)(hr:st'.reads=st.reads)
  (fo':Hz (MutL D b ov rv) w (fun X=>Row X orv' (st'.origin.map vs))) (fw':OwnerZ (MutL D b ov rv) w owv' st'.owner) (ot':NmT st'.origin):LX D B x b fs st' fv ov rv orv' owv' G:=by
 have hs:=hk.size
 have hl:=h.lt
 have hle:=h.le
 have hT:∀i,i<w.heap.size→i=b→MutL D b ov rv i:=fun i _ h=> .inl h
 have hM:∀i,i<w.heap.size→MutL D b ov rv i→MutL D b ov rv i:=fun _ _ h=>h
 exact⟨hb,hl,by omega,h.oo.keep hk fun i hi e=>by have:=(h.oo.ge hi).1;omega,by rw[hr];exact h.ow.keep hk fun i hi e=>by have:=(h.ow.ge hi).1;omega,h.d,fun i hi=>by
  obtain⟨a1,a2,a3,a4⟩:=h.dd i hi
  exact⟨a1,by omega,a3,a4⟩,by rw[ho];exact h.ol,fun y hy=>Hz.app (h.fr y hy) hk hT hM,Hz.app h.ff hk hT hM,Hz.app fo' hk hT hM,OwnerZ.app fw' hk hT hM,ot'⟩
def FltAt(w:World)(v:Value)(f:FltL):Prop:=∃p,v= .pointer (some ⟨p,0,Option.none⟩)∧w.heap[p]? =some (.cells #[vs f.path,vi f.line,vi f.err] 116 (0,0))
theorem fault_no(w:World)(p:Value):Fn Tryz.prog 97 #[p,vi 0] w (fun v w'=>v= .pointer Option.none∧w'=w):=by
 refine enter Tryz.func97 Tryz.ntmps97 rfl rfl ?_
 refine go (show decide ((0:Int)=0)=true from rfl) ?_
 refine rt0 Tryz.ntmps97 ?_
 exact⟨rfl,rfl⟩
theorem fault_ok(h:LdX D B w b fs st){e:Int}(he:¬e=0):Fn Tryz.prog 97 #[.pointer (some ⟨b,0,Option.none⟩),vi e] w (fun v w'=>Ext w w'∧FltAt w' v ⟨st.path,st.line,e⟩):=by
 obtain⟨fv,ov,rv,orv,owv,G,h⟩:=h
 have k4:zad w (some ⟨b,4,Option.none⟩)=some (vs st.path):=zaa h.h rfl
 have k5:zad w (some ⟨b,5,Option.none⟩)=some (vi st.line):=zaa h.h rfl
 refine enter Tryz.func97 Tryz.ntmps97 rfl rfl ?_
 refine go (decide_eq_false he) ?_
 refine zaF (fun _=>false) [(0,true),(1,true),(2,true),(3,true),(4,true),(5,true),(6,true),(7,true),(8,true),(9,true),(10,true),(11,true),(12,false),(13,true)] NoS mixed (by kernel_rfl) ?_;intro gd K x hgd hx hxe hK;have hx0:=zaT hxe;clear hxe
 have k4x:=zab hx0 k4
 have k5x:=zab hx0 k5
 simp (disch:=first|omega|assumption|rfl) only[go_sem,k4x,k5x,Nat.zero_add,Nat.add_zero]
 refine⟨by kernel_rfl,?_⟩
 rw[show bdV Tryz.prog 116 [(0,vs st.path),(1,vi st.line),(2,vi e)]=some (.agg #[vs st.path,vi st.line,vi e]) from by kernel_rfl]
 simp (disch:=first|omega|assumption|rfl) only[go_sem]
 refine⟨.inr (Ext.alloc x _),?_⟩
 refine hK _ _ ?_;clear hK hgd;clear K;try clear gd
 refine go trivial ?_
 refine rt0 Tryz.ntmps97 ?_
 exact⟨hx0.trans (Ext.alloc x _),x.heap.size,rfl,World.alloc_heap_new x _⟩
theorem someN_ok(w:World)(a:Option Addr)(n c:Nat):Fn Tryz.prog 161 #[.slice a n c] w (fun v w'=>v= .agg #[.slice a n c,.bool true]∧Ext w w'):=by
 refine enter Tryz.func161 Tryz.ntmps161 rfl rfl ?_
 refine go trivial ?_
 refine zan ?_
 intro w1 hE1 hs1 hA
 refine go trivial ?_
 refine rq ?_;intro gd K hgd hK
 try simp only[go_sem]
 refine⟨by kernel_rfl,?_⟩
 rw[show bdV Tryz.prog 82 [(0,.slice a n c),(1,.bool true)]=some (.agg #[.slice a n c,.bool true]) from by kernel_rfl]
 try simp only[go_sem]
 refine zaR (P:=Tryz.prog) (t:=82) (l:=[.slice a n c,.bool true]) hA rfl (fun v hv=>by simp at hv;rcases hv with rfl|rfl<;>rfl) rfl rfl ?_
 intro w2 hs2 hb2 hk2
 try simp only[go_sem]
 refine hK _ _ ?_;clear hK hgd;clear K;try clear gd
 refine go trivial ?_
 refine zaf (.inr rfl) Tryz.ntmps161 rfl (zaW (x:=⟨w.heap.size,0,Option.none⟩) (k:=2) (vr0) rfl rfl (zal (n:=2) (l:=[.slice a n c,.bool true]) hb2 rfl) zae) ?_
 exact⟨rfl,Keep.to_ext hE1 rfl (fun i hi=>by omega) hk2⟩
theorem zjz(w:World)(t:Int):Fn Tryz.prog 137 #[.int .u32 t] w (fun v w'=>v= .agg #[.int .u32 t,.bool true]∧Ext w w'):=by
 refine enter Tryz.func137 Tryz.ntmps137 rfl rfl ?_
 refine go trivial ?_
 refine zan ?_
 intro w1 hE1 hs1 hA
 refine go trivial ?_
 refine rq ?_;intro gd K hgd hK
 try simp only[go_sem]
 refine⟨by kernel_rfl,?_⟩
 rw[show bdV Tryz.prog 84 [(0,.int .u32 t),(1,.bool true)]=some (.agg #[.int .u32 t,.bool true]) from by kernel_rfl]
 try simp only[go_sem]
 refine zaR (P:=Tryz.prog) (t:=84) (l:=[.int .u32 t,.bool true]) hA rfl (fun v hv=>by simp at hv;rcases hv with rfl|rfl<;>rfl) rfl rfl ?_
 intro w2 hs2 hb2 hk2
 try simp only[go_sem]
 refine hK _ _ ?_;clear hK hgd;clear K;try clear gd
 refine go trivial ?_
 refine zaf (.inr rfl) Tryz.ntmps137 rfl (zaW (x:=⟨w.heap.size,0,Option.none⟩) (k:=2) (vr0) rfl rfl (zal (n:=2) (l:=[.int .u32 t,.bool true]) hb2 rfl) zae) ?_
 exact⟨rfl,Keep.to_ext hE1 rfl (fun i hi=>by omega) hk2⟩
theorem ttl_ok{w:World}(hW:WX w)(s:Lab)(hs:s.length≤1000000000):Fn Tryz.prog 136 #[vs s] w (fun v w'=>v= .tuple #[.int .u32 (decP 2147483647 s).1,vi (decP 2147483647 s).2]∧Ext w w'):=by
 have hdl:=zdo 2147483647 s
 refine enter Tryz.func136 Tryz.ntmps136 rfl rfl ?_
 refine go trivial ?_
 refine rc trivial (zca hW s 2147483647 (by decide) hs) ?_
 rintro _ w1 ⟨rfl,hE1⟩
 obtain⟨v,hv⟩:∃v,(decP 2147483647 s).1=v:=⟨_,rfl⟩
 rw[hv]at hdl ⊢
 have hw:IntKind.u32.wrap (v:Int)=(v:Int):=by
  show(v:Int) % 4294967296=_
  omega
 refine rgo hw ?_
 refine zaf (.inr rfl) Tryz.ntmps136 rfl (zac ((vr1 hw)) (zac (vr0) zae)) ?_
 exact⟨rfl,hE1⟩
def ownF(st:LdS)(s:Lab):LdS:=if (za6 s st.origin).2=0 then{st with owner:=some (za6 s st.origin).1} else st
theorem zl0(h:LdX D B w b fs st)(s:Lab)(hl:s.length≤500000000):Fn Tryz.prog 134 #[.pointer (some ⟨b,0,Option.none⟩),vs s] w (fun v w'=>v=vi (za6 s st.origin).2∧LdX D B w' b fs (ownF st s)∧za7 D b w w'):=by
 obtain⟨fv,ov,rv,orv,owv,G,h⟩:=h
 have k6:zad w (some ⟨b,6,Option.none⟩)=some orv:=zaa h.h rfl
 have hD:¬D b:=fun e=>by have:=(h.dd b e).1;omega
 refine enter Tryz.func134 Tryz.ntmps134 rfl rfl ?_
 refine go trivial ?_
 refine rc (an3 k6 Nat.zero_add Nat.add_zero) (zcM w s orv st.origin hl h.fo.now h.ot) ?_
 rintro _ w1 ⟨hE1,nv,rfl,hr,hk⟩
 obtain⟨⟨n,e⟩,hne⟩:∃x,za6 s st.origin=x:=⟨_,rfl⟩
 unfold ownF
 rw[hne]at hr ⊢
 have h1:=h.ext hE1
 by_cases he:e=0
 rotate_left
 ·refine rgo (decide_eq_false he) ?_
  refine rt0 Tryz.ntmps134 ?_
  rw[if_neg he]
  exact⟨rfl,⟨fv,ov,rv,orv,owv,G,h1⟩,hE1.mono fun _ _ h=>h.elim⟩
 subst he
 rw[if_pos rfl]
 obtain⟨na,nc,rfl,_⟩:=id hr
 simp only[List.length_map]at hr hk ⊢
 refine rgo (show decide ((0:Int)=0)=true from rfl) ?_
 refine rq ?_;intro gd K hgd hK
 try simp only[go_sem]
 refine Fn.mono (someN_ok w1 na n.length nc) ?_
 rintro _ w2 ⟨rfl,hE2⟩
 have h2:=h1.ext hE2
 try simp (disch:=first|omega|assumption|rfl) only[go_sem,Nat.zero_add]
 refine zeG (P:=Tryz.prog) (t:=82) [fv,ov,rv,vi st.many,vs st.path,vi st.line,orv] [owv,.bool st.owner.isSome] (B:=[.int .u32 (st.ttl.getD 0),.bool st.ttl.isSome,.int .u32 (st.last.getD 0),.bool st.last.isSome]) (l:=[.slice na n.length nc,.bool true]) h2.h rfl (fun v hv=>by simp at hv;rcases hv with rfl|rfl<;>rfl) rfl rfl ?_
 intro w3 hs3 hb3 hk3
 try simp only[go_sem]
 refine hK _ _ ?_;clear hK hgd;clear K;try clear gd
 refine go trivial ?_
 refine rt0 Tryz.ntmps134 ?_
 refine⟨rfl,⟨fv,ov,rv,orv,.slice na n.length nc,G,LX.turn h2 (st':={st with owner:=some n}) hk3 hb3 rfl rfl h2.fo (zi0 (w:=w) (hr.ext hE2) (hk.ext hE2.size) fun i hi=>(h.mut i hi).2) h2.ot⟩,?_⟩
 exact((hE1.trans hE2).mono fun _ _ h=>h.elim).trans (hk3.mono fun i _ e=>⟨by omega,by rw[e];exact hD⟩)
theorem zlI(hX:WX w)(h:LdX D B w b fs st)(s:Lab)(hl:s.length≤1000000000):Fn Tryz.prog 133 #[.pointer (some ⟨b,0,Option.none⟩),vs [36,84,84,76],vs s] w (fun v w'=>v=vi (decP 2147483647 s).2∧LdX D B w' b fs (if (decP 2147483647 s).2=0 then{st with ttl:=some (decP 2147483647 s).1} else st)∧za7 D b w w'):=by
 obtain⟨fv,ov,rv,orv,owv,G,h⟩:=h
 have hD:¬D b:=fun e=>by have:=(h.dd b e).1;omega
 refine enter Tryz.func133 Tryz.ntmps133 rfl rfl ?_
 refine go (show decide (([36,84,84,76]:Lab)=[36,84,84,76])=true from rfl) ?_
 refine rc trivial (ttl_ok hX s hl) ?_
 rintro _ w1 ⟨rfl,hE1⟩
 obtain⟨⟨n,e⟩,hne⟩:∃x,decP 2147483647 s=x:=⟨_,rfl⟩
 rw[hne]
 have h1:=h.ext hE1
 by_cases he:e=0
 rotate_left
 ·refine rgo (decide_eq_false he) ?_
  refine rt0 Tryz.ntmps133 ?_
  rw[if_neg he]
  exact⟨rfl,⟨fv,ov,rv,orv,owv,G,h1⟩,hE1.mono fun _ _ h=>h.elim⟩
 subst he
 rw[if_pos rfl]
 refine rgo (show decide ((0:Int)=0)=true from rfl) ?_
 refine rq ?_;intro gd K hgd hK
 try simp only[go_sem]
 refine Fn.mono (zjz w1 n) ?_
 rintro _ w2 ⟨rfl,hE2⟩
 have h2:=h1.ext hE2
 try simp (disch:=first|omega|assumption|rfl) only[go_sem,Nat.zero_add]
 refine zeG (P:=Tryz.prog) (t:=84) [fv,ov,rv,vi st.many,vs st.path,vi st.line,orv,owv,.bool st.owner.isSome] [.int .u32 (st.ttl.getD 0),.bool st.ttl.isSome] (B:=[.int .u32 (st.last.getD 0),.bool st.last.isSome]) (l:=[.int .u32 n,.bool true]) h2.h rfl (fun v hv=>by simp at hv;rcases hv with rfl|rfl<;>rfl) rfl rfl ?_
 intro w3 hs3 hb3 hk3
 try simp only[go_sem]
 refine hK _ _ ?_;clear hK hgd;clear K;try clear gd
 refine go trivial ?_
 refine rt0 Tryz.ntmps133 ?_
 refine⟨rfl,⟨fv,ov,rv,orv,owv,G,LX.turn h2 (st':={st with ttl:=some (n:Int)}) hk3 hb3 rfl rfl h2.fo h2.fw h2.ot⟩,?_⟩
 exact((hE1.trans hE2).mono fun _ _ h=>h.elim).trans (hk3.mono fun i _ e=>⟨by omega,by rw[e];exact hD⟩)
end
def NyC(cs:List Value)(x:Lab×Int):Prop:=cs=[vs x.1,vi x.2]
theorem NyC.shape:zgf 2 NyC:=⟨fun h=>by rw[h];rfl,fun h=>by
 rw[h]
 intro q hq
 rcases List.mem_cons.1 hq with rfl|hq
 ·rfl
 ·rw[List.mem_singleton.1 hq];rfl⟩
def nyTab:List (Lab×Int):=tyTab.map fun x=>(zaI x.2,x.1)
def zfa(k:Lab):List (Lab×Int)→Int×Bool
 | []=>(0,false)
 |x::T=>if x.1=k then(x.2,true) else zfa k T
theorem types_ok(w:World):Fn Tryz.prog 191 #[] w (fun v w'=>Rows 2 NyC w' v nyTab∧Ext w w'):=by
 refine enter Tryz.func191 Tryz.ntmps191 rfl rfl ?_
 refine go trivial ?_
 refine rc trivial (zfA w) ?_
 rintro v0 w1 ⟨hR,hE1⟩
 obtain⟨a,c,rfl,hcap,hg⟩:=hR.open
 refine rgo trivial ?_
 refine zbq 9 (fun i σ v=>(σ 4= .slice a 9 c∧σ 5=vi (9:Nat)∧σ 6=vi i)∧Ext w1 v∧∃sv,σ 1=sv∧Owns 2 NyC w1.heap.size v 274 sv (nyTab.take i)) ?_ ?_ ?_
 ·exact⟨⟨vr0,vr0,vr0⟩,Keep.refl _ _,_,vr0,Owns.nil _ _ _ _ _⟩
 ·rintro i σ v hi r ⟨⟨s4,s5,s6⟩,hE,sv,s1,hO⟩
  have hi9:i<tyTab.length:=hi
  obtain⟨cs,g0,hcs⟩:=hg i hi9
  have g:=zah hE g0
  obtain⟨⟨k,n⟩,hxx⟩:∃x,tyTab[i]=x:=⟨_,rfl⟩
  rw[hxx]at hcs
  obtain rfl:cs=[vi k,vs n]:=hcs
  have hnl:n.length≤10:=by
   have:∀x∈tyTab,x.2.length≤10:=by decide
   have:=this _ (List.getElem_mem hi9)
   rw[hxx]at this
   exact this
  obtain⟨xa,rfl⟩:=Option.isSome_iff_exists.1 (zav g)
  obtain⟨xi,hxi⟩:∃xi,adr (some xa) (i*2)=some xi:=⟨_,rfl⟩
  rw[hxi]at g
  have hi0:(0:Int)≤(i:Int):=by omega
  have hi1:(i:Int)<((9:Nat):Int):=by omega
  have hi2:(i:Int)+1=((i+1:Nat):Int):=by push_cast;rfl
  refine go (an4 s4 s5 s6 r) ?_
  refine rq ?_;intro gd K hgd hK
  try simp (disch:=first|omega|assumption|rfl) only[go_sem,s4,s6,hi0,hi1,hxi,g]
  refine zbm (P:=Tryz.prog) (l:=[vi k,vs n]) rfl (fun v hv=>by simp at hv;rcases hv with rfl|rfl<;>rfl) rfl rfl ?_
  intro v1 hE1' hs1 hB
  try simp only[go_sem]
  refine hK _ _ ?_;clear hK hgd;clear K;try clear gd
  have q0:zad v1 (some ⟨v.heap.size,0,Option.none⟩)=some (vi k):=zaa hB rfl
  have q1:zad v1 (some ⟨v.heap.size,1,Option.none⟩)=some (vs n):=zaa hB rfl
  have hO1:=hO.ext hE1'
  have hsE:=hE.size
  refine go (an2 s4 s1) ?_
  refine zaF (fun i=>i==8) [(0,true),(1,true),(2,true),(4,true),(5,true),(3,false),(6,true),(7,false),(8,false),(9,true)] NoS mixed (by kernel_rfl) ?_;intro gd K x hgd hx hxe hK;have hx0:=zaT hxe;clear hxe
  have q0x:=zab hx0 q0
  have q1x:=zab hx0 q1
  simp (disch:=first|omega|assumption|rfl) only[go_sem,s1,q0x,q1x,Nat.zero_add,Nat.add_zero]
  refine Fn.mono (zc8 x n (by omega)) ?_
  rintro _ y1 ⟨rfl,hy1⟩
  refine⟨.inr hy1.keep,?_⟩
  have q0y:=zab hy1 q0x
  simp (disch:=first|omega|assumption|rfl) only[go_sem,s1,q0y,Nat.add_zero]
  refine⟨by kernel_rfl,?_⟩
  rw[show bdV Tryz.prog 274 [(0,vs (zaI n)),(1,vi k)]=some (.agg #[vs (zaI n),vi k]) from by kernel_rfl]
  simp (disch:=first|omega|assumption|rfl) only[go_sem,s1]
  refine zc2 NyC.shape (l:=[vs (zaI n),vi k]) (a:=(zaI n,k)) rfl rfl rfl rfl rfl (by decide) ?_
  intro y2 hy2 hys2 ho2
  refine⟨.inr hy2.keep,?_⟩
  have hO2:=hO1.ext ((hx0.trans hy1).trans hy2)
  simp (disch:=first|omega|assumption|rfl) only[go_sem,s1]
  refine zbU NyC.shape hO2 ho2.rows rfl rfl rfl rfl rfl rfl (by decide) ((vr1 s1)) (vr0) (by simp[nyTab];omega) (by decide) (by have:=hE1'.size;have:=hx0.size;have:=hy1.size;have:=hy2.size;omega) ?_
  intro sv' y3 ho3 hX3 hk3 hb3
  refine⟨.inl rfl,?_⟩
  simp (disch:=first|omega|assumption|rfl) only[go_sem]
  refine hK _ _ ?_;clear hK hgd;clear K;try clear gd
  have htk:nyTab.take (i+1)=nyTab.take i++ [(zaI n,k)]:=by
   have hl:i<nyTab.length:=by unfold nyTab;rw[List.length_map];exact hi9
   have e9:nyTab[i]'hl=(zaI n,k):=by
    have:=List.getElem_map (fun x:Int×Lab=>(zaI x.2,x.1)) (l:=tyTab) (i:=i) (h:=hl)
    rw[hxx]at this
    exact this
   rw[zak hl,e9]
  refine go (an5 s4 s5 s6 hi2 r) ?_
  refine⟨rfl,⟨(vq1 s4),(vq1 s5),(vq1 hi2)⟩,hX3 w1 ((((hE.trans hE1').trans hx0).trans hy1).trans hy2) (Nat.le_refl _),sv',vr0,by rw[htk];exact ho3⟩
 ·rintro σ v r ⟨⟨s4,s5,s6⟩,hE,sv,s1,hO⟩
  refine go (an5 s4 s5 s6 r s1) ?_
  refine rt0 Tryz.ntmps191 ?_
  have e:nyTab.take 9=nyTab:=List.take_of_length_le (by decide)
  rw[e]at hO
  exact⟨hO.rows,hE1.trans hE⟩
theorem findN_ok{w:World}{v:Value}{T:List (Lab×Int)}(h:Rows 2 NyC w v T)(hT:T.length≤1000)(k:Lab):
  Fn Tryz.prog 190 #[v,vs k] w (fun u w'=>u= .tuple #[vi (zfa k T).1,.bool (zfa k T).2]∧Ext w w'):=by
 obtain⟨a,c,rfl,hcap,hg⟩:=h.open
 refine enter Tryz.func190 Tryz.ntmps190 rfl rfl ?_
 refine go trivial ?_
 refine zbq T.length (fun i σ v=>(σ 1=vs k∧σ 9= .slice a T.length c∧σ 10=vi T.length∧σ 11=vi i)∧Ext w v∧zfa k T=zfa k (T.drop i)) ?_ ?_ ?_
 ·exact⟨⟨vr0,vr0,vr0,vr0⟩,Keep.refl _ _,rfl⟩
 ·rintro i σ v hi r ⟨⟨s1,s9,s10,s11⟩,hE,hf⟩
  obtain⟨cs,g0,hcs⟩:=hg i hi
  have g:=zah hE g0
  obtain⟨⟨n,t⟩,hx⟩:∃x,T[i]=x:=⟨_,rfl⟩
  rw[hx]at hcs
  obtain rfl:cs=[vs n,vi t]:=hcs
  rw[List.drop_eq_getElem_cons hi,hx,zfa]at hf
  obtain⟨xa,rfl⟩:=Option.isSome_iff_exists.1 (zav g)
  obtain⟨xi,hxi⟩:∃xi,adr (some xa) (i*2)=some xi:=⟨_,rfl⟩
  rw[hxi]at g
  have hi0:(0:Int)≤(i:Int):=by omega
  have hi1:(i:Int)<(T.length:Int):=by omega
  have hi2:(i:Int)+1=((i+1:Nat):Int):=by push_cast;rfl
  refine go (an5 s1 s9 s10 s11 r) ?_
  refine rq ?_;intro gd K hgd hK
  try simp (disch:=first|omega|assumption|rfl) only[go_sem,s9,s11,hi0,hi1,hxi,g]
  refine zbm (P:=Tryz.prog) (l:=[vs n,vi t]) rfl (fun v hv=>by simp at hv;rcases hv with rfl|rfl<;>rfl) rfl rfl ?_
  intro v1 hE1' hs1 hB
  try simp only[go_sem]
  refine hK _ _ ?_;clear hK hgd;clear K;try clear gd
  have q0:zad v1 (some ⟨v.heap.size,0,Option.none⟩)=some (vs n):=zaa hB rfl
  have q1:zad v1 (some ⟨v.heap.size,1,Option.none⟩)=some (vi t):=zaa hB rfl
  by_cases hk:n=k
  ·refine go (an6 s1 q0 q1 Nat.add_zero (decide_eq_true hk) Nat.zero_add) ?_
   refine zaf (.inr rfl) Tryz.ntmps190 rfl (zac (vr0) (zac (vr0) zae)) ?_
   rw[if_pos hk]at hf
   exact⟨by rw[hf];rfl,hE.trans hE1'⟩
  ·refine go (an9 s1 q0 Nat.add_zero (decide_eq_false hk) s9 s10 s11 hi2 r) ?_
   rw[if_neg hk]at hf
   exact⟨rfl,⟨(vq1 s1),(vq1 s9),(vq1 s10),(vq1 hi2)⟩,hE.trans hE1',hf⟩
 ·rintro σ v r ⟨⟨s1,s9,s10,s11⟩,hE,hf⟩
  refine go (an5 s1 s9 s10 s11 r) ?_
  refine zaf (.inr rfl) Tryz.ntmps190 rfl (zac (vr0) (zac (vr0) zae)) ?_
  rw[List.drop_length]at hf
  exact⟨by rw[hf];rfl,hE⟩
def zdO(s:Lab):Int×Int:=
 if (zfa (zaI s) nyTab).2=true then((zfa (zaI s) nyTab).1,0)
 else if ([116,121,112,101]:Lab).isPrefixOf (zaI s)=false∨(decP 65535 (Lib.trimPrefix (zaI s) [116,121,112,101])).2=2 then(0,6)
 else if ¬(decP 65535 (Lib.trimPrefix (zaI s) [116,121,112,101])).2=0∨(decP 65535 (Lib.trimPrefix (zaI s) [116,121,112,101])).1=0 then(0,7)
 else(((decP 65535 (Lib.trimPrefix (zaI s) [116,121,112,101])).1:Nat),0)
theorem ziH{w:World}(hX:WX w)(s:Lab)(hl:s.length≤1000000):Fn Tryz.prog 165 #[vs s] w (fun v w'=>v= .tuple #[vi (zdO s).1,vi (zdO s).2]∧Ext w w'):=by
 have hfl:(zaI s).length≤1000000:=by unfold zaI;rw[List.length_map];exact hl
 have htl:(Lib.trimPrefix (zaI s) [116,121,112,101]).length≤1000000:=by
  unfold Lib.trimPrefix
  split
  ·rw[List.length_drop];omega
  ·exact hfl
 refine enter Tryz.func165 Tryz.ntmps165 rfl rfl ?_
 refine go trivial ?_
 refine rc trivial (zc8 w s (by omega)) ?_
 rintro _ w1 ⟨rfl,hE1⟩
 refine rgo trivial ?_
 refine rc trivial (types_ok w1) ?_
 rintro tv w2 ⟨hR,hE2⟩
 refine rd trivial (findN_ok hR (by decide) (zaI s)) ?_
 rintro _ w3 ⟨rfl,hE3⟩
 have hE:=(hE1.trans hE2).trans hE3
 unfold zdO
 obtain⟨⟨t,z⟩,hz⟩:∃x,zfa (zaI s) nyTab=x:=⟨_,rfl⟩
 rw[hz]
 cases z with
 |true=>
  rw[if_pos rfl]
  refine rgo trivial ?_
  refine zaf (.inr rfl) Tryz.ntmps165 rfl (zac (vr0) (zac (vr0) zae)) ?_
  exact⟨rfl,hE⟩
 |false=>
  rw[if_neg (by simp)]
  refine rgo trivial ?_
  refine rc trivial (ziR w3 (zaI s) [116,121,112,101]) ?_
  rintro _ w3' ⟨rfl,hw3⟩
  rw[hw3]
  clear hw3 w3'
  refine rgo trivial ?_
  refine rc trivial (zca (hX.ext hE) (Lib.trimPrefix (zaI s) [116,121,112,101]) 65535 (by decide) (by omega)) ?_
  rintro _ w4 ⟨rfl,hE4⟩
  have hdl:=zdo 65535 (Lib.trimPrefix (zaI s) [116,121,112,101])
  obtain⟨⟨n,e⟩,hne⟩:∃x,decP 65535 (Lib.trimPrefix (zaI s) [116,121,112,101])=x:=⟨_,rfl⟩
  obtain⟨p,hp⟩:∃p,([116,121,112,101]:Lab).isPrefixOf (zaI s)=p:=⟨_,rfl⟩
  rw[hne]at hdl ⊢
  rw[hp]
  simp only at hdl ⊢
  have hw:IntKind.i64.wrap (n:Int)=(n:Int):=zd5 (by omega) (by omega)
  cases p with
  |false=>
   rw[if_pos (.inl rfl)]
   refine rgo Bool.not_false ?_
   refine zaf (.inr rfl) Tryz.ntmps165 rfl (zac (vr0) (zac (vr0) zae)) ?_
   exact⟨rfl,hE.trans hE4⟩
  |true=>
   by_cases h2:e=2
   ·rw[if_pos (.inr h2)]
    refine rgo (an2 Bool.not_true (decide_eq_true h2)) ?_
    refine zaf (.inr rfl) Tryz.ntmps165 rfl (zac (vr0) (zac (vr0) zae)) ?_
    exact⟨rfl,hE.trans hE4⟩
   rw[if_neg (fun h=>h.elim (fun h=>by cases h) h2)]
   by_cases h0:e=0
   rotate_left
   ·rw[if_pos (.inl h0)]
    refine rgo (an4 Bool.not_true (decide_eq_false h2) (decide_eq_false h0) Bool.not_false) ?_
    refine zaf (.inr rfl) Tryz.ntmps165 rfl (zac (vr0) (zac (vr0) zae)) ?_
    exact⟨rfl,hE.trans hE4⟩
   by_cases hn:n=0
   ·rw[if_pos (.inr hn)]
    refine rgo (an5 Bool.not_true (decide_eq_false h2) (decide_eq_true h0) Bool.not_true (decide_eq_true (show(n:Int)=0 by omega))) ?_
    refine zaf (.inr rfl) Tryz.ntmps165 rfl (zac (vr0) (zac (vr0) zae)) ?_
    exact⟨rfl,hE.trans hE4⟩
   ·rw[if_neg (fun h=>h.elim (fun h=>h h0) hn)]
    refine rgo (an6 Bool.not_true (decide_eq_false h2) (decide_eq_true h0) Bool.not_true (decide_eq_false (show¬(n:Int)=0 by omega)) hw) ?_
    refine zaf (.inr rfl) Tryz.ntmps165 rfl (zac ((vr1 hw)) (zac (vr0) zae)) ?_
    exact⟨rfl,hE.trans hE4⟩
theorem or_ok(w:World)(a b:Int)(p q:Bool):Fn Tryz.prog 167 #[.agg #[.int .u32 a,.bool p],.agg #[.int .u32 b,.bool q]] w (fun v w'=>v=(if p=true then .agg #[.int .u32 a,.bool true] else .agg #[.int .u32 b,.bool q])∧Ext w w'):=by
 refine enter Tryz.func167 Tryz.ntmps167 rfl rfl ?_
 refine go trivial ?_
 refine zhy ?_
 intro w1 hE1 hs1 hA hB hC
 simp only[World.size_alloc]
 have qa:zar w1 (some ⟨w.heap.size,0,Option.none⟩) 2=some [.int .u32 a,.bool p]:=zal (n:=2) (l:=[.int .u32 a,.bool p]) hA rfl
 have qb:zar w1 (some ⟨w.heap.size+1,0,Option.none⟩) 2=some [.int .u32 b,.bool q]:=zal (n:=2) (l:=[.int .u32 b,.bool q]) hB rfl
 have ka:zad w1 (some ⟨w.heap.size,1,Option.none⟩)=some (.bool p):=zaa hA rfl
 cases p with
 |true=>
  refine go (an2 ka Nat.zero_add) ?_
  refine rq ?_;intro gd K hgd hK
  try simp (disch:=first|omega|assumption|rfl) only[go_sem,qa]
  refine zaR (P:=Tryz.prog) (t:=84) (l:=[.int .u32 a,.bool true]) hC rfl (fun v hv=>by simp at hv;rcases hv with rfl|rfl<;>rfl) rfl rfl ?_
  intro w2 hs2 hb2 hk2
  try simp only[go_sem]
  refine hK _ _ ?_;clear hK hgd;clear K;try clear gd
  refine go trivial ?_
  refine zaf (.inr rfl) Tryz.ntmps167 rfl (zaW (x:=⟨w.heap.size+1+1,0,Option.none⟩) (k:=2) (vr0) rfl rfl (zal (n:=2) (l:=[.int .u32 a,.bool true]) hb2 rfl) zae) ?_
  exact⟨rfl,Keep.to_ext hE1 rfl (fun i hi=>by omega) hk2⟩
 |false=>
  refine go (an2 ka Nat.zero_add) ?_
  refine rq ?_;intro gd K hgd hK
  try simp (disch:=first|omega|assumption|rfl) only[go_sem,qb]
  refine zaR (P:=Tryz.prog) (t:=84) (l:=[.int .u32 b,.bool q]) hC rfl (fun v hv=>by simp at hv;rcases hv with rfl|rfl<;>rfl) rfl rfl ?_
  intro w2 hs2 hb2 hk2
  try simp only[go_sem]
  refine hK _ _ ?_;clear hK hgd;clear K;try clear gd
  refine go trivial ?_
  refine zaf (.inr rfl) Tryz.ntmps167 rfl (zaW (x:=⟨w.heap.size+1+1,0,Option.none⟩) (k:=2) (vr0) rfl rfl (zal (n:=2) (l:=[.int .u32 b,.bool q]) hb2 rfl) zae) ?_
  exact⟨rfl,Keep.to_ext hE1 rfl (fun i hi=>by omega) hk2⟩
def PrsIs(T:Int)(ws:List (Lab×Bool))(o:Nm)(d:DatL)(e:Int):Prop:=∀(w:World) (wv:Value) (oa:Option Addr) (on oc:Nat),WX w→Rows 2 WdC w wv ws→Row w (.slice oa on oc) (o.map vs)→NmT o→
 Fn Tryz.prog 166 #[vi T,wv,.slice oa on oc] w (fun v w'=>Ext w w'∧∃cs:List Value,v= .tuple #[.agg cs.toArray,vi e]∧cs.length=5∧(∀q∈cs,one q=true)∧(e=0→GD d w.heap.size cs w'))
def orT(a b:Option Int):Option Int:=match a with|some x=>some x|Option.none=>b
inductive AddR(st:LdS)(tm:Option Int):List (Lab×Bool)→Int→LdS→Prop
 |none:AddR st tm [] 8 st
 |quoted (t:Lab) (ws:List (Lab×Bool)):AddR st tm ((t,true)::ws) 2 st
 |type (t:Lab) (ws:List (Lab×Bool)):t.length≤1000000→¬(zdO t).2=0→AddR st tm ((t,false)::ws) (zdO t).2 st
 |data (t:Lab) (ws:List (Lab×Bool)) (d:DatL) (e:Int) (st':LdS):t.length≤1000000→(zdO t).2=0→PrsIs (zdO t).1 ws st.origin d e→(¬e=0∧st'=st∨e=0∧st.out.length<4096∧∃o τ,st.owner=some o∧orT (orT tm st.ttl) st.last=some τ∧st'={st with last:=some τ,out:=st.out++ [⟨o,τ,d⟩]})→AddR st tm ((t,false)::ws) e st'
def tmV(t:Option Int):Value:= .agg #[.int .u32 (t.getD 0),.bool t.isSome]
section
variable {D : Nat → Prop} {B b : Nat} {w x : World} {fs : Value → World → Prop} {st : LdS} {fv ov rv orv owv : Value} {G : List (RecL × List Value)}
theorem LX.more(h:LX D B w b fs st fv ov rv orv owv G){y1 y2:World}{ov':Value}{z:RecL×List Value}(ho:Owns 7 gR B y2 49 ov' (G++ [z]))(hE0:Ext w y1)(hk:Keep (fun i=>some i=ov.ownBlock) y1 y2)(hb2:∀i,some i=ov'.ownBlock→some i=ov.ownBlock∨y1.heap.size≤i)
  (hk3:Keep (fun i=>i=b) y2 x) (hb:x.heap[b]? =some (.cells (zkd fv ov' rv orv owv st).toArray 88 (0,0))) (hz:Hz (MutL D b ov rv) w (fun X=>RecAt X z.2 z.1)):LX D B x b fs {st with out:=st.out++ [z.1]} fv ov' rv orv owv (G++ [z]):=by
 have hl:=h.lt
 have hle:=h.le
 have e1:=hE0.size
 have e2:=hk.size
 have e3:=hk3.size
 have hob:∀{i},some i=ov.ownBlock→B≤i∧i<w.heap.size:=fun e=>h.oo.ge e
 have hkk:Keep (fun i=>some i=ov.ownBlock∨i=b) w x:=((hE0.mono fun _ _ h=>h.elim).trans (hk.mono fun _ _ e=> .inl e)).trans (hk3.mono fun _ _ e=> .inr e)
 have hT:∀i,i<w.heap.size→(some i=ov.ownBlock∨i=b)→MutL D b ov rv i:=fun i _ e=>e.elim (fun e=> .inr (.inl e)) .inl
 have hM:∀i,i<w.heap.size→MutL D b ov' rv i→MutL D b ov rv i:=fun i hi hm=>by
  rcases hm with e|e|e|e
  ·exact .inl e
  ·rcases hb2 i e with e|e
   ·exact .inr (.inl e)
   ·omega
  ·exact .inr (.inr (.inl e))
  ·exact .inr (.inr (.inr e))
 refine⟨hb,hl,by omega,ho.keep hk3 fun i hi e=>by have:=(ho.ge hi).1;omega,h.ow.keep hkk fun i hi e=>?_,fun i hi e=>?_,fun i hi=>?_,?_,fun y hy=>?_,Hz.app h.ff hkk hT hM,Hz.app h.fo hkk hT hM,OwnerZ.app h.fw hkk hT hM,h.ot⟩
 ·rcases e with e|e
  ·exact h.d i e hi
  ·have:=(h.ow.ge hi).1;omega
 ·rcases hb2 i hi with e2|e2
  ·exact h.d i e2 e
  ·have:=(h.ow.ge e).2;omega
 ·obtain⟨a1,a2,a3,a4⟩:=h.dd i hi
  exact⟨a1,by omega,fun e=>(hb2 i e).elim a3 fun e=>by omega,a4⟩
 ·show st.out++ [z.1]=_
  rw[h.ol,List.map_append];rfl
 ·rcases List.mem_append.1 hy with hy|hy
  ·exact Hz.app (h.fr y hy) hkk hT hM
  ·rw[List.mem_singleton.1 hy];exact Hz.app hz hkk hT hM
theorem orT_tm(a b:Option Int):(if a.isSome=true then Value.agg #[.int .u32 (a.getD 0),.bool true] else tmV b)=tmV (orT a b):=by
 cases a<;>rfl
theorem row1{lv:Value}{t:Lab}{q:Bool}{ws:List (Lab×Bool)}(h:Rows 2 WdC w lv ((t,q)::ws)):∃xa c,lv= .slice (some xa) (ws.length+1) c∧ws.length+1≤c∧zad w (some xa)=some (vs t)∧∃x1,adr (some xa) 1=some x1∧zad w (some x1)=some (.bool q):=by
 obtain⟨a,c,rfl,hc,hg⟩:=h.open
 obtain⟨cs,g0,hcs⟩:=hg 0 (by simp)
 simp only[List.getElem_cons_zero,Nat.zero_mul,zam]at g0 hcs
 unfold WdC at hcs
 subst hcs
 obtain⟨xa,rfl⟩:∃x,a=some x:=by
  cases a with
  |none=>cases g0
  |some x=>exact⟨x,rfl⟩
 have c0:zad w (adr (some xa) 0)=some (vs t):=zaN g0 (j:=0) (by simp)
 rw[zam]at c0
 obtain⟨x1,hx1⟩:∃x,adr (some xa) 1=some x:=⟨_,rfl⟩
 have c1:zad w (adr (some xa) 1)=some (.bool q):=zaN g0 (j:=1) (by simp)
 rw[hx1]at c1
 exact⟨xa,c,by rw[List.length_cons],by simpa using hc,c0,x1,hx1,c1⟩
theorem add_ok(hX:WX w)(h:LdX D B w b fs st){tm:Option Int}{lv:Value}{l:List (Lab×Bool)}{e:Int}{st':LdS}(hl:Rows 2 WdC w lv l)(hb:AddR st tm l e st')(hll:l.length≤1000000):Fn Tryz.prog 138 #[.pointer (some ⟨b,0,Option.none⟩),tmV tm,lv] w (fun v w'=>v=vi e∧LdX D B w' b fs st'∧za7 D b w w'):=by
 have hKp:∀{x:World},Ext w x→LdX D B x b fs st∧za7 D b w x:=fun hE=>⟨h.ext hE,hE.mono fun _ _ h=>h.elim⟩
 obtain⟨fv,ov,rv,orv,owv,G,h⟩:=h
 have hD:¬D b:=fun e=>by have:=(h.dd b e).1;omega
 have z0:(0:Int)≤0:=by decide
 unfold tmV
 cases hb with
 |none=>
  obtain⟨a,c,rfl,_⟩:=hl.open
  refine enter Tryz.func138 Tryz.ntmps138 rfl rfl ?_
  refine go trivial ?_
  refine rt0 Tryz.ntmps138 ?_
  exact⟨rfl,hKp (Ext.alloc w _)⟩
 |quoted t ws=>
  obtain⟨xa,c,rfl,hc,c0,x1,hx1,c1⟩:=row1 hl
  have d:decide (((ws.length+1:Nat):Int)=0)=false:=decide_eq_false (by omega)
  have l1:(0:Int)<((ws.length+1:Nat):Int):=by omega
  refine enter Tryz.func138 Tryz.ntmps138 rfl rfl ?_
  refine go trivial ?_
  refine zan ?_
  intro w1 hE1 hs1 hA
  refine go (an9 d z0 l1 Int.toNat_zero Nat.zero_mul zam hx1 (zab hE1 c1) trivial) ?_
  refine rt0 Tryz.ntmps138 ?_
  exact⟨rfl,hKp hE1⟩
 |type t ws htl he=>
  obtain⟨xa,c,rfl,hc,c0,x1,hx1,c1⟩:=row1 hl
  have d:decide (((ws.length+1:Nat):Int)=0)=false:=decide_eq_false (by omega)
  have l1:(0:Int)<((ws.length+1:Nat):Int):=by omega
  refine enter Tryz.func138 Tryz.ntmps138 rfl rfl ?_
  refine go trivial ?_
  refine zan ?_
  intro w1 hE1 hs1 hA
  have c0':=zab hE1 c0
  refine go (an9 d z0 l1 Int.toNat_zero Nat.zero_mul zam hx1 (zab hE1 c1) trivial) ?_
  refine rc (an6 z0 l1 Int.toNat_zero Nat.zero_mul zam c0') (ziH (hX.ext hE1) t htl) ?_
  rintro _ w2 ⟨rfl,hE2⟩
  refine rgo (decide_eq_false he) ?_
  refine rt0 Tryz.ntmps138 ?_
  exact⟨rfl,hKp (hE1.trans hE2)⟩
 |data t ws dt e _ htl he hP hb=>
  obtain⟨xa,c,rfl,hc,c0,x1,hx1,c1⟩:=row1 hl
  have d:decide (((ws.length+1:Nat):Int)=0)=false:=decide_eq_false (by omega)
  have l1:(0:Int)<((ws.length+1:Nat):Int):=by omega
  have l2:(1:Int)≤((ws.length+1:Nat):Int):=by omega
  have l3:(1:Int)≤(c:Int):=by omega
  have z1:(0:Int)≤1:=by decide
  have t1:(1:Int).toNat=1:=rfl
  have hdr:=hl.drop (m:=1) (by simp)
  rw[List.drop_one,List.tail_cons]at hdr
  obtain⟨oa,oc,rfl,_⟩:=id h.fo.now
  refine enter Tryz.func138 Tryz.ntmps138 rfl rfl ?_
  refine go trivial ?_
  refine zan ?_
  intro w1 hE1 hs1 hA
  have c0':=zab hE1 c0
  refine go (an9 d z0 l1 Int.toNat_zero Nat.zero_mul zam hx1 (zab hE1 c1) trivial) ?_
  refine rc (an6 z0 l1 Int.toNat_zero Nat.zero_mul zam c0') (ziH (hX.ext hE1) t htl) ?_
  rintro _ w2 ⟨rfl,hE2⟩
  have hE12:=hE1.trans hE2
  have h2:=h.ext hE12
  have k6:zad w2 (some ⟨b,6,Option.none⟩)=some (.slice oa (st.origin.map vs).length oc):=zaa h2.h rfl
  refine rgo (decide_eq_true he) ?_
  refine zas (Q:=fun e' σ' ds' v'=>e'= .normal∧ds'=[]∧∃(cs:List Value) (p:Nat),(σ' 0= .pointer (some ⟨b,0,Option.none⟩)∧σ' 4= .pointer (some ⟨w.heap.size,0,Option.none⟩)∧σ' 8=vi e∧σ' 9= .pointer (some ⟨p,0,Option.none⟩))∧Ext w2 v'∧w2.heap.size≤p∧cs.length=5∧v'.heap[p]? =some (.cells cs.toArray 47 (0,0))∧(∀q∈cs,one q=true)∧(e=0→GD dt w2.heap.size cs v')) ?_ ?_
  ·refine znd (fun i=>i==13) (.run [(0,true),(1,true),(2,true),(3,true),(4,true),(5,true),(6,true),(7,true)] (.fork 6 [8,12] (fun i=>if i=8 then(.run [(9,true),(10,true),(11,true),(12,false),(13,false),(14,true)] .fin) else(.run [(8,false),(9,true),(10,true),(11,true),(13,false),(14,true)] .fin)))) NoS mixed (by kernel_rfl) ?_;intro gd K x hgd hx hxe hK;have hx0:=zaT hxe;clear hxe
   have k6x:=zab hx0 k6
   simp (disch:=first|omega|assumption|rfl) only[go_sem,z1,l2,l3,t1,k6x,Nat.zero_add,Nat.add_zero,Nat.one_mul]
   simp only[zeC,zfu];refine⟨?_,?_⟩
   ·simp (disch:=first|omega|assumption|rfl) only[go_sem,z1,l2,l3,t1,k6x,Nat.zero_add,Nat.add_zero,Nat.one_mul]
    refine Fn.mono (hP x _ _ _ _ (hX.ext (hE12.trans hx0)) (hdr.ext (hE12.trans hx0)) (h2.fo.now.ext hx0) h2.ot) ?_
    rintro _ y1 ⟨hy1,cs,rfl,hc5,hc1,hGD⟩
    refine⟨.inr hy1,?_⟩
    simp (disch:=first|omega|assumption|rfl) only[go_sem]
    refine⟨.inr (Ext.alloc y1 _),?_⟩
    refine zaR (P:=Tryz.prog) (t:=47) (l:=cs) (World.alloc_heap_new y1 _) (by rw[hc5];rfl) hc1 (by rw[hc5];rfl) rfl ?_
    intro y2 hs2 hb2 hk2
    refine⟨.inl rfl,?_⟩
    simp (disch:=first|omega|assumption|rfl) only[go_sem]
    refine hK _ _ ?_;clear hK hgd;clear K;try clear gd
    have hE:=Keep.to_ext ((hx0.trans hy1).trans (Ext.alloc y1 _)) rfl (fun i hi=>by have:=hx0.size;have:=hy1.size;omega) hk2
    have hEy:=Keep.to_ext (Ext.alloc y1 _) rfl (fun i hi=>by omega) hk2
    exact⟨rfl,rfl,cs,_,⟨vr0,vr0,vr0,vr0⟩,hE,by have:=hx0.size;have:=hy1.size;omega,hc5,hb2,hc1,fun h0 X hX=>(Hz.ext (hGD h0) hEy) X (hX.mono fun i _ hi=>by have:=hx0.size;omega)⟩
   ·simp (disch:=first|omega|assumption|rfl) only[go_sem,z1,l2,l3,t1,k6x,Nat.zero_add,Nat.add_zero,Nat.one_mul]
    refine⟨.inr (Ext.alloc x _),?_⟩
    have hxa:=Ext.alloc x (.cells #[vi 0,.slice Option.none 0 0,.slice Option.none 0 0,.slice Option.none 0 0,.slice Option.none 0 0] 47 (0,0))
    have hba:=World.alloc_heap_new x (.cells #[vi 0,.slice Option.none 0 0,.slice Option.none 0 0,.slice Option.none 0 0,.slice Option.none 0 0] 47 (0,0))
    obtain⟨y0,hy0⟩:∃y,x.alloc (.cells #[vi 0,.slice Option.none 0 0,.slice Option.none 0 0,.slice Option.none 0 0,.slice Option.none 0 0] 47 (0,0))=y:=⟨_,rfl⟩
    have hys:y0.heap.size=x.heap.size+1:=by rw[←hy0];simp
    rw[hy0]at hxa hba ⊢
    refine Fn.mono (hP y0 _ _ _ _ (hX.ext ((hE12.trans hx0).trans hxa)) (hdr.ext ((hE12.trans hx0).trans hxa)) (h2.fo.now.ext (hx0.trans hxa)) h2.ot) ?_
    rintro _ y1 ⟨hy1,cs,rfl,hc5,hc1,hGD⟩
    refine⟨.inr hy1,?_⟩
    simp (disch:=first|omega|assumption|rfl) only[go_sem]
    refine zaR (P:=Tryz.prog) (t:=47) (l:=cs) (Ext.at hy1 hba) (by rw[hc5];rfl) hc1 (by rw[hc5];rfl) rfl ?_
    intro y2 hs2 hb2 hk2
    refine⟨.inl rfl,?_⟩
    simp (disch:=first|omega|assumption|rfl) only[go_sem]
    refine hK _ _ ?_;clear hK hgd;clear K;try clear gd
    have hE:=Keep.to_ext ((hx0.trans hxa).trans hy1) rfl (fun i hi=>by have:=hx0.size;omega) hk2
    exact⟨rfl,rfl,cs,_,⟨vr0,vr0,vr0,vr0⟩,hE,by have:=hx0.size;omega,hc5,hb2,hc1,fun h0 X hX=>(znx dt _ _ _ _ _ (hGD h0) hk2 fun i hi=>by omega) X (hX.mono fun i _ hi=>by have:=hx0.size;omega)⟩
  rintro _ σ3 _ w3 ⟨rfl,rfl,cs,p,⟨s0,s4,s8,s9⟩,hE3,hp,hc5,hb3,hc1,hGD⟩
  rcases hb with ⟨he0,rfl⟩| ⟨rfl,hm,o,τ,ho,ht,rfl⟩
  ·refine go (an5 s0 s4 s8 s9 (decide_eq_false he0)) ?_
   refine rt0 Tryz.ntmps138 ?_
   exact⟨rfl,hKp (hE12.trans hE3)⟩
  have hGD:=hGD rfl
  have h3:=h2.ext hE3
  have hs1':w1.heap.size=w.heap.size+1:=by rw[hs1]
  have hs2':=hE2.size
  have hs3':=hE3.size
  have hA3:=Ext.at (hE2.trans hE3) hA
  have h13:=zal (n:=13) h3.h rfl
  have qt:zar w3 (some ⟨b,9,Option.none⟩) 2=some [.int .u32 (st.ttl.getD 0),.bool st.ttl.isSome]:=by
   have:=zbI (m:=9) (k:=4) h13
   rw[zaZ]at this
   exact zgP (m:=2) (k:=2) this
  have ql:zar w3 (some ⟨b,11,Option.none⟩) 2=some [.int .u32 (st.last.getD 0),.bool st.last.isSome]:=by
   have:=zbI (m:=11) (k:=2) h13
   rw[zaZ]at this
   exact this
  have qm:zar w3 (some ⟨w.heap.size,0,Option.none⟩) 2=some [.int .u32 (tm.getD 0),.bool tm.isSome]:=zal (n:=2) hA3 rfl
  refine go (an5 s0 s4 s8 s9 (show decide ((0:Int)=0)=true from rfl)) ?_
  refine zas (Q:=fun e' σ' ds' v'=>e'= .normal∧ds'=[]∧(σ' 0= .pointer (some ⟨b,0,Option.none⟩)∧σ' 4= .pointer (some ⟨w.heap.size,0,Option.none⟩)∧σ' 9= .pointer (some ⟨p,0,Option.none⟩))∧Keep (fun i=>i=w.heap.size) w3 v'∧v'.heap[w.heap.size]? =some (.cells #[.int .u32 τ,.bool true] 84 (0,0))) ?_ ?_
  ·refine zaF (fun i=>i==13) [(0,true),(1,true),(2,true),(3,true),(4,true),(5,true),(7,true),(8,true),(9,true),(10,true),(11,true),(6,false),(12,false),(13,false)] NoS mixed (by kernel_rfl) ?_;intro gd K x hgd hx hxe hK;have hx0:=zaT hxe;clear hxe
   have qtx:=zah hx0 qt
   have qlx:=zah hx0 ql
   have qmx:=zah hx0 qm
   simp (disch:=first|omega|assumption|rfl) only[go_sem,s0,s4,qtx,qlx,qmx,Nat.zero_add,Nat.add_zero]
   refine Fn.mono (or_ok x _ _ _ _) ?_
   rintro _ y1 ⟨hv1,hy1⟩
   rw[show _=tmV (orT tm st.ttl) from hv1.trans (orT_tm tm st.ttl)]
   refine⟨.inr hy1,?_⟩
   have qly:=zah hy1 qlx
   simp (disch:=first|omega|assumption|rfl) only[go_sem,qly,Nat.zero_add]
   refine Fn.mono (or_ok y1 ((orT tm st.ttl).getD 0) (st.last.getD 0) (orT tm st.ttl).isSome st.last.isSome) ?_
   rintro _ y2 ⟨hv2,hy2⟩
   rw[show _=Value.agg ([.int .u32 τ,.bool true]:List Value).toArray from(hv2.trans (orT_tm (orT tm st.ttl) st.last)).trans (by rw[ht];rfl)]
   refine⟨.inr hy2,?_⟩
   simp (disch:=first|omega|assumption|rfl) only[go_sem,s4]
   refine zaR (P:=Tryz.prog) (t:=84) (l:=[.int .u32 τ,.bool true]) (Ext.at ((hx0.trans hy1).trans hy2) hA3) rfl (fun v hv=>by simp at hv;rcases hv with rfl|rfl<;>rfl) rfl rfl ?_
   intro y3 hs3 hb3 hk3
   refine⟨.inl rfl,?_⟩
   simp (disch:=first|omega|assumption|rfl) only[go_sem]
   refine hK _ _ ?_;clear hK hgd;clear K;try clear gd
   exact⟨rfl,rfl,⟨(vr1 s0),(vr1 s4),(vr1 s9)⟩,(((hx0.trans hy1).trans hy2).mono fun _ _ h=>h.elim).trans hk3,hb3⟩
  rintro _ σ4 _ w4 ⟨rfl,rfl,⟨s0,s4,s9⟩,hk4,hA4⟩
  have hE4:Ext w w4:=Keep.to_ext (hE12.trans hE3) rfl (fun i hi=>by omega) hk4
  have h4:=h.ext hE4
  have hs4:=hk4.size
  have hb4:=(hk4.block p (by have:=(Array.getElem?_eq_some_iff.1 hb3).1;exact this) (by omega)).trans hb3
  have e1:zad w4 (some ⟨w.heap.size,1,Option.none⟩)=some (.bool true):=zaa hA4 rfl
  have k1:zad w4 (some ⟨b,1,Option.none⟩)=some ov:=zaa h4.h rfl
  obtain⟨ova,ovc,rfl,_⟩:=h4.oo.rows.open
  have hol:G.length=st.out.length:=by rw[h.ol,List.length_map]
  have hgl:decide ((4096:Int)≤(G.length:Int))=false:=decide_eq_false (by omega)
  refine go (an9 s0 s4 s9 e1 k1 Nat.zero_add Bool.not_true hgl trivial) ?_
  have q4:zar w4 (some ⟨w.heap.size,0,Option.none⟩) 2=some [.int .u32 τ,.bool true]:=zal (n:=2) (l:=[.int .u32 τ,.bool true]) hA4 rfl
  refine rq ?_;intro gd K hgd hK
  try simp (disch:=first|omega|assumption|rfl) only[go_sem,s0,s4,s9,q4,Nat.zero_add]
  refine zeG (P:=Tryz.prog) (t:=84) [fv,.slice ova G.length ovc,rv,vi st.many,vs st.path,vi st.line,.slice oa (st.origin.map vs).length oc,owv,.bool st.owner.isSome,.int .u32 (st.ttl.getD 0),.bool st.ttl.isSome] [.int .u32 (st.last.getD 0),.bool st.last.isSome] (B:=[]) (l:=[.int .u32 τ,.bool true]) h4.h rfl (fun v hv=>by simp at hv;rcases hv with rfl|rfl<;>rfl) rfl rfl ?_
  intro w5 hs5 hb5 hk5
  try simp only[go_sem]
  refine hK _ _ ?_;clear hK hgd;clear K;try clear gd
  have h5:LX D B w5 b fs {st with last:=some τ} fv _ rv _ owv G:=LX.turn h4 (st':={st with last:=some τ}) hk5 hb5 rfl rfl h4.fo h4.fw h4.ot
  have hlt:=h.lt
  have hle:=h.le
  have q05:zad w5 (some ⟨w.heap.size,0,Option.none⟩)=some (.int .u32 τ):=zaa ((hk5.block w.heap.size (by omega) (by omega)).trans hA4) rfl
  have hb5p:=(hk5.block p (by have:=(Array.getElem?_eq_some_iff.1 hb4).1;exact this) (by omega)).trans hb4
  obtain⟨c0,c1,c2,c3,c4,rfl⟩:∃c0 c1 c2 c3 c4,cs=[c0,c1,c2,c3,c4]:=by
   iterate 5 (rcases cs with _| ⟨_,cs⟩;· exact absurd hc5 (by simp))
   rcases cs with _| ⟨_,cs⟩
   ·exact⟨_,_,_,_,_,rfl⟩
   ·exact absurd hc5 (by simp)
  have q95:zar w5 (some ⟨p,0,Option.none⟩) 5=some [c0,c1,c2,c3,c4]:=zal (n:=5) hb5p rfl
  have k15:zad w5 (some ⟨b,1,Option.none⟩)=some (.slice ova G.length ovc):=zaa h5.h rfl
  have k75:zad w5 (some ⟨b,7,Option.none⟩)=some owv:=zaa h5.h rfl
  have how:=h5.fw
  rw[show ({st with last:=some τ}:LdS).owner=some o from ho]at how
  obtain⟨na,nc,rfl,_⟩:=id (Hz.now how)
  repeat refine c_r ?_
  refine zas (Q:=fun e' σ' ds' v'=>e'= .normal∧ds'=[]∧LdX D B v' b fs {st with last:=some τ,out:=st.out++ [⟨o,τ,dt⟩]}∧za7 D b w5 v') ?_ ?_
  ·refine zaF (fun i=>i==16||i==19) [(0,true),(1,true),(2,true),(3,true),(4,true),(5,true),(6,true),(7,true),(8,true),(9,true),(10,true),(11,true),(12,true),(13,true),(14,true),(15,false),(16,false),(17,true),(18,true),(19,false)] NoS mixed (by kernel_rfl) ?_;intro gd K x hgd hx hxe hK;have hx0:=zaT hxe;clear hxe
   have q0x:=zab hx0 q05
   have q9x:=zah hx0 q95
   have k1x:=zab hx0 k15
   have k7x:=zab hx0 k75
   simp (disch:=first|omega|assumption|rfl) only[go_sem,s0,s4,s9,q0x,q9x,k1x,k7x,Nat.zero_add,Nat.add_zero]
   refine⟨by kernel_rfl,?_⟩
   rw[show bdV Tryz.prog 49 [(0,.slice na (o.map vs).length nc),(1,.int .u32 τ),(2,.agg #[c0,c1,c2,c3,c4])]=some (.agg #[.slice na (o.map vs).length nc,.int .u32 τ,c0,c1,c2,c3,c4]) from by kernel_rfl]
   simp (disch:=first|omega|assumption|rfl) only[go_sem]
   refine zc2 zjY (l:=[.slice na (o.map vs).length nc,.int .u32 τ,c0,c1,c2,c3,c4]) (a:=(⟨o,τ,dt⟩,[.slice na (o.map vs).length nc,.int .u32 τ,c0,c1,c2,c3,c4])) rfl rfl rfl rfl ⟨rfl,rfl,fun q hq=>by
    rcases List.mem_cons.1 hq with rfl|hq
    ·rfl
    ·rcases List.mem_cons.1 hq with rfl|hq
     ·rfl
     ·exact hc1 q hq⟩ (by decide) ?_
   intro y1 hy1 hys1 ho1
   refine⟨.inr hy1.keep,?_⟩
   have h5x:=(h5.ext hx0).ext hy1
   simp (disch:=first|omega|assumption|rfl) only[go_sem]
   refine zbU zjY h5x.oo ho1.rows rfl rfl rfl rfl rfl rfl (by decide) (vr0) (vr0) (by simp;omega) (by decide) h5x.le ?_
   intro ov' y2 ho2 hX2 hk2 hb2
   refine⟨.inl rfl,?_⟩
   have h1v:one ov'=true:=by rcases ho2.cases with ⟨e,_⟩| ⟨_,_,_,e,_⟩<;>rw[e]<;>rfl
   have hby2:=(hk2.block b (by have:=h5x.le;omega) fun e=>by have:=(h5x.oo.ge e).1;omega).trans h5x.h
   simp (disch:=first|omega|assumption|rfl) only[go_sem,s0,Nat.zero_add]
   refine zaq (P:=Tryz.prog) rfl rfl h1v hby2 (by show(1:Nat)<13;decide) (by simp) ?_
   intro y3 hs3 hb3 hk3
   refine⟨.inl rfl,?_⟩
   simp (disch:=first|omega|assumption|rfl) only[go_sem]
   refine hK _ _ ?_;clear hK hgd;clear K;try clear gd
   have hz:Hz (MutL D b (.slice ova G.length ovc) rv) w5 (fun X=>RecAt X [.slice na (o.map vs).length nc,.int .u32 τ,c0,c1,c2,c3,c4] ⟨o,τ,dt⟩):=fun X hX=>by
    refine⟨_,_,rfl,Hz.now (fun Y hY=>how Y (hX.trans hY)),?_⟩
    exact Hz.app hGD (hk4.mono (fun i _ e=> .inl e)|>.trans (hk5.mono fun i _ e=> .inr e)) (S':=MutL D b (.slice ova G.length ovc) rv) (T:=fun i=>i=w.heap.size∨i=b) (fun i _ e=>by omega) (fun i hi e=>by have:=(h.mut i e).2;omega) X hX
   exact⟨rfl,rfl,⟨_,_,_,_,_,_,LX.more h5 ho2 (hx0.trans hy1) hk2 hb2 hk3 hb3 hz⟩,(((hx0.trans hy1).mono fun _ _ h=>h.elim).trans (hk2.mono fun i _ e=>⟨by have:=(h5x.oo.ge e).1;omega,fun e2=>(h5x.dd i e2).2.2.1 e⟩)).trans (hk3.mono fun i _ e=>⟨by omega,by rw[e];exact hD⟩)⟩
  rintro _ σ6 _ w6 ⟨rfl,rfl,h6,hk6⟩
  refine go trivial ?_
  refine rt0 Tryz.ntmps138 ?_
  exact⟨rfl,h6,((hE4.mono fun _ _ h=>h.elim).trans (hk5.mono fun i _ e=>⟨by omega,by rw[e];exact hD⟩)).trans hk6⟩
end
def dgW(t:Lab):Bool:=!decide (t=[]) && decide (Lib.trimS t digs10=[])
def inW(t:Lab):Bool:=decide (zaI t=[105,110])
def goH(x:Lab×Bool)(p k:Bool):Bool:=!x.2 && ((dgW x.1 && !p)|| (inW x.1 && !k))
def zcm(i:Nat)(p k:Bool):List (Lab×Bool)→List (Nat×Bool)
 | []=>[]
 |x::ws=>if goH x p k=true then(i,dgW x.1)::zcm (i+1) (p||dgW x.1) (k||inW x.1) ws else []
def encHd(x:Nat×Bool)(_:World)(args:Array Value):Prop:=args=#[vi x.1,.bool x.2]
theorem headIt{w0 W0:World}{n0:Nat}{C:Nat→Prop}{c:Nat}{lv:Value}{ws:List (Lab×Bool)}{T:TypeId}{fr:Nat×Nat}(hb:W0.heap[c]? =some (.cells #[lv] T fr))(hE0:Ext w0 W0)(hR:Rows 2 WdC w0 lv ws)(hn:w0.heap.size≤n0)(hC:∀i,C i→w0.heap.size≤i)(hl:ws.length≤1000000)(hll:∀x∈ws,x.1.length≤1000000):
    Iter Tryz.prog 162 #[.pointer (some ⟨c,0,Option.none⟩)] W0 n0 C (zcm 0 false false ws) encHd:=by
  intro lp J Jx W hW hnW hJ hJx hY h0
  have old:∀{v:World},KeepB n0 C W v→Ext w0 v:=fun {v} hk=>zif (hE0.trans hW) hk hn hC
  obtain⟨a,cc,rfl,hcap,hg⟩:=hR.open
  have c0:zad W (some ⟨c,0,Option.none⟩)=some (.slice a ws.length cc):=zaa (hW.at hb) rfl
  refine enter Tryz.func162 Tryz.ntmps162 rfl rfl ?_
  refine go c0 ?_
  refine zbq ws.length (fun i σ v=>∃p k pre,(σ 0= .func (.yield lp) #[] #[]∧σ 3= .bool p∧σ 4= .bool k∧σ 9= .slice a ws.length cc∧σ 10=vi ws.length∧σ 11=vi i)∧J pre v∧KeepB n0 C W v∧zcm 0 false false ws=pre++zcm i p k (ws.drop i)) ?_ ?_ ?_
  · exact⟨false,false,[],⟨vr0,vr0,vr0,vr0,vr0,vr0⟩,h0,KeepB.refl _ _ _,rfl⟩
  · rintro i σ v hi r ⟨p,k,pre,⟨s0,s3,s4,s9,s10,s11⟩,hj,hK,hf⟩
    obtain⟨cs,g0,hcs⟩:=hg i hi
    have g:=zah (old hK) g0
    have hxl:=hll _ (List.getElem_mem hi)
    rw[List.drop_eq_getElem_cons hi]at hf
    obtain⟨⟨t,q⟩,hx⟩:∃x,ws[i]=x:=⟨_,rfl⟩
    rw[hx]at hcs hf hxl
    obtain rfl:cs=[vs t,.bool q]:=hcs
    replace hxl:t.length≤1000000:=hxl
    obtain⟨xa,rfl⟩:=Option.isSome_iff_exists.1 (zav g)
    obtain⟨xi,hxi⟩:∃xi,adr (some xa) (i*2)=some xi:=⟨_,rfl⟩
    rw[hxi]at g
    have hi0:(0:Int)≤(i:Int):=by omega
    have hi1:(i:Int)<(ws.length:Int):=by omega
    have hi2:(i:Int)+1=((i+1:Nat):Int):=by push_cast;rfl
    refine go (an7 s0 s3 s4 s9 s10 s11 r) ?_
    refine rq ?_;intro gd K hgd hK
    try simp (disch:=first|omega|assumption|rfl) only[go_sem,s9,s11,hi0,hi1,hxi,g]
    refine zbm (P:=Tryz.prog) (l:=[vs t,.bool q]) rfl (fun v hv=>by simp at hv;rcases hv with rfl|rfl<;>rfl) rfl rfl ?_
    intro v1 hE1 hs1 hB
    try simp only[go_sem]
    refine hK _ _ ?_;clear hK hgd;clear K;try clear gd
    have q0:zad v1 (some ⟨v.heap.size,0,Option.none⟩)=some (vs t):=zaa hB rfl
    have q1:zad v1 (some ⟨v.heap.size,1,Option.none⟩)=some (.bool q):=zaa hB rfl
    refine go trivial ?_
    refine zas (Q:=fun e' σ' ds' v'=>e'= .normal∧ds'=[]∧(σ' 0= .func (.yield lp) #[] #[]∧σ' 3= .bool p∧σ' 4= .bool k∧σ' 5=vi i∧σ' 6= .pointer (some ⟨v.heap.size,0,Option.none⟩)∧σ' 7= .bool (dgW t)∧σ' 9= .slice (some xa) ws.length cc∧σ' 10=vi ws.length∧σ' 11=vi i)∧Ext v1 v') ?_ ?_
    · by_cases h0:t=[]
      · subst h0
        refine rgg [(3,19)] (an5 s0 s3 s4 q0 Nat.add_zero) ?_
        exact⟨rfl,rfl,⟨(vr1 s0),(vr1 s3),(vr1 s4),vr0,vr0,vr0,(vr1 s9),(vr1 s10),(vr1 s11)⟩,Keep.refl _ _⟩
      · refine rcg [(3,19)] (an3 q0 Nat.add_zero (decide_eq_false h0)) (zne v1 t h0 (by omega)) ?_
        rintro _ v2 ⟨rfl,hE2⟩
        refine reg [(3,19)] (decide_eq_false h0) ?_
        have hd:dgW t=decide (Lib.trimS t digs10=[]):=by unfold dgW;rw[decide_eq_false h0];rfl
        exact⟨rfl,rfl,⟨(vr1 s0),(vr1 s3),(vr1 s4),vr0,vr0,by rw[hd];first| (simp only[go_sem];done)| (simp only[go_sem];rfl),(vr1 s9),(vr1 s10),(vr1 s11)⟩,hE2⟩
    rintro _ σ2 _ v2 ⟨rfl,rfl,⟨s0,s3,s4,s5,s6,s7,s9,s10,s11⟩,hE2⟩
    have q0':=zab hE2 q0
    have q1':=zab hE2 q1
    refine go trivial ?_
    refine rc (an3 s6 q0' Nat.add_zero) (zc8 v2 t (by omega)) ?_
    rintro _ v3 ⟨rfl,hE3⟩
    have q13:=zab hE3 q1'
    have hE13:Ext v v3:=(hE1.trans hE2).trans hE3
    have hK3:KeepB n0 C W v3:=hK.trans (hE13.toB (by have:=hK.size;omega) (fun _ _ h=>h.elim))
    have hj3:J pre v3:=hJ _ _ _ hj hE13
    obtain⟨dg,hdg⟩:∃z,dgW t=z:=⟨_,rfl⟩
    obtain⟨cl,hcl⟩:∃z,inW t=z:=⟨_,rfl⟩
    rw[hdg]at s7
    have hcl':decide (zaI t=[105,110])=cl:=hcl
    rw[zcm]at hf
    unfold goH at hf
    rw[hdg,hcl]at hf
    refine rgo (an4 s0 s3 s4 hcl') ?_
    refine zas (Q:=fun e' σ' ds' v'=>e'= .normal∧ds'=[]∧(σ' 0= .func (.yield lp) #[] #[]∧σ' 3= .bool p∧σ' 4= .bool k∧σ' 5=vi i∧σ' 7= .bool dg∧σ' 8= .bool cl∧σ' 9= .slice (some xa) ws.length cc∧σ' 10=vi ws.length∧σ' 11=vi i)∧
      ((σ' 52= .bool true∧(J pre v'∧(!q && ((dg && !p)|| (cl && !k)))=false∨∃suf,zcm 0 false false ws=pre++(i,dg)::suf∧Jx (pre++ [(i,dg)]) v'))∨
       (σ' 52= .bool false∧(!q && ((dg && !p)|| (cl && !k)))=true∧J (pre++ [(i,dg)]) v'∧KeepB n0 C W v'))) ?_ ?_
    · have hY':∀suf,zcm 0 false false ws=pre++(i,dg)::suf→Yld Tryz.prog lp #[vi i,.bool dg] v3 (fun v B=>(v= .bool true∧J (pre++ [(i,dg)]) B∧KeepB n0 C v3 B)∨(v= .bool false∧Jx (pre++ [(i,dg)]) B)):=fun suf e=>hY pre (i,dg) suf v3 _ e hj3 hK3 rfl
      cases q<;>cases dg<;>cases p<;>cases cl<;>cases k
      all_goals
        refine rq ?_;intro gd K hgd hK
        have hg2:∀n σ b,zaE gd n σ (some (2,b))=zap (ev n σ (.tmp 31)) b:=(fun n σ b=>by rw[zag,show gd 2=some 31 from(by rw[hgd];rfl)];rfl);have hg4:∀n σ b,zaE gd n σ (some (4,b))=zap (ev n σ (.tmp 33)) b:=(fun n σ b=>by rw[zag,show gd 4=some 33 from(by rw[hgd];rfl)];rfl);have hg8:∀n σ b,zaE gd n σ (some (8,b))=zap (ev n σ (.tmp 37)) b:=(fun n σ b=>by rw[zag,show gd 8=some 37 from(by rw[hgd];rfl)];rfl);have hg10:∀n σ b,zaE gd n σ (some (10,b))=zap (ev n σ (.tmp 39)) b:=(fun n σ b=>by rw[zag,show gd 10=some 39 from(by rw[hgd];rfl)];rfl);have hg17:∀n σ b,zaE gd n σ (some (17,b))=zap (ev n σ (.tmp 46)) b:=(fun n σ b=>by rw[zag,show gd 17=some 46 from(by rw[hgd];rfl)];rfl)
        try simp (disch:=first|omega|assumption|rfl) only[go_sem,s0,s3,s4,s5,s6,s7,q13,Nat.zero_add,Bool.not_true,Bool.not_false,zhv,↓hg2,↓hg4,↓hg8,↓hg10,↓hg17]
      any_goals
        refine hK _ _ ?_;clear hK hgd;clear K;try clear gd
        exact⟨rfl,rfl,⟨(vr1 s0),(vr1 s3),(vr1 s4),(vr1 s5),(vr1 s7),vr0,(vr1 s9),(vr1 s10),(vr1 s11)⟩,.inl ⟨vr0,.inl ⟨hj3,rfl⟩⟩⟩
      all_goals
        refine Yld.mono (hY' _ hf) ?_
        rintro u B (⟨rfl,hj',hk'⟩| ⟨rfl,hjx⟩)
        · try simp (disch:=first|omega|assumption|rfl) only[go_sem,s0,s3,s4,s5,s6,s7,Bool.not_true,Bool.not_false,zhv,↓hg2,↓hg4,↓hg8,↓hg10,↓hg17]
          refine hK _ _ ?_;clear hK hgd;clear K;try clear gd
          exact⟨rfl,rfl,⟨(vr1 s0),(vr1 s3),(vr1 s4),(vr1 s5),(vr1 s7),vr0,(vr1 s9),(vr1 s10),(vr1 s11)⟩,.inr ⟨vr0,rfl,hj',hK3.trans hk'⟩⟩
        · try simp (disch:=first|omega|assumption|rfl) only[go_sem,s0,s3,s4,s5,s6,s7,Bool.not_true,Bool.not_false,zhv,↓hg2,↓hg4,↓hg8,↓hg10,↓hg17]
          refine hK _ _ ?_;clear hK hgd;clear K;try clear gd
          exact⟨rfl,rfl,⟨(vr1 s0),(vr1 s3),(vr1 s4),(vr1 s5),(vr1 s7),vr0,(vr1 s9),(vr1 s10),(vr1 s11)⟩,.inl ⟨vr0,.inr ⟨_,hf,hjx⟩⟩⟩
    rintro _ σ4 _ v4 ⟨rfl,rfl,⟨s0,s3,s4,s5,s7,s8,s9,s10,s11⟩,(⟨s52,(⟨hjs,hst⟩| ⟨suf,hsf,hjx⟩)⟩| ⟨s52,hgo,hj4,hK4⟩)⟩
    · rw[if_neg (by rw[hst];decide),List.append_nil]at hf
      refine go s52 ?_
      exact zaw (by simp) rfl (.inl (hf▸hjs))
    · refine go s52 ?_
      exact zaw (by simp) rfl (.inr ⟨pre,_,suf,hsf,hjx⟩)
    · rw[if_pos hgo]at hf
      refine go (an2 s52 trivial) ?_
      refine zas (Q:=fun e' σ' ds' v'=>e'= .normal∧ds'=[]∧v'=v4∧(σ' 0= .func (.yield lp) #[] #[]∧σ' 3= .bool (p||dg)∧σ' 4= .bool (k||cl)∧σ' 9= .slice (some xa) ws.length cc∧σ' 10=vi ws.length∧σ' 11=vi i)) ?_ ?_
      · cases p<;>cases k
        all_goals
          refine rgg [(1,54),(5,58)] (an4 s3 s4 s7 s8) ?_
          exact⟨rfl,rfl,rfl,⟨(vr1 s0),vr0,vr0,(vr1 s9),(vr1 s10),(vr1 s11)⟩⟩
      rintro _ σ5 _ v5 ⟨rfl,rfl,rfl,⟨s0,s3,s4,s9,s10,s11⟩⟩
      refine go (an7 s0 s3 s4 s9 s10 s11 (an2 hi2 r)) ?_
      exact⟨rfl,p||dg,k||cl,_,⟨(vq1 s0),(vq1 s3),(vq1 s4),(vq1 s9),(vq1 s10),(vq1 hi2)⟩,hj4,hK4,by rw[hf];simp⟩
  · rintro σ v r ⟨p,k,pre,⟨s0,s3,s4,s9,s10,s11⟩,hj,hK,hf⟩
    refine go (an4 s10 s11 r s9) ?_
    rw[List.drop_length]at hf
    refine zaw (by simp) rfl (.inl ?_)
    rw[hf,zcm,List.append_nil]
    exact hj
def wdAt(ws:List (Lab×Bool))(i:Nat):Lab:=(ws.getD i ([],false)).1
def tmH(ws:List (Lab×Bool))(hs:List (Nat×Bool)):Option Int:=hs.foldl (fun tm y=>if y.2=true then some ((decP 2147483647 (wdAt ws y.1)).1:Int) else tm) Option.none
structure zjr(st:LdS)(ws:List (Lab×Bool))(e:Int)(st':LdS):Prop where
 few:ws.length≤100000
 short:∀x∈ws,x.1.length≤1000000
 good:∀y∈zcm 0 false false ws,y.2=true→(decP 2147483647 (wdAt ws y.1)).2=0
 add:AddR st (tmH ws (zcm 0 false false ws)) (ws.drop (zcm 0 false false ws).length) e st'
 own:st.owner.isSome=true
inductive RecR(st:LdS):Bool→List (Lab×Bool)→Int→LdS→Prop
 |own (t:Lab) (ws:List (Lab×Bool)):t.length≤1000000→¬(za6 t st.origin).2=0→RecR st false ((t,false)::ws) (za6 t st.origin).2 st
 |named (t:Lab) (ws:List (Lab×Bool)) (e:Int) (st':LdS):t.length≤1000000→(za6 t st.origin).2=0→zjr {st with owner:=some (za6 t st.origin).1} ws e st'→RecR st false ((t,false)::ws) e st'
 |blank (ws:List (Lab×Bool)) (e:Int) (st':LdS):zjr st ws e st'→RecR st true ws e st'
theorem zhm:∀(ws:List (Lab×Bool)) (i:Nat) (p k:Bool) (pre:List (Nat×Bool)) (x:Nat×Bool) (suf:List (Nat×Bool)),zcm i p k ws=pre++x::suf→x.1=i+pre.length∧pre.length<ws.length
 | [],i,p,k,pre,x,suf,h=>by
  rw[zcm]at h
  have:=congrArg List.length h
  simp at this
 |y::ws,i,p,k,pre,x,suf,h=>by
  rw[zcm]at h
  split at h
  ·cases pre with
   |nil=>
    injection h with h1 h2
    exact⟨by rw[←h1];rfl,by simp⟩
   |cons z pre=>
    injection h with h1 h2
    obtain⟨a,b⟩:=zhm ws (i+1) _ _ pre x suf h2
    exact⟨by rw[a,List.length_cons];omega,by simp only[List.length_cons];omega⟩
  ·have:=congrArg List.length h
   simp at this
theorem head_ok(w:World)(a:Option Addr)(n c:Nat):Fn Tryz.prog 135 #[.slice a n c] w (fun u w'=>u= .func (.func 162) #[] #[.pointer (some ⟨w.heap.size,0,Option.none⟩)]∧Ext w w'∧w'.heap.size=w.heap.size+1∧w'.heap[w.heap.size]? =some (.cells #[.slice a n c] 120 (0,0))):=by
 refine enter Tryz.func135 Tryz.ntmps135 rfl rfl ?_
 repeat refine c_r ?_
 refine rg0 ?_
 repeat refine c_r ?_
 refine zan ?_
 intro w1 hE1 hs1 hA
 refine go trivial ?_
 refine rt0 Tryz.ntmps135 ?_
 exact⟨rfl,hE1,hs1,hA⟩
section
variable {D : Nat → Prop} {B b : Nat} {w x : World} {fs : Value → World → Prop} {st : LdS} {fv ov rv orv owv : Value} {G : List (RecL × List Value)}
theorem LdX.step(h:LdX D B w b fs st){D':Nat→Prop}(hE:Ext w x)(hD:∀i,D' i→D i∨(w.heap.size≤i∧i<x.heap.size)):LdX D' B x b fs st:=by
 obtain⟨fv,ov,rv,orv,owv,G,h⟩:=h
 exact⟨fv,ov,rv,orv,owv,G,h.step hE hD⟩
theorem LdX.loc(h:LdX D B w b fs st)(hk:Keep D w x):LdX D B x b fs st:=by
 obtain⟨fv,ov,rv,orv,owv,G,h⟩:=h
 exact⟨fv,ov,rv,orv,owv,G,h.loc hk⟩
theorem LdX.lt(h:LdX D B w b fs st):b<w.heap.size:=by
 obtain⟨fv,ov,rv,orv,owv,G,h⟩:=h
 exact Nat.lt_of_lt_of_le h.lt h.le
theorem LdX.dd(h:LdX D B w b fs st):∀i,D i→b<i∧i<w.heap.size:=by
 obtain⟨fv,ov,rv,orv,owv,G,h⟩:=h
 exact fun i hi=>⟨(h.dd i hi).1,(h.dd i hi).2.1⟩
theorem zhT{W0:World}(hX:WX W0)(hE0:Ext W0 w)(hb0:W0.heap.size≤b)(h:LdX D B w b fs st){ln:Int}{bl:Bool}{wv:Value}{ws:List (Lab×Bool)}{e:Int}{st':LdS}(hw:Hz (fun i=>b≤i∧¬D i) w (fun X=>Rows 2 WdC X wv ws))(hr:RecR st bl ws e st')(hl:ws.length≤100000):
    Fn Tryz.prog 98 #[.pointer (some ⟨b,0,Option.none⟩),.agg #[vi ln,.bool bl,wv]] w (fun v w'=>v=vi e∧LdX D B w' b fs st'∧za7 D b w w'):=by
  obtain⟨wa,wc,rfl,hcap,_⟩:=hw.now.open
  have hbl:=h.lt
  have hDd:=h.dd
  have z0:(0:Int)≤0:=by decide
  obtain⟨n,hn⟩:∃n,w.heap.size=n:=⟨_,rfl⟩
  obtain⟨D1,hD1⟩:∃D1:Nat→Prop,D1=fun i=>D i∨(n≤i∧i<n+3):=⟨_,rfl⟩
  refine enter Tryz.func98 Tryz.ntmps98 rfl rfl ?_
  refine go trivial ?_
  refine zb7 ?_
  intro w1 hE1 hs1 hA hB
  simp only[World.size_alloc,hn]at hs1 hA hB ⊢
  have q2:zad w1 (some ⟨n,2,Option.none⟩)=some (.slice wa ws.length wc):=zaa hA rfl
  refine go (an2 q2 Nat.zero_add) ?_
  refine rq ?_;intro gd K hgd hK
  try simp (disch:=first|omega|assumption|rfl) only[go_sem,q2,Nat.zero_add]
  refine st_al1 ?_
  intro w1' hE1' hs1' hC0
  refine zaq (P:=Tryz.prog) rfl rfl rfl hC0 (by simp) (by simp) ?_
  intro w2 hs2 hC hk2
  try simp only[go_sem]
  refine hK _ _ ?_;clear hK hgd;clear K;try clear gd
  have hE2:Ext w w2:=Keep.to_ext (hE1.trans hE1') rfl (fun i hi=>by omega) hk2
  rw[hs1]at hs1' hk2 hC ⊢
  have hA2:=(hk2.block n (by omega) (by omega)).trans (Ext.at hE1' hA)
  have hB2:=(hk2.block (n+1) (by omega) (by omega)).trans (Ext.at hE1' hB)
  have h2:LdX D1 B w2 b fs st:=h.step hE2 (fun i hi=>by rw[hD1]at hi;rcases hi with hi|hi;exact .inl hi;exact .inr ⟨by omega,by omega⟩)
  have hw2:Hz (fun i=>b≤i∧¬D1 i) w2 (fun X=>Rows 2 WdC X (.slice wa ws.length wc) ws):=Hz.app hw hE2 (fun _ _ h=>h.elim) (fun i hi h=>⟨h.1,fun hd=>h.2 (by rw[hD1];exact .inl hd)⟩)
  have hDn:∀i,n≤i→i<n+3→D1 i:=fun i h1 h2=>by rw[hD1];exact .inr ⟨h1,h2⟩
  have hKL:∀{X Y:World},za7 D1 b X Y→za7 D b X Y:=fun hk=>hk.mono fun i _ h=>⟨h.1,fun hd=>h.2 (by rw[hD1];exact .inl hd)⟩
  have kp:∀{X:World} {i:Nat} {o:Obj},za7 D1 b w2 X→n≤i→i<n+3→w2.heap[i]? =some o→X.heap[i]? =some o:=fun hk h1 h2 ho=>(hk.block _ (by omega) fun h=>h.2 (hDn _ h1 h2)).trans ho
  have q1:zad w2 (some ⟨n,1,Option.none⟩)=some (.bool bl):=zaa hA2 rfl
  have q5:zad w2 (some ⟨n+2,0,Option.none⟩)=some (.slice wa ws.length wc):=zaa hC rfl
  refine go (an2 q1 Nat.zero_add) ?_
  refine zas (Q:=fun e' σ' ds' v'=>ds'=[]∧(σ' 4= .pointer (some ⟨n+1,0,Option.none⟩))∧za7 D b w2 v'∧
    ((e'= .ret∧zad v' (some ⟨n+1,0,Option.none⟩)=some (vi e)∧LdX D1 B v' b fs st')∨
     (e'= .normal∧(σ' 0= .pointer (some ⟨b,0,Option.none⟩)∧σ' 5= .pointer (some ⟨n+2,0,Option.none⟩))∧∃stm wsm wv',zjr stm wsm e st'∧LdX D1 B v' b fs stm∧v'.heap[n+2]? =some (.cells #[wv'] 120 (0,0))∧v'.heap[n+1]? =w2.heap[n+1]?∧∀X,Rows 2 WdC X (.slice wa ws.length wc) ws→Rows 2 WdC X wv' wsm))) ?_ ?_
  · cases hr with
    |blank ws e st' hH=>
      refine go q1 ?_
      exact⟨rfl,vr0,Keep.refl _ _,.inr ⟨rfl,⟨vr0,vr0⟩,_,_,_,hH,h2,hC,rfl,fun _ h=>h⟩⟩
    |own t r htl hne=>
      obtain⟨xa,c,he,hc,c0,x1,hx1,c1⟩:=row1 hw2.now
      injection he with he1 he2 he3
      subst he1
      have l1:(0:Int)<((((t,false)::r).length:Nat):Int):=by rw[List.length_cons];omega
      have hf:ownF st t=st:=if_neg hne
      refine go (an9 q1 q5 z0 l1 Int.toNat_zero Nat.zero_mul zam hx1 c1) ?_
      refine rc (an7 q5 z0 l1 Int.toNat_zero Nat.zero_mul zam c0) (zl0 h2 t (by omega)) ?_
      rintro _ w3 ⟨rfl,h3,hk3⟩
      rw[hf]at h3
      refine rgo (decide_eq_false hne) ?_
      have hB3:=kp hk3 (by omega) (by omega) hB2
      refine rq ?_;intro gd K hgd hK
      try simp only[go_sem]
      refine zaq (P:=Tryz.prog) rfl rfl rfl hB3 (by simp) (by simp) ?_
      intro w4 hs4 hB4 hk4
      try simp only[go_sem]
      refine hK _ _ ?_;clear hK hgd;clear K;try clear gd
      refine go trivial ?_
      exact⟨rfl,vr0,(hKL hk3).trans (hk4.mono fun i _ e=>⟨by omega,fun hd=>by have:=hDd i hd;omega⟩),.inl ⟨rfl,zaa hB4 rfl,h3.loc (hk4.mono fun i _ e=>by rw[e];exact hDn _ (by omega) (by omega))⟩⟩
    |named t r e st' htl hne hH=>
      obtain⟨xa,c,he,hc,c0,x1,hx1,c1⟩:=row1 hw2.now
      injection he with he1 he2 he3
      subst he1
      have l1:(0:Int)<((((t,false)::r).length:Nat):Int):=by rw[List.length_cons];omega
      have hf:ownF st t={st with owner:=some (za6 t st.origin).1}:=if_pos hne
      refine go (an9 q1 q5 z0 l1 Int.toNat_zero Nat.zero_mul zam hx1 c1) ?_
      refine rc (an7 q5 z0 l1 Int.toNat_zero Nat.zero_mul zam c0) (zl0 h2 t (by omega)) ?_
      rintro _ w3 ⟨rfl,h3,hk3⟩
      rw[hf]at h3
      refine rgo (decide_eq_true hne) ?_
      have hC3:=kp hk3 (by omega) (by omega) hC
      have q53:zad w3 (some ⟨n+2,0,Option.none⟩)=some (.slice (some xa) ((t,false)::r).length wc):=zaa hC3 rfl
      have l2:(1:Int)≤((((t,false)::r).length:Nat):Int):=by rw[List.length_cons];omega
      have l3:(1:Int)≤(wc:Int):=by omega
      have z1:(0:Int)≤1:=by decide
      have t1:(1:Int).toNat=1:=rfl
      refine rq ?_;intro gd K hgd hK
      try simp (disch:=first|omega|assumption|rfl) only[go_sem,q53,l2,l3,z1,t1]
      refine zaq (P:=Tryz.prog) rfl rfl rfl hC3 (by simp) (by simp) ?_
      intro w4 hs4 hC4 hk4
      try simp only[go_sem]
      refine hK _ _ ?_;clear hK hgd;clear K;try clear gd
      exact⟨rfl,vr0,(hKL hk3).trans (hk4.mono fun i _ e=>⟨by omega,fun hd=>by have:=hDd i hd;omega⟩),.inr ⟨rfl,⟨vr0,vr0⟩,_,r,_,hH,h3.loc (hk4.mono fun i _ e=>by rw[e];exact hDn _ (by omega) (by omega)),hC4,(hk4.block _ (by have:=hk3.size;omega) (by omega)).trans (hk3.block _ (by omega) fun h=>h.2 (hDn _ (by omega) (by omega))),fun X h=>h.drop (m:=1) (by simp)⟩⟩
  rintro e' σ3 _ w3 ⟨rfl,s4,hk3,(⟨rfl,q4,h3⟩| ⟨rfl,⟨s0,s5⟩,stm,wsm,wv',hH,h3,hC3,hB3,hwm⟩)⟩
  · repeat refine c_r ?_
    refine zaf (.inr rfl) Tryz.ntmps98 rfl (zcP ((vr1 s4)) rfl rfl q4 zae) ?_
    exact⟨rfl,h3.step (Keep.refl _ _) (fun i hi=> .inl (by rw[hD1];exact .inl hi)),(hE2.mono fun _ _ h=>h.elim).trans hk3⟩
  have hs3:=hk3.size
  have hB3:=hB3.trans hB2
  have hX3:∀{X:World},za7 D b w X→WX X:=fun hk=>hX.ext (Keep.to_ext hE0 rfl (fun i hi=>by omega) hk)
  have hkw3:za7 D b w w3:=(hE2.mono fun _ _ h=>h.elim).trans hk3
  have hw3:Hz (fun i=>b≤i∧¬D i) w3 (fun X=>Rows 2 WdC X wv' wsm):=fun X hX=>hwm X (hw X (hkw3.trans hX))
  have k8:zad w3 (some ⟨b,8,Option.none⟩)=some (.bool true):=by
    obtain⟨fv,ov,rv,orv,owv,G,h⟩:=h3
    have:=zaa (i:=8) (v:= .bool stm.owner.isSome) h.h rfl
    rw[hH.own]at this
    exact this
  refine go (an4 s0 s5 s4 k8) ?_
  refine zan ?_
  intro w4 hE4 hs4 hM
  refine rq ?_;intro gd K hgd hK
  try simp only[go_sem]
  refine st_al1 ?_
  intro w4' hE4' hs4' hN0
  refine zaq (P:=Tryz.prog) rfl rfl rfl hN0 (by simp) (by simp) ?_
  intro w5 hs5 hN hk5
  try simp only[go_sem]
  refine hK _ _ ?_;clear hK hgd;clear K;try clear gd
  obtain⟨m,hm⟩:∃m,w3.heap.size=m:=⟨_,rfl⟩
  have e9:w4.heap.size=m+1:=by omega
  simp only[World.size_alloc,hm,e9]at hs4 hM hs4' hN0 hN hk5 ⊢
  have hE35:Ext w3 w5:=Keep.to_ext (hE4.trans hE4') rfl (fun i hi=>by omega) hk5
  have hM5:=(hk5.block m (by omega) (by omega)).trans (Ext.at hE4' hM)
  obtain⟨D2,hD2⟩:∃D2:Nat→Prop,D2=fun i=>D1 i∨(m≤i∧i<m+5):=⟨_,rfl⟩
  have hC5:=Ext.at hE35 hC3
  have hB5:=Ext.at hE35 hB3
  have q5:zad w5 (some ⟨n+2,0,Option.none⟩)=some wv':=zaa hC5 rfl
  obtain⟨va,vc,rfl,hvc,_⟩:=(hwm _ hw.now).open
  refine go (an2 s5 q5) ?_
  refine rc (an2 s5 q5) (head_ok w5 va wsm.length vc) ?_
  rintro _ w6 ⟨rfl,hE6,hs6,hH6⟩
  refine rgo trivial ?_
  refine zc5 (g:=162) (cap:=#[.pointer (some ⟨w5.heap.size,0,Option.none⟩)]) (vq0) rfl (headIt (w0:=w3) (W0:=w6) (n0:=w6.heap.size) (C:=fun i=>i=m∨i=m+1) hH6 (hE35.trans hE6) (hw3.now) (by omega) (fun i hi=>by omega) (by have:=hH.few;omega) hH.short) (Keep.refl _ _) (Nat.le_refl _) (fun i hi=>by omega)
    (fun x A args h=>by rw[h];rfl)
    (fun pre A=>A.heap[m]? =some (.cells #[.int .u32 ((tmH wsm pre).getD 0),.bool (tmH wsm pre).isSome] 84 (0,0))∧A.heap[m+1]? =some (.cells #[vi pre.length] 3 (0,0))∧Keep (fun i=>i=m∨i=m+1) w6 A)
    (fun _ _ _=>False) ?_ (fun _ _ _ _ h _=>h.elim) ?_ ?_ ?_ (fun _ _ _ _ _ _ _ h _=>h.elim)
  · rintro pre A A' ⟨h1,h2,h3⟩ hk
    have lt:=fun {i:Nat} {o:Obj} (h:A.heap[i]? =some o)=>(Array.getElem?_eq_some_iff.1 h).1
    exact⟨(hk.block m (lt h1) (by unfold two;omega)).trans h1,(hk.block (m+1) (lt h2) (by unfold two;omega)).trans h2,h3.own hk fun i hi hs=>by unfold two at hs;omega⟩
  · exact⟨Ext.at hE6 hM5,Ext.at hE6 hN,Keep.refl _ _⟩
  · rintro lp pre ⟨j,dg⟩ suf A args hxs hszA ⟨hM,hN,hkA⟩ rfl
    obtain⟨hj,hjl⟩:=zhm _ _ _ _ _ _ _ hxs
    replace hj:j=pre.length:=by have:j=0+pre.length:=hj;omega
    subst hj
    refine go trivial ?_
    refine⟨rfl,KeepB.refl _ _ _,fun Y hY=>?_⟩
    have hsY:=hY.size
    have lt:=fun {i:Nat} {o:Obj} (h:A.heap[i]? =some o)=>(Array.getElem?_eq_some_iff.1 h).1
    have hMY:=(hY.block m (lt hM) (by unfold two;omega)).trans hM
    have hNY:=(hY.block (m+1) (lt hN) (by unfold two;omega)).trans hN
    have hkY:Keep (fun i=>i=m∨i=m+1) w6 Y:=hkA.own hY fun i hi hs=>by unfold two at hs;omega
    have wN:IntKind.i64.wrap ((pre.length:Int)+1)=((pre.length+1:Nat):Int):=by rw[zd5 (by omega) (by have:=hH.few;omega)];push_cast;rfl
    refine go trivial ?_
    refine rq ?_;intro gd K hgd hK
    try simp (disch:=first|omega|assumption|rfl) only[go_sem,wN]
    refine zaq (P:=Tryz.prog) rfl rfl rfl hNY (by simp) (by simp) ?_
    intro y1 hy1 hN1 hky1
    try simp only[go_sem]
    refine hK _ _ ?_;clear hK hgd;clear K;try clear gd
    have hM1:=(hky1.block m (by omega) (by omega)).trans hMY
    have htm:tmH wsm (pre++ [(pre.length,dg)])=if dg=true then some ((decP 2147483647 (wdAt wsm pre.length)).1:Int) else tmH wsm pre:=by unfold tmH;rw[List.foldl_append];rfl
    have hln:(((pre++ [(pre.length,dg)]).length:Nat):Int)=((pre.length+1:Nat):Int):=by simp
    cases dg with
    |false=>
      refine go (show(!false)=true from rfl) ?_
      refine⟨⟨by rw[htm];exact hM1,by rw[hln];exact hN1,hkY.own hky1 fun i _ e=> .inr e⟩,hky1.toB (by omega) fun i _ e=> .inr e⟩
    |true=>
      have hgd:=hH.good (pre.length,true) (by rw[hxs];simp) rfl
      have hky:za7 D b w3 y1:=((hE35.trans hE6).mono fun _ _ h=>h.elim).own (hkY.own hky1 fun i _ e=> .inr e) (fun i hi e=>by omega)
      obtain⟨va',vc',hva,hvc',hgg⟩:=(hw3 y1 hky).open
      injection hva with hva1 hva2 hva3
      subst hva1
      obtain⟨cs,g,hcs⟩:=hgg pre.length hjl
      unfold WdC at hcs
      rw[hcs]at g
      have hwd:(wsm[pre.length]).1=wdAt wsm pre.length:=by unfold wdAt;rw[List.getD_eq_getElem?_getD,List.getElem?_eq_getElem hjl];rfl
      rw[hwd]at g
      obtain⟨xa,rfl⟩:=Option.isSome_iff_exists.1 (zav g)
      obtain⟨xi,hxi⟩:∃xi,adr (some xa) (pre.length*2)=some xi:=⟨_,rfl⟩
      rw[hxi]at g
      have g0:zad y1 (some xi)=some (vs (wdAt wsm pre.length)):=by
        have:=zaN g (j:=0) (by simp)
        rw[zam]at this
        exact this
      have hi0:(0:Int)≤(pre.length:Int):=by omega
      have hi1:(pre.length:Int)<(wsm.length:Int):=by omega
      have hC1:y1.heap[n+2]? =some (.cells #[.slice (some xa) wsm.length vc] 120 (0,0)):=by
        refine((hky1.block (n+2) (by omega) (by omega)).trans ((hkY.block (n+2) (by omega) (by omega)).trans (Ext.at hE6 hC5)))
      have q51:zad y1 (some ⟨n+2,0,Option.none⟩)=some (.slice (some xa) wsm.length vc):=zaa hC1 rfl
      refine go (show(!true)=false from rfl) ?_
      refine rc (an8 s5 q51 hi0 hi1 hxi g0 Int.toNat_natCast zam) (ttl_ok (hX3 (hkw3.trans hky)) (wdAt wsm pre.length) (by have:=hH.short _ (List.getElem_mem hjl);rw[←hwd];omega)) ?_
      rintro _ y2 ⟨rfl,hE2y⟩
      rw[hgd]
      refine rgo (show decide ((0:Int)=0)=true from rfl) ?_
      refine rq ?_;intro gd K hgd hK
      try simp only[go_sem]
      refine Fn.mono (zjz y2 _) ?_
      rintro _ y3 ⟨rfl,hE3y⟩
      try simp only[go_sem]
      refine zaR (P:=Tryz.prog) (t:=84) (l:=[.int .u32 ((decP 2147483647 (wdAt wsm pre.length)).1:Int),.bool true]) (Ext.at (hE2y.trans hE3y) hM1) rfl (fun v hv=>by simp at hv;rcases hv with rfl|rfl<;>rfl) rfl rfl ?_
      intro y4 hs4y hM4 hk4y
      try simp only[go_sem]
      refine hK _ _ ?_;clear hK hgd;clear K;try clear gd
      refine go trivial ?_
      have hN4:=(hk4y.block (m+1) (by have:=hE2y.size;have:=hE3y.size;omega) (by omega)).trans (Ext.at (hE2y.trans hE3y) hN1)
      have hk14:Keep (fun i=>i=m∨i=m+1) y1 y4:=((hE2y.trans hE3y).mono fun _ _ h=>h.elim).own hk4y fun i _ e=> .inl e
      refine⟨⟨by rw[htm];exact hM4,by rw[hln];exact hN4,(hkY.own hky1 fun i _ e=> .inr e).own hk14 fun i _ e=>e⟩,(hky1.toB (by omega) fun i _ e=> .inr e).trans (hk14.toB (by omega) fun i _ e=>e)⟩
  · rintro z hsz ⟨hMz,hNz,hkz⟩ hdz
    obtain⟨hs,hhs⟩:∃hs,zcm 0 false false wsm=hs:=⟨_,rfl⟩
    have hsl:hs.length≤wsm.length:=by
      rcases List.eq_nil_or_concat hs with e| ⟨p,y,e⟩
      · rw[e];simp
      · rw[List.concat_eq_append]at e
        have:=(zhm wsm 0 false false p y [] (by rw[hhs,e])).2
        rw[e,List.length_append,List.length_singleton];omega
    have hadd:=hH.add
    rw[hhs]at hMz hNz hadd
    have hkz3:za7 D b w3 z:=((hE35.trans hE6).mono fun _ _ h=>h.elim).own hkz (fun i hi e=>by omega)
    have hEz:Ext w3 z:=Keep.to_ext (hE35.trans hE6) rfl (fun i hi=>by omega) hkz
    have hD2z:LdX D2 B z b fs stm:=h3.step hEz fun i hi=>by
      rw[hD2]at hi
      rcases hi with hi|hi
      · exact .inl hi
      · exact .inr ⟨by omega,by omega⟩
    have hDn2:∀i,(n≤i∧i<n+3∨m≤i∧i<m+5)→D2 i:=fun i h=>by
      rw[hD2]
      rcases h with h|h
      · exact .inl (hDn _ h.1 h.2)
      · exact .inr h
    have hnm:n+3≤m:=by omega
    have hCz:z.heap[n+2]? =some (.cells #[.slice va wsm.length vc] 120 (0,0)):=Ext.at hEz hC3
    have hBz:=Ext.at hEz hB3
    have qM:zar z (some ⟨m,0,Option.none⟩) 2=some [.int .u32 ((tmH wsm hs).getD 0),.bool (tmH wsm hs).isSome]:=zal (n:=2) (l:=[.int .u32 ((tmH wsm hs).getD 0),.bool (tmH wsm hs).isSome]) hMz rfl
    have qC:zad z (some ⟨n+2,0,Option.none⟩)=some (.slice va wsm.length vc):=zaa hCz rfl
    have qN:zad z (some ⟨m+1,0,Option.none⟩)=some (vi hs.length):=zaa hNz rfl
    have i0:(0:Int)≤(hs.length:Int):=by omega
    have i1:(hs.length:Int)≤(wsm.length:Int):=by omega
    have i2:(hs.length:Int)≤(vc:Int):=by omega
    have hrz:=(hw3 z hkz3).drop (m:=hs.length) hsl
    have hll:(wsm.drop hs.length).length≤1000000:=by rw[List.length_drop];have:=hH.few;omega
    repeat refine c_r ?_
    refine zas (Q:=fun e' σ' ds' v'=>e'= .normal∧ds'=[{target:= .collected w6.heap.size,args:=#[]}]∧σ' 4= .pointer (some ⟨n+1,0,Option.none⟩)∧LdX D2 B v' b fs st'∧za7 D b z v'∧zad v' (some ⟨n+1,0,Option.none⟩)=some (vi e)∧v'.heap[w6.heap.size]? =some (.deferred (some []))) ?_ ?_
    · refine zaF (fun i=>i==5||i==6) [(0,true),(1,true),(2,true),(3,true),(4,true),(5,false),(6,false)] NoS mixed (by kernel_rfl) ?_;intro gd K x hgd hx hxe hK;have hx0:=zaT hxe;clear hxe
      have qMx:=zah hx0 qM
      have qCx:=zab hx0 qC
      have qNx:=zab hx0 qN
      simp (disch:=first|omega|assumption|rfl) only[go_sem,s0,s4,s5,qMx,qCx,qNx,i0,i1,i2,Int.toNat_natCast]
      refine Fn.mono (add_ok (hX3 (hkw3.trans (hkz3.trans (hx0.mono fun _ _ h=>h.elim)))) (hD2z.ext hx0) (hrz.ext hx0) hadd hll) ?_
      rintro _ y1 ⟨rfl,h4,hk4⟩
      refine⟨.inl rfl,?_⟩
      have hszx:z.heap.size≤x.heap.size:=hx0.size
      have hB1:=(hk4.block (n+1) (by omega) fun h=>h.2 (hDn2 _ (by omega))).trans (Ext.at hx0 hBz)
      have hd1:=(hk4.block w6.heap.size (by omega) fun h=>h.2 (hDn2 _ (by omega))).trans (Ext.at hx0 hdz)
      have hs1:=hk4.size
      simp (disch:=first|omega|assumption|rfl) only[go_sem,s4]
      refine zaq (P:=Tryz.prog) rfl rfl rfl hB1 (by simp) (by simp) ?_
      intro y2 hs2 hB2 hk2
      refine⟨.inl rfl,?_⟩
      simp (disch:=first|omega|assumption|rfl) only[go_sem]
      refine hK _ _ ?_;clear hK hgd;clear K;try clear gd
      exact⟨rfl,rfl,(vr1 s4),h4.loc (hk2.mono fun i _ e=>by rw[e];exact hDn2 _ (by omega)),((hx0.mono fun _ _ h=>h.elim).trans (hk4.mono fun i _ h=>⟨h.1,fun hd=>h.2 (by rw[hD2,hD1];exact .inl (.inl hd))⟩)).trans (hk2.mono fun i _ e=>⟨by omega,fun hd=>by have:=hDd i hd;omega⟩),zaa hB2 rfl,(hk2.block w6.heap.size (by omega) (by omega)).trans hd1⟩
    rintro _ σ7 _ z2 ⟨rfl,rfl,s4,h7,hk7,q7,hd7⟩
    refine go trivial ?_
    refine zdC (.inr rfl) Tryz.ntmps98 rfl hd7 ?_
    intro z3 hk8 hs8
    have q8:zad z3 (some ⟨n+1,0,Option.none⟩)=some (vi e):=zeX hk8 (fun a ha hb=>by cases ha;dsimp only at hb;omega) q7
    refine⟨_,zcP ((vr1 s4)) rfl rfl q8 zae,rfl,?_,?_⟩
    · exact(h7.loc (hk8.mono fun i _ e=>by rw[e];exact hDn2 _ (by omega))).step (Keep.refl _ _) fun i hi=> .inl (by rw[hD2,hD1];exact .inl (.inl hi))
    · exact((hkw3.trans hkz3).trans hk7).trans (hk8.mono fun i _ e=>⟨by omega,fun hd=>by have:=hDd i hd;omega⟩)
end
end Go.Proofs.YtkpdfhbpdkifoaaGreatDoor
namespace Go.Proofs.YtkpdfhbpdkifoaaGreatDoor.S_wd
open Go Go.Proofs.YtkpdfhbpdkifoaaGreatDoor
set_option maxRecDepth 10000
theorem Clone_ok{w:World}{v:Value}{L:List (List Value)}(hr:RowK 2 w v L)(hk:∀x∈L,x.length=2)(h1:∀x∈L,∀q∈x,one q=true)(hlen:L.length≤10000000000):
  Fn Tryz.prog 159 #[v] w (fun u w'=>OwnK 2 w.heap.size w' 164 u L∧Ext w w'):=by
 have hr':=hr
 obtain⟨a,c,rfl,hc,hl⟩:=hr
 refine enter Tryz.func159 Tryz.ntmps159 rfl rfl ?_
 repeat refine c_r ?_
 refine rg0 ?_
 repeat refine c_r ?_
 refine rq ?_;intro gd K hgd hK
 try simp only[go_sem]
 refine zje (by rfl) (by rfl) (by rfl) ?_
 try simp only[go_sem]
 refine hK _ _ ?_;clear hK hgd;clear K;try clear gd
 repeat refine c_r ?_
 cases a with
 |none=>
  have:L=[]:=by
   cases L with
   |nil=>rfl
   |cons x L=>have:=hl 0 (by simp);simp[zar,adr]at this
  subst this
  refine wc0 ?_ ?_
  ·intro _
   repeat refine c_r ?_
   refine rg0 ?_
   repeat refine c_r ?_
   refine rt0 Tryz.ntmps159 ?_
   exact⟨OwnK.nil _ _ _ _,Keep.refl _ _⟩
  ·intro h;cases h
 |some a=>
  refine wc0 ?_ ?_
  ·intro h;cases h
  intro _
  repeat refine c_r ?_
  refine rq ?_;intro gd K hgd hK
  try simp only[go_sem]
  refine zjj (k:=2) (by rfl) (by rfl) (by rfl) (by rfl) ?_
  intro w1 hE1 hs1 ho1
  try simp only[go_sem]
  refine zg9 (k:=2) (B:=w.heap.size) ho1 (hr'.ext hE1) (by rfl) (by rfl) (by rfl) (by rfl) (by rfl) (by rfl) (by decide) (by rfl) (by rfl) hk h1 (by simpa using by omega) (by decide) (by omega) ?_
  intro v' w2 ho2 hE2 _ _ _
  try simp only[go_sem]
  refine hK _ _ ?_;clear hK hgd;clear K;try clear gd
  repeat refine c_r ?_
  refine rt0 Tryz.ntmps159 ?_
  exact⟨by simpa using ho2,hE2 w hE1 (Nat.le_refl _)⟩
end Go.Proofs.YtkpdfhbpdkifoaaGreatDoor.S_wd
namespace Go.Proofs.YtkpdfhbpdkifoaaGreatDoor
open Go
set_option maxRecDepth 10000
theorem zdj{k:Nat}{α:Type}{C:List Value→α→Prop}{w:World}{a:Option Addr}{n c:Nat}{xs:List α}(h:Rows k C w (.slice a n c) xs):n=xs.length∧n≤c∧∀i (hi:i<xs.length),∃cs,zar w (adr a (i*k)) k=some cs∧C cs xs[i]:=by
 obtain⟨a',c',hv,hc,hg⟩:=h.open
 injection hv with h1 h2 h3
 subst h1 h3
 exact⟨h2,by omega,hg⟩
theorem bare1_ok(w:World)(x:Lab×Bool):Fn Tryz.prog 173 #[.agg #[vs x.1,.bool x.2]] w (fun v w'=>v= .bool x.2∧Ext w w'):=by
 refine enter Tryz.func173 Tryz.ntmps173 rfl rfl ?_
 refine go trivial ?_
 refine zan ?_
 intro w1 hE1 hs1 hA
 have q1:zad w1 (some ⟨w.heap.size,1,Option.none⟩)=some (.bool x.2):=zaa hA rfl
 refine go (an2 q1 Nat.zero_add) ?_
 refine rt0 Tryz.ntmps173 ?_
 exact⟨rfl,hE1⟩
theorem zgT{w:World}{lv:Value}{ws:List (Lab×Bool)}(h:Rows 2 WdC w lv ws)(hl:ws.length≤1000000)(hb:∀x∈ws,x.2=false):Fn Tryz.prog 154 #[lv] w (fun v w'=>v=vi 0∧Ext w w'):=by
 obtain⟨a,c,rfl,hc,hg⟩:=h.open
 refine enter Tryz.func154 Tryz.ntmps154 rfl rfl ?_
 refine go trivial ?_
 have hix:ixB (fun _=>false) ws.length= -1:=zjU fun _ _=>rfl
 refine rc trivial (znw (a:=a) (n:=ws.length) (c:=c) (q:=fun _=>false) (N:=173) (by rfl) (by omega) (fun i hi=>?_)) ?_
 ·obtain⟨cs,g,hcs⟩:=hg i hi
  unfold WdC at hcs
  refine⟨cs,g,fun v hv=>?_⟩
  have:=bare1_ok v ws[i]
  rw[hb _ (List.getElem_mem hi)]at this
  rw[hcs,hb _ (List.getElem_mem hi)]
  exact this
 rintro _ w1 ⟨rfl,hE1⟩
 refine rgo (show decide (0≤ixB (fun _=>false) ws.length)=false from by rw[hix];rfl) ?_
 refine rt0 Tryz.ntmps154 ?_
 exact⟨rfl,hE1⟩
def zde(p:Lab):List (Lab×Lab)→Lab×Bool
 | []=>([],false)
 |f::fs=>if f.1=p then(f.2,true) else zde p fs
theorem findL_ix(p:Lab)(fs:List (Lab×Lab)):(∃i,∃h:i<fs.length,ixB (fun i=>decide ((fs.getD i ([],[])).1=p)) fs.length=(i:Int)∧zde p fs=(fs[i].2,true))∨(ixB (fun i=>decide ((fs.getD i ([],[])).1=p)) fs.length= -1∧zde p fs=([],false)):=by
 have key:∀(gs:List (Lab×Lab)),(∃i,∃h:i<gs.length,gs[i].1=p∧(∀j,(hj:j<i)→¬gs[j].1=p)∧zde p gs=(gs[i].2,true))∨((∀g∈gs,¬g.1=p)∧zde p gs=([],false)):=by
  intro gs
  induction gs with
  |nil=>exact .inr ⟨(fun _ h=>by cases h),rfl⟩
  |cons f gs ih=>
   by_cases hf:f.1=p
   ·exact .inl ⟨0,by simp,hf,(fun j hj=>by omega),by rw[zde,if_pos hf];rfl⟩
   ·rcases ih with ⟨i,hi,h1,h2,h3⟩| ⟨h1,h2⟩
    ·refine .inl ⟨i+1,by simpa using hi,h1,fun j hj=>?_,by rw[zde,if_neg hf,h3];rfl⟩
     cases j with
     |zero=>exact hf
     |succ j=>exact h2 j (by omega)
    ·refine .inr ⟨fun g hg=>?_,by rw[zde,if_neg hf,h2]⟩
     rcases List.mem_cons.1 hg with rfl|hg
     ·exact hf
     ·exact h1 g hg
 have gd:∀i (h:i<fs.length),fs.getD i ([],[])=fs[i]:=fun i h=>by rw[List.getD_eq_getElem?_getD,List.getElem?_eq_getElem h];rfl
 rcases key fs with ⟨i,hi,h1,h2,h3⟩| ⟨h1,h2⟩
 ·exact .inl ⟨i,hi,zmy hi (by rw[gd i hi];exact decide_eq_true h1) (fun j hj=>by rw[gd j (by omega)];exact decide_eq_false (h2 j hj)),h3⟩
 ·exact .inr ⟨zjU fun j hj=>by rw[gd j hj];exact decide_eq_false (h1 _ (List.getElem_mem hj)),h2⟩
theorem find1_ok{w:World}{c:Nat}{p:Lab}{x:Lab×Lab}(hb:zad w (some ⟨c,0,Option.none⟩)=some (vs p)):Fn Tryz.prog 91 #[.agg #[vs x.1,vs x.2],.pointer (some ⟨c,0,Option.none⟩)] w (fun v w'=>v= .bool (decide (x.1=p))∧Ext w w'):=by
 refine enter Tryz.func91 Tryz.ntmps91 rfl rfl ?_
 refine go trivial ?_
 refine zan ?_
 intro w1 hE1 hs1 hA
 have q0:zad w1 (some ⟨w.heap.size,0,Option.none⟩)=some (vs x.1):=zaa hA rfl
 refine go (an3 q0 Nat.add_zero (zab hE1 hb)) ?_
 refine rt0 Tryz.ntmps91 ?_
 exact⟨rfl,hE1⟩
theorem zjs{w:World}{fv:Value}{fs:List (Lab×Lab)}(h:Rows 2 zfc w fv fs)(hl:fs.length≤1000000)(p:Lab):Fn Tryz.prog 60 #[fv,vs p] w (fun v w'=>v= .tuple #[vs (zde p fs).1,.bool (zde p fs).2]∧Ext w w'):=by
 obtain⟨a,c,rfl,hc,hg⟩:=h.open
 refine enter Tryz.func60 Tryz.ntmps60 rfl rfl ?_
 refine go trivial ?_
 refine zan ?_
 intro w1 hE1 hs1 hA
 have q0:zad w1 (some ⟨w.heap.size,0,Option.none⟩)=some (vs p):=zaa hA rfl
 refine go trivial ?_
 refine rc trivial (IxFil_ok (a:=a) (n:=fs.length) (c:=c) (q:=fun i=>decide ((fs.getD i ([],[])).1=p)) (N:=91) (cap:= .pointer (some ⟨w.heap.size,0,Option.none⟩)) (by rfl) (by omega) (fun i hi=>?_)) ?_
 ·obtain⟨cs,g,hcs⟩:=hg i hi
  unfold zfc at hcs
  refine⟨cs,zah hE1 g,fun v hv=>?_⟩
  have:=find1_ok (x:=fs[i]) (zab hv q0)
  rw[hcs,List.getD_eq_getElem?_getD,List.getElem?_eq_getElem hi]
  exact this
 rintro _ w2 ⟨rfl,hE2⟩
 have hE:=hE1.trans hE2
 rcases findL_ix p fs with ⟨i,hi,h1,h2⟩| ⟨h1,h2⟩
 ·rw[h1,h2]
  obtain⟨cs,g0,hcs⟩:=hg i hi
  unfold zfc at hcs
  subst hcs
  have g:=zah hE g0
  obtain⟨xa,rfl⟩:=Option.isSome_iff_exists.1 (zav g)
  obtain⟨xi,hxi⟩:∃xi,adr (some xa) (i*2)=some xi:=⟨_,rfl⟩
  rw[hxi]at g
  obtain⟨x1,hx1⟩:∃x,adr (some xi) 1=some x:=⟨_,rfl⟩
  have g1:zad w2 (some x1)=some (vs fs[i].2):=by
   have:=zaN g (j:=1) (by simp)
   rw[hx1]at this
   exact this
  have hi0:(0:Int)≤(i:Int):=by omega
  have hi1:(i:Int)<(fs.length:Int):=by omega
  refine rgo (an8 (decide_eq_false (show¬(i:Int)<0 by omega)) hi0 hi1 hxi hx1 g1 Int.toNat_natCast trivial) ?_
  refine zaf (.inr rfl) Tryz.ntmps60 rfl (zac (vr0) (zac (vr0) zae)) ?_
  exact⟨rfl,hE⟩
 ·rw[h1,h2]
  refine rgo (show decide ((-1:Int)<0)=true from rfl) ?_
  refine zaf (.inr rfl) Tryz.ntmps60 rfl (zac (vr0) (zac (vr0) zae)) ?_
  exact⟨rfl,hE⟩
end Go.Proofs.YtkpdfhbpdkifoaaGreatDoor
