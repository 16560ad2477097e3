/-
  Texts of a proof, joined: IA, YKW, KR3, ZKW.
  Conditions: none.
-/
import Derived.Test.YtahbdamijngmmaaGreatJW14
import Derived.Test.YtahbdamijngmmaaGreatJW06
import Derived.Test.YtahbdamijngmmaaGreatJW10
import Derived.Test.YtahbdamijngmmaaGreatRows
import Derived.JoinedOf
import Derived.Laws.IdiomArrays
import Derived.Test.YtahbdamijngmmaaGreatJW11
import Derived.Test.YtahbdamijngmmaaGreatJW07
import Derived.ChangeMaps5
set_option linter.unusedVariables false
set_option linter.unusedSimpArgs false
set_option linter.defProp false
set_option linter.unnecessarySimpa false
set_option maxHeartbeats 8000000
namespace Go.Proofs.YtahbdamijngmmaaGreat
open Go
set_option maxRecDepth 10000
theorem dec_self{α:Type}[DecidableEq α](a:α):decide (a=a)=true:=by simp
structure ClsF(L:List Nm):Prop where
 k:∀c∈clsN L,NmK c.name∧zaf c.name=c.name
 f:∀x∈L,zaf x=x
 r:[]∈L
 t:∀l g,l::g∈L→g∈L
theorem closed_F{N:NetL}(hG:zbb N):ClsF (canN (zaW N)):=by
 have hk:=zkp (zhs (ren:=renN N) (k:=N.rw.toNat) (zgP hG))
 exact⟨fun c hc=>hk _ (zev.1 hc),fun x hx=>(hk x hx).2,mem_canN.2 (.inl rfl),fun l g h=>mem_canN.2 (zh0 (mem_canN.1 h))⟩
theorem ClsF.nm{L:List Nm}(h:ClsF L){st:Bool}{q:Nm}:NmK (ofF st (clsN L) q).1.name:=ofF_name ⟨(fun l h=>by cases h),by simp⟩ fun c hc=>(h.k c hc).1
theorem ClsF.oth{L:List Nm}(h:ClsF L){q:Nm}:(ofF true (clsN L) q).1.other=!decide (zaf (ofF true (clsN L) q).1.name=zaf q):=by
 obtain⟨_,b1,e,o⟩:=of_alike (q:=q) h.r h.f
 rw[←o];unfold zjF;rw[b1,e,Bool.true_and]
theorem zg2(W:World){cs:List Value}{N:NetL}{qv:Value}{q:Nm}{l:List UInt8}(hN:NetAt W cs N)(hv:NumN N)(hq:Row W qv (q.map vs))(oq:NmOk q):
  Fn Tryz.prog 5 #[.agg cs.toArray,qv,vs l] W (fun v w'=>v= .bool true∧Ext W w'):=by
 have hN0:=hN
 obtain⟨hsv,rv,rfl,hh,hr⟩:=hN.ex
 obtain⟨ah,ch,hhv,_⟩:=hh.open
 obtain⟨ar0,cr0,hrv,_⟩:=id hr
 refine enter Tryz.func5 Tryz.ntmps5 rfl rfl ?_
 repeat refine c_r ?_
 rw[hhv,hrv]
 refine go trivial ?_
 rw[←hhv,←hrv]
 refine zaM ?_
 intro w1 hE1 hs1 hA
 have dN:zaw w1 (some ⟨W.heap.size,0,Option.none⟩) 4=some [hsv,rv,vi N.rw,vi N.rf]:=zay hA rfl
 refine rc trivial (zi3 w1) ?_
 rintro _ w2 ⟨rfl,hE2⟩
 refine rgo trivial ?_
 have hE12:=hE1.trans hE2
 refine rc trivial (zgb w2 qv l q (hq.ext hE12) oq.len) ?_
 rintro mv w3 ⟨hm,hE3⟩
 refine rgo trivial ?_
 have dN3:=zag (hE2.trans hE3) dN
 have hE13:=hE12.trans hE3
 refine zax (Q:=fun e σ' ds' v'=>e= .normal∧ds'=[]∧(σ' 3= .pointer (some ⟨W.heap.size,0,Option.none⟩)∧σ' 1=qv∧σ' 7=mv)∧Ext w3 v'∧∃bb,σ' 36= .bool bb∧(bb=false→zbb N∧zdx q=true∧zdx (l::q)=true∧(canN (zaW N)).length≤300)) ?_ ?_
 ·refine rcg [(3,22),(8,27),(13,32)] dN3 (zkL w3 (hN0.ext hE13) hv) ?_
  rintro _ w4 ⟨hE4,b,rfl,hb⟩
  cases b with
  |false=>
   refine reg [(3,22),(8,27),(13,32)] trivial ?_
   exact⟨rfl,rfl,sc trivial,hE4,_,vr0,fun h=>by cases h⟩
  |true=>
   refine rdg [(3,22),(8,27),(13,32)] trivial (zeA w4 qv q (hq.ext (hE13.trans hE4))) ?_
   rintro _ w5 ⟨rfl,hE5⟩
   cases hgq:zdx q with
   |false=>
    refine reg [(3,22),(8,27),(13,32)] trivial ?_
    exact⟨rfl,rfl,sc trivial,hE4.trans hE5,_,vr0,fun h=>by cases h⟩
   |true=>
    refine rdg [(3,22),(8,27),(13,32)] trivial (zeA w5 mv (l::q) (hm.1.ext (hE4.trans hE5))) ?_
    rintro _ w6 ⟨rfl,hE6⟩
    cases hgm:zdx (l::q) with
    |false=>
     refine reg [(3,22),(8,27),(13,32)] trivial ?_
     exact⟨rfl,rfl,sc trivial,hE4.trans (hE5.trans hE6),_,vr0,fun h=>by cases h⟩
    |true=>
     have hE46:=hE4.trans (hE5.trans hE6)
     refine rdg [(3,22),(8,27),(13,32)] (zag hE46 dN3) (light_ok (hE13.trans hE46) hN0 (hb rfl)) ?_
     rintro _ w7 ⟨rfl,hE7⟩
     refine reg [(3,22),(8,27),(13,32)] trivial ?_
     exact⟨rfl,rfl,sc trivial,hE46.trans hE7,_,vr0,fun h=>⟨hb rfl,rfl,rfl,by simpa using h⟩⟩
 rintro _ σ1 _ w4 ⟨rfl,rfl,s,hE4,bb,s36,hbb⟩
 have hE14:=hE13.trans hE4
 cases bb with
 |true=>
  refine go s36 ?_
  refine rt0 Tryz.ntmps5 ?_
  exact⟨rfl,hE14⟩
 |false=>
 obtain⟨hG,hgq,hgm,hl3⟩:=hbb rfl
 have hF:=closed_F hG
 have mq:=(zeY hgq).m
 have mm:=(zeY hgm).m
 have lq:=mq.len
 have lm:=mm.len
 refine go s36 ?_
 refine rc (an2 s (zag hE4 dN3)) (All_ok hE14 hN0 hG (by omega)) ?_
 obtain⟨L,hL⟩:∃L,canN (zaW N)=L:=⟨_,rfl⟩
 rw[hL]at hF hl3 ⊢
 rintro _ w5 ⟨hE5,lv,rfl,hl5⟩
 refine rgo s ?_
 have hCl:=zic (L:=L)
 have hE15:=hE14.trans hE5
 obtain⟨a1,_,o1⟩:=zeU (st:=true) (q:=q) hF.r
 obtain⟨b1,_,p1⟩:=zeU (st:=true) (q:=l::q) hF.r
 have un1:=(zeU (st:=true) (q:=q) hF.r).2.1.un
 have oth:=hF.oth (q:=q)
 obtain⟨bl1,bl2⟩:=of_below (q:=q) (l:=l) hF.r hF.f hF.t
 have kc:=hF.nm (st:=true) (q:=q)
 have kd:=hF.nm (st:=true) (q:=l::q)
 obtain⟨c,hc⟩:∃c,(ofF true (clsN L) q).1=c:=⟨_,rfl⟩
 obtain⟨d,hd⟩:∃c,(ofF true (clsN L) (l::q)).1=c:=⟨_,rfl⟩
 rw[hc]at un1 oth bl1 bl2 kc
 rw[hd]at bl1 bl2 kd
 have lc:=kc.len
 have ld:=kd.len
 refine rq ?_;intro gd K hgd hK
 try simp (disch:=first|omega|assumption|rfl) only[go_sem,s]
 refine Fn.mono (zio w5 hl5 (q:=q) (hq.ext hE15) (fun c hc=>(hF.k c hc).1) mq (by omega)) ?_
 rintro _ w6 ⟨hE6,cv,rfl,hcv⟩
 rw[hc]at hcv
 rw[hc,a1]
 try simp only[go_sem]
 refine za2 (P:=Tryz.prog) (l:=[cv,.bool c.other]) rfl (zaY hcv.isOne rfl) rfl rfl ?_
 intro w7 hE7 hs7 hA7
 try simp only[go_sem]
 refine hK _ _ ?_;clear hK hgd;clear K;try clear gd
 obtain⟨ba,hba⟩:∃b,w6.heap.size=b:=⟨_,rfl⟩
 rw[hba]at hA7 ⊢
 have hE57:=hE6.trans hE7
 refine go s ?_
 refine rq ?_;intro gd K hgd hK
 try simp (disch:=first|omega|assumption|rfl) only[go_sem,s]
 refine Fn.mono (zio w7 (Tr.cls.tr hE57 hl5) (q:=l::q) (hm.1.ext (hE4.trans (hE5.trans hE57))) (fun c hc=>(hF.k c hc).1) mm (by omega)) ?_
 rintro _ w8 ⟨hE8,dv,rfl,hdv⟩
 rw[hd]at hdv
 rw[hd,b1]
 try simp only[go_sem]
 refine za2 (P:=Tryz.prog) (l:=[dv,.bool d.other]) rfl (zaY hdv.isOne rfl) rfl rfl ?_
 intro w9 hE9 hs9 hA9
 try simp only[go_sem]
 refine hK _ _ ?_;clear hK hgd;clear K;try clear gd
 obtain⟨bd,hbd⟩:∃b,w8.heap.size=b:=⟨_,rfl⟩
 rw[hbd]at hA9 ⊢
 have hE79:=hE8.trans hE9
 have hE19:=hE15.trans (hE57.trans hE79)
 have hc9:=hcv.ext (hE7.trans hE79)
 have hd9:=hdv.ext hE9
 have hm9:=hm.1.ext (hE4.trans (hE5.trans (hE57.trans hE79)))
 have c0:zah w9 (some ⟨ba,0,Option.none⟩)=some cv:=zac (i:=0) (Ext.at hE79 hA7) rfl
 have c1:zah w9 (some ⟨ba,1,Option.none⟩)=some (.bool c.other):=zac (i:=1) (Ext.at hE79 hA7) rfl
 have d0:zah w9 (some ⟨bd,0,Option.none⟩)=some dv:=zac (i:=0) hA9 rfl
 have d1:zah w9 (some ⟨bd,1,Option.none⟩)=some (.bool d.other):=zac (i:=1) hA9 rfl
 have hoe:(c.other==decide (zaf c.name=zaf q))=false:=by rw[oth];cases decide (zaf c.name=zaf q)<;>rfl
 clear hA7 hA9
 refine go s ?_
 refine zax (Q:=fun e σ' ds' v'=>e= .normal∧ds'=[]∧(σ' 10= .pointer (some ⟨ba,0,Option.none⟩)∧σ' 12= .pointer (some ⟨bd,0,Option.none⟩)∧σ' 1=qv∧σ' 7=mv)∧Ext w9 v'∧σ' 77= .bool false) ?_ ?_
 ·refine zaL (fun _=>false) [(0,true),(1,true),(2,true),(3,true),(4,true),(5,true),(6,true),(7,true),(8,true),(9,true),(10,false),(11,true),(12,true),(13,true),(14,true),(15,true),(16,true),(17,true),(18,true),(19,false),(20,true),(21,true)] NoS mixed (by kernel_rfl) ?_;intro gd K x hgd hx hxe hK;clear hxe
  have hg2:∀n σ b,zas gd n σ (some (2,b))=zai (ev n σ (.tmp 58)) b:=(fun n σ b=>by rw[zab,show gd 2=some 58 from(by rw[hgd];rfl)];rfl);have hg6:∀n σ b,zas gd n σ (some (6,b))=zai (ev n σ (.tmp 62)) b:=(fun n σ b=>by rw[zab,show gd 6=some 62 from(by rw[hgd];rfl)];rfl);have hg13:∀n σ b,zas gd n σ (some (13,b))=zai (ev n σ (.tmp 69)) b:=(fun n σ b=>by rw[zab,show gd 13=some 69 from(by rw[hgd];rfl)];rfl)
  have c0x:=zaa hx c0
  simp (disch:=first|omega|assumption|rfl) only[go_sem,s,c0x,zbW,↓hg2,↓hg6,↓hg13]
  refine Fn.mono (zcL x _ _ q c.name (hq.ext (hE19.trans hx)) (hc9.ext hx) mq.LB kc.LB (by omega) (by omega)) ?_
  rintro _ y ⟨rfl,hy⟩
  refine⟨.inr hy,?_⟩
  have c0y:=zaa (hx.trans hy) c0
  have c1y:=zaa (hx.trans hy) c1
  simp (disch:=first|omega|assumption|rfl) only[go_sem,un1,s,c0y,c1y,zbW,↓hg2,↓hg6,↓hg13]
  refine Fn.mono (zfj y _ _ c.name q (hc9.ext (hx.trans hy)) (hq.ext (hE19.trans (hx.trans hy))) kc.LB mq.LB (by omega) (by omega)) ?_
  rintro _ z ⟨rfl,hz⟩
  refine⟨.inr hz,?_⟩
  simp (disch:=first|omega|assumption|rfl) only[go_sem,hoe,zbW,↓hg2,↓hg6,↓hg13]
  refine hK _ _ ?_;clear hK hgd;clear K;try clear gd
  exact⟨rfl,rfl,sc s,hx.trans (hy.trans hz),vr0⟩
 clear s
 rintro _ σ2 _ w10 ⟨rfl,rfl,s,hE10,s77⟩
 have c0':=zaa hE10 c0
 have c1':=zaa hE10 c1
 have d0':=zaa hE10 d0
 have d1':=zaa hE10 d1
 have hE1x:=hE19.trans hE10
 have hqx:=hq.ext hE1x
 cases hco:c.other with
 |true=>
  rw[hco]at c1'
  obtain⟨e1,e2⟩:=bl1 hco
  rw[e1]at d1'
  refine go (an3 s s77 c1') ?_
  refine rcg [(2,82)] (an4 s c0' d0' d1') (zfj w10 _ _ c.name d.name (hc9.ext hE10) (hd9.ext hE10) kc.LB kd.LB (by omega) (by omega)) ?_
  rintro _ w11 ⟨rfl,hE11⟩
  refine reg [(2,82)] trivial ?_
  repeat refine c_r ?_
  refine rt0 Tryz.ntmps5 ?_
  exact⟨by rw[e2,dec_self],hE1x.trans hE11⟩
 |false=>
  rw[hco]at c1'
  refine go (an3 s s77 c1') ?_
  rcases bl2 hco with ⟨e1,e2⟩| ⟨e1,e2⟩
  ·rw[e1]at d1'
   refine rcg [(2,91),(8,97),(12,101)] (an3 s d0' d1') (zfj w10 _ _ d.name q (hd9.ext hE10) hqx kd.LB mq.LB (by omega) (by omega)) ?_
   rintro _ w11 ⟨rfl,hE11⟩
   have hdd:decide (zaf d.name=zaf q)=true:=decide_eq_true (by rw[e2,zct])
   refine reg [(2,91),(8,97),(12,101)] hdd ?_
   repeat refine c_r ?_
   refine rt0 Tryz.ntmps5 ?_
   exact⟨rfl,hE1x.trans hE11⟩
  ·rw[e1]at d1'
   refine rcg [(2,91),(8,97),(12,101)] (an3 s d0' d1') (zfj w10 _ _ d.name (l::q) (hd9.ext hE10) (hm9.ext hE10) kd.LB mm.LB (by omega) (by omega)) ?_
   rintro _ w11 ⟨rfl,hE11⟩
   have hdd:decide (zaf d.name=zaf (l::q))=true:=decide_eq_true (by rw[e2,zct])
   refine reg [(2,91),(8,97),(12,101)] hdd ?_
   repeat refine c_r ?_
   refine rt0 Tryz.ntmps5 ?_
   exact⟨rfl,hE1x.trans hE11⟩
end Go.Proofs.YtahbdamijngmmaaGreat
namespace Go.Proofs.YtahbdamijngmmaaGreat.classWays
open Go Go.Proofs.YtahbdamijngmmaaGreat
theorem j1:(Rows.classWaysRow.inPlace==Tryz.pinned.checked.prog.inPlace 5)=true:=by kernel_rfl
theorem j2:(Rows.classWaysRow.unfollowed==Tryz.pinned.checked.prog.unfollowed 5)=true:=by kernel_rfl
theorem j3:(Rows.classWaysRow.recurses==Tryz.pinned.checked.prog.recurses 5)=true:=by kernel_rfl
theorem j4:(Rows.classWaysRow.named==Tryz.pinned.checked.prog.varsNamed 5)=true:=by kernel_rfl
theorem j5:(Tryz.pinned.checked.prog.mayEnter)=true:=by kernel_rfl
theorem j6:(Rows.classWaysRow.lifted==Tryz.pinned.checked.prog.liftsFinal)=true:=by kernel_rfl
theorem joined:joinedFacts Tryz.pinned.checked.prog 5 Tryz.f5 Rows.classWaysSpec Rows.classWaysRow=true:=by
 unfold joinedFacts
 rw[j1,j2,j3,j4,j5,j6]
 kernel_rfl
end Go.Proofs.YtahbdamijngmmaaGreat.classWays
namespace Go.Proofs.YtahbdamijngmmaaGreat
open Go
set_option maxRecDepth 100000
theorem zjo{w:World}{α:Type}{k:Nat}{C:List Value→α→Prop}{Q:α→Prop}{v:Value}{L:List (List Value)}(hL:RowK k w v L)(h:∀cs∈L,∃a,C cs a∧Q a):∃R:List α,Rows k C w v R∧∀a∈R,Q a:=by
 have:∀L:List (List Value),(∀cs∈L,∃a,C cs a∧Q a)→∃R:List α,L.length=R.length∧(∀i (h:i<L.length) (h':i<R.length),C L[i] R[i])∧∀a∈R,Q a:=fun L=>by
  induction L with
  |nil=>intro _;exact⟨[],rfl,fun i h=>by simp at h,fun r h=>by cases h⟩
  |cons cs L ih=>
   intro h
   obtain⟨r,h1,h2⟩:=h cs (List.mem_cons_self ..)
   obtain⟨R,a1,a2,a3⟩:=ih (fun x hx=>h x (List.mem_cons_of_mem _ hx))
   refine⟨r::R,by simp[a1],fun i a b=>?_,fun x hx=>?_⟩
   ·cases i with
    |zero=>exact h1
    |succ i=>exact a2 i (by simpa using a) (by simpa using b)
   ·rcases List.mem_cons.1 hx with rfl|hx
    ·exact h2
    ·exact a3 x hx
 obtain⟨R,a1,a2,a3⟩:=this L h
 exact⟨R,⟨L,hL,a1,a2⟩,a3⟩
section
variable {H : Type} {enc : TypeId × Value → H} {w : World} {base : Nat} {sp : Nat → Bool} {held : Bool}
theorem zfO{P:Program}{t:TypeId}{n:Nat}{c:Value}{x:DataW H×List MemPlace}(ht:P.underlying t=some (.int .u8))(h:DataW.trod enc P w base sp held n t [c]=some x):∃b:UInt8,c=zad b:=by
 obtain⟨m,h1,_,h2⟩:=DataW.trod_int ht h
 have hb:=wf_u8 h2
 obtain⟨k,rfl⟩:∃k:Nat,m=(k:Int):=⟨m.toNat,by omega⟩
 exact⟨UInt8.ofNat k,by rw[List.head_eq_of_cons_eq h1,zid (by omega)]⟩
theorem rd_addr{t e:TypeId}{c0 c1 c2 c3:Value}{P:Program}(h:RdC enc P w base sp held t [c0,c1,c2,c3])(ht:P.underlying t=some (.array 4 e))(hc:P.cellsOf e=1)(he:P.underlying e=some (.int .u8)):
  ∃a b c d:UInt8,c0=zad a∧c1=zad b∧c2=zad c∧c3=zad d:=by
 obtain⟨n,x,h,_⟩:=h
 obtain⟨_,_,_,_,_,_,h0,h1,h2,h3⟩:=Go.ChangeShapes.trod_array4 ht hc h
 obtain⟨a,ha⟩:=zfO he h0
 obtain⟨b,hb⟩:=zfO he h1
 obtain⟨c,hc⟩:=zfO he h2
 obtain⟨d,hd⟩:=zfO he h3
 exact⟨a,b,c,d,ha,hb,hc,hd⟩
theorem rd_zone{cs:List Value}(h:RdC enc Tryz.prog w base sp held 122 cs):∃z:zdU,ZoneC w cs z∧NumR z.recs:=by
 obtain⟨hl,hf⟩:=zdL h rfl
 have hl2:cs.length=2:=hl
 match cs,hl2 with
 | [c0,c1],_=>
  obtain⟨o,n0,_⟩:=zd0 (P:=Tryz.prog) (RdC.one (hf 0 _ rfl)) (e:=9) rfl rfl rfl rfl
  obtain⟨R,h1,h2⟩:=rd_recs (RdC.one (hf 1 _ rfl))
  exact⟨⟨o,R⟩,⟨c0,c1,rfl,n0,h1⟩,h2⟩
theorem rd_host{cs:List Value}(h:RdC enc Tryz.prog w base sp held 116 cs):∃z:zfp,HostC w cs z∧∀x∈z.zones,NumR x.recs:=by
 obtain⟨hl,hf⟩:=zdL h rfl
 have hl6:cs.length=6:=hl
 match cs,hl6 with
 | [c0,c1,c2,c3,c4,c5],_=>
  obtain⟨o,n0,_⟩:=zd0 (P:=Tryz.prog) (RdC.one (hf 0 _ rfl)) (e:=9) rfl rfl rfl rfl
  have h1:RdC enc Tryz.prog w base sp held 113 [c1,c2,c3,c4]:=hf 1 _ rfl
  obtain⟨a,b,c,d,rfl,rfl,rfl,rfl⟩:=rd_addr h1 rfl rfl (e:=5) rfl
  have h5:RdC enc Tryz.prog w base sp held 114 [c5]:=hf 2 _ rfl
  obtain⟨L,hL,hall,_⟩:=zeM (RdC.one h5) (e:=122) (k:=2) rfl rfl
  obtain⟨R,r1,r2⟩:=zjo hL (fun cs hcs=>rd_zone (hall cs hcs))
  exact⟨⟨o,[a,b,c,d],R⟩,⟨c0,a,b,c,d,c5,rfl,rfl,n0,r1⟩,r2⟩
theorem rd_net{cs:List Value}(h:RdC enc Tryz.prog w base sp held 25 cs):∃N:NetL,NetAt w cs N∧NumN N:=by
 obtain⟨hl,hf⟩:=zdL h rfl
 have hl4:cs.length=4:=hl
 match cs,hl4 with
 | [c0,c1,c2,c3],_=>
  obtain⟨L,hL,hall,_⟩:=zeM (RdC.one (hf 0 _ rfl)) (e:=116) (k:=6) rfl rfl
  obtain⟨R,r1,r2⟩:=zjo hL (fun cs hcs=>rd_host (hall cs hcs))
  obtain⟨roots,n2,_⟩:=zhc (RdC.one (hf 1 _ rfl)) (e:=3) (k:= .i64) rfl rfl rfl
  obtain⟨a,e2,_⟩:=zgl (hf 2 _ rfl) (k:= .i64) rfl
  obtain⟨b,e3,_⟩:=zgl (hf 3 _ rfl) (k:= .i64) rfl
  have e2':c2=vi a:=List.head_eq_of_cons_eq (show [c2]=[vi a] from e2)
  have e3':c3=vi b:=List.head_eq_of_cons_eq (show [c3]=[vi b] from e3)
  exact⟨⟨R,roots,a,b⟩,⟨c0,c1,by rw[e2',e3'],r1,n2⟩,r2⟩
end
theorem zhb{H:Type}{enc:TypeId×Value→H}{P:Program}{w:World}{base:Nat}{sp:Nat→Bool}{held:Bool}{t:TypeId}{cs:Array Value}{d:DataW H}{p:List MemPlace}{ts:List TypeId}{ds:List (DataW H)}(h:DataW.Trod enc P w base sp held t (.agg cs) d p)
  (hw:∀x∈DataW.weightsEach P ts ds,x≤reachBytes) {j:Nat} (ht:ts[j]? =some t) (hd:ds[j]? =some d):RdC enc P w base sp held t cs.toList:=by
 obtain⟨n,h⟩:=h
 exact⟨n,_,h,fun k hk=>hw k (DataW.weights_mem_each ht hd k hk)⟩
end Go.Proofs.YtahbdamijngmmaaGreat
namespace Go.Proofs.YtahbdamijngmmaaGreat.classWays
open Go Go.Proofs.YtahbdamijngmmaaGreat Go.ChangeShapes Go.WideShapes Go.ChangeAt Go.RowKit
theorem own:ownKnob Tryz.prog.godebug=none:=by kernel_rfl
set_option maxRecDepth 100000 in
theorem lifted(os:Os)(started:os.Started)(H:Type)(enc:TypeId×Value→H):
  ReturnsInHanded {} Tryz.checked os 5 .any (Rows.classWaysSpec.pre6 enc Tryz.prog Tryz.f5 Rows.classWaysRow.domain false) (Rows.classWaysSpec.post enc Tryz.prog Tryz.f5 false true false false):=by
 refine law_lift (C:=Tryz.checked) own started (by kernel_rfl) Tryz.func5
  (ChangeSpec.witness6 (enc:=enc) (C:=Tryz.checked) false ⟨#[],#[.agg #[.slice Option.none 0 0,.slice Option.none 0 0,.int .i64 0,.int .i64 0],.slice Option.none 0 0,vs []],[]⟩ 8 (by kernel_rfl) (by kernel_rfl) (by kernel_rfl) (by kernel_rfl)) rfl ?_ (tb:=4) rfl rfl (by kernel_rfl) (by kernel_rfl) ?_
 ·intro ds hds
  match ds,hds with
  | [d0,d1,d2],_=>rfl
 ·intro W base args ds p hval hA0 hw0
  have hA:DataW.TrodAll enc Tryz.prog W 0 (fun _=>true) true [25,27,9] args ds p:=hA0
  have hw:∀x∈DataW.weightsEach Tryz.prog [25,27,9] ds,x≤reachBytes:=hw0
  obtain⟨v0,vs0,d0,ds0,p0,q0,rfl,rfl,rfl,h0,r0⟩:=trodAll_cons hA
  obtain⟨v1,vs1,d1,ds1,p1,q1,rfl,rfl,rfl,h1,r1⟩:=trodAll_cons r0
  obtain⟨v2,vs2,d2,ds2,p2,q2,rfl,rfl,rfl,h2,r2⟩:=trodAll_cons r1
  obtain⟨rfl,rfl,rfl⟩:=trodAll_nil r2
  obtain⟨a0,rfl,_⟩:=okWide_struct rfl (hval 0 _ _ rfl rfl)
  obtain⟨x0,f0,g0⟩:=rd_net (zhb h0 hw (j:=0) rfl rfl)
  obtain⟨a1,n1,c1,rfl⟩:=okWide_slice (e:=9) rfl (hval 1 _ _ rfl rfl)
  obtain⟨x1,f1,g1⟩:=zd0 (P:=Tryz.prog) (ziw h1 rfl hw (j:=1) rfl rfl) (e:=9) rfl rfl rfl rfl
  obtain⟨s2,rfl,_,_,f2⟩:=Go.ChangeMaps.open_string rfl (hval 2 _ _ rfl rfl) h2
  exact zg2 (l:=s2.data.toList) W f0 g0 f1 g1
theorem over:Rows.classWaysRow.holds Tryz.pinned (OpenSpec.ofChange Rows.classWaysSpec):=
 OpenClaim.holds_of_wide 5 Tryz.f5 rfl rfl rfl rfl rfl rfl rfl ⟨rfl,rfl,rfl,rfl,rfl⟩ rfl rfl rfl rfl rfl (by kernel_rfl) Tryz.func5 joined
  (of_decide_eq_true (by kernel_rfl)) (by unfold Func.isWrapper;first| (rw[if_pos (by decide+kernel)];kernel_rfl)| (rw[if_neg (by decide+kernel)];exact⟨rfl,rfl⟩))
  (fun os started H enc _=>lifted os started H enc)
theorem proved:Rows.ClassWaysSaid:=over
end Go.Proofs.YtahbdamijngmmaaGreat.classWays
