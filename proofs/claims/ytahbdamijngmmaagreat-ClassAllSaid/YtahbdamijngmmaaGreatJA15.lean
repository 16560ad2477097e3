/-
  Texts of a proof, joined: IC, YKA, KR3, ZKA.
  Conditions: none.
-/
import Derived.Test.YtahbdamijngmmaaGreatJA14
import Derived.Test.YtahbdamijngmmaaGreatRows
import Derived.JoinedOf
import Derived.Laws.IdiomArrays
import Derived.Test.YtahbdamijngmmaaGreatJA11
import Derived.Test.YtahbdamijngmmaaGreatJA07
import Derived.Test.YtahbdamijngmmaaGreatJA10
set_option linter.unusedVariables false
set_option linter.unusedSimpArgs false
set_option linter.defProp false
set_option linter.unnecessarySimpa false
set_option maxHeartbeats 8000000
namespace Go.Proofs.YtahbdamijngmmaaGreat
open Go
set_option maxRecDepth 10000
theorem zhL(W:World){cs:List Value}{N:NetL}{qv:Value}{q:Nm}(hN:NetAt W cs N)(hv:NumN N)(hq:Row W qv (q.map vs)):
  Fn Tryz.prog 3 #[.agg cs.toArray,qv] W (fun v w'=>v= .bool true∧Ext W w'):=by
 have hN0:=hN
 obtain⟨hsv,rv,rfl,hh,hr⟩:=hN.ex
 obtain⟨ah,ch,hhv,_⟩:=hh.open
 obtain⟨ar0,cr0,hrv,_⟩:=id hr
 refine enter Tryz.func3 Tryz.ntmps3 rfl rfl ?_
 repeat refine c_r ?_
 rw[hhv,hrv]
 refine go trivial ?_
 rw[←hhv,←hrv]
 refine zaL ?_
 intro w1 hE1 hs1 hA
 have dN:zaw w1 (some ⟨W.heap.size,0,Option.none⟩) 4=some [hsv,rv,vi N.rw,vi N.rf]:=zav hA rfl
 refine rc trivial (zje w1) ?_
 rintro _ w3 ⟨rfl,hE3⟩
 refine rgo trivial ?_
 have hE13:=hE1.trans hE3
 have dN3:=zaf hE3 dN
 refine zat (Q:=fun e σ' ds' v'=>e= .normal∧ds'=[]∧(σ' 2= .pointer (some ⟨W.heap.size,0,Option.none⟩)∧σ' 1=qv)∧Ext w3 v'∧∃bb,σ' 32= .bool bb∧(bb=false→zba N∧zd8 q=true∧(canN (zaP N)).length≤300)) ?_ ?_
 ·refine rcg [(3,23),(8,28)] dN3 (zkU w3 (hN0.ext hE13) hv) ?_
  rintro _ w4 ⟨hE4,b,rfl,hb⟩
  cases b with
  |false=>
   refine reg [(3,23),(8,28)] trivial ?_
   exact⟨rfl,rfl,sc trivial,hE4,_,vr0,fun h=>by cases h⟩
  |true=>
   refine rdg [(3,23),(8,28)] trivial (zgd w4 qv q (hq.ext (hE13.trans hE4))) ?_
   rintro _ w5 ⟨rfl,hE5⟩
   cases hgq:zd8 q with
   |false=>
    refine reg [(3,23),(8,28)] trivial ?_
    exact⟨rfl,rfl,sc trivial,hE4.trans hE5,_,vr0,fun h=>by cases h⟩
   |true=>
    have hE46:=hE4.trans hE5
    refine rdg [(3,23),(8,28)] (zaf hE46 dN3) (light_ok (hE13.trans hE46) hN0 (hb rfl)) ?_
    rintro _ w7 ⟨rfl,hE7⟩
    refine reg [(3,23),(8,28)] trivial ?_
    exact⟨rfl,rfl,sc trivial,hE46.trans hE7,_,vr0,fun h=>⟨hb rfl,rfl,by simpa using h⟩⟩
 rintro _ σ1 _ w4 ⟨rfl,rfl,s,hE4,bb,s32,hbb⟩
 have hE14:=hE13.trans hE4
 cases bb with
 |true=>
  refine go s32 ?_
  refine rt0 Tryz.ntmps3 ?_
  exact⟨rfl,hE14⟩
 |false=>
 obtain⟨hG,hgq,hl3⟩:=hbb rfl
 have hF:=closed_F hG
 have mq:=(zfZ hgq).m
 have lq:=mq.len
 have dN4:=zaf hE4 dN3
 refine go s32 ?_
 refine rc (an2 s dN4) (All_ok hE14 hN0 hG (by omega)) ?_
 rintro _ w5 ⟨hE5,lv,rfl,hl5⟩
 refine rgo s ?_
 have hE15:=hE14.trans hE5
 refine rc (an2 s (zaf hE5 dN4)) (zkP w5 (hN0.ext hE15) hG.z) ?_
 rintro _ w6 ⟨hE6,cs',rfl,hX⟩
 refine rd trivial (zhG (Keep.refl _ _) hX hG (by omega)) ?_
 rintro _ w7 ⟨hE7,mv,rfl,hm7⟩
 obtain⟨L,hL⟩:∃L,canN (zaP N)=L:=⟨_,rfl⟩
 rw[hL]at hF hl3 hl5 hm7
 have hCl:=zf4 (L:=L)
 have hof:=of_alike (q:=q) hF.r hF.f
 have kc:=hF.nm (st:=true) (q:=q)
 have hFk:=hF.k
 have hE57:=hE6.trans hE7
 have hl7:=Tr.cls.tr hE57 hl5
 obtain⟨C,hC⟩:∃C,clsN L=C:=⟨_,rfl⟩
 rw[hC]at hCl hl7 hm7 hof kc hFk
 obtain⟨o1,o2,o3,o4⟩:=hof
 have hE17:=hE15.trans hE57
 have hlr:=hl7
 have hmr:=hm7
 obtain⟨al,cl,rfl,hg⟩:=zdj hl7
 obtain⟨am,cm,rfl,hgm⟩:=zdj hm7
 have f1:decide ((0:Int)=0)=true:=rfl
 refine rgo s ?_
 refine rgg [(3,47)] (an2 s f1) ?_
 refine go s ?_
 refine zat (Q:=fun e σ' ds' v'=>e= .exit 0∧ds'=[]∧(σ' 5= .slice al C.length cl∧σ' 7= .slice am C.length cm∧σ' 1=qv)∧Ext w7 v') ?_ ?_
 ·refine zdt C.length (fun i σ v=>(σ 9=vi i∧σ 5= .slice al C.length cl∧σ 7= .slice am C.length cm∧σ 1=qv)∧Ext w7 v) ?_ ?_ ?_
  ·exact⟨⟨vr0,vq0,vq0,(vq1 s)⟩,Keep.refl _ _⟩
  ·rintro i σ v hi p ⟨s,hE⟩
   obtain⟨z,yv,hz,ha,hcs,hyv⟩:=hg i hi
   obtain⟨z',yv',hz',ha',hcs',hyv'⟩:=hgm i hi
   obtain⟨xa,rfl⟩:=Option.isSome_iff_exists.1 ha
   obtain⟨xb,rfl⟩:=Option.isSome_iff_exists.1 ha'
   obtain⟨g0,z1,hz1,g1⟩:=zdF hcs
   obtain⟨g0',z1',hz1',g1'⟩:=zdF hcs'
   have hz0:adr (some z) 0=some z:=zap _
   have hz0':adr (some z') 0=some z':=zap _
   have ky:=(hFk _ (List.getElem_mem hi)).1
   obtain⟨y,hy⟩:∃y,C[i]=y:=⟨_,rfl⟩
   rw[hy]at hyv hyv' g1 g1' ky
   have ly:=ky.len
   have hoo:(y.other==y.other)=true:=by cases y.other<;>rfl
   refine go (an2 s p) ?_
   refine zat (Q:=fun e σ' ds' v'=>e= .normal∧ds'=[]∧(σ' 9=vi i∧σ' 5= .slice (some xa) C.length cl∧σ' 7= .slice (some xb) C.length cm∧σ' 1=qv)∧Ext v v'∧σ' 84= .bool false) ?_ ?_
   ·refine zaG (fun _=>false) [(0,true),(1,true),(2,true),(3,true),(4,true),(5,true),(6,true),(7,true),(8,true),(9,true),(10,false),(11,true),(12,true),(13,true),(14,true),(15,true),(16,true),(17,true),(18,true),(19,true),(20,true),(21,true),(22,true),(23,true),(24,true)] NoS mixed (by kernel_rfl) ?_;intro gd K x hgd hx hxe hK;clear hxe
    have hg12:∀n σ b,zas gd n σ (some (12,b))=zai (ev n σ (.tmp 72)) b:=(fun n σ b=>by rw[zab,show gd 12=some 72 from(by rw[hgd];rfl)];rfl)
    have hvx:=hE.trans hx
    have e0:=zaa hvx g0
    have e0':=zaa hvx g0'
    simp (disch:=first|omega|assumption|rfl) only[go_sem,s,p,hz,hz',hz0,hz0',e0,e0']
    refine Fn.mono (zcM x _ _ y.name y.name (hyv.ext hvx) (hyv'.ext hvx) ky.LB ky.LB (by omega) (by omega)) ?_
    rintro _ x1 ⟨rfl,hx1⟩
    refine⟨.inr hx1,?_⟩
    have e1:=zaa (hvx.trans hx1) g1
    have e1':=zaa (hvx.trans hx1) g1'
    simp (disch:=first|omega|assumption|rfl) only[go_sem,s,p,hz,hz',hz1,hz1',e1,e1',hoo,zbu,↓hg12]
    refine hK _ _ ?_;clear hK hgd;clear K;try clear gd
    exact⟨rfl,rfl,sc s,hx.trans hx1,vr0⟩
   rintro _ σ1 _ v1 ⟨rfl,rfl,s1,hE1',s84⟩
   refine go (an3 s1 p s84) ?_
   exact⟨rfl,sc (an2 s1 p),hE.trans hE1'⟩
  ·rintro σ v p ⟨s,hE⟩
   refine go (an2 s p) ?_
   exact⟨rfl,rfl,sc s,hE⟩
 clear s
 rintro _ σ2 _ w8 ⟨rfl,rfl,s,hE8⟩
 have hE18:=hE17.trans hE8
 obtain⟨c,hc⟩:∃c,(ofF true C q).1=c:=⟨_,rfl⟩
 rw[hc]at o3 o4 kc
 have lc:=kc.len
 refine go s ?_
 refine rq ?_;intro gd K hgd hK
 try simp (disch:=first|omega|assumption|rfl) only[go_sem,s]
 refine Fn.mono (zkY w8 (Tr.cls.tr hE8 hlr) (q:=q) (hq.ext hE18) (fun c hc=>(hFk c hc).1) mq (by omega)) ?_
 rintro _ w9 ⟨hE9,cv,rfl,hcv⟩
 rw[hc]at hcv
 rw[hc,o1]
 try simp only[go_sem]
 refine za4 (P:=Tryz.prog) (l:=[cv,.bool c.other]) rfl (zaR hcv.isOne rfl) rfl rfl ?_
 intro w10 hE10 hs10 hA10
 try simp only[go_sem]
 refine hK _ _ ?_;clear hK hgd;clear K;try clear gd
 obtain⟨ba,hba⟩:∃b,w9.heap.size=b:=⟨_,rfl⟩
 rw[hba]at hA10 ⊢
 have hE8x:=hE9.trans hE10
 refine go s ?_
 refine rq ?_;intro gd K hgd hK
 try simp (disch:=first|omega|assumption|rfl) only[go_sem,s]
 refine Fn.mono (zhH w10 (Tr.cls.tr (hE8.trans hE8x) hmr) (q:=q) (hq.ext (hE18.trans hE8x)) (fun c hc=>(hFk c hc).1) mq (by omega)) ?_
 rintro _ w11 ⟨hE11,dv,rfl,hdv⟩
 rw[o3]at hdv
 rw[o4,o2]
 try simp only[go_sem]
 refine za4 (P:=Tryz.prog) (l:=[dv,.bool c.other]) rfl (zaR hdv.isOne rfl) rfl rfl ?_
 intro w12 hE12 hs12 hA12
 try simp only[go_sem]
 refine hK _ _ ?_;clear hK hgd;clear K;try clear gd
 obtain⟨bd,hbd⟩:∃b,w11.heap.size=b:=⟨_,rfl⟩
 rw[hbd]at hA12 ⊢
 have hE10x:=hE11.trans hE12
 have hA10':=Ext.at hE10x hA10
 have c0:zah w12 (some ⟨ba,0,Option.none⟩)=some cv:=zac (i:=0) hA10' rfl
 have d0:zah w12 (some ⟨bd,0,Option.none⟩)=some dv:=zac (i:=0) hA12 rfl
 have hoo:(c.other==c.other)=true:=by cases c.other<;>rfl
 have htt:(true==true)=true:=rfl
 refine go s ?_
 refine rcg [(3,100),(11,108)] (an4 s c0 d0 htt) (zcM w12 _ _ c.name c.name (hcv.ext (hE10.trans hE10x)) (hdv.ext hE12) kc.LB kc.LB (by omega) (by omega)) ?_
 rintro _ w13 ⟨rfl,hE13'⟩
 have hA13:=Ext.at hE13' hA10'
 have hB13:=Ext.at hE13' hA12
 have c1:zah w13 (some ⟨ba,1,Option.none⟩)=some (.bool c.other):=zac (i:=1) hA13 rfl
 have d1:zah w13 (some ⟨bd,1,Option.none⟩)=some (.bool c.other):=zac (i:=1) hB13 rfl
 rw[zij]
 refine reg [(3,100),(11,108)] (an4 s c1 d1 hoo) ?_
 have dC:zaw w13 (some ⟨ba,0,Option.none⟩) 2=some [cv,.bool c.other]:=zav (l:=[cv,.bool c.other]) hA13 rfl
 have dD:zaw w13 (some ⟨bd,0,Option.none⟩) 2=some [dv,.bool c.other]:=zav (l:=[dv,.bool c.other]) hB13 rfl
 have hE8y:=hE8.trans (hE8x.trans (hE10x.trans hE13'))
 have hE1x:=hE18.trans (hE8x.trans (hE10x.trans hE13'))
 refine go s ?_
 refine rc (an2 s dC) (zkX w13 (c:=c) (Tr.cls.tr hE8y hlr) (hcv.ext (hE10.trans (hE10x.trans hE13'))) hFk kc (by omega)) ?_
 rintro _ w14 ⟨hE14',ra,rfl,hra⟩
 refine rgo s ?_
 refine rc (an2 s (zaf hE14' dD)) (RRep_ok w14 (c:=c) (Tr.cls.tr (hE8y.trans hE14') hmr) (hdv.ext (hE12.trans (hE13'.trans hE14'))) hFk kc (by omega)) ?_
 rintro _ w15 ⟨hE15',rb,rfl,hrb⟩
 have hii:((repC C c).isSome==(repC C c).isSome)=true:=by cases (repC C c).isSome<;>rfl
 have kr:NmK ((repC C c).getD []):=by
  have h0:NmK []:=⟨(fun l h=>by cases h),by simp⟩
  unfold repC
  split
  ·split
   ·exact h0
   ·split
    ·rename_i hck;exact za0 hck
    ·exact h0
  ·exact kc
 have lr:=kr.len
 refine rgo s ?_
 refine rcg [(3,130)] hii (zcM w15 ra rb _ _ (hra.ext hE15') hrb kr.LB kr.LB (by omega) (by omega)) ?_
 rintro _ w16 ⟨rfl,hE16'⟩
 rw[zij]
 refine reg [(3,130)] trivial ?_
 repeat refine c_r ?_
 refine rt0 Tryz.ntmps3 ?_
 exact⟨rfl,hE1x.trans (hE14'.trans (hE15'.trans hE16'))⟩
end Go.Proofs.YtahbdamijngmmaaGreat
namespace Go.Proofs.YtahbdamijngmmaaGreat.classAll
open Go Go.Proofs.YtahbdamijngmmaaGreat
theorem j1:(Rows.classAllRow.inPlace==Tryz.pinned.checked.prog.inPlace 3)=true:=by kernel_rfl
theorem j2:(Rows.classAllRow.unfollowed==Tryz.pinned.checked.prog.unfollowed 3)=true:=by kernel_rfl
theorem j3:(Rows.classAllRow.recurses==Tryz.pinned.checked.prog.recurses 3)=true:=by kernel_rfl
theorem j4:(Rows.classAllRow.named==Tryz.pinned.checked.prog.varsNamed 3)=true:=by kernel_rfl
theorem j5:(Tryz.pinned.checked.prog.mayEnter)=true:=by kernel_rfl
theorem j6:(Rows.classAllRow.lifted==Tryz.pinned.checked.prog.liftsFinal)=true:=by kernel_rfl
theorem joined:joinedFacts Tryz.pinned.checked.prog 3 Tryz.f3 Rows.classAllSpec Rows.classAllRow=true:=by
 unfold joinedFacts
 rw[j1,j2,j3,j4,j5,j6]
 kernel_rfl
end Go.Proofs.YtahbdamijngmmaaGreat.classAll
namespace Go.Proofs.YtahbdamijngmmaaGreat
open Go
set_option maxRecDepth 100000
theorem zjA{w:World}{α:Type}{k:Nat}{C:List Value→α→Prop}{Q:α→Prop}{v:Value}{L:List (List Value)}(hL:RowK k w v L)(h:∀cs∈L,∃a,C cs a∧Q a):∃R:List α,Rows k C w v R∧∀a∈R,Q a:=by
 have:∀L:List (List Value),(∀cs∈L,∃a,C cs a∧Q a)→∃R:List α,L.length=R.length∧(∀i (h:i<L.length) (h':i<R.length),C L[i] R[i])∧∀a∈R,Q a:=fun L=>by
  induction L with
  |nil=>intro _;exact⟨[],rfl,fun i h=>by simp at h,fun r h=>by cases h⟩
  |cons cs L ih=>
   intro h
   obtain⟨r,h1,h2⟩:=h cs (List.mem_cons_self ..)
   obtain⟨R,a1,a2,a3⟩:=ih (fun x hx=>h x (List.mem_cons_of_mem _ hx))
   refine⟨r::R,by simp[a1],fun i a b=>?_,fun x hx=>?_⟩
   ·cases i with
    |zero=>exact h1
    |succ i=>exact a2 i (by simpa using a) (by simpa using b)
   ·rcases List.mem_cons.1 hx with rfl|hx
    ·exact h2
    ·exact a3 x hx
 obtain⟨R,a1,a2,a3⟩:=this L h
 exact⟨R,⟨L,hL,a1,a2⟩,a3⟩
section
variable {H : Type} {enc : TypeId × Value → H} {w : World} {base : Nat} {sp : Nat → Bool} {held : Bool}
theorem zfS{P:Program}{t:TypeId}{n:Nat}{c:Value}{x:DataW H×List MemPlace}(ht:P.underlying t=some (.int .u8))(h:DataW.trod enc P w base sp held n t [c]=some x):∃b:UInt8,c=zae b:=by
 obtain⟨m,h1,_,h2⟩:=DataW.trod_int ht h
 have hb:=wf_u8 h2
 obtain⟨k,rfl⟩:∃k:Nat,m=(k:Int):=⟨m.toNat,by omega⟩
 exact⟨UInt8.ofNat k,by rw[List.head_eq_of_cons_eq h1,ziq (by omega)]⟩
theorem rd_addr{t e:TypeId}{c0 c1 c2 c3:Value}{P:Program}(h:RdC enc P w base sp held t [c0,c1,c2,c3])(ht:P.underlying t=some (.array 4 e))(hc:P.cellsOf e=1)(he:P.underlying e=some (.int .u8)):
  ∃a b c d:UInt8,c0=zae a∧c1=zae b∧c2=zae c∧c3=zae d:=by
 obtain⟨n,x,h,_⟩:=h
 obtain⟨_,_,_,_,_,_,h0,h1,h2,h3⟩:=Go.ChangeShapes.trod_array4 ht hc h
 obtain⟨a,ha⟩:=zfS he h0
 obtain⟨b,hb⟩:=zfS he h1
 obtain⟨c,hc⟩:=zfS he h2
 obtain⟨d,hd⟩:=zfS he h3
 exact⟨a,b,c,d,ha,hb,hc,hd⟩
theorem rd_zone{cs:List Value}(h:RdC enc Tryz.prog w base sp held 122 cs):∃z:zdW,ZoneC w cs z∧NumR z.recs:=by
 obtain⟨hl,hf⟩:=zdN h rfl
 have hl2:cs.length=2:=hl
 match cs,hl2 with
 | [c0,c1],_=>
  obtain⟨o,n0,_⟩:=zd2 (P:=Tryz.prog) (RdC.one (hf 0 _ rfl)) (e:=9) rfl rfl rfl rfl
  obtain⟨R,h1,h2⟩:=rd_recs (RdC.one (hf 1 _ rfl))
  exact⟨⟨o,R⟩,⟨c0,c1,rfl,n0,h1⟩,h2⟩
theorem rd_host{cs:List Value}(h:RdC enc Tryz.prog w base sp held 116 cs):∃z:zft,HostC w cs z∧∀x∈z.zones,NumR x.recs:=by
 obtain⟨hl,hf⟩:=zdN h rfl
 have hl6:cs.length=6:=hl
 match cs,hl6 with
 | [c0,c1,c2,c3,c4,c5],_=>
  obtain⟨o,n0,_⟩:=zd2 (P:=Tryz.prog) (RdC.one (hf 0 _ rfl)) (e:=9) rfl rfl rfl rfl
  have h1:RdC enc Tryz.prog w base sp held 113 [c1,c2,c3,c4]:=hf 1 _ rfl
  obtain⟨a,b,c,d,rfl,rfl,rfl,rfl⟩:=rd_addr h1 rfl rfl (e:=5) rfl
  have h5:RdC enc Tryz.prog w base sp held 114 [c5]:=hf 2 _ rfl
  obtain⟨L,hL,hall,_⟩:=zeR (RdC.one h5) (e:=122) (k:=2) rfl rfl
  obtain⟨R,r1,r2⟩:=zjA hL (fun cs hcs=>rd_zone (hall cs hcs))
  exact⟨⟨o,[a,b,c,d],R⟩,⟨c0,a,b,c,d,c5,rfl,rfl,n0,r1⟩,r2⟩
theorem rd_net{cs:List Value}(h:RdC enc Tryz.prog w base sp held 25 cs):∃N:NetL,NetAt w cs N∧NumN N:=by
 obtain⟨hl,hf⟩:=zdN h rfl
 have hl4:cs.length=4:=hl
 match cs,hl4 with
 | [c0,c1,c2,c3],_=>
  obtain⟨L,hL,hall,_⟩:=zeR (RdC.one (hf 0 _ rfl)) (e:=116) (k:=6) rfl rfl
  obtain⟨R,r1,r2⟩:=zjA hL (fun cs hcs=>rd_host (hall cs hcs))
  obtain⟨roots,n2,_⟩:=zhe (RdC.one (hf 1 _ rfl)) (e:=3) (k:= .i64) rfl rfl rfl
  obtain⟨a,e2,_⟩:=zgn (hf 2 _ rfl) (k:= .i64) rfl
  obtain⟨b,e3,_⟩:=zgn (hf 3 _ rfl) (k:= .i64) rfl
  have e2':c2=vi a:=List.head_eq_of_cons_eq (show [c2]=[vi a] from e2)
  have e3':c3=vi b:=List.head_eq_of_cons_eq (show [c3]=[vi b] from e3)
  exact⟨⟨R,roots,a,b⟩,⟨c0,c1,by rw[e2',e3'],r1,n2⟩,r2⟩
end
theorem zhd{H:Type}{enc:TypeId×Value→H}{P:Program}{w:World}{base:Nat}{sp:Nat→Bool}{held:Bool}{t:TypeId}{cs:Array Value}{d:DataW H}{p:List MemPlace}{ts:List TypeId}{ds:List (DataW H)}(h:DataW.Trod enc P w base sp held t (.agg cs) d p)
  (hw:∀x∈DataW.weightsEach P ts ds,x≤reachBytes) {j:Nat} (ht:ts[j]? =some t) (hd:ds[j]? =some d):RdC enc P w base sp held t cs.toList:=by
 obtain⟨n,h⟩:=h
 exact⟨n,_,h,fun k hk=>hw k (DataW.weights_mem_each ht hd k hk)⟩
end Go.Proofs.YtahbdamijngmmaaGreat
namespace Go.Proofs.YtahbdamijngmmaaGreat.classAll
open Go Go.Proofs.YtahbdamijngmmaaGreat Go.ChangeShapes Go.WideShapes Go.ChangeAt Go.RowKit
theorem own:ownKnob Tryz.prog.godebug=none:=by kernel_rfl
set_option maxRecDepth 100000 in
theorem lifted(os:Os)(started:os.Started)(H:Type)(enc:TypeId×Value→H):
  ReturnsInHanded {} Tryz.checked os 3 .any (Rows.classAllSpec.pre6 enc Tryz.prog Tryz.f3 Rows.classAllRow.domain false) (Rows.classAllSpec.post enc Tryz.prog Tryz.f3 false true false false):=by
 refine law_lift (C:=Tryz.checked) own started (by kernel_rfl) Tryz.func3
  (ChangeSpec.witness6 (enc:=enc) (C:=Tryz.checked) false ⟨#[],#[.agg #[.slice Option.none 0 0,.slice Option.none 0 0,.int .i64 0,.int .i64 0],.slice Option.none 0 0],[]⟩ 8 (by kernel_rfl) (by kernel_rfl) (by kernel_rfl) (by kernel_rfl)) rfl ?_ (tb:=4) rfl rfl (by kernel_rfl) (by kernel_rfl) ?_
 ·intro ds hds
  match ds,hds with
  | [d0,d1],_=>rfl
 ·intro W base args ds p hval hA0 hw0
  have hA:DataW.TrodAll enc Tryz.prog W 0 (fun _=>true) true [25,27] args ds p:=hA0
  have hw:∀x∈DataW.weightsEach Tryz.prog [25,27] ds,x≤reachBytes:=hw0
  obtain⟨v0,vs0,d0,ds0,p0,q0,rfl,rfl,rfl,h0,r0⟩:=trodAll_cons hA
  obtain⟨v1,vs1,d1,ds1,p1,q1,rfl,rfl,rfl,h1,r1⟩:=trodAll_cons r0
  obtain⟨rfl,rfl,rfl⟩:=trodAll_nil r1
  obtain⟨a0,rfl,_⟩:=okWide_struct rfl (hval 0 _ _ rfl rfl)
  obtain⟨x0,f0,g0⟩:=rd_net (zhd h0 hw (j:=0) rfl rfl)
  obtain⟨a1,n1,c1,rfl⟩:=okWide_slice (e:=9) rfl (hval 1 _ _ rfl rfl)
  obtain⟨x1,f1,g1⟩:=zd2 (P:=Tryz.prog) (ziH h1 rfl hw (j:=1) rfl rfl) (e:=9) rfl rfl rfl rfl
  exact zhL W f0 g0 f1
theorem over:Rows.classAllRow.holds Tryz.pinned (OpenSpec.ofChange Rows.classAllSpec):=
 OpenClaim.holds_of_wide 3 Tryz.f3 rfl rfl rfl rfl rfl rfl rfl ⟨rfl,rfl,rfl,rfl,rfl⟩ rfl rfl rfl rfl rfl (by kernel_rfl) Tryz.func3 joined
  (of_decide_eq_true (by kernel_rfl)) (by unfold Func.isWrapper;first| (rw[if_pos (by decide+kernel)];kernel_rfl)| (rw[if_neg (by decide+kernel)];exact⟨rfl,rfl⟩))
  (fun os started H enc _=>lifted os started H enc)
theorem proved:Rows.ClassAllSaid:=over
end Go.Proofs.YtahbdamijngmmaaGreat.classAll
