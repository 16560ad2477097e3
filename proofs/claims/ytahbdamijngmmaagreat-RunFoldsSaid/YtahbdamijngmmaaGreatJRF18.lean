/-
  Texts of a proof, joined: OB, OE, YRF, KR3, ZRF.
  Conditions: none.
-/
import Derived.Test.YtahbdamijngmmaaGreatJRF12
import Derived.Test.YtahbdamijngmmaaGreatJRF16
import Derived.Test.YtahbdamijngmmaaGreatJRF17
import Derived.Test.YtahbdamijngmmaaGreatJRF09
import Derived.Test.YtahbdamijngmmaaGreatRows
import Derived.JoinedOf
import Derived.Laws.IdiomArrays
import Derived.Test.YtahbdamijngmmaaGreatJRF13
import Derived.Test.YtahbdamijngmmaaGreatJRF11
set_option linter.unusedVariables false
set_option linter.unusedSimpArgs false
set_option linter.defProp false
set_option linter.unnecessarySimpa false
set_option maxHeartbeats 8000000
namespace Go.Proofs.YtahbdamijngmmaaGreat
open Go
set_option maxRecDepth 10000
theorem zjD:zcv smallN kX 1=[(kA0,[0]),(kA1,[0,0]),(kA2,[0,0,0])]:=by kernel_rfl
theorem zjE:zcT [(kA0,[0]),(kA1,[0,0]),(kA2,[0,0,0])]=[(1,[0,0,0])]:=by kernel_rfl
theorem small_p1:zgA smallN kX 1 [0,0,0]=(kA2,true):=by kernel_rfl
theorem small_p2:zgA smallN kX 1 [0,1]=(stZ,false):=by kernel_rfl
theorem small_p3:zgA smallN kX 1 []=(stZ,false):=by kernel_rfl
theorem zgK:zbL kX=true:=by kernel_rfl
theorem zkY(l:List Int):∀v∈l.map vi,v.cells=#[v]:=fun v h=>by obtain⟨x,_,rfl⟩:=List.mem_map.1 h;rfl
theorem zkk(w:World):Fn Tryz.prog 33 #[] w (fun v w'=>v= .bool true∧Ext w w'):=by
 refine enter Tryz.func33 Tryz.ntmps33 rfl rfl ?_
 refine go trivial ?_
 refine rq ?_;intro gd K hgd hK
 try simp only[go_sem]
 refine Fn.mono (Small_ok w) ?_
 rintro _ w1 ⟨hE1,cs,rfl,hN⟩
 obtain⟨hv,rv,rfl,hh,hr⟩:=id hN.ex
 have hh1:=hh.isOne
 have hr1:=hr.isOne
 try simp only[go_sem]
 refine za0 (P:=Tryz.prog) (l:=[hv,rv,vi smallN.rw,vi smallN.rf]) rfl (fun v h=>by simp at h;rcases h with rfl|rfl|rfl|rfl<;>first|assumption|rfl) rfl rfl ?_
 intro w2 hE2 hs2 hB
 try simp only[go_sem]
 refine hK _ _ ?_;clear hK hgd;clear K;try clear gd
 have dN:zau w2 (some ⟨w1.heap.size,0,Option.none⟩) 4=some [hv,rv,vi smallN.rw,vi smallN.rf]:=zah hB rfl
 refine go trivial ?_
 refine rq ?_;intro gd K hgd hK
 try simp only[go_sem]
 refine zbC (z:=vs []) (l:=[vs [120],vs [111]]) rfl rfl rfl rfl rfl rfl (fun v hv=>by simp at hv;rcases hv with rfl|rfl<;>rfl) (by simp) ?_
 intro w3 hE3 hs3 o3
 have r3:Row w3 (.slice (some ⟨w2.heap.size,0,Option.none⟩) 2 2) (kX.map vs):=o3.row
 try simp only[go_sem]
 refine hK _ _ ?_;clear hK hgd;clear K;try clear gd
 refine go trivial ?_
 have hE13:=hE2.trans hE3
 have hP:=zgp (t:=1) hE13 hN zdh r3 zgK
 simp only[zjD,zjE]at hP
 refine rc (zad hE3 dN) hP ?_
 rintro _ w4 ⟨hE4,(⟨hc,_⟩| ⟨hc,ev,rfl,hrows⟩)⟩
 ·exact absurd hc (by decide)
 obtain⟨ae,ce,rfl,hce,hge⟩:=id hrows.open
 rw[show ([((1:Int),[(0:Int),0,0])]:List (Int×List Int)).length=1 from rfl]
 obtain⟨ec,hec,hEn⟩:=hge 0 (by simp)
 obtain⟨pv,rfl,hpv⟩:=hEn.ex
 obtain⟨ap,cp,rfl,_⟩:=id hpv
 replace hec:zau w4 (adr ae (0*2)) 2=some [vi 1,.slice ap 3 cp]:=hec
 obtain⟨xe,rfl⟩:=Option.isSome_iff_exists.1 (zas hec)
 rw[Nat.zero_mul,zaA]at hec
 obtain⟨x1,hx1⟩:∃x,adr (some xe) 1=some x:=⟨_,rfl⟩
 have g0:=zax (j:=0) hec rfl
 have g1:=zax (j:=1) hec rfl
 rw[hx1]at g1
 rw[zaA]at g0
 refine rgo trivial ?_
 have hE14:=hE13.trans hE4
 have dN4:=zad (hE3.trans hE4) dN
 refine rq ?_;intro gd K hgd hK
 try simp (disch:=first|omega|assumption|rfl) only[go_sem,dN4]
 refine zbC (z:=vi 0) (l:=[vi 0,vi 0,vi 0]) rfl rfl rfl rfl rfl rfl (zkY [0,0,0]) (by simp) ?_
 intro w5 hE5 hs5 o5
 try simp only[go_sem]
 have hP:=ziN (t:=1) (ch:=[0,0,0]) (hE14.trans hE5) hN zdh (r3.ext (hE4.trans hE5)) zgK o5.row (by decide)
 rw[small_p1]at hP
 refine Fn.mono hP ?_
 rintro _ w6 ⟨hE6,n6,rfl,hn6⟩
 try simp only[go_sem]
 refine za0 (P:=Tryz.prog) (l:=stV n6 kA2) rfl (zcE hn6.isOne) rfl rfl ?_
 intro w7 hE7 hs7 hB7
 try simp only[go_sem]
 refine hK _ _ ?_;clear hK hgd;clear K;try clear gd
 refine go trivial ?_
 have hE47:=hE5.trans (hE6.trans hE7)
 have dN7:=zad hE47 dN4
 refine rq ?_;intro gd K hgd hK
 try simp (disch:=first|omega|assumption|rfl) only[go_sem,dN7]
 refine zbC (z:=vi 0) (l:=[vi 0,vi 1]) rfl rfl rfl rfl rfl rfl (zkY [0,1]) (by simp) ?_
 intro w8 hE8 hs8 o8
 try simp only[go_sem]
 have hP:=ziN (t:=1) (ch:=[0,1]) ((hE14.trans hE47).trans hE8) hN zdh (r3.ext ((hE4.trans hE47).trans hE8)) zgK o8.row (by decide)
 rw[small_p2]at hP
 refine Fn.mono hP ?_
 rintro _ w9 ⟨hE9,n9,rfl,hn9⟩
 try simp only[go_sem]
 refine za0 (P:=Tryz.prog) (l:=stV n9 stZ) rfl (zcE hn9.isOne) rfl rfl ?_
 intro w10 hE10 hs10 hB10
 try simp only[go_sem]
 refine hK _ _ ?_;clear hK hgd;clear K;try clear gd
 refine go trivial ?_
 have hE710:=hE8.trans (hE9.trans hE10)
 have dN10:=zad hE710 dN7
 have hE110:=(hE14.trans hE47).trans hE710
 have hP:=ziN (t:=1) (ch:=[]) (cv:= .slice Option.none 0 0) hE110 hN zdh (r3.ext ((hE4.trans hE47).trans hE710)) zgK ⟨Option.none,0,rfl,Nat.le_refl _,fun j h=>by simp at h⟩ (by decide)
 rw[small_p3]at hP
 refine rq ?_;intro gd K hgd hK
 try simp (disch:=first|omega|assumption|rfl) only[go_sem,dN10]
 refine Fn.mono hP ?_
 rintro _ w11 ⟨hE11,n11,rfl,hn11⟩
 try simp only[go_sem]
 refine za0 (P:=Tryz.prog) (l:=stV n11 stZ) rfl (zcE hn11.isOne) rfl rfl ?_
 intro w12 hE12 hs12 hB12
 try simp only[go_sem]
 refine hK _ _ ?_;clear hK hgd;clear K;try clear gd
 refine go trivial ?_
 have hE412:=hE47.trans (hE710.trans (hE11.trans hE12))
 refine rc trivial (zmi (k:=1) (p:=[0,0,0]) ((Rows.ext hrows hE412).to fun _ _ h=>h.ext hE412)) ?_
 rintro kv w13 ⟨hkv,hE13⟩
 obtain⟨ak,ck,rfl,_,hgk⟩:=hkv
 rw[show [vi 1].length=1 from rfl]
 have gk:=hgk 0 (by simp)
 replace gk:zae w13 (adr ak 0)=some (vi 1):=gk
 obtain⟨xk,rfl⟩:=Option.isSome_iff_exists.1 (zag gk)
 rw[zaA]at gk
 refine rgo trivial ?_
 have g0:=zaa (hE412.trans hE13) g0
 have g1:=zaa (hE412.trans hE13) g1
 have f6:zae w13 (some ⟨w6.heap.size,5,Option.none⟩)=some (vi 1):=zab (i:=5) (Ext.at (hE710.trans (hE11.trans (hE12.trans hE13))) hB7) rfl
 have z0:(0:Int)≤0:=Int.le_refl _
 have z1:(0:Int)<((1:Nat):Int):=by decide
 have o1:decide (((1:Nat):Int)=1)=true:=rfl
 have o3:decide (((3:Nat):Int)=3)=true:=rfl
 have o4:decide (((([(kA0,[0]),(kA1,[0,0]),(kA2,[0,0,0])]:List MetL).length:Nat):Int)=3)=true:=rfl
 have o0:decide ((0:Int)=0)=true:=rfl
 have o2:decide ((1:Int)=1)=true:=rfl
 refine rgg [(2,46),(7,51),(14,58),(22,66),(26,70),(29,73),(34,78),(38,82),(42,86),(47,91)] (an2 (an9 g0 g1 f6 gk hx1 z0 z1 o1 o3) (an9 o0 o2 Int.toNat_zero Nat.zero_mul zaA o4 Nat.add_zero Nat.zero_add Bool.not_false)) ?_
 refine go trivial ?_
 refine rt0 Tryz.ntmps33 ?_
 exact⟨rfl,hE1.trans ((hE14.trans (hE412.trans hE13)))⟩
def zdK(N:NetL)(q:Nm)(t:Int):List (Int×List Int):=if 4096<(zcv N q t).length then [] else zcT (zcv N q t)
def numR(N:NetL)(q:Nm)(t:Int):Nat:=if 4096<(zcv N q t).length then 0 else(zcv N q t).length
def errR(N:NetL)(q:Nm)(t:Int):Int:=if 4096<(zcv N q t).length then 11 else 0
theorem zj1{N:NetL}{q:Nm}{t:Int}(hN:za3 N)(hq:zbL q=true)(h:errR N q t=0):Shut N t q (zcv N q t)∧zdK N q t=zcT (zcv N q t):=by
 unfold errR at h
 unfold zdK
 split at h
 ·cases h
 ·rename_i hl
  rw[if_neg hl]
  exact⟨zly hN hq (by omega),rfl⟩
theorem zlE{N:NetL}{q:Nm}{t:Int}(h:errR N q t≠0):zdK N q t=[]:=by
 unfold errR at h
 unfold zdK
 split at h
 ·rename_i hl;rw[if_pos hl]
 ·exact absurd rfl h
theorem errR_err{N:NetL}{q:Nm}{t:Int}(h:zdK N q t≠ []):errR N q t=0:=Decidable.byContradiction fun h0=>h (zlE h0)
theorem zl0{N:NetL}{q:Nm}{t:Int}:zdK N (zai q) t=zdK N q t∧numR N (zai q) t=numR N q t∧errR N (zai q) t=errR N q t:=by
 have h:=zlz (N:=N) (q:=q) (t:=t)
 unfold zdK numR errR
 rw[←h.len,←ends_al h]
 exact⟨rfl,rfl,rfl⟩
theorem zlF(N:NetL)(q:Nm)(t:Int):(zdK N q t).length≤9:=by
 unfold zdK
 split
 ·simp
 ·exact zlD _
theorem zfW{w0 w:World}(hE0:Ext w0 w){cs:List Value}{N:NetL}{qv:Value}{q:Nm}{t:Int}(hN:NetAt w0 cs N)(hG:za3 N)(hq:Row w qv (q.map vs))(hgq:zbL q=true):
  Fn Tryz.prog 35 #[.agg cs.toArray,qv,vi t] w (fun v w'=>Ext w w'∧∃ev,v= .tuple #[ev,vi (numR N q t),vi (errR N q t)]∧Rows 2 (EndAt w') w' ev (zdK N q t)):=by
 refine Fn.mono (zgp (t:=t) hE0 hN hG hq hgq) ?_
 rintro v x ⟨hE,(⟨h1,rfl⟩| ⟨h1,ev,rfl,h2⟩)⟩
 ·unfold numR errR zdK
  rw[if_pos h1,if_pos h1,if_pos h1]
  exact⟨hE,_,rfl,Rows.nil _ _ _⟩
 ·unfold numR errR zdK
  rw[if_neg (by omega),if_neg (by omega),if_neg (by omega)]
  exact⟨hE,_,rfl,h2⟩
def EndG(w:World)(a:Option Addr)(E:List (Int×List Int)):Prop:=∀i (hi:i<E.length),∃xa x x1 ap cp,a=some xa∧adr (some xa) (i*2)=some x∧adr (some x) 0=some x∧adr (some x) 1=some x1∧zae w (some x)=some (vi E[i].1)∧zae w (some x1)=some (.slice ap E[i].2.length cp)∧
 Row w (.slice ap E[i].2.length cp) (E[i].2.map vi)∧∀j (hj:j<E[i].2.length),∃xp,ap=some xp∧zae w (adr (some xp) j)=some (vi E[i].2[j])
theorem zhS{w:World}{ev:Value}{E:List (Int×List Int)}(h:Rows 2 (EndAt w) w ev E):∃a c,ev= .slice a E.length c∧EndG w a E:=by
 obtain⟨a,c,rfl,_,hg⟩:=h.open
 refine⟨a,c,rfl,fun i hi=>?_⟩
 obtain⟨cs,h1,h2⟩:=hg i hi
 obtain⟨pv,rfl,hp⟩:=h2.ex
 obtain⟨ap,cp,rfl,hcp,hgp⟩:=id hp
 obtain⟨xa,rfl⟩:=Option.isSome_iff_exists.1 (zas h1)
 obtain⟨x,hx⟩:∃x,adr (some xa) (i*2)=some x:=⟨_,rfl⟩
 rw[hx]at h1
 obtain⟨x1,hx1⟩:∃x1,adr (some x) 1=some x1:=⟨_,rfl⟩
 have g0:=zax (j:=0) h1 rfl
 have g1:=zax (j:=1) h1 rfl
 rw[zaA]at g0
 rw[hx1]at g1
 rw[List.length_map]at g1 hp
 refine⟨xa,x,x1,ap,cp,rfl,hx,zaA _,hx1,g0,g1,hp,fun j hj=>?_⟩
 have g:=hgp j (by rw[List.length_map];exact hj)
 rw[List.getElem_map]at g
 cases ap with
 |none=>simp[adr,zae]at g
 |some xp=>exact⟨xp,rfl,g⟩
instance Tr.ends{a:Option Addr}{E:List (Int×List Int)}:Tr fun w=>EndG w a E:=⟨fun hE h i hi=>by
 obtain⟨xa,x,x1,ap,cp,e0,e1,e2,e3,g0,g1,hr,hg⟩:=h i hi
 exact⟨xa,x,x1,ap,cp,e0,e1,e2,e3,zaa hE g0,zaa hE g1,hr.ext hE,fun j hj=>by
  obtain⟨xp,e,g⟩:=hg j hj
  exact⟨xp,e,zaa hE g⟩⟩⟩
theorem ziL(W:World){cs:List Value}{N:NetL}{qv:Value}{q:Nm}{t:Int}(hN:NetAt W cs N)(hv:NumN N)(hq:Row W qv (q.map vs))(_oq:NmOk q):
  Fn Tryz.prog 10 #[.agg cs.toArray,qv,vi t] W (fun v w'=>v= .bool true∧Ext W w'):=by
 have hN0:=hN
 obtain⟨hsv,rv,rfl,hh,hr⟩:=hN.ex
 obtain⟨ah,ch,hhv,_⟩:=hh.open
 obtain⟨ar0,cr0,hrv,_⟩:=id hr
 refine enter Tryz.func10 Tryz.ntmps10 rfl rfl ?_
 repeat refine c_r ?_
 rw[hhv,hrv]
 refine go trivial ?_
 rw[←hhv,←hrv]
 refine zaB ?_
 intro w1 hE1 hs1 hA
 have dN:zau w1 (some ⟨W.heap.size,0,Option.none⟩) 4=some [hsv,rv,vi N.rw,vi N.rf]:=zah hA rfl
 refine rc trivial (zkk w1) ?_
 rintro _ w2 ⟨rfl,hE2⟩
 refine rgo trivial ?_
 have hE12:=hE1.trans hE2
 have dN2:=zad hE2 dN
 refine zay (Q:=fun e σ' ds' v'=>e= .normal∧ds'=[]∧(σ' 3= .pointer (some ⟨W.heap.size,0,Option.none⟩)∧σ' 1=qv∧σ' 2=vi t)∧Ext w2 v'∧∃bb,σ' 24= .bool bb∧(bb=false→za3 N∧zbL q=true)) ?_ ?_
 ·refine rcg [(3,20)] dN2 (zkj w2 (hN0.ext hE12) hv) ?_
  rintro _ w4 ⟨hE4,b,rfl,hb⟩
  cases b with
  |false=>
   refine reg [(3,20)] trivial ?_
   exact⟨rfl,rfl,sc trivial,hE4,_,vr0,fun h=>by cases h⟩
  |true=>
   refine rdg [(3,20)] trivial (zg6 w4 qv q (hq.ext (hE12.trans hE4))) ?_
   rintro _ w7 ⟨rfl,hE7⟩
   refine reg [(3,20)] trivial ?_
   exact⟨rfl,rfl,sc trivial,hE4.trans hE7,_,vr0,fun h=>⟨hb rfl,by simpa using h⟩⟩
 rintro _ σ1 _ w4 ⟨rfl,rfl,s,hE4,bb,s24,hbb⟩
 have hE14:=hE12.trans hE4
 cases bb with
 |true=>
  refine go s24 ?_
  refine rt0 Tryz.ntmps10 ?_
  exact⟨rfl,hE14⟩
 |false=>
 obtain⟨hG,hgq⟩:=hbb rfl
 have mq:=(zb0 hgq).m
 have dN4:=zad hE4 dN2
 refine go s24 ?_
 refine rc (an2 s dN4) (zfW (t:=t) hE14 hN0 hG (hq.ext hE14) hgq) ?_
 rintro _ w5 ⟨hE5,ev,rfl,hv5⟩
 refine rgo s ?_
 have hE15:=hE14.trans hE5
 have dN5:=zad hE5 dN4
 refine zay (Q:=fun e σ' ds' v'=>e= .normal∧ds'=[]∧Ext w5 v'∧∃fv,(σ' 7=ev∧σ' 8=vi (numR N q t)∧σ' 9=vi (errR N q t)∧σ' 10=fv∧σ' 11=vi (numR N q t)∧σ' 12=vi (errR N q t))∧Rows 2 (EndAt v') v' fv (zdK N q t)) ?_ ?_
 ·refine zaJ (fun _=>false) [(0,true),(1,true),(3,true),(2,false),(4,false),(5,true),(6,true),(7,true),(8,true),(9,true),(10,true),(11,true)] NoS mixed (by kernel_rfl) ?_;intro gd K x hgd hx hxe hK;clear hxe
  have dNx:=zad hx dN5
  simp (disch:=first|omega|assumption|rfl) only[go_sem,s,dNx]
  refine Fn.mono (ziQ x qv q (hq.ext (hE15.trans hx)) mq.LB (by have:=mq.len;omega)) ?_
  rintro fv y ⟨hfv,hy⟩
  refine⟨.inr hy,?_⟩
  simp (disch:=first|omega|assumption|rfl) only[go_sem,s,zad hy dNx]
  refine Fn.mono (zfW (t:=t) (hE15.trans (hx.trans hy)) hN0 hG hfv (zls hgq)) ?_
  rintro _ z ⟨hz,fv2,rfl,hv6⟩
  obtain⟨e1,e2,e3⟩:=zl0 (N:=N) (q:=q) (t:=t)
  rw[e1]at hv6
  rw[e2,e3]
  refine⟨.inr hz,?_⟩
  simp (disch:=first|omega|assumption|rfl) only[go_sem]
  refine hK _ _ ?_;clear hK hgd;clear K;try clear gd
  exact⟨rfl,rfl,hx.trans (hy.trans hz),fv2,sc s,hv6⟩
 clear s
 rintro _ σ2 _ w6 ⟨rfl,rfl,hE6,fv,s,hv6⟩
 have hE16:=hE15.trans hE6
 have hv5':=Rows.extC (fun _ _ h=>EndAt.ext h hE6) hv5 hE6
 obtain⟨a,c,rfl,hg⟩:=zhS hv5'
 obtain⟨b,d,rfl,hg'⟩:=zhS hv6
 have hsh:=fun h=>zj1 (t:=t) hG hgq h
 have hee:=fun h=>errR_err (N:=N) (q:=q) (t:=t) h
 have hl9:=zlF N q t
 have herr:errR N q t=0∨errR N q t=11:=by unfold errR;split<;>simp
 obtain⟨E,hE⟩:∃E,zdK N q t=E:=⟨_,rfl⟩
 obtain⟨n,hn⟩:∃n,numR N q t=n:=⟨_,rfl⟩
 obtain⟨e,he⟩:∃e,errR N q t=e:=⟨_,rfl⟩
 rw[hE,he]at hsh hee
 rw[hE]at hg hg' hl9 s
 rw[he]at herr
 rw[hn,he]at s
 clear hv5 hv5' hv6
 have hkind:∀i (h:i+1<E.length),E[i].1<E[i+1].1:=fun i h=>by
  have h2:=(hsh (hee (List.length_pos_iff.1 (by omega)))).2
  subst h2
  exact ends_up h
 have hpick:∀i (h:i<E.length),E[i].2≠ []∧E[i].2.length≤4098:=fun i h=>by
  obtain⟨h1,h2⟩:=hsh (hee (List.length_pos_iff.1 (by omega)))
  obtain⟨_,_,_,_,h3,_,h4⟩:=h1.played (e:=E[i]) (by rw[←h2];exact List.getElem_mem h)
  exact⟨h3,h4⟩
 have d0:∀x:Int,decide (x=x)=true:=fun x=>decide_eq_true rfl
 refine go trivial ?_
 refine rgg [(3,45),(8,50)] (an2 s d0) ?_
 refine go s ?_
 refine zay (Q:=fun e' σ' ds' v'=>e'= .exit 0∧ds'=[]∧(σ' 7= .slice a E.length c∧σ' 9=vi e)∧Ext w6 v') ?_ ?_
 ·refine zg2 E.length (fun i σ v=>(σ 13=vi i∧σ 7= .slice a E.length c∧σ 10= .slice b E.length d∧σ 9=vi e)∧Ext w6 v) ?_ ?_ ?_
  ·exact⟨⟨vr0,(vq1 s),(vq1 s),(vq1 s)⟩,Keep.refl _ _⟩
  ·rintro i σ v hi p ⟨s,hE6v⟩
   obtain⟨xa,u,u1,ap,cp,rfl,hu,hu0,hu1,g0,g1,_,hgp⟩:=hg i hi
   obtain⟨xb,y,y1,bp,dp,rfl,hy,hy0,hy1,k0,k1,_,hkp⟩:=hg' i hi
   have hp0:decide (((E[i].2.length:Nat):Int)=0)=false:=decide_eq_false (by have:=List.length_pos_iff.2 (hpick i hi).1;omega)
   have hp4:=(hpick i hi).2
   refine go (an2 s p) ?_
   refine zay (Q:=fun e' σ' ds' v'=>e'= .normal∧ds'=[]∧(σ' 13=vi i∧σ' 7= .slice (some xa) E.length c∧σ' 10= .slice (some xb) E.length d∧σ' 9=vi e)∧Ext v v'∧σ' 115= .bool false) ?_ ?_
   ·refine zaJ (fun _=>false) [(0,true),(1,true),(2,true),(3,true),(4,true),(5,true),(6,true),(7,true),(8,true),(9,true),(10,true),(11,true),(12,true),(13,true),(14,true),(15,true),(16,true),(17,true),(18,true),(19,true),(20,true),(21,true),(22,true),(23,true),(24,true),(25,true),(26,true),(27,true),(28,true),(29,true),(30,true),(31,true),(32,true),(33,true),(34,true),(35,true),(36,true),(37,true),(38,true),(39,true),(40,true),(41,true),(42,true),(43,true),(44,true),(45,true),(46,true),(47,true),(48,true),(49,true),(50,true),(51,true),(52,true)] NoS mixed (by kernel_rfl) ?_;intro gd K x hgd hx hxe hK;clear hxe
    have hg11:∀n σ b,zav gd n σ (some (11,b))=zak (ev n σ (.tmp 74)) b:=(fun n σ b=>by rw[zac,show gd 11=some 74 from(by rw[hgd];rfl)];rfl);have hg26:∀n σ b,zav gd n σ (some (26,b))=zak (ev n σ (.tmp 89)) b:=(fun n σ b=>by rw[zac,show gd 26=some 89 from(by rw[hgd];rfl)];rfl);have hg35:∀n σ b,zav gd n σ (some (35,b))=zak (ev n σ (.tmp 98)) b:=(fun n σ b=>by rw[zac,show gd 35=some 98 from(by rw[hgd];rfl)];rfl);have hg38:∀n σ b,zav gd n σ (some (38,b))=zak (ev n σ (.tmp 101)) b:=(fun n σ b=>by rw[zac,show gd 38=some 101 from(by rw[hgd];rfl)];rfl)
    have e0:=zaa (hE6v.trans hx) g0
    have e1:=zaa (hE6v.trans hx) g1
    have f0:=zaa (hE6v.trans hx) k0
    have f1:=zaa (hE6v.trans hx) k1
    cases i with
    |zero=>
     have h00:decide (((0:Nat):Int)>0)=false:=rfl
     simp (disch:=first|omega|assumption|rfl) only[go_sem,s,p,hu,hy,hu0,hy0,hu1,hy1,e0,e1,f0,f1,d0,hp0,h00,zcx,↓hg11,↓hg26,↓hg35,↓hg38]
     refine hK _ _ ?_;clear hK hgd;clear K;try clear gd
     exact⟨rfl,rfl,sc s,hx,vr0⟩
    |succ j=>
     obtain⟨xa',u',u1',_,_,ea,hu',hu0',_,g0',_⟩:=hg j (by omega)
     cases ea
     have e0':=zaa (hE6v.trans hx) g0'
     have h00:decide (((j+1:Nat):Int)>0)=true:=decide_eq_true (by omega)
     have hsub:((j+1:Nat):Int) - 1=(j:Int):=by omega
     have hj0:(0:Int)≤(j:Int):=by omega
     have hj1:(j:Int)<(E.length:Int):=by omega
     have hge:decide (E[j].1≥E[j+1].1)=false:=decide_eq_false (by have:=hkind j hi;omega)
     simp (disch:=first|omega|assumption|rfl) only[go_sem,s,p,hu,hy,hu0,hy0,hu1,hy1,e0,e1,f0,f1,d0,hp0,h00,hsub,hj0,hj1,hu',hu0',e0',hge,zcx,↓hg11,↓hg26,↓hg35,↓hg38]
     refine hK _ _ ?_;clear hK hgd;clear K;try clear gd
     exact⟨rfl,rfl,sc s,hx,vr0⟩
   clear s
   rintro _ σ1 _ v1 ⟨rfl,rfl,s,hvv1,s115⟩
   refine go (an2 s s115) ?_
   have hE6v1:=hE6v.trans hvv1
   refine zay (Q:=fun e' σ' ds' v'=>e'= .exit 2∧ds'=[]∧(σ' 13=vi i∧σ' 7= .slice (some xa) E.length c∧σ' 10= .slice (some xb) E.length d∧σ' 9=vi e)∧Ext w6 v') ?_ ?_
   ·refine zg2 E[i].2.length (fun j σ v=>(σ 14=vi j∧σ 13=vi i∧σ 7= .slice (some xa) E.length c∧σ 10= .slice (some xb) E.length d∧σ 9=vi e)∧Ext w6 v) ?_ ?_ ?_
    ·exact⟨⟨vr0,(vq1 s),(vq1 s),(vq1 s),(vq1 s)⟩,hE6v1⟩
    ·clear s
     rintro j σ v hj r ⟨s,hE6v2⟩
     obtain⟨xp,rfl,m0⟩:=hgp j hj
     obtain⟨yp,rfl,n0⟩:=hkp j hj
     refine go (an6 s p r hu hu1 (zaa hE6v2 g1)) ?_
     refine zay (Q:=fun e' σ' ds' v'=>e'= .normal∧ds'=[]∧(σ' 14=vi j∧σ' 13=vi i∧σ' 7= .slice (some xa) E.length c∧σ' 10= .slice (some xb) E.length d∧σ' 9=vi e)∧Ext v v'∧σ' 142= .bool false) ?_ ?_
     ·refine zaJ (fun _=>false) [(0,true),(1,true),(2,true),(3,true),(4,true),(5,true),(6,true),(7,true),(8,true),(9,true),(10,true),(11,true),(12,true),(13,true),(14,true),(15,true),(16,true)] NoS mixed (by kernel_rfl) ?_;intro gd K x hgd hx hxe hK;clear hxe
      have hEx:=hE6v2.trans hx
      have e1:=zaa hEx g1
      have f1:=zaa hEx k1
      have m1:=zaa hEx m0
      have n1:=zaa hEx n0
      simp (disch:=first|omega|assumption|rfl) only[go_sem,s,p,r,hu,hy,hu1,hy1,e1,f1,m1,n1,d0]
      refine hK _ _ ?_;clear hK hgd;clear K;try clear gd
      exact⟨rfl,rfl,sc s,hx,vr0⟩
     clear s
     rintro _ σ3 _ v3 ⟨rfl,rfl,s,hv3,s142⟩
     refine go (an3 s r s142) ?_
     exact⟨rfl,sc (an2 s r),hE6v2.trans hv3⟩
    ·clear s
     rintro σ v r ⟨s,hE6v2⟩
     refine go (an6 s p r hu hu1 (zaa hE6v2 g1)) ?_
     exact⟨rfl,rfl,sc s,hE6v2⟩
   clear s
   rintro _ σ3 _ v3 ⟨rfl,rfl,s,hE63⟩
   refine go (an2 s p) ?_
   exact⟨rfl,sc (an2 s p),hE63⟩
  ·rintro σ v p ⟨s,hE6v⟩
   refine go (an2 s p) ?_
   exact⟨rfl,rfl,sc s,hE6v⟩
 clear s
 rintro _ σ3 _ w7 ⟨rfl,rfl,s,hE7⟩
 rcases herr with rfl|rfl
 ·obtain⟨h1,h2⟩:=hsh rfl
  have h3:=h1.ends_ne hG
  rw[←h2]at h3
  have hgt:decide (((E.length:Nat):Int)>0)=true:=decide_eq_true (by have:=List.length_pos_iff.2 h3;omega)
  refine go trivial ?_
  refine rgg [(2,145)] (an3 s d0 hgt) ?_
  refine go trivial ?_
  refine rt0 Tryz.ntmps10 ?_
  exact⟨rfl,hE16.trans hE7⟩
 ·have h11:decide ((11:Int)=0)=false:=rfl
  refine go trivial ?_
  refine rgg [(2,145)] (an2 s h11) ?_
  refine go trivial ?_
  refine rt0 Tryz.ntmps10 ?_
  exact⟨rfl,hE16.trans hE7⟩
end Go.Proofs.YtahbdamijngmmaaGreat
namespace Go.Proofs.YtahbdamijngmmaaGreat.runFolds
open Go Go.Proofs.YtahbdamijngmmaaGreat
theorem j1:(Rows.runFoldsRow.inPlace==Tryz.pinned.checked.prog.inPlace 10)=true:=by kernel_rfl
theorem j2:(Rows.runFoldsRow.unfollowed==Tryz.pinned.checked.prog.unfollowed 10)=true:=by kernel_rfl
theorem j3:(Rows.runFoldsRow.recurses==Tryz.pinned.checked.prog.recurses 10)=true:=by kernel_rfl
theorem j4:(Rows.runFoldsRow.named==Tryz.pinned.checked.prog.varsNamed 10)=true:=by kernel_rfl
theorem j5:(Tryz.pinned.checked.prog.mayEnter)=true:=by kernel_rfl
theorem j6:(Rows.runFoldsRow.lifted==Tryz.pinned.checked.prog.liftsFinal)=true:=by kernel_rfl
theorem joined:joinedFacts Tryz.pinned.checked.prog 10 Tryz.f10 Rows.runFoldsSpec Rows.runFoldsRow=true:=by
 unfold joinedFacts
 rw[j1,j2,j3,j4,j5,j6]
 kernel_rfl
end Go.Proofs.YtahbdamijngmmaaGreat.runFolds
namespace Go.Proofs.YtahbdamijngmmaaGreat
open Go
set_option maxRecDepth 100000
theorem zkB{w:World}{α:Type}{k:Nat}{C:List Value→α→Prop}{Q:α→Prop}{v:Value}{L:List (List Value)}(hL:RowK k w v L)(h:∀cs∈L,∃a,C cs a∧Q a):∃R:List α,Rows k C w v R∧∀a∈R,Q a:=by
 have:∀L:List (List Value),(∀cs∈L,∃a,C cs a∧Q a)→∃R:List α,L.length=R.length∧(∀i (h:i<L.length) (h':i<R.length),C L[i] R[i])∧∀a∈R,Q a:=fun L=>by
  induction L with
  |nil=>intro _;exact⟨[],rfl,fun i h=>by simp at h,fun r h=>by cases h⟩
  |cons cs L ih=>
   intro h
   obtain⟨r,h1,h2⟩:=h cs (List.mem_cons_self ..)
   obtain⟨R,a1,a2,a3⟩:=ih (fun x hx=>h x (List.mem_cons_of_mem _ hx))
   refine⟨r::R,by simp[a1],fun i a b=>?_,fun x hx=>?_⟩
   ·cases i with
    |zero=>exact h1
    |succ i=>exact a2 i (by simpa using a) (by simpa using b)
   ·rcases List.mem_cons.1 hx with rfl|hx
    ·exact h2
    ·exact a3 x hx
 obtain⟨R,a1,a2,a3⟩:=this L h
 exact⟨R,⟨L,hL,a1,a2⟩,a3⟩
section
variable {H : Type} {enc : TypeId × Value → H} {w : World} {base : Nat} {sp : Nat → Bool} {held : Bool}
theorem zgz{P:Program}{t:TypeId}{n:Nat}{c:Value}{x:DataW H×List MemPlace}(ht:P.underlying t=some (.int .u8))(h:DataW.trod enc P w base sp held n t [c]=some x):∃b:UInt8,c=zaf b:=by
 obtain⟨m,h1,_,h2⟩:=DataW.trod_int ht h
 have hb:=wf_u8 h2
 obtain⟨k,rfl⟩:∃k:Nat,m=(k:Int):=⟨m.toNat,by omega⟩
 exact⟨UInt8.ofNat k,by rw[List.head_eq_of_cons_eq h1,zeg (by omega)]⟩
theorem rd_addr{t e:TypeId}{c0 c1 c2 c3:Value}{P:Program}(h:RdC enc P w base sp held t [c0,c1,c2,c3])(ht:P.underlying t=some (.array 4 e))(hc:P.cellsOf e=1)(he:P.underlying e=some (.int .u8)):
  ∃a b c d:UInt8,c0=zaf a∧c1=zaf b∧c2=zaf c∧c3=zaf d:=by
 obtain⟨n,x,h,_⟩:=h
 obtain⟨_,_,_,_,_,_,h0,h1,h2,h3⟩:=Go.ChangeShapes.trod_array4 ht hc h
 obtain⟨a,ha⟩:=zgz he h0
 obtain⟨b,hb⟩:=zgz he h1
 obtain⟨c,hc⟩:=zgz he h2
 obtain⟨d,hd⟩:=zgz he h3
 exact⟨a,b,c,d,ha,hb,hc,hd⟩
theorem rd_zone{cs:List Value}(h:RdC enc Tryz.prog w base sp held 122 cs):∃z:zco,ZoneC w cs z∧NumR z.recs:=by
 obtain⟨hl,hf⟩:=zdZ h rfl
 have hl2:cs.length=2:=hl
 match cs,hl2 with
 | [c0,c1],_=>
  obtain⟨o,n0,_⟩:=zer (P:=Tryz.prog) (RdC.one (hf 0 _ rfl)) (e:=9) rfl rfl rfl rfl
  obtain⟨R,h1,h2⟩:=rd_recs (RdC.one (hf 1 _ rfl))
  exact⟨⟨o,R⟩,⟨c0,c1,rfl,n0,h1⟩,h2⟩
theorem rd_host{cs:List Value}(h:RdC enc Tryz.prog w base sp held 116 cs):∃z:zeA,HostC w cs z∧∀x∈z.zones,NumR x.recs:=by
 obtain⟨hl,hf⟩:=zdZ h rfl
 have hl6:cs.length=6:=hl
 match cs,hl6 with
 | [c0,c1,c2,c3,c4,c5],_=>
  obtain⟨o,n0,_⟩:=zer (P:=Tryz.prog) (RdC.one (hf 0 _ rfl)) (e:=9) rfl rfl rfl rfl
  have h1:RdC enc Tryz.prog w base sp held 113 [c1,c2,c3,c4]:=hf 1 _ rfl
  obtain⟨a,b,c,d,rfl,rfl,rfl,rfl⟩:=rd_addr h1 rfl rfl (e:=5) rfl
  have h5:RdC enc Tryz.prog w base sp held 114 [c5]:=hf 2 _ rfl
  obtain⟨L,hL,hall,_⟩:=zfn (RdC.one h5) (e:=122) (k:=2) rfl rfl
  obtain⟨R,r1,r2⟩:=zkB hL (fun cs hcs=>rd_zone (hall cs hcs))
  exact⟨⟨o,[a,b,c,d],R⟩,⟨c0,a,b,c,d,c5,rfl,rfl,n0,r1⟩,r2⟩
theorem rd_net{cs:List Value}(h:RdC enc Tryz.prog w base sp held 25 cs):∃N:NetL,NetAt w cs N∧NumN N:=by
 obtain⟨hl,hf⟩:=zdZ h rfl
 have hl4:cs.length=4:=hl
 match cs,hl4 with
 | [c0,c1,c2,c3],_=>
  obtain⟨L,hL,hall,_⟩:=zfn (RdC.one (hf 0 _ rfl)) (e:=116) (k:=6) rfl rfl
  obtain⟨R,r1,r2⟩:=zkB hL (fun cs hcs=>rd_host (hall cs hcs))
  obtain⟨roots,n2,_⟩:=zir (RdC.one (hf 1 _ rfl)) (e:=3) (k:= .i64) rfl rfl rfl
  obtain⟨a,e2,_⟩:=zhk (hf 2 _ rfl) (k:= .i64) rfl
  obtain⟨b,e3,_⟩:=zhk (hf 3 _ rfl) (k:= .i64) rfl
  have e2':c2=vi a:=List.head_eq_of_cons_eq (show [c2]=[vi a] from e2)
  have e3':c3=vi b:=List.head_eq_of_cons_eq (show [c3]=[vi b] from e3)
  exact⟨⟨R,roots,a,b⟩,⟨c0,c1,by rw[e2',e3'],r1,n2⟩,r2⟩
end
theorem ziq{H:Type}{enc:TypeId×Value→H}{P:Program}{w:World}{base:Nat}{sp:Nat→Bool}{held:Bool}{t:TypeId}{cs:Array Value}{d:DataW H}{p:List MemPlace}{ts:List TypeId}{ds:List (DataW H)}(h:DataW.Trod enc P w base sp held t (.agg cs) d p)
  (hw:∀x∈DataW.weightsEach P ts ds,x≤reachBytes) {j:Nat} (ht:ts[j]? =some t) (hd:ds[j]? =some d):RdC enc P w base sp held t cs.toList:=by
 obtain⟨n,h⟩:=h
 exact⟨n,_,h,fun k hk=>hw k (DataW.weights_mem_each ht hd k hk)⟩
end Go.Proofs.YtahbdamijngmmaaGreat
namespace Go.Proofs.YtahbdamijngmmaaGreat.runFolds
open Go Go.Proofs.YtahbdamijngmmaaGreat Go.ChangeShapes Go.WideShapes Go.ChangeAt Go.RowKit
theorem own:ownKnob Tryz.prog.godebug=none:=by kernel_rfl
set_option maxRecDepth 100000 in
theorem lifted(os:Os)(started:os.Started)(H:Type)(enc:TypeId×Value→H):
  ReturnsInHanded {} Tryz.checked os 10 .any (Rows.runFoldsSpec.pre6 enc Tryz.prog Tryz.f10 Rows.runFoldsRow.domain false) (Rows.runFoldsSpec.post enc Tryz.prog Tryz.f10 false true false false):=by
 refine law_lift (C:=Tryz.checked) own started (by kernel_rfl) Tryz.func10
  (ChangeSpec.witness6 (enc:=enc) (C:=Tryz.checked) false ⟨#[],#[.agg #[.slice Option.none 0 0,.slice Option.none 0 0,.int .i64 0,.int .i64 0],.slice Option.none 0 0,.int .i64 0],[]⟩ 8 (by kernel_rfl) (by kernel_rfl) (by kernel_rfl) (by kernel_rfl)) rfl ?_ (tb:=4) rfl rfl (by kernel_rfl) (by kernel_rfl) ?_
 ·intro ds hds
  match ds,hds with
  | [d0,d1,d2],_=>rfl
 ·intro W base args ds p hval hA0 hw0
  have hA:DataW.TrodAll enc Tryz.prog W 0 (fun _=>true) true [25,27,3] args ds p:=hA0
  have hw:∀x∈DataW.weightsEach Tryz.prog [25,27,3] ds,x≤reachBytes:=hw0
  obtain⟨v0,vs0,d0,ds0,p0,q0,rfl,rfl,rfl,h0,r0⟩:=trodAll_cons hA
  obtain⟨v1,vs1,d1,ds1,p1,q1,rfl,rfl,rfl,h1,r1⟩:=trodAll_cons r0
  obtain⟨v2,vs2,d2,ds2,p2,q2,rfl,rfl,rfl,h2,r2⟩:=trodAll_cons r1
  obtain⟨rfl,rfl,rfl⟩:=trodAll_nil r2
  obtain⟨a0,rfl,_⟩:=okWide_struct rfl (hval 0 _ _ rfl rfl)
  obtain⟨x0,f0,g0⟩:=rd_net (ziq h0 hw (j:=0) rfl rfl)
  obtain⟨a1,n1,c1,rfl⟩:=okWide_slice (e:=9) rfl (hval 1 _ _ rfl rfl)
  obtain⟨x1,f1,g1⟩:=zer (P:=Tryz.prog) (zjH h1 rfl hw (j:=1) rfl rfl) (e:=9) rfl rfl rfl rfl
  obtain⟨x2,rfl,_,_,f2⟩:=open_int (k:= .i64) rfl (hval 2 _ _ rfl rfl) h2
  exact ziL W f0 g0 f1 g1
theorem over:Rows.runFoldsRow.holds Tryz.pinned (OpenSpec.ofChange Rows.runFoldsSpec):=
 OpenClaim.holds_of_wide 10 Tryz.f10 rfl rfl rfl rfl rfl rfl rfl ⟨rfl,rfl,rfl,rfl,rfl⟩ rfl rfl rfl rfl rfl (by kernel_rfl) Tryz.func10 joined
  (of_decide_eq_true (by kernel_rfl)) (by unfold Func.isWrapper;first| (rw[if_pos (by decide+kernel)];kernel_rfl)| (rw[if_neg (by decide+kernel)];exact⟨rfl,rfl⟩))
  (fun os started H enc _=>lifted os started H enc)
theorem proved:Rows.RunFoldsSaid:=over
end Go.Proofs.YtahbdamijngmmaaGreat.runFolds
