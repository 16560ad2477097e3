/-
  Texts of a proof, joined: OB, OE, OF, OG, YRW, KR3, ZRW.
  Conditions: none.
-/
import Derived.Test.YtahbdamijngmmaaGreatJRW12
import Derived.Test.YtahbdamijngmmaaGreatJRW16
import Derived.Test.YtahbdamijngmmaaGreatJRW17
import Derived.Test.YtahbdamijngmmaaGreatJRW09
import Derived.Test.YtahbdamijngmmaaGreatJRW13
import Derived.Test.YtahbdamijngmmaaGreatRows
import Derived.JoinedOf
import Derived.Laws.IdiomArrays
import Derived.Test.YtahbdamijngmmaaGreatJRW11
import Derived.Test.YtahbdamijngmmaaGreatJRW10
set_option linter.unusedVariables false
set_option linter.unusedSimpArgs false
set_option linter.defProp false
set_option linter.unnecessarySimpa false
set_option maxHeartbeats 8000000
namespace Go.Proofs.YtahbdamijngmmaaGreat
open Go
set_option maxRecDepth 10000
theorem zjF:zcR smallN kX 1=[(kA0,[0]),(kA1,[0,0]),(kA2,[0,0,0])]:=by kernel_rfl
theorem zjG:zeP [(kA0,[0]),(kA1,[0,0]),(kA2,[0,0,0])]=[(1,[0,0,0])]:=by kernel_rfl
theorem small_p1:zgC smallN kX 1 [0,0,0]=(kA2,true):=by kernel_rfl
theorem small_p2:zgC smallN kX 1 [0,1]=(stZ,false):=by kernel_rfl
theorem small_p3:zgC smallN kX 1 []=(stZ,false):=by kernel_rfl
theorem zgN:zbW kX=true:=by kernel_rfl
theorem zkZ(l:List Int):∀v∈l.map vi,v.cells=#[v]:=fun v h=>by obtain⟨x,_,rfl⟩:=List.mem_map.1 h;rfl
theorem zkk(w:World):Fn Tryz.prog 33 #[] w (fun v w'=>v= .bool true∧Ext w w'):=by
 refine enter Tryz.func33 Tryz.ntmps33 rfl rfl ?_
 refine go trivial ?_
 refine rq ?_;intro gd K hgd hK
 try simp only[go_sem]
 refine Fn.mono (Small_ok w) ?_
 rintro _ w1 ⟨hE1,cs,rfl,hN⟩
 obtain⟨hv,rv,rfl,hh,hr⟩:=id hN.ex
 have hh1:=hh.isOne
 have hr1:=hr.isOne
 try simp only[go_sem]
 refine za2 (P:=Tryz.prog) (l:=[hv,rv,vi smallN.rw,vi smallN.rf]) rfl (fun v h=>by simp at h;rcases h with rfl|rfl|rfl|rfl<;>first|assumption|rfl) rfl rfl ?_
 intro w2 hE2 hs2 hB
 try simp only[go_sem]
 refine hK _ _ ?_;clear hK hgd;clear K;try clear gd
 have dN:zas w2 (some ⟨w1.heap.size,0,Option.none⟩) 4=some [hv,rv,vi smallN.rw,vi smallN.rf]:=zah hB rfl
 refine go trivial ?_
 refine rq ?_;intro gd K hgd hK
 try simp only[go_sem]
 refine zbC (z:=vs []) (l:=[vs [120],vs [111]]) rfl rfl rfl rfl rfl rfl (fun v hv=>by simp at hv;rcases hv with rfl|rfl<;>rfl) (by simp) ?_
 intro w3 hE3 hs3 o3
 have r3:Row w3 (.slice (some ⟨w2.heap.size,0,Option.none⟩) 2 2) (kX.map vs):=o3.row
 try simp only[go_sem]
 refine hK _ _ ?_;clear hK hgd;clear K;try clear gd
 refine go trivial ?_
 have hE13:=hE2.trans hE3
 have hP:=zgr (t:=1) hE13 hN zdf r3 zgN
 simp only[zjF,zjG]at hP
 refine rc (zad hE3 dN) hP ?_
 rintro _ w4 ⟨hE4,(⟨hc,_⟩| ⟨hc,ev,rfl,hrows⟩)⟩
 ·exact absurd hc (by decide)
 obtain⟨ae,ce,rfl,hce,hge⟩:=id hrows.open
 rw[show ([((1:Int),[(0:Int),0,0])]:List (Int×List Int)).length=1 from rfl]
 obtain⟨ec,hec,hEn⟩:=hge 0 (by simp)
 obtain⟨pv,rfl,hpv⟩:=hEn.ex
 obtain⟨ap,cp,rfl,_⟩:=id hpv
 replace hec:zas w4 (adr ae (0*2)) 2=some [vi 1,.slice ap 3 cp]:=hec
 obtain⟨xe,rfl⟩:=Option.isSome_iff_exists.1 (zaq hec)
 rw[Nat.zero_mul,zaA]at hec
 obtain⟨x1,hx1⟩:∃x,adr (some xe) 1=some x:=⟨_,rfl⟩
 have g0:=zax (j:=0) hec rfl
 have g1:=zax (j:=1) hec rfl
 rw[hx1]at g1
 rw[zaA]at g0
 refine rgo trivial ?_
 have hE14:=hE13.trans hE4
 have dN4:=zad (hE3.trans hE4) dN
 refine rq ?_;intro gd K hgd hK
 try simp (disch:=first|omega|assumption|rfl) only[go_sem,dN4]
 refine zbC (z:=vi 0) (l:=[vi 0,vi 0,vi 0]) rfl rfl rfl rfl rfl rfl (zkZ [0,0,0]) (by simp) ?_
 intro w5 hE5 hs5 o5
 try simp only[go_sem]
 have hP:=zfR (t:=1) (ch:=[0,0,0]) (hE14.trans hE5) hN zdf (r3.ext (hE4.trans hE5)) zgN o5.row (by decide)
 rw[small_p1]at hP
 refine Fn.mono hP ?_
 rintro _ w6 ⟨hE6,n6,rfl,hn6⟩
 try simp only[go_sem]
 refine za2 (P:=Tryz.prog) (l:=stV n6 kA2) rfl (zbZ hn6.isOne) rfl rfl ?_
 intro w7 hE7 hs7 hB7
 try simp only[go_sem]
 refine hK _ _ ?_;clear hK hgd;clear K;try clear gd
 refine go trivial ?_
 have hE47:=hE5.trans (hE6.trans hE7)
 have dN7:=zad hE47 dN4
 refine rq ?_;intro gd K hgd hK
 try simp (disch:=first|omega|assumption|rfl) only[go_sem,dN7]
 refine zbC (z:=vi 0) (l:=[vi 0,vi 1]) rfl rfl rfl rfl rfl rfl (zkZ [0,1]) (by simp) ?_
 intro w8 hE8 hs8 o8
 try simp only[go_sem]
 have hP:=zfR (t:=1) (ch:=[0,1]) ((hE14.trans hE47).trans hE8) hN zdf (r3.ext ((hE4.trans hE47).trans hE8)) zgN o8.row (by decide)
 rw[small_p2]at hP
 refine Fn.mono hP ?_
 rintro _ w9 ⟨hE9,n9,rfl,hn9⟩
 try simp only[go_sem]
 refine za2 (P:=Tryz.prog) (l:=stV n9 stZ) rfl (zbZ hn9.isOne) rfl rfl ?_
 intro w10 hE10 hs10 hB10
 try simp only[go_sem]
 refine hK _ _ ?_;clear hK hgd;clear K;try clear gd
 refine go trivial ?_
 have hE710:=hE8.trans (hE9.trans hE10)
 have dN10:=zad hE710 dN7
 have hE110:=(hE14.trans hE47).trans hE710
 have hP:=zfR (t:=1) (ch:=[]) (cv:= .slice Option.none 0 0) hE110 hN zdf (r3.ext ((hE4.trans hE47).trans hE710)) zgN ⟨Option.none,0,rfl,Nat.le_refl _,fun j h=>by simp at h⟩ (by decide)
 rw[small_p3]at hP
 refine rq ?_;intro gd K hgd hK
 try simp (disch:=first|omega|assumption|rfl) only[go_sem,dN10]
 refine Fn.mono hP ?_
 rintro _ w11 ⟨hE11,n11,rfl,hn11⟩
 try simp only[go_sem]
 refine za2 (P:=Tryz.prog) (l:=stV n11 stZ) rfl (zbZ hn11.isOne) rfl rfl ?_
 intro w12 hE12 hs12 hB12
 try simp only[go_sem]
 refine hK _ _ ?_;clear hK hgd;clear K;try clear gd
 refine go trivial ?_
 have hE412:=hE47.trans (hE710.trans (hE11.trans hE12))
 refine rc trivial (zmg (k:=1) (p:=[0,0,0]) ((Rows.ext hrows hE412).to fun _ _ h=>h.ext hE412)) ?_
 rintro kv w13 ⟨hkv,hE13⟩
 obtain⟨ak,ck,rfl,_,hgk⟩:=hkv
 rw[show [vi 1].length=1 from rfl]
 have gk:=hgk 0 (by simp)
 replace gk:zae w13 (adr ak 0)=some (vi 1):=gk
 obtain⟨xk,rfl⟩:=Option.isSome_iff_exists.1 (zag gk)
 rw[zaA]at gk
 refine rgo trivial ?_
 have g0:=zaa (hE412.trans hE13) g0
 have g1:=zaa (hE412.trans hE13) g1
 have f6:zae w13 (some ⟨w6.heap.size,5,Option.none⟩)=some (vi 1):=zab (i:=5) (Ext.at (hE710.trans (hE11.trans (hE12.trans hE13))) hB7) rfl
 have z0:(0:Int)≤0:=Int.le_refl _
 have z1:(0:Int)<((1:Nat):Int):=by decide
 have o1:decide (((1:Nat):Int)=1)=true:=rfl
 have o3:decide (((3:Nat):Int)=3)=true:=rfl
 have o4:decide (((([(kA0,[0]),(kA1,[0,0]),(kA2,[0,0,0])]:List MetL).length:Nat):Int)=3)=true:=rfl
 have o0:decide ((0:Int)=0)=true:=rfl
 have o2:decide ((1:Int)=1)=true:=rfl
 refine rgg [(2,46),(7,51),(14,58),(22,66),(26,70),(29,73),(34,78),(38,82),(42,86),(47,91)] (an2 (an9 g0 g1 f6 gk hx1 z0 z1 o1 o3) (an9 o0 o2 Int.toNat_zero Nat.zero_mul zaA o4 Nat.add_zero Nat.zero_add Bool.not_false)) ?_
 refine go trivial ?_
 refine rt0 Tryz.ntmps33 ?_
 exact⟨rfl,hE1.trans ((hE14.trans (hE412.trans hE13)))⟩
def zfX(N:NetL)(q:Nm)(t:Int):List (Int×List Int):=if 4096<(zcR N q t).length then [] else zeP (zcR N q t)
def numR(N:NetL)(q:Nm)(t:Int):Nat:=if 4096<(zcR N q t).length then 0 else(zcR N q t).length
def errR(N:NetL)(q:Nm)(t:Int):Int:=if 4096<(zcR N q t).length then 11 else 0
theorem zj1{N:NetL}{q:Nm}{t:Int}(hN:za1 N)(hq:zbW q=true)(h:errR N q t=0):Shut N t q (zcR N q t)∧zfX N q t=zeP (zcR N q t):=by
 unfold errR at h
 unfold zfX
 split at h
 ·cases h
 ·rename_i hl
  rw[if_neg hl]
  exact⟨zly hN hq (by omega),rfl⟩
theorem zlD{N:NetL}{q:Nm}{t:Int}(h:errR N q t≠0):zfX N q t=[]:=by
 unfold errR at h
 unfold zfX
 split at h
 ·rename_i hl;rw[if_pos hl]
 ·exact absurd rfl h
theorem zlE(N:NetL)(q:Nm)(t:Int):(zfX N q t).length≤9:=by
 unfold zfX
 split
 ·simp
 ·exact zlC _
theorem ziT{w0 w:World}(hE0:Ext w0 w){cs:List Value}{N:NetL}{qv:Value}{q:Nm}{t:Int}(hN:NetAt w0 cs N)(hG:za1 N)(hq:Row w qv (q.map vs))(hgq:zbW q=true):
  Fn Tryz.prog 35 #[.agg cs.toArray,qv,vi t] w (fun v w'=>Ext w w'∧∃ev,v= .tuple #[ev,vi (numR N q t),vi (errR N q t)]∧Rows 2 (EndAt w') w' ev (zfX N q t)):=by
 refine Fn.mono (zgr (t:=t) hE0 hN hG hq hgq) ?_
 rintro v x ⟨hE,(⟨h1,rfl⟩| ⟨h1,ev,rfl,h2⟩)⟩
 ·unfold numR errR zfX
  rw[if_pos h1,if_pos h1,if_pos h1]
  exact⟨hE,_,rfl,Rows.nil _ _ _⟩
 ·unfold numR errR zfX
  rw[if_neg (by omega),if_neg (by omega),if_neg (by omega)]
  exact⟨hE,_,rfl,h2⟩
def EndG(w:World)(a:Option Addr)(E:List (Int×List Int)):Prop:=∀i (hi:i<E.length),∃xa x x1 ap cp,a=some xa∧adr (some xa) (i*2)=some x∧adr (some x) 0=some x∧adr (some x) 1=some x1∧zae w (some x)=some (vi E[i].1)∧zae w (some x1)=some (.slice ap E[i].2.length cp)∧
 Row w (.slice ap E[i].2.length cp) (E[i].2.map vi)∧∀j (hj:j<E[i].2.length),∃xp,ap=some xp∧zae w (adr (some xp) j)=some (vi E[i].2[j])
theorem zlB{w:World}{ev:Value}{E:List (Int×List Int)}(h:Rows 2 (EndAt w) w ev E):∃a c,ev= .slice a E.length c∧EndG w a E:=by
 obtain⟨a,c,rfl,_,hg⟩:=h.open
 refine⟨a,c,rfl,fun i hi=>?_⟩
 obtain⟨cs,h1,h2⟩:=hg i hi
 obtain⟨pv,rfl,hp⟩:=h2.ex
 obtain⟨ap,cp,rfl,hcp,hgp⟩:=id hp
 obtain⟨xa,rfl⟩:=Option.isSome_iff_exists.1 (zaq h1)
 obtain⟨x,hx⟩:∃x,adr (some xa) (i*2)=some x:=⟨_,rfl⟩
 rw[hx]at h1
 obtain⟨x1,hx1⟩:∃x1,adr (some x) 1=some x1:=⟨_,rfl⟩
 have g0:=zax (j:=0) h1 rfl
 have g1:=zax (j:=1) h1 rfl
 rw[zaA]at g0
 rw[hx1]at g1
 rw[List.length_map]at g1 hp
 refine⟨xa,x,x1,ap,cp,rfl,hx,zaA _,hx1,g0,g1,hp,fun j hj=>?_⟩
 have g:=hgp j (by rw[List.length_map];exact hj)
 rw[List.getElem_map]at g
 cases ap with
 |none=>simp[adr,zae]at g
 |some xp=>exact⟨xp,rfl,g⟩
instance Tr.ends{a:Option Addr}{E:List (Int×List Int)}:Tr fun w=>EndG w a E:=⟨fun hE h i hi=>by
 obtain⟨xa,x,x1,ap,cp,e0,e1,e2,e3,g0,g1,hr,hg⟩:=h i hi
 exact⟨xa,x,x1,ap,cp,e0,e1,e2,e3,zaa hE g0,zaa hE g1,hr.ext hE,fun j hj=>by
  obtain⟨xp,e,g⟩:=hg j hj
  exact⟨xp,e,zaa hE g⟩⟩⟩
theorem rem_nn{P:Program}{t:TypeId}{a b:Nat}(h:0<b):binV P .rem t (.int .i64 (a:Int)) (.int .i64 (b:Int))=some (.int .i64 ((a % b:Nat):Int)):=by
 have hb:¬((b:Int)=0):=by omega
 show(if IntKind.i64=IntKind.i64 then(if (b:Int)=0 then Option.none else some (Value.int .i64 ((a:Int).tmod b))) else Option.none)=_
 rw[if_pos rfl,if_neg hb,←Int.ofNat_tmod]
theorem u8_nat{n:Int}(h:(Lit.int .u8 n).wf=true):∃k:Nat,n=(k:Int)∧k≤255:=by
 have:=wf_u8 h
 exact⟨n.toNat,by omega,by omega⟩
theorem row_at{w:World}{v:Value}{kd:IntKind}{ps:List Int}(h:Row w v (ps.map (.int kd))):∃a c,v= .slice a ps.length c∧∀i (hi:i<ps.length),∃x,a=some x∧zae w (adr (some x) i)=some (.int kd ps[i]):=by
 obtain⟨a,c,rfl,_,hg⟩:=h
 refine⟨a,c,by rw[List.length_map],fun i hi=>?_⟩
 have g:=hg i (by rw[List.length_map];exact hi)
 rw[List.getElem_map]at g
 obtain⟨x,rfl⟩:=Option.isSome_iff_exists.1 (zag g)
 exact⟨x,rfl,g⟩
theorem st_keep{w x:World}{b:Nat}{ty:TypeId}{a:Option Addr}{n c:Nat}{s:zak}{nv:Value}{names:Nm}(hb:w.heap[b]? =some (.cells (stV (.slice a n c) s).toArray ty (0,0)))(hr:Row w nv (names.map vs))(hk:Keep (fun i=>i=b) w x):Row x nv (names.map vs):=
 hr.keepV hk fun ad u hs hu hm=>by
  obtain⟨b',of,sp⟩:=ad
  dsimp only at hs
  subst hs
  have hsp:sp=Option.none:=by
   cases sp with
   |none=>rfl
   |some q=>simp[World.cell?,hb]at hu
  subst hsp
  have h2:=za0 hb of
  rw[hu]at h2
  have h3:u∈stV (.slice a n c) s:=List.mem_of_getElem? (i:=of) (by rw[←List.getElem?_toArray];exact h2.symm)
  obtain⟨y,_,rfl⟩:=List.mem_map.1 hm
  unfold stV at h3
  simp[vs]at h3
theorem take_any{α:Type}{p:α→Bool}{l:List α}{i:Nat}(h:i<l.length):(l.take (i+1)).any p=((l.take i).any p||p l[i]):=by
 rw[List.take_succ_eq_append_getElem h,List.any_append]
 simp
theorem zg8(W:World){cs:List Value}{N:NetL}{qv pv:Value}{q:Nm}{t:Int}{ps:List Int}(hN:NetAt W cs N)(hv:NumN N)(hq:Row W qv (q.map vs))(_oq:NmOk q)(hp:Row W pv (ps.map (.int .u8)))(hpw:∀n∈ps,(Lit.int .u8 n).wf=true):
  Fn Tryz.prog 8 #[.agg cs.toArray,qv,vi t,pv] W (fun v w'=>v= .bool true∧Ext W w'):=by
 have hN0:=hN
 obtain⟨hsv,rv,rfl,hh,hr⟩:=hN.ex
 obtain⟨ah,ch,hhv,_⟩:=hh.open
 obtain⟨ar0,cr0,hrv,_⟩:=id hr
 obtain⟨ap,cp,rfl,hgp⟩:=row_at hp
 refine enter Tryz.func8 Tryz.ntmps8 rfl rfl ?_
 repeat refine c_r ?_
 rw[hhv,hrv]
 refine go trivial ?_
 rw[←hhv,←hrv]
 refine zaB ?_
 intro w1 hE1 hs1 hA
 have dN:zas w1 (some ⟨W.heap.size,0,Option.none⟩) 4=some [hsv,rv,vi N.rw,vi N.rf]:=zah hA rfl
 refine rc trivial (zkk w1) ?_
 rintro _ w2 ⟨rfl,hE2⟩
 refine rgo trivial ?_
 have hE12:=hE1.trans hE2
 have dN2:=zad hE2 dN
 refine zay (Q:=fun e σ' ds' v'=>e= .normal∧ds'=[]∧(σ' 4= .pointer (some ⟨W.heap.size,0,Option.none⟩)∧σ' 1=qv∧σ' 2=vi t∧σ' 3= .slice ap ps.length cp)∧Ext w2 v'∧∃bb,σ' 34= .bool bb∧(bb=false→za1 N∧zbW q=true∧ps.length≤40)) ?_ ?_
 ·obtain⟨b4,h4⟩:∃b,decide (((ps.length:Nat):Int)>40)=b:=⟨_,rfl⟩
  refine rcg [(3,25),(8,30)] dN2 (zkj w2 (hN0.ext hE12) hv) ?_
  rintro _ w4 ⟨hE4,b,rfl,hb⟩
  cases b with
  |false=>
   refine reg [(3,25),(8,30)] trivial ?_
   exact⟨rfl,rfl,sc trivial,hE4,_,vr0,fun h=>by cases h⟩
  |true=>
   refine rdg [(3,25),(8,30)] trivial (zhc w4 qv q (hq.ext (hE12.trans hE4))) ?_
   rintro _ w7 ⟨rfl,hE7⟩
   cases hgq:zbW q with
   |false=>
    refine reg [(3,25),(8,30)] trivial ?_
    exact⟨rfl,rfl,sc trivial,hE4.trans hE7,_,vr0,fun h=>by cases h⟩
   |true=>
    refine reg [(3,25),(8,30)] h4 ?_
    exact⟨rfl,rfl,sc trivial,hE4.trans hE7,_,vr0,fun h=>⟨hb rfl,rfl,by have:=of_decide_eq_false (h4.trans h);omega⟩⟩
 rintro _ σ1 _ w4 ⟨rfl,rfl,s,hE4,bb,s24,hbb⟩
 have hE14:=hE12.trans hE4
 cases bb with
 |true=>
  refine go s24 ?_
  refine rt0 Tryz.ntmps8 ?_
  exact⟨rfl,hE14⟩
 |false=>
 obtain⟨hG,hgq,hp40⟩:=hbb rfl
 have dN4:=zad hE4 dN2
 refine go s24 ?_
 refine rc (an2 s dN4) (ziT (t:=t) hE14 hN0 hG (hq.ext hE14) hgq) ?_
 rintro _ w5 ⟨hE5,ev,rfl,hv5⟩
 have hE15:=hE14.trans hE5
 have dN5:=zad hE5 dN4
 obtain⟨a,c,rfl,hg⟩:=zlB hv5
 have herr:errR N q t=0∨errR N q t=11:=by unfold errR;split<;>simp
 have hsh:=fun h=>zj1 (t:=t) hG hgq h
 have hnil:=fun h=>zlD (N:=N) (q:=q) (t:=t) h
 have hl9:=zlE N q t
 obtain⟨E,hE⟩:∃E,zfX N q t=E:=⟨_,rfl⟩
 obtain⟨n,hn⟩:∃n,numR N q t=n:=⟨_,rfl⟩
 obtain⟨e,he⟩:∃e,errR N q t=e:=⟨_,rfl⟩
 rw[hE]at hg hsh hl9 hnil
 rw[he]at herr hsh hnil
 rw[hE,hn,he]
 clear hv5
 have d0:∀x:Int,decide (x=x)=true:=fun x=>decide_eq_true rfl
 rcases herr with rfl|rfl
 rotate_left
 ·have hE0:E=[]:=hnil (by decide)
  have hd:decide (((E.length:Nat):Int)=0)=true:=by rw[hE0];rfl
  refine rgo s ?_
  refine go (an2 hd (show decide ((11:Int)=0)=false from rfl)) ?_
  refine rt0 Tryz.ntmps8 ?_
  exact⟨by rw[hd],hE15⟩
 obtain⟨hS,hee⟩:=hsh rfl
 clear hsh hnil
 refine rgo s ?_
 refine go d0 ?_
 refine zay (Q:=fun e' σ' ds' v'=>e'= .exit 0∧ds'=[]∧(σ' 3= .slice ap ps.length cp∧σ' 9= .slice a E.length c∧σ' 4= .pointer (some ⟨W.heap.size,0,Option.none⟩)∧σ' 2=vi t∧σ' 1=qv)∧Ext w5 v') ?_ ?_
 ·refine zfZ E.length (fun i σ v=>(σ 12=vi i∧σ 3= .slice ap ps.length cp∧σ 9= .slice a E.length c∧σ 4= .pointer (some ⟨W.heap.size,0,Option.none⟩)∧σ 2=vi t∧σ 1=qv)∧Ext w5 v) ?_ ?_ ?_
  ·exact⟨⟨vr0,(vq1 s),vr0,(vq1 s),(vq1 s),(vq1 s)⟩,Keep.refl _ _⟩
  ·clear s
   rintro i σ v hi p ⟨s,hEv⟩
   obtain⟨xa,u,u1,aq,cq,rfl,hu,hu0,hu1,g0,g1,hrq,_⟩:=hg i hi
   obtain⟨S,hpl,hfin,hne0,_,_,hl4⟩:=hS.played (e:=E[i]) (by rw[←hee];exact List.getElem_mem hi)
   have hE9:E[i].2.length≤1000000000:=by omega
   refine go (an2 s p) ?_
   have dNv:=zad hEv dN5
   refine zay (Q:=fun e' σ' ds' v'=>e'= .normal∧ds'=[]∧(σ' 12=vi i∧σ' 3= .slice ap ps.length cp∧σ' 9= .slice (some xa) E.length c∧σ' 4= .pointer (some ⟨W.heap.size,0,Option.none⟩)∧σ' 2=vi t∧σ' 1=qv∧σ' 14= .bool true)∧Ext v v'∧∃b,σ' 13= .pointer (some ⟨b,0,Option.none⟩)∧zae v' (some ⟨b,5,Option.none⟩)=some (vi S.fin)) ?_ ?_
   ·refine zic (fun i=>i==13) (.run [(0,true),(1,true),(2,true),(3,true),(4,true),(5,true),(6,true),(7,true)] (.fork 6 [8,12] (fun i=>if i=8 then(.run [(9,true),(10,true),(11,true),(12,false),(13,false),(14,true)] .fin) else(.run [(8,false),(9,true),(10,true),(11,true),(13,false),(14,true)] .fin)))) NoS mixed (by kernel_rfl) ?_;intro gd K x hgd hx hxe hK;clear hxe
    have dNx:=zad hx dNv
    have e1:=zaa (hEv.trans hx) g1
    simp (disch:=first|omega|assumption|rfl) only[go_sem,s,p,hu,hu1,e1,dNx]
    simp only[zbF,zb4];refine⟨?_,?_⟩
    ·simp (disch:=first|omega|assumption|rfl) only[go_sem]
     have hP:=zfR (t:=t) (hE15.trans (hEv.trans hx)) hN0 hG (hq.ext (hE15.trans (hEv.trans hx))) hgq (hrq.ext (hEv.trans hx)) hE9
     rw[hpl]at hP
     refine Fn.mono hP ?_
     rintro _ y ⟨hy,nv,rfl,hn⟩
     refine⟨.inr hy,?_⟩
     simp (disch:=first|omega|assumption|rfl) only[go_sem]
     refine⟨.inr (Ext.alloc y _),?_⟩
     try simp only[go_sem]
     refine za2 (P:=Tryz.prog) (l:=stV nv S) rfl (zbZ hn.isOne) rfl rfl ?_
     intro z hz hsz hB
     refine⟨.inl rfl,?_⟩
     simp (disch:=first|omega|assumption|rfl) only[go_sem]
     refine hK _ _ ?_;clear hK hgd;clear K;try clear gd
     exact⟨rfl,rfl,sc s,hx.trans (hy.trans hz),_,vr0,zab hB rfl⟩
    ·simp (disch:=first|omega|assumption|rfl) only[go_sem]
     refine⟨.inr (Ext.alloc x _),?_⟩
     obtain⟨z,hz⟩:∃z,x.alloc (.cells #[vi 0,.slice Option.none 0 0,vi 0,vi 0,.bool false,vi 0] 80 (0,0))=z:=⟨_,rfl⟩
     have hEz:Ext x z:=by rw[←hz];exact Ext.alloc _ _
     have hBz:=zao x (.cells #[vi 0,.slice Option.none 0 0,vi 0,vi 0,.bool false,vi 0] 80 (0,0))
     rw[hz]at hBz ⊢
     try simp only[go_sem]
     have hP:=zfR (t:=t) (hE15.trans (hEv.trans (hx.trans hEz))) hN0 hG (hq.ext (hE15.trans (hEv.trans (hx.trans hEz)))) hgq (hrq.ext (hEv.trans (hx.trans hEz))) hE9
     rw[hpl]at hP
     refine Fn.mono hP ?_
     rintro _ y ⟨hy,nv,rfl,hn⟩
     refine⟨.inr hy,?_⟩
     simp (disch:=first|omega|assumption|rfl) only[go_sem]
     refine zaM (P:=Tryz.prog) (l:=stV nv S) (Ext.at hy hBz) rfl (zbZ hn.isOne) rfl rfl ?_
     intro y3 hs3 hB hk3
     refine⟨.inl rfl,?_⟩
     simp (disch:=first|omega|assumption|rfl) only[go_sem]
     refine hK _ _ ?_;clear hK hgd;clear K;try clear gd
     exact⟨rfl,rfl,sc s,hx.trans (Keep.to_ext (hEz.trans hy) rfl (fun j hj=>by omega) hk3),_,vr0,zab hB rfl⟩
   clear s
   rintro _ σ1 _ v1 ⟨rfl,rfl,s,hvv,b,s13,f5⟩
   refine go trivial ?_
   refine zay (Q:=fun e' σ' ds' v'=>e'= .normal∧ds'=[]∧(σ' 12=vi i∧σ' 3= .slice ap ps.length cp∧σ' 9= .slice (some xa) E.length c∧σ' 4= .pointer (some ⟨W.heap.size,0,Option.none⟩)∧σ' 2=vi t∧σ' 1=qv)∧Ext v1 v'∧σ' 82= .bool false) ?_ ?_
   ·refine zaJ (fun _=>false) [(0,true),(1,true),(2,true),(3,true),(4,true),(5,true),(6,true),(7,true),(8,true),(9,true),(10,true),(11,true),(12,true),(13,true),(14,true),(15,true),(16,true)] NoS mixed (by kernel_rfl) ?_;intro gd K x hgd hx hxe hK;clear hxe
    have hg2:∀n σ b,zav gd n σ (some (2,b))=zal (ev n σ (.tmp 68)) b:=(fun n σ b=>by rw[zac,show gd 2=some 68 from(by rw[hgd];rfl)];rfl);have hg12:∀n σ b,zav gd n σ (some (12,b))=zal (ev n σ (.tmp 78)) b:=(fun n σ b=>by rw[zac,show gd 12=some 78 from(by rw[hgd];rfl)];rfl)
    have e0:=zaa (hEv.trans (hvv.trans hx)) g0
    have f5x:=zaa hx f5
    rw[hfin]at f5x
    have h0:=decide_eq_false hne0
    simp (disch:=first|omega|assumption|rfl) only[go_sem,s,s13,p,hu,hu0,e0,f5x,d0,h0,Nat.zero_add,zcp,↓hg2,↓hg12]
    refine hK _ _ ?_;clear hK hgd;clear K;try clear gd
    exact⟨rfl,rfl,sc s,hx,vr0⟩
   clear s
   rintro _ σ2 _ v2 ⟨rfl,rfl,s,hv2,s82⟩
   refine go (an3 s p s82) ?_
   exact⟨rfl,sc (an2 s p),hEv.trans (hvv.trans hv2)⟩
  ·clear s
   rintro σ v p ⟨s,hEv⟩
   refine go (an2 s p) ?_
   exact⟨rfl,rfl,sc s,hEv⟩
 clear s
 rintro _ σ2 _ w6 ⟨rfl,rfl,s,hE6⟩
 have hE16:=hE15.trans hE6
 have dN6:=zad hE6 dN5
 refine go trivial ?_
 refine rc (an2 s dN6) (Start_ok hE16 hN0 hG.z.rl (hq.ext hE16)) ?_
 rintro sv0 w7 ⟨hE7,hst0⟩
 have hE17:=hE16.trans hE7
 have hE57:=hE6.trans hE7
 have dN7:=zad hE7 dN6
 have hgp7:∀i (hi:i<ps.length),∃x,ap=some x∧zae w7 (adr (some x) i)=some (.int .u8 ps[i]):=fun i hi=>by
  obtain⟨x,h1,h2⟩:=hgp i hi
  exact⟨x,h1,zaa hE17 h2⟩
 have hg7:=Tr.ends.tr hE57 hg
 refine rgo s ?_
 obtain⟨b7,hb7⟩:∃b,w7.heap.size=b:=⟨_,rfl⟩
 obtain⟨w8,hw8⟩:∃z,w7.alloc (.cells #[vi 0,.slice Option.none 0 0,vi 0,vi 0,.bool false,vi 0] 80 (0,0))=z:=⟨_,rfl⟩
 have hE8:Ext w7 w8:=by rw[←hw8];exact Ext.alloc _ _
 have hB8:=zao w7 (.cells #[vi 0,.slice Option.none 0 0,vi 0,vi 0,.bool false,vi 0] 80 (0,0))
 rw[hw8,hb7]at hB8
 rw[hw8,hb7]
 refine zay (Q:=fun e' σ' ds' v'=>e'= .exit 2∧ds'=[]∧(σ' 9= .slice a E.length c∧σ' 16= .pointer (some ⟨b7,0,Option.none⟩))∧Ext w7 v'∧∃S:zak,zae v' (some ⟨b7,5,Option.none⟩)=some (vi S.fin)∧(S.fin≠0→∃e∈E,e.1=S.fin)) ?_ ?_
 ·refine zfZ ps.length (fun i σ v=>(σ 17=vi i∧σ 3= .slice ap ps.length cp∧σ 9= .slice a E.length c∧σ 4= .pointer (some ⟨W.heap.size,0,Option.none⟩)∧σ 2=vi t∧σ 16= .pointer (some ⟨b7,0,Option.none⟩))∧
   ∃sv L aS nS cS S,σ 15=sv∧Ext w7 v∧Rows 6 (StC v) v sv L∧MetI N (zcR N q t) (i+1) L∧v.heap[b7]? =some (.cells (stV (.slice aS nS cS) S).toArray 80 (0,0))∧(S.fin≠0→∃e∈E,e.1=S.fin)) ?_ ?_ ?_
  ·exact⟨⟨vr0,(vq1 s),(vq1 s),(vq1 s),(vq1 s),vr0⟩,sv0,_,Option.none,0,0,stZ,vr0,hE8,Rows.extC (fun _ _ h=>StC.ext h hE8) hst0 hE8,hS.m0 hG hgq,hB8,fun h=>absurd rfl h⟩
  ·clear s
   rintro i σ v hi p ⟨s,sv,L,aS,nS,cS,S0,h15,hEv,hL,hM,hBv,hS0⟩
   obtain⟨aL,cS',rfl,_,hgs⟩:=hL.open
   by_cases hL0:L.length=0
   ·have hd:decide (((L.length:Nat):Int)>0)=false:=decide_eq_false (by omega)
    refine go trivial ?_
    refine rgg [(4,90)] (an4 s p h15 hd) ?_
    refine go trivial ?_
    exact⟨rfl,rfl,sc s,hEv,S0,zab hBv rfl,hS0⟩
   have hd:decide (((L.length:Nat):Int)>0)=true:=decide_eq_true (by omega)
   refine go trivial ?_
   refine rgg [(4,90)] (an4 s p h15 hd) ?_
   refine go trivial ?_
   obtain⟨xp,rfl,g6⟩:=hgp7 i hi
   have gp:=zaa hEv g6
   obtain⟨k,hk,hk5⟩:=u8_nat (hpw _ (List.getElem_mem hi))
   rw[hk]at gp
   obtain⟨j,hj⟩:∃j,k % L.length=j:=⟨_,rfl⟩
   have hjl:j<L.length:=by rw[←hj];exact Nat.mod_lt _ (by omega)
   have hrem:binV Tryz.prog .rem 3 (.int .i64 (k:Int)) (.int .i64 (L.length:Int))=some (.int .i64 (j:Int)):=by rw[rem_nn (by omega),hj]
   have hj0:(0:Int)≤(j:Int):=by omega
   have hj1:(j:Int)<(L.length:Int):=by omega
   obtain⟨cs6,hcs,hX⟩:=hgs j hjl
   have hmem:=List.getElem_mem hjl
   obtain⟨S,hSe⟩:∃S,L[j]=S:=⟨_,rfl⟩
   rw[hSe]at hX hmem
   obtain⟨nv,rfl,hnm⟩:=hX.ex
   obtain⟨an,cn,hnv,_⟩:=id hnm
   obtain⟨xs,rfl⟩:=Option.isSome_iff_exists.1 (zaq hcs)
   obtain⟨xi,hxi⟩:∃xi,adr (some xs) (j*6)=some xi:=⟨_,rfl⟩
   rw[hxi]at hcs
   have n1:=hnm.isOne
   have gS:=(hM S hmem).1
   have hgt:=fun h0=>hS.told hM hmem h0
   rw[←hee]at hgt
   refine rq ?_;intro gd K hgd hK
   try simp (disch:=first|omega|assumption|rfl) only[go_sem,s,p,h15,gp,hrem,hj0,hj1,hxi,hcs]
   refine zaM (P:=Tryz.prog) (t:=80) (l:=stV nv S) hBv rfl (zbZ n1) rfl rfl ?_
   intro v2 hs2v hB hk2
   try simp only[go_sem]
   refine hK _ _ ?_;clear hK hgd;clear K;try clear gd
   have hEv2:Ext w7 v2:=Keep.to_ext hEv rfl (fun b hb=>by omega) hk2
   have hnm2:=st_keep hBv hnm hk2
   have dS:zas v2 (some ⟨b7,0,Option.none⟩) 6=some (stV nv S):=zah hB rfl
   refine go trivial ?_
   refine rc (an3 s (zad hEv2 dN7) dS) (Next_ok (t:=t) (hE17.trans hEv2) hN0 hG.z ⟨nv,rfl,hnm2⟩ (gS.b hG)) ?_
   rintro sv4 v4 ⟨hE4v,hR4⟩
   refine rgo (an2 s p) ?_
   have hB4:=Ext.at hE4v hB
   rw[hnv]at hB4
   exact⟨rfl,sc (an2 s p),sv4,_,_,_,_,S,vr0,hEv2.trans hE4v,hR4,hS.next hG hM hmem,hB4,hgt⟩
  ·clear s
   rintro σ v p ⟨s,sv,L,aS,nS,cS,S0,h15,hEv,hL,hM,hBv,hS0⟩
   obtain⟨aL,cS',rfl,_,_⟩:=hL.open
   refine go trivial ?_
   refine rgg [(4,90)] (an3 s p h15) ?_
   refine go trivial ?_
   exact⟨rfl,rfl,sc s,hEv,S0,zab hBv rfl,hS0⟩
 clear s
 rintro _ σ3 _ w9 ⟨rfl,rfl,s,hE9,S,f5,hS0⟩
 have hE19:=hE17.trans hE9
 by_cases hf:S.fin=0
 ·refine go (an4 s f5 Nat.zero_add (decide_eq_true hf)) ?_
  refine rt0 Tryz.ntmps8 ?_
  exact⟨rfl,hE19⟩
 refine go (an4 s f5 Nat.zero_add (decide_eq_false hf)) ?_
 have hon:E.any (fun e=>decide (e.1=S.fin))=true:=by
  obtain⟨e,he,h⟩:=hS0 hf
  exact List.any_eq_true.2 ⟨e,he,decide_eq_true h⟩
 refine zay (Q:=fun e' σ' ds' v'=>e'= .exit 4∧ds'=[]∧σ' 18= .bool true∧Ext w9 v') ?_ ?_
 ·refine zfZ E.length (fun i σ v=>(σ 19=vi i∧σ 9= .slice a E.length c∧σ 16= .pointer (some ⟨b7,0,Option.none⟩))∧σ 18= .bool ((E.take i).any fun e=>decide (e.1=S.fin))∧Ext w9 v) ?_ ?_ ?_
  ·exact⟨⟨vr0,(vq1 s),(vq1 s)⟩,vr0,Keep.refl _ _⟩
  ·clear s
   rintro i σ v hi p ⟨s,h18,hEv⟩
   obtain⟨xa,u,u1,aq,cq,rfl,hu,hu0,hu1,g0,g1,_,_⟩:=hg7 i hi
   refine go (an2 s p) ?_
   have hta:=take_any (p:=fun e=>decide (e.1=S.fin)) hi
   obtain⟨bb,hbb⟩:∃b,(E.take i).any (fun e=>decide (e.1=S.fin))=b:=⟨_,rfl⟩
   obtain⟨bd,hbd⟩:∃b,decide (E[i].1=S.fin)=b:=⟨_,rfl⟩
   rw[hbb]at hta h18
   refine zay (Q:=fun e' σ' ds' v'=>e'= .normal∧ds'=[]∧(σ' 19=vi i∧σ' 9= .slice (some xa) E.length c∧σ' 16= .pointer (some ⟨b7,0,Option.none⟩))∧σ' 18= .bool (bb||bd)∧Ext v v') ?_ ?_
   ·refine zaJ (fun _=>false) [(0,true),(1,true),(2,true),(3,true),(4,true),(5,true),(6,true),(7,true),(8,true),(9,true),(10,true),(11,true)] NoS mixed (by kernel_rfl) ?_;intro gd K x hgd hx hxe hK;clear hxe
    have hg1:∀n σ b,zav gd n σ (some (1,b))=zal (ev n σ (.tmp 122)) b:=(fun n σ b=>by rw[zac,show gd 1=some 122 from(by rw[hgd];rfl)];rfl)
    have e0:=zaa (hE9.trans (hEv.trans hx)) g0
    have f5x:=zaa (hEv.trans hx) f5
    cases bb with
    |true=>
     simp (disch:=first|omega|assumption|rfl) only[go_sem,s,h18,p,zcp,↓hg1]
     refine hK _ _ ?_;clear hK hgd;clear K;try clear gd
     exact⟨rfl,rfl,sc s,vr0,hx⟩
    |false=>
     simp (disch:=first|omega|assumption|rfl) only[go_sem,s,h18,p,hu,hu0,e0,f5x,hbd,Nat.zero_add,zcp,↓hg1]
     refine hK _ _ ?_;clear hK hgd;clear K;try clear gd
     exact⟨rfl,rfl,sc s,vr0,hx⟩
   clear s
   rintro _ σ4 _ v4 ⟨rfl,rfl,s,h18',hv4⟩
   refine go (an2 s p) ?_
   exact⟨rfl,sc (an2 s p),by rw[hta,hbd];simp only[go_sem,h18'],hEv.trans hv4⟩
  ·clear s
   rintro σ v p ⟨s,h18,hEv⟩
   rw[List.take_length,hon]at h18
   refine go (an2 s p) ?_
   exact⟨rfl,rfl,(vq1 h18),hEv⟩
 clear s
 rintro _ σ4 _ w10 ⟨rfl,rfl,h18,hE10⟩
 refine go h18 ?_
 refine rt0 Tryz.ntmps8 ?_
 exact⟨rfl,hE19.trans hE10⟩
end Go.Proofs.YtahbdamijngmmaaGreat
namespace Go.Proofs.YtahbdamijngmmaaGreat.runWitness
open Go Go.Proofs.YtahbdamijngmmaaGreat
theorem j1:(Rows.runWitnessRow.inPlace==Tryz.pinned.checked.prog.inPlace 8)=true:=by kernel_rfl
theorem j2:(Rows.runWitnessRow.unfollowed==Tryz.pinned.checked.prog.unfollowed 8)=true:=by kernel_rfl
theorem j3:(Rows.runWitnessRow.recurses==Tryz.pinned.checked.prog.recurses 8)=true:=by kernel_rfl
theorem j4:(Rows.runWitnessRow.named==Tryz.pinned.checked.prog.varsNamed 8)=true:=by kernel_rfl
theorem j5:(Tryz.pinned.checked.prog.mayEnter)=true:=by kernel_rfl
theorem j6:(Rows.runWitnessRow.lifted==Tryz.pinned.checked.prog.liftsFinal)=true:=by kernel_rfl
theorem joined:joinedFacts Tryz.pinned.checked.prog 8 Tryz.f8 Rows.runWitnessSpec Rows.runWitnessRow=true:=by
 unfold joinedFacts
 rw[j1,j2,j3,j4,j5,j6]
 kernel_rfl
end Go.Proofs.YtahbdamijngmmaaGreat.runWitness
namespace Go.Proofs.YtahbdamijngmmaaGreat
open Go
set_option maxRecDepth 100000
theorem zkC{w:World}{α:Type}{k:Nat}{C:List Value→α→Prop}{Q:α→Prop}{v:Value}{L:List (List Value)}(hL:RowK k w v L)(h:∀cs∈L,∃a,C cs a∧Q a):∃R:List α,Rows k C w v R∧∀a∈R,Q a:=by
 have:∀L:List (List Value),(∀cs∈L,∃a,C cs a∧Q a)→∃R:List α,L.length=R.length∧(∀i (h:i<L.length) (h':i<R.length),C L[i] R[i])∧∀a∈R,Q a:=fun L=>by
  induction L with
  |nil=>intro _;exact⟨[],rfl,fun i h=>by simp at h,fun r h=>by cases h⟩
  |cons cs L ih=>
   intro h
   obtain⟨r,h1,h2⟩:=h cs (List.mem_cons_self ..)
   obtain⟨R,a1,a2,a3⟩:=ih (fun x hx=>h x (List.mem_cons_of_mem _ hx))
   refine⟨r::R,by simp[a1],fun i a b=>?_,fun x hx=>?_⟩
   ·cases i with
    |zero=>exact h1
    |succ i=>exact a2 i (by simpa using a) (by simpa using b)
   ·rcases List.mem_cons.1 hx with rfl|hx
    ·exact h2
    ·exact a3 x hx
 obtain⟨R,a1,a2,a3⟩:=this L h
 exact⟨R,⟨L,hL,a1,a2⟩,a3⟩
section
variable {H : Type} {enc : TypeId × Value → H} {w : World} {base : Nat} {sp : Nat → Bool} {held : Bool}
theorem zgB{P:Program}{t:TypeId}{n:Nat}{c:Value}{x:DataW H×List MemPlace}(ht:P.underlying t=some (.int .u8))(h:DataW.trod enc P w base sp held n t [c]=some x):∃b:UInt8,c=zaf b:=by
 obtain⟨m,h1,_,h2⟩:=DataW.trod_int ht h
 have hb:=wf_u8 h2
 obtain⟨k,rfl⟩:∃k:Nat,m=(k:Int):=⟨m.toNat,by omega⟩
 exact⟨UInt8.ofNat k,by rw[List.head_eq_of_cons_eq h1,zec (by omega)]⟩
theorem rd_addr{t e:TypeId}{c0 c1 c2 c3:Value}{P:Program}(h:RdC enc P w base sp held t [c0,c1,c2,c3])(ht:P.underlying t=some (.array 4 e))(hc:P.cellsOf e=1)(he:P.underlying e=some (.int .u8)):
  ∃a b c d:UInt8,c0=zaf a∧c1=zaf b∧c2=zaf c∧c3=zaf d:=by
 obtain⟨n,x,h,_⟩:=h
 obtain⟨_,_,_,_,_,_,h0,h1,h2,h3⟩:=Go.ChangeShapes.trod_array4 ht hc h
 obtain⟨a,ha⟩:=zgB he h0
 obtain⟨b,hb⟩:=zgB he h1
 obtain⟨c,hc⟩:=zgB he h2
 obtain⟨d,hd⟩:=zgB he h3
 exact⟨a,b,c,d,ha,hb,hc,hd⟩
theorem rd_zone{cs:List Value}(h:RdC enc Tryz.prog w base sp held 122 cs):∃z:zcq,ZoneC w cs z∧NumR z.recs:=by
 obtain⟨hl,hf⟩:=zdX h rfl
 have hl2:cs.length=2:=hl
 match cs,hl2 with
 | [c0,c1],_=>
  obtain⟨o,n0,_⟩:=zen (P:=Tryz.prog) (RdC.one (hf 0 _ rfl)) (e:=9) rfl rfl rfl rfl
  obtain⟨R,h1,h2⟩:=rd_recs (RdC.one (hf 1 _ rfl))
  exact⟨⟨o,R⟩,⟨c0,c1,rfl,n0,h1⟩,h2⟩
theorem rd_host{cs:List Value}(h:RdC enc Tryz.prog w base sp held 116 cs):∃z:zex,HostC w cs z∧∀x∈z.zones,NumR x.recs:=by
 obtain⟨hl,hf⟩:=zdX h rfl
 have hl6:cs.length=6:=hl
 match cs,hl6 with
 | [c0,c1,c2,c3,c4,c5],_=>
  obtain⟨o,n0,_⟩:=zen (P:=Tryz.prog) (RdC.one (hf 0 _ rfl)) (e:=9) rfl rfl rfl rfl
  have h1:RdC enc Tryz.prog w base sp held 113 [c1,c2,c3,c4]:=hf 1 _ rfl
  obtain⟨a,b,c,d,rfl,rfl,rfl,rfl⟩:=rd_addr h1 rfl rfl (e:=5) rfl
  have h5:RdC enc Tryz.prog w base sp held 114 [c5]:=hf 2 _ rfl
  obtain⟨L,hL,hall,_⟩:=zfk (RdC.one h5) (e:=122) (k:=2) rfl rfl
  obtain⟨R,r1,r2⟩:=zkC hL (fun cs hcs=>rd_zone (hall cs hcs))
  exact⟨⟨o,[a,b,c,d],R⟩,⟨c0,a,b,c,d,c5,rfl,rfl,n0,r1⟩,r2⟩
theorem rd_net{cs:List Value}(h:RdC enc Tryz.prog w base sp held 25 cs):∃N:NetL,NetAt w cs N∧NumN N:=by
 obtain⟨hl,hf⟩:=zdX h rfl
 have hl4:cs.length=4:=hl
 match cs,hl4 with
 | [c0,c1,c2,c3],_=>
  obtain⟨L,hL,hall,_⟩:=zfk (RdC.one (hf 0 _ rfl)) (e:=116) (k:=6) rfl rfl
  obtain⟨R,r1,r2⟩:=zkC hL (fun cs hcs=>rd_host (hall cs hcs))
  obtain⟨roots,n2,_⟩:=zgA (RdC.one (hf 1 _ rfl)) (e:=3) (k:= .i64) rfl rfl rfl
  obtain⟨a,e2,_⟩:=zhs (hf 2 _ rfl) (k:= .i64) rfl
  obtain⟨b,e3,_⟩:=zhs (hf 3 _ rfl) (k:= .i64) rfl
  have e2':c2=vi a:=List.head_eq_of_cons_eq (show [c2]=[vi a] from e2)
  have e3':c3=vi b:=List.head_eq_of_cons_eq (show [c3]=[vi b] from e3)
  exact⟨⟨R,roots,a,b⟩,⟨c0,c1,by rw[e2',e3'],r1,n2⟩,r2⟩
end
theorem ziw{H:Type}{enc:TypeId×Value→H}{P:Program}{w:World}{base:Nat}{sp:Nat→Bool}{held:Bool}{t:TypeId}{cs:Array Value}{d:DataW H}{p:List MemPlace}{ts:List TypeId}{ds:List (DataW H)}(h:DataW.Trod enc P w base sp held t (.agg cs) d p)
  (hw:∀x∈DataW.weightsEach P ts ds,x≤reachBytes) {j:Nat} (ht:ts[j]? =some t) (hd:ds[j]? =some d):RdC enc P w base sp held t cs.toList:=by
 obtain⟨n,h⟩:=h
 exact⟨n,_,h,fun k hk=>hw k (DataW.weights_mem_each ht hd k hk)⟩
end Go.Proofs.YtahbdamijngmmaaGreat
namespace Go.Proofs.YtahbdamijngmmaaGreat.runWitness
open Go Go.Proofs.YtahbdamijngmmaaGreat Go.ChangeShapes Go.WideShapes Go.ChangeAt Go.RowKit
theorem own:ownKnob Tryz.prog.godebug=none:=by kernel_rfl
set_option maxRecDepth 100000 in
theorem lifted(os:Os)(started:os.Started)(H:Type)(enc:TypeId×Value→H):
  ReturnsInHanded {} Tryz.checked os 8 .any (Rows.runWitnessSpec.pre6 enc Tryz.prog Tryz.f8 Rows.runWitnessRow.domain false) (Rows.runWitnessSpec.post enc Tryz.prog Tryz.f8 false true false false):=by
 refine law_lift (C:=Tryz.checked) own started (by kernel_rfl) Tryz.func8
  (ChangeSpec.witness6 (enc:=enc) (C:=Tryz.checked) false ⟨#[],#[.agg #[.slice Option.none 0 0,.slice Option.none 0 0,.int .i64 0,.int .i64 0],.slice Option.none 0 0,.int .i64 0,.slice Option.none 0 0],[]⟩ 8 (by kernel_rfl) (by kernel_rfl) (by kernel_rfl) (by kernel_rfl)) rfl ?_ (tb:=4) rfl rfl (by kernel_rfl) (by kernel_rfl) ?_
 ·intro ds hds
  match ds,hds with
  | [d0,d1,d2,d3],_=>rfl
 ·intro W base args ds p hval hA0 hw0
  have hA:DataW.TrodAll enc Tryz.prog W 0 (fun _=>true) true [25,27,3,90] args ds p:=hA0
  have hw:∀x∈DataW.weightsEach Tryz.prog [25,27,3,90] ds,x≤reachBytes:=hw0
  obtain⟨v0,vs0,d0,ds0,p0,q0,rfl,rfl,rfl,h0,r0⟩:=trodAll_cons hA
  obtain⟨v1,vs1,d1,ds1,p1,q1,rfl,rfl,rfl,h1,r1⟩:=trodAll_cons r0
  obtain⟨v2,vs2,d2,ds2,p2,q2,rfl,rfl,rfl,h2,r2⟩:=trodAll_cons r1
  obtain⟨v3,vs3,d3,ds3,p3,q3,rfl,rfl,rfl,h3,r3⟩:=trodAll_cons r2
  obtain⟨rfl,rfl,rfl⟩:=trodAll_nil r3
  obtain⟨a0,rfl,_⟩:=okWide_struct rfl (hval 0 _ _ rfl rfl)
  obtain⟨x0,f0,g0⟩:=rd_net (ziw h0 hw (j:=0) rfl rfl)
  obtain⟨a1,n1,c1,rfl⟩:=okWide_slice (e:=9) rfl (hval 1 _ _ rfl rfl)
  obtain⟨x1,f1,g1⟩:=zen (P:=Tryz.prog) (zf4 h1 rfl hw (j:=1) rfl rfl) (e:=9) rfl rfl rfl rfl
  obtain⟨x2,rfl,_,_,f2⟩:=open_int (k:= .i64) rfl (hval 2 _ _ rfl rfl) h2
  obtain⟨a3,n3,c3,rfl⟩:=okWide_slice (e:=5) rfl (hval 3 _ _ rfl rfl)
  obtain⟨x3,f3,g3⟩:=zgA (P:=Tryz.prog) (zf4 h3 rfl hw (j:=3) rfl rfl) (e:=5) rfl rfl rfl
  exact zg8 W f0 g0 f1 g1 f3 g3
theorem over:Rows.runWitnessRow.holds Tryz.pinned (OpenSpec.ofChange Rows.runWitnessSpec):=
 OpenClaim.holds_of_wide 8 Tryz.f8 rfl rfl rfl rfl rfl rfl rfl ⟨rfl,rfl,rfl,rfl,rfl⟩ rfl rfl rfl rfl rfl (by kernel_rfl) Tryz.func8 joined
  (of_decide_eq_true (by kernel_rfl)) (by unfold Func.isWrapper;first| (rw[if_pos (by decide+kernel)];kernel_rfl)| (rw[if_neg (by decide+kernel)];exact⟨rfl,rfl⟩))
  (fun os started H enc _=>lifted os started H enc)
theorem proved:Rows.RunWitnessSaid:=over
end Go.Proofs.YtahbdamijngmmaaGreat.runWitness
