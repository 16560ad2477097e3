/-
  Texts of a proof, joined: OB, OE, UA, UB, UC, UD, OI, OF, OJ, OL, YRE, KR3, ZRE.
  Conditions: none.
-/
import Derived.Test.YtahbdamijngmmaaGreatJRE10
import Derived.Test.YtahbdamijngmmaaGreatJRE13
import Derived.Test.YtahbdamijngmmaaGreatJRE14
import Derived.Test.YtahbdamijngmmaaGreatJRE09
import Derived.Test.YtahbdamijngmmaaGreatJRE07
import Derived.Test.YtahbdamijngmmaaGreatJRE02
import Derived.Test.YtahbdamijngmmaaGreatRows
import Derived.JoinedOf
import Derived.Laws.IdiomArrays
set_option linter.unusedVariables false
set_option linter.unusedSimpArgs false
set_option linter.defProp false
set_option linter.unnecessarySimpa false
set_option maxHeartbeats 8000000
namespace Go.Proofs.YtahbdamijngmmaaGreat
open Go
set_option maxRecDepth 10000
theorem zkf:zc5 smallN kX 1=[(kA0,[0]),(kA1,[0,0]),(kA2,[0,0,0])]:=by kernel_rfl
theorem zkg:zfd [(kA0,[0]),(kA1,[0,0]),(kA2,[0,0,0])]=[(1,[0,0,0])]:=by kernel_rfl
theorem small_p1:zgT smallN kX 1 [0,0,0]=(kA2,true):=by kernel_rfl
theorem small_p2:zgT smallN kX 1 [0,1]=(stZ,false):=by kernel_rfl
theorem small_p3:zgT smallN kX 1 []=(stZ,false):=by kernel_rfl
theorem zg3:zcf kX=true:=by kernel_rfl
theorem zlH(l:List Int):∀v∈l.map vi,v.cells=#[v]:=fun v h=>by obtain⟨x,_,rfl⟩:=List.mem_map.1 h;rfl
theorem zkX(w:World):Fn Tryz.prog 33 #[] w (fun v w'=>v= .bool true/\Ext w w'):=by
 refine enter Tryz.func33 Tryz.ntmps33 rfl rfl ?_;refine go trivial ?_;refine rq ?_;intro gd K hgd hK;try simp only[go_sem]
 refine Fn.mono (Small_ok w) ?_;rintro _ w1 ⟨hE1,cs,rfl,hN⟩;obtain⟨hv,rv,rfl,hh,hr⟩:=id hN.ex;have hh1:=hh.isOne;have hr1:=hr.isOne;try simp only[go_sem]
 refine za0 (P:=Tryz.prog) (l:=[hv,rv,vi smallN.rw,vi smallN.rf]) rfl (fun v h=>by simp at h;rcases h with rfl|rfl|rfl|rfl<;>first|assumption|rfl) rfl rfl ?_;intro w2 hE2 hs2 hB;try simp only[go_sem]
 apply hK;have dN:zaq w2 (some ⟨w1.heap.size,0,.none⟩) 4=some [hv,rv,vi smallN.rw,vi smallN.rf]:=zaf hB rfl;refine go trivial ?_;refine rq ?_;intro gd K hgd hK;try simp only[go_sem]
 refine zbE (z:=vs []) (l:=[vs [120],vs [111]]) rfl rfl rfl rfl rfl rfl (fun v hv=>by simp at hv;rcases hv with rfl|rfl<;>rfl) (by simp) ?_;intro w3 hE3 hs3 o3;have r3:Row w3 (.slice (some ⟨w2.heap.size,0,.none⟩) 2 2) (kX.map vs):=o3.row;try simp only[go_sem]
 apply hK;refine go trivial ?_;have hE13:=hE2.trans hE3;have hP:=zgK (t:=1) hE13 hN zdz r3 zg3;simp only[zkf,zkg]at hP;refine rc (zac hE3 dN) hP ?_;rintro _ w4 ⟨hE4,(⟨hc,_⟩| ⟨hc,ev,rfl,hrows⟩)⟩
 ·exact absurd hc (by decide)
 obtain⟨ae,ce,rfl,hce,hge⟩:=id hrows.open;rw[show ([((1:Int),[(0:Int),0,0])]:List (Int×List Int)).length=1 from rfl];obtain⟨ec,hec,hEn⟩:=hge 0 (by simp);obtain⟨pv,rfl,hpv⟩:=hEn.ex;obtain⟨ap,cp,rfl,_⟩:=id hpv;replace hec:zaq w4 (adr ae (0*2)) 2=some [vi 1,.slice ap 3 cp]:=hec;obtain⟨xe,rfl⟩:=yxs (zai hec);rw[Nat.zero_mul,zaj]at hec;obtain⟨x1,hx1⟩:∃x,adr (some xe) 1=some x:=⟨_,rfl⟩;have g0:=zah (j:=0) hec rfl;have g1:=zah (j:=1) hec rfl;rw[hx1]at g1;rw[zaj]at g0;refine rgo trivial ?_;have hE14:=hE13.trans hE4;have dN4:=zac (hE3.trans hE4) dN;refine rq ?_;intro gd K hgd hK;refine sgz dN4 ?_;refine zbE (z:=vi 0) (l:=[vi 0,vi 0,vi 0]) rfl rfl rfl rfl rfl rfl (zlH [0,0,0]) (by simp) ?_;intro w5 hE5 hs5 o5;try simp only[go_sem]
 have hP:=zjg (t:=1) (ch:=[0,0,0]) (hE14.trans hE5) hN zdz (r3.ext (hE4.trans hE5)) zg3 o5.row (by decide);rw[small_p1]at hP;refine Fn.mono hP ?_;rintro _ w6 ⟨hE6,n6,rfl,hn6⟩;try simp only[go_sem]
 refine za0 (P:=Tryz.prog) (l:=stV n6 kA2) rfl (zce hn6.isOne) rfl rfl ?_;intro w7 hE7 hs7 hB7;try simp only[go_sem]
 apply hK;refine go trivial ?_;have hE47:=hE5.trans (hE6.trans hE7);have dN7:=zac hE47 dN4;refine rq ?_;intro gd K hgd hK;refine sgz dN7 ?_;refine zbE (z:=vi 0) (l:=[vi 0,vi 1]) rfl rfl rfl rfl rfl rfl (zlH [0,1]) (by simp) ?_;intro w8 hE8 hs8 o8;try simp only[go_sem]
 have hP:=zjg (t:=1) (ch:=[0,1]) ((hE14.trans hE47).trans hE8) hN zdz (r3.ext ((hE4.trans hE47).trans hE8)) zg3 o8.row (by decide);rw[small_p2]at hP;refine Fn.mono hP ?_;rintro _ w9 ⟨hE9,n9,rfl,hn9⟩;try simp only[go_sem]
 refine za0 (P:=Tryz.prog) (l:=stV n9 stZ) rfl (zce hn9.isOne) rfl rfl ?_;intro w10 hE10 hs10 hB10;try simp only[go_sem]
 apply hK;refine go trivial ?_;have hE710:=hE8.trans (hE9.trans hE10);have dN10:=zac hE710 dN7;have hE110:=(hE14.trans hE47).trans hE710;have hP:=zjg (t:=1) (ch:=[]) (cv:= .slice .none 0 0) hE110 hN zdz (r3.ext ((hE4.trans hE47).trans hE710)) zg3 ⟨.none,0,rfl,ynl _,fun j h=>by simp at h⟩ (by decide);rw[small_p3]at hP;refine rq ?_;intro gd K hgd hK;refine sgz dN10 ?_;refine Fn.mono hP ?_;rintro _ w11 ⟨hE11,n11,rfl,hn11⟩;try simp only[go_sem]
 refine za0 (P:=Tryz.prog) (l:=stV n11 stZ) rfl (zce hn11.isOne) rfl rfl ?_;intro w12 hE12 hs12 hB12;try simp only[go_sem]
 apply hK;refine go trivial ?_;have hE412:=hE47.trans (hE710.trans (hE11.trans hE12));refine rc trivial (zm1 (k:=1) (p:=[0,0,0]) ((Rows.ext hrows hE412).to fun _ _ h=>h.ext hE412)) ?_;rintro kv w13 ⟨hkv,hE13⟩;obtain⟨ak,ck,rfl,_,hgk⟩:=hkv;rw[show [vi 1].length=1 from rfl];have gk:=hgk 0 (by simp);replace gk:zad w13 (adr ak 0)=some (vi 1):=gk;obtain⟨xk,rfl⟩:=yxs (zag gk);rw[zaj]at gk;refine rgo trivial ?_;have g0:=zaa (hE412.trans hE13) g0;have g1:=zaa (hE412.trans hE13) g1;have f6:zad w13 (some ⟨w6.heap.size,5,.none⟩)=some (vi 1):=zab (i:=5) (Ext.at (hE710.trans (hE11.trans (hE12.trans hE13))) hB7) rfl;have z0:(0:Int)<=0:=Int.le_refl _;have z1:(0:Int)<((1:Nat):Int):=by decide
 have o1:decide (((1:Nat):Int)=1)=true:=rfl;have o3:decide (((3:Nat):Int)=3)=true:=rfl;have o4:decide (((([(kA0,[0]),(kA1,[0,0]),(kA2,[0,0,0])]:List MetL).length:Nat):Int)=3)=true:=rfl;have o0:decide ((0:Int)=0)=true:=rfl;have o2:decide ((1:Int)=1)=true:=rfl;refine rgg [(2,46),(7,51),(14,58),(22,66),(26,70),(29,73),(34,78),(38,82),(42,86),(47,91)] (an2 (an9 g0 g1 f6 gk hx1 z0 z1 o1 o3) (an9 o0 o2 Int.toNat_zero Nat.zero_mul zaj o4 Nat.add_zero yn0 Bool.not_false)) ?_;refine go trivial ?_;refine rt0 Tryz.ntmps33 ?_;exact⟨rfl,hE1.trans ((hE14.trans (hE412.trans hE13)))⟩
def zd3(N:NetL)(q:Nm)(t:Int):List (Int×List Int):=if 4096<(zc5 N q t).length then [] else zfd (zc5 N q t)
def numR(N:NetL)(q:Nm)(t:Int):Nat:=if 4096<(zc5 N q t).length then 0 else(zc5 N q t).length
def errR(N:NetL)(q:Nm)(t:Int):Int:=if 4096<(zc5 N q t).length then 11 else 0
theorem zky{N:NetL}{q:Nm}{t:Int}(hN:zbi N)(hq:zcf q=true)(h:errR N q t=0):Shut N t q (zc5 N q t)/\zd3 N q t=zfd (zc5 N q t):=by
 unfold errR at h;unfold zd3
 split at h
 ·cases h
 ·rename_i hl;rw[if_neg hl];exact⟨zml hN hq (by omega),rfl⟩
theorem zmp{N:NetL}{q:Nm}{t:Int}(h:errR N q t≠0):zd3 N q t=[]:=by
 unfold errR at h;unfold zd3
 split at h
 ·rename_i hl;rw[if_pos hl]
 ·exact absurd rfl h
theorem errR_err{N:NetL}{q:Nm}{t:Int}(h:zd3 N q t≠ []):errR N q t=0:=Decidable.byContradiction fun h0=>h (zmp h0)
theorem zmq(N:NetL)(q:Nm)(t:Int):(zd3 N q t).length<=9:=by
 unfold zd3
 split
 ·simp
 ·exact zmo _
theorem zjk{w0 w:World}(hE0:Ext w0 w){cs:List Value}{N:NetL}{qv:Value}{q:Nm}{t:Int}(hN:NetAt w0 cs N)(hG:zbi N)(hq:Row w qv (q.map vs))(hgq:zcf q=true):
  Fn Tryz.prog 35 #[.agg cs.toArray,qv,vi t] w (fun v w'=>Ext w w'/\∃ev,v= .tuple #[ev,vi (numR N q t),vi (errR N q t)]/\Rows 2 (EndAt w') w' ev (zd3 N q t)):=by
 refine Fn.mono (zgK (t:=t) hE0 hN hG hq hgq) ?_;rintro v x ⟨hE,(⟨h1,rfl⟩| ⟨h1,ev,rfl,h2⟩)⟩
 ·unfold numR errR zd3;rw[if_pos h1,if_pos h1,if_pos h1];exact⟨hE,_,rfl,Rows.nil _ _ _⟩
 ·unfold numR errR zd3;rw[if_neg (by omega),if_neg (by omega),if_neg (by omega)];exact⟨hE,_,rfl,h2⟩
def EndG(w:World)(a:Option Addr)(E:List (Int×List Int)):Prop:=∀i (hi:i<E.length),∃xa x x1 ap cp,a=some xa/\adr (some xa) (i*2)=some x/\adr (some x) 0=some x/\adr (some x) 1=some x1/\zad w (some x)=some (vi E[i].1)/\zad w (some x1)=some (.slice ap E[i].2.length cp)/\
 Row w (.slice ap E[i].2.length cp) (E[i].2.map vi)/\∀j (hj:j<E[i].2.length),∃xp,ap=some xp/\zad w (adr (some xp) j)=some (vi E[i].2[j])
theorem zdm{w:World}{ev:Value}{E:List (Int×List Int)}(h:Rows 2 (EndAt w) w ev E):∃a c,ev= .slice a E.length c/\EndG w a E:=by
 obtain⟨a,c,rfl,_,hg⟩:=h.open;refine⟨a,c,rfl,fun i hi=>?_⟩;obtain⟨cs,h1,h2⟩:=hg i hi;obtain⟨pv,rfl,hp⟩:=h2.ex;obtain⟨ap,cp,rfl,hcp,hgp⟩:=id hp;obtain⟨xa,rfl⟩:=yxs (zai h1);obtain⟨x,hx⟩:∃x,adr (some xa) (i*2)=some x:=⟨_,rfl⟩;rw[hx]at h1;obtain⟨x1,hx1⟩:∃x1,adr (some x) 1=some x1:=⟨_,rfl⟩;have g0:=zah (j:=0) h1 rfl;have g1:=zah (j:=1) h1 rfl;rw[zaj]at g0;rw[hx1]at g1;rw[ylm]at g1 hp;refine⟨xa,x,x1,ap,cp,rfl,hx,zaj _,hx1,g0,g1,hp,fun j hj=>?_⟩;have g:=hgp j (by rw[ylm];exact hj);rw[List.getElem_map]at g;cases ap with
 |none=>simp[adr,zad]at g
 |some xp=>exact⟨xp,rfl,g⟩
instance Tr.ends{a:Option Addr}{E:List (Int×List Int)}:Tr fun w=>EndG w a E:=⟨fun hE h i hi=>by
 obtain⟨xa,x,x1,ap,cp,e0,e1,e2,e3,g0,g1,hr,hg⟩:=h i hi
 exact⟨xa,x,x1,ap,cp,e0,e1,e2,e3,zaa hE g0,zaa hE g1,hr.ext hE,fun j hj=>by
  obtain⟨xp,e,g⟩:=hg j hj
  exact⟨xp,e,zaa hE g⟩⟩⟩
theorem StC.cells{w:World}{cs:List Value}{s:zao}(h:StC w cs s):cs.length=6/\∀v∈cs,one v=true:=by
 obtain⟨nv,rfl,h1⟩:=h.ex;exact⟨rfl,zce h1.isOne⟩
def zcI(l:List (Nm×List DatL)):Prop:=∀a∈l,∀b∈l,zan a.1=zan b.1->a.2=b.2
theorem zd0{to:Nm}:∀{l:List (Nm×List DatL)} {b:List DatL},(∀g∈l,zan g.1=zan to->g.2=b)->l.foldl (fun b g=>if zan g.1=zan to then g.2 else b) b=b
 | [],_,_=>rfl
 |g::l,b,h=>by
  rw[List.foldl_cons];by_cases e:zan g.1=zan to
  ·rw[if_pos e,h g (List.mem_cons_self ..) e];exact zd0 fun x hx=>h x (List.mem_cons_of_mem _ hx)
  ·rw[if_neg e];exact zd0 fun x hx=>h x (List.mem_cons_of_mem _ hx)
theorem zjL{to:Nm}:∀{l:List (Nm×List DatL)},zcI l->zcR to l=zcq to l
 | [],_=>rfl
 |g::l,h=>by
  unfold zcR zcq;rw[List.foldl_cons];by_cases e:zan g.1=zan to
  ·rw[if_pos e,if_pos e];exact zd0 fun x hx h3=>h x (List.mem_cons_of_mem _ hx) g (List.mem_cons_self ..) (h3.trans e.symm)
  ·rw[if_neg e,if_neg e];exact zjL fun a ha b hb=>h a (List.mem_cons_of_mem _ ha) b (List.mem_cons_of_mem _ hb)
theorem host_D{N:NetL}{r:ResL}{s:zao}{h:Nm}(hd:zcI r.glue):zfK N r s h=zdP N r s h:=by
 unfold zfK zdP ofR;rw[zjL hd];by_cases e:((zeq N h (zcq h r.glue)).length:Int)=0
 ·have e2:zeq N h (zcq h r.glue)=[]:=List.eq_nil_of_length_eq_zero (by omega);rw[if_pos e,e2];simp
 ·rw[if_neg e,List.append_nil,List.nil_append]
theorem refer_D{N:NetL}{r:ResL}{s:zao}(hd:zcI r.glue):zhD N s r=zei N s r:=by
 unfold zhD zei
 split
 ·rfl
 ·rw[show zay 2 r.data=r.data.filterMap (fun d=>d.names.head?) from rfl]
  congr 1
  exact funext fun h=>host_D hd
theorem next_D{N:NetL}{s:zao}{t:Int}(hk:(askN N s.sv s.name t).kind=1\/(askN N s.sv s.name t).kind=2\/(askN N s.sv s.name t).kind=3\/(askN N s.sv s.name t).kind=4\/(askN N s.sv s.name t).kind=5\/(askN N s.sv s.name t).kind=6\/(askN N s.sv s.name t).kind=7)
  (hd:zcI (askN N s.sv s.name t).glue):zlO N s t=zbx N s t:=by
 unfold zlO zbx;rw[refer_D hd]
 split
 ·rcases hk with h|h|h|h|h|h|h<;>simp[h]
 ·rfl
def zdv(r:ResL):Prop:=r.kind=1\/r.kind=2\/r.kind=3\/r.kind=4\/r.kind=5\/r.kind=6\/r.kind=7
theorem zim{R:List RecL}{n:Nm}{t:Int}{b:Bool}:zdv (atL R n t b):=by
 unfold atL zdv
 split
 ·simp
 ·split<;>simp
theorem zh0{o:Nm}{R:List RecL}{q:Nm}:∀{l:List Nm} {r:ResL},goL o R q l=some r->zdv r
 | [],r,h=>by cases h
 |n::l,r,h=>by
  unfold goL at h
  split at h
  ·cases h;exact .inr (.inr (.inr (.inl rfl)))
  ·split at h
   ·cases h
   ·cases hr:zaF R q n with
    |none=>rw[hr]at h;exact zh0 h
    |some x=>
     rw[hr]at h;cases h;unfold zaF at hr
     split at hr
     ·cases hr
     ·split at hr
      ·cases hr;unfold zdv;simp
      ·cases hr;unfold zdv;simp
theorem zlU{o:Nm}{R:List RecL}{q:Nm}{t:Int}:zdv (za2 o R q t):=by
 unfold za2
 split
 ·unfold zdv;simp
 ·cases hg:goL o R q (zba o q) with
  |some r=>
   dsimp only
   exact zh0 hg
  |none=>
   dsimp only
   split
   ·exact zim
   ·cases hs:zaW o R q with
    |some s=>
     dsimp only
     exact zim
    |none=>
     dsimp only
     unfold zdv;simp
theorem zj0{N:NetL}{s:Int}{q:Nm}{t:Int}:zdv (askN N s q t):=by
 unfold askN
 split
 ·cases (N.zones s)[(zbU N s q).1.toNat]? with
  |some z=>exact zlU
  |none=>unfold zdv;simp
 ·unfold zdv;simp
theorem zme{R:List RecL}{a b:Nm}(h:zan a=zan b):zbd R a=zbd R b:=by
 unfold zbd;rw[←zew (n:=a),←zew (n:=b),←zew (n:=a),←zew (n:=b),h]
theorem zdi:zcI []:=fun a h=>by cases h
theorem one_of{R:List RecL}{hs:List Nm}:zcI (zby R hs):=by
 have key:∀x∈zby R hs,x.2=zbd R x.1:=fun x hx=>by
  obtain⟨n,_,hn⟩:=List.mem_filterMap.1 hx
  split at hn
  ·cases hn
  ·cases hn;rfl
 intro a ha b hb h;rw[key a ha,key b hb,zme h]
theorem at_one{R:List RecL}{n:Nm}{t:Int}{b:Bool}:zcI (atL R n t b).glue:=by
 unfold atL
 split
 ·exact zdi
 ·split<;>exact zdi
theorem go_one{o:Nm}{R:List RecL}{q:Nm}:∀{l:List Nm} {r:ResL},goL o R q l=some r->zcI r.glue
 | [],r,h=>by cases h
 |n::l,r,h=>by
  unfold goL at h
  split at h
  ·cases h;exact one_of
  ·split at h
   ·cases h
   ·cases hr:zaF R q n with
    |none=>rw[hr]at h;exact go_one h
    |some x=>
     rw[hr]at h;cases h;unfold zaF at hr
     split at hr
     ·cases hr
     ·split at hr
      ·cases hr;exact zdi
      ·cases hr;exact zdi
theorem look_one{o:Nm}{R:List RecL}{q:Nm}{t:Int}:zcI (za2 o R q t).glue:=by
 unfold za2
 split
 ·exact zdi
 ·cases hg:goL o R q (zba o q) with
  |some r=>
   dsimp only
   exact go_one hg
  |none=>
   dsimp only
   split
   ·exact at_one
   ·cases hs:zaW o R q with
    |some s=>
     dsimp only
     exact at_one
    |none=>
     dsimp only
     exact zdi
theorem ask_one{N:NetL}{s:Int}{q:Nm}{t:Int}:zcI (askN N s q t).glue:=by
 unfold askN
 split
 ·cases (N.zones s)[(zbU N s q).1.toNat]? with
  |some z=>exact look_one
  |none=>exact zdi
 ·exact zdi
theorem next_DS{N:NetL}{s:zao}{t:Int}:zlO N s t=zbx N s t:=next_D zj0 ask_one
theorem zmd{o:Nm}{R:List RecL}{q:Nm}:∀{l:List Nm} {r:ResL},goL o R q l=some r->r.kind=4->∃c,r.data=datC R c 2
 | [],r,h,_=>by cases h
 |n::l,r,h,h4=>by
  unfold goL at h
  split at h
  ·cases h;exact⟨n,rfl⟩
  ·split at h
   ·cases h
   ·cases hr:zaF R q n with
    |none=>rw[hr]at h;exact zmd h h4
    |some x=>
     rw[hr]at h;cases h;unfold zaF at hr
     split at hr
     ·cases hr
     ·split at hr
      ·cases hr;cases h4
      ·cases hr;cases h4
theorem zlT{o:Nm}{R:List RecL}{q:Nm}{t:Int}(h4:(za2 o R q t).kind=4):∃c,(za2 o R q t).data=datC R c 2:=by
 have atN:∀{n:Nm} {b:Bool},(atL R n t b).kind≠4:=fun {n b} h=>by
  unfold atL at h
  split at h
  ·cases h
  ·split at h<;>cases h
 unfold za2 at h4 ⊢
 split at h4
 ·cases h4
 ·rename_i hu;rw[if_neg hu];cases hg:goL o R q (zba o q) with
  |some r=>
   rw[hg]at h4;exact zmd hg h4
  |none=>
   rw[hg]at h4
   dsimp only at h4
   split at h4
   ·exact absurd h4 atN
   ·cases hs:zaW o R q with
    |some s=>
     rw[hs]at h4;exact absurd h4 atN
    |none=>
     rw[hs]at h4;cases h4
theorem ask_lead{N:NetL}(hG:NetZ N){s:Int}{q:Nm}{t:Int}(mq:NmM q):LeadD (askN N s q t):=by
 intro h1 h2 h3 h6 h7 h5 d hd;have h4:(askN N s q t).kind=4:=by
  rcases zj0 (N:=N) (s:=s) (q:=q) (t:=t) with h|h|h|h|h|h|h<;>first|exact h|exact absurd h ‹_›
 have hF:=zkJ (s:=s) (t:=t) hG mq;have hh:d.names≠ []:=by
  unfold askN at h4 hd
  split at h4
  ·rename_i hb;rw[if_pos hb]at hd;cases hz:(N.zones s)[(zbU N s q).1.toNat]? with
   |none=>rw[hz]at h4;cases h4
   |some z=>
    rw[hz]at h4 hd;obtain⟨c,hc⟩:=zlT h4
    dsimp only at hd
    rw[hc]at hd;have gz:=(zbV hG).1 z (List.mem_of_getElem? hz);obtain⟨r,hr,hrd⟩:=zdH hd;have hl:=gz.gd.lead r hr (by rw[hrd,zeT hd];exact .inl rfl);intro hn;rw[hrd,hn]at hl;cases hl
  ·cases h4
 cases hn:d.names with
 |nil=>exact absurd hn hh
 |cons n l=>
  refine⟨n,l,rfl,hF.tg n ?_⟩;show n∈(askN N s q t).data.filterMap fun d=>d.names.head?;exact List.mem_filterMap.2 ⟨d,hd,by rw[hn];rfl⟩
structure StY(S:Nat->Prop)(w:World)(cs:List Value)(s:zao):Prop where
 ex:∃nv,cs=stV nv s/\RowY S w nv (s.name.map vs)
theorem StY.turn{S S':Nat->Prop}{w x:World}{cs:List Value}{s:zao}(h:StY S w cs s)(hk:Keep S w x)(hS:∀b,S' b->S b\/w.heap.size<=b):StY S' x cs s:=by
 obtain⟨nv,e,h1⟩:=h.ex;exact⟨nv,e,h1.turn hk hS⟩
theorem zjH{S S':Nat->Prop}{w x z:World}(h1:Keep S w x)(h2:Keep S' x z)(h:∀b,S' b->S b\/w.heap.size<=b):Keep S w z:=
 ⟨h2.os.trans h1.os,h2.tape.trans h1.tape,h2.output.trans h1.output,Nat.le_trans h1.size h2.size,fun b hb hs=>(h2.block b (Nat.lt_of_lt_of_le hb h1.size) fun hb'=>(h b hb').elim hs (by omega)).trans (h1.block b hb hs),Nat.le_trans h1.drawn h2.drawn⟩
theorem first_at{F:List MetL}{j:Nat}{k:Int}(hj:j<F.length)(hk:F[j].1.fin=k)(hno:∀y∈F.take j,y.1.fin≠k):zb9 F k=some F[j]:=by
 unfold zb9;refine List.find?_eq_some_iff_getElem.2 ⟨yet hk,j,hj,rfl,fun i hi=>?_⟩;have:=hno F[i] (List.mem_iff_getElem.2 ⟨i,by rw[List.length_take];omega,by rw[List.getElem_take]⟩);simp[this]
theorem RowG.keys{N:NetL}{i:Nat}{row:List MetL}{s:zao}(h:RowG N i row)(hs:GoodSt N s):(∀y∈row,NmM y.1.name)/\∀y∈row,zeA y.1 s=decide (keyS y.1=keyS s):=⟨fun y hy=>(zbp (h.g y hy).nm).m,fun y hy=>zkP (h.g y hy) hs⟩
theorem zje{w0 w:World}(hE0:Ext w0 w){cs:List Value}{N:NetL}{qv:Value}{q:Nm}{t:Int}(hN:NetAt w0 cs N)(hG:zbi N)(hq:Row w qv (q.map vs))(hgq:zcf q=true):
  Fn Tryz.prog 36 #[.agg cs.toArray,qv,vi t] w (fun v w'=>Ext w w'/\∃ev,v= .tuple #[ev,vi (numR N q t),vi (errR N q t)]/\Rows 2 (EndAt w') w' ev (zd3 N q t)):=by
 have hN0:=hN;obtain⟨hsv,rv,rfl,hh,hr⟩:=hN.ex;obtain⟨ah,ch,hhv,_⟩:=hh.open;obtain⟨ar0,cr0,hrv,_⟩:=id hr;have mq:=zbp hgq;refine enter Tryz.func36 Tryz.ntmps36 rfl rfl ?_;repeat refine c_r ?_
 rw[hhv,hrv];refine go trivial ?_;rw[←hhv,←hrv];refine zax ?_;intro w1 hE1 hs1 hA;have dN:zaq w1 (some ⟨w.heap.size,0,.none⟩) 4=some [hsv,rv,vi N.rw,vi N.rf]:=zaf hA rfl;refine go trivial ?_;refine rc dN (zkU (hE0.trans hE1) hN0 hG.z.rl (hq.ext hE1)) ?_;rintro sv w2 ⟨hE2,hsr,_⟩;have hE12:=hE1.trans hE2;have dN2:=zac hE2 dN;have hsl:(zbf N q).length<=1000:=by have:=hG.z.rl;unfold zbf zcM;rw[ylm];exact this
 have hgs:=zfB hG hgq;replace hsr:Rows 6 (StC w2) w2 sv (zbf N q):=hsr;obtain⟨L,hL⟩:∃L,zbf N q=L:=⟨_,rfl⟩;rw[hL]at hsr hsl hgs;obtain⟨aL,cL,rfl,_,hgL⟩:=hsr.open;refine rgo trivial ?_;have dE:∀a:Addr,adr (some a) 0=some a:=fun a=>zaj _;have hRG0:∀i,RowG N 1 (za9 [] 0 [] (L.take i)):=fun i=>RowG.meet ⟨fun y hy=>(by cases hy),fun y hy=>(by cases hy)⟩ (by simp) fun s hs=>hgs s (List.mem_of_mem_take hs);refine zat (Q:=fun e σ' ds' v=>e= .exit 0/\ds'=[]/\(σ' 3= .pointer (some ⟨w.heap.size,0,.none⟩)/\σ' 2=vi t)/\∃lv,σ' 9=lv/\RowD w2 v lv (za9 [] 0 [] L)) ?_ ?_
 ·refine zdd L.length (fun i σ v=>(σ 11=vi i/\σ 10= .slice aL L.length cL/\σ 3= .pointer (some ⟨w.heap.size,0,.none⟩)/\σ 2=vi t)/\∃lv,σ 9=lv/\RowD w2 v lv (za9 [] 0 [] (L.take i))) ?_ ?_ ?_
  ·exact⟨⟨vr0,vr0,vq0,vq0⟩,.slice .none 0 0,vr0,Owns.nil _ _ _ _ _,NoT.nil,Keep.refl _ _⟩
  ·rintro i σ v hi p ⟨s,lv,h9,hD⟩;obtain⟨cs6,hcs,hX⟩:=hgL i hi;have htk:L.take (i+1)=L.take i++ [L[i]]:=zal hi;have hgS:=hgs _ (List.getElem_mem hi);obtain⟨S,hS⟩:∃S,L[i]=S:=⟨_,rfl⟩;rw[hS]at hX htk hgS;obtain⟨nv,rfl,hnm⟩:=hX.ex;obtain⟨an,cn,hnv,_⟩:=id hnm;obtain⟨xs,rfl⟩:=yxs (zai hcs);obtain⟨xi,hxi⟩:∃xi,adr (some xs) (i*6)=some xi:=⟨_,rfl⟩;rw[hxi]at hcs;have gS:=zac hD.e hcs;unfold stV at gS;have mbd:∀ak nk ck,bdV Tryz.prog 172 [(0,.agg #[vi S.sv,nv,vi S.rw,vi S.rf,.bool S.ref,vi S.fin]),(1,.slice ak nk ck)]=some (.agg #[vi S.sv,nv,vi S.rw,vi S.rf,.bool S.ref,vi S.fin,.slice ak nk ck]):=by
    rw[hnv];intro ak nk ck;kernel_rfl
   refine go (an2 s p) ?_;refine rq ?_;intro gd K hgd hK;refine sgz (az5 s p h9 hxi gS) ?_;refine zcu (z:=vi 0) rfl rfl rfl rfl rfl ?_;intro y hy hsy ho;try simp only[go_sem]
   refine⟨by kernel_rfl,?_⟩;rw[mbd];try simp only[go_sem]
   have hDy:=hD.ext hy;have hRG:=hRG0 i;obtain⟨k1,k2⟩:=hRG.keys hgS;have hml:=zb8 (p:=[]) (k:=0) (L:=L.take i) (row:=[]);rw[List.length_take]at hml;have hM:MetAt (ownB lv) y (stV nv S++ [.slice (some ⟨v.heap.size,0,.none⟩) 1 1]) (S,[(i:Int)]):=by
    refine⟨nv,.slice (some ⟨v.heap.size,0,.none⟩) 1 1,rfl,hDy.off (hnm.ext hDy.e),ho.row,fun _ a n c e=>?_⟩;injection e with e1 e2 e3
    injection e1 with e1
    subst e1;exact⟨by show v.heap.size<_;omega,fun hb=>by have:=(hD.o.ge hb).2;exact absurd this (Nat.lt_irrefl _)⟩
   have hP:=zj5 hDy hM (zbp hgS.nm).m k1 k2 (by simp at hml;omega);refine Fn.mono hP ?_;rintro u z ⟨hDz,_,_⟩;try simp only[go_sem]
   apply hK;refine go (an2 s p) ?_;refine⟨rfl,sc (an2 s p),u,vr0,?_⟩;rw[htk,zdC,List.length_take,Nat.min_eq_left (by omega),yn0];exact hDz
  ·rintro σ v p ⟨s,lv,h9,hD⟩;rw[List.take_length]at hD;refine go (an2 s p) ?_;exact⟨rfl,rfl,sc s,lv,vq1 h9,hD⟩
 rintro _ σ1 _ w3 ⟨rfl,rfl,s,lv,h9,hD⟩;have hR0:=hRG0 L.length;rw[List.take_length]at hR0;have hl0:(za9 [] 0 [] L).length<=1000:=by have:=zb8 (p:=[]) (k:=0) (L:=L) (row:=[]);simp at this;omega
 obtain⟨F,hF⟩:∃F,zc5 N q t=F:=⟨_,rfl⟩;have hF0:zcG N t 4097 0 (za9 [] 0 [] L)=F:=by rw[←hF];unfold zc5;rw[hL]
 refine go s ?_;refine zat (Q:=fun e σ' ds' v=>ds'=[]/\Ext w v/\((e= .exit 2/\∃lv,σ' 9=lv/\RowD w2 v lv F/\RowG N 5000 F/\F.length<=2100000)\/(e= .ret/\4096<F.length/\σ' 6= .slice .none 0 0/\σ' 7=vi 0/\σ' 8=vi 11))) ?_ ?_
 ·refine zap (fun mm σ ds v=>ds=[]/\∃(i:Nat) (lv:Value) (row:List MetL),i+mm=4098/\(σ 12=vi i/\σ 3= .pointer (some ⟨w.heap.size,0,.none⟩)/\σ 2=vi t)/\σ 9=lv/\RowD w2 v lv row/\RowG N (i+1) row/\row.length<=2100000/\zcG N t (4097 - i) i row=F) 4098 ?_ ?_
  ·exact⟨rfl,0,lv,_,by omega,⟨vr0,vq1 s,vq1 s⟩,vq1 h9,hD,hR0,by omega,hF0⟩
  clear s h9 hD hR0 hl0 hF0;rintro mm σ ds v ⟨rfl,i,lv1,row,him,s,h9,hD,hRG,hrl,hFe⟩;obtain⟨al,cl,rfl,_,hgl⟩:=hD.o.rows.open;have hwv:=hE12.trans hD.e;by_cases hi:i<row.length
  rotate_left
  ·have hFr:row=F:=by
    rw[←hFe];cases hf:4097 - i with
    |zero=>rfl
    |succ f=>unfold zcG;rw[List.getElem?_eq_none (by omega)]
   have hd:decide ((i:Int)<(row.length:Int))=false:=yef (by omega);refine go (an3 s h9 hd) ?_;rw[←hFr];exact⟨rfl,hwv,.inl ⟨rfl,_,vq1 h9,hD,hRG.mono (by omega),hrl⟩⟩
  have hd:decide ((i:Int)<(row.length:Int))=true:=yet (by omega);by_cases hm4:row.length<=4096
  rotate_left
  ·have hFr:row=F:=by
    rw[←hFe];cases hf:4097 - i with
    |zero=>rfl
    |succ f=>unfold zcG;rw[List.getElem?_eq_getElem hi];simp only[];rw[if_neg hm4]
   have hd2:decide ((row.length:Int)>4096)=true:=yet (by omega);refine go (an4 s h9 hd hd2) ?_;rw[←hFr];exact⟨rfl,hwv,.inr ⟨rfl,by omega,vr0,vr0,vr0⟩⟩
  have hd2:decide ((row.length:Int)>4096)=false:=yef (by omega);obtain⟨f,hf⟩:∃f,4097 - i=f+1:=⟨4096 - i,by omega⟩;obtain⟨cs7,hcs,hMt⟩:=hgl i hi;have hmem:=List.getElem_mem hi;have hFn:zcG N t f (i+1) (za9 row[i].2 0 row (zbx N row[i].1 t))=F:=by
   rw[←hFe,hf]
   conv=>rhs;unfold zcG
   rw[List.getElem?_eq_getElem hi];simp only[];rw[if_pos hm4]
  have hXat:row[i]? =some row[i]:=List.getElem?_eq_getElem hi;obtain⟨X,hX⟩:∃X,row[i]=X:=⟨_,rfl⟩;rw[hX]at hMt hmem hFn hXat;have gX:=hRG.g X hmem;have pX:=hRG.p X hmem;obtain⟨nv,pv,rfl,hnv,hpv⟩:=id hMt.ex;obtain⟨xa,rfl⟩:=yxs (zai hcs);obtain⟨xi,hxi⟩:∃xi,adr (some xa) (i*7)=some xi:=⟨_,rfl⟩;rw[hxi]at hcs;have gS:=zbv (m:=6) (k:=1) hcs;rw[show (stV nv X.1++ [pv]).take 6=stV nv X.1 from rfl]at gS;have hi0:=cj i;have hi1:(i:Int)<(row.length:Int):=by omega
  have hi1':=ci i;have dNv:=zac hD.e dN2;have hnl:=zhT (t:=t) hG gX;have hng:∀s∈zbx N X.1 t,GoodSt N s:=fun s hs=>(zgr hG gX hs).2.g;refine go (an4 s h9 hd hd2) ?_;refine zat (Q:=fun e σ' ds' v'=>e= .normal/\ds'=[]/\(σ' 12=vi i/\σ' 3= .pointer (some ⟨w.heap.size,0,.none⟩)/\σ' 2=vi t/\σ' 9= .slice (some xa) row.length cl)/\Ext v v'/\∃sv,σ' 13=sv/\Rows 6 (StC v') v' sv (zbx N X.1 t)/\BlkB v.heap.size v' sv) ?_ ?_
  ·refine zaH (fun _=>false) [(0,true),(1,true),(2,true),(3,true),(4,true),(5,true),(6,true),(7,false),(8,true)] NoS mixed (by kernel_rfl) ?_;intro gd K x hgd hx hxe hK;clear hxe;have gSx:=zac hx gS;have dNx:=zac hx dNv;unfold stV at gSx;refine sgz (az2 (az7 s h9 gSx dNx hxi dE hi0) hi1) ?_;refine Fn.mono (zmR (t:=t) (sc:=stV nv X.1) (hE0.trans (hwv.trans hx)) hN0 hG.z ⟨nv,rfl,hnv.1.ext hx⟩ (gX.b hG) (ask_lead hG.z (zbp gX.nm).m)) ?_;rintro sv2 y ⟨hy,hsr2,hsb2⟩;rw[next_DS]at hsr2;refine⟨.inr hy,?_⟩;refine sg0 ?_;apply hK;exact⟨rfl,rfl,sc (an2 s h9),hx.trans hy,sv2,vr0,hsr2,hsb2.mono hx.size⟩
  clear s h9;rintro _ σ2 _ y ⟨rfl,rfl,s,hvy,sv2,h13,hsr2,hsb2⟩;obtain⟨L2,hL2⟩:∃L2,zbx N X.1 t=L2:=⟨_,rfl⟩;rw[hL2]at hsr2 hnl hng hFn;obtain⟨a2,c2,hsv2,_⟩:=hsr2.open;rw[hsv2]at h13;have hDy:=hD.ext hvy;have hrY:Rows 6 (StY (ownB (.slice (some xa) row.length cl)) y) y sv2 L2:=hsr2.to fun cs s h=>by
   obtain⟨nv,e,h1⟩:=h.ex;exact⟨nv,e,hDy.off h1⟩
  have hownlt:∀b,ownB (.slice (some xa) row.length cl) b->b<v.heap.size:=fun b hb=>(hD.o.ge hb).2;have hvys:=hvy.size;refine go (an2 s h13) ?_;have hRG2:∀j,RowG N (i+1+1) (za9 X.2 0 row (L2.take j)):=fun j=>(hRG.mono (j:=i+1+1) (by omega)).meet (by omega) fun s hs=>hng s (List.mem_of_mem_take hs);refine zat (Q:=fun e σ' ds' v'=>e= .exit 4/\ds'=[]/\(σ' 12=vi i/\σ' 3= .pointer (some ⟨w.heap.size,0,.none⟩)/\σ' 2=vi t)/\∃lv',σ' 9=lv'/\RowD w2 v' lv' (za9 X.2 0 row L2)) ?_ ?_
  ·refine zdd L2.length (fun j σ v'=>(σ 14=vi j/\σ 13= .slice a2 L2.length c2/\σ 12=vi i/\σ 3= .pointer (some ⟨w.heap.size,0,.none⟩)/\σ 2=vi t)/\∃lv',σ 9=lv'/\RowD w2 v' lv' (za9 X.2 0 row (L2.take j))/\Keep (ownB (.slice (some xa) row.length cl)) y v'/\∀b,ownB lv' b->ownB (.slice (some xa) row.length cl) b\/y.heap.size<=b) ?_ ?_ ?_
   ·exact⟨⟨vr0,vq1 h13,vq1 s,vq1 s,vq1 s⟩,_,vq1 s,hDy,Keep.refl _ _,fun b hb=> .inl hb⟩
   ·clear s h13;rintro j σ A hj p ⟨s,lv2,h9,hD2,hk,hS2⟩;have hkz:=hk.size;have hrA:Rows 6 (StY (ownB lv2) A) A sv2 L2:=(hrY.blocks fun a n c e=>hk.block _ (hsb2 a n c e).2 fun hb=>by have:=hownlt _ hb;have:=(hsb2 a n c e).1;omega).to fun _ _ h=>h.turn hk hS2;obtain⟨a',c',e',_,hgA⟩:=hrA.open;rw[hsv2,Value.slice.injEq]at e';obtain⟨rfl,_,rfl⟩:=e';obtain⟨cs6,hc6,hSt⟩:=hgA j hj;have htk:L2.take (j+1)=L2.take j++ [L2[j]]:=zal hj;have hgS:=hng _ (List.getElem_mem hj);obtain⟨S,hS⟩:∃S,L2[j]=S:=⟨_,rfl⟩;rw[hS]at hSt htk hgS;obtain⟨ns,rfl,hns⟩:=hSt.ex;obtain⟨an,cn,hnse,_⟩:=id hns.1;obtain⟨xs,rfl⟩:=yxs (zai hc6);obtain⟨xj,hxj⟩:∃xi,adr (some xs) (j*6)=some xi:=⟨_,rfl⟩;rw[hxj]at hc6;have hxjb:xj.block<A.heap.size:=zdI hc6 (by decide) rfl
    -- the row's own one
    have hRG':=hRG2 j;obtain⟨Ex,hEx,_⟩:=zdj (p:=X.2) (L2.take j) 0 row;have hat:(za9 X.2 0 row (L2.take j))[i]? =some X:=by rw[hEx,List.getElem?_append_left hi];exact hXat
    have hml:=zb8 (p:=X.2) (k:=0) (L:=L2.take j) (row:=row);rw[List.length_take]at hml;obtain⟨R,hR⟩:∃R,za9 X.2 0 row (L2.take j)=R:=⟨_,rfl⟩;rw[hR]at hD2 hat hRG' hml;obtain⟨hiR,hXR⟩:=List.getElem?_eq_some_iff.1 hat;obtain⟨ar2,cr2,hlv2,_,hgR⟩:=hD2.o.rows.open;obtain⟨c7,hc7,hM7⟩:=hgR i hiR;rw[hXR]at hM7;obtain⟨n7,p7,rfl,_,hp7⟩:=hM7.ex;obtain⟨ap7,cp7,hp7e,_⟩:=id hp7.1;obtain⟨xr,rfl⟩:=yxs (zai hc7);obtain⟨xk,hxk⟩:∃xi,adr (some xr) (i*7)=some xi:=⟨_,rfl⟩;rw[hxk]at hc7;have hxkb:xk.block<A.heap.size:=zdI hc7 (by decide) rfl;obtain⟨x6,hx6⟩:∃x,adr (some xk) 6=some x:=⟨_,rfl⟩;have g6:=zah (j:=6) hc7 rfl;rw[hx6]at g6;have hx6b:x6.block<A.heap.size:=zct g6;have hiR0:(i:Int)<(R.length:Int):=by omega
    have mbd:∀ak nk ck,bdV Tryz.prog 172 [(0,.agg #[vi S.sv,ns,vi S.rw,vi S.rf,.bool S.ref,vi S.fin]),(1,.slice ak nk ck)]=some (.agg #[vi S.sv,ns,vi S.rw,vi S.rf,.bool S.ref,vi S.fin,.slice ak nk ck]):=by
     rw[hnse];intro ak nk ck;kernel_rfl
    obtain⟨k1,k2⟩:=hRG'.keys hgS;have fin:∀(z:World) (kv:Value),Ext A z->Own A.heap.size z 3 kv ((X.2++ [(j:Int)]).map vi)->Fn Tryz.prog 86 #[lv2,.agg (stV ns S++ [kv]).toArray] z (fun u z'=>RowD w2 z' u (putL R (S,X.2++ [(j:Int)]))/\Keep (ownB lv2) z z'/\∀i,ownB u i->ownB lv2 i\/z.heap.size<=i):=fun z kv hz ho=>by
     refine zj5 (X:=(S,X.2++ [(j:Int)])) (hD2.ext hz) ⟨ns,kv,rfl,hns.turn (hz.mono fun _ _ h=>h.elim) fun _ h=> .inl h,ho.row,fun _ a n c e=>?_⟩ (zbp hgS.nm).m k1 k2 (by omega);have hb:=ho.ge (b:=a.block) (by rw[e];rfl);exact⟨hb.2,fun h=>by have:=(hD2.o.ge h).2;omega⟩
    refine go (an2 s p) ?_;refine zat (Q:=fun e σ' ds' v'=>e= .normal/\ds'=[]/\(σ' 14=vi j/\σ' 13= .slice (some xs) L2.length c2/\σ' 12=vi i/\σ' 3= .pointer (some ⟨w.heap.size,0,.none⟩)/\σ' 2=vi t)/\∃z lv',Ext A z/\σ' 9=lv'/\RowD w2 v' lv' (putL R (S,X.2++ [(j:Int)]))/\Keep (ownB lv2) z v'/\∀i,ownB lv' i->ownB lv2 i\/z.heap.size<=i) ?_ ?_
    ·refine zdX (fun i=>i==16) (.run [(0,true),(1,true),(2,true),(3,true),(4,true),(6,true),(7,true),(8,true),(9,true),(10,true),(12,true)] (.fork 6 [5,13] (fun i=>if i=5 then(.run [] (.fork 5 [11,13] (fun i=>if i=11 then(.run [(13,false),(14,false),(15,true),(16,false),(17,true)] .fin) else(.run [(11,false),(14,false),(15,true),(16,false),(17,true)] .fin)))) else(.run [(5,false),(11,false),(14,false),(15,true),(16,false),(17,true)] .fin)))) (zbz A.heap.size) mixed (by kernel_rfl) ?_;intro gd K x hgd hx hxe hK;have hx0:=zd4 hxe;clear hxe;have c6x:=zac hx0 hc6;have g6x:=zaa hx0 g6;unfold stV at c6x;rw[hlv2]at h9;have hxs:=hx0.size;refine sgz (az2 (az7 s p h9 hi0 hiR0 hxj hxk) (az4 hx6 c6x g6x dE)) ?_;refine⟨zcO hxjb,zcO hx6b,?_⟩;have hvi:∀q∈X.2.map vi,one q=true:=fun q hq=>by obtain⟨x,_,rfl⟩:=List.mem_map.1 hq;rfl
     simp only[zaT,za4];refine⟨?_,?_⟩
     ·refine sg0 ?_;refine zgG (z:=vi 0) rfl rfl rfl rfl ?_;intro y1 hy1 hs1' ho1;refine⟨.inr hy1.keep,?_⟩;refine sg0 ?_;simp only[zaT,za4];refine⟨?_,?_⟩
      ·refine sg0 ?_;refine zbM (B:=A.heap.size) (ho1.mono hxs) (hp7.1.ext (hx0.trans hy1)) rfl rfl rfl rfl rfl rfl vr0 vr0 hvi (by simp;omega) (by decide) (by omega) ?_;intro u2 y2 ho2 hE2' hk2 hb2;refine⟨.inr (hk2.mono fun b _ hb=>?_),?_⟩
       ·have:=(ho1.ge hb).1;show _<=_;omega
       have hA2:=hE2' A (hx0.trans hy1) (ynl _);have hy2s:=hk2.size;refine sg0 ?_;refine zcu (z:=vi 0) rfl rfl rfl rfl rfl ?_;intro y3 hy3 hs3 ho3;refine⟨.inr hy3.keep,?_⟩;have hy3s:=hy3.size;refine sg0 ?_;refine zbM (B:=A.heap.size) (ho2.ext hy3) ho3.row rfl rfl rfl rfl rfl rfl vr0 vr0 (fun q hq=>by rw[List.mem_singleton.1 hq];rfl) (by simp;omega) (by decide) (by omega) ?_;intro u4 y4 ho4 hE4 hk4 hb4;refine⟨.inr (hk4.mono fun b _ hb=>(ho2.ge hb).1),?_⟩;have hA4:=hE4 A (hA2.trans hy3) (ynl _);refine sg0 ?_;refine⟨by kernel_rfl,?_⟩;obtain⟨ak,ck,hke⟩:=ho4.slice;rw[hke,mbd,←hke];refine sg0 ?_;have hP:=fin y4 u4 hA4 (by simpa using ho4);rw[←hlv2];refine Fn.mono hP ?_;rintro u5 z ⟨hDz,hkz,hSz⟩;refine⟨.inl rfl,?_⟩;refine sg0 ?_;apply hK;exact⟨rfl,rfl,sc s,y4,u5,hA4,vr0,hDz,hkz,hSz⟩
      ·refine sg0 ?_;refine zcu (z:=vi 0) rfl rfl rfl rfl rfl ?_;intro y3 hy3 hs3 ho3;refine⟨.inr hy3.keep,?_⟩;have hy3s:=hy3.size;refine sg0 ?_;refine zbM (B:=A.heap.size) ((ho1.mono hxs).ext hy3) (hp7.1.ext (hx0.trans (hy1.trans hy3))) rfl rfl rfl rfl rfl rfl vr0 vr0 hvi (by simp;omega) (by decide) (by omega) ?_;intro u2 y2 ho2 hE2' hk2 hb2;refine⟨.inr (hk2.mono fun b _ hb=>?_),?_⟩
       ·have:=(ho1.ge hb).1;show _<=_;omega
       have hA2:=hE2' A (hx0.trans (hy1.trans hy3)) (ynl _);have hy2s:=hk2.size;have ho3':=ho3.keep hk2 fun b hb hb2=>by simp[Value.ownBlock]at hb hb2;omega
       refine sg0 ?_;refine zbM (B:=A.heap.size) ho2 ho3'.row rfl rfl rfl rfl rfl rfl vr0 vr0 (fun q hq=>by rw[List.mem_singleton.1 hq];rfl) (by simp;omega) (by decide) (by omega) ?_;intro u4 y4 ho4 hE4 hk4 hb4;refine⟨.inr (hk4.mono fun b _ hb=>(ho2.ge hb).1),?_⟩;have hA4:=hE4 A hA2 (ynl _);refine sg0 ?_;refine⟨by kernel_rfl,?_⟩;obtain⟨ak,ck,hke⟩:=ho4.slice;rw[hke,mbd,←hke];refine sg0 ?_;have hP:=fin y4 u4 hA4 (by simpa using ho4);rw[←hlv2];refine Fn.mono hP ?_;rintro u5 z ⟨hDz,hkz,hSz⟩;refine⟨.inl rfl,?_⟩;refine sg0 ?_;apply hK;exact⟨rfl,rfl,sc s,y4,u5,hA4,vr0,hDz,hkz,hSz⟩
     ·refine sg0 ?_;refine zcu (z:=vi 0) rfl rfl rfl rfl rfl ?_;intro y3 hy3 hs3 ho3;refine⟨.inr hy3.keep,?_⟩;have hy3s:=hy3.size;refine sg0 ?_;refine zgG (z:=vi 0) rfl rfl rfl rfl ?_;intro y1 hy1 hs1' ho1;refine⟨.inr hy1.keep,?_⟩;refine sg0 ?_;refine zbM (B:=A.heap.size) (ho1.mono (Nat.le_trans hxs hy3s)) (hp7.1.ext (hx0.trans (hy3.trans hy1))) rfl rfl rfl rfl rfl rfl vr0 vr0 hvi (by simp;omega) (by decide) (by omega) ?_;intro u2 y2 ho2 hE2' hk2 hb2;refine⟨.inr (hk2.mono fun b _ hb=>?_),?_⟩
      ·have:=(ho1.ge hb).1;show _<=_;omega
      have hA2:=hE2' A (hx0.trans (hy3.trans hy1)) (ynl _);have hy2s:=hk2.size;have ho3':=(ho3.ext hy1).keep hk2 fun b hb hb2=>by simp[Value.ownBlock]at hb hb2;omega
      refine sg0 ?_;refine zbM (B:=A.heap.size) ho2 ho3'.row rfl rfl rfl rfl rfl rfl vr0 vr0 (fun q hq=>by rw[List.mem_singleton.1 hq];rfl) (by simp;omega) (by decide) (by omega) ?_;intro u4 y4 ho4 hE4 hk4 hb4;refine⟨.inr (hk4.mono fun b _ hb=>(ho2.ge hb).1),?_⟩;have hA4:=hE4 A hA2 (ynl _);refine sg0 ?_;refine⟨by kernel_rfl,?_⟩;obtain⟨ak,ck,hke⟩:=ho4.slice;rw[hke,mbd,←hke];refine sg0 ?_;have hP:=fin y4 u4 hA4 (by simpa using ho4);rw[←hlv2];refine Fn.mono hP ?_;rintro u5 z ⟨hDz,hkz,hSz⟩;refine⟨.inl rfl,?_⟩;refine sg0 ?_;apply hK;exact⟨rfl,rfl,sc s,y4,u5,hA4,vr0,hDz,hkz,hSz⟩
    clear s h9;rintro _ σ3 _ v5 ⟨rfl,rfl,s,z,lv5,hAz,h9,hD5,hk5,hS5⟩;refine go (an2 s p) ?_;refine⟨rfl,sc (an2 s p),lv5,vq1 h9,?_,zjH (zjH hk hAz fun _ h=>h.elim) hk5 hS2,fun b hb=>?_⟩
    ·rw[htk,zdC,List.length_take,Nat.min_eq_left (by omega),yn0,hR];exact hD5
    ·rcases hS5 b hb with h|h
     ·exact hS2 b h
     ·have:=hAz.size;exact .inr (by omega)
   ·rintro σ A p ⟨s,lv2,h9,hD2,hk,hS2⟩;rw[List.take_length]at hD2;refine go (an2 s p) ?_;exact⟨rfl,rfl,sc s,lv2,vq1 h9,hD2⟩
  clear s h13;rintro _ σ3 _ v5 ⟨rfl,rfl,s,lv5,h9,hD5⟩;have hml:=zb8 (p:=X.2) (k:=0) (L:=L2) (row:=row);have hRGn:=hRG2 L2.length;rw[List.take_length]at hRGn;refine go (an2 s hi1') ?_;exact⟨mm - 1,by omega,rfl,i+1,lv5,_,by omega,sc (an2 s hi1'),vq1 h9,hD5,hRGn,by omega,by rw[show 4097 - (i+1)=f by omega];exact hFn⟩
 clear s h9 hD;rintro e σ ds v ⟨rfl,hEv,(⟨rfl,lv,h9,hD,hRG,hFl⟩| ⟨rfl,h4,s6,s7,s8⟩)⟩
 rotate_left
 ·refine go trivial ?_;refine zas (.inr rfl) Tryz.ntmps36 rfl (zam (v:= .slice .none 0 0) ((vq1 s6)) (zam (v:=vi 0) ((vq1 s7)) (zam (v:=vi 11) ((vq1 s8)) zar))) ?_;unfold numR errR zd3;rw[hF,if_pos h4,if_pos h4,if_pos h4];exact⟨hEv,_,rfl,Rows.nil _ _ _⟩
 obtain⟨al,cl,rfl,_,hgl⟩:=hD.o.rows.open;by_cases h4:(F.length:Int)>4096
 ·refine go (an2 h9 (yet h4)) ?_;refine zas (.inr rfl) Tryz.ntmps36 rfl (zam (v:= .slice .none 0 0) vr0 (zam (v:=vi 0) vr0 (zam (v:=vi 11) vr0 zar))) ?_;unfold numR errR zd3;rw[hF,if_pos (by omega),if_pos (by omega),if_pos (by omega)];exact⟨hEv,_,rfl,Rows.nil _ _ _⟩
 refine go (an2 h9 (yef h4)) ?_;refine zat (Q:=fun e' σ' ds' v'=>e'= .exit 6/\ds'=[]/\σ' 9= .slice al F.length cl/\∃ev,σ' 15=ev/\Ext v v'/\Owns 2 (EndAt v) v.heap.size v' 77 ev (zev F 9)) ?_ ?_
 ·refine zdd 9 (fun i σ x=>(σ 16=vi ((i+1:Nat):Int)/\σ 9= .slice al F.length cl)/\∃ev,σ 15=ev/\Ext v x/\Owns 2 (EndAt v) v.heap.size x 77 ev (zev F i)) ?_ ?_ ?_
  ·exact⟨⟨vr0,vq1 h9⟩,.slice .none 0 0,vr0,Keep.refl _ _,Owns.nil _ _ _ _ _⟩
  ·rintro i σ x hi _ ⟨s,ev,h15,hEx,ho⟩;have hd:decide (((i+1:Nat):Int)<=9)=true:=yet (by omega);have hi1:((i+1:Nat):Int)+1=((i+1+1:Nat):Int):=by push_cast;rfl
   refine go (an3 s h15 hd) ?_;refine zat (Q:=fun e' σ' ds' x'=>e'= .exit 8/\ds'=[]/\(σ' 16=vi ((i+1:Nat):Int)/\σ' 9= .slice al F.length cl)/\∃ev,σ' 15=ev/\Ext v x'/\Owns 2 (EndAt v) v.heap.size x' 77 ev (zev F (i+1))) ?_ ?_
   ·refine zdd F.length (fun j σ x'=>(σ 17=vi j/\σ 16=vi ((i+1:Nat):Int)/\σ 9= .slice al F.length cl/\σ 15=ev)/\Ext v x'/\Owns 2 (EndAt v) v.heap.size x' 77 ev (zev F i)/\∀y∈F.take j,y.1.fin≠((i+1:Nat):Int)) ?_ ?_ ?_
    ·exact⟨⟨vr0,vq1 s,vq1 s,vq1 h15⟩,hEx,ho,fun y hy=>by simp at hy⟩
    ·clear s h15 hEx ho;rintro j σ z hj p ⟨s,hEz,ho,hno⟩;obtain⟨c7,hc7,hM⟩:=hgl j hj;have hfa:=fun h=>first_at (k:=((i+1:Nat):Int)) hj h hno;have htk:F.take (j+1)=F.take j++ [F[j]]:=zal hj;obtain⟨Y,hY⟩:∃Y,F[j]=Y:=⟨_,rfl⟩;rw[hY]at hM hfa htk;obtain⟨ny,py,rfl,_,hpy⟩:=hM.ex;obtain⟨ap,cp,hpe,_⟩:=id hpy.1;obtain⟨xa,rfl⟩:=yxs (zai hc7);obtain⟨xi,hxi⟩:∃xi,adr (some xa) (j*7)=some xi:=⟨_,rfl⟩;rw[hxi]at hc7;obtain⟨x5,hx5⟩:∃x,adr (some xi) 5=some x:=⟨_,rfl⟩;obtain⟨x6,hx6⟩:∃x,adr (some xi) 6=some x:=⟨_,rfl⟩;have g5:=zah (j:=5) hc7 rfl;have g6:=zah (j:=6) hc7 rfl;rw[hx5]at g5;rw[hx6]at g6;replace g5:=zaa hEz g5;replace g6:=zaa hEz g6;by_cases hf:Y.1.fin=((i+1:Nat):Int)
     ·refine go (an2 s p) ?_;refine go (an8 s p hxi dE hx5 g5 (yet hf) hx6) ?_;have hEA:EndAt v [vi ((i+1:Nat):Int),py] (((i+1:Nat):Int),Y.2):=⟨py,rfl,hpy.1⟩;have kbd:∀n:Int,bdV Tryz.prog 77 [(0,vi n),(1,py)]=some (.agg #[vi n,py]):=fun n=>by rw[hpe];kernel_rfl
      refine rq ?_;intro gd K hgd hK;refine sgz (az6 s p hxi dE hx6 g6) ?_;refine⟨by kernel_rfl,?_⟩;rw[kbd];refine sgz s ?_;refine zaL (zcT v) rfl rfl rfl rfl hEA (by decide) ?_;intro y2 hE2' hs2 ho2;try simp only[go_sem]
      refine zaC (zcT v) (ho.ext hE2') ho2.rows rfl rfl rfl rfl rfl rfl (by decide) ((vq1 s)) vr0 (by have:=zfS F i;rw[List.length_singleton];omega) (by decide) (by have:=hEz.size;omega) ?_;intro u y3 ho3 hE3 hk3 hb3;try simp only[go_sem]
      apply hK;refine go trivial ?_;exact⟨rfl,rfl,sc s,u,vr0,hE3 v (hEz.trans hE2') (ynl _),by rw[zcS,hfa hf];exact ho3⟩
     ·refine go (an2 s p) ?_;refine go (an7 s p hxi dE hx5 g5 (yef hf)) ?_;refine⟨rfl,sc (an2 s p),hEz,ho,fun y hy=>?_⟩;rw[htk]at hy;rcases List.mem_append.1 hy with hy|hy
      ·exact hno y hy
      ·rw[List.mem_singleton.1 hy];exact hf
    ·clear s h15 hEx ho;rintro σ z p ⟨s,hEz,ho,hno⟩;rw[List.take_length]at hno;have hnone:zb9 F ((i+1:Nat):Int)= .none:=List.find?_eq_none.2 fun y hy e=>hno y hy (of_decide_eq_true e);refine go (an2 s p) ?_;exact⟨rfl,rfl,sc s,ev,vq1 s,hEz,by rw[zcS,hnone];simpa using ho⟩
   clear s h15 hEx ho;rintro _ σ1 _ z ⟨rfl,rfl,s,ev,h15,hEz,ho⟩;refine go (an2 s hi1) ?_;exact⟨rfl,sc (an2 s hi1),ev,vq1 h15,hEz,ho⟩
  ·rintro σ x _ ⟨s,ev,h15,hEx,ho⟩;have hd:decide (((9+1:Nat):Int)<=9)=false:=by decide
   refine go (an3 s h15 hd) ?_;exact⟨rfl,rfl,vq1 s,ev,vq1 h15,hEx,ho⟩
 clear h9;rintro _ σ1 _ z ⟨rfl,rfl,h9,ev,h15,hEz,ho⟩;refine go (an2 h9 h15) ?_;refine zas (.inr rfl) Tryz.ntmps36 rfl (zam (v:=ev) vr0 (zam (v:=vi F.length) vr0 (zam (v:=vi 0) vr0 zar))) ?_;unfold numR errR zd3;rw[hF,if_neg (by omega),if_neg (by omega),if_neg (by omega)];exact⟨hEv.trans hEz,ev,rfl,(ho.to fun _ _ h=>h.ext hEz).rows⟩
theorem zlo{w:World}{v:Value}{kd:IntKind}{ps:List Int}(h:Row w v (ps.map (.int kd))):∃a c,v= .slice a ps.length c/\∀i (hi:i<ps.length),∃x,a=some x/\zad w (adr (some x) i)=some (.int kd ps[i]):=by
 obtain⟨a,c,rfl,_,hg⟩:=h;refine⟨a,c,by rw[ylm],fun i hi=>?_⟩;have g:=hg i (by rw[ylm];exact hi);rw[List.getElem_map]at g;obtain⟨x,rfl⟩:=yxs (zag g);exact⟨x,rfl,g⟩
theorem Less_int(w:World)(a b:Int):Fn Tryz.prog 189 #[vi a,vi b] w (fun v w'=>v= .bool (decide (a<b))/\w'=w):=by
 refine enter Tryz.func189 Tryz.ntmps189 rfl rfl ?_;refine go trivial ?_;refine rcg [(2,7),(7,12)] trivial (N_int.isNaN_ok w a) ?_;rintro _ _ ⟨rfl,rfl⟩;refine reg [(2,7),(7,12)] trivial ?_;refine go trivial ?_;refine rt0 Tryz.ntmps189 ?_;exact⟨rfl,rfl⟩
theorem zkr{w:World}{a:Option Addr}{c:Nat}{l:List Int}(hl:l.length<=12)(hr:Row w (.slice a l.length c) (l.map vi))(hs:∀i (h:i+1<l.length),l[i]<=l[i+1]):
  Fn Tryz.prog 183 #[.slice a l.length c,vi 0,vi l.length] w (fun _ w'=>Ext w w'):=by
 have hg:∀i (hi:i<l.length),∃x,a=some x/\zad w (adr (some x) i)=some (vi l[i]):=by
  obtain⟨a',c',e,_,hg⟩:=hr;rw[Value.slice.injEq]at e;obtain⟨rfl,_,rfl⟩:=e;intro i hi;have g:=hg i (by rw[ylm];exact hi);rw[List.getElem_map]at g;obtain⟨x,rfl⟩:=yxs (zag g);exact⟨x,rfl,g⟩
 refine enter Tryz.func183 Tryz.ntmps183 rfl rfl ?_;refine go (show(0:Int)+1=1 from rfl) ?_;refine zap (fun m σ ds v=>ds=[]/\∃i:Nat,l.length<=i+1+m/\(σ 6=vi ((i+1:Nat):Int)/\σ 0= .slice a l.length c/\σ 1=vi 0/\σ 2=vi l.length)/\Ext w v) l.length ⟨rfl,0,by omega,⟨vr0,vq0,vq0,vq0⟩,Keep.refl _ _⟩ ?_;rintro m σ ds v ⟨rfl,i,him,s,hE⟩;by_cases hi:i+1<l.length
 rotate_left
 ·refine go (an2 s (show decide (((i+1:Nat):Int)<(l.length:Int))=false from yef (by omega))) ?_;exact zaz (by simp) rfl hE
 obtain⟨x0,rfl,g0⟩:=hg i (by omega);obtain⟨x1,e1,g1⟩:=hg (i+1) hi;cases e1;have hlt:decide (((i+1:Nat):Int)<(l.length:Int))=true:=yet (by omega);have hi1:((i+1:Nat):Int)+1=((i+1+1:Nat):Int):=by push_cast;rfl
 refine go (an2 s hlt) ?_;refine zap (fun m σ ds v=>ds=[]/\(σ 7=vi ((i+1:Nat):Int)/\σ 6=vi ((i+1:Nat):Int)/\σ 0= .slice (some x0) l.length c/\σ 1=vi 0/\σ 2=vi l.length)/\Ext w v) 0 ⟨rfl,⟨vr0,vq1 s,vq1 s,vq1 s,vq1 s⟩,hE⟩ ?_;clear s hE;rintro m0 σ ds v ⟨rfl,s,hE⟩;refine go trivial ?_;refine zat (Q:=fun e σ' ds' v'=>e= .normal/\ds'=[]/\(σ' 7=vi ((i+1:Nat):Int)/\σ' 6=vi ((i+1:Nat):Int)/\σ' 0= .slice (some x0) l.length c/\σ' 1=vi 0/\σ' 2=vi l.length)/\Ext v v'/\σ' 30= .bool false) ?_ ?_
 ·refine zaH (fun _=>false) [(0,true),(1,true),(2,true),(3,true),(4,true),(5,true),(6,true),(7,true),(8,true),(9,true),(10,true),(11,true),(12,true),(13,false),(14,true)] NoS mixed (by kernel_rfl) ?_;intro gd K x hgd hx hxe hK;clear hxe;have hg3:=gk 3 19 hgd rfl;have e0:=zaa (hE.trans hx) g0;have e1:=zaa (hE.trans hx) g1;have h1:decide (((i+1:Nat):Int)>0)=true:=yet (by omega);have hsub:((i+1:Nat):Int) - 1=(i:Int):=by omega
  have hj0:=cj i;have hj1:(i:Int)<(l.length:Int):=by omega
  have hk0:(0:Int)<=((i+1:Nat):Int):=by omega
  have hk1:((i+1:Nat):Int)<(l.length:Int):=by omega
  simp (disch:=first|omega|assumption|rfl) only[go_sem,s,h1,hsub,hj0,hj1,hk0,hk1,e0,e1,za3,↓hg3];refine Fn.mono (Less_int x l[i+1] l[i]) ?_;rintro _ _ ⟨rfl,rfl⟩;refine⟨.inr (Keep.refl _ _),?_⟩;rw[show decide (l[i+1]<l[i])=false from yef (by have:=hs i hi;omega)];simp (disch:=first|omega|assumption|rfl) only[go_sem,za3,↓hg3];apply hK;exact⟨rfl,rfl,sc s,hx,vr0⟩
 clear s;rintro _ σ1 _ v1 ⟨rfl,rfl,s,hv1,s30⟩;refine go (an3 s s30 hi1) ?_;exact⟨m - 1,by omega,rfl,i+1,by omega,sc (an2 s hi1),hE.trans hv1⟩
theorem zkk{w:World}{a:Option Addr}{c:Nat}{l:List Int}{k:Int}(hl:l.length<=12)(hr:Row w (.slice a l.length c) (l.map vi))(hs:∀i (h:i+1<l.length),l[i]<=l[i+1]):
  Fn Tryz.prog 144 #[.slice a l.length c,vi 0,vi l.length,vi k] w (fun _ w'=>Ext w w'):=by
 refine enter Tryz.func144 Tryz.ntmps144 rfl rfl ?_;refine go trivial ?_;refine zdd 0 (fun _ σ v=>(σ 0= .slice a l.length c/\σ 1=vi 0/\σ 2=vi l.length)/\v=w) ⟨⟨vq0,vq0,vq0⟩,rfl⟩ (fun i _ _ h=>absurd h (by omega)) ?_;rintro σ v _ ⟨s,rfl⟩;have h12:decide ((l.length:Int)<=12)=true:=yet (by omega);refine go (an3 s (show(l.length:Int) - 0=(l.length:Int) from Int.sub_zero _) h12) ?_;refine rc s (zkr hl hr hs) ?_;rintro _ w1 hE;refine rgo trivial ?_;exact zaz (by simp) rfl hE
theorem zjh(w:World){n:Int}(h0:0<=n)(h9:n<=9):Fn Tryz.prog 193 #[.int .u64 n] w (fun v w'=>(∃k,v=vi k)/\w'=w):=by
 have f1:decide (n>=4294967296)=false:=yef (by omega);have f2:decide (n>=65536)=false:=yef (by omega);have f3:decide (n>=256)=false:=yef (by omega);have hn:n=0\/n=1\/n=2\/n=3\/n=4\/n=5\/n=6\/n=7\/n=8\/n=9:=by omega
 rcases hn with rfl|rfl|rfl|rfl|rfl|rfl|rfl|rfl|rfl|rfl
 all_goals
  refine enter Tryz.func193 Tryz.ntmps193 rfl rfl ?_;refine go (an3 f1 f2 f3) ?_;refine rq ?_;intro gd K hgd hK;try simp only[go_sem]
  first|refine zeJ (v:= .int .u8 0) rfl ?_|refine zeJ (v:= .int .u8 1) rfl ?_|refine zeJ (v:= .int .u8 2) rfl ?_|refine zeJ (v:= .int .u8 3) rfl ?_|refine zeJ (v:= .int .u8 4) rfl ?_
  try simp only[go_sem]
  apply hK;refine go trivial ?_;refine rt0 Tryz.ntmps193 ?_;exact⟨⟨_,rfl⟩,rfl⟩
theorem zkZ(w:World){n:Int}(h0:0<=n)(h9:n<=9):Fn Tryz.prog 145 #[.int .u64 n] w (fun v w'=>(∃k,v=vi k)/\w'=w):=by
 refine enter Tryz.func145 Tryz.ntmps145 rfl rfl ?_;refine go trivial ?_;refine rc trivial (zjh w h0 h9) ?_;rintro _ _ ⟨⟨k,rfl⟩,rfl⟩;refine rgo trivial ?_;refine rt0 Tryz.ntmps145 ?_;exact⟨⟨k,rfl⟩,rfl⟩
theorem zja{w:World}{a:Option Addr}{c:Nat}{l:List Int}(hl:l.length<=9)(hr:Row w (.slice a l.length c) (l.map vi))(hs:∀i (h:i+1<l.length),l[i]<=l[i+1]):
  Fn Tryz.prog 89 #[.slice a l.length c] w (fun _ w'=>Ext w w'):=by
 refine enter Tryz.func89 Tryz.ntmps89 rfl rfl ?_;refine go trivial ?_;refine rc trivial (zkZ w (n:=(l.length:Int)) (by omega) (by omega)) ?_;rintro _ _ ⟨⟨k,rfl⟩,rfl⟩;refine rd trivial (zkk (by omega) hr hs) ?_;rintro _ w1 hE;refine rgo trivial ?_;exact zaz (by simp) rfl hE
theorem Kinds_ok{w:World}{ev:Value}{E:List (Int×List Int)}(h:Rows 2 (EndAt w) w ev E)(hl:E.length<=9)(hs:∀i (h:i+1<E.length),E[i].1<E[i+1].1):Fn Tryz.prog 39 #[ev] w (fun v w'=>Row w' v ((E.map (·.1)).map vi)/\Ext w w'):=by
 obtain⟨a,c,rfl,_,hg⟩:=h.open;refine enter Tryz.func39 Tryz.ntmps39 rfl rfl ?_;refine go trivial ?_;refine zat (Q:=fun e σ' ds' x=>e= .exit 0/\ds'=[]/\∃kv,σ' 3=kv/\Ext w x/\Own w.heap.size x 3 kv ((E.map (·.1)).map vi)) ?_ ?_
 ·refine zdd E.length (fun i σ x=>(σ 8=vi i/\σ 7=vi E.length/\σ 6= .slice a E.length c)/\∃kv,σ 3=kv/\Ext w x/\Own w.heap.size x 3 kv (((E.take i).map (·.1)).map vi)) ?_ ?_ ?_
  ·exact⟨⟨vr0,vq0,vq0⟩,.slice .none 0 0,vr0,Keep.refl _ _,Own.nil _ _ _⟩
  ·rintro i σ x hi q ⟨s,kv,h3,hEx,ho⟩;obtain⟨cs,hcs,hE⟩:=hg i hi;have htk:E.take (i+1)=E.take i++ [E[i]]:=zal hi;obtain⟨k,hk⟩:∃k,E[i]=k:=⟨_,rfl⟩;rw[hk]at hE htk;obtain⟨pv,rfl,hp⟩:=hE.ex;obtain⟨xa,rfl⟩:=yxs (zai hcs);obtain⟨xi,hxi⟩:∃xi,adr (some xa) (i*2)=some xi:=⟨_,rfl⟩;rw[hxi]at hcs;have hcx:=zac hEx hcs;refine go (an3 s q hxi) ?_;refine rq ?_;intro gd K hgd hK;refine sgz (az4 s q hxi hcx) ?_;refine za0 (P:=Tryz.prog) (l:=[vi k.1,pv]) rfl (zcY rfl hp.isOne) rfl rfl ?_;intro y hEy hsy hC;try simp only[go_sem]
   apply hK;obtain⟨c5,hc5⟩:∃c,x.heap.size=c:=⟨_,rfl⟩;rw[hc5]at hC ⊢;have g0:zad y (some ⟨c5,0,.none⟩)=some (vi k.1):=zab (i:=0) hC rfl;refine go trivial ?_;refine rq ?_;intro gd K hgd hK;refine sgz (az2 h3 g0) ?_;refine zcu rfl rfl rfl rfl rfl ?_;intro y2 hE2 hs2 ho2;refine sgz h3 ?_;refine zbM ((ho.ext hEy).ext hE2) ho2.row rfl rfl rfl rfl rfl rfl ((vq1 h3)) vr0 (fun q hq=>by rw[List.mem_singleton.1 hq];rfl) (by simp;omega) (by decide) (by have:=hEx.size;have:=hEy.size;omega) ?_;intro u y3 ho3 hE3 hk3 hb3;try simp only[go_sem]
   apply hK;refine go (an2 s q) ?_;exact⟨rfl,sc (an2 s q),u,vr0,hE3 w ((hEx.trans hEy).trans hE2) (ynl _),by rw[htk,List.map_append,List.map_append];exact ho3⟩
  ·rintro σ x q ⟨s,kv,h3,hEx,ho⟩;rw[List.take_length]at ho;refine go (an2 s q) ?_;exact⟨rfl,rfl,kv,vq1 h3,hEx,ho⟩
 rintro _ σ _ x ⟨rfl,rfl,kv,h3,hEx,ho⟩;obtain⟨K,hK⟩:∃K,E.map (·.1)=K:=⟨_,rfl⟩;have hKl:K.length=E.length:=by rw[←hK,ylm]
 have hKs:∀i (h:i+1<K.length),K[i]<=K[i+1]:=fun i h=>by
  subst hK;simp only[List.getElem_map];exact Int.le_of_lt (hs i (by omega))
 rw[hK]at ho ⊢;have hrow:=ho.row;obtain⟨ak,ck,rfl,hck,hgk⟩:=ho.row;simp only[ylm]at hrow h3 hck;refine go trivial ?_;refine rc h3 (zja (by omega) hrow hKs) ?_;rintro _ y hxy;refine rgo trivial ?_;refine rc h3 (P_ci.Clip_ok hck) ?_;rintro _ _ ⟨rfl,rfl⟩;refine rgo trivial ?_;refine rt0 Tryz.ntmps39 ?_;refine⟨⟨ak,_,by rw[ylm],by rw[ylm];exact ynl _,fun j hj=>zaa hxy (hgk j hj)⟩,hEx.trans hxy⟩
theorem zhm{w:World}{av bv:Value}{p q:List Int}(ha:Row w av (p.map vi))(hb:Row w bv (q.map vi))(hp:p.length<=1000000000)(hq:q.length<=1000000000):
  Fn Tryz.prog 88 #[av,bv] w (fun v w'=>v= .bool (decide (p=q))/\Ext w w'):=by
 obtain⟨a,c,rfl,hga⟩:=zlo ha;obtain⟨b,d,rfl,hgb⟩:=zlo hb;refine enter Tryz.func88 Tryz.ntmps88 rfl rfl ?_;by_cases hlen:p.length=q.length
 rotate_left
 ·have h1:decide ((p.length:Int)=(q.length:Int))=false:=yef (by omega);refine go h1 ?_;refine rt0 Tryz.ntmps88 ?_;exact⟨by rw[yef fun h=>hlen (by rw[h])],Keep.refl _ _⟩
 have h1:decide ((p.length:Int)=(q.length:Int))=true:=yet (by omega);refine go h1 ?_;refine zdd p.length (fun i σ v=>(σ 5=vi i/\σ 0= .slice a p.length c/\σ 1= .slice b q.length d)/\Ext w v/\p.take i=q.take i) ?_ ?_ ?_
 ·exact⟨⟨vr0,vq0,vq0⟩,Keep.refl _ _,rfl⟩
 ·rintro i σ v hi r ⟨s,hE,ht⟩;obtain⟨x1,rfl,g1⟩:=hga i hi;obtain⟨x2,rfl,g2⟩:=hgb i (by omega);have hi2:(i:Int)<(q.length:Int):=by omega
  refine go (an2 s r) ?_;obtain⟨t,htt⟩:∃t,decide (p[i]=q[i])=t:=⟨_,rfl⟩;refine zat (Q:=fun e σ' ds' v'=>e= .normal/\ds'=[]/\(σ' 5=vi i/\σ' 0= .slice (some x1) p.length c/\σ' 1= .slice (some x2) q.length d)/\Ext v v'/\σ' 25= .bool (!t)) ?_ ?_
  ·refine zaH (fun _=>false) [(0,true),(1,true),(2,true),(3,true),(4,true),(5,true),(6,true),(7,true),(8,true)] NoS mixed (by kernel_rfl) ?_;intro gd K x hgd hx hxe hK;clear hxe;have e1:=zaa (hE.trans hx) g1;have e2:=zaa (hE.trans hx) g2;refine sgz (az6 s r hi2 e1 e2 htt) ?_;apply hK;exact⟨rfl,rfl,sc s,hx,vr0⟩
  clear s;rintro _ σ1 _ v1 ⟨rfl,rfl,s,hv1,s25⟩;cases t with
  |true=>
   refine go (an3 s r s25) ?_;refine⟨rfl,sc (an2 s r),hE.trans hv1,?_⟩;rw[zal hi,zal (by omega),ht,of_decide_eq_true htt]
  |false=>
   refine go (an2 s s25) ?_;refine rt0 Tryz.ntmps88 ?_;exact⟨by rw[yef fun h=>(of_decide_eq_false htt) (by subst h;rfl)],hE.trans hv1⟩
 ·rintro σ v r ⟨s,hE,ht⟩;refine go (an2 s r) ?_;refine rt0 Tryz.ntmps88 ?_;rw[List.take_length,hlen,List.take_length]at ht;exact⟨by rw[yet ht],hE⟩
theorem ziu{w:World}{av bv:Value}{A B:List (Int×List Int)}(ha:Rows 2 (EndAt w) w av A)(hb:Rows 2 (EndAt w) w bv B)(hla:A.length<=1000000000)(hlb:B.length<=1000000000)(hp:∀e∈A,e.2.length<=1000000000)(hq:∀e∈B,e.2.length<=1000000000):
  Fn Tryz.prog 37 #[av,bv] w (fun v w'=>v= .bool (decide (A=B))/\Ext w w'):=by
 obtain⟨a,c,rfl,hga⟩:=zdm ha;obtain⟨b,d,rfl,hgb⟩:=zdm hb;refine enter Tryz.func37 Tryz.ntmps37 rfl rfl ?_;by_cases hlen:A.length=B.length
 rotate_left
 ·have h1:decide ((A.length:Int)=(B.length:Int))=false:=yef (by omega);refine go h1 ?_;refine rt0 Tryz.ntmps37 ?_;exact⟨by rw[yef fun h=>hlen (by rw[h])],Keep.refl _ _⟩
 have h1:decide ((A.length:Int)=(B.length:Int))=true:=yet (by omega);refine go h1 ?_;refine zdd A.length (fun i σ v=>(σ 5=vi i/\σ 0= .slice a A.length c/\σ 1= .slice b B.length d)/\Ext w v/\A.take i=B.take i) ?_ ?_ ?_
 ·exact⟨⟨vr0,vq0,vq0⟩,Keep.refl _ _,rfl⟩
 ·rintro i σ v hi r ⟨s,hE,ht⟩;obtain⟨xa,u,u1,ap,cp,rfl,hu,hu0,hu1,g0,g1,hr1,_⟩:=hga i hi;obtain⟨xb,y,y1,bp,dp,rfl,hy,hy0,hy1,k0,k1,hr2,_⟩:=hgb i (by omega);have hi2:(i:Int)<(B.length:Int):=by omega
  have m1:=hp _ (List.getElem_mem hi);have m2:=hq _ (List.getElem_mem (show i<B.length by omega));refine go (an2 s r) ?_;obtain⟨t,htt⟩:∃t,decide (A[i].1=B[i].1)=t:=⟨_,rfl⟩;refine zat (Q:=fun e σ' ds' v'=>e= .normal/\ds'=[]/\(σ' 5=vi i/\σ' 0= .slice (some xa) A.length c/\σ' 1= .slice (some xb) B.length d)/\Ext v v'/\σ' 41= .bool (!decide (A[i]=B[i]))) ?_ ?_
  ·refine zaH (fun _=>false) [(0,true),(1,true),(2,true),(3,true),(4,true),(5,true),(6,true),(7,true),(8,true),(9,true),(10,true),(11,true),(12,true),(13,true),(14,true),(15,true),(16,true),(17,true),(18,true),(19,true),(20,true),(21,true),(22,false),(23,true),(24,true)] NoS mixed (by kernel_rfl) ?_;intro gd K x hgd hx hxe hK;clear hxe;have hg11:=gk 11 28 hgd rfl;have e0:=zaa (hE.trans hx) g0;have e1:=zaa (hE.trans hx) g1;have f0:=zaa (hE.trans hx) k0;have f1:=zaa (hE.trans hx) k1;cases t with
   |false=>
    simp (disch:=first|omega|assumption|rfl) only[go_sem,s,r,hi2,hu,hu0,hy,hy0,e0,f0,htt,za3,↓hg11];apply hK;exact⟨rfl,rfl,sc s,hx,by rw[yef fun h=>of_decide_eq_false htt (by rw[h])];first| (simp only[go_sem];done)| (simp only[go_sem];rfl)⟩
   |true=>
    simp (disch:=first|omega|assumption|rfl) only[go_sem,s,r,hi2,hu,hu0,hu1,hy,hy0,hy1,e0,e1,f0,f1,htt,za3,↓hg11];refine Fn.mono (zhm (hr1.ext (hE.trans hx)) (hr2.ext (hE.trans hx)) m1 m2) ?_;rintro _ z ⟨rfl,hz⟩;refine⟨.inr hz,?_⟩;have hd:decide (A[i]=B[i])=decide (A[i].2=B[i].2):=by
     have h1:=of_decide_eq_true htt;by_cases h2:A[i].2=B[i].2
     ·rw[yet h2,yet (Prod.ext h1 h2)]
     ·rw[yef h2,yef fun h=>h2 (by rw[h])]
    rw[←hd];simp (disch:=first|omega|assumption|rfl) only[go_sem,za3,↓hg11];apply hK;exact⟨rfl,rfl,sc s,hx.trans hz,vr0⟩
  clear s;rintro _ σ1 _ v1 ⟨rfl,rfl,s,hv1,s25⟩;by_cases hab:A[i]=B[i]
  ·rw[yet hab]at s25;refine go (an3 s r s25) ?_;refine⟨rfl,sc (an2 s r),hE.trans hv1,?_⟩;rw[zal hi,zal (by omega),ht,hab]
  ·rw[yef hab]at s25;refine go (an2 s s25) ?_;refine rt0 Tryz.ntmps37 ?_;exact⟨by rw[yef fun h=>hab (by subst h;rfl)],hE.trans hv1⟩
 ·rintro σ v r ⟨s,hE,ht⟩;refine go (an2 s r) ?_;refine rt0 Tryz.ntmps37 ?_;rw[List.take_length,hlen,List.take_length]at ht;exact⟨by rw[yet ht],hE⟩
theorem Of21_ok{w:World}{av:Value}{A:List (Int×List Int)}(ha:Rows 2 (EndAt w) w av A)(hla:A.length<=1000000000):
  Fn Tryz.prog 38 #[av] w (fun v w'=>Rows 2 (EndAt w') w' v A/\Ext w w'):=by
 obtain⟨a,c,rfl,hga⟩:=zdm ha;refine enter Tryz.func38 Tryz.ntmps38 rfl rfl ?_;refine go trivial ?_;refine zdd A.length (fun i σ v=>(σ 4=vi i/\σ 0= .slice a A.length c)/\∃ev,σ 3=ev/\Ext w v/\Owns 2 (EndAt w) w.heap.size v 77 ev (A.take i)) ?_ ?_ ?_
 ·exact⟨⟨vr0,vq0⟩,.slice .none 0 0,vr0,Keep.refl _ _,Owns.nil _ _ _ _ _⟩
 ·rintro i σ v hi r ⟨s,ev,h3,hE,ho⟩;obtain⟨xa,u,u1,ap,cp,rfl,hu,hu0,hu1,g0,g1,hr1,_⟩:=hga i hi;have htk:A.take (i+1)=A.take i++ [A[i]]:=zal hi;refine go (an2 s r) ?_;refine zat (Q:=fun e σ' ds' v'=>e= .normal/\ds'=[]/\(σ' 4=vi i/\σ' 0= .slice (some xa) A.length c)/\∃ev,σ' 3=ev/\Ext w v'/\Owns 2 (EndAt w) w.heap.size v' 77 ev (A.take (i+1))) ?_ ?_
  ·refine zaH (fun i=>i==13) [(0,true),(1,true),(2,true),(3,true),(4,true),(5,true),(6,true),(7,true),(8,true),(9,true),(10,true),(11,true),(12,false),(13,false),(14,true)] NoS mixed (by kernel_rfl) ?_;intro gd K x hgd hx hxe hK;clear hxe;have e0:=zaa (hE.trans hx) g0;have e1:=zaa (hE.trans hx) g1;have kbd:∀n:Int,bdV Tryz.prog 77 [(0,vi n),(1,.slice ap A[i].2.length cp)]=some (.agg #[vi n,.slice ap A[i].2.length cp]):=fun n=>by kernel_rfl
   refine sgz (az2 (az7 s r h3 hu hu0 hu1 e0) e1) ?_;refine⟨by kernel_rfl,?_⟩;rw[kbd];refine sg0 ?_;refine zaL (zcT w) rfl rfl rfl rfl (a:=A[i]) (l:=[vi A[i].1,.slice ap A[i].2.length cp]) ⟨_,rfl,hr1⟩ (by decide) ?_;intro y2 hE2 hs2 ho2;refine⟨.inr hE2.keep,?_⟩;refine sg0 ?_;have hwx:=(hE.trans hx).trans hE2;have hz:=hwx.size;refine zaC (zcT w) (ho.ext (hx.trans hE2)) ho2.rows rfl rfl rfl rfl rfl rfl (by decide) ((vq1 h3)) vr0 (by rw[List.length_take,List.length_singleton];omega) (by decide) hz ?_;intro z y3 ho3 hE3 hk3 hb3;refine⟨.inl rfl,?_⟩;refine sg0 ?_;apply hK;exact⟨rfl,rfl,sc s,z,vr0,hE3 w hwx (ynl _),by rw[htk];exact ho3⟩
  clear s h3 ho;rintro _ σ1 _ v1 ⟨rfl,rfl,s,ev,h3,hE1,ho⟩;refine go (an2 s r) ?_;exact⟨rfl,sc (an2 s r),ev,vq1 h3,hE1,ho⟩
 ·rintro σ v r ⟨s,ev,h3,hE,ho⟩;rw[List.take_length]at ho;refine go (an3 s r h3) ?_;refine rt0 Tryz.ntmps38 ?_;exact⟨(ho.to fun _ _ h=>h.ext hE).rows,hE⟩
theorem zhl(W:World){cs:List Value}{N:NetL}{qv:Value}{q:Nm}{t:Int}(hN:NetAt W cs N)(hv:NumN N)(hq:Row W qv (q.map vs))(_oq:NmOk q):
  Fn Tryz.prog 6 #[.agg cs.toArray,qv,vi t] W (fun v w'=>v= .bool true/\Ext W w'):=by
 have hN0:=hN;obtain⟨hsv,rv,rfl,hh,hr⟩:=hN.ex;obtain⟨ah,ch,hhv,_⟩:=hh.open;obtain⟨ar0,cr0,hrv,_⟩:=id hr;refine enter Tryz.func6 Tryz.ntmps6 rfl rfl ?_;repeat refine c_r ?_
 rw[hhv,hrv];refine go trivial ?_;rw[←hhv,←hrv];refine zax ?_;intro w1 hE1 hs1 hA;have dN:zaq w1 (some ⟨W.heap.size,0,.none⟩) 4=some [hsv,rv,vi N.rw,vi N.rf]:=zaf hA rfl;refine rc trivial (zkX w1) ?_;rintro _ w2 ⟨rfl,hE2⟩;refine rgo trivial ?_;have hE12:=hE1.trans hE2;have dN2:=zac hE2 dN;refine zat (Q:=fun e σ' ds' v'=>e= .normal/\ds'=[]/\(σ' 3= .pointer (some ⟨W.heap.size,0,.none⟩)/\σ' 1=qv/\σ' 2=vi t)/\Ext w2 v'/\∃bb,σ' 24= .bool bb/\(bb=false->zbi N/\zcf q=true)) ?_ ?_
 ·refine rcg [(3,20)] dN2 (zkW w2 (hN0.ext hE12) hv) ?_;rintro _ w4 ⟨hE4,b,rfl,hb⟩;cases b with
  |false=>
   refine reg [(3,20)] trivial ?_;exact⟨rfl,rfl,sc trivial,hE4,_,vr0,fun h=>by cases h⟩
  |true=>
   refine rdg [(3,20)] trivial (zhp w4 qv q (hq.ext (hE12.trans hE4))) ?_;rintro _ w7 ⟨rfl,hE7⟩;refine reg [(3,20)] trivial ?_;exact⟨rfl,rfl,sc trivial,hE4.trans hE7,_,vr0,fun h=>⟨hb rfl,by simpa using h⟩⟩
 rintro _ σ1 _ w4 ⟨rfl,rfl,s,hE4,bb,s24,hbb⟩;have hE14:=hE12.trans hE4;cases bb with
 |true=>
  refine go s24 ?_;refine rt0 Tryz.ntmps6 ?_;exact⟨rfl,hE14⟩
 |false=>
 obtain⟨hG,hgq⟩:=hbb rfl;have dN4:=zac hE4 dN2;refine go s24 ?_;refine rc (an2 s dN4) (zjk (t:=t) hE14 hN0 hG (hq.ext hE14) hgq) ?_;rintro _ w5 ⟨hE5,ev,rfl,hv5⟩;refine rgo s ?_;have hE15:=hE14.trans hE5;have dN5:=zac hE5 dN4;refine rc (an2 s dN5) (Of16_ok w5 (hN0.ext hE15) hG.z) ?_;rintro _ w6 ⟨hE6,cs',rfl,hX⟩;refine rd s (zje (t:=t) (Keep.refl _ _) hX hG (hq.ext (hE15.trans hE6)) hgq) ?_;rintro _ w7 ⟨hE7,fv,rfl,hv7⟩;refine rgo s ?_;have hE57:=hE6.trans hE7;have hE17:=hE15.trans hE57;have hv5':=Rows.extC (fun _ _ h=>EndAt.ext h hE57) hv5 hE57;obtain⟨a,c,rfl,hg⟩:=zdm hv5';obtain⟨b,d,rfl,hg'⟩:=zdm hv7;have hsh:=fun h=>zky (t:=t) hG hgq h;have hee:=fun h=>errR_err (N:=N) (q:=q) (t:=t) h;have hl9:=zmq N q t;obtain⟨E,hE⟩:∃E,zd3 N q t=E:=⟨_,rfl⟩;obtain⟨n,hn⟩:∃n,numR N q t=n:=⟨_,rfl⟩;obtain⟨e,he⟩:∃e,errR N q t=e:=⟨_,rfl⟩;rw[hE,he]at hsh hee;rw[hE]at hg hg' hl9 hv5' hv7 ⊢;rw[hn,he];have hkind:∀i (h:i+1<E.length),E[i].1<E[i+1].1:=fun i h=>by
  have h2:=(hsh (hee (List.length_pos_iff.1 (by omega)))).2;subst h2;exact ends_up h
 have hpick:∀x∈E,x.2.length<=1000000000:=fun x hx=>by
  obtain⟨h1,h2⟩:=hsh (hee (List.ne_nil_of_mem hx));obtain⟨_,_,_,_,_,_,h4⟩:=h1.played (e:=x) (by rw[←h2];exact hx);omega
 have d0:∀x:Int,decide (x=x)=true:=fun x=>yet rfl;refine zat (Q:=fun e' σ' ds' v'=>e'= .normal/\ds'=[]/\(σ' 7= .slice a E.length c/\σ' 10= .slice b E.length d)/\Ext w7 v'/\σ' 56= .bool false) ?_ ?_
 ·refine rcg [(3,45),(8,50)] (an2 s d0) (Of21_ok hv5' (by omega)) ?_;rintro ov w8 ⟨hov,hE8⟩;refine rdg [(3,45),(8,50)] trivial (ziu hov (Rows.extC (fun _ _ h=>EndAt.ext h hE8) hv7 hE8) (by omega) (by omega) hpick hpick) ?_;rintro _ w9 ⟨rfl,hE9⟩;rw[yet (rfl:E=E)];refine reg [(3,45),(8,50)] trivial ?_;exact⟨rfl,rfl,sc trivial,hE8.trans hE9,vr0⟩
 clear s;rintro _ σ2 _ w8 ⟨rfl,rfl,s,hE8,s56⟩;refine go (an2 s s56) ?_;have hE18:=hE17.trans hE8;refine rc s (Kinds_ok (Rows.extC (fun _ _ h=>EndAt.ext h hE8) hv5' hE8) hl9 hkind) ?_;rintro hv w9 ⟨hk,hE9⟩;obtain⟨ak,ck,rfl,hgk⟩:=zlo hk;rw[ylm];refine rgo s ?_;refine go (an2 s d0) ?_;refine zat (Q:=fun e' σ' ds' v'=>e'= .exit 0/\ds'=[]/\Ext w9 v') ?_ ?_
 ·refine zdd E.length (fun i σ v=>(σ 14=vi i/\σ 13= .slice ak E.length ck/\σ 10= .slice b E.length d)/\Ext w9 v) ?_ ?_ ?_
  ·exact⟨⟨vr0,vr0,vq1 s⟩,Keep.refl _ _⟩
  ·clear s;rintro i σ v hi p ⟨s,hEv⟩;obtain⟨xb,y,y1,bp,dp,rfl,hy,hy0,hy1,k0,k1,_,_⟩:=hg' i hi;obtain⟨xk,rfl,gk⟩:=hgk i (by rw[ylm];exact hi);rw[List.getElem_map]at gk;refine go (an2 s p) ?_;refine zat (Q:=fun e' σ' ds' v'=>e'= .normal/\ds'=[]/\(σ' 14=vi i/\σ' 13= .slice (some xk) E.length ck/\σ' 10= .slice (some xb) E.length d)/\Ext v v'/\σ' 79= .bool false) ?_ ?_
   ·refine zaH (fun _=>false) [(0,true),(1,true),(2,true),(3,true),(4,true),(5,true),(6,true),(7,true),(8,true),(9,true)] NoS mixed (by kernel_rfl) ?_;intro gd K x hgd hx hxe hK;clear hxe;have e0:=zaa (hEv.trans hx) gk;have f0:=zaa (hE8.trans (hE9.trans (hEv.trans hx))) k0;refine sgz (az7 s p hy hy0 e0 f0 d0) ?_;apply hK;exact⟨rfl,rfl,sc s,hx,vr0⟩
   clear s;rintro _ σ3 _ v3 ⟨rfl,rfl,s,hv3,s79⟩;refine go (an3 s p s79) ?_;exact⟨rfl,sc (an2 s p),hEv.trans hv3⟩
  ·clear s;rintro σ v p ⟨s,hEv⟩;refine go (an2 s p) ?_;exact⟨rfl,rfl,hEv⟩
 clear s;rintro _ σ3 _ w10 ⟨rfl,rfl,hE10⟩;refine go trivial ?_;refine rt0 Tryz.ntmps6 ?_;exact⟨rfl,hE18.trans (hE9.trans hE10)⟩
end Go.Proofs.YtahbdamijngmmaaGreat
namespace Go.Proofs.YtahbdamijngmmaaGreat.runExplore
open Go Go.Proofs.YtahbdamijngmmaaGreat
theorem j1:(Rows.runExploreRow.inPlace==Tryz.pinned.checked.prog.inPlace 6)=true:=by kernel_rfl
theorem j2:(Rows.runExploreRow.unfollowed==Tryz.pinned.checked.prog.unfollowed 6)=true:=by kernel_rfl
theorem j3:(Rows.runExploreRow.recurses==Tryz.pinned.checked.prog.recurses 6)=true:=by kernel_rfl
theorem j4:(Rows.runExploreRow.named==Tryz.pinned.checked.prog.varsNamed 6)=true:=by kernel_rfl
theorem j5:(Tryz.pinned.checked.prog.mayEnter)=true:=by kernel_rfl
theorem j6:(Rows.runExploreRow.lifted==Tryz.pinned.checked.prog.liftsFinal)=true:=by kernel_rfl
theorem joined:joinedFacts Tryz.pinned.checked.prog 6 Tryz.f6 Rows.runExploreSpec Rows.runExploreRow=true:=by
 unfold joinedFacts
 rw[j1,j2,j3,j4,j5,j6]
 kernel_rfl
end Go.Proofs.YtahbdamijngmmaaGreat.runExplore
namespace Go.Proofs.YtahbdamijngmmaaGreat
open Go
set_option maxRecDepth 100000
theorem zlm{w:World}{α:Type}{k:Nat}{C:List Value->α->Prop}{Q:α->Prop}{v:Value}{L:List (List Value)}(hL:RowK k w v L)(h:∀cs∈L,∃a,C cs a/\Q a):∃R:List α,Rows k C w v R/\∀a∈R,Q a:=by
 have:∀L:List (List Value),(∀cs∈L,∃a,C cs a/\Q a)->∃R:List α,L.length=R.length/\(∀i (h:i<L.length) (h':i<R.length),C L[i] R[i])/\∀a∈R,Q a:=fun L=>by
  induction L with
  |nil=>intro _;exact⟨[],rfl,fun i h=>by simp at h,fun r h=>by cases h⟩
  |cons cs L ih=>
   intro h;obtain⟨r,h1,h2⟩:=h cs (List.mem_cons_self ..);obtain⟨R,a1,a2,a3⟩:=ih (fun x hx=>h x (List.mem_cons_of_mem _ hx));refine⟨r::R,by simp[a1],fun i a b=>?_,fun x hx=>?_⟩
   ·cases i with
    |zero=>exact h1
    |succ i=>exact a2 i (by simpa using a) (by simpa using b)
   ·rcases List.mem_cons.1 hx with rfl|hx
    ·exact h2
    ·exact a3 x hx
 obtain⟨R,a1,a2,a3⟩:=this L h;exact⟨R,⟨L,hL,a1,a2⟩,a3⟩
section
variable {H : Type} {enc : TypeId × Value -> H} {w : World} {base : Nat} {sp : Nat -> Bool} {held : Bool}
theorem zgS{P:Program}{t:TypeId}{n:Nat}{c:Value}{x:DataW H×List MemPlace}(ht:P.underlying t=some (.int .u8))(h:DataW.trod enc P w base sp held n t [c]=some x):∃b:UInt8,c=zae b:=by
 obtain⟨m,h1,_,h2⟩:=DataW.trod_int ht h;have hb:=wf_u8 h2;obtain⟨k,rfl⟩:∃k:Nat,m=(k:Int):=⟨m.toNat,by omega⟩;exact⟨UInt8.ofNat k,by rw[List.head_eq_of_cons_eq h1,zcD (by omega)]⟩
theorem rd_addr{t e:TypeId}{c0 c1 c2 c3:Value}{P:Program}(h:RdC enc P w base sp held t [c0,c1,c2,c3])(ht:P.underlying t=some (.array 4 e))(hc:P.cellsOf e=1)(he:P.underlying e=some (.int .u8)):
  ∃a b c d:UInt8,c0=zae a/\c1=zae b/\c2=zae c/\c3=zae d:=by
 obtain⟨n,x,h,_⟩:=h;obtain⟨_,_,_,_,_,_,h0,h1,h2,h3⟩:=Go.ChangeShapes.trod_array4 ht hc h;obtain⟨a,ha⟩:=zgS he h0;obtain⟨b,hb⟩:=zgS he h1;obtain⟨c,hc⟩:=zgS he h2;obtain⟨d,hd⟩:=zgS he h3;exact⟨a,b,c,d,ha,hb,hc,hd⟩
theorem rd_zone{cs:List Value}(h:RdC enc Tryz.prog w base sp held 122 cs):∃z:zcv,ZoneC w cs z/\NumR z.recs:=by
 obtain⟨hl,hf⟩:=zej h rfl;have hl2:cs.length=2:=hl
 match cs,hl2 with
 | [c0,c1],_=>
  obtain⟨o,n0,_⟩:=zeH (P:=Tryz.prog) (RdC.one (hf 0 _ rfl)) (e:=9) rfl rfl rfl rfl;obtain⟨R,h1,h2⟩:=rd_recs (RdC.one (hf 1 _ rfl));exact⟨⟨o,R⟩,⟨c0,c1,rfl,n0,h1⟩,h2⟩
theorem rd_host{cs:List Value}(h:RdC enc Tryz.prog w base sp held 116 cs):∃z:zeD,HostC w cs z/\∀x∈z.zones,NumR x.recs:=by
 obtain⟨hl,hf⟩:=zej h rfl;have hl6:cs.length=6:=hl
 match cs,hl6 with
 | [c0,c1,c2,c3,c4,c5],_=>
  obtain⟨o,n0,_⟩:=zeH (P:=Tryz.prog) (RdC.one (hf 0 _ rfl)) (e:=9) rfl rfl rfl rfl;have h1:RdC enc Tryz.prog w base sp held 113 [c1,c2,c3,c4]:=hf 1 _ rfl;obtain⟨a,b,c,d,rfl,rfl,rfl,rfl⟩:=rd_addr h1 rfl rfl (e:=5) rfl;have h5:RdC enc Tryz.prog w base sp held 114 [c5]:=hf 2 _ rfl;obtain⟨L,hL,hall,_⟩:=zfE (RdC.one h5) (e:=122) (k:=2) rfl rfl;obtain⟨R,r1,r2⟩:=zlm hL (fun cs hcs=>rd_zone (hall cs hcs));exact⟨⟨o,[a,b,c,d],R⟩,⟨c0,a,b,c,d,c5,rfl,rfl,n0,r1⟩,r2⟩
theorem rd_net{cs:List Value}(h:RdC enc Tryz.prog w base sp held 25 cs):∃N:NetL,NetAt w cs N/\NumN N:=by
 obtain⟨hl,hf⟩:=zej h rfl;have hl4:cs.length=4:=hl
 match cs,hl4 with
 | [c0,c1,c2,c3],_=>
  obtain⟨L,hL,hall,_⟩:=zfE (RdC.one (hf 0 _ rfl)) (e:=116) (k:=6) rfl rfl;obtain⟨R,r1,r2⟩:=zlm hL (fun cs hcs=>rd_host (hall cs hcs));obtain⟨roots,n2,_⟩:=ziP (RdC.one (hf 1 _ rfl)) (e:=3) (k:= .i64) rfl rfl rfl;obtain⟨a,e2,_⟩:=zhE (hf 2 _ rfl) (k:= .i64) rfl;obtain⟨b,e3,_⟩:=zhE (hf 3 _ rfl) (k:= .i64) rfl;have e2':c2=vi a:=List.head_eq_of_cons_eq (show [c2]=[vi a] from e2);have e3':c3=vi b:=List.head_eq_of_cons_eq (show [c3]=[vi b] from e3);exact⟨⟨R,roots,a,b⟩,⟨c0,c1,by rw[e2',e3'],r1,n2⟩,r2⟩
end
theorem ziO{H:Type}{enc:TypeId×Value->H}{P:Program}{w:World}{base:Nat}{sp:Nat->Bool}{held:Bool}{t:TypeId}{cs:Array Value}{d:DataW H}{p:List MemPlace}{ts:List TypeId}{ds:List (DataW H)}(h:DataW.Trod enc P w base sp held t (.agg cs) d p)
  (hw:∀x∈DataW.weightsEach P ts ds,x<=reachBytes) {j:Nat} (ht:ts[j]? =some t) (hd:ds[j]? =some d):RdC enc P w base sp held t cs.toList:=by
 obtain⟨n,h⟩:=h;exact⟨n,_,h,fun k hk=>hw k (DataW.weights_mem_each ht hd k hk)⟩
end Go.Proofs.YtahbdamijngmmaaGreat
namespace Go.Proofs.YtahbdamijngmmaaGreat.runExplore
open Go Go.Proofs.YtahbdamijngmmaaGreat Go.ChangeShapes Go.WideShapes Go.ChangeAt Go.RowKit
theorem own:ownKnob Tryz.prog.godebug=none:=by kernel_rfl
set_option maxRecDepth 100000 in
theorem lifted(os:Os)(started:os.Started)(H:Type)(enc:TypeId×Value->H):
  ReturnsInHanded {} Tryz.checked os 6 .any (Rows.runExploreSpec.pre6 enc Tryz.prog Tryz.f6 Rows.runExploreRow.domain false) (Rows.runExploreSpec.post enc Tryz.prog Tryz.f6 false true false false):=by
 refine law_lift (C:=Tryz.checked) own started (by kernel_rfl) Tryz.func6
  (ChangeSpec.witness6 (enc:=enc) (C:=Tryz.checked) false ⟨#[],#[.agg #[.slice .none 0 0,.slice .none 0 0,.int .i64 0,.int .i64 0],.slice .none 0 0,.int .i64 0],[]⟩ 8 (by kernel_rfl) (by kernel_rfl) (by kernel_rfl) (by kernel_rfl)) rfl ?_ (tb:=4) rfl rfl (by kernel_rfl) (by kernel_rfl) ?_
 ·intro ds hds
  match ds,hds with
  | [d0,d1,d2],_=>rfl
 ·intro W base args ds p hval hA0 hw0;have hA:DataW.TrodAll enc Tryz.prog W 0 (fun _=>true) true [25,27,3] args ds p:=hA0;have hw:∀x∈DataW.weightsEach Tryz.prog [25,27,3] ds,x<=reachBytes:=hw0;obtain⟨v0,vs0,d0,ds0,p0,q0,rfl,rfl,rfl,h0,r0⟩:=trodAll_cons hA;obtain⟨v1,vs1,d1,ds1,p1,q1,rfl,rfl,rfl,h1,r1⟩:=trodAll_cons r0;obtain⟨v2,vs2,d2,ds2,p2,q2,rfl,rfl,rfl,h2,r2⟩:=trodAll_cons r1;obtain⟨rfl,rfl,rfl⟩:=trodAll_nil r2;obtain⟨a0,rfl,_⟩:=okWide_struct rfl (hval 0 _ _ rfl rfl);obtain⟨x0,f0,g0⟩:=rd_net (ziO h0 hw (j:=0) rfl rfl);obtain⟨a1,n1,c1,rfl⟩:=okWide_slice (e:=9) rfl (hval 1 _ _ rfl rfl);obtain⟨x1,f1,g1⟩:=zeH (P:=Tryz.prog) (zki h1 rfl hw (j:=1) rfl rfl) (e:=9) rfl rfl rfl rfl;obtain⟨x2,rfl,_,_,f2⟩:=open_int (k:= .i64) rfl (hval 2 _ _ rfl rfl) h2;exact zhl W f0 g0 f1 g1
theorem over:Rows.runExploreRow.holds Tryz.pinned (OpenSpec.ofChange Rows.runExploreSpec):=
 OpenClaim.holds_of_wide 6 Tryz.f6 rfl rfl rfl rfl rfl rfl rfl ⟨rfl,rfl,rfl,rfl,rfl⟩ rfl rfl rfl rfl rfl (by kernel_rfl) Tryz.func6 joined
  (of_decide_eq_true (by kernel_rfl)) (by unfold Func.isWrapper;first| (rw[if_pos (by decide+kernel)];kernel_rfl)| (rw[if_neg (by decide+kernel)];exact⟨rfl,rfl⟩))
  (fun os started H enc _=>lifted os started H enc)
theorem proved:Rows.RunExploreSaid:=over
end Go.Proofs.YtahbdamijngmmaaGreat.runExplore
