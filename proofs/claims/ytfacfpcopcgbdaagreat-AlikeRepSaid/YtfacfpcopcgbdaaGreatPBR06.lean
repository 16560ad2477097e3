/-
  Texts of a proof, joined.
  Conditions: none.
-/
import Derived.Test.YtfacfpcopcgbdaaGreatPBR05
import Derived.ProofKit
import Derived.OpenShut
import Derived.SizedLaws
import Derived.Deep.Slices
set_option linter.all false
set_option maxRecDepth 20000
set_option maxHeartbeats 8000000
namespace Go.Proofs.YtfacfpcopcgbdaaGreat
open Go Tryz
variable {w w0 w1 W0 x A:World}{v u lv nv:Value}{cs l:List Value}{B k b i j cap:Nat}{t e:TypeId}{a:Option Addr}{S C:Nat->Prop}{q o:Nm}
def NumR(R:List RecL):Prop:=∀r∈R,∀n∈r.dat.nums,0<=n/\n<=4294967295
theorem zje{n:Nm}(h:zaC n=0):LB n:=λ l hl=>by have:=(zbi h l hl).2;omega
theorem good_dat{R:List RecL}(h:zfK R)(hv:NumR R):∀r∈R,DatOk r.dat:=λ r hr=>by
 have hf:=(h.few r hr).2;exact⟨λ n hn=>⟨zje (h.names r hr n hn),by have:=(hf.names n hn).2;omega⟩,by have:=hf.nn;omega,by have:=hf.nu;omega,by have:=hf.nt;omega,hv r hr,by have:=hf.nr;omega⟩
theorem zhZ{R:List RecL}(h:zfK R)(hv:NumR R):∀r∈R,zbL r:=λ r hr=>
 ⟨zje (h.own r hr),by have:=zft (h.own r hr);omega,good_dat h hv r hr⟩
structure GoodC(R:List RecL):Prop where
 ok:∀r∈R,zbL r
 srt:zl4 R
 gd:zfv R
 ld:LeadR R
 len:R.length<=60
 nn:∀r∈R,r.dat.names.length<=1000000000
theorem zlI{R:List RecL}(h:zfK R)(hv:NumR R):GoodC (zbd R):=by
 refine⟨zci (λ a b h=>⟨h.lb,h.len,h.dat⟩) (zhZ h hv),zh9 R,?_,?_,yaD (zeh R) h.len,?_⟩
 ·exact zci (Q:=λ r=>∀n∈r.dat.names,NmG n) (λ a b h=>h) (λ r hr n hn=>zf0 (h.names r hr n hn))
 ·refine zci (Q:=λ r=>(r.dat.ty=2\/r.dat.ty=5\/r.dat.ty=39)->r.dat.names≠ []) (λ a b h=>h) (λ r hr ht hn=>?_);have:=h.lead r hr ht;rw[hn]at this;cases this
 ·exact zci (Q:=λ r=>r.dat.names.length<=1000000000) (λ a b h=>h) (λ r hr=>(h.few r hr).2.nn)
theorem znx{ov:Value}{R:List RecL}(h:GoodC R)(hE:Ext w0 w)(ho:Row w ov (o.map vs))(hl:Rows 7 (RecAt w0) w lv R)(hg:zbQ o=true):ZnAt w0 w ov lv o R:=
 ⟨hE,ho,hl,(zb2 hg).m.s.lb,(zb2 hg).m.s.len,h.ok,by have:=h.len;omega⟩
structure ResF(P:DatL->Prop)(m:Nat)(r:ResL):Prop where
 nm:NmS r.name
 dat:∀d∈r.data,P d
 dl:r.data.length<=m
 gl:r.glue.length<=m
 g:∀x∈r.glue,NmS x.1/\(∀d∈x.2,P d)/\x.2.length<=m+m
theorem zcc{P:DatL->Prop}{m:Nat}{k:Int}{ds:List DatL}{n:Nm}{b:Bool}(hn:NmS n)(hd:∀d∈ds,P d)(hl:ds.length<=m):ResF P m ⟨k,ds,n,b,[]⟩:=
 ⟨hn,hd,hl,yba _,λ x h=>by cases h⟩
theorem zlx:NmS []:=⟨λ l h=>(by cases h),yba _⟩
section
variable {P : DatL -> Prop} {R : List RecL} {o : Nm}
theorem zi9(hP:∀r∈R,P r.dat){n:Nm}{t:Int}:∀d∈datC R n t,P d:=λ d hd=>by
 obtain⟨r,hr,rfl⟩:=zfY hd;exact hP r hr
theorem refer_F(hP:∀r∈R,P r.dat)(hG:zfv R){n:Nm}(hn:NmS n):ResF P R.length (zgj R n):=by
 refine⟨hn,zi9 hP,zc2,?_,λ x hx=>?_⟩
 ·exact yaD (zhk _ _) (yaD (zed _ _) (yaD (zf9 _ _) zc2))
 ·obtain⟨h,hh,he⟩:=yaZ.1 hx
  split at he
  ·cases he
  ·cases he;refine⟨(zcm hG (n:=n) (t:=2) (λ d hd=>hd) h (zcz _ _ h hh)).m.s,λ d hd=>?_,?_⟩
   ·unfold zds at hd;rcases yai.1 hd with hd|hd
    ·exact zi9 hP d hd
    ·exact zi9 hP d hd
   ·have h1:=zc2 (R:=R) (n:=h) (t:=1);have h2:=zc2 (R:=R) (n:=h) (t:=28);show(zds R h).length<=_;unfold zds;rw[yab];omega
theorem zkl(hP:∀r∈R,P r.dat){n:Nm}{t:Int}:(∀d∈(datC R n t).take 1,P d)/\((datC R n t).take 1).length<=R.length:=
 ⟨λ d hd=>zi9 hP d (yaO hd),by have:=zc2 (R:=R) (n:=n) (t:=t);rw[yaQ];omega⟩
theorem zmI(hP:∀r∈R,P r.dat)(hG:zfv R){n:Nm}(hq:NmM q){r:ResL}(h:zaT R q n=some r):ResF P R.length r:=by
 unfold zaT at h
 split at h
 ·cases h
 ·split at h
  ·cases h;have hm:=zmj hq (toN_m hG (n:=n) (t:=39) (u:=39)) (f:=n);exact zcc ⟨λ l hl=>by have:=hm.1 l hl;omega,by have:=hm.2;omega⟩ (zkl hP).1 (zkl hP).2
  ·cases h;exact zcc zlx (λ d h=>by cases h) (yba _)
theorem at_F(hP:∀r∈R,P r.dat)(hG:zfv R){n:Nm}{t:Int}{b:Bool}:ResF P R.length (atL R n t b):=by
 unfold atL
 split
 ·exact zcc zlx (zi9 hP) zc2
 ·split
  ·exact zcc (toN_m hG).s (zkl hP).1 (zkl hP).2
  ·exact zcc zlx (λ d h=>by cases h) (yba _)
theorem go_F(hP:∀r∈R,P r.dat)(hG:zfv R)(hq:NmM q):∀{l:List Nm} {r:ResL},(∀n∈l,NmS n)->goL o R q l=some r->ResF P R.length r
 | [],r,_,h=>by cases h
 |n::l,r,hl,h=>by
  simp only[goL]at h
  split at h
  ·cases h;exact refer_F hP hG (hl n (yal ..))
  ·split at h
   ·cases h
   ·split at h
    ·rename_i r' hr;cases h;exact zmI hP hG hq hr
    ·exact go_F hP hG hq (λ x hx=>hl x (yak _ hx)) h
theorem look_F(hP:∀r∈R,P r.dat)(hG:zfv R){t:Int}(hq:NmM q):ResF P R.length (zbP o R q t):=by
 unfold zbP
 split
 ·exact zcc zlx (λ d h=>by cases h) (yba _)
 ·split
  ·rename_i r hr;refine go_F hP hG hq (λ n hn=>?_) hr;unfold zbS at hn
   split at hn
   ·obtain⟨i,_,rfl⟩:=zb3.1 hn;exact(hq.drop i).s
   ·cases hn
  ·split
   ·exact at_F hP hG
   ·split
    ·exact at_F hP hG
    ·exact zcc zlx (λ d h=>by cases h) (yba _)
end
theorem look_ok{R:List RecL}(h:GoodC R){t:Int}(hq:NmM q):zoa (zbP o R q t):=by
 have h1:=look_F (o:=o) (P:=DatOk) (λ r hr=>(h.ok r hr).dat) h.gd (t:=t) hq;have hl:=h.len;exact⟨h1.nm,h1.dat,by have:=h1.dl;omega,by have:=h1.gl;omega,λ x hx=>by
  obtain⟨a,b,c⟩:=h1.g x hx;exact⟨a,b,oM⟩⟩
structure zcr where
 o:Nm
 recs:List RecL
structure zd5 where
 name:Nm
 addr:List UInt8
 zones:List zcr
structure NetL where
 hosts:List zd5
 roots:List Int
 rw:Int
 rf:Int
structure ZoneC(w:World)(cs:List Value)(z:zcr):Prop where
 ex:∃ov lv,cs=[ov,lv]/\Row w ov (z.o.map vs)/\Rows 7 (RecAt w) w lv z.recs
structure HostC(w:World)(cs:List Value)(h:zd5):Prop where
 ex:∃nv a b c d zv,cs=[nv,zae a,zae b,zae c,zae d,zv]/\h.addr=[a,b,c,d]/\Row w nv (h.name.map vs)/\Rows 2 (ZoneC w) w zv h.zones
structure NetAt(w:World)(cs:List Value)(N:NetL):Prop where
 ex:∃hv rv,cs=[hv,rv,vi N.rw,vi N.rf]/\Rows 6 (HostC w) w hv N.hosts/\Row w rv (N.roots.map vi)
theorem Rows.extC{α:Type}{C:World->List Value->α->Prop}{l:List α}(hC:∀cs a,C w cs a->C x cs a)(h:Rows k (C w) w v l)(hE:Ext w x):Rows k (C x) x v l:=(h.ext hE).to hC
theorem ZoneC.ext{z:zcr}(h:ZoneC w cs z)(hE:Ext w x):ZoneC x cs z:=by
 obtain⟨ov,lv,e,h1,h2⟩:=h.ex;exact⟨ov,lv,e,h1.ext hE,Rows.extC (λ _ _ h=>RecAt.ext h hE) h2 hE⟩
theorem HostC.ext{z:zd5}(h:HostC w cs z)(hE:Ext w x):HostC x cs z:=by
 obtain⟨nv,a,b,c,d,zv,e,ha,h1,h2⟩:=h.ex;exact⟨nv,a,b,c,d,zv,e,ha,h1.ext hE,Rows.extC (λ _ _ h=>ZoneC.ext h hE) h2 hE⟩
theorem NetAt.ext{z:NetL}(h:NetAt w cs z)(hE:Ext w x):NetAt x cs z:=by
 obtain⟨hv,rv,e,h1,h2⟩:=h.ex;exact⟨hv,rv,e,Rows.extC (λ _ _ h=>HostC.ext h hE) h1 hE,h2.ext hE⟩
structure GoodZ(z:zcr):Prop where
 o:zbQ z.o=true
 gd:zfK z.recs
 nv:NumR z.recs
 can:zbd z.recs=z.recs
theorem GoodZ.c{z:zcr}(h:GoodZ z):GoodC z.recs:=h.can▸zlI h.gd h.nv
theorem GoodZ.m{z:zcr}(h:GoodZ z):NmM z.o:=(zb2 h.o).m
theorem GoodZ.zn{ov:Value}{z:zcr}(h:GoodZ z)(hE:Ext w0 w)(ho:Row w ov (z.o.map vs))(hl:Rows 7 (RecAt w0) w lv z.recs):ZnAt w0 w ov lv z.o z.recs:=znx h.c hE ho hl h.o
structure NetZ(N:NetL):Prop where
 hl:N.hosts.length<=1000
 nm:∀h∈N.hosts,NmM h.name
 zl:∀h∈N.hosts,h.zones.length<=1000
 z:∀h∈N.hosts,∀z∈h.zones,GoodZ z
 rl:N.roots.length<=1000
def NetL.zones(N:NetL)(s:Int):List zcr:=if s<0 then [] else match N.hosts[s.toNat]? with
 |some h=>h.zones
 | .none=>[]
def zba(q:Nm)(b:Int×Int)(x:Nat×zcr):Int×Int:=if zaN q x.2.o=true/\b.2<(x.2.o.length:Int) then((x.1:Int),(x.2.o.length:Int)) else b
def numZ:Nat->List zcr->List (Nat×zcr)
 |_,[]=>[]
 |i,z::l=>(i,z)::numZ (i+1) l
def bestZ(q:Nm)(l:List zcr):Int×Int:=(numZ 0 l).foldl (zba q) (0, -1)
def zer(N:NetL)(s:Int)(q:Nm):Int×Bool:=let b:=bestZ q (N.zones s);(b.1,decide (0<=b.2))
def askN(N:NetL)(s:Int)(q:Nm)(t:Int):ResL:=if (zer N s q).2=true then match (N.zones s)[(zer N s q).1.toNat]? with
  |some z=>zbP z.o z.recs q t
  | .none=>⟨7,[],[],false,[]⟩
 else⟨7,[],[],false,[]⟩
theorem zcL:∀{l:List zcr} {i:Nat},(numZ i l).length=l.length
 | [],_=>rfl
 |_::l,i=>by simp[numZ,zcL (l:=l)]
theorem zfT:∀{l:List zcr} {i j:Nat} (h:j<l.length) (h':j<(numZ i l).length),(numZ i l)[j]=(i+j,l[j])
 | [],_,_,h,_=>absurd h sM
 |_::l,i,0,_,_=>by simp[numZ]
 |_::l,i,j+1,h,h'=>by
  simp only[numZ,List.getElem_cons_succ];rw[zfT (sU h)];exact Prod.ext (by dsimp only;omega) rfl
theorem znY(q:Nm):∀{l:List (Nat×zcr)} {b:Int×Int} {m:Nat},(∀x∈l,x.1<m)->((0<=b.2->0<=b.1/\b.1<m))->0<=(l.foldl (zba q) b).2->0<=(l.foldl (zba q) b).1/\(l.foldl (zba q) b).1<m
 | [],b,m,_,h,h2=>h h2
 |x::l,b,m,hx,h,h2=>by
  rw[yce]at h2 ⊢;refine znY q (λ y hy=>hx y (yak _ hy)) (λ h3=>?_) h2;unfold zba at h3 ⊢
  split at h3
  ·rename_i hc;rw[if_pos hc];have:=hx x (yal ..);exact⟨by dsimp only;omega,by dsimp only;omega⟩
  ·rename_i hc;rw[if_neg hc];exact h h3
theorem bestN_in{N:NetL}{s:Int}(h:(zer N s q).2=true):0<=(zer N s q).1/\(zer N s q).1<((N.zones s).length:Int):=by
 unfold zer bestZ at*;simp only[ydT]at h;refine znY q (λ x hx=>?_) (λ h=>absurd h (by decide)) h;obtain⟨i,hi,rfl⟩:=ybh.1 hx;rw[zfT (by rw[zcL]at hi;exact hi)];have:=hi;rw[zcL]at this
 dsimp only;omega
theorem ze9{N:NetL}(h:NetZ N){s:Int}:(∀z∈N.zones s,GoodZ z)/\(N.zones s).length<=1000:=by
 unfold NetL.zones
 split
 ·exact⟨λ z h=>absurd h sM,sM⟩
 ·cases hh:N.hosts[s.toNat]? with
  |none=>exact⟨λ z h=>absurd h sM,sM⟩
  |some x=>exact⟨h.z x (List.mem_of_getElem? hh),h.zl x (List.mem_of_getElem? hh)⟩
section
variable {A B C D E F G H I : Prop}
theorem an2(a:A)(b:B):A/\B:=⟨a,b⟩
theorem an3(a:A)(b:B)(c:C):A/\B/\C:=⟨a,b,c⟩
theorem an4(a:A)(b:B)(c:C)(d:D):A/\B/\C/\D:=⟨a,b,c,d⟩
theorem an5(a:A)(b:B)(c:C)(d:D)(e:E):A/\B/\C/\D/\E:=⟨a,b,c,d,e⟩
theorem an6(a:A)(b:B)(c:C)(d:D)(e:E)(f:F):A/\B/\C/\D/\E/\F:=⟨a,b,c,d,e,f⟩
theorem an7(a:A)(b:B)(c:C)(d:D)(e:E)(f:F)(g:G):A/\B/\C/\D/\E/\F/\G:=⟨a,b,c,d,e,f,g⟩
theorem an8(a:A)(b:B)(c:C)(d:D)(e:E)(f:F)(g:G)(h:H):A/\B/\C/\D/\E/\F/\G/\H:=⟨a,b,c,d,e,f,g,h⟩
theorem an9(a:A)(b:B)(c:C)(d:D)(e:E)(f:F)(g:G)(h:H)(i:I):A/\B/\C/\D/\E/\F/\G/\H/\I:=⟨a,b,c,d,e,f,g,h,i⟩
end
def gdOk:List (Nat×Nat)->(Nat->Option Tmp)->Prop
 | [],_=>True
 |p::l,gd=>gd p.1=some p.2/\gdOk l gd
theorem zjU{L:List Oper}:∀{gs:List (Nat×Nat)},(gs.all λ p=>dstL L p.1==some p.2)=true->gdOk gs (dstL L)
 | [],_=>trivial
 |p::l,h=>by
  simp only[List.all_cons,yaB,beq_iff_eq]at h;exact⟨h.1,zjU h.2⟩
theorem zcR(b:Bool):zdY undef b=false:=nr rfl
def Rest(P:Program)(Q:Post)(ds:List Deferred)(L:List Oper)(F:(Nat->Option Tmp)->(Sto->World->Prop)->Prop):Prop:=
 ∀(gd:Nat->Option Tmp) (K:Sto->World->Prop),gd=dstL L->(∀σ' w',Q .normal σ' ds w'->K σ' w')->F gd K
section
variable {P : Program} {r : Option Nat} {n : Nat} {Q : Post} {σ : Sto} {ds : List Deferred} {w : World} {p : Prop} {L : List Oper} {F : (Nat -> Option Tmp) -> (Sto -> World -> Prop) -> Prop}
theorem wt{c:Operand}{x y:Code}(h:p)(ht:W P r n x Q σ ds w)(hc:p->ev n σ c= .bool true:=by intro h1;first| (simp only[go_sem,h1];done)| (simp only[go_sem,h1];rfl)):W P r n (.cond c x y) Q σ ds w:=zaG (hc h) (λ _=>ht) (λ h=>by cases h)
theorem wf{c:Operand}{x y:Code}(h:p)(ht:W P r n y Q σ ds w)(hc:p->ev n σ c= .bool false:=by intro h1;first| (simp only[go_sem,h1];done)| (simp only[go_sem,h1];rfl)):W P r n (.cond c x y) Q σ ds w:=zaG (hc h) (λ h=>by cases h) (λ _=>ht)
theorem ro{id:Nat}{ops:Array Oper}(h:Rest P Q ds ops.toList (λ gd K=>opsV P gd n ops.toList σ w K))(hd:zaX ops=true:=by rfl):W P r n (.region id ops false) Q σ ds w:=zcx hd λ gd K hgd hK=>h gd K hgd hK
theorem rd{f:FuncId}{args:Array Value}{w1:World}{R:Value->World->Prop}{C:(Nat->Option Tmp)->(Sto->World->Prop)->Value->World->Prop}(h:p)(hF:Fn P f args w1 R)(hr:∀v w',R v w'->Rest P Q ds L (λ gd K=>C gd K v w'))
  (hs:p->∀(gd:Nat->Option Tmp) (K:Sto->World->Prop),F gd K=Fn P f args w1 (λ v w'=>C gd K v w'):=by intro h1 gd K;(simp (disch:=first|omega|assumption|rfl) only[go_sem,h1])<;>exact rfl):Rest P Q ds L F:=
 λ gd K hgd hK=>(hs h gd K).mpr (yfm hF λ v w' hR=>hr v w' hR gd K hgd hK)
theorem rc{id:Nat}{ops:Array Oper}{f:FuncId}{args:Array Value}{R:Value->World->Prop}{C:(Nat->Option Tmp)->(Sto->World->Prop)->Value->World->Prop}(h:p)(hF:Fn P f args w1 R)(hr:∀v w',R v w'->Rest P Q ds ops.toList (λ gd K=>C gd K v w'))
  (hs:p->∀(gd:Nat->Option Tmp) (K:Sto->World->Prop),opsV P gd n ops.toList σ w K=Fn P f args w1 (λ v w'=>C gd K v w'):=by intro h1 gd K;(simp (disch:=first|omega|assumption|rfl) only[go_sem,h1])<;>exact rfl)
  (hd:zaX ops=true:=by rfl):W P r n (.region id ops false) Q σ ds w:=ro (rd h hF hr hs) hd
theorem re{σ1:Sto}{w1:World}(h:p)(hq:Q .normal σ1 ds w1)
  (hs:p->∀(gd:Nat->Option Tmp) (K:Sto->World->Prop),F gd K=K σ1 w1:=by intro h1 gd K;(first| (simp (disch:=first|omega|assumption|rfl) only[go_sem,h1])|skip)<;>exact rfl):Rest P Q ds L F:=
 λ gd K _ hK=>(hs h gd K).mpr (hK _ _ hq)
theorem rdg(gs:List (Nat×Nat)){f:FuncId}{args:Array Value}{w1:World}{R:Value->World->Prop}{C:(Nat->Option Tmp)->(Sto->World->Prop)->Value->World->Prop}(h:p)(hF:Fn P f args w1 R)(hr:∀v w',R v w'->Rest P Q ds L (λ gd K=>C gd K v w'))
  (hs:p->∀(gd:Nat->Option Tmp) (K:Sto->World->Prop),gdOk gs gd->F gd K=Fn P f args w1 (λ v w'=>C gd K v w'):=by intro h1 gd K hg;simp only[gdOk]at hg;(simp (disch:=first|omega|assumption|rfl) only[go_sem,zb8,zcy,zcR,hg,h1])<;>exact rfl)
  (hg:(gs.all λ p=>dstL L p.1==some p.2)=true:=by exact rfl):Rest P Q ds L F:=
 λ gd K hgd hK=>(hs h gd K (hgd▸zjU hg)).mpr (yfm hF λ v w' hR=>hr v w' hR gd K hgd hK)
theorem rcg(gs:List (Nat×Nat)){id:Nat}{ops:Array Oper}{f:FuncId}{args:Array Value}{R:Value->World->Prop}{C:(Nat->Option Tmp)->(Sto->World->Prop)->Value->World->Prop}(h:p)(hF:Fn P f args w1 R)(hr:∀v w',R v w'->Rest P Q ds ops.toList (λ gd K=>C gd K v w'))
  (hs:p->∀(gd:Nat->Option Tmp) (K:Sto->World->Prop),gdOk gs gd->opsV P gd n ops.toList σ w K=Fn P f args w1 (λ v w'=>C gd K v w'):=by intro h1 gd K hg;simp only[gdOk]at hg;(simp (disch:=first|omega|assumption|rfl) only[go_sem,zb8,zcy,zcR,hg,h1])<;>exact rfl)
  (hg:(gs.all λ p=>dstL ops.toList p.1==some p.2)=true:=by exact rfl) (hd:zaX ops=true:=by rfl):W P r n (.region id ops false) Q σ ds w:=ro (rdg gs h hF hr hs hg) hd
theorem reg(gs:List (Nat×Nat)){σ1:Sto}(h:p)(hq:Q .normal σ1 ds w1)
  (hs:p->∀(gd:Nat->Option Tmp) (K:Sto->World->Prop),gdOk gs gd->F gd K=K σ1 w1:=by intro h1 gd K hg;simp only[gdOk]at hg;(first| (simp (disch:=first|omega|assumption|rfl) only[go_sem,zb8,zcy,zcR,hg,h1])|skip)<;>exact rfl)
  (hg:(gs.all λ p=>dstL L p.1==some p.2)=true:=by exact rfl):Rest P Q ds L F:=
 λ gd K hgd hK=>(hs h gd K (hgd▸zjU hg)).mpr (hK _ _ hq)
theorem rgg(gs:List (Nat×Nat)){id:Nat}{ops:Array Oper}{σ1:Sto}{w1:World}(h:p)(hq:Q .normal σ1 ds w1)
  (hs:p->∀(gd:Nat->Option Tmp) (K:Sto->World->Prop),gdOk gs gd->opsV P gd n ops.toList σ w K=K σ1 w1:=by intro h1 gd K hg;simp only[gdOk]at hg;(simp (disch:=first|omega|assumption|rfl) only[go_sem,zb8,zcy,zcR,hg,h1])<;>exact rfl)
  (hg:(gs.all λ p=>dstL ops.toList p.1==some p.2)=true:=by exact rfl) (hd:zaX ops=true:=by rfl):W P r n (.region id ops false) Q σ ds w:=ro (reg gs h hq hs hg) hd
end
section
variable {P : Program} {x : World} {e : TypeId} {K : Value -> World -> Prop}
theorem zaV{cur:Array Value}(hl:l.length=cur.size)(h1:∀v∈l,one v=true)(hs:tyS P t=l.length)(hi:(P.info? t).isSome=true)
  (hK:∀w',Ext x w'->w'.heap.size=x.heap.size+1->w'.heap[x.heap.size]? =some (.cells l.toArray e (0,0))->K undef w'):stK P t (.pointer (some ⟨x.heap.size,0,.none⟩)) (.agg l.toArray) (x.alloc (.cells cur e (0,0))) K:=by
 have hB3:=zam x (.cells cur e (0,0));have hE4:=yea x (.cells cur e (0,0));have hs4:=zai x (.cells cur e (0,0));refine zaL (P:=P) (t:=t) (l:=l) hB3 hl h1 hs hi ?_;intro w5 hs5 hB5 hk5;exact hK w5 (ykt hE4 rfl (λ b hb=>oM) hk5) oM hB5
theorem Row.isOne(h:Row w v l):one v=true:=by
 obtain⟨a,c,rfl,_⟩:=h;rfl
theorem Rows.isOne{α:Type}{C:List Value->α->Prop}{l:List α}(h:Rows k C w v l):one v=true:=by
 obtain⟨a,c,rfl,_⟩:=h.open;rfl
theorem za7{a b:Value}(ha:one a=true)(hb:one b=true):∀v∈ [a,b],one v=true:=λ v h=>by
 simp at h;rcases h with rfl|rfl<;>assumption
end
def encZ(w0:World)(x:Nat×zcr)(_:World)(args:Array Value):Prop:=∃ov lv,args=#[vi x.1,.agg #[ov,lv]]/\Row w0 ov (x.2.o.map vs)/\Rows 7 (RecAt w0) w0 lv x.2.recs
theorem zc7{n0:Nat}{a b:World}(h:Ext a b)(hn:n0<=a.heap.size):KeepB n0 C a b:=Keep.toB h hn (λ _ _ h=>h.elim)
theorem zones_ok(w:World){hv rv:Value}{s a b:Int}:
  Fn prog 156 #[.agg #[hv,rv,vi a,vi b],vi s] w (λ v w'=>v= .func (.func 195) #[] #[.pointer (some ⟨w.heap.size+1,0,.none⟩),.pointer (some ⟨w.heap.size,0,.none⟩)]/\Ext w w'/\w'.heap.size=w.heap.size+2/\
   w'.heap[w.heap.size]? =some (.cells #[hv,rv,vi a,vi b] 25 (0,0))/\w'.heap[w.heap.size+1]? =some (.cells #[vi s] 3 (0,0))):=by
 refine enx func156 ntmps156 ?_;repeat refine c_r ?_
 refine rg0 ?_;repeat refine c_r ?_
 rw[zai];refine zaQ ?_;intro w1 hE1 hs1 hA hC;refine rg0 ?_;repeat refine c_r ?_
 refine rt0 ntmps156 ?_;exact⟨rfl,hE1,hs1,hA,hC⟩
theorem zonesIt{sb nb:Nat}{hv rv:Value}{s:Int}{N:NetL}(hE0:Ext w0 W0)(hbs:W0.heap[sb]? =some (.cells #[vi s] 3 (0,0)))(hbn:W0.heap[nb]? =some (.cells #[hv,rv,vi N.rw,vi N.rf] 25 (0,0)))
  (hh:Rows 6 (HostC w0) w0 hv N.hosts) (hC:∀b,C b->w0.heap.size<=b) (hN:NetZ N):
  Iter prog 195 #[.pointer (some ⟨sb,0,.none⟩),.pointer (some ⟨nb,0,.none⟩)] W0 W0.heap.size C (numZ 0 (N.zones s)) (encZ w0):=by
 intro lp J Jx W hW hnW hJ hJx hY h0;obtain⟨ah,ch,rfl,hch,hgh⟩:=hh.open;have hl:=hN.hl;have ps:zad W (some ⟨sb,0,.none⟩)=some (vi s):=zaa hW (zab hbs rfl);have pn:zad W (some ⟨nb,0,.none⟩)=some (.slice ah N.hosts.length ch):=zaa hW (zab hbn rfl);refine enx func195 ntmps195 ?_;refine cZ ?_;by_cases h1:s<0
 ·refine rgg [(2,8)] (an3 ps (yet h1) yad) ?_;refine cZ ?_;refine wt trivial ?_;refine cZ ?_;refine zap sM rfl (.inl ?_);unfold NetL.zones;rw[if_pos h1];exact h0
 by_cases h2:(N.hosts.length:Int)<=s
 ·refine rgg [(2,8)] (an5 ps pn (yef h1) (yet h2) yad) ?_;refine cZ ?_;refine wt trivial ?_;refine cZ ?_;refine zap sM rfl (.inl ?_);unfold NetL.zones;rw[if_neg h1,ybY oM];exact h0
 refine rgg [(2,8)] (an5 ps pn (yef h1) (yef h2) yad) ?_;refine cZ ?_;refine wf trivial ?_;obtain⟨i0,rfl⟩:∃i:Nat,s=i:=⟨s.toNat,oM⟩;have hi0:i0<N.hosts.length:=oM;obtain⟨hcs,hhc,hhC⟩:=hgh i0 hi0;obtain⟨h,hhe⟩:∃h,N.hosts[i0]=h:=⟨_,rfl⟩;rw[hhe]at hhC;obtain⟨nv,b1,b2,b3,b4,zv,rfl,_,hnm,hz⟩:=hhC.ex;have hzl:N.zones (i0:Int)=h.zones:=by
  unfold NetL.zones;rw[if_neg h1,ycQ,yam hi0,hhe]
 have hzb:h.zones.length<=1000:=hN.zl h (hhe▸yac hi0);rw[hzl]at hY ⊢;obtain⟨az,cz,rfl,hcz,hgz⟩:=hz.open;obtain⟨xh,rfl⟩:=yxs (zak hhc);obtain⟨xi,hxi⟩:∃xi,adr (some xh) (i0*6)=some xi:=⟨_,rfl⟩;rw[hxi]at hhc;have pz:zad W (adr (some xi) 5)=some (.slice az h.zones.length cz):=zaq (zac (hE0.trans hW) hhc) rfl;obtain⟨x5,hx5⟩:∃x,adr (some xi) 5=some x:=⟨_,rfl⟩;rw[hx5]at pz;have hi0':(0:Int)<=(i0:Int):=oM;have hi1':(i0:Int)<(N.hosts.length:Int):=oM;refine gz (az2 (az7 ps pn hi0' hi1' hxi hx5 pz) yad) ?_;obtain⟨L,hL⟩:∃L,numZ 0 h.zones=L:=⟨_,rfl⟩;have hLl:L.length=h.zones.length:=by rw[←hL,zcL]
 rw[hL]at hY ⊢;refine zan (λ m σ ds v=>ds=[]/\∃(i:Nat),i+m=L.length/\σ 22=vi i/\σ 21=vi h.zones.length/\σ 20= .slice az h.zones.length cz/\σ 0= .func (.yield lp) #[] #[]/\J (L.take i) v/\KeepB W0.heap.size C W v) L.length ?_ ?_
 ·exact⟨rfl,0,oM,vr0,vq0,vq0,vq0,h0,KeepB.refl _ _ _⟩
 rintro m σ ds v ⟨rfl,i,him,s22,s21,s20,s0,hj,hKB⟩;refine gz (az2 s22 s21) ?_;refine wc0 ?_ ?_
 ·intro hlt;simp only[ydT]at hlt;have hi:i<h.zones.length:=oM;have hi0:=cj i;have hi1':=ci i;obtain⟨cs,hcs,hZ⟩:=hgz i hi;obtain⟨ov,lv,rfl,ho,hr⟩:=hZ.ex;obtain⟨xz,rfl⟩:=yxs (zak hcs);obtain⟨xi,hxi⟩:∃xi,adr (some xz) (i*2)=some xi:=⟨_,rfl⟩;rw[hxi]at hcs;have hEv:Ext w0 v:=zdi (hE0.trans hW) hKB hE0.size hC;have d:=zac hEv hcs;have hLi:L[i]'(oM)=(i,h.zones[i]):=by
   simp only[←hL];rw[zfT hi];simp
  refine rqz ?_;intro gd K hgd hK;refine sgz (az6 s22 s20 hi0 hlt hxi d) ?_;refine zaV (P:=prog) (l:=[ov,lv]) rfl (za7 ho.isOne hr.isOne) rfl rfl ?_;intro v1 hE1 hs1 hB1;refine sg0 ?_;apply hK;have d1:=zah (n:=2) hB1 rfl;refine rqz ?_;intro gd K hgd hK;refine sgz (az2 s0 d1) ?_;refine Yld.mono (hY (L.take i) (L[i]'(oM)) (L.drop (i+1)) v1 _ (by rw[←yag,yar]) (hJ _ _ _ hj hE1) (hKB.trans (zc7 hE1 (by have:=hKB.size;omega))) ⟨ov,lv,by rw[hLi],by rw[hLi];exact ho,by rw[hLi];exact hr⟩) ?_;rintro u x (⟨rfl,hj',hk'⟩| ⟨rfl,hjx⟩)
  ·refine sg0 ?_;apply hK;refine wcz ?_ ?_
   ·intro h;simp at h
   ·intro _;refine gz (az2 s22 hi1') ?_;exact⟨m - 1,oM,rfl,i+1,oM,vq0,vq1 s21,vq1 s20,vq1 s0,by rw[←List.take_append_getElem oM]at*;exact hj',(hKB.trans (zc7 hE1 (by have:=hKB.size;omega))).trans hk'⟩
  ·refine sg0 ?_;apply hK;refine wcz ?_ ?_
   ·intro _;refine cZ ?_;refine zap sM rfl (.inr ⟨_,_,L.drop (i+1),?_,hjx⟩);rw[←yag,yar]
   ·intro h;simp at h
 ·intro hge;simp only[ydF]at hge;refine cZ ?_;refine zap sM rfl (.inl ?_)
  rwa [yaf oM]at hj
theorem zgN{a:Addr}:∀(i m k:Nat) {l:List Value},zaS w a i (m+k)=some l->zaS w a i m=some (l.take m)
 |i,0,k,l,h=>by simp[zaS]
 |i,m+1,k,l,h=>by
  rw[show m+1+k=(m+k)+1 from by omega]at h;unfold zaS at h ⊢
  split at h
  ·rename_i v l' h1 h2;cases h;rw[h1,zgN (i+1) m k h2];rfl
  ·cases h
theorem zcB{p:Option Addr}{m:Nat}(h:zat w p (m+k)=some l):zat w p m=some (l.take m):=by
 cases p with
 |none=>cases h
 |some a=>exact zgN 0 m k h
section
variable {P : Program} {w : World} {K : Value -> World -> Prop} {t : TypeId} {p v : Value} {A B : Obj}
theorem zmo(h:∀z,Ext w z->z.heap.size=w.heap.size+1->z.heap[w.heap.size]? =some A->stK P t p v z K):stK P t p v (w.alloc A) K:=
 h _ (yea w A) (zai w A) (ybd w A)
theorem st_al2(h:∀z,Ext w z->z.heap.size=w.heap.size+2->z.heap[w.heap.size]? =some A->z.heap[w.heap.size+1]? =some B->stK P t p v z K):stK P t p v ((w.alloc A).alloc B) K:=by
 obtain⟨h1,h2,h3,h4⟩:=zd1 w A B;exact h _ h1 h2 h3 h4
end
section
variable {P : Program} {d : Option Tmp} {ty : TypeId} {ps : String} {af : Array Edge} {g : Option (Nat × Bool)} {ρ : Operand -> Value} {w : World} {K : Value -> World -> Prop}
theorem op_slA{t e:TypeId}{x:Operand}{n:Nat}{a:Addr}{m:Lck K (opW P ⟨d,.slice t x .none .none .none,ty,ps,af,g⟩ ρ w K)}(ht:P.underlying t=some (.array n e))(hn:n≠0)(he:(P.info? e).isSome=true)
  (hx:ρ x= .pointer (some a)) (h:K (.slice (some a) n n) w):optL (slD P (some (.array n e)) (.pointer (some a)) .none .none .none) w K (opW P ⟨d,.slice t x .none .none .none,ty,ps,af,g⟩ ρ w K) m:=by
 show opW P _ ρ w K;obtain⟨inf,hi⟩:=yxs he;refine zaI (s:=Instr.sliceAt t (ρ x) .none .none .none) (v:= .slice (some a) n n) (w':=w) ?_ h;have e1:=zcI (P:=P) (w:=w) (sl:=false) (n:=n) (c:=n) (lo:= .none) (hi:= .none) (mx:= .none) (l:=0) (h:=n) (m:=n) rfl rfl rfl (yba _) (ynl _) (ynl _) sM;have ha0:a.add 0=a:=by simp[Addr.add]
 simp[Instr.sliceAt,underlying,program,Sem.run,ht,hx,Instr.sureAddr,e1,sizeOf,typeInfo,hi,hn,ha0]
end
theorem NetAt.one{N:NetL}(h:NetAt w cs N):cs.length=4/\∀v∈cs,one v=true:=by
 obtain⟨hv,rv,rfl,h1,h2⟩:=h.ex;refine⟨rfl,λ v hv=>?_⟩;simp at hv;rcases hv with rfl|rfl|rfl|rfl
 ·exact h1.isOne
 ·exact h2.isOne
 ·rfl
 ·rfl
theorem zov(hE0:Ext w0 w){N:NetL}{s:Int}{qv:Value}(hN:NetAt w0 cs N)(hG:NetZ N)(hq:Row w qv (q.map vs))(mq:NmM q):
  Fn prog 119 #[.agg cs.toArray,vi s,qv] w (λ v w'=>v= .tuple #[vi (zer N s q).1,.bool (zer N s q).2]/\Ext w w'):=by
 obtain⟨hv,rv,rfl,hh,hr⟩:=hN.ex;have e1:=hh.isOne;have e2:=hr.isOne;obtain⟨ah,ch,hhv,_⟩:=hh.open;obtain⟨ar,cr,hrv,_⟩:=id hr;obtain⟨aq,cq,hqv,_⟩:=id hq;have ql:=mq.len;refine enx func119 ntmps119 ?_;repeat refine c_r ?_
 rw[hhv,hrv,hqv];refine rg0 ?_;rw[←hhv,←hrv,←hqv];repeat refine c_r ?_
 rw[zai];refine zaQ ?_;intro w1 hE1 hs1 hA hC;refine rq ?_;intro gd K hgd hK;try simp only[go_sem]
 rw[zai];refine st_al2 ?_;intro w2 hE2 hs2 h8 h9;refine za6 (P:=prog) (t:=3) (j:=0) (u:=vi 0) (l:=[vi 0]) h8 (by simp) rfl rfl rfl ?_;intro w3 hs3 h8' hk3;try simp only[go_sem]
 refine za6 (P:=prog) (t:=3) (j:=0) (u:=vi (-1)) (l:=[vi 0]) ((hk3.block _ oM oM).trans h9) (by simp) rfl rfl rfl ?_;intro w4 hs4 h9' hk4;try simp only[go_sem]
 apply hK;simp only[ybi]at h8' h9';obtain⟨b8,hb8⟩:∃b,w1.heap.size=b:=⟨_,rfl⟩;rw[hb8]at h8 h8' h9 h9' hk3 hk4 hs2 ⊢;have hE3:=ykt (hE1.trans hE2) rfl (λ b hb=>oM) hk3;have hE4:=ykt hE3 rfl (λ b hb=>oM) hk4;have g8:=(hk4.block _ oM oM).trans h8';have gA:=(hk4.block _ oM oM).trans ((hk3.block _ oM oM).trans (Ext.at hE2 hA));have gC:=(hk4.block _ oM oM).trans ((hk3.block _ oM oM).trans (Ext.at hE2 hC));clear h8 h8' h9 hk3 hk4 hE3 hE2 hE1 hA hC;have d4:=zah (n:=4) (l:=[hv,rv,vi N.rw,vi N.rf]) gA rfl;have p5:zad w4 (some ⟨w.heap.size+1,0,.none⟩)=some qv:=zab gC rfl;have hb8w:w.heap.size+2<=b8:=oM;repeat refine c_r ?_
 refine rc d4 (zones_ok w4) ?_;rintro _ w5 ⟨rfl,hE5,hs5,hbn,hbs⟩;refine re trivial ?_;repeat refine c_r ?_
 have hE05:=hE0.trans (hE4.trans hE5);refine zd4 (g:=195) (cap:=#[.pointer (some ⟨w4.heap.size+1,0,.none⟩),.pointer (some ⟨w4.heap.size,0,.none⟩)]) vq0 rfl (zonesIt (C:=λ b=>b=b8\/b=b8+1) hE05 hbs hbn hh (λ b hb=>by have:=hE0.size;omega) hG) ykr (ynl _) (λ b hb=>oM) (λ x A args h=>by obtain⟨_,_,e,_⟩:=h;rw[e];rfl)
  (λ pre A=>Ext w A/\A.heap[b8]? =some (.cells #[vi (pre.foldl (zba q) (0, -1)).1] 3 (0,0))/\A.heap[b8+1]? =some (.cells #[vi (pre.foldl (zba q) (0, -1)).2] 3 (0,0))/\A.heap[w.heap.size+1]? =some (.cells #[qv] 27 (0,0)))
  (λ _ _ _=>False) ?_ (λ _ _ _ _ h _=>h.elim) ?_ ?_ ?_ (λ _ _ _ _ _ _ _ h _=>h.elim)
 ·rintro pre A B ⟨h1,h2,h3,h4⟩ hk;have f:∀{b:Nat} {O:Obj},A.heap[b]? =some O->b<w5.heap.size->B.heap[b]? =some O:=λ h hb=>(hk.block _ (yaa.1 h).1 (by unfold two;omega)).trans h;exact⟨ykt h1 rfl (λ b hb=>by unfold two at hb;omega) hk,f h2 oM,f h3 oM,f h4 oM⟩
 ·exact⟨hE4.trans hE5,Ext.at hE5 g8,Ext.at hE5 h9',Ext.at hE5 gC⟩
 ·rintro lp pre y suf A args hxs hszA ⟨hEA,k8,k9,k5⟩ ⟨ov,lv,rfl,ho,hr⟩;obtain⟨B,hB⟩:∃B,pre.foldl (zba q) (0, -1)=B:=⟨_,rfl⟩;have hfo:(pre++ [y]).foldl (zba q) (0, -1)=zba q B y:=by rw[ybI,yce,List.foldl_nil,hB]
  rw[hB]at k8 k9;have gz:GoodZ y.2:=by
   have hm:y∈numZ 0 (N.zones s):=hxs▸(by simp);obtain⟨i,hi,rfl⟩:=ybh.1 hm;have hi':=hi;rw[zcL]at hi';rw[zfT hi'];exact(ze9 hG).1 _ (yac hi')
  have mo:=gz.m;have ol:=mo.len;refine gz0 ?_;refine rq ?_;intro gd K hgd hK;try simp only[go_sem]
  refine zaV (P:=prog) (l:=[ov,lv]) rfl (za7 ho.isOne hr.isOne) rfl rfl ?_;intro A1 hE6 hs6 hB6;try simp only[go_sem]
  apply hK;refine zao ?_;refine⟨rfl,zc7 hE6 oM,λ Y hY=>?_⟩;have f:∀{b:Nat} {O:Obj},A1.heap[b]? =some O->¬two w5.heap.size b->Y.heap[b]? =some O:=λ h hb=>(hY.block _ (yaa.1 h).1 hb).trans h;have y8:=f (Ext.at hE6 k8) (by unfold two;omega);have y9:=f (Ext.at hE6 k9) (by unfold two;omega);have y5:=f (Ext.at hE6 k5) (by unfold two;omega);have y6:=f hB6 (by unfold two;omega);have hEY:Ext w Y:=ykt (hEA.trans hE6) rfl (λ b hb=>by unfold two at hb;omega) hY;have hsY:=hY.size;have q8:zad Y (some ⟨b8,0,.none⟩)=some (vi B.1):=zab y8 rfl;have q9:zad Y (some ⟨b8+1,0,.none⟩)=some (vi B.2):=zab y9 rfl;have q5:zad Y (some ⟨w.heap.size+1,0,.none⟩)=some qv:=zab y5 rfl;have q6:zad Y (some ⟨A.heap.size,0,.none⟩)=some ov:=zab y6 rfl;obtain⟨ao,co,hov,_⟩:=id ho;have holen:(y.2.o.map vs).length=y.2.o.length:=by simp
  rw[holen]at hov;clear y5 y6;repeat refine c_r ?_
  refine rcg [(4,21)] (an3 q5 q6 yad) (zbF Y qv ov q y.2.o (hq.ext hEY) (ho.ext (hE0.trans hEY)) mq.LB mo.LB oM oM) ?_;rintro _ Z ⟨rfl,hZ⟩;have z6:=zaa hZ q6;have z9:=zaa hZ q9;rw[hov]at z6;have hEZ:=hEY.trans hZ;have z8':=Ext.at hZ y8;have z9':=Ext.at hZ y9;have z5':=Ext.at hZ (f (Ext.at hE6 k5) (by unfold two;omega));have hkZ:KeepB (w5.heap.size+2) (λ b=>b=b8\/b=b8+1) Y Z:=zc7 hZ oM;obtain⟨u,hu⟩:∃u,zaN q y.2.o=u:=⟨_,rfl⟩;rw[hu];have hstay:(u=true/\B.2<(y.2.o.length:Int))\/zba q B y=B:=by
   by_cases h:u=true/\B.2<(y.2.o.length:Int)
   ·exact .inl h
   ·exact .inr (by unfold zba;rw[hu,if_neg h])
  cases u with
  |false=>
   have hst:zba q B y=B:=hstay.resolve_left (λ h=>by cases h.1);refine reg [(4,21)] trivial ?_;repeat refine c_r ?_
   refine wf trivial ?_;repeat refine c_r ?_
   refine⟨⟨hEZ,?_,?_,z5'⟩,hkZ⟩
   ·rw[hfo,hst];exact z8'
   ·rw[hfo,hst];exact z9'
  |true=>
   refine reg [(4,21)] (an3 z6 z9 yad) ?_;repeat refine c_r ?_
   by_cases hgt:B.2<(y.2.o.length:Int)
   ·refine wt (yet hgt) ?_;have hst:zba q B y=((y.1:Int),(y.2.o.length:Int)):=by unfold zba;rw[hu,if_pos ⟨rfl,hgt⟩]
    repeat refine c_r ?_
    refine zaF (λ i=>i==5) [(0,true),(1,true),(2,true),(3,true),(4,false),(5,false)] ((λ i=>i=b8\/i=b8+1)) mixed kR ?_;intro gd K x hgd hx hxe hK;have hx0:=zgH hxe;clear hxe;have z6x:=zaa hx0 z6;have hsZ:=hZ.size;have hsx:=hx0.size;refine sgz (az2 z6x yad) ?_;refine⟨λ a ha hb=>by cases ha;dsimp only at hb;omega,?_⟩;refine za6 (P:=prog) (t:=3) (j:=0) (u:=vi y.1) (l:=[vi B.1]) (Ext.at hx0 z8') (by simp) rfl rfl rfl ?_;intro Z1 hsZ1 h8' hkZ1;refine⟨.inr (hkZ1.mono λ i _ h=> .inl h),?_⟩;refine sg0 ?_;refine za6 (P:=prog) (t:=3) (j:=0) (u:=vi y.2.o.length) (l:=[vi B.2]) ((hkZ1.block _ oM oM).trans (Ext.at hx0 z9')) (by simp) rfl rfl rfl ?_;intro Z2 hsZ2 h9' hkZ2;refine⟨.inl rfl,?_⟩;refine sg0 ?_;apply hK;have z5x:=Ext.at hx0 z5';repeat refine c_r ?_
    refine⟨⟨ykt (ykt (hEZ.trans hx0) rfl (λ b hb=>oM) hkZ1) rfl (λ b hb=>oM) hkZ2,?_,?_,?_⟩,(hkZ.trans (zc7 hx0 oM)).trans ((hkZ1.toB oM (λ i _ h=> .inl h)).trans (hkZ2.toB oM (λ i _ h=> .inr h)))⟩
    ·rw[hfo,hst];exact(hkZ2.block _ oM oM).trans h8'
    ·rw[hfo,hst];exact h9'
    ·exact(hkZ2.block _ oM oM).trans ((hkZ1.block _ oM oM).trans z5x)
   ·refine wf (yef hgt) ?_;have hst:zba q B y=B:=hstay.resolve_left (λ h=>hgt h.2);repeat refine c_r ?_
    refine⟨⟨hEZ,?_,?_,z5'⟩,hkZ⟩
    ·rw[hfo,hst];exact z8'
    ·rw[hfo,hst];exact z9'
 ·intro A hszA ⟨hEA,k8,k9,_⟩ hD;have q8:zad A (some ⟨b8,0,.none⟩)=some (vi (bestZ q (N.zones s)).1):=zab k8 rfl;have q9:zad A (some ⟨b8+1,0,.none⟩)=some (vi (bestZ q (N.zones s)).2):=zab k9 rfl;repeat refine c_r ?_
  refine zaF (λ _=>false) [(0,true),(1,true),(2,true),(3,true),(4,true)] NoS mixed kR ?_;intro gd K x hgd hx hxe hK;clear hxe;have q8x:=zaa hx q8;have q9x:=zaa hx q9;refine sgz (az2 q8x q9x) ?_;refine en hK ?_;refine ziy (v:=vi (zer N s q).1) (v':= .bool (zer N s q).2) (.inr rfl) (by rfl) ntmps119 vr0 vr0 (Ext.at hx hD) ?_;intro Z hkZ hsZ;exact⟨rfl,ykt (hEA.trans hx) rfl (λ b hb=>oM) hkZ⟩
theorem zn6(hE0:Ext w0 w){N:NetL}{s:Int}{qv:Value}(hN:NetAt w0 cs N)(hG:NetZ N)(hq:Row w qv (q.map vs))(mq:NmM q):
  Fn prog 121 #[.agg cs.toArray,vi s,qv] w (λ v w'=>v= .bool (zer N s q).2/\Ext w w'):=by
 have hN0:=hN;obtain⟨hv,rv,rfl,hh,hr⟩:=hN.ex;obtain⟨ah,ch,hhv,_⟩:=hh.open;obtain⟨ar,cr,hrv,_⟩:=id hr;refine enx func121 ntmps121 ?_;refine cZ ?_;rw[hhv,hrv];refine rg0 ?_;rw[←hhv,←hrv];refine cZ ?_;refine zav ?_;intro w1 hE1 hs1 hA;have d:=zah (n:=4) (l:=[hv,rv,vi N.rw,vi N.rf]) hA rfl;refine cZ ?_;refine rc d (zov (s:=s) (hE0.trans hE1) hN0 hG (hq.ext hE1) mq) ?_;rintro _ w2 ⟨rfl,hE2⟩;refine re trivial ?_;refine gz0 ?_;refine rt0 ntmps121 ?_;exact⟨rfl,hE1.trans hE2⟩
theorem zone_at{w:World}{hv:Value}{N:NetL}{s k:Int}{z:zcr}(hh:Rows 6 (HostC w) w hv N.hosts)(hz:(N.zones s)[k.toNat]? =some z)(hk:0<=k):
  ∃(i j:Nat) (ah:Addr) (ch:Nat) (xi x5 az:Addr) (cz nz:Nat) (xz:Addr) (ov lv:Value),s=(i:Int)/\k=(j:Int)/\i<N.hosts.length/\j<nz/\hv= .slice (some ah) N.hosts.length ch/\adr (some ah) (i*6)=some xi/\adr (some xi) 5=some x5/\zad w (some x5)=some (.slice (some az) nz cz)/\adr (some az) (j*2)=some xz/\
   zat w (some xz) 2=some [ov,lv]/\Row w ov (z.o.map vs)/\Rows 7 (RecAt w) w lv z.recs:=by
 unfold NetL.zones at hz
 split at hz
 ·simp at hz
 rename_i hs;cases hh':N.hosts[s.toNat]? with
 |none=>rw[hh']at hz;simp at hz
 |some h=>
  rw[hh']at hz
  dsimp only at hz
  obtain⟨hi,hhi⟩:=yaj.1 hh';obtain⟨hj,hzj⟩:=yaj.1 hz;obtain⟨ah,ch,rfl,_,hgh⟩:=hh.open;obtain⟨cs,hcs,hH⟩:=hgh _ hi;rw[hhi]at hH;obtain⟨nv,b1,b2,b3,b4,zv,rfl,_,_,hzr⟩:=hH.ex;obtain⟨az,cz,rfl,_,hgz⟩:=hzr.open;obtain⟨c2,hc2,hZ⟩:=hgz _ hj;rw[hzj]at hZ;obtain⟨ov,lv,rfl,ho,hr⟩:=hZ.ex;obtain⟨xh,rfl⟩:=yxs (zak hcs);obtain⟨xz,rfl⟩:=yxs (zak hc2);obtain⟨xi,hxi⟩:∃xi,adr (some xh) (s.toNat*6)=some xi:=⟨_,rfl⟩;obtain⟨x5,hx5⟩:∃x,adr (some xi) 5=some x:=⟨_,rfl⟩;obtain⟨xk,hxk⟩:∃xi,adr (some xz) (k.toNat*2)=some xi:=⟨_,rfl⟩;rw[hxi]at hcs;rw[hxk]at hc2;exact⟨s.toNat,k.toNat,xh,ch,xi,x5,xz,cz,_,xk,ov,lv,oM,oM,hi,hj,rfl,hxi,hx5,by rw[←hx5];exact zaq hcs rfl,hxk,hc2,ho,hr⟩
theorem ones5{a b c:Value}{k:Int}{d:Bool}(ha:one a=true)(hb:one b=true)(hc:one c=true):∀v∈ [vi k,a,b,.bool d,c],one v=true:=λ v h=>by
 simp at h;rcases h with rfl|rfl|rfl|rfl|rfl<;>first|assumption|rfl
theorem nil_res{k:Int}{b:Bool}:ResB w0 B w [vi k,.slice .none 0 0,.slice .none 0 0,.bool b,.slice .none 0 0] ⟨k,[],[],b,[]⟩:=
 ⟨_,_,_,rfl,Rows.nil _ _ _,BlkB.nil,.inr (zbb _),Rows.nil _ _ _,BlkB.nil⟩
theorem Ask_ok(hE0:Ext w0 w){N:NetL}{s:Int}{qv:Value}{t:Int}(hN:NetAt w0 cs N)(hG:NetZ N)(hq:Row w qv (q.map vs))(mq:NmM q):
  Fn prog 82 #[.agg cs.toArray,vi s,qv,vi t] w (λ v w'=>Ext w w'/\∃cs,v= .agg cs.toArray/\ResB w0 w.heap.size w' cs (askN N s q t)):=by
 have hN0:=hN;obtain⟨hv,rv,rfl,hh,hr⟩:=hN.ex;obtain⟨ah,ch,hhv,_⟩:=hh.open;obtain⟨ar,cr,hrv,_⟩:=id hr;refine enx func82 ntmps82 ?_;refine cZ ?_;rw[hhv,hrv];refine rg0 ?_;rw[←hhv,←hrv];refine cZ ?_;rw[zai];refine zaQ ?_;intro w1 hE1 hs1 hA hC;have d:=zah (n:=4) (l:=[hv,rv,vi N.rw,vi N.rf]) hA rfl;refine cZ ?_;refine rc d (zov (s:=s) (hE0.trans hE1) hN0 hG (hq.ext hE1) mq) ?_;rintro _ w2 ⟨rfl,hE2⟩;refine re trivial ?_;have hE02:=hE0.trans (hE1.trans hE2);have hC2:=Ext.at hE2 hC;have d2:=zac hE2 d;refine gz0 ?_;cases hb:(zer N s q).2 with
 |false=>
  have hk:askN N s q t=⟨7,[],[],false,[]⟩:=by unfold askN;rw[hb];rfl
  refine wt trivial ?_;refine rqz ?_;intro gd K hgd hK;refine sg0 ?_;refine⟨by kernel_rfl,?_⟩;rw[show bdV prog 192 [(0,vi 7)]=some (.agg #[vi 7,.slice .none 0 0,.slice .none 0 0,.bool false,.slice .none 0 0]) from by kernel_rfl];refine sg0 ?_;refine zaL (P:=prog) (t:=192) (l:=[vi 7,.slice .none 0 0,.slice .none 0 0,.bool false,.slice .none 0 0]) hC2 rfl (ones5 rfl rfl rfl) rfl rfl ?_;intro z hz' hbz hkz;refine sg0 ?_;refine en hK ?_;refine zau (.inr rfl) ntmps82 rfl (za0 (x:=⟨w.heap.size+1,0,.none⟩) (k:=5) vq0 rfl rfl (zah hbz rfl) zas) ?_;exact⟨ykt (hE1.trans hE2) rfl (λ b hb=>oM) hkz,_,rfl,by rw[hk];exact nil_res⟩
 |true=>
  obtain⟨hk0,hk1⟩:=bestN_in hb;obtain⟨z,hz⟩:∃z,(N.zones s)[(zer N s q).1.toNat]? =some z:=⟨_,yam oM⟩;have hk:askN N s q t=zbP z.o z.recs q t:=by unfold askN;rw[hb,hz];rfl
  have gz:=(ze9 hG).1 z (List.mem_of_getElem? hz);obtain⟨i,j,xh,c1,xi,x5,az,cz,nz,xz,ov,lv,rfl,hkj,hi,hj,rfl,hxi,hx5,pz,hxz,dz,ho,hl⟩:=zone_at hh hz hk0;rw[hkj];refine wf trivial ?_;have p0:zad w2 (some ⟨w.heap.size,0,.none⟩)=some (.slice (some xh) N.hosts.length c1):=zab (Ext.at hE2 hA) rfl;have pz2:=zaa hE02 pz;have dz2:=zac hE02 dz;have i0:=cj i;have i1:(i:Int)<(N.hosts.length:Int):=oM;have j0:=cj j;have j1:(j:Int)<(nz:Int):=oM;refine rqz ?_;intro gd K hgd hK;refine sgz (az2 (az7 p0 i0 i1 j0 j1 hxi hx5) (az4 pz2 hxz dz2 yad)) ?_;refine yfm (Zone_ok (t:=t) (gz.zn hE02 (ho.ext hE02) (hl.ext hE02)) gz.c.gd (hq.ext (hE1.trans hE2)) mq) ?_;rintro _ w3 ⟨hE3,cs,rfl,hres⟩;refine sg0 ?_;refine zaL (P:=prog) (t:=192) (l:=cs) (Ext.at hE3 hC2) hres.cells.1 hres.cells.2 (by rw[hres.cells.1];rfl) rfl ?_;intro z hz' hbz hkz;refine sg0 ?_;refine en hK ?_;refine zau (.inr rfl) ntmps82 rfl (za0 (x:=⟨w.heap.size+1,0,.none⟩) (k:=5) vq0 rfl rfl (zah hbz hres.cells.1.symm) zas) ?_;have hs2:=hE2.size;exact⟨ykt (hE1.trans (hE2.trans hE3)) rfl (λ b hb=>oM) hkz,_,rfl,by rw[hk];exact(hres.keep hkz (λ b h1 _ h2=>oM)).mono oM⟩
structure TellD(w0 w:World)(g:FuncId)(cap:List Value)(p:DatL->Bool)(R:List DatL):Prop where
 call:zaD prog g=true
 tell:∀(A:World) (cs:List Value) (r:DatL),Ext w A->r∈R->DatAt w0 cs r->Fn prog g (.agg cs.toArray::cap).toArray A (λ v A'=>v= .bool (p r)/\Ext A A')
theorem zop{R:List DatL}{g:FuncId}{cap:List Value}{p:DatL->Bool}(hl:Rows 5 (DatAt w0) w lv R)(ht:TellD w0 w g cap p R)(hlen:R.length<=1000000000):
  Fn prog 234 #[lv,.func (.func g) #[] cap.toArray] w (λ v w'=>Ext w w'/\∃i:Int,v=vi i/\decide (i>=0)=R.any p):=by
 obtain⟨hcal,htell⟩:=ht;obtain⟨aR,cR,rfl,hcR,hgR⟩:=hl.open;refine enx func234 ntmps234 ?_;refine gz0 ?_;refine zan (λ m σ ds A=>ds=[]/\∃(i:Nat),i+m=R.length/\σ 8=vi i/\σ 7=vi R.length/\σ 0= .slice aR R.length cR/\σ 1= .func (.func g) #[] cap.toArray/\Ext w A/\∀j (h:j<R.length),j<i->p R[j]=false) R.length ?_ ?_
 ·exact⟨rfl,0,oM,vr0,vq0,vq0,vq0,Keep.refl _ _,λ j h hj=>absurd hj oM⟩
 rintro m σ ds A ⟨rfl,i,him,h8,h7,h0,h1,hEA,hlow⟩;refine gz (az2 h8 h7) ?_;refine wc0 ?_ ?_
 ·intro hlt;simp only[ydT]at hlt;have hiR:i<R.length:=oM;have hi0:=cj i;have hi1:(i:Int)<(R.length:Int):=oM;have hi1':=ci i;obtain⟨cr,hcr,hRr⟩:=hgR i hiR;obtain⟨xR,rfl⟩:=yxs (zak hcr);have hcrA:=zac hEA hcr;refine gz h8 ?_;refine rq ?_;intro gd K hgd hK;refine sgz (az5 h0 h1 hi0 hi1 hcrA) ?_;refine zbJ hcal (yfm (htell A cr R[i] hEA (yac hiR) hRr) ?_);rintro _ A1 ⟨rfl,hE1⟩;refine sg0 ?_;apply hK;refine wcz ?_ ?_
  ·intro ht;refine gz0 ?_;refine rt0 ntmps234 ?_;refine⟨hEA.trans hE1,_,rfl,?_⟩;rw[show R.any p=true from ycD.2 ⟨_,yac hiR,ht⟩];exact yet oM
  ·intro ht;refine gz (az2 h8 hi1') ?_;refine⟨m - 1,oM,rfl,i+1,oM,vq0,vq1 h7,vq1 h0,vq1 h1,hEA.trans hE1,λ j hj hji=>?_⟩;by_cases hj2:j=i
   ·subst hj2;exact ht
   ·exact hlow j hj oM
 ·intro hge;simp only[ydF]at hge;refine gz0 ?_;refine rt0 ntmps234 ?_;refine⟨hEA,_,rfl,?_⟩;have:R.any p=false:=by
   rw[ycv];intro x hx;obtain⟨j,hj,rfl⟩:=yaG hx;rw[hlow j hj oM];exact yaV
  rw[this];rfl
theorem zfL{R:List DatL}{g:FuncId}{cap:List Value}{p:DatL->Bool}(hl:Rows 5 (DatAt w0) w lv R)(ht:TellD w0 w g cap p R)(hlen:R.length<=1000000000):
  Fn prog 209 #[lv,.func (.func g) #[] cap.toArray] w (λ v w'=>v= .bool (R.any p)/\Ext w w'):=by
 refine enx func209 ntmps209 ?_;refine gz0 ?_;refine rq ?_;intro gd K hgd hK;refine sg0 ?_;refine yfm (zop hl ht hlen) ?_;rintro _ w1 ⟨hE1,i,rfl,hi⟩;refine sg0 ?_;refine en hK ?_;refine rt0 ntmps209 ?_;exact⟨by rw[hi],hE1⟩
theorem zow(w:World)(a b:Value)(xs ys:List UInt8)(ha:Row w a (xs.map zae))(hb:Row w b (ys.map zae)):Fn prog 212 #[a,b] w (λ v w'=>v= .bool (decide (xs=ys))/\w'=w):=by
 obtain⟨a1,c1,rfl,_,h1⟩:=ha;obtain⟨a2,c2,rfl,_,h2⟩:=hb;simp only[ylm]at h1 h2 ⊢;refine enx func212 ntmps212 ?_;refine gz0 ?_;refine rq ?_;intro gd K hgd hK;refine sg0 ?_;refine zcv (l:=xs) rfl rfl rfl vq0 (λ j hj=>by have:=h1 j (sU hj);simpa using this) ?_;refine sg0 ?_;refine zcv (l:=ys) rfl rfl rfl vq0 (λ j hj=>by have:=h2 j (sU hj);simpa using this) ?_;refine sg0 ?_;refine en hK ?_;refine rt0 ntmps212 ?_;exact⟨rfl,rfl⟩
def isA(d:DatL):Bool:=decide (d.ty=1)
def isG(addr:List UInt8)(d:DatL):Bool:=isA d && decide (d.raw=addr)
theorem IsA_ok{r:DatL}(hcs:DatAt w0 cs r):Fn prog 208 #[.agg cs.toArray] A (λ v A'=>v= .bool (isA r)/\Ext A A'):=by
 obtain⟨nm,nu,tx,rw',rfl,h1,h2,h3,h4⟩:=hcs.ex;refine enx func208 ntmps208 ?_;refine gz0 ?_;refine zav ?_;intro w1 hE1 hs1 hA;have p0:zad w1 (some ⟨A.heap.size,0,.none⟩)=some (vi r.ty):=zab hA rfl;refine gz (az2 p0 yad) ?_;refine rt0 ntmps208 ?_;exact⟨rfl,hE1⟩
theorem tell_A{ds:List DatL}:TellD w0 w 208 [] isA ds:=⟨rfl,λ A cs r _ _ hcs=>IsA_ok hcs⟩
theorem tell_G{bf bh:Nat}{zv:Value}{a b c d:UInt8}{ds:List DatL}(hE0:Ext w0 w)(hf:w.heap[bf]? =some (.cells #[.func (.func 208) #[] #[]] 269 (0,0)))(hh:w.heap[bh]? =some (.cells #[nv,zae a,zae b,zae c,zae d,zv] 50 (0,0))):
  TellD w0 w 211 [.pointer (some ⟨bf,0,.none⟩),.pointer (some ⟨bh,0,.none⟩)] (isG [a,b,c,d]) ds:=by
 refine⟨rfl,λ A cs r hE hr hcs=>?_⟩;have hcs0:=hcs;obtain⟨nm,nu,tx,rw',rfl,h1,h2,h3,h4⟩:=hcs.ex;obtain⟨vals,⟨a1,c1,rfl,_⟩,_⟩:=id h1;obtain⟨a2,c2,rfl,_⟩:=id h2;obtain⟨a3,c3,rfl,_⟩:=id h3;obtain⟨a4,c4,hrw,_⟩:=id h4;refine enx func211 ntmps211 ?_;repeat refine c_r ?_
 rw[hrw];refine rg0 ?_;rw[←hrw];repeat refine c_r ?_
 refine zav ?_;intro w1 hE1 hs1 hA;have hE01:=hE0.trans (hE.trans hE1);have pf:zad w1 (some ⟨bf,0,.none⟩)=some (.func (.func 208) #[] #[]):=zab (Ext.at (hE.trans hE1) hf) rfl;have hhA:=Ext.at (hE.trans hE1) hh;have d5:=zah (n:=5) (l:=[vi r.ty,_,_,_,rw']) hA rfl;have p4:zad w1 (some ⟨A.heap.size,4,.none⟩)=some rw':=zab hA rfl;have hadr:Row w1 (.slice (some ⟨bh,1,.none⟩) 4 4) ([a,b,c,d].map zae):=⟨some ⟨bh,1,.none⟩,4,rfl,ynl _,λ j hj=>by
  have hj4:j<4:=by simpa using hj
  have:adr (some ⟨bh,1,.none⟩) j=some ⟨bh,1+j,.none⟩:=by simp[adr,Addr.add]
  rw[this];refine zab hhA ?_
  match j,hj4 with
  |0,_=>rfl
  |1,_=>rfl
  |2,_=>rfl
  |3,_=>rfl⟩
 repeat refine c_r ?_
 refine zaF (λ _=>false) [(0,true),(1,true),(2,false),(3,true),(4,true),(5,true),(6,true),(7,false),(8,false),(9,true),(10,true)] NoS mixed kR ?_;intro gd K x hgd hx hxe hK;clear hxe;have hg3:=gk 3 8 hgd rfl;have pfx:=zaa hx pf;have d5x:=zac hx d5;have p4x:=zaa hx p4;refine sgz (az2 pfx d5x) ?_;refine yfm (IsA_ok hcs0) ?_;rintro _ y1 ⟨rfl,hy1⟩;refine⟨.inr hy1,?_⟩;have p4y:=zaa hy1 p4x;cases hai:isA r with
 |false=>
  simp (disch:=first|omega|assumption|rfl) only[go_sem,↓hg3];refine en hK ?_;refine rt0 ntmps211 ?_;exact⟨by unfold isG;rw[hai];rfl,(hE1.trans hx).trans hy1⟩
 |true=>
  simp (disch:=first|omega|assumption|rfl) only[go_sem,p4y,↓hg3];refine op_slA rfl (by decide) kR vq0 ?_;refine⟨.inr ykr,?_⟩;simp (disch:=first|omega|assumption|rfl) only[go_sem,↓hg3];refine yfm (zow _ _ _ _ _ (h4.ext ((hE01.trans hx).trans hy1)) (hadr.ext (hx.trans hy1))) ?_;rintro _ _ ⟨rfl,rfl⟩;refine⟨.inr ykr,?_⟩;simp (disch:=first|omega|assumption|rfl) only[go_sem,↓hg3];refine en hK ?_;refine rt0 ntmps211 ?_;exact⟨by unfold isG;rw[hai];rfl,(hE1.trans hx).trans hy1⟩
namespace P_ci
theorem Clip_ok{n c:Nat}(hc:n<=c):Fn prog 79 #[.slice a n c] w (λ u w'=>u= .slice a n n/\w'=w):=by
 refine enx func79 ntmps79 ?_;refine gz0 ?_;refine rq ?_;intro gd K hgd hK;refine sg0 ?_;have hcl:slD prog (some (TypeDesc.slice 3)) (Value.slice a n c) .none (some (Value.int IntKind.i64 ↑n)) (some (Value.int IntKind.i64 ↑n))=some (.slice a n n):=zfy hc (by rfl);rw[hcl];refine sg0 ?_;refine en hK ?_;refine rt0 ntmps79 ?_;exact⟨rfl,rfl⟩
end P_ci
structure TellH(w0 w:World)(g:FuncId)(cap:List Value)(p:zd5->Bool)(R:List zd5):Prop where
 call:zaD prog g=true
 tell:∀(A:World) (cs:List Value) (r:zd5),Ext w A->r∈R->HostC w0 cs r->Fn prog g (.agg cs.toArray::cap).toArray A (λ v A'=>v= .bool (p r)/\Ext A A')
theorem HostC.one{h:zd5}(hc:HostC w cs h):cs.length=6/\∀v∈cs,one v=true:=by
 obtain⟨nv,a,b,c,d,zv,rfl,_,h1,h2⟩:=hc.ex;refine⟨rfl,λ v hv=>?_⟩;simp at hv;rcases hv with rfl|rfl|rfl|rfl|rfl|rfl<;>first|exact h1.isOne|exact h2.isOne|rfl
theorem tell_N{bn:Nat}{hv:Value}{host:Nm}{R:List zd5}(hE0:Ext w0 w)(hb:w.heap[bn]? =some (.cells #[hv] 27 (0,0)))(hh:Row w0 hv (host.map vs))(mh:NmM host)(hR:∀h∈R,NmM h.name):
  TellH w0 w 207 [.pointer (some ⟨bn,0,.none⟩)] (λ h=>decide (zag h.name=zag host)) R:=by
 refine⟨rfl,λ A cs r hE hr hcs=>?_⟩;obtain⟨nv,a,b,c,d,zv,rfl,_,h1,h2⟩:=hcs.ex;have mr:=hR r hr;have l1:=mr.len;have l2:=mh.len;have e1:=h1.isOne;have e2:=h2.isOne;obtain⟨a1,c1,hnv,_⟩:=id h1;obtain⟨a2,c2,hzv,_⟩:=h2.open;refine enx func207 ntmps207 ?_;refine cZ ?_;rw[hnv,hzv];refine rg0 ?_;rw[←hnv,←hzv];refine cZ ?_;refine zav ?_;intro w1 hE1 hs1 hA;have p0:zad w1 (some ⟨A.heap.size,0,.none⟩)=some nv:=zab hA rfl;have p1:zad w1 (some ⟨bn,0,.none⟩)=some hv:=zab (Ext.at (hE.trans hE1) hb) rfl;have hE01:=hE0.trans (hE.trans hE1);refine cZ ?_;refine rc (an3 p0 p1 yad) (zdx w1 nv hv r.name host (h1.ext hE01) (hh.ext hE01) mr.LB mh.LB oM oM) ?_;rintro _ w2 ⟨rfl,hE2⟩;refine re trivial ?_;refine cZ ?_;refine rt0 ntmps207 ?_;exact⟨rfl,hE1.trans hE2⟩
theorem tell_M{bg bf:Nat}{gv:Value}{glue:List DatL}{R:List zd5}(hE0:Ext w0 w)(hb:w.heap[bg]? =some (.cells #[gv] 189 (0,0)))(hf:w.heap[bf]? =some (.cells #[.func (.func 208) #[] #[]] 269 (0,0)))(hg:Rows 5 (DatAt w0) w gv glue)(hgl:glue.length<=1000000000):
  TellH w0 w 210 [.pointer (some ⟨bg,0,.none⟩),.pointer (some ⟨bf,0,.none⟩)] (λ h=>glue.any (isG h.addr)) R:=by
 refine⟨rfl,λ A cs r hE hr hcs=>?_⟩;obtain⟨nv,a,b,c,d,zv,rfl,ha,h1,h2⟩:=hcs.ex;obtain⟨a1,c1,hnv,_⟩:=id h1;obtain⟨a2,c2,hzv,_⟩:=h2.open;refine enx func210 ntmps210 ?_;refine cZ ?_;rw[hnv,hzv];refine rg0 ?_;rw[←hnv,←hzv];refine cZ ?_;refine zav ?_;intro w1 hE1 hs1 hA;have p1:zad w1 (some ⟨bg,0,.none⟩)=some gv:=zab (Ext.at (hE.trans hE1) hb) rfl;have hE01:=hE0.trans (hE.trans hE1);refine cZ ?_;refine rc p1 (zfL (hg.ext (hE.trans hE1)) (tell_G hE01 (Ext.at (hE.trans hE1) hf) hA) hgl) ?_;rintro _ w2 ⟨rfl,hE2⟩;refine re trivial ?_;refine cZ ?_;refine rt0 ntmps210 ?_;exact⟨by rw[ha],hE1.trans hE2⟩
def zdN(host:Nm)(glue:List DatL)(h:zd5):Bool:=if glue.any isA=true then glue.any (isG h.addr) else decide (zag h.name=zag host)
def zdJ{α:Type}(p:α->Bool):Nat->List α->List Int
 |_,[]=>[]
 |i,h::l=>(if p h=true then [(i:Int)] else [])++zdJ p (i+1) l
def zna(N:NetL)(host:Nm)(glue:List DatL):List Int:=zdJ (zdN host glue) 0 N.hosts
theorem ziE{α:Type}{p:α->Bool}:∀{l m:List α} {i:Nat},zdJ p i (l++m)=zdJ p i l++zdJ p (i+l.length) m
 | [],m,i=>by simp[zdJ]
 |h::l,m,i=>by
  simp only[yav,zdJ,yla];rw[ziE (l:=l),yah,show i+1+l.length=i+(l.length+1) from by omega]
theorem zlq{α:Type}{p:α->Bool}{l:List α}(hi:i<l.length):zdJ p 0 (l.take (i+1))=zdJ p 0 (l.take i)++if p l[i]=true then [(i:Int)] else []:=by
 rw[zal hi,ziE];simp only[zdJ,yaF,yaQ];rw[show 0+min i l.length=i from by omega]
theorem zgn{α:Type}{p:α->Bool}:∀{l:List α} {i:Nat},(zdJ p i l).length<=l.length
 | [],i=>by simp[zdJ]
 |h::l,i=>by
  have:=zgn (p:=p) (l:=l) (i:=i+1);simp only[zdJ,yab,yah]
  split<;>simp<;>omega
theorem Meant_ok(hE0:Ext w0 w){N:NetL}{host:Nm}{hv gv:Value}{glue:List DatL}(hN:NetAt w0 cs N)(hG:NetZ N)(hh:Row w0 hv (host.map vs))(mh:NmM host)(hg:Rows 5 (DatAt w0) w gv glue)(hgl:glue.length<=1000000000):
  Fn prog 167 #[.agg cs.toArray,hv,gv] w (λ v w'=>Ext w w'/\Row w' v ((zna N host glue).map vi)/\BlkB w.heap.size w' v):=by
 obtain⟨hs,rs,rfl,hhs,hr⟩:=hN.ex;obtain⟨ah,ch,rfl,hch,hgh⟩:=hhs.open;obtain⟨ar,cr,hrv,_⟩:=id hr;obtain⟨a1,c1,hnv,_⟩:=id hh;obtain⟨a2,c2,hgv,_⟩:=hg.open;have hl:=hG.hl;refine enx func167 ntmps167 ?_;refine cZ ?_;rw[hrv,hnv,hgv];refine rg0 ?_;rw[←hrv,←hnv,←hgv];refine cZ ?_;rw[zai,zai,zai];refine zek ?_;intro w1 hE1 hs1 hA hB hC;refine gz0 ?_;refine rq ?_;intro gd K hgd hK;refine sg0 ?_;refine zmo ?_;intro w2 hE2 hs2 hD;refine za6 (P:=prog) (t:=269) (j:=0) (u:= .func (.func 208) #[] #[]) (l:=[_]) hD sM rfl rfl rfl ?_;intro w3 hs3 hD3 hk3;refine sg0 ?_;apply hK;simp only[ybi]at hD3;obtain⟨b8,hb8⟩:∃b,w1.heap.size=b:=⟨_,rfl⟩;rw[hb8]at hD3 hk3 hs2 ⊢;have hE3:Ext w w3:=ykt (hE1.trans hE2) rfl (λ b hb=>oM) hk3;have up:∀{b:Nat} {O:Obj},w1.heap[b]? =some O->w3.heap[b]? =some O:=fun {b O} h=>(hk3.block _ (by have:=(yaa.1 h).1;omega) (by have:=(yaa.1 h).1;omega)).trans (Ext.at hE2 h);have p0:zad w3 (some ⟨w.heap.size,0,.none⟩)=some (.slice ah N.hosts.length ch):=zab (up hA) rfl;have pC:zad w3 (some ⟨w.heap.size+1+1,0,.none⟩)=some gv:=zab (up hC) rfl;have pD:zad w3 (some ⟨b8,0,.none⟩)=some (.func (.func 208) #[] #[]):=zab hD3 rfl;refine cZ ?_;refine rc (an2 pC pD) (zfL (hg.ext hE3) tell_A hgl) ?_;rintro _ w4 ⟨rfl,hE4⟩;refine re trivial ?_;have hE34:=hE3.trans hE4;have hE04:=hE0.trans hE34;refine cZ ?_
 refine zaw (Q:=λ e σ' ds' v'=>e= .normal/\ds'=[]/\v'=w4/\σ' 3= .pointer (some ⟨w.heap.size,0,.none⟩)/\∃g cap,σ' 7= .func (.func g) #[] cap.toArray/\TellH w0 w4 g cap (zdN host glue) N.hosts) ?_ ?_
 ·cases hany:glue.any isA with
  |true=>
   refine wt trivial ?_;refine gz0 ?_;have hp:zdN host glue=λ h=>glue.any (isG h.addr):=funext λ h=>by unfold zdN;rw[hany];rfl
   exact⟨rfl,rfl,rfl,vq0,210,[.pointer (some ⟨w.heap.size+1+1,0,.none⟩),.pointer (some ⟨b8,0,.none⟩)],vr0,by rw[hp];exact tell_M hE04 (Ext.at hE4 (up hC)) (Ext.at hE4 hD3) (hg.ext hE34) hgl⟩
  |false=>
   refine wf trivial ?_;refine cZ ?_;have hp:zdN host glue=λ h=>decide (zag h.name=zag host):=funext λ h=>by unfold zdN;rw[hany];rfl
   exact⟨rfl,rfl,rfl,vq0,207,[.pointer (some ⟨w.heap.size+1,0,.none⟩)],vr0,by rw[hp];exact tell_N hE04 (Ext.at hE4 (up hB)) hh mh hG.nm⟩
 rintro _ σ1 _ w5 ⟨rfl,rfl,rfl,h3,g,cap,h7,htell⟩;have p0':=zaa hE4 p0;refine gz (az3 h3 p0' yad) ?_;refine zan (λ m σ ds A=>ds=[]/\∃(i:Nat) (ov:Value),i+m=N.hosts.length/\σ 20=vi i/\σ 19=vi N.hosts.length/\σ 18= .slice ah N.hosts.length ch/\σ 7= .func (.func g) #[] cap.toArray/\σ 9=ov/\Own w5.heap.size A 3 ov ((zdJ (zdN host glue) 0 (N.hosts.take i)).map vi)/\Ext w5 A) N.hosts.length ?_ ?_
 ·exact⟨rfl,0,.slice .none 0 0,oM,vr0,vq0,vq0,vq1 h7,vq0,Own.nil _ _ _,Keep.refl _ _⟩
 rintro m σ ds A ⟨rfl,i,ov,him,s20,s19,s18,s7,s9,hown,hEA⟩;refine gz (az2 s20 s19) ?_;refine wc0 ?_ ?_
 ·intro hlt;simp only[ydT]at hlt;have hi:i<N.hosts.length:=oM;have hi0:=cj i;have hi1':=ci i;obtain⟨cs,hcs,hH⟩:=hgh i hi;obtain⟨xz,rfl⟩:=yxs (zak hcs);obtain⟨xi,hxi⟩:∃xi,adr (some xz) (i*6)=some xi:=⟨_,rfl⟩;rw[hxi]at hcs;obtain⟨hc6,hc1⟩:=hH.one;have d:=zac (hE04.trans hEA) hcs;refine rqz ?_;intro gd K hgd hK;refine sgz (az6 s20 s18 hi0 hlt hxi d) ?_;refine zaV (P:=prog) (l:=cs) (by rw[hc6];rfl) hc1 (by rw[hc6];rfl) rfl ?_;intro A1 hE6 hs6 hB6;refine sg0 ?_;apply hK;have d1:=zah (n:=6) hB6 hc6.symm;refine rqz ?_;intro gd K hgd hK;refine sgz (az2 s7 d1) ?_;refine zbJ htell.call (yfm (htell.tell A1 cs N.hosts[i] (hEA.trans hE6) (yac hi) hH) ?_);rintro _ A2 ⟨rfl,hE7⟩;refine sg0 ?_;apply hK;have hE67:=hE6.trans hE7;have hown2:=hown.ext hE67;have hpk:=zlq (p:=zdN host glue) hi;have hlen:=zgn (p:=zdN host glue) (l:=N.hosts.take i) (i:=0);have hsz:=(hEA.trans hE67).size;refine cZ ?_;refine zaw (Q:=λ e σ' ds' v'=>e= .normal/\ds'=[]/\σ' 20=vi i/\σ' 19=vi N.hosts.length/\σ' 18= .slice (some xz) N.hosts.length ch/\σ' 7= .func (.func g) #[] cap.toArray/\∃ov',σ' 9=ov'/\Own w5.heap.size v' 3 ov' ((zdJ (zdN host glue) 0 (N.hosts.take (i+1))).map vi)/\Ext w5 v') ?_ ?_
  ·cases hb:zdN host glue N.hosts[i] with
   |false=>
    rw[hb,if_neg (by decide),yaF]at hpk;refine wf trivial ?_;refine cZ ?_;exact⟨rfl,rfl,vq1 s20,vq1 s19,vq1 s18,vq1 s7,ov,vq1 s9,by rw[hpk];exact hown2,hEA.trans hE67⟩
   |true=>
    rw[hb,if_pos rfl]at hpk;refine wt trivial ?_;refine rqz ?_;intro gd K hgd hK;refine sgz s9 ?_;refine zc3 (z:=vi 0) (by rfl) (by rfl) (by rfl) (by rfl) (by rfl) ?_;intro A3 hE8 hs8 ho8;refine sg0 ?_;refine zb0 (B:=w5.heap.size) (hown2.ext hE8) ho8.row (by rfl) (by rfl) (by rfl) (by rfl) (by rfl) (by rfl) ((vr1 s9)) vr0 (λ q hq=>by rw[yae.1 hq];rfl) (by simp at hlen ⊢;omega) (by decide) oM ?_;intro ov' A4 ho9 hE9 _ _;refine sg0 ?_;apply hK;exact⟨rfl,rfl,vq1 s20,vq1 s19,vq1 s18,vq1 s7,ov',vr0,by rw[hpk,yaC];exact ho9,hE9 _ ((hEA.trans hE67).trans hE8) (ynl _)⟩
  clear s20 s19 s18 s7 s9;rintro _ σ2 _ A3 ⟨rfl,rfl,s20,s19,s18,s7,ov',s9,hown3,hE3⟩;refine gz (az2 s20 hi1') ?_;exact⟨m - 1,oM,rfl,i+1,ov',oM,vq0,vq1 s19,vq1 s18,vq1 s7,vq1 s9,hown3,hE3⟩
 ·intro hge;simp only[ydF]at hge;rw[yaf oM]at hown;obtain⟨ao,co,hov,hco,hgo⟩:=hown.row;rw[hov]at s9;refine cZ ?_;refine rc s9 (P_ci.Clip_ok hco) ?_;rintro _ A1 ⟨rfl,rfl⟩;refine re trivial ?_;refine cZ ?_;refine rt0 ntmps167 ?_;exact⟨hE34.trans hEA,⟨ao,_,rfl,ynl _,hgo⟩,((hov▸hown.blk).same).mono hE34.size⟩
namespace P_st
theorem Clip_ok{n c:Nat}(hc:n<=c):Fn prog 118 #[.slice a n c] w (λ u w'=>u= .slice a n n/\w'=w):=by
 refine enx func118 ntmps118 ?_;refine gz0 ?_;refine rq ?_;intro gd K hgd hK;refine sg0 ?_;have hcl:slD prog (some (TypeDesc.slice 140)) (Value.slice a n c) .none (some (Value.int IntKind.i64 ↑n)) (some (Value.int IntKind.i64 ↑n))=some (.slice a n n):=zfy hc (by rfl);rw[hcl];refine sg0 ?_;refine en hK ?_;refine rt0 ntmps118 ?_;exact⟨rfl,rfl⟩
end P_st
structure zay where
 sv:Int
 name:Nm
 rw:Int
 rf:Int
 ref:Bool
 fin:Int
def stV(nv:Value)(s:zay):List Value:=[vi s.sv,nv,vi s.rw,vi s.rf,.bool s.ref,vi s.fin]
def StN(nv:Value)(cs:List Value)(s:zay):Prop:=cs=stV nv s/\one nv=true
theorem zhE{s:zay}(h:one nv=true):∀v∈stV nv s,one v=true:=λ v hv=>by
 unfold stV at hv;simp at hv;rcases hv with rfl|rfl|rfl|rfl|rfl|rfl<;>first|assumption|rfl
theorem zdo(nv:Value):zdD 6 (StN nv):=⟨λ h=>by rw[h.1];rfl,λ h=>by rw[h.1];exact zhE h.2⟩
def endS(s:zay)(k:Int):List zay:=[{s with fin:=k}]
def zdI(N:NetL)(s:zay):List zay:=N.roots.map λ r=>{s with sv:=r}
theorem zkC{s x:zay}{k:Int}(h:x∈endS s k):x.name=s.name:=by
 unfold endS at h;rw[yae.1 h]
def StF(B:Nat)(ok:Value->Prop)(w:World)(v:Value)(L:List zay):Prop:=BlkB B w v/\∃u,ok u/\Rows 6 (StN u) w v L/\∀s∈L,Row w u (s.name.map vs)
theorem StF.mono{B':Nat}{ok ok':Value->Prop}{L:List zay}(h:StF B ok w v L)(hB:B'<=B)(hok:∀u,ok u->ok' u):StF B' ok' w v L:=by
 obtain⟨h0,u,h1,h2⟩:=h;exact⟨h0.mono hB,u,hok u h1,h2⟩
theorem zcV{s:zay}{k:Int}(h:Rows 6 (StN nv) w v (endS s k)/\BlkB B w v)(hr:Row w nv (s.name.map vs)):StF B (λ u=>u=nv) w v (endS s k):=
 ⟨h.2,nv,rfl,h.1,λ x hx=>by rw[zkC hx];exact hr⟩
theorem zdu(w:World)(hr:Row w nv l)(s:zay)(k:Int):
  Fn prog 83 #[.agg (stV nv s).toArray,vi k] w (λ v w'=>Ext w w'/\Rows 6 (StN nv) w' v (endS s k)/\BlkB w.heap.size w' v):=by
 have h1:=hr.isOne;obtain⟨an,cn,hnv,_⟩:=hr;unfold stV;rw[hnv];refine enx func83 ntmps83 ?_;refine gz0 ?_;rw[←hnv];refine cZ ?_;refine zav ?_;intro w1 hE1 hs1 hA;refine rq ?_;intro gd K hgd hK;refine sg0 ?_;refine za6 (P:=prog) (t:=3) (j:=5) (u:=vi k) (l:=stV nv s) hA (by show 5<6;decide) rfl rfl rfl ?_;intro w2 hs2 hA2 hk2;refine sg0 ?_;apply hK;have hE2:=ykt hE1 rfl (λ b hb=>oM) hk2;have d:zat w2 (some ⟨w.heap.size,0,.none⟩) 6=some (stV nv {s with fin:=k}):=zah hA2 rfl;refine rqz ?_;intro gd K hgd hK;refine sgz d ?_;refine za4 (C:=StN nv) (zdo nv) (l:=stV nv {s with fin:=k}) (by rfl) (by rfl) (by rfl) (by rfl) ⟨rfl,h1⟩ (by decide) ?_;intro w3 hE3 hs3 ho3;refine sg0 ?_;refine en hK ?_;refine rt0 ntmps83 ?_;exact⟨hE2.trans hE3,ho3.rows,ho3.blk.mono hE2.size⟩
theorem zks(hE0:Ext w0 w){N:NetL}(hN:NetAt w0 cs N)(hrl:N.roots.length<=1000)(hr:Row w nv l)(s:zay):
  Fn prog 81 #[.agg cs.toArray,.agg (stV nv s).toArray] w (λ v w'=>Ext w w'/\Rows 6 (StN nv) w' v (zdI N s)/\BlkB w.heap.size w' v):=by
 have h1:=hr.isOne;obtain⟨an,cn,hnv,_⟩:=hr;obtain⟨hv,rv,rfl,hh,hro⟩:=hN.ex;obtain⟨ah,ch,hhv,_⟩:=hh.open;obtain⟨ar,cr,rfl,hcr,hgr⟩:=hro;simp only[ylm]at hcr hgr;unfold stV;rw[hnv,hhv];refine enx func81 ntmps81 ?_;refine rqz ?_;intro gd K hgd hK;simp (disch:=first|omega|assumption|rfl) only[go_sem,ylm];apply hK;rw[←hnv,←hhv];refine cZ ?_;rw[zai];refine zaQ ?_;intro w1 hE1 hs1 hA hC;have p1:zad w1 (some ⟨w.heap.size,1,.none⟩)=some (.slice ar N.roots.length cr):=zab hA rfl;refine gz (az2 p1 yn0) ?_;obtain⟨b3,hb3⟩:∃b,w.heap.size+1=b:=⟨_,rfl⟩;rw[hb3]at hC ⊢;refine zan (λ m σ ds A=>ds=[]/\∃(i:Nat) (ov:Value) (s':zay),i+m=N.roots.length/\σ 11=vi i/\σ 10=vi N.roots.length/\σ 9= .slice ar N.roots.length cr/\σ 3= .pointer (some ⟨b3,0,.none⟩)/\σ 5=ov/\A.heap[b3]? =some (.cells (stV nv s').toArray 140 (0,0))/\(∃k,s'={s with sv:=k})/\
  Owns 6 (StN nv) w1.heap.size A 140 ov ((N.roots.take i).map λ r=>{s with sv:=r})/\Ext w A/\w1.heap.size<=A.heap.size) N.roots.length ?_ ?_
 ·exact⟨rfl,0,.slice .none 0 0,s,oM,vr0,vq0,vq0,vq0,vq0,hC,⟨s.sv,rfl⟩,Owns.nil _ _ _ _ _,hE1,ynl _⟩
 rintro m σ ds A ⟨rfl,i,ov,s',him,s11,s10,s9,s3,s5,hB,⟨k0,hs'⟩,hown,hEA,hsz⟩;refine gz (az2 s11 s10) ?_;refine wc0 ?_ ?_
 ·intro hlt;simp only[ydT]at hlt;have hi:i<N.roots.length:=oM;have hi0:=cj i;have hi1':=ci i;have hg:=zaa (hE0.trans hEA) (hgr i hi);rw[yaA]at hg;obtain⟨xz,rfl⟩:=yxs (zaf (hgr 0 oM));have hszA:=hEA.size;refine rqz ?_;intro gd K hgd hK;simp (disch:=first|omega|assumption|rfl) only[go_sem,s11,s9,hi0,hlt,hg,ybt];apply hK;refine rqz ?_;intro gd K hgd hK;refine sgz s3 ?_;refine za6 (P:=prog) (t:=3) (j:=0) (u:=vi N.roots[i]) (l:=stV nv s') hB (by show 0<6;decide) rfl rfl rfl ?_;intro A1 hs6 hB1 hk1;refine sg0 ?_;apply hK;have hB1':A1.heap[b3]? =some (.cells (stV nv {s with sv:=N.roots[i]}).toArray 140 (0,0)):=by rw[hs']at hB1;exact hB1
  have hE1':=ykt hEA rfl (λ b hb=>oM) hk1;have d:zat A1 (some ⟨b3,0,.none⟩) 6=some (stV nv {s with sv:=N.roots[i]}):=zah hB1' rfl;have hown1:=hown.keep hk1 (λ b hb hb2=>by have:=(hown.ge hb).1;omega);refine rqz ?_;intro gd K hgd hK;refine sgz (az3 s5 s3 d) ?_;refine za4 (C:=StN nv) (zdo nv) (l:=stV nv {s with sv:=N.roots[i]}) (by rfl) (by rfl) (by rfl) (by rfl) ⟨rfl,h1⟩ (by decide) ?_;intro A2 hE7 hs7 ho7;refine sg0 ?_;refine zaR (zdo nv) (hown1.ext hE7) ho7.rows (by rfl) (by rfl) (by rfl) (by rfl) (by rfl) (by rfl) (by decide) ((vr1 s5)) vr0 (by simp;omega) (by decide) oM ?_;intro ov' A3 ho8 hE8 hk8 _;refine sg0 ?_;apply hK;have hsz3:=hk8.size;refine gz (az2 s11 hi1') ?_;refine⟨m - 1,oM,rfl,i+1,ov',{s with sv:=N.roots[i]},oM,vq0,vq1 s10,vq1 s9,vq1 s3,vq0,?_,⟨_,rfl⟩,?_,hE8 w (hE1'.trans hE7) oM,oM⟩
  ·refine(hk8.block _ oM (λ hb=>?_)).trans (Ext.at hE7 hB1');have:=(hown1.ge hb).1;omega
  ·rw[zal hi,yaC];exact ho8
 ·intro hge;simp only[ydF]at hge;have hfull:(N.roots.take i).map (λ r=>({s with sv:=r}:zay))=zdI N s:=by rw[yaf oM];rfl
  rw[hfull]at hown;obtain⟨ao,co,hov,hco,_⟩:=hown.rows.open;rw[hov]at s5 hown;refine cZ ?_;refine rc s5 (P_st.Clip_ok hco) ?_;rintro _ A1 ⟨rfl,rfl⟩;refine re trivial ?_;refine cZ ?_;refine rt0 ntmps81 ?_;have:=hown.rows.take (m:=(zdI N s).length) (c2:=(zdI N s).length) (ynl _) (ynl _);rw[yaT]at this;exact⟨hEA,this,hown.blk.same.mono (by have:=hE1.size;omega)⟩
theorem zn4(hE0:Ext w0 w){N:NetL}(hN:NetAt w0 cs N)(hrl:N.roots.length<=1000)(hq:Row w nv (q.map vs)):
  Fn prog 51 #[.agg cs.toArray,nv] w (λ v w'=>Ext w w'/\StF w.heap.size (λ u=>u=nv) w' v (zdI N ⟨0,q,0,0,false,0⟩)):=by
 have hN0:=hN;obtain⟨hv,rv,rfl,hh,hr⟩:=hN.ex;obtain⟨ah,ch,hhv,_⟩:=hh.open;obtain⟨ar,cr,hrv,_⟩:=id hr;obtain⟨an,cn,hnv,_⟩:=id hq;refine enx func51 ntmps51 ?_;refine cZ ?_;rw[hhv,hrv,hnv];refine rg0 ?_;rw[←hhv,←hrv,←hnv];refine cZ ?_;refine zav ?_;intro w1 hE1 hs1 hA;have d:=zah (n:=4) (l:=[hv,rv,vi N.rw,vi N.rf]) hA rfl;refine rqz ?_;intro gd K hgd hK;refine sgz d ?_;refine⟨by kernel_rfl,?_⟩;rw[hnv,show bdV prog 140 [(1,.slice an (q.map vs).length cn)]=some (.agg #[vi 0,.slice an (q.map vs).length cn,vi 0,vi 0,.bool false,vi 0]) from by kernel_rfl,←hnv];refine sg0 ?_;refine yfm (zks (hE0.trans hE1) hN0 hrl (hq.ext hE1) ⟨0,q,0,0,false,0⟩) ?_;rintro v w2 ⟨hE2,hrs⟩;refine sg0 ?_;refine en hK ?_;refine rt0 ntmps51 ?_;exact⟨hE1.trans hE2,hrs.2.mono hE1.size,nv,rfl,hrs.1,λ s hs=>by
  obtain⟨r,_,rfl⟩:=yaq.1 hs;exact hq.ext (hE1.trans hE2)⟩
theorem zlN(c:UInt8):zez (zez c)=zez c:=by
 unfold zez;by_cases h:65<=c/\c<=90
 ·rw[if_pos h];have h1:¬(65<=c+32/\c+32<=90):=by
   obtain⟨h1,h2⟩:=h;rw[ybo]at*;rintro⟨h3,h4⟩;rw[ybo]at*;rw[ydb]at*
   change (65:Nat)<=_ at h1
   change _<=(90:Nat)at h2
   change (65:Nat)<=(c.toNat+32) % 256 at h3
   change (c.toNat+32) % 256<=(90:Nat)at h4
   omega
  rw[if_neg h1]
 ·rw[if_neg h,if_neg h]
theorem zlM(l:Lab):zaJ (zaJ l)=zaJ l:=by simp[zaJ,zlN,Function.comp_def]
theorem zfq(n:Nm):zag (zag n)=zag n:=by simp[zag,zlM,Function.comp_def]
theorem zdQ(l:Lab):(zaJ l).length=l.length:=by simp[zaJ]
theorem LB.fold{n:Nm}(h:LB n):LB (zag n):=λ l hl=>by
 simp only[zag,yaq]at hl;obtain⟨m,hm,rfl⟩:=hl;rw[zdQ];exact h m hm
theorem zcf(n:Nm)(k:Nat):zag (n.drop k)=(zag n).drop k:=by simp[zag,ycM]
theorem drop_inj{f:Nm}(hi:i<=f.length)(hk:k<=f.length)(h:f.drop i=f.drop k):i=k:=by
 have:=congrArg List.length h;simp at this;omega
theorem tails_in{L:List Nm}(hcl:∀l f,l::f∈L->f∈L){f:Nm}:∀{i k:Nat},i<=k->k<=f.length->f.drop i∈L->f.drop k∈L:=by
 intro i k hik hk h;obtain⟨d,rfl⟩:∃d,k=i+d:=⟨k - i,oM⟩;clear hik
 induction d with
 |zero=>simpa using h
 |succ d ih=>
  have h1:=ih oM;rw[yag oM]at h1;exact hcl _ _ h1
theorem Rise.insert{L:List Nm}{g:Nm}(hs:Rise L)(h1:∀x∈L.take k,cmpN x g<0)(h2:∀x∈L.drop k,cmpN g x<0):Rise (L.take k++ [g]++L.drop k):=by
 have hs':=hs;unfold Rise at*;rw[←yar k L,yap]at hs';obtain⟨h3,h4,h5⟩:=hs';rw[yap,yap];refine⟨⟨h3,sM,λ a ha b hb=>?_⟩,h4,λ a ha b hb=>?_⟩
 ·rw[yae.1 hb];exact h1 a ha
 ·rcases yai.1 ha with ha|ha
  ·exact h5 a ha b hb
  ·rw[yae.1 ha];exact h2 b hb
theorem zly{L:List Nm}{g x:Nm}(k:Nat):x∈L.take k++ [g]++L.drop k↔x∈L\/x=g:=by
 rw[yai,yai,yae]
 conv=>rhs;rw[←yar k L,yai]
 constructor
 ·rintro((h|h)|h)<;>simp[h]
 ·rintro((h|h)|h)<;>simp[h]
def RowsOf(R:Value->Nm->Prop)(vals:List Value)(L:List Nm):Prop:=vals.length=L.length/\∀i (h:i<vals.length) (h':i<L.length),R vals[i] L[i]
theorem RowsOf.imp{R T:Value->Nm->Prop}{vals:List Value}{L:List Nm}(h:RowsOf R vals L)(hE:∀v n,R v n->T v n):RowsOf T vals L:=⟨h.1,λ i a b=>hE _ _ (h.2 i a b)⟩
theorem RowsOf.insert{R:Value->Nm->Prop}{vals:List Value}{L:List Nm}{g:Nm}(h:RowsOf R vals L)(hv:R v g)(hk:k<=L.length):RowsOf R (vals.take k++ [v]++vals.drop k) (L.take k++ [g]++L.drop k):=by
 obtain⟨h1,h2⟩:=h;refine⟨by simp;omega,λ i a b=>?_⟩;have hA:(vals.take k).length=k:=by simp;omega
 have hB:(L.take k).length=k:=by simp;omega
 have ha':i<vals.length+1:=by simp at a;omega
 by_cases hik:i<k
 ·have e1:(vals.take k++ [v]++vals.drop k)[i]=vals[i]'(oM):=by
   rw[yaK (by simp;omega),yaK oM,ybG]
  have e2:(L.take k++ [g]++L.drop k)[i]=L[i]'(oM):=by
   rw[yaK (by simp;omega),yaK oM,ybG]
  rw[e1,e2];exact h2 i oM oM
 ·by_cases hik2:i=k
  ·have e1:(vals.take k++ [v]++vals.drop k)[i]? =some v:=by
    rw[yaL (by simp;omega),yaH oM,hA,hik2,ycI];rfl
   have e2:(L.take k++ [g]++L.drop k)[i]? =some g:=by
    rw[yaL (by simp;omega),yaH oM,hB,hik2,ycI];rfl
   rw[(yaj.1 e1).2,(yaj.1 e2).2];exact hv
  ·have e1:(vals.take k++ [v]++vals.drop k)[i]? =some (vals[i - 1]'(oM)):=by
    rw[yaH (by simp;omega),List.getElem?_drop,yaj];refine⟨by simp;omega,by congr 1;simp;omega⟩
   have e2:(L.take k++ [g]++L.drop k)[i]? =some (L[i - 1]'(oM)):=by
    rw[yaH (by simp;omega),List.getElem?_drop,yaj];refine⟨by simp;omega,by congr 1;simp;omega⟩
   rw[(yaj.1 e1).2,(yaj.1 e2).2];exact h2 _ oM oM
abbrev RowN(S:Nat->Prop)(w:World)(v:Value)(g:Nm):Prop:=RowZ 0 S w v (g.map vs)
def NamesZ(S:Nat->Prop)(w:World)(v:Value)(L:List Nm):Prop:=∃vals,RowZ 0 S w v vals/\RowsOf (RowN S w) vals L
theorem NamesZ.at{L:List Nm}(h:NamesZ S w v L):NamesAt w v L:=by
 obtain⟨vals,h1,h2,h3⟩:=h;exact⟨vals,h1.1,h2,λ i a b=>(h3 i a b).1⟩
theorem NamesZ.ext{L:List Nm}(h:NamesZ S w v L)(hE:Ext w x):NamesZ S x v L:=by
 obtain⟨vals,h1,h2⟩:=h;exact⟨vals,h1.ext hE,h2.imp λ v n h=>h.ext hE⟩
theorem RowZ.turn{S':Nat->Prop}(h:RowZ 0 S w v l)(hk:Keep S w x)(hS:∀b,S' b->S b\/w.heap.size<=b):RowZ 0 S' x v l:=by
 obtain⟨h1,h2⟩:=h;refine⟨h1.blocks λ a n c hv=>?_,λ a n c hv=>?_⟩
 ·obtain⟨_,k1,k2⟩:=h2 a n c hv;exact hk.block _ k1 k2
 ·obtain⟨_,k1,k2⟩:=h2 a n c hv;refine⟨yba _,ybE k1 hk.size,λ h=>?_⟩;rcases hS _ h with h|h
  ·exact k2 h
  ·omega
theorem NamesZ.turn{S':Nat->Prop}{L:List Nm}(h:NamesZ S w v L)(hk:Keep S w x)(hS:∀b,S' b->S b\/w.heap.size<=b):NamesZ S' x v L:=by
 obtain⟨vals,h1,h2⟩:=h;exact⟨vals,h1.turn hk hS,h2.imp λ v n h=>h.turn hk hS⟩
theorem RowZ.own(h:Own B w e v l)(hS:∀b,S b->b<B):RowZ 0 S w v l:=
 ⟨h.row,λ a n c hv=>by have:=h.rowB.2 a n c hv;exact⟨yba _,this.2,λ hs=>by have:=hS _ hs;omega⟩⟩
theorem RowZ.sub{n c lo hi m:Nat}{k:List Value}(h:RowZ 0 S w (.slice a n c) l)(hr:Row w (.slice (if c=lo then a else adr a lo) hi m) k):RowZ 0 S w (.slice (if c=lo then a else adr a lo) hi m) k:=by
 refine⟨hr,λ b n' c' hv=>?_⟩;simp only[Value.slice.injEq]at hv;cases a with
 |none=>
  have:(if c=lo then(.none:Option Addr) else adr .none lo)= .none:=by split<;>rfl
  rw[this]at hv;cases hv.1
 |some a=>
  have hb:b.block=a.block:=by
   obtain⟨h1,_⟩:=hv
   split at h1
   ·cases h1;rfl
   ·simp only[adr,ycn,Option.some.injEq]at h1;rw[←h1];unfold Addr.add;split<;>rfl
  rw[hb];exact h.2 a n c rfl
theorem RowZ.one(h:RowZ 0 S w v l):_root_.Go.Proofs.YtfacfpcopcgbdaaGreat.one v=true:=by
 obtain⟨⟨a,c,h1,_⟩,_⟩:=h;rw[h1];rfl
theorem RAdd_ok(w:World)(lv nv:Value)(L:List Nm)(n:Nm)(hl:NamesZ S w lv L)(hS:∀b,S b->b<w.heap.size)(hn:Row w nv (n.map vs))(hfold:∀x∈L,zag x=x)(hLB:∀x∈L,LB x/\x.length<=100000000000)(hnb:LB n)(hnl:n.length<=100000)
  (hlen:L.length<=100000000) (hs:Rise L) (hcl:∀l f,l::f∈L->f∈L):
  Fn prog 57 #[lv,nv] w (λ v w'=>Ext w w'/\∃L',NamesZ S w' v L'/\Rise L'/\(∀g,g∈L'↔g∈L\/∃k,k<=n.length/\g=(zag n).drop k)/\L'.length<=L.length+n.length+1):=by
 refine enx func57 ntmps57 ?_;refine gz0 ?_;refine rq ?_;intro gd K hgd hK;try simp only[go_sem]
 refine yfm (zem _ _ _ hn hnb oM) ?_;rintro fv w1 ⟨hf,hE1⟩;try simp only[go_sem]
 apply hK;obtain⟨fa,fc,rfl⟩:=hf.slice;obtain⟨F,hF⟩:∃F,zag n=F:=⟨_,rfl⟩;have hFl:F.length=n.length:=by rw[←hF];exact zax n
 rw[hF]at hf ⊢;have hFr:=hf.row;have hf0:=hf;simp only[ylm]at*;have hFr':∀{x},Ext w1 x->∃(_:F.length<=fc),∀j (h:j<(F.map vs).length),zad x (adr fa j)=some (F.map vs)[j]:=fun {x} hx=>by
  obtain⟨a,c,e,h1,h2⟩:=hFr.ext hx;simp only[ylm,Value.slice.injEq,true_and]at e h1;obtain⟨rfl,rfl⟩:=e;exact⟨h1,h2⟩
 have hFc:=(hFr' ykr).1;have hFfold:zag F=F:=by rw[←hF,zfq]
 have hFb:LB F:=by rw[←hF];exact hnb.fold
 refine gz0 ?_;refine zan (λ m σ ds A=>ds=[]/\∃(i:Nat) (lv':Value) (L':List Nm),i+m=F.length+1/\σ 6=vi i/\σ 5= .slice fa F.length fc/\σ 0=lv'/\Ext w1 A/\NamesZ S A lv' L'/\Rise L'/\(∀g,g∈L'↔g∈L\/∃k,k<i/\g=F.drop k)/\L'.length<=L.length+i) (F.length+1) ?_ ?_
 ·refine⟨rfl,0,lv,L,oM,?_,?_,?_,Keep.refl _ _,hl.ext hE1,hs,by simp,oM⟩
  ·simp only[go_sem];rfl
  ·simp only[go_sem]
  ·simp only[go_sem]
 ·rintro m σ ds A ⟨rfl,i,lv',L',him,h6,h5,h0,hE,hN,hR,hmem,hL'⟩;have hfold':∀x∈L',zag x=x:=λ x hx=>by
   rcases(hmem x).1 hx with h| ⟨k,_,rfl⟩
   ·exact hfold x h
   ·rw[zcf,hFfold]
  have hLB':∀x∈L',LB x/\x.length<=100000000000:=λ x hx=>by
   rcases(hmem x).1 hx with h| ⟨k,_,rfl⟩
   ·exact hLB x h
   ·exact⟨hFb.drop k,by simp;omega⟩
  refine gz (az2 h6 h5) ?_;refine wc0 ?_ ?_
  ·intro hlt;simp only[ydT]at hlt;have htail:∀{x},Ext w1 x->RowN S x (.slice (if fc=i then fa else adr fa i) (F.length - i) (fc - i)) (F.drop i):=fun {x} hx=>by
    obtain⟨h1,h2⟩:=hFr' hx;have:=Row.tail (l:=F.map vs) (by simp) h1 h2 (lo:=i) oM;rw[←ycM]at this;exact((RowZ.own hf0 hS).ext hx).sub this
   refine rqz ?_;intro gd K hgd hK;refine sgz (az3 h0 h5 h6) ?_;refine yfm (zoe A _ _ L' (F.drop i) hN.at (htail hE).1 hfold' (by rw[zcf,hFfold]) hLB' ⟨hFb.drop _,by simp;omega⟩ oM hR) ?_;rintro _ w2 ⟨hE2,k,ok,rfl,hk,hyes,hno⟩;try simp only[go_sem]
   apply hK;refine gz0 ?_;refine wc0 ?_ ?_
   ·intro hok;obtain⟨hk',hkg⟩:=hyes hok;repeat (first|refine c_r ?_| (refine zcx (by rfl) ?_;intro gd K hgd hK;simp (disch:=first|omega|assumption|rfl) only[go_sem,h0];refine hK _ _ ?_;clear hK hgd;clear K gd))
    refine rt1 h0 ntmps57 ?_;have hin:F.drop i∈L':=by rw[←hkg];exact yac _
    have hinL:F.drop i∈L:=by
     rcases(hmem _).1 hin with h| ⟨k,hki,h⟩
     ·exact h
     ·have:=drop_inj oM oM h;omega
    refine⟨(hE1.trans hE).trans hE2,L',hN.ext hE2,hR,λ g=>?_,oM⟩;rw[hmem g];constructor
    ·rintro(h| ⟨k,hk,h⟩)
     ·exact .inl h
     ·exact .inr ⟨k,oM,h⟩
    ·rintro(h| ⟨k,hk,h⟩)
     ·exact .inl h
     ·by_cases hki:k<i
      ·exact .inr ⟨k,hki,h⟩
      ·rw[h];exact .inl (tails_in hcl oM oM hinL)
   ·intro hok;obtain⟨hlo,hhi⟩:=hno hok;obtain⟨vals,⟨⟨la,lc,rfl,hlc,hla⟩,hlz⟩,hrows⟩:=id hN;have hvl:=hrows.1;have hcutlo:∀{x},Ext A x->Row x (.slice (if lc=0 then la else adr la 0) (k - 0) (lc - 0)) (vals.take k):=fun {x} hx=>by
     have:=Row.cut (w:=x) (l:=vals) rfl hlc (λ j h=>zaa hx (hla j h)) (lo:=0) (hi:=k) oM oM;simpa using this
    have hcuthi:∀{x},Ext A x->Row x (.slice (if lc=k then la else adr la k) (vals.length - k) (lc - k)) (vals.drop k):=fun {x} hx=>
     Row.tail (w:=x) (l:=vals) rfl hlc (λ j h=>zaa hx (hla j h)) oM
    have hone:∀q∈vals,one q=true:=λ q hq=>by
     obtain⟨j,hj,rfl⟩:=yaG hq;exact(hrows.2 j hj oM).one
    repeat refine c_r ?_
    refine zaw (Q:=λ e σ' ds' v'=>e= .normal/\ds'=[]/\σ' 0=σ 0/\σ' 5=σ 5/\σ' 6=σ 6/\σ' 7=vi k/\Ext w2 v'/\∃xv,σ' 9=xv/\Own w2.heap.size v' 26 xv (vals.take k++ [.slice (if fc=i then fa else adr fa i) (F.length - i) (fc - i)])) ?_ ?_
    ·refine zfH (λ _=>false) (.run [(1,true),(2,true),(3,true),(5,true),(6,true),(7,true)] (.fork 4 [0,8] (λ i=>if i=0 then(.run [] (.fork 3 [4,8] (λ i=>if i=4 then(.run [(8,false),(9,false),(10,true)] .fin) else(.run [(4,false),(9,false),(10,true)] .fin)))) else(.run [(0,false),(4,false),(9,false),(10,true)] .fin)))) (zda w2.heap.size) mixed kR ?_;intro gd K x hgd hx hxe hK;clear hxe;refine sgz (az3 h0 h5 h6) ?_;have hx0:Ext w2 x:=⟨hx.os,hx.tape,hx.output,hx.size,λ b hb _=>hx.block b hb (by unfold zda;omega),hx.drawn⟩;have hAx:=hE2.trans hx0;have hxs:=hx.size;have h1one:∀q∈ [Value.slice (if fc=i then fa else adr fa i) (F.length - i) (fc - i)],one q=true:=λ q hq=>by rw[yae.1 hq];rfl
     have h2one:∀q∈vals.take k,one q=true:=λ q hq=>hone q (yaO hq);simp only[za5,zbk];refine⟨?_,?_⟩
     ·refine sg0 ?_;refine zhA (z:= .slice .none 0 0) rfl rfl rfl rfl ?_;intro w3 hE3 hs3 ho3;refine⟨.inr hE3.keep,?_⟩;refine sg0 ?_;simp only[za5,zbk];refine⟨?_,?_⟩
      ·refine sg0 ?_;refine zb0 ho3 (hcutlo (hAx.trans hE3)) rfl rfl rfl rfl rfl rfl vr0 vr0 h2one (by simp;omega) (by decide) oM ?_;intro v4 w4 ho4 hE4 hk4 _;refine⟨.inr (hk4.mono λ b _ hb=>by have:=(ho3.ge hb).1;show _<=_;omega),?_⟩;have hE4':=hE4 _ hE3 (ynl _);have hs4:=hk4.size;refine sg0 ?_;refine zc3 (z:= .slice .none 0 0) rfl rfl rfl rfl rfl ?_;intro w5 hE5 hs5 ho5;refine⟨.inr hE5.keep,?_⟩;refine sg0 ?_;refine zb0 (ho4.ext hE5) ho5.row rfl rfl rfl rfl rfl rfl vr0 vr0 h1one (by simp;omega) (by decide) oM ?_;intro v6 w6 ho6 hE6 hk6 _;refine⟨.inr (hk6.mono λ b _ hb=>by have:=(ho4.ge hb).1;show _<=_;omega),?_⟩;refine sg0 ?_;refine hK _ _ ⟨rfl,rfl,vq0,vq0,vq0,vq0,hx0.trans (hE6 _ (hE4'.trans hE5) (ynl _)),_,by simp only[go_sem];rfl,?_⟩;exact ho6.mono hxs
      ·refine sg0 ?_;refine zc3 (z:= .slice .none 0 0) rfl rfl rfl rfl rfl ?_;intro w5 hE5 hs5 ho5;refine⟨.inr hE5.keep,?_⟩;refine sg0 ?_;refine zb0 (ho3.ext hE5) (hcutlo ((hAx.trans hE3).trans hE5)) rfl rfl rfl rfl rfl rfl vr0 vr0 h2one (by simp;omega) (by decide) oM ?_;intro v4 w4 ho4 hE4 hk4 _;have hs4:=hk4.size;refine⟨.inr (hk4.mono λ b _ hb=>by have:=(ho3.ge hb).1;show _<=_;omega),?_⟩;have ho5':=ho5.keep hk4 (λ b hb hb2=>by have:=(ho5.ge hb).1;have:=(ho3.ge hb2).2;omega);refine sg0 ?_;refine zb0 ho4 ho5'.row rfl rfl rfl rfl rfl rfl vr0 vr0 h1one (by simp;omega) (by decide) oM ?_;intro v6 w6 ho6 hE6 hk6 _;refine⟨.inr (hk6.mono λ b _ hb=>by have:=(ho4.ge hb).1;show _<=_;omega),?_⟩;refine sg0 ?_;refine hK _ _ ⟨rfl,rfl,vq0,vq0,vq0,vq0,hx0.trans (hE6 _ (hE4 _ (hE3.trans hE5) (ynl _)) (ynl _)),_,by simp only[go_sem];rfl,?_⟩;exact ho6.mono hxs
     ·refine sg0 ?_;refine zc3 (z:= .slice .none 0 0) rfl rfl rfl rfl rfl ?_;intro w5 hE5 hs5 ho5;refine⟨.inr hE5.keep,?_⟩;refine sg0 ?_;refine zhA (z:= .slice .none 0 0) rfl rfl rfl rfl ?_;intro w3 hE3 hs3 ho3;refine⟨.inr hE3.keep,?_⟩;refine sg0 ?_;refine zb0 ho3 (hcutlo ((hAx.trans hE5).trans hE3)) rfl rfl rfl rfl rfl rfl vr0 vr0 h2one (by simp;omega) (by decide) oM ?_;intro v4 w4 ho4 hE4 hk4 _;refine⟨.inr (hk4.mono λ b _ hb=>by have:=(ho3.ge hb).1;show _<=_;omega),?_⟩;have hE4':=hE4 _ hE3 (ynl _);have hs4:=hk4.size;refine sg0 ?_;refine zb0 ho4 (ho5.ext hE4').row rfl rfl rfl rfl rfl rfl vr0 vr0 h1one (by simp;omega) (by decide) oM ?_;intro v6 w6 ho6 hE6 hk6 _;refine⟨.inr (hk6.mono λ b _ hb=>by have:=(ho4.ge hb).1;show _<=_;omega),?_⟩;refine sg0 ?_;refine hK _ _ ⟨rfl,rfl,vq0,vq0,vq0,vq0,hx0.trans (hE6 _ (hE5.trans hE4') oM),_,by simp only[go_sem];rfl,?_⟩;exact ho6.mono oM
    ·rintro _ σ6 _ v6 ⟨rfl,rfl,e0,e5,e6,e7,hE6,xv,e9,hox⟩;obtain⟨xa,xc,rfl⟩:=hox.slice;rw[h0]at e0;rw[h5]at e5;rw[h6]at e6;refine rqz ?_;intro gd K hgd hK;refine sgz (az5 e0 e5 e6 e7 e9) ?_;refine zb0 hox (hcuthi (hE2.trans hE6)) rfl rfl rfl rfl rfl rfl ((vq1 e9)) vr0 (λ q hq=>hone q (List.mem_of_mem_drop hq)) (by simp;omega) (by decide) hE6.size ?_;intro v7 w7 ho7 hE7 _ _;have hE7':=hE7 _ hE6 (ynl _);try simp only[go_sem]
     apply hK;refine gz e6 ?_;refine⟨m - 1,oM,rfl,i+1,v7,L'.take k++ [F.drop i]++L'.drop k,oM,by simp only[go_sem];push_cast;rfl,vq1 e5,vq0,(hE.trans hE2).trans hE7',⟨_,RowZ.own ho7 (λ b hb=>by have:=hS b hb;have:=hE1.size;have:=hE.size;have:=hE2.size;omega),?_⟩,hR.insert hlo hhi,λ g=>?_,by simp;omega⟩
     ·exact(hrows.imp λ v n h=>h.ext (hE2.trans hE7')).insert (htail ((hE.trans hE2).trans hE7')) hk
     ·rw[zly,hmem g];constructor
      ·rintro((h| ⟨j,hj,h⟩)|h)
       ·exact .inl h
       ·exact .inr ⟨j,oM,h⟩
       ·exact .inr ⟨i,oM,h⟩
      ·rintro(h| ⟨j,hj,h⟩)
       ·exact .inl (.inl h)
       ·by_cases hji:j<i
        ·exact .inl (.inr ⟨j,hji,h⟩)
        ·rw[show i=j from by omega];exact .inr h
  ·intro hge;simp only[ydF]at hge;repeat (first|refine c_r ?_| (refine zcx (by rfl) ?_;intro gd K hgd hK;simp (disch:=first|omega|assumption|rfl) only[go_sem,h0];refine hK _ _ ?_;clear hK hgd;clear K gd))
   refine rt1 h0 ntmps57 ?_;refine⟨hE1.trans hE,L',hN,hR,λ g=>?_,oM⟩;rw[hmem g];constructor
   ·rintro(h| ⟨k,hk,h⟩)
    ·exact .inl h
    ·exact .inr ⟨k,oM,h⟩
   ·rintro(h| ⟨k,hk,h⟩)
    ·exact .inl h
    ·exact .inr ⟨k,oM,h⟩
end Go.Proofs.YtfacfpcopcgbdaaGreat
namespace Go.Proofs.YtfacfpcopcgbdaaGreat
open Go Tryz Go.ChangeShapes Go.WideShapes Go.ChangeAt Go.RowKit Go.WideElems
variable {w w0 w1 W0 x A:World}{v u lv nv:Value}{cs l:List Value}{B k b i j cap:Nat}{t e:TypeId}{a:Option Addr}{S C:Nat->Prop}{q o:Nm}
theorem Ext.below(h:Ext w x):RowKit.Below w.heap.size w x:=⟨h.os,h.tape,h.output,h.size,λ k hk=>h.block k hk (λ h=>h)⟩
theorem Ext.kept(h:Ext w x)(may:MemPlace->Prop):w.keptBut x may:=by
 refine⟨h.os,h.output,λ i hi=>?_⟩;rw[h.block i hi (λ h=>h)];cases hw:w.heap[i]? with
 |none=>trivial
 |some o=>cases o<;>simp
theorem zeH{H:Type}{enc:TypeId×Value->H}{P:Program}(hl:laidOutB P=true){W W':World}{sp:Nat->Bool}(hE:Ext W W'):
  ∀{ts:List TypeId} {vs:List Value} {ds:List (DataW H)} {ps:List MemPlace},(∀t∈ts,P.readableRec t=true/\t<P.types.size)->DataW.TrodAll enc P W 0 (λ _=>true) true ts vs ds ps->(∀x∈ps,x.block<W.heap.size)->(∀x∈ps,sp x.block=true)->
   DataW.TrodAll enc P W' 0 sp true ts vs ds ps
 | [],_,_,_,_,h,_,_=>by
  obtain⟨rfl,rfl,rfl⟩:=trodAll_nil h;exact trodAll_mk0
 |_::_,_,_,_,ht,h,hlt,hs=>by
  obtain⟨v,vs1,d,ds1,a,b,rfl,rfl,rfl,h1,h2⟩:=trodAll_cons h;obtain⟨hr,hrow⟩:=ht _ (yal ..);exact trodAll_cons_mk (WideElems.Trod_stays hl hr hrow h1 (λ x hx=>hE.below.same (hlt x (yas _ hx))) (λ x hx=>hs x (yas _ hx)))
   (zeH hl hE (λ t h=>ht t (yak _ h)) h2 (λ x hx=>hlt x (yaP _ hx)) (λ x hx=>hs x (yaP _ hx)))
theorem zlJ(h:Ext w x)(hb:b<w.heap.size)(o:Nat):x.frozen? ⟨b,o,.none⟩=w.frozen? ⟨b,o,.none⟩:=by
 unfold World.frozen?;rw[h.block b hb (λ h=>h)]
theorem law_post{H:Type}{enc:TypeId×Value->H}{P:Program}{f:Func}{s:ChangeSpec}{apart fresh handsOn again:Bool}{W W':World}{args:Array Value}{ds gs:List (DataW H)}{before:List MemPlace}
  (hW:DataW.Whole enc P f.params.toList s.vars apart W args.toList ds gs before) (hvn:s.vars=[]) (hspec:s.fn H ds={results:=[.lit (.bool true)],args:=ds}) {tb:TypeId} (hrt:f.resultTypes=#[tb]) (htb:P.underlying tb=some .bool)
  (hl:laidOutB P=true) (hrd:∀t∈f.params.toList,P.readableRec t=true/\t<P.types.size) (hE:Ext W W'):s.post enc P f apart fresh handsOn again W args (.bool true) W':=by
 have hlt:=hW.lt;have hW0:=hW;obtain⟨p,q,hA,hV,hpq,hfz,hnd⟩:=hW;have hq:gs=[]/\q=[]:=by
  rw[hvn]at hV;cases gs with
  |nil=>exact⟨rfl,hV⟩
  |cons _ _=>exact hV.elim
 obtain⟨rfl,rfl⟩:=hq;rw[yaF]at hpq;subst hpq;have hres:∀(b:Nat) (sp:Nat->Bool) (hd:Bool),DataW.TrodAll enc P W' b sp hd f.resultTypes.toList ((Value.bool true).resultList f.resultTypes.size) (s.fn H (ds++ [])).results []:=λ b sp hd=>by
  rw[yaF,hspec,hrt];exact trodAll_mk1 (shut_bool htb true)
 have hargs:∀sp:Nat->Bool,(∀x∈before,sp x.block=true)->DataW.TrodAll enc P W' 0 sp true f.params.toList args.toList (s.fn H (ds++ [])).args before:=λ sp hs=>by
  rw[yaF,hspec];exact zeH hl hE hrd hA hlt hs
 have hvars:∀sp:Nat->Bool,DataW.TrodVars enc P W' sp s.vars (s.fn H (ds++ [])).vars []:=λ sp=>by
  rw[yaF,hspec,hvn];rfl
 have hold:∀x∈before,(λ b=>decide (b<W.heap.size)) x.block=true:=λ x hx=>by simpa using hlt x hx
 refine⟨ds,[],before,[],before,[],hW0,hres _ _ _,hargs _ hold,hvars _,hE.kept _,λ _=>?_⟩;refine⟨λ j t r h1 h2=>?_,_,_,([]++before)++ [],⟨[]++before,[],trodAll_append (hargs _ (λ _ _=>rfl)) (hres _ _ _),hvars _,rfl,?_,?_⟩,?_⟩
 ·rw[hrt]at h1 h2
  match j with
  |0=>
   simp at h1;subst h1;have:r= .bool true:=by simpa [Value.resultList] using h2.symm
   subst this;exact okWide_bool_mk htb true
  |j+1=>simp at h1
 ·intro b off hp;have hp':MemPlace.cell b off∈before:=sU hp;rw[zlJ hE (show b<W.heap.size from hlt _ hp')];exact hfz b off hp'
 ·intro ha;simpa using hnd ha
 ·intro x hx _;simpa using hx
theorem law_lift{C:Checked}{os:Os}{f:FuncId}{fn:Func}{s:ChangeSpec}{conds:List PathCond}{apart fresh handsOn again:Bool}{H:Type}{enc:TypeId×Value->H}
  (own:ownKnob C.prog.godebug=none) (started:os.Started) (noInit:C.prog.inits.idxOf? f=none) (hfn:C.prog.funcs[f]? =some fn)
  (witness:∃(w:World) (tape:Tape) (i:Input),w.os=os/\(w.forCall tape i).Shaped C.prog/\i.vars=[]/\Input.okWide C.prog (w.forCall tape i) .any w.heap.size f i/\
   s.pre6 enc C.prog fn conds apart (w.forCall tape i).memory i.args/\({}:Assume).holds C.prog (lone (Frame.enter C.prog f i.args .normal) [] (w.forCall tape i)))
  (hvn:s.vars=[]) (hspec:∀ds:List (DataW H),ds.length=fn.params.size->s.fn H ds={results:=[.lit (.bool true)],args:=ds}) {tb:TypeId} (hrt:fn.resultTypes=#[tb]) (htb:C.prog.underlying tb=some .bool)
  (hl:laidOutB C.prog=true) (hrd:fn.params.toList.all (λ t=>C.prog.readableRec t && decide (t<C.prog.types.size))=true)
  (walk:∀(W:World) (base:Nat) (args:List Value) (ds:List (DataW H)) (p:List MemPlace),(∀(j:Nat) t v,fn.params[j]? =some t->args[j]? =some v->Value.okWide C.prog W .any base t v)->
   DataW.TrodAll enc C.prog W 0 (λ _=>true) true fn.params.toList args ds p->(∀x∈DataW.weightsEach C.prog fn.params.toList ds,x<=reachBytes)->Fn C.prog f args.toArray W (λ v W'=>v= .bool true/\Ext W W')):
  ReturnsInHanded {} C os f .any (s.pre6 enc C.prog fn conds apart) (s.post enc C.prog fn apart fresh handsOn again):=by
 refine returnsInHanded_of_change_sized own started noInit hfn witness ?_;intro W base args ds gs before hval hW _ hwt _;have hW0:=hW;obtain⟨p,q,hA,hV,_⟩:=hW;have hgs:gs=[]:=by
  rw[hvn]at hV;cases gs with
  |nil=>rfl
  |cons _ _=>exact hV.elim
 subst hgs;have hvt:s.plain.varTypes C.prog=[]:=by
  unfold DataSpec.varTypes;rw[show s.plain.vars=[] from hvn];rfl
 rw[hvt,yaF,yaF]at hwt;have hlen:∀{ts:List TypeId} {vs:List Value} {ds:List (DataW H)} {ps:List MemPlace},DataW.TrodAll enc C.prog W 0 (λ _=>true) true ts vs ds ps->ds.length=ts.length:=by
  intro ts
  induction ts with
  |nil=>intro vs ds ps h;obtain⟨rfl,rfl,rfl⟩:=trodAll_nil h;rfl
  |cons t ts ih=>
   intro vs ds ps h;obtain⟨v,vs1,d,ds1,a,b,rfl,rfl,rfl,h1,h2⟩:=trodAll_cons h;simp[ih h2]
 have hw:=walk W base args.toList ds p (λ j t v h1 h2=>hval j t v h1 (sU h2)) hA (λ x hx=>by simpa using (ybg.1 hwt) x hx);rw[Array.toArray_toList]at hw;refine Calls.mono (callsIn_wide.1 hw) ?_;rintro e W' ⟨v,rfl,rfl,hE⟩;refine⟨_,rfl,law_post hW0 hvn (hspec ds (by rw[hlen hA];simp)) hrt htb hl (λ t ht=>?_) hE⟩;have:=(ybg.1 hrd) t ht;simpa using this
/-! arguments -/
section
variable {H : Type} {enc : TypeId × Value -> H} {P : Program} {w : World} {base : Nat} {sp : Nat -> Bool} {held : Bool}
def Rd(enc:TypeId×Value->H)(P:Program)(w:World)(base:Nat)(sp:Nat->Bool)(held:Bool)(t:TypeId)(v:Value):Prop:=∃n x,DataW.trod enc P w base sp held n t [v]=some x/\∀k∈x.1.weights P t,k<=reachBytes
theorem zdl{d:DataW H}:∀{l:List (DataW H)},d∈l->k∈d.weights P e->k∈DataW.weightsAll P e l
 |a::l,hd,hk=>by
  simp only[DataW.weightsAll,yai];rcases yay.1 hd with rfl|hd
  ·exact .inl hk
  ·exact .inr (zdl hd hk)
theorem zhL(h:Rd enc P w base sp held t v)(ht:P.underlying t=some (.slice e))(hc:P.cellsOf e=1):
  ∃vals,Row w v vals/\(∀u∈vals,Rd enc P w base sp held e u)/\vals.length*P.bytesOf e<=reachBytes:=by
 obtain⟨n,x,h,hw⟩:=h;rcases Go.Deep.open_slice1 ht hc h with ⟨h1,_⟩| ⟨a,len,cap,m,k,V,D,Pl,h1,_,hl,hm,hmm,rfl,hx⟩
 ·simp only[List.cons.injEq,and_true]at h1;subst h1;exact⟨[],⟨.none,0,rfl,ynl _,λ j h=>by simp at h⟩,λ u h=>(by cases h),sM⟩
 ·simp only[List.cons.injEq,and_true]at h1;subst h1;have hml:len<=m:=by rw[hmm];split<;>omega
  simp only[DataW.weights,ht]at hw;refine⟨(List.range len).map V,⟨some a,cap,sM,by simpa using hl,λ j hj=>?_⟩,λ u hu=>?_,?_⟩
  ·simp at hj;have:=(hx j oM).1;simpa [zad,adr] using this
  ·obtain⟨j,hj,rfl⟩:=yaq.1 hu;simp at hj;refine⟨_,_,(hx j oM).2,λ q hq=>hw q (yak _ (yas _ (zdl (d:=D j) ?_ hq)))⟩;exact yaq.2 ⟨j,by simpa using hj,rfl⟩
  ·have h1:=hw _ (yal ..);have h2:((List.range len).map V).length*P.bytesOf e<=(((List.range len).map D).length+((List.range (m - len)).map λ j=>D (len+j)).length)*P.bytesOf e:=ycj sM (ynl _);omega
theorem zmM(h:Rd enc P w base sp held t v)(ht:P.underlying t=some .string):∃s:List UInt8,v=vs s/\s.length<=reachBytes:=by
 obtain⟨n,x,h,hw⟩:=h;cases n with
 |zero=>cases h
 |succ n=>
  unfold DataW.trod at h;rw[ht]at h;cases v<;>simp at h;rename_i s;obtain⟨_,rfl⟩:=h;exact⟨s.data.toList,by simp[vs],by simpa [DataW.weights,ByteArray.toList_eq] using hw⟩
theorem zlo{d:DataW H}{p:List MemPlace}{ts:List TypeId}{ds:List (DataW H)}(h:DataW.Trod enc P w base sp held t v d p)(hv:v.cells.toList=[v])
  (hw:∀x∈DataW.weightsEach P ts ds,x<=reachBytes) (ht:ts[j]? =some t) (hd:ds[j]? =some d):Rd enc P w base sp held t v:=by
 obtain⟨n,h⟩:=h;rw[hv]at h;exact⟨n,_,h,λ k hk=>hw k (DataW.weights_mem_each ht hd k hk)⟩
theorem zjR{α β:Type}{f:α->β}{Q:α->Prop}:∀{l:List β},(∀u∈l,∃s,u=f s/\Q s)->∃m:List α,l=m.map f/\∀s∈m,Q s
 | [],_=>⟨[],rfl,λ s h=>by cases h⟩
 |b::l,h=>by
  obtain⟨s,rfl,hq⟩:=h b (yal ..);obtain⟨m,rfl,hm⟩:=zjR (λ u hu=>h u (yak _ hu));refine⟨s::m,rfl,λ x hx=>?_⟩;rcases yay.1 hx with rfl|hx
  ·exact hq
  ·exact hm x hx
end
end Go.Proofs.YtfacfpcopcgbdaaGreat
namespace Go.Proofs.YtfacfpcopcgbdaaGreat
open Go Tryz
variable {w w0 w1 W0 x A:World}{v u lv nv:Value}{cs l:List Value}{B k b i j cap:Nat}{t e:TypeId}{a:Option Addr}{S C:Nat->Prop}{q o:Nm}
section
variable {H : Type} {enc : TypeId × Value -> H} {P : Program} {w : World} {base : Nat} {sp : Nat -> Bool} {held : Bool}
structure NmOk(n:Nm):Prop where
 lb:LB n
 len:n.length<=8796093022207
theorem reach_lt:reachBytes<140737488355328:=by decide
theorem zfg(h:Rd enc P w base sp held t v)(ht:P.underlying t=some (.slice e))(hc:P.cellsOf e=1)(he:P.underlying e=some .string)(hb:P.bytesOf e=16):∃n:Nm,Row w v (n.map vs)/\NmOk n:=by
 obtain⟨vals,hr,hall,hl⟩:=zhL h ht hc;obtain⟨m,rfl,hm⟩:=zjR (f:=vs) (λ u hu=>zmM (hall u hu) he);have:=reach_lt;rw[hb]at hl;exact⟨m,hr,λ l hl=>by have:=hm l hl;omega,by simp at hl;omega⟩
theorem rd_names{ts tb:TypeId}(h:Rd enc P w base sp held t v)(ht:P.underlying t=some (.slice ts))(hc:P.cellsOf ts=1)(ht2:P.underlying ts=some (.slice tb))(hc2:P.cellsOf tb=1)(he:P.underlying tb=some .string)(hb:P.bytesOf tb=16):
  ∃L:List Nm,NamesAt w v L/\∀n∈L,NmOk n:=by
 obtain⟨vals,hr,hall,hlen0⟩:=zhL h ht hc;have:∃L:List Nm,(vals.length=L.length/\∀i (h:i<vals.length) (h':i<L.length),Row w vals[i] (L[i].map vs))/\∀n∈L,NmOk n:=by
  clear hr h hlen0
  induction vals with
  |nil=>exact⟨[],⟨rfl,λ i h=>by simp at h⟩,λ n h=>by cases h⟩
  |cons u vals ih=>
   obtain⟨n,hn,hok⟩:=zfg (hall u (yal ..)) ht2 hc2 he hb;obtain⟨L,⟨h1,h2⟩,h3⟩:=ih (λ x hx=>hall x (yak _ hx));refine⟨n::L,⟨by simp[h1],λ i a b=>?_⟩,λ x hx=>?_⟩
   ·cases i with
    |zero=>exact hn
    |succ i=>exact h2 i (sU a) (sU b)
   ·rcases yay.1 hx with rfl|hx
    ·exact hok
    ·exact h3 x hx
 obtain⟨L,⟨h1,h2⟩,h3⟩:=this;exact⟨L,⟨vals,hr,h1,h2⟩,h3⟩
end
class Tr (p:World->Prop):Prop where
 tr:∀{w x:World},Ext w x->p w->p x
theorem tr{p:World->Prop}[h:Tr p](hE:Ext w x)(hp:p w):p x:=h.tr hE hp
instance Tr.and{p q:World->Prop}[Tr p][Tr q]:Tr fun w=>p w/\q w:=⟨fun hE h=>⟨tr hE h.1,tr hE h.2⟩⟩
instance Tr.cell{a:Option Addr}{v:Value}:Tr fun w=>zad w a=some v:=⟨fun hE h=>zaa hE h⟩
instance Tr.cells{a:Option Addr}{k:Nat}{l:List Value}:Tr fun w=>zat w a k=some l:=⟨fun hE h=>zac hE h⟩
instance Tr.ext{w0:World}:Tr fun w=>Ext w0 w:=⟨fun hE h=>h.trans hE⟩
instance Tr.row{v:Value}{l:List Value}:Tr fun w=>Row w v l:=⟨fun hE h=>h.ext hE⟩
instance Tr.obj{b:Nat}{o:Obj}:Tr fun w=>w.heap[b]? =some o:=⟨fun hE h=>Ext.at hE h⟩
instance Tr.const{p:Prop}:Tr fun _=>p:=⟨fun _ h=>h⟩
instance Tr.all{α:Sort _}{p:α->World->Prop}[∀a,Tr (p a)]:Tr fun w=>∀a,p a w:=⟨fun hE h a=>tr hE (h a)⟩
instance Tr.ex{α:Sort _}{p:α->World->Prop}[∀a,Tr (p a)]:Tr fun w=>∃a,p a w:=⟨fun hE h=>h.elim fun a h=>⟨a,tr hE h⟩⟩
attribute [go_sem] decide_true decide_false
theorem sc{p q:Prop}(h:p)(hs:p->q=True:=by intro h1;simp only[go_sem,h1]):q:=(hs h).mpr trivial
/-! many steps at once -/
structure Gto(p q:Prop):Prop where
 of:q->p
section
variable {P : Program} {r : Option Nat} {n : Nat} {Q : Post} {σ : Sto} {ds : List Deferred} {w : World} {p q s : Prop} {L : List Oper} {F : (Nat -> Option Tmp) -> (Sto -> World -> Prop) -> Prop}
theorem znv:Gto p p:=⟨id⟩
theorem gto_c(h:Ctl p q)(k:Gto q s):Gto p s:=⟨λ g=>c_r (k.of g) h⟩
theorem gto_r{id:Nat}{ops:Array Oper}{σ1:Sto}(hs:∀(gd:Nat->Option Tmp) (K:Sto->World->Prop),gd=dstL ops.toList->opsV P gd n ops.toList σ w K=K σ1 w1)(hd:zaX ops=true)(k:Gto (Q .normal σ1 ds w1) q):
  Gto (W P r n (.region id ops false) Q σ ds w) q:=⟨λ g=>zcx hd λ gd K hgd hK=>(hs gd K hgd).mpr (hK _ _ (k.of g))⟩
theorem gto_t{c:Operand}{x y:Code}(hc:ev n σ c= .bool true)(k:Gto (W P r n x Q σ ds w) q):Gto (W P r n (.cond c x y) Q σ ds w) q:=⟨λ g=>zaG hc (λ _=>k.of g) (λ h=>by cases h)⟩
theorem gto_f{c:Operand}{x y:Code}(hc:ev n σ c= .bool false)(k:Gto (W P r n y Q σ ds w) q):Gto (W P r n (.cond c x y) Q σ ds w) q:=⟨λ g=>zaG hc (λ h=>by cases h) (λ _=>k.of g)⟩
theorem go(h:p)(hq:s)(hs:p->Gto q s:=by
  intro h1;repeat (first
   | (apply gto_c;· (with_reducible constructor)<;>exact rfl)
   | (apply gto_r;(intro gd K hgd;(simp (disch:=first|omega|assumption|rfl) only[go_sem,h1])<;>with_reducible exact rfl);rfl)
   | (apply gto_t;· first| (simp only[go_sem,h1];done)| (simp only[go_sem,h1];exact rfl))
   | (apply gto_f;· first| (simp only[go_sem,h1];done)| (simp only[go_sem,h1];exact rfl)))
  exact znv):q:=(hs h).of hq
theorem rgo{σ1:Sto}{w1:World}(h:p)(hq:s)
  (hs:p->∀(gd:Nat->Option Tmp) (K:Sto->World->Prop),F gd K=K σ1 w1:=by intro h1 gd K;(first| (simp (disch:=first|omega|assumption|rfl) only[go_sem,h1])|skip)<;>exact rfl)
  (hg:p->Gto (Q .normal σ1 ds w1) s:=by
   intro h1;repeat (first
    | (apply gto_c;· (with_reducible constructor)<;>exact rfl)
    | (apply gto_r;(intro gd K hgd;(simp (disch:=first|omega|assumption|rfl) only[go_sem,h1])<;>with_reducible exact rfl);rfl)
    | (apply gto_t;· first| (simp only[go_sem,h1];done)| (simp only[go_sem,h1];exact rfl))
    | (apply gto_f;· first| (simp only[go_sem,h1];done)| (simp only[go_sem,h1];exact rfl)))
   exact znv):Rest P Q ds L F:=
 re (p:=True) trivial ((hg h).of hq) λ _=>hs h
theorem zgX{c:Code}(N:Nat)(I:Nat->Sto->World->Prop)(h0:I 0 σ w)
  (hs:∀i σ w,i<N->(decide ((i:Int)<(N:Int))=true/\(0:Int)<=(i:Int)/\(i:Int)<(N:Int)/\(i:Int)+1=((i+1:Nat):Int))->I i σ w->W P r n c (zdF (λ σ ds w=>ds=[]/\I (i+1) σ w) Q) σ [] w)
  (he:∀σ w,decide ((N:Int)<(N:Int))=false->I N σ w->W P r n c (zdF (λ _ _ _=>False) Q) σ [] w):W P r n (.loop c) Q σ [] w:=by
 refine zan (λ m σ ds w=>ds=[]/\∃i,i+m=N/\I i σ w) N ⟨rfl,0,oM,h0⟩ ?_;rintro m σ ds w ⟨rfl,i,him,hI⟩;by_cases h:i<N
 ·refine zaw (hs i σ w h ⟨yet oM,oM,oM,by push_cast;rfl⟩ hI) ?_;intro e σ' ds' w' hq;cases e<;>first|exact hq|exact⟨m - 1,oM,hq.1,i+1,oM,hq.2⟩
 ·have e1:i=N:=oM;subst e1;refine zaw (he σ w (yef oM) hI) ?_;intro e σ' ds' w' hq;cases e<;>first|exact hq|exact hq.elim
end
abbrev MetL:=zay×List Int
def keyS(s:zay):KeyL:=⟨zco (zag s.name),s.sv,s.rw,s.rf,s.fin,s.ref⟩
theorem KeyL.eq_iff{a b:KeyL}:(a.name=b.name/\a.a=b.a/\a.b=b.b/\a.c=b.c/\a.d=b.d/\a.ref=b.ref)↔a=b:=by
 cases a;cases b;simp
instance:DecidableEq KeyL:=fun _ _=>decidable_of_iff _ KeyL.eq_iff
def putL(row:List MetL)(x:MetL):List MetL:=if (row.any λ y=>decide (keyS y.1=keyS x.1))=true then row else row++ [x]
def setB(b m:Nat)(lv:Value):Nat->Prop:=λ i=>i=b\/i=m\/some i=lv.ownBlock
def RowY(S:Nat->Prop)(w:World)(v:Value)(l:List Value):Prop:=Row w v l/\(l≠ []->∀a n c,v= .slice (some a) n c->a.block<w.heap.size/\¬S a.block)
theorem RowY.turn{S':Nat->Prop}(h:RowY S w v l)(hk:Keep S w x)(hS:∀b,S' b->S b\/w.heap.size<=b):RowY S' x v l:=by
 obtain⟨h1,h2⟩:=h;refine⟨?_,λ hl a n c e=>?_⟩
 ·by_cases hl:l=[]
  ·subst hl;obtain⟨a,c,e,hc,_⟩:=h1;exact⟨a,c,e,hc,λ j hj=>absurd hj sM⟩
  ·exact h1.blocks λ a n c e=>hk.block _ (h2 hl a n c e).1 (h2 hl a n c e).2
 ·obtain⟨k1,k2⟩:=h2 hl a n c e;have:=hk.size;exact⟨oM,λ hb=>(hS _ hb).elim k2 oM⟩
theorem RowY.old{S:Nat->Prop}{w0 w:World}{v:Value}{l:List Value}(h:Row w0 v l)(hE:Ext w0 w)(hS:∀b,S b->w0.heap.size<=b):RowY S w v l:=by
 refine⟨h.ext hE,λ hl a n c e=>?_⟩;obtain⟨a',c',e',_,hg⟩:=h;have h0:=hg 0 (yau.2 hl);rw[e',Value.slice.injEq]at e;obtain⟨rfl,_,_⟩:=e;rw[zar]at h0;have hlt:a.block<w0.heap.size:=by
  have hc:w0.cell? a=some (l[0]'(yau.2 hl)):=h0;unfold World.cell? at hc;cases hb:w0.heap[a.block]? with
  |none=>rw[hb]at hc;cases hc
  |some o=>exact(yaa.1 hb).1
 have:=hE.size;exact⟨oM,λ hb=>by have:=hS _ hb;omega⟩
theorem RowY.alike{l2:List Value}(h:RowY S w v l)(h2:Row w v l2):RowY S w v l2:=by
 refine⟨h2,λ hl a n c e=>h.2 (λ h0=>hl ?_) a n c e⟩;obtain⟨a1,c1,e1,_⟩:=h.1;obtain⟨a2,c2,e2,_⟩:=h2;rw[e1,Value.slice.injEq]at e2;exact ycW (by rw[←e2.2.1,h0];rfl)
structure MetAt(S:Nat->Prop)(w:World)(cs:List Value)(x:MetL):Prop where
 ex:∃nv pv,cs=stV nv x.1++ [pv]/\RowY S w nv (x.1.name.map vs)/\RowY S w pv (x.2.map vi)
theorem MetAt.turn{S':Nat->Prop}{m:MetL}(h:MetAt S w cs m)(hk:Keep S w x)(hS:∀b,S' b->S b\/w.heap.size<=b):MetAt S' x cs m:=by
 obtain⟨nv,pv,e,h1,h2⟩:=h.ex;exact⟨nv,pv,e,h1.turn hk hS,h2.turn hk hS⟩
theorem MetAt.ones{x:MetL}(h:MetAt S w cs x):cs.length=7/\∀q∈cs,one q=true:=by
 obtain⟨nv,pv,rfl,h1,h2⟩:=h.ex;have e1:=h1.1.isOne;have e2:=h2.1.isOne;refine⟨rfl,λ q hq=>?_⟩;rcases yai.1 hq with hq|hq
 ·exact zhE e1 q hq
 ·rw[yae.1 hq];exact e2
theorem ziL(S:Nat->Prop)(w:World):zdD 7 (MetAt S w):=⟨λ h=>h.ones.1,λ h=>h.ones.2⟩
structure SetI(w v:World)(b m:Nat)(lv:Value)(row:List MetL):Prop where
 c:v.heap[b]? =some (.cells #[.map (some m),lv] 135 (0,0))
 g:GM v m (row.map λ x=>(keyV (keyS x.1),.bool true))
 o:Owns 7 (MetAt (setB b m lv) v) w.heap.size v 142 lv row
 e:Ext w v
 lo:w.heap.size<=b/\w.heap.size<=m/\b≠m/\some b≠lv.ownBlock/\some m≠lv.ownBlock
theorem SetI.lt{v:World}{m:Nat}{row:List MetL}(h:SetI w v b m lv row)(hi:setB b m lv i):w.heap.size<=i/\i<v.heap.size:=by
 obtain⟨l1,l2,_⟩:=h.lo;rcases hi with rfl|rfl|hi
 ·exact⟨l1,(yaa.1 h.c).1⟩
 ·exact⟨l2,h.g.lt⟩
 ·exact h.o.ge hi
theorem SetI.ext{v:World}{m:Nat}{row:List MetL}(h:SetI w v b m lv row)(hE:Ext v x):SetI w x b m lv row:=
 ⟨Ext.at hE h.c,h.g.block (hE.block _ h.g.lt (λ h=>h)),(h.o.ext hE).to λ _ _ h=>h.turn (hE.mono λ _ _ h=>h.elim) (λ _ h=> .inl h),h.e.trans hE,h.lo⟩
theorem put_ok{v:World}{m:Nat}{row:List MetL}{mc:List Value}{X:MetL}(h:SetI w v b m lv row)(hX:MetAt (setB b m lv) v mc X)(hk:zl9 (keyS X.1))(hrk:∀y∈row,zl9 (keyS y.1))(hlen:row.length<=100000000):
  Fn prog 78 #[.pointer (some ⟨b,0,.none⟩),keyV (keyS X.1),.agg mc.toArray] v (λ _ v'=>∃lv',SetI w v' b m lv' (putL row X)/\Keep (setB b m lv) v v'/\∀i,setB b m lv' i->setB b m lv i\/v.heap.size<=i):=by
 obtain⟨nv,pv,rfl,hn,hp⟩:=id hX.ex;obtain⟨an,cn,hne,_⟩:=id hn.1;obtain⟨ap,cp,hpe,_⟩:=id hp.1;unfold keyV stV;refine enx func78 ntmps78 ?_;repeat refine c_r ?_
 rw[hne,hpe];simp only[yav,yaI];refine go trivial ?_;rw[←hne,←hpe,zai];refine zaQ ?_;intro v1 hE1 hs1 hA hB;obtain⟨q,hq⟩:∃q,v.heap.size=q:=⟨_,rfl⟩;rw[hq]at hA hB ⊢;have dK:zat v1 (some ⟨q,0,.none⟩) 6=some [vs (keyS X.1).name,vi (keyS X.1).a,vi (keyS X.1).b,vi (keyS X.1).c,vi (keyS X.1).d,.bool (keyS X.1).ref]:=zah (l:=[vs (keyS X.1).name,vi (keyS X.1).a,vi (keyS X.1).b,vi (keyS X.1).c,vi (keyS X.1).d,.bool (keyS X.1).ref]) hA rfl;have dM:zat v1 (some ⟨q+1,0,.none⟩) 7=some (stV nv X.1++ [pv]):=zah (l:=stV nv X.1++ [pv]) hB rfl;have h1:=h.ext hE1;have c0:zad v1 (some ⟨b,0,.none⟩)=some (.map (some m)):=zab (i:=0) h1.c rfl;have hgood:∀p∈row.map (λ x=>(keyV (keyS x.1),Value.bool true)),∃l,keyOf prog 185 p.1=some l:=λ p hp=>by
  obtain⟨y,hy,rfl⟩:=yaq.1 hp;exact zhV (hrk y hy)
 refine zaw (Q:=λ e σ' ds' v'=>e= .normal/\ds'=[]/\(σ' 0= .pointer (some ⟨b,0,.none⟩)/\σ' 4= .pointer (some ⟨q,0,.none⟩)/\σ' 5= .pointer (some ⟨q+1,0,.none⟩))/\Ext v1 v'/\∃t,σ' 12= .bool (!t)/\t=(row.any λ y=>decide (keyS y.1=keyS X.1))) ?_ ?_
 ·refine zaF (λ _=>false) [(0,true),(1,true),(2,true),(3,true),(4,true),(5,false),(6,true)] NoS mixed kR ?_;intro gd K x hgd hx hxe hK;clear hxe;have c0x:=zaa hx c0;have dKx:=zac hx dK;refine sgz (az2 c0x dKx) ?_;refine zhP (key:=keyV (keyS X.1)) (z:= .bool false) (MKey.of znm) rfl rfl rfl vq0 vr0 ((h1.ext hx).g) (zhV hk) hgood (λ hno=>?_) (λ u hu=>?_)
  ·refine⟨.inr ykr,?_⟩;refine sg0 ?_;apply hK;refine⟨rfl,rfl,sc trivial,hx,false,vr0,?_⟩
   symm
   rw[ycv];intro y hy e;exact hno (keyV (keyS y.1),.bool true) (yaq.2 ⟨y,hy,rfl⟩) (by rw[of_decide_eq_true e])
  ·obtain⟨y,hy,e⟩:=yaq.1 hu;simp only[Prod.mk.injEq]at e;obtain⟨e1,rfl⟩:=e;refine⟨.inr ykr,?_⟩;refine sg0 ?_;apply hK;refine⟨rfl,rfl,sc trivial,hx,true,vr0,?_⟩
   symm
   rw[ycD];exact⟨y,hy,yet (zkF e1)⟩
 rintro _ σ1 _ v2 ⟨rfl,rfl,s,hE2,t,s12,ht⟩;have hE02:=hE1.trans hE2;have h2:=h1.ext hE2;have hsz:=hE02.size;cases t with
 |true=>
  refine go s12 ?_;refine zap (by simp) rfl ⟨lv,?_,hE02.mono λ _ _ h=>h.elim,λ i hi=> .inl hi⟩;unfold putL;rw[if_pos ht.symm];exact h2
 |false=>
 have hput:putL row X=row++ [X]:=by unfold putL;rw[←ht];rfl
 have hno:∀p∈row.map (λ x=>(keyV (keyS x.1),Value.bool true)),p.1≠keyV (keyS X.1):=λ p hp e=>by
  obtain⟨y,hy,rfl⟩:=yaq.1 hp;have:=ycv.1 ht.symm y hy;exact this (yet (zkF e))
 have c02:=zaa hE2 c0;have dK2:=zac hE2 dK;have dM2:=zac hE2 dM;have hm2:=h2.lt (.inr (.inl rfl));obtain⟨l1,l2,l3,l4,l5⟩:=h2.lo;refine go s12 ?_
 -- the key is put down
 refine zaw (Q:=λ e σ' ds' v'=>e= .normal/\ds'=[]/\(σ' 0= .pointer (some ⟨b,0,.none⟩)/\σ' 5= .pointer (some ⟨q+1,0,.none⟩))/\Keep (λ i=>i=m) v2 v'/\GM v' m ((row++ [X]).map λ x=>(keyV (keyS x.1),.bool true))) ?_ ?_
 ·refine zaF (λ i=>i==5) [(0,true),(1,true),(2,true),(3,true),(4,true),(5,false)] NoS mixed kR ?_;intro gd K x hgd hx hxe hK;clear hxe;have c0x:=zaa hx c02;have dKx:=zac hx dK2;refine sgz (az3 s c0x dKx) ?_;refine zmY (key:=keyV (keyS X.1)) (v:= .bool true) (MKey.of znm) rfl vq0 vr0 vr0 ((h2.ext hx).g) (zhV hk) hgood hno ?_;intro z hgz hkz hsz;refine⟨.inl rfl,?_⟩;refine sg0 ?_;apply hK;exact⟨rfl,rfl,sc s,(hx.mono λ _ _ h=>h.elim).trans hkz,by rw[yaC];exact hgz⟩
 clear s;rintro _ σ2 _ v3 ⟨rfl,rfl,s,hk3,hg3⟩;have hs3:=hk3.size;have hmv:=(h.lt (.inr (.inl rfl))).2;have hbv:=(h.lt (.inl rfl)).2;have hlb:=h2.lt (.inl rfl);have hc3:v3.heap[b]? =some (.cells #[.map (some m),lv] 135 (0,0)):=(hk3.block _ hlb.2 oM).trans h2.c;have c1:zad v3 (some ⟨b,1,.none⟩)=some lv:=zab (i:=1) hc3 rfl;have hB3:v3.heap[q+1]? =some (.cells (stV nv X.1++ [pv]).toArray 142 (0,0)):=(hk3.block _ (yaa.1 (Ext.at hE2 hB)).1 (by show¬(_=_);omega)).trans (Ext.at hE2 hB);have hq1:=(yaa.1 hB3).1;have dM3:zat v3 (some ⟨q+1,0,.none⟩) 7=some (stV nv X.1++ [pv]):=zah (l:=stV nv X.1++ [pv]) hB3 rfl;have hkS:Keep (setB b m lv) v2 v3:=hk3.mono λ i _ h=> .inr (.inl h);have ho3:Owns 7 (MetAt (setB b m lv) v3) w.heap.size v3 142 lv row:=(h2.o.keep hk3 (λ i hi=>λ e=>l5 (by rw[←e];exact hi))).to λ _ _ h=>h.turn hkS λ _ h=> .inl h;have hX3:MetAt (setB b m lv) v3 (stV nv X.1++ [pv]) X:=(hX.turn (hE02.mono λ _ _ h=>h.elim) λ _ h=> .inl h).turn hkS λ _ h=> .inl h;refine go s ?_;refine zaF (λ i=>i==7||i==10) [(0,true),(1,true),(2,true),(3,true),(4,true),(5,true),(6,false),(7,false),(8,true),(9,true),(10,false)] NoS mixed kR ?_;intro gd K x hgd hx hxe hK;clear hxe;have c1x:=zaa hx c1;have dMx:=zac hx dM3;unfold stV at dMx;refine sgz (az3 s c1x dMx) ?_;refine za4 (ziL (setB b m lv) v3) rfl rfl rfl rfl hX3 (by decide) ?_;intro w5 hE5 hs5 ho5;refine⟨.inr hE5.keep,?_⟩;refine sg0 ?_;have hx5:=hx.trans hE5
 have hz5:=hx5.size;refine zaR (ziL (setB b m lv) v3) (ho3.ext hx5) ho5.rows rfl rfl rfl rfl rfl rfl (by decide) vq0 vr0 (by simp;omega) (by decide) (by have:=hE02.size;have:=h.e.size;omega) ?_;intro u w6 ho6 hE6 hk6 hb6;refine⟨.inl rfl,?_⟩;have hz6:=hk6.size;have hc6:w6.heap[b]? =some (.cells #[.map (some m),lv] 135 (0,0)):=(hk6.block _ oM l4).trans (Ext.at hx5 hc3);have hg6:=(hg3.block (hx5.block _ hg3.lt (λ h=>h))).block (hk6.block _ (by have:=hg3.lt;omega) l5);refine sgz s ?_;refine za6 (P:=prog) (t:=133) (j:=1) (u:=u) (l:=[.map (some m),lv]) hc6 (by simp) ho6.rows.isOne rfl rfl ?_;intro w7 hz7 hc7 hk7;refine⟨.inl rfl,?_⟩;refine sg0 ?_;apply hK;refine go trivial ?_;have hk37:Keep (setB b m lv) v3 w7:=((hx5.mono λ _ _ h=>h.elim).trans (hk6.mono λ i _ h=> .inr (.inr h))).trans (hk7.mono λ i _ h=> .inl h);have hkv:Keep (setB b m lv) v w7:=((hE02.mono λ _ _ h=>h.elim).trans hkS).trans hk37;have hown:∀i,some i=u.ownBlock->some i=lv.ownBlock\/v3.heap.size<=i:=λ i hi=>(hb6 i hi).imp id λ h=>oM;have hbo:some b≠u.ownBlock:=λ e=>by
  rcases hown b e with e|e
  ·exact l4 e
  ·omega
 have hmo:some m≠u.ownBlock:=λ e=>by
  rcases hown m e with e|e
  ·exact l5 e
  ·have:=hg3.lt;omega
 have hz7':=hk7.size;refine zap (by simp) rfl ⟨u,?_,hkv,λ i hi=>?_⟩
 ·rw[hput];refine⟨hc7,hg6.block (hk7.block _ hg6.lt (by show¬(_=_);omega)),(ho6.keep hk7 λ i hi e=>hbo (by rw[←e];exact hi)).to λ _ _ h=>h.turn hk37 λ i hi=>?_,ykt h.e rfl (λ i hi=>(h.lt hi).1) hkv,l1,l2,l3,hbo,hmo⟩;rcases hi with hi|hi|hi
  ·exact .inl (.inl hi)
  ·exact .inl (.inr (.inl hi))
  ·exact(hown i hi).imp (λ e=> .inr (.inr e)) id
 ·rcases hi with hi|hi|hi
  ·exact .inl (.inl hi)
  ·exact .inl (.inr (.inl hi))
  ·rcases hown i hi with e|e
   ·exact .inl (.inr (.inr e))
   ·have:=hE02.size;exact .inr oM
section
variable {P : Program} {d : Option Tmp} {ty : TypeId} {ps : String} {af : Array Edge} {g : Option (Nat × Bool)} {ρ : Operand -> Value} {w : World} {K : Value -> World -> Prop}
theorem zfk{s x:Operand}{inf:TypeInfo}{z:Value}{news:List Value}(hrow:Row w (.slice a l.length l.length) l)(hsrc:Row w u news)(hne:0<news.length)
  (ht:tyU P t=some (.slice e)) (hi:P.info? e=some inf) (hz:inf.zero=some z) (hsize:inf.size=1) (hby:inf.bytes<=100) (hzs:z.cells.size=1) (hv:ρ s= .slice a l.length l.length) (hu:ρ x=u)
  (h1:∀q∈news,one q=true) (hlen:l.length+news.length<=1000000000)
  (h:∀v' w',Own w.heap.size w' e v' (l++news)->Ext w w'->K v' w'):
  opW P ⟨d,.call ⟨.builtin .append,#[s,x],#[t,t]⟩,ty,ps,af,g⟩ ρ w K:=by
 obtain⟨a',c',e1,hc,hl⟩:=hrow;rw[Value.slice.injEq]at e1;obtain⟨rfl,_,rfl⟩:=e1;cases a with
 |none=>
  have hl0:l=[]:=by
   cases l with
   |nil=>rfl
   |cons q r=>have:=hl 0 sM;simp[zad,adr]at this
  subst hl0;refine zb0 (B:=w.heap.size) (Own.nil _ _ _) hsrc ht hi hz hsize rfl hzs hv hu h1 (by simp at hlen ⊢;omega) hby (ynl _) ?_;intro v' w' ho hE _ _;exact h v' w' ho (hE w ykr (ynl _))
 |some b=>
  obtain⟨a2,c2,rfl,hc2,hl2⟩:=hsrc;cases a2 with
  |none=>have:=hl2 0 hne;simp[zad,adr]at this
  |some b2=>
   have hol:∀j v,l[j]? =some v->w.cell? (b.add j)=some v:=λ j v hj=>by
    obtain⟨hlt,rfl⟩:=yaj.1 hj;have:=hl j hlt;simpa [zad,adr] using this
   have hnw:∀j v,news[j]? =some v->w.cell? (b2.add j)=some v:=λ j v hj=>by
    obtain⟨hlt,rfl⟩:=yaj.1 hj;have:=hl2 j hlt;simpa [zad,adr] using this
   have hbm:(l.length+news.length)*inf.bytes<=1000000000*100:=ycj hlen hby;have hr:=run_append_grow (P:=P) w t ty e inf z ht hi hz b l.length l.length l (by rw[hsize];omega) hol b2 news.length c2 news (by rw[hsize];omega) hnw oM oM (growslice_fits oM oM);have hge:=grownCap_ge w (l.length+news.length) l.length e;have hcm:grownCap w (l.length+news.length) l.length e<=maxLen:=grownCap_le_maxLen w (l.length+news.length) l.length e (by simp[maxLen];omega);refine zcJ (b:= .append) (r:= .ok undef w) (λ v1 w1 hr1=>?_) ⟨_,_,by rw[hv,hu];exact hr⟩;rw[hv,hu,hr]at hr1;cases hr1;refine h _ _ ⟨by rw[yab];omega,.inr ⟨w.heap.size,_,_,by rw[yab],ynl _,ybd w.drew _,by rw[yab];exact hge,hcm,?_,?_⟩⟩ (Ext.drew_alloc w _)
   ·simp only[Array.size_append,List.size_toArray,size_zeroCells,hzs];omega
   ·simp only[Array.toList_append,yla];rw[←yla,ybt];exact List.take_left
end
def zbu(p:List Int):Nat->List MetL->List zay->List MetL
 |_,row,[]=>row
 |i,row,s::L=>zbu p (i+1) (putL row (s,p++ [(i:Int)])) L
theorem zhg(p:List Int):∀(A:List zay) (s:zay) (k:Nat) (row:List MetL),zbu p k row (A++ [s])=putL (zbu p k row A) (s,p++ [((k+A.length:Nat):Int)])
 | [],s,k,row=>rfl
 |a::A,s,k,row=>by
  simp only[yav,zbu,yah];rw[zhg p A s (k+1)]
  congr 5;omega
theorem mem_putL{row:List MetL}{x y:MetL}(h:y∈putL row x):y∈row\/y=x:=by
 unfold putL at h
 split at h
 ·exact .inl h
 ·rcases yai.1 h with h|h
  ·exact .inl h
  ·exact .inr (yae.1 h)
theorem putL_len{row:List MetL}{x:MetL}:(putL row x).length<=row.length+1:=by
 unfold putL;split<;>simp
theorem zeS{p:List Int}:∀{L:List zay} {k:Nat} {row:List MetL} {y:MetL},y∈zbu p k row L->y∈row\/(y.1∈L/\∃i:Nat,y.2=p++ [(i:Int)])
 | [],_,_,_,h=> .inl h
 |s::L,k,row,y,h=>by
  rcases zeS (L:=L) h with h| ⟨h,i,e⟩
  ·rcases mem_putL h with h|h
   ·exact .inl h
   ·exact .inr ⟨by rw[h];simp,k,by rw[h]⟩
  ·exact .inr ⟨yak _ h,i,e⟩
theorem zeT{p:List Int}:∀{L:List zay} {k:Nat} {row:List MetL},(zbu p k row L).length<=row.length+L.length
 | [],_,_=>ynl _
 |s::L,k,row=>by
  have h1:=zeT (p:=p) (L:=L) (k:=k+1) (row:=putL row (s,p++ [(k:Int)]));have h2:=putL_len (row:=row) (x:=(s,p++ [(k:Int)]));simp only[zbu,yah];omega
theorem NmG.fold{n:Nm}(h:NmG n):NmG (zag n):=by
 have hm:∀l∈zag n,∃x∈n,zaJ x=l:=λ l hl=>yaq.1 hl;refine⟨λ l hl e=>?_,λ l hl=>?_,by rw[zax];exact h.len⟩
 ·obtain⟨x,hx,rfl⟩:=hm l hl;exact h.ne x hx (ycW (by rw[←zdQ,e];rfl))
 ·obtain⟨x,hx,rfl⟩:=hm l hl;rw[zdQ];exact h.lb x hx
structure StG(s:zay):Prop where
 n:NmG s.name
 k:zl9 (keyS s)
theorem zjw{p:List Int}(hr:Row w v (p.map vi))(hlen:p.length<=1000000000):
  Fn prog 80 #[v] w (λ u w'=>Own w.heap.size w' 3 u (p.map vi)/\Ext w w'):=by
 have hr':=hr;obtain⟨a,c,rfl,hc,hl⟩:=hr;refine enx func80 ntmps80 ?_;refine go trivial ?_;refine rq ?_;intro gd K hgd hK;refine sg0 ?_;refine zh5 (by rfl) (by rfl) (by rfl) ?_;refine sg0 ?_;refine en hK ?_;cases a with
 |none=>
  have:p=[]:=by
   cases p with
   |nil=>rfl
   |cons x L=>have:=hl 0 sM;simp[zad,adr]at this
  subst this;refine go trivial ?_;refine rt0 ntmps80 ?_;exact⟨Own.nil _ _ _,Keep.refl _ _⟩
 |some a=>
  refine go trivial ?_;refine rq ?_;intro gd K hgd hK;refine sg0 ?_;refine zhA (z:=vi 0) (by rfl) (by rfl) (by rfl) (by rfl) ?_;intro w1 hE1 hs1 ho1;refine sg0 ?_;refine zb0 (B:=w.heap.size) ho1 (hr'.ext hE1) (by rfl) (by rfl) (by rfl) (by rfl) (by rfl) (by rfl) (by rfl) (by rfl) (λ q hq=>by obtain⟨x,_,rfl⟩:=yaq.1 hq;rfl) (by simp;omega) (by decide) oM ?_;intro v' w2 ho2 hE2 _ _;refine sg0 ?_;apply hK;refine go trivial ?_;refine rt0 ntmps80 ?_;exact⟨by simpa using ho2,hE2 w hE1 (ynl _)⟩
theorem zm9{v:World}{m:Nat}{row:List MetL}(h:SetI w v b m lv row){bv sv:Value}{p:List Int}{L:List zay}(hb:RowY (setB b m lv) v bv (p.map vi))(hp:p.length<=100000)
  (hs:Rows 6 (StN u) v sv L) (hsb:∀a n c,sv= .slice (some a) n c->a.block<v.heap.size/\¬setB b m lv a.block) (hu:∀s∈L,RowY (setB b m lv) v u (s.name.map vs)) (hg:∀s∈L,StG s) (hrk:∀y∈row,zl9 (keyS y.1)) (hlen:row.length+L.length<=100000000):
  Fn prog 50 #[.pointer (some ⟨b,0,.none⟩),bv,sv] v (λ _ v'=>∃lv',SetI w v' b m lv' (zbu p 0 row L)/\Keep (setB b m lv) v v'/\∀i,setB b m lv' i->setB b m lv i\/v.heap.size<=i):=by
 obtain⟨a,c,rfl,_,_⟩:=hs.open;refine enx func50 ntmps50 ?_;refine go trivial ?_;refine zaw (Q:=λ e σ' ds' x=>e= .exit 0/\ds'=[]/\∃lv',SetI w x b m lv' (zbu p 0 row L)/\Keep (setB b m lv) v x/\∀i,setB b m lv' i->setB b m lv i\/v.heap.size<=i) ?_ ?_
 ·refine zgX L.length (λ i σ x=>(σ 11=vi i/\σ 10=vi L.length/\σ 9= .slice a L.length c/\σ 0= .pointer (some ⟨b,0,.none⟩)/\σ 1=bv)/\∃lv',SetI w x b m lv' (zbu p 0 row (L.take i))/\Keep (setB b m lv) v x/\∀j,setB b m lv' j->setB b m lv j\/v.heap.size<=j) ?_ ?_ ?_
  ·exact⟨⟨vr0,vq0,vq0,vq0,vq0⟩,lv,h,Keep.refl _ _,λ j hj=> .inl hj⟩
  ·rintro i σ X hi q ⟨s,lv1,hI,hk,hS⟩;have hrows:Rows 6 (StN u) X (.slice a L.length c) L:=hs.blocks λ a' n' c' e=>hk.block _ (hsb a' n' c' e).1 (hsb a' n' c' e).2;obtain⟨cs,hcs,rfl,hone⟩:=hrows.get hi;have hmem:=yac hi;have hux:=(hu _ hmem).turn hk hS;have hbx:=hb.turn hk hS;obtain⟨gN,gK⟩:=hg _ hmem;have hml:=zeT (p:=p) (L:=L.take i) (k:=0) (row:=row);have hmt:=yde i L;have hmk:∀y∈zbu p 0 row (L.take i),zl9 (keyS y.1):=λ y hy=>by
    rcases zeS hy with hy| ⟨hy,_⟩
    ·exact hrk y hy
    ·exact(hg _ (yaO hy)).k
   have hsn:zbu p 0 row (L.take (i+1))=putL (zbu p 0 row (L.take i)) (L[i],p++ [(i:Int)]):=by
    rw[zal hi,zhg,yaQ,yn0,ydx oM]
   obtain⟨S,hSe⟩:∃S,L[i]=S:=⟨_,rfl⟩;rw[hSe]at hcs hux gN gK hsn;obtain⟨xa,rfl⟩:=yxs (zak hcs);obtain⟨xi,hxi⟩:∃xi,adr (some xa) (i*6)=some xi:=⟨_,rfl⟩;rw[hxi]at hcs;refine go (an3 s q hxi) ?_;refine rq ?_;intro gd K hgd hK;unfold stV at hcs;refine sgz (az4 s q hxi hcs) ?_;refine zaV (P:=prog) (l:=[vi S.sv,u,vi S.rw,vi S.rf,.bool S.ref,vi S.fin]) rfl (zhE (s:=S) hone) rfl rfl ?_;intro v1 hE1 hs1 hC;refine sg0 ?_;apply hK;obtain⟨c7,hc7⟩:∃c,X.heap.size=c:=⟨_,rfl⟩;rw[hc7]at hC ⊢;have hI1:=hI.ext hE1;have hu1:=hux.1.ext hE1;have g0:zad v1 (some ⟨c7,0,.none⟩)=some (vi S.sv):=zab (i:=0) hC rfl;have g1:zad v1 (some ⟨c7,1,.none⟩)=some u:=zab (i:=1) hC rfl;have g2:zad v1 (some ⟨c7,2,.none⟩)=some (vi S.rw):=zab (i:=2) hC rfl;have g3:zad v1 (some ⟨c7,3,.none⟩)=some (vi S.rf):=zab (i:=3) hC rfl;have g4:zad v1 (some ⟨c7,4,.none⟩)=some (.bool S.ref):=zab (i:=4) hC rfl;have g5:zad v1 (some ⟨c7,5,.none⟩)=some (vi S.fin):=zab (i:=5) hC rfl;have gF:=gN.fold;have gm:=gN.m;have lm:=gm.len;refine go trivial ?_;refine zaw (Q:=λ e σ' ds' v'=>e= .normal/\ds'=[]/\(σ' 7= .pointer (some ⟨c7,0,.none⟩)/\σ' 6=vi i/\σ' 11=vi i/\σ' 10=vi L.length/\σ' 9= .slice (some xa) L.length c/\σ' 0= .pointer (some ⟨b,0,.none⟩)/\σ' 1=bv)/\Ext v1 v'/\
    ∃c8,σ' 8= .pointer (some ⟨c8,0,.none⟩)/\v'.heap[c8]? =some (.cells #[vs (keyS S).name,vi (keyS S).a,vi (keyS S).b,vi (keyS S).c,vi (keyS S).d,.bool (keyS S).ref] 185 (0,0))) ?_ ?_
   ·refine zfH (λ i=>i==17) (.run [(0,true),(1,true),(4,true),(5,true),(6,true),(7,true),(8,true),(9,true),(10,true),(11,true),(12,true),(13,true),(14,true)] (.fork 4 [2,16] (λ i=>if i=2 then(.run [] (.fork 3 [3,16] (λ i=>if i=3 then(.run [(15,true),(16,false),(17,false)] .fin) else(.run [(3,false),(15,true),(17,false)] .fin)))) else(.run [(2,false),(3,false),(15,true),(17,false)] .fin)))) NoS mixed kR ?_;intro gd K x hgd hx hxe hK;have e0:=zaa hx g0;have e1:=zaa hx g1;have e2:=zaa hx g2;have e3:=zaa hx g3;have e4:=zaa hx g4;have e5:=zaa hx g5;refine sgz (az6 e0 e1 e2 e3 e4 e5) ?_;refine⟨by kernel_rfl,?_⟩;rw[show bdV prog 183 [(0,vi S.sv),(1,vi S.rw),(2,vi S.rf),(3,vi S.fin)]=some (.agg #[vi S.sv,vi S.rw,vi S.rf,vi S.fin]) from by kernel_rfl];refine sgz (az6 e0 e1 e2 e3 e4 e5) ?_;have kbd:∀t:Lab,bdV prog 185 [(0,vs t),(1,.agg #[vi S.sv,vi S.rw,vi S.rf,vi S.fin]),(2,.bool S.ref)]=some (.agg #[vs t,vi S.sv,vi S.rw,vi S.rf,vi S.fin,.bool S.ref]):=λ t=>by kernel_rfl
    have kone:∀q∈ [vs (zco (zag S.name)),vi S.sv,vi S.rw,vi S.rf,vi S.fin,.bool S.ref],one q=true:=λ q hq=>by
     simp at hq;rcases hq with rfl|rfl|rfl|rfl|rfl|rfl<;>rfl
    have hux1:=hu1.ext hx;simp only[za5,zbk];refine⟨?_,?_⟩
    ·refine sg0 ?_;refine yfm (zor x u S.name hux1 gm.LB oM) ?_;rintro fv y1 ⟨hf,hy1⟩;refine⟨.inr hy1,?_⟩;refine sg0 ?_;simp only[za5,zbk];refine⟨?_,?_⟩
     ·refine sg0 ?_;refine yfm (zf2 y1 fv _ hf gF.lb gF.len) ?_;rintro _ y2 ⟨rfl,hy2⟩;refine⟨.inr hy2,?_⟩;refine sg0 ?_;refine⟨by kernel_rfl,?_⟩;rw[kbd];refine sg0 ?_;refine⟨.inr (yea y2 _),?_⟩;refine sg0 ?_;refine zaV (P:=prog) (l:=[vs (zco (zag S.name)),vi S.sv,vi S.rw,vi S.rf,vi S.fin,.bool S.ref]) rfl kone rfl rfl ?_;intro y3 hy3 hs3 hB;refine⟨.inl rfl,?_⟩;refine sg0 ?_;apply hK;exact⟨rfl,rfl,sc s,hx.trans (hy1.trans (hy2.trans hy3)),_,vr0,hB⟩
     ·refine sg0 ?_;refine⟨.inr (yea y1 _),?_⟩;obtain⟨z,hz⟩:∃z,y1.alloc (.cells #[vs [],vi 0,vi 0,vi 0,vi 0,.bool false] 185 (0,0))=z:=⟨_,rfl⟩;have hEz:Ext y1 z:=by rw[←hz];exact yea _ _
      have hBz:=zam y1 (.cells #[vs [],vi 0,vi 0,vi 0,vi 0,.bool false] 185 (0,0));rw[hz]at hBz ⊢;refine sg0 ?_;refine yfm (zf2 z fv _ (hf.ext hEz) gF.lb gF.len) ?_;rintro _ y2 ⟨rfl,hy2⟩;refine⟨.inr hy2,?_⟩;refine sg0 ?_;refine⟨by kernel_rfl,?_⟩;rw[kbd];refine sg0 ?_;refine zaL (P:=prog) (l:=[vs (zco (zag S.name)),vi S.sv,vi S.rw,vi S.rf,vi S.fin,.bool S.ref]) (Ext.at hy2 hBz) rfl kone rfl rfl ?_;intro y3 hs3 hB hk3;refine⟨.inl rfl,?_⟩;refine sg0 ?_;apply hK;exact⟨rfl,rfl,sc s,hx.trans (hy1.trans (ykt (hEz.trans hy2) rfl (λ j hj=>oM) hk3)),_,vr0,hB⟩
    ·refine sg0 ?_;refine⟨.inr (yea x _),?_⟩;obtain⟨z,hz⟩:∃z,x.alloc (.cells #[vs [],vi 0,vi 0,vi 0,vi 0,.bool false] 185 (0,0))=z:=⟨_,rfl⟩;have hEz:Ext x z:=by rw[←hz];exact yea _ _
     have hBz:=zam x (.cells #[vs [],vi 0,vi 0,vi 0,vi 0,.bool false] 185 (0,0));rw[hz]at hBz ⊢;refine sg0 ?_;refine yfm (zor z u S.name (hux1.ext hEz) gm.LB oM) ?_;rintro fv y1 ⟨hf,hy1⟩;refine⟨.inr hy1,?_⟩;refine sg0 ?_;refine yfm (zf2 y1 fv _ hf gF.lb gF.len) ?_;rintro _ y2 ⟨rfl,hy2⟩;refine⟨.inr hy2,?_⟩;refine sg0 ?_;refine⟨by kernel_rfl,?_⟩;rw[kbd];refine sg0 ?_;refine zaL (P:=prog) (l:=[vs (zco (zag S.name)),vi S.sv,vi S.rw,vi S.rf,vi S.fin,.bool S.ref]) (Ext.at (hy1.trans hy2) hBz) rfl kone rfl rfl ?_;intro y3 hs3 hB hk3;refine⟨.inl rfl,?_⟩;refine sg0 ?_;apply hK;exact⟨rfl,rfl,sc s,hx.trans (ykt (hEz.trans (hy1.trans hy2)) rfl (λ j hj=>oM) hk3),_,vr0,hB⟩
   clear s;rintro _ σ1 _ v2 ⟨rfl,rfl,s,hE2,c8,s8,hC8⟩;have hE12:=hE1.trans hE2;have hI2:=hI1.ext hE2;have hC2:=Ext.at hE2 hC;have d7:zat v2 (some ⟨c7,0,.none⟩) 6=some [vi S.sv,u,vi S.rw,vi S.rf,.bool S.ref,vi S.fin]:=zah (l:=[vi S.sv,u,vi S.rw,vi S.rf,.bool S.ref,vi S.fin]) hC2 rfl;have d8:zat v2 (some ⟨c8,0,.none⟩) 6=some [vs (keyS S).name,vi (keyS S).a,vi (keyS S).b,vi (keyS S).c,vi (keyS S).d,.bool (keyS S).ref]:=zah (l:=[vs (keyS S).name,vi (keyS S).a,vi (keyS S).b,vi (keyS S).c,vi (keyS S).d,.bool (keyS S).ref]) hC8 rfl;have hb2:RowY (setB b m lv1) v2 bv (p.map vi):=hbx.turn (hE12.mono λ _ _ h=>h.elim) λ _ h=> .inl h;have hu2:RowY (setB b m lv1) v2 u (S.name.map vs):=hux.turn (hE12.mono λ _ _ h=>h.elim) λ _ h=> .inl h;have hSlt:∀j,setB b m lv1 j->j<v2.heap.size:=λ j hj=>(hI2.lt hj).2
   -- the picks are laid,the state is put
   have fin:∀(y:World) (kv:Value),Ext v2 y->Own v2.heap.size y 3 kv ((p++ [(i:Int)]).map vi)->Fn prog 78 #[.pointer (some ⟨b,0,.none⟩),keyV (keyS S),.agg #[vi S.sv,u,vi S.rw,vi S.rf,.bool S.ref,vi S.fin,kv]] y (λ _ v'=>∃lv',SetI w v' b m lv' (putL (zbu p 0 row (L.take i)) (S,p++ [(i:Int)]))/\Keep (setB b m lv1) y v'/\∀j,setB b m lv' j->setB b m lv1 j\/y.heap.size<=j):=λ y kv hy ho=>by
    have hxy:MetAt (setB b m lv1) y (stV u S++ [kv]) (S,p++ [(i:Int)]):=⟨u,kv,rfl,hu2.turn (hy.mono λ _ _ h=>h.elim) λ _ h=> .inl h,ho.row,λ _ a' n' c' e=>by
     obtain⟨k1,k2⟩:=ho.rowB.2 a' n' c' e;exact⟨k2,λ hj=>by have:=hSlt _ hj;omega⟩⟩
    exact put_ok (hI2.ext hy) hxy gK hmk oM
   refine go trivial ?_;refine zaw (Q:=λ e σ' ds' v'=>e= .normal/\ds'=[]/\(σ' 11=vi i/\σ' 10=vi L.length/\σ' 9= .slice (some xa) L.length c/\σ' 0= .pointer (some ⟨b,0,.none⟩)/\σ' 1=bv)/\∃y lv',Ext v2 y/\SetI w v' b m lv' (putL (zbu p 0 row (L.take i)) (S,p++ [(i:Int)]))/\Keep (setB b m lv1) y v'/\∀j,setB b m lv' j->setB b m lv1 j\/y.heap.size<=j) ?_ ?_
   ·refine zfH (λ i=>i==10) (.run [(0,true),(1,true),(2,true),(3,true),(6,true)] (.fork 5 [4,7] (λ i=>if i=4 then(.run [] (.fork 4 [5,7] (λ i=>if i=5 then(.run [(7,false),(8,false),(9,true),(10,false)] .fin) else(.run [(5,false),(8,false),(9,true),(10,false)] .fin)))) else(.run [(4,false),(5,false),(8,false),(9,true),(10,false)] .fin)))) NoS mixed kR ?_;intro gd K x hgd hx hxe hK;have d7x:=zac hx d7;have d8x:=zac hx d8;refine sgz (az4 s s8 d7x d8x) ?_;obtain⟨au,cu,hue,_⟩:=id hu2.1;have mbd:∀ak nk ck,bdV prog 142 [(0,.agg #[vi S.sv,u,vi S.rw,vi S.rf,.bool S.ref,vi S.fin]),(1,.slice ak nk ck)]=some (.agg #[vi S.sv,u,vi S.rw,vi S.rf,.bool S.ref,vi S.fin,.slice ak nk ck]):=by
     rw[hue];intro ak nk ck;kernel_rfl
    have hbx2:=hb2.1.ext hx;simp only[za5,zbk];refine⟨?_,?_⟩
    ·refine sg0 ?_;refine yfm (zjw hbx2 oM) ?_;rintro _ y1 ⟨hc,hy1⟩;obtain⟨ac,cc,rfl,hcc,hcl⟩:=id hc.row;refine⟨.inr hy1,?_⟩;refine sg0 ?_;simp only[za5,zbk];refine⟨?_,?_⟩
     ·refine sg0 ?_;refine yfm (P_ci.Clip_ok hcc) ?_;rintro _ y2 ⟨rfl,hy2⟩;replace hy2:=hy2.symm;subst hy2;refine⟨.inr ykr,?_⟩;refine sg0 ?_;refine zc3 (z:=vi 0) rfl rfl rfl rfl rfl ?_;intro y3 hy3 hs3 ho3;refine⟨.inr hy3.keep,?_⟩;replace hcl:=λ j hj=>zaa hy3 (hcl j hj);refine sg0 ?_;have hfull:Row y3 (.slice ac (p.map vi).length (p.map vi).length) (p.map vi):=⟨ac,_,rfl,ynl _,hcl⟩;refine zfk hfull ho3.row sM rfl rfl rfl rfl (by decide) rfl vq0 vr0 (λ q hq=>by rw[yae.1 hq];rfl) (by simp;omega) ?_;intro kv2 y ho hy9;refine⟨.inr hy9.keep,?_⟩;obtain⟨ak,ck,hke⟩:=ho.slice;rw[hke];refine sg0 ?_;refine⟨by kernel_rfl,?_⟩;rw[mbd,←hke];refine sg0 ?_;have hxy:=(hy1.trans hy3).trans hy9;refine yfm (fin y kv2 (hx.trans hxy) (by have:=(hx.trans (hy1.trans hy3)).size;have h2:=ho.mono this;rwa [←ydi (f:=vi),←yaC]at h2)) ?_;rintro _ v9 ⟨lv9,hI9,hk9,hS9⟩;refine⟨.inl rfl,?_⟩;refine sg0 ?_;apply hK;exact⟨rfl,rfl,sc s,y,lv9,hx.trans hxy,hI9,hk9,hS9⟩
     ·refine sg0 ?_;refine zc3 (z:=vi 0) rfl rfl rfl rfl rfl ?_;intro y3 hy3 hs3 ho3;refine⟨.inr hy3.keep,?_⟩;replace hcl:=λ j hj=>zaa hy3 (hcl j hj);refine sg0 ?_;refine yfm (P_ci.Clip_ok hcc) ?_;rintro _ y2 ⟨rfl,hy2⟩;replace hy2:=hy2.symm;subst hy2;refine⟨.inr ykr,?_⟩;refine sg0 ?_;have hfull:Row y3 (.slice ac (p.map vi).length (p.map vi).length) (p.map vi):=⟨ac,_,rfl,ynl _,hcl⟩;refine zfk hfull ho3.row sM rfl rfl rfl rfl (by decide) rfl vq0 vr0 (λ q hq=>by rw[yae.1 hq];rfl) (by simp;omega) ?_;intro kv2 y ho hy9;refine⟨.inr hy9.keep,?_⟩;obtain⟨ak,ck,hke⟩:=ho.slice;rw[hke];refine sg0 ?_;refine⟨by kernel_rfl,?_⟩;rw[mbd,←hke];refine sg0 ?_;have hxy:=(hy1.trans hy3).trans hy9;refine yfm (fin y kv2 (hx.trans hxy) (by have:=(hx.trans (hy1.trans hy3)).size;have h2:=ho.mono this;rwa [←ydi (f:=vi),←yaC]at h2)) ?_;rintro _ v9 ⟨lv9,hI9,hk9,hS9⟩;refine⟨.inl rfl,?_⟩;refine sg0 ?_;apply hK;exact⟨rfl,rfl,sc s,y,lv9,hx.trans hxy,hI9,hk9,hS9⟩
    ·refine sg0 ?_;refine zc3 (z:=vi 0) rfl rfl rfl rfl rfl ?_;intro y3 hy3 hs3 ho3;refine⟨.inr hy3.keep,?_⟩;refine sg0 ?_;refine yfm (zjw (hbx2.ext hy3) oM) ?_;rintro _ y1 ⟨hc,hy1⟩;obtain⟨ac,cc,rfl,hcc,hcl⟩:=id hc.row;refine⟨.inr hy1,?_⟩;refine sg0 ?_;refine yfm (P_ci.Clip_ok hcc) ?_;rintro _ y2 ⟨rfl,hy2⟩;replace hy2:=hy2.symm;subst hy2;refine⟨.inr ykr,?_⟩;replace ho3:=ho3.ext hy1;refine sg0 ?_;have hfull:Row y1 (.slice ac (p.map vi).length (p.map vi).length) (p.map vi):=⟨ac,_,rfl,ynl _,hcl⟩;refine zfk hfull ho3.row sM rfl rfl rfl rfl (by decide) rfl vq0 vr0 (λ q hq=>by rw[yae.1 hq];rfl) (by simp;omega) ?_;intro kv2 y ho hy9;refine⟨.inr hy9.keep,?_⟩;obtain⟨ak,ck,hke⟩:=ho.slice;rw[hke];refine sg0 ?_;refine⟨by kernel_rfl,?_⟩;rw[mbd,←hke];refine sg0 ?_;have hxy:=(hy3.trans hy1).trans hy9;refine yfm (fin y kv2 (hx.trans hxy) (by have:=(hx.trans (hy3.trans hy1)).size;have h2:=ho.mono this;rwa [←ydi (f:=vi),←yaC]at h2)) ?_;rintro _ v9 ⟨lv9,hI9,hk9,hS9⟩;refine⟨.inl rfl,?_⟩;refine sg0 ?_;apply hK;exact⟨rfl,rfl,sc s,y,lv9,hx.trans hxy,hI9,hk9,hS9⟩
   clear s s8;rintro _ σ2 _ v3 ⟨rfl,rfl,s,y,lv9,hy,hI9,hk9,hS9⟩;refine go (an2 s q) ?_;have hz:=hy.size;have hkx:=hk.size;have hz1:=hE12.size;have hSv:∀j,setB b m lv1 j->setB b m lv j\/v.heap.size<=j:=hS;refine⟨rfl,sc (an2 s q),lv9,by rw[hsn];exact hI9,?_,λ j hj=>?_⟩
   ·have hky:Keep (setB b m lv1) X v3:=((hE12.trans hy).mono λ _ _ h=>h.elim).trans hk9;refine⟨hky.os.trans hk.os,hky.tape.trans hk.tape,hky.output.trans hk.output,yaD hk.size hky.size,λ j hj hn=>?_,yaD hk.drawn hky.drawn⟩;exact(hky.block j oM (λ hc=>(hSv j hc).elim hn oM)).trans (hk.block j hj hn)
   ·rcases hS9 j hj with h|h
    ·exact hSv j h
    ·exact .inr oM
  ·rintro σ x q ⟨s,lv1,hI,hk,hS⟩;rw[yaT]at hI;refine go (an2 s q) ?_;exact⟨rfl,rfl,lv1,hI,hk,hS⟩
 rintro _ σ _ x ⟨rfl,rfl,lv1,hI,hk,hS⟩;refine go trivial ?_;exact zap sM rfl ⟨lv1,hI,hk,hS⟩
theorem zeW{α:Type}{xs ys:List α}(h1:i<xs.length)(h2:i<ys.length)(ht:xs.take i=ys.take i)(he:xs[i]=ys[i]):xs.take (i+1)=ys.take (i+1):=by
 rw[zal h1,zal h2,ht,he]
theorem zoo(w:World){a b:Value}{xs ys:List Lab}(ha:Row w a (xs.map vs))(hb:Row w b (ys.map vs))(hl:xs.length<=1000000000000000):
  Fn prog 66 #[a,b] w (λ v w'=>Ext w w'/\∃t,v= .bool t/\(t=true->xs=ys)):=by
 obtain⟨a1,c1,rfl,_,h1⟩:=ha;obtain⟨a2,c2,rfl,_,h2⟩:=hb;simp only[ylm,yaA]at h1 h2 ⊢;refine enx func66 ntmps66 ?_;repeat refine c_r ?_
 refine rg0 ?_;repeat refine c_r ?_
 by_cases hn:(xs.length:Int)=(ys.length:Int)
 rotate_left
 ·refine rg1 (yef hn) ?_;repeat refine c_r ?_
  refine wt yaS ?_;repeat (first|refine c_r ?_|refine rg0 ?_)
  refine rt0 ntmps66 ?_;exact⟨Keep.refl _ _,_,rfl,λ h=>by cases h⟩
 refine rg1 (yet hn) ?_;repeat refine c_r ?_
 refine wf yaN ?_;have hn':xs.length=ys.length:=oM;repeat refine c_r ?_
 refine rg0 ?_;repeat refine c_r ?_
 refine zan (λ m σ ds A=>ds=[]/\∃(i:Nat),i+m=xs.length/\σ 5=vi i/\σ 0= .slice a1 xs.length c1/\σ 1= .slice a2 ys.length c2/\Ext w A/\xs.take i=ys.take i) xs.length ?_ ?_
 ·exact⟨rfl,0,oM,vr0,vq0,vq0,Keep.refl _ _,rfl⟩
 rintro m σ ds A ⟨rfl,i,him,s5,s0,s1,hEA,ht⟩;repeat refine c_r ?_
 refine rg2 s5 s0 ?_;repeat refine c_r ?_
 refine wc0 ?_ ?_
 ·intro hlt;simp only[ydT]at hlt;have hi:i<xs.length:=oM;have hi2:i<ys.length:=oM;have hi0:=cj i;have hi1:(i:Int)<(ys.length:Int):=oM;have hi1':=ci i;have g1:=h1 i hi;have g2:=h2 i hi2;obtain⟨x1,rfl⟩:=yxs (zaf g1);obtain⟨x2,rfl⟩:=yxs (zaf g2);repeat refine c_r ?_
  refine zaF (λ _=>false) [(0,true),(1,true),(2,true),(3,true),(4,true),(5,true),(6,true),(7,true),(8,true)] NoS mixed kR ?_;intro gd K x hgd hx hxe hK;clear hxe;have g1x:=zaa (hEA.trans hx) g1;have g2x:=zaa (hEA.trans hx) g2;simp (disch:=first|omega|assumption|rfl) only[go_sem,s5,s0,s1,hi0,hlt,hi1,g1x,g2x,ybt];refine hK _ _ ?_;clear hK hgd;clear K;try clear gd
  by_cases he:xs[i]=ys[i]
  ·repeat refine c_r ?_
   refine wf (an2 (yet he) yaN) ?_;repeat refine c_r ?_
   refine rg2 s5 hi1' ?_;repeat refine c_r ?_
   exact⟨m - 1,oM,rfl,i+1,oM,vq0,vq1 s0,vq1 s1,hEA.trans hx,zeW hi hi2 ht he⟩
  ·repeat refine c_r ?_
   refine wt (an2 (yef he) yaS) ?_;repeat (first|refine c_r ?_|refine rg0 ?_)
   refine rt0 ntmps66 ?_;exact⟨hEA.trans hx,_,rfl,λ h=>by cases h⟩
 ·intro hge;simp only[ydF]at hge;repeat (first|refine c_r ?_|refine rg0 ?_)
  refine rt0 ntmps66 ?_;refine⟨hEA,_,rfl,λ _=>?_⟩
  rwa [yaf oM,yaf oM]at ht
structure DatN(d:DatL):Prop where
 nn:d.names.length<=1000000000000000
 ns:∀n∈d.names,n.length<=1000000000000000
 nu:d.nums.length<=1000000000000000
 nt:d.texts.length<=1000000000000000
theorem DatOk.n{d:DatL}(h:DatOk d):DatN d:=⟨h.nn,λ n hn=>(h.names n hn).2,h.nu,h.nt⟩
theorem Is4_ok(w:World){ca cb:List Value}{a b:DatL}(ha:DatAt w ca a)(hb:DatAt w cb b)(ka:DatN a):
  Fn prog 67 #[.agg ca.toArray,.agg cb.toArray] w (λ v w'=>Ext w w'/\∃t,v= .bool t/\(t=true->a=b)):=by
 obtain⟨nm,nu,tx,rw1,rfl,hnm,hnu,htx,hrw⟩:=ha.ex;obtain⟨mm,mu,ux,rw2,rfl,hmm,hmu,hux,hrx⟩:=hb.ex;obtain⟨V1,⟨a1,c1,rfl,_,ga⟩,lV1,hV1⟩:=hnm;obtain⟨V2,⟨a2,c2,rfl,_,gb⟩,lV2,hV2⟩:=hmm;obtain⟨a3,c3,rfl,_,gc⟩:=hnu;obtain⟨a4,c4,rfl,_,gd4⟩:=hmu;obtain⟨a5,c5,htxe,_⟩:=id htx;obtain⟨a6,c6,huxe,_⟩:=id hux;obtain⟨a7,c7,rfl,_,gr⟩:=hrw;obtain⟨a8,c8,rfl,_,gs⟩:=hrx;simp only[ylm,yaA]at gc gd4 gr gs htxe huxe ⊢;refine enx func67 ntmps67 ?_;repeat refine c_r ?_
 rw[htxe,huxe];refine gz0 ?_;rw[zai];refine zaQ ?_;intro w1 hE1 hs1 hA hB;have p0:zad w1 (some ⟨w.heap.size,0,.none⟩)=some (vi a.ty):=zab hA rfl;have p1:zad w1 (some ⟨w.heap.size,1,.none⟩)=some (.slice a1 V1.length c1):=zab hA rfl;have p2:zad w1 (some ⟨w.heap.size,2,.none⟩)=some (.slice a3 a.nums.length c3):=zab hA rfl;have p3:zad w1 (some ⟨w.heap.size,3,.none⟩)=some (.slice a5 a.texts.length c5):=zab hA rfl;have p4:zad w1 (some ⟨w.heap.size,4,.none⟩)=some (.slice a7 a.raw.length c7):=zab hA rfl;have q0:zad w1 (some ⟨w.heap.size+1,0,.none⟩)=some (vi b.ty):=zab hB rfl;have q1:zad w1 (some ⟨w.heap.size+1,1,.none⟩)=some (.slice a2 V2.length c2):=zab hB rfl;have q2:zad w1 (some ⟨w.heap.size+1,2,.none⟩)=some (.slice a4 b.nums.length c4):=zab hB rfl;have q3:zad w1 (some ⟨w.heap.size+1,3,.none⟩)=some (.slice a6 b.texts.length c6):=zab hB rfl;have q4:zad w1 (some ⟨w.heap.size+1,4,.none⟩)=some (.slice a8 b.raw.length c8):=zab hB rfl;repeat refine c_r ?_
 refine zaw (Q:=λ e σ' ds' v'=>e= .normal/\ds'=[]/\v'=w1/\σ' 2= .pointer (some ⟨w.heap.size,0,.none⟩)/\σ' 3= .pointer (some ⟨w.heap.size+1,0,.none⟩)/\∃t,σ' 47= .bool t/\(t=false->a.ty=b.ty/\V1.length=V2.length/\a.nums.length=b.nums.length/\a.texts.length=b.texts.length/\a.raw=b.raw)) ?_ ?_
 ·by_cases e0:a.ty=b.ty
  rotate_left
  ·refine rgg [(5,12),(14,21),(23,30),(32,39)] (an5 p0 q0 yad (yef e0) yaS) ?_;exact⟨rfl,rfl,rfl,vq0,vq0,_,vr0,λ h=>by cases h⟩
  by_cases e1:(V1.length:Int)=(V2.length:Int)
  rotate_left
  ·refine rgg [(5,12),(14,21),(23,30),(32,39)] (an9 p0 q0 yad (yet e0) yaN p1 q1 yn0 (yef e1)) ?_;exact⟨rfl,rfl,rfl,vq0,vq0,_,vr0,λ h=>by cases h⟩
  by_cases e2:(a.nums.length:Int)=(b.nums.length:Int)
  rotate_left
  ·refine rgg [(5,12),(14,21),(23,30),(32,39)] (an4 (an9 p0 q0 yad (yet e0) yaN p1 q1 yn0 (yet e1)) p2 q2 (yef e2)) ?_;exact⟨rfl,rfl,rfl,vq0,vq0,_,vr0,λ h=>by cases h⟩
  by_cases e3:(a.texts.length:Int)=(b.texts.length:Int)
  rotate_left
  ·refine rgg [(5,12),(14,21),(23,30),(32,39)] (an7 (an9 p0 q0 yad (yet e0) yaN p1 q1 yn0 (yet e1)) p2 q2 (yet e2) p3 q3 (yef e3)) ?_;exact⟨rfl,rfl,rfl,vq0,vq0,_,vr0,λ h=>by cases h⟩
  refine rq ?_;intro gd K hgd hK;have hg5:=gk 5 12 hgd rfl;have hg14:=gk 14 21 hgd rfl;have hg23:=gk 23 30 hgd rfl;have hg32:=gk 32 39 hgd rfl;try simp (disch:=first|omega|assumption|rfl) only[go_sem,p0,q0,yad,yet e0,yaN,p1,q1,yn0,yet e1,p2,q2,yet e2,p3,q3,yet e3,p4,↓hg5,↓hg14,↓hg23,↓hg32]
  refine zcv (l:=a.raw) rfl rfl rfl vq0 (λ j hj=>zaa hE1 (gr j hj)) ?_;try simp (disch:=first|omega|assumption|rfl) only[go_sem,q4,yn0,↓hg5,↓hg14,↓hg23,↓hg32]
  refine zcv (l:=b.raw) rfl rfl rfl vq0 (λ j hj=>zaa hE1 (gs j hj)) ?_;try simp (disch:=first|omega|assumption|rfl) only[go_sem,↓hg5,↓hg14,↓hg23,↓hg32]
  apply hK;exact⟨rfl,rfl,rfl,vq0,vq0,_,vr0,λ h=>⟨e0,oM,oM,oM,by simpa using h⟩⟩
 rintro _ σ1 _ w2 ⟨rfl,rfl,rfl,s2,s3,t,s47,ht⟩;repeat refine c_r ?_
 cases t with
 |true=>
  refine wt s47 ?_;refine gz0 ?_;refine rt0 ntmps67 ?_;exact⟨hE1,_,rfl,λ h=>by cases h⟩
 |false=>
 refine wf s47 ?_;obtain⟨e0,e1,e2,e3,e4⟩:=ht rfl;clear s47 ht;have kn:=ka.nn;have ku:=ka.nu;have kt:=ka.nt;refine gz0 ?_;refine zan (λ m σ ds A=>ds=[]/\∃(i:Nat),i+m=V1.length/\σ 5=vi i/\σ 2= .pointer (some ⟨w.heap.size,0,.none⟩)/\σ 3= .pointer (some ⟨w.heap.size+1,0,.none⟩)/\Ext w2 A/\a.names.take i=b.names.take i) V1.length ?_ ?_
 ·exact⟨rfl,0,oM,vr0,vq1 s2,vq1 s3,Keep.refl _ _,rfl⟩
 clear s2 s3;rintro m σ ds A ⟨rfl,i,him,s5,s2,s3,hEA,ht⟩;have p1A:=zaa hEA p1;have q1A:=zaa hEA q1;refine gz (az4 s5 s2 p1A yn0) ?_;refine wc0 ?_ ?_
 ·intro hlt;simp only[ydT]at hlt;have hi:i<V1.length:=oM;have hi2:i<V2.length:=oM;have hi0:=cj i;have hi1:(i:Int)<(V2.length:Int):=oM;have hi1':=ci i;have g1:=ga i hi;have g2:=gb i hi2;have r1:=hV1 i hi oM;have r2:=hV2 i hi2 oM;have kl:=ka.ns _ (yac (show i<a.names.length by omega));obtain⟨x1,rfl⟩:=yxs (zaf g1);obtain⟨x2,rfl⟩:=yxs (zaf g2);repeat refine c_r ?_
  refine zaF (λ _=>false) [(0,true),(1,true),(2,true),(3,true),(4,true),(5,true),(6,true),(7,true),(8,true),(9,true),(10,false),(11,true)] NoS mixed kR ?_;intro gd K x hgd hx hxe hK;clear hxe;have g1x:=zaa (hE1.trans (hEA.trans hx)) g1;have g2x:=zaa (hE1.trans (hEA.trans hx)) g2;have p1x:=zaa hx p1A;have q1x:=zaa hx q1A;refine sgz (az2 (az7 s5 s2 s3 hi0 hlt hi1 g1x) (az5 g2x p1x q1x ybt yn0)) ?_;refine yfm (zoo x (r1.ext (hE1.trans (hEA.trans hx))) (r2.ext (hE1.trans (hEA.trans hx))) kl) ?_;rintro _ y ⟨hy,t,rfl,ht2⟩;refine⟨.inr hy,?_⟩;refine sg0 ?_;apply hK;cases t with
  |true=>
   repeat refine c_r ?_
   refine wf yaN ?_;refine gz (az2 s5 hi1') ?_;exact⟨m - 1,oM,rfl,i+1,oM,vq0,vq1 s2,vq1 s3,(hEA.trans hx).trans hy,zeW _ _ ht (ht2 rfl)⟩
  |false=>
   repeat refine c_r ?_
   refine wt yaS ?_;refine gz0 ?_;refine rt0 ntmps67 ?_;exact⟨hE1.trans ((hEA.trans hx).trans hy),_,rfl,λ h=>by cases h⟩
 intro hge;simp only[ydF]at hge;have hnames:a.names=b.names:=by rwa [yaf oM,yaf oM]at ht
 clear him hge s5 ht p1A q1A;refine gz0 ?_;refine zan (λ m σ ds B=>ds=[]/\∃(i:Nat),i+m=a.nums.length/\σ 6=vi i/\σ 2= .pointer (some ⟨w.heap.size,0,.none⟩)/\σ 3= .pointer (some ⟨w.heap.size+1,0,.none⟩)/\Ext w2 B/\a.nums.take i=b.nums.take i) a.nums.length ?_ ?_
 ·exact⟨rfl,0,oM,vr0,vq1 s2,vq1 s3,hEA,rfl⟩
 clear s2 s3 hEA;rintro m2 σ3 ds3 B ⟨rfl,i,him,s6,s2,s3,hEB,ht⟩;have p2B:=zaa hEB p2;have q2B:=zaa hEB q2;refine gz (az4 s6 s2 p2B yn0) ?_;refine wc0 ?_ ?_
 ·intro hlt;simp only[ydT]at hlt;have hi:i<a.nums.length:=oM;have hi2:i<b.nums.length:=oM;have hi0:=cj i;have hi1:(i:Int)<(b.nums.length:Int):=oM;have hi1':=ci i;have g1:=gc i hi;have g2:=gd4 i hi2;obtain⟨x1,rfl⟩:=yxs (zaf g1);obtain⟨x2,rfl⟩:=yxs (zaf g2);repeat refine c_r ?_
  refine zaF (λ _=>false) [(0,true),(1,true),(2,true),(3,true),(4,true),(5,true),(6,true),(7,true),(8,true),(9,true),(10,true)] NoS mixed kR ?_;intro gd K x hgd hx hxe hK;clear hxe;have g1x:=zaa (hE1.trans (hEB.trans hx)) g1;have g2x:=zaa (hE1.trans (hEB.trans hx)) g2;have p2x:=zaa hx p2B;have q2x:=zaa hx q2B;refine sgz (az2 (az7 s6 s2 s3 hi0 hlt hi1 g1x) (az5 g2x p2x q2x ybt yn0)) ?_;apply hK;by_cases he:a.nums[i]=b.nums[i]
  ·repeat refine c_r ?_
   refine wf (an2 (yet he) yaN) ?_;refine gz (az2 s6 hi1') ?_;exact⟨m2 - 1,oM,rfl,i+1,oM,vq0,vq1 s2,vq1 s3,hEB.trans hx,zeW hi hi2 ht he⟩
  ·repeat refine c_r ?_
   refine wt (an2 (yef he) yaS) ?_;refine gz0 ?_;refine rt0 ntmps67 ?_;exact⟨hE1.trans (hEB.trans hx),_,rfl,λ h=>by cases h⟩
 intro hge;simp only[ydF]at hge;have hnums:a.nums=b.nums:=by rwa [yaf oM,yaf oM]at ht
 have p3B:=zaa hEB p3;have q3B:=zaa hEB q3;rw[←htxe]at p3B;rw[←huxe]at q3B;repeat refine c_r ?_
 refine rc (an5 s2 s3 p3B q3B yn0) (zoo B (htx.ext (hE1.trans hEB)) (hux.ext (hE1.trans hEB)) kt) ?_;rintro _ y ⟨hy,t,rfl,ht2⟩;refine re trivial ?_;repeat refine c_r ?_
 refine rt0 ntmps67 ?_;refine⟨hE1.trans (hEB.trans hy),_,rfl,λ h=>?_⟩;obtain⟨t1,n1,u1,x1,r1⟩:=a;obtain⟨t2,n2,u2,x2,r2⟩:=b
 dsimp only at e0 hnames hnums ht2 e4
 rw[e0,hnames,hnums,ht2 h,e4]
theorem Is5_ok(w:World){av bv:Value}{xs ys:List RecL}(ha:Rows 7 (RecAt w) w av xs)(hb:Rows 7 (RecAt w) w bv ys)(ko:∀r∈xs,r.owner.length<=1000000000000000/\DatN r.dat)(hl:xs.length<=1000000000):
  Fn prog 37 #[av,bv] w (λ v w'=>Ext w w'/\∃t,v= .bool t/\(t=true->xs=ys)):=by
 obtain⟨a1,c1,rfl,_,h1⟩:=ha.open;obtain⟨a2,c2,rfl,_,h2⟩:=hb.open;refine enx func37 ntmps37 ?_;repeat refine c_r ?_
 refine rg0 ?_;repeat refine c_r ?_
 by_cases hn:(xs.length:Int)=(ys.length:Int)
 rotate_left
 ·refine rg1 (yef hn) ?_;repeat refine c_r ?_
  refine wt yaS ?_;repeat (first|refine c_r ?_|refine rg0 ?_)
  refine rt0 ntmps37 ?_;exact⟨Keep.refl _ _,_,rfl,λ h=>by cases h⟩
 refine rg1 (yet hn) ?_;repeat refine c_r ?_
 refine wf yaN ?_;repeat refine c_r ?_
 refine rg0 ?_;repeat refine c_r ?_
 refine zan (λ m σ ds A=>ds=[]/\∃(i:Nat),i+m=xs.length/\σ 5=vi i/\σ 0= .slice a1 xs.length c1/\σ 1= .slice a2 ys.length c2/\Ext w A/\xs.take i=ys.take i) xs.length ?_ ?_
 ·exact⟨rfl,0,oM,vr0,vq0,vq0,Keep.refl _ _,rfl⟩
 rintro m σ ds A ⟨rfl,i,him,s5,s0,s1,hEA,ht⟩;repeat refine c_r ?_
 refine rg2 s5 s0 ?_;repeat refine c_r ?_
 refine wc0 ?_ ?_
 ·intro hlt;simp only[ydT]at hlt;have hi:i<xs.length:=oM;have hi2:i<ys.length:=oM;have hi0:=cj i;have hi1:(i:Int)<(ys.length:Int):=oM;have hi1':=ci i;obtain⟨ca,hca,hRa⟩:=h1 i hi;obtain⟨cb,hcb,hRb⟩:=h2 i hi2;obtain⟨ko1,ko2⟩:=ko _ (yac hi);obtain⟨ra,hra⟩:∃r,xs[i]=r:=⟨_,rfl⟩;obtain⟨rb,hrb⟩:∃r,ys[i]=r:=⟨_,rfl⟩;rw[hra]at hRa ko1 ko2;rw[hrb]at hRb;obtain⟨oa,da,rfl,o1,e1⟩:=hRa.ex;obtain⟨ob,db,rfl,o2,e2⟩:=hRb.ex;have e1':=e1;have e2':=e2;obtain⟨na1,na2,na3,na4,rfl,_⟩:=e1.ex;obtain⟨nb1,nb2,nb3,nb4,rfl,_⟩:=e2.ex;obtain⟨x1,rfl⟩:=yxs (zak hca);obtain⟨x2,rfl⟩:=yxs (zak hcb);obtain⟨y1,hy1⟩:∃y,adr (some x1) (i*7)=some y:=⟨_,rfl⟩;obtain⟨y2,hy2⟩:∃y,adr (some x2) (i*7)=some y:=⟨_,rfl⟩;rw[hy1]at hca;rw[hy2]at hcb;obtain⟨u1,hu1⟩:∃y,adr (some y1) 1=some y:=⟨_,rfl⟩;obtain⟨u2,hu2⟩:∃y,adr (some y2) 1=some y:=⟨_,rfl⟩;obtain⟨z1,hz1⟩:∃y,adr (some y1) 2=some y:=⟨_,rfl⟩;obtain⟨z2,hz2⟩:∃y,adr (some y2) 2=some y:=⟨_,rfl⟩;repeat refine c_r ?_
  refine zaF (λ _=>false) [(0,true),(1,true),(2,true),(3,true),(4,true),(5,true),(6,true),(7,true),(8,true),(9,true),(10,false),(11,true),(12,true),(13,true),(14,true),(15,true),(16,true),(17,true),(18,true),(19,true),(20,true),(21,true),(22,true),(23,true),(24,true),(25,true),(26,true),(27,true),(28,true),(29,true),(30,true),(31,true),(32,true),(33,true),(34,true),(35,true),(36,false),(37,true),(38,true)] NoS mixed kR ?_;intro gd K x hgd hx hxe hK;clear hxe;have hg12:=gk 12 29 hgd rfl;have hg25:=gk 25 42 hgd rfl;have hW:=hEA.trans hx;have f0:zad x (adr (some y1) 0)=some oa:=zaq (zac hW hca) rfl;have f1:zad x (adr (some y1) 1)=some (v32 ra.ttl):=zaq (zac hW hca) rfl;have f2:zat x (adr (some y1) 2) 5=some [vi ra.dat.ty,na1,na2,na3,na4]:=zaZ (m:=2) (k:=5) (zac hW hca);have g0:zad x (adr (some y2) 0)=some ob:=zaq (zac hW hcb) rfl;have g1:zad x (adr (some y2) 1)=some (v32 rb.ttl):=zaq (zac hW hcb) rfl;have g2:zat x (adr (some y2) 2) 5=some [vi rb.dat.ty,nb1,nb2,nb3,nb4]:=zaZ (m:=2) (k:=5) (zac hW hcb);rw[zar]at f0 g0;rw[hu1]at f1;rw[hu2]at g1;rw[hz1]at f2;rw[hz2]at g2;simp (disch:=first|omega|assumption|rfl) only[go_sem,s5,s0,s1,hi0,hlt,hi1,hy1,hy2,hu1,hu2,hz1,hz2,zar,f0,f1,f2,g0,g1,g2];refine yfm (zoo x (o1.ext hW) (o2.ext hW) ko1) ?_;rintro _ y ⟨hy,t,rfl,ht2⟩;refine⟨.inr hy,?_⟩;cases t with
  |false=>
   simp (disch:=first|omega|assumption|rfl) only[go_sem,yaS,zcR,↓hg12,↓hg25];refine hK _ _ ?_;clear hK hgd;clear K;try clear gd
   repeat refine c_r ?_
   refine wt trivial ?_;repeat (first|refine c_r ?_|refine rg0 ?_)
   refine rt0 ntmps37 ?_;exact⟨hW.trans hy,_,rfl,λ h=>by cases h⟩
  |true=>
  have f1y:=zaa hy f1;have f2y:=zac hy f2;have g1y:=zaa hy g1;have g2y:=zac hy g2;by_cases htt:ra.ttl=rb.ttl
  rotate_left
  ·simp (disch:=first|omega|assumption|rfl) only[go_sem,yaN,zcR,s5,s0,s1,hi0,hlt,hi1,hy1,hy2,hu1,hu2,f1y,g1y,yef htt,yaS,↓hg12,↓hg25];refine hK _ _ ?_;clear hK hgd;clear K;try clear gd
   repeat refine c_r ?_
   refine wt trivial ?_;repeat (first|refine c_r ?_|refine rg0 ?_)
   refine rt0 ntmps37 ?_;exact⟨hW.trans hy,_,rfl,λ h=>by cases h⟩
  simp (disch:=first|omega|assumption|rfl) only[go_sem,yaN,zcR,s5,s0,s1,hi0,hlt,hi1,hy1,hy2,hu1,hu2,f1y,g1y,yet htt,hz1,hz2,f2y,g2y,↓hg12,↓hg25];refine yfm (Is4_ok y (e1'.ext (hW.trans hy)) (e2'.ext (hW.trans hy)) ko2) ?_;rintro _ z ⟨hz,t,rfl,ht4⟩;refine⟨.inr hz,?_⟩;simp (disch:=first|omega|assumption|rfl) only[go_sem,zcR,↓hg12,↓hg25];refine hK _ _ ?_;clear hK hgd;clear K;try clear gd
  have hWz:=(hW.trans hy).trans hz;cases t with
  |false=>
   repeat refine c_r ?_
   refine wt yaS ?_;repeat (first|refine c_r ?_|refine rg0 ?_)
   refine rt0 ntmps37 ?_;exact⟨hWz,_,rfl,λ h=>by cases h⟩
  |true=>
   have hrr:xs[i]=ys[i]:=by
    rw[hra,hrb];obtain⟨r1,r2,r3⟩:=ra;obtain⟨r4,r5,r6⟩:=rb
    dsimp only at ht2 htt ht4
    rw[ht2 rfl,htt,ht4 rfl]
   repeat refine c_r ?_
   refine wf yaN ?_;repeat refine c_r ?_
   refine rg2 s5 hi1' ?_;repeat refine c_r ?_
   exact⟨m - 1,oM,rfl,i+1,oM,vq0,vq1 s0,vq1 s1,hWz,zeW hi hi2 ht hrr⟩
 ·intro hge;simp only[ydF]at hge;repeat (first|refine c_r ?_|refine rg0 ?_)
  refine rt0 ntmps37 ?_;refine⟨hEA,_,rfl,λ _=>?_⟩
  rwa [yaf oM,yaf oM]at ht
def zdO(to:Nm):List (Nm×List DatL)->List DatL
 | []=>[]
 |g::l=>if zag g.1=zag to then g.2 else zdO to l
theorem ziT{to:Nm}:∀{l:List (Nm×List DatL)},zdO to l=[]\/∃g∈l,zdO to l=g.2
 | []=> .inl rfl
 |g::l=>by
  unfold zdO
  split
  ·exact .inr ⟨g,yal ..,rfl⟩
  ·rcases ziT (to:=to) (l:=l) with h| ⟨x,hx,h⟩
   ·exact .inl h
   ·exact .inr ⟨x,yak _ hx,h⟩
theorem Hints_ok(hE0:Ext w0 w){r:ResL}{hv:Value}{to:Nm}(hr:ResAt w0 w cs r)(kr:zoa r)(hh:Row w hv (to.map vs))(mh:NmS to):
  Fn prog 168 #[.agg cs.toArray,hv] w (λ v w'=>Ext w w'/\Rows 5 (DatAt w0) w' v (zdO to r.glue)):=by
 obtain⟨dv,nv,gv,rfl,h1,h2,h3⟩:=hr.ex;obtain⟨a1,c1,hdv,_⟩:=h1.open;obtain⟨a2,c2,hnv,_⟩:=id h2;obtain⟨ag,cg,rfl,hcg,hgg⟩:=h3.open;have gl:=kr.gl;have ml:=mh.len;refine enx func168 ntmps168 ?_;refine cZ ?_;rw[hdv,hnv];refine rg0 ?_;rw[←hdv,←hnv];refine cZ ?_;refine zav ?_;intro w1 hE1 hs1 hA;have p4:zad w1 (some ⟨w.heap.size,4,.none⟩)=some (.slice ag r.glue.length cg):=zab hA rfl;refine gz (az2 p4 yn0) ?_;refine zan (λ m σ ds A=>ds=[]/\∃(i:Nat),i+m=r.glue.length/\σ 10=vi i/\σ 9=vi r.glue.length/\σ 8= .slice ag r.glue.length cg/\σ 1=hv/\zdO to r.glue=zdO to (r.glue.drop i)/\Ext w A) r.glue.length ?_ ?_
 ·exact⟨rfl,0,oM,vr0,vq0,vq0,vq0,rfl,hE1⟩
 rintro m σ ds A ⟨rfl,i,him,s10,s9,s8,s1,hgo,hEA⟩;refine gz (az2 s10 s9) ?_;refine wc0 ?_ ?_
 ·intro hlt;simp only[ydT]at hlt;have hi:i<r.glue.length:=oM;have hi0:=cj i;have hi1':=ci i;obtain⟨cs,hcs,hG⟩:=hgg i hi;obtain⟨g,hge⟩:∃g,r.glue[i]=g:=⟨_,rfl⟩;rw[hge]at hG;obtain⟨gh,gdv,rfl,g1,g2⟩:=hG;have kg:=kr.g g (hge▸yac hi);have kgl:=kg.1.len;obtain⟨xz,rfl⟩:=yxs (zak hcs);obtain⟨xi,hxi⟩:∃xi,adr (some xz) (i*2)=some xi:=⟨_,rfl⟩;rw[hxi]at hcs;have d:=zac hEA hcs;rw[yag hi,hge,show zdO to (g::r.glue.drop (i+1))=if zag g.1=zag to then g.2 else zdO to (r.glue.drop (i+1)) from rfl]at hgo;refine rqz ?_;intro gd K hgd hK;refine sgz (az6 s10 s8 hi0 hlt hxi d) ?_;refine zaV (P:=prog) (l:=[gh,gdv]) rfl (za7 g1.isOne g2.isOne) rfl rfl ?_;intro A1 hE6 hs6 hB6;refine sg0 ?_;apply hK;have q0:zad A1 (some ⟨A.heap.size,0,.none⟩)=some gh:=zab hB6 rfl;have q1:zad A1 (some ⟨A.heap.size,1,.none⟩)=some gdv:=zab hB6 rfl;have hE06:=hE0.trans (hEA.trans hE6);refine cZ ?_;refine rc (an3 q0 s1 yad) (zdx A1 gh hv g.1 to (g1.ext hE06) (hh.ext (hEA.trans hE6)) kg.1.lb mh.lb oM oM) ?_;rintro _ A2 ⟨rfl,hE7⟩;refine re trivial ?_;have q1':=zaa hE7 q1;have hE67:=hE6.trans hE7;refine cZ ?_;by_cases hs:zag g.1=zag to
  ·refine wt (yet hs) ?_;rw[if_pos hs]at hgo;refine gz (az2 q1' yn0) ?_;refine rt0 ntmps168 ?_;rw[hgo];exact⟨hEA.trans hE67,g2.ext (hEA.trans hE67)⟩
  ·refine wf (yef hs) ?_;rw[if_neg hs]at hgo;refine gz (az2 s10 hi1') ?_;exact⟨m - 1,oM,rfl,i+1,oM,vq0,vq1 s9,vq1 s8,vq1 s1,hgo,hEA.trans hE67⟩
 ·intro hge;simp only[ydF]at hge;rw[ybu oM]at hgo;refine gz0 ?_;refine rt0 ntmps168 ?_;rw[hgo];exact⟨hEA,Rows.nil _ _ _⟩
end Go.Proofs.YtfacfpcopcgbdaaGreat
