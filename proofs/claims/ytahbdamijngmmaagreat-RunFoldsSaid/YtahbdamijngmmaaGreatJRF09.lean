/-
  Texts of a proof, joined: G7, V0, K27, K25, V1, K28, V2, V3, V4, M5ci, V5, M5st, V6, R4, KC, KN, K32, O2, K34, O3.
  Conditions: none.
-/
import Derived.Test.YtahbdamijngmmaaGreatJRF08
import Derived.Test.YtahbdamijngmmaaGreatJRF01
import Derived.Test.YtahbdamijngmmaaGreatJRF03
import Derived.Test.YtahbdamijngmmaaGreatJRF02
import Derived.ProofKit
import Derived.OpenShut
import Derived.SizedLaws
import Derived.Deep.Slices
import Derived.Test.YtahbdamijngmmaaGreatJRF07
import Derived.Test.YtahbdamijngmmaaGreatJRF06
set_option linter.unusedVariables false
set_option linter.unusedSimpArgs false
set_option linter.defProp false
set_option linter.unnecessarySimpa false
set_option maxHeartbeats 8000000
namespace Go.Proofs.YtahbdamijngmmaaGreat
open Go
def NumR(R:List RecL):Prop:=∀r∈R,∀n∈r.dat.nums,0≤n∧n≤4294967295
theorem zh1{n:Nm}(h:zaD n=0):LB n:=fun l hl=>by have:=(zbh h l hl).2;omega
theorem good_dat{R:List RecL}(h:zeQ R)(hv:NumR R):∀r∈R,DatOk r.dat:=fun r hr=>by
 have hf:=(h.few r hr).2
 exact⟨fun n hn=>⟨zh1 (h.names r hr n hn),by have:=(hf.names n hn).2;omega⟩,by have:=hf.nn;omega,by have:=hf.nu;omega,by have:=hf.nt;omega,hv r hr,by have:=hf.nr;omega⟩
theorem zgO{R:List RecL}(h:zeQ R)(hv:NumR R):∀r∈R,zbr r:=fun r hr=>
 ⟨zh1 (h.own r hr),by have:=zgk (h.own r hr);omega,good_dat h hv r hr⟩
structure GoodC(R:List RecL):Prop where
 ok:∀r∈R,zbr r
 srt:zkh R
 gd:zeB R
 ld:LeadR R
 len:R.length≤60
 nn:∀r∈R,r.dat.names.length≤1000000000
theorem zjU{R:List RecL}(h:zeQ R)(hv:NumR R):GoodC (za2 R):=by
 refine⟨zbO (fun a b h=>⟨h.lb,h.len,h.dat⟩) (zgO h hv),zgX R,?_,?_,Nat.le_trans (zdr R) h.len,?_⟩
 ·exact zbO (Q:=fun r=>∀n∈r.dat.names,NmG n) (fun a b h=>h) (fun r hr n hn=>ze5 (h.names r hr n hn))
 ·refine zbO (Q:=fun r=>(r.dat.ty=2∨r.dat.ty=5∨r.dat.ty=39)→r.dat.names≠ []) (fun a b h=>h) (fun r hr ht hn=>?_)
  have:=h.lead r hr ht
  rw[hn]at this
  cases this
 ·exact zbO (Q:=fun r=>r.dat.names.length≤1000000000) (fun a b h=>h) (fun r hr=>(h.few r hr).2.nn)
theorem zlr{w0 w:World}{ov lv:Value}{o:Nm}{R:List RecL}(h:GoodC R)(hE:Ext w0 w)(ho:Row w ov (o.map vs))(hl:Rows 7 (RecAt w0) w lv R)(hg:zbL o=true):ZnAt w0 w ov lv o R:=
 ⟨hE,ho,hl,(zb0 hg).m.s.lb,(zb0 hg).m.s.len,h.ok,by have:=h.len;omega⟩
structure ResF(P:DatL→Prop)(m:Nat)(r:ResL):Prop where
 nm:NmS r.name
 dat:∀d∈r.data,P d
 dl:r.data.length≤m
 gl:r.glue.length≤m
 g:∀x∈r.glue,NmS x.1∧(∀d∈x.2,P d)∧x.2.length≤m+m
theorem zbJ{P:DatL→Prop}{m:Nat}{k:Int}{ds:List DatL}{n:Nm}{b:Bool}(hn:NmS n)(hd:∀d∈ds,P d)(hl:ds.length≤m):ResF P m ⟨k,ds,n,b,[]⟩:=
 ⟨hn,hd,hl,Nat.zero_le _,fun x h=>by cases h⟩
theorem zjO:NmS []:=⟨fun l h=>(by cases h),Nat.zero_le _⟩
section
variable {P : DatL → Prop} {R : List RecL} {o : Nm}
theorem zhX(hP:∀r∈R,P r.dat){n:Nm}{t:Int}:∀d∈datC R n t,P d:=fun d hd=>by
 obtain⟨r,hr,rfl⟩:=ze4 hd
 exact hP r hr
theorem refer_F(hP:∀r∈R,P r.dat)(hG:zeB R){n:Nm}(hn:NmS n):ResF P R.length (zdD R n):=by
 refine⟨hn,zhX hP,zck,?_,fun x hx=>?_⟩
 ·exact Nat.le_trans (zf9 _ _) (Nat.le_trans (zdl _ _) (Nat.le_trans (zfd _ _) zck))
 ·obtain⟨h,hh,he⟩:=List.mem_filterMap.1 hx
  split at he
  ·cases he
  ·cases he
   refine⟨(zbR hG (n:=n) (t:=2) (fun d hd=>hd) h (zb5 _ _ h hh)).m.s,fun d hd=>?_,?_⟩
   ·unfold zcI at hd
    rcases List.mem_append.1 hd with hd|hd
    ·exact zhX hP d hd
    ·exact zhX hP d hd
   ·have h1:=zck (R:=R) (n:=h) (t:=1)
    have h2:=zck (R:=R) (n:=h) (t:=28)
    show(zcI R h).length≤_
    unfold zcI
    rw[List.length_append];omega
theorem ziV(hP:∀r∈R,P r.dat){n:Nm}{t:Int}:(∀d∈(datC R n t).take 1,P d)∧((datC R n t).take 1).length≤R.length:=
 ⟨fun d hd=>zhX hP d (List.mem_of_mem_take hd),by have:=zck (R:=R) (n:=n) (t:=t);rw[List.length_take];omega⟩
theorem zkG(hP:∀r∈R,P r.dat)(hG:zeB R){q n:Nm}(hq:NmM q){r:ResL}(h:zaK R q n=some r):ResF P R.length r:=by
 unfold zaK at h
 split at h
 ·cases h
 ·split at h
  ·cases h
   have hm:=swap_m hq (toN_m hG (n:=n) (t:=39) (u:=39)) (f:=n)
   exact zbJ ⟨fun l hl=>by have:=hm.1 l hl;omega,by have:=hm.2;omega⟩ (ziV hP).1 (ziV hP).2
  ·cases h
   exact zbJ zjO (fun d h=>by cases h) (Nat.zero_le _)
theorem at_F(hP:∀r∈R,P r.dat)(hG:zeB R){n:Nm}{t:Int}{b:Bool}:ResF P R.length (atL R n t b):=by
 unfold atL
 split
 ·exact zbJ zjO (zhX hP) zck
 ·split
  ·exact zbJ (toN_m hG).s (ziV hP).1 (ziV hP).2
  ·exact zbJ zjO (fun d h=>by cases h) (Nat.zero_le _)
theorem go_F(hP:∀r∈R,P r.dat)(hG:zeB R){q:Nm}(hq:NmM q):∀{l:List Nm} {r:ResL},(∀n∈l,NmS n)→goL o R q l=some r→ResF P R.length r
 | [],r,_,h=>by cases h
 |n::l,r,hl,h=>by
  simp only[goL]at h
  split at h
  ·cases h
   exact refer_F hP hG (hl n (List.mem_cons_self ..))
  ·split at h
   ·cases h
   ·split at h
    ·rename_i r' hr
     cases h
     exact zkG hP hG hq hr
    ·exact go_F hP hG hq (fun x hx=>hl x (List.mem_cons_of_mem _ hx)) h
theorem look_F(hP:∀r∈R,P r.dat)(hG:zeB R){q:Nm}{t:Int}(hq:NmM q):ResF P R.length (zbj o R q t):=by
 unfold zbj
 split
 ·exact zbJ zjO (fun d h=>by cases h) (Nat.zero_le _)
 ·split
  ·rename_i r hr
   refine go_F hP hG hq (fun n hn=>?_) hr
   unfold zbe at hn
   split at hn
   ·obtain⟨i,_,rfl⟩:=zbA.1 hn
    exact(hq.drop i).s
   ·cases hn
  ·split
   ·exact at_F hP hG
   ·split
    ·exact at_F hP hG
    ·exact zbJ zjO (fun d h=>by cases h) (Nat.zero_le _)
end
theorem look_ok{R:List RecL}(h:GoodC R){o q:Nm}{t:Int}(hq:NmM q):zl9 (zbj o R q t):=by
 have h1:=look_F (o:=o) (P:=DatOk) (fun r hr=>(h.ok r hr).dat) h.gd (t:=t) hq
 have hl:=h.len
 exact⟨h1.nm,h1.dat,by have:=h1.dl;omega,by have:=h1.gl;omega,fun x hx=>by
  obtain⟨a,b,c⟩:=h1.g x hx
  exact⟨a,b,by omega⟩⟩
structure zco where
 o:Nm
 recs:List RecL
structure zeA where
 name:Nm
 addr:List UInt8
 zones:List zco
structure NetL where
 hosts:List zeA
 roots:List Int
 rw:Int
 rf:Int
structure ZoneC(w:World)(cs:List Value)(z:zco):Prop where
 ex:∃ov lv,cs=[ov,lv]∧Row w ov (z.o.map vs)∧Rows 7 (RecAt w) w lv z.recs
structure HostC(w:World)(cs:List Value)(h:zeA):Prop where
 ex:∃nv a b c d zv,cs=[nv,zaf a,zaf b,zaf c,zaf d,zv]∧h.addr=[a,b,c,d]∧Row w nv (h.name.map vs)∧Rows 2 (ZoneC w) w zv h.zones
structure NetAt(w:World)(cs:List Value)(N:NetL):Prop where
 ex:∃hv rv,cs=[hv,rv,vi N.rw,vi N.rf]∧Rows 6 (HostC w) w hv N.hosts∧Row w rv (N.roots.map vi)
theorem Rows.extC{α:Type}{k:Nat}{C:World→List Value→α→Prop}{w x:World}{v:Value}{l:List α}(hC:∀cs a,C w cs a→C x cs a)(h:Rows k (C w) w v l)(hE:Ext w x):Rows k (C x) x v l:=(h.ext hE).to hC
theorem ZoneC.ext{w x:World}{cs:List Value}{z:zco}(h:ZoneC w cs z)(hE:Ext w x):ZoneC x cs z:=by
 obtain⟨ov,lv,e,h1,h2⟩:=h.ex
 exact⟨ov,lv,e,h1.ext hE,Rows.extC (fun _ _ h=>RecAt.ext h hE) h2 hE⟩
theorem HostC.ext{w x:World}{cs:List Value}{z:zeA}(h:HostC w cs z)(hE:Ext w x):HostC x cs z:=by
 obtain⟨nv,a,b,c,d,zv,e,ha,h1,h2⟩:=h.ex
 exact⟨nv,a,b,c,d,zv,e,ha,h1.ext hE,Rows.extC (fun _ _ h=>ZoneC.ext h hE) h2 hE⟩
theorem NetAt.ext{w x:World}{cs:List Value}{z:NetL}(h:NetAt w cs z)(hE:Ext w x):NetAt x cs z:=by
 obtain⟨hv,rv,e,h1,h2⟩:=h.ex
 exact⟨hv,rv,e,Rows.extC (fun _ _ h=>HostC.ext h hE) h1 hE,h2.ext hE⟩
structure GoodZ(z:zco):Prop where
 o:zbL z.o=true
 gd:zeQ z.recs
 nv:NumR z.recs
 can:za2 z.recs=z.recs
theorem GoodZ.c{z:zco}(h:GoodZ z):GoodC z.recs:=h.can▸zjU h.gd h.nv
theorem GoodZ.m{z:zco}(h:GoodZ z):NmM z.o:=(zb0 h.o).m
theorem GoodZ.zn{w0 w:World}{ov lv:Value}{z:zco}(h:GoodZ z)(hE:Ext w0 w)(ho:Row w ov (z.o.map vs))(hl:Rows 7 (RecAt w0) w lv z.recs):ZnAt w0 w ov lv z.o z.recs:=zlr h.c hE ho hl h.o
structure NetZ(N:NetL):Prop where
 hl:N.hosts.length≤1000
 nm:∀h∈N.hosts,NmM h.name
 zl:∀h∈N.hosts,h.zones.length≤1000
 z:∀h∈N.hosts,∀z∈h.zones,GoodZ z
 rl:N.roots.length≤1000
def NetL.zones(N:NetL)(s:Int):List zco:=if s<0 then [] else match N.hosts[s.toNat]? with
 |some h=>h.zones
 |Option.none=>[]
def zaS(q:Nm)(b:Int×Int)(x:Nat×zco):Int×Int:=if zaR q x.2.o=true∧b.2<(x.2.o.length:Int) then((x.1:Int),(x.2.o.length:Int)) else b
def numZ:Nat→List zco→List (Nat×zco)
 |_,[]=>[]
 |i,z::l=>(i,z)::numZ (i+1) l
def zlX(q:Nm)(l:List zco):Int×Int:=(numZ 0 l).foldl (zaS q) (0, -1)
def zcy(N:NetL)(s:Int)(q:Nm):Int×Bool:=let b:=zlX q (N.zones s);(b.1,decide (0≤b.2))
def askN(N:NetL)(s:Int)(q:Nm)(t:Int):ResL:=if (zcy N s q).2=true then match (N.zones s)[(zcy N s q).1.toNat]? with
  |some z=>zbj z.o z.recs q t
  |Option.none=>⟨7,[],[],false,[]⟩
 else⟨7,[],[],false,[]⟩
theorem zcd:∀{l:List zco} {i:Nat},(numZ i l).length=l.length
 | [],_=>rfl
 |_::l,i=>by simp[numZ,zcd (l:=l)]
theorem ze0:∀{l:List zco} {i j:Nat} (h:j<l.length) (h':j<(numZ i l).length),(numZ i l)[j]=(i+j,l[j])
 | [],_,_,h,_=>absurd h (by simp)
 |_::l,i,0,_,_=>by simp[numZ]
 |_::l,i,j+1,h,h'=>by
  simp only[numZ,List.getElem_cons_succ]
  rw[ze0 (by simpa using h)]
  exact Prod.ext (by dsimp only;omega) rfl
theorem zlW(q:Nm):∀{l:List (Nat×zco)} {b:Int×Int} {m:Nat},(∀x∈l,x.1<m)→((0≤b.2→0≤b.1∧b.1<m))→0≤(l.foldl (zaS q) b).2→0≤(l.foldl (zaS q) b).1∧(l.foldl (zaS q) b).1<m
 | [],b,m,_,h,h2=>h h2
 |x::l,b,m,hx,h,h2=>by
  rw[List.foldl_cons]at h2 ⊢
  refine zlW q (fun y hy=>hx y (List.mem_cons_of_mem _ hy)) (fun h3=>?_) h2
  unfold zaS at h3 ⊢
  split at h3
  ·rename_i hc
   rw[if_pos hc]
   have:=hx x (List.mem_cons_self ..)
   exact⟨by dsimp only;omega,by dsimp only;omega⟩
  ·rename_i hc
   rw[if_neg hc];exact h h3
theorem bestN_in{N:NetL}{s:Int}{q:Nm}(h:(zcy N s q).2=true):0≤(zcy N s q).1∧(zcy N s q).1<((N.zones s).length:Int):=by
 unfold zcy zlX at*
 simp only[decide_eq_true_eq]at h
 refine zlW q (fun x hx=>?_) (fun h=>absurd h (by decide)) h
 obtain⟨i,hi,rfl⟩:=List.mem_iff_getElem.1 hx
 rw[ze0 (by rw[zcd]at hi;exact hi)]
 have:=hi
 rw[zcd]at this
 dsimp only;omega
theorem zel{N:NetL}(h:NetZ N){s:Int}:(∀z∈N.zones s,GoodZ z)∧(N.zones s).length≤1000:=by
 unfold NetL.zones
 split
 ·exact⟨fun z h=>absurd h (by simp),by simp⟩
 ·cases hh:N.hosts[s.toNat]? with
  |none=>exact⟨fun z h=>absurd h (by simp),by simp⟩
  |some x=>exact⟨h.z x (List.mem_of_getElem? hh),h.zl x (List.mem_of_getElem? hh)⟩
section
variable {A B C D E F G H I : Prop}
theorem an2(a:A)(b:B):A∧B:=⟨a,b⟩
theorem an3(a:A)(b:B)(c:C):A∧B∧C:=⟨a,b,c⟩
theorem an4(a:A)(b:B)(c:C)(d:D):A∧B∧C∧D:=⟨a,b,c,d⟩
theorem an5(a:A)(b:B)(c:C)(d:D)(e:E):A∧B∧C∧D∧E:=⟨a,b,c,d,e⟩
theorem an6(a:A)(b:B)(c:C)(d:D)(e:E)(f:F):A∧B∧C∧D∧E∧F:=⟨a,b,c,d,e,f⟩
theorem an7(a:A)(b:B)(c:C)(d:D)(e:E)(f:F)(g:G):A∧B∧C∧D∧E∧F∧G:=⟨a,b,c,d,e,f,g⟩
theorem an8(a:A)(b:B)(c:C)(d:D)(e:E)(f:F)(g:G)(h:H):A∧B∧C∧D∧E∧F∧G∧H:=⟨a,b,c,d,e,f,g,h⟩
theorem an9(a:A)(b:B)(c:C)(d:D)(e:E)(f:F)(g:G)(h:H)(i:I):A∧B∧C∧D∧E∧F∧G∧H∧I:=⟨a,b,c,d,e,f,g,h,i⟩
end
def gdOk:List (Nat×Nat)→(Nat→Option Tmp)→Prop
 | [],_=>True
 |p::l,gd=>gd p.1=some p.2∧gdOk l gd
theorem ziz{L:List Oper}:∀{gs:List (Nat×Nat)},(gs.all fun p=>dstL L p.1==some p.2)=true→gdOk gs (dstL L)
 | [],_=>trivial
 |p::l,h=>by
  simp only[List.all_cons,Bool.and_eq_true,beq_iff_eq]at h
  exact⟨h.1,ziz h.2⟩
theorem zcx(b:Bool):zak undef b=false:=nr rfl
def Rest(P:Program)(Q:Post)(ds:List Deferred)(L:List Oper)(F:(Nat→Option Tmp)→(Sto→World→Prop)→Prop):Prop:=
 ∀(gd:Nat→Option Tmp) (K:Sto→World→Prop),gd=dstL L→(∀σ' w',Q .normal σ' ds w'→K σ' w')→F gd K
section
variable {P : Program} {r : Option Nat} {n : Nat} {Q : Post} {σ : Sto} {ds : List Deferred} {w : World} {p : Prop} {L : List Oper} {F : (Nat → Option Tmp) → (Sto → World → Prop) → Prop}
theorem wt{c:Operand}{x y:Code}(h:p)(ht:W P r n x Q σ ds w)(hc:p→ev n σ c= .bool true:=by intro h1;first| (simp only[go_sem,h1];done)| (simp only[go_sem,h1];rfl)):W P r n (.cond c x y) Q σ ds w:=zaH (hc h) (fun _=>ht) (fun h=>by cases h)
theorem wf{c:Operand}{x y:Code}(h:p)(ht:W P r n y Q σ ds w)(hc:p→ev n σ c= .bool false:=by intro h1;first| (simp only[go_sem,h1];done)| (simp only[go_sem,h1];rfl)):W P r n (.cond c x y) Q σ ds w:=zaH (hc h) (fun h=>by cases h) (fun _=>ht)
theorem ro{id:Nat}{ops:Array Oper}(h:Rest P Q ds ops.toList (fun gd K=>opsV P gd n ops.toList σ w K))(hd:zaW ops=true:=by rfl):W P r n (.region id ops false) Q σ ds w:=zcU hd fun gd K hgd hK=>h gd K hgd hK
theorem rd{f:FuncId}{args:Array Value}{w1:World}{R:Value→World→Prop}{C:(Nat→Option Tmp)→(Sto→World→Prop)→Value→World→Prop}(h:p)(hF:Fn P f args w1 R)(hr:∀v w',R v w'→Rest P Q ds L (fun gd K=>C gd K v w'))
  (hs:p→∀(gd:Nat→Option Tmp) (K:Sto→World→Prop),F gd K=Fn P f args w1 (fun v w'=>C gd K v w'):=by intro h1 gd K;(simp (disch:=first|omega|assumption|rfl) only[go_sem,h1])<;>exact rfl):Rest P Q ds L F:=
 fun gd K hgd hK=>(hs h gd K).mpr (Fn.mono hF fun v w' hR=>hr v w' hR gd K hgd hK)
theorem rc{id:Nat}{ops:Array Oper}{f:FuncId}{args:Array Value}{w1:World}{R:Value→World→Prop}{C:(Nat→Option Tmp)→(Sto→World→Prop)→Value→World→Prop}(h:p)(hF:Fn P f args w1 R)(hr:∀v w',R v w'→Rest P Q ds ops.toList (fun gd K=>C gd K v w'))
  (hs:p→∀(gd:Nat→Option Tmp) (K:Sto→World→Prop),opsV P gd n ops.toList σ w K=Fn P f args w1 (fun v w'=>C gd K v w'):=by intro h1 gd K;(simp (disch:=first|omega|assumption|rfl) only[go_sem,h1])<;>exact rfl)
  (hd:zaW ops=true:=by rfl):W P r n (.region id ops false) Q σ ds w:=ro (rd h hF hr hs) hd
theorem re{σ1:Sto}{w1:World}(h:p)(hq:Q .normal σ1 ds w1)
  (hs:p→∀(gd:Nat→Option Tmp) (K:Sto→World→Prop),F gd K=K σ1 w1:=by intro h1 gd K;(first| (simp (disch:=first|omega|assumption|rfl) only[go_sem,h1])|skip)<;>exact rfl):Rest P Q ds L F:=
 fun gd K _ hK=>(hs h gd K).mpr (hK _ _ hq)
theorem rdg(gs:List (Nat×Nat)){f:FuncId}{args:Array Value}{w1:World}{R:Value→World→Prop}{C:(Nat→Option Tmp)→(Sto→World→Prop)→Value→World→Prop}(h:p)(hF:Fn P f args w1 R)(hr:∀v w',R v w'→Rest P Q ds L (fun gd K=>C gd K v w'))
  (hs:p→∀(gd:Nat→Option Tmp) (K:Sto→World→Prop),gdOk gs gd→F gd K=Fn P f args w1 (fun v w'=>C gd K v w'):=by intro h1 gd K hg;simp only[gdOk]at hg;(simp (disch:=first|omega|assumption|rfl) only[go_sem,zac,zb4,zcx,hg,h1])<;>exact rfl)
  (hg:(gs.all fun p=>dstL L p.1==some p.2)=true:=by exact rfl):Rest P Q ds L F:=
 fun gd K hgd hK=>(hs h gd K (hgd▸ziz hg)).mpr (Fn.mono hF fun v w' hR=>hr v w' hR gd K hgd hK)
theorem rcg(gs:List (Nat×Nat)){id:Nat}{ops:Array Oper}{f:FuncId}{args:Array Value}{w1:World}{R:Value→World→Prop}{C:(Nat→Option Tmp)→(Sto→World→Prop)→Value→World→Prop}(h:p)(hF:Fn P f args w1 R)(hr:∀v w',R v w'→Rest P Q ds ops.toList (fun gd K=>C gd K v w'))
  (hs:p→∀(gd:Nat→Option Tmp) (K:Sto→World→Prop),gdOk gs gd→opsV P gd n ops.toList σ w K=Fn P f args w1 (fun v w'=>C gd K v w'):=by intro h1 gd K hg;simp only[gdOk]at hg;(simp (disch:=first|omega|assumption|rfl) only[go_sem,zac,zb4,zcx,hg,h1])<;>exact rfl)
  (hg:(gs.all fun p=>dstL ops.toList p.1==some p.2)=true:=by exact rfl) (hd:zaW ops=true:=by rfl):W P r n (.region id ops false) Q σ ds w:=ro (rdg gs h hF hr hs hg) hd
theorem reg(gs:List (Nat×Nat)){σ1:Sto}{w1:World}(h:p)(hq:Q .normal σ1 ds w1)
  (hs:p→∀(gd:Nat→Option Tmp) (K:Sto→World→Prop),gdOk gs gd→F gd K=K σ1 w1:=by intro h1 gd K hg;simp only[gdOk]at hg;(first| (simp (disch:=first|omega|assumption|rfl) only[go_sem,zac,zb4,zcx,hg,h1])|skip)<;>exact rfl)
  (hg:(gs.all fun p=>dstL L p.1==some p.2)=true:=by exact rfl):Rest P Q ds L F:=
 fun gd K hgd hK=>(hs h gd K (hgd▸ziz hg)).mpr (hK _ _ hq)
theorem rgg(gs:List (Nat×Nat)){id:Nat}{ops:Array Oper}{σ1:Sto}{w1:World}(h:p)(hq:Q .normal σ1 ds w1)
  (hs:p→∀(gd:Nat→Option Tmp) (K:Sto→World→Prop),gdOk gs gd→opsV P gd n ops.toList σ w K=K σ1 w1:=by intro h1 gd K hg;simp only[gdOk]at hg;(simp (disch:=first|omega|assumption|rfl) only[go_sem,zac,zb4,zcx,hg,h1])<;>exact rfl)
  (hg:(gs.all fun p=>dstL ops.toList p.1==some p.2)=true:=by exact rfl) (hd:zaW ops=true:=by rfl):W P r n (.region id ops false) Q σ ds w:=ro (reg gs h hq hs hg) hd
end
section
variable {P : Program} {x : World} {e : TypeId} {K : Value → World → Prop}
theorem za0{t:TypeId}{cur:Array Value}{l:List Value}(hl:l.length=cur.size)(h1:∀v∈l,one v=true)(hs:tyS P t=l.length)(hi:(P.info? t).isSome=true)
  (hK:∀w',Ext x w'→w'.heap.size=x.heap.size+1→w'.heap[x.heap.size]? =some (.cells l.toArray e (0,0))→K undef w'):stK P t (.pointer (some ⟨x.heap.size,0,Option.none⟩)) (.agg l.toArray) (x.alloc (.cells cur e (0,0))) K:=by
 have hB3:=zap x (.cells cur e (0,0))
 have hE4:=Ext.alloc x (.cells cur e (0,0))
 have hs4:=zaj x (.cells cur e (0,0))
 refine zaM (P:=P) (t:=t) (l:=l) hB3 hl h1 hs hi ?_
 intro w5 hs5 hB5 hk5
 exact hK w5 (Keep.to_ext hE4 rfl (fun b hb=>by omega) hk5) (by omega) hB5
theorem Row.isOne{w:World}{v:Value}{l:List Value}(h:Row w v l):one v=true:=by
 obtain⟨a,c,rfl,_⟩:=h;rfl
theorem Rows.isOne{α:Type}{k:Nat}{C:List Value→α→Prop}{w:World}{v:Value}{l:List α}(h:Rows k C w v l):one v=true:=by
 obtain⟨a,c,rfl,_⟩:=h.open;rfl
theorem zem{a b:Value}(ha:one a=true)(hb:one b=true):∀v∈ [a,b],one v=true:=fun v h=>by
 simp at h
 rcases h with rfl|rfl<;>assumption
end
set_option maxRecDepth 10000
def encZ(w0:World)(x:Nat×zco)(_:World)(args:Array Value):Prop:=∃ov lv,args=#[vi x.1,.agg #[ov,lv]]∧Row w0 ov (x.2.o.map vs)∧Rows 7 (RecAt w0) w0 lv x.2.recs
theorem zcK{n0:Nat}{C:Nat→Prop}{a b:World}(h:Ext a b)(hn:n0≤a.heap.size):KeepB n0 C a b:=Keep.toB h hn (fun _ _ h=>h.elim)
theorem zones_ok(w:World){hv rv:Value}{s a b:Int}:
  Fn Tryz.prog 194 #[.agg #[hv,rv,vi a,vi b],vi s] w (fun v w'=>v= .func (.func 240) #[] #[.pointer (some ⟨w.heap.size+1,0,Option.none⟩),.pointer (some ⟨w.heap.size,0,Option.none⟩)]∧Ext w w'∧w'.heap.size=w.heap.size+2∧
   w'.heap[w.heap.size]? =some (.cells #[hv,rv,vi a,vi b] 25 (0,0))∧w'.heap[w.heap.size+1]? =some (.cells #[vi s] 3 (0,0))):=by
 refine enter Tryz.func194 Tryz.ntmps194 rfl rfl ?_
 repeat refine c_r ?_
 refine rg0 ?_
 repeat refine c_r ?_
 rw[zaj]
 refine zaO ?_
 intro w1 hE1 hs1 hA hC
 refine rg0 ?_
 repeat refine c_r ?_
 refine rt0 Tryz.ntmps194 ?_
 exact⟨rfl,hE1,hs1,hA,hC⟩
theorem zonesIt{w0 W0:World}{C:Nat→Prop}{sb nb:Nat}{hv rv:Value}{s:Int}{N:NetL}(hE0:Ext w0 W0)(hbs:W0.heap[sb]? =some (.cells #[vi s] 3 (0,0)))(hbn:W0.heap[nb]? =some (.cells #[hv,rv,vi N.rw,vi N.rf] 25 (0,0)))
  (hh:Rows 6 (HostC w0) w0 hv N.hosts) (hC:∀b,C b→w0.heap.size≤b) (hN:NetZ N):
  Iter Tryz.prog 240 #[.pointer (some ⟨sb,0,Option.none⟩),.pointer (some ⟨nb,0,Option.none⟩)] W0 W0.heap.size C (numZ 0 (N.zones s)) (encZ w0):=by
 intro lp J Jx W hW hnW hJ hJx hY h0
 obtain⟨ah,ch,rfl,hch,hgh⟩:=hh.open
 have hl:=hN.hl
 have ps:zae W (some ⟨sb,0,Option.none⟩)=some (vi s):=zaa hW (zab hbs rfl)
 have pn:zae W (some ⟨nb,0,Option.none⟩)=some (.slice ah N.hosts.length ch):=zaa hW (zab hbn rfl)
 refine enter Tryz.func240 Tryz.ntmps240 rfl rfl ?_
 repeat refine c_r ?_
 by_cases h1:s<0
 ·refine rgg [(2,8)] (an3 ps (decide_eq_true h1) Nat.add_zero) ?_
  repeat refine c_r ?_
  refine wt trivial ?_
  repeat refine c_r ?_
  refine zaq (by simp) rfl (.inl ?_)
  unfold NetL.zones
  rw[if_pos h1];exact h0
 by_cases h2:(N.hosts.length:Int)≤s
 ·refine rgg [(2,8)] (an5 ps pn (decide_eq_false h1) (decide_eq_true h2) Nat.add_zero) ?_
  repeat refine c_r ?_
  refine wt trivial ?_
  repeat refine c_r ?_
  refine zaq (by simp) rfl (.inl ?_)
  unfold NetL.zones
  rw[if_neg h1,List.getElem?_eq_none (by omega)];exact h0
 refine rgg [(2,8)] (an5 ps pn (decide_eq_false h1) (decide_eq_false h2) Nat.add_zero) ?_
 repeat refine c_r ?_
 refine wf trivial ?_
 obtain⟨i0,rfl⟩:∃i:Nat,s=i:=⟨s.toNat,by omega⟩
 have hi0:i0<N.hosts.length:=by omega
 obtain⟨hcs,hhc,hhC⟩:=hgh i0 hi0
 obtain⟨h,hhe⟩:∃h,N.hosts[i0]=h:=⟨_,rfl⟩
 rw[hhe]at hhC
 obtain⟨nv,b1,b2,b3,b4,zv,rfl,_,hnm,hz⟩:=hhC.ex
 have hzl:N.zones (i0:Int)=h.zones:=by
  unfold NetL.zones
  rw[if_neg h1,Int.toNat_natCast,List.getElem?_eq_getElem hi0,hhe]
 have hzb:h.zones.length≤1000:=hN.zl h (hhe▸List.getElem_mem hi0)
 rw[hzl]at hY ⊢
 obtain⟨az,cz,rfl,hcz,hgz⟩:=hz.open
 obtain⟨xh,rfl⟩:=Option.isSome_iff_exists.1 (zas hhc)
 obtain⟨xi,hxi⟩:∃xi,adr (some xh) (i0*6)=some xi:=⟨_,rfl⟩
 rw[hxi]at hhc
 have pz:zae W (adr (some xi) 5)=some (.slice az h.zones.length cz):=zax (zad (hE0.trans hW) hhc) rfl
 obtain⟨x5,hx5⟩:∃x,adr (some xi) 5=some x:=⟨_,rfl⟩
 rw[hx5]at pz
 have hi0':(0:Int)≤(i0:Int):=by omega
 have hi1':(i0:Int)<(N.hosts.length:Int):=by omega
 repeat refine c_r ?_
 refine rg8 ps pn hi0' hi1' hxi hx5 pz Nat.add_zero ?_
 repeat refine c_r ?_
 obtain⟨L,hL⟩:∃L,numZ 0 h.zones=L:=⟨_,rfl⟩
 have hLl:L.length=h.zones.length:=by rw[←hL,zcd]
 rw[hL]at hY ⊢
 refine zam (fun m σ ds v=>ds=[]∧∃(i:Nat),i+m=L.length∧σ 22=vi i∧σ 21=vi h.zones.length∧σ 20= .slice az h.zones.length cz∧σ 0= .func (.yield lp) #[] #[]∧J (L.take i) v∧KeepB W0.heap.size C W v) L.length ?_ ?_
 ·exact⟨rfl,0,by omega,vr0,vq0,vq0,vq0,h0,KeepB.refl _ _ _⟩
 rintro m σ ds v ⟨rfl,i,him,s22,s21,s20,s0,hj,hKB⟩
 repeat refine c_r ?_
 refine rg2 s22 s21 ?_
 repeat refine c_r ?_
 refine wc0 ?_ ?_
 ·intro hlt
  simp only[decide_eq_true_eq]at hlt
  have hi:i<h.zones.length:=by omega
  have hi0:(0:Int)≤(i:Int):=by omega
  have hi1':(i:Int)+1=((i+1:Nat):Int):=by push_cast;rfl
  obtain⟨cs,hcs,hZ⟩:=hgz i hi
  obtain⟨ov,lv,rfl,ho,hr⟩:=hZ.ex
  obtain⟨xz,rfl⟩:=Option.isSome_iff_exists.1 (zas hcs)
  obtain⟨xi,hxi⟩:∃xi,adr (some xz) (i*2)=some xi:=⟨_,rfl⟩
  rw[hxi]at hcs
  have hEv:Ext w0 v:=zc1 (hE0.trans hW) hKB hE0.size hC
  have d:=zad hEv hcs
  have hLi:L[i]'(by omega)=(i,h.zones[i]):=by
   simp only[←hL]
   rw[ze0 hi];simp
  repeat refine c_r ?_
  refine rq ?_;intro gd K hgd hK
  try simp (disch:=first|omega|assumption|rfl) only[go_sem,s22,s20,hi0,hlt,hxi,d]
  refine za0 (P:=Tryz.prog) (l:=[ov,lv]) rfl (zem ho.isOne hr.isOne) rfl rfl ?_
  intro v1 hE1 hs1 hB1
  try simp only[go_sem]
  refine hK _ _ ?_;clear hK hgd;clear K;try clear gd
  have d1:=zah (n:=2) hB1 rfl
  repeat refine c_r ?_
  refine rq ?_;intro gd K hgd hK
  try simp (disch:=first|omega|assumption|rfl) only[go_sem,s0,d1]
  refine Yld.mono (hY (L.take i) (L[i]'(by omega)) (L.drop (i+1)) v1 _ (by rw[←List.drop_eq_getElem_cons,List.take_append_drop]) (hJ _ _ _ hj hE1) (hKB.trans (zcK hE1 (by have:=hKB.size;omega))) ⟨ov,lv,by rw[hLi],by rw[hLi];exact ho,by rw[hLi];exact hr⟩) ?_
  rintro u x (⟨rfl,hj',hk'⟩| ⟨rfl,hjx⟩)
  ·try simp only[go_sem]
   refine hK _ _ ?_;clear hK hgd;clear K;try clear gd
   repeat refine c_r ?_
   refine wc0 ?_ ?_
   ·intro h;simp at h
   ·intro _
    repeat refine c_r ?_
    refine rg2 s22 hi1' ?_
    repeat refine c_r ?_
    exact⟨m - 1,by omega,rfl,i+1,by omega,vq0,(vq1 s21),(vq1 s20),(vq1 s0),by rw[←List.take_append_getElem (by omega)]at*;exact hj',(hKB.trans (zcK hE1 (by have:=hKB.size;omega))).trans hk'⟩
  ·try simp only[go_sem]
   refine hK _ _ ?_;clear hK hgd;clear K;try clear gd
   repeat refine c_r ?_
   refine wc0 ?_ ?_
   ·intro _
    repeat refine c_r ?_
    refine zaq (by simp) rfl (.inr ⟨_,_,L.drop (i+1),?_,hjx⟩)
    rw[←List.drop_eq_getElem_cons,List.take_append_drop]
   ·intro h;simp at h
 ·intro hge
  simp only[decide_eq_false_iff_not]at hge
  repeat refine c_r ?_
  refine zaq (by simp) rfl (.inl ?_)
  rwa [List.take_of_length_le (by omega)]at hj
theorem zfG{w:World}{a:Addr}:∀(i m k:Nat) {l:List Value},zaN w a i (m+k)=some l→zaN w a i m=some (l.take m)
 |i,0,k,l,h=>by simp[zaN]
 |i,m+1,k,l,h=>by
  rw[show m+1+k=(m+k)+1 from by omega]at h
  unfold zaN at h ⊢
  split at h
  ·rename_i v l' h1 h2
   cases h
   rw[h1,zfG (i+1) m k h2];rfl
  ·cases h
theorem zcw{w:World}{p:Option Addr}{m k:Nat}{l:List Value}(h:zau w p (m+k)=some l):zau w p m=some (l.take m):=by
 cases p with
 |none=>cases h
 |some a=>exact zfG 0 m k h
section
variable {P : Program} {w : World} {K : Value → World → Prop} {t : TypeId} {p v : Value} {A B : Obj}
theorem st_al1(h:∀z,Ext w z→z.heap.size=w.heap.size+1→z.heap[w.heap.size]? =some A→stK P t p v z K):stK P t p v (w.alloc A) K:=
 h _ (Ext.alloc w A) (zaj w A) (World.alloc_heap_new w A)
theorem st_al2(h:∀z,Ext w z→z.heap.size=w.heap.size+2→z.heap[w.heap.size]? =some A→z.heap[w.heap.size+1]? =some B→stK P t p v z K):stK P t p v ((w.alloc A).alloc B) K:=by
 obtain⟨h1,h2,h3,h4⟩:=zdc w A B
 exact h _ h1 h2 h3 h4
end
section
variable {P : Program} {d : Option Tmp} {ty : TypeId} {ps : String} {af : Array Edge} {g : Option (Nat × Bool)} {ρ : Operand → Value} {w : World} {K : Value → World → Prop}
theorem op_slA{t e:TypeId}{x:Operand}{n:Nat}{a:Addr}{m:Lck K (opW P ⟨d,.slice t x Option.none Option.none Option.none,ty,ps,af,g⟩ ρ w K)}(ht:P.underlying t=some (.array n e))(hn:n≠0)(he:(P.info? e).isSome=true)
  (hx:ρ x= .pointer (some a)) (h:K (.slice (some a) n n) w):optL (slD P (some (.array n e)) (.pointer (some a)) Option.none Option.none Option.none) w K (opW P ⟨d,.slice t x Option.none Option.none Option.none,ty,ps,af,g⟩ ρ w K) m:=by
 show opW P _ ρ w K
 obtain⟨inf,hi⟩:=Option.isSome_iff_exists.1 he
 refine zaI (s:=Instr.sliceAt t (ρ x) Option.none Option.none Option.none) (v:= .slice (some a) n n) (w':=w) ?_ h
 have e1:=zca (P:=P) (w:=w) (sl:=false) (n:=n) (c:=n) (lo:=Option.none) (hi:=Option.none) (mx:=Option.none) (l:=0) (h:=n) (m:=n) rfl rfl rfl (Nat.zero_le _) (Nat.le_refl _) (Nat.le_refl _) (by simp)
 have ha0:a.add 0=a:=by simp[Addr.add]
 simp[Instr.sliceAt,underlying,program,Sem.run,ht,hx,Instr.sureAddr,e1,sizeOf,typeInfo,hi,hn,ha0]
end
theorem NetAt.one{w:World}{cs:List Value}{N:NetL}(h:NetAt w cs N):cs.length=4∧∀v∈cs,one v=true:=by
 obtain⟨hv,rv,rfl,h1,h2⟩:=h.ex
 refine⟨rfl,fun v hv=>?_⟩
 simp at hv
 rcases hv with rfl|rfl|rfl|rfl
 ·exact h1.isOne
 ·exact h2.isOne
 ·rfl
 ·rfl
theorem zmo{w0 w:World}(hE0:Ext w0 w){cs:List Value}{N:NetL}{s:Int}{q:Nm}{qv:Value}(hN:NetAt w0 cs N)(hG:NetZ N)(hq:Row w qv (q.map vs))(mq:NmM q):
  Fn Tryz.prog 148 #[.agg cs.toArray,vi s,qv] w (fun v w'=>v= .tuple #[vi (zcy N s q).1,.bool (zcy N s q).2]∧Ext w w'):=by
 obtain⟨hv,rv,rfl,hh,hr⟩:=hN.ex
 have e1:=hh.isOne
 have e2:=hr.isOne
 obtain⟨ah,ch,hhv,_⟩:=hh.open
 obtain⟨ar,cr,hrv,_⟩:=id hr
 obtain⟨aq,cq,hqv,_⟩:=id hq
 have ql:=mq.len
 refine enter Tryz.func148 Tryz.ntmps148 rfl rfl ?_
 repeat refine c_r ?_
 rw[hhv,hrv,hqv]
 refine rg0 ?_
 rw[←hhv,←hrv,←hqv]
 repeat refine c_r ?_
 rw[zaj]
 refine zaO ?_
 intro w1 hE1 hs1 hA hC
 refine rq ?_;intro gd K hgd hK
 try simp only[go_sem]
 rw[zaj]
 refine st_al2 ?_
 intro w2 hE2 hs2 h8 h9
 refine zaY (P:=Tryz.prog) (t:=3) (j:=0) (u:=vi 0) (l:=[vi 0]) h8 (by simp) rfl rfl rfl ?_
 intro w3 hs3 h8' hk3
 try simp only[go_sem]
 refine zaY (P:=Tryz.prog) (t:=3) (j:=0) (u:=vi (-1)) (l:=[vi 0]) ((hk3.block _ (by omega) (by omega)).trans h9) (by simp) rfl rfl rfl ?_
 intro w4 hs4 h9' hk4
 try simp only[go_sem]
 refine hK _ _ ?_;clear hK hgd;clear K;try clear gd
 simp only[List.set_cons_zero]at h8' h9'
 obtain⟨b8,hb8⟩:∃b,w1.heap.size=b:=⟨_,rfl⟩
 rw[hb8]at h8 h8' h9 h9' hk3 hk4 hs2 ⊢
 have hE3:=Keep.to_ext (hE1.trans hE2) rfl (fun b hb=>by omega) hk3
 have hE4:=Keep.to_ext hE3 rfl (fun b hb=>by omega) hk4
 have g8:=(hk4.block _ (by omega) (by omega)).trans h8'
 have gA:=(hk4.block _ (by omega) (by omega)).trans ((hk3.block _ (by omega) (by omega)).trans (Ext.at hE2 hA))
 have gC:=(hk4.block _ (by omega) (by omega)).trans ((hk3.block _ (by omega) (by omega)).trans (Ext.at hE2 hC))
 clear h8 h8' h9 hk3 hk4 hE3 hE2 hE1 hA hC
 have d4:=zah (n:=4) (l:=[hv,rv,vi N.rw,vi N.rf]) gA rfl
 have p5:zae w4 (some ⟨w.heap.size+1,0,Option.none⟩)=some qv:=zab gC rfl
 have hb8w:w.heap.size+2≤b8:=by omega
 repeat refine c_r ?_
 refine rc d4 (zones_ok w4) ?_
 rintro _ w5 ⟨rfl,hE5,hs5,hbn,hbs⟩
 refine re trivial ?_
 repeat refine c_r ?_
 have hE05:=hE0.trans (hE4.trans hE5)
 refine zdP (g:=240) (cap:=#[.pointer (some ⟨w4.heap.size+1,0,Option.none⟩),.pointer (some ⟨w4.heap.size,0,Option.none⟩)]) (vq0) rfl (zonesIt (C:=fun b=>b=b8∨b=b8+1) hE05 hbs hbn hh (fun b hb=>by have:=hE0.size;omega) hG) (Keep.refl _ _) (Nat.le_refl _) (fun b hb=>by omega) (fun x A args h=>by obtain⟨_,_,e,_⟩:=h;rw[e];rfl)
  (fun pre A=>Ext w A∧A.heap[b8]? =some (.cells #[vi (pre.foldl (zaS q) (0, -1)).1] 3 (0,0))∧A.heap[b8+1]? =some (.cells #[vi (pre.foldl (zaS q) (0, -1)).2] 3 (0,0))∧A.heap[w.heap.size+1]? =some (.cells #[qv] 27 (0,0)))
  (fun _ _ _=>False) ?_ (fun _ _ _ _ h _=>h.elim) ?_ ?_ ?_ (fun _ _ _ _ _ _ _ h _=>h.elim)
 ·rintro pre A B ⟨h1,h2,h3,h4⟩ hk
  have f:∀{b:Nat} {O:Obj},A.heap[b]? =some O→b<w5.heap.size→B.heap[b]? =some O:=fun h hb=>(hk.block _ (Array.getElem?_eq_some_iff.1 h).1 (by unfold two;omega)).trans h
  exact⟨Keep.to_ext h1 rfl (fun b hb=>by unfold two at hb;omega) hk,f h2 (by omega),f h3 (by omega),f h4 (by omega)⟩
 ·exact⟨hE4.trans hE5,Ext.at hE5 g8,Ext.at hE5 h9',Ext.at hE5 gC⟩
 ·rintro lp pre y suf A args hxs hszA ⟨hEA,k8,k9,k5⟩ ⟨ov,lv,rfl,ho,hr⟩
  obtain⟨B,hB⟩:∃B,pre.foldl (zaS q) (0, -1)=B:=⟨_,rfl⟩
  have hfo:(pre++ [y]).foldl (zaS q) (0, -1)=zaS q B y:=by rw[List.foldl_append,List.foldl_cons,List.foldl_nil,hB]
  rw[hB]at k8 k9
  have gz:GoodZ y.2:=by
   have hm:y∈numZ 0 (N.zones s):=hxs▸(by simp)
   obtain⟨i,hi,rfl⟩:=List.mem_iff_getElem.1 hm
   have hi':=hi
   rw[zcd]at hi'
   rw[ze0 hi']
   exact(zel hG).1 _ (List.getElem_mem hi')
  have mo:=gz.m
  have ol:=mo.len
  repeat (first|refine c_r ?_|refine rg0 ?_)
  refine rq ?_;intro gd K hgd hK
  try simp only[go_sem]
  refine za0 (P:=Tryz.prog) (l:=[ov,lv]) rfl (zem ho.isOne hr.isOne) rfl rfl ?_
  intro A1 hE6 hs6 hB6
  try simp only[go_sem]
  refine hK _ _ ?_;clear hK hgd;clear K;try clear gd
  refine zat ?_
  refine⟨rfl,zcK hE6 (by omega),fun Y hY=>?_⟩
  have f:∀{b:Nat} {O:Obj},A1.heap[b]? =some O→¬two w5.heap.size b→Y.heap[b]? =some O:=fun h hb=>(hY.block _ (Array.getElem?_eq_some_iff.1 h).1 hb).trans h
  have y8:=f (Ext.at hE6 k8) (by unfold two;omega)
  have y9:=f (Ext.at hE6 k9) (by unfold two;omega)
  have y5:=f (Ext.at hE6 k5) (by unfold two;omega)
  have y6:=f hB6 (by unfold two;omega)
  have hEY:Ext w Y:=Keep.to_ext (hEA.trans hE6) rfl (fun b hb=>by unfold two at hb;omega) hY
  have hsY:=hY.size
  have q8:zae Y (some ⟨b8,0,Option.none⟩)=some (vi B.1):=zab y8 rfl
  have q9:zae Y (some ⟨b8+1,0,Option.none⟩)=some (vi B.2):=zab y9 rfl
  have q5:zae Y (some ⟨w.heap.size+1,0,Option.none⟩)=some qv:=zab y5 rfl
  have q6:zae Y (some ⟨A.heap.size,0,Option.none⟩)=some ov:=zab y6 rfl
  obtain⟨ao,co,hov,_⟩:=id ho
  have holen:(y.2.o.map vs).length=y.2.o.length:=by simp
  rw[holen]at hov
  clear y5 y6
  repeat refine c_r ?_
  refine rcg [(4,21)] (an3 q5 q6 Nat.add_zero) (zcP Y qv ov q y.2.o (hq.ext hEY) (ho.ext (hE0.trans hEY)) mq.LB mo.LB (by omega) (by omega)) ?_
  rintro _ Z ⟨rfl,hZ⟩
  have z6:=zaa hZ q6
  have z9:=zaa hZ q9
  rw[hov]at z6
  have hEZ:=hEY.trans hZ
  have z8':=Ext.at hZ y8
  have z9':=Ext.at hZ y9
  have z5':=Ext.at hZ (f (Ext.at hE6 k5) (by unfold two;omega))
  have hkZ:KeepB (w5.heap.size+2) (fun b=>b=b8∨b=b8+1) Y Z:=zcK hZ (by omega)
  obtain⟨u,hu⟩:∃u,zaR q y.2.o=u:=⟨_,rfl⟩
  rw[hu]
  have hstay:(u=true∧B.2<(y.2.o.length:Int))∨zaS q B y=B:=by
   by_cases h:u=true∧B.2<(y.2.o.length:Int)
   ·exact .inl h
   ·exact .inr (by unfold zaS;rw[hu,if_neg h])
  cases u with
  |false=>
   have hst:zaS q B y=B:=hstay.resolve_left (fun h=>by cases h.1)
   refine reg [(4,21)] trivial ?_
   repeat refine c_r ?_
   refine wf trivial ?_
   repeat refine c_r ?_
   refine⟨⟨hEZ,?_,?_,z5'⟩,hkZ⟩
   ·rw[hfo,hst];exact z8'
   ·rw[hfo,hst];exact z9'
  |true=>
   refine reg [(4,21)] (an3 z6 z9 Nat.add_zero) ?_
   repeat refine c_r ?_
   by_cases hgt:B.2<(y.2.o.length:Int)
   ·refine wt (decide_eq_true hgt) ?_
    have hst:zaS q B y=((y.1:Int),(y.2.o.length:Int)):=by unfold zaS;rw[hu,if_pos ⟨rfl,hgt⟩]
    repeat refine c_r ?_
    refine zaJ (fun i=>i==5) [(0,true),(1,true),(2,true),(3,true),(4,false),(5,false)] ((fun i=>i=b8∨i=b8+1)) mixed (by kernel_rfl) ?_;intro gd K x hgd hx hxe hK;have hx0:=zhW hxe;clear hxe
    have z6x:=zaa hx0 z6
    have hsZ:=hZ.size
    have hsx:=hx0.size
    simp (disch:=first|omega|assumption|rfl) only[go_sem,z6x,Nat.add_zero]
    refine⟨fun a ha hb=>by cases ha;dsimp only at hb;omega,?_⟩
    refine zaY (P:=Tryz.prog) (t:=3) (j:=0) (u:=vi y.1) (l:=[vi B.1]) (Ext.at hx0 z8') (by simp) rfl rfl rfl ?_
    intro Z1 hsZ1 h8' hkZ1
    refine⟨.inr (hkZ1.mono fun i _ h=> .inl h),?_⟩
    simp (disch:=first|omega|assumption|rfl) only[go_sem]
    refine zaY (P:=Tryz.prog) (t:=3) (j:=0) (u:=vi y.2.o.length) (l:=[vi B.2]) ((hkZ1.block _ (by omega) (by omega)).trans (Ext.at hx0 z9')) (by simp) rfl rfl rfl ?_
    intro Z2 hsZ2 h9' hkZ2
    refine⟨.inl rfl,?_⟩
    simp (disch:=first|omega|assumption|rfl) only[go_sem]
    refine hK _ _ ?_;clear hK hgd;clear K;try clear gd
    have z5x:=Ext.at hx0 z5'
    repeat refine c_r ?_
    refine⟨⟨Keep.to_ext (Keep.to_ext (hEZ.trans hx0) rfl (fun b hb=>by omega) hkZ1) rfl (fun b hb=>by omega) hkZ2,?_,?_,?_⟩,(hkZ.trans (zcK hx0 (by omega))).trans ((hkZ1.toB (by omega) (fun i _ h=> .inl h)).trans (hkZ2.toB (by omega) (fun i _ h=> .inr h)))⟩
    ·rw[hfo,hst];exact(hkZ2.block _ (by omega) (by omega)).trans h8'
    ·rw[hfo,hst];exact h9'
    ·exact(hkZ2.block _ (by omega) (by omega)).trans ((hkZ1.block _ (by omega) (by omega)).trans z5x)
   ·refine wf (decide_eq_false hgt) ?_
    have hst:zaS q B y=B:=hstay.resolve_left (fun h=>hgt h.2)
    repeat refine c_r ?_
    refine⟨⟨hEZ,?_,?_,z5'⟩,hkZ⟩
    ·rw[hfo,hst];exact z8'
    ·rw[hfo,hst];exact z9'
 ·intro A hszA ⟨hEA,k8,k9,_⟩ hD
  have q8:zae A (some ⟨b8,0,Option.none⟩)=some (vi (zlX q (N.zones s)).1):=zab k8 rfl
  have q9:zae A (some ⟨b8+1,0,Option.none⟩)=some (vi (zlX q (N.zones s)).2):=zab k9 rfl
  repeat refine c_r ?_
  refine zaJ (fun _=>false) [(0,true),(1,true),(2,true),(3,true),(4,true)] NoS mixed (by kernel_rfl) ?_;intro gd K x hgd hx hxe hK;clear hxe
  have q8x:=zaa hx q8
  have q9x:=zaa hx q9
  simp (disch:=first|omega|assumption|rfl) only[go_sem,q8x,q9x]
  refine hK _ _ ?_;clear hK hgd;clear K;try clear gd
  repeat refine c_r ?_
  refine zkF (v:=vi (zcy N s q).1) (v':= .bool (zcy N s q).2) (.inr rfl) (by rfl) Tryz.ntmps148 (vr0) (vr0) (Ext.at hx hD) ?_
  intro Z hkZ hsZ
  exact⟨rfl,Keep.to_ext (hEA.trans hx) rfl (fun b hb=>by omega) hkZ⟩
theorem zl5{w0 w:World}(hE0:Ext w0 w){cs:List Value}{N:NetL}{s:Int}{q:Nm}{qv:Value}(hN:NetAt w0 cs N)(hG:NetZ N)(hq:Row w qv (q.map vs))(mq:NmM q):
  Fn Tryz.prog 150 #[.agg cs.toArray,vi s,qv] w (fun v w'=>v= .bool (zcy N s q).2∧Ext w w'):=by
 have hN0:=hN
 obtain⟨hv,rv,rfl,hh,hr⟩:=hN.ex
 obtain⟨ah,ch,hhv,_⟩:=hh.open
 obtain⟨ar,cr,hrv,_⟩:=id hr
 refine enter Tryz.func150 Tryz.ntmps150 rfl rfl ?_
 repeat refine c_r ?_
 rw[hhv,hrv]
 refine rg0 ?_
 rw[←hhv,←hrv]
 repeat refine c_r ?_
 refine zaB ?_
 intro w1 hE1 hs1 hA
 have d:=zah (n:=4) (l:=[hv,rv,vi N.rw,vi N.rf]) hA rfl
 repeat refine c_r ?_
 refine rc d (zmo (s:=s) (hE0.trans hE1) hN0 hG (hq.ext hE1) mq) ?_
 rintro _ w2 ⟨rfl,hE2⟩
 refine re trivial ?_
 repeat refine c_r ?_
 refine rg0 ?_
 repeat refine c_r ?_
 refine rt0 Tryz.ntmps150 ?_
 exact⟨rfl,hE1.trans hE2⟩
theorem zone_at{w:World}{hv:Value}{N:NetL}{s k:Int}{z:zco}(hh:Rows 6 (HostC w) w hv N.hosts)(hz:(N.zones s)[k.toNat]? =some z)(hk:0≤k):
  ∃(i j:Nat) (ah:Addr) (ch:Nat) (xi x5 az:Addr) (cz nz:Nat) (xz:Addr) (ov lv:Value),s=(i:Int)∧k=(j:Int)∧i<N.hosts.length∧j<nz∧hv= .slice (some ah) N.hosts.length ch∧adr (some ah) (i*6)=some xi∧adr (some xi) 5=some x5∧zae w (some x5)=some (.slice (some az) nz cz)∧adr (some az) (j*2)=some xz∧
   zau w (some xz) 2=some [ov,lv]∧Row w ov (z.o.map vs)∧Rows 7 (RecAt w) w lv z.recs:=by
 unfold NetL.zones at hz
 split at hz
 ·simp at hz
 rename_i hs
 cases hh':N.hosts[s.toNat]? with
 |none=>rw[hh']at hz;simp at hz
 |some h=>
  rw[hh']at hz
  dsimp only at hz
  obtain⟨hi,hhi⟩:=List.getElem?_eq_some_iff.1 hh'
  obtain⟨hj,hzj⟩:=List.getElem?_eq_some_iff.1 hz
  obtain⟨ah,ch,rfl,_,hgh⟩:=hh.open
  obtain⟨cs,hcs,hH⟩:=hgh _ hi
  rw[hhi]at hH
  obtain⟨nv,b1,b2,b3,b4,zv,rfl,_,_,hzr⟩:=hH.ex
  obtain⟨az,cz,rfl,_,hgz⟩:=hzr.open
  obtain⟨c2,hc2,hZ⟩:=hgz _ hj
  rw[hzj]at hZ
  obtain⟨ov,lv,rfl,ho,hr⟩:=hZ.ex
  obtain⟨xh,rfl⟩:=Option.isSome_iff_exists.1 (zas hcs)
  obtain⟨xz,rfl⟩:=Option.isSome_iff_exists.1 (zas hc2)
  obtain⟨xi,hxi⟩:∃xi,adr (some xh) (s.toNat*6)=some xi:=⟨_,rfl⟩
  obtain⟨x5,hx5⟩:∃x,adr (some xi) 5=some x:=⟨_,rfl⟩
  obtain⟨xk,hxk⟩:∃xi,adr (some xz) (k.toNat*2)=some xi:=⟨_,rfl⟩
  rw[hxi]at hcs
  rw[hxk]at hc2
  exact⟨s.toNat,k.toNat,xh,ch,xi,x5,xz,cz,_,xk,ov,lv,by omega,by omega,hi,hj,rfl,hxi,hx5,by rw[←hx5];exact zax hcs rfl,hxk,hc2,ho,hr⟩
theorem ones5{a b c:Value}{k:Int}{d:Bool}(ha:one a=true)(hb:one b=true)(hc:one c=true):∀v∈ [vi k,a,b,.bool d,c],one v=true:=fun v h=>by
 simp at h
 rcases h with rfl|rfl|rfl|rfl|rfl<;>first|assumption|rfl
theorem nil_res{w0 w:World}{B:Nat}{k:Int}{b:Bool}:ResB w0 B w [vi k,.slice Option.none 0 0,.slice Option.none 0 0,.bool b,.slice Option.none 0 0] ⟨k,[],[],b,[]⟩:=
 ⟨_,_,_,rfl,Rows.nil _ _ _,BlkB.nil,.inr (zbd _),Rows.nil _ _ _,BlkB.nil⟩
theorem Ask_ok{w0 w:World}(hE0:Ext w0 w){cs:List Value}{N:NetL}{s:Int}{q:Nm}{qv:Value}{t:Int}(hN:NetAt w0 cs N)(hG:NetZ N)(hq:Row w qv (q.map vs))(mq:NmM q):
  Fn Tryz.prog 93 #[.agg cs.toArray,vi s,qv,vi t] w (fun v w'=>Ext w w'∧∃cs,v= .agg cs.toArray∧ResB w0 w.heap.size w' cs (askN N s q t)):=by
 have hN0:=hN
 obtain⟨hv,rv,rfl,hh,hr⟩:=hN.ex
 obtain⟨ah,ch,hhv,_⟩:=hh.open
 obtain⟨ar,cr,hrv,_⟩:=id hr
 refine enter Tryz.func93 Tryz.ntmps93 rfl rfl ?_
 repeat refine c_r ?_
 rw[hhv,hrv]
 refine rg0 ?_
 rw[←hhv,←hrv]
 repeat refine c_r ?_
 rw[zaj]
 refine zaO ?_
 intro w1 hE1 hs1 hA hC
 have d:=zah (n:=4) (l:=[hv,rv,vi N.rw,vi N.rf]) hA rfl
 repeat refine c_r ?_
 refine rc d (zmo (s:=s) (hE0.trans hE1) hN0 hG (hq.ext hE1) mq) ?_
 rintro _ w2 ⟨rfl,hE2⟩
 refine re trivial ?_
 have hE02:=hE0.trans (hE1.trans hE2)
 have hC2:=Ext.at hE2 hC
 have d2:=zad hE2 d
 repeat refine c_r ?_
 refine rg0 ?_
 repeat refine c_r ?_
 cases hb:(zcy N s q).2 with
 |false=>
  have hk:askN N s q t=⟨7,[],[],false,[]⟩:=by unfold askN;rw[hb];rfl
  refine wt trivial ?_
  repeat refine c_r ?_
  refine rq ?_;intro gd K hgd hK
  try simp only[go_sem]
  refine⟨by kernel_rfl,?_⟩
  rw[show bdV Tryz.prog 184 [(0,vi 7)]=some (.agg #[vi 7,.slice Option.none 0 0,.slice Option.none 0 0,.bool false,.slice Option.none 0 0]) from by kernel_rfl]
  try simp only[go_sem]
  refine zaM (P:=Tryz.prog) (t:=184) (l:=[vi 7,.slice Option.none 0 0,.slice Option.none 0 0,.bool false,.slice Option.none 0 0]) hC2 rfl (ones5 rfl rfl rfl) rfl rfl ?_
  intro z hz' hbz hkz
  try simp only[go_sem]
  refine hK _ _ ?_;clear hK hgd;clear K;try clear gd
  repeat refine c_r ?_
  refine zaE (.inr rfl) Tryz.ntmps93 rfl (zaZ (x:=⟨w.heap.size+1,0,Option.none⟩) (k:=5) (vq0) rfl rfl (zah hbz rfl) zaz) ?_
  exact⟨Keep.to_ext (hE1.trans hE2) rfl (fun b hb=>by omega) hkz,_,rfl,by rw[hk];exact nil_res⟩
 |true=>
  obtain⟨hk0,hk1⟩:=bestN_in hb
  obtain⟨z,hz⟩:∃z,(N.zones s)[(zcy N s q).1.toNat]? =some z:=⟨_,List.getElem?_eq_getElem (by omega)⟩
  have hk:askN N s q t=zbj z.o z.recs q t:=by unfold askN;rw[hb,hz];rfl
  have gz:=(zel hG).1 z (List.mem_of_getElem? hz)
  obtain⟨i,j,xh,c1,xi,x5,az,cz,nz,xz,ov,lv,rfl,hkj,hi,hj,rfl,hxi,hx5,pz,hxz,dz,ho,hl⟩:=zone_at hh hz hk0
  rw[hkj]
  refine wf trivial ?_
  have p0:zae w2 (some ⟨w.heap.size,0,Option.none⟩)=some (.slice (some xh) N.hosts.length c1):=zab (Ext.at hE2 hA) rfl
  have pz2:=zaa hE02 pz
  have dz2:=zad hE02 dz
  have i0:(0:Int)≤(i:Int):=by omega
  have i1:(i:Int)<(N.hosts.length:Int):=by omega
  have j0:(0:Int)≤(j:Int):=by omega
  have j1:(j:Int)<(nz:Int):=by omega
  repeat refine c_r ?_
  refine rq ?_;intro gd K hgd hK
  try simp (disch:=first|omega|assumption|rfl) only[go_sem,p0,i0,i1,j0,j1,hxi,hx5,pz2,hxz,dz2,Nat.add_zero]
  refine Fn.mono (Zone_ok (t:=t) (gz.zn hE02 (ho.ext hE02) (hl.ext hE02)) gz.c.gd (hq.ext (hE1.trans hE2)) mq) ?_
  rintro _ w3 ⟨hE3,cs,rfl,hres⟩
  try simp only[go_sem]
  refine zaM (P:=Tryz.prog) (t:=184) (l:=cs) (Ext.at hE3 hC2) hres.cells.1 hres.cells.2 (by rw[hres.cells.1];rfl) rfl ?_
  intro z hz' hbz hkz
  try simp only[go_sem]
  refine hK _ _ ?_;clear hK hgd;clear K;try clear gd
  repeat refine c_r ?_
  refine zaE (.inr rfl) Tryz.ntmps93 rfl (zaZ (x:=⟨w.heap.size+1,0,Option.none⟩) (k:=5) (vq0) rfl rfl (zah hbz hres.cells.1.symm) zaz) ?_
  have hs2:=hE2.size
  exact⟨Keep.to_ext (hE1.trans (hE2.trans hE3)) rfl (fun b hb=>by omega) hkz,_,rfl,by rw[hk];exact(hres.keep hkz (fun b h1 _ h2=>by omega)).mono (by omega)⟩
structure TellD(w0 w:World)(g:FuncId)(cap:List Value)(p:DatL→Bool)(R:List DatL):Prop where
 call:zan Tryz.prog g=true
 tell:∀(A:World) (cs:List Value) (r:DatL),Ext w A→r∈R→DatAt w0 cs r→Fn Tryz.prog g (.agg cs.toArray::cap).toArray A (fun v A'=>v= .bool (p r)∧Ext A A')
theorem zmk{w0 w:World}{lv:Value}{R:List DatL}{g:FuncId}{cap:List Value}{p:DatL→Bool}(hl:Rows 5 (DatAt w0) w lv R)(ht:TellD w0 w g cap p R)(hlen:R.length≤1000000000):
  Fn Tryz.prog 284 #[lv,.func (.func g) #[] cap.toArray] w (fun v w'=>Ext w w'∧∃i:Int,v=vi i∧decide (i≥0)=R.any p):=by
 obtain⟨hcal,htell⟩:=ht
 obtain⟨aR,cR,rfl,hcR,hgR⟩:=hl.open
 refine enter Tryz.func284 Tryz.ntmps284 rfl rfl ?_
 repeat refine c_r ?_
 refine rg0 ?_
 repeat refine c_r ?_
 refine rg0 ?_
 repeat refine c_r ?_
 refine zam (fun m σ ds A=>ds=[]∧∃(i:Nat),i+m=R.length∧σ 8=vi i∧σ 7=vi R.length∧σ 0= .slice aR R.length cR∧σ 1= .func (.func g) #[] cap.toArray∧Ext w A∧∀j (h:j<R.length),j<i→p R[j]=false) R.length ?_ ?_
 ·exact⟨rfl,0,by omega,vr0,vq0,vq0,vq0,Keep.refl _ _,fun j h hj=>absurd hj (by omega)⟩
 rintro m σ ds A ⟨rfl,i,him,h8,h7,h0,h1,hEA,hlow⟩
 repeat refine c_r ?_
 refine rg2 h8 h7 ?_
 repeat refine c_r ?_
 refine wc0 ?_ ?_
 ·intro hlt
  simp only[decide_eq_true_eq]at hlt
  have hiR:i<R.length:=by omega
  have hi0:(0:Int)≤(i:Int):=by omega
  have hi1:(i:Int)<(R.length:Int):=by omega
  have hi1':(i:Int)+1=((i+1:Nat):Int):=by push_cast;rfl
  obtain⟨cr,hcr,hRr⟩:=hgR i hiR
  obtain⟨xR,rfl⟩:=Option.isSome_iff_exists.1 (zas hcr)
  have hcrA:=zad hEA hcr
  repeat refine c_r ?_
  refine rg1 h8 ?_
  repeat refine c_r ?_
  refine rq ?_;intro gd K hgd hK
  try simp (disch:=first|omega|assumption|rfl) only[go_sem,h0,h1,hi0,hi1,hcrA]
  refine zbB hcal (Fn.mono (htell A cr R[i] hEA (List.getElem_mem hiR) hRr) ?_)
  rintro _ A1 ⟨rfl,hE1⟩
  try simp only[go_sem]
  refine hK _ _ ?_;clear hK hgd;clear K;try clear gd
  repeat refine c_r ?_
  refine wc0 ?_ ?_
  ·intro ht
   repeat (first|refine c_r ?_|refine rg0 ?_)
   refine rt0 Tryz.ntmps284 ?_
   refine⟨hEA.trans hE1,_,rfl,?_⟩
   rw[show R.any p=true from List.any_eq_true.2 ⟨_,List.getElem_mem hiR,ht⟩]
   exact decide_eq_true (by omega)
  ·intro ht
   repeat refine c_r ?_
   refine rg2 h8 hi1' ?_
   repeat refine c_r ?_
   refine⟨m - 1,by omega,rfl,i+1,by omega,vq0,(vq1 h7),(vq1 h0),(vq1 h1),hEA.trans hE1,fun j hj hji=>?_⟩
   by_cases hj2:j=i
   ·subst hj2;exact ht
   ·exact hlow j hj (by omega)
 ·intro hge
  simp only[decide_eq_false_iff_not]at hge
  repeat (first|refine c_r ?_|refine rg0 ?_)
  refine rt0 Tryz.ntmps284 ?_
  refine⟨hEA,_,rfl,?_⟩
  have:R.any p=false:=by
   rw[List.any_eq_false]
   intro x hx
   obtain⟨j,hj,rfl⟩:=List.getElem_of_mem hx
   rw[hlow j hj (by omega)];exact Bool.false_ne_true
  rw[this];rfl
theorem zeR{w0 w:World}{lv:Value}{R:List DatL}{g:FuncId}{cap:List Value}{p:DatL→Bool}(hl:Rows 5 (DatAt w0) w lv R)(ht:TellD w0 w g cap p R)(hlen:R.length≤1000000000):
  Fn Tryz.prog 254 #[lv,.func (.func g) #[] cap.toArray] w (fun v w'=>v= .bool (R.any p)∧Ext w w'):=by
 refine enter Tryz.func254 Tryz.ntmps254 rfl rfl ?_
 repeat refine c_r ?_
 refine rg0 ?_
 repeat refine c_r ?_
 refine rq ?_;intro gd K hgd hK
 try simp only[go_sem]
 refine Fn.mono (zmk hl ht hlen) ?_
 rintro _ w1 ⟨hE1,i,rfl,hi⟩
 try simp only[go_sem]
 refine hK _ _ ?_;clear hK hgd;clear K;try clear gd
 repeat refine c_r ?_
 refine rt0 Tryz.ntmps254 ?_
 exact⟨by rw[hi],hE1⟩
theorem zmp(w:World)(a b:Value)(xs ys:List UInt8)(ha:Row w a (xs.map zaf))(hb:Row w b (ys.map zaf)):Fn Tryz.prog 257 #[a,b] w (fun v w'=>v= .bool (decide (xs=ys))∧w'=w):=by
 obtain⟨a1,c1,rfl,_,h1⟩:=ha
 obtain⟨a2,c2,rfl,_,h2⟩:=hb
 simp only[List.length_map]at h1 h2 ⊢
 refine enter Tryz.func257 Tryz.ntmps257 rfl rfl ?_
 repeat refine c_r ?_
 refine rg0 ?_
 repeat refine c_r ?_
 refine rq ?_;intro gd K hgd hK
 try simp only[go_sem]
 refine zb3 (l:=xs) rfl rfl rfl (vq0) (fun j hj=>by have:=h1 j (by simpa using hj);simpa using this) ?_
 try simp only[go_sem]
 refine zb3 (l:=ys) rfl rfl rfl (vq0) (fun j hj=>by have:=h2 j (by simpa using hj);simpa using this) ?_
 try simp only[go_sem]
 refine hK _ _ ?_;clear hK hgd;clear K;try clear gd
 repeat refine c_r ?_
 refine rt0 Tryz.ntmps257 ?_
 exact⟨rfl,rfl⟩
def isA(d:DatL):Bool:=decide (d.ty=1)
def isG(addr:List UInt8)(d:DatL):Bool:=isA d && decide (d.raw=addr)
theorem IsA_ok{w0 A:World}{cs:List Value}{r:DatL}(hcs:DatAt w0 cs r):Fn Tryz.prog 253 #[.agg cs.toArray] A (fun v A'=>v= .bool (isA r)∧Ext A A'):=by
 obtain⟨nm,nu,tx,rw',rfl,h1,h2,h3,h4⟩:=hcs.ex
 refine enter Tryz.func253 Tryz.ntmps253 rfl rfl ?_
 repeat refine c_r ?_
 refine rg0 ?_
 repeat refine c_r ?_
 refine zaB ?_
 intro w1 hE1 hs1 hA
 have p0:zae w1 (some ⟨A.heap.size,0,Option.none⟩)=some (vi r.ty):=zab hA rfl
 refine rg2 p0 Nat.add_zero ?_
 repeat refine c_r ?_
 refine rt0 Tryz.ntmps253 ?_
 exact⟨rfl,hE1⟩
theorem tell_A{w0 w:World}{ds:List DatL}:TellD w0 w 253 [] isA ds:=⟨rfl,fun A cs r _ _ hcs=>IsA_ok hcs⟩
theorem tell_G{w0 w:World}{bf bh:Nat}{nv zv:Value}{a b c d:UInt8}{ds:List DatL}(hE0:Ext w0 w)(hf:w.heap[bf]? =some (.cells #[.func (.func 253) #[] #[]] 352 (0,0)))(hh:w.heap[bh]? =some (.cells #[nv,zaf a,zaf b,zaf c,zaf d,zv] 116 (0,0))):
  TellD w0 w 256 [.pointer (some ⟨bf,0,Option.none⟩),.pointer (some ⟨bh,0,Option.none⟩)] (isG [a,b,c,d]) ds:=by
 refine⟨rfl,fun A cs r hE hr hcs=>?_⟩
 have hcs0:=hcs
 obtain⟨nm,nu,tx,rw',rfl,h1,h2,h3,h4⟩:=hcs.ex
 obtain⟨vals,⟨a1,c1,rfl,_⟩,_⟩:=id h1
 obtain⟨a2,c2,rfl,_⟩:=id h2
 obtain⟨a3,c3,rfl,_⟩:=id h3
 obtain⟨a4,c4,hrw,_⟩:=id h4
 refine enter Tryz.func256 Tryz.ntmps256 rfl rfl ?_
 repeat refine c_r ?_
 rw[hrw]
 refine rg0 ?_
 rw[←hrw]
 repeat refine c_r ?_
 refine zaB ?_
 intro w1 hE1 hs1 hA
 have hE01:=hE0.trans (hE.trans hE1)
 have pf:zae w1 (some ⟨bf,0,Option.none⟩)=some (.func (.func 253) #[] #[]):=zab (Ext.at (hE.trans hE1) hf) rfl
 have hhA:=Ext.at (hE.trans hE1) hh
 have d5:=zah (n:=5) (l:=[vi r.ty,_,_,_,rw']) hA rfl
 have p4:zae w1 (some ⟨A.heap.size,4,Option.none⟩)=some rw':=zab hA rfl
 have hadr:Row w1 (.slice (some ⟨bh,1,Option.none⟩) 4 4) ([a,b,c,d].map zaf):=⟨some ⟨bh,1,Option.none⟩,4,rfl,Nat.le_refl _,fun j hj=>by
  have hj4:j<4:=by simpa using hj
  have:adr (some ⟨bh,1,Option.none⟩) j=some ⟨bh,1+j,Option.none⟩:=by simp[adr,Addr.add]
  rw[this]
  refine zab hhA ?_
  match j,hj4 with
  |0,_=>rfl
  |1,_=>rfl
  |2,_=>rfl
  |3,_=>rfl⟩
 repeat refine c_r ?_
 refine zaJ (fun _=>false) [(0,true),(1,true),(2,false),(3,true),(4,true),(5,true),(6,true),(7,false),(8,false),(9,true),(10,true)] NoS mixed (by kernel_rfl) ?_;intro gd K x hgd hx hxe hK;clear hxe
 have hg3:∀n σ b,zav gd n σ (some (3,b))=zak (ev n σ (.tmp 8)) b:=(fun n σ b=>by rw[zac,show gd 3=some 8 from(by rw[hgd];rfl)];rfl)
 have pfx:=zaa hx pf
 have d5x:=zad hx d5
 have p4x:=zaa hx p4
 simp (disch:=first|omega|assumption|rfl) only[go_sem,pfx,d5x]
 refine Fn.mono (IsA_ok hcs0) ?_
 rintro _ y1 ⟨rfl,hy1⟩
 refine⟨.inr hy1,?_⟩
 have p4y:=zaa hy1 p4x
 cases hai:isA r with
 |false=>
  simp (disch:=first|omega|assumption|rfl) only[go_sem,↓hg3]
  refine hK _ _ ?_;clear hK hgd;clear K;try clear gd
  repeat refine c_r ?_
  refine rt0 Tryz.ntmps256 ?_
  exact⟨by unfold isG;rw[hai];rfl,(hE1.trans hx).trans hy1⟩
 |true=>
  simp (disch:=first|omega|assumption|rfl) only[go_sem,p4y,↓hg3]
  refine op_slA rfl (by decide) (by kernel_rfl) (vq0) ?_
  refine⟨.inr (Keep.refl _ _),?_⟩
  simp (disch:=first|omega|assumption|rfl) only[go_sem,↓hg3]
  refine Fn.mono (zmp _ _ _ _ _ (h4.ext ((hE01.trans hx).trans hy1)) (hadr.ext (hx.trans hy1))) ?_
  rintro _ _ ⟨rfl,rfl⟩
  refine⟨.inr (Keep.refl _ _),?_⟩
  simp (disch:=first|omega|assumption|rfl) only[go_sem,↓hg3]
  refine hK _ _ ?_;clear hK hgd;clear K;try clear gd
  repeat refine c_r ?_
  refine rt0 Tryz.ntmps256 ?_
  exact⟨by unfold isG;rw[hai];rfl,(hE1.trans hx).trans hy1⟩
end Go.Proofs.YtahbdamijngmmaaGreat
namespace Go.Proofs.YtahbdamijngmmaaGreat.P_ci
open Go Go.Proofs.YtahbdamijngmmaaGreat
set_option maxRecDepth 10000
theorem Clip_ok{w:World}{a:Option Addr}{n c:Nat}(hc:n≤c):Fn Tryz.prog 90 #[.slice a n c] w (fun u w'=>u= .slice a n n∧w'=w):=by
 refine enter Tryz.func90 Tryz.ntmps90 rfl rfl ?_
 repeat refine c_r ?_
 refine rg0 ?_
 repeat refine c_r ?_
 refine rq ?_;intro gd K hgd hK
 try simp only[go_sem]
 have hcl:slD Tryz.prog (some (TypeDesc.slice 3)) (Value.slice a n c) Option.none (some (Value.int IntKind.i64 ↑n)) (some (Value.int IntKind.i64 ↑n))=some (.slice a n n):=zdW hc (by rfl)
 rw[hcl]
 try simp only[go_sem]
 refine hK _ _ ?_;clear hK hgd;clear K;try clear gd
 repeat refine c_r ?_
 refine rt0 Tryz.ntmps90 ?_
 exact⟨rfl,rfl⟩
end Go.Proofs.YtahbdamijngmmaaGreat.P_ci
namespace Go.Proofs.YtahbdamijngmmaaGreat
open Go
set_option maxRecDepth 10000
structure TellH(w0 w:World)(g:FuncId)(cap:List Value)(p:zeA→Bool)(R:List zeA):Prop where
 call:zan Tryz.prog g=true
 tell:∀(A:World) (cs:List Value) (r:zeA),Ext w A→r∈R→HostC w0 cs r→Fn Tryz.prog g (.agg cs.toArray::cap).toArray A (fun v A'=>v= .bool (p r)∧Ext A A')
theorem HostC.one{w:World}{cs:List Value}{h:zeA}(hc:HostC w cs h):cs.length=6∧∀v∈cs,one v=true:=by
 obtain⟨nv,a,b,c,d,zv,rfl,_,h1,h2⟩:=hc.ex
 refine⟨rfl,fun v hv=>?_⟩
 simp at hv
 rcases hv with rfl|rfl|rfl|rfl|rfl|rfl<;>first|exact h1.isOne|exact h2.isOne|rfl
theorem tell_N{w0 w:World}{bn:Nat}{hv:Value}{host:Nm}{R:List zeA}(hE0:Ext w0 w)(hb:w.heap[bn]? =some (.cells #[hv] 27 (0,0)))(hh:Row w0 hv (host.map vs))(mh:NmM host)(hR:∀h∈R,NmM h.name):
  TellH w0 w 252 [.pointer (some ⟨bn,0,Option.none⟩)] (fun h=>decide (zai h.name=zai host)) R:=by
 refine⟨rfl,fun A cs r hE hr hcs=>?_⟩
 obtain⟨nv,a,b,c,d,zv,rfl,_,h1,h2⟩:=hcs.ex
 have mr:=hR r hr
 have l1:=mr.len
 have l2:=mh.len
 have e1:=h1.isOne
 have e2:=h2.isOne
 obtain⟨a1,c1,hnv,_⟩:=id h1
 obtain⟨a2,c2,hzv,_⟩:=h2.open
 refine enter Tryz.func252 Tryz.ntmps252 rfl rfl ?_
 repeat refine c_r ?_
 rw[hnv,hzv]
 refine rg0 ?_
 rw[←hnv,←hzv]
 repeat refine c_r ?_
 refine zaB ?_
 intro w1 hE1 hs1 hA
 have p0:zae w1 (some ⟨A.heap.size,0,Option.none⟩)=some nv:=zab hA rfl
 have p1:zae w1 (some ⟨bn,0,Option.none⟩)=some hv:=zab (Ext.at (hE.trans hE1) hb) rfl
 have hE01:=hE0.trans (hE.trans hE1)
 repeat refine c_r ?_
 refine rc (an3 p0 p1 Nat.add_zero) (zez w1 nv hv r.name host (h1.ext hE01) (hh.ext hE01) mr.LB mh.LB (by omega) (by omega)) ?_
 rintro _ w2 ⟨rfl,hE2⟩
 refine re trivial ?_
 repeat refine c_r ?_
 refine rt0 Tryz.ntmps252 ?_
 exact⟨rfl,hE1.trans hE2⟩
theorem tell_M{w0 w:World}{bg bf:Nat}{gv:Value}{glue:List DatL}{R:List zeA}(hE0:Ext w0 w)(hb:w.heap[bg]? =some (.cells #[gv] 181 (0,0)))(hf:w.heap[bf]? =some (.cells #[.func (.func 253) #[] #[]] 352 (0,0)))(hg:Rows 5 (DatAt w0) w gv glue)(hgl:glue.length≤1000000000):
  TellH w0 w 255 [.pointer (some ⟨bg,0,Option.none⟩),.pointer (some ⟨bf,0,Option.none⟩)] (fun h=>glue.any (isG h.addr)) R:=by
 refine⟨rfl,fun A cs r hE hr hcs=>?_⟩
 obtain⟨nv,a,b,c,d,zv,rfl,ha,h1,h2⟩:=hcs.ex
 obtain⟨a1,c1,hnv,_⟩:=id h1
 obtain⟨a2,c2,hzv,_⟩:=h2.open
 refine enter Tryz.func255 Tryz.ntmps255 rfl rfl ?_
 repeat refine c_r ?_
 rw[hnv,hzv]
 refine rg0 ?_
 rw[←hnv,←hzv]
 repeat refine c_r ?_
 refine zaB ?_
 intro w1 hE1 hs1 hA
 have p1:zae w1 (some ⟨bg,0,Option.none⟩)=some gv:=zab (Ext.at (hE.trans hE1) hb) rfl
 have hE01:=hE0.trans (hE.trans hE1)
 repeat refine c_r ?_
 refine rc p1 (zeR (hg.ext (hE.trans hE1)) (tell_G hE01 (Ext.at (hE.trans hE1) hf) hA) hgl) ?_
 rintro _ w2 ⟨rfl,hE2⟩
 refine re trivial ?_
 repeat refine c_r ?_
 refine rt0 Tryz.ntmps255 ?_
 exact⟨by rw[ha],hE1.trans hE2⟩
def zc2(host:Nm)(glue:List DatL)(h:zeA):Bool:=if glue.any isA=true then glue.any (isG h.addr) else decide (zai h.name=zai host)
def zcY{α:Type}(p:α→Bool):Nat→List α→List Int
 |_,[]=>[]
 |i,h::l=>(if p h=true then [(i:Int)] else [])++zcY p (i+1) l
def zk8(N:NetL)(host:Nm)(glue:List DatL):List Int:=zcY (zc2 host glue) 0 N.hosts
theorem zhr{α:Type}{p:α→Bool}:∀{l m:List α} {i:Nat},zcY p i (l++m)=zcY p i l++zcY p (i+l.length) m
 | [],m,i=>by simp[zcY]
 |h::l,m,i=>by
  simp only[List.cons_append,zcY,List.append_assoc]
  rw[zhr (l:=l),List.length_cons,show i+1+l.length=i+(l.length+1) from by omega]
theorem zjJ{α:Type}{p:α→Bool}{l:List α}{i:Nat}(hi:i<l.length):zcY p 0 (l.take (i+1))=zcY p 0 (l.take i)++if p l[i]=true then [(i:Int)] else []:=by
 rw[zao hi,zhr]
 simp only[zcY,List.append_nil,List.length_take]
 rw[show 0+min i l.length=i from by omega]
theorem zfp{α:Type}{p:α→Bool}:∀{l:List α} {i:Nat},(zcY p i l).length≤l.length
 | [],i=>by simp[zcY]
 |h::l,i=>by
  have:=zfp (p:=p) (l:=l) (i:=i+1)
  simp only[zcY,List.length_append,List.length_cons]
  split<;>simp<;>omega
theorem Meant_ok{w0 w:World}(hE0:Ext w0 w){cs:List Value}{N:NetL}{host:Nm}{hv gv:Value}{glue:List DatL}(hN:NetAt w0 cs N)(hG:NetZ N)(hh:Row w0 hv (host.map vs))(mh:NmM host)(hg:Rows 5 (DatAt w0) w gv glue)(hgl:glue.length≤1000000000):
  Fn Tryz.prog 205 #[.agg cs.toArray,hv,gv] w (fun v w'=>Ext w w'∧Row w' v ((zk8 N host glue).map vi)∧BlkB w.heap.size w' v):=by
 obtain⟨hs,rs,rfl,hhs,hr⟩:=hN.ex
 obtain⟨ah,ch,rfl,hch,hgh⟩:=hhs.open
 obtain⟨ar,cr,hrv,_⟩:=id hr
 obtain⟨a1,c1,hnv,_⟩:=id hh
 obtain⟨a2,c2,hgv,_⟩:=hg.open
 have hl:=hG.hl
 refine enter Tryz.func205 Tryz.ntmps205 rfl rfl ?_
 repeat refine c_r ?_
 rw[hrv,hnv,hgv]
 refine rg0 ?_
 rw[←hrv,←hnv,←hgv]
 repeat refine c_r ?_
 rw[zaj,zaj,zaj]
 refine zdv ?_
 intro w1 hE1 hs1 hA hB hC
 repeat refine c_r ?_
 refine rg0 ?_
 repeat refine c_r ?_
 refine rq ?_;intro gd K hgd hK
 try simp only[go_sem]
 refine st_al1 ?_
 intro w2 hE2 hs2 hD
 refine zaY (P:=Tryz.prog) (t:=352) (j:=0) (u:= .func (.func 253) #[] #[]) (l:=[_]) hD (by simp) rfl rfl rfl ?_
 intro w3 hs3 hD3 hk3
 try simp only[go_sem]
 refine hK _ _ ?_;clear hK hgd;clear K;try clear gd
 simp only[List.set_cons_zero]at hD3
 obtain⟨b8,hb8⟩:∃b,w1.heap.size=b:=⟨_,rfl⟩
 rw[hb8]at hD3 hk3 hs2 ⊢
 have hE3:Ext w w3:=Keep.to_ext (hE1.trans hE2) rfl (fun b hb=>by omega) hk3
 have up:∀{b:Nat} {O:Obj},w1.heap[b]? =some O→w3.heap[b]? =some O:=fun {b O} h=>(hk3.block _ (by have:=(Array.getElem?_eq_some_iff.1 h).1;omega) (by have:=(Array.getElem?_eq_some_iff.1 h).1;omega)).trans (Ext.at hE2 h)
 have p0:zae w3 (some ⟨w.heap.size,0,Option.none⟩)=some (.slice ah N.hosts.length ch):=zab (up hA) rfl
 have pC:zae w3 (some ⟨w.heap.size+1+1,0,Option.none⟩)=some gv:=zab (up hC) rfl
 have pD:zae w3 (some ⟨b8,0,Option.none⟩)=some (.func (.func 253) #[] #[]):=zab hD3 rfl
 repeat refine c_r ?_
 refine rc (an2 pC pD) (zeR (hg.ext hE3) tell_A hgl) ?_
 rintro _ w4 ⟨rfl,hE4⟩
 refine re trivial ?_
 have hE34:=hE3.trans hE4
 have hE04:=hE0.trans hE34
 repeat refine c_r ?_
 refine zay (Q:=fun e σ' ds' v'=>e= .normal∧ds'=[]∧v'=w4∧σ' 3= .pointer (some ⟨w.heap.size,0,Option.none⟩)∧∃g cap,σ' 7= .func (.func g) #[] cap.toArray∧TellH w0 w4 g cap (zc2 host glue) N.hosts) ?_ ?_
 ·cases hany:glue.any isA with
  |true=>
   refine wt trivial ?_
   repeat refine c_r ?_
   refine rg0 ?_
   have hp:zc2 host glue=fun h=>glue.any (isG h.addr):=funext fun h=>by unfold zc2;rw[hany];rfl
   exact⟨rfl,rfl,rfl,vq0,255,[.pointer (some ⟨w.heap.size+1+1,0,Option.none⟩),.pointer (some ⟨b8,0,Option.none⟩)],vr0,by rw[hp];exact tell_M hE04 (Ext.at hE4 (up hC)) (Ext.at hE4 hD3) (hg.ext hE34) hgl⟩
  |false=>
   refine wf trivial ?_
   repeat refine c_r ?_
   have hp:zc2 host glue=fun h=>decide (zai h.name=zai host):=funext fun h=>by unfold zc2;rw[hany];rfl
   exact⟨rfl,rfl,rfl,vq0,252,[.pointer (some ⟨w.heap.size+1,0,Option.none⟩)],vr0,by rw[hp];exact tell_N hE04 (Ext.at hE4 (up hB)) hh mh hG.nm⟩
 rintro _ σ1 _ w5 ⟨rfl,rfl,rfl,h3,g,cap,h7,htell⟩
 have p0':=zaa hE4 p0
 repeat refine c_r ?_
 refine rg0 ?_
 repeat refine c_r ?_
 refine rg3 h3 p0' Nat.add_zero ?_
 repeat refine c_r ?_
 refine zam (fun m σ ds A=>ds=[]∧∃(i:Nat) (ov:Value),i+m=N.hosts.length∧σ 20=vi i∧σ 19=vi N.hosts.length∧σ 18= .slice ah N.hosts.length ch∧σ 7= .func (.func g) #[] cap.toArray∧σ 9=ov∧Own w5.heap.size A 3 ov ((zcY (zc2 host glue) 0 (N.hosts.take i)).map vi)∧Ext w5 A) N.hosts.length ?_ ?_
 ·exact⟨rfl,0,.slice Option.none 0 0,by omega,vr0,vq0,vq0,(vq1 h7),vq0,Own.nil _ _ _,Keep.refl _ _⟩
 rintro m σ ds A ⟨rfl,i,ov,him,s20,s19,s18,s7,s9,hown,hEA⟩
 repeat refine c_r ?_
 refine rg2 s20 s19 ?_
 repeat refine c_r ?_
 refine wc0 ?_ ?_
 ·intro hlt
  simp only[decide_eq_true_eq]at hlt
  have hi:i<N.hosts.length:=by omega
  have hi0:(0:Int)≤(i:Int):=by omega
  have hi1':(i:Int)+1=((i+1:Nat):Int):=by push_cast;rfl
  obtain⟨cs,hcs,hH⟩:=hgh i hi
  obtain⟨xz,rfl⟩:=Option.isSome_iff_exists.1 (zas hcs)
  obtain⟨xi,hxi⟩:∃xi,adr (some xz) (i*6)=some xi:=⟨_,rfl⟩
  rw[hxi]at hcs
  obtain⟨hc6,hc1⟩:=hH.one
  have d:=zad (hE04.trans hEA) hcs
  repeat refine c_r ?_
  refine rq ?_;intro gd K hgd hK
  try simp (disch:=first|omega|assumption|rfl) only[go_sem,s20,s18,hi0,hlt,hxi,d]
  refine za0 (P:=Tryz.prog) (l:=cs) (by rw[hc6];rfl) hc1 (by rw[hc6];rfl) rfl ?_
  intro A1 hE6 hs6 hB6
  try simp only[go_sem]
  refine hK _ _ ?_;clear hK hgd;clear K;try clear gd
  have d1:=zah (n:=6) hB6 hc6.symm
  repeat refine c_r ?_
  refine rq ?_;intro gd K hgd hK
  try simp (disch:=first|omega|assumption|rfl) only[go_sem,s7,d1]
  refine zbB htell.call (Fn.mono (htell.tell A1 cs N.hosts[i] (hEA.trans hE6) (List.getElem_mem hi) hH) ?_)
  rintro _ A2 ⟨rfl,hE7⟩
  try simp only[go_sem]
  refine hK _ _ ?_;clear hK hgd;clear K;try clear gd
  have hE67:=hE6.trans hE7
  have hown2:=hown.ext hE67
  have hpk:=zjJ (p:=zc2 host glue) hi
  have hlen:=zfp (p:=zc2 host glue) (l:=N.hosts.take i) (i:=0)
  have hsz:=(hEA.trans hE67).size
  repeat refine c_r ?_
  refine zay (Q:=fun e σ' ds' v'=>e= .normal∧ds'=[]∧σ' 20=vi i∧σ' 19=vi N.hosts.length∧σ' 18= .slice (some xz) N.hosts.length ch∧σ' 7= .func (.func g) #[] cap.toArray∧∃ov',σ' 9=ov'∧Own w5.heap.size v' 3 ov' ((zcY (zc2 host glue) 0 (N.hosts.take (i+1))).map vi)∧Ext w5 v') ?_ ?_
  ·cases hb:zc2 host glue N.hosts[i] with
   |false=>
    rw[hb,if_neg (by decide),List.append_nil]at hpk
    refine wf trivial ?_
    repeat refine c_r ?_
    exact⟨rfl,rfl,(vq1 s20),(vq1 s19),(vq1 s18),(vq1 s7),ov,(vq1 s9),by rw[hpk];exact hown2,hEA.trans hE67⟩
   |true=>
    rw[hb,if_pos rfl]at hpk
    refine wt trivial ?_
    repeat refine c_r ?_
    refine rq ?_;intro gd K hgd hK
    try simp (disch:=first|omega|assumption|rfl) only[go_sem,s9]
    refine zeh (z:=vi 0) (by rfl) (by rfl) (by rfl) (by rfl) (by rfl) ?_
    intro A3 hE8 hs8 ho8
    try simp only[go_sem]
    refine zd2 (B:=w5.heap.size) (hown2.ext hE8) ho8.row (by rfl) (by rfl) (by rfl) (by rfl) (by rfl) (by rfl) ((vr1 s9)) (vr0) (fun q hq=>by rw[List.mem_singleton.1 hq];rfl) (by simp at hlen ⊢;omega) (by decide) (by omega) ?_
    intro ov' A4 ho9 hE9 _ _
    try simp only[go_sem]
    refine hK _ _ ?_;clear hK hgd;clear K;try clear gd
    exact⟨rfl,rfl,(vq1 s20),(vq1 s19),(vq1 s18),(vq1 s7),ov',vr0,by rw[hpk,List.map_append];exact ho9,hE9 _ ((hEA.trans hE67).trans hE8) (Nat.le_refl _)⟩
  clear s20 s19 s18 s7 s9
  rintro _ σ2 _ A3 ⟨rfl,rfl,s20,s19,s18,s7,ov',s9,hown3,hE3⟩
  repeat refine c_r ?_
  refine rg2 s20 hi1' ?_
  repeat refine c_r ?_
  exact⟨m - 1,by omega,rfl,i+1,ov',by omega,vq0,(vq1 s19),(vq1 s18),(vq1 s7),(vq1 s9),hown3,hE3⟩
 ·intro hge
  simp only[decide_eq_false_iff_not]at hge
  rw[List.take_of_length_le (by omega)]at hown
  obtain⟨ao,co,hov,hco,hgo⟩:=hown.row
  rw[hov]at s9
  repeat refine c_r ?_
  refine rc s9 (P_ci.Clip_ok hco) ?_
  rintro _ A1 ⟨rfl,rfl⟩
  refine re trivial ?_
  repeat refine c_r ?_
  refine rt0 Tryz.ntmps205 ?_
  exact⟨hE34.trans hEA,⟨ao,_,rfl,Nat.le_refl _,hgo⟩,((hov▸hown.blk).same).mono hE34.size⟩
end Go.Proofs.YtahbdamijngmmaaGreat
namespace Go.Proofs.YtahbdamijngmmaaGreat.P_st
open Go Go.Proofs.YtahbdamijngmmaaGreat
set_option maxRecDepth 10000
theorem Clip_ok{w:World}{a:Option Addr}{n c:Nat}(hc:n≤c):Fn Tryz.prog 147 #[.slice a n c] w (fun u w'=>u= .slice a n n∧w'=w):=by
 refine enter Tryz.func147 Tryz.ntmps147 rfl rfl ?_
 repeat refine c_r ?_
 refine rg0 ?_
 repeat refine c_r ?_
 refine rq ?_;intro gd K hgd hK
 try simp only[go_sem]
 have hcl:slD Tryz.prog (some (TypeDesc.slice 80)) (Value.slice a n c) Option.none (some (Value.int IntKind.i64 ↑n)) (some (Value.int IntKind.i64 ↑n))=some (.slice a n n):=zdW hc (by rfl)
 rw[hcl]
 try simp only[go_sem]
 refine hK _ _ ?_;clear hK hgd;clear K;try clear gd
 repeat refine c_r ?_
 refine rt0 Tryz.ntmps147 ?_
 exact⟨rfl,rfl⟩
end Go.Proofs.YtahbdamijngmmaaGreat.P_st
namespace Go.Proofs.YtahbdamijngmmaaGreat
open Go
set_option maxRecDepth 10000
structure zal where
 sv:Int
 name:Nm
 rw:Int
 rf:Int
 ref:Bool
 fin:Int
def stV(nv:Value)(s:zal):List Value:=[vi s.sv,nv,vi s.rw,vi s.rf,.bool s.ref,vi s.fin]
def StN(nv:Value)(cs:List Value)(s:zal):Prop:=cs=stV nv s∧one nv=true
theorem zcE{nv:Value}{s:zal}(h:one nv=true):∀v∈stV nv s,one v=true:=fun v hv=>by
 unfold stV at hv
 simp at hv
 rcases hv with rfl|rfl|rfl|rfl|rfl|rfl<;>first|assumption|rfl
theorem zcD(nv:Value):zeU 6 (StN nv):=⟨fun h=>by rw[h.1];rfl,fun h=>by rw[h.1];exact zcE h.2⟩
def endS(s:zal)(k:Int):List zal:=[{s with fin:=k}]
def zcs(N:NetL)(s:zal):List zal:=N.roots.map fun r=>{s with sv:=r}
theorem zi7{s x:zal}{k:Int}(h:x∈endS s k):x.name=s.name:=by
 unfold endS at h;rw[List.mem_singleton.1 h]
def StF(B:Nat)(ok:Value→Prop)(w:World)(v:Value)(L:List zal):Prop:=BlkB B w v∧∃u,ok u∧Rows 6 (StN u) w v L∧∀s∈L,Row w u (s.name.map vs)
theorem StF.mono{B B':Nat}{ok ok':Value→Prop}{w:World}{v:Value}{L:List zal}(h:StF B ok w v L)(hB:B'≤B)(hok:∀u,ok u→ok' u):StF B' ok' w v L:=by
 obtain⟨h0,u,h1,h2⟩:=h
 exact⟨h0.mono hB,u,hok u h1,h2⟩
theorem zci{B:Nat}{nv:Value}{s:zal}{k:Int}{w:World}{v:Value}(h:Rows 6 (StN nv) w v (endS s k)∧BlkB B w v)(hr:Row w nv (s.name.map vs)):StF B (fun u=>u=nv) w v (endS s k):=
 ⟨h.2,nv,rfl,h.1,fun x hx=>by rw[zi7 hx];exact hr⟩
theorem zcL(w:World){nv:Value}{l:List Value}(hr:Row w nv l)(s:zal)(k:Int):
  Fn Tryz.prog 94 #[.agg (stV nv s).toArray,vi k] w (fun v w'=>Ext w w'∧Rows 6 (StN nv) w' v (endS s k)∧BlkB w.heap.size w' v):=by
 have h1:=hr.isOne
 obtain⟨an,cn,hnv,_⟩:=hr
 unfold stV
 rw[hnv]
 refine enter Tryz.func94 Tryz.ntmps94 rfl rfl ?_
 repeat refine c_r ?_
 refine rg0 ?_
 rw[←hnv]
 repeat refine c_r ?_
 refine zaB ?_
 intro w1 hE1 hs1 hA
 refine rq ?_;intro gd K hgd hK
 try simp only[go_sem]
 refine zaY (P:=Tryz.prog) (t:=3) (j:=5) (u:=vi k) (l:=stV nv s) hA (by show 5<6;decide) rfl rfl rfl ?_
 intro w2 hs2 hA2 hk2
 try simp only[go_sem]
 refine hK _ _ ?_;clear hK hgd;clear K;try clear gd
 have hE2:=Keep.to_ext hE1 rfl (fun b hb=>by omega) hk2
 have d:zau w2 (some ⟨w.heap.size,0,Option.none⟩) 6=some (stV nv {s with fin:=k}):=zah hA2 rfl
 repeat refine c_r ?_
 refine rq ?_;intro gd K hgd hK
 try simp (disch:=first|omega|assumption|rfl) only[go_sem,d]
 refine zbg (C:=StN nv) (zcD nv) (l:=stV nv {s with fin:=k}) (by rfl) (by rfl) (by rfl) (by rfl) ⟨rfl,h1⟩ (by decide) ?_
 intro w3 hE3 hs3 ho3
 try simp only[go_sem]
 refine hK _ _ ?_;clear hK hgd;clear K;try clear gd
 repeat refine c_r ?_
 refine rt0 Tryz.ntmps94 ?_
 exact⟨hE2.trans hE3,ho3.rows,ho3.blk.mono hE2.size⟩
theorem ziZ{w0 w:World}(hE0:Ext w0 w){cs:List Value}{N:NetL}(hN:NetAt w0 cs N)(hrl:N.roots.length≤1000){nv:Value}{l:List Value}(hr:Row w nv l)(s:zal):
  Fn Tryz.prog 92 #[.agg cs.toArray,.agg (stV nv s).toArray] w (fun v w'=>Ext w w'∧Rows 6 (StN nv) w' v (zcs N s)∧BlkB w.heap.size w' v):=by
 have h1:=hr.isOne
 obtain⟨an,cn,hnv,_⟩:=hr
 obtain⟨hv,rv,rfl,hh,hro⟩:=hN.ex
 obtain⟨ah,ch,hhv,_⟩:=hh.open
 obtain⟨ar,cr,rfl,hcr,hgr⟩:=hro
 simp only[List.length_map]at hcr hgr
 unfold stV
 rw[hnv,hhv]
 refine enter Tryz.func92 Tryz.ntmps92 rfl rfl ?_
 repeat refine c_r ?_
 refine rq ?_;intro gd K hgd hK;simp (disch:=first|omega|assumption|rfl) only[go_sem,List.length_map];refine hK _ _ ?_;clear hK hgd;clear K gd
 rw[←hnv,←hhv]
 repeat refine c_r ?_
 rw[zaj]
 refine zaO ?_
 intro w1 hE1 hs1 hA hC
 have p1:zae w1 (some ⟨w.heap.size,1,Option.none⟩)=some (.slice ar N.roots.length cr):=zab hA rfl
 repeat refine c_r ?_
 refine rg0 ?_
 repeat refine c_r ?_
 refine rg2 p1 Nat.zero_add ?_
 repeat refine c_r ?_
 obtain⟨b3,hb3⟩:∃b,w.heap.size+1=b:=⟨_,rfl⟩
 rw[hb3]at hC ⊢
 refine zam (fun m σ ds A=>ds=[]∧∃(i:Nat) (ov:Value) (s':zal),i+m=N.roots.length∧σ 11=vi i∧σ 10=vi N.roots.length∧σ 9= .slice ar N.roots.length cr∧σ 3= .pointer (some ⟨b3,0,Option.none⟩)∧σ 5=ov∧A.heap[b3]? =some (.cells (stV nv s').toArray 80 (0,0))∧(∃k,s'={s with sv:=k})∧
  Owns 6 (StN nv) w1.heap.size A 80 ov ((N.roots.take i).map fun r=>{s with sv:=r})∧Ext w A∧w1.heap.size≤A.heap.size) N.roots.length ?_ ?_
 ·exact⟨rfl,0,.slice Option.none 0 0,s,by omega,vr0,vq0,vq0,vq0,vq0,hC,⟨s.sv,rfl⟩,Owns.nil _ _ _ _ _,hE1,Nat.le_refl _⟩
 rintro m σ ds A ⟨rfl,i,ov,s',him,s11,s10,s9,s3,s5,hB,⟨k0,hs'⟩,hown,hEA,hsz⟩
 repeat refine c_r ?_
 refine rg2 s11 s10 ?_
 repeat refine c_r ?_
 refine wc0 ?_ ?_
 ·intro hlt
  simp only[decide_eq_true_eq]at hlt
  have hi:i<N.roots.length:=by omega
  have hi0:(0:Int)≤(i:Int):=by omega
  have hi1':(i:Int)+1=((i+1:Nat):Int):=by push_cast;rfl
  have hg:=zaa (hE0.trans hEA) (hgr i hi)
  rw[List.getElem_map]at hg
  obtain⟨xz,rfl⟩:=Option.isSome_iff_exists.1 (zag (hgr 0 (by omega)))
  have hszA:=hEA.size
  repeat refine c_r ?_
  refine rq ?_;intro gd K hgd hK;simp (disch:=first|omega|assumption|rfl) only[go_sem,s11,s9,hi0,hlt,hg,Nat.mul_one];refine hK _ _ ?_;clear hK hgd;clear K gd
  repeat refine c_r ?_
  refine rq ?_;intro gd K hgd hK
  try simp (disch:=first|omega|assumption|rfl) only[go_sem,s3]
  refine zaY (P:=Tryz.prog) (t:=3) (j:=0) (u:=vi N.roots[i]) (l:=stV nv s') hB (by show 0<6;decide) rfl rfl rfl ?_
  intro A1 hs6 hB1 hk1
  try simp only[go_sem]
  refine hK _ _ ?_;clear hK hgd;clear K;try clear gd
  have hB1':A1.heap[b3]? =some (.cells (stV nv {s with sv:=N.roots[i]}).toArray 80 (0,0)):=by rw[hs']at hB1;exact hB1
  have hE1':=Keep.to_ext hEA rfl (fun b hb=>by omega) hk1
  have d:zau A1 (some ⟨b3,0,Option.none⟩) 6=some (stV nv {s with sv:=N.roots[i]}):=zah hB1' rfl
  have hown1:=hown.keep hk1 (fun b hb hb2=>by have:=(hown.ge hb).1;omega)
  repeat refine c_r ?_
  refine rq ?_;intro gd K hgd hK
  try simp (disch:=first|omega|assumption|rfl) only[go_sem,s5,s3,d]
  refine zbg (C:=StN nv) (zcD nv) (l:=stV nv {s with sv:=N.roots[i]}) (by rfl) (by rfl) (by rfl) (by rfl) ⟨rfl,h1⟩ (by decide) ?_
  intro A2 hE7 hs7 ho7
  try simp only[go_sem]
  refine zaV (zcD nv) (hown1.ext hE7) ho7.rows (by rfl) (by rfl) (by rfl) (by rfl) (by rfl) (by rfl) (by decide) ((vr1 s5)) (vr0) (by simp;omega) (by decide) (by omega) ?_
  intro ov' A3 ho8 hE8 hk8 _
  try simp only[go_sem]
  refine hK _ _ ?_;clear hK hgd;clear K;try clear gd
  have hsz3:=hk8.size
  repeat refine c_r ?_
  refine rg2 s11 hi1' ?_
  repeat refine c_r ?_
  refine⟨m - 1,by omega,rfl,i+1,ov',{s with sv:=N.roots[i]},by omega,vq0,(vq1 s10),(vq1 s9),(vq1 s3),vq0,?_,⟨_,rfl⟩,?_,hE8 w (hE1'.trans hE7) (by omega),by omega⟩
  ·refine(hk8.block _ (by omega) (fun hb=>?_)).trans (Ext.at hE7 hB1')
   have:=(hown1.ge hb).1;omega
  ·rw[zao hi,List.map_append];exact ho8
 ·intro hge
  simp only[decide_eq_false_iff_not]at hge
  have hfull:(N.roots.take i).map (fun r=>({s with sv:=r}:zal))=zcs N s:=by rw[List.take_of_length_le (by omega)];rfl
  rw[hfull]at hown
  obtain⟨ao,co,hov,hco,_⟩:=hown.rows.open
  rw[hov]at s5 hown
  repeat refine c_r ?_
  refine rc s5 (P_st.Clip_ok hco) ?_
  rintro _ A1 ⟨rfl,rfl⟩
  refine re trivial ?_
  repeat refine c_r ?_
  refine rt0 Tryz.ntmps92 ?_
  have:=hown.rows.take (m:=(zcs N s).length) (c2:=(zcs N s).length) (Nat.le_refl _) (Nat.le_refl _)
  rw[List.take_length]at this
  exact⟨hEA,this,hown.blk.same.mono (by have:=hE1.size;omega)⟩
theorem zh8{w0 w:World}(hE0:Ext w0 w){cs:List Value}{N:NetL}(hN:NetAt w0 cs N)(hrl:N.roots.length≤1000){nv:Value}{q:Nm}(hq:Row w nv (q.map vs)):
  Fn Tryz.prog 44 #[.agg cs.toArray,nv] w (fun v w'=>Ext w w'∧StF w.heap.size (fun u=>u=nv) w' v (zcs N ⟨0,q,0,0,false,0⟩)):=by
 have hN0:=hN
 obtain⟨hv,rv,rfl,hh,hr⟩:=hN.ex
 obtain⟨ah,ch,hhv,_⟩:=hh.open
 obtain⟨ar,cr,hrv,_⟩:=id hr
 obtain⟨an,cn,hnv,_⟩:=id hq
 refine enter Tryz.func44 Tryz.ntmps44 rfl rfl ?_
 repeat refine c_r ?_
 rw[hhv,hrv,hnv]
 refine rg0 ?_
 rw[←hhv,←hrv,←hnv]
 repeat refine c_r ?_
 refine zaB ?_
 intro w1 hE1 hs1 hA
 have d:=zah (n:=4) (l:=[hv,rv,vi N.rw,vi N.rf]) hA rfl
 repeat refine c_r ?_
 refine rq ?_;intro gd K hgd hK
 try simp (disch:=first|omega|assumption|rfl) only[go_sem,d]
 refine⟨by kernel_rfl,?_⟩
 rw[hnv,show bdV Tryz.prog 80 [(1,.slice an (q.map vs).length cn)]=some (.agg #[vi 0,.slice an (q.map vs).length cn,vi 0,vi 0,.bool false,vi 0]) from by kernel_rfl,←hnv]
 try simp only[go_sem]
 refine Fn.mono (ziZ (hE0.trans hE1) hN0 hrl (hq.ext hE1) ⟨0,q,0,0,false,0⟩) ?_
 rintro v w2 ⟨hE2,hrs⟩
 try simp only[go_sem]
 refine hK _ _ ?_;clear hK hgd;clear K;try clear gd
 repeat refine c_r ?_
 refine rt0 Tryz.ntmps44 ?_
 exact⟨hE1.trans hE2,hrs.2.mono hE1.size,nv,rfl,hrs.1,fun s hs=>by
  obtain⟨r,_,rfl⟩:=List.mem_map.1 hs
  exact hq.ext (hE1.trans hE2)⟩
theorem zj0(c:UInt8):zed (zed c)=zed c:=by
 unfold zed
 by_cases h:65≤c∧c≤90
 ·rw[if_pos h]
  have h1:¬(65≤c+32∧c+32≤90):=by
   obtain⟨h1,h2⟩:=h
   rw[UInt8.le_iff_toNat_le]at*
   rintro⟨h3,h4⟩
   rw[UInt8.le_iff_toNat_le]at*
   rw[UInt8.toNat_add]at*
   change (65:Nat)≤_ at h1
   change _≤(90:Nat)at h2
   change (65:Nat)≤(c.toNat+32) % 256 at h3
   change (c.toNat+32) % 256≤(90:Nat)at h4
   omega
  rw[if_neg h1]
 ·rw[if_neg h,if_neg h]
theorem zjZ(l:Lab):zaQ (zaQ l)=zaQ l:=by simp[zaQ,zj0,Function.comp_def]
theorem zjY(n:Nm):zai (zai n)=zai n:=by simp[zai,zjZ,Function.comp_def]
theorem zec(l:Lab):(zaQ l).length=l.length:=by simp[zaQ]
theorem LB.fold{n:Nm}(h:LB n):LB (zai n):=fun l hl=>by
 simp only[zai,List.mem_map]at hl
 obtain⟨m,hm,rfl⟩:=hl
 rw[zec];exact h m hm
end Go.Proofs.YtahbdamijngmmaaGreat
namespace Go.Proofs.YtahbdamijngmmaaGreat
open Go Go.ChangeShapes Go.WideShapes Go.ChangeAt Go.RowKit Go.WideElems
theorem Ext.below{w x:World}(h:Ext w x):RowKit.Below w.heap.size w x:=⟨h.os,h.tape,h.output,h.size,fun k hk=>h.block k hk (fun h=>h)⟩
theorem Ext.kept{w x:World}(h:Ext w x)(may:MemPlace→Prop):w.keptBut x may:=by
 refine⟨h.os,h.output,fun i hi=>?_⟩
 rw[h.block i hi (fun h=>h)]
 cases hw:w.heap[i]? with
 |none=>trivial
 |some o=>cases o<;>simp
theorem zdT{H:Type}{enc:TypeId×Value→H}{P:Program}(hl:laidOutB P=true){W W':World}{sp:Nat→Bool}(hE:Ext W W'):
  ∀{ts:List TypeId} {vs:List Value} {ds:List (DataW H)} {ps:List MemPlace},(∀t∈ts,P.readableRec t=true∧t<P.types.size)→DataW.TrodAll enc P W 0 (fun _=>true) true ts vs ds ps→(∀x∈ps,x.block<W.heap.size)→(∀x∈ps,sp x.block=true)→
   DataW.TrodAll enc P W' 0 sp true ts vs ds ps
 | [],_,_,_,_,h,_,_=>by
  obtain⟨rfl,rfl,rfl⟩:=trodAll_nil h
  exact trodAll_mk0
 |_::_,_,_,_,ht,h,hlt,hs=>by
  obtain⟨v,vs1,d,ds1,a,b,rfl,rfl,rfl,h1,h2⟩:=trodAll_cons h
  obtain⟨hr,hrow⟩:=ht _ (List.mem_cons_self ..)
  exact trodAll_cons_mk (WideElems.Trod_stays hl hr hrow h1 (fun x hx=>hE.below.same (hlt x (List.mem_append_left _ hx))) (fun x hx=>hs x (List.mem_append_left _ hx)))
   (zdT hl hE (fun t h=>ht t (List.mem_cons_of_mem _ h)) h2 (fun x hx=>hlt x (List.mem_append_right _ hx)) (fun x hx=>hs x (List.mem_append_right _ hx)))
theorem zjV{w x:World}(h:Ext w x){b:Nat}(hb:b<w.heap.size)(o:Nat):x.frozen? ⟨b,o,Option.none⟩=w.frozen? ⟨b,o,Option.none⟩:=by
 unfold World.frozen?
 rw[h.block b hb (fun h=>h)]
theorem law_post{H:Type}{enc:TypeId×Value→H}{P:Program}{f:Func}{s:ChangeSpec}{apart fresh handsOn again:Bool}{W W':World}{args:Array Value}{ds gs:List (DataW H)}{before:List MemPlace}
  (hW:DataW.Whole enc P f.params.toList s.vars apart W args.toList ds gs before) (hvn:s.vars=[]) (hspec:s.fn H ds={results:=[.lit (.bool true)],args:=ds}) {tb:TypeId} (hrt:f.resultTypes=#[tb]) (htb:P.underlying tb=some .bool)
  (hl:laidOutB P=true) (hrd:∀t∈f.params.toList,P.readableRec t=true∧t<P.types.size) (hE:Ext W W'):s.post enc P f apart fresh handsOn again W args (.bool true) W':=by
 have hlt:=hW.lt
 have hW0:=hW
 obtain⟨p,q,hA,hV,hpq,hfz,hnd⟩:=hW
 have hq:gs=[]∧q=[]:=by
  rw[hvn]at hV
  cases gs with
  |nil=>exact⟨rfl,hV⟩
  |cons _ _=>exact hV.elim
 obtain⟨rfl,rfl⟩:=hq
 rw[List.append_nil]at hpq
 subst hpq
 have hres:∀(b:Nat) (sp:Nat→Bool) (hd:Bool),DataW.TrodAll enc P W' b sp hd f.resultTypes.toList ((Value.bool true).resultList f.resultTypes.size) (s.fn H (ds++ [])).results []:=fun b sp hd=>by
  rw[List.append_nil,hspec,hrt]
  exact trodAll_mk1 (shut_bool htb true)
 have hargs:∀sp:Nat→Bool,(∀x∈before,sp x.block=true)→DataW.TrodAll enc P W' 0 sp true f.params.toList args.toList (s.fn H (ds++ [])).args before:=fun sp hs=>by
  rw[List.append_nil,hspec]
  exact zdT hl hE hrd hA hlt hs
 have hvars:∀sp:Nat→Bool,DataW.TrodVars enc P W' sp s.vars (s.fn H (ds++ [])).vars []:=fun sp=>by
  rw[List.append_nil,hspec,hvn];rfl
 have hold:∀x∈before,(fun b=>decide (b<W.heap.size)) x.block=true:=fun x hx=>by simpa using hlt x hx
 refine⟨ds,[],before,[],before,[],hW0,hres _ _ _,hargs _ hold,hvars _,hE.kept _,fun _=>?_⟩
 refine⟨fun j t r h1 h2=>?_,_,_,([]++before)++ [],⟨[]++before,[],trodAll_append (hargs _ (fun _ _=>rfl)) (hres _ _ _),hvars _,rfl,?_,?_⟩,?_⟩
 ·rw[hrt]at h1 h2
  match j with
  |0=>
   simp at h1
   subst h1
   have:r= .bool true:=by simpa [Value.resultList] using h2.symm
   subst this
   exact okWide_bool_mk htb true
  |j+1=>simp at h1
 ·intro b off hp
  have hp':MemPlace.cell b off∈before:=by simpa using hp
  rw[zjV hE (show b<W.heap.size from hlt _ hp')]
  exact hfz b off hp'
 ·intro ha
  simpa using hnd ha
 ·intro x hx _
  simpa using hx
theorem law_lift{C:Checked}{os:Os}{f:FuncId}{fn:Func}{s:ChangeSpec}{conds:List PathCond}{apart fresh handsOn again:Bool}{H:Type}{enc:TypeId×Value→H}
  (own:ownKnob C.prog.godebug=none) (started:os.Started) (noInit:C.prog.inits.idxOf? f=none) (hfn:C.prog.funcs[f]? =some fn)
  (witness:∃(w:World) (tape:Tape) (i:Input),w.os=os∧(w.forCall tape i).Shaped C.prog∧i.vars=[]∧Input.okWide C.prog (w.forCall tape i) .any w.heap.size f i∧
   s.pre6 enc C.prog fn conds apart (w.forCall tape i).memory i.args∧({}:Assume).holds C.prog (lone (Frame.enter C.prog f i.args .normal) [] (w.forCall tape i)))
  (hvn:s.vars=[]) (hspec:∀ds:List (DataW H),ds.length=fn.params.size→s.fn H ds={results:=[.lit (.bool true)],args:=ds}) {tb:TypeId} (hrt:fn.resultTypes=#[tb]) (htb:C.prog.underlying tb=some .bool)
  (hl:laidOutB C.prog=true) (hrd:fn.params.toList.all (fun t=>C.prog.readableRec t && decide (t<C.prog.types.size))=true)
  (walk:∀(W:World) (base:Nat) (args:List Value) (ds:List (DataW H)) (p:List MemPlace),(∀(j:Nat) t v,fn.params[j]? =some t→args[j]? =some v→Value.okWide C.prog W .any base t v)→
   DataW.TrodAll enc C.prog W 0 (fun _=>true) true fn.params.toList args ds p→(∀x∈DataW.weightsEach C.prog fn.params.toList ds,x≤reachBytes)→Fn C.prog f args.toArray W (fun v W'=>v= .bool true∧Ext W W')):
  ReturnsInHanded {} C os f .any (s.pre6 enc C.prog fn conds apart) (s.post enc C.prog fn apart fresh handsOn again):=by
 refine returnsInHanded_of_change_sized own started noInit hfn witness ?_
 intro W base args ds gs before hval hW _ hwt _
 have hW0:=hW
 obtain⟨p,q,hA,hV,_⟩:=hW
 have hgs:gs=[]:=by
  rw[hvn]at hV
  cases gs with
  |nil=>rfl
  |cons _ _=>exact hV.elim
 subst hgs
 have hvt:s.plain.varTypes C.prog=[]:=by
  unfold DataSpec.varTypes
  rw[show s.plain.vars=[] from hvn];rfl
 rw[hvt,List.append_nil,List.append_nil]at hwt
 have hlen:∀{ts:List TypeId} {vs:List Value} {ds:List (DataW H)} {ps:List MemPlace},DataW.TrodAll enc C.prog W 0 (fun _=>true) true ts vs ds ps→ds.length=ts.length:=by
  intro ts
  induction ts with
  |nil=>intro vs ds ps h;obtain⟨rfl,rfl,rfl⟩:=trodAll_nil h;rfl
  |cons t ts ih=>
   intro vs ds ps h
   obtain⟨v,vs1,d,ds1,a,b,rfl,rfl,rfl,h1,h2⟩:=trodAll_cons h
   simp[ih h2]
 have hw:=walk W base args.toList ds p (fun j t v h1 h2=>hval j t v h1 (by simpa using h2)) hA (fun x hx=>by simpa using (List.all_eq_true.1 hwt) x hx)
 rw[Array.toArray_toList]at hw
 refine Calls.mono (callsIn_wide.1 hw) ?_
 rintro e W' ⟨v,rfl,rfl,hE⟩
 refine⟨_,rfl,law_post hW0 hvn (hspec ds (by rw[hlen hA];simp)) hrt htb hl (fun t ht=>?_) hE⟩
 have:=(List.all_eq_true.1 hrd) t ht
 simpa using this
/-! arguments -/
section
variable {H : Type} {enc : TypeId × Value → H} {P : Program} {w : World} {base : Nat} {sp : Nat → Bool} {held : Bool}
def Rd(enc:TypeId×Value→H)(P:Program)(w:World)(base:Nat)(sp:Nat→Bool)(held:Bool)(t:TypeId)(v:Value):Prop:=∃n x,DataW.trod enc P w base sp held n t [v]=some x∧∀k∈x.1.weights P t,k≤reachBytes
theorem zcA{e:TypeId}{d:DataW H}{k:Nat}:∀{l:List (DataW H)},d∈l→k∈d.weights P e→k∈DataW.weightsAll P e l
 |a::l,hd,hk=>by
  simp only[DataW.weightsAll,List.mem_append]
  rcases List.mem_cons.1 hd with rfl|hd
  ·exact .inl hk
  ·exact .inr (zcA hd hk)
theorem zgy{t e:TypeId}{v:Value}(h:Rd enc P w base sp held t v)(ht:P.underlying t=some (.slice e))(hc:P.cellsOf e=1):
  ∃vals,Row w v vals∧(∀u∈vals,Rd enc P w base sp held e u)∧vals.length*P.bytesOf e≤reachBytes:=by
 obtain⟨n,x,h,hw⟩:=h
 rcases Go.Deep.open_slice1 ht hc h with ⟨h1,_⟩| ⟨a,len,cap,m,k,V,D,Pl,h1,_,hl,hm,hmm,rfl,hx⟩
 ·simp only[List.cons.injEq,and_true]at h1
  subst h1
  exact⟨[],⟨Option.none,0,rfl,Nat.le_refl _,fun j h=>by simp at h⟩,fun u h=>(by cases h),by simp⟩
 ·simp only[List.cons.injEq,and_true]at h1
  subst h1
  have hml:len≤m:=by rw[hmm];split<;>omega
  simp only[DataW.weights,ht]at hw
  refine⟨(List.range len).map V,⟨some a,cap,by simp,by simpa using hl,fun j hj=>?_⟩,fun u hu=>?_,?_⟩
  ·simp at hj
   have:=(hx j (by omega)).1
   simpa [zae,adr] using this
  ·obtain⟨j,hj,rfl⟩:=List.mem_map.1 hu
   simp at hj
   refine⟨_,_,(hx j (by omega)).2,fun q hq=>hw q (List.mem_cons_of_mem _ (List.mem_append_left _ (zcA (d:=D j) ?_ hq)))⟩
   exact List.mem_map.2 ⟨j,by simpa using hj,rfl⟩
  ·have h1:=hw _ (List.mem_cons_self ..)
   have h2:((List.range len).map V).length*P.bytesOf e≤(((List.range len).map D).length+((List.range (m - len)).map fun j=>D (len+j)).length)*P.bytesOf e:=Nat.mul_le_mul (by simp) (Nat.le_refl _)
   omega
theorem zkK{t:TypeId}{v:Value}(h:Rd enc P w base sp held t v)(ht:P.underlying t=some .string):∃s:List UInt8,v=vs s∧s.length≤reachBytes:=by
 obtain⟨n,x,h,hw⟩:=h
 cases n with
 |zero=>cases h
 |succ n=>
  unfold DataW.trod at h
  rw[ht]at h
  cases v<;>simp at h
  rename_i s
  obtain⟨_,rfl⟩:=h
  exact⟨s.data.toList,by simp[vs],by simpa [DataW.weights,ByteArray.toList_eq] using hw⟩
theorem zjH{t:TypeId}{v:Value}{d:DataW H}{p:List MemPlace}{ts:List TypeId}{ds:List (DataW H)}(h:DataW.Trod enc P w base sp held t v d p)(hv:v.cells.toList=[v])
  (hw:∀x∈DataW.weightsEach P ts ds,x≤reachBytes) {j:Nat} (ht:ts[j]? =some t) (hd:ds[j]? =some d):Rd enc P w base sp held t v:=by
 obtain⟨n,h⟩:=h
 rw[hv]at h
 exact⟨n,_,h,fun k hk=>hw k (DataW.weights_mem_each ht hd k hk)⟩
theorem zix{α β:Type}{f:α→β}{Q:α→Prop}:∀{l:List β},(∀u∈l,∃s,u=f s∧Q s)→∃m:List α,l=m.map f∧∀s∈m,Q s
 | [],_=>⟨[],rfl,fun s h=>by cases h⟩
 |b::l,h=>by
  obtain⟨s,rfl,hq⟩:=h b (List.mem_cons_self ..)
  obtain⟨m,rfl,hm⟩:=zix (fun u hu=>h u (List.mem_cons_of_mem _ hu))
  refine⟨s::m,rfl,fun x hx=>?_⟩
  rcases List.mem_cons.1 hx with rfl|hx
  ·exact hq
  ·exact hm x hx
end
end Go.Proofs.YtahbdamijngmmaaGreat
namespace Go.Proofs.YtahbdamijngmmaaGreat
open Go
section
variable {H : Type} {enc : TypeId × Value → H} {P : Program} {w : World} {base : Nat} {sp : Nat → Bool} {held : Bool}
structure NmOk(n:Nm):Prop where
 lb:LB n
 len:n.length≤8796093022207
theorem reach_lt:reachBytes<140737488355328:=by decide
theorem zer{t e:TypeId}{v:Value}(h:Rd enc P w base sp held t v)(ht:P.underlying t=some (.slice e))(hc:P.cellsOf e=1)(he:P.underlying e=some .string)(hb:P.bytesOf e=16):∃n:Nm,Row w v (n.map vs)∧NmOk n:=by
 obtain⟨vals,hr,hall,hl⟩:=zgy h ht hc
 obtain⟨m,rfl,hm⟩:=zix (f:=vs) (fun u hu=>zkK (hall u hu) he)
 have:=reach_lt
 rw[hb]at hl
 exact⟨m,hr,fun l hl=>by have:=hm l hl;omega,by simp at hl;omega⟩
theorem rd_names{t ts tb:TypeId}{v:Value}(h:Rd enc P w base sp held t v)(ht:P.underlying t=some (.slice ts))(hc:P.cellsOf ts=1)(ht2:P.underlying ts=some (.slice tb))(hc2:P.cellsOf tb=1)(he:P.underlying tb=some .string)(hb:P.bytesOf tb=16):
  ∃L:List Nm,NamesAt w v L∧∀n∈L,NmOk n:=by
 obtain⟨vals,hr,hall,hlen0⟩:=zgy h ht hc
 have:∃L:List Nm,(vals.length=L.length∧∀i (h:i<vals.length) (h':i<L.length),Row w vals[i] (L[i].map vs))∧∀n∈L,NmOk n:=by
  clear hr h hlen0
  induction vals with
  |nil=>exact⟨[],⟨rfl,fun i h=>by simp at h⟩,fun n h=>by cases h⟩
  |cons u vals ih=>
   obtain⟨n,hn,hok⟩:=zer (hall u (List.mem_cons_self ..)) ht2 hc2 he hb
   obtain⟨L,⟨h1,h2⟩,h3⟩:=ih (fun x hx=>hall x (List.mem_cons_of_mem _ hx))
   refine⟨n::L,⟨by simp[h1],fun i a b=>?_⟩,fun x hx=>?_⟩
   ·cases i with
    |zero=>exact hn
    |succ i=>exact h2 i (by simpa using a) (by simpa using b)
   ·rcases List.mem_cons.1 hx with rfl|hx
    ·exact hok
    ·exact h3 x hx
 obtain⟨L,⟨h1,h2⟩,h3⟩:=this
 exact⟨L,⟨vals,hr,h1,h2⟩,h3⟩
end
class Tr (p:World→Prop):Prop where
 tr:∀{w x:World},Ext w x→p w→p x
theorem tr{p:World→Prop}[h:Tr p]{w x:World}(hE:Ext w x)(hp:p w):p x:=h.tr hE hp
instance Tr.and{p q:World→Prop}[Tr p][Tr q]:Tr fun w=>p w∧q w:=⟨fun hE h=>⟨tr hE h.1,tr hE h.2⟩⟩
instance Tr.cell{a:Option Addr}{v:Value}:Tr fun w=>zae w a=some v:=⟨fun hE h=>zaa hE h⟩
instance Tr.cells{a:Option Addr}{k:Nat}{l:List Value}:Tr fun w=>zau w a k=some l:=⟨fun hE h=>zad hE h⟩
instance Tr.ext{w0:World}:Tr fun w=>Ext w0 w:=⟨fun hE h=>h.trans hE⟩
instance Tr.row{v:Value}{l:List Value}:Tr fun w=>Row w v l:=⟨fun hE h=>h.ext hE⟩
instance Tr.obj{b:Nat}{o:Obj}:Tr fun w=>w.heap[b]? =some o:=⟨fun hE h=>Ext.at hE h⟩
instance Tr.const{p:Prop}:Tr fun _=>p:=⟨fun _ h=>h⟩
instance Tr.all{α:Sort _}{p:α→World→Prop}[∀a,Tr (p a)]:Tr fun w=>∀a,p a w:=⟨fun hE h a=>tr hE (h a)⟩
instance Tr.ex{α:Sort _}{p:α→World→Prop}[∀a,Tr (p a)]:Tr fun w=>∃a,p a w:=⟨fun hE h=>h.elim fun a h=>⟨a,tr hE h⟩⟩
attribute [go_sem] decide_true decide_false
theorem sc{p q:Prop}(h:p)(hs:p→q=True:=by intro h1;simp only[go_sem,h1]):q:=(hs h).mpr trivial
/-! many steps at once -/
structure Gto(p q:Prop):Prop where
 of:q→p
section
variable {P : Program} {r : Option Nat} {n : Nat} {Q : Post} {σ : Sto} {ds : List Deferred} {w : World} {p q s : Prop} {L : List Oper} {F : (Nat → Option Tmp) → (Sto → World → Prop) → Prop}
theorem zlp:Gto p p:=⟨id⟩
theorem gto_c(h:Ctl p q)(k:Gto q s):Gto p s:=⟨fun g=>c_r (k.of g) h⟩
theorem gto_r{id:Nat}{ops:Array Oper}{σ1:Sto}{w1:World}(hs:∀(gd:Nat→Option Tmp) (K:Sto→World→Prop),gd=dstL ops.toList→opsV P gd n ops.toList σ w K=K σ1 w1)(hd:zaW ops=true)(k:Gto (Q .normal σ1 ds w1) q):
  Gto (W P r n (.region id ops false) Q σ ds w) q:=⟨fun g=>zcU hd fun gd K hgd hK=>(hs gd K hgd).mpr (hK _ _ (k.of g))⟩
theorem gto_t{c:Operand}{x y:Code}(hc:ev n σ c= .bool true)(k:Gto (W P r n x Q σ ds w) q):Gto (W P r n (.cond c x y) Q σ ds w) q:=⟨fun g=>zaH hc (fun _=>k.of g) (fun h=>by cases h)⟩
theorem gto_f{c:Operand}{x y:Code}(hc:ev n σ c= .bool false)(k:Gto (W P r n y Q σ ds w) q):Gto (W P r n (.cond c x y) Q σ ds w) q:=⟨fun g=>zaH hc (fun h=>by cases h) (fun _=>k.of g)⟩
theorem go(h:p)(hq:s)(hs:p→Gto q s:=by
  intro h1
  repeat (first
   | (apply gto_c;· (with_reducible constructor)<;>exact rfl)
   | (apply gto_r;(intro gd K hgd;(simp (disch:=first|omega|assumption|rfl) only[go_sem,h1])<;>with_reducible exact rfl);rfl)
   | (apply gto_t;· first| (simp only[go_sem,h1];done)| (simp only[go_sem,h1];exact rfl))
   | (apply gto_f;· first| (simp only[go_sem,h1];done)| (simp only[go_sem,h1];exact rfl)))
  exact zlp):q:=(hs h).of hq
theorem rgo{σ1:Sto}{w1:World}(h:p)(hq:s)
  (hs:p→∀(gd:Nat→Option Tmp) (K:Sto→World→Prop),F gd K=K σ1 w1:=by intro h1 gd K;(first| (simp (disch:=first|omega|assumption|rfl) only[go_sem,h1])|skip)<;>exact rfl)
  (hg:p→Gto (Q .normal σ1 ds w1) s:=by
   intro h1
   repeat (first
    | (apply gto_c;· (with_reducible constructor)<;>exact rfl)
    | (apply gto_r;(intro gd K hgd;(simp (disch:=first|omega|assumption|rfl) only[go_sem,h1])<;>with_reducible exact rfl);rfl)
    | (apply gto_t;· first| (simp only[go_sem,h1];done)| (simp only[go_sem,h1];exact rfl))
    | (apply gto_f;· first| (simp only[go_sem,h1];done)| (simp only[go_sem,h1];exact rfl)))
   exact zlp):Rest P Q ds L F:=
 re (p:=True) trivial ((hg h).of hq) fun _=>hs h
theorem zg2{c:Code}(N:Nat)(I:Nat→Sto→World→Prop)(h0:I 0 σ w)
  (hs:∀i σ w,i<N→(decide ((i:Int)<(N:Int))=true∧(0:Int)≤(i:Int)∧(i:Int)<(N:Int)∧(i:Int)+1=((i+1:Nat):Int))→I i σ w→W P r n c (zdx (fun σ ds w=>ds=[]∧I (i+1) σ w) Q) σ [] w)
  (he:∀σ w,decide ((N:Int)<(N:Int))=false→I N σ w→W P r n c (zdx (fun _ _ _=>False) Q) σ [] w):W P r n (.loop c) Q σ [] w:=by
 refine zam (fun m σ ds w=>ds=[]∧∃i,i+m=N∧I i σ w) N ⟨rfl,0,by omega,h0⟩ ?_
 rintro m σ ds w ⟨rfl,i,him,hI⟩
 by_cases h:i<N
 ·refine zay (hs i σ w h ⟨decide_eq_true (by omega),by omega,by omega,by push_cast;rfl⟩ hI) ?_
  intro e σ' ds' w' hq
  cases e<;>first|exact hq|exact⟨m - 1,by omega,hq.1,i+1,by omega,hq.2⟩
 ·have e1:i=N:=by omega
  subst e1
  refine zay (he σ w (decide_eq_false (by omega)) hI) ?_
  intro e σ' ds' w' hq
  cases e<;>first|exact hq|exact hq.elim
end
set_option maxRecDepth 10000
abbrev MetL:=zal×List Int
def keyS(s:zal):KeyL:=⟨zbX (zai s.name),s.sv,s.rw,s.rf,s.fin,s.ref⟩
theorem KeyL.eq_iff{a b:KeyL}:(a.name=b.name∧a.a=b.a∧a.b=b.b∧a.c=b.c∧a.d=b.d∧a.ref=b.ref)↔a=b:=by
 cases a;cases b;simp
instance:DecidableEq KeyL:=fun _ _=>decidable_of_iff _ KeyL.eq_iff
def putL(row:List MetL)(x:MetL):List MetL:=if (row.any fun y=>decide (keyS y.1=keyS x.1))=true then row else row++ [x]
def setB(b m:Nat)(lv:Value):Nat→Prop:=fun i=>i=b∨i=m∨some i=lv.ownBlock
def RowY(S:Nat→Prop)(w:World)(v:Value)(l:List Value):Prop:=Row w v l∧(l≠ []→∀a n c,v= .slice (some a) n c→a.block<w.heap.size∧¬S a.block)
theorem RowY.turn{S S':Nat→Prop}{w x:World}{v:Value}{l:List Value}(h:RowY S w v l)(hk:Keep S w x)(hS:∀b,S' b→S b∨w.heap.size≤b):RowY S' x v l:=by
 obtain⟨h1,h2⟩:=h
 refine⟨?_,fun hl a n c e=>?_⟩
 ·by_cases hl:l=[]
  ·subst hl
   obtain⟨a,c,e,hc,_⟩:=h1
   exact⟨a,c,e,hc,fun j hj=>absurd hj (by simp)⟩
  ·exact h1.blocks fun a n c e=>hk.block _ (h2 hl a n c e).1 (h2 hl a n c e).2
 ·obtain⟨k1,k2⟩:=h2 hl a n c e
  have:=hk.size
  exact⟨by omega,fun hb=>(hS _ hb).elim k2 (by omega)⟩
theorem RowY.old{S:Nat→Prop}{w0 w:World}{v:Value}{l:List Value}(h:Row w0 v l)(hE:Ext w0 w)(hS:∀b,S b→w0.heap.size≤b):RowY S w v l:=by
 refine⟨h.ext hE,fun hl a n c e=>?_⟩
 obtain⟨a',c',e',_,hg⟩:=h
 have h0:=hg 0 (List.length_pos_iff.2 hl)
 rw[e',Value.slice.injEq]at e
 obtain⟨rfl,_,_⟩:=e
 rw[zaA]at h0
 have hlt:a.block<w0.heap.size:=by
  have hc:w0.cell? a=some (l[0]'(List.length_pos_iff.2 hl)):=h0
  unfold World.cell? at hc
  cases hb:w0.heap[a.block]? with
  |none=>rw[hb]at hc;cases hc
  |some o=>exact(Array.getElem?_eq_some_iff.1 hb).1
 have:=hE.size
 exact⟨by omega,fun hb=>by have:=hS _ hb;omega⟩
theorem RowY.alike{S:Nat→Prop}{w:World}{v:Value}{l l2:List Value}(h:RowY S w v l)(h2:Row w v l2):RowY S w v l2:=by
 refine⟨h2,fun hl a n c e=>h.2 (fun h0=>hl ?_) a n c e⟩
 obtain⟨a1,c1,e1,_⟩:=h.1
 obtain⟨a2,c2,e2,_⟩:=h2
 rw[e1,Value.slice.injEq]at e2
 exact List.eq_nil_of_length_eq_zero (by rw[←e2.2.1,h0];rfl)
structure MetAt(S:Nat→Prop)(w:World)(cs:List Value)(x:MetL):Prop where
 ex:∃nv pv,cs=stV nv x.1++ [pv]∧RowY S w nv (x.1.name.map vs)∧RowY S w pv (x.2.map vi)
theorem MetAt.turn{S S':Nat→Prop}{w x:World}{cs:List Value}{m:MetL}(h:MetAt S w cs m)(hk:Keep S w x)(hS:∀b,S' b→S b∨w.heap.size≤b):MetAt S' x cs m:=by
 obtain⟨nv,pv,e,h1,h2⟩:=h.ex
 exact⟨nv,pv,e,h1.turn hk hS,h2.turn hk hS⟩
theorem MetAt.ones{S:Nat→Prop}{w:World}{cs:List Value}{x:MetL}(h:MetAt S w cs x):cs.length=7∧∀q∈cs,one q=true:=by
 obtain⟨nv,pv,rfl,h1,h2⟩:=h.ex
 have e1:=h1.1.isOne
 have e2:=h2.1.isOne
 refine⟨rfl,fun q hq=>?_⟩
 rcases List.mem_append.1 hq with hq|hq
 ·exact zcE e1 q hq
 ·rw[List.mem_singleton.1 hq];exact e2
theorem zhF(S:Nat→Prop)(w:World):zeU 7 (MetAt S w):=⟨fun h=>h.ones.1,fun h=>h.ones.2⟩
structure SetI(w v:World)(b m:Nat)(lv:Value)(row:List MetL):Prop where
 c:v.heap[b]? =some (.cells #[.map (some m),lv] 161 (0,0))
 g:GM v m (row.map fun x=>(keyV (keyS x.1),.bool true))
 o:Owns 7 (MetAt (setB b m lv) v) w.heap.size v 164 lv row
 e:Ext w v
 lo:w.heap.size≤b∧w.heap.size≤m∧b≠m∧some b≠lv.ownBlock∧some m≠lv.ownBlock
theorem SetI.lt{w v:World}{b m:Nat}{lv:Value}{row:List MetL}(h:SetI w v b m lv row){i:Nat}(hi:setB b m lv i):w.heap.size≤i∧i<v.heap.size:=by
 obtain⟨l1,l2,_⟩:=h.lo
 rcases hi with rfl|rfl|hi
 ·exact⟨l1,(Array.getElem?_eq_some_iff.1 h.c).1⟩
 ·exact⟨l2,h.g.lt⟩
 ·exact h.o.ge hi
theorem SetI.ext{w v x:World}{b m:Nat}{lv:Value}{row:List MetL}(h:SetI w v b m lv row)(hE:Ext v x):SetI w x b m lv row:=
 ⟨Ext.at hE h.c,h.g.block (hE.block _ h.g.lt (fun h=>h)),(h.o.ext hE).to fun _ _ h=>h.turn (hE.mono fun _ _ h=>h.elim) (fun _ h=> .inl h),h.e.trans hE,h.lo⟩
theorem put_ok{w v:World}{b m:Nat}{lv:Value}{row:List MetL}{mc:List Value}{X:MetL}(h:SetI w v b m lv row)(hX:MetAt (setB b m lv) v mc X)(hk:zkl (keyS X.1))(hrk:∀y∈row,zkl (keyS y.1))(hlen:row.length≤100000000):
  Fn Tryz.prog 138 #[.pointer (some ⟨b,0,Option.none⟩),keyV (keyS X.1),.agg mc.toArray] v (fun _ v'=>∃lv',SetI w v' b m lv' (putL row X)∧Keep (setB b m lv) v v'∧∀i,setB b m lv' i→setB b m lv i∨v.heap.size≤i):=by
 obtain⟨nv,pv,rfl,hn,hp⟩:=id hX.ex
 obtain⟨an,cn,hne,_⟩:=id hn.1
 obtain⟨ap,cp,hpe,_⟩:=id hp.1
 unfold keyV stV
 refine enter Tryz.func138 Tryz.ntmps138 rfl rfl ?_
 repeat refine c_r ?_
 rw[hne,hpe]
 simp only[List.cons_append,List.nil_append]
 refine go trivial ?_
 rw[←hne,←hpe,zaj]
 refine zaO ?_
 intro v1 hE1 hs1 hA hB
 obtain⟨q,hq⟩:∃q,v.heap.size=q:=⟨_,rfl⟩
 rw[hq]at hA hB ⊢
 have dK:zau v1 (some ⟨q,0,Option.none⟩) 6=some [vs (keyS X.1).name,vi (keyS X.1).a,vi (keyS X.1).b,vi (keyS X.1).c,vi (keyS X.1).d,.bool (keyS X.1).ref]:=zah (l:=[vs (keyS X.1).name,vi (keyS X.1).a,vi (keyS X.1).b,vi (keyS X.1).c,vi (keyS X.1).d,.bool (keyS X.1).ref]) hA rfl
 have dM:zau v1 (some ⟨q+1,0,Option.none⟩) 7=some (stV nv X.1++ [pv]):=zah (l:=stV nv X.1++ [pv]) hB rfl
 have h1:=h.ext hE1
 have c0:zae v1 (some ⟨b,0,Option.none⟩)=some (.map (some m)):=zab (i:=0) h1.c rfl
 have hgood:∀p∈row.map (fun x=>(keyV (keyS x.1),Value.bool true)),∃l,keyOf Tryz.prog 250 p.1=some l:=fun p hp=>by
  obtain⟨y,hy,rfl⟩:=List.mem_map.1 hp
  exact zgJ (hrk y hy)
 refine zay (Q:=fun e σ' ds' v'=>e= .normal∧ds'=[]∧(σ' 0= .pointer (some ⟨b,0,Option.none⟩)∧σ' 4= .pointer (some ⟨q,0,Option.none⟩)∧σ' 5= .pointer (some ⟨q+1,0,Option.none⟩))∧Ext v1 v'∧∃t,σ' 12= .bool (!t)∧t=(row.any fun y=>decide (keyS y.1=keyS X.1))) ?_ ?_
 ·refine zaJ (fun _=>false) [(0,true),(1,true),(2,true),(3,true),(4,true),(5,false),(6,true)] NoS mixed (by kernel_rfl) ?_;intro gd K x hgd hx hxe hK;clear hxe
  have c0x:=zaa hx c0
  have dKx:=zad hx dK
  simp (disch:=first|omega|assumption|rfl) only[go_sem,c0x,dKx]
  refine zgC (key:=keyV (keyS X.1)) (z:= .bool false) (MKey.of zlj) rfl rfl rfl (vq0) (vr0) ((h1.ext hx).g) (zgJ hk) hgood (fun hno=>?_) (fun u hu=>?_)
  ·refine⟨.inr (Keep.refl _ _),?_⟩
   simp (disch:=first|omega|assumption|rfl) only[go_sem]
   refine hK _ _ ?_;clear hK hgd;clear K;try clear gd
   refine⟨rfl,rfl,sc trivial,hx,false,vr0,?_⟩
   symm
   rw[List.any_eq_false]
   intro y hy e
   exact hno (keyV (keyS y.1),.bool true) (List.mem_map.2 ⟨y,hy,rfl⟩) (by rw[of_decide_eq_true e])
  ·obtain⟨y,hy,e⟩:=List.mem_map.1 hu
   simp only[Prod.mk.injEq]at e
   obtain⟨e1,rfl⟩:=e
   refine⟨.inr (Keep.refl _ _),?_⟩
   simp (disch:=first|omega|assumption|rfl) only[go_sem]
   refine hK _ _ ?_;clear hK hgd;clear K;try clear gd
   refine⟨rfl,rfl,sc trivial,hx,true,vr0,?_⟩
   symm
   rw[List.any_eq_true]
   exact⟨y,hy,decide_eq_true (zi9 e1)⟩
 rintro _ σ1 _ v2 ⟨rfl,rfl,s,hE2,t,s12,ht⟩
 have hE02:=hE1.trans hE2
 have h2:=h1.ext hE2
 have hsz:=hE02.size
 cases t with
 |true=>
  refine go s12 ?_
  refine zaq (by simp) rfl ⟨lv,?_,hE02.mono fun _ _ h=>h.elim,fun i hi=> .inl hi⟩
  unfold putL
  rw[if_pos ht.symm]
  exact h2
 |false=>
 have hput:putL row X=row++ [X]:=by unfold putL;rw[←ht];rfl
 have hno:∀p∈row.map (fun x=>(keyV (keyS x.1),Value.bool true)),p.1≠keyV (keyS X.1):=fun p hp e=>by
  obtain⟨y,hy,rfl⟩:=List.mem_map.1 hp
  have:=List.any_eq_false.1 ht.symm y hy
  exact this (decide_eq_true (zi9 e))
 have c02:=zaa hE2 c0
 have dK2:=zad hE2 dK
 have dM2:=zad hE2 dM
 have hm2:=h2.lt (.inr (.inl rfl))
 obtain⟨l1,l2,l3,l4,l5⟩:=h2.lo
 refine go s12 ?_
 -- the key is put down
 refine zay (Q:=fun e σ' ds' v'=>e= .normal∧ds'=[]∧(σ' 0= .pointer (some ⟨b,0,Option.none⟩)∧σ' 5= .pointer (some ⟨q+1,0,Option.none⟩))∧Keep (fun i=>i=m) v2 v'∧GM v' m ((row++ [X]).map fun x=>(keyV (keyS x.1),.bool true))) ?_ ?_
 ·refine zaJ (fun i=>i==5) [(0,true),(1,true),(2,true),(3,true),(4,true),(5,false)] NoS mixed (by kernel_rfl) ?_;intro gd K x hgd hx hxe hK;clear hxe
  have c0x:=zaa hx c02
  have dKx:=zad hx dK2
  simp (disch:=first|omega|assumption|rfl) only[go_sem,s,c0x,dKx]
  refine zkV (key:=keyV (keyS X.1)) (v:= .bool true) (MKey.of zlj) rfl (vq0) (vr0) (vr0) ((h2.ext hx).g) (zgJ hk) hgood hno ?_
  intro z hgz hkz hsz
  refine⟨.inl rfl,?_⟩
  simp (disch:=first|omega|assumption|rfl) only[go_sem]
  refine hK _ _ ?_;clear hK hgd;clear K;try clear gd
  exact⟨rfl,rfl,sc s,(hx.mono fun _ _ h=>h.elim).trans hkz,by rw[List.map_append];exact hgz⟩
 clear s
 rintro _ σ2 _ v3 ⟨rfl,rfl,s,hk3,hg3⟩
 have hs3:=hk3.size
 have hmv:=(h.lt (.inr (.inl rfl))).2
 have hbv:=(h.lt (.inl rfl)).2
 have hlb:=h2.lt (.inl rfl)
 have hc3:v3.heap[b]? =some (.cells #[.map (some m),lv] 161 (0,0)):=(hk3.block _ hlb.2 (by omega)).trans h2.c
 have c1:zae v3 (some ⟨b,1,Option.none⟩)=some lv:=zab (i:=1) hc3 rfl
 have hB3:v3.heap[q+1]? =some (.cells (stV nv X.1++ [pv]).toArray 164 (0,0)):=(hk3.block _ (Array.getElem?_eq_some_iff.1 (Ext.at hE2 hB)).1 (by show¬(_=_);omega)).trans (Ext.at hE2 hB)
 have hq1:=(Array.getElem?_eq_some_iff.1 hB3).1
 have dM3:zau v3 (some ⟨q+1,0,Option.none⟩) 7=some (stV nv X.1++ [pv]):=zah (l:=stV nv X.1++ [pv]) hB3 rfl
 have hkS:Keep (setB b m lv) v2 v3:=hk3.mono fun i _ h=> .inr (.inl h)
 have ho3:Owns 7 (MetAt (setB b m lv) v3) w.heap.size v3 164 lv row:=(h2.o.keep hk3 (fun i hi=>fun e=>l5 (by rw[←e];exact hi))).to fun _ _ h=>h.turn hkS fun _ h=> .inl h
 have hX3:MetAt (setB b m lv) v3 (stV nv X.1++ [pv]) X:=(hX.turn (hE02.mono fun _ _ h=>h.elim) fun _ h=> .inl h).turn hkS fun _ h=> .inl h
 refine go s ?_
 refine zaJ (fun i=>i==7||i==10) [(0,true),(1,true),(2,true),(3,true),(4,true),(5,true),(6,false),(7,false),(8,true),(9,true),(10,false)] NoS mixed (by kernel_rfl) ?_;intro gd K x hgd hx hxe hK;clear hxe
 have c1x:=zaa hx c1
 have dMx:=zad hx dM3
 unfold stV at dMx
 simp (disch:=first|omega|assumption|rfl) only[go_sem,s,c1x,dMx]
 refine zbg (zhF (setB b m lv) v3) rfl rfl rfl rfl hX3 (by decide) ?_
 intro w5 hE5 hs5 ho5
 refine⟨.inr hE5.keep,?_⟩
 simp (disch:=first|omega|assumption|rfl) only[go_sem]
 have hx5:=hx.trans hE5
 have hz5:=hx5.size
 refine zaV (zhF (setB b m lv) v3) (ho3.ext hx5) ho5.rows rfl rfl rfl rfl rfl rfl (by decide) (vq0) (vr0) (by simp;omega) (by decide) (by have:=hE02.size;have:=h.e.size;omega) ?_
 intro u w6 ho6 hE6 hk6 hb6
 refine⟨.inl rfl,?_⟩
 have hz6:=hk6.size
 have hc6:w6.heap[b]? =some (.cells #[.map (some m),lv] 161 (0,0)):=(hk6.block _ (by omega) l4).trans (Ext.at hx5 hc3)
 have hg6:=(hg3.block (hx5.block _ hg3.lt (fun h=>h))).block (hk6.block _ (by have:=hg3.lt;omega) l5)
 simp (disch:=first|omega|assumption|rfl) only[go_sem,s]
 refine zaY (P:=Tryz.prog) (t:=159) (j:=1) (u:=u) (l:=[.map (some m),lv]) hc6 (by simp) ho6.rows.isOne rfl rfl ?_
 intro w7 hz7 hc7 hk7
 refine⟨.inl rfl,?_⟩
 simp (disch:=first|omega|assumption|rfl) only[go_sem]
 refine hK _ _ ?_;clear hK hgd;clear K;try clear gd
 refine go trivial ?_
 have hk37:Keep (setB b m lv) v3 w7:=((hx5.mono fun _ _ h=>h.elim).trans (hk6.mono fun i _ h=> .inr (.inr h))).trans (hk7.mono fun i _ h=> .inl h)
 have hkv:Keep (setB b m lv) v w7:=((hE02.mono fun _ _ h=>h.elim).trans hkS).trans hk37
 have hown:∀i,some i=u.ownBlock→some i=lv.ownBlock∨v3.heap.size≤i:=fun i hi=>(hb6 i hi).imp id fun h=>by omega
 have hbo:some b≠u.ownBlock:=fun e=>by
  rcases hown b e with e|e
  ·exact l4 e
  ·omega
 have hmo:some m≠u.ownBlock:=fun e=>by
  rcases hown m e with e|e
  ·exact l5 e
  ·have:=hg3.lt;omega
 have hz7':=hk7.size
 refine zaq (by simp) rfl ⟨u,?_,hkv,fun i hi=>?_⟩
 ·rw[hput]
  refine⟨hc7,hg6.block (hk7.block _ hg6.lt (by show¬(_=_);omega)),(ho6.keep hk7 fun i hi e=>hbo (by rw[←e];exact hi)).to fun _ _ h=>h.turn hk37 fun i hi=>?_,Keep.to_ext h.e rfl (fun i hi=>(h.lt hi).1) hkv,l1,l2,l3,hbo,hmo⟩
  rcases hi with hi|hi|hi
  ·exact .inl (.inl hi)
  ·exact .inl (.inr (.inl hi))
  ·exact(hown i hi).imp (fun e=> .inr (.inr e)) id
 ·rcases hi with hi|hi|hi
  ·exact .inl (.inl hi)
  ·exact .inl (.inr (.inl hi))
  ·rcases hown i hi with e|e
   ·exact .inl (.inr (.inr e))
   ·have:=hE02.size;exact .inr (by omega)
section
variable {P : Program} {d : Option Tmp} {ty : TypeId} {ps : String} {af : Array Edge} {g : Option (Nat × Bool)} {ρ : Operand → Value} {w : World} {K : Value → World → Prop}
theorem zev{s x:Operand}{t e:TypeId}{inf:TypeInfo}{z:Value}{a:Option Addr}{u:Value}{l news:List Value}(hrow:Row w (.slice a l.length l.length) l)(hsrc:Row w u news)(hne:0<news.length)
  (ht:tyU P t=some (.slice e)) (hi:P.info? e=some inf) (hz:inf.zero=some z) (hsize:inf.size=1) (hby:inf.bytes≤100) (hzs:z.cells.size=1) (hv:ρ s= .slice a l.length l.length) (hu:ρ x=u)
  (h1:∀q∈news,one q=true) (hlen:l.length+news.length≤1000000000)
  (h:∀v' w',Own w.heap.size w' e v' (l++news)→Ext w w'→K v' w'):
  opW P ⟨d,.call ⟨.builtin .append,#[s,x],#[t,t]⟩,ty,ps,af,g⟩ ρ w K:=by
 obtain⟨a',c',e1,hc,hl⟩:=hrow
 rw[Value.slice.injEq]at e1
 obtain⟨rfl,_,rfl⟩:=e1
 cases a with
 |none=>
  have hl0:l=[]:=by
   cases l with
   |nil=>rfl
   |cons q r=>have:=hl 0 (by simp);simp[zae,adr]at this
  subst hl0
  refine zd2 (B:=w.heap.size) (Own.nil _ _ _) hsrc ht hi hz hsize rfl hzs hv hu h1 (by simp at hlen ⊢;omega) hby (Nat.le_refl _) ?_
  intro v' w' ho hE _ _
  exact h v' w' ho (hE w (Keep.refl _ _) (Nat.le_refl _))
 |some b=>
  obtain⟨a2,c2,rfl,hc2,hl2⟩:=hsrc
  cases a2 with
  |none=>have:=hl2 0 hne;simp[zae,adr]at this
  |some b2=>
   have hol:∀j v,l[j]? =some v→w.cell? (b.add j)=some v:=fun j v hj=>by
    obtain⟨hlt,rfl⟩:=List.getElem?_eq_some_iff.1 hj
    have:=hl j hlt
    simpa [zae,adr] using this
   have hnw:∀j v,news[j]? =some v→w.cell? (b2.add j)=some v:=fun j v hj=>by
    obtain⟨hlt,rfl⟩:=List.getElem?_eq_some_iff.1 hj
    have:=hl2 j hlt
    simpa [zae,adr] using this
   have hbm:(l.length+news.length)*inf.bytes≤1000000000*100:=Nat.mul_le_mul hlen hby
   have hr:=run_append_grow (P:=P) w t ty e inf z ht hi hz b l.length l.length l (by rw[hsize];omega) hol b2 news.length c2 news (by rw[hsize];omega) hnw (by omega) (by omega) (growslice_fits (by omega) (by omega))
   have hge:=grownCap_ge w (l.length+news.length) l.length e
   have hcm:grownCap w (l.length+news.length) l.length e≤maxLen:=grownCap_le_maxLen w (l.length+news.length) l.length e (by simp[maxLen];omega)
   refine zcb (b:= .append) (r:= .ok undef w) (fun v1 w1 hr1=>?_) ⟨_,_,by rw[hv,hu];exact hr⟩
   rw[hv,hu,hr]at hr1
   cases hr1
   refine h _ _ ⟨by rw[List.length_append];omega,.inr ⟨w.heap.size,_,_,by rw[List.length_append],Nat.le_refl _,World.alloc_heap_new w.drew _,by rw[List.length_append];exact hge,hcm,?_,?_⟩⟩ (Ext.drew_alloc w _)
   ·simp only[Array.size_append,List.size_toArray,size_zeroCells,hzs];omega
   ·simp only[Array.toList_append,List.append_assoc]
    rw[←List.append_assoc,Nat.mul_one]
    exact List.take_left
end
def zba(p:List Int):Nat→List MetL→List zal→List MetL
 |_,row,[]=>row
 |i,row,s::L=>zba p (i+1) (putL row (s,p++ [(i:Int)])) L
theorem zf5(p:List Int):∀(A:List zal) (s:zal) (k:Nat) (row:List MetL),zba p k row (A++ [s])=putL (zba p k row A) (s,p++ [((k+A.length:Nat):Int)])
 | [],s,k,row=>rfl
 |a::A,s,k,row=>by
  simp only[List.cons_append,zba,List.length_cons]
  rw[zf5 p A s (k+1)]
  congr 5;omega
theorem mem_putL{row:List MetL}{x y:MetL}(h:y∈putL row x):y∈row∨y=x:=by
 unfold putL at h
 split at h
 ·exact .inl h
 ·rcases List.mem_append.1 h with h|h
  ·exact .inl h
  ·exact .inr (List.mem_singleton.1 h)
theorem putL_len{row:List MetL}{x:MetL}:(putL row x).length≤row.length+1:=by
 unfold putL;split<;>simp
theorem zd5{p:List Int}:∀{L:List zal} {k:Nat} {row:List MetL} {y:MetL},y∈zba p k row L→y∈row∨(y.1∈L∧∃i:Nat,y.2=p++ [(i:Int)])
 | [],_,_,_,h=> .inl h
 |s::L,k,row,y,h=>by
  rcases zd5 (L:=L) h with h| ⟨h,i,e⟩
  ·rcases mem_putL h with h|h
   ·exact .inl h
   ·exact .inr ⟨by rw[h];simp,k,by rw[h]⟩
  ·exact .inr ⟨List.mem_cons_of_mem _ h,i,e⟩
theorem zd6{p:List Int}:∀{L:List zal} {k:Nat} {row:List MetL},(zba p k row L).length≤row.length+L.length
 | [],_,_=>Nat.le_refl _
 |s::L,k,row=>by
  have h1:=zd6 (p:=p) (L:=L) (k:=k+1) (row:=putL row (s,p++ [(k:Int)]))
  have h2:=putL_len (row:=row) (x:=(s,p++ [(k:Int)]))
  simp only[zba,List.length_cons];omega
theorem NmG.fold{n:Nm}(h:NmG n):NmG (zai n):=by
 have hm:∀l∈zai n,∃x∈n,zaQ x=l:=fun l hl=>List.mem_map.1 hl
 refine⟨fun l hl e=>?_,fun l hl=>?_,by rw[zaG];exact h.len⟩
 ·obtain⟨x,hx,rfl⟩:=hm l hl
  exact h.ne x hx (List.eq_nil_of_length_eq_zero (by rw[←zec,e];rfl))
 ·obtain⟨x,hx,rfl⟩:=hm l hl
  rw[zec];exact h.lb x hx
structure StG(s:zal):Prop where
 n:NmG s.name
 k:zkl (keyS s)
theorem zif{w:World}{v:Value}{p:List Int}(hr:Row w v (p.map vi))(hlen:p.length≤1000000000):
  Fn Tryz.prog 139 #[v] w (fun u w'=>Own w.heap.size w' 3 u (p.map vi)∧Ext w w'):=by
 have hr':=hr
 obtain⟨a,c,rfl,hc,hl⟩:=hr
 refine enter Tryz.func139 Tryz.ntmps139 rfl rfl ?_
 refine go trivial ?_
 refine rq ?_;intro gd K hgd hK
 try simp only[go_sem]
 refine zgU (by rfl) (by rfl) (by rfl) ?_
 try simp only[go_sem]
 refine hK _ _ ?_;clear hK hgd;clear K;try clear gd
 repeat refine c_r ?_
 cases a with
 |none=>
  have:p=[]:=by
   cases p with
   |nil=>rfl
   |cons x L=>have:=hl 0 (by simp);simp[zae,adr]at this
  subst this
  refine go trivial ?_
  refine rt0 Tryz.ntmps139 ?_
  exact⟨Own.nil _ _ _,Keep.refl _ _⟩
 |some a=>
  refine go trivial ?_
  refine rq ?_;intro gd K hgd hK
  try simp only[go_sem]
  refine zlV (z:=vi 0) (by rfl) (by rfl) (by rfl) (by rfl) ?_
  intro w1 hE1 hs1 ho1
  try simp only[go_sem]
  refine zd2 (B:=w.heap.size) ho1 (hr'.ext hE1) (by rfl) (by rfl) (by rfl) (by rfl) (by rfl) (by rfl) (by rfl) (by rfl) (fun q hq=>by obtain⟨x,_,rfl⟩:=List.mem_map.1 hq;rfl) (by simp;omega) (by decide) (by omega) ?_
  intro v' w2 ho2 hE2 _ _
  try simp only[go_sem]
  refine hK _ _ ?_;clear hK hgd;clear K;try clear gd
  refine go trivial ?_
  refine rt0 Tryz.ntmps139 ?_
  exact⟨by simpa using ho2,hE2 w hE1 (Nat.le_refl _)⟩
end Go.Proofs.YtahbdamijngmmaaGreat
