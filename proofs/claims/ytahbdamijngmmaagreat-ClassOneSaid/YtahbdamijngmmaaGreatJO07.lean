/-
  Texts of a proof, joined: W3, W4, K29, W5, W6, W7, W8, K26, W9, R4, TP, H0.
  Conditions: none.
-/
import Derived.Test.YtahbdamijngmmaaGreatJO06
import Derived.Test.YtahbdamijngmmaaGreatJO01
import Derived.Test.YtahbdamijngmmaaGreatJO03
set_option linter.unusedVariables false
set_option linter.unusedSimpArgs false
set_option linter.defProp false
set_option linter.unnecessarySimpa false
set_option maxHeartbeats 8000000
namespace Go.Proofs.YtahbdamijngmmaaGreat
open Go
set_option maxRecDepth 10000
structure zfk where
 o:Nm
 path:Lab
structure SrvL where
 host:Nm
 addr:List UInt8
 places:List zfk
structure zf7 where
 servers:List SrvL
 roots:List Int
 rw:Int
 rf:Int
structure PlaceC(w:World)(cs:List Value)(p:zfk):Prop where
 ex:∃ov,cs=[ov,vs p.path]∧Row w ov (p.o.map vs)
structure SrvC(w:World)(cs:List Value)(s:SrvL):Prop where
 ex:∃nv a b c d pv,cs=[nv,zae a,zae b,zae c,zae d,pv]∧s.addr=[a,b,c,d]∧Row w nv (s.host.map vs)∧Rows 2 (PlaceC w) w pv s.places
structure ConfAt(w:World)(cs:List Value)(c:zf7):Prop where
 ex:∃sv rv,cs=[sv,rv,vi c.rw,vi c.rf]∧Rows 6 (SrvC w) w sv c.servers∧Row w rv (c.roots.map vi)
theorem PlaceC.ext{w x:World}{cs:List Value}{p:zfk}(h:PlaceC w cs p)(hE:Ext w x):PlaceC x cs p:=by
 obtain⟨ov,e,h1⟩:=h.ex
 exact⟨ov,e,h1.ext hE⟩
theorem SrvC.ext{w x:World}{cs:List Value}{z:SrvL}(h:SrvC w cs z)(hE:Ext w x):SrvC x cs z:=by
 obtain⟨nv,a,b,c,d,zv,e,ha,h1,h2⟩:=h.ex
 exact⟨nv,a,b,c,d,zv,e,ha,h1.ext hE,Rows.extC (fun _ _ h=>PlaceC.ext h hE) h2 hE⟩
theorem ConfAt.ext{w x:World}{cs:List Value}{z:zf7}(h:ConfAt w cs z)(hE:Ext w x):ConfAt x cs z:=by
 obtain⟨hv,rv,e,h1,h2⟩:=h.ex
 exact⟨hv,rv,e,Rows.extC (fun _ _ h=>SrvC.ext h hE) h1 hE,h2.ext hE⟩
structure Sh(n:Nm):Prop where
 len:n.length≤130
 lb:∀l∈n,l.length≤100
theorem Sh.m{n:Nm}(h:Sh n):NmM n:=⟨fun l hl=>by have:=h.lb l hl;omega,by have:=h.len;omega⟩
structure FewC(c:zf7):Prop where
 sl:c.servers.length≤20
 rl:c.roots.length≤20
 s:∀s∈c.servers,Sh s.host∧s.places.length≤20∧∀p∈s.places,Sh p.o∧p.path.length≤50
theorem zif(w:World){a:Value}{n:Nm}(ha:Row w a (n.map vs)):
  Fn Tryz.prog 118 #[a] w (fun v w'=>Ext w w'∧∃t,v= .bool t∧(t=true→Sh n)):=by
 obtain⟨a1,c1,rfl,_,h1⟩:=ha
 simp only[List.length_map,List.getElem_map]at h1 ⊢
 refine enter Tryz.func118 Tryz.ntmps118 rfl rfl ?_
 repeat refine c_r ?_
 refine rg0 ?_
 repeat refine c_r ?_
 by_cases hn:(n.length:Int)>130
 ·refine rg1 (decide_eq_true hn) ?_
  repeat refine c_r ?_
  refine wt trivial ?_
  repeat (first|refine c_r ?_|refine rg0 ?_)
  refine rt0 Tryz.ntmps118 ?_
  exact⟨Keep.refl _ _,_,rfl,fun h=>by cases h⟩
 refine rg1 (decide_eq_false hn) ?_
 repeat refine c_r ?_
 refine wf trivial ?_
 repeat refine c_r ?_
 refine rg0 ?_
 repeat refine c_r ?_
 refine zai (fun m σ ds A=>ds=[]∧∃(i:Nat),i+m=n.length∧σ 3=vi i∧σ 0= .slice a1 n.length c1∧Ext w A∧∀j (h:j<n.length),j<i→n[j].length≤100) n.length ?_ ?_
 ·exact⟨rfl,0,by omega,vr0,vq0,Keep.refl _ _,fun j h h2=>absurd h2 (by omega)⟩
 rintro m σ ds A ⟨rfl,i,him,s3,s0,hEA,ht⟩
 repeat refine c_r ?_
 refine rg2 s3 s0 ?_
 repeat refine c_r ?_
 refine wc0 ?_ ?_
 ·intro hlt
  simp only[decide_eq_true_eq]at hlt
  have hi:i<n.length:=by omega
  have hi0:(0:Int)≤(i:Int):=by omega
  have hi1':(i:Int)+1=((i+1:Nat):Int):=by push_cast;rfl
  have g1:=zaa hEA (h1 i hi)
  obtain⟨x1,rfl⟩:=Option.isSome_iff_exists.1 (zad (h1 i hi))
  repeat refine c_r ?_
  refine rq ?_;intro gd K hgd hK;simp (disch:=first|omega|assumption|rfl) only[go_sem,s3,s0,hi0,hlt,g1,Nat.mul_one];refine hK _ _ ?_;clear hK hgd;clear K gd
  repeat refine c_r ?_
  by_cases hl:(n[i].length:Int)>100
  ·refine wt (decide_eq_true hl) ?_
   repeat (first|refine c_r ?_|refine rg0 ?_)
   refine rt0 Tryz.ntmps118 ?_
   exact⟨hEA,_,rfl,fun h=>by cases h⟩
  ·refine wf (decide_eq_false hl) ?_
   repeat refine c_r ?_
   refine rg2 s3 hi1' ?_
   repeat refine c_r ?_
   refine⟨m - 1,by omega,rfl,i+1,by omega,vq0,(vq1 s0),hEA,fun j hj hji=>?_⟩
   by_cases hj2:j=i
   ·subst hj2;omega
   ·exact ht j hj (by omega)
 ·intro hge
  simp only[decide_eq_false_iff_not]at hge
  repeat (first|refine c_r ?_|refine rg0 ?_)
  refine rt0 Tryz.ntmps118 ?_
  refine⟨hEA,_,rfl,fun _=>⟨by omega,fun l hl=>?_⟩⟩
  obtain⟨j,hj,rfl⟩:=List.mem_iff_getElem.1 hl
  exact ht j hj (by omega)
theorem RPath_ok(w:World){l:Lab}(hl:l.length≤1000000):
  Fn Tryz.prog 167 #[vs l] w (fun v w'=>Ext w w'∧∃t,v= .bool t):=by
 refine enter Tryz.func167 Tryz.ntmps167 rfl rfl ?_
 repeat refine c_r ?_
 refine rg0 ?_
 repeat refine c_r ?_
 refine rg0 ?_
 repeat refine c_r ?_
 refine zai (fun m σ ds A=>ds=[]∧∃(i:Nat),i+m=l.length∧σ 3=vi i∧σ 0=vs l∧Ext w A) l.length ?_ ?_
 ·exact⟨rfl,0,by omega,vr0,vq0,Keep.refl _ _⟩
 rintro m σ ds A ⟨rfl,i,him,s3,s0,hEA⟩
 repeat refine c_r ?_
 refine rg2 s3 s0 ?_
 repeat refine c_r ?_
 refine wc0 ?_ ?_
 ·intro hlt
  simp only[decide_eq_true_eq]at hlt
  have hi:i<l.length:=by omega
  have hi0:(0:Int)≤(i:Int):=by omega
  have hi2:((i:Int)).toNat<l.length:=by omega
  have hi1':(i:Int)+1=((i+1:Nat):Int):=by push_cast;rfl
  repeat refine c_r ?_
  refine rg2 s3 s0 ?_
  repeat refine c_r ?_
  refine wc0 ?_ ?_
  ·intro _
   repeat (first|refine c_r ?_|refine rg0 ?_)
   refine rt0 Tryz.ntmps167 ?_
   exact⟨hEA,_,rfl⟩
  ·intro _
   repeat refine c_r ?_
   refine rg2 s3 hi1' ?_
   repeat refine c_r ?_
   exact⟨m - 1,by omega,rfl,i+1,by omega,vq0,(vq1 s0),hEA⟩
 ·intro hge
  repeat refine c_r ?_
  refine rg1 s0 ?_
  repeat refine c_r ?_
  refine rt0 Tryz.ntmps167 ?_
  exact⟨hEA,_,rfl⟩
theorem zhH{w:World}{sv:Value}{l:List SrvL}(hs:Rows 6 (SrvC w) w sv l):∃a c,sv= .slice a l.length c∧∀i (h:i<l.length),∃xa xi x5 nv ap cp,a=some xa∧adr (some xa) (i*6)=some xi∧adr (some xi) 5=some x5∧zah w (some xi)=some nv∧Row w nv (l[i].host.map vs)∧
  zah w (some x5)=some (.slice ap l[i].places.length cp)∧(∃b1 b2 b3 b4,l[i].addr=[b1,b2,b3,b4]∧zaw w (some xi) 6=some [nv,zae b1,zae b2,zae b3,zae b4,.slice ap l[i].places.length cp])∧Rows 2 (PlaceC w) w (.slice ap l[i].places.length cp) l[i].places∧
  ∀k (h:k<l[i].places.length),∃xp xk xk1 ov,ap=some xp∧adr (some xp) (k*2)=some xk∧adr (some xk) 1=some xk1∧zah w (some xk)=some ov∧Row w ov (l[i].places[k].o.map vs)∧zah w (some xk1)=some (vs l[i].places[k].path):=by
 obtain⟨a,c,rfl,_,hg⟩:=hs.open
 refine⟨a,c,rfl,fun i hi=>?_⟩
 obtain⟨cs,hcs,hS⟩:=hg i hi
 obtain⟨nv,b1,b2,b3,b4,pv,rfl,ha,hn,hp⟩:=hS.ex
 have hp0:=hp
 obtain⟨ap,cp,rfl,_,hgp⟩:=hp.open
 obtain⟨xa,rfl⟩:=Option.isSome_iff_exists.1 (zan hcs)
 obtain⟨xi,hxi⟩:∃xi,adr (some xa) (i*6)=some xi:=⟨_,rfl⟩
 obtain⟨x5,hx5⟩:∃x,adr (some xi) 5=some x:=⟨_,rfl⟩
 rw[hxi]at hcs
 have h0:=zaq (j:=0) hcs rfl
 rw[zar]at h0
 have h5:=zaq (j:=5) hcs rfl
 rw[hx5]at h5
 refine⟨xa,xi,x5,nv,ap,cp,rfl,hxi,hx5,h0,hn,h5,⟨b1,b2,b3,b4,ha,hcs⟩,hp0,fun k hk=>?_⟩
 obtain⟨c2,hc2,hP⟩:=hgp k hk
 obtain⟨ov,rfl,ho⟩:=hP.ex
 obtain⟨xp,rfl⟩:=Option.isSome_iff_exists.1 (zan hc2)
 obtain⟨xk,hxk⟩:∃xi,adr (some xp) (k*2)=some xi:=⟨_,rfl⟩
 obtain⟨xk1,hxk1⟩:∃x,adr (some xk) 1=some x:=⟨_,rfl⟩
 rw[hxk]at hc2
 have g0:=zaq (j:=0) hc2 rfl
 rw[zar]at g0
 have g1:=zaq (j:=1) hc2 rfl
 rw[hxk1]at g1
 exact⟨xp,xk,xk1,ov,rfl,hxk,hxk1,g0,ho,g1⟩
theorem Few15_ok(w:World){cs:List Value}{c:zf7}(hc:ConfAt w cs c):
  Fn Tryz.prog 66 #[.agg cs.toArray] w (fun v w'=>Ext w w'∧∃t,v= .bool t∧(t=true→FewC c)):=by
 obtain⟨sv,rv,rfl,hs,hr⟩:=hc.ex
 obtain⟨aS,cS,rfl,hat⟩:=zhH hs
 obtain⟨ar,cr,rfl,_⟩:=hr
 simp only[List.length_map]
 refine enter Tryz.func66 Tryz.ntmps66 rfl rfl ?_
 repeat refine c_r ?_
 refine rg0 ?_
 repeat refine c_r ?_
 refine zaM ?_
 intro w1 hE1 hs1 hA
 have p0:zah w1 (some ⟨w.heap.size,0,Option.none⟩)=some (.slice aS c.servers.length cS):=zac hA rfl
 have p1:zah w1 (some ⟨w.heap.size,1,Option.none⟩)=some (.slice ar c.roots.length cr):=zac hA rfl
 repeat refine c_r ?_
 by_cases h1:(c.servers.length:Int)>20
 ·refine rgg [(4,9)] (an3 p0 Nat.add_zero (decide_eq_true h1)) ?_
  repeat refine c_r ?_
  refine wt trivial ?_
  repeat (first|refine c_r ?_|refine rg0 ?_)
  refine rt0 Tryz.ntmps66 ?_
  exact⟨hE1,_,rfl,fun h=>by cases h⟩
 by_cases h2:(c.roots.length:Int)>20
 ·refine rgg [(4,9)] (an6 p0 Nat.add_zero (decide_eq_false h1) p1 Nat.zero_add (decide_eq_true h2)) ?_
  repeat refine c_r ?_
  refine wt trivial ?_
  repeat (first|refine c_r ?_|refine rg0 ?_)
  refine rt0 Tryz.ntmps66 ?_
  exact⟨hE1,_,rfl,fun h=>by cases h⟩
 refine rgg [(4,9)] (an6 p0 Nat.add_zero (decide_eq_false h1) p1 Nat.zero_add (decide_eq_false h2)) ?_
 repeat refine c_r ?_
 refine wf trivial ?_
 repeat refine c_r ?_
 refine rg0 ?_
 repeat refine c_r ?_
 refine zai (fun m σ ds A=>ds=[]∧∃(i:Nat),i+m=c.servers.length∧σ 3=vi i∧σ 1= .pointer (some ⟨w.heap.size,0,Option.none⟩)∧Ext w1 A∧∀j (h:j<c.servers.length),j<i→Sh c.servers[j].host∧c.servers[j].places.length≤20∧∀p∈c.servers[j].places,Sh p.o∧p.path.length≤50) c.servers.length ?_ ?_
 ·exact⟨rfl,0,by omega,vr0,vq0,Keep.refl _ _,fun j h h2=>absurd h2 (by omega)⟩
 rintro m σ ds A ⟨rfl,i,him,s3,s1,hEA,ht⟩
 have p0A:=zaa hEA p0
 repeat refine c_r ?_
 refine rg4 s3 s1 p0A Nat.add_zero ?_
 repeat refine c_r ?_
 refine wc0 ?_ ?_
 ·intro hlt
  simp only[decide_eq_true_eq]at hlt
  have hi:i<c.servers.length:=by omega
  have hi0:(0:Int)≤(i:Int):=by omega
  have hi1':(i:Int)+1=((i+1:Nat):Int):=by push_cast;rfl
  obtain⟨xa,xi,x5,nv,ap,cp,rfl,hxi,hx5,g0,hn,g5,_,_,hpl⟩:=hat i hi
  obtain⟨s,hse⟩:∃s,c.servers[i]=s:=⟨_,rfl⟩
  rw[hse]at hn g5
  simp only[hse]at hpl
  have hz0:adr (some xi) 0=some xi:=zar _
  have g0A:=zaa (hE1.trans hEA) g0
  repeat refine c_r ?_
  refine rcg [(8,30)] (an9 s3 s1 p0A Nat.add_zero hi0 hlt hxi hz0 g0A) (zif A (hn.ext (hE1.trans hEA))) ?_
  rintro _ A1 ⟨hE2,t,rfl,hsh⟩
  have hEA1:=hEA.trans hE2
  have p0B:=zaa hEA1 p0
  have g5B:=zaa (hE1.trans hEA1) g5
  cases t with
  |false=>
   refine reg [(8,30)] Bool.not_false ?_
   repeat refine c_r ?_
   refine wt trivial ?_
   repeat (first|refine c_r ?_|refine rg0 ?_)
   refine rt0 Tryz.ntmps66 ?_
   exact⟨hE1.trans hEA1,_,rfl,fun h=>by cases h⟩
  |true=>
  by_cases h3:(s.places.length:Int)>20
  ·refine reg [(8,30)] (an2 (an9 s3 s1 p0B Nat.add_zero hi0 hlt hxi hx5 g5B) (an2 Bool.not_true (decide_eq_true h3))) ?_
   repeat refine c_r ?_
   refine wt trivial ?_
   repeat (first|refine c_r ?_|refine rg0 ?_)
   refine rt0 Tryz.ntmps66 ?_
   exact⟨hE1.trans hEA1,_,rfl,fun h=>by cases h⟩
  refine reg [(8,30)] (an2 (an9 s3 s1 p0B Nat.add_zero hi0 hlt hxi hx5 g5B) (an2 Bool.not_true (decide_eq_false h3))) ?_
  repeat refine c_r ?_
  refine wf trivial ?_
  repeat refine c_r ?_
  refine rg0 ?_
  repeat refine c_r ?_
  refine zai (fun m σ ds B=>ds=[]∧∃(k:Nat),k+m=s.places.length∧σ 4=vi k∧σ 3=vi i∧σ 1= .pointer (some ⟨w.heap.size,0,Option.none⟩)∧Ext w1 B∧∀j (h:j<s.places.length),j<k→Sh s.places[j].o∧s.places[j].path.length≤50) s.places.length ?_ ?_
  ·exact⟨rfl,0,by omega,vr0,(vq1 s3),(vq1 s1),hEA1,fun j h h2=>absurd h2 (by omega)⟩
  clear s3 s1
  rintro m2 σ2 ds2 B ⟨rfl,k,hkm,s4,s3,s1,hEB,ht2⟩
  have p0C:=zaa hEB p0
  have g5C:=zaa (hE1.trans hEB) g5
  repeat refine c_r ?_
  refine rg9 s4 s3 s1 (an3 p0C Nat.add_zero g5C) hi0 hlt hxi hx5 trivial ?_
  repeat refine c_r ?_
  refine wc0 ?_ ?_
  ·intro hlt2
   simp only[decide_eq_true_eq]at hlt2
   have hk:k<s.places.length:=by omega
   have hk0:(0:Int)≤(k:Int):=by omega
   have hk1':(k:Int)+1=((k+1:Nat):Int):=by push_cast;rfl
   obtain⟨xp,xk,xk1,ov,rfl,hxk,hxk1,f0,ho,f1⟩:=hpl k hk
   have hz1:adr (some xk) 0=some xk:=zar _
   have f0C:=zaa (hE1.trans hEB) f0
   repeat refine c_r ?_
   refine rcg [(12,63)] (an2 (an9 s4 s3 s1 p0C Nat.add_zero g5C hi0 hlt hxi) (an7 hx5 hk0 hlt2 hxk hz1 f0C trivial)) (zif B (ho.ext (hE1.trans hEB))) ?_
   rintro _ B1 ⟨hE3,t,rfl,hsh2⟩
   have hEB1:=hEB.trans hE3
   cases t with
   |false=>
    refine reg [(12,63)] Bool.not_false ?_
    repeat refine c_r ?_
    refine wt trivial ?_
    repeat (first|refine c_r ?_|refine rg0 ?_)
    refine rt0 Tryz.ntmps66 ?_
    exact⟨hE1.trans hEB1,_,rfl,fun h=>by cases h⟩
   |true=>
   have p0D:=zaa hEB1 p0
   have g5D:=zaa (hE1.trans hEB1) g5
   have f1D:=zaa (hE1.trans hEB1) f1
   by_cases h4:((s.places[k].path).length:Int)>50
   ·refine reg [(12,63)] (an3 (an9 s4 s3 s1 p0D Nat.add_zero g5D hi0 hlt hxi) (an6 hx5 hk0 hlt2 hxk hxk1 f1D) (an2 Bool.not_true (decide_eq_true h4))) ?_
    repeat refine c_r ?_
    refine wt trivial ?_
    repeat (first|refine c_r ?_|refine rg0 ?_)
    refine rt0 Tryz.ntmps66 ?_
    exact⟨hE1.trans hEB1,_,rfl,fun h=>by cases h⟩
   refine reg [(12,63)] (an3 (an9 s4 s3 s1 p0D Nat.add_zero g5D hi0 hlt hxi) (an6 hx5 hk0 hlt2 hxk hxk1 f1D) (an2 Bool.not_true (decide_eq_false h4))) ?_
   repeat refine c_r ?_
   refine wf trivial ?_
   repeat refine c_r ?_
   refine rg2 s4 hk1' ?_
   repeat refine c_r ?_
   refine⟨m2 - 1,by omega,rfl,k+1,by omega,vq0,(vq1 s3),(vq1 s1),hEB1,fun j hj hjk=>?_⟩
   by_cases hj2:j=k
   ·subst hj2;exact⟨hsh2 rfl,by omega⟩
   ·exact ht2 j hj (by omega)
  ·intro hge2
   simp only[decide_eq_false_iff_not]at hge2
   repeat refine c_r ?_
   refine rg2 s3 hi1' ?_
   repeat refine c_r ?_
   refine⟨m - 1,by omega,rfl,i+1,by omega,vq0,(vq1 s1),hEB,fun j hj hji=>?_⟩
   by_cases hj2:j=i
   ·subst hj2
    rw[hse]
    refine⟨hsh rfl,by omega,fun p hp=>?_⟩
    obtain⟨k2,hk2,rfl⟩:=List.mem_iff_getElem.1 hp
    exact ht2 k2 hk2 (by omega)
   ·exact ht j hj (by omega)
 ·intro hge
  simp only[decide_eq_false_iff_not]at hge
  repeat (first|refine c_r ?_|refine rg0 ?_)
  refine rt0 Tryz.ntmps66 ?_
  refine⟨hE1.trans hEA,_,rfl,fun _=>⟨by omega,by omega,fun s hs=>?_⟩⟩
  obtain⟨j,hj,rfl⟩:=List.mem_iff_getElem.1 hs
  exact ht j hj (by omega)
section
variable {P : Program} {d : Option Tmp} {ty : TypeId} {ps : String} {af : Array Edge} {g : Option (Nat × Bool)} {ρ : Operand → Value} {w : World} {K : Value → World → Prop}
theorem zet{e:TypeId}{cs:Array Value}{i:Nat}{v:Value}(he:P.underlying e=some (.int .u8))(hv:cs[i]? =some v):(part e cs i).run P w= .ok v w:=by
 have hi:(isAgg e).run P w= .ok false w:=by simp[isAgg,underlying,program,Sem.run,he]
 unfold part
 simp only[Sem.run_bind,hi,Result.andThen_ok,Bool.false_eq_true,if_false,hv,Sem.run_pure]
theorem zcV{e:TypeId}(he:P.underlying e=some (.int .u8))(n:Nat)(a b:UInt8):(Op.equalIn (n+1) e (zae a) (zae b)).run P w= .ok (decide (a=b)) w:=by
 have:((a.toNat:Int)==(b.toNat:Int))=decide (a=b):=by
  by_cases h:a=b
  ·subst h;simp
  ·rw[decide_eq_false h]
   have:a.toNat≠b.toNat:=fun h2=>h (UInt8.toNat_inj.1 h2)
   simp;omega
 simp[Op.equalIn,underlying,program,Sem.run,he,zae,this]
theorem eqIn_arr{t e:TypeId}{inf:TypeInfo}(ht:P.underlying t=some (.array 4 e))(he:P.underlying e=some (.int .u8))(hi:P.info? e=some inf)(hs:inf.size=1)(n:Nat)(a b c d a' b' c' d':UInt8):
  (Op.equalIn (n+2) t (.agg #[zae a,zae b,zae c,zae d]) (.agg #[zae a',zae b',zae c',zae d'])).run P w= .ok (decide ([a,b,c,d]=[a',b',c',d'])) w:=by
 rw[Op.equalIn]
 have hsz:(sizeOf e).run P w= .ok 1 w:=by simp[sizeOf,typeInfo,program,Sem.run,hi,hs]
 have hu:(underlying t).run P w= .ok (.array 4 e) w:=by simp[underlying,program,Sem.run,ht]
 simp only[Sem.run_bind,hu,Result.andThen_ok,hsz,Std.Legacy.Range.forIn_eq_forIn_range',Std.Legacy.Range.size,List.range']
 have p0:∀x0 x1 x2 x3:Value,(part e #[x0,x1,x2,x3] 0).run P w= .ok x0 w:=fun _ _ _ _=>zet he rfl
 have p1:∀x0 x1 x2 x3:Value,(part e #[x0,x1,x2,x3] 1).run P w= .ok x1 w:=fun _ _ _ _=>zet he rfl
 have p2:∀x0 x1 x2 x3:Value,(part e #[x0,x1,x2,x3] 2).run P w= .ok x2 w:=fun _ _ _ _=>zet he rfl
 have p3:∀x0 x1 x2 x3:Value,(part e #[x0,x1,x2,x3] 3).run P w= .ok x3 w:=fun _ _ _ _=>zet he rfl
 by_cases h1:a=a'
 ·by_cases h2:b=b'
  ·by_cases h3:c=c'
   ·by_cases h4:d=d'
    ·simp[List.forIn_cons,Sem.run_bind,p0,p1,p2,p3,zcV he,h1,h2,h3,h4]
    ·simp[List.forIn_cons,Sem.run_bind,p0,p1,p2,p3,zcV he,h1,h2,h3,h4]
   ·simp[List.forIn_cons,Sem.run_bind,p0,p1,p2,p3,zcV he,h1,h2,h3]
  ·simp[List.forIn_cons,Sem.run_bind,p0,p1,p2,p3,zcV he,h1,h2]
 ·simp[List.forIn_cons,Sem.run_bind,p0,p1,p2,p3,zcV he,h1]
theorem op_eqA{t e yt:TypeId}{x y:Operand}{inf:TypeInfo}{a b c d1 a' b' c' d':UInt8}(ht:P.underlying t=some (.array 4 e))(he:P.underlying e=some (.int .u8))(hi:P.info? e=some inf)(hs:inf.size=1)(hg:P.eqGuardType P.depth t=false)
  (hx:ρ x= .agg #[zae a,zae b,zae c,zae d1]) (hy:ρ y= .agg #[zae a',zae b',zae c',zae d']) (h:K (.bool (decide ([a,b,c,d1]=[a',b',c',d']))) w):
  opW P ⟨d,.binOp .eql t x y yt,ty,ps,af,g⟩ ρ w K:=by
 have h2:(Op.equal t (.agg #[zae a,zae b,zae c,zae d1]) (.agg #[zae a',zae b',zae c',zae d'])).run P w= .ok (decide ([a,b,c,d1]=[a',b',c',d'])) w:=eqIn_arr ht he hi hs 9998 a b c d1 a' b' c' d'
 have hr:(do eqGuard .eql t x y (.agg #[zae a,zae b,zae c,zae d1]) (.agg #[zae a',zae b',zae c',zae d']);binOp .eql t (.agg #[zae a,zae b,zae c,zae d1]) (.agg #[zae a',zae b',zae c',zae d']):Sem Value).run P w= .ok (.bool (decide ([a,b,c,d1]=[a',b',c',d']))) w:=by
  simp[eqGuard,binOp,h2,program,Sem.run,hg]
 have:=zaK (P:=P) (K:=K) hr h
 rw[←hx,←hy]at this
 exact this
end
theorem Sh.lb9{n:Nm}(h:Sh n):(∀l∈n,l.length≤1000000000)∧n.length≤1000000000:=⟨fun l hl=>by have:=h.lb l hl;omega,by have:=h.len;omega⟩
theorem zkt(w:World){cs:List Value}{c:zf7}(hc:ConfAt w cs c)(hf:FewC c){i:Nat}(hi:i<c.servers.length):
  Fn Tryz.prog 119 #[.agg cs.toArray,vi i] w (fun v w'=>Ext w w'∧∃e,v=vi e):=by
 obtain⟨sv,rv,rfl,hs,hr⟩:=hc.ex
 obtain⟨aS,cS,rfl,hat⟩:=zhH hs
 obtain⟨ar,cr,rfl,_⟩:=hr
 simp only[List.length_map]
 have hsl:=hf.sl
 refine enter Tryz.func119 Tryz.ntmps119 rfl rfl ?_
 repeat refine c_r ?_
 refine rg0 ?_
 repeat refine c_r ?_
 refine zaM ?_
 intro w1 hE1 hs1 hA
 have p0:zah w1 (some ⟨w.heap.size,0,Option.none⟩)=some (.slice aS c.servers.length cS):=zac hA rfl
 obtain⟨xa,xi,x5,nv,ap,cp,rfl,hxi,hx5,g0,hn,g5,⟨b1,b2,b3,b4,hadr,hcs⟩,hpr,hpl⟩:=hat i hi
 obtain⟨s,hse⟩:∃s,c.servers[i]=s:=⟨_,rfl⟩
 obtain⟨fs1,fs2,fs3⟩:=hf.s s (hse▸List.getElem_mem hi)
 rw[hse]at hn g5 hadr hcs hpr
 simp only[hse]at hpl
 have n1:=hn.isOne
 have i0:(0:Int)≤(i:Int):=by omega
 have i1:(i:Int)<(c.servers.length:Int):=by omega
 have d:=zaf hE1 hcs
 repeat refine c_r ?_
 refine rq ?_;intro gd K hgd hK
 try simp (disch:=first|omega|assumption|rfl) only[go_sem,p0,Nat.add_zero,i0,i1,hxi,d]
 refine za3 (P:=Tryz.prog) (l:=[nv,zae b1,zae b2,zae b3,zae b4,.slice ap s.places.length cp]) rfl (fun v hv=>by simp at hv;rcases hv with rfl|rfl|rfl|rfl|rfl|rfl<;>first|exact n1|rfl) rfl rfl ?_
 intro w2 hE2 hs2 hB
 try simp only[go_sem]
 refine hK _ _ ?_;clear hK hgd;clear K;try clear gd
 obtain⟨b5,hb5⟩:∃b,w1.heap.size=b:=⟨_,rfl⟩
 rw[hb5]at hB ⊢
 have hE12:=hE1.trans hE2
 have p02:=zaa hE2 p0
 have q0:zah w2 (some ⟨b5,0,Option.none⟩)=some nv:=zac hB rfl
 have q1:zaw w2 (some ⟨b5,1,Option.none⟩) 4=some [zae b1,zae b2,zae b3,zae b4]:=by
  have h6:=zay (n:=6) (l:=[nv,zae b1,zae b2,zae b3,zae b4,.slice ap s.places.length cp]) hB rfl
  have h5:=zaW (m:=1) (k:=5) h6
  rw[zaU]at h5
  exact zcq (m:=4) (k:=1) h5
 have q5:zah w2 (some ⟨b5,5,Option.none⟩)=some (.slice ap s.places.length cp):=zac hB rfl
 repeat refine c_r ?_
 refine rc (an2 q0 Nat.add_zero) (zbh w2 nv s.host (hn.ext hE12) fs1.lb9.1 fs1.lb9.2) ?_
 rintro _ w3 ⟨rfl,hE3⟩
 refine re trivial ?_
 have hE23:=hE12.trans hE3
 repeat refine c_r ?_
 by_cases hck:zaH s.host=0
 rotate_left
 ·refine rg1 (decide_eq_false hck) ?_
  repeat refine c_r ?_
  refine wt Bool.not_false ?_
  repeat (first|refine c_r ?_|refine rg0 ?_)
  refine rt0 Tryz.ntmps119 ?_
  exact⟨hE23,_,rfl⟩
 refine rg1 (decide_eq_true hck) ?_
 repeat refine c_r ?_
 refine wf Bool.not_true ?_
 have p03:=zaa hE3 p02
 have q03:=zaa hE3 q0
 have q13:=zaf hE3 q1
 have q53:=zaa hE3 q5
 repeat refine c_r ?_
 refine rg0 ?_
 repeat refine c_r ?_
 refine zai (fun m σ ds A=>ds=[]∧∃(k:Nat),k+m=i∧σ 7=vi k∧σ 1=vi i∧σ 2= .pointer (some ⟨w.heap.size,0,Option.none⟩)∧σ 5= .pointer (some ⟨b5,0,Option.none⟩)∧Ext w3 A) i ?_ ?_
 ·exact⟨rfl,0,by omega,vr0,vq0,vq0,vq0,Keep.refl _ _⟩
 rintro m σ ds A ⟨rfl,k,hkm,s7,s1,s2,s5,hEA⟩
 have hEwA:=hE23.trans hEA
 repeat refine c_r ?_
 refine rg2 s7 s1 ?_
 repeat refine c_r ?_
 refine wc0 ?_ ?_
 ·intro hlt
  simp only[decide_eq_true_eq]at hlt
  have hk:k<c.servers.length:=by omega
  have hk0:(0:Int)≤(k:Int):=by omega
  have hk1:(k:Int)<(c.servers.length:Int):=by omega
  have hk1':(k:Int)+1=((k+1:Nat):Int):=by push_cast;rfl
  obtain⟨xa',xk,_,nv',_,_,hae,hxk,_,f0,hn',_,⟨d1,d2,d3,d4,_,fcs⟩,_,_⟩:=hat k hk
  injection hae with hae
  subst hae
  obtain⟨fsk,_,_⟩:=hf.s _ (List.getElem_mem hk)
  obtain⟨y1,hy1⟩:∃y,adr (some xk) 1=some y:=⟨_,rfl⟩
  have hz0:adr (some xk) 0=some xk:=zar _
  have fby:zaw w (some y1) 4=some [zae d1,zae d2,zae d3,zae d4]:=by
   have h5:=zaW (m:=1) (k:=5) fcs
   rw[hy1]at h5
   exact zcq (m:=4) (k:=1) h5
  repeat refine c_r ?_
  refine zaL (fun _=>false) [(0,true),(1,true),(2,true),(3,true),(4,true),(5,true),(6,true),(7,true),(8,false),(9,true),(10,true),(11,true),(12,true),(13,true),(14,true),(15,true),(16,true),(17,true),(18,false),(19,true)] NoS mixed (by kernel_rfl) ?_;intro gd K x hgd hx hxe hK;clear hxe
  have hg9:∀n σ b,zas gd n σ (some (9,b))=zaj (ev n σ (.tmp 35)) b:=(fun n σ b=>by rw[zab,show gd 9=some 35 from(by rw[hgd];rfl)];rfl)
  have hW:=hEwA.trans hx
  have p0x:=zaa (hEA.trans hx) p03
  have q0x:=zaa (hEA.trans hx) q03
  have q1x:=zaf (hEA.trans hx) q13
  have f0x:=zaa hW f0
  have fbx:=zaf hW fby
  simp (disch:=first|omega|assumption|rfl) only[go_sem,s7,s2,s5,p0x,q0x,Nat.add_zero,hk0,hk1,hxk,hz0,f0x]
  refine Fn.mono (zdV x nv' nv _ s.host (hn'.ext hW) (hn.ext hW) fsk.m.LB fs1.m.LB (by have:=fsk.len;omega) (by have:=fs1.len;omega)) ?_
  rintro _ y ⟨rfl,hy⟩
  refine⟨.inr hy,?_⟩
  obtain⟨sm,hsm⟩:∃b,decide (zag c.servers[k].host=zag s.host)=b:=⟨_,rfl⟩
  rw[hsm]
  cases sm with
  |true=>
   simp (disch:=first|omega|assumption|rfl) only[go_sem,↓hg9]
   refine hK _ _ ?_;clear hK hgd;clear K;try clear gd
   repeat refine c_r ?_
   refine wt trivial ?_
   repeat (first|refine c_r ?_|refine rg0 ?_)
   refine rt0 Tryz.ntmps119 ?_
   exact⟨hW.trans hy,_,rfl⟩
  |false=>
  have p0y:=zaa hy p0x
  have q1y:=zaf hy q1x
  have fby':=zaf hy fbx
  simp (disch:=first|omega|assumption|rfl) only[go_sem,s7,s2,s5,p0y,Nat.add_zero,hk0,hk1,hxk,hy1,fby',q1y,↓hg9]
  refine op_eqA (a:=d1) (b:=d2) (c:=d3) (d1:=d4) (a':=b1) (b':=b2) (c':=b3) (d':=b4) rfl rfl rfl rfl (by kernel_rfl) (vr0) (vr0) ?_
  refine⟨.inr (Keep.refl _ _),?_⟩
  simp (disch:=first|omega|assumption|rfl) only[go_sem,↓hg9]
  refine hK _ _ ?_;clear hK hgd;clear K;try clear gd
  have hWy:=hW.trans hy
  have hAy:=(hEA.trans hx).trans hy
  repeat refine c_r ?_
  refine wc0 ?_ ?_
  ·intro _
   repeat (first|refine c_r ?_|refine rg0 ?_)
   refine rt0 Tryz.ntmps119 ?_
   exact⟨hWy,_,rfl⟩
  ·intro _
   repeat refine c_r ?_
   refine rg2 s7 hk1' ?_
   repeat refine c_r ?_
   exact⟨m - 1,by omega,rfl,k+1,by omega,vq0,(vq1 s1),(vq1 s2),(vq1 s5),hAy⟩
 intro hge
 clear hkm hge s7
 have q5A:=zaa hEA q53
 repeat refine c_r ?_
 by_cases h16:(s.places.length:Int)>16
 ·refine rg4 s5 q5A Nat.zero_add (decide_eq_true h16) ?_
  repeat refine c_r ?_
  refine wt trivial ?_
  repeat (first|refine c_r ?_|refine rg0 ?_)
  refine rt0 Tryz.ntmps119 ?_
  exact⟨hEwA,_,rfl⟩
 refine rg4 s5 q5A Nat.zero_add (decide_eq_false h16) ?_
 repeat refine c_r ?_
 refine wf trivial ?_
 repeat refine c_r ?_
 refine rg0 ?_
 repeat refine c_r ?_
 refine zai (fun m σ ds B=>ds=[]∧∃(k:Nat),k+m=s.places.length∧σ 8=vi k∧σ 5= .pointer (some ⟨b5,0,Option.none⟩)∧Ext w3 B) s.places.length ?_ ?_
 ·exact⟨rfl,0,by omega,vr0,(vq1 s5),hEA⟩
 clear s1 s2 s5 q5A hEwA hEA
 rintro m2 σ2 ds2 B ⟨rfl,k,hkm,s8,s5,hEB⟩
 have hEwB:=hE23.trans hEB
 have q5B:=zaa hEB q53
 repeat refine c_r ?_
 refine rg4 s8 s5 q5B Nat.zero_add ?_
 repeat refine c_r ?_
 refine wc0 ?_ ?_
 rotate_left
 ·intro _
  repeat (first|refine c_r ?_|refine rg0 ?_)
  refine rt0 Tryz.ntmps119 ?_
  exact⟨hEwB,_,rfl⟩
 intro hlt
 simp only[decide_eq_true_eq]at hlt
 have hk:k<s.places.length:=by omega
 have hk0:(0:Int)≤(k:Int):=by omega
 have hk1':(k:Int)+1=((k+1:Nat):Int):=by push_cast;rfl
 obtain⟨xp,xk,xk1,ov,rfl,hxk,hxk1,f0,ho,f1⟩:=hpl k hk
 obtain⟨fo,fp⟩:=fs3 _ (List.getElem_mem hk)
 have hz1:adr (some xk) 0=some xk:=zar _
 have f0B:=zaa hEwB f0
 repeat refine c_r ?_
 refine rc (an9 s8 s5 q5B Nat.zero_add hk0 hlt hxk hz1 f0B) (zbh B ov _ (ho.ext hEwB) fo.lb9.1 fo.lb9.2) ?_
 rintro _ B1 ⟨rfl,hE4⟩
 refine re trivial ?_
 have hEB1:=hEB.trans hE4
 have hEwB1:=hE23.trans hEB1
 have q5B1:=zaa hEB1 q53
 have f1B1:=zaa hEwB1 f1
 repeat refine c_r ?_
 by_cases hck2:zaH s.places[k].o=0
 rotate_left
 ·refine rg1 (decide_eq_false hck2) ?_
  repeat refine c_r ?_
  refine wt Bool.not_false ?_
  repeat (first|refine c_r ?_|refine rg0 ?_)
  refine rt0 Tryz.ntmps119 ?_
  exact⟨hEwB1,_,rfl⟩
 refine rg1 (decide_eq_true hck2) ?_
 repeat refine c_r ?_
 refine wf Bool.not_true ?_
 repeat refine c_r ?_
 refine rc (an9 s8 s5 q5B1 Nat.zero_add hk0 hlt hxk hxk1 f1B1) (RPath_ok B1 (l:=s.places[k].path) (by omega)) ?_
 rintro _ B2 ⟨hE5,t,rfl⟩
 refine re trivial ?_
 have hEB2:=hEB1.trans hE5
 repeat refine c_r ?_
 cases t with
 |false=>
  refine wt Bool.not_false ?_
  repeat (first|refine c_r ?_|refine rg0 ?_)
  refine rt0 Tryz.ntmps119 ?_
  exact⟨hE23.trans hEB2,_,rfl⟩
 |true=>
 refine wf Bool.not_true ?_
 repeat refine c_r ?_
 refine rg0 ?_
 repeat refine c_r ?_
 refine zai (fun m σ ds C=>ds=[]∧∃(j:Nat),j+m=k∧σ 9=vi j∧σ 8=vi k∧σ 5= .pointer (some ⟨b5,0,Option.none⟩)∧Ext w3 C) k ?_ ?_
 ·exact⟨rfl,0,by omega,vr0,(vq1 s8),(vq1 s5),hEB2⟩
 clear s8 s5
 rintro m3 σ3 ds3 C ⟨rfl,j,hjm,s9,s8,s5,hEC⟩
 have hEwC:=hE23.trans hEC
 repeat refine c_r ?_
 refine rg2 s9 s8 ?_
 repeat refine c_r ?_
 refine wc0 ?_ ?_
 rotate_left
 ·intro _
  repeat refine c_r ?_
  refine rg2 s8 hk1' ?_
  repeat refine c_r ?_
  exact⟨m2 - 1,by omega,rfl,k+1,by omega,vq0,(vq1 s5),hEC⟩
 intro hlt2
 simp only[decide_eq_true_eq]at hlt2
 have hj:j<s.places.length:=by omega
 have hj0:(0:Int)≤(j:Int):=by omega
 have hj1:(j:Int)<(s.places.length:Int):=by omega
 have hj1':(j:Int)+1=((j+1:Nat):Int):=by push_cast;rfl
 obtain⟨xp',xj,_,ov',hpe,hxj,_,e0,ho',_⟩:=hpl j hj
 injection hpe with hpe
 subst hpe
 obtain⟨fo',_⟩:=fs3 _ (List.getElem_mem hj)
 have hz2:adr (some xj) 0=some xj:=zar _
 repeat refine c_r ?_
 refine zaL (fun _=>false) [(0,true),(1,true),(2,true),(3,true),(4,true),(5,true),(6,true),(7,true),(8,true),(9,true),(10,true),(11,true),(12,false)] NoS mixed (by kernel_rfl) ?_;intro gd K x hgd hx hxe hK;clear hxe
 have hW:=hEwC.trans hx
 have q5x:=zaa (hEC.trans hx) q53
 have f0x:=zaa hW f0
 have e0x:=zaa hW e0
 simp (disch:=first|omega|assumption|rfl) only[go_sem,s9,s8,s5,q5x,Nat.zero_add,hk0,hlt,hj0,hj1,hxk,hxj,hz1,hz2,f0x,e0x]
 refine Fn.mono (zdV x ov' ov _ _ (ho'.ext hW) (ho.ext hW) fo'.m.LB fo.m.LB (by have:=fo'.len;omega) (by have:=fo.len;omega)) ?_
 rintro _ y ⟨rfl,hy⟩
 refine⟨.inr hy,?_⟩
 simp (disch:=first|omega|assumption|rfl) only[go_sem]
 refine hK _ _ ?_;clear hK hgd;clear K;try clear gd
 repeat refine c_r ?_
 refine wc0 ?_ ?_
 ·intro _
  repeat (first|refine c_r ?_|refine rg0 ?_)
  refine rt0 Tryz.ntmps119 ?_
  exact⟨hW.trans hy,_,rfl⟩
 ·intro _
  repeat refine c_r ?_
  refine rg2 s9 hj1' ?_
  repeat refine c_r ?_
  exact⟨m3 - 1,by omega,rfl,j+1,by omega,vq0,(vq1 s8),(vq1 s5),(hEC.trans hx).trans hy⟩
structure zkw(c:zf7):Prop where
 ne:c.roots≠ []
 inn:∀r∈c.roots,0≤r∧r<(c.servers.length:Int)
theorem zgZ(w:World){cs:List Value}{c:zf7}(hc:ConfAt w cs c)(hf:FewC c):
  Fn Tryz.prog 67 #[.agg cs.toArray] w (fun v w'=>Ext w w'∧∃a e,v= .tuple #[vi a,vi e]∧(e=0→zkw c)):=by
 have hc0:=hc
 obtain⟨sv,rv,rfl,hs,hr⟩:=hc.ex
 obtain⟨aS,cS,rfl,hat⟩:=zhH hs
 obtain⟨ar,cr,rfl,_,hgr⟩:=hr
 simp only[List.length_map,List.getElem_map]at hgr hc0 ⊢
 have hsl:=hf.sl
 have hrl:=hf.rl
 refine enter Tryz.func67 Tryz.ntmps67 rfl rfl ?_
 repeat refine c_r ?_
 refine rg0 ?_
 repeat refine c_r ?_
 refine zaM ?_
 intro w1 hE1 hs1 hA
 have p0:zah w1 (some ⟨w.heap.size,0,Option.none⟩)=some (.slice aS c.servers.length cS):=zac hA rfl
 have p1:zah w1 (some ⟨w.heap.size,1,Option.none⟩)=some (.slice ar c.roots.length cr):=zac hA rfl
 have p2:zah w1 (some ⟨w.heap.size,2,Option.none⟩)=some (vi c.rw):=zac hA rfl
 have p3:zah w1 (some ⟨w.heap.size,3,Option.none⟩)=some (vi c.rf):=zac hA rfl
 have dC:zaw w1 (some ⟨w.heap.size,0,Option.none⟩) 4=some [.slice aS c.servers.length cS,.slice ar c.roots.length cr,vi c.rw,vi c.rf]:=zay hA rfl
 repeat refine c_r ?_
 by_cases h1:(c.servers.length:Int)=0
 ·refine rgg [(4,14)] (an3 p0 Nat.add_zero (decide_eq_true h1)) ?_
  repeat refine c_r ?_
  refine wt trivial ?_
  repeat (first|refine c_r ?_|refine rg0 ?_)
  refine zaA (by simp) Tryz.ntmps67 rfl (zal (vr0) (zal (vr0) zaz)) ?_
  exact⟨hE1,_,_,rfl,fun h=>by cases h⟩
 by_cases h2:(c.roots.length:Int)=0
 ·refine rgg [(4,14)] (an6 p0 Nat.add_zero (decide_eq_false h1) p1 Nat.zero_add (decide_eq_true h2)) ?_
  repeat refine c_r ?_
  refine wt trivial ?_
  repeat (first|refine c_r ?_|refine rg0 ?_)
  refine zaA (by simp) Tryz.ntmps67 rfl (zal (vr0) (zal (vr0) zaz)) ?_
  exact⟨hE1,_,_,rfl,fun h=>by cases h⟩
 refine rgg [(4,14)] (an6 p0 Nat.add_zero (decide_eq_false h1) p1 Nat.zero_add (decide_eq_false h2)) ?_
 repeat refine c_r ?_
 refine wf trivial ?_
 repeat refine c_r ?_
 refine rg2 p0 Nat.add_zero ?_
 repeat refine c_r ?_
 refine wc0 ?_ ?_
 ·intro _
  repeat (first|refine c_r ?_|refine rg0 ?_)
  refine zaA (by simp) Tryz.ntmps67 rfl (zal (vr0) (zal (vr0) zaz)) ?_
  exact⟨hE1,_,_,rfl,fun h=>by cases h⟩
 intro _
 repeat refine c_r ?_
 refine zax (Q:=fun e σ' ds' v'=>e= .normal∧ds'=[]∧v'=w1∧σ' 1= .pointer (some ⟨w.heap.size,0,Option.none⟩)∧∃t,σ' 25= .bool t) ?_ ?_
 ·by_cases e0:c.rw<0
  ·refine rgg [(3,29),(8,34),(13,39)] (an3 p2 Nat.zero_add (decide_eq_true e0)) ?_
   exact⟨rfl,rfl,rfl,vq0,_,vr0⟩
  by_cases e1:c.rw>8
  ·refine rgg [(3,29),(8,34),(13,39)] (an4 p2 Nat.zero_add (decide_eq_false e0) (decide_eq_true e1)) ?_
   exact⟨rfl,rfl,rfl,vq0,_,vr0⟩
  by_cases e2:c.rf<0
  ·refine rgg [(3,29),(8,34),(13,39)] (an6 p2 Nat.zero_add (decide_eq_false e0) (decide_eq_false e1) p3 (decide_eq_true e2)) ?_
   exact⟨rfl,rfl,rfl,vq0,_,vr0⟩
  refine rgg [(3,29),(8,34),(13,39)] (an6 p2 Nat.zero_add (decide_eq_false e0) (decide_eq_false e1) p3 (decide_eq_false e2)) ?_
  exact⟨rfl,rfl,rfl,vq0,_,vr0⟩
 rintro _ σ1 _ w2 ⟨rfl,rfl,rfl,s1,t,s25⟩
 repeat refine c_r ?_
 cases t with
 |true=>
  refine wt s25 ?_
  repeat (first|refine c_r ?_|refine rg0 ?_)
  refine zaA (by simp) Tryz.ntmps67 rfl (zal (vr0) (zal (vr0) zaz)) ?_
  exact⟨hE1,_,_,rfl,fun h=>by cases h⟩
 |false=>
 refine wf s25 ?_
 clear s25
 repeat refine c_r ?_
 refine rg0 ?_
 repeat refine c_r ?_
 refine zai (fun m σ ds A=>ds=[]∧∃(i:Nat),i+m=c.roots.length∧σ 4=vi i∧σ 1= .pointer (some ⟨w.heap.size,0,Option.none⟩)∧Ext w2 A∧∀j (h:j<c.roots.length),j<i→0≤c.roots[j]∧c.roots[j]<(c.servers.length:Int)) c.roots.length ?_ ?_
 ·exact⟨rfl,0,by omega,vr0,(vq1 s1),Keep.refl _ _,fun j h h2=>absurd h2 (by omega)⟩
 clear s1
 rintro m σ ds A ⟨rfl,i,him,s4,s1,hEA,ht⟩
 have p1A:=zaa hEA p1
 repeat refine c_r ?_
 refine rg4 s4 s1 p1A Nat.zero_add ?_
 repeat refine c_r ?_
 refine wc0 ?_ ?_
 ·intro hlt
  simp only[decide_eq_true_eq]at hlt
  have hi:i<c.roots.length:=by omega
  have hi0:(0:Int)≤(i:Int):=by omega
  have hi1':(i:Int)+1=((i+1:Nat):Int):=by push_cast;rfl
  have g:=hgr i hi
  obtain⟨x1,rfl⟩:=Option.isSome_iff_exists.1 (zad g)
  repeat refine c_r ?_
  refine zaL (fun _=>false) [(0,true),(1,true),(2,true),(3,true),(4,true),(5,true),(6,true),(7,true),(8,true),(9,true),(10,true),(11,true),(12,true),(13,true),(14,true),(15,true),(16,true)] NoS mixed (by kernel_rfl) ?_;intro gd K x hgd hx hxe hK;clear hxe
  have hg6:∀n σ b,zas gd n σ (some (6,b))=zaj (ev n σ (.tmp 57)) b:=(fun n σ b=>by rw[zab,show gd 6=some 57 from(by rw[hgd];rfl)];rfl)
  have p1x:=zaa hx p1A
  have p0x:=zaa (hEA.trans hx) p0
  have gx:=zaa (hE1.trans (hEA.trans hx)) g
  by_cases hneg:c.roots[i]<0
  ·simp (disch:=first|omega|assumption|rfl) only[go_sem,s4,s1,p1x,Nat.zero_add,Nat.mul_one,hi0,hlt,gx,decide_eq_true hneg,zbX,↓hg6]
   refine hK _ _ ?_;clear hK hgd;clear K;try clear gd
   repeat refine c_r ?_
   refine wt trivial ?_
   repeat (first|refine c_r ?_|refine rg0 ?_)
   refine zaA (by simp) Tryz.ntmps67 rfl (zal (vr0) (zal (vr0) zaz)) ?_
   exact⟨hE1.trans (hEA.trans hx),_,_,rfl,fun h=>by cases h⟩
  by_cases hbig:c.roots[i]≥(c.servers.length:Int)
  ·simp (disch:=first|omega|assumption|rfl) only[go_sem,s4,s1,p1x,p0x,Nat.zero_add,Nat.add_zero,Nat.mul_one,hi0,hlt,gx,decide_eq_false hneg,decide_eq_true hbig,zbX,↓hg6]
   refine hK _ _ ?_;clear hK hgd;clear K;try clear gd
   repeat refine c_r ?_
   refine wt trivial ?_
   repeat (first|refine c_r ?_|refine rg0 ?_)
   refine zaA (by simp) Tryz.ntmps67 rfl (zal (vr0) (zal (vr0) zaz)) ?_
   exact⟨hE1.trans (hEA.trans hx),_,_,rfl,fun h=>by cases h⟩
  simp (disch:=first|omega|assumption|rfl) only[go_sem,s4,s1,p1x,p0x,Nat.zero_add,Nat.add_zero,Nat.mul_one,hi0,hlt,gx,decide_eq_false hneg,decide_eq_false hbig,zbX,↓hg6]
  refine hK _ _ ?_;clear hK hgd;clear K;try clear gd
  repeat refine c_r ?_
  refine wf trivial ?_
  repeat refine c_r ?_
  refine rg2 s4 hi1' ?_
  repeat refine c_r ?_
  refine⟨m - 1,by omega,rfl,i+1,by omega,vq0,(vq1 s1),hEA.trans hx,fun j hj hji=>?_⟩
  by_cases hj2:j=i
  ·subst hj2;omega
  ·exact ht j hj (by omega)
 intro hge
 simp only[decide_eq_false_iff_not]at hge
 have hro:zkw c:=⟨fun h=>by rw[h]at h2;exact h2 rfl,fun r hr=>by
  obtain⟨j,hj,rfl⟩:=List.mem_iff_getElem.1 hr
  exact ht j hj (by omega)⟩
 clear him hge s4 ht p1A
 repeat refine c_r ?_
 refine rg0 ?_
 repeat refine c_r ?_
 refine zai (fun m σ ds B=>ds=[]∧∃(i:Nat),i+m=c.roots.length∧σ 5=vi i∧σ 1= .pointer (some ⟨w.heap.size,0,Option.none⟩)∧Ext w2 B) c.roots.length ?_ ?_
 ·exact⟨rfl,0,by omega,vr0,(vq1 s1),hEA⟩
 clear s1 hEA
 rintro m2 σ2 ds2 B ⟨rfl,i,him,s5,s1,hEB⟩
 have p1B:=zaa hEB p1
 repeat refine c_r ?_
 refine rg4 s5 s1 p1B Nat.zero_add ?_
 repeat refine c_r ?_
 refine wc0 ?_ ?_
 ·intro hlt
  simp only[decide_eq_true_eq]at hlt
  have hi:i<c.roots.length:=by omega
  have hi0:(0:Int)≤(i:Int):=by omega
  have hi1':(i:Int)+1=((i+1:Nat):Int):=by push_cast;rfl
  have g:=hgr i hi
  obtain⟨x1,rfl⟩:=Option.isSome_iff_exists.1 (zad g)
  repeat refine c_r ?_
  refine rg0 ?_
  repeat refine c_r ?_
  refine zai (fun m σ ds C=>ds=[]∧∃(j:Nat),j+m=i∧σ 6=vi j∧σ 5=vi i∧σ 1= .pointer (some ⟨w.heap.size,0,Option.none⟩)∧Ext w2 C) i ?_ ?_
  ·exact⟨rfl,0,by omega,vr0,(vq1 s5),(vq1 s1),hEB⟩
  clear s5 s1
  rintro m3 σ3 ds3 C ⟨rfl,j,hjm,s6,s5,s1,hEC⟩
  have p1C:=zaa hEC p1
  repeat refine c_r ?_
  refine rg2 s6 s5 ?_
  repeat refine c_r ?_
  refine wc0 ?_ ?_
  ·intro hlt2
   simp only[decide_eq_true_eq]at hlt2
   have hj:j<c.roots.length:=by omega
   have hj0:(0:Int)≤(j:Int):=by omega
   have hj1:(j:Int)<(c.roots.length:Int):=by omega
   have hj1':(j:Int)+1=((j+1:Nat):Int):=by push_cast;rfl
   have gj:=hgr j hj
   repeat refine c_r ?_
   refine zaL (fun _=>false) [(0,true),(1,true),(2,true),(3,true),(4,true),(5,true),(6,true),(7,true),(8,true),(9,true),(10,true)] NoS mixed (by kernel_rfl) ?_;intro gd K x hgd hx hxe hK;clear hxe
   have p1x:=zaa hx p1C
   have gx:=zaa (hE1.trans (hEC.trans hx)) g
   have gjx:=zaa (hE1.trans (hEC.trans hx)) gj
   simp (disch:=first|omega|assumption|rfl) only[go_sem,s6,s5,s1,p1x,Nat.zero_add,Nat.mul_one,hi0,hlt,hj0,hj1,gx,gjx]
   refine hK _ _ ?_;clear hK hgd;clear K;try clear gd
   repeat refine c_r ?_
   refine wc0 ?_ ?_
   ·intro _
    repeat (first|refine c_r ?_|refine rg0 ?_)
    refine zaA (by simp) Tryz.ntmps67 rfl (zal (vr0) (zal (vr0) zaz)) ?_
    exact⟨hE1.trans (hEC.trans hx),_,_,rfl,fun h=>by cases h⟩
   ·intro _
    repeat refine c_r ?_
    refine rg2 s6 hj1' ?_
    repeat refine c_r ?_
    exact⟨m3 - 1,by omega,rfl,j+1,by omega,vq0,(vq1 s5),(vq1 s1),hEC.trans hx⟩
  ·intro _
   repeat refine c_r ?_
   refine rg2 s5 hi1' ?_
   repeat refine c_r ?_
   exact⟨m2 - 1,by omega,rfl,i+1,by omega,vq0,(vq1 s1),hEC⟩
 intro hge
 clear him hge s5 p1B
 repeat refine c_r ?_
 refine rg0 ?_
 repeat refine c_r ?_
 refine zai (fun m σ ds B=>ds=[]∧∃(i:Nat),i+m=c.servers.length∧σ 7=vi i∧σ 1= .pointer (some ⟨w.heap.size,0,Option.none⟩)∧Ext w2 B) c.servers.length ?_ ?_
 ·exact⟨rfl,0,by omega,vr0,(vq1 s1),hEB⟩
 clear s1 hEB
 rintro m3 σ3 ds3 C ⟨rfl,i,him,s7,s1,hEC⟩
 have p0C:=zaa hEC p0
 have dCC:=zaf hEC dC
 repeat refine c_r ?_
 refine rg4 s7 s1 p0C Nat.add_zero ?_
 repeat refine c_r ?_
 refine wc0 ?_ ?_
 ·intro hlt
  simp only[decide_eq_true_eq]at hlt
  have hi:i<c.servers.length:=by omega
  have hi1':(i:Int)+1=((i+1:Nat):Int):=by push_cast;rfl
  repeat refine c_r ?_
  refine rc (an3 s7 s1 dCC) (zkt C (hc0.ext (hE1.trans hEC)) hf hi) ?_
  rintro _ C1 ⟨hE2,e,rfl⟩
  refine re trivial ?_
  repeat refine c_r ?_
  by_cases he:e=0
  ·refine rg1 (decide_eq_true he) ?_
   repeat refine c_r ?_
   refine wf Bool.not_true ?_
   repeat refine c_r ?_
   refine rg2 s7 hi1' ?_
   repeat refine c_r ?_
   exact⟨m3 - 1,by omega,rfl,i+1,by omega,vq0,(vq1 s1),hEC.trans hE2⟩
  ·refine rg1 (decide_eq_false he) ?_
   repeat refine c_r ?_
   refine wt Bool.not_false ?_
   repeat refine c_r ?_
   refine rg1 s7 ?_
   repeat refine c_r ?_
   refine zaA (by simp) Tryz.ntmps67 rfl (zal (vr0) (zal (vr0) zaz)) ?_
   exact⟨hE1.trans (hEC.trans hE2),_,_,rfl,fun h=>absurd h he⟩
 ·intro _
  repeat (first|refine c_r ?_|refine rg0 ?_)
  refine zaA (by simp) Tryz.ntmps67 rfl (zal (vr0) (zal (vr0) zaz)) ?_
  exact⟨hE1.trans hEC,_,_,rfl,fun _=>hro⟩
theorem zcD(w:World):zfq 2 (PlaceC w):=by
 refine⟨fun h=>?_,fun h=>?_⟩
 ·obtain⟨ov,rfl,_⟩:=h.ex;rfl
 ·obtain⟨ov,rfl,h1⟩:=h.ex
  intro q hq
  simp at hq
  rcases hq with rfl|rfl
  ·exact h1.isOne
  ·rfl
def gxC(cs:List Value)(x:SrvL×(Value×List Value)):Prop:=cs=x.2.2∧cs.length=6∧∀q∈cs,one q=true
theorem zeu:zfq 6 gxC:=⟨fun h=>h.2.1,fun h=>h.2.2⟩
structure SrvX(w0 A:World)(pv:Value)(cs:List Value)(s:SrvL):Prop where
 ex:∃nv a b c d,cs=[nv,zae a,zae b,zae c,zae d,pv]∧s.addr=[a,b,c,d]∧Row w0 nv (s.host.map vs)∧Rows 2 (PlaceC w0) A pv s.places
theorem SrvX.keep{w0 A A':World}{pv:Value}{cs:List Value}{s:SrvL}(h:SrvX w0 A pv cs s){S:Nat→Prop}(hk:Keep S A A')(hS:∀a n c,pv= .slice (some a) n c→a.block<A.heap.size∧¬S a.block):SrvX w0 A' pv cs s:=by
 obtain⟨nv,a,b,c,d,e,ha,h1,h2⟩:=h.ex
 exact⟨nv,a,b,c,d,e,ha,h1,h2.blocks fun a n c hv=>hk.block _ (hS a n c hv).1 (hS a n c hv).2⟩
structure GS(w0:World)(e:TypeId)(B:Nat)(A:World)(ov:Value)(G:List (SrvL×(Value×List Value))):Prop where
 own:Owns 6 gxC B A e ov G
 row:∀x∈G,SrvX w0 A x.2.1 x.2.2 x.1∧BlkB B A x.2.1∧∀a n c,x.2.1= .slice (some a) n c→some a.block≠ov.ownBlock
theorem GS.keep{w0 A A':World}{e:TypeId}{B:Nat}{ov:Value}{G:List (SrvL×(Value×List Value))}(h:GS w0 e B A ov G){S:Nat→Prop}(hk:Keep S A A')(hS:∀b,B≤b→b<A.heap.size→¬S b):GS w0 e B A' ov G:=
 ⟨h.own.keep hk (fun b hb=>hS b (h.own.ge hb).1 (h.own.ge hb).2),fun x hx=>by
  obtain⟨h1,h2,h3⟩:=h.row x hx
  exact⟨h1.keep hk (fun a n c hv=>⟨(h2 a n c hv).2,hS _ (h2 a n c hv).1 (h2 a n c hv).2⟩),h2.ext hk.size,h3⟩⟩
theorem GS.ext{w0 A A':World}{e:TypeId}{B:Nat}{ov:Value}{G:List (SrvL×(Value×List Value))}(h:GS w0 e B A ov G)(hE:Ext A A'):GS w0 e B A' ov G:=h.keep hE (fun _ _ _ h=>h)
theorem GS.app{w0 A A1 A2:World}{e:TypeId}{B:Nat}{ov ov':Value}{G:List (SrvL×(Value×List Value))}{x:SrvL×(Value×List Value)}(h:GS w0 e B A ov G)(hE:Ext A A1)(hB:B≤A.heap.size)
  (hx:SrvX w0 A1 x.2.1 x.2.2 x.1) (hxb:BlkB A.heap.size A1 x.2.1) (ho:Owns 6 gxC B A2 e ov' (G++ [x])) (hk:Keep (fun b=>some b=ov.ownBlock) A1 A2) (hb:∀b,some b=ov'.ownBlock→some b=ov.ownBlock∨A1.heap.size≤b):GS w0 e B A2 ov' (G++ [x]):=by
 refine⟨ho,fun y hy=>?_⟩
 have h1:=h.ext hE
 have hge:∀b,some b=ov.ownBlock→b<A.heap.size:=fun b hb=>(h.own.ge hb).2
 have hy2:SrvX w0 A1 y.2.1 y.2.2 y.1∧BlkB B A1 y.2.1∧∀a n c,y.2.1= .slice (some a) n c→some a.block≠ov.ownBlock:=by
  rcases List.mem_append.1 hy with hy|hy
  ·exact h1.row y hy
  ·rw[List.mem_singleton.1 hy]
   exact⟨hx,hxb.mono hB,fun a n c hv hbb=>by have:=hge _ hbb;have:=(hxb a n c hv).1;omega⟩
 obtain⟨g1,g2,g3⟩:=hy2
 refine⟨g1.keep hk (fun a n c hv=>⟨(g2 a n c hv).2,g3 a n c hv⟩),g2.ext hk.size,fun a n c hv hbb=>?_⟩
 rcases hb _ hbb with e|e
 ·exact g3 a n c hv e
 ·have:=(g2 a n c hv).2;omega
theorem GS.rows{w0 A:World}{e:TypeId}{B:Nat}{ov:Value}{G:List (SrvL×(Value×List Value))}(h:GS w0 e B A ov G)(hE:Ext w0 A):Rows 6 (SrvC A) A ov (G.map Prod.fst):=by
 obtain⟨L,h1,h2,h3⟩:=h.own.rows
 refine⟨L,h1,by rw[h2,List.length_map],fun i hi hi'=>?_⟩
 have hi2:i<G.length:=by omega
 obtain⟨e1,_⟩:=h3 i hi hi2
 obtain⟨g1,_⟩:=h.row _ (List.getElem_mem hi2)
 obtain⟨nv,a,b,c,d,e2,ha,g2,g3⟩:=g1.ex
 rw[e1,e2,List.getElem_map]
 exact⟨nv,a,b,c,d,_,rfl,ha,g2.ext hE,g3.to fun _ _ h=>h.ext hE⟩
structure IP(w0:World)(es ep:TypeId)(b5:Nat)(nv:Value)(a b c d:UInt8)(A0 v:World)(pv:Value)(ps:List zfk):Prop where
 h:v.heap[b5]? =some (.cells #[nv,zae a,zae b,zae c,zae d,pv] es (0,0))
 own:Owns 2 (PlaceC w0) (b5+1) v ep pv ps
 e:Ext A0 v
 lo:A0.heap.size≤b5
theorem IP.app{w0 A0 v v1 v2 v3:World}{es ep:TypeId}{b5:Nat}{nv pv pv':Value}{a b c d:UInt8}{ps:List zfk}{p:zfk}(h:IP w0 es ep b5 nv a b c d A0 v pv ps)(hE:Ext v v1)
  (ho:Owns 2 (PlaceC w0) (b5+1) v2 ep pv' (ps++ [p])) (hk:Keep (fun b=>some b=pv.ownBlock) v1 v2) (h3:v3.heap[b5]? =some (.cells #[nv,zae a,zae b,zae c,zae d,pv'] es (0,0))) (hk3:Keep (fun b=>b=b5) v2 v3):IP w0 es ep b5 nv a b c d A0 v3 pv' (ps++ [p]):=by
 have lo:=h.lo
 have e2:Ext A0 v2:=Keep.to_ext (h.e.trans hE) rfl (fun b hb=>by have:=(h.own.ge hb).1;omega) hk
 exact⟨h3,ho.keep hk3 (fun b hb hb2=>by have:=(ho.ge hb).1;omega),Keep.to_ext e2 rfl (fun b hb=>by omega) hk3,lo⟩
theorem Of15_ok(w:World){cs:List Value}{c:zf7}(hc:ConfAt w cs c)(hf:FewC c):
  Fn Tryz.prog 68 #[.agg cs.toArray] w (fun v w'=>Ext w w'∧∃cs',v= .agg cs'.toArray∧ConfAt w' cs' c):=by
 obtain⟨sv,rv,rfl,hs,hr⟩:=hc.ex
 obtain⟨aS,cS,rfl,hat⟩:=zhH hs
 have hr0:=hr
 have r1:=hr.isOne
 obtain⟨ar,cr,hrv,_,hgr⟩:=hr
 have hsl:=hf.sl
 refine enter Tryz.func68 Tryz.ntmps68 rfl rfl ?_
 repeat refine c_r ?_
 rw[hrv]
 refine rg0 ?_
 rw[←hrv]
 repeat refine c_r ?_
 rw[zap]
 refine zbP ?_
 intro w1 hE1 hs1 hA hC
 have p0:zah w1 (some ⟨w.heap.size,0,Option.none⟩)=some (.slice aS c.servers.length cS):=zac hA rfl
 have p1:zah w1 (some ⟨w.heap.size,1,Option.none⟩)=some rv:=zac hA rfl
 have p2:zah w1 (some ⟨w.heap.size,2,Option.none⟩)=some (vi c.rw):=zac hA rfl
 have p3:zah w1 (some ⟨w.heap.size,3,Option.none⟩)=some (vi c.rf):=zac hA rfl
 repeat refine c_r ?_
 refine rq ?_;intro gd K hgd hK
 try simp (disch:=first|omega|assumption|rfl) only[go_sem,p1,p2,p3,Nat.zero_add]
 refine⟨by kernel_rfl,?_⟩
 rw[hrv,show bdV Tryz.prog 137 [(1,.slice ar (c.roots.map vi).length cr),(2,vi c.rw),(3,vi c.rf)]=some (.agg #[.slice Option.none 0 0,.slice ar (c.roots.map vi).length cr,vi c.rw,vi c.rf]) from by kernel_rfl,←hrv]
 try simp only[go_sem]
 refine za3 (P:=Tryz.prog) (l:=[.slice Option.none 0 0,rv,vi c.rw,vi c.rf]) rfl (fun v hv=>by simp at hv;rcases hv with rfl|rfl|rfl|rfl<;>first|exact r1|rfl) rfl rfl ?_
 intro w2 hE2 hs2 hD
 try simp only[go_sem]
 refine hK _ _ ?_;clear hK hgd;clear K;try clear gd
 obtain⟨c3,hc3⟩:∃b,w1.heap.size=b:=⟨_,rfl⟩
 rw[hc3]at hD hs2 ⊢
 have hE12:=hE1.trans hE2
 have p0w:=zaa hE2 p0
 repeat refine c_r ?_
 refine rg0 ?_
 repeat refine c_r ?_
 refine zai (fun m σ ds A=>ds=[]∧∃(i:Nat) (ov:Value) (G:List (SrvL×(Value×List Value))),i+m=c.servers.length∧σ 4=vi i∧σ 1= .pointer (some ⟨w.heap.size,0,Option.none⟩)∧σ 2= .pointer (some ⟨w.heap.size+1,0,Option.none⟩)∧σ 3= .pointer (some ⟨c3,0,Option.none⟩)∧Ext w1 A∧c3+1≤A.heap.size∧
  A.heap[c3]? =some (.cells #[ov,rv,vi c.rw,vi c.rf] 137 (0,0))∧GS w 217 (c3+1) A ov G∧G.map Prod.fst=c.servers.take i) c.servers.length ?_ ?_
 ·exact⟨rfl,0,.slice Option.none 0 0,[],by omega,vr0,vq0,vq0,vq0,hE2,by omega,hD,⟨Owns.nil _ _ _ _ _,fun x h=>by cases h⟩,rfl⟩
 rintro m σ ds A ⟨rfl,i,ov,G,him,s4,s1,s2,s3,hEA,hAs,hB3,hGS,hGf⟩
 have p0A:=zaa hEA p0
 repeat refine c_r ?_
 refine rg4 s4 s1 p0A Nat.add_zero ?_
 repeat refine c_r ?_
 refine wc0 ?_ ?_
 ·intro hlt
  simp only[decide_eq_true_eq]at hlt
  have hi:i<c.servers.length:=by omega
  have hi0:(0:Int)≤(i:Int):=by omega
  have hi1':(i:Int)+1=((i+1:Nat):Int):=by push_cast;rfl
  obtain⟨xa,xi,x5,nv,ap,cp,rfl,hxi,hx5,g0,hn,g5,⟨b1,b2,b3,b4,hadr,hcs⟩,hpr,hpl⟩:=hat i hi
  obtain⟨s,hse⟩:∃s,c.servers[i]=s:=⟨_,rfl⟩
  obtain⟨fs1,fs2,fs3⟩:=hf.s s (hse▸List.getElem_mem hi)
  rw[hse]at hn g5 hadr hcs hpr
  simp only[hse]at hpl
  have n1:=hn.isOne
  have hz0:adr (some xi) 0=some xi:=zar _
  obtain⟨y1,hy1⟩:∃y,adr (some xi) 1=some y:=⟨_,rfl⟩
  have gby:zaw w (some y1) 4=some [zae b1,zae b2,zae b3,zae b4]:=by
   have h5:=zaW (m:=1) (k:=5) hcs
   rw[hy1]at h5
   exact zcq (m:=4) (k:=1) h5
  obtain⟨an,cn,hnv,_⟩:=id hn
  repeat refine c_r ?_
  refine zaL (fun i=>i==14) [(0,true),(1,true),(2,true),(3,true),(4,true),(5,true),(6,true),(7,true),(8,true),(9,true),(10,true),(11,true),(12,true),(13,false),(14,false)] NoS mixed (by kernel_rfl) ?_;intro gd K x hgd hx hxe hK;clear hxe
  have hwx:=hE1.trans (hEA.trans hx)
  have p0x:=zaa hx p0A
  have g0x:=zaa hwx g0
  have gbx:=zaf hwx gby
  simp (disch:=first|omega|assumption|rfl) only[go_sem,s4,s1,p0x,Nat.add_zero,hi0,hlt,hxi,hz0,hy1,g0x,gbx]
  refine⟨by kernel_rfl,?_⟩
  rw[hnv,show bdV Tryz.prog 217 [(0,.slice an (s.host.map vs).length cn),(1,.agg #[zae b1,zae b2,zae b3,zae b4])]=some (.agg #[.slice an (s.host.map vs).length cn,zae b1,zae b2,zae b3,zae b4,.slice Option.none 0 0]) from by kernel_rfl,←hnv]
  simp (disch:=first|omega|assumption|rfl) only[go_sem]
  refine⟨.inr (Ext.alloc x _),?_⟩
  refine za3 (P:=Tryz.prog) (l:=[nv,zae b1,zae b2,zae b3,zae b4,.slice Option.none 0 0]) rfl (fun v hv=>by simp at hv;rcases hv with rfl|rfl|rfl|rfl|rfl|rfl<;>first|exact n1|rfl) rfl rfl ?_
  intro A1 hE3 hs3 hB5
  refine⟨.inl rfl,?_⟩
  simp (disch:=first|omega|assumption|rfl) only[go_sem]
  refine hK _ _ ?_;clear hK hgd;clear K;try clear gd
  have hx3:=hx.trans hE3
  obtain⟨b5,hb5⟩:∃b,x.heap.size=b:=⟨_,rfl⟩
  have hsx:=hx.size
  rw[hb5]at hB5 hs3 hsx ⊢
  have hIP:IP w 217 219 b5 nv b1 b2 b3 b4 A A1 (.slice Option.none 0 0) []:=⟨hB5,Owns.nil _ _ _ _ _,hx3,hsx⟩
  clear p0x g0x gbx hx hx3 hwx hE3 hB5
  repeat refine c_r ?_
  refine rg0 ?_
  repeat refine c_r ?_
  refine zai (fun m σ ds v=>ds=[]∧∃(k:Nat) (pv:Value),k+m=s.places.length∧σ 6=vi k∧σ 4=vi i∧σ 1= .pointer (some ⟨w.heap.size,0,Option.none⟩)∧σ 2= .pointer (some ⟨w.heap.size+1,0,Option.none⟩)∧σ 3= .pointer (some ⟨c3,0,Option.none⟩)∧σ 5= .pointer (some ⟨b5,0,Option.none⟩)∧
   IP w 217 219 b5 nv b1 b2 b3 b4 A v pv (s.places.take k)∧b5+1≤v.heap.size) s.places.length ?_ ?_
  ·exact⟨rfl,0,_,by omega,vr0,(vq1 s4),(vq1 s1),(vq1 s2),(vq1 s3),vq0,hIP,by omega⟩
  clear s4 s1 s2 s3 hIP
  rintro m2 σ2 ds2 v ⟨rfl,k,pv,hkm,s6,s4,s1,s2,s3,s5,hIP,hvs⟩
  have hEv:=hEA.trans hIP.e
  have hwv:=hE1.trans hEv
  have p0v:=zaa hEv p0
  have g5v:=zaa hwv g5
  repeat refine c_r ?_
  refine rg9 s6 s4 s1 (an3 p0v Nat.add_zero g5v) hi0 hlt hxi hx5 trivial ?_
  repeat refine c_r ?_
  refine wc0 ?_ ?_
  ·intro hlt2
   simp only[decide_eq_true_eq]at hlt2
   have hk:k<s.places.length:=by omega
   have hk0:(0:Int)≤(k:Int):=by omega
   have hk1':(k:Int)+1=((k+1:Nat):Int):=by push_cast;rfl
   obtain⟨xp,xk,xk1,ow,rfl,hxk,hxk1,f0,ho,f1⟩:=hpl k hk
   have hz1:adr (some xk) 0=some xk:=zar _
   obtain⟨ao,co,how,_⟩:=id ho
   have q5:zah v (some ⟨b5,5,Option.none⟩)=some pv:=zac hIP.h rfl
   have lo:=hIP.lo
   repeat refine c_r ?_
   refine zaL (fun i=>i==26) [(0,true),(1,true),(2,true),(3,true),(4,true),(5,true),(6,true),(7,true),(8,true),(9,true),(10,true),(11,true),(12,true),(13,true),(14,true),(15,true),(16,true),(17,true),(18,true),(19,true),(20,true),(21,true),(22,true),(23,false),(24,false),(25,true),(26,false)] (zc5 (b5+1)) mixed (by kernel_rfl) ?_;intro gd K x hgd hx hxe hK;have hx0:=drewX hxe;clear hxe
   have hwx:=hwv.trans hx0
   have p0x:=zaa hx0 p0v
   have g5x:=zaa hwx g5
   have f0x:=zaa hwx f0
   have f1x:=zaa hwx f1
   have q5x:=zaa hx0 q5
   simp (disch:=first|omega|assumption|rfl) only[go_sem,s6,s4,s1,s5,p0x,Nat.add_zero,Nat.zero_add,hi0,hlt,hk0,hlt2,hxi,hx5,hxk,hz1,hxk1,g5x,f0x,f1x,q5x]
   have l5:x5.block<b5+1:=by have:=zcj (show w.cell? x5=some _ from g5);have:=hwv.size;have:=hE1.size;have:=hEA.size;omega
   have lk:xk.block<b5+1:=by have:=zcj (show w.cell? xk=some _ from f0);have:=hE1.size;have:=hEA.size;omega
   have lk1:xk1.block<b5+1:=by have:=zcj (show w.cell? xk1=some _ from f1);have:=hE1.size;have:=hEA.size;omega
   have lw:w.heap.size<b5+1:=by have:=hE1.size;have:=hEA.size;omega
   refine⟨zed (by omega),zed lw,zeS l5,zeS lk,zed lw,zeS l5,zeS lk1,by kernel_rfl,?_⟩
   rw[how,show bdV Tryz.prog 219 [(0,.slice ao (s.places[k].o.map vs).length co),(1,vs s.places[k].path)]=some (.agg #[.slice ao (s.places[k].o.map vs).length co,vs s.places[k].path]) from by kernel_rfl,←how]
   simp (disch:=first|omega|assumption|rfl) only[go_sem]
   refine zbC (zcD w) (l:=[ow,vs s.places[k].path]) (a:=s.places[k]) (by rfl) (by rfl) (by rfl) (by rfl) ⟨ow,rfl,ho⟩ (by decide) ?_
   intro v1 hE4 hs4' ho4
   refine⟨.inr hE4.keep,?_⟩
   simp (disch:=first|omega|assumption|rfl) only[go_sem]
   have hx04:=hx0.trans hE4
   have hsz4:=hx04.size
   refine zaQ (zcD w) (hIP.own.ext hx04) ho4.rows (by rfl) (by rfl) (by rfl) (by rfl) (by rfl) (by rfl) (by decide) (vr0) (vr0) (by simp;omega) (by decide) (by omega) ?_
   intro pv' v2 ho5 hE5 hk5 hb5'
   refine⟨.inr (hk5.mono fun b _ hb=>(hIP.own.ge hb).1),?_⟩
   obtain⟨ap',cp',hpv',_⟩:=ho5.rows.open
   simp (disch:=first|omega|assumption|rfl) only[go_sem,s5,Nat.zero_add]
   refine zfo (P:=Tryz.prog) (t:=215) (j:=5) (u:=pv') (l:=[nv,zae b1,zae b2,zae b3,zae b4,pv]) ((hk5.block _ (by omega) (fun hb=>by have:=(hIP.own.ge hb).1;omega)).trans (Ext.at hx04 hIP.h)) (by simp) (by rw[hpv'];rfl) rfl rfl ?_
   intro v3 hs3' hB3' hk3'
   refine⟨.inl rfl,?_⟩
   simp (disch:=first|omega|assumption|rfl) only[go_sem]
   refine hK _ _ ?_;clear hK hgd;clear K;try clear gd
   have hIPn:=hIP.app hx04 ho5 hk5 hB3' hk3'
   have hs5:=hk5.size
   repeat refine c_r ?_
   refine rg2 s6 hk1' ?_
   repeat refine c_r ?_
   refine⟨m2 - 1,by omega,rfl,k+1,pv',by omega,vq0,(vq1 s4),(vq1 s1),(vq1 s2),(vq1 s3),(vq1 s5),?_,by omega⟩
   rw[zak hk];exact hIPn
  ·intro hge2
   simp only[decide_eq_false_iff_not]at hge2
   have hfull:s.places.take k=s.places:=List.take_of_length_le (by omega)
   rw[hfull]at hIP
   obtain⟨ap',cp',hpv',_⟩:=hIP.own.rows.open
   have lo:=hIP.lo
   have dB:zaw v (some ⟨b5,0,Option.none⟩) 6=some [nv,zae b1,zae b2,zae b3,zae b4,pv]:=zay hIP.h rfl
   have q3:zah v (some ⟨c3,0,Option.none⟩)=some ov:=zac (Ext.at hIP.e hB3) rfl
   have ones6:∀q∈ [nv,zae b1,zae b2,zae b3,zae b4,pv],one q=true:=fun q hq=>by
    simp at hq
    rcases hq with rfl|rfl|rfl|rfl|rfl|rfl<;>first|exact n1|rfl| (rw[hpv'];rfl)
   have hGl:G.length=i:=by
    have:=congrArg List.length hGf
    simp at this;omega
   repeat refine c_r ?_
   refine rq ?_;intro gd K hgd hK
   try simp (disch:=first|omega|assumption|rfl) only[go_sem,s3,s5,q3,dB,Nat.add_zero]
   refine zbC (C:=gxC) zeu (l:=[nv,zae b1,zae b2,zae b3,zae b4,pv]) (a:=(s,(pv,[nv,zae b1,zae b2,zae b3,zae b4,pv]))) (by rfl) (by rfl) (by rfl) (by rfl) ⟨rfl,rfl,ones6⟩ (by decide) ?_
   intro v1 hE4 hs4' ho4
   try simp only[go_sem]
   have hAv1:=hIP.e.trans hE4
   have hsA1:=hAv1.size
   refine zaQ zeu ((hGS.ext hAv1).own) ho4.rows (by rfl) (by rfl) (by rfl) (by rfl) (by rfl) (by rfl) (by decide) (vr0) (vr0) (by simp;omega) (by decide) (by omega) ?_
   intro ov' v2 ho5 hE5 hk5 hb5'
   obtain⟨ao',co',hov',_⟩:=ho5.rows.open
   try simp (disch:=first|omega|assumption|rfl) only[go_sem,s3,Nat.add_zero]
   refine zfo (P:=Tryz.prog) (t:=135) (j:=0) (u:=ov') (l:=[ov,rv,vi c.rw,vi c.rf]) ((hk5.block _ (by omega) (fun hb=>by have:=(hGS.own.ge hb).1;omega)).trans (Ext.at hAv1 hB3)) (by simp) (by rw[hov'];rfl) rfl rfl ?_
   intro v3 hs3' hB3' hk3'
   try simp only[go_sem]
   refine hK _ _ ?_;clear hK hgd;clear K;try clear gd
   have hGS2:=hGS.app hAv1 hAs (x:=(s,(pv,[nv,zae b1,zae b2,zae b3,zae b4,pv]))) ⟨nv,b1,b2,b3,b4,rfl,hadr,hn,hIP.own.rows.ext hE4⟩ ((hIP.own.blk.mono (by omega)).ext hE4.size) ho5 hk5 hb5'
   have hGS3:=hGS2.keep hk3' (fun b h1 _ h2=>by omega)
   have hs5:=hk5.size
   repeat refine c_r ?_
   refine rg2 s4 hi1' ?_
   repeat refine c_r ?_
   refine⟨m - 1,by omega,rfl,i+1,ov',_,by omega,vq0,(vq1 s1),(vq1 s2),(vq1 s3),Keep.to_ext (hE5 w1 (hEA.trans hAv1) (by omega)) rfl (fun b hb=>by omega) hk3',by omega,hB3',hGS3,?_⟩
   rw[zak hi,List.map_append,hGf,hse];rfl
 ·intro hge
  simp only[decide_eq_false_iff_not]at hge
  rw[List.take_of_length_le (by omega)]at hGf
  have hEw:=hE1.trans hEA
  have hrows:=hGS.rows hEw
  rw[hGf]at hrows
  have o1:=hrows.isOne
  have dx:=zay (n:=4) (l:=[ov,rv,vi c.rw,vi c.rf]) hB3 rfl
  repeat refine c_r ?_
  refine rq ?_;intro gd K hgd hK
  try simp (disch:=first|omega|assumption|rfl) only[go_sem,s3,s2,dx]
  refine zbQ (P:=Tryz.prog) (t:=137) (l:=[ov,rv,vi c.rw,vi c.rf]) (Ext.at hEA hC) rfl (fun v hv=>by simp at hv;rcases hv with rfl|rfl|rfl|rfl<;>first|exact r1|exact o1|rfl) rfl rfl ?_
  intro z hsz hBz hkz
  try simp only[go_sem]
  refine hK _ _ ?_;clear hK hgd;clear K;try clear gd
  repeat refine c_r ?_
  refine zaA (.inr rfl) Tryz.ntmps68 rfl (zcB (x:=⟨w.heap.size+1,0,Option.none⟩) (k:=4) ((vq1 s2)) rfl rfl (zay hBz rfl) zaz) ?_
  have hEz:Ext w z:=Keep.to_ext hEw rfl (fun b hb=>by omega) hkz
  have hGz:=(hGS.keep hkz (fun b h1 _ h2=>by omega)).rows hEz
  rw[hGf]at hGz
  exact⟨hEz,_,rfl,ov,rv,rfl,hGz,hr0.ext hEz⟩
section
variable {P : Program} {d : Option Tmp} {ty : TypeId} {ps : String} {af : Array Edge} {g : Option (Nat × Bool)} {ρ : Operand → Value} {w : World} {K : Value → World → Prop}
theorem op_field{s:TypeId}{x:Operand}{f:Nat}{fs:Array Field}{fd:Field}{cs:Array Value}{v:Value}(hs:P.underlying s=some (.struct fs))(hf:fs[f]? =some fd)(ha:tyA P fd.type=false)(hu:(P.underlying fd.type).isSome=true)
  (hx:ρ x= .agg cs) (hv:cs[fd.offset]? =some v) (h:K v w):opV P ⟨d,.field s x f,ty,ps,af,g⟩ ρ w K:=by
 show opW P _ ρ w K
 refine zaK (s:=Instr.field s (ρ x) f) (w':=w) (v:=v) ?_ h
 obtain⟨u,hu⟩:=Option.isSome_iff_exists.1 hu
 have hi:(isAgg fd.type).run P w= .ok false w:=by
  unfold tyA at ha
  rw[hu]at ha
  cases u<;>first| (cases ha;done)|simp[isAgg,underlying,program,Sem.run,hu]
 have hp:(part fd.type cs fd.offset).run P w= .ok v w:=by
  unfold part
  simp only[Sem.run_bind,hi,Result.andThen_ok,Bool.false_eq_true,if_false,hv,Sem.run_pure]
 unfold Instr.field
 simp[underlying,program,Sem.run,hs,hf,hx,asAgg]
 exact hp
end
theorem zj1{w:World}{hv:Value}{l:List zfm}(hs:Rows 6 (HostC w) w hv l):∃a c,hv= .slice a l.length c∧∀i (h:i<l.length),∃xa xi x5 nv az cz,a=some xa∧adr (some xa) (i*6)=some xi∧adr (some xi) 5=some x5∧zah w (some xi)=some nv∧Row w nv (l[i].name.map vs)∧
  zah w (some x5)=some (.slice az l[i].zones.length cz)∧(∃b1 b2 b3 b4,l[i].addr=[b1,b2,b3,b4]∧zaw w (some xi) 6=some [nv,zae b1,zae b2,zae b3,zae b4,.slice az l[i].zones.length cz])∧
  ∀k (h:k<l[i].zones.length),∃xz xk ov lv,az=some xz∧adr (some xz) (k*2)=some xk∧zaw w (some xk) 2=some [ov,lv]∧Row w ov (l[i].zones[k].o.map vs)∧Rows 7 (RecAt w) w lv l[i].zones[k].recs:=by
 obtain⟨a,c,rfl,_,hg⟩:=hs.open
 refine⟨a,c,rfl,fun i hi=>?_⟩
 obtain⟨cs,hcs,hS⟩:=hg i hi
 obtain⟨nv,b1,b2,b3,b4,pv,rfl,ha,hn,hp⟩:=hS.ex
 obtain⟨ap,cp,rfl,_,hgp⟩:=hp.open
 obtain⟨xa,rfl⟩:=Option.isSome_iff_exists.1 (zan hcs)
 obtain⟨xi,hxi⟩:∃xi,adr (some xa) (i*6)=some xi:=⟨_,rfl⟩
 obtain⟨x5,hx5⟩:∃x,adr (some xi) 5=some x:=⟨_,rfl⟩
 rw[hxi]at hcs
 have h0:=zaq (j:=0) hcs rfl
 rw[zar]at h0
 have h5:=zaq (j:=5) hcs rfl
 rw[hx5]at h5
 refine⟨xa,xi,x5,nv,ap,cp,rfl,hxi,hx5,h0,hn,h5,⟨b1,b2,b3,b4,ha,hcs⟩,fun k hk=>?_⟩
 obtain⟨c2,hc2,hP⟩:=hgp k hk
 obtain⟨ov,lv,rfl,ho,hl⟩:=hP.ex
 obtain⟨xp,rfl⟩:=Option.isSome_iff_exists.1 (zan hc2)
 obtain⟨xk,hxk⟩:∃xi,adr (some xp) (k*2)=some xi:=⟨_,rfl⟩
 rw[hxk]at hc2
 exact⟨xp,xk,ov,lv,rfl,hxk,hc2,ho,hl⟩
def zgl(z:zdT):zfk:=⟨z.o,[120]⟩
def srvH(h:zfm):SrvL:=⟨h.name,h.addr,h.zones.map zgl⟩
def confN(N:NetL):zf7:=⟨N.hosts.map srvH,N.roots,N.rw,N.rf⟩
def NumN(N:NetL):Prop:=∀h∈N.hosts,∀z∈h.zones,NumR z.recs
structure zbb(N:NetL):Prop where
 z:NetZ N
 h1:1≤N.hosts.length∧N.hosts.length≤6
 r1:1≤N.roots.length∧N.roots.length≤4
 rin:∀r∈N.roots,0≤r∧r<(N.hosts.length:Int)
 w:0≤N.rw∧N.rw≤4
 f:0≤N.rf∧N.rf≤6
 zl:∀h∈N.hosts,h.zones.length≤4
 sh:∀h∈N.hosts,Sh h.name
theorem RecAt.up{w x:World}{v:Value}{R:List RecL}(h:Rows 7 (RecAt w) x v R)(hE:Ext w x):Rows 7 (RecAt x) x v R:=h.to fun _ _ h=>h.ext hE
theorem zkJ(w:World){cs:List Value}{N:NetL}(hN:NetAt w cs N)(hv:NumN N):
  Fn Tryz.prog 16 #[.agg cs.toArray] w (fun v w'=>Ext w w'∧∃t,v= .bool t∧(t=true→zbb N)):=by
 obtain⟨hsv,rv,rfl,hs,hr⟩:=hN.ex
 obtain⟨aS,cS,rfl,hat⟩:=zj1 hs
 have hr0:=hr
 have r1:=hr.isOne
 obtain⟨ar,cr,hrv,_,hgr⟩:=hr
 rw[List.length_map]at hrv
 refine enter Tryz.func16 Tryz.ntmps16 rfl rfl ?_
 repeat refine c_r ?_
 rw[hrv]
 refine rg0 ?_
 rw[←hrv]
 repeat refine c_r ?_
 refine zaM ?_
 intro w1 hE1 hs1 hA
 have p0:zah w1 (some ⟨w.heap.size,0,Option.none⟩)=some (.slice aS N.hosts.length cS):=zac hA rfl
 have p1:zah w1 (some ⟨w.heap.size,1,Option.none⟩)=some rv:=zac hA rfl
 have p2:zah w1 (some ⟨w.heap.size,2,Option.none⟩)=some (vi N.rw):=zac hA rfl
 have p3:zah w1 (some ⟨w.heap.size,3,Option.none⟩)=some (vi N.rf):=zac hA rfl
 rw[hrv]at p1
 repeat refine c_r ?_
 refine zax (Q:=fun e σ' ds' v'=>e= .normal∧ds'=[]∧v'=w1∧σ' 1= .pointer (some ⟨w.heap.size,0,Option.none⟩)∧∃t,σ' 51= .bool t∧(t=false→(1≤N.hosts.length∧N.hosts.length≤6)∧(1≤N.roots.length∧N.roots.length≤4)∧(0≤N.rw∧N.rw≤4)∧0≤N.rf∧N.rf≤6)) ?_ ?_
 ·by_cases e0:(N.hosts.length:Int)<1
  ·refine rgg [(4,14),(10,20),(16,26),(22,32),(27,37),(32,42),(37,47)] (an3 p0 Nat.add_zero (decide_eq_true e0)) ?_
   exact⟨rfl,rfl,rfl,vq0,_,vr0,fun h=>by cases h⟩
  by_cases e1:(N.hosts.length:Int)>6
  ·refine rgg [(4,14),(10,20),(16,26),(22,32),(27,37),(32,42),(37,47)] (an4 p0 Nat.add_zero (decide_eq_false e0) (decide_eq_true e1)) ?_
   exact⟨rfl,rfl,rfl,vq0,_,vr0,fun h=>by cases h⟩
  by_cases e2:(N.roots.length:Int)<1
  ·refine rgg [(4,14),(10,20),(16,26),(22,32),(27,37),(32,42),(37,47)] (an7 p0 Nat.add_zero (decide_eq_false e0) (decide_eq_false e1) p1 Nat.zero_add (decide_eq_true e2)) ?_
   exact⟨rfl,rfl,rfl,vq0,_,vr0,fun h=>by cases h⟩
  by_cases e3:(N.roots.length:Int)>4
  ·refine rgg [(4,14),(10,20),(16,26),(22,32),(27,37),(32,42),(37,47)] (an8 p0 Nat.add_zero (decide_eq_false e0) (decide_eq_false e1) p1 Nat.zero_add (decide_eq_false e2) (decide_eq_true e3)) ?_
   exact⟨rfl,rfl,rfl,vq0,_,vr0,fun h=>by cases h⟩
  by_cases e4:N.rw<0
  ·refine rgg [(4,14),(10,20),(16,26),(22,32),(27,37),(32,42),(37,47)] (an3 (an8 p0 Nat.add_zero (decide_eq_false e0) (decide_eq_false e1) p1 Nat.zero_add (decide_eq_false e2) (decide_eq_false e3)) p2 (decide_eq_true e4)) ?_
   exact⟨rfl,rfl,rfl,vq0,_,vr0,fun h=>by cases h⟩
  by_cases e5:N.rw>4
  ·refine rgg [(4,14),(10,20),(16,26),(22,32),(27,37),(32,42),(37,47)] (an4 (an8 p0 Nat.add_zero (decide_eq_false e0) (decide_eq_false e1) p1 Nat.zero_add (decide_eq_false e2) (decide_eq_false e3)) p2 (decide_eq_false e4) (decide_eq_true e5)) ?_
   exact⟨rfl,rfl,rfl,vq0,_,vr0,fun h=>by cases h⟩
  by_cases e6:N.rf<0
  ·refine rgg [(4,14),(10,20),(16,26),(22,32),(27,37),(32,42),(37,47)] (an6 (an8 p0 Nat.add_zero (decide_eq_false e0) (decide_eq_false e1) p1 Nat.zero_add (decide_eq_false e2) (decide_eq_false e3)) p2 (decide_eq_false e4) (decide_eq_false e5) p3 (decide_eq_true e6)) ?_
   exact⟨rfl,rfl,rfl,vq0,_,vr0,fun h=>by cases h⟩
  refine rgg [(4,14),(10,20),(16,26),(22,32),(27,37),(32,42),(37,47)] (an6 (an8 p0 Nat.add_zero (decide_eq_false e0) (decide_eq_false e1) p1 Nat.zero_add (decide_eq_false e2) (decide_eq_false e3)) p2 (decide_eq_false e4) (decide_eq_false e5) p3 (decide_eq_false e6)) ?_
  refine⟨rfl,rfl,rfl,vq0,_,vr0,fun h=>?_⟩
  simp only[decide_eq_false_iff_not]at h
  omega
 rintro _ σ1 _ w2 ⟨rfl,rfl,rfl,s1,t,s51,ht⟩
 repeat refine c_r ?_
 cases t with
 |true=>
  refine wt s51 ?_
  repeat (first|refine c_r ?_|refine rg0 ?_)
  refine rt0 Tryz.ntmps16 ?_
  exact⟨hE1,_,rfl,fun h=>by cases h⟩
 |false=>
 refine wf s51 ?_
 obtain⟨k1,k2,k3,k4⟩:=ht rfl
 clear ht s51
 repeat refine c_r ?_
 refine rq ?_;intro gd K hgd hK
 try simp (disch:=first|omega|assumption|rfl) only[go_sem,s1,p1,p2,p3,Nat.zero_add]
 refine⟨by kernel_rfl,?_⟩
 rw[show bdV Tryz.prog 112 [(1,.slice ar N.roots.length cr),(2,vi N.rw),(3,vi N.rf)]=some (.agg #[.slice Option.none 0 0,.slice ar N.roots.length cr,vi N.rw,vi N.rf]) from by kernel_rfl,←hrv]
 try simp only[go_sem]
 refine za3 (P:=Tryz.prog) (l:=[.slice Option.none 0 0,rv,vi N.rw,vi N.rf]) rfl (fun v hv=>by simp at hv;rcases hv with rfl|rfl|rfl|rfl<;>first|exact r1|rfl) rfl rfl ?_
 intro w3 hE2 hs2 hD
 try simp only[go_sem]
 refine hK _ _ ?_;clear hK hgd;clear K;try clear gd
 obtain⟨c3,hc3⟩:∃b,w2.heap.size=b:=⟨_,rfl⟩
 rw[hc3]at hD hs2 ⊢
 repeat refine c_r ?_
 refine rg0 ?_
 repeat refine c_r ?_
 refine zai (fun m σ ds A=>ds=[]∧∃(i:Nat) (ov:Value) (G:List (SrvL×(Value×List Value))),i+m=N.hosts.length∧σ 4=vi i∧σ 1= .pointer (some ⟨w.heap.size,0,Option.none⟩)∧σ 3= .pointer (some ⟨c3,0,Option.none⟩)∧Ext w2 A∧c3+1≤A.heap.size∧
  A.heap[c3]? =some (.cells #[ov,rv,vi N.rw,vi N.rf] 112 (0,0))∧GS w 119 (c3+1) A ov G∧G.map Prod.fst=(N.hosts.take i).map srvH∧∀j (h:j<N.hosts.length),j<i→N.hosts[j].zones.length≤4∧∀z∈N.hosts[j].zones,GoodZ z) N.hosts.length ?_ ?_
 ·exact⟨rfl,0,.slice Option.none 0 0,[],by omega,vr0,(vq1 s1),vq0,hE2,by omega,hD,⟨Owns.nil _ _ _ _ _,fun x h=>by cases h⟩,rfl,fun j h h2=>absurd h2 (by omega)⟩
 clear s1
 rintro m σ ds A ⟨rfl,i,ov,G,him,s4,s1,s3,hEA,hAs,hB3,hGS,hGf,hgood⟩
 have p0A:=zaa hEA p0
 repeat refine c_r ?_
 refine rg4 s4 s1 p0A Nat.add_zero ?_
 repeat refine c_r ?_
 refine wc0 ?_ ?_
 ·intro hlt
  simp only[decide_eq_true_eq]at hlt
  have hi:i<N.hosts.length:=by omega
  have hi0:(0:Int)≤(i:Int):=by omega
  have hi1':(i:Int)+1=((i+1:Nat):Int):=by push_cast;rfl
  obtain⟨xa,xi,x5,nv,az,cz,rfl,hxi,hx5,g0,hn,g5,⟨b1,b2,b3,b4,hadr,hcs⟩,hpl⟩:=hat i hi
  have hvi:=hv _ (List.getElem_mem hi)
  obtain⟨s,hse⟩:∃s,N.hosts[i]=s:=⟨_,rfl⟩
  rw[hse]at hn g5 hadr hcs hvi
  simp only[hse]at hpl
  have n1:=hn.isOne
  have hz0:adr (some xi) 0=some xi:=zar _
  obtain⟨y1,hy1⟩:∃y,adr (some xi) 1=some y:=⟨_,rfl⟩
  have gby:zaw w (some y1) 4=some [zae b1,zae b2,zae b3,zae b4]:=by
   have h5:=zaW (m:=1) (k:=5) hcs
   rw[hy1]at h5
   exact zcq (m:=4) (k:=1) h5
  obtain⟨an,cn,hnv,_⟩:=id hn
  repeat refine c_r ?_
  refine zaL (fun i=>i==14) [(0,true),(1,true),(2,true),(3,true),(4,true),(5,true),(6,true),(7,true),(8,true),(9,true),(10,true),(11,true),(12,true),(13,false),(14,false)] NoS mixed (by kernel_rfl) ?_;intro gd K x hgd hx hxe hK;clear hxe
  have hwx:=hE1.trans (hEA.trans hx)
  have p0x:=zaa hx p0A
  have g0x:=zaa hwx g0
  have gbx:=zaf hwx gby
  simp (disch:=first|omega|assumption|rfl) only[go_sem,s4,s1,p0x,Nat.add_zero,hi0,hlt,hxi,hz0,hy1,g0x,gbx]
  refine⟨by kernel_rfl,?_⟩
  rw[hnv,show bdV Tryz.prog 119 [(0,.slice an (s.name.map vs).length cn),(1,.agg #[zae b1,zae b2,zae b3,zae b4])]=some (.agg #[.slice an (s.name.map vs).length cn,zae b1,zae b2,zae b3,zae b4,.slice Option.none 0 0]) from by kernel_rfl,←hnv]
  simp (disch:=first|omega|assumption|rfl) only[go_sem]
  refine⟨.inr (Ext.alloc x _),?_⟩
  refine za3 (P:=Tryz.prog) (l:=[nv,zae b1,zae b2,zae b3,zae b4,.slice Option.none 0 0]) rfl (fun v hv=>by simp at hv;rcases hv with rfl|rfl|rfl|rfl|rfl|rfl<;>first|exact n1|rfl) rfl rfl ?_
  intro A1 hE3 hs3 hB5
  refine⟨.inl rfl,?_⟩
  simp (disch:=first|omega|assumption|rfl) only[go_sem]
  refine hK _ _ ?_;clear hK hgd;clear K;try clear gd
  have hx3:=hx.trans hE3
  obtain⟨b5,hb5⟩:∃b,x.heap.size=b:=⟨_,rfl⟩
  have hsx:=hx.size
  rw[hb5]at hB5 hs3 hsx ⊢
  have hIP:IP w 119 131 b5 nv b1 b2 b3 b4 A A1 (.slice Option.none 0 0) []:=⟨hB5,Owns.nil _ _ _ _ _,hx3,hsx⟩
  have p01:=zaa hx3 p0A
  have g51:=zaa (hE1.trans (hEA.trans hx3)) g5
  clear p0x g0x gbx hx hwx hE3 hB5
  repeat refine c_r ?_
  by_cases h4:(s.zones.length:Int)>4
  ·refine rg9 s4 s1 p01 Nat.add_zero hi0 hlt hxi hx5 (an2 g51 (decide_eq_true h4)) ?_
   repeat refine c_r ?_
   refine wt trivial ?_
   repeat (first|refine c_r ?_|refine rg0 ?_)
   refine rt0 Tryz.ntmps16 ?_
   exact⟨hE1.trans (hEA.trans hx3),_,rfl,fun h=>by cases h⟩
  refine rg9 s4 s1 p01 Nat.add_zero hi0 hlt hxi hx5 (an2 g51 (decide_eq_false h4)) ?_
  repeat refine c_r ?_
  refine wf trivial ?_
  clear p01 g51 hx3
  repeat refine c_r ?_
  refine rg0 ?_
  repeat refine c_r ?_
  refine zai (fun m σ ds v=>ds=[]∧∃(k:Nat) (pv:Value),k+m=s.zones.length∧σ 6=vi k∧σ 4=vi i∧σ 1= .pointer (some ⟨w.heap.size,0,Option.none⟩)∧σ 3= .pointer (some ⟨c3,0,Option.none⟩)∧σ 5= .pointer (some ⟨b5,0,Option.none⟩)∧
   IP w 119 131 b5 nv b1 b2 b3 b4 A v pv ((s.zones.take k).map zgl)∧b5+1≤v.heap.size∧∀j (h:j<s.zones.length),j<k→GoodZ s.zones[j]) s.zones.length ?_ ?_
  ·exact⟨rfl,0,_,by omega,vr0,(vq1 s4),(vq1 s1),(vq1 s3),vq0,hIP,by omega,fun j h h2=>absurd h2 (by omega)⟩
  clear s4 s1 s3 hIP
  rintro m2 σ2 ds2 v ⟨rfl,k,pv,hkm,s6,s4,s1,s3,s5,hIP,hvs,hgz⟩
  have hEv:=hEA.trans hIP.e
  have hwv:=hE1.trans hEv
  have p0v:=zaa hEv p0
  have g5v:=zaa hwv g5
  repeat refine c_r ?_
  refine rg9 s6 s4 s1 (an3 p0v Nat.add_zero g5v) hi0 hlt hxi hx5 trivial ?_
  repeat refine c_r ?_
  refine wc0 ?_ ?_
  ·intro hlt2
   simp only[decide_eq_true_eq]at hlt2
   have hk:k<s.zones.length:=by omega
   have hk0:(0:Int)≤(k:Int):=by omega
   have hk1':(k:Int)+1=((k+1:Nat):Int):=by push_cast;rfl
   obtain⟨xp,xk,ow,lv,rfl,hxk,dz,ho,hl⟩:=hpl k hk
   obtain⟨z,hze⟩:∃z,s.zones[k]=z:=⟨_,rfl⟩
   have hnz:=hvi _ (List.getElem_mem hk)
   rw[hze]at ho hl hnz
   have o1:=ho.isOne
   have l1:=hl.isOne
   have dzv:=zaf hwv dz
   repeat refine c_r ?_
   refine rq ?_;intro gd K hgd hK
   try simp (disch:=first|omega|assumption|rfl) only[go_sem,s6,s4,s1,p0v,Nat.add_zero,g5v,hi0,hlt,hxi,hx5,hk0,hlt2,hxk,dzv]
   refine za3 (P:=Tryz.prog) (l:=[ow,lv]) rfl (zaX o1 l1) rfl rfl ?_
   intro v1 hE4 hs4' hB7
   try simp only[go_sem]
   refine hK _ _ ?_;clear hK hgd;clear K;try clear gd
   obtain⟨b7,hb7⟩:∃b,v.heap.size=b:=⟨_,rfl⟩
   rw[hb7]at hB7 hs4' ⊢
   have hwv1:=hwv.trans hE4
   have e0:zah v1 (some ⟨b7,0,Option.none⟩)=some ow:=zac hB7 rfl
   have e1:zah v1 (some ⟨b7,1,Option.none⟩)=some lv:=zac hB7 rfl
   obtain⟨al,cl,hlv,_⟩:=hl.open
   repeat refine c_r ?_
   refine zax (Q:=fun e σ' ds' v'=>e= .normal∧ds'=[]∧σ' 6=vi k∧σ' 4=vi i∧σ' 1= .pointer (some ⟨w.heap.size,0,Option.none⟩)∧σ' 3= .pointer (some ⟨c3,0,Option.none⟩)∧σ' 5= .pointer (some ⟨b5,0,Option.none⟩)∧σ' 7= .pointer (some ⟨b7,0,Option.none⟩)∧Ext v1 v'∧∃t,σ' 132= .bool t∧(t=false→GoodZ z)) ?_ ?_
   ·refine zaL (fun _=>false) [(0,true),(1,true),(2,true),(3,true),(4,false),(5,true),(6,true),(7,true),(8,true),(9,true),(10,true),(11,true),(12,true),(13,true),(14,true),(16,true),(17,true),(18,true),(19,true),(15,false),(20,false),(21,false),(22,false),(23,false),(24,true),(25,true)] NoS mixed (by kernel_rfl) ?_;intro gd K x hgd hx hxe hK;clear hxe
    have hg6:∀n σ b,zas gd n σ (some (6,b))=zaj (ev n σ (.tmp 113)) b:=(fun n σ b=>by rw[zab,show gd 6=some 113 from(by rw[hgd];rfl)];rfl);have hg12:∀n σ b,zas gd n σ (some (12,b))=zaj (ev n σ (.tmp 119)) b:=(fun n σ b=>by rw[zab,show gd 12=some 119 from(by rw[hgd];rfl)];rfl)
    have e0x:=zaa hx e0
    have e1x:=zaa hx e1
    have hwx:=hwv1.trans hx
    simp (disch:=first|omega|assumption|rfl) only[go_sem,e0x,e1x,Nat.add_zero,Nat.zero_add]
    refine Fn.mono (ZGood_ok hwx (ho.ext hwx) (hl.ext hwx)) ?_
    rintro _ y1 ⟨hy1,b,rfl,hb⟩
    refine⟨.inr hy1,?_⟩
    cases b with
    |false=>
     simp (disch:=first|omega|assumption|rfl) only[go_sem,Bool.not_false,zbX,↓hg6,↓hg12]
     refine hK _ _ ?_;clear hK hgd;clear K;try clear gd
     exact⟨rfl,rfl,(vq1 s6),(vq1 s4),(vq1 s1),(vq1 s3),(vq1 s5),vq0,hx.trans hy1,_,vr0,fun h=>by cases h⟩
    |true=>
    obtain⟨go,gR⟩:=hb rfl
    have hrok:=zhh gR hnz
    have hRl:=gR.len
    have e1y:=zaa hy1 e1x
    rw[hlv]at e1y
    by_cases h20:(z.recs.length:Int)>20
    ·simp (disch:=first|omega|assumption|rfl) only[go_sem,Bool.not_true,zbX,e1y,Nat.zero_add,decide_eq_true h20,↓hg6,↓hg12]
     refine hK _ _ ?_;clear hK hgd;clear K;try clear gd
     exact⟨rfl,rfl,(vq1 s6),(vq1 s4),(vq1 s1),(vq1 s3),(vq1 s5),vq0,hx.trans hy1,_,vr0,fun h=>by cases h⟩
    have e0y1:=zaa hy1 e0x
    simp (disch:=first|omega|assumption|rfl) only[go_sem,Bool.not_true,zbX,e1y,e0y1,Nat.zero_add,Nat.add_zero,decide_eq_false h20,↓hg6,↓hg12]
    rw[←hlv]
    have hwy1:=hwx.trans hy1
    refine Fn.mono (zih hwy1 (hl.ext hwy1) (fun r hr=>(gR.few r hr).2.nn) (by omega)) ?_
    rintro l1v y2 ⟨hy2,hl2⟩
    refine⟨.inr hy2,?_⟩
    have hwy2:=hwy1.trans hy2
    have e0y:=zaa (hy1.trans hy2) e0x
    have e1y2:=zaa (hy1.trans hy2) e1x
    simp (disch:=first|omega|assumption|rfl) only[go_sem,e0y,e1y2,Nat.add_zero,Nat.zero_add,zbX,↓hg6,↓hg12]
    refine Fn.mono (zih hwy2 (hl.ext hwy2) (fun r hr=>(gR.few r hr).2.nn) (by omega)) ?_
    rintro l2v y3 ⟨hy3,hl3⟩
    refine⟨.inr hy3,?_⟩
    have hwy3:=hwy2.trans hy3
    simp (disch:=first|omega|assumption|rfl) only[go_sem,zbX,↓hg6,↓hg12]
    refine Fn.mono (RZNew_ok (Keep.refl _ y3) (ho.ext hwy3) hl3 hrok (by omega)) ?_
    rintro _ y4 ⟨hy4,cv,rfl,hcv⟩
    refine⟨.inr hy4,?_⟩
    have hl4:Rows 7 (RecAt y4) y4 l1v z.recs:=Rows.extC (fun _ _ h=>RecAt.ext h (hy3.trans hy4)) hl2 (hy3.trans hy4)
    have hcv4:=RecAt.up hcv hy4
    simp (disch:=first|omega|assumption|rfl) only[go_sem,zbX,↓hg6,↓hg12]
    refine op_field (P:=Tryz.prog) (v:=cv) rfl rfl rfl rfl (vr0) rfl ?_
    refine⟨.inr (Keep.refl _ _),?_⟩
    refine Fn.mono (Is5_ok y4 hl4 hcv4 (fun r hr=>⟨(hrok r hr).len,(hrok r hr).dat.n⟩) (by omega)) ?_
    rintro _ y5 ⟨hy5,t,rfl,ht⟩
    refine⟨.inr hy5,?_⟩
    simp (disch:=first|omega|assumption|rfl) only[go_sem,zbX,↓hg6,↓hg12]
    refine hK _ _ ?_;clear hK hgd;clear K;try clear gd
    refine⟨rfl,rfl,(vq1 s6),(vq1 s4),(vq1 s1),(vq1 s3),(vq1 s5),vq0,((((hx.trans hy1).trans hy2).trans hy3).trans hy4).trans hy5,_,vr0,fun h=>⟨go,gR,hnz,(ht ?_).symm⟩⟩
    simpa using h
   clear s6 s4 s1 s3 s5
   rintro _ σ3 _ v2 ⟨rfl,rfl,s6,s4,s1,s3,s5,s7,hE5,t,s132,hzt⟩
   repeat refine c_r ?_
   cases t with
   |true=>
    refine wt s132 ?_
    repeat (first|refine c_r ?_|refine rg0 ?_)
    refine rt0 Tryz.ntmps16 ?_
    exact⟨hwv1.trans hE5,_,rfl,fun h=>by cases h⟩
   |false=>
   refine wf s132 ?_
   have hgzk:=hzt rfl
   clear s132 hzt
   have hE45:=hE4.trans hE5
   have hIP2:=hIP.h
   have hB52:=Ext.at hE45 hIP.h
   have q5:zah v2 (some ⟨b5,5,Option.none⟩)=some pv:=zac hB52 rfl
   have e02:=zaa hE5 e0
   have lo:=hIP.lo
   have hsz2:=hE45.size
   obtain⟨ao,co,how,_⟩:=id ho
   repeat refine c_r ?_
   refine rq ?_;intro gd K hgd hK
   try simp (disch:=first|omega|assumption|rfl) only[go_sem,s5,s7,q5,e02,Nat.add_zero,Nat.zero_add]
   refine⟨by kernel_rfl,?_⟩
   rw[how,show bdV Tryz.prog 131 [(0,.slice ao (z.o.map vs).length co),(1,vs [120])]=some (.agg #[.slice ao (z.o.map vs).length co,vs [120]]) from by kernel_rfl,←how]
   try simp only[go_sem]
   refine zbC (zcD w) (l:=[ow,vs [120]]) (a:=zgl z) (by rfl) (by rfl) (by rfl) (by rfl) ⟨ow,rfl,ho⟩ (by decide) ?_
   intro v3 hE6 hs6' ho6
   try simp only[go_sem]
   have hx04:=hE45.trans hE6
   have hsz4:=hx04.size
   refine zaQ (zcD w) (hIP.own.ext hx04) ho6.rows (by rfl) (by rfl) (by rfl) (by rfl) (by rfl) (by rfl) (by decide) (vr0) (vr0) (by simp;omega) (by decide) (by omega) ?_
   intro pv' v4 ho7 hE7 hk7 hb7'
   obtain⟨ap',cp',hpv',_⟩:=ho7.rows.open
   try simp (disch:=first|omega|assumption|rfl) only[go_sem,s5,Nat.zero_add]
   refine zfo (P:=Tryz.prog) (t:=117) (j:=5) (u:=pv') (l:=[nv,zae b1,zae b2,zae b3,zae b4,pv]) ((hk7.block _ (by omega) (fun hb=>by have:=(hIP.own.ge hb).1;omega)).trans (Ext.at hx04 hIP.h)) (by simp) (by rw[hpv'];rfl) rfl rfl ?_
   intro v5 hs5' hB5' hk5'
   try simp only[go_sem]
   refine hK _ _ ?_;clear hK hgd;clear K;try clear gd
   have hIPn:=hIP.app hx04 ho7 hk7 hB5' hk5'
   have hs7:=hk7.size
   repeat refine c_r ?_
   refine rg2 s6 hk1' ?_
   repeat refine c_r ?_
   refine⟨m2 - 1,by omega,rfl,k+1,pv',by omega,vq0,(vq1 s4),(vq1 s1),(vq1 s3),(vq1 s5),?_,by omega,fun j hj hjk=>?_⟩
   ·rw[zak hk,List.map_append,hze];exact hIPn
   ·by_cases hj2:j=k
    ·subst hj2;rw[hze];exact hgzk
    ·exact hgz j hj (by omega)
  ·intro hge2
   simp only[decide_eq_false_iff_not]at hge2
   have hfull:(s.zones.take k).map zgl=s.zones.map zgl:=by rw[List.take_of_length_le (by omega)]
   rw[hfull]at hIP
   obtain⟨ap',cp',hpv',_⟩:=hIP.own.rows.open
   have lo:=hIP.lo
   have dB:zaw v (some ⟨b5,0,Option.none⟩) 6=some [nv,zae b1,zae b2,zae b3,zae b4,pv]:=zay hIP.h rfl
   have q3:zah v (some ⟨c3,0,Option.none⟩)=some ov:=zac (Ext.at hIP.e hB3) rfl
   have ones6:∀q∈ [nv,zae b1,zae b2,zae b3,zae b4,pv],one q=true:=fun q hq=>by
    simp at hq
    rcases hq with rfl|rfl|rfl|rfl|rfl|rfl<;>first|exact n1|rfl| (rw[hpv'];rfl)
   have hGl:G.length=i:=by
    have:=congrArg List.length hGf
    simp at this;omega
   repeat refine c_r ?_
   refine rq ?_;intro gd K hgd hK
   try simp (disch:=first|omega|assumption|rfl) only[go_sem,s3,s5,q3,dB,Nat.add_zero]
   refine zbC (C:=gxC) zeu (l:=[nv,zae b1,zae b2,zae b3,zae b4,pv]) (a:=(srvH s,(pv,[nv,zae b1,zae b2,zae b3,zae b4,pv]))) (by rfl) (by rfl) (by rfl) (by rfl) ⟨rfl,rfl,ones6⟩ (by decide) ?_
   intro v1 hE4 hs4' ho4
   try simp only[go_sem]
   have hAv1:=hIP.e.trans hE4
   have hsA1:=hAv1.size
   refine zaQ zeu ((hGS.ext hAv1).own) ho4.rows (by rfl) (by rfl) (by rfl) (by rfl) (by rfl) (by rfl) (by decide) (vr0) (vr0) (by simp;omega) (by decide) (by omega) ?_
   intro ov' v2 ho5 hE5 hk5 hb5'
   obtain⟨ao',co',hov',_⟩:=ho5.rows.open
   try simp (disch:=first|omega|assumption|rfl) only[go_sem,s3,Nat.add_zero]
   refine zfo (P:=Tryz.prog) (t:=110) (j:=0) (u:=ov') (l:=[ov,rv,vi N.rw,vi N.rf]) ((hk5.block _ (by omega) (fun hb=>by have:=(hGS.own.ge hb).1;omega)).trans (Ext.at hAv1 hB3)) (by simp) (by rw[hov'];rfl) rfl rfl ?_
   intro v3 hs3' hB3' hk3'
   try simp only[go_sem]
   refine hK _ _ ?_;clear hK hgd;clear K;try clear gd
   have hGS2:=hGS.app hAv1 hAs (x:=(srvH s,(pv,[nv,zae b1,zae b2,zae b3,zae b4,pv]))) ⟨nv,b1,b2,b3,b4,rfl,hadr,hn,hIP.own.rows.ext hE4⟩ ((hIP.own.blk.mono (by omega)).ext hE4.size) ho5 hk5 hb5'
   have hGS3:=hGS2.keep hk3' (fun b h1 _ h2=>by omega)
   have hs5:=hk5.size
   repeat refine c_r ?_
   refine rg2 s4 hi1' ?_
   repeat refine c_r ?_
   refine⟨m - 1,by omega,rfl,i+1,ov',_,by omega,vq0,(vq1 s1),(vq1 s3),Keep.to_ext (hE5 w2 (hEA.trans hAv1) (by omega)) rfl (fun b hb=>by omega) hk3',by omega,hB3',hGS3,?_,fun j hj hji=>?_⟩
   ·rw[zak hi,List.map_append,List.map_append,hGf,hse];rfl
   ·by_cases hj2:j=i
    ·subst hj2
     rw[hse]
     refine⟨by omega,fun z hz=>?_⟩
     obtain⟨k2,hk2,rfl⟩:=List.mem_iff_getElem.1 hz
     exact hgz k2 hk2 (by omega)
    ·exact hgood j hj (by omega)
 ·intro hge
  simp only[decide_eq_false_iff_not]at hge
  rw[List.take_of_length_le (by omega)]at hGf
  have hEw:=hE1.trans hEA
  have hrows:=hGS.rows hEw
  rw[hGf]at hrows
  have o1:=hrows.isOne
  have dx:=zay (n:=4) (l:=[ov,rv,vi N.rw,vi N.rf]) hB3 rfl
  have hcf:ConfAt A [ov,rv,vi N.rw,vi N.rf] (confN N):=⟨ov,rv,rfl,hrows,hr0.ext hEw⟩
  repeat refine c_r ?_
  refine rc (an2 s3 dx) (Few15_ok A hcf) ?_
  rintro _ A1 ⟨hE3,t,rfl,hfew⟩
  refine re trivial ?_
  repeat refine c_r ?_
  cases t with
  |false=>
   refine wt Bool.not_false ?_
   repeat (first|refine c_r ?_|refine rg0 ?_)
   refine rt0 Tryz.ntmps16 ?_
   exact⟨hEw.trans hE3,_,rfl,fun h=>by cases h⟩
  |true=>
  refine wf Bool.not_true ?_
  have hf:=hfew rfl
  have dx1:=zaf hE3 dx
  repeat refine c_r ?_
  refine rc (an2 s3 dx1) (Of15_ok A1 (hcf.ext hE3) hf) ?_
  rintro _ A2 ⟨hE4,cs',rfl,hcf2⟩
  refine rd trivial (zgZ A2 hcf2 hf) ?_
  rintro _ A3 ⟨hE5,a,e,rfl,he⟩
  refine re trivial ?_
  repeat refine c_r ?_
  refine rg0 ?_
  repeat refine c_r ?_
  refine rt0 Tryz.ntmps16 ?_
  refine⟨hEw.trans (hE3.trans (hE4.trans hE5)),_,rfl,fun h=>?_⟩
  have hro:=he (by simpa using h)
  have hgj:∀h∈N.hosts,h.zones.length≤4∧∀z∈h.zones,GoodZ z:=fun h hh=>by
   obtain⟨j,hj,rfl⟩:=List.mem_iff_getElem.1 hh
   exact hgood j hj (by omega)
  refine⟨⟨by omega,fun h hh=>(hf.s (srvH h) (List.mem_map_of_mem hh)).1.m,fun h hh=>by have:=(hgj h hh).1;omega,fun h hh=>(hgj h hh).2,by omega⟩,k1,k2,fun r hr=>?_,k3,k4,fun h hh=>(hgj h hh).1,fun h hh=>(hf.s (srvH h) (List.mem_map_of_mem hh)).1⟩
  have:=hro.inn r hr
  rw[show (confN N).servers.length=N.hosts.length from List.length_map _]at this
  exact this
theorem ziL(c:UInt8):zdw (zdw c)=zdw c:=by
 unfold zdw
 by_cases h:65≤c∧c≤90
 ·rw[if_pos h]
  have h1:¬(65≤c+32∧c+32≤90):=by
   obtain⟨h1,h2⟩:=h
   rw[UInt8.le_iff_toNat_le]at*
   rintro⟨h3,h4⟩
   rw[UInt8.le_iff_toNat_le]at*
   rw[UInt8.toNat_add]at*
   change (65:Nat)≤_ at h1
   change _≤(90:Nat)at h2
   change (65:Nat)≤(c.toNat+32) % 256 at h3
   change (c.toNat+32) % 256≤(90:Nat)at h4
   omega
  rw[if_neg h1]
 ·rw[if_neg h,if_neg h]
theorem ziK(l:Lab):zaF (zaF l)=zaF l:=by simp[zaF,ziL,Function.comp_def]
theorem zdc(n:Nm):zag (zag n)=zag n:=by simp[zag,ziK,Function.comp_def]
theorem zgx(l:Lab):(zaF l).length=l.length:=by simp[zaF]
theorem LB.fold{n:Nm}(h:LB n):LB (zag n):=fun l hl=>by
 simp only[zag,List.mem_map]at hl
 obtain⟨m,hm,rfl⟩:=hl
 rw[zgx];exact h m hm
theorem zbK(n:Nm)(k:Nat):zag (n.drop k)=(zag n).drop k:=by simp[zag,List.map_drop]
theorem drop_inj{f:Nm}{i k:Nat}(hi:i≤f.length)(hk:k≤f.length)(h:f.drop i=f.drop k):i=k:=by
 have:=congrArg List.length h
 simp at this;omega
theorem tails_in{L:List Nm}(hcl:∀l f,l::f∈L→f∈L){f:Nm}:∀{i k:Nat},i≤k→k≤f.length→f.drop i∈L→f.drop k∈L:=by
 intro i k hik hk h
 obtain⟨d,rfl⟩:∃d,k=i+d:=⟨k - i,by omega⟩
 clear hik
 induction d with
 |zero=>simpa using h
 |succ d ih=>
  have h1:=ih (by omega)
  rw[List.drop_eq_getElem_cons (by omega)]at h1
  exact hcl _ _ h1
theorem Rise.insert{L:List Nm}{g:Nm}{k:Nat}(hs:Rise L)(h1:∀x∈L.take k,cmpN x g<0)(h2:∀x∈L.drop k,cmpN g x<0):Rise (L.take k++ [g]++L.drop k):=by
 have hs':=hs
 unfold Rise at*
 rw[←List.take_append_drop k L,List.pairwise_append]at hs'
 obtain⟨h3,h4,h5⟩:=hs'
 rw[List.pairwise_append,List.pairwise_append]
 refine⟨⟨h3,by simp,fun a ha b hb=>?_⟩,h4,fun a ha b hb=>?_⟩
 ·rw[List.mem_singleton.1 hb];exact h1 a ha
 ·rcases List.mem_append.1 ha with ha|ha
  ·exact h5 a ha b hb
  ·rw[List.mem_singleton.1 ha];exact h2 b hb
theorem ziB{L:List Nm}{g x:Nm}(k:Nat):x∈L.take k++ [g]++L.drop k↔x∈L∨x=g:=by
 rw[List.mem_append,List.mem_append,List.mem_singleton]
 conv=>rhs;rw[←List.take_append_drop k L,List.mem_append]
 constructor
 ·rintro((h|h)|h)<;>simp[h]
 ·rintro((h|h)|h)<;>simp[h]
def RowsOf(R:Value→Nm→Prop)(vals:List Value)(L:List Nm):Prop:=vals.length=L.length∧∀i (h:i<vals.length) (h':i<L.length),R vals[i] L[i]
theorem RowsOf.imp{R T:Value→Nm→Prop}{vals:List Value}{L:List Nm}(h:RowsOf R vals L)(hE:∀v n,R v n→T v n):RowsOf T vals L:=⟨h.1,fun i a b=>hE _ _ (h.2 i a b)⟩
theorem RowsOf.insert{R:Value→Nm→Prop}{vals:List Value}{L:List Nm}{v:Value}{g:Nm}{k:Nat}(h:RowsOf R vals L)(hv:R v g)(hk:k≤L.length):RowsOf R (vals.take k++ [v]++vals.drop k) (L.take k++ [g]++L.drop k):=by
 obtain⟨h1,h2⟩:=h
 refine⟨by simp;omega,fun i a b=>?_⟩
 have hA:(vals.take k).length=k:=by simp;omega
 have hB:(L.take k).length=k:=by simp;omega
 have ha':i<vals.length+1:=by simp at a;omega
 by_cases hik:i<k
 ·have e1:(vals.take k++ [v]++vals.drop k)[i]=vals[i]'(by omega):=by
   rw[List.getElem_append_left (by simp;omega),List.getElem_append_left (by omega),List.getElem_take]
  have e2:(L.take k++ [g]++L.drop k)[i]=L[i]'(by omega):=by
   rw[List.getElem_append_left (by simp;omega),List.getElem_append_left (by omega),List.getElem_take]
  rw[e1,e2];exact h2 i (by omega) (by omega)
 ·by_cases hik2:i=k
  ·have e1:(vals.take k++ [v]++vals.drop k)[i]? =some v:=by
    rw[List.getElem?_append_left (by simp;omega),List.getElem?_append_right (by omega),hA,hik2,Nat.sub_self];rfl
   have e2:(L.take k++ [g]++L.drop k)[i]? =some g:=by
    rw[List.getElem?_append_left (by simp;omega),List.getElem?_append_right (by omega),hB,hik2,Nat.sub_self];rfl
   rw[(List.getElem?_eq_some_iff.1 e1).2,(List.getElem?_eq_some_iff.1 e2).2];exact hv
  ·have e1:(vals.take k++ [v]++vals.drop k)[i]? =some (vals[i - 1]'(by omega)):=by
    rw[List.getElem?_append_right (by simp;omega),List.getElem?_drop,List.getElem?_eq_some_iff]
    refine⟨by simp;omega,by congr 1;simp;omega⟩
   have e2:(L.take k++ [g]++L.drop k)[i]? =some (L[i - 1]'(by omega)):=by
    rw[List.getElem?_append_right (by simp;omega),List.getElem?_drop,List.getElem?_eq_some_iff]
    refine⟨by simp;omega,by congr 1;simp;omega⟩
   rw[(List.getElem?_eq_some_iff.1 e1).2,(List.getElem?_eq_some_iff.1 e2).2];exact h2 _ (by omega) (by omega)
abbrev RowN(S:Nat→Prop)(w:World)(v:Value)(g:Nm):Prop:=RowZ 0 S w v (g.map vs)
def NamesZ(S:Nat→Prop)(w:World)(v:Value)(L:List Nm):Prop:=∃vals,RowZ 0 S w v vals∧RowsOf (RowN S w) vals L
theorem NamesZ.at{S:Nat→Prop}{w:World}{v:Value}{L:List Nm}(h:NamesZ S w v L):NamesAt w v L:=by
 obtain⟨vals,h1,h2,h3⟩:=h
 exact⟨vals,h1.1,h2,fun i a b=>(h3 i a b).1⟩
theorem NamesZ.ext{S:Nat→Prop}{w x:World}{v:Value}{L:List Nm}(h:NamesZ S w v L)(hE:Ext w x):NamesZ S x v L:=by
 obtain⟨vals,h1,h2⟩:=h
 exact⟨vals,h1.ext hE,h2.imp fun v n h=>h.ext hE⟩
theorem RowZ.turn{S S':Nat→Prop}{w x:World}{v:Value}{l:List Value}(h:RowZ 0 S w v l)(hk:Keep S w x)(hS:∀b,S' b→S b∨w.heap.size≤b):RowZ 0 S' x v l:=by
 obtain⟨h1,h2⟩:=h
 refine⟨h1.blocks fun a n c hv=>?_,fun a n c hv=>?_⟩
 ·obtain⟨_,k1,k2⟩:=h2 a n c hv
  exact hk.block _ k1 k2
 ·obtain⟨_,k1,k2⟩:=h2 a n c hv
  refine⟨Nat.zero_le _,Nat.lt_of_lt_of_le k1 hk.size,fun h=>?_⟩
  rcases hS _ h with h|h
  ·exact k2 h
  ·omega
theorem NamesZ.turn{S S':Nat→Prop}{w x:World}{v:Value}{L:List Nm}(h:NamesZ S w v L)(hk:Keep S w x)(hS:∀b,S' b→S b∨w.heap.size≤b):NamesZ S' x v L:=by
 obtain⟨vals,h1,h2⟩:=h
 exact⟨vals,h1.turn hk hS,h2.imp fun v n h=>h.turn hk hS⟩
theorem RowZ.own{S:Nat→Prop}{B:Nat}{w:World}{e:TypeId}{v:Value}{l:List Value}(h:Own B w e v l)(hS:∀b,S b→b<B):RowZ 0 S w v l:=
 ⟨h.row,fun a n c hv=>by have:=h.rowB.2 a n c hv;exact⟨Nat.zero_le _,this.2,fun hs=>by have:=hS _ hs;omega⟩⟩
theorem RowZ.sub{S:Nat→Prop}{w:World}{a:Option Addr}{n c lo hi m:Nat}{l k:List Value}(h:RowZ 0 S w (.slice a n c) l)(hr:Row w (.slice (if c=lo then a else adr a lo) hi m) k):RowZ 0 S w (.slice (if c=lo then a else adr a lo) hi m) k:=by
 refine⟨hr,fun b n' c' hv=>?_⟩
 simp only[Value.slice.injEq]at hv
 cases a with
 |none=>
  have:(if c=lo then(Option.none:Option Addr) else adr Option.none lo)=Option.none:=by split<;>rfl
  rw[this]at hv;cases hv.1
 |some a=>
  have hb:b.block=a.block:=by
   obtain⟨h1,_⟩:=hv
   split at h1
   ·cases h1;rfl
   ·simp only[adr,Option.map_some,Option.some.injEq]at h1
    rw[←h1];unfold Addr.add;split<;>rfl
  rw[hb];exact h.2 a n c rfl
theorem RowZ.one{S:Nat→Prop}{w:World}{v:Value}{l:List Value}(h:RowZ 0 S w v l):_root_.Go.Proofs.YtahbdamijngmmaaGreat.one v=true:=by
 obtain⟨⟨a,c,h1,_⟩,_⟩:=h
 rw[h1];rfl
theorem RAdd_ok{S:Nat→Prop}(w:World)(lv nv:Value)(L:List Nm)(n:Nm)(hl:NamesZ S w lv L)(hS:∀b,S b→b<w.heap.size)(hn:Row w nv (n.map vs))(hfold:∀x∈L,zag x=x)(hLB:∀x∈L,LB x∧x.length≤100000000000)(hnb:LB n)(hnl:n.length≤100000)
  (hlen:L.length≤100000000) (hs:Rise L) (hcl:∀l f,l::f∈L→f∈L):
  Fn Tryz.prog 123 #[lv,nv] w (fun v w'=>Ext w w'∧∃L',NamesZ S w' v L'∧Rise L'∧(∀g,g∈L'↔g∈L∨∃k,k≤n.length∧g=(zag n).drop k)∧L'.length≤L.length+n.length+1):=by
 refine enter Tryz.func123 Tryz.ntmps123 rfl rfl ?_
 repeat refine c_r ?_
 refine rg0 ?_
 repeat refine c_r ?_
 refine rq ?_;intro gd K hgd hK
 try simp only[go_sem]
 refine Fn.mono (zcK _ _ _ hn hnb (by omega)) ?_
 rintro fv w1 ⟨hf,hE1⟩
 try simp only[go_sem]
 refine hK _ _ ?_;clear hK hgd;clear K;try clear gd
 obtain⟨fa,fc,rfl⟩:=hf.slice
 obtain⟨F,hF⟩:∃F,zag n=F:=⟨_,rfl⟩
 have hFl:F.length=n.length:=by rw[←hF];exact zau n
 rw[hF]at hf ⊢
 have hFr:=hf.row
 have hf0:=hf
 simp only[List.length_map]at*
 have hFr':∀{x},Ext w1 x→∃(_:F.length≤fc),∀j (h:j<(F.map vs).length),zah x (adr fa j)=some (F.map vs)[j]:=fun {x} hx=>by
  obtain⟨a,c,e,h1,h2⟩:=hFr.ext hx
  simp only[List.length_map,Value.slice.injEq,true_and]at e h1
  obtain⟨rfl,rfl⟩:=e
  exact⟨h1,h2⟩
 have hFc:=(hFr' (Keep.refl _ _)).1
 have hFfold:zag F=F:=by rw[←hF,zdc]
 have hFb:LB F:=by rw[←hF];exact hnb.fold
 repeat (first|refine c_r ?_|refine rg0 ?_)
 refine zai (fun m σ ds A=>ds=[]∧∃(i:Nat) (lv':Value) (L':List Nm),i+m=F.length+1∧σ 6=vi i∧σ 5= .slice fa F.length fc∧σ 0=lv'∧Ext w1 A∧NamesZ S A lv' L'∧Rise L'∧(∀g,g∈L'↔g∈L∨∃k,k<i∧g=F.drop k)∧L'.length≤L.length+i) (F.length+1) ?_ ?_
 ·refine⟨rfl,0,lv,L,by omega,?_,?_,?_,Keep.refl _ _,hl.ext hE1,hs,by simp,by omega⟩
  ·simp only[go_sem];rfl
  ·simp only[go_sem]
  ·simp only[go_sem]
 ·rintro m σ ds A ⟨rfl,i,lv',L',him,h6,h5,h0,hE,hN,hR,hmem,hL'⟩
  have hfold':∀x∈L',zag x=x:=fun x hx=>by
   rcases(hmem x).1 hx with h| ⟨k,_,rfl⟩
   ·exact hfold x h
   ·rw[zbK,hFfold]
  have hLB':∀x∈L',LB x∧x.length≤100000000000:=fun x hx=>by
   rcases(hmem x).1 hx with h| ⟨k,_,rfl⟩
   ·exact hLB x h
   ·exact⟨hFb.drop k,by simp;omega⟩
  repeat refine c_r ?_
  refine rg2 h6 h5 ?_
  repeat refine c_r ?_
  refine wc0 ?_ ?_
  ·intro hlt
   simp only[decide_eq_true_eq]at hlt
   have htail:∀{x},Ext w1 x→RowN S x (.slice (if fc=i then fa else adr fa i) (F.length - i) (fc - i)) (F.drop i):=fun {x} hx=>by
    obtain⟨h1,h2⟩:=hFr' hx
    have:=Row.tail (l:=F.map vs) (by simp) h1 h2 (lo:=i) (by omega)
    rw[←List.map_drop]at this
    exact((RowZ.own hf0 hS).ext hx).sub this
   repeat refine c_r ?_
   refine rq ?_;intro gd K hgd hK
   try simp (disch:=first|omega|assumption|rfl) only[go_sem,h0,h5,h6]
   refine Fn.mono (zkA A _ _ L' (F.drop i) hN.at (htail hE).1 hfold' (by rw[zbK,hFfold]) hLB' ⟨hFb.drop _,by simp;omega⟩ (by omega) hR) ?_
   rintro _ w2 ⟨hE2,k,ok,rfl,hk,hyes,hno⟩
   try simp only[go_sem]
   refine hK _ _ ?_;clear hK hgd;clear K;try clear gd
   repeat refine c_r ?_
   refine rg0 ?_
   repeat refine c_r ?_
   refine wc0 ?_ ?_
   ·intro hok
    obtain⟨hk',hkg⟩:=hyes hok
    repeat (first|refine c_r ?_| (refine zcv (by rfl) ?_;intro gd K hgd hK;simp (disch:=first|omega|assumption|rfl) only[go_sem,h0];refine hK _ _ ?_;clear hK hgd;clear K gd))
    refine rt1 h0 Tryz.ntmps123 ?_
    have hin:F.drop i∈L':=by rw[←hkg];exact List.getElem_mem _
    have hinL:F.drop i∈L:=by
     rcases(hmem _).1 hin with h| ⟨k,hki,h⟩
     ·exact h
     ·have:=drop_inj (by omega) (by omega) h;omega
    refine⟨(hE1.trans hE).trans hE2,L',hN.ext hE2,hR,fun g=>?_,by omega⟩
    rw[hmem g]
    constructor
    ·rintro(h| ⟨k,hk,h⟩)
     ·exact .inl h
     ·exact .inr ⟨k,by omega,h⟩
    ·rintro(h| ⟨k,hk,h⟩)
     ·exact .inl h
     ·by_cases hki:k<i
      ·exact .inr ⟨k,hki,h⟩
      ·rw[h];exact .inl (tails_in hcl (by omega) (by omega) hinL)
   ·intro hok
    obtain⟨hlo,hhi⟩:=hno hok
    obtain⟨vals,⟨⟨la,lc,rfl,hlc,hla⟩,hlz⟩,hrows⟩:=id hN
    have hvl:=hrows.1
    have hcutlo:∀{x},Ext A x→Row x (.slice (if lc=0 then la else adr la 0) (k - 0) (lc - 0)) (vals.take k):=fun {x} hx=>by
     have:=Row.cut (w:=x) (l:=vals) rfl hlc (fun j h=>zaa hx (hla j h)) (lo:=0) (hi:=k) (by omega) (by omega)
     simpa using this
    have hcuthi:∀{x},Ext A x→Row x (.slice (if lc=k then la else adr la k) (vals.length - k) (lc - k)) (vals.drop k):=fun {x} hx=>
     Row.tail (w:=x) (l:=vals) rfl hlc (fun j h=>zaa hx (hla j h)) (by omega)
    have hone:∀q∈vals,one q=true:=fun q hq=>by
     obtain⟨j,hj,rfl⟩:=List.getElem_of_mem hq
     exact(hrows.2 j hj (by omega)).one
    repeat refine c_r ?_
    refine zax (Q:=fun e σ' ds' v'=>e= .normal∧ds'=[]∧σ' 0=σ 0∧σ' 5=σ 5∧σ' 6=σ 6∧σ' 7=vi k∧Ext w2 v'∧∃xv,σ' 9=xv∧Own w2.heap.size v' 26 xv (vals.take k++ [.slice (if fc=i then fa else adr fa i) (F.length - i) (fc - i)])) ?_ ?_
    ·refine zgM (fun _=>false) (.run [(1,true),(2,true),(3,true),(5,true),(6,true),(7,true)] (.fork 4 [0,8] (fun i=>if i=0 then(.run [] (.fork 3 [4,8] (fun i=>if i=4 then(.run [(8,false),(9,false),(10,true)] .fin) else(.run [(4,false),(9,false),(10,true)] .fin)))) else(.run [(0,false),(4,false),(9,false),(10,true)] .fin)))) (zc5 w2.heap.size) mixed (by kernel_rfl) ?_;intro gd K x hgd hx hxe hK;clear hxe
     simp (disch:=first|omega|assumption|rfl) only[go_sem,h0,h5,h6]
     have hx0:Ext w2 x:=⟨hx.os,hx.tape,hx.output,hx.size,fun b hb _=>hx.block b hb (by unfold zc5;omega),hx.drawn⟩
     have hAx:=hE2.trans hx0
     have hxs:=hx.size
     have h1one:∀q∈ [Value.slice (if fc=i then fa else adr fa i) (F.length - i) (fc - i)],one q=true:=fun q hq=>by rw[List.mem_singleton.1 hq];rfl
     have h2one:∀q∈vals.take k,one q=true:=fun q hq=>hone q (List.mem_of_mem_take hq)
     simp only[zbE,zbY];refine⟨?_,?_⟩
     ·simp (disch:=first|omega|assumption|rfl) only[go_sem]
      refine zia (z:= .slice Option.none 0 0) rfl rfl rfl rfl ?_
      intro w3 hE3 hs3 ho3
      refine⟨.inr hE3.keep,?_⟩
      simp (disch:=first|omega|assumption|rfl) only[go_sem]
      simp only[zbE,zbY];refine⟨?_,?_⟩
      ·simp (disch:=first|omega|assumption|rfl) only[go_sem]
       refine zbU ho3 (hcutlo (hAx.trans hE3)) rfl rfl rfl rfl rfl rfl (vr0) (vr0) h2one (by simp;omega) (by decide) (by omega) ?_
       intro v4 w4 ho4 hE4 hk4 _
       refine⟨.inr (hk4.mono fun b _ hb=>by have:=(ho3.ge hb).1;show _≤_;omega),?_⟩
       have hE4':=hE4 _ hE3 (Nat.le_refl _)
       have hs4:=hk4.size
       simp (disch:=first|omega|assumption|rfl) only[go_sem]
       refine zdS (z:= .slice Option.none 0 0) rfl rfl rfl rfl rfl ?_
       intro w5 hE5 hs5 ho5
       refine⟨.inr hE5.keep,?_⟩
       simp (disch:=first|omega|assumption|rfl) only[go_sem]
       refine zbU (ho4.ext hE5) ho5.row rfl rfl rfl rfl rfl rfl (vr0) (vr0) h1one (by simp;omega) (by decide) (by omega) ?_
       intro v6 w6 ho6 hE6 hk6 _
       refine⟨.inr (hk6.mono fun b _ hb=>by have:=(ho4.ge hb).1;show _≤_;omega),?_⟩
       simp (disch:=first|omega|assumption|rfl) only[go_sem]
       refine hK _ _ ⟨rfl,rfl,vq0,vq0,vq0,vq0,hx0.trans (hE6 _ (hE4'.trans hE5) (Nat.le_refl _)),_,by simp only[go_sem];rfl,?_⟩
       exact ho6.mono hxs
      ·simp (disch:=first|omega|assumption|rfl) only[go_sem]
       refine zdS (z:= .slice Option.none 0 0) rfl rfl rfl rfl rfl ?_
       intro w5 hE5 hs5 ho5
       refine⟨.inr hE5.keep,?_⟩
       simp (disch:=first|omega|assumption|rfl) only[go_sem]
       refine zbU (ho3.ext hE5) (hcutlo ((hAx.trans hE3).trans hE5)) rfl rfl rfl rfl rfl rfl (vr0) (vr0) h2one (by simp;omega) (by decide) (by omega) ?_
       intro v4 w4 ho4 hE4 hk4 _
       have hs4:=hk4.size
       refine⟨.inr (hk4.mono fun b _ hb=>by have:=(ho3.ge hb).1;show _≤_;omega),?_⟩
       have ho5':=ho5.keep hk4 (fun b hb hb2=>by have:=(ho5.ge hb).1;have:=(ho3.ge hb2).2;omega)
       simp (disch:=first|omega|assumption|rfl) only[go_sem]
       refine zbU ho4 ho5'.row rfl rfl rfl rfl rfl rfl (vr0) (vr0) h1one (by simp;omega) (by decide) (by omega) ?_
       intro v6 w6 ho6 hE6 hk6 _
       refine⟨.inr (hk6.mono fun b _ hb=>by have:=(ho4.ge hb).1;show _≤_;omega),?_⟩
       simp (disch:=first|omega|assumption|rfl) only[go_sem]
       refine hK _ _ ⟨rfl,rfl,vq0,vq0,vq0,vq0,hx0.trans (hE6 _ (hE4 _ (hE3.trans hE5) (Nat.le_refl _)) (Nat.le_refl _)),_,by simp only[go_sem];rfl,?_⟩
       exact ho6.mono hxs
     ·simp (disch:=first|omega|assumption|rfl) only[go_sem]
      refine zdS (z:= .slice Option.none 0 0) rfl rfl rfl rfl rfl ?_
      intro w5 hE5 hs5 ho5
      refine⟨.inr hE5.keep,?_⟩
      simp (disch:=first|omega|assumption|rfl) only[go_sem]
      refine zia (z:= .slice Option.none 0 0) rfl rfl rfl rfl ?_
      intro w3 hE3 hs3 ho3
      refine⟨.inr hE3.keep,?_⟩
      simp (disch:=first|omega|assumption|rfl) only[go_sem]
      refine zbU ho3 (hcutlo ((hAx.trans hE5).trans hE3)) rfl rfl rfl rfl rfl rfl (vr0) (vr0) h2one (by simp;omega) (by decide) (by omega) ?_
      intro v4 w4 ho4 hE4 hk4 _
      refine⟨.inr (hk4.mono fun b _ hb=>by have:=(ho3.ge hb).1;show _≤_;omega),?_⟩
      have hE4':=hE4 _ hE3 (Nat.le_refl _)
      have hs4:=hk4.size
      simp (disch:=first|omega|assumption|rfl) only[go_sem]
      refine zbU ho4 (ho5.ext hE4').row rfl rfl rfl rfl rfl rfl (vr0) (vr0) h1one (by simp;omega) (by decide) (by omega) ?_
      intro v6 w6 ho6 hE6 hk6 _
      refine⟨.inr (hk6.mono fun b _ hb=>by have:=(ho4.ge hb).1;show _≤_;omega),?_⟩
      simp (disch:=first|omega|assumption|rfl) only[go_sem]
      refine hK _ _ ⟨rfl,rfl,vq0,vq0,vq0,vq0,hx0.trans (hE6 _ (hE5.trans hE4') (by omega)),_,by simp only[go_sem];rfl,?_⟩
      exact ho6.mono (by omega)
    ·rintro _ σ6 _ v6 ⟨rfl,rfl,e0,e5,e6,e7,hE6,xv,e9,hox⟩
     obtain⟨xa,xc,rfl⟩:=hox.slice
     rw[h0]at e0
     rw[h5]at e5
     rw[h6]at e6
     repeat refine c_r ?_
     refine rq ?_;intro gd K hgd hK
     try simp (disch:=first|omega|assumption|rfl) only[go_sem,e0,e5,e6,e7,e9]
     refine zbU hox (hcuthi (hE2.trans hE6)) rfl rfl rfl rfl rfl rfl ((vq1 e9)) (vr0) (fun q hq=>hone q (List.mem_of_mem_drop hq)) (by simp;omega) (by decide) hE6.size ?_
     intro v7 w7 ho7 hE7 _ _
     have hE7':=hE7 _ hE6 (Nat.le_refl _)
     try simp only[go_sem]
     refine hK _ _ ?_;clear hK hgd;clear K;try clear gd
     repeat refine c_r ?_
     refine rg1 e6 ?_
     repeat refine c_r ?_
     refine⟨m - 1,by omega,rfl,i+1,v7,L'.take k++ [F.drop i]++L'.drop k,by omega,by simp only[go_sem];push_cast;rfl,(vq1 e5),vq0,(hE.trans hE2).trans hE7',⟨_,RowZ.own ho7 (fun b hb=>by have:=hS b hb;have:=hE1.size;have:=hE.size;have:=hE2.size;omega),?_⟩,hR.insert hlo hhi,fun g=>?_,by simp;omega⟩
     ·exact(hrows.imp fun v n h=>h.ext (hE2.trans hE7')).insert (htail ((hE.trans hE2).trans hE7')) hk
     ·rw[ziB,hmem g]
      constructor
      ·rintro((h| ⟨j,hj,h⟩)|h)
       ·exact .inl h
       ·exact .inr ⟨j,by omega,h⟩
       ·exact .inr ⟨i,by omega,h⟩
      ·rintro(h| ⟨j,hj,h⟩)
       ·exact .inl (.inl h)
       ·by_cases hji:j<i
        ·exact .inl (.inr ⟨j,hji,h⟩)
        ·rw[show i=j from by omega];exact .inr h
  ·intro hge
   simp only[decide_eq_false_iff_not]at hge
   repeat (first|refine c_r ?_| (refine zcv (by rfl) ?_;intro gd K hgd hK;simp (disch:=first|omega|assumption|rfl) only[go_sem,h0];refine hK _ _ ?_;clear hK hgd;clear K gd))
   refine rt1 h0 Tryz.ntmps123 ?_
   refine⟨hE1.trans hE,L',hN,hR,fun g=>?_,by omega⟩
   rw[hmem g]
   constructor
   ·rintro(h| ⟨k,hk,h⟩)
    ·exact .inl h
    ·exact .inr ⟨k,by omega,h⟩
   ·rintro(h| ⟨k,hk,h⟩)
    ·exact .inl h
    ·exact .inr ⟨k,by omega,h⟩
theorem zh7(r a b:Nm):cmpR (r++a) (r++b)=cmpR a b:=by
 induction r with
 |nil=>rfl
 |cons x r ih=>simp only[List.cons_append,cmpR,zcW,if_true];exact ih
theorem ziS{f p:Nm}(h:p≠ []):cmpN f (p++f)<0:=by
 unfold cmpN
 rw[List.reverse_append]
 have:=zh7 f.reverse [] p.reverse
 rw[List.append_nil]at this
 rw[this]
 rcases hp:p.reverse with _| ⟨x,q⟩
 ·exact absurd (by simpa using hp) h
 ·simp[cmpR]
theorem zho{f p q:Nm}{l m:Lab}(h:cmpL l m<0):cmpN (p++l::f) (q++m::f)<0:=by
 unfold cmpN
 simp only[List.reverse_append,List.reverse_cons,List.append_assoc]
 rw[zh7]
 simp only[List.cons_append,List.nil_append,cmpR]
 rw[if_neg (by omega)];exact h
theorem zjV{names:List Nm}(h:names.Nodup)(f:Nm):(zaS names f).Nodup:=by
 unfold zaS
 rw[List.nodup_iff_pairwise_ne]at h ⊢
 rw[List.pairwise_filterMap]
 refine h.imp (fun {a b} hab x hx y hy e=>?_)
 subst e
 apply hab
 cases a with
 |nil=>cases hx
 |cons p t=>
  cases b with
  |nil=>cases hy
  |cons q t'=>
   simp only at hx hy
   split at hx
   ·split at hy
    ·cases hx;cases hy;rename_i h1 h2;rw[h1,h2]
    ·cases hy
   ·cases hx
theorem sortK_lt{l:List Lab}(h:l.Nodup):(zdn l).Pairwise (fun a b=>cmpL a b<0):=by
 have h1:=zcd l
 have h2:(zdn l).Nodup:=(zbH l).nodup_iff.2 h
 rw[List.nodup_iff_pairwise_ne]at h2
 refine(h1.and h2).imp (fun {a b} ⟨h3,h4⟩=>?_)
 simp only[leL,decide_eq_true_eq]at h3
 have:cmpL a b≠0:=fun e=>h4 (zbz e)
 omega
theorem zcT{l:List Lab}{x:Lab}:x∈zdn l↔x∈l:=(zbH l).mem_iff
section
variable {names : List Nm} (hcl : ∀ l f, l :: f ∈ names → f ∈ names) (hnd : names.Nodup)
include hcl
theorem zgb{f:Nm}:∀{p:Nm},p++f∈names→f∈names
 | [],h=>h
 |_::p,h=>zgb (p:=p) (hcl _ _ h)
theorem zc9:∀(k:Nat) (f g:Nm),f∈names→(∀g∈names,g.length<f.length+k)→(g∈allN names k f↔g∈names∧∃p,g=p++f)
 |0,f,g,hf,hk=>by have:=hk f hf;omega
 |k+1,f,g,hf,hk=>by
  simp only[allN,List.mem_cons,List.mem_flatten,List.mem_map]
  constructor
  ·rintro(rfl| ⟨_,⟨l,hl,rfl⟩,hg⟩)
   ·exact⟨hf,[],rfl⟩
   ·rw[zcT,za1]at hl
    obtain⟨h1,p,h2⟩:=(zc9 k (l::f) g hl (fun g hg=>by have:=hk g hg;simp;omega)).1 hg
    exact⟨h1,p++ [l],by rw[h2];simp⟩
  ·rintro⟨hg,p,hp⟩
   rcases List.eq_nil_or_concat p with rfl| ⟨q,l,rfl⟩
   ·exact .inl (by simpa using hp)
   ·right
    have hp':g=q++l::f:=by rw[hp];simp
    have hl:l::f∈names:=by rw[hp']at hg;exact zgb hcl hg
    exact⟨_,⟨l,zcT.2 (za1.2 hl),rfl⟩,(zc9 k (l::f) g hl (fun g hg=>by have:=hk g hg;simp;omega)).2 ⟨hg,q,hp'⟩⟩
include hnd
theorem zgg:∀(k:Nat) (f:Nm),f∈names→(∀g∈names,g.length<f.length+k)→Rise (allN names k f)
 |0,f,hf,hk=>by have:=hk f hf;omega
 |k+1,f,hf,hk=>by
  have hk':∀l,∀g∈names,g.length<(l::f).length+k:=fun l g hg=>by have:=hk g hg;simp;omega
  simp only[allN]
  refine List.pairwise_cons.2 ⟨fun g hg=>?_,?_⟩
  ·simp only[List.mem_flatten,List.mem_map]at hg
   obtain⟨_,⟨l,hl,rfl⟩,hg⟩:=hg
   rw[zcT,za1]at hl
   obtain⟨_,p,rfl⟩:=(zc9 hcl k (l::f) g hl (hk' l)).1 hg
   rw[show p++l::f=(p++ [l])++f from by simp]
   exact ziS (by simp)
  ·rw[List.pairwise_flatten]
   refine⟨fun x hx=>?_,?_⟩
   ·simp only[List.mem_map]at hx
    obtain⟨l,hl,rfl⟩:=hx
    rw[zcT,za1]at hl
    exact zgg k (l::f) hl (hk' l)
   ·rw[List.pairwise_map]
    refine List.Pairwise.imp_of_mem ?_ (sortK_lt (zjV hnd f))
    intro l m hl hm hlm x hx y hy
    rw[zcT,za1]at hl hm
    obtain⟨_,p,rfl⟩:=(zc9 hcl k (l::f) x hl (hk' l)).1 hx
    obtain⟨_,q,rfl⟩:=(zc9 hcl k (m::f) y hm (hk' m)).1 hy
    exact zho hlm
theorem zkq{k:Nat}(h0:[]∈names)(hk:∀g∈names,g.length<k):Rise (allN names k [])∧(∀g,g∈allN names k []↔g∈names)∧(allN names k []).length=names.length:=by
 have hk':∀g∈names,g.length<([]:Nm).length+k:=fun g hg=>by have:=hk g hg;simp;omega
 have h1:=zgg hcl hnd k [] h0 hk'
 have h2:∀g,g∈allN names k []↔g∈names:=fun g=>by
  rw[zc9 hcl k [] g h0 hk']
  exact⟨fun h=>h.1,fun h=>⟨h,g,by simp⟩⟩
 refine⟨h1,h2,?_⟩
 have n1:(allN names k []).Nodup:=List.Pairwise.imp (fun {a b} h e=>by subst e;rw[zdQ]at h;omega) h1
 exact((List.perm_ext_iff_of_nodup n1 hnd).2 h2).length_eq
end
theorem zb5{α:Type}[DecidableEq α]:∀{l m:List α},l.Nodup→(∀a∈l,a∈m)→l.length≤m.length
 | [],_,_,_=>Nat.zero_le _
 |a::l,m,h,hs=>by
  have h1:=List.nodup_cons.1 h
  have ha:=hs a (List.mem_cons_self ..)
  have:=zb5 (l:=l) (m:=m.erase a) h1.2 (fun b hb=>(List.mem_erase_of_ne (fun (e:b=a)=>h1.1 (e▸hb))).2 (hs b (List.mem_cons_of_mem _ hb)))
  rw[List.length_erase_of_mem ha]at this
  have:=List.length_pos_of_mem ha
  simp;omega
def zgu(ps:List (Nm×Value))(g:Nm):Option Value:=ps.foldl (fun acc p=>if zag p.1=g then some p.2 else acc) Option.none
theorem zfw(ps:List (Nm×Value))(p:Nm×Value)(g:Nm):zgu (ps++ [p]) g=if zag p.1=g then some p.2 else zgu ps g:=by
 simp[zgu,List.foldl_append]
structure Hist(z:Value)(s:TS)(ps:List (Nm×Value)):Prop where
 names:∀g,g∈s.names↔g=[]∨∃p∈ps,g<:+zag p.1
 val:∀g,s.val g=(zgu ps g).getD z
 has:∀g,s.has g=(zgu ps g).isSome
def zjf(k:Nat)(ps:List (Nm×Value)):Prop:=∀p∈ps,LB p.1∧p.1.length≤k
theorem Hist.deep{z:Value}{s:TS}{ps:List (Nm×Value)}(h:Hist z s ps){k:Nat}(hk:zjf k ps):∀g∈s.names,g.length≤k∧LB g∧zag g=g:=by
 intro g hg
 rcases(h.names g).1 hg with rfl| ⟨p,hp,q,hq⟩
 ·exact⟨Nat.zero_le _,(fun l hl=>by cases hl),rfl⟩
 ·have h1:=(hk p hp).2
  have h2:g=(zag p.1).drop q.length:=by rw[←hq];simp
  refine⟨?_,?_,?_⟩
  ·rw[h2,List.length_drop,zau];omega
  ·rw[h2];exact(hk p hp).1.fold.drop _
  ·rw[h2,←zbK,zdc]
end Go.Proofs.YtahbdamijngmmaaGreat
