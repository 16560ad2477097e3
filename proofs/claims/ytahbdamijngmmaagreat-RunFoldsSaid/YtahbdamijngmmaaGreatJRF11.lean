/-
  Texts of a proof, joined: W4, K29, W5, W6, W7, W8, K26, W9, X0, X1, O5, X7, OC.
  Conditions: none.
-/
import Derived.Test.YtahbdamijngmmaaGreatJRF10
import Derived.Test.YtahbdamijngmmaaGreatJRF09
import Derived.Test.YtahbdamijngmmaaGreatJRF01
import Derived.Test.YtahbdamijngmmaaGreatJRF08
set_option linter.unusedVariables false
set_option linter.unusedSimpArgs false
set_option linter.defProp false
set_option linter.unnecessarySimpa false
set_option maxHeartbeats 8000000
namespace Go.Proofs.YtahbdamijngmmaaGreat
open Go
set_option maxRecDepth 10000
theorem ziX{w:World}{sv:Value}{l:List SrvL}(hs:Rows 6 (SrvC w) w sv l):∃a c,sv= .slice a l.length c∧∀i (h:i<l.length),∃xa xi x5 nv ap cp,a=some xa∧adr (some xa) (i*6)=some xi∧adr (some xi) 5=some x5∧zae w (some xi)=some nv∧Row w nv (l[i].host.map vs)∧
  zae w (some x5)=some (.slice ap l[i].places.length cp)∧(∃b1 b2 b3 b4,l[i].addr=[b1,b2,b3,b4]∧zau w (some xi) 6=some [nv,zaf b1,zaf b2,zaf b3,zaf b4,.slice ap l[i].places.length cp])∧Rows 2 (PlaceC w) w (.slice ap l[i].places.length cp) l[i].places∧
  ∀k (h:k<l[i].places.length),∃xp xk xk1 ov,ap=some xp∧adr (some xp) (k*2)=some xk∧adr (some xk) 1=some xk1∧zae w (some xk)=some ov∧Row w ov (l[i].places[k].o.map vs)∧zae w (some xk1)=some (vs l[i].places[k].path):=by
 obtain⟨a,c,rfl,_,hg⟩:=hs.open
 refine⟨a,c,rfl,fun i hi=>?_⟩
 obtain⟨cs,hcs,hS⟩:=hg i hi
 obtain⟨nv,b1,b2,b3,b4,pv,rfl,ha,hn,hp⟩:=hS.ex
 have hp0:=hp
 obtain⟨ap,cp,rfl,_,hgp⟩:=hp.open
 obtain⟨xa,rfl⟩:=Option.isSome_iff_exists.1 (zas hcs)
 obtain⟨xi,hxi⟩:∃xi,adr (some xa) (i*6)=some xi:=⟨_,rfl⟩
 obtain⟨x5,hx5⟩:∃x,adr (some xi) 5=some x:=⟨_,rfl⟩
 rw[hxi]at hcs
 have h0:=zax (j:=0) hcs rfl
 rw[zaA]at h0
 have h5:=zax (j:=5) hcs rfl
 rw[hx5]at h5
 refine⟨xa,xi,x5,nv,ap,cp,rfl,hxi,hx5,h0,hn,h5,⟨b1,b2,b3,b4,ha,hcs⟩,hp0,fun k hk=>?_⟩
 obtain⟨c2,hc2,hP⟩:=hgp k hk
 obtain⟨ov,rfl,ho⟩:=hP.ex
 obtain⟨xp,rfl⟩:=Option.isSome_iff_exists.1 (zas hc2)
 obtain⟨xk,hxk⟩:∃xi,adr (some xp) (k*2)=some xi:=⟨_,rfl⟩
 obtain⟨xk1,hxk1⟩:∃x,adr (some xk) 1=some x:=⟨_,rfl⟩
 rw[hxk]at hc2
 have g0:=zax (j:=0) hc2 rfl
 rw[zaA]at g0
 have g1:=zax (j:=1) hc2 rfl
 rw[hxk1]at g1
 exact⟨xp,xk,xk1,ov,rfl,hxk,hxk1,g0,ho,g1⟩
theorem Few15_ok(w:World){cs:List Value}{c:zg7}(hc:ConfAt w cs c):
  Fn Tryz.prog 66 #[.agg cs.toArray] w (fun v w'=>Ext w w'∧∃t,v= .bool t∧(t=true→FewC c)):=by
 obtain⟨sv,rv,rfl,hs,hr⟩:=hc.ex
 obtain⟨aS,cS,rfl,hat⟩:=ziX hs
 obtain⟨ar,cr,rfl,_⟩:=hr
 simp only[List.length_map]
 refine enter Tryz.func66 Tryz.ntmps66 rfl rfl ?_
 repeat refine c_r ?_
 refine rg0 ?_
 repeat refine c_r ?_
 refine zaB ?_
 intro w1 hE1 hs1 hA
 have p0:zae w1 (some ⟨w.heap.size,0,Option.none⟩)=some (.slice aS c.servers.length cS):=zab hA rfl
 have p1:zae w1 (some ⟨w.heap.size,1,Option.none⟩)=some (.slice ar c.roots.length cr):=zab hA rfl
 repeat refine c_r ?_
 by_cases h1:(c.servers.length:Int)>20
 ·refine rgg [(4,9)] (an3 p0 Nat.add_zero (decide_eq_true h1)) ?_
  repeat refine c_r ?_
  refine wt trivial ?_
  repeat (first|refine c_r ?_|refine rg0 ?_)
  refine rt0 Tryz.ntmps66 ?_
  exact⟨hE1,_,rfl,fun h=>by cases h⟩
 by_cases h2:(c.roots.length:Int)>20
 ·refine rgg [(4,9)] (an6 p0 Nat.add_zero (decide_eq_false h1) p1 Nat.zero_add (decide_eq_true h2)) ?_
  repeat refine c_r ?_
  refine wt trivial ?_
  repeat (first|refine c_r ?_|refine rg0 ?_)
  refine rt0 Tryz.ntmps66 ?_
  exact⟨hE1,_,rfl,fun h=>by cases h⟩
 refine rgg [(4,9)] (an6 p0 Nat.add_zero (decide_eq_false h1) p1 Nat.zero_add (decide_eq_false h2)) ?_
 repeat refine c_r ?_
 refine wf trivial ?_
 repeat refine c_r ?_
 refine rg0 ?_
 repeat refine c_r ?_
 refine zam (fun m σ ds A=>ds=[]∧∃(i:Nat),i+m=c.servers.length∧σ 3=vi i∧σ 1= .pointer (some ⟨w.heap.size,0,Option.none⟩)∧Ext w1 A∧∀j (h:j<c.servers.length),j<i→Sh c.servers[j].host∧c.servers[j].places.length≤20∧∀p∈c.servers[j].places,Sh p.o∧p.path.length≤50) c.servers.length ?_ ?_
 ·exact⟨rfl,0,by omega,vr0,vq0,Keep.refl _ _,fun j h h2=>absurd h2 (by omega)⟩
 rintro m σ ds A ⟨rfl,i,him,s3,s1,hEA,ht⟩
 have p0A:=zaa hEA p0
 repeat refine c_r ?_
 refine rg4 s3 s1 p0A Nat.add_zero ?_
 repeat refine c_r ?_
 refine wc0 ?_ ?_
 ·intro hlt
  simp only[decide_eq_true_eq]at hlt
  have hi:i<c.servers.length:=by omega
  have hi0:(0:Int)≤(i:Int):=by omega
  have hi1':(i:Int)+1=((i+1:Nat):Int):=by push_cast;rfl
  obtain⟨xa,xi,x5,nv,ap,cp,rfl,hxi,hx5,g0,hn,g5,_,_,hpl⟩:=hat i hi
  obtain⟨s,hse⟩:∃s,c.servers[i]=s:=⟨_,rfl⟩
  rw[hse]at hn g5
  simp only[hse]at hpl
  have hz0:adr (some xi) 0=some xi:=zaA _
  have g0A:=zaa (hE1.trans hEA) g0
  repeat refine c_r ?_
  refine rcg [(8,30)] (an9 s3 s1 p0A Nat.add_zero hi0 hlt hxi hz0 g0A) (zju A (hn.ext (hE1.trans hEA))) ?_
  rintro _ A1 ⟨hE2,t,rfl,hsh⟩
  have hEA1:=hEA.trans hE2
  have p0B:=zaa hEA1 p0
  have g5B:=zaa (hE1.trans hEA1) g5
  cases t with
  |false=>
   refine reg [(8,30)] Bool.not_false ?_
   repeat refine c_r ?_
   refine wt trivial ?_
   repeat (first|refine c_r ?_|refine rg0 ?_)
   refine rt0 Tryz.ntmps66 ?_
   exact⟨hE1.trans hEA1,_,rfl,fun h=>by cases h⟩
  |true=>
  by_cases h3:(s.places.length:Int)>20
  ·refine reg [(8,30)] (an2 (an9 s3 s1 p0B Nat.add_zero hi0 hlt hxi hx5 g5B) (an2 Bool.not_true (decide_eq_true h3))) ?_
   repeat refine c_r ?_
   refine wt trivial ?_
   repeat (first|refine c_r ?_|refine rg0 ?_)
   refine rt0 Tryz.ntmps66 ?_
   exact⟨hE1.trans hEA1,_,rfl,fun h=>by cases h⟩
  refine reg [(8,30)] (an2 (an9 s3 s1 p0B Nat.add_zero hi0 hlt hxi hx5 g5B) (an2 Bool.not_true (decide_eq_false h3))) ?_
  repeat refine c_r ?_
  refine wf trivial ?_
  repeat refine c_r ?_
  refine rg0 ?_
  repeat refine c_r ?_
  refine zam (fun m σ ds B=>ds=[]∧∃(k:Nat),k+m=s.places.length∧σ 4=vi k∧σ 3=vi i∧σ 1= .pointer (some ⟨w.heap.size,0,Option.none⟩)∧Ext w1 B∧∀j (h:j<s.places.length),j<k→Sh s.places[j].o∧s.places[j].path.length≤50) s.places.length ?_ ?_
  ·exact⟨rfl,0,by omega,vr0,(vq1 s3),(vq1 s1),hEA1,fun j h h2=>absurd h2 (by omega)⟩
  clear s3 s1
  rintro m2 σ2 ds2 B ⟨rfl,k,hkm,s4,s3,s1,hEB,ht2⟩
  have p0C:=zaa hEB p0
  have g5C:=zaa (hE1.trans hEB) g5
  repeat refine c_r ?_
  refine rg9 s4 s3 s1 (an3 p0C Nat.add_zero g5C) hi0 hlt hxi hx5 trivial ?_
  repeat refine c_r ?_
  refine wc0 ?_ ?_
  ·intro hlt2
   simp only[decide_eq_true_eq]at hlt2
   have hk:k<s.places.length:=by omega
   have hk0:(0:Int)≤(k:Int):=by omega
   have hk1':(k:Int)+1=((k+1:Nat):Int):=by push_cast;rfl
   obtain⟨xp,xk,xk1,ov,rfl,hxk,hxk1,f0,ho,f1⟩:=hpl k hk
   have hz1:adr (some xk) 0=some xk:=zaA _
   have f0C:=zaa (hE1.trans hEB) f0
   repeat refine c_r ?_
   refine rcg [(12,63)] (an2 (an9 s4 s3 s1 p0C Nat.add_zero g5C hi0 hlt hxi) (an7 hx5 hk0 hlt2 hxk hz1 f0C trivial)) (zju B (ho.ext (hE1.trans hEB))) ?_
   rintro _ B1 ⟨hE3,t,rfl,hsh2⟩
   have hEB1:=hEB.trans hE3
   cases t with
   |false=>
    refine reg [(12,63)] Bool.not_false ?_
    repeat refine c_r ?_
    refine wt trivial ?_
    repeat (first|refine c_r ?_|refine rg0 ?_)
    refine rt0 Tryz.ntmps66 ?_
    exact⟨hE1.trans hEB1,_,rfl,fun h=>by cases h⟩
   |true=>
   have p0D:=zaa hEB1 p0
   have g5D:=zaa (hE1.trans hEB1) g5
   have f1D:=zaa (hE1.trans hEB1) f1
   by_cases h4:((s.places[k].path).length:Int)>50
   ·refine reg [(12,63)] (an3 (an9 s4 s3 s1 p0D Nat.add_zero g5D hi0 hlt hxi) (an6 hx5 hk0 hlt2 hxk hxk1 f1D) (an2 Bool.not_true (decide_eq_true h4))) ?_
    repeat refine c_r ?_
    refine wt trivial ?_
    repeat (first|refine c_r ?_|refine rg0 ?_)
    refine rt0 Tryz.ntmps66 ?_
    exact⟨hE1.trans hEB1,_,rfl,fun h=>by cases h⟩
   refine reg [(12,63)] (an3 (an9 s4 s3 s1 p0D Nat.add_zero g5D hi0 hlt hxi) (an6 hx5 hk0 hlt2 hxk hxk1 f1D) (an2 Bool.not_true (decide_eq_false h4))) ?_
   repeat refine c_r ?_
   refine wf trivial ?_
   repeat refine c_r ?_
   refine rg2 s4 hk1' ?_
   repeat refine c_r ?_
   refine⟨m2 - 1,by omega,rfl,k+1,by omega,vq0,(vq1 s3),(vq1 s1),hEB1,fun j hj hjk=>?_⟩
   by_cases hj2:j=k
   ·subst hj2;exact⟨hsh2 rfl,by omega⟩
   ·exact ht2 j hj (by omega)
  ·intro hge2
   simp only[decide_eq_false_iff_not]at hge2
   repeat refine c_r ?_
   refine rg2 s3 hi1' ?_
   repeat refine c_r ?_
   refine⟨m - 1,by omega,rfl,i+1,by omega,vq0,(vq1 s1),hEB,fun j hj hji=>?_⟩
   by_cases hj2:j=i
   ·subst hj2
    rw[hse]
    refine⟨hsh rfl,by omega,fun p hp=>?_⟩
    obtain⟨k2,hk2,rfl⟩:=List.mem_iff_getElem.1 hp
    exact ht2 k2 hk2 (by omega)
   ·exact ht j hj (by omega)
 ·intro hge
  simp only[decide_eq_false_iff_not]at hge
  repeat (first|refine c_r ?_|refine rg0 ?_)
  refine rt0 Tryz.ntmps66 ?_
  refine⟨hE1.trans hEA,_,rfl,fun _=>⟨by omega,by omega,fun s hs=>?_⟩⟩
  obtain⟨j,hj,rfl⟩:=List.mem_iff_getElem.1 hs
  exact ht j hj (by omega)
section
variable {P : Program} {d : Option Tmp} {ty : TypeId} {ps : String} {af : Array Edge} {g : Option (Nat × Bool)} {ρ : Operand → Value} {w : World} {K : Value → World → Prop}
theorem zeZ{e:TypeId}{cs:Array Value}{i:Nat}{v:Value}(he:P.underlying e=some (.int .u8))(hv:cs[i]? =some v):(part e cs i).run P w= .ok v w:=by
 have hi:(isAgg e).run P w= .ok false w:=by simp[isAgg,underlying,program,Sem.run,he]
 unfold part
 simp only[Sem.run_bind,hi,Result.andThen_ok,Bool.false_eq_true,if_false,hv,Sem.run_pure]
theorem zc5{e:TypeId}(he:P.underlying e=some (.int .u8))(n:Nat)(a b:UInt8):(Op.equalIn (n+1) e (zaf a) (zaf b)).run P w= .ok (decide (a=b)) w:=by
 have:((a.toNat:Int)==(b.toNat:Int))=decide (a=b):=by
  by_cases h:a=b
  ·subst h;simp
  ·rw[decide_eq_false h]
   have:a.toNat≠b.toNat:=fun h2=>h (UInt8.toNat_inj.1 h2)
   simp;omega
 simp[Op.equalIn,underlying,program,Sem.run,he,zaf,this]
theorem eqIn_arr{t e:TypeId}{inf:TypeInfo}(ht:P.underlying t=some (.array 4 e))(he:P.underlying e=some (.int .u8))(hi:P.info? e=some inf)(hs:inf.size=1)(n:Nat)(a b c d a' b' c' d':UInt8):
  (Op.equalIn (n+2) t (.agg #[zaf a,zaf b,zaf c,zaf d]) (.agg #[zaf a',zaf b',zaf c',zaf d'])).run P w= .ok (decide ([a,b,c,d]=[a',b',c',d'])) w:=by
 rw[Op.equalIn]
 have hsz:(sizeOf e).run P w= .ok 1 w:=by simp[sizeOf,typeInfo,program,Sem.run,hi,hs]
 have hu:(underlying t).run P w= .ok (.array 4 e) w:=by simp[underlying,program,Sem.run,ht]
 simp only[Sem.run_bind,hu,Result.andThen_ok,hsz,Std.Legacy.Range.forIn_eq_forIn_range',Std.Legacy.Range.size,List.range']
 have p0:∀x0 x1 x2 x3:Value,(part e #[x0,x1,x2,x3] 0).run P w= .ok x0 w:=fun _ _ _ _=>zeZ he rfl
 have p1:∀x0 x1 x2 x3:Value,(part e #[x0,x1,x2,x3] 1).run P w= .ok x1 w:=fun _ _ _ _=>zeZ he rfl
 have p2:∀x0 x1 x2 x3:Value,(part e #[x0,x1,x2,x3] 2).run P w= .ok x2 w:=fun _ _ _ _=>zeZ he rfl
 have p3:∀x0 x1 x2 x3:Value,(part e #[x0,x1,x2,x3] 3).run P w= .ok x3 w:=fun _ _ _ _=>zeZ he rfl
 by_cases h1:a=a'
 ·by_cases h2:b=b'
  ·by_cases h3:c=c'
   ·by_cases h4:d=d'
    ·simp[List.forIn_cons,Sem.run_bind,p0,p1,p2,p3,zc5 he,h1,h2,h3,h4]
    ·simp[List.forIn_cons,Sem.run_bind,p0,p1,p2,p3,zc5 he,h1,h2,h3,h4]
   ·simp[List.forIn_cons,Sem.run_bind,p0,p1,p2,p3,zc5 he,h1,h2,h3]
  ·simp[List.forIn_cons,Sem.run_bind,p0,p1,p2,p3,zc5 he,h1,h2]
 ·simp[List.forIn_cons,Sem.run_bind,p0,p1,p2,p3,zc5 he,h1]
theorem op_eqA{t e yt:TypeId}{x y:Operand}{inf:TypeInfo}{a b c d1 a' b' c' d':UInt8}(ht:P.underlying t=some (.array 4 e))(he:P.underlying e=some (.int .u8))(hi:P.info? e=some inf)(hs:inf.size=1)(hg:P.eqGuardType P.depth t=false)
  (hx:ρ x= .agg #[zaf a,zaf b,zaf c,zaf d1]) (hy:ρ y= .agg #[zaf a',zaf b',zaf c',zaf d']) (h:K (.bool (decide ([a,b,c,d1]=[a',b',c',d']))) w):
  opW P ⟨d,.binOp .eql t x y yt,ty,ps,af,g⟩ ρ w K:=by
 have h2:(Op.equal t (.agg #[zaf a,zaf b,zaf c,zaf d1]) (.agg #[zaf a',zaf b',zaf c',zaf d'])).run P w= .ok (decide ([a,b,c,d1]=[a',b',c',d'])) w:=eqIn_arr ht he hi hs 9998 a b c d1 a' b' c' d'
 have hr:(do eqGuard .eql t x y (.agg #[zaf a,zaf b,zaf c,zaf d1]) (.agg #[zaf a',zaf b',zaf c',zaf d']);binOp .eql t (.agg #[zaf a,zaf b,zaf c,zaf d1]) (.agg #[zaf a',zaf b',zaf c',zaf d']):Sem Value).run P w= .ok (.bool (decide ([a,b,c,d1]=[a',b',c',d']))) w:=by
  simp[eqGuard,binOp,h2,program,Sem.run,hg]
 have:=zaI (P:=P) (K:=K) hr h
 rw[←hx,←hy]at this
 exact this
end
theorem Sh.lb9{n:Nm}(h:Sh n):(∀l∈n,l.length≤1000000000)∧n.length≤1000000000:=⟨fun l hl=>by have:=h.lb l hl;omega,by have:=h.len;omega⟩
theorem zl6(w:World){cs:List Value}{c:zg7}(hc:ConfAt w cs c)(hf:FewC c){i:Nat}(hi:i<c.servers.length):
  Fn Tryz.prog 119 #[.agg cs.toArray,vi i] w (fun v w'=>Ext w w'∧∃e,v=vi e):=by
 obtain⟨sv,rv,rfl,hs,hr⟩:=hc.ex
 obtain⟨aS,cS,rfl,hat⟩:=ziX hs
 obtain⟨ar,cr,rfl,_⟩:=hr
 simp only[List.length_map]
 have hsl:=hf.sl
 refine enter Tryz.func119 Tryz.ntmps119 rfl rfl ?_
 repeat refine c_r ?_
 refine rg0 ?_
 repeat refine c_r ?_
 refine zaB ?_
 intro w1 hE1 hs1 hA
 have p0:zae w1 (some ⟨w.heap.size,0,Option.none⟩)=some (.slice aS c.servers.length cS):=zab hA rfl
 obtain⟨xa,xi,x5,nv,ap,cp,rfl,hxi,hx5,g0,hn,g5,⟨b1,b2,b3,b4,hadr,hcs⟩,hpr,hpl⟩:=hat i hi
 obtain⟨s,hse⟩:∃s,c.servers[i]=s:=⟨_,rfl⟩
 obtain⟨fs1,fs2,fs3⟩:=hf.s s (hse▸List.getElem_mem hi)
 rw[hse]at hn g5 hadr hcs hpr
 simp only[hse]at hpl
 have n1:=hn.isOne
 have i0:(0:Int)≤(i:Int):=by omega
 have i1:(i:Int)<(c.servers.length:Int):=by omega
 have d:=zad hE1 hcs
 repeat refine c_r ?_
 refine rq ?_;intro gd K hgd hK
 try simp (disch:=first|omega|assumption|rfl) only[go_sem,p0,Nat.add_zero,i0,i1,hxi,d]
 refine za0 (P:=Tryz.prog) (l:=[nv,zaf b1,zaf b2,zaf b3,zaf b4,.slice ap s.places.length cp]) rfl (fun v hv=>by simp at hv;rcases hv with rfl|rfl|rfl|rfl|rfl|rfl<;>first|exact n1|rfl) rfl rfl ?_
 intro w2 hE2 hs2 hB
 try simp only[go_sem]
 refine hK _ _ ?_;clear hK hgd;clear K;try clear gd
 obtain⟨b5,hb5⟩:∃b,w1.heap.size=b:=⟨_,rfl⟩
 rw[hb5]at hB ⊢
 have hE12:=hE1.trans hE2
 have p02:=zaa hE2 p0
 have q0:zae w2 (some ⟨b5,0,Option.none⟩)=some nv:=zab hB rfl
 have q1:zau w2 (some ⟨b5,1,Option.none⟩) 4=some [zaf b1,zaf b2,zaf b3,zaf b4]:=by
  have h6:=zah (n:=6) (l:=[nv,zaf b1,zaf b2,zaf b3,zaf b4,.slice ap s.places.length cp]) hB rfl
  have h5:=za8 (m:=1) (k:=5) h6
  rw[zaU]at h5
  exact zcw (m:=4) (k:=1) h5
 have q5:zae w2 (some ⟨b5,5,Option.none⟩)=some (.slice ap s.places.length cp):=zab hB rfl
 repeat refine c_r ?_
 refine rc (an2 q0 Nat.add_zero) (zbG w2 nv s.host (hn.ext hE12) fs1.lb9.1 fs1.lb9.2) ?_
 rintro _ w3 ⟨rfl,hE3⟩
 refine re trivial ?_
 have hE23:=hE12.trans hE3
 repeat refine c_r ?_
 by_cases hck:zaD s.host=0
 rotate_left
 ·refine rg1 (decide_eq_false hck) ?_
  repeat refine c_r ?_
  refine wt Bool.not_false ?_
  repeat (first|refine c_r ?_|refine rg0 ?_)
  refine rt0 Tryz.ntmps119 ?_
  exact⟨hE23,_,rfl⟩
 refine rg1 (decide_eq_true hck) ?_
 repeat refine c_r ?_
 refine wf Bool.not_true ?_
 have p03:=zaa hE3 p02
 have q03:=zaa hE3 q0
 have q13:=zad hE3 q1
 have q53:=zaa hE3 q5
 repeat refine c_r ?_
 refine rg0 ?_
 repeat refine c_r ?_
 refine zam (fun m σ ds A=>ds=[]∧∃(k:Nat),k+m=i∧σ 7=vi k∧σ 1=vi i∧σ 2= .pointer (some ⟨w.heap.size,0,Option.none⟩)∧σ 5= .pointer (some ⟨b5,0,Option.none⟩)∧Ext w3 A) i ?_ ?_
 ·exact⟨rfl,0,by omega,vr0,vq0,vq0,vq0,Keep.refl _ _⟩
 rintro m σ ds A ⟨rfl,k,hkm,s7,s1,s2,s5,hEA⟩
 have hEwA:=hE23.trans hEA
 repeat refine c_r ?_
 refine rg2 s7 s1 ?_
 repeat refine c_r ?_
 refine wc0 ?_ ?_
 ·intro hlt
  simp only[decide_eq_true_eq]at hlt
  have hk:k<c.servers.length:=by omega
  have hk0:(0:Int)≤(k:Int):=by omega
  have hk1:(k:Int)<(c.servers.length:Int):=by omega
  have hk1':(k:Int)+1=((k+1:Nat):Int):=by push_cast;rfl
  obtain⟨xa',xk,_,nv',_,_,hae,hxk,_,f0,hn',_,⟨d1,d2,d3,d4,_,fcs⟩,_,_⟩:=hat k hk
  injection hae with hae
  subst hae
  obtain⟨fsk,_,_⟩:=hf.s _ (List.getElem_mem hk)
  obtain⟨y1,hy1⟩:∃y,adr (some xk) 1=some y:=⟨_,rfl⟩
  have hz0:adr (some xk) 0=some xk:=zaA _
  have fby:zau w (some y1) 4=some [zaf d1,zaf d2,zaf d3,zaf d4]:=by
   have h5:=za8 (m:=1) (k:=5) fcs
   rw[hy1]at h5
   exact zcw (m:=4) (k:=1) h5
  repeat refine c_r ?_
  refine zaJ (fun _=>false) [(0,true),(1,true),(2,true),(3,true),(4,true),(5,true),(6,true),(7,true),(8,false),(9,true),(10,true),(11,true),(12,true),(13,true),(14,true),(15,true),(16,true),(17,true),(18,false),(19,true)] NoS mixed (by kernel_rfl) ?_;intro gd K x hgd hx hxe hK;clear hxe
  have hg9:∀n σ b,zav gd n σ (some (9,b))=zak (ev n σ (.tmp 35)) b:=(fun n σ b=>by rw[zac,show gd 9=some 35 from(by rw[hgd];rfl)];rfl)
  have hW:=hEwA.trans hx
  have p0x:=zaa (hEA.trans hx) p03
  have q0x:=zaa (hEA.trans hx) q03
  have q1x:=zad (hEA.trans hx) q13
  have f0x:=zaa hW f0
  have fbx:=zad hW fby
  simp (disch:=first|omega|assumption|rfl) only[go_sem,s7,s2,s5,p0x,q0x,Nat.add_zero,hk0,hk1,hxk,hz0,f0x]
  refine Fn.mono (zg4 x nv' nv _ s.host (hn'.ext hW) (hn.ext hW) fsk.m.LB fs1.m.LB (by have:=fsk.len;omega) (by have:=fs1.len;omega)) ?_
  rintro _ y ⟨rfl,hy⟩
  refine⟨.inr hy,?_⟩
  obtain⟨sm,hsm⟩:∃b,decide (zai c.servers[k].host=zai s.host)=b:=⟨_,rfl⟩
  rw[hsm]
  cases sm with
  |true=>
   simp (disch:=first|omega|assumption|rfl) only[go_sem,↓hg9]
   refine hK _ _ ?_;clear hK hgd;clear K;try clear gd
   repeat refine c_r ?_
   refine wt trivial ?_
   repeat (first|refine c_r ?_|refine rg0 ?_)
   refine rt0 Tryz.ntmps119 ?_
   exact⟨hW.trans hy,_,rfl⟩
  |false=>
  have p0y:=zaa hy p0x
  have q1y:=zad hy q1x
  have fby':=zad hy fbx
  simp (disch:=first|omega|assumption|rfl) only[go_sem,s7,s2,s5,p0y,Nat.add_zero,hk0,hk1,hxk,hy1,fby',q1y,↓hg9]
  refine op_eqA (a:=d1) (b:=d2) (c:=d3) (d1:=d4) (a':=b1) (b':=b2) (c':=b3) (d':=b4) rfl rfl rfl rfl (by kernel_rfl) (vr0) (vr0) ?_
  refine⟨.inr (Keep.refl _ _),?_⟩
  simp (disch:=first|omega|assumption|rfl) only[go_sem,↓hg9]
  refine hK _ _ ?_;clear hK hgd;clear K;try clear gd
  have hWy:=hW.trans hy
  have hAy:=(hEA.trans hx).trans hy
  repeat refine c_r ?_
  refine wc0 ?_ ?_
  ·intro _
   repeat (first|refine c_r ?_|refine rg0 ?_)
   refine rt0 Tryz.ntmps119 ?_
   exact⟨hWy,_,rfl⟩
  ·intro _
   repeat refine c_r ?_
   refine rg2 s7 hk1' ?_
   repeat refine c_r ?_
   exact⟨m - 1,by omega,rfl,k+1,by omega,vq0,(vq1 s1),(vq1 s2),(vq1 s5),hAy⟩
 intro hge
 clear hkm hge s7
 have q5A:=zaa hEA q53
 repeat refine c_r ?_
 by_cases h16:(s.places.length:Int)>16
 ·refine rg4 s5 q5A Nat.zero_add (decide_eq_true h16) ?_
  repeat refine c_r ?_
  refine wt trivial ?_
  repeat (first|refine c_r ?_|refine rg0 ?_)
  refine rt0 Tryz.ntmps119 ?_
  exact⟨hEwA,_,rfl⟩
 refine rg4 s5 q5A Nat.zero_add (decide_eq_false h16) ?_
 repeat refine c_r ?_
 refine wf trivial ?_
 repeat refine c_r ?_
 refine rg0 ?_
 repeat refine c_r ?_
 refine zam (fun m σ ds B=>ds=[]∧∃(k:Nat),k+m=s.places.length∧σ 8=vi k∧σ 5= .pointer (some ⟨b5,0,Option.none⟩)∧Ext w3 B) s.places.length ?_ ?_
 ·exact⟨rfl,0,by omega,vr0,(vq1 s5),hEA⟩
 clear s1 s2 s5 q5A hEwA hEA
 rintro m2 σ2 ds2 B ⟨rfl,k,hkm,s8,s5,hEB⟩
 have hEwB:=hE23.trans hEB
 have q5B:=zaa hEB q53
 repeat refine c_r ?_
 refine rg4 s8 s5 q5B Nat.zero_add ?_
 repeat refine c_r ?_
 refine wc0 ?_ ?_
 rotate_left
 ·intro _
  repeat (first|refine c_r ?_|refine rg0 ?_)
  refine rt0 Tryz.ntmps119 ?_
  exact⟨hEwB,_,rfl⟩
 intro hlt
 simp only[decide_eq_true_eq]at hlt
 have hk:k<s.places.length:=by omega
 have hk0:(0:Int)≤(k:Int):=by omega
 have hk1':(k:Int)+1=((k+1:Nat):Int):=by push_cast;rfl
 obtain⟨xp,xk,xk1,ov,rfl,hxk,hxk1,f0,ho,f1⟩:=hpl k hk
 obtain⟨fo,fp⟩:=fs3 _ (List.getElem_mem hk)
 have hz1:adr (some xk) 0=some xk:=zaA _
 have f0B:=zaa hEwB f0
 repeat refine c_r ?_
 refine rc (an9 s8 s5 q5B Nat.zero_add hk0 hlt hxk hz1 f0B) (zbG B ov _ (ho.ext hEwB) fo.lb9.1 fo.lb9.2) ?_
 rintro _ B1 ⟨rfl,hE4⟩
 refine re trivial ?_
 have hEB1:=hEB.trans hE4
 have hEwB1:=hE23.trans hEB1
 have q5B1:=zaa hEB1 q53
 have f1B1:=zaa hEwB1 f1
 repeat refine c_r ?_
 by_cases hck2:zaD s.places[k].o=0
 rotate_left
 ·refine rg1 (decide_eq_false hck2) ?_
  repeat refine c_r ?_
  refine wt Bool.not_false ?_
  repeat (first|refine c_r ?_|refine rg0 ?_)
  refine rt0 Tryz.ntmps119 ?_
  exact⟨hEwB1,_,rfl⟩
 refine rg1 (decide_eq_true hck2) ?_
 repeat refine c_r ?_
 refine wf Bool.not_true ?_
 repeat refine c_r ?_
 refine rc (an9 s8 s5 q5B1 Nat.zero_add hk0 hlt hxk hxk1 f1B1) (RPath_ok B1 (l:=s.places[k].path) (by omega)) ?_
 rintro _ B2 ⟨hE5,t,rfl⟩
 refine re trivial ?_
 have hEB2:=hEB1.trans hE5
 repeat refine c_r ?_
 cases t with
 |false=>
  refine wt Bool.not_false ?_
  repeat (first|refine c_r ?_|refine rg0 ?_)
  refine rt0 Tryz.ntmps119 ?_
  exact⟨hE23.trans hEB2,_,rfl⟩
 |true=>
 refine wf Bool.not_true ?_
 repeat refine c_r ?_
 refine rg0 ?_
 repeat refine c_r ?_
 refine zam (fun m σ ds C=>ds=[]∧∃(j:Nat),j+m=k∧σ 9=vi j∧σ 8=vi k∧σ 5= .pointer (some ⟨b5,0,Option.none⟩)∧Ext w3 C) k ?_ ?_
 ·exact⟨rfl,0,by omega,vr0,(vq1 s8),(vq1 s5),hEB2⟩
 clear s8 s5
 rintro m3 σ3 ds3 C ⟨rfl,j,hjm,s9,s8,s5,hEC⟩
 have hEwC:=hE23.trans hEC
 repeat refine c_r ?_
 refine rg2 s9 s8 ?_
 repeat refine c_r ?_
 refine wc0 ?_ ?_
 rotate_left
 ·intro _
  repeat refine c_r ?_
  refine rg2 s8 hk1' ?_
  repeat refine c_r ?_
  exact⟨m2 - 1,by omega,rfl,k+1,by omega,vq0,(vq1 s5),hEC⟩
 intro hlt2
 simp only[decide_eq_true_eq]at hlt2
 have hj:j<s.places.length:=by omega
 have hj0:(0:Int)≤(j:Int):=by omega
 have hj1:(j:Int)<(s.places.length:Int):=by omega
 have hj1':(j:Int)+1=((j+1:Nat):Int):=by push_cast;rfl
 obtain⟨xp',xj,_,ov',hpe,hxj,_,e0,ho',_⟩:=hpl j hj
 injection hpe with hpe
 subst hpe
 obtain⟨fo',_⟩:=fs3 _ (List.getElem_mem hj)
 have hz2:adr (some xj) 0=some xj:=zaA _
 repeat refine c_r ?_
 refine zaJ (fun _=>false) [(0,true),(1,true),(2,true),(3,true),(4,true),(5,true),(6,true),(7,true),(8,true),(9,true),(10,true),(11,true),(12,false)] NoS mixed (by kernel_rfl) ?_;intro gd K x hgd hx hxe hK;clear hxe
 have hW:=hEwC.trans hx
 have q5x:=zaa (hEC.trans hx) q53
 have f0x:=zaa hW f0
 have e0x:=zaa hW e0
 simp (disch:=first|omega|assumption|rfl) only[go_sem,s9,s8,s5,q5x,Nat.zero_add,hk0,hlt,hj0,hj1,hxk,hxj,hz1,hz2,f0x,e0x]
 refine Fn.mono (zg4 x ov' ov _ _ (ho'.ext hW) (ho.ext hW) fo'.m.LB fo.m.LB (by have:=fo'.len;omega) (by have:=fo.len;omega)) ?_
 rintro _ y ⟨rfl,hy⟩
 refine⟨.inr hy,?_⟩
 simp (disch:=first|omega|assumption|rfl) only[go_sem]
 refine hK _ _ ?_;clear hK hgd;clear K;try clear gd
 repeat refine c_r ?_
 refine wc0 ?_ ?_
 ·intro _
  repeat (first|refine c_r ?_|refine rg0 ?_)
  refine rt0 Tryz.ntmps119 ?_
  exact⟨hW.trans hy,_,rfl⟩
 ·intro _
  repeat refine c_r ?_
  refine rg2 s9 hj1' ?_
  repeat refine c_r ?_
  exact⟨m3 - 1,by omega,rfl,j+1,by omega,vq0,(vq1 s8),(vq1 s5),(hEC.trans hx).trans hy⟩
structure zl8(c:zg7):Prop where
 ne:c.roots≠ []
 inn:∀r∈c.roots,0≤r∧r<(c.servers.length:Int)
theorem zig(w:World){cs:List Value}{c:zg7}(hc:ConfAt w cs c)(hf:FewC c):
  Fn Tryz.prog 67 #[.agg cs.toArray] w (fun v w'=>Ext w w'∧∃a e,v= .tuple #[vi a,vi e]∧(e=0→zl8 c)):=by
 have hc0:=hc
 obtain⟨sv,rv,rfl,hs,hr⟩:=hc.ex
 obtain⟨aS,cS,rfl,hat⟩:=ziX hs
 obtain⟨ar,cr,rfl,_,hgr⟩:=hr
 simp only[List.length_map,List.getElem_map]at hgr hc0 ⊢
 have hsl:=hf.sl
 have hrl:=hf.rl
 refine enter Tryz.func67 Tryz.ntmps67 rfl rfl ?_
 repeat refine c_r ?_
 refine rg0 ?_
 repeat refine c_r ?_
 refine zaB ?_
 intro w1 hE1 hs1 hA
 have p0:zae w1 (some ⟨w.heap.size,0,Option.none⟩)=some (.slice aS c.servers.length cS):=zab hA rfl
 have p1:zae w1 (some ⟨w.heap.size,1,Option.none⟩)=some (.slice ar c.roots.length cr):=zab hA rfl
 have p2:zae w1 (some ⟨w.heap.size,2,Option.none⟩)=some (vi c.rw):=zab hA rfl
 have p3:zae w1 (some ⟨w.heap.size,3,Option.none⟩)=some (vi c.rf):=zab hA rfl
 have dC:zau w1 (some ⟨w.heap.size,0,Option.none⟩) 4=some [.slice aS c.servers.length cS,.slice ar c.roots.length cr,vi c.rw,vi c.rf]:=zah hA rfl
 repeat refine c_r ?_
 by_cases h1:(c.servers.length:Int)=0
 ·refine rgg [(4,14)] (an3 p0 Nat.add_zero (decide_eq_true h1)) ?_
  repeat refine c_r ?_
  refine wt trivial ?_
  repeat (first|refine c_r ?_|refine rg0 ?_)
  refine zaE (by simp) Tryz.ntmps67 rfl (zar (vr0) (zar (vr0) zaz)) ?_
  exact⟨hE1,_,_,rfl,fun h=>by cases h⟩
 by_cases h2:(c.roots.length:Int)=0
 ·refine rgg [(4,14)] (an6 p0 Nat.add_zero (decide_eq_false h1) p1 Nat.zero_add (decide_eq_true h2)) ?_
  repeat refine c_r ?_
  refine wt trivial ?_
  repeat (first|refine c_r ?_|refine rg0 ?_)
  refine zaE (by simp) Tryz.ntmps67 rfl (zar (vr0) (zar (vr0) zaz)) ?_
  exact⟨hE1,_,_,rfl,fun h=>by cases h⟩
 refine rgg [(4,14)] (an6 p0 Nat.add_zero (decide_eq_false h1) p1 Nat.zero_add (decide_eq_false h2)) ?_
 repeat refine c_r ?_
 refine wf trivial ?_
 repeat refine c_r ?_
 refine rg2 p0 Nat.add_zero ?_
 repeat refine c_r ?_
 refine wc0 ?_ ?_
 ·intro _
  repeat (first|refine c_r ?_|refine rg0 ?_)
  refine zaE (by simp) Tryz.ntmps67 rfl (zar (vr0) (zar (vr0) zaz)) ?_
  exact⟨hE1,_,_,rfl,fun h=>by cases h⟩
 intro _
 repeat refine c_r ?_
 refine zay (Q:=fun e σ' ds' v'=>e= .normal∧ds'=[]∧v'=w1∧σ' 1= .pointer (some ⟨w.heap.size,0,Option.none⟩)∧∃t,σ' 25= .bool t) ?_ ?_
 ·by_cases e0:c.rw<0
  ·refine rgg [(3,29),(8,34),(13,39)] (an3 p2 Nat.zero_add (decide_eq_true e0)) ?_
   exact⟨rfl,rfl,rfl,vq0,_,vr0⟩
  by_cases e1:c.rw>8
  ·refine rgg [(3,29),(8,34),(13,39)] (an4 p2 Nat.zero_add (decide_eq_false e0) (decide_eq_true e1)) ?_
   exact⟨rfl,rfl,rfl,vq0,_,vr0⟩
  by_cases e2:c.rf<0
  ·refine rgg [(3,29),(8,34),(13,39)] (an6 p2 Nat.zero_add (decide_eq_false e0) (decide_eq_false e1) p3 (decide_eq_true e2)) ?_
   exact⟨rfl,rfl,rfl,vq0,_,vr0⟩
  refine rgg [(3,29),(8,34),(13,39)] (an6 p2 Nat.zero_add (decide_eq_false e0) (decide_eq_false e1) p3 (decide_eq_false e2)) ?_
  exact⟨rfl,rfl,rfl,vq0,_,vr0⟩
 rintro _ σ1 _ w2 ⟨rfl,rfl,rfl,s1,t,s25⟩
 repeat refine c_r ?_
 cases t with
 |true=>
  refine wt s25 ?_
  repeat (first|refine c_r ?_|refine rg0 ?_)
  refine zaE (by simp) Tryz.ntmps67 rfl (zar (vr0) (zar (vr0) zaz)) ?_
  exact⟨hE1,_,_,rfl,fun h=>by cases h⟩
 |false=>
 refine wf s25 ?_
 clear s25
 repeat refine c_r ?_
 refine rg0 ?_
 repeat refine c_r ?_
 refine zam (fun m σ ds A=>ds=[]∧∃(i:Nat),i+m=c.roots.length∧σ 4=vi i∧σ 1= .pointer (some ⟨w.heap.size,0,Option.none⟩)∧Ext w2 A∧∀j (h:j<c.roots.length),j<i→0≤c.roots[j]∧c.roots[j]<(c.servers.length:Int)) c.roots.length ?_ ?_
 ·exact⟨rfl,0,by omega,vr0,(vq1 s1),Keep.refl _ _,fun j h h2=>absurd h2 (by omega)⟩
 clear s1
 rintro m σ ds A ⟨rfl,i,him,s4,s1,hEA,ht⟩
 have p1A:=zaa hEA p1
 repeat refine c_r ?_
 refine rg4 s4 s1 p1A Nat.zero_add ?_
 repeat refine c_r ?_
 refine wc0 ?_ ?_
 ·intro hlt
  simp only[decide_eq_true_eq]at hlt
  have hi:i<c.roots.length:=by omega
  have hi0:(0:Int)≤(i:Int):=by omega
  have hi1':(i:Int)+1=((i+1:Nat):Int):=by push_cast;rfl
  have g:=hgr i hi
  obtain⟨x1,rfl⟩:=Option.isSome_iff_exists.1 (zag g)
  repeat refine c_r ?_
  refine zaJ (fun _=>false) [(0,true),(1,true),(2,true),(3,true),(4,true),(5,true),(6,true),(7,true),(8,true),(9,true),(10,true),(11,true),(12,true),(13,true),(14,true),(15,true),(16,true)] NoS mixed (by kernel_rfl) ?_;intro gd K x hgd hx hxe hK;clear hxe
  have hg6:∀n σ b,zav gd n σ (some (6,b))=zak (ev n σ (.tmp 57)) b:=(fun n σ b=>by rw[zac,show gd 6=some 57 from(by rw[hgd];rfl)];rfl)
  have p1x:=zaa hx p1A
  have p0x:=zaa (hEA.trans hx) p0
  have gx:=zaa (hE1.trans (hEA.trans hx)) g
  by_cases hneg:c.roots[i]<0
  ·simp (disch:=first|omega|assumption|rfl) only[go_sem,s4,s1,p1x,Nat.zero_add,Nat.mul_one,hi0,hlt,gx,decide_eq_true hneg,zcx,↓hg6]
   refine hK _ _ ?_;clear hK hgd;clear K;try clear gd
   repeat refine c_r ?_
   refine wt trivial ?_
   repeat (first|refine c_r ?_|refine rg0 ?_)
   refine zaE (by simp) Tryz.ntmps67 rfl (zar (vr0) (zar (vr0) zaz)) ?_
   exact⟨hE1.trans (hEA.trans hx),_,_,rfl,fun h=>by cases h⟩
  by_cases hbig:c.roots[i]≥(c.servers.length:Int)
  ·simp (disch:=first|omega|assumption|rfl) only[go_sem,s4,s1,p1x,p0x,Nat.zero_add,Nat.add_zero,Nat.mul_one,hi0,hlt,gx,decide_eq_false hneg,decide_eq_true hbig,zcx,↓hg6]
   refine hK _ _ ?_;clear hK hgd;clear K;try clear gd
   repeat refine c_r ?_
   refine wt trivial ?_
   repeat (first|refine c_r ?_|refine rg0 ?_)
   refine zaE (by simp) Tryz.ntmps67 rfl (zar (vr0) (zar (vr0) zaz)) ?_
   exact⟨hE1.trans (hEA.trans hx),_,_,rfl,fun h=>by cases h⟩
  simp (disch:=first|omega|assumption|rfl) only[go_sem,s4,s1,p1x,p0x,Nat.zero_add,Nat.add_zero,Nat.mul_one,hi0,hlt,gx,decide_eq_false hneg,decide_eq_false hbig,zcx,↓hg6]
  refine hK _ _ ?_;clear hK hgd;clear K;try clear gd
  repeat refine c_r ?_
  refine wf trivial ?_
  repeat refine c_r ?_
  refine rg2 s4 hi1' ?_
  repeat refine c_r ?_
  refine⟨m - 1,by omega,rfl,i+1,by omega,vq0,(vq1 s1),hEA.trans hx,fun j hj hji=>?_⟩
  by_cases hj2:j=i
  ·subst hj2;omega
  ·exact ht j hj (by omega)
 intro hge
 simp only[decide_eq_false_iff_not]at hge
 have hro:zl8 c:=⟨fun h=>by rw[h]at h2;exact h2 rfl,fun r hr=>by
  obtain⟨j,hj,rfl⟩:=List.mem_iff_getElem.1 hr
  exact ht j hj (by omega)⟩
 clear him hge s4 ht p1A
 repeat refine c_r ?_
 refine rg0 ?_
 repeat refine c_r ?_
 refine zam (fun m σ ds B=>ds=[]∧∃(i:Nat),i+m=c.roots.length∧σ 5=vi i∧σ 1= .pointer (some ⟨w.heap.size,0,Option.none⟩)∧Ext w2 B) c.roots.length ?_ ?_
 ·exact⟨rfl,0,by omega,vr0,(vq1 s1),hEA⟩
 clear s1 hEA
 rintro m2 σ2 ds2 B ⟨rfl,i,him,s5,s1,hEB⟩
 have p1B:=zaa hEB p1
 repeat refine c_r ?_
 refine rg4 s5 s1 p1B Nat.zero_add ?_
 repeat refine c_r ?_
 refine wc0 ?_ ?_
 ·intro hlt
  simp only[decide_eq_true_eq]at hlt
  have hi:i<c.roots.length:=by omega
  have hi0:(0:Int)≤(i:Int):=by omega
  have hi1':(i:Int)+1=((i+1:Nat):Int):=by push_cast;rfl
  have g:=hgr i hi
  obtain⟨x1,rfl⟩:=Option.isSome_iff_exists.1 (zag g)
  repeat refine c_r ?_
  refine rg0 ?_
  repeat refine c_r ?_
  refine zam (fun m σ ds C=>ds=[]∧∃(j:Nat),j+m=i∧σ 6=vi j∧σ 5=vi i∧σ 1= .pointer (some ⟨w.heap.size,0,Option.none⟩)∧Ext w2 C) i ?_ ?_
  ·exact⟨rfl,0,by omega,vr0,(vq1 s5),(vq1 s1),hEB⟩
  clear s5 s1
  rintro m3 σ3 ds3 C ⟨rfl,j,hjm,s6,s5,s1,hEC⟩
  have p1C:=zaa hEC p1
  repeat refine c_r ?_
  refine rg2 s6 s5 ?_
  repeat refine c_r ?_
  refine wc0 ?_ ?_
  ·intro hlt2
   simp only[decide_eq_true_eq]at hlt2
   have hj:j<c.roots.length:=by omega
   have hj0:(0:Int)≤(j:Int):=by omega
   have hj1:(j:Int)<(c.roots.length:Int):=by omega
   have hj1':(j:Int)+1=((j+1:Nat):Int):=by push_cast;rfl
   have gj:=hgr j hj
   repeat refine c_r ?_
   refine zaJ (fun _=>false) [(0,true),(1,true),(2,true),(3,true),(4,true),(5,true),(6,true),(7,true),(8,true),(9,true),(10,true)] NoS mixed (by kernel_rfl) ?_;intro gd K x hgd hx hxe hK;clear hxe
   have p1x:=zaa hx p1C
   have gx:=zaa (hE1.trans (hEC.trans hx)) g
   have gjx:=zaa (hE1.trans (hEC.trans hx)) gj
   simp (disch:=first|omega|assumption|rfl) only[go_sem,s6,s5,s1,p1x,Nat.zero_add,Nat.mul_one,hi0,hlt,hj0,hj1,gx,gjx]
   refine hK _ _ ?_;clear hK hgd;clear K;try clear gd
   repeat refine c_r ?_
   refine wc0 ?_ ?_
   ·intro _
    repeat (first|refine c_r ?_|refine rg0 ?_)
    refine zaE (by simp) Tryz.ntmps67 rfl (zar (vr0) (zar (vr0) zaz)) ?_
    exact⟨hE1.trans (hEC.trans hx),_,_,rfl,fun h=>by cases h⟩
   ·intro _
    repeat refine c_r ?_
    refine rg2 s6 hj1' ?_
    repeat refine c_r ?_
    exact⟨m3 - 1,by omega,rfl,j+1,by omega,vq0,(vq1 s5),(vq1 s1),hEC.trans hx⟩
  ·intro _
   repeat refine c_r ?_
   refine rg2 s5 hi1' ?_
   repeat refine c_r ?_
   exact⟨m2 - 1,by omega,rfl,i+1,by omega,vq0,(vq1 s1),hEC⟩
 intro hge
 clear him hge s5 p1B
 repeat refine c_r ?_
 refine rg0 ?_
 repeat refine c_r ?_
 refine zam (fun m σ ds B=>ds=[]∧∃(i:Nat),i+m=c.servers.length∧σ 7=vi i∧σ 1= .pointer (some ⟨w.heap.size,0,Option.none⟩)∧Ext w2 B) c.servers.length ?_ ?_
 ·exact⟨rfl,0,by omega,vr0,(vq1 s1),hEB⟩
 clear s1 hEB
 rintro m3 σ3 ds3 C ⟨rfl,i,him,s7,s1,hEC⟩
 have p0C:=zaa hEC p0
 have dCC:=zad hEC dC
 repeat refine c_r ?_
 refine rg4 s7 s1 p0C Nat.add_zero ?_
 repeat refine c_r ?_
 refine wc0 ?_ ?_
 ·intro hlt
  simp only[decide_eq_true_eq]at hlt
  have hi:i<c.servers.length:=by omega
  have hi1':(i:Int)+1=((i+1:Nat):Int):=by push_cast;rfl
  repeat refine c_r ?_
  refine rc (an3 s7 s1 dCC) (zl6 C (hc0.ext (hE1.trans hEC)) hf hi) ?_
  rintro _ C1 ⟨hE2,e,rfl⟩
  refine re trivial ?_
  repeat refine c_r ?_
  by_cases he:e=0
  ·refine rg1 (decide_eq_true he) ?_
   repeat refine c_r ?_
   refine wf Bool.not_true ?_
   repeat refine c_r ?_
   refine rg2 s7 hi1' ?_
   repeat refine c_r ?_
   exact⟨m3 - 1,by omega,rfl,i+1,by omega,vq0,(vq1 s1),hEC.trans hE2⟩
  ·refine rg1 (decide_eq_false he) ?_
   repeat refine c_r ?_
   refine wt Bool.not_false ?_
   repeat refine c_r ?_
   refine rg1 s7 ?_
   repeat refine c_r ?_
   refine zaE (by simp) Tryz.ntmps67 rfl (zar (vr0) (zar (vr0) zaz)) ?_
   exact⟨hE1.trans (hEC.trans hE2),_,_,rfl,fun h=>absurd h he⟩
 ·intro _
  repeat (first|refine c_r ?_|refine rg0 ?_)
  refine zaE (by simp) Tryz.ntmps67 rfl (zar (vr0) (zar (vr0) zaz)) ?_
  exact⟨hE1.trans hEC,_,_,rfl,fun _=>hro⟩
theorem zcG(w:World):zeU 2 (PlaceC w):=by
 refine⟨fun h=>?_,fun h=>?_⟩
 ·obtain⟨ov,rfl,_⟩:=h.ex;rfl
 ·obtain⟨ov,rfl,h1⟩:=h.ex
  intro q hq
  simp at hq
  rcases hq with rfl|rfl
  ·exact h1.isOne
  ·rfl
def gxC(cs:List Value)(x:SrvL×(Value×List Value)):Prop:=cs=x.2.2∧cs.length=6∧∀q∈cs,one q=true
theorem ze1:zeU 6 gxC:=⟨fun h=>h.2.1,fun h=>h.2.2⟩
structure SrvX(w0 A:World)(pv:Value)(cs:List Value)(s:SrvL):Prop where
 ex:∃nv a b c d,cs=[nv,zaf a,zaf b,zaf c,zaf d,pv]∧s.addr=[a,b,c,d]∧Row w0 nv (s.host.map vs)∧Rows 2 (PlaceC w0) A pv s.places
theorem SrvX.keep{w0 A A':World}{pv:Value}{cs:List Value}{s:SrvL}(h:SrvX w0 A pv cs s){S:Nat→Prop}(hk:Keep S A A')(hS:∀a n c,pv= .slice (some a) n c→a.block<A.heap.size∧¬S a.block):SrvX w0 A' pv cs s:=by
 obtain⟨nv,a,b,c,d,e,ha,h1,h2⟩:=h.ex
 exact⟨nv,a,b,c,d,e,ha,h1,h2.blocks fun a n c hv=>hk.block _ (hS a n c hv).1 (hS a n c hv).2⟩
structure GS(w0:World)(e:TypeId)(B:Nat)(A:World)(ov:Value)(G:List (SrvL×(Value×List Value))):Prop where
 own:Owns 6 gxC B A e ov G
 row:∀x∈G,SrvX w0 A x.2.1 x.2.2 x.1∧BlkB B A x.2.1∧∀a n c,x.2.1= .slice (some a) n c→some a.block≠ov.ownBlock
theorem GS.keep{w0 A A':World}{e:TypeId}{B:Nat}{ov:Value}{G:List (SrvL×(Value×List Value))}(h:GS w0 e B A ov G){S:Nat→Prop}(hk:Keep S A A')(hS:∀b,B≤b→b<A.heap.size→¬S b):GS w0 e B A' ov G:=
 ⟨h.own.keep hk (fun b hb=>hS b (h.own.ge hb).1 (h.own.ge hb).2),fun x hx=>by
  obtain⟨h1,h2,h3⟩:=h.row x hx
  exact⟨h1.keep hk (fun a n c hv=>⟨(h2 a n c hv).2,hS _ (h2 a n c hv).1 (h2 a n c hv).2⟩),h2.ext hk.size,h3⟩⟩
theorem GS.ext{w0 A A':World}{e:TypeId}{B:Nat}{ov:Value}{G:List (SrvL×(Value×List Value))}(h:GS w0 e B A ov G)(hE:Ext A A'):GS w0 e B A' ov G:=h.keep hE (fun _ _ _ h=>h)
theorem GS.app{w0 A A1 A2:World}{e:TypeId}{B:Nat}{ov ov':Value}{G:List (SrvL×(Value×List Value))}{x:SrvL×(Value×List Value)}(h:GS w0 e B A ov G)(hE:Ext A A1)(hB:B≤A.heap.size)
  (hx:SrvX w0 A1 x.2.1 x.2.2 x.1) (hxb:BlkB A.heap.size A1 x.2.1) (ho:Owns 6 gxC B A2 e ov' (G++ [x])) (hk:Keep (fun b=>some b=ov.ownBlock) A1 A2) (hb:∀b,some b=ov'.ownBlock→some b=ov.ownBlock∨A1.heap.size≤b):GS w0 e B A2 ov' (G++ [x]):=by
 refine⟨ho,fun y hy=>?_⟩
 have h1:=h.ext hE
 have hge:∀b,some b=ov.ownBlock→b<A.heap.size:=fun b hb=>(h.own.ge hb).2
 have hy2:SrvX w0 A1 y.2.1 y.2.2 y.1∧BlkB B A1 y.2.1∧∀a n c,y.2.1= .slice (some a) n c→some a.block≠ov.ownBlock:=by
  rcases List.mem_append.1 hy with hy|hy
  ·exact h1.row y hy
  ·rw[List.mem_singleton.1 hy]
   exact⟨hx,hxb.mono hB,fun a n c hv hbb=>by have:=hge _ hbb;have:=(hxb a n c hv).1;omega⟩
 obtain⟨g1,g2,g3⟩:=hy2
 refine⟨g1.keep hk (fun a n c hv=>⟨(g2 a n c hv).2,g3 a n c hv⟩),g2.ext hk.size,fun a n c hv hbb=>?_⟩
 rcases hb _ hbb with e|e
 ·exact g3 a n c hv e
 ·have:=(g2 a n c hv).2;omega
theorem GS.rows{w0 A:World}{e:TypeId}{B:Nat}{ov:Value}{G:List (SrvL×(Value×List Value))}(h:GS w0 e B A ov G)(hE:Ext w0 A):Rows 6 (SrvC A) A ov (G.map Prod.fst):=by
 obtain⟨L,h1,h2,h3⟩:=h.own.rows
 refine⟨L,h1,by rw[h2,List.length_map],fun i hi hi'=>?_⟩
 have hi2:i<G.length:=by omega
 obtain⟨e1,_⟩:=h3 i hi hi2
 obtain⟨g1,_⟩:=h.row _ (List.getElem_mem hi2)
 obtain⟨nv,a,b,c,d,e2,ha,g2,g3⟩:=g1.ex
 rw[e1,e2,List.getElem_map]
 exact⟨nv,a,b,c,d,_,rfl,ha,g2.ext hE,g3.to fun _ _ h=>h.ext hE⟩
structure IP(w0:World)(es ep:TypeId)(b5:Nat)(nv:Value)(a b c d:UInt8)(A0 v:World)(pv:Value)(ps:List zfT):Prop where
 h:v.heap[b5]? =some (.cells #[nv,zaf a,zaf b,zaf c,zaf d,pv] es (0,0))
 own:Owns 2 (PlaceC w0) (b5+1) v ep pv ps
 e:Ext A0 v
 lo:A0.heap.size≤b5
theorem IP.app{w0 A0 v v1 v2 v3:World}{es ep:TypeId}{b5:Nat}{nv pv pv':Value}{a b c d:UInt8}{ps:List zfT}{p:zfT}(h:IP w0 es ep b5 nv a b c d A0 v pv ps)(hE:Ext v v1)
  (ho:Owns 2 (PlaceC w0) (b5+1) v2 ep pv' (ps++ [p])) (hk:Keep (fun b=>some b=pv.ownBlock) v1 v2) (h3:v3.heap[b5]? =some (.cells #[nv,zaf a,zaf b,zaf c,zaf d,pv'] es (0,0))) (hk3:Keep (fun b=>b=b5) v2 v3):IP w0 es ep b5 nv a b c d A0 v3 pv' (ps++ [p]):=by
 have lo:=h.lo
 have e2:Ext A0 v2:=Keep.to_ext (h.e.trans hE) rfl (fun b hb=>by have:=(h.own.ge hb).1;omega) hk
 exact⟨h3,ho.keep hk3 (fun b hb hb2=>by have:=(ho.ge hb).1;omega),Keep.to_ext e2 rfl (fun b hb=>by omega) hk3,lo⟩
theorem Of15_ok(w:World){cs:List Value}{c:zg7}(hc:ConfAt w cs c)(hf:FewC c):
  Fn Tryz.prog 68 #[.agg cs.toArray] w (fun v w'=>Ext w w'∧∃cs',v= .agg cs'.toArray∧ConfAt w' cs' c):=by
 obtain⟨sv,rv,rfl,hs,hr⟩:=hc.ex
 obtain⟨aS,cS,rfl,hat⟩:=ziX hs
 have hr0:=hr
 have r1:=hr.isOne
 obtain⟨ar,cr,hrv,_,hgr⟩:=hr
 have hsl:=hf.sl
 refine enter Tryz.func68 Tryz.ntmps68 rfl rfl ?_
 repeat refine c_r ?_
 rw[hrv]
 refine rg0 ?_
 rw[←hrv]
 repeat refine c_r ?_
 rw[zaj]
 refine zaO ?_
 intro w1 hE1 hs1 hA hC
 have p0:zae w1 (some ⟨w.heap.size,0,Option.none⟩)=some (.slice aS c.servers.length cS):=zab hA rfl
 have p1:zae w1 (some ⟨w.heap.size,1,Option.none⟩)=some rv:=zab hA rfl
 have p2:zae w1 (some ⟨w.heap.size,2,Option.none⟩)=some (vi c.rw):=zab hA rfl
 have p3:zae w1 (some ⟨w.heap.size,3,Option.none⟩)=some (vi c.rf):=zab hA rfl
 repeat refine c_r ?_
 refine rq ?_;intro gd K hgd hK
 try simp (disch:=first|omega|assumption|rfl) only[go_sem,p1,p2,p3,Nat.zero_add]
 refine⟨by kernel_rfl,?_⟩
 rw[hrv,show bdV Tryz.prog 137 [(1,.slice ar (c.roots.map vi).length cr),(2,vi c.rw),(3,vi c.rf)]=some (.agg #[.slice Option.none 0 0,.slice ar (c.roots.map vi).length cr,vi c.rw,vi c.rf]) from by kernel_rfl,←hrv]
 try simp only[go_sem]
 refine za0 (P:=Tryz.prog) (l:=[.slice Option.none 0 0,rv,vi c.rw,vi c.rf]) rfl (fun v hv=>by simp at hv;rcases hv with rfl|rfl|rfl|rfl<;>first|exact r1|rfl) rfl rfl ?_
 intro w2 hE2 hs2 hD
 try simp only[go_sem]
 refine hK _ _ ?_;clear hK hgd;clear K;try clear gd
 obtain⟨c3,hc3⟩:∃b,w1.heap.size=b:=⟨_,rfl⟩
 rw[hc3]at hD hs2 ⊢
 have hE12:=hE1.trans hE2
 have p0w:=zaa hE2 p0
 repeat refine c_r ?_
 refine rg0 ?_
 repeat refine c_r ?_
 refine zam (fun m σ ds A=>ds=[]∧∃(i:Nat) (ov:Value) (G:List (SrvL×(Value×List Value))),i+m=c.servers.length∧σ 4=vi i∧σ 1= .pointer (some ⟨w.heap.size,0,Option.none⟩)∧σ 2= .pointer (some ⟨w.heap.size+1,0,Option.none⟩)∧σ 3= .pointer (some ⟨c3,0,Option.none⟩)∧Ext w1 A∧c3+1≤A.heap.size∧
  A.heap[c3]? =some (.cells #[ov,rv,vi c.rw,vi c.rf] 137 (0,0))∧GS w 217 (c3+1) A ov G∧G.map Prod.fst=c.servers.take i) c.servers.length ?_ ?_
 ·exact⟨rfl,0,.slice Option.none 0 0,[],by omega,vr0,vq0,vq0,vq0,hE2,by omega,hD,⟨Owns.nil _ _ _ _ _,fun x h=>by cases h⟩,rfl⟩
 rintro m σ ds A ⟨rfl,i,ov,G,him,s4,s1,s2,s3,hEA,hAs,hB3,hGS,hGf⟩
 have p0A:=zaa hEA p0
 repeat refine c_r ?_
 refine rg4 s4 s1 p0A Nat.add_zero ?_
 repeat refine c_r ?_
 refine wc0 ?_ ?_
 ·intro hlt
  simp only[decide_eq_true_eq]at hlt
  have hi:i<c.servers.length:=by omega
  have hi0:(0:Int)≤(i:Int):=by omega
  have hi1':(i:Int)+1=((i+1:Nat):Int):=by push_cast;rfl
  obtain⟨xa,xi,x5,nv,ap,cp,rfl,hxi,hx5,g0,hn,g5,⟨b1,b2,b3,b4,hadr,hcs⟩,hpr,hpl⟩:=hat i hi
  obtain⟨s,hse⟩:∃s,c.servers[i]=s:=⟨_,rfl⟩
  obtain⟨fs1,fs2,fs3⟩:=hf.s s (hse▸List.getElem_mem hi)
  rw[hse]at hn g5 hadr hcs hpr
  simp only[hse]at hpl
  have n1:=hn.isOne
  have hz0:adr (some xi) 0=some xi:=zaA _
  obtain⟨y1,hy1⟩:∃y,adr (some xi) 1=some y:=⟨_,rfl⟩
  have gby:zau w (some y1) 4=some [zaf b1,zaf b2,zaf b3,zaf b4]:=by
   have h5:=za8 (m:=1) (k:=5) hcs
   rw[hy1]at h5
   exact zcw (m:=4) (k:=1) h5
  obtain⟨an,cn,hnv,_⟩:=id hn
  repeat refine c_r ?_
  refine zaJ (fun i=>i==14) [(0,true),(1,true),(2,true),(3,true),(4,true),(5,true),(6,true),(7,true),(8,true),(9,true),(10,true),(11,true),(12,true),(13,false),(14,false)] NoS mixed (by kernel_rfl) ?_;intro gd K x hgd hx hxe hK;clear hxe
  have hwx:=hE1.trans (hEA.trans hx)
  have p0x:=zaa hx p0A
  have g0x:=zaa hwx g0
  have gbx:=zad hwx gby
  simp (disch:=first|omega|assumption|rfl) only[go_sem,s4,s1,p0x,Nat.add_zero,hi0,hlt,hxi,hz0,hy1,g0x,gbx]
  refine⟨by kernel_rfl,?_⟩
  rw[hnv,show bdV Tryz.prog 217 [(0,.slice an (s.host.map vs).length cn),(1,.agg #[zaf b1,zaf b2,zaf b3,zaf b4])]=some (.agg #[.slice an (s.host.map vs).length cn,zaf b1,zaf b2,zaf b3,zaf b4,.slice Option.none 0 0]) from by kernel_rfl,←hnv]
  simp (disch:=first|omega|assumption|rfl) only[go_sem]
  refine⟨.inr (Ext.alloc x _),?_⟩
  refine za0 (P:=Tryz.prog) (l:=[nv,zaf b1,zaf b2,zaf b3,zaf b4,.slice Option.none 0 0]) rfl (fun v hv=>by simp at hv;rcases hv with rfl|rfl|rfl|rfl|rfl|rfl<;>first|exact n1|rfl) rfl rfl ?_
  intro A1 hE3 hs3 hB5
  refine⟨.inl rfl,?_⟩
  simp (disch:=first|omega|assumption|rfl) only[go_sem]
  refine hK _ _ ?_;clear hK hgd;clear K;try clear gd
  have hx3:=hx.trans hE3
  obtain⟨b5,hb5⟩:∃b,x.heap.size=b:=⟨_,rfl⟩
  have hsx:=hx.size
  rw[hb5]at hB5 hs3 hsx ⊢
  have hIP:IP w 217 219 b5 nv b1 b2 b3 b4 A A1 (.slice Option.none 0 0) []:=⟨hB5,Owns.nil _ _ _ _ _,hx3,hsx⟩
  clear p0x g0x gbx hx hx3 hwx hE3 hB5
  repeat refine c_r ?_
  refine rg0 ?_
  repeat refine c_r ?_
  refine zam (fun m σ ds v=>ds=[]∧∃(k:Nat) (pv:Value),k+m=s.places.length∧σ 6=vi k∧σ 4=vi i∧σ 1= .pointer (some ⟨w.heap.size,0,Option.none⟩)∧σ 2= .pointer (some ⟨w.heap.size+1,0,Option.none⟩)∧σ 3= .pointer (some ⟨c3,0,Option.none⟩)∧σ 5= .pointer (some ⟨b5,0,Option.none⟩)∧
   IP w 217 219 b5 nv b1 b2 b3 b4 A v pv (s.places.take k)∧b5+1≤v.heap.size) s.places.length ?_ ?_
  ·exact⟨rfl,0,_,by omega,vr0,(vq1 s4),(vq1 s1),(vq1 s2),(vq1 s3),vq0,hIP,by omega⟩
  clear s4 s1 s2 s3 hIP
  rintro m2 σ2 ds2 v ⟨rfl,k,pv,hkm,s6,s4,s1,s2,s3,s5,hIP,hvs⟩
  have hEv:=hEA.trans hIP.e
  have hwv:=hE1.trans hEv
  have p0v:=zaa hEv p0
  have g5v:=zaa hwv g5
  repeat refine c_r ?_
  refine rg9 s6 s4 s1 (an3 p0v Nat.add_zero g5v) hi0 hlt hxi hx5 trivial ?_
  repeat refine c_r ?_
  refine wc0 ?_ ?_
  ·intro hlt2
   simp only[decide_eq_true_eq]at hlt2
   have hk:k<s.places.length:=by omega
   have hk0:(0:Int)≤(k:Int):=by omega
   have hk1':(k:Int)+1=((k+1:Nat):Int):=by push_cast;rfl
   obtain⟨xp,xk,xk1,ow,rfl,hxk,hxk1,f0,ho,f1⟩:=hpl k hk
   have hz1:adr (some xk) 0=some xk:=zaA _
   obtain⟨ao,co,how,_⟩:=id ho
   have q5:zae v (some ⟨b5,5,Option.none⟩)=some pv:=zab hIP.h rfl
   have lo:=hIP.lo
   repeat refine c_r ?_
   refine zaJ (fun i=>i==26) [(0,true),(1,true),(2,true),(3,true),(4,true),(5,true),(6,true),(7,true),(8,true),(9,true),(10,true),(11,true),(12,true),(13,true),(14,true),(15,true),(16,true),(17,true),(18,true),(19,true),(20,true),(21,true),(22,true),(23,false),(24,false),(25,true),(26,false)] (zey (b5+1)) mixed (by kernel_rfl) ?_;intro gd K x hgd hx hxe hK;have hx0:=zhW hxe;clear hxe
   have hwx:=hwv.trans hx0
   have p0x:=zaa hx0 p0v
   have g5x:=zaa hwx g5
   have f0x:=zaa hwx f0
   have f1x:=zaa hwx f1
   have q5x:=zaa hx0 q5
   simp (disch:=first|omega|assumption|rfl) only[go_sem,s6,s4,s1,s5,p0x,Nat.add_zero,Nat.zero_add,hi0,hlt,hk0,hlt2,hxi,hx5,hxk,hz1,hxk1,g5x,f0x,f1x,q5x]
   have l5:x5.block<b5+1:=by have:=zdN (show w.cell? x5=some _ from g5);have:=hwv.size;have:=hE1.size;have:=hEA.size;omega
   have lk:xk.block<b5+1:=by have:=zdN (show w.cell? xk=some _ from f0);have:=hE1.size;have:=hEA.size;omega
   have lk1:xk1.block<b5+1:=by have:=zdN (show w.cell? xk1=some _ from f1);have:=hE1.size;have:=hEA.size;omega
   have lw:w.heap.size<b5+1:=by have:=hE1.size;have:=hEA.size;omega
   refine⟨zd4 (by omega),zd4 lw,zhz l5,zhz lk,zd4 lw,zhz l5,zhz lk1,by kernel_rfl,?_⟩
   rw[how,show bdV Tryz.prog 219 [(0,.slice ao (s.places[k].o.map vs).length co),(1,vs s.places[k].path)]=some (.agg #[.slice ao (s.places[k].o.map vs).length co,vs s.places[k].path]) from by kernel_rfl,←how]
   simp (disch:=first|omega|assumption|rfl) only[go_sem]
   refine zbg (zcG w) (l:=[ow,vs s.places[k].path]) (a:=s.places[k]) (by rfl) (by rfl) (by rfl) (by rfl) ⟨ow,rfl,ho⟩ (by decide) ?_
   intro v1 hE4 hs4' ho4
   refine⟨.inr hE4.keep,?_⟩
   simp (disch:=first|omega|assumption|rfl) only[go_sem]
   have hx04:=hx0.trans hE4
   have hsz4:=hx04.size
   refine zaV (zcG w) (hIP.own.ext hx04) ho4.rows (by rfl) (by rfl) (by rfl) (by rfl) (by rfl) (by rfl) (by decide) (vr0) (vr0) (by simp;omega) (by decide) (by omega) ?_
   intro pv' v2 ho5 hE5 hk5 hb5'
   refine⟨.inr (hk5.mono fun b _ hb=>(hIP.own.ge hb).1),?_⟩
   obtain⟨ap',cp',hpv',_⟩:=ho5.rows.open
   simp (disch:=first|omega|assumption|rfl) only[go_sem,s5,Nat.zero_add]
   refine zaY (P:=Tryz.prog) (t:=215) (j:=5) (u:=pv') (l:=[nv,zaf b1,zaf b2,zaf b3,zaf b4,pv]) ((hk5.block _ (by omega) (fun hb=>by have:=(hIP.own.ge hb).1;omega)).trans (Ext.at hx04 hIP.h)) (by simp) (by rw[hpv'];rfl) rfl rfl ?_
   intro v3 hs3' hB3' hk3'
   refine⟨.inl rfl,?_⟩
   simp (disch:=first|omega|assumption|rfl) only[go_sem]
   refine hK _ _ ?_;clear hK hgd;clear K;try clear gd
   have hIPn:=hIP.app hx04 ho5 hk5 hB3' hk3'
   have hs5:=hk5.size
   repeat refine c_r ?_
   refine rg2 s6 hk1' ?_
   repeat refine c_r ?_
   refine⟨m2 - 1,by omega,rfl,k+1,pv',by omega,vq0,(vq1 s4),(vq1 s1),(vq1 s2),(vq1 s3),(vq1 s5),?_,by omega⟩
   rw[zao hk];exact hIPn
  ·intro hge2
   simp only[decide_eq_false_iff_not]at hge2
   have hfull:s.places.take k=s.places:=List.take_of_length_le (by omega)
   rw[hfull]at hIP
   obtain⟨ap',cp',hpv',_⟩:=hIP.own.rows.open
   have lo:=hIP.lo
   have dB:zau v (some ⟨b5,0,Option.none⟩) 6=some [nv,zaf b1,zaf b2,zaf b3,zaf b4,pv]:=zah hIP.h rfl
   have q3:zae v (some ⟨c3,0,Option.none⟩)=some ov:=zab (Ext.at hIP.e hB3) rfl
   have ones6:∀q∈ [nv,zaf b1,zaf b2,zaf b3,zaf b4,pv],one q=true:=fun q hq=>by
    simp at hq
    rcases hq with rfl|rfl|rfl|rfl|rfl|rfl<;>first|exact n1|rfl| (rw[hpv'];rfl)
   have hGl:G.length=i:=by
    have:=congrArg List.length hGf
    simp at this;omega
   repeat refine c_r ?_
   refine rq ?_;intro gd K hgd hK
   try simp (disch:=first|omega|assumption|rfl) only[go_sem,s3,s5,q3,dB,Nat.add_zero]
   refine zbg (C:=gxC) ze1 (l:=[nv,zaf b1,zaf b2,zaf b3,zaf b4,pv]) (a:=(s,(pv,[nv,zaf b1,zaf b2,zaf b3,zaf b4,pv]))) (by rfl) (by rfl) (by rfl) (by rfl) ⟨rfl,rfl,ones6⟩ (by decide) ?_
   intro v1 hE4 hs4' ho4
   try simp only[go_sem]
   have hAv1:=hIP.e.trans hE4
   have hsA1:=hAv1.size
   refine zaV ze1 ((hGS.ext hAv1).own) ho4.rows (by rfl) (by rfl) (by rfl) (by rfl) (by rfl) (by rfl) (by decide) (vr0) (vr0) (by simp;omega) (by decide) (by omega) ?_
   intro ov' v2 ho5 hE5 hk5 hb5'
   obtain⟨ao',co',hov',_⟩:=ho5.rows.open
   try simp (disch:=first|omega|assumption|rfl) only[go_sem,s3,Nat.add_zero]
   refine zaY (P:=Tryz.prog) (t:=135) (j:=0) (u:=ov') (l:=[ov,rv,vi c.rw,vi c.rf]) ((hk5.block _ (by omega) (fun hb=>by have:=(hGS.own.ge hb).1;omega)).trans (Ext.at hAv1 hB3)) (by simp) (by rw[hov'];rfl) rfl rfl ?_
   intro v3 hs3' hB3' hk3'
   try simp only[go_sem]
   refine hK _ _ ?_;clear hK hgd;clear K;try clear gd
   have hGS2:=hGS.app hAv1 hAs (x:=(s,(pv,[nv,zaf b1,zaf b2,zaf b3,zaf b4,pv]))) ⟨nv,b1,b2,b3,b4,rfl,hadr,hn,hIP.own.rows.ext hE4⟩ ((hIP.own.blk.mono (by omega)).ext hE4.size) ho5 hk5 hb5'
   have hGS3:=hGS2.keep hk3' (fun b h1 _ h2=>by omega)
   have hs5:=hk5.size
   repeat refine c_r ?_
   refine rg2 s4 hi1' ?_
   repeat refine c_r ?_
   refine⟨m - 1,by omega,rfl,i+1,ov',_,by omega,vq0,(vq1 s1),(vq1 s2),(vq1 s3),Keep.to_ext (hE5 w1 (hEA.trans hAv1) (by omega)) rfl (fun b hb=>by omega) hk3',by omega,hB3',hGS3,?_⟩
   rw[zao hi,List.map_append,hGf,hse];rfl
 ·intro hge
  simp only[decide_eq_false_iff_not]at hge
  rw[List.take_of_length_le (by omega)]at hGf
  have hEw:=hE1.trans hEA
  have hrows:=hGS.rows hEw
  rw[hGf]at hrows
  have o1:=hrows.isOne
  have dx:=zah (n:=4) (l:=[ov,rv,vi c.rw,vi c.rf]) hB3 rfl
  repeat refine c_r ?_
  refine rq ?_;intro gd K hgd hK
  try simp (disch:=first|omega|assumption|rfl) only[go_sem,s3,s2,dx]
  refine zaM (P:=Tryz.prog) (t:=137) (l:=[ov,rv,vi c.rw,vi c.rf]) (Ext.at hEA hC) rfl (fun v hv=>by simp at hv;rcases hv with rfl|rfl|rfl|rfl<;>first|exact r1|exact o1|rfl) rfl rfl ?_
  intro z hsz hBz hkz
  try simp only[go_sem]
  refine hK _ _ ?_;clear hK hgd;clear K;try clear gd
  repeat refine c_r ?_
  refine zaE (.inr rfl) Tryz.ntmps68 rfl (zaZ (x:=⟨w.heap.size+1,0,Option.none⟩) (k:=4) ((vq1 s2)) rfl rfl (zah hBz rfl) zaz) ?_
  have hEz:Ext w z:=Keep.to_ext hEw rfl (fun b hb=>by omega) hkz
  have hGz:=(hGS.keep hkz (fun b h1 _ h2=>by omega)).rows hEz
  rw[hGf]at hGz
  exact⟨hEz,_,rfl,ov,rv,rfl,hGz,hr0.ext hEz⟩
section
variable {P : Program} {d : Option Tmp} {ty : TypeId} {ps : String} {af : Array Edge} {g : Option (Nat × Bool)} {ρ : Operand → Value} {w : World} {K : Value → World → Prop}
theorem op_field{s:TypeId}{x:Operand}{f:Nat}{fs:Array Field}{fd:Field}{cs:Array Value}{v:Value}(hs:P.underlying s=some (.struct fs))(hf:fs[f]? =some fd)(ha:tyA P fd.type=false)(hu:(P.underlying fd.type).isSome=true)
  (hx:ρ x= .agg cs) (hv:cs[fd.offset]? =some v) (h:K v w):opV P ⟨d,.field s x f,ty,ps,af,g⟩ ρ w K:=by
 show opW P _ ρ w K
 refine zaI (s:=Instr.field s (ρ x) f) (w':=w) (v:=v) ?_ h
 obtain⟨u,hu⟩:=Option.isSome_iff_exists.1 hu
 have hi:(isAgg fd.type).run P w= .ok false w:=by
  unfold tyA at ha
  rw[hu]at ha
  cases u<;>first| (cases ha;done)|simp[isAgg,underlying,program,Sem.run,hu]
 have hp:(part fd.type cs fd.offset).run P w= .ok v w:=by
  unfold part
  simp only[Sem.run_bind,hi,Result.andThen_ok,Bool.false_eq_true,if_false,hv,Sem.run_pure]
 unfold Instr.field
 simp[underlying,program,Sem.run,hs,hf,hx,asAgg]
 exact hp
end
theorem host_at{w:World}{hv:Value}{l:List zeA}(hs:Rows 6 (HostC w) w hv l):∃a c,hv= .slice a l.length c∧∀i (h:i<l.length),∃xa xi x5 nv az cz,a=some xa∧adr (some xa) (i*6)=some xi∧adr (some xi) 5=some x5∧zae w (some xi)=some nv∧Row w nv (l[i].name.map vs)∧
  zae w (some x5)=some (.slice az l[i].zones.length cz)∧(∃b1 b2 b3 b4,l[i].addr=[b1,b2,b3,b4]∧zau w (some xi) 6=some [nv,zaf b1,zaf b2,zaf b3,zaf b4,.slice az l[i].zones.length cz])∧
  ∀k (h:k<l[i].zones.length),∃xz xk ov lv,az=some xz∧adr (some xz) (k*2)=some xk∧zau w (some xk) 2=some [ov,lv]∧Row w ov (l[i].zones[k].o.map vs)∧Rows 7 (RecAt w) w lv l[i].zones[k].recs:=by
 obtain⟨a,c,rfl,_,hg⟩:=hs.open
 refine⟨a,c,rfl,fun i hi=>?_⟩
 obtain⟨cs,hcs,hS⟩:=hg i hi
 obtain⟨nv,b1,b2,b3,b4,pv,rfl,ha,hn,hp⟩:=hS.ex
 obtain⟨ap,cp,rfl,_,hgp⟩:=hp.open
 obtain⟨xa,rfl⟩:=Option.isSome_iff_exists.1 (zas hcs)
 obtain⟨xi,hxi⟩:∃xi,adr (some xa) (i*6)=some xi:=⟨_,rfl⟩
 obtain⟨x5,hx5⟩:∃x,adr (some xi) 5=some x:=⟨_,rfl⟩
 rw[hxi]at hcs
 have h0:=zax (j:=0) hcs rfl
 rw[zaA]at h0
 have h5:=zax (j:=5) hcs rfl
 rw[hx5]at h5
 refine⟨xa,xi,x5,nv,ap,cp,rfl,hxi,hx5,h0,hn,h5,⟨b1,b2,b3,b4,ha,hcs⟩,fun k hk=>?_⟩
 obtain⟨c2,hc2,hP⟩:=hgp k hk
 obtain⟨ov,lv,rfl,ho,hl⟩:=hP.ex
 obtain⟨xp,rfl⟩:=Option.isSome_iff_exists.1 (zas hc2)
 obtain⟨xk,hxk⟩:∃xi,adr (some xp) (k*2)=some xi:=⟨_,rfl⟩
 rw[hxk]at hc2
 exact⟨xp,xk,ov,lv,rfl,hxk,hc2,ho,hl⟩
def zhq(z:zco):zfT:=⟨z.o,[120]⟩
def srvH(h:zeA):SrvL:=⟨h.name,h.addr,h.zones.map zhq⟩
def confN(N:NetL):zg7:=⟨N.hosts.map srvH,N.roots,N.rw,N.rf⟩
def NumN(N:NetL):Prop:=∀h∈N.hosts,∀z∈h.zones,NumR z.recs
structure za3(N:NetL):Prop where
 z:NetZ N
 h1:1≤N.hosts.length∧N.hosts.length≤6
 r1:1≤N.roots.length∧N.roots.length≤4
 rin:∀r∈N.roots,0≤r∧r<(N.hosts.length:Int)
 w:0≤N.rw∧N.rw≤4
 f:0≤N.rf∧N.rf≤6
 zl:∀h∈N.hosts,h.zones.length≤4
 sh:∀h∈N.hosts,Sh h.name
theorem RecAt.up{w x:World}{v:Value}{R:List RecL}(h:Rows 7 (RecAt w) x v R)(hE:Ext w x):Rows 7 (RecAt x) x v R:=h.to fun _ _ h=>h.ext hE
theorem zml(w:World){cs:List Value}{N:NetL}(hN:NetAt w cs N)(hv:NumN N):
  Fn Tryz.prog 16 #[.agg cs.toArray] w (fun v w'=>Ext w w'∧∃t,v= .bool t∧(t=true→za3 N)):=by
 obtain⟨hsv,rv,rfl,hs,hr⟩:=hN.ex
 obtain⟨aS,cS,rfl,hat⟩:=host_at hs
 have hr0:=hr
 have r1:=hr.isOne
 obtain⟨ar,cr,hrv,_,hgr⟩:=hr
 rw[List.length_map]at hrv
 refine enter Tryz.func16 Tryz.ntmps16 rfl rfl ?_
 repeat refine c_r ?_
 rw[hrv]
 refine rg0 ?_
 rw[←hrv]
 repeat refine c_r ?_
 refine zaB ?_
 intro w1 hE1 hs1 hA
 have p0:zae w1 (some ⟨w.heap.size,0,Option.none⟩)=some (.slice aS N.hosts.length cS):=zab hA rfl
 have p1:zae w1 (some ⟨w.heap.size,1,Option.none⟩)=some rv:=zab hA rfl
 have p2:zae w1 (some ⟨w.heap.size,2,Option.none⟩)=some (vi N.rw):=zab hA rfl
 have p3:zae w1 (some ⟨w.heap.size,3,Option.none⟩)=some (vi N.rf):=zab hA rfl
 rw[hrv]at p1
 repeat refine c_r ?_
 refine zay (Q:=fun e σ' ds' v'=>e= .normal∧ds'=[]∧v'=w1∧σ' 1= .pointer (some ⟨w.heap.size,0,Option.none⟩)∧∃t,σ' 51= .bool t∧(t=false→(1≤N.hosts.length∧N.hosts.length≤6)∧(1≤N.roots.length∧N.roots.length≤4)∧(0≤N.rw∧N.rw≤4)∧0≤N.rf∧N.rf≤6)) ?_ ?_
 ·by_cases e0:(N.hosts.length:Int)<1
  ·refine rgg [(4,14),(10,20),(16,26),(22,32),(27,37),(32,42),(37,47)] (an3 p0 Nat.add_zero (decide_eq_true e0)) ?_
   exact⟨rfl,rfl,rfl,vq0,_,vr0,fun h=>by cases h⟩
  by_cases e1:(N.hosts.length:Int)>6
  ·refine rgg [(4,14),(10,20),(16,26),(22,32),(27,37),(32,42),(37,47)] (an4 p0 Nat.add_zero (decide_eq_false e0) (decide_eq_true e1)) ?_
   exact⟨rfl,rfl,rfl,vq0,_,vr0,fun h=>by cases h⟩
  by_cases e2:(N.roots.length:Int)<1
  ·refine rgg [(4,14),(10,20),(16,26),(22,32),(27,37),(32,42),(37,47)] (an7 p0 Nat.add_zero (decide_eq_false e0) (decide_eq_false e1) p1 Nat.zero_add (decide_eq_true e2)) ?_
   exact⟨rfl,rfl,rfl,vq0,_,vr0,fun h=>by cases h⟩
  by_cases e3:(N.roots.length:Int)>4
  ·refine rgg [(4,14),(10,20),(16,26),(22,32),(27,37),(32,42),(37,47)] (an8 p0 Nat.add_zero (decide_eq_false e0) (decide_eq_false e1) p1 Nat.zero_add (decide_eq_false e2) (decide_eq_true e3)) ?_
   exact⟨rfl,rfl,rfl,vq0,_,vr0,fun h=>by cases h⟩
  by_cases e4:N.rw<0
  ·refine rgg [(4,14),(10,20),(16,26),(22,32),(27,37),(32,42),(37,47)] (an3 (an8 p0 Nat.add_zero (decide_eq_false e0) (decide_eq_false e1) p1 Nat.zero_add (decide_eq_false e2) (decide_eq_false e3)) p2 (decide_eq_true e4)) ?_
   exact⟨rfl,rfl,rfl,vq0,_,vr0,fun h=>by cases h⟩
  by_cases e5:N.rw>4
  ·refine rgg [(4,14),(10,20),(16,26),(22,32),(27,37),(32,42),(37,47)] (an4 (an8 p0 Nat.add_zero (decide_eq_false e0) (decide_eq_false e1) p1 Nat.zero_add (decide_eq_false e2) (decide_eq_false e3)) p2 (decide_eq_false e4) (decide_eq_true e5)) ?_
   exact⟨rfl,rfl,rfl,vq0,_,vr0,fun h=>by cases h⟩
  by_cases e6:N.rf<0
  ·refine rgg [(4,14),(10,20),(16,26),(22,32),(27,37),(32,42),(37,47)] (an6 (an8 p0 Nat.add_zero (decide_eq_false e0) (decide_eq_false e1) p1 Nat.zero_add (decide_eq_false e2) (decide_eq_false e3)) p2 (decide_eq_false e4) (decide_eq_false e5) p3 (decide_eq_true e6)) ?_
   exact⟨rfl,rfl,rfl,vq0,_,vr0,fun h=>by cases h⟩
  refine rgg [(4,14),(10,20),(16,26),(22,32),(27,37),(32,42),(37,47)] (an6 (an8 p0 Nat.add_zero (decide_eq_false e0) (decide_eq_false e1) p1 Nat.zero_add (decide_eq_false e2) (decide_eq_false e3)) p2 (decide_eq_false e4) (decide_eq_false e5) p3 (decide_eq_false e6)) ?_
  refine⟨rfl,rfl,rfl,vq0,_,vr0,fun h=>?_⟩
  simp only[decide_eq_false_iff_not]at h
  omega
 rintro _ σ1 _ w2 ⟨rfl,rfl,rfl,s1,t,s51,ht⟩
 repeat refine c_r ?_
 cases t with
 |true=>
  refine wt s51 ?_
  repeat (first|refine c_r ?_|refine rg0 ?_)
  refine rt0 Tryz.ntmps16 ?_
  exact⟨hE1,_,rfl,fun h=>by cases h⟩
 |false=>
 refine wf s51 ?_
 obtain⟨k1,k2,k3,k4⟩:=ht rfl
 clear ht s51
 repeat refine c_r ?_
 refine rq ?_;intro gd K hgd hK
 try simp (disch:=first|omega|assumption|rfl) only[go_sem,s1,p1,p2,p3,Nat.zero_add]
 refine⟨by kernel_rfl,?_⟩
 rw[show bdV Tryz.prog 112 [(1,.slice ar N.roots.length cr),(2,vi N.rw),(3,vi N.rf)]=some (.agg #[.slice Option.none 0 0,.slice ar N.roots.length cr,vi N.rw,vi N.rf]) from by kernel_rfl,←hrv]
 try simp only[go_sem]
 refine za0 (P:=Tryz.prog) (l:=[.slice Option.none 0 0,rv,vi N.rw,vi N.rf]) rfl (fun v hv=>by simp at hv;rcases hv with rfl|rfl|rfl|rfl<;>first|exact r1|rfl) rfl rfl ?_
 intro w3 hE2 hs2 hD
 try simp only[go_sem]
 refine hK _ _ ?_;clear hK hgd;clear K;try clear gd
 obtain⟨c3,hc3⟩:∃b,w2.heap.size=b:=⟨_,rfl⟩
 rw[hc3]at hD hs2 ⊢
 repeat refine c_r ?_
 refine rg0 ?_
 repeat refine c_r ?_
 refine zam (fun m σ ds A=>ds=[]∧∃(i:Nat) (ov:Value) (G:List (SrvL×(Value×List Value))),i+m=N.hosts.length∧σ 4=vi i∧σ 1= .pointer (some ⟨w.heap.size,0,Option.none⟩)∧σ 3= .pointer (some ⟨c3,0,Option.none⟩)∧Ext w2 A∧c3+1≤A.heap.size∧
  A.heap[c3]? =some (.cells #[ov,rv,vi N.rw,vi N.rf] 112 (0,0))∧GS w 119 (c3+1) A ov G∧G.map Prod.fst=(N.hosts.take i).map srvH∧∀j (h:j<N.hosts.length),j<i→N.hosts[j].zones.length≤4∧∀z∈N.hosts[j].zones,GoodZ z) N.hosts.length ?_ ?_
 ·exact⟨rfl,0,.slice Option.none 0 0,[],by omega,vr0,(vq1 s1),vq0,hE2,by omega,hD,⟨Owns.nil _ _ _ _ _,fun x h=>by cases h⟩,rfl,fun j h h2=>absurd h2 (by omega)⟩
 clear s1
 rintro m σ ds A ⟨rfl,i,ov,G,him,s4,s1,s3,hEA,hAs,hB3,hGS,hGf,hgood⟩
 have p0A:=zaa hEA p0
 repeat refine c_r ?_
 refine rg4 s4 s1 p0A Nat.add_zero ?_
 repeat refine c_r ?_
 refine wc0 ?_ ?_
 ·intro hlt
  simp only[decide_eq_true_eq]at hlt
  have hi:i<N.hosts.length:=by omega
  have hi0:(0:Int)≤(i:Int):=by omega
  have hi1':(i:Int)+1=((i+1:Nat):Int):=by push_cast;rfl
  obtain⟨xa,xi,x5,nv,az,cz,rfl,hxi,hx5,g0,hn,g5,⟨b1,b2,b3,b4,hadr,hcs⟩,hpl⟩:=hat i hi
  have hvi:=hv _ (List.getElem_mem hi)
  obtain⟨s,hse⟩:∃s,N.hosts[i]=s:=⟨_,rfl⟩
  rw[hse]at hn g5 hadr hcs hvi
  simp only[hse]at hpl
  have n1:=hn.isOne
  have hz0:adr (some xi) 0=some xi:=zaA _
  obtain⟨y1,hy1⟩:∃y,adr (some xi) 1=some y:=⟨_,rfl⟩
  have gby:zau w (some y1) 4=some [zaf b1,zaf b2,zaf b3,zaf b4]:=by
   have h5:=za8 (m:=1) (k:=5) hcs
   rw[hy1]at h5
   exact zcw (m:=4) (k:=1) h5
  obtain⟨an,cn,hnv,_⟩:=id hn
  repeat refine c_r ?_
  refine zaJ (fun i=>i==14) [(0,true),(1,true),(2,true),(3,true),(4,true),(5,true),(6,true),(7,true),(8,true),(9,true),(10,true),(11,true),(12,true),(13,false),(14,false)] NoS mixed (by kernel_rfl) ?_;intro gd K x hgd hx hxe hK;clear hxe
  have hwx:=hE1.trans (hEA.trans hx)
  have p0x:=zaa hx p0A
  have g0x:=zaa hwx g0
  have gbx:=zad hwx gby
  simp (disch:=first|omega|assumption|rfl) only[go_sem,s4,s1,p0x,Nat.add_zero,hi0,hlt,hxi,hz0,hy1,g0x,gbx]
  refine⟨by kernel_rfl,?_⟩
  rw[hnv,show bdV Tryz.prog 119 [(0,.slice an (s.name.map vs).length cn),(1,.agg #[zaf b1,zaf b2,zaf b3,zaf b4])]=some (.agg #[.slice an (s.name.map vs).length cn,zaf b1,zaf b2,zaf b3,zaf b4,.slice Option.none 0 0]) from by kernel_rfl,←hnv]
  simp (disch:=first|omega|assumption|rfl) only[go_sem]
  refine⟨.inr (Ext.alloc x _),?_⟩
  refine za0 (P:=Tryz.prog) (l:=[nv,zaf b1,zaf b2,zaf b3,zaf b4,.slice Option.none 0 0]) rfl (fun v hv=>by simp at hv;rcases hv with rfl|rfl|rfl|rfl|rfl|rfl<;>first|exact n1|rfl) rfl rfl ?_
  intro A1 hE3 hs3 hB5
  refine⟨.inl rfl,?_⟩
  simp (disch:=first|omega|assumption|rfl) only[go_sem]
  refine hK _ _ ?_;clear hK hgd;clear K;try clear gd
  have hx3:=hx.trans hE3
  obtain⟨b5,hb5⟩:∃b,x.heap.size=b:=⟨_,rfl⟩
  have hsx:=hx.size
  rw[hb5]at hB5 hs3 hsx ⊢
  have hIP:IP w 119 131 b5 nv b1 b2 b3 b4 A A1 (.slice Option.none 0 0) []:=⟨hB5,Owns.nil _ _ _ _ _,hx3,hsx⟩
  have p01:=zaa hx3 p0A
  have g51:=zaa (hE1.trans (hEA.trans hx3)) g5
  clear p0x g0x gbx hx hwx hE3 hB5
  repeat refine c_r ?_
  by_cases h4:(s.zones.length:Int)>4
  ·refine rg9 s4 s1 p01 Nat.add_zero hi0 hlt hxi hx5 (an2 g51 (decide_eq_true h4)) ?_
   repeat refine c_r ?_
   refine wt trivial ?_
   repeat (first|refine c_r ?_|refine rg0 ?_)
   refine rt0 Tryz.ntmps16 ?_
   exact⟨hE1.trans (hEA.trans hx3),_,rfl,fun h=>by cases h⟩
  refine rg9 s4 s1 p01 Nat.add_zero hi0 hlt hxi hx5 (an2 g51 (decide_eq_false h4)) ?_
  repeat refine c_r ?_
  refine wf trivial ?_
  clear p01 g51 hx3
  repeat refine c_r ?_
  refine rg0 ?_
  repeat refine c_r ?_
  refine zam (fun m σ ds v=>ds=[]∧∃(k:Nat) (pv:Value),k+m=s.zones.length∧σ 6=vi k∧σ 4=vi i∧σ 1= .pointer (some ⟨w.heap.size,0,Option.none⟩)∧σ 3= .pointer (some ⟨c3,0,Option.none⟩)∧σ 5= .pointer (some ⟨b5,0,Option.none⟩)∧
   IP w 119 131 b5 nv b1 b2 b3 b4 A v pv ((s.zones.take k).map zhq)∧b5+1≤v.heap.size∧∀j (h:j<s.zones.length),j<k→GoodZ s.zones[j]) s.zones.length ?_ ?_
  ·exact⟨rfl,0,_,by omega,vr0,(vq1 s4),(vq1 s1),(vq1 s3),vq0,hIP,by omega,fun j h h2=>absurd h2 (by omega)⟩
  clear s4 s1 s3 hIP
  rintro m2 σ2 ds2 v ⟨rfl,k,pv,hkm,s6,s4,s1,s3,s5,hIP,hvs,hgz⟩
  have hEv:=hEA.trans hIP.e
  have hwv:=hE1.trans hEv
  have p0v:=zaa hEv p0
  have g5v:=zaa hwv g5
  repeat refine c_r ?_
  refine rg9 s6 s4 s1 (an3 p0v Nat.add_zero g5v) hi0 hlt hxi hx5 trivial ?_
  repeat refine c_r ?_
  refine wc0 ?_ ?_
  ·intro hlt2
   simp only[decide_eq_true_eq]at hlt2
   have hk:k<s.zones.length:=by omega
   have hk0:(0:Int)≤(k:Int):=by omega
   have hk1':(k:Int)+1=((k+1:Nat):Int):=by push_cast;rfl
   obtain⟨xp,xk,ow,lv,rfl,hxk,dz,ho,hl⟩:=hpl k hk
   obtain⟨z,hze⟩:∃z,s.zones[k]=z:=⟨_,rfl⟩
   have hnz:=hvi _ (List.getElem_mem hk)
   rw[hze]at ho hl hnz
   have o1:=ho.isOne
   have l1:=hl.isOne
   have dzv:=zad hwv dz
   repeat refine c_r ?_
   refine rq ?_;intro gd K hgd hK
   try simp (disch:=first|omega|assumption|rfl) only[go_sem,s6,s4,s1,p0v,Nat.add_zero,g5v,hi0,hlt,hxi,hx5,hk0,hlt2,hxk,dzv]
   refine za0 (P:=Tryz.prog) (l:=[ow,lv]) rfl (zem o1 l1) rfl rfl ?_
   intro v1 hE4 hs4' hB7
   try simp only[go_sem]
   refine hK _ _ ?_;clear hK hgd;clear K;try clear gd
   obtain⟨b7,hb7⟩:∃b,v.heap.size=b:=⟨_,rfl⟩
   rw[hb7]at hB7 hs4' ⊢
   have hwv1:=hwv.trans hE4
   have e0:zae v1 (some ⟨b7,0,Option.none⟩)=some ow:=zab hB7 rfl
   have e1:zae v1 (some ⟨b7,1,Option.none⟩)=some lv:=zab hB7 rfl
   obtain⟨al,cl,hlv,_⟩:=hl.open
   repeat refine c_r ?_
   refine zay (Q:=fun e σ' ds' v'=>e= .normal∧ds'=[]∧σ' 6=vi k∧σ' 4=vi i∧σ' 1= .pointer (some ⟨w.heap.size,0,Option.none⟩)∧σ' 3= .pointer (some ⟨c3,0,Option.none⟩)∧σ' 5= .pointer (some ⟨b5,0,Option.none⟩)∧σ' 7= .pointer (some ⟨b7,0,Option.none⟩)∧Ext v1 v'∧∃t,σ' 132= .bool t∧(t=false→GoodZ z)) ?_ ?_
   ·refine zaJ (fun _=>false) [(0,true),(1,true),(2,true),(3,true),(4,false),(5,true),(6,true),(7,true),(8,true),(9,true),(10,true),(11,true),(12,true),(13,true),(14,true),(16,true),(17,true),(18,true),(19,true),(15,false),(20,false),(21,false),(22,false),(23,false),(24,true),(25,true)] NoS mixed (by kernel_rfl) ?_;intro gd K x hgd hx hxe hK;clear hxe
    have hg6:∀n σ b,zav gd n σ (some (6,b))=zak (ev n σ (.tmp 113)) b:=(fun n σ b=>by rw[zac,show gd 6=some 113 from(by rw[hgd];rfl)];rfl);have hg12:∀n σ b,zav gd n σ (some (12,b))=zak (ev n σ (.tmp 119)) b:=(fun n σ b=>by rw[zac,show gd 12=some 119 from(by rw[hgd];rfl)];rfl)
    have e0x:=zaa hx e0
    have e1x:=zaa hx e1
    have hwx:=hwv1.trans hx
    simp (disch:=first|omega|assumption|rfl) only[go_sem,e0x,e1x,Nat.add_zero,Nat.zero_add]
    refine Fn.mono (ZGood_ok hwx (ho.ext hwx) (hl.ext hwx)) ?_
    rintro _ y1 ⟨hy1,b,rfl,hb⟩
    refine⟨.inr hy1,?_⟩
    cases b with
    |false=>
     simp (disch:=first|omega|assumption|rfl) only[go_sem,Bool.not_false,zcx,↓hg6,↓hg12]
     refine hK _ _ ?_;clear hK hgd;clear K;try clear gd
     exact⟨rfl,rfl,(vq1 s6),(vq1 s4),(vq1 s1),(vq1 s3),(vq1 s5),vq0,hx.trans hy1,_,vr0,fun h=>by cases h⟩
    |true=>
    obtain⟨go,gR⟩:=hb rfl
    have hrok:=zgO gR hnz
    have hRl:=gR.len
    have e1y:=zaa hy1 e1x
    rw[hlv]at e1y
    by_cases h20:(z.recs.length:Int)>20
    ·simp (disch:=first|omega|assumption|rfl) only[go_sem,Bool.not_true,zcx,e1y,Nat.zero_add,decide_eq_true h20,↓hg6,↓hg12]
     refine hK _ _ ?_;clear hK hgd;clear K;try clear gd
     exact⟨rfl,rfl,(vq1 s6),(vq1 s4),(vq1 s1),(vq1 s3),(vq1 s5),vq0,hx.trans hy1,_,vr0,fun h=>by cases h⟩
    have e0y1:=zaa hy1 e0x
    simp (disch:=first|omega|assumption|rfl) only[go_sem,Bool.not_true,zcx,e1y,e0y1,Nat.zero_add,Nat.add_zero,decide_eq_false h20,↓hg6,↓hg12]
    rw[←hlv]
    have hwy1:=hwx.trans hy1
    refine Fn.mono (zjw hwy1 (hl.ext hwy1) (fun r hr=>(gR.few r hr).2.nn) (by omega)) ?_
    rintro l1v y2 ⟨hy2,hl2⟩
    refine⟨.inr hy2,?_⟩
    have hwy2:=hwy1.trans hy2
    have e0y:=zaa (hy1.trans hy2) e0x
    have e1y2:=zaa (hy1.trans hy2) e1x
    simp (disch:=first|omega|assumption|rfl) only[go_sem,e0y,e1y2,Nat.add_zero,Nat.zero_add,zcx,↓hg6,↓hg12]
    refine Fn.mono (zjw hwy2 (hl.ext hwy2) (fun r hr=>(gR.few r hr).2.nn) (by omega)) ?_
    rintro l2v y3 ⟨hy3,hl3⟩
    refine⟨.inr hy3,?_⟩
    have hwy3:=hwy2.trans hy3
    simp (disch:=first|omega|assumption|rfl) only[go_sem,zcx,↓hg6,↓hg12]
    refine Fn.mono (RZNew_ok (Keep.refl _ y3) (ho.ext hwy3) hl3 hrok (by omega)) ?_
    rintro _ y4 ⟨hy4,cv,rfl,hcv⟩
    refine⟨.inr hy4,?_⟩
    have hl4:Rows 7 (RecAt y4) y4 l1v z.recs:=Rows.extC (fun _ _ h=>RecAt.ext h (hy3.trans hy4)) hl2 (hy3.trans hy4)
    have hcv4:=RecAt.up hcv hy4
    simp (disch:=first|omega|assumption|rfl) only[go_sem,zcx,↓hg6,↓hg12]
    refine op_field (P:=Tryz.prog) (v:=cv) rfl rfl rfl rfl (vr0) rfl ?_
    refine⟨.inr (Keep.refl _ _),?_⟩
    refine Fn.mono (Is5_ok y4 hl4 hcv4 (fun r hr=>⟨(hrok r hr).len,(hrok r hr).dat.n⟩) (by omega)) ?_
    rintro _ y5 ⟨hy5,t,rfl,ht⟩
    refine⟨.inr hy5,?_⟩
    simp (disch:=first|omega|assumption|rfl) only[go_sem,zcx,↓hg6,↓hg12]
    refine hK _ _ ?_;clear hK hgd;clear K;try clear gd
    refine⟨rfl,rfl,(vq1 s6),(vq1 s4),(vq1 s1),(vq1 s3),(vq1 s5),vq0,((((hx.trans hy1).trans hy2).trans hy3).trans hy4).trans hy5,_,vr0,fun h=>⟨go,gR,hnz,(ht ?_).symm⟩⟩
    simpa using h
   clear s6 s4 s1 s3 s5
   rintro _ σ3 _ v2 ⟨rfl,rfl,s6,s4,s1,s3,s5,s7,hE5,t,s132,hzt⟩
   repeat refine c_r ?_
   cases t with
   |true=>
    refine wt s132 ?_
    repeat (first|refine c_r ?_|refine rg0 ?_)
    refine rt0 Tryz.ntmps16 ?_
    exact⟨hwv1.trans hE5,_,rfl,fun h=>by cases h⟩
   |false=>
   refine wf s132 ?_
   have hgzk:=hzt rfl
   clear s132 hzt
   have hE45:=hE4.trans hE5
   have hIP2:=hIP.h
   have hB52:=Ext.at hE45 hIP.h
   have q5:zae v2 (some ⟨b5,5,Option.none⟩)=some pv:=zab hB52 rfl
   have e02:=zaa hE5 e0
   have lo:=hIP.lo
   have hsz2:=hE45.size
   obtain⟨ao,co,how,_⟩:=id ho
   repeat refine c_r ?_
   refine rq ?_;intro gd K hgd hK
   try simp (disch:=first|omega|assumption|rfl) only[go_sem,s5,s7,q5,e02,Nat.add_zero,Nat.zero_add]
   refine⟨by kernel_rfl,?_⟩
   rw[how,show bdV Tryz.prog 131 [(0,.slice ao (z.o.map vs).length co),(1,vs [120])]=some (.agg #[.slice ao (z.o.map vs).length co,vs [120]]) from by kernel_rfl,←how]
   try simp only[go_sem]
   refine zbg (zcG w) (l:=[ow,vs [120]]) (a:=zhq z) (by rfl) (by rfl) (by rfl) (by rfl) ⟨ow,rfl,ho⟩ (by decide) ?_
   intro v3 hE6 hs6' ho6
   try simp only[go_sem]
   have hx04:=hE45.trans hE6
   have hsz4:=hx04.size
   refine zaV (zcG w) (hIP.own.ext hx04) ho6.rows (by rfl) (by rfl) (by rfl) (by rfl) (by rfl) (by rfl) (by decide) (vr0) (vr0) (by simp;omega) (by decide) (by omega) ?_
   intro pv' v4 ho7 hE7 hk7 hb7'
   obtain⟨ap',cp',hpv',_⟩:=ho7.rows.open
   try simp (disch:=first|omega|assumption|rfl) only[go_sem,s5,Nat.zero_add]
   refine zaY (P:=Tryz.prog) (t:=117) (j:=5) (u:=pv') (l:=[nv,zaf b1,zaf b2,zaf b3,zaf b4,pv]) ((hk7.block _ (by omega) (fun hb=>by have:=(hIP.own.ge hb).1;omega)).trans (Ext.at hx04 hIP.h)) (by simp) (by rw[hpv'];rfl) rfl rfl ?_
   intro v5 hs5' hB5' hk5'
   try simp only[go_sem]
   refine hK _ _ ?_;clear hK hgd;clear K;try clear gd
   have hIPn:=hIP.app hx04 ho7 hk7 hB5' hk5'
   have hs7:=hk7.size
   repeat refine c_r ?_
   refine rg2 s6 hk1' ?_
   repeat refine c_r ?_
   refine⟨m2 - 1,by omega,rfl,k+1,pv',by omega,vq0,(vq1 s4),(vq1 s1),(vq1 s3),(vq1 s5),?_,by omega,fun j hj hjk=>?_⟩
   ·rw[zao hk,List.map_append,hze];exact hIPn
   ·by_cases hj2:j=k
    ·subst hj2;rw[hze];exact hgzk
    ·exact hgz j hj (by omega)
  ·intro hge2
   simp only[decide_eq_false_iff_not]at hge2
   have hfull:(s.zones.take k).map zhq=s.zones.map zhq:=by rw[List.take_of_length_le (by omega)]
   rw[hfull]at hIP
   obtain⟨ap',cp',hpv',_⟩:=hIP.own.rows.open
   have lo:=hIP.lo
   have dB:zau v (some ⟨b5,0,Option.none⟩) 6=some [nv,zaf b1,zaf b2,zaf b3,zaf b4,pv]:=zah hIP.h rfl
   have q3:zae v (some ⟨c3,0,Option.none⟩)=some ov:=zab (Ext.at hIP.e hB3) rfl
   have ones6:∀q∈ [nv,zaf b1,zaf b2,zaf b3,zaf b4,pv],one q=true:=fun q hq=>by
    simp at hq
    rcases hq with rfl|rfl|rfl|rfl|rfl|rfl<;>first|exact n1|rfl| (rw[hpv'];rfl)
   have hGl:G.length=i:=by
    have:=congrArg List.length hGf
    simp at this;omega
   repeat refine c_r ?_
   refine rq ?_;intro gd K hgd hK
   try simp (disch:=first|omega|assumption|rfl) only[go_sem,s3,s5,q3,dB,Nat.add_zero]
   refine zbg (C:=gxC) ze1 (l:=[nv,zaf b1,zaf b2,zaf b3,zaf b4,pv]) (a:=(srvH s,(pv,[nv,zaf b1,zaf b2,zaf b3,zaf b4,pv]))) (by rfl) (by rfl) (by rfl) (by rfl) ⟨rfl,rfl,ones6⟩ (by decide) ?_
   intro v1 hE4 hs4' ho4
   try simp only[go_sem]
   have hAv1:=hIP.e.trans hE4
   have hsA1:=hAv1.size
   refine zaV ze1 ((hGS.ext hAv1).own) ho4.rows (by rfl) (by rfl) (by rfl) (by rfl) (by rfl) (by rfl) (by decide) (vr0) (vr0) (by simp;omega) (by decide) (by omega) ?_
   intro ov' v2 ho5 hE5 hk5 hb5'
   obtain⟨ao',co',hov',_⟩:=ho5.rows.open
   try simp (disch:=first|omega|assumption|rfl) only[go_sem,s3,Nat.add_zero]
   refine zaY (P:=Tryz.prog) (t:=110) (j:=0) (u:=ov') (l:=[ov,rv,vi N.rw,vi N.rf]) ((hk5.block _ (by omega) (fun hb=>by have:=(hGS.own.ge hb).1;omega)).trans (Ext.at hAv1 hB3)) (by simp) (by rw[hov'];rfl) rfl rfl ?_
   intro v3 hs3' hB3' hk3'
   try simp only[go_sem]
   refine hK _ _ ?_;clear hK hgd;clear K;try clear gd
   have hGS2:=hGS.app hAv1 hAs (x:=(srvH s,(pv,[nv,zaf b1,zaf b2,zaf b3,zaf b4,pv]))) ⟨nv,b1,b2,b3,b4,rfl,hadr,hn,hIP.own.rows.ext hE4⟩ ((hIP.own.blk.mono (by omega)).ext hE4.size) ho5 hk5 hb5'
   have hGS3:=hGS2.keep hk3' (fun b h1 _ h2=>by omega)
   have hs5:=hk5.size
   repeat refine c_r ?_
   refine rg2 s4 hi1' ?_
   repeat refine c_r ?_
   refine⟨m - 1,by omega,rfl,i+1,ov',_,by omega,vq0,(vq1 s1),(vq1 s3),Keep.to_ext (hE5 w2 (hEA.trans hAv1) (by omega)) rfl (fun b hb=>by omega) hk3',by omega,hB3',hGS3,?_,fun j hj hji=>?_⟩
   ·rw[zao hi,List.map_append,List.map_append,hGf,hse];rfl
   ·by_cases hj2:j=i
    ·subst hj2
     rw[hse]
     refine⟨by omega,fun z hz=>?_⟩
     obtain⟨k2,hk2,rfl⟩:=List.mem_iff_getElem.1 hz
     exact hgz k2 hk2 (by omega)
    ·exact hgood j hj (by omega)
 ·intro hge
  simp only[decide_eq_false_iff_not]at hge
  rw[List.take_of_length_le (by omega)]at hGf
  have hEw:=hE1.trans hEA
  have hrows:=hGS.rows hEw
  rw[hGf]at hrows
  have o1:=hrows.isOne
  have dx:=zah (n:=4) (l:=[ov,rv,vi N.rw,vi N.rf]) hB3 rfl
  have hcf:ConfAt A [ov,rv,vi N.rw,vi N.rf] (confN N):=⟨ov,rv,rfl,hrows,hr0.ext hEw⟩
  repeat refine c_r ?_
  refine rc (an2 s3 dx) (Few15_ok A hcf) ?_
  rintro _ A1 ⟨hE3,t,rfl,hfew⟩
  refine re trivial ?_
  repeat refine c_r ?_
  cases t with
  |false=>
   refine wt Bool.not_false ?_
   repeat (first|refine c_r ?_|refine rg0 ?_)
   refine rt0 Tryz.ntmps16 ?_
   exact⟨hEw.trans hE3,_,rfl,fun h=>by cases h⟩
  |true=>
  refine wf Bool.not_true ?_
  have hf:=hfew rfl
  have dx1:=zad hE3 dx
  repeat refine c_r ?_
  refine rc (an2 s3 dx1) (Of15_ok A1 (hcf.ext hE3) hf) ?_
  rintro _ A2 ⟨hE4,cs',rfl,hcf2⟩
  refine rd trivial (zig A2 hcf2 hf) ?_
  rintro _ A3 ⟨hE5,a,e,rfl,he⟩
  refine re trivial ?_
  repeat refine c_r ?_
  refine rg0 ?_
  repeat refine c_r ?_
  refine rt0 Tryz.ntmps16 ?_
  refine⟨hEw.trans (hE3.trans (hE4.trans hE5)),_,rfl,fun h=>?_⟩
  have hro:=he (by simpa using h)
  have hgj:∀h∈N.hosts,h.zones.length≤4∧∀z∈h.zones,GoodZ z:=fun h hh=>by
   obtain⟨j,hj,rfl⟩:=List.mem_iff_getElem.1 hh
   exact hgood j hj (by omega)
  refine⟨⟨by omega,fun h hh=>(hf.s (srvH h) (List.mem_map_of_mem hh)).1.m,fun h hh=>by have:=(hgj h hh).1;omega,fun h hh=>(hgj h hh).2,by omega⟩,k1,k2,fun r hr=>?_,k3,k4,fun h hh=>(hgj h hh).1,fun h hh=>(hf.s (srvH h) (List.mem_map_of_mem hh)).1⟩
  have:=hro.inn r hr
  rw[show (confN N).servers.length=N.hosts.length from List.length_map _]at this
  exact this
structure GoodSt(N:NetL)(s:zal):Prop where
 s0:0≤s.sv
 s1:s.sv<(N.hosts.length:Int)
 nm:zbL s.name=true
 w0:0≤s.rw
 w1:s.rw≤N.rw
 f0:0≤s.rf
 f1:s.rf≤N.rf
 e0:0≤s.fin
 e1:s.fin≤9
theorem zkr:∀{n:Nm},(∀l∈n,l≠ [])→2*n.length≤(n.map fun l=>1+l.length).sum
 | [],_=>by simp
 |l::n,h=>by
  have h1:=List.length_pos_iff.2 (h l (List.mem_cons_self ..))
  have h2:=zkr (n:=n) fun m hm=>h m (List.mem_cons_of_mem _ hm)
  rw[List.map_cons,List.sum_cons,List.length_cons];omega
theorem ziF{n:Nm}(h:zaD n=0):n.length≤127:=by
 have hl:=zbh h
 have h2:=zkr fun l hm=>(hl l hm).1
 unfold zaD at h
 cases hf:n.find? (fun l=>decide (errL l≠0)) with
 |some x=>
  rw[hf]at h
  have h1:=List.find?_some hf
  simp at h1
  exact absurd h h1
 |none=>
  rw[hf]at h
  dsimp only at h
  split at h
  ·cases h
  ·rename_i h3
   unfold lenN at h3
   omega
theorem zf8{n:Nm}(h:zaD n=0):zbL n=true:=by
 unfold zbL
 rw[Bool.and_eq_true,decide_eq_true_eq]
 refine⟨?_,h⟩
 have h1:=zbh h
 have h2:=ziF h
 unfold few
 simp only[Bool.and_eq_true,decide_eq_true_eq,List.all_eq_true]
 refine⟨by omega,fun l hl=>by have:=(h1 l hl).2;omega⟩
theorem GoodSt.b{N:NetL}{s:zal}(h:GoodSt N s)(hN:za3 N):StB s:=⟨(zb0 h.nm).m,h.w0,by have:=h.w1;have:=hN.w.2;omega,h.f0,by have:=h.f1;have:=hN.f.2;omega⟩
structure zme(N:NetL)(s x:zal):Prop where
 g:GoodSt N x
 w:s.rw≤x.rw
 f:s.rf≤x.rf
 m1:x.rw - s.rw+x.rf - s.rf≤1
 go:x.fin=0→x.rw - s.rw+x.rf - s.rf=1
theorem zhT{N:NetL}{s s0 x:zal}{k:Int}(hs:GoodSt N s)(hk:1≤k∧k≤9)(hw:s0.rw=s.rw)(hf:s0.rf≤s.rf∧s.rf≤s0.rf+1)(hx:x∈endS s k):zme N s0 x:=by
 rw[List.mem_singleton.1 hx]
 exact⟨⟨hs.s0,hs.s1,hs.nm,hs.w0,hs.w1,hs.f0,hs.f1,by dsimp only;omega,hk.2⟩,by dsimp only;omega,by dsimp only;omega,by dsimp only;omega,fun h=>by dsimp only at h;omega⟩
theorem zi4{α:Type}{p:α→Bool}:∀{l:List α} {i:Nat} {k:Int},k∈zcY p i l→(i:Int)≤k∧k<(i:Int)+(l.length:Int)
 | [],i,k,h=>by cases h
 |a::l,i,k,h=>by
  unfold zcY at h
  rcases List.mem_append.1 h with h|h
  ·split at h
   ·rw[List.mem_singleton.1 h,List.length_cons];omega
   ·cases h
  ·have:=zi4 h
   rw[List.length_cons];omega
theorem aliasS_F{N:NetL}{s x:zal}{to:Nm}(hN:za3 N)(hs:GoodSt N s)(h0:s.fin=0)(ht:zaD to=0)(hx:x∈zdE N s to):zme N s x:=by
 unfold zdE at hx
 split at hx
 ·exact zhT hs (by omega) rfl (by omega) hx
 rename_i hw
 have hw':s.rw<N.rw:=by omega
 have g:∀k:Int,0≤k→k<(N.hosts.length:Int)→zme N s {s with rw:=s.rw+1,name:=to,ref:=false,sv:=k}:=fun k h1 h2=>
  ⟨⟨h1,h2,zf8 ht,by have:=hs.w0;dsimp only;omega,by dsimp only;omega,hs.f0,hs.f1,hs.e0,hs.e1⟩,by dsimp only;omega,by dsimp only;omega,by dsimp only;omega,fun _=>by dsimp only;omega⟩
 split at hx
 ·rw[List.mem_singleton.1 hx]
  exact g s.sv hs.s0 hs.s1
 ·unfold zcs at hx
  obtain⟨k,hk,rfl⟩:=List.mem_map.1 hx
  have:=hN.rin k hk
  exact g k this.1 this.2
theorem referS_F{N:NetL}{s x:zal}{r:ResL}(hs:GoodSt N s)(h0:s.fin=0)(hx:x∈zdC N s r):zme N s x:=by
 unfold zdC at hx
 split at hx
 ·exact zhT hs (by omega) rfl (by omega) hx
 rename_i hw
 have hf0:=hs.f0
 have hs2:GoodSt N {s with rf:=s.rf+1}:=⟨hs.s0,hs.s1,hs.nm,hs.w0,hs.w1,by dsimp only;omega,by dsimp only;omega,hs.e0,hs.e1⟩
 obtain⟨h,_,hx⟩:=List.mem_flatMap.1 hx
 unfold zc3 at hx
 rcases List.mem_append.1 hx with hx|hx
 ·split at hx
  ·exact zhT hs2 (by omega) rfl (by dsimp only;omega) hx
  ·cases hx
 ·obtain⟨k,hk,rfl⟩:=List.mem_map.1 hx
  unfold ofR zk8 at hk
  have:=zi4 hk
  exact⟨⟨by dsimp only;omega,by dsimp only;omega,hs.nm,hs.w0,hs.w1,by dsimp only;omega,by dsimp only;omega,hs.e0,hs.e1⟩,by dsimp only;omega,by dsimp only;omega,by dsimp only;omega,fun _=>by dsimp only;omega⟩
theorem zhC{N:NetL}{s x:zal}{t:Int}(hN:za3 N)(hs:GoodSt N s)(hx:x∈zbo N s t):s.fin=0∧zme N s x:=by
 have hF:=ask_F (s:=s.sv) (t:=t) hN.z (zb0 hs.nm).m
 unfold zbo at hx
 split at hx
 ·rename_i h0
  refine⟨h0,?_⟩
  repeat first| (split at hx;(first|exact zhT hs (by omega) rfl (by omega) hx|exact aliasS_F hN hs h0 (hF.nm (by assumption)) hx|exact referS_F hs h0 hx))|exact zhT hs (by omega) rfl (by omega) hx
 ·cases hx
theorem next_ne{N:NetL}{s:zal}{t:Int}(hN:za3 N)(hs:GoodSt N s)(h0:s.fin=0):zbo N s t≠ []:=by
 have hF:=ask_F (s:=s.sv) (t:=t) hN.z (zb0 hs.nm).m
 have he:∀k:Int,endS s k≠ []:=fun k h=>by cases h
 unfold zbo
 rw[if_pos h0]
 split
 ·exact he _
 split
 ·exact he _
 split
 ·exact he _
 split
 ·exact he _
 split
 ·unfold zdE
  split
  ·exact he _
  split
  ·intro h;cases h
  ·intro h
   unfold zcs at h
   have:=List.map_eq_nil_iff.1 h
   have:=hN.r1.1
   simp_all
 split
 ·rename_i h4
  unfold zdC
  split
  ·exact he _
  ·intro h
   have hn:=hF.ld h4
   obtain⟨x,hx⟩:=List.exists_mem_of_ne_nil _ hn
   have h2:=List.flatMap_eq_nil_iff.1 h x hx
   unfold zc3 at h2
   obtain⟨h3,h5⟩:=List.append_eq_nil_iff.1 h2
   have h6:=List.map_eq_nil_iff.1 h5
   rw[h6]at h3
   cases h3
 split<;>exact he _
theorem zhc{u:Int}{ds:List DatL}:(zaw u ds).length≤ds.length:=by
 unfold zaw
 split
 ·exact List.length_filterMap_le _ _
 ·simp
theorem next_len{N:NetL}{s:zal}{t:Int}(hN:NetZ N)(ms:NmM s.name):(zbo N s t).length≤2000000:=by
 have hF:=ask_F (s:=s.sv) (t:=t) hN ms
 have he:∀k:Int,(endS s k).length≤2000000:=fun k=>by unfold endS;simp
 have h1:=hN.rl
 have h2:=hN.hl
 unfold zbo
 split
 ·repeat (split;· exact he _)
  split
  ·unfold zdE
   split
   ·exact he _
   split
   ·simp
   ·unfold zcs;rw[List.length_map];omega
  split
  ·unfold zdC
   split
   ·exact he _
   ·have h3:=zgS (fun a=>zhJ (N:=N) (r:=askN N s.sv s.name t) (s:={s with rf:=s.rf+1}) (h:=a)) (zaw 2 (askN N s.sv s.name t).data)
    have h4:=zhc (u:=2) (ds:=(askN N s.sv s.name t).data)
    have h5:=hF.dl
    have h6:(zaw 2 (askN N s.sv s.name t).data).length*(N.hosts.length+1)≤1000*1001:=Nat.mul_le_mul (by omega) (by omega)
    omega
  split<;>exact he _
 ·simp
def zcS(N:NetL)(t:Int):Nat→Nat→List MetL→List MetL
 |0,_,row=>row
 |f+1,i,row=>match row[i]? with
  |some x=>if row.length≤4096 then zcS N t f (i+1) (zba x.2 0 row (zbo N x.1 t)) else row
  |Option.none=>row
def za4(N:NetL)(q:Nm):List zal:=zcs N ⟨0,q,0,0,false,0⟩
def zcv(N:NetL)(q:Nm)(t:Int):List MetL:=zcS N t 4097 0 (zba [] 0 [] (za4 N q))
def zbu(row:List MetL)(k:Int):Option MetL:=row.find? fun x=>decide (x.1.fin=k)
def zeT(row:List MetL)(n:Nat):List (Int×List Int):=(List.range n).filterMap fun j=>(zbu row ((j+1:Nat):Int)).map fun x=>(((j+1:Nat):Int),x.2)
def zcT(row:List MetL):List (Int×List Int):=zeT row 9
theorem zew{row:List MetL}{n:Nat}:zeT row (n+1)=zeT row n++((zbu row ((n+1:Nat):Int)).map fun x=>(((n+1:Nat):Int),x.2)).toList:=by
 unfold zeT
 rw[List.range_succ,List.filterMap_append]
 congr 1
theorem zhU(row:List MetL)(n:Nat):(zeT row n).length≤n:=by
 unfold zeT
 have:=List.length_filterMap_le (fun j=>(zbu row ((j+1:Nat):Int)).map fun x=>(((j+1:Nat):Int),x.2)) (List.range n)
 rw[List.length_range]at this
 exact this
structure EndI(w:World)(P:List MetL)(E:List (Value×MetL)):Prop where
 a:∀e∈E,zbu P e.2.1.fin=some e.2∧e.2.1.fin≠0∧Row w e.1 (e.2.2.map vi)
 b:∀x∈P,x.1.fin≠0→∃e∈E,e.2.1.fin=x.1.fin
theorem EndI.ext{w x:World}{P:List MetL}{E:List (Value×MetL)}(h:EndI w P E)(hE:Ext w x):EndI x P E:=
 ⟨fun e he=>by obtain⟨h1,h2,h3⟩:=h.a e he;exact⟨h1,h2,h3.ext hE⟩,h.b⟩
theorem zdJ{P:List MetL}{X:MetL}{k:Int}:zbu (P++ [X]) k=(zbu P k).or (if X.1.fin=k then some X else Option.none):=by
 unfold zbu
 rw[List.find?_append]
 congr 1
 by_cases h:X.1.fin=k<;>simp[h]
theorem EndI.keep{w:World}{P:List MetL}{E:List (Value×MetL)}{X:MetL}(h:EndI w P E)(hx:X.1.fin=0∨∃e∈E,e.2.1.fin=X.1.fin):EndI w (P++ [X]) E:=by
 refine⟨fun e he=>?_,fun x hx' h0=>?_⟩
 ·obtain⟨h1,h2,h3⟩:=h.a e he
  exact⟨by rw[zdJ,h1];rfl,h2,h3⟩
 ·rcases List.mem_append.1 hx' with hx'|hx'
  ·exact h.b x hx' h0
  ·rw[List.mem_singleton.1 hx']at h0 ⊢
   exact hx.resolve_left h0
theorem EndI.add{w:World}{P:List MetL}{E:List (Value×MetL)}{X:MetL}{pv:Value}(h:EndI w P E)(h0:X.1.fin≠0)(hn:∀e∈E,e.2.1.fin≠X.1.fin)(hr:Row w pv (X.2.map vi)):EndI w (P++ [X]) (E++ [(pv,X)]):=by
 have hnone:zbu P X.1.fin=Option.none:=List.find?_eq_none.2 fun x hx e=>by
  have e:=of_decide_eq_true e
  obtain⟨y,hy,he⟩:=h.b x hx (by rw[e];exact h0)
  exact hn y hy (he.trans e)
 refine⟨fun e he=>?_,fun x hx' hx0=>?_⟩
 ·rcases List.mem_append.1 he with he|he
  ·obtain⟨h1,h2,h3⟩:=h.a e he
   exact⟨by rw[zdJ,h1];rfl,h2,h3⟩
  ·rw[List.mem_singleton.1 he]
   exact⟨by rw[zdJ,hnone,if_pos rfl];rfl,h0,hr⟩
 ·rcases List.mem_append.1 hx' with hx'|hx'
  ·obtain⟨e,he,h1⟩:=h.b x hx' hx0
   exact⟨e,List.mem_append_left _ he,h1⟩
  ·exact⟨(pv,X),by simp,by rw[List.mem_singleton.1 hx']⟩
theorem EndI.no{w:World}{P:List MetL}{E:List (Value×MetL)}{k:Int}(h:EndI w P E)(hk:k≠0)(hn:∀e∈E,e.2.1.fin≠k):zbu P k=Option.none:=List.find?_eq_none.2 fun x hx e=>by
 have e:=of_decide_eq_true e
 obtain⟨y,hy,he⟩:=h.b x hx (by rw[e];exact hk)
 exact hn y hy (he.trans e)
def entE(e:Value×MetL):Value×Value:=(vi e.2.1.fin,.agg #[vi e.2.1.fin,e.1])
structure RowG(N:NetL)(i:Nat)(row:List MetL):Prop where
 g:∀y∈row,GoodSt N y.1
 p:∀y∈row,y.2.length≤i
theorem RowG.meet{N:NetL}{i:Nat}{row:List MetL}{p:List Int}{L:List zal}{k:Nat}(h:RowG N i row)(hp:p.length<i)(hL:∀s∈L,GoodSt N s):RowG N i (zba p k row L):=by
 refine⟨fun y hy=>?_,fun y hy=>?_⟩
 ·rcases zd5 hy with hy| ⟨hy,_⟩
  ·exact h.g y hy
  ·exact hL _ hy
 ·rcases zd5 hy with hy| ⟨_,j,e⟩
  ·exact h.p y hy
  ·rw[e,List.length_append,List.length_singleton];omega
theorem RowG.mono{N:NetL}{i j:Nat}{row:List MetL}(h:RowG N i row)(hij:i≤j):RowG N j row:=⟨h.g,fun y hy=>Nat.le_trans (h.p y hy) hij⟩
theorem zeW{x:Int}(h0:0≤x)(h1:x≤1000000):(Lit.int .i64 x).wf=true:=by
 have e1:IntKind.i64.min= -9223372036854775808:=by decide
 have e2:IntKind.i64.max=9223372036854775807:=by decide
 show(decide (IntKind.i64.min≤x) && decide (x≤IntKind.i64.max))=true
 rw[e1,e2,decide_eq_true (by omega),decide_eq_true (by omega)];rfl
theorem ziW{k:Nat}:∀{l:List Nat},(∀x∈l,x≤k)→l.sum≤k*l.length
 | [],_=>by simp
 |a::l,h=>by
  have h1:=h a (by simp)
  have h2:=ziW (l:=l) fun x hx=>h x (by simp[hx])
  rw[List.sum_cons,List.length_cons,Nat.mul_succ];omega
theorem zgP{N:NetL}{s:zal}(hN:za3 N)(h:GoodSt N s):StG s:=by
 have hg:=zb0 h.nm
 have hf:=hg.fold
 have hfew:few s.name=true:=by have:=h.nm;unfold zbL at this;exact(Bool.and_eq_true_iff.1 this).1
 have hl:∀l∈zai s.name,l.length≤100:=fun l hl=>by
  obtain⟨x,hx,rfl⟩:=List.mem_map.1 hl
  simp only[few,Bool.and_eq_true,List.all_eq_true,decide_eq_true_eq]at hfew
  rw[zec];exact hfew.2 x hx
 have h1:=hN.h1.2
 have h2:=hN.w.2
 have h3:=hN.f.2
 have:=h.s0;have:=h.s1;have:=h.w0;have:=h.w1;have:=h.f0;have:=h.f1;have:=h.e0;have:=h.e1
 refine⟨hg,?_,zeW (by show 0≤s.sv;omega) (by show s.sv≤_;omega),zeW (by show 0≤s.rw;omega) (by show s.rw≤_;omega),zeW (by show 0≤s.rf;omega) (by show s.rf≤_;omega),zeW (by show 0≤s.fin;omega) (by show s.fin≤_;omega)⟩
 show(zbX (zai s.name)).length≤_
 have h4:=zfc (zai s.name)
 have h5:=ziW (k:=100) (l:=(zai s.name).map List.length) (fun x hx=>by obtain⟨l,hl',rfl⟩:=List.mem_map.1 hx;exact hl l hl')
 rw[List.length_map]at h5
 have h6:=hf.len
 unfold zbX
 split
 ·simp
 ·omega
theorem zgt{N:NetL}{q:Nm}(hN:za3 N)(hq:zbL q=true):∀s∈za4 N q,GoodSt N s:=fun s hs=>by
 obtain⟨r,hr,rfl⟩:=List.mem_map.1 hs
 obtain⟨h1,h2⟩:=hN.rin r hr
 exact⟨h1,h2,hq,Int.le_refl _,hN.w.1,Int.le_refl _,hN.f.1,Int.le_refl _,by show(0:Int)≤9;decide⟩
theorem expl_g{N:NetL}{t:Int}(hN:za3 N):∀{f i:Nat} {row:List MetL},RowG N (i+1) row→RowG N (i+f+1) (zcS N t f i row)
 |0,i,row,h=>h
 |f+1,i,row,h=>by
  unfold zcS
  split
  ·rename_i x hx
   split
   ·have hm:=List.mem_of_getElem? hx
    have h1:=h.p x hm
    have:=expl_g (f:=f) (i:=i+1) (t:=t) hN ((h.mono (j:=i+1+1) (by omega)).meet (k:=0) (p:=x.2) (L:=zbo N x.1 t) (by omega) (fun s hs=>(zhC hN (h.g x hm) hs).2.g))
    rw[show i+(f+1)+1=i+1+f+1 by omega]
    exact this
   ·exact h.mono (by omega)
  ·exact h.mono (by omega)
theorem zka{q q':Nm}(h:∀o,zaR q o=zaR q' o):zaS q=zaS q':=by
 funext b x
 unfold zaS
 rw[h]
theorem zjp{N:NetL}{s:Int}{q q':Nm}(h:∀o,zaR q o=zaR q' o):zcy N s q=zcy N s q':=by
 unfold zcy zlX
 rw[zka h]
theorem zgq{q q':Nm}(h:zai q=zai q')(o:Nm):zaR q o=zaR q' o:=by
 rw[←zbs (q:=q),←zbs (q:=q'),h]
theorem ask_fold{N:NetL}{s:Int}{q:Nm}{t:Int}:Alk (askN N s q t) (askN N s (zai q) t):=by
 unfold askN
 rw[zjp (q:=zai q) (q':=q) (fun o=>zbs)]
 split
 ·cases (N.zones s)[(zcy N s q).1.toNat]? with
  |none=>exact Alk.self _
  |some z=>exact zk9
 ·exact Alk.self _
def AlS(a b:zal):Prop:=∃n,b={a with name:=n}∧zai n=zai a.name
inductive AllS:List zal→List zal→Prop
 |nil:AllS [] []
 |cons {a b:zal} {l m:List zal} (h:AlS a b) (t:AllS l m):AllS (a::l) (b::m)
theorem AllS.app{l m l' m':List zal}(h:AllS l m)(k:AllS l' m'):AllS (l++l') (m++m'):=by
 induction h with
 |nil=>exact k
 |cons h _ ih=>exact .cons h ih
theorem AllS.maps{α:Type}{f g:α→zal}(h:∀a,AlS (f a) (g a)):∀l:List α,AllS (l.map f) (l.map g)
 | []=> .nil
 |a::l=> .cons (h a) (AllS.maps h l)
theorem AllS.flat{α:Type}{f g:α→List zal}(h:∀a,AllS (f a) (g a)):∀l:List α,AllS (l.flatMap f) (l.flatMap g)
 | []=> .nil
 |a::l=>by
  rw[List.flatMap_cons,List.flatMap_cons]
  exact(h a).app (AllS.flat h l)
theorem zc6{a b:zal}(h:AlS a b)(k:Int):AllS (endS a k) (endS b k):=by
 obtain⟨n,rfl,hn⟩:=h
 exact .cons ⟨n,rfl,hn⟩ .nil
theorem zf3{N:NetL}{a b:zal}(h:AlS a b):AllS (zcs N a) (zcs N b):=by
 obtain⟨n,rfl,hn⟩:=h
 exact AllS.maps (f:=fun k=>{a with sv:=k}) (g:=fun k=>{a with sv:=k,name:=n}) (fun k=>⟨n,rfl,hn⟩) N.roots
theorem zke{N:NetL}{a b:zal}{to to':Nm}(h:AlS a b)(ht:zai to'=zai to):AllS (zdE N a to) (zdE N b to'):=by
 obtain⟨n,rfl,hn⟩:=h
 unfold zdE
 dsimp only
 split
 ·exact zc6 ⟨n,rfl,hn⟩ 7
 ·rw[zjp (zgq ht)]
  have h2:AlS {a with rw:=a.rw+1,name:=to,ref:=false} {a with rw:=a.rw+1,name:=to',ref:=false}:=⟨to',rfl,ht⟩
  split
  ·exact .cons h2 .nil
  ·exact zf3 h2
theorem zln{N:NetL}{a b:zal}{r r':ResL}(h:AlS a b)(hr:Alk r r')(x:Nm):AllS (zc3 N r a x) (zc3 N r' b x):=by
 obtain⟨n,rfl,hn⟩:=h
 obtain⟨m,rfl,_⟩:=hr
 unfold zc3
 refine AllS.app ?_ (AllS.maps (f:=fun k=>{a with sv:=k,ref:=true}) (g:=fun k=>{a with sv:=k,ref:=true,name:=n}) (fun k=>⟨n,rfl,hn⟩) (ofR N r x))
 show AllS (if ((ofR N r x).length:Int)=0 then _ else _) (if ((ofR N r x).length:Int)=0 then _ else _)
 split
 ·exact zc6 ⟨n,rfl,hn⟩ 9
 ·exact .nil
theorem zio{N:NetL}{a b:zal}{r r':ResL}(h:AlS a b)(hr:Alk r r'):AllS (zdC N a r) (zdC N b r'):=by
 obtain⟨n,rfl,hn⟩:=h
 unfold zdC
 dsimp only
 split
 ·exact zc6 ⟨n,rfl,hn⟩ 8
 ·have hd:r'.data=r.data:=by
   obtain⟨m,rfl,_⟩:=hr;rfl
  rw[hd]
  exact AllS.flat (fun x=>zln (N:=N) (a:={a with rf:=a.rf+1}) (b:={a with rf:=a.rf+1,name:=n}) ⟨n,rfl,hn⟩ hr x) _
theorem zhB{N:NetL}{s:zal}{t:Int}:AllS (zbo N s t) (zbo N {s with name:=zai s.name} t):=by
 have hs:AlS s {s with name:=zai s.name}:=⟨_,rfl,zce _⟩
 have ha:Alk (askN N s.sv s.name t) (askN N s.sv (zai s.name) t):=ask_fold
 obtain⟨a,hae⟩:∃a,askN N s.sv s.name t=a:=⟨_,rfl⟩
 obtain⟨b,hbe⟩:∃b,askN N s.sv (zai s.name) t=b:=⟨_,rfl⟩
 rw[hae,hbe]at ha
 have hk:=ha.kind
 have hn:zai b.name=zai a.name:=by
  obtain⟨m,rfl,hm⟩:=ha;exact hm
 unfold zbo
 dsimp only
 rw[hae,hbe,hk]
 split
 ·repeat (split;· exact zc6 hs _)
  split
  ·exact zke hs hn
  split
  ·exact zio hs ha
  split<;>exact zc6 hs _
 ·exact .nil
theorem zls{n:Nm}(h:zbL n=true):zbL (zai n)=true:=by
 refine zf8 ?_
 unfold zbL at h
 simp only[Bool.and_eq_true,decide_eq_true_eq]at h
 rw[←h.2]
 refine zef ?_
 unfold LenN zai
 rw[List.map_map]
 exact List.map_congr_left fun l _=>zeI l
theorem AlS.key{a b:zal}(h:AlS a b):keyS a=keyS b:=by
 obtain⟨n,rfl,hn⟩:=h
 unfold keyS
 simp[hn]
theorem AlS.symm{a b:zal}(h:AlS a b):AlS b a:=by
 obtain⟨n,rfl,hn⟩:=h
 exact⟨a.name,rfl,hn.symm⟩
theorem AlS.trans{a b c:zal}(h:AlS a b)(k:AlS b c):AlS a c:=by
 obtain⟨n,rfl,hn⟩:=h
 obtain⟨m,rfl,hm⟩:=k
 exact⟨m,rfl,hm.trans hn⟩
theorem AllS.symm{l m:List zal}(h:AllS l m):AllS m l:=by
 induction h with
 |nil=>exact .nil
 |cons h _ ih=>exact .cons h.symm ih
theorem AllS.trans{l m n:List zal}(h:AllS l m)(k:AllS m n):AllS l n:=by
 induction h generalizing n with
 |nil=>exact k
 |cons h _ ih=>cases k with
  |cons k kt=>exact .cons (h.trans k) (ih kt)
theorem next_al{N:NetL}{a b:zal}{t:Int}(h:AlS a b):AllS (zbo N a t) (zbo N b t):=by
 obtain⟨n,rfl,hn⟩:=h
 have h1:=zhB (N:=N) (s:=a) (t:=t)
 have h2:=zhB (N:=N) (s:={a with name:=n}) (t:=t)
 simp only[hn]at h2
 exact h1.trans h2.symm
inductive AllM:List MetL→List MetL→Prop
 |nil:AllM [] []
 |cons {a b:MetL} {l m:List MetL} (h:AlS a.1 b.1) (p:a.2=b.2) (t:AllM l m):AllM (a::l) (b::m)
theorem AllM.app{l m l' m':List MetL}(h:AllM l m)(k:AllM l' m'):AllM (l++l') (m++m'):=by
 induction h with
 |nil=>exact k
 |cons h p _ ih=>exact .cons h p ih
theorem AllM.len{l m:List MetL}(h:AllM l m):l.length=m.length:=by
 induction h with
 |nil=>rfl
 |cons _ _ _ ih=>simp[ih]
theorem AllM.any{l m:List MetL}(h:AllM l m)(k:KeyL):(l.any fun y=>decide (keyS y.1=k))=m.any fun y=>decide (keyS y.1=k):=by
 induction h with
 |nil=>rfl
 |cons h _ _ ih=>rw[List.any_cons,List.any_cons,ih,h.key]
theorem put_al{l m:List MetL}{x y:MetL}(h:AllM l m)(hx:AlS x.1 y.1)(hp:x.2=y.2):AllM (putL l x) (putL m y):=by
 unfold putL
 rw[h.any,hx.key]
 split
 ·exact h
 ·exact h.app (.cons hx hp .nil)
theorem zk7{L M:List zal}(h:AllS L M):∀{p:List Int} {i:Nat} {l m:List MetL},AllM l m→AllM (zba p i l L) (zba p i m M):=by
 induction h with
 |nil=>intro p i l m hl;exact hl
 |cons h _ ih=>intro p i l m hl;exact ih (put_al hl h rfl)
theorem AllM.at{l m:List MetL}(h:AllM l m):∀i:Nat,(l[i]? =Option.none∧m[i]? =Option.none)∨∃x y,l[i]? =some x∧m[i]? =some y∧AlS x.1 y.1∧x.2=y.2:=by
 induction h with
 |nil=>intro i;exact .inl ⟨rfl,rfl⟩
 |@cons a b l m h p _ ih=>
  intro i
  cases i with
  |zero=>exact .inr ⟨a,b,rfl,rfl,h,p⟩
  |succ i=>exact ih i
theorem zlA{N:NetL}{t:Int}:∀{f i:Nat} {l m:List MetL},AllM l m→AllM (zcS N t f i l) (zcS N t f i m)
 |0,i,l,m,h=>h
 |f+1,i,l,m,h=>by
  unfold zcS
  rcases h.at i with ⟨h1,h2⟩| ⟨x,y,h1,h2,h3,h4⟩
  ·rw[h1,h2];exact h
  ·rw[h1,h2]
   simp only[]
   rw[←h.len]
   split
   ·rw[←h4];exact zlA (zk7 (next_al h3) h)
   ·exact h
theorem first_al{l m:List MetL}(h:AllM l m)(k:Int):(zbu l k).map (·.2)=(zbu m k).map (·.2):=by
 unfold zbu
 induction h with
 |nil=>rfl
 |@cons a b l m h p _ ih=>
  obtain⟨n,hb,_⟩:=h
  have hf:b.1.fin=a.1.fin:=by rw[hb]
  rw[List.find?_cons,List.find?_cons,hf]
  split
  ·simp[p]
  ·exact ih
theorem ends_al{l m:List MetL}(h:AllM l m):zcT l=zcT m:=by
 unfold zcT zeT
 congr 1
 funext j
 have:=first_al h ((j+1:Nat):Int)
 cases h1:zbu l ((j+1:Nat):Int)<;>cases h2:zbu m ((j+1:Nat):Int)<;>rw[h1,h2]at this<;>simp at this
 simp[this]
theorem zlz{N:NetL}{q:Nm}{t:Int}:AllM (zcv N q t) (zcv N (zai q) t):=by
 unfold zcv za4
 refine zlA (zk7 (zf3 ⟨zai q,rfl,?_⟩) .nil)
 exact zjY q
end Go.Proofs.YtahbdamijngmmaaGreat
