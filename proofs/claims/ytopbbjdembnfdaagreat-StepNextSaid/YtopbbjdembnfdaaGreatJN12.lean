/-
  Texts of a proof, joined: W8, K26, W9, U0, U1, U2, U3, U4, U5, U6.
  Conditions: none.
-/
import Derived.Test.YtopbbjdembnfdaaGreatJN11
import Derived.Test.YtopbbjdembnfdaaGreatJN01
import Derived.Test.YtopbbjdembnfdaaGreatJN09
import Derived.Test.YtopbbjdembnfdaaGreatJN10
set_option linter.unusedVariables false
set_option linter.unusedSimpArgs false
set_option linter.defProp false
set_option linter.unnecessarySimpa false
namespace Go.Proofs.YtopbbjdembnfdaaGreat
open Go
set_option maxRecDepth 10000
set_option maxHeartbeats 4000000 in
theorem Of15_ok(w:World){cs:List Value}{c:zgQ}(hc:ConfAt w cs c)(hf:FewC c):
  Fn Tryz.prog 94 #[.agg cs.toArray] w (fun v w'=>Ext w w'∧∃cs',v= .agg cs'.toArray∧ConfAt w' cs' c):=by
 obtain⟨sv,rv,rfl,hs,hr⟩:=hc.ex
 obtain⟨aS,cS,rfl,hat⟩:=ziB hs
 have hr0:=hr
 have r1:=hr.isOne
 obtain⟨ar,cr,hrv,_,hgr⟩:=hr
 have hsl:=hf.sl
 refine enter Tryz.func94 Tryz.ntmps94 rfl rfl ?_
 repeat refine c_r ?_
 rw[hrv]
 refine rg0 ?_
 rw[←hrv]
 repeat refine c_r ?_
 rw[zam]
 refine zaH ?_
 intro w1 hE1 hs1 hA hC
 have p0:zaf w1 (some ⟨w.heap.size,0,Option.none⟩)=some (.slice aS c.servers.length cS):=zac hA rfl
 have p1:zaf w1 (some ⟨w.heap.size,1,Option.none⟩)=some rv:=zac hA rfl
 have p2:zaf w1 (some ⟨w.heap.size,2,Option.none⟩)=some (vi c.rw):=zac hA rfl
 have p3:zaf w1 (some ⟨w.heap.size,3,Option.none⟩)=some (vi c.rf):=zac hA rfl
 repeat refine c_r ?_
 refine rq ?_;intro gd K hgd hK
 try simp (disch:=first|omega|assumption|rfl) only[go_sem,p1,p2,p3,Nat.zero_add]
 refine⟨by kernel_rfl,?_⟩
 rw[hrv,show bdV Tryz.prog 172 [(1,.slice ar (c.roots.map vi).length cr),(2,vi c.rw),(3,vi c.rf)]=some (.agg #[.slice Option.none 0 0,.slice ar (c.roots.map vi).length cr,vi c.rw,vi c.rf]) from by kernel_rfl,←hrv]
 try simp only[go_sem]
 refine zbo (P:=Tryz.prog) (l:=[.slice Option.none 0 0,rv,vi c.rw,vi c.rf]) rfl (fun v hv=>by simp at hv;rcases hv with rfl|rfl|rfl|rfl<;>first|exact r1|rfl) rfl rfl ?_
 intro w2 hE2 hs2 hD
 try simp only[go_sem]
 refine hK _ _ ?_;clear hK hgd;clear K;try clear gd
 obtain⟨c3,hc3⟩:∃b,w1.heap.size=b:=⟨_,rfl⟩
 rw[hc3]at hD hs2 ⊢
 have hE12:=hE1.trans hE2
 have p0w:=zab hE2 p0
 repeat refine c_r ?_
 refine rg0 ?_
 repeat refine c_r ?_
 refine zap (fun m σ ds A=>ds=[]∧∃(i:Nat) (ov:Value) (G:List (SrvL×(Value×List Value))),i+m=c.servers.length∧σ 4=vi i∧σ 1= .pointer (some ⟨w.heap.size,0,Option.none⟩)∧σ 2= .pointer (some ⟨w.heap.size+1,0,Option.none⟩)∧σ 3= .pointer (some ⟨c3,0,Option.none⟩)∧Ext w1 A∧c3+1≤A.heap.size∧
  A.heap[c3]? =some (.cells #[ov,rv,vi c.rw,vi c.rf] 172 (0,0))∧GS w 239 (c3+1) A ov G∧G.map Prod.fst=c.servers.take i) c.servers.length ?_ ?_
 ·exact⟨rfl,0,.slice Option.none 0 0,[],by omega,vr0,vq0,vq0,vq0,hE2,by omega,hD,⟨Owns.nil _ _ _ _ _,fun x h=>by cases h⟩,rfl⟩
 rintro m σ ds A ⟨rfl,i,ov,G,him,s4,s1,s2,s3,hEA,hAs,hB3,hGS,hGf⟩
 have p0A:=zab hEA p0
 repeat refine c_r ?_
 refine rg4 s4 s1 p0A Nat.add_zero ?_
 repeat refine c_r ?_
 refine wc0 ?_ ?_
 ·intro hlt
  simp only[decide_eq_true_eq]at hlt
  have hi:i<c.servers.length:=by omega
  have hi0:(0:Int)≤(i:Int):=by omega
  have hi1':(i:Int)+1=((i+1:Nat):Int):=by push_cast;rfl
  obtain⟨xa,xi,x5,nv,ap,cp,rfl,hxi,hx5,g0,hn,g5,⟨b1,b2,b3,b4,hadr,hcs⟩,hpr,hpl⟩:=hat i hi
  obtain⟨s,hse⟩:∃s,c.servers[i]=s:=⟨_,rfl⟩
  obtain⟨fs1,fs2,fs3⟩:=hf.s s (hse▸List.getElem_mem hi)
  rw[hse]at hn g5 hadr hcs hpr
  simp only[hse]at hpl
  have n1:=hn.isOne
  have hz0:adr (some xi) 0=some xi:=zak _
  obtain⟨y1,hy1⟩:∃y,adr (some xi) 1=some y:=⟨_,rfl⟩
  have gby:zat w (some y1) 4=some [zag b1,zag b2,zag b3,zag b4]:=by
   have h5:=za9 (m:=1) (k:=5) hcs
   rw[hy1]at h5
   exact zcE (m:=4) (k:=1) h5
  obtain⟨an,cn,hnv,_⟩:=id hn
  repeat refine c_r ?_
  refine zaN (fun i=>i==14) [(0,true),(1,true),(2,true),(3,true),(4,true),(5,true),(6,true),(7,true),(8,true),(9,true),(10,true),(11,true),(12,true),(13,false),(14,false)] NoS mixed (by kernel_rfl) ?_;intro gd K x hgd hx hxe hK;clear hxe
  have hwx:=hE1.trans (hEA.trans hx)
  have p0x:=zab hx p0A
  have g0x:=zab hwx g0
  have gbx:=zae hwx gby
  simp (disch:=first|omega|assumption|rfl) only[go_sem,s4,s1,p0x,Nat.add_zero,hi0,hlt,hxi,hz0,hy1,g0x,gbx]
  refine⟨by kernel_rfl,?_⟩
  rw[hnv,show bdV Tryz.prog 239 [(0,.slice an (s.host.map vs).length cn),(1,.agg #[zag b1,zag b2,zag b3,zag b4])]=some (.agg #[.slice an (s.host.map vs).length cn,zag b1,zag b2,zag b3,zag b4,.slice Option.none 0 0]) from by kernel_rfl,←hnv]
  simp (disch:=first|omega|assumption|rfl) only[go_sem]
  refine⟨.inr (Ext.alloc x _),?_⟩
  refine zbo (P:=Tryz.prog) (l:=[nv,zag b1,zag b2,zag b3,zag b4,.slice Option.none 0 0]) rfl (fun v hv=>by simp at hv;rcases hv with rfl|rfl|rfl|rfl|rfl|rfl<;>first|exact n1|rfl) rfl rfl ?_
  intro A1 hE3 hs3 hB5
  refine⟨.inl rfl,?_⟩
  simp (disch:=first|omega|assumption|rfl) only[go_sem]
  refine hK _ _ ?_;clear hK hgd;clear K;try clear gd
  have hx3:=hx.trans hE3
  obtain⟨b5,hb5⟩:∃b,x.heap.size=b:=⟨_,rfl⟩
  have hsx:=hx.size
  rw[hb5]at hB5 hs3 hsx ⊢
  have hIP:IP w 239 241 b5 nv b1 b2 b3 b4 A A1 (.slice Option.none 0 0) []:=⟨hB5,Owns.nil _ _ _ _ _,hx3,hsx⟩
  clear p0x g0x gbx hx hx3 hwx hE3 hB5
  repeat refine c_r ?_
  refine rg0 ?_
  repeat refine c_r ?_
  refine zap (fun m σ ds v=>ds=[]∧∃(k:Nat) (pv:Value),k+m=s.places.length∧σ 6=vi k∧σ 4=vi i∧σ 1= .pointer (some ⟨w.heap.size,0,Option.none⟩)∧σ 2= .pointer (some ⟨w.heap.size+1,0,Option.none⟩)∧σ 3= .pointer (some ⟨c3,0,Option.none⟩)∧σ 5= .pointer (some ⟨b5,0,Option.none⟩)∧
   IP w 239 241 b5 nv b1 b2 b3 b4 A v pv (s.places.take k)∧b5+1≤v.heap.size) s.places.length ?_ ?_
  ·exact⟨rfl,0,_,by omega,vr0,(vq1 s4),(vq1 s1),(vq1 s2),(vq1 s3),vq0,hIP,by omega⟩
  clear s4 s1 s2 s3 hIP
  rintro m2 σ2 ds2 v ⟨rfl,k,pv,hkm,s6,s4,s1,s2,s3,s5,hIP,hvs⟩
  have hEv:=hEA.trans hIP.e
  have hwv:=hE1.trans hEv
  have p0v:=zab hEv p0
  have g5v:=zab hwv g5
  repeat refine c_r ?_
  refine rg9 s6 s4 s1 (an3 p0v Nat.add_zero g5v) hi0 hlt hxi hx5 trivial ?_
  repeat refine c_r ?_
  refine wc0 ?_ ?_
  ·intro hlt2
   simp only[decide_eq_true_eq]at hlt2
   have hk:k<s.places.length:=by omega
   have hk0:(0:Int)≤(k:Int):=by omega
   have hk1':(k:Int)+1=((k+1:Nat):Int):=by push_cast;rfl
   obtain⟨xp,xk,xk1,ow,rfl,hxk,hxk1,f0,ho,f1⟩:=hpl k hk
   have hz1:adr (some xk) 0=some xk:=zak _
   obtain⟨ao,co,how,_⟩:=id ho
   have q5:zaf v (some ⟨b5,5,Option.none⟩)=some pv:=zac hIP.h rfl
   have lo:=hIP.lo
   repeat refine c_r ?_
   refine zaN (fun i=>i==26) [(0,true),(1,true),(2,true),(3,true),(4,true),(5,true),(6,true),(7,true),(8,true),(9,true),(10,true),(11,true),(12,true),(13,true),(14,true),(15,true),(16,true),(17,true),(18,true),(19,true),(20,true),(21,true),(22,true),(23,false),(24,false),(25,true),(26,false)] (zbB (b5+1)) mixed (by kernel_rfl) ?_;intro gd K x hgd hx hxe hK;have hx0:=zfM hxe;clear hxe
   have hwx:=hwv.trans hx0
   have p0x:=zab hx0 p0v
   have g5x:=zab hwx g5
   have f0x:=zab hwx f0
   have f1x:=zab hwx f1
   have q5x:=zab hx0 q5
   simp (disch:=first|omega|assumption|rfl) only[go_sem,s6,s4,s1,s5,p0x,Nat.add_zero,Nat.zero_add,hi0,hlt,hk0,hlt2,hxi,hx5,hxk,hz1,hxk1,g5x,f0x,f1x,q5x]
   have l5:x5.block<b5+1:=by have:=zct (show w.cell? x5=some _ from g5);have:=hwv.size;have:=hE1.size;have:=hEA.size;omega
   have lk:xk.block<b5+1:=by have:=zct (show w.cell? xk=some _ from f0);have:=hE1.size;have:=hEA.size;omega
   have lk1:xk1.block<b5+1:=by have:=zct (show w.cell? xk1=some _ from f1);have:=hE1.size;have:=hEA.size;omega
   have lw:w.heap.size<b5+1:=by have:=hE1.size;have:=hEA.size;omega
   refine⟨zco (by omega),zco lw,zc0 l5,zc0 lk,zco lw,zc0 l5,zc0 lk1,by kernel_rfl,?_⟩
   rw[how,show bdV Tryz.prog 241 [(0,.slice ao (s.places[k].o.map vs).length co),(1,vs s.places[k].path)]=some (.agg #[.slice ao (s.places[k].o.map vs).length co,vs s.places[k].path]) from by kernel_rfl,←how]
   simp (disch:=first|omega|assumption|rfl) only[go_sem]
   refine zaT (zcJ w) (l:=[ow,vs s.places[k].path]) (a:=s.places[k]) (by rfl) (by rfl) (by rfl) (by rfl) ⟨ow,rfl,ho⟩ (by decide) ?_
   intro v1 hE4 hs4' ho4
   refine⟨.inr hE4.keep,?_⟩
   simp (disch:=first|omega|assumption|rfl) only[go_sem]
   have hx04:=hx0.trans hE4
   have hsz4:=hx04.size
   refine zaI (zcJ w) (hIP.own.ext hx04) ho4.rows (by rfl) (by rfl) (by rfl) (by rfl) (by rfl) (by rfl) (by decide) (vr0) (vr0) (by simp;omega) (by decide) (by omega) ?_
   intro pv' v2 ho5 hE5 hk5 hb5'
   refine⟨.inr (hk5.mono fun b _ hb=>(hIP.own.ge hb).1),?_⟩
   obtain⟨ap',cp',hpv',_⟩:=ho5.rows.open
   simp (disch:=first|omega|assumption|rfl) only[go_sem,s5,Nat.zero_add]
   refine zaV (P:=Tryz.prog) (t:=237) (j:=5) (u:=pv') (l:=[nv,zag b1,zag b2,zag b3,zag b4,pv]) ((hk5.block _ (by omega) (fun hb=>by have:=(hIP.own.ge hb).1;omega)).trans (Ext.at hx04 hIP.h)) (by simp) (by rw[hpv'];rfl) rfl rfl ?_
   intro v3 hs3' hB3' hk3'
   refine⟨.inl rfl,?_⟩
   simp (disch:=first|omega|assumption|rfl) only[go_sem]
   refine hK _ _ ?_;clear hK hgd;clear K;try clear gd
   have hIPn:=hIP.app hx04 ho5 hk5 hB3' hk3'
   have hs5:=hk5.size
   repeat refine c_r ?_
   refine rg2 s6 hk1' ?_
   repeat refine c_r ?_
   refine⟨m2 - 1,by omega,rfl,k+1,pv',by omega,vq0,(vq1 s4),(vq1 s1),(vq1 s2),(vq1 s3),(vq1 s5),?_,by omega⟩
   rw[zao hk];exact hIPn
  ·intro hge2
   simp only[decide_eq_false_iff_not]at hge2
   have hfull:s.places.take k=s.places:=List.take_of_length_le (by omega)
   rw[hfull]at hIP
   obtain⟨ap',cp',hpv',_⟩:=hIP.own.rows.open
   have lo:=hIP.lo
   have dB:zat v (some ⟨b5,0,Option.none⟩) 6=some [nv,zag b1,zag b2,zag b3,zag b4,pv]:=zah hIP.h rfl
   have q3:zaf v (some ⟨c3,0,Option.none⟩)=some ov:=zac (Ext.at hIP.e hB3) rfl
   have ones6:∀q∈ [nv,zag b1,zag b2,zag b3,zag b4,pv],one q=true:=fun q hq=>by
    simp at hq
    rcases hq with rfl|rfl|rfl|rfl|rfl|rfl<;>first|exact n1|rfl| (rw[hpv'];rfl)
   have hGl:G.length=i:=by
    have:=congrArg List.length hGf
    simp at this;omega
   repeat refine c_r ?_
   refine rq ?_;intro gd K hgd hK
   try simp (disch:=first|omega|assumption|rfl) only[go_sem,s3,s5,q3,dB,Nat.add_zero]
   refine zaT (C:=gxC) zeO (l:=[nv,zag b1,zag b2,zag b3,zag b4,pv]) (a:=(s,(pv,[nv,zag b1,zag b2,zag b3,zag b4,pv]))) (by rfl) (by rfl) (by rfl) (by rfl) ⟨rfl,rfl,ones6⟩ (by decide) ?_
   intro v1 hE4 hs4' ho4
   try simp only[go_sem]
   have hAv1:=hIP.e.trans hE4
   have hsA1:=hAv1.size
   refine zaI zeO ((hGS.ext hAv1).own) ho4.rows (by rfl) (by rfl) (by rfl) (by rfl) (by rfl) (by rfl) (by decide) (vr0) (vr0) (by simp;omega) (by decide) (by omega) ?_
   intro ov' v2 ho5 hE5 hk5 hb5'
   obtain⟨ao',co',hov',_⟩:=ho5.rows.open
   try simp (disch:=first|omega|assumption|rfl) only[go_sem,s3,Nat.add_zero]
   refine zaV (P:=Tryz.prog) (t:=170) (j:=0) (u:=ov') (l:=[ov,rv,vi c.rw,vi c.rf]) ((hk5.block _ (by omega) (fun hb=>by have:=(hGS.own.ge hb).1;omega)).trans (Ext.at hAv1 hB3)) (by simp) (by rw[hov'];rfl) rfl rfl ?_
   intro v3 hs3' hB3' hk3'
   try simp only[go_sem]
   refine hK _ _ ?_;clear hK hgd;clear K;try clear gd
   have hGS2:=hGS.app hAv1 hAs (x:=(s,(pv,[nv,zag b1,zag b2,zag b3,zag b4,pv]))) ⟨nv,b1,b2,b3,b4,rfl,hadr,hn,hIP.own.rows.ext hE4⟩ ((hIP.own.blk.mono (by omega)).ext hE4.size) ho5 hk5 hb5'
   have hGS3:=hGS2.keep hk3' (fun b h1 _ h2=>by omega)
   have hs5:=hk5.size
   repeat refine c_r ?_
   refine rg2 s4 hi1' ?_
   repeat refine c_r ?_
   refine⟨m - 1,by omega,rfl,i+1,ov',_,by omega,vq0,(vq1 s1),(vq1 s2),(vq1 s3),Keep.to_ext (hE5 w1 (hEA.trans hAv1) (by omega)) rfl (fun b hb=>by omega) hk3',by omega,hB3',hGS3,?_⟩
   rw[zao hi,List.map_append,hGf,hse];rfl
 ·intro hge
  simp only[decide_eq_false_iff_not]at hge
  rw[List.take_of_length_le (by omega)]at hGf
  have hEw:=hE1.trans hEA
  have hrows:=hGS.rows hEw
  rw[hGf]at hrows
  have o1:=hrows.isOne
  have dx:=zah (n:=4) (l:=[ov,rv,vi c.rw,vi c.rf]) hB3 rfl
  repeat refine c_r ?_
  refine rq ?_;intro gd K hgd hK
  try simp (disch:=first|omega|assumption|rfl) only[go_sem,s3,s2,dx]
  refine zaE (P:=Tryz.prog) (t:=172) (l:=[ov,rv,vi c.rw,vi c.rf]) (Ext.at hEA hC) rfl (fun v hv=>by simp at hv;rcases hv with rfl|rfl|rfl|rfl<;>first|exact r1|exact o1|rfl) rfl rfl ?_
  intro z hsz hBz hkz
  try simp only[go_sem]
  refine hK _ _ ?_;clear hK hgd;clear K;try clear gd
  repeat refine c_r ?_
  refine zay (.inr rfl) Tryz.ntmps94 rfl (zaL (x:=⟨w.heap.size+1,0,Option.none⟩) (k:=4) ((vq1 s2)) rfl rfl (zah hBz rfl) zau) ?_
  have hEz:Ext w z:=Keep.to_ext hEw rfl (fun b hb=>by omega) hkz
  have hGz:=(hGS.keep hkz (fun b h1 _ h2=>by omega)).rows hEz
  rw[hGf]at hGz
  exact⟨hEz,_,rfl,ov,rv,rfl,hGz,hr0.ext hEz⟩
section
variable {P : Program} {d : Option Tmp} {ty : TypeId} {ps : String} {af : Array Edge} {g : Option (Nat × Bool)} {ρ : Operand → Value} {w : World} {K : Value → World → Prop}
theorem op_field{s:TypeId}{x:Operand}{f:Nat}{fs:Array Field}{fd:Field}{cs:Array Value}{v:Value}(hs:P.underlying s=some (.struct fs))(hf:fs[f]? =some fd)(ha:tyA P fd.type=false)(hu:(P.underlying fd.type).isSome=true)
  (hx:ρ x= .agg cs) (hv:cs[fd.offset]? =some v) (h:K v w):opV P ⟨d,.field s x f,ty,ps,af,g⟩ ρ w K:=by
 show opW P _ ρ w K
 refine zaQ (s:=Instr.field s (ρ x) f) (w':=w) (v:=v) ?_ h
 obtain⟨u,hu⟩:=Option.isSome_iff_exists.1 hu
 have hi:(isAgg fd.type).run P w= .ok false w:=by
  unfold tyA at ha
  rw[hu]at ha
  cases u<;>first| (cases ha;done)|simp[isAgg,underlying,program,Sem.run,hu]
 have hp:(part fd.type cs fd.offset).run P w= .ok v w:=by
  unfold part
  simp only[Sem.run_bind,hi,Result.andThen_ok,Bool.false_eq_true,if_false,hv,Sem.run_pure]
 unfold Instr.field
 simp[underlying,program,Sem.run,hs,hf,hx,asAgg]
 exact hp
end
theorem zkW{w:World}{hv:Value}{l:List zd8}(hs:Rows 6 (HostC w) w hv l):∃a c,hv= .slice a l.length c∧∀i (h:i<l.length),∃xa xi x5 nv az cz,a=some xa∧adr (some xa) (i*6)=some xi∧adr (some xi) 5=some x5∧zaf w (some xi)=some nv∧Row w nv (l[i].name.map vs)∧
  zaf w (some x5)=some (.slice az l[i].zones.length cz)∧(∃b1 b2 b3 b4,l[i].addr=[b1,b2,b3,b4]∧zat w (some xi) 6=some [nv,zag b1,zag b2,zag b3,zag b4,.slice az l[i].zones.length cz])∧
  ∀k (h:k<l[i].zones.length),∃xz xk ov lv,az=some xz∧adr (some xz) (k*2)=some xk∧zat w (some xk) 2=some [ov,lv]∧Row w ov (l[i].zones[k].o.map vs)∧Rows 7 (RecAt w) w lv l[i].zones[k].recs:=by
 obtain⟨a,c,rfl,_,hg⟩:=hs.open
 refine⟨a,c,rfl,fun i hi=>?_⟩
 obtain⟨cs,hcs,hS⟩:=hg i hi
 obtain⟨nv,b1,b2,b3,b4,pv,rfl,ha,hn,hp⟩:=hS.ex
 obtain⟨ap,cp,rfl,_,hgp⟩:=hp.open
 obtain⟨xa,rfl⟩:=Option.isSome_iff_exists.1 (zan hcs)
 obtain⟨xi,hxi⟩:∃xi,adr (some xa) (i*6)=some xi:=⟨_,rfl⟩
 obtain⟨x5,hx5⟩:∃x,adr (some xi) 5=some x:=⟨_,rfl⟩
 rw[hxi]at hcs
 have h0:=zaj (j:=0) hcs rfl
 rw[zak]at h0
 have h5:=zaj (j:=5) hcs rfl
 rw[hx5]at h5
 refine⟨xa,xi,x5,nv,ap,cp,rfl,hxi,hx5,h0,hn,h5,⟨b1,b2,b3,b4,ha,hcs⟩,fun k hk=>?_⟩
 obtain⟨c2,hc2,hP⟩:=hgp k hk
 obtain⟨ov,lv,rfl,ho,hl⟩:=hP.ex
 obtain⟨xp,rfl⟩:=Option.isSome_iff_exists.1 (zan hc2)
 obtain⟨xk,hxk⟩:∃xi,adr (some xp) (k*2)=some xi:=⟨_,rfl⟩
 rw[hxk]at hc2
 exact⟨xp,xk,ov,lv,rfl,hxk,hc2,ho,hl⟩
def zg7(z:zci):zfH:=⟨z.o,[120]⟩
def srvH(h:zd8):SrvL:=⟨h.name,h.addr,h.zones.map zg7⟩
def confN(N:NetL):zgQ:=⟨N.hosts.map srvH,N.roots,N.rw,N.rf⟩
def NumN(N:NetL):Prop:=∀h∈N.hosts,∀z∈h.zones,NumR z.recs
structure zeq(N:NetL):Prop where
 z:NetZ N
 h1:1≤N.hosts.length∧N.hosts.length≤6
 r1:1≤N.roots.length∧N.roots.length≤4
 rin:∀r∈N.roots,0≤r∧r<(N.hosts.length:Int)
 w:0≤N.rw∧N.rw≤4
 f:0≤N.rf∧N.rf≤6
 zl:∀h∈N.hosts,h.zones.length≤4
 sh:∀h∈N.hosts,Sh h.name
theorem RecAt.up{w x:World}{v:Value}{R:List RecL}(h:Rows 7 (RecAt w) x v R)(hE:Ext w x):Rows 7 (RecAt x) x v R:=h.to fun _ _ h=>h.ext hE
set_option maxHeartbeats 8000000 in
theorem zlS(w:World){cs:List Value}{N:NetL}(hN:NetAt w cs N)(hv:NumN N):
  Fn Tryz.prog 32 #[.agg cs.toArray] w (fun v w'=>Ext w w'∧∃t,v= .bool t∧(t=true→zeq N)):=by
 obtain⟨hsv,rv,rfl,hs,hr⟩:=hN.ex
 obtain⟨aS,cS,rfl,hat⟩:=zkW hs
 have hr0:=hr
 have r1:=hr.isOne
 obtain⟨ar,cr,hrv,_,hgr⟩:=hr
 rw[List.length_map]at hrv
 refine enter Tryz.func32 Tryz.ntmps32 rfl rfl ?_
 repeat refine c_r ?_
 rw[hrv]
 refine rg0 ?_
 rw[←hrv]
 repeat refine c_r ?_
 refine zaA ?_
 intro w1 hE1 hs1 hA
 have p0:zaf w1 (some ⟨w.heap.size,0,Option.none⟩)=some (.slice aS N.hosts.length cS):=zac hA rfl
 have p1:zaf w1 (some ⟨w.heap.size,1,Option.none⟩)=some rv:=zac hA rfl
 have p2:zaf w1 (some ⟨w.heap.size,2,Option.none⟩)=some (vi N.rw):=zac hA rfl
 have p3:zaf w1 (some ⟨w.heap.size,3,Option.none⟩)=some (vi N.rf):=zac hA rfl
 rw[hrv]at p1
 repeat refine c_r ?_
 refine zaC (Q:=fun e σ' ds' v'=>e= .normal∧ds'=[]∧v'=w1∧σ' 1= .pointer (some ⟨w.heap.size,0,Option.none⟩)∧∃t,σ' 51= .bool t∧(t=false→(1≤N.hosts.length∧N.hosts.length≤6)∧(1≤N.roots.length∧N.roots.length≤4)∧(0≤N.rw∧N.rw≤4)∧0≤N.rf∧N.rf≤6)) ?_ ?_
 ·by_cases e0:(N.hosts.length:Int)<1
  ·refine rgg [(4,14),(10,20),(16,26),(22,32),(27,37),(32,42),(37,47)] (an3 p0 Nat.add_zero (decide_eq_true e0)) ?_
   exact⟨rfl,rfl,rfl,vq0,_,vr0,fun h=>by cases h⟩
  by_cases e1:(N.hosts.length:Int)>6
  ·refine rgg [(4,14),(10,20),(16,26),(22,32),(27,37),(32,42),(37,47)] (an4 p0 Nat.add_zero (decide_eq_false e0) (decide_eq_true e1)) ?_
   exact⟨rfl,rfl,rfl,vq0,_,vr0,fun h=>by cases h⟩
  by_cases e2:(N.roots.length:Int)<1
  ·refine rgg [(4,14),(10,20),(16,26),(22,32),(27,37),(32,42),(37,47)] (an7 p0 Nat.add_zero (decide_eq_false e0) (decide_eq_false e1) p1 Nat.zero_add (decide_eq_true e2)) ?_
   exact⟨rfl,rfl,rfl,vq0,_,vr0,fun h=>by cases h⟩
  by_cases e3:(N.roots.length:Int)>4
  ·refine rgg [(4,14),(10,20),(16,26),(22,32),(27,37),(32,42),(37,47)] (an8 p0 Nat.add_zero (decide_eq_false e0) (decide_eq_false e1) p1 Nat.zero_add (decide_eq_false e2) (decide_eq_true e3)) ?_
   exact⟨rfl,rfl,rfl,vq0,_,vr0,fun h=>by cases h⟩
  by_cases e4:N.rw<0
  ·refine rgg [(4,14),(10,20),(16,26),(22,32),(27,37),(32,42),(37,47)] (an3 (an8 p0 Nat.add_zero (decide_eq_false e0) (decide_eq_false e1) p1 Nat.zero_add (decide_eq_false e2) (decide_eq_false e3)) p2 (decide_eq_true e4)) ?_
   exact⟨rfl,rfl,rfl,vq0,_,vr0,fun h=>by cases h⟩
  by_cases e5:N.rw>4
  ·refine rgg [(4,14),(10,20),(16,26),(22,32),(27,37),(32,42),(37,47)] (an4 (an8 p0 Nat.add_zero (decide_eq_false e0) (decide_eq_false e1) p1 Nat.zero_add (decide_eq_false e2) (decide_eq_false e3)) p2 (decide_eq_false e4) (decide_eq_true e5)) ?_
   exact⟨rfl,rfl,rfl,vq0,_,vr0,fun h=>by cases h⟩
  by_cases e6:N.rf<0
  ·refine rgg [(4,14),(10,20),(16,26),(22,32),(27,37),(32,42),(37,47)] (an6 (an8 p0 Nat.add_zero (decide_eq_false e0) (decide_eq_false e1) p1 Nat.zero_add (decide_eq_false e2) (decide_eq_false e3)) p2 (decide_eq_false e4) (decide_eq_false e5) p3 (decide_eq_true e6)) ?_
   exact⟨rfl,rfl,rfl,vq0,_,vr0,fun h=>by cases h⟩
  refine rgg [(4,14),(10,20),(16,26),(22,32),(27,37),(32,42),(37,47)] (an6 (an8 p0 Nat.add_zero (decide_eq_false e0) (decide_eq_false e1) p1 Nat.zero_add (decide_eq_false e2) (decide_eq_false e3)) p2 (decide_eq_false e4) (decide_eq_false e5) p3 (decide_eq_false e6)) ?_
  refine⟨rfl,rfl,rfl,vq0,_,vr0,fun h=>?_⟩
  simp only[decide_eq_false_iff_not]at h
  omega
 rintro _ σ1 _ w2 ⟨rfl,rfl,rfl,s1,t,s51,ht⟩
 repeat refine c_r ?_
 cases t with
 |true=>
  refine wt s51 ?_
  repeat (first|refine c_r ?_|refine rg0 ?_)
  refine rt0 Tryz.ntmps32 ?_
  exact⟨hE1,_,rfl,fun h=>by cases h⟩
 |false=>
 refine wf s51 ?_
 obtain⟨k1,k2,k3,k4⟩:=ht rfl
 clear ht s51
 repeat refine c_r ?_
 refine rq ?_;intro gd K hgd hK
 try simp (disch:=first|omega|assumption|rfl) only[go_sem,s1,p1,p2,p3,Nat.zero_add]
 refine⟨by kernel_rfl,?_⟩
 rw[show bdV Tryz.prog 156 [(1,.slice ar N.roots.length cr),(2,vi N.rw),(3,vi N.rf)]=some (.agg #[.slice Option.none 0 0,.slice ar N.roots.length cr,vi N.rw,vi N.rf]) from by kernel_rfl,←hrv]
 try simp only[go_sem]
 refine zbo (P:=Tryz.prog) (l:=[.slice Option.none 0 0,rv,vi N.rw,vi N.rf]) rfl (fun v hv=>by simp at hv;rcases hv with rfl|rfl|rfl|rfl<;>first|exact r1|rfl) rfl rfl ?_
 intro w3 hE2 hs2 hD
 try simp only[go_sem]
 refine hK _ _ ?_;clear hK hgd;clear K;try clear gd
 obtain⟨c3,hc3⟩:∃b,w2.heap.size=b:=⟨_,rfl⟩
 rw[hc3]at hD hs2 ⊢
 repeat refine c_r ?_
 refine rg0 ?_
 repeat refine c_r ?_
 refine zap (fun m σ ds A=>ds=[]∧∃(i:Nat) (ov:Value) (G:List (SrvL×(Value×List Value))),i+m=N.hosts.length∧σ 4=vi i∧σ 1= .pointer (some ⟨w.heap.size,0,Option.none⟩)∧σ 3= .pointer (some ⟨c3,0,Option.none⟩)∧Ext w2 A∧c3+1≤A.heap.size∧
  A.heap[c3]? =some (.cells #[ov,rv,vi N.rw,vi N.rf] 156 (0,0))∧GS w 163 (c3+1) A ov G∧G.map Prod.fst=(N.hosts.take i).map srvH∧∀j (h:j<N.hosts.length),j<i→N.hosts[j].zones.length≤4∧∀z∈N.hosts[j].zones,GoodZ z) N.hosts.length ?_ ?_
 ·exact⟨rfl,0,.slice Option.none 0 0,[],by omega,vr0,(vq1 s1),vq0,hE2,by omega,hD,⟨Owns.nil _ _ _ _ _,fun x h=>by cases h⟩,rfl,fun j h h2=>absurd h2 (by omega)⟩
 clear s1
 rintro m σ ds A ⟨rfl,i,ov,G,him,s4,s1,s3,hEA,hAs,hB3,hGS,hGf,hgood⟩
 have p0A:=zab hEA p0
 repeat refine c_r ?_
 refine rg4 s4 s1 p0A Nat.add_zero ?_
 repeat refine c_r ?_
 refine wc0 ?_ ?_
 ·intro hlt
  simp only[decide_eq_true_eq]at hlt
  have hi:i<N.hosts.length:=by omega
  have hi0:(0:Int)≤(i:Int):=by omega
  have hi1':(i:Int)+1=((i+1:Nat):Int):=by push_cast;rfl
  obtain⟨xa,xi,x5,nv,az,cz,rfl,hxi,hx5,g0,hn,g5,⟨b1,b2,b3,b4,hadr,hcs⟩,hpl⟩:=hat i hi
  have hvi:=hv _ (List.getElem_mem hi)
  obtain⟨s,hse⟩:∃s,N.hosts[i]=s:=⟨_,rfl⟩
  rw[hse]at hn g5 hadr hcs hvi
  simp only[hse]at hpl
  have n1:=hn.isOne
  have hz0:adr (some xi) 0=some xi:=zak _
  obtain⟨y1,hy1⟩:∃y,adr (some xi) 1=some y:=⟨_,rfl⟩
  have gby:zat w (some y1) 4=some [zag b1,zag b2,zag b3,zag b4]:=by
   have h5:=za9 (m:=1) (k:=5) hcs
   rw[hy1]at h5
   exact zcE (m:=4) (k:=1) h5
  obtain⟨an,cn,hnv,_⟩:=id hn
  repeat refine c_r ?_
  refine zaN (fun i=>i==14) [(0,true),(1,true),(2,true),(3,true),(4,true),(5,true),(6,true),(7,true),(8,true),(9,true),(10,true),(11,true),(12,true),(13,false),(14,false)] NoS mixed (by kernel_rfl) ?_;intro gd K x hgd hx hxe hK;clear hxe
  have hwx:=hE1.trans (hEA.trans hx)
  have p0x:=zab hx p0A
  have g0x:=zab hwx g0
  have gbx:=zae hwx gby
  simp (disch:=first|omega|assumption|rfl) only[go_sem,s4,s1,p0x,Nat.add_zero,hi0,hlt,hxi,hz0,hy1,g0x,gbx]
  refine⟨by kernel_rfl,?_⟩
  rw[hnv,show bdV Tryz.prog 163 [(0,.slice an (s.name.map vs).length cn),(1,.agg #[zag b1,zag b2,zag b3,zag b4])]=some (.agg #[.slice an (s.name.map vs).length cn,zag b1,zag b2,zag b3,zag b4,.slice Option.none 0 0]) from by kernel_rfl,←hnv]
  simp (disch:=first|omega|assumption|rfl) only[go_sem]
  refine⟨.inr (Ext.alloc x _),?_⟩
  refine zbo (P:=Tryz.prog) (l:=[nv,zag b1,zag b2,zag b3,zag b4,.slice Option.none 0 0]) rfl (fun v hv=>by simp at hv;rcases hv with rfl|rfl|rfl|rfl|rfl|rfl<;>first|exact n1|rfl) rfl rfl ?_
  intro A1 hE3 hs3 hB5
  refine⟨.inl rfl,?_⟩
  simp (disch:=first|omega|assumption|rfl) only[go_sem]
  refine hK _ _ ?_;clear hK hgd;clear K;try clear gd
  have hx3:=hx.trans hE3
  obtain⟨b5,hb5⟩:∃b,x.heap.size=b:=⟨_,rfl⟩
  have hsx:=hx.size
  rw[hb5]at hB5 hs3 hsx ⊢
  have hIP:IP w 163 166 b5 nv b1 b2 b3 b4 A A1 (.slice Option.none 0 0) []:=⟨hB5,Owns.nil _ _ _ _ _,hx3,hsx⟩
  have p01:=zab hx3 p0A
  have g51:=zab (hE1.trans (hEA.trans hx3)) g5
  clear p0x g0x gbx hx hwx hE3 hB5
  repeat refine c_r ?_
  by_cases h4:(s.zones.length:Int)>4
  ·refine rg9 s4 s1 p01 Nat.add_zero hi0 hlt hxi hx5 (an2 g51 (decide_eq_true h4)) ?_
   repeat refine c_r ?_
   refine wt trivial ?_
   repeat (first|refine c_r ?_|refine rg0 ?_)
   refine rt0 Tryz.ntmps32 ?_
   exact⟨hE1.trans (hEA.trans hx3),_,rfl,fun h=>by cases h⟩
  refine rg9 s4 s1 p01 Nat.add_zero hi0 hlt hxi hx5 (an2 g51 (decide_eq_false h4)) ?_
  repeat refine c_r ?_
  refine wf trivial ?_
  clear p01 g51 hx3
  repeat refine c_r ?_
  refine rg0 ?_
  repeat refine c_r ?_
  refine zap (fun m σ ds v=>ds=[]∧∃(k:Nat) (pv:Value),k+m=s.zones.length∧σ 6=vi k∧σ 4=vi i∧σ 1= .pointer (some ⟨w.heap.size,0,Option.none⟩)∧σ 3= .pointer (some ⟨c3,0,Option.none⟩)∧σ 5= .pointer (some ⟨b5,0,Option.none⟩)∧
   IP w 163 166 b5 nv b1 b2 b3 b4 A v pv ((s.zones.take k).map zg7)∧b5+1≤v.heap.size∧∀j (h:j<s.zones.length),j<k→GoodZ s.zones[j]) s.zones.length ?_ ?_
  ·exact⟨rfl,0,_,by omega,vr0,(vq1 s4),(vq1 s1),(vq1 s3),vq0,hIP,by omega,fun j h h2=>absurd h2 (by omega)⟩
  clear s4 s1 s3 hIP
  rintro m2 σ2 ds2 v ⟨rfl,k,pv,hkm,s6,s4,s1,s3,s5,hIP,hvs,hgz⟩
  have hEv:=hEA.trans hIP.e
  have hwv:=hE1.trans hEv
  have p0v:=zab hEv p0
  have g5v:=zab hwv g5
  repeat refine c_r ?_
  refine rg9 s6 s4 s1 (an3 p0v Nat.add_zero g5v) hi0 hlt hxi hx5 trivial ?_
  repeat refine c_r ?_
  refine wc0 ?_ ?_
  ·intro hlt2
   simp only[decide_eq_true_eq]at hlt2
   have hk:k<s.zones.length:=by omega
   have hk0:(0:Int)≤(k:Int):=by omega
   have hk1':(k:Int)+1=((k+1:Nat):Int):=by push_cast;rfl
   obtain⟨xp,xk,ow,lv,rfl,hxk,dz,ho,hl⟩:=hpl k hk
   obtain⟨z,hze⟩:∃z,s.zones[k]=z:=⟨_,rfl⟩
   have hnz:=hvi _ (List.getElem_mem hk)
   rw[hze]at ho hl hnz
   have o1:=ho.isOne
   have l1:=hl.isOne
   have dzv:=zae hwv dz
   repeat refine c_r ?_
   refine rq ?_;intro gd K hgd hK
   try simp (disch:=first|omega|assumption|rfl) only[go_sem,s6,s4,s1,p0v,Nat.add_zero,g5v,hi0,hlt,hxi,hx5,hk0,hlt2,hxk,dzv]
   refine zbo (P:=Tryz.prog) (l:=[ow,lv]) rfl (zd9 o1 l1) rfl rfl ?_
   intro v1 hE4 hs4' hB7
   try simp only[go_sem]
   refine hK _ _ ?_;clear hK hgd;clear K;try clear gd
   obtain⟨b7,hb7⟩:∃b,v.heap.size=b:=⟨_,rfl⟩
   rw[hb7]at hB7 hs4' ⊢
   have hwv1:=hwv.trans hE4
   have e0:zaf v1 (some ⟨b7,0,Option.none⟩)=some ow:=zac hB7 rfl
   have e1:zaf v1 (some ⟨b7,1,Option.none⟩)=some lv:=zac hB7 rfl
   obtain⟨al,cl,hlv,_⟩:=hl.open
   repeat refine c_r ?_
   refine zaC (Q:=fun e σ' ds' v'=>e= .normal∧ds'=[]∧σ' 6=vi k∧σ' 4=vi i∧σ' 1= .pointer (some ⟨w.heap.size,0,Option.none⟩)∧σ' 3= .pointer (some ⟨c3,0,Option.none⟩)∧σ' 5= .pointer (some ⟨b5,0,Option.none⟩)∧σ' 7= .pointer (some ⟨b7,0,Option.none⟩)∧Ext v1 v'∧∃t,σ' 132= .bool t∧(t=false→GoodZ z)) ?_ ?_
   ·refine zaN (fun _=>false) [(0,true),(1,true),(2,true),(3,true),(4,false),(5,true),(6,true),(7,true),(8,true),(9,true),(10,true),(11,true),(12,true),(13,true),(14,true),(16,true),(17,true),(18,true),(19,true),(15,false),(20,false),(21,false),(22,false),(23,false),(24,true),(25,true)] NoS mixed (by kernel_rfl) ?_;intro gd K x hgd hx hxe hK;clear hxe
    have hg6:∀n σ b,zas gd n σ (some (6,b))=zal (ev n σ (.tmp 113)) b:=(fun n σ b=>by rw[zad,show gd 6=some 113 from(by rw[hgd];rfl)];rfl);have hg12:∀n σ b,zas gd n σ (some (12,b))=zal (ev n σ (.tmp 119)) b:=(fun n σ b=>by rw[zad,show gd 12=some 119 from(by rw[hgd];rfl)];rfl)
    have e0x:=zab hx e0
    have e1x:=zab hx e1
    have hwx:=hwv1.trans hx
    simp (disch:=first|omega|assumption|rfl) only[go_sem,e0x,e1x,Nat.add_zero,Nat.zero_add]
    refine Fn.mono (ZGood_ok hwx (ho.ext hwx) (hl.ext hwx)) ?_
    rintro _ y1 ⟨hy1,b,rfl,hb⟩
    refine⟨.inr hy1,?_⟩
    cases b with
    |false=>
     simp (disch:=first|omega|assumption|rfl) only[go_sem,Bool.not_false,zaW,↓hg6,↓hg12]
     refine hK _ _ ?_;clear hK hgd;clear K;try clear gd
     exact⟨rfl,rfl,(vq1 s6),(vq1 s4),(vq1 s1),(vq1 s3),(vq1 s5),vq0,hx.trans hy1,_,vr0,fun h=>by cases h⟩
    |true=>
    obtain⟨go,gR⟩:=hb rfl
    have hrok:=zgz gR hnz
    have hRl:=gR.len
    have e1y:=zab hy1 e1x
    rw[hlv]at e1y
    by_cases h20:(z.recs.length:Int)>20
    ·simp (disch:=first|omega|assumption|rfl) only[go_sem,Bool.not_true,zaW,e1y,Nat.zero_add,decide_eq_true h20,↓hg6,↓hg12]
     refine hK _ _ ?_;clear hK hgd;clear K;try clear gd
     exact⟨rfl,rfl,(vq1 s6),(vq1 s4),(vq1 s1),(vq1 s3),(vq1 s5),vq0,hx.trans hy1,_,vr0,fun h=>by cases h⟩
    have e0y1:=zab hy1 e0x
    simp (disch:=first|omega|assumption|rfl) only[go_sem,Bool.not_true,zaW,e1y,e0y1,Nat.zero_add,Nat.add_zero,decide_eq_false h20,↓hg6,↓hg12]
    rw[←hlv]
    have hwy1:=hwx.trans hy1
    refine Fn.mono (zjd hwy1 (hl.ext hwy1) (fun r hr=>(gR.few r hr).2.nn) (by omega)) ?_
    rintro l1v y2 ⟨hy2,hl2⟩
    refine⟨.inr hy2,?_⟩
    have hwy2:=hwy1.trans hy2
    have e0y:=zab (hy1.trans hy2) e0x
    have e1y2:=zab (hy1.trans hy2) e1x
    simp (disch:=first|omega|assumption|rfl) only[go_sem,e0y,e1y2,Nat.add_zero,Nat.zero_add,zaW,↓hg6,↓hg12]
    refine Fn.mono (zjd hwy2 (hl.ext hwy2) (fun r hr=>(gR.few r hr).2.nn) (by omega)) ?_
    rintro l2v y3 ⟨hy3,hl3⟩
    refine⟨.inr hy3,?_⟩
    have hwy3:=hwy2.trans hy3
    simp (disch:=first|omega|assumption|rfl) only[go_sem,zaW,↓hg6,↓hg12]
    refine Fn.mono (RZNew_ok (Keep.refl _ y3) (ho.ext hwy3) hl3 hrok (by omega)) ?_
    rintro _ y4 ⟨hy4,cv,rfl,hcv⟩
    refine⟨.inr hy4,?_⟩
    have hl4:Rows 7 (RecAt y4) y4 l1v z.recs:=Rows.extC (fun _ _ h=>RecAt.ext h (hy3.trans hy4)) hl2 (hy3.trans hy4)
    have hcv4:=RecAt.up hcv hy4
    simp (disch:=first|omega|assumption|rfl) only[go_sem,zaW,↓hg6,↓hg12]
    refine op_field (P:=Tryz.prog) (v:=cv) rfl rfl rfl rfl (vr0) rfl ?_
    refine⟨.inr (Keep.refl _ _),?_⟩
    refine Fn.mono (Is5_ok y4 hl4 hcv4 (fun r hr=>⟨(hrok r hr).len,(hrok r hr).dat.n⟩) (by omega)) ?_
    rintro _ y5 ⟨hy5,t,rfl,ht⟩
    refine⟨.inr hy5,?_⟩
    simp (disch:=first|omega|assumption|rfl) only[go_sem,zaW,↓hg6,↓hg12]
    refine hK _ _ ?_;clear hK hgd;clear K;try clear gd
    refine⟨rfl,rfl,(vq1 s6),(vq1 s4),(vq1 s1),(vq1 s3),(vq1 s5),vq0,((((hx.trans hy1).trans hy2).trans hy3).trans hy4).trans hy5,_,vr0,fun h=>⟨go,gR,hnz,(ht ?_).symm⟩⟩
    simpa using h
   clear s6 s4 s1 s3 s5
   rintro _ σ3 _ v2 ⟨rfl,rfl,s6,s4,s1,s3,s5,s7,hE5,t,s132,hzt⟩
   repeat refine c_r ?_
   cases t with
   |true=>
    refine wt s132 ?_
    repeat (first|refine c_r ?_|refine rg0 ?_)
    refine rt0 Tryz.ntmps32 ?_
    exact⟨hwv1.trans hE5,_,rfl,fun h=>by cases h⟩
   |false=>
   refine wf s132 ?_
   have hgzk:=hzt rfl
   clear s132 hzt
   have hE45:=hE4.trans hE5
   have hIP2:=hIP.h
   have hB52:=Ext.at hE45 hIP.h
   have q5:zaf v2 (some ⟨b5,5,Option.none⟩)=some pv:=zac hB52 rfl
   have e02:=zab hE5 e0
   have lo:=hIP.lo
   have hsz2:=hE45.size
   obtain⟨ao,co,how,_⟩:=id ho
   repeat refine c_r ?_
   refine rq ?_;intro gd K hgd hK
   try simp (disch:=first|omega|assumption|rfl) only[go_sem,s5,s7,q5,e02,Nat.add_zero,Nat.zero_add]
   refine⟨by kernel_rfl,?_⟩
   rw[how,show bdV Tryz.prog 166 [(0,.slice ao (z.o.map vs).length co),(1,vs [120])]=some (.agg #[.slice ao (z.o.map vs).length co,vs [120]]) from by kernel_rfl,←how]
   try simp only[go_sem]
   refine zaT (zcJ w) (l:=[ow,vs [120]]) (a:=zg7 z) (by rfl) (by rfl) (by rfl) (by rfl) ⟨ow,rfl,ho⟩ (by decide) ?_
   intro v3 hE6 hs6' ho6
   try simp only[go_sem]
   have hx04:=hE45.trans hE6
   have hsz4:=hx04.size
   refine zaI (zcJ w) (hIP.own.ext hx04) ho6.rows (by rfl) (by rfl) (by rfl) (by rfl) (by rfl) (by rfl) (by decide) (vr0) (vr0) (by simp;omega) (by decide) (by omega) ?_
   intro pv' v4 ho7 hE7 hk7 hb7'
   obtain⟨ap',cp',hpv',_⟩:=ho7.rows.open
   try simp (disch:=first|omega|assumption|rfl) only[go_sem,s5,Nat.zero_add]
   refine zaV (P:=Tryz.prog) (t:=161) (j:=5) (u:=pv') (l:=[nv,zag b1,zag b2,zag b3,zag b4,pv]) ((hk7.block _ (by omega) (fun hb=>by have:=(hIP.own.ge hb).1;omega)).trans (Ext.at hx04 hIP.h)) (by simp) (by rw[hpv'];rfl) rfl rfl ?_
   intro v5 hs5' hB5' hk5'
   try simp only[go_sem]
   refine hK _ _ ?_;clear hK hgd;clear K;try clear gd
   have hIPn:=hIP.app hx04 ho7 hk7 hB5' hk5'
   have hs7:=hk7.size
   repeat refine c_r ?_
   refine rg2 s6 hk1' ?_
   repeat refine c_r ?_
   refine⟨m2 - 1,by omega,rfl,k+1,pv',by omega,vq0,(vq1 s4),(vq1 s1),(vq1 s3),(vq1 s5),?_,by omega,fun j hj hjk=>?_⟩
   ·rw[zao hk,List.map_append,hze];exact hIPn
   ·by_cases hj2:j=k
    ·subst hj2;rw[hze];exact hgzk
    ·exact hgz j hj (by omega)
  ·intro hge2
   simp only[decide_eq_false_iff_not]at hge2
   have hfull:(s.zones.take k).map zg7=s.zones.map zg7:=by rw[List.take_of_length_le (by omega)]
   rw[hfull]at hIP
   obtain⟨ap',cp',hpv',_⟩:=hIP.own.rows.open
   have lo:=hIP.lo
   have dB:zat v (some ⟨b5,0,Option.none⟩) 6=some [nv,zag b1,zag b2,zag b3,zag b4,pv]:=zah hIP.h rfl
   have q3:zaf v (some ⟨c3,0,Option.none⟩)=some ov:=zac (Ext.at hIP.e hB3) rfl
   have ones6:∀q∈ [nv,zag b1,zag b2,zag b3,zag b4,pv],one q=true:=fun q hq=>by
    simp at hq
    rcases hq with rfl|rfl|rfl|rfl|rfl|rfl<;>first|exact n1|rfl| (rw[hpv'];rfl)
   have hGl:G.length=i:=by
    have:=congrArg List.length hGf
    simp at this;omega
   repeat refine c_r ?_
   refine rq ?_;intro gd K hgd hK
   try simp (disch:=first|omega|assumption|rfl) only[go_sem,s3,s5,q3,dB,Nat.add_zero]
   refine zaT (C:=gxC) zeO (l:=[nv,zag b1,zag b2,zag b3,zag b4,pv]) (a:=(srvH s,(pv,[nv,zag b1,zag b2,zag b3,zag b4,pv]))) (by rfl) (by rfl) (by rfl) (by rfl) ⟨rfl,rfl,ones6⟩ (by decide) ?_
   intro v1 hE4 hs4' ho4
   try simp only[go_sem]
   have hAv1:=hIP.e.trans hE4
   have hsA1:=hAv1.size
   refine zaI zeO ((hGS.ext hAv1).own) ho4.rows (by rfl) (by rfl) (by rfl) (by rfl) (by rfl) (by rfl) (by decide) (vr0) (vr0) (by simp;omega) (by decide) (by omega) ?_
   intro ov' v2 ho5 hE5 hk5 hb5'
   obtain⟨ao',co',hov',_⟩:=ho5.rows.open
   try simp (disch:=first|omega|assumption|rfl) only[go_sem,s3,Nat.add_zero]
   refine zaV (P:=Tryz.prog) (t:=154) (j:=0) (u:=ov') (l:=[ov,rv,vi N.rw,vi N.rf]) ((hk5.block _ (by omega) (fun hb=>by have:=(hGS.own.ge hb).1;omega)).trans (Ext.at hAv1 hB3)) (by simp) (by rw[hov'];rfl) rfl rfl ?_
   intro v3 hs3' hB3' hk3'
   try simp only[go_sem]
   refine hK _ _ ?_;clear hK hgd;clear K;try clear gd
   have hGS2:=hGS.app hAv1 hAs (x:=(srvH s,(pv,[nv,zag b1,zag b2,zag b3,zag b4,pv]))) ⟨nv,b1,b2,b3,b4,rfl,hadr,hn,hIP.own.rows.ext hE4⟩ ((hIP.own.blk.mono (by omega)).ext hE4.size) ho5 hk5 hb5'
   have hGS3:=hGS2.keep hk3' (fun b h1 _ h2=>by omega)
   have hs5:=hk5.size
   repeat refine c_r ?_
   refine rg2 s4 hi1' ?_
   repeat refine c_r ?_
   refine⟨m - 1,by omega,rfl,i+1,ov',_,by omega,vq0,(vq1 s1),(vq1 s3),Keep.to_ext (hE5 w2 (hEA.trans hAv1) (by omega)) rfl (fun b hb=>by omega) hk3',by omega,hB3',hGS3,?_,fun j hj hji=>?_⟩
   ·rw[zao hi,List.map_append,List.map_append,hGf,hse];rfl
   ·by_cases hj2:j=i
    ·subst hj2
     rw[hse]
     refine⟨by omega,fun z hz=>?_⟩
     obtain⟨k2,hk2,rfl⟩:=List.mem_iff_getElem.1 hz
     exact hgz k2 hk2 (by omega)
    ·exact hgood j hj (by omega)
 ·intro hge
  simp only[decide_eq_false_iff_not]at hge
  rw[List.take_of_length_le (by omega)]at hGf
  have hEw:=hE1.trans hEA
  have hrows:=hGS.rows hEw
  rw[hGf]at hrows
  have o1:=hrows.isOne
  have dx:=zah (n:=4) (l:=[ov,rv,vi N.rw,vi N.rf]) hB3 rfl
  have hcf:ConfAt A [ov,rv,vi N.rw,vi N.rf] (confN N):=⟨ov,rv,rfl,hrows,hr0.ext hEw⟩
  repeat refine c_r ?_
  refine rc (an2 s3 dx) (Few15_ok A hcf) ?_
  rintro _ A1 ⟨hE3,t,rfl,hfew⟩
  refine re trivial ?_
  repeat refine c_r ?_
  cases t with
  |false=>
   refine wt Bool.not_false ?_
   repeat (first|refine c_r ?_|refine rg0 ?_)
   refine rt0 Tryz.ntmps32 ?_
   exact⟨hEw.trans hE3,_,rfl,fun h=>by cases h⟩
  |true=>
  refine wf Bool.not_true ?_
  have hf:=hfew rfl
  have dx1:=zae hE3 dx
  repeat refine c_r ?_
  refine rc (an2 s3 dx1) (Of15_ok A1 (hcf.ext hE3) hf) ?_
  rintro _ A2 ⟨hE4,cs',rfl,hcf2⟩
  refine rd trivial (zhU A2 hcf2 hf) ?_
  rintro _ A3 ⟨hE5,a,e,rfl,he⟩
  refine re trivial ?_
  repeat refine c_r ?_
  refine rg0 ?_
  repeat refine c_r ?_
  refine rt0 Tryz.ntmps32 ?_
  refine⟨hEw.trans (hE3.trans (hE4.trans hE5)),_,rfl,fun h=>?_⟩
  have hro:=he (by simpa using h)
  have hgj:∀h∈N.hosts,h.zones.length≤4∧∀z∈h.zones,GoodZ z:=fun h hh=>by
   obtain⟨j,hj,rfl⟩:=List.mem_iff_getElem.1 hh
   exact hgood j hj (by omega)
  refine⟨⟨by omega,fun h hh=>(hf.s (srvH h) (List.mem_map_of_mem hh)).1.m,fun h hh=>by have:=(hgj h hh).1;omega,fun h hh=>(hgj h hh).2,by omega⟩,k1,k2,fun r hr=>?_,k3,k4,fun h hh=>(hgj h hh).1,fun h hh=>(hf.s (srvH h) (List.mem_map_of_mem hh)).1⟩
  have:=hro.inn r hr
  rw[show (confN N).servers.length=N.hosts.length from List.length_map _]at this
  exact this
def zhJ{α:Type}(X:World→α→Prop)(K:α→Nat→Prop):Prop:=∀{A A':World} {S:Nat→Prop} {x:α},X A x→(∀b,K x b→b<A.heap.size)→Keep S A A'→(∀b,K x b→¬S b)→X A' x
structure GX{α:Type}(X:World→α→Prop)(K:α→Nat→Prop)(k:Nat)(C:List Value→α→Prop)(e:TypeId)(B:Nat)(A:World)(ov:Value)(G:List α):Prop where
 own:Owns k C B A e ov G
 row:∀x∈G,X A x∧(∀b,K x b→B≤b∧b<A.heap.size)∧∀b,K x b→some b≠ov.ownBlock
def gxK{α:Type}(K:α→Nat→Prop)(ov:Value)(G:List α)(b:Nat):Prop:=(∃x∈G,K x b)∨some b=ov.ownBlock
section
variable {α : Type} {X : World → α → Prop} {K : α → Nat → Prop} {k : Nat} {C : List Value → α → Prop} {e : TypeId} {B : Nat} {A A' A1 A2 : World} {ov ov' : Value} {G : List α}
theorem GX.keep(h:GX X K k C e B A ov G)(st:zhJ X K){S:Nat→Prop}(hk:Keep S A A')(hS:∀b,gxK K ov G b→¬S b):GX X K k C e B A' ov G:=
 ⟨h.own.keep hk (fun b hb=>hS b (.inr hb)),fun x hx=>by
  obtain⟨h1,h2,h3⟩:=h.row x hx
  exact⟨st h1 (fun b hb=>(h2 b hb).2) hk (fun b hb=>hS b (.inl ⟨x,hx,hb⟩)),fun b hb=>⟨(h2 b hb).1,Nat.lt_of_lt_of_le (h2 b hb).2 hk.size⟩,h3⟩⟩
theorem GX.in(h:GX X K k C e B A ov G){b:Nat}(hb:gxK K ov G b):B≤b∧b<A.heap.size:=by
 rcases hb with ⟨x,hx,hb⟩|hb
 ·exact(h.row x hx).2.1 b hb
 ·exact h.own.ge hb
theorem GX.ext(h:GX X K k C e B A ov G)(st:zhJ X K)(hE:Ext A A'):GX X K k C e B A' ov G:=h.keep st hE (fun _ _ h=>h)
theorem GX.app{x:α}(h:GX X K k C e B A ov G)(st:zhJ X K)(hE:Ext A A1)(hB:B≤A.heap.size)(hx:X A1 x)(hxb:∀b,K x b→A.heap.size≤b∧b<A1.heap.size)
  (ho:Owns k C B A2 e ov' (G++ [x])) (hk:Keep (fun b=>some b=ov.ownBlock) A1 A2) (hob:∀b,some b=ov'.ownBlock→some b=ov.ownBlock∨A1.heap.size≤b):GX X K k C e B A2 ov' (G++ [x]):=by
 refine⟨ho,fun y hy=>?_⟩
 have h1:=h.ext st hE
 have hy2:X A1 y∧(∀b,K y b→B≤b∧b<A1.heap.size)∧∀b,K y b→some b≠ov.ownBlock:=by
  rcases List.mem_append.1 hy with hy|hy
  ·exact h1.row y hy
  ·rw[List.mem_singleton.1 hy]
   exact⟨hx,fun b hb=>by have:=hxb b hb;omega,fun b hb he=>by have:=hxb b hb;have:=(h.own.ge he).2;omega⟩
 obtain⟨g1,g2,g3⟩:=hy2
 refine⟨st g1 (fun b hb=>(g2 b hb).2) hk g3,fun b hb=>by have:=g2 b hb;have:=hk.size;omega,fun b hb he=>?_⟩
 rcases hob b he with e|e
 ·exact g3 b hb e
 ·have:=(g2 b hb).2;omega
end
abbrev ZX:=zci×(Value×(Value×List OX))
def zxX(w0:World)(A:World)(x:ZX):Prop:=Row w0 x.2.1 (x.1.o.map vs)∧x.2.2.2.map Prod.fst=x.1.recs∧∃B,OI w0 B A x.2.2.1 x.2.2.2
def zxK(x:ZX)(b:Nat):Prop:=some b=x.2.2.1.ownBlock∨∃y∈x.2.2.2,∃a n c,y.2.1= .slice (some a) n c∧b=a.block
def zxC(cs:List Value)(x:ZX):Prop:=cs=[x.2.1,x.2.2.1]∧one x.2.1=true∧one x.2.2.1=true
theorem ziy:zdb 2 zxC:=⟨fun h=>by rw[h.1];rfl,fun h=>by rw[h.1];exact zd9 h.2.1 h.2.2⟩
theorem zcU(w0:World):zhJ (zxX w0) zxK:=by
 intro A A' S x h hK hk hS
 obtain⟨h1,h2,B,h3⟩:=h
 exact⟨h1,h2,B,h3.own.keep hk (fun b hb=>hS b (.inl hb)),fun y hy=>by
  obtain⟨g1,g2⟩:=h3.row y hy
  exact⟨g1.keep hk (fun a n c hv=>hS _ (.inr ⟨y,hy,a,n,c,hv,rfl⟩)),g2⟩⟩
theorem zx_in{w0 A:World}{B:Nat}{x:ZX}(h:OI w0 B A x.2.2.1 x.2.2.2):∀b,zxK x b→B≤b∧b<A.heap.size:=fun b hb=>by
 rcases hb with hb| ⟨y,hy,a,n,c,hv,rfl⟩
 ·exact h.own.ge hb
 ·exact(h.row y hy).1.blk a n c hv
theorem zx_zone{w0 A:World}{x:ZX}(h:zxX w0 A x)(hE:Ext w0 A):ZoneC A [x.2.1,x.2.2.1] x.1:=by
 obtain⟨h1,h2,B,h3⟩:=h
 have:=h3.rows hE
 rw[h2]at this
 exact⟨_,_,rfl,h1.ext hE,this⟩
abbrev HX:=zd8×(Value×(List Value×List ZX))
def hxX(w0:World)(ez:TypeId)(A:World)(x:HX):Prop:=(∃nv a b c d,x.2.2.1=[nv,zag a,zag b,zag c,zag d,x.2.1]∧x.1.addr=[a,b,c,d]∧Row w0 nv (x.1.name.map vs))∧x.2.2.2.map Prod.fst=x.1.zones∧∃B,GX (zxX w0) zxK 2 zxC ez B A x.2.1 x.2.2.2
def hxK(x:HX)(b:Nat):Prop:=gxK zxK x.2.1 x.2.2.2 b
def hxC(cs:List Value)(x:HX):Prop:=cs=x.2.2.1∧cs.length=6∧∀q∈cs,one q=true
theorem ziO:zdb 6 hxC:=⟨fun h=>h.2.1,fun h=>h.2.2⟩
theorem zd1(w0:World)(ez:TypeId):zhJ (hxX w0 ez) hxK:=by
 intro A A' S x h hK hk hS
 obtain⟨h1,h2,B,h3⟩:=h
 exact⟨h1,h2,B,h3.keep (zcU w0) hk hS⟩
theorem hx_host{w0 A:World}{ez:TypeId}{x:HX}(h:hxX w0 ez A x)(hE:Ext w0 A):HostC A x.2.2.1 x.1:=by
 obtain⟨⟨nv,a,b,c,d,e,ha,hn⟩,h2,B,h3⟩:=h
 have hz:Rows 2 (ZoneC A) A x.2.1 (x.2.2.2.map Prod.fst):=h3.own.rows.mapM (C':=ZoneC A) Prod.fst fun cs y hy hc=>by
  rw[hc.1]
  exact zx_zone (h3.row y hy).1 hE
 rw[h2]at hz
 exact⟨nv,a,b,c,d,_,e,ha,hn.ext hE,hz⟩
theorem ziP{w0 A:World}{ez eh:TypeId}{B:Nat}{ov:Value}{G:List HX}(h:GX (hxX w0 ez) hxK 6 hxC eh B A ov G)(hE:Ext w0 A):Rows 6 (HostC A) A ov (G.map Prod.fst):=
 h.own.rows.mapM (C':=HostC A) Prod.fst fun cs y hy hc=>by
  rw[hc.1]
  exact hx_host (h.row y hy).1 hE
set_option maxHeartbeats 1000000 in
theorem ZOf_ok{w0 w:World}(hE0:Ext w0 w){ov lv:Value}{o:Nm}{R:List RecL}(ho:Row w0 ov (o.map vs))(hl:Rows 7 (RecAt w0) w lv R)(hnn:∀r∈R,r.dat.names.length≤1000000000)(hlen:R.length≤1000000000):
  Fn Tryz.prog 95 #[.agg #[ov,lv]] w (fun v w'=>Ext w w'∧∃lv' G,v= .agg #[ov,lv']∧OI w0 (w.heap.size+2) w' lv' G∧G.map Prod.fst=R):=by
 obtain⟨ao,co,hov,_⟩:=id ho
 obtain⟨al,cl,hlv,_⟩:=hl.open
 refine enter Tryz.func95 Tryz.ntmps95 rfl rfl ?_
 repeat refine c_r ?_
 rw[hov,hlv]
 refine rg0 ?_
 rw[←hov,←hlv]
 repeat refine c_r ?_
 rw[zam]
 refine zaH ?_
 intro w1 hE1 hs1 hA hC
 have p0:zaf w1 (some ⟨w.heap.size,0,Option.none⟩)=some ov:=zac hA rfl
 have p1:zaf w1 (some ⟨w.heap.size,1,Option.none⟩)=some lv:=zac hA rfl
 repeat refine c_r ?_
 refine zaN (fun i=>i==6) [(0,true),(1,true),(2,true),(3,true),(4,false),(5,true),(6,false)] NoS mixed (by kernel_rfl) ?_;intro gd K x hgd hx hxe hK;clear hxe
 have p0x:=zab hx p0
 have p1x:=zab hx p1
 have hxs:=hx.size
 simp (disch:=first|omega|assumption|rfl) only[go_sem,p0x,p1x,Nat.add_zero,Nat.zero_add]
 refine Fn.mono (zhP (hE0.trans (hE1.trans hx)) (hl.ext (hE1.trans hx)) hnn hlen) ?_
 rintro lv' w2 ⟨hE2,G,hOI,hG⟩
 refine⟨.inr hE2,?_⟩
 obtain⟨al',cl',hlv',_⟩:=hOI.own.rows.open
 simp (disch:=first|omega|assumption|rfl) only[go_sem,p0x,p1x,Nat.add_zero,Nat.zero_add]
 refine⟨by kernel_rfl,?_⟩
 rw[hov,hlv',show bdV Tryz.prog 43 [(0,.slice ao (o.map vs).length co),(1,.slice al' G.length cl')]=some (.agg #[.slice ao (o.map vs).length co,.slice al' G.length cl']) from by kernel_rfl,←hov,←hlv']
 simp (disch:=first|omega|assumption|rfl) only[go_sem]
 refine zaE (P:=Tryz.prog) (t:=43) (l:=[ov,lv']) (Ext.at (hx.trans hE2) hC) rfl (zd9 ho.isOne (by rw[hlv'];rfl)) rfl rfl ?_
 intro z hz' hbz hkz
 refine⟨.inl rfl,?_⟩
 simp (disch:=first|omega|assumption|rfl) only[go_sem]
 refine hK _ _ ?_;clear hK hgd;clear K;try clear gd
 repeat refine c_r ?_
 refine zay (.inr rfl) Tryz.ntmps95 rfl (zaL (x:=⟨w.heap.size+1,0,Option.none⟩) (k:=2) (vq0) rfl rfl (zah hbz rfl) zau) ?_
 have hEz:Ext w z:=Keep.to_ext (hE1.trans (hx.trans hE2)) rfl (fun b hb=>by omega) hkz
 refine⟨hEz,lv',G,rfl,⟨(hOI.own.keep hkz (fun b hb h=>by have:=(hOI.own.ge hb).1;omega)).mono (by omega),fun y hy=>?_⟩,hG⟩
 obtain⟨g1,g2⟩:=hOI.row y hy
 exact⟨(g1.keep hkz (fun a n c hv h=>by have:=(g1.blk a n c hv).1;omega)).mono (by omega),g2⟩
structure IZ(w0:World)(es ez:TypeId)(b5:Nat)(nv:Value)(a b c d:UInt8)(A0 v:World)(pv:Value)(zs:List ZX):Prop where
 h:v.heap[b5]? =some (.cells #[nv,zag a,zag b,zag c,zag d,pv] es (0,0))
 g:GX (zxX w0) zxK 2 zxC ez (b5+1) v pv zs
 e:Ext A0 v
 lo:A0.heap.size≤b5
theorem IZ.app{w0 A0 v v1 v2 v3:World}{es ez:TypeId}{b5:Nat}{nv pv pv':Value}{a b c d:UInt8}{zs:List ZX}{x:ZX}(h:IZ w0 es ez b5 nv a b c d A0 v pv zs)(hE:Ext v v1)(hB:b5+1≤v.heap.size)(hx:zxX w0 v1 x)(hxb:∀b,zxK x b→v.heap.size≤b∧b<v1.heap.size)
  (ho:Owns 2 zxC (b5+1) v2 ez pv' (zs++ [x])) (hk:Keep (fun b=>some b=pv.ownBlock) v1 v2) (hob:∀b,some b=pv'.ownBlock→some b=pv.ownBlock∨v1.heap.size≤b) (h3:v3.heap[b5]? =some (.cells #[nv,zag a,zag b,zag c,zag d,pv'] es (0,0))) (hk3:Keep (fun b=>b=b5) v2 v3):
  IZ w0 es ez b5 nv a b c d A0 v3 pv' (zs++ [x]):=by
 have lo:=h.lo
 have e2:Ext A0 v2:=Keep.to_ext (h.e.trans hE) rfl (fun b hb=>by have:=(h.g.own.ge hb).1;omega) hk
 have g2:=h.g.app (zcU w0) hE hB hx hxb ho hk hob
 exact⟨h3,g2.keep (zcU w0) hk3 (fun b hb hb2=>by have:=(g2.in hb).1;omega),Keep.to_ext e2 rfl (fun b hb=>by omega) hk3,lo⟩
set_option maxHeartbeats 4000000 in
theorem Of16_ok(w:World){cs:List Value}{c:NetL}(hc:NetAt w cs c)(hf:NetZ c):
  Fn Tryz.prog 34 #[.agg cs.toArray] w (fun v w'=>Ext w w'∧∃cs',v= .agg cs'.toArray∧NetAt w' cs' c):=by
 obtain⟨sv,rv,rfl,hs,hr⟩:=hc.ex
 obtain⟨aS,cS,rfl,hat⟩:=zkW hs
 have hr0:=hr
 have r1:=hr.isOne
 obtain⟨ar,cr,hrv,_,hgr⟩:=hr
 have hsl:=hf.hl
 refine enter Tryz.func34 Tryz.ntmps34 rfl rfl ?_
 repeat refine c_r ?_
 rw[hrv]
 refine rg0 ?_
 rw[←hrv]
 repeat refine c_r ?_
 rw[zam]
 refine zaH ?_
 intro w1 hE1 hs1 hA hC
 have p0:zaf w1 (some ⟨w.heap.size,0,Option.none⟩)=some (.slice aS c.hosts.length cS):=zac hA rfl
 have p1:zaf w1 (some ⟨w.heap.size,1,Option.none⟩)=some rv:=zac hA rfl
 have p2:zaf w1 (some ⟨w.heap.size,2,Option.none⟩)=some (vi c.rw):=zac hA rfl
 have p3:zaf w1 (some ⟨w.heap.size,3,Option.none⟩)=some (vi c.rf):=zac hA rfl
 repeat refine c_r ?_
 refine rq ?_;intro gd K hgd hK
 try simp (disch:=first|omega|assumption|rfl) only[go_sem,p1,p2,p3,Nat.zero_add]
 refine⟨by kernel_rfl,?_⟩
 rw[hrv,show bdV Tryz.prog 72 [(1,.slice ar (c.roots.map vi).length cr),(2,vi c.rw),(3,vi c.rf)]=some (.agg #[.slice Option.none 0 0,.slice ar (c.roots.map vi).length cr,vi c.rw,vi c.rf]) from by kernel_rfl,←hrv]
 try simp only[go_sem]
 refine zbo (P:=Tryz.prog) (l:=[.slice Option.none 0 0,rv,vi c.rw,vi c.rf]) rfl (fun v hv=>by simp at hv;rcases hv with rfl|rfl|rfl|rfl<;>first|exact r1|rfl) rfl rfl ?_
 intro w2 hE2 hs2 hD
 try simp only[go_sem]
 refine hK _ _ ?_;clear hK hgd;clear K;try clear gd
 obtain⟨c3,hc3⟩:∃b,w1.heap.size=b:=⟨_,rfl⟩
 rw[hc3]at hD hs2 ⊢
 have hE12:=hE1.trans hE2
 have p0w:=zab hE2 p0
 repeat refine c_r ?_
 refine rg0 ?_
 repeat refine c_r ?_
 refine zap (fun m σ ds A=>ds=[]∧∃(i:Nat) (ov:Value) (G:List HX),i+m=c.hosts.length∧σ 4=vi i∧σ 1= .pointer (some ⟨w.heap.size,0,Option.none⟩)∧σ 2= .pointer (some ⟨w.heap.size+1,0,Option.none⟩)∧σ 3= .pointer (some ⟨c3,0,Option.none⟩)∧Ext w1 A∧c3+1≤A.heap.size∧
  A.heap[c3]? =some (.cells #[ov,rv,vi c.rw,vi c.rf] 72 (0,0))∧GX (hxX w 43) hxK 6 hxC 176 (c3+1) A ov G∧G.map Prod.fst=c.hosts.take i) c.hosts.length ?_ ?_
 ·exact⟨rfl,0,.slice Option.none 0 0,[],by omega,vr0,vq0,vq0,vq0,hE2,by omega,hD,⟨Owns.nil _ _ _ _ _,fun x h=>by cases h⟩,rfl⟩
 rintro m σ ds A ⟨rfl,i,ov,G,him,s4,s1,s2,s3,hEA,hAs,hB3,hGS,hGf⟩
 have p0A:=zab hEA p0
 repeat refine c_r ?_
 refine rg4 s4 s1 p0A Nat.add_zero ?_
 repeat refine c_r ?_
 refine wc0 ?_ ?_
 ·intro hlt
  simp only[decide_eq_true_eq]at hlt
  have hi:i<c.hosts.length:=by omega
  have hi0:(0:Int)≤(i:Int):=by omega
  have hi1':(i:Int)+1=((i+1:Nat):Int):=by push_cast;rfl
  obtain⟨xa,xi,x5,nv,ap,cp,rfl,hxi,hx5,g0,hn,g5,⟨b1,b2,b3,b4,hadr,hcs⟩,hpl⟩:=hat i hi
  obtain⟨s,hse⟩:∃s,c.hosts[i]=s:=⟨_,rfl⟩
  have fs2:=hf.zl s (hse▸List.getElem_mem hi)
  have fs3:=hf.z s (hse▸List.getElem_mem hi)
  rw[hse]at hn g5 hadr hcs
  simp only[hse]at hpl
  have n1:=hn.isOne
  have hz0:adr (some xi) 0=some xi:=zak _
  obtain⟨y1,hy1⟩:∃y,adr (some xi) 1=some y:=⟨_,rfl⟩
  have gby:zat w (some y1) 4=some [zag b1,zag b2,zag b3,zag b4]:=by
   have h5:=za9 (m:=1) (k:=5) hcs
   rw[hy1]at h5
   exact zcE (m:=4) (k:=1) h5
  obtain⟨an,cn,hnv,_⟩:=id hn
  repeat refine c_r ?_
  refine zaN (fun i=>i==14) [(0,true),(1,true),(2,true),(3,true),(4,true),(5,true),(6,true),(7,true),(8,true),(9,true),(10,true),(11,true),(12,true),(13,false),(14,false)] NoS mixed (by kernel_rfl) ?_;intro gd K x hgd hx hxe hK;clear hxe
  have hwx:=hE1.trans (hEA.trans hx)
  have p0x:=zab hx p0A
  have g0x:=zab hwx g0
  have gbx:=zae hwx gby
  simp (disch:=first|omega|assumption|rfl) only[go_sem,s4,s1,p0x,Nat.add_zero,hi0,hlt,hxi,hz0,hy1,g0x,gbx]
  refine⟨by kernel_rfl,?_⟩
  rw[hnv,show bdV Tryz.prog 176 [(0,.slice an (s.name.map vs).length cn),(1,.agg #[zag b1,zag b2,zag b3,zag b4])]=some (.agg #[.slice an (s.name.map vs).length cn,zag b1,zag b2,zag b3,zag b4,.slice Option.none 0 0]) from by kernel_rfl,←hnv]
  simp (disch:=first|omega|assumption|rfl) only[go_sem]
  refine⟨.inr (Ext.alloc x _),?_⟩
  refine zbo (P:=Tryz.prog) (l:=[nv,zag b1,zag b2,zag b3,zag b4,.slice Option.none 0 0]) rfl (fun v hv=>by simp at hv;rcases hv with rfl|rfl|rfl|rfl|rfl|rfl<;>first|exact n1|rfl) rfl rfl ?_
  intro A1 hE3 hs3 hB5
  refine⟨.inl rfl,?_⟩
  simp (disch:=first|omega|assumption|rfl) only[go_sem]
  refine hK _ _ ?_;clear hK hgd;clear K;try clear gd
  have hx3:=hx.trans hE3
  obtain⟨b5,hb5⟩:∃b,x.heap.size=b:=⟨_,rfl⟩
  have hsx:=hx.size
  rw[hb5]at hB5 hs3 hsx ⊢
  have hIP:IZ w 176 43 b5 nv b1 b2 b3 b4 A A1 (.slice Option.none 0 0) []:=⟨hB5,⟨Owns.nil _ _ _ _ _,fun x h=>by cases h⟩,hx3,hsx⟩
  clear p0x g0x gbx hx hx3 hwx hE3 hB5
  repeat refine c_r ?_
  refine rg0 ?_
  repeat refine c_r ?_
  refine zap (fun m σ ds v=>ds=[]∧∃(k:Nat) (pv:Value) (zs:List ZX),k+m=s.zones.length∧σ 6=vi k∧σ 4=vi i∧σ 1= .pointer (some ⟨w.heap.size,0,Option.none⟩)∧σ 2= .pointer (some ⟨w.heap.size+1,0,Option.none⟩)∧σ 3= .pointer (some ⟨c3,0,Option.none⟩)∧σ 5= .pointer (some ⟨b5,0,Option.none⟩)∧
   IZ w 176 43 b5 nv b1 b2 b3 b4 A v pv zs∧zs.map Prod.fst=s.zones.take k∧b5+1≤v.heap.size) s.zones.length ?_ ?_
  ·exact⟨rfl,0,_,[],by omega,vr0,(vq1 s4),(vq1 s1),(vq1 s2),(vq1 s3),vq0,hIP,rfl,by omega⟩
  clear s4 s1 s2 s3 hIP
  rintro m2 σ2 ds2 v ⟨rfl,k,pv,zs,hkm,s6,s4,s1,s2,s3,s5,hIP,hzf,hvs⟩
  have hEv:=hEA.trans hIP.e
  have hwv:=hE1.trans hEv
  have p0v:=zab hEv p0
  have g5v:=zab hwv g5
  repeat refine c_r ?_
  refine rg9 s6 s4 s1 (an3 p0v Nat.add_zero g5v) hi0 hlt hxi hx5 trivial ?_
  repeat refine c_r ?_
  refine wc0 ?_ ?_
  ·intro hlt2
   simp only[decide_eq_true_eq]at hlt2
   have hk:k<s.zones.length:=by omega
   have hk0:(0:Int)≤(k:Int):=by omega
   have hk1':(k:Int)+1=((k+1:Nat):Int):=by push_cast;rfl
   obtain⟨xp,xk,ow,lv,rfl,hxk,dz,ho,hl⟩:=hpl k hk
   obtain⟨z,hze⟩:∃z,s.zones[k]=z:=⟨_,rfl⟩
   have hgz:=fs3 _ (List.getElem_mem hk)
   rw[hze]at ho hl hgz
   have q5:zaf v (some ⟨b5,5,Option.none⟩)=some pv:=zac hIP.h rfl
   have lo:=hIP.lo
   have hgzl:=hgz.gd.len
   repeat refine c_r ?_
   refine zaN (fun i=>i==15) [(0,true),(1,true),(2,true),(3,true),(4,true),(5,true),(6,true),(7,true),(8,true),(9,true),(10,true),(11,false),(12,false),(13,false),(14,true),(15,false)] (zbB (b5+1)) mixed (by kernel_rfl) ?_;intro gd K x hgd hx hxe hK;have hx0:=zfM hxe;clear hxe
   have hwx:=hwv.trans hx0
   have p0x:=zab hx0 p0v
   have g5x:=zab hwx g5
   have dzx:=zae hwx dz
   have q5x:=zab hx0 q5
   simp (disch:=first|omega|assumption|rfl) only[go_sem,s6,s4,s1,s5,p0x,Nat.add_zero,Nat.zero_add,hi0,hlt,hk0,hlt2,hxi,hx5,hxk,g5x,dzx,q5x]
   have l5:x5.block<b5+1:=by have:=zct (show w.cell? x5=some _ from g5);have:=hE1.size;have:=hEA.size;omega
   have lk:xk.block<b5+1:=by
    have h0:=zaj (j:=0) dz rfl
    rw[zak]at h0
    have:=zct (show w.cell? xk=some _ from h0);have:=hE1.size;have:=hEA.size;omega
   have lw:w.heap.size<b5+1:=by have:=hE1.size;have:=hEA.size;omega
   refine⟨zco (by omega),zco lw,zc0 l5,zc0 lk,?_⟩
   refine Fn.mono (ZOf_ok hwx ho (hl.ext hwx) (fun r hr=>(hgz.gd.few r hr).2.nn) (by omega)) ?_
   rintro _ v0 ⟨hE0,lv',G',rfl,hOI,hG'⟩
   refine⟨.inr hE0.keep,?_⟩
   obtain⟨al',cl',hlv',_⟩:=hOI.own.rows.open
   simp (disch:=first|omega|assumption|rfl) only[go_sem]
   refine zaT ziy (l:=[ow,lv']) (a:=((z,(ow,(lv',G'))):ZX)) (by rfl) (by rfl) (by rfl) (by rfl) ⟨rfl,ho.isOne,by rw[hlv'];rfl⟩ (by decide) ?_
   intro v1 hE4 hs4' ho4
   refine⟨.inr hE4.keep,?_⟩
   simp (disch:=first|omega|assumption|rfl) only[go_sem]
   have hx04:=(hx0.trans hE0).trans hE4
   have hsz4:=hx04.size
   have hs0:=hx0.size
   have hzl:zs.length=k:=by
    have:=congrArg List.length hzf
    simp at this;omega
   refine zaI ziy (hIP.g.ext (zcU w) hx04).own ho4.rows (by rfl) (by rfl) (by rfl) (by rfl) (by rfl) (by rfl) (by decide) (vr0) (vr0) (by simp;omega) (by decide) (by omega) ?_
   intro pv' v2 ho5 hE5 hk5 hb5'
   refine⟨.inr (hk5.mono fun b _ hb=>(hIP.g.own.ge hb).1),?_⟩
   obtain⟨ap',cp',hpv',_⟩:=ho5.rows.open
   simp (disch:=first|omega|assumption|rfl) only[go_sem,s5,Nat.zero_add]
   refine zaV (P:=Tryz.prog) (t:=174) (j:=5) (u:=pv') (l:=[nv,zag b1,zag b2,zag b3,zag b4,pv]) ((hk5.block _ (by omega) (fun hb=>by have:=(hIP.g.own.ge hb).1;omega)).trans (Ext.at hx04 hIP.h)) (by simp) (by rw[hpv'];rfl) rfl rfl ?_
   intro v3 hs3' hB3' hk3'
   refine⟨.inl rfl,?_⟩
   simp (disch:=first|omega|assumption|rfl) only[go_sem]
   refine hK _ _ ?_;clear hK hgd;clear K;try clear gd
   have hIPn:=hIP.app hx04 (by omega) (x:=((z,(ow,(lv',G'))):ZX)) ⟨ho,hG',_,hOI.ext hE4⟩ (fun b hb=>by have:=zx_in (x:=((z,(ow,(lv',G'))):ZX)) (hOI.ext hE4) b hb;omega) ho5 hk5 hb5' hB3' hk3'
   have hs5:=hk5.size
   repeat refine c_r ?_
   refine rg2 s6 hk1' ?_
   repeat refine c_r ?_
   exact⟨m2 - 1,by omega,rfl,k+1,pv',_,by omega,vq0,(vq1 s4),(vq1 s1),(vq1 s2),(vq1 s3),(vq1 s5),hIPn,by rw[zao hk,List.map_append,hzf,hze];rfl,by omega⟩
  ·intro hge2
   simp only[decide_eq_false_iff_not]at hge2
   have hfull:s.zones.take k=s.zones:=List.take_of_length_le (by omega)
   rw[hfull]at hzf
   obtain⟨ap',cp',hpv',_⟩:=hIP.g.own.rows.open
   have lo:=hIP.lo
   have dB:zat v (some ⟨b5,0,Option.none⟩) 6=some [nv,zag b1,zag b2,zag b3,zag b4,pv]:=zah hIP.h rfl
   have q3:zaf v (some ⟨c3,0,Option.none⟩)=some ov:=zac (Ext.at hIP.e hB3) rfl
   have ones6:∀q∈ [nv,zag b1,zag b2,zag b3,zag b4,pv],one q=true:=fun q hq=>by
    simp at hq
    rcases hq with rfl|rfl|rfl|rfl|rfl|rfl<;>first|exact n1|rfl| (rw[hpv'];rfl)
   have hGl:G.length=i:=by
    have:=congrArg List.length hGf
    simp at this;omega
   repeat refine c_r ?_
   refine rq ?_;intro gd K hgd hK
   try simp (disch:=first|omega|assumption|rfl) only[go_sem,s3,s5,q3,dB,Nat.add_zero]
   refine zaT (C:=hxC) ziO (l:=[nv,zag b1,zag b2,zag b3,zag b4,pv]) (a:=((s,(pv,([nv,zag b1,zag b2,zag b3,zag b4,pv],zs))):HX)) (by rfl) (by rfl) (by rfl) (by rfl) ⟨rfl,rfl,ones6⟩ (by decide) ?_
   intro v1 hE4 hs4' ho4
   try simp only[go_sem]
   have hAv1:=hIP.e.trans hE4
   have hsA1:=hAv1.size
   refine zaI ziO ((hGS.ext (zd1 w _) hAv1).own) ho4.rows (by rfl) (by rfl) (by rfl) (by rfl) (by rfl) (by rfl) (by decide) (vr0) (vr0) (by simp;omega) (by decide) (by omega) ?_
   intro ov' v2 ho5 hE5 hk5 hb5'
   obtain⟨ao',co',hov',_⟩:=ho5.rows.open
   try simp (disch:=first|omega|assumption|rfl) only[go_sem,s3,Nat.add_zero]
   refine zaV (P:=Tryz.prog) (t:=70) (j:=0) (u:=ov') (l:=[ov,rv,vi c.rw,vi c.rf]) ((hk5.block _ (by omega) (fun hb=>by have:=(hGS.own.ge hb).1;omega)).trans (Ext.at hAv1 hB3)) (by simp) (by rw[hov'];rfl) rfl rfl ?_
   intro v3 hs3' hB3' hk3'
   try simp only[go_sem]
   refine hK _ _ ?_;clear hK hgd;clear K;try clear gd
   have hg4:=hIP.g.ext (zcU w) hE4
   have hGS2:=hGS.app (zd1 w _) hAv1 hAs (x:=((s,(pv,([nv,zag b1,zag b2,zag b3,zag b4,pv],zs))):HX)) ⟨⟨nv,b1,b2,b3,b4,rfl,hadr,hn⟩,hzf,_,hg4⟩ (fun b hb=>by have:=hg4.in hb;omega) ho5 hk5 hb5'
   have hGS3:=hGS2.keep (zd1 w _) hk3' (fun b h1 h2=>by have:=(hGS2.in h1).1;omega)
   have hs5:=hk5.size
   repeat refine c_r ?_
   refine rg2 s4 hi1' ?_
   repeat refine c_r ?_
   refine⟨m - 1,by omega,rfl,i+1,ov',_,by omega,vq0,(vq1 s1),(vq1 s2),(vq1 s3),Keep.to_ext (hE5 w1 (hEA.trans hAv1) (by omega)) rfl (fun b hb=>by omega) hk3',by omega,hB3',hGS3,?_⟩
   rw[zao hi,List.map_append,hGf,hse];rfl
 ·intro hge
  simp only[decide_eq_false_iff_not]at hge
  rw[List.take_of_length_le (by omega)]at hGf
  have hEw:=hE1.trans hEA
  have hrows:=ziP hGS hEw
  rw[hGf]at hrows
  have o1:=hrows.isOne
  have dx:=zah (n:=4) (l:=[ov,rv,vi c.rw,vi c.rf]) hB3 rfl
  repeat refine c_r ?_
  refine rq ?_;intro gd K hgd hK
  try simp (disch:=first|omega|assumption|rfl) only[go_sem,s3,s2,dx]
  refine zaE (P:=Tryz.prog) (t:=72) (l:=[ov,rv,vi c.rw,vi c.rf]) (Ext.at hEA hC) rfl (fun v hv=>by simp at hv;rcases hv with rfl|rfl|rfl|rfl<;>first|exact r1|exact o1|rfl) rfl rfl ?_
  intro z hsz hBz hkz
  try simp only[go_sem]
  refine hK _ _ ?_;clear hK hgd;clear K;try clear gd
  repeat refine c_r ?_
  refine zay (.inr rfl) Tryz.ntmps34 rfl (zaL (x:=⟨w.heap.size+1,0,Option.none⟩) (k:=4) ((vq1 s2)) rfl rfl (zah hBz rfl) zau) ?_
  have hEz:Ext w z:=Keep.to_ext hEw rfl (fun b hb=>by omega) hkz
  have hGz:=ziP (hGS.keep (zd1 w _) hkz (fun b h1 h2=>by have:=(hGS.in h1).1;omega)) hEz
  rw[hGf]at hGz
  exact⟨hEz,_,rfl,ov,rv,rfl,hGz,hr0.ext hEz⟩
theorem zfQ{N:NetL}{s:Int}(h:s<0∨(N.hosts.length:Int)≤s):N.zones s=[]:=by
 unfold NetL.zones
 by_cases h0:s<0
 ·rw[if_pos h0]
 ·rw[if_neg h0,List.getElem?_eq_none (by omega)]
theorem zhE{N:NetL}{s:Int}{q:Nm}(h:N.zones s=[]):zbN N s q=(0,false):=by
 unfold zbN
 rw[h]
 rfl
theorem zones_at{w:World}{hv:Value}{N:NetL}{s:Int}(hh:Rows 6 (HostC w) w hv N.hosts)(h0:0≤s)(h1:s<(N.hosts.length:Int)):
  ∃(i:Nat) (ah:Addr) (ch:Nat) (xi x5:Addr) (zv:Value),s=(i:Int)∧i<N.hosts.length∧hv= .slice (some ah) N.hosts.length ch∧adr (some ah) (i*6)=some xi∧adr (some xi) 5=some x5∧zaf w (some x5)=some zv∧Rows 2 (ZoneC w) w zv (N.zones s):=by
 obtain⟨i,rfl⟩:=Int.eq_ofNat_of_zero_le h0
 have hi:i<N.hosts.length:=by omega
 obtain⟨ah,ch,rfl,_,hgh⟩:=hh.open
 obtain⟨cs,hcs,hH⟩:=hgh _ hi
 obtain⟨nv,b1,b2,b3,b4,zv,rfl,_,_,hzr⟩:=hH.ex
 obtain⟨xh,rfl⟩:=Option.isSome_iff_exists.1 (zan hcs)
 obtain⟨xi,hxi⟩:∃xi,adr (some xh) (i*6)=some xi:=⟨_,rfl⟩
 obtain⟨x5,hx5⟩:∃x,adr (some xi) 5=some x:=⟨_,rfl⟩
 rw[hxi]at hcs
 have hz:N.zones (i:Int)=N.hosts[i].zones:=by
  unfold NetL.zones
  rw[if_neg (by omega),show((i:Int)).toNat=i from rfl,List.getElem?_eq_getElem hi]
 exact⟨i,xh,ch,xi,x5,zv,rfl,hi,rfl,hxi,hx5,by rw[←hx5];exact zaj hcs rfl,hz▸hzr⟩
def BestS(zs:List zci)(B:Int×Int):Prop:=B=(0, -1)∨∃(k:Nat) (h:k<zs.length),B=((k:Int),(zs[k].o.length:Int))
set_option maxHeartbeats 4000000 in
theorem zjc{w0 w:World}(hE0:Ext w0 w){cs:List Value}{N:NetL}{s:Int}{q:Nm}{qv:Value}(hN:NetAt w0 cs N)(hG:NetZ N)(hq:Row w qv (q.map vs))(mq:NmM q):
  Fn Tryz.prog 155 #[.agg cs.toArray,vi s,qv] w (fun v w'=>v= .tuple #[vi (zbN N s q).1,.bool (zbN N s q).2]∧Ext w w'):=by
 obtain⟨hv,rv,rfl,hh,hr⟩:=hN.ex
 obtain⟨ah,ch,hhv,_⟩:=hh.open
 obtain⟨ar,cr,hrv,_⟩:=id hr
 have hlen:=hG.hl
 have ql:=mq.len
 refine enter Tryz.func155 Tryz.ntmps155 rfl rfl ?_
 repeat refine c_r ?_
 rw[hhv,hrv]
 refine rg0 ?_
 rw[←hhv,←hrv]
 repeat refine c_r ?_
 refine zaA ?_
 intro w1 hE1 hs1 hA
 rw[hhv]at hA
 have p0:zaf w1 (some ⟨w.heap.size,0,Option.none⟩)=some (.slice ah N.hosts.length ch):=zac hA rfl
 repeat refine c_r ?_
 by_cases n1:s<0
 ·refine rgg [(2,14)] (an2 (decide_eq_true n1) Nat.add_zero) ?_
  repeat refine c_r ?_
  refine wt trivial ?_
  repeat (first|refine c_r ?_|refine rg0 ?_)
  refine zay (by simp) Tryz.ntmps155 rfl (zar (vr0) (zar (vr0) zau)) ?_
  rw[zhE (zfQ (.inl n1))]
  exact⟨rfl,hE1⟩
 by_cases n2:s≥(N.hosts.length:Int)
 ·refine rgg [(2,14)] (an4 (decide_eq_false n1) p0 Nat.add_zero (decide_eq_true n2)) ?_
  repeat refine c_r ?_
  refine wt trivial ?_
  repeat (first|refine c_r ?_|refine rg0 ?_)
  refine zay (by simp) Tryz.ntmps155 rfl (zar (vr0) (zar (vr0) zau)) ?_
  rw[zhE (zfQ (.inr n2))]
  exact⟨rfl,hE1⟩
 refine rgg [(2,14)] (an4 (decide_eq_false n1) p0 Nat.add_zero (decide_eq_false n2)) ?_
 repeat refine c_r ?_
 refine wf trivial ?_
 obtain⟨i0,ah',ch',xi,x5,zv,rfl,hi0l,e,hxi,hx5,hc5,hzr⟩:=zones_at (s:=s) hh (by omega) (by omega)
 rw[hhv]at e
 injection e with e1 e2 e3
 subst e1 e3
 have hz0:(0:Int)≤(i0:Int):=by omega
 have hlt0:(i0:Int)<(N.hosts.length:Int):=by omega
 have q5:=zab (hE0.trans hE1) hc5
 repeat (first|refine c_r ?_| (refine zcj (by rfl) ?_;intro gd K hgd hK;simp (disch:=first|omega|assumption|rfl) only[go_sem,p0,hxi,hx5,q5,hz0,hlt0,Nat.add_zero,Nat.zero_add];refine hK _ _ ?_;clear hK hgd;clear K gd))
 obtain⟨zs,hzs⟩:∃zs,N.zones i0=zs:=⟨_,rfl⟩
 have hzg:=(zbO hG (s:=i0)).1
 have hzl:=(zbO hG (s:=i0)).2
 have hbest:zbN N i0 q=((zil q zs).1,decide (0≤(zil q zs).2)):=by unfold zbN;rw[hzs]
 rw[hzs]at hzr hzg hzl
 rw[hbest]
 clear hbest
 obtain⟨az,cz,hzv,_,hgz⟩:=hzr.open
 have hnl:=zbR (l:=zs) (i:=0)
 refine zap (fun m σ ds A=>ds=[]∧∃(i:Nat) (B:Int×Int),i+m=zs.length∧((numZ 0 zs).take i).foldl (zaU q) (0, -1)=B∧BestS zs B∧σ 11=vi i∧σ 10=zv∧σ 2=qv∧σ 8=vi B.1∧σ 9= .bool (decide (0≤B.2))∧Ext w1 A) zs.length ?_ ?_
 ·exact⟨rfl,0,(0, -1),by omega,rfl,.inl rfl,vr0,vr0,vr0,vr0,vr0,Keep.refl _ _⟩
 rintro m σ ds A ⟨rfl,i,B,him,hB,hBS,s11,s10,s2,s8,s9,hEA⟩
 rw[hzv]at s10
 have hwA:=hE1.trans hEA
 repeat refine c_r ?_
 refine rg2 s11 s10 ?_
 repeat refine c_r ?_
 refine wc0 ?_ ?_
 ·intro hlt
  simp only[decide_eq_true_eq]at hlt
  have hi:i<zs.length:=by omega
  have hi0:(0:Int)≤(i:Int):=by omega
  have hi1':(i:Int)+1=((i+1:Nat):Int):=by push_cast;rfl
  have gz:=hzg _ (List.getElem_mem hi)
  have mo:=gz.m
  have ol:=mo.len
  obtain⟨c1,hc1,hZ⟩:=hgz i hi
  obtain⟨ov,lv,rfl,ho,hr1⟩:=hZ.ex
  obtain⟨xz,rfl⟩:=Option.isSome_iff_exists.1 (zan hc1)
  obtain⟨xk,hxk⟩:∃xi,adr (some xz) (i*2)=some xi:=⟨_,rfl⟩
  have k1:zaf w0 (some xk)=some ov:=by
   have:=zaj (j:=0) hc1 rfl
   rwa [zak,hxk]at this
  obtain⟨ao,co,hov,_⟩:=id ho
  rw[List.length_map]at hov
  have hfo:((numZ 0 zs).take (i+1)).foldl (zaU q) (0, -1)=zaU q B (i,zs[i]):=by
   rw[List.take_succ_eq_append_getElem (by omega),List.foldl_append,hB,zdW hi (by omega),Nat.zero_add];rfl
  obtain⟨u,hu⟩:∃u,zaY q zs[i].o=u:=⟨_,rfl⟩
  repeat refine c_r ?_
  refine zaC (Q:=fun e σ' ds' v'=>e= .normal∧ds'=[]∧σ' 11=vi i∧σ' 10= .slice (some xz) zs.length cz∧σ' 2=qv∧σ' 8=vi B.1∧σ' 9= .bool (decide (0≤B.2))∧Ext A v'∧σ' 58= .bool (u && decide (B.2<(zs[i].o.length:Int)))) ?_ ?_
  ·rcases hBS with rfl| ⟨k,hk,rfl⟩
   ·replace s9:σ 9= .bool false:=s9
    refine zaN (fun _=>false) [(0,true),(1,true),(2,true),(3,true),(4,true),(5,true),(6,false),(7,true),(8,true),(9,true),(10,true),(11,true),(12,true),(13,true),(14,true),(15,true),(16,true),(17,true),(18,true),(19,true),(20,true),(21,true),(22,true),(23,true),(24,true),(25,true)] NoS mixed (by kernel_rfl) ?_;intro gd K x hgd hx hxe hK;clear hxe
    have hg7:∀n σ b,zas gd n σ (some (7,b))=zal (ev n σ (.tmp 40)) b:=(fun n σ b=>by rw[zad,show gd 7=some 40 from(by rw[hgd];rfl)];rfl);have hg10:∀n σ b,zas gd n σ (some (10,b))=zal (ev n σ (.tmp 43)) b:=(fun n σ b=>by rw[zad,show gd 10=some 43 from(by rw[hgd];rfl)];rfl)
    have k1x:=zab ((hE0.trans hwA).trans hx) k1
    simp (disch:=first|omega|assumption|rfl) only[go_sem,s2,s10,s11,hi0,hlt,hxk,zak,k1x,Nat.add_zero,Nat.zero_add]
    refine Fn.mono (zcG x qv ov q zs[i].o (hq.ext (hwA.trans hx)) (ho.ext ((hE0.trans hwA).trans hx)) mq.LB mo.LB (by omega) (by omega)) ?_
    rintro _ x2 ⟨rfl,hx2⟩
    refine⟨.inr hx2,?_⟩
    rw[hu]
    cases u with
    |false=>
     simp (disch:=first|omega|assumption|rfl) only[go_sem,s9,zaW,↓hg7,↓hg10]
     refine hK _ _ ?_;clear hK hgd;clear K;try clear gd
     exact⟨rfl,rfl,(vq1 s11),(vq1 s10),(vq1 s2),(vq1 s8),by show _=Value.bool false;simp only[go_sem,s9],hx.trans hx2,vr0⟩
    |true=>
     simp (disch:=first|omega|assumption|rfl) only[go_sem,s9,zaW,↓hg7,↓hg10]
     refine hK _ _ ?_;clear hK hgd;clear K;try clear gd
     exact⟨rfl,rfl,(vq1 s11),(vq1 s10),(vq1 s2),(vq1 s8),by show _=Value.bool false;simp only[go_sem,s9],hx.trans hx2,by rw[show decide ((-1:Int)<(zs[i].o.length:Int))=true from decide_eq_true (by omega)];first| (simp only[go_sem];done)| (simp only[go_sem];rfl)⟩
   ·have kz:=hzg _ (List.getElem_mem hk)
    obtain⟨c2,hc2,hZ2⟩:=hgz k hk
    obtain⟨ov2,lv2,rfl,ho2,hr2⟩:=hZ2.ex
    obtain⟨xk2,hxk2⟩:∃xi,adr (some xz) (k*2)=some xi:=⟨_,rfl⟩
    have k2:zaf w0 (some xk2)=some ov2:=by
     have:=zaj (j:=0) hc2 rfl
     rwa [zak,hxk2]at this
    obtain⟨ao2,co2,hov2,_⟩:=id ho2
    rw[List.length_map]at hov2
    have hk0:(0:Int)≤(k:Int):=by omega
    have hltk:(k:Int)<(zs.length:Int):=by omega
    have h9:decide ((0:Int)≤(zs[k].o.length:Int))=true:=decide_eq_true (by omega)
    dsimp only at s8 s9
    rw[h9]at s9
    refine zaN (fun _=>false) [(0,true),(1,true),(2,true),(3,true),(4,true),(5,true),(6,false),(7,true),(8,true),(9,true),(10,true),(11,true),(12,true),(13,true),(14,true),(15,true),(16,true),(17,true),(18,true),(19,true),(20,true),(21,true),(22,true),(23,true),(24,true),(25,true)] NoS mixed (by kernel_rfl) ?_;intro gd K x hgd hx hxe hK;clear hxe
    have hg7:∀n σ b,zas gd n σ (some (7,b))=zal (ev n σ (.tmp 40)) b:=(fun n σ b=>by rw[zad,show gd 7=some 40 from(by rw[hgd];rfl)];rfl);have hg10:∀n σ b,zas gd n σ (some (10,b))=zal (ev n σ (.tmp 43)) b:=(fun n σ b=>by rw[zad,show gd 10=some 43 from(by rw[hgd];rfl)];rfl)
    have k1x:=zab ((hE0.trans hwA).trans hx) k1
    simp (disch:=first|omega|assumption|rfl) only[go_sem,s2,s10,s11,hi0,hlt,hxk,zak,k1x,Nat.add_zero,Nat.zero_add]
    refine Fn.mono (zcG x qv ov q zs[i].o (hq.ext (hwA.trans hx)) (ho.ext ((hE0.trans hwA).trans hx)) mq.LB mo.LB (by omega) (by omega)) ?_
    rintro _ x2 ⟨rfl,hx2⟩
    refine⟨.inr hx2,?_⟩
    rw[hu]
    cases u with
    |false=>
     simp (disch:=first|omega|assumption|rfl) only[go_sem,s9,zaW,↓hg7,↓hg10]
     refine hK _ _ ?_;clear hK hgd;clear K;try clear gd
     exact⟨rfl,rfl,(vq1 s11),(vq1 s10),(vq1 s2),(vq1 s8),by dsimp only;rw[h9];simp only[go_sem,s9],hx.trans hx2,vr0⟩
    |true=>
     have k1y:=zab hx2 k1x
     have k2y:=zab (((hE0.trans hwA).trans hx).trans hx2) k2
     rw[hov]at k1y
     rw[hov2]at k2y
     simp (disch:=first|omega|assumption|rfl) only[go_sem,s8,s9,s10,s11,hi0,hlt,hxk,zak,k1y,k2y,hk0,hltk,hxk2,Nat.add_zero,Nat.zero_add,zaW,↓hg7,↓hg10]
     refine hK _ _ ?_;clear hK hgd;clear K;try clear gd
     exact⟨rfl,rfl,(vq1 s11),(vq1 s10),(vq1 s2),(vq1 s8),by dsimp only;rw[h9];simp only[go_sem,s9],hx.trans hx2,vr0⟩
  rintro _ σ1 _ A1 ⟨rfl,rfl,s11,s10,s2,s8,s9,hA1,s58⟩
  repeat refine c_r ?_
  by_cases hb:u=true∧B.2<(zs[i].o.length:Int)
  ·have hst:zaU q B (i,zs[i])=((i:Int),(zs[i].o.length:Int)):=by unfold zaU;rw[hu,if_pos hb]
   have hbt:(u && decide (B.2<(zs[i].o.length:Int)))=true:=by rw[hb.1,decide_eq_true hb.2];rfl
   rw[hbt]at s58
   refine wt s58 ?_
   repeat refine c_r ?_
   refine rg1 s11 ?_
   repeat refine c_r ?_
   refine rg0 ?_
   repeat refine c_r ?_
   refine rg2 s11 hi1' ?_
   repeat refine c_r ?_
   refine⟨m - 1,by omega,rfl,i+1,((i:Int),(zs[i].o.length:Int)),by omega,hfo.trans hst,.inr ⟨i,hi,rfl⟩,vq0,by rw[hzv];simp only[go_sem,s10],(vq1 s2),vq0,by rw[decide_eq_true (show(0:Int)≤(zs[i].o.length:Int) by omega)];first| (simp only[go_sem];done)| (simp only[go_sem];rfl),hEA.trans hA1⟩
  ·have hst:zaU q B (i,zs[i])=B:=by unfold zaU;rw[hu,if_neg hb]
   have hbt:(u && decide (B.2<(zs[i].o.length:Int)))=false:=by
    cases u with
    |false=>rfl
    |true=>exact decide_eq_false (fun h=>hb ⟨rfl,h⟩)
   rw[hbt]at s58
   refine wf s58 ?_
   repeat refine c_r ?_
   refine rg2 s11 hi1' ?_
   repeat refine c_r ?_
   refine⟨m - 1,by omega,rfl,i+1,B,by omega,hfo.trans hst,hBS,vq0,by rw[hzv];simp only[go_sem,s10],(vq1 s2),(vq1 s8),(vq1 s9),hEA.trans hA1⟩
 ·intro hge
  simp only[decide_eq_false_iff_not]at hge
  have hB2:zil q zs=B:=by rw[←hB,List.take_of_length_le (by omega)];rfl
  rw[hB2]
  repeat (first|refine c_r ?_| (refine zcj (by rfl) ?_;intro gd K hgd hK;simp (disch:=first|omega|assumption|rfl) only[go_sem,s8,s9];refine hK _ _ ?_;clear hK hgd;clear K gd))
  refine zay (by simp) Tryz.ntmps155 rfl (zar (vr0) (zar (vr0) zau)) ?_
  exact⟨rfl,hwA⟩
theorem ResN.cells{w0 wn w:World}{B:Nat}{cs:List Value}{r:ResL}(h:ResN w0 wn B w cs r):cs.length=5∧∀v∈cs,one v=true:=by
 obtain⟨dv,nv,gv,rfl,h1,h2,h3,h4,h5⟩:=h.ex
 exact⟨rfl,ones5 h1.isOne (h3.elim (fun h=>h.1.isOne) (fun h=>h.isOne)) h4.isOne⟩
theorem row_off{w z:World}{nv:Value}{l:Nm}{b:Nat}{c:Array Value}{T:TypeId}{fr:Nat×Nat}(h:Row w nv (l.map vs))(hb:w.heap[b]? =some (.cells c T fr))(hc:∀x∈c.toList,∀t,x≠vs t)(hk:∀i,i<w.heap.size→i≠b→z.heap[i]? =w.heap[i]?):Row z nv (l.map vs):=by
 cases l with
 |nil=>
  obtain⟨a,c',rfl,hcap,_⟩:=h
  exact⟨a,c',rfl,hcap,fun j hj=>absurd hj (by simp)⟩
 |cons x l=>
  refine h.blocks fun a n c' hv=>?_
  obtain⟨a',c2,e,_,hg⟩:=h
  rw[hv]at e
  injection e with e1 e2 e3
  have h0:=hg 0 (by simp)
  rw[zak,←e1]at h0
  have hlt:=zct (show w.cell? a=some _ from h0)
  refine hk _ hlt (fun e=>?_)
  have h1:w.cell? a=some (vs x):=h0
  unfold World.cell? at h1
  rw[e,hb]at h1
  dsimp only at h1
  split at h1
  ·cases h1
  ·exact hc _ (Array.mem_toList_iff.2 (Array.mem_of_getElem? h1)) x rfl
set_option maxHeartbeats 1000000 in
theorem RAsk_ok{w0 w:World}(hE0:Ext w0 w){cs:List Value}{N:NetL}{s:Int}{q:Nm}{qv:Value}{t:Int}(hN:NetAt w0 cs N)(hG:NetZ N)(hq:Row w qv (q.map vs))(mq:NmM q):
  Fn Tryz.prog 102 #[.agg cs.toArray,vi s,qv,vi t] w (fun v w'=>Ext w w'∧∃cs,v= .agg cs.toArray∧ResAt w0 w' cs (askN N s q t)):=by
 have hN0:=hN
 obtain⟨hv,rv,rfl,hh,hr⟩:=hN.ex
 obtain⟨ah,ch,hhv,_⟩:=hh.open
 obtain⟨ar,cr,hrv,_⟩:=id hr
 refine enter Tryz.func102 Tryz.ntmps102 rfl rfl ?_
 repeat refine c_r ?_
 rw[hhv,hrv]
 refine rg0 ?_
 rw[←hhv,←hrv]
 repeat refine c_r ?_
 rw[zam]
 refine zaH ?_
 intro w1 hE1 hs1 hA hC
 have d:=zah (n:=4) (l:=[hv,rv,vi N.rw,vi N.rf]) hA rfl
 repeat refine c_r ?_
 refine rc d (zjc (s:=s) (hE0.trans hE1) hN0 hG (hq.ext hE1) mq) ?_
 rintro _ w2 ⟨rfl,hE2⟩
 refine re trivial ?_
 have hE02:=hE0.trans (hE1.trans hE2)
 have hC2:=Ext.at hE2 hC
 have d2:=zae hE2 d
 repeat refine c_r ?_
 refine rg0 ?_
 repeat refine c_r ?_
 cases hb:(zbN N s q).2 with
 |false=>
  have hk:askN N s q t=⟨7,[],[],false,[]⟩:=by unfold askN;rw[hb];rfl
  refine wt trivial ?_
  repeat refine c_r ?_
  refine rq ?_;intro gd K hgd hK
  try simp only[go_sem]
  refine⟨by kernel_rfl,?_⟩
  rw[show bdV Tryz.prog 39 [(0,vi 7)]=some (.agg #[vi 7,.slice Option.none 0 0,.slice Option.none 0 0,.bool false,.slice Option.none 0 0]) from by kernel_rfl]
  try simp only[go_sem]
  refine zaE (P:=Tryz.prog) (t:=39) (l:=[vi 7,.slice Option.none 0 0,.slice Option.none 0 0,.bool false,.slice Option.none 0 0]) hC2 rfl (ones5 rfl rfl rfl) rfl rfl ?_
  intro z hz' hbz hkz
  try simp only[go_sem]
  refine hK _ _ ?_;clear hK hgd;clear K;try clear gd
  repeat refine c_r ?_
  refine zay (.inr rfl) Tryz.ntmps102 rfl (zaL (x:=⟨w.heap.size+1,0,Option.none⟩) (k:=5) (vq0) rfl rfl (zah hbz rfl) zau) ?_
  exact⟨Keep.to_ext (hE1.trans hE2) rfl (fun b hb=>by omega) hkz,_,rfl,by rw[hk];exact(zkE (w0:=w0) (B:=0)).at (hE0.trans (Keep.to_ext (hE1.trans hE2) rfl (fun b hb=>by omega) hkz))⟩
 |true=>
  obtain⟨hk0,hk1⟩:=zi3 hb
  obtain⟨z,hz⟩:∃z,(N.zones s)[(zbN N s q).1.toNat]? =some z:=⟨_,List.getElem?_eq_getElem (by omega)⟩
  have hk:askN N s q t=za3 z.o z.recs q t:=by unfold askN;rw[hb,hz];rfl
  have gz:=(zbO hG).1 z (List.mem_of_getElem? hz)
  obtain⟨i,j,xh,c1,xi,x5,az,cz,nz,xz,ov,lv,rfl,hkj,hi,hj,rfl,hxi,hx5,pz,hxz,dz,ho,hl⟩:=zjR hh hz hk0
  rw[hkj]
  refine wf trivial ?_
  have p0:zaf w2 (some ⟨w.heap.size,0,Option.none⟩)=some (.slice (some xh) N.hosts.length c1):=zac (Ext.at hE2 hA) rfl
  have pz2:=zab hE02 pz
  have dz2:=zae hE02 dz
  have i0:(0:Int)≤(i:Int):=by omega
  have i1:(i:Int)<(N.hosts.length:Int):=by omega
  have j0:(0:Int)≤(j:Int):=by omega
  have j1:(j:Int)<(nz:Int):=by omega
  repeat refine c_r ?_
  refine rq ?_;intro gd K hgd hK
  try simp (disch:=first|omega|assumption|rfl) only[go_sem,p0,i0,i1,j0,j1,hxi,hx5,pz2,hxz,dz2,Nat.add_zero]
  refine Fn.mono (RLook_ok (t:=t) (gz.zn hE02 (ho.ext hE02) (hl.ext hE02)) gz.c.srt gz.c.gd gz.c.ld (hq.ext (hE1.trans hE2)) mq) ?_
  rintro _ w3 ⟨hE3,cs,rfl,hres⟩
  try simp only[go_sem]
  refine zaE (P:=Tryz.prog) (t:=39) (l:=cs) (Ext.at hE3 hC2) hres.cells.1 hres.cells.2 (by rw[hres.cells.1];rfl) rfl ?_
  intro z hz' hbz hkz
  try simp only[go_sem]
  refine hK _ _ ?_;clear hK hgd;clear K;try clear gd
  repeat refine c_r ?_
  refine zay (.inr rfl) Tryz.ntmps102 rfl (zaL (x:=⟨w.heap.size+1,0,Option.none⟩) (k:=5) (vq0) rfl rfl (zah hbz hres.cells.1.symm) zau) ?_
  have hs2:=hE2.size
  have hz:=Keep.to_ext (hE1.trans (hE2.trans hE3)) rfl (fun b hb=>by omega) hkz
  refine⟨hz,_,rfl,?_⟩
  rw[hk]
  have hrk:=hres.keep hkz (fun b h1 _ h2=>by omega)
  obtain⟨dv,nv,gv,e,g1,g2,g3,g4,g5⟩:=hrk.ex
  refine⟨dv,nv,gv,e,g1,g3.elim (fun h=>h.1) (fun h=>?_),g4.to fun cs y hy=>?_⟩
  ·refine row_off h hC2 (fun x hx t ht=>?_) (fun i hi hb=>(hkz.block i (by have:=hE3.size;omega) hb).trans (hE3.block i hi (fun h=>h)))
   subst ht
   simp[vs]at hx
  ·obtain⟨hv,dv,e,g1,g2,g3⟩:=hy
   exact⟨hv,dv,e,g1,g2⟩
theorem zi6{α:Type}{p:α→Bool}{l:List α}{i:Nat}(hi:i<l.length):(l.take (i+1)).any p=((l.take i).any p||p l[i]):=by
 rw[zao hi,List.any_append]
 simp
theorem addr_at{w:World}{xi x1:Addr}{nv zv:Value}{a b c d:UInt8}(h:zat w (some xi) 6=some [nv,zag a,zag b,zag c,zag d,zv])(h1:adr (some xi) 1=some x1):∀j (hj:j< [a,b,c,d].length),zaf w (adr (some x1) j)=some (zag [a,b,c,d][j]):=by
 intro j hj
 rw[←h1,zfz]
 refine zaj (j:=1+j) h ?_
 match j,hj with
 |0,_=>rfl
 |1,_=>rfl
 |2,_=>rfl
 |3,_=>rfl
set_option maxHeartbeats 4000000 in
theorem zlG{w0 w:World}(hE0:Ext w0 w){cs:List Value}{N:NetL}{host:Nm}{hv gv:Value}{glue:List DatL}(hN:NetAt w0 cs N)(hG:NetZ N)(hh:Row w hv (host.map vs))(mh:NmM host)(hg:Rows 5 (DatAt w0) w gv glue)(hgl:glue.length≤1000000000):
  Fn Tryz.prog 156 #[.agg cs.toArray,hv,gv] w (fun v w'=>Ext w w'∧Row w' v ((zdX N host glue).map vi)∧BlkB w.heap.size w' v):=by
 obtain⟨hs,rs,rfl,hhs,hr⟩:=hN.ex
 obtain⟨ah,ch,rfl,hch,hgh⟩:=hhs.open
 obtain⟨ar,cr,hrv,_⟩:=id hr
 obtain⟨a1,c1,hnv,_⟩:=id hh
 obtain⟨a2,c2,rfl,hc2,hgg⟩:=hg.open
 have hl:=hG.hl
 have ml:=mh.len
 refine enter Tryz.func156 Tryz.ntmps156 rfl rfl ?_
 repeat refine c_r ?_
 rw[hrv,hnv]
 refine rg0 ?_
 rw[←hrv,←hnv]
 repeat refine c_r ?_
 refine zaA ?_
 intro w1 hE1 hs1 hA
 have p0:zaf w1 (some ⟨w.heap.size,0,Option.none⟩)=some (.slice ah N.hosts.length ch):=zac hA rfl
 have hE01:=hE0.trans hE1
 repeat refine c_r ?_
 refine rg0 ?_
 repeat refine c_r ?_
 refine rg0 ?_
 repeat refine c_r ?_
 refine rg0 ?_
 repeat refine c_r ?_
 refine zap (fun m σ ds A=>ds=[]∧A=w1∧∃(i:Nat),i+m=glue.length∧σ 9=vi i∧σ 8= .bool ((glue.take i).any isA)∧σ 7= .slice Option.none 0 0∧σ 3= .pointer (some ⟨w.heap.size,0,Option.none⟩)∧σ 1=hv∧σ 2= .slice a2 glue.length c2) glue.length ?_ ?_
 ·exact⟨rfl,rfl,0,by omega,vr0,vr0,vr0,vr0,vr0,vr0⟩
 rintro m σ ds A ⟨rfl,hAe,i,him,s9,s8,s7,s3,s1,s2⟩
 subst hAe
 repeat refine c_r ?_
 refine rg2 s9 s2 ?_
 repeat refine c_r ?_
 refine wc0 ?_ ?_
 ·intro hlt
  simp only[decide_eq_true_eq]at hlt
  have hi:i<glue.length:=by omega
  have hi0:(0:Int)≤(i:Int):=by omega
  have hi1':(i:Int)+1=((i+1:Nat):Int):=by push_cast;rfl
  obtain⟨c3,hc3,hD⟩:=hgg i hi
  obtain⟨nm,nu,tx,rw',rfl,_,_,_,hraw⟩:=hD.ex
  obtain⟨xz,rfl⟩:=Option.isSome_iff_exists.1 (zan hc3)
  obtain⟨xi,hxi⟩:∃xi,adr (some xz) (i*5)=some xi:=⟨_,rfl⟩
  have k1:zaf A (some xi)=some (vi glue[i].ty):=by
   have:=zaj (j:=0) hc3 rfl
   rw[zak,hxi]at this
   exact zab hE1 this
  have hany:=zi6 (p:=isA) hi
  repeat refine c_r ?_
  refine zaC (Q:=fun e σ' ds' v'=>e= .normal∧ds'=[]∧v'=A∧σ' 9=vi i∧σ' 8= .bool ((glue.take (i+1)).any isA)∧σ' 7= .slice Option.none 0 0∧σ' 3= .pointer (some ⟨w.heap.size,0,Option.none⟩)∧σ' 1=hv∧σ' 2= .slice (some xz) glue.length c2) ?_ ?_
  ·cases hb:(glue.take i).any isA with
   |true=>
    rw[hb]at s8 hany
    refine rgg [(1,20)] s8 ?_
    exact⟨rfl,rfl,rfl,(vq1 s9),by rw[hany];first| (simp only[go_sem];done)| (simp only[go_sem];rfl),(vq1 s7),(vq1 s3),(vq1 s1),(vq1 s2)⟩
   |false=>
    rw[hb]at s8 hany
    refine rgg [(1,20)] (an9 s8 s2 s9 hi0 hlt hxi zak k1 Nat.add_zero) ?_
    exact⟨rfl,rfl,rfl,(vq1 s9),by rw[hany];first| (simp only[go_sem];done)| (simp only[go_sem];rfl),(vq1 s7),(vq1 s3),(vq1 s1),(vq1 s2)⟩
  clear s9 s8 s7 s3 s1 s2
  rintro _ σ1 _ _ ⟨rfl,rfl,hAe,s9,s8,s7,s3,s1,s2⟩
  subst hAe
  repeat refine c_r ?_
  refine rg2 s9 hi1' ?_
  repeat refine c_r ?_
  exact⟨m - 1,by omega,rfl,rfl,i+1,by omega,vq0,(vq1 s8),(vq1 s7),(vq1 s3),(vq1 s1),(vq1 s2)⟩
 intro hge
 simp only[decide_eq_false_iff_not]at hge
 rw[List.take_of_length_le (by omega)]at s8
 clear s9 him hge
 obtain⟨any,hany⟩:∃b,glue.any isA=b:=⟨_,rfl⟩
 rw[hany]at s8
 repeat refine c_r ?_
 refine rg0 ?_
 repeat refine c_r ?_
 refine zap (fun m σ ds B=>ds=[]∧∃(i:Nat) (ov:Value),i+m=N.hosts.length∧σ 10=vi i∧σ 8= .bool any∧σ 7=ov∧σ 3= .pointer (some ⟨w.heap.size,0,Option.none⟩)∧σ 1=hv∧σ 2= .slice a2 glue.length c2∧Own A.heap.size B 3 ov ((zcy (zbC host glue) 0 (N.hosts.take i)).map vi)∧Ext A B) N.hosts.length ?_ ?_
 ·exact⟨rfl,0,.slice Option.none 0 0,by omega,vr0,(vq1 s8),(vq1 s7),(vq1 s3),(vq1 s1),(vq1 s2),Own.nil _ _ _,Keep.refl _ _⟩
 clear s8 s7 s3 s1 s2
 rintro m σ ds B ⟨rfl,i,ov,him,s10,s8,s7,s3,s1,s2,hown,hEB⟩
 have p0B:=zab hEB p0
 have hEwB:=hE1.trans hEB
 have hE0B:=hE0.trans hEwB
 repeat refine c_r ?_
 refine rg4 s10 s3 p0B Nat.add_zero ?_
 repeat refine c_r ?_
 refine wc0 ?_ ?_
 ·intro hlt
  simp only[decide_eq_true_eq]at hlt
  have hi:i<N.hosts.length:=by omega
  have hi0:(0:Int)≤(i:Int):=by omega
  have hi1':(i:Int)+1=((i+1:Nat):Int):=by push_cast;rfl
  obtain⟨cs,hcs,hH⟩:=hgh i hi
  obtain⟨nv,b1,b2,b3,b4,zv,rfl,had,hnr,hzr⟩:=hH.ex
  obtain⟨xz,rfl⟩:=Option.isSome_iff_exists.1 (zan hcs)
  obtain⟨xi,hxi⟩:∃xi,adr (some xz) (i*6)=some xi:=⟨_,rfl⟩
  have dH:=zae hE0B hcs
  rw[hxi]at dH
  have k0:zaf B (some xi)=some nv:=by
   have:=zaj (j:=0) dH rfl
   rwa [zak]at this
  have mn:=hG.nm _ (List.getElem_mem hi)
  have mnl:=mn.len
  obtain⟨sm,hsm⟩:∃b,(!any && decide (zaq N.hosts[i].name=zaq host))=b:=⟨_,rfl⟩
  repeat refine c_r ?_
  refine zaC (Q:=fun e σ' ds' C=>e= .normal∧ds'=[]∧σ' 11= .bool sm∧σ' 10=vi i∧σ' 8= .bool any∧σ' 7=ov∧σ' 3= .pointer (some ⟨w.heap.size,0,Option.none⟩)∧σ' 1=hv∧σ' 2= .slice a2 glue.length c2∧Ext B C) ?_ ?_
  ·cases any with
   |true=>
    refine rgg [(2,37)] s8 ?_
    exact⟨rfl,rfl,by rw[←hsm];first| (simp only[go_sem];done)| (simp only[go_sem];rfl),(vq1 s10),(vq1 s8),(vq1 s7),(vq1 s3),(vq1 s1),(vq1 s2),Keep.refl _ _⟩
   |false=>
    refine rcg [(2,37)] (an9 s8 s3 (an4 p0B Nat.add_zero Bool.not_false s1) s10 hi0 hlt hxi zak k0) (zbK B nv hv N.hosts[i].name host (hnr.ext hE0B) (hh.ext hEwB) mn.LB mh.LB (by omega) (by omega)) ?_
    rintro _ C ⟨rfl,hC⟩
    refine reg [(2,37)] trivial ?_
    exact⟨rfl,rfl,by rw[←hsm];first| (simp only[go_sem];done)| (simp only[go_sem];rfl),(vq1 s10),(vq1 s8),(vq1 s7),(vq1 s3),(vq1 s1),(vq1 s2),hC⟩
  clear s10 s8 s7 s3 s1 s2
  rintro _ σ1 _ C ⟨rfl,rfl,s11,s10,s8,s7,s3,s1,s2,hBC⟩
  have hEAC:=hEB.trans hBC
  have hEwC:=hE1.trans hEAC
  repeat refine c_r ?_
  refine rg0 ?_
  repeat refine c_r ?_
  refine zap (fun m σ ds D=>ds=[]∧∃(j:Nat),j+m=glue.length∧σ 12=vi j∧σ 11= .bool (sm|| (glue.take j).any (isG N.hosts[i].addr))∧σ 10=vi i∧σ 8= .bool any∧σ 7=ov∧σ 3= .pointer (some ⟨w.heap.size,0,Option.none⟩)∧σ 1=hv∧σ 2= .slice a2 glue.length c2∧Ext C D) glue.length ?_ ?_
  ·exact⟨rfl,0,by omega,vr0,by rw[List.take_zero,List.any_nil,Bool.or_false];simp only[go_sem,s11],(vq1 s10),(vq1 s8),(vq1 s7),(vq1 s3),(vq1 s1),(vq1 s2),Keep.refl _ _⟩
  clear s11 s10 s8 s7 s3 s1 s2
  rintro m2 σ ds D ⟨rfl,j,hjm,s12,s11,s10,s8,s7,s3,s1,s2,hCD⟩
  have hEwD:=hEwC.trans hCD
  have hE0D:=hE0.trans hEwD
  repeat refine c_r ?_
  refine rg2 s12 s2 ?_
  repeat refine c_r ?_
  refine wc0 ?_ ?_
  ·intro hlt2
   simp only[decide_eq_true_eq]at hlt2
   have hj:j<glue.length:=by omega
   have hj0:(0:Int)≤(j:Int):=by omega
   have hj1':(j:Int)+1=((j+1:Nat):Int):=by push_cast;rfl
   obtain⟨c3,hc3,hD⟩:=hgg j hj
   obtain⟨nm,nu,tx,rw',rfl,_,_,_,hraw⟩:=hD.ex
   obtain⟨yz,rfl⟩:=Option.isSome_iff_exists.1 (zan hc3)
   obtain⟨yi,hyi⟩:∃xi,adr (some yz) (j*5)=some xi:=⟨_,rfl⟩
   rw[hyi]at hc3
   have k1:zaf w (some yi)=some (vi glue[j].ty):=by
    have:=zaj (j:=0) hc3 rfl
    rwa [zak]at this
   obtain⟨y4,hy4⟩:∃x,adr (some yi) 4=some x:=⟨_,rfl⟩
   have k4:zaf w (some y4)=some rw':=by
    have:=zaj (j:=4) hc3 rfl
    rwa [hy4]at this
   have hat:=zi6 (p:=isG N.hosts[i].addr) hj
   obtain⟨t,ht⟩:∃b,(sm|| (glue.take j).any (isG N.hosts[i].addr))=b:=⟨_,rfl⟩
   rw[ht]at s11
   have hnx:(sm|| (glue.take (j+1)).any (isG N.hosts[i].addr))=(t||isG N.hosts[i].addr glue[j]):=by rw[hat,←Bool.or_assoc,ht]
   repeat refine c_r ?_
   refine zaC (Q:=fun e σ' ds' E=>e= .normal∧ds'=[]∧σ' 12=vi j∧σ' 11= .bool (t||isG N.hosts[i].addr glue[j])∧σ' 10=vi i∧σ' 8= .bool any∧σ' 7=ov∧σ' 3= .pointer (some ⟨w.heap.size,0,Option.none⟩)∧σ' 1=hv∧σ' 2= .slice (some yz) glue.length c2∧Ext D E) ?_ ?_
   ·cases t with
    |true=>
     refine zfB (fun _=>false) (.run [(0,true),(1,true),(2,true),(3,true),(4,true),(5,true),(6,true),(7,true),(8,true),(9,true),(10,true),(11,true),(12,true),(13,true),(15,true),(16,true),(17,true),(18,true),(19,true)] (.fork 6 [14,20] (fun i=>if i=14 then(.run [(20,false),(21,false),(22,true),(23,true),(24,true),(25,true)] .fin) else(.run [] (.fork 5 [14,21] (fun i=>if i=14 then(.run [(21,false),(22,true),(23,true),(24,true),(25,true)] .fin) else(.run [(14,false),(22,true),(23,true),(24,true),(25,true)] .fin))))))) NoS mixed (by kernel_rfl) ?_;intro gd K x hgd hx hxe hK;clear hxe
     have hg1:∀n σ b,zas gd n σ (some (1,b))=zal (ev n σ (.tmp 54)) b:=(fun n σ b=>by rw[zad,show gd 1=some 54 from(by rw[hgd];rfl)];rfl);have hg8:∀n σ b,zas gd n σ (some (8,b))=zal (ev n σ (.tmp 61)) b:=(fun n σ b=>by rw[zad,show gd 8=some 61 from(by rw[hgd];rfl)];rfl)
     simp (disch:=first|omega|assumption|rfl) only[go_sem,s11,zaW,↓hg1,↓hg8]
     simp only[zbg,zbv];refine⟨?_,?_⟩
     ·simp (disch:=first|omega|assumption|rfl) only[go_sem,zaW,↓hg1,↓hg8]
      refine hK _ _ ?_;clear hK hgd;clear K;try clear gd
      exact⟨rfl,rfl,(vq1 s12),vr0,(vq1 s10),(vq1 s8),(vq1 s7),(vq1 s3),(vq1 s1),(vq1 s2),hx⟩
     ·simp (disch:=first|omega|assumption|rfl) only[go_sem,zaW,↓hg1,↓hg8]
      simp only[zbg,zbv];refine⟨?_,?_⟩
      ·simp (disch:=first|omega|assumption|rfl) only[go_sem,zaW,↓hg1,↓hg8]
       refine hK _ _ ?_;clear hK hgd;clear K;try clear gd
       exact⟨rfl,rfl,(vq1 s12),vr0,(vq1 s10),(vq1 s8),(vq1 s7),(vq1 s3),(vq1 s1),(vq1 s2),hx⟩
      ·simp (disch:=first|omega|assumption|rfl) only[go_sem,zaW,↓hg1,↓hg8]
       refine hK _ _ ?_;clear hK hgd;clear K;try clear gd
       exact⟨rfl,rfl,(vq1 s12),vr0,(vq1 s10),(vq1 s8),(vq1 s7),(vq1 s3),(vq1 s1),(vq1 s2),hx⟩
    |false=>
     by_cases hty:glue[j].ty=1
     ·have hisG:isG N.hosts[i].addr glue[j]=decide (glue[j].raw=N.hosts[i].addr):=by unfold isG isA;rw[decide_eq_true hty];rfl
      rw[hisG]
      obtain⟨x1,hx1⟩:∃x,adr (some xi) 1=some x:=⟨_,rfl⟩
      obtain⟨ar4,cr4,rfl,hcr4,hgr4⟩:=hraw
      rw[List.length_map]at k4 hcr4
      refine zfB (fun _=>false) (.run [(0,true),(1,true),(2,true),(3,true),(4,true),(5,true),(6,true),(7,true),(8,true),(9,true),(10,true),(11,true),(12,true),(13,true),(15,true),(16,true),(17,true),(18,true),(19,true)] (.fork 6 [14,20] (fun i=>if i=14 then(.run [(20,false),(21,false),(22,true),(23,true),(24,true),(25,true)] .fin) else(.run [] (.fork 5 [14,21] (fun i=>if i=14 then(.run [(21,false),(22,true),(23,true),(24,true),(25,true)] .fin) else(.run [(14,false),(22,true),(23,true),(24,true),(25,true)] .fin))))))) NoS mixed (by kernel_rfl) ?_;intro gd K x hgd hx hxe hK;clear hxe
      have hg1:∀n σ b,zas gd n σ (some (1,b))=zal (ev n σ (.tmp 54)) b:=(fun n σ b=>by rw[zad,show gd 1=some 54 from(by rw[hgd];rfl)];rfl);have hg8:∀n σ b,zas gd n σ (some (8,b))=zal (ev n σ (.tmp 61)) b:=(fun n σ b=>by rw[zad,show gd 8=some 61 from(by rw[hgd];rfl)];rfl)
      have k1x:=zab (hEwD.trans hx) k1
      have k4x:=zab (hEwD.trans hx) k4
      have p0x:=zab ((hEAC.trans hCD).trans hx) p0
      have dHx:=addr_at (zae ((hBC.trans hCD).trans hx) dH) hx1
      have grx:∀k (hk:k<glue[j].raw.length),zaf x (adr ar4 k)=some (zag glue[j].raw[k]):=fun k hk=>by
       have:=zab (hE0D.trans hx) (hgr4 k (by simpa using hk))
       rw[List.getElem_map]at this;exact this
      simp (disch:=first|omega|assumption|rfl) only[go_sem,s11,s2,s12,s3,s10,hi0,hlt,hj0,hlt2,hyi,hy4,hxi,hx1,zak,k1x,k4x,p0x,Nat.add_zero,decide_eq_true hty,zaW,↓hg1,↓hg8]
      have haddr:N.hosts[i].addr=[b1,b2,b3,b4]:=had
      simp only[zbg,zbv];refine⟨?_,?_⟩
      ·simp (disch:=first|omega|assumption|rfl) only[go_sem,zaW,↓hg1,↓hg8]
       refine zbf (l:=glue[j].raw) rfl rfl rfl (vr0) grx ?_
       refine⟨.inr (Keep.refl _ _),?_⟩
       simp (disch:=first|omega|assumption|rfl) only[go_sem,zaW,↓hg1,↓hg8]
       refine zku rfl (by decide) (by kernel_rfl) (vq0) ?_
       refine⟨.inr (Keep.refl _ _),?_⟩
       simp (disch:=first|omega|assumption|rfl) only[go_sem,zaW,↓hg1,↓hg8]
       refine zbf (l:=[b1,b2,b3,b4]) rfl rfl rfl (vr0) dHx ?_
       refine⟨.inr (Keep.refl _ _),?_⟩
       simp (disch:=first|omega|assumption|rfl) only[go_sem,zaW,↓hg1,↓hg8]
       refine hK _ _ ?_;clear hK hgd;clear K;try clear gd
       exact⟨rfl,rfl,(vq1 s12),by rw[Bool.false_or,haddr];first| (simp only[go_sem];done)| (simp only[go_sem];rfl),(vq1 s10),(vq1 s8),(vq1 s7),(vq1 s3),(vq1 s1),(vq1 s2),hx⟩
      ·simp (disch:=first|omega|assumption|rfl) only[go_sem,zaW,↓hg1,↓hg8]
       refine zku rfl (by decide) (by kernel_rfl) (vq0) ?_
       refine⟨.inr (Keep.refl _ _),?_⟩
       simp only[zbg,zbv];refine⟨?_,?_⟩
       ·simp (disch:=first|omega|assumption|rfl) only[go_sem,zaW,↓hg1,↓hg8]
        refine zbf (l:=glue[j].raw) rfl rfl rfl (vr0) grx ?_
        refine⟨.inr (Keep.refl _ _),?_⟩
        simp (disch:=first|omega|assumption|rfl) only[go_sem,zaW,↓hg1,↓hg8]
        refine zbf (l:=[b1,b2,b3,b4]) rfl rfl rfl (vr0) dHx ?_
        refine⟨.inr (Keep.refl _ _),?_⟩
        simp (disch:=first|omega|assumption|rfl) only[go_sem,zaW,↓hg1,↓hg8]
        refine hK _ _ ?_;clear hK hgd;clear K;try clear gd
        exact⟨rfl,rfl,(vq1 s12),by rw[Bool.false_or,haddr];first| (simp only[go_sem];done)| (simp only[go_sem];rfl),(vq1 s10),(vq1 s8),(vq1 s7),(vq1 s3),(vq1 s1),(vq1 s2),hx⟩
       ·simp (disch:=first|omega|assumption|rfl) only[go_sem,zaW,↓hg1,↓hg8]
        refine zbf (l:=[b1,b2,b3,b4]) rfl rfl rfl (vr0) dHx ?_
        refine⟨.inr (Keep.refl _ _),?_⟩
        simp (disch:=first|omega|assumption|rfl) only[go_sem,zaW,↓hg1,↓hg8]
        refine zbf (l:=glue[j].raw) rfl rfl rfl (vr0) grx ?_
        refine⟨.inr (Keep.refl _ _),?_⟩
        simp (disch:=first|omega|assumption|rfl) only[go_sem,zaW,↓hg1,↓hg8]
        refine hK _ _ ?_;clear hK hgd;clear K;try clear gd
        exact⟨rfl,rfl,(vq1 s12),by rw[Bool.false_or,haddr];first| (simp only[go_sem];done)| (simp only[go_sem];rfl),(vq1 s10),(vq1 s8),(vq1 s7),(vq1 s3),(vq1 s1),(vq1 s2),hx⟩
     ·have hisG:isG N.hosts[i].addr glue[j]=false:=by unfold isG isA;rw[decide_eq_false hty];rfl
      rw[hisG]
      refine zfB (fun _=>false) (.run [(0,true),(1,true),(2,true),(3,true),(4,true),(5,true),(6,true),(7,true),(8,true),(9,true),(10,true),(11,true),(12,true),(13,true),(15,true),(16,true),(17,true),(18,true),(19,true)] (.fork 6 [14,20] (fun i=>if i=14 then(.run [(20,false),(21,false),(22,true),(23,true),(24,true),(25,true)] .fin) else(.run [] (.fork 5 [14,21] (fun i=>if i=14 then(.run [(21,false),(22,true),(23,true),(24,true),(25,true)] .fin) else(.run [(14,false),(22,true),(23,true),(24,true),(25,true)] .fin))))))) NoS mixed (by kernel_rfl) ?_;intro gd K x hgd hx hxe hK;clear hxe
      have hg1:∀n σ b,zas gd n σ (some (1,b))=zal (ev n σ (.tmp 54)) b:=(fun n σ b=>by rw[zad,show gd 1=some 54 from(by rw[hgd];rfl)];rfl);have hg8:∀n σ b,zas gd n σ (some (8,b))=zal (ev n σ (.tmp 61)) b:=(fun n σ b=>by rw[zad,show gd 8=some 61 from(by rw[hgd];rfl)];rfl)
      have k1x:=zab (hEwD.trans hx) k1
      simp (disch:=first|omega|assumption|rfl) only[go_sem,s11,s2,s12,hj0,hlt2,hyi,zak,k1x,Nat.add_zero,decide_eq_false hty,zaW,↓hg1,↓hg8]
      simp only[zbg,zbv];refine⟨?_,?_⟩
      ·simp (disch:=first|omega|assumption|rfl) only[go_sem,zaW,↓hg1,↓hg8]
       refine hK _ _ ?_;clear hK hgd;clear K;try clear gd
       exact⟨rfl,rfl,(vq1 s12),vr0,(vq1 s10),(vq1 s8),(vq1 s7),(vq1 s3),(vq1 s1),(vq1 s2),hx⟩
      ·simp (disch:=first|omega|assumption|rfl) only[go_sem,zaW,↓hg1,↓hg8]
       simp only[zbg,zbv];refine⟨?_,?_⟩
       ·simp (disch:=first|omega|assumption|rfl) only[go_sem,zaW,↓hg1,↓hg8]
        refine hK _ _ ?_;clear hK hgd;clear K;try clear gd
        exact⟨rfl,rfl,(vq1 s12),vr0,(vq1 s10),(vq1 s8),(vq1 s7),(vq1 s3),(vq1 s1),(vq1 s2),hx⟩
       ·simp (disch:=first|omega|assumption|rfl) only[go_sem,zaW,↓hg1,↓hg8]
        refine hK _ _ ?_;clear hK hgd;clear K;try clear gd
        exact⟨rfl,rfl,(vq1 s12),vr0,(vq1 s10),(vq1 s8),(vq1 s7),(vq1 s3),(vq1 s1),(vq1 s2),hx⟩
   clear s12 s11 s10 s8 s7 s3 s1 s2
   rintro _ σ2 _ E ⟨rfl,rfl,s12,s11,s10,s8,s7,s3,s1,s2,hDE⟩
   repeat refine c_r ?_
   refine rg2 s12 hj1' ?_
   repeat refine c_r ?_
   exact⟨m2 - 1,by omega,rfl,j+1,by omega,vq0,by rw[hnx];simp only[go_sem,s11],(vq1 s10),(vq1 s8),(vq1 s7),(vq1 s3),(vq1 s1),(vq1 s2),hCD.trans hDE⟩
  intro hge2
  simp only[decide_eq_false_iff_not]at hge2
  rw[List.take_of_length_le (by omega)]at s11
  have hisH:(sm||glue.any (isG N.hosts[i].addr))=zbC host glue N.hosts[i]:=by
   unfold zbC
   rw[←hsm,hany]
   cases any with
   |true=>simp
   |false=>
    have:glue.any (isG N.hosts[i].addr)=false:=by
     rw[List.any_eq_false]at hany ⊢
     intro d hd h
     exact hany d hd (by unfold isG at h;rw[Bool.and_eq_true]at h;exact h.1)
    rw[this]
    simp
  rw[hisH]at s11
  have hown2:=hown.ext (hBC.trans hCD)
  have hpk:=zfW (p:=zbC host glue) hi
  have hlen:=zcY (p:=zbC host glue) (l:=N.hosts.take i) (i:=0)
  have hsz:=(hEAC.trans hCD).size
  clear s12 hge2 hjm hisH
  repeat refine c_r ?_
  refine rg1 s11 ?_
  repeat refine c_r ?_
  refine zaC (Q:=fun e σ' ds' v'=>e= .normal∧ds'=[]∧σ' 10=vi i∧σ' 8= .bool any∧σ' 3= .pointer (some ⟨w.heap.size,0,Option.none⟩)∧σ' 1=hv∧σ' 2= .slice a2 glue.length c2∧∃ov',σ' 7=ov'∧Own A.heap.size v' 3 ov' ((zcy (zbC host glue) 0 (N.hosts.take (i+1))).map vi)∧Ext A v') ?_ ?_
  ·cases hb:zbC host glue N.hosts[i] with
   |false=>
    rw[hb,if_neg (by decide),List.append_nil]at hpk
    refine wf hb ?_
    repeat refine c_r ?_
    exact⟨rfl,rfl,(vq1 s10),(vq1 s8),(vq1 s3),(vq1 s1),(vq1 s2),ov,(vq1 s7),by rw[hpk];exact hown2,hEAC.trans hCD⟩
   |true=>
    rw[hb,if_pos rfl]at hpk
    refine wt hb ?_
    repeat refine c_r ?_
    refine rq ?_;intro gd K hgd hK
    try simp (disch:=first|omega|assumption|rfl) only[go_sem,s7,s10]
    refine zgc (z:=vi 0) (by rfl) (by rfl) (by rfl) (by rfl) (by rfl) ?_
    intro A3 hE8 hs8 ho8
    try simp only[go_sem]
    refine zdU (B:=A.heap.size) (hown2.ext hE8) ho8.row (by rfl) (by rfl) (by rfl) (by rfl) (by rfl) (by rfl) ((vr1 s7)) (vr0) (fun q hq=>by rw[List.mem_singleton.1 hq];rfl) (by simp at hlen ⊢;omega) (by decide) (by omega) ?_
    intro ov' A4 ho9 hE9 _ _
    try simp only[go_sem]
    refine hK _ _ ?_;clear hK hgd;clear K;try clear gd
    exact⟨rfl,rfl,(vq1 s10),(vq1 s8),(vq1 s3),(vq1 s1),(vq1 s2),ov',vr0,by rw[hpk,List.map_append];exact ho9,hE9 _ ((hEAC.trans hCD).trans hE8) (Nat.le_refl _)⟩
  clear s11 s10 s8 s7 s3 s1 s2
  rintro _ σ2 _ A3 ⟨rfl,rfl,s10,s8,s3,s1,s2,ov',s7,hown3,hE3⟩
  repeat refine c_r ?_
  refine rg2 s10 hi1' ?_
  repeat refine c_r ?_
  exact⟨m - 1,by omega,rfl,i+1,ov',by omega,vq0,(vq1 s8),(vq1 s7),(vq1 s3),(vq1 s1),(vq1 s2),hown3,hE3⟩
 ·intro hge2
  simp only[decide_eq_false_iff_not]at hge2
  rw[List.take_of_length_le (by omega)]at hown
  repeat (first|refine c_r ?_| (refine zcj (by rfl) ?_;intro gd K hgd hK;simp (disch:=first|omega|assumption|rfl) only[go_sem,s7];refine hK _ _ ?_;clear hK hgd;clear K gd))
  refine rt0 Tryz.ntmps156 ?_
  exact⟨hE1.trans hEB,hown.row,hown.blk.mono hE1.size⟩
theorem zb3(w:World){nv:Value}{l:List Value}(hr:Row w nv l)(s:zax)(k:Int):
  Fn Tryz.prog 103 #[.agg (stV nv s).toArray,vi k] w (fun v w'=>Ext w w'∧Rows 6 (StN nv) w' v (endS s k)):=by
 have h1:=hr.isOne
 obtain⟨an,cn,hnv,_⟩:=hr
 unfold stV
 rw[hnv]
 refine enter Tryz.func103 Tryz.ntmps103 rfl rfl ?_
 repeat refine c_r ?_
 refine rg0 ?_
 rw[←hnv]
 repeat refine c_r ?_
 refine zaA ?_
 intro w1 hE1 hs1 hA
 refine rq ?_;intro gd K hgd hK
 try simp only[go_sem]
 refine zaV (P:=Tryz.prog) (t:=3) (j:=5) (u:=vi k) (l:=stV nv s) hA (by show 5<6;decide) rfl rfl rfl ?_
 intro w2 hs2 hA2 hk2
 try simp only[go_sem]
 refine hK _ _ ?_;clear hK hgd;clear K;try clear gd
 have hE2:=Keep.to_ext hE1 rfl (fun b hb=>by omega) hk2
 have d:zat w2 (some ⟨w.heap.size,0,Option.none⟩) 6=some (stV nv {s with fin:=k}):=zah hA2 rfl
 repeat refine c_r ?_
 refine rq ?_;intro gd K hgd hK
 try simp (disch:=first|omega|assumption|rfl) only[go_sem,d]
 refine zaT (C:=StN nv) (zba nv) (l:=stV nv {s with fin:=k}) (by rfl) (by rfl) (by rfl) (by rfl) ⟨rfl,h1⟩ (by decide) ?_
 intro w3 hE3 hs3 ho3
 try simp only[go_sem]
 refine hK _ _ ?_;clear hK hgd;clear K;try clear gd
 repeat refine c_r ?_
 refine rt0 Tryz.ntmps103 ?_
 exact⟨hE2.trans hE3,ho3.rows⟩
set_option maxHeartbeats 1000000 in
theorem zlF{w0 w:World}(hE0:Ext w0 w){cs:List Value}{N:NetL}(hN:NetAt w0 cs N)(hrl:N.roots.length≤1000){nv:Value}{q:Nm}(hq:Row w nv (q.map vs)):
  Fn Tryz.prog 37 #[.agg cs.toArray,nv] w (fun v w'=>Ext w w'∧Rows 6 (StC w') w' v (zcn N ⟨0,q,0,0,false,0⟩)):=by
 obtain⟨hv,rv,rfl,hh,hro⟩:=hN.ex
 obtain⟨ah,ch,hhv,_⟩:=hh.open
 obtain⟨ar,cr,rfl,hcr,hgr⟩:=hro
 obtain⟨an,cn,hnv,_⟩:=id hq
 have h1:=hq.isOne
 simp only[List.length_map]at hcr hgr
 refine enter Tryz.func37 Tryz.ntmps37 rfl rfl ?_
 repeat refine c_r ?_
 rw[hhv]
 refine rq ?_;intro gd K hgd hK;simp (disch:=first|omega|assumption|rfl) only[go_sem,List.length_map];refine hK _ _ ?_;clear hK hgd;clear K gd
 rw[←hhv]
 repeat refine c_r ?_
 refine zaA ?_
 intro w1 hE1 hs1 hA
 have p1:zaf w1 (some ⟨w.heap.size,1,Option.none⟩)=some (.slice ar N.roots.length cr):=zac hA rfl
 repeat refine c_r ?_
 refine rg0 ?_
 repeat refine c_r ?_
 refine rg0 ?_
 repeat refine c_r ?_
 refine zap (fun m σ ds A=>ds=[]∧∃(i:Nat) (ov:Value),i+m=N.roots.length∧σ 6=vi i∧σ 5=ov∧σ 2= .pointer (some ⟨w.heap.size,0,Option.none⟩)∧σ 1=nv∧Owns 6 (StN nv) w1.heap.size A 82 ov ((N.roots.take i).map fun r=>(⟨r,q,0,0,false,0⟩:zax))∧Ext w1 A) N.roots.length ?_ ?_
 ·exact⟨rfl,0,.slice Option.none 0 0,by omega,vr0,vr0,vr0,vr0,Owns.nil _ _ _ _ _,Keep.refl _ _⟩
 rintro m σ ds A ⟨rfl,i,ov,him,s6,s5,s2,s1,hown,hEA⟩
 have p1A:=zab hEA p1
 repeat refine c_r ?_
 refine rg4 s6 s2 p1A Nat.zero_add ?_
 repeat refine c_r ?_
 refine wc0 ?_ ?_
 ·intro hlt
  simp only[decide_eq_true_eq]at hlt
  have hi:i<N.roots.length:=by omega
  have hi0:(0:Int)≤(i:Int):=by omega
  have hi1':(i:Int)+1=((i+1:Nat):Int):=by push_cast;rfl
  have hg:=zab (hE0.trans (hE1.trans hEA)) (hgr i hi)
  rw[List.getElem_map]at hg
  obtain⟨xz,rfl⟩:=Option.isSome_iff_exists.1 (zai (hgr 0 (by omega)))
  have hszA:=hEA.size
  repeat refine c_r ?_
  refine rq ?_;intro gd K hgd hK
  try simp (disch:=first|omega|assumption|rfl) only[go_sem,s5,s6,s2,s1,p1A,hi0,hlt,hg,Nat.mul_one,Nat.zero_add]
  refine⟨by kernel_rfl,?_⟩
  rw[hnv,show bdV Tryz.prog 82 [(0,vi N.roots[i]),(1,.slice an (q.map vs).length cn)]=some (.agg #[vi N.roots[i],.slice an (q.map vs).length cn,vi 0,vi 0,.bool false,vi 0]) from by kernel_rfl,←hnv]
  try simp only[go_sem]
  refine zaT (C:=StN nv) (zba nv) (l:=stV nv ⟨N.roots[i],q,0,0,false,0⟩) (by rfl) (by rfl) (by rfl) (by rfl) ⟨rfl,h1⟩ (by decide) ?_
  intro A2 hE7 hs7 ho7
  try simp only[go_sem]
  refine zaI (zba nv) (hown.ext hE7) ho7.rows (by rfl) (by rfl) (by rfl) (by rfl) (by rfl) (by rfl) (by decide) ((vr1 s5)) (vr0) (by simp;omega) (by decide) (by omega) ?_
  intro ov' A3 ho8 hE8 hk8 _
  try simp only[go_sem]
  refine hK _ _ ?_;clear hK hgd;clear K;try clear gd
  repeat refine c_r ?_
  refine rg2 s6 hi1' ?_
  repeat refine c_r ?_
  refine⟨m - 1,by omega,rfl,i+1,ov',by omega,vq0,vq0,(vq1 s2),(vq1 s1),?_,hE8 w1 (hEA.trans hE7) (Nat.le_refl _)⟩
  rw[zao hi,List.map_append]
  exact ho8
 ·intro hge
  simp only[decide_eq_false_iff_not]at hge
  rw[List.take_of_length_le (by omega)]at hown
  repeat (first|refine c_r ?_| (refine zcj (by rfl) ?_;intro gd K hgd hK;simp (disch:=first|omega|assumption|rfl) only[go_sem,s5];refine hK _ _ ?_;clear hK hgd;clear K gd))
  refine rt0 Tryz.ntmps37 ?_
  have hE:=hE1.trans hEA
  exact⟨hE,zbp hown.rows (fun s hs=>by
   obtain⟨r,_,rfl⟩:=List.mem_map.1 hs
   exact hq.ext hE)⟩
set_option maxHeartbeats 2000000 in
theorem zin{w0 w:World}(hE0:Ext w0 w){cs:List Value}{N:NetL}(hN:NetAt w0 cs N)(hG:NetZ N){nv tv:Value}{s:zax}{to:Nm}(hr:Row w nv (s.name.map vs))(ht:Row w tv (to.map vs))(mt:NmM to)(b0:0≤s.rw)(b1:s.rw≤1000000):
  Fn Tryz.prog 104 #[.agg cs.toArray,.agg (stV nv s).toArray,tv] w (fun v w'=>Ext w w'∧Rows 6 (StC w') w' v (zd6 N s to)):=by
 have hN0:=hN
 obtain⟨hv,rv,rfl,hh,hro⟩:=hN.ex
 obtain⟨ah,ch,hhv,_⟩:=hh.open
 have hro0:=hro
 obtain⟨ar,cr,hrv,hcr,hgr⟩:=hro
 simp only[List.length_map]at hcr hgr hrv
 obtain⟨an,cn,hnv,_⟩:=id hr
 have t1:=ht.isOne
 have hrl:=hG.rl
 obtain⟨at1,ct,htv,_⟩:=id ht
 unfold stV
 refine enter Tryz.func104 Tryz.ntmps104 rfl rfl ?_
 repeat refine c_r ?_
 rw[hhv,hrv,hnv]
 refine rg0 ?_
 rw[←hhv,←hrv,←hnv]
 repeat refine c_r ?_
 rw[zam]
 refine zaH ?_
 intro w1 hE1 hs1 hB hA
 have p2:zaf w1 (some ⟨w.heap.size+1,2,Option.none⟩)=some (vi s.rw):=zac hA rfl
 have q2:zaf w1 (some ⟨w.heap.size,2,Option.none⟩)=some (vi N.rw):=zac hB rfl
 have dA:zat w1 (some ⟨w.heap.size+1,0,Option.none⟩) 6=some (stV nv s):=zah hA rfl
 repeat refine c_r ?_
 unfold zd6
 by_cases hge:s.rw≥N.rw
 ·rw[if_pos hge]
  refine rg4 p2 q2 Nat.zero_add (decide_eq_true hge) ?_
  repeat refine c_r ?_
  refine wt trivial ?_
  repeat refine c_r ?_
  refine rc dA (zb3 w1 (hr.ext hE1) s 7) ?_
  rintro v w2 ⟨hE2,hv2⟩
  refine re trivial ?_
  repeat refine c_r ?_
  refine rt0 Tryz.ntmps104 ?_
  exact⟨hE1.trans hE2,zbp hv2 fun x hx=>by rw[za5 hx];exact hr.ext (hE1.trans hE2)⟩
 rw[if_neg hge]
 refine rg4 p2 q2 Nat.zero_add (decide_eq_false hge) ?_
 repeat refine c_r ?_
 refine wf trivial ?_
 repeat refine c_r ?_
 refine rq ?_;intro gd K hgd hK
 try simp (disch:=first|omega|assumption|rfl) only[go_sem,p2,Nat.zero_add]
 refine zaV (P:=Tryz.prog) (t:=3) (j:=2) (u:=vi (s.rw+1)) (l:=stV nv s) hA (by show 2<6;decide) rfl rfl rfl ?_
 intro w2 hs2 hA2 hk2
 try simp only[go_sem]
 refine hK _ _ ?_;clear hK hgd;clear K;try clear gd
 repeat refine c_r ?_
 refine rq ?_;intro gd K hgd hK
 try simp only[go_sem]
 refine zaV (P:=Tryz.prog) (t:=22) (j:=1) (u:=tv) hA2 (by show 1<6;decide) t1 rfl rfl ?_
 intro w3 hs3 hA3 hk3
 try simp only[go_sem]
 refine hK _ _ ?_;clear hK hgd;clear K;try clear gd
 repeat refine c_r ?_
 refine rq ?_;intro gd K hgd hK
 try simp only[go_sem]
 refine zaV (P:=Tryz.prog) (t:=4) (j:=4) (u:= .bool false) hA3 (by show 4<6;decide) rfl rfl rfl ?_
 intro w4 hs4 hA4 hk4
 try simp only[go_sem]
 refine hK _ _ ?_;clear hK hgd;clear K;try clear gd
 obtain⟨s2,hs2e⟩:∃s2:zax,{s with rw:=s.rw+1,name:=to,ref:=false}=s2:=⟨_,rfl⟩
 have hA4':w4.heap[w.heap.size+1]? =some (.cells (stV tv s2).toArray 82 (0,0)):=by rw[←hs2e];exact hA4
 have hE4:Ext w w4:=Keep.to_ext (Keep.to_ext (Keep.to_ext hE1 rfl (fun b hb=>by omega) hk2) rfl (fun b hb=>by omega) hk3) rfl (fun b hb=>by omega) hk4
 have hB4:=(hk4.block _ (by omega) (by omega)).trans ((hk3.block _ (by omega) (by omega)).trans ((hk2.block _ (by omega) (by omega)).trans hB))
 have dN:zat w4 (some ⟨w.heap.size,0,Option.none⟩) 4=some [hv,rv,vi N.rw,vi N.rf]:=zah hB4 rfl
 have r0:zaf w4 (some ⟨w.heap.size+1,0,Option.none⟩)=some (vi s.sv):=by rw[←hs2e]at hA4';exact zac hA4' rfl
 have hE04:=hE0.trans hE4
 have mn:s2.name=to:=by rw[←hs2e]
 rw[hs2e]
 repeat refine c_r ?_
 refine rc (an3 dN r0 Nat.add_zero) (zjc (s:=s.sv) hE04 hN0 hG (ht.ext hE4) mt) ?_
 rintro _ w5 ⟨rfl,hE5⟩
 refine re trivial ?_
 have hE45:=hE4.trans hE5
 have dS:zat w5 (some ⟨w.heap.size+1,0,Option.none⟩) 6=some (stV tv s2):=zae hE5 (zah hA4' rfl)
 have hA5:=Ext.at hE5 hA4'
 have p1:zaf w5 (some ⟨w.heap.size,1,Option.none⟩)=some (.slice ar N.roots.length cr):=by rw[←hrv];exact zac (Ext.at hE5 hB4) rfl
 have hs5:=hE5.size
 repeat refine c_r ?_
 refine rg0 ?_
 repeat refine c_r ?_
 cases hb:(zbN N s.sv to).2 with
 |true=>
  rw[if_pos rfl]
  refine wt trivial ?_
  repeat refine c_r ?_
  refine rq ?_;intro gd K hgd hK
  try simp (disch:=first|omega|assumption|rfl) only[go_sem,dS]
  refine zaT (C:=StN tv) (zba tv) (l:=stV tv s2) (a:=s2) (by rfl) (by rfl) (by rfl) (by rfl) ⟨rfl,t1⟩ (by decide) ?_
  intro w6 hE6 hs6 ho6
  try simp only[go_sem]
  refine hK _ _ ?_;clear hK hgd;clear K;try clear gd
  repeat refine c_r ?_
  refine rt0 Tryz.ntmps104 ?_
  exact⟨hE45.trans hE6,zbp ho6.rows fun x hx=>by rw[List.mem_singleton.1 hx,mn];exact ht.ext (hE45.trans hE6)⟩
 |false=>
  rw[if_neg Bool.false_ne_true]
  refine wf trivial ?_
  repeat refine c_r ?_
  refine rg0 ?_
  repeat refine c_r ?_
  refine rg0 ?_
  repeat refine c_r ?_
  obtain⟨b3,hb3⟩:∃b,w.heap.size+1=b:=⟨_,rfl⟩
  rw[hb3]at hA5 dS ⊢
  refine zap (fun m σ ds A=>ds=[]∧∃(i:Nat) (ov:Value) (s':zax),i+m=N.roots.length∧σ 10=vi i∧σ 9=ov∧σ 3= .pointer (some ⟨w.heap.size,0,Option.none⟩)∧σ 4= .pointer (some ⟨b3,0,Option.none⟩)∧A.heap[b3]? =some (.cells (stV tv s').toArray 82 (0,0))∧(∃k,s'={s2 with sv:=k})∧
   Owns 6 (StN tv) w5.heap.size A 82 ov ((N.roots.take i).map fun r=>{s2 with sv:=r})∧KeepB w5.heap.size (fun b=>b=b3) w5 A) N.roots.length ?_ ?_
  ·exact⟨rfl,0,.slice Option.none 0 0,s2,by omega,vr0,vr0,vr0,vr0,hA5,⟨s2.sv,rfl⟩,Owns.nil _ _ _ _ _,KeepB.refl _ _ _⟩
  rintro m σ ds A ⟨rfl,i,ov,s',him,s10,s9,s3,s4,hB3,⟨k0,hs'⟩,hown,hKA⟩
  have hszA:=hKA.size
  have hEA:Ext w A:=Keep.to_ext hE45 rfl (fun b hb=>by omega) hKA.keep
  have p1A:zaf A (some ⟨w.heap.size,1,Option.none⟩)=some (.slice ar N.roots.length cr):=by
   rw[←hrv];exact zac ((hKA.keep.block _ (by omega) (by omega)).trans (Ext.at hE5 hB4)) rfl
  repeat refine c_r ?_
  refine rg4 s10 s3 p1A Nat.zero_add ?_
  repeat refine c_r ?_
  refine wc0 ?_ ?_
  ·intro hlt
   simp only[decide_eq_true_eq]at hlt
   have hi:i<N.roots.length:=by omega
   have hi0:(0:Int)≤(i:Int):=by omega
   have hi1':(i:Int)+1=((i+1:Nat):Int):=by push_cast;rfl
   have hg:=zab (hE0.trans hEA) (hgr i hi)
   rw[List.getElem_map]at hg
   obtain⟨xz,rfl⟩:=Option.isSome_iff_exists.1 (zai (hgr 0 (by omega)))
   repeat refine c_r ?_
   refine rq ?_;intro gd K hgd hK
   try simp (disch:=first|omega|assumption|rfl) only[go_sem,s10,s3,s4,p1A,hi0,hlt,hg,Nat.mul_one,Nat.zero_add]
   refine zaV (P:=Tryz.prog) (t:=3) (j:=0) (u:=vi N.roots[i]) (l:=stV tv s') hB3 (by show 0<6;decide) rfl rfl rfl ?_
   intro A1 hs6 hB1 hk1
   try simp only[go_sem]
   refine hK _ _ ?_;clear hK hgd;clear K;try clear gd
   have hB1':A1.heap[b3]? =some (.cells (stV tv {s2 with sv:=N.roots[i]}).toArray 82 (0,0)):=by rw[hs']at hB1;exact hB1
   have d:zat A1 (some ⟨b3,0,Option.none⟩) 6=some (stV tv {s2 with sv:=N.roots[i]}):=zah hB1' rfl
   have hown1:=hown.keep hk1 (fun b hb hb2=>by have:=(hown.ge hb).1;omega)
   repeat refine c_r ?_
   refine rq ?_;intro gd K hgd hK
   try simp (disch:=first|omega|assumption|rfl) only[go_sem,s9,s4,d]
   refine zaT (C:=StN tv) (zba tv) (l:=stV tv {s2 with sv:=N.roots[i]}) (by rfl) (by rfl) (by rfl) (by rfl) ⟨rfl,t1⟩ (by decide) ?_
   intro A2 hE7 hs7 ho7
   try simp only[go_sem]
   refine zaI (zba tv) (hown1.ext hE7) ho7.rows (by rfl) (by rfl) (by rfl) (by rfl) (by rfl) (by rfl) (by decide) ((vr1 s9)) (vr0) (by simp;omega) (by decide) (by omega) ?_
   intro ov' A3 ho8 hE8 hk8 _
   try simp only[go_sem]
   refine hK _ _ ?_;clear hK hgd;clear K;try clear gd
   have hsz3:=hk8.size
   repeat refine c_r ?_
   refine rg2 s10 hi1' ?_
   repeat refine c_r ?_
   refine⟨m - 1,by omega,rfl,i+1,ov',{s2 with sv:=N.roots[i]},by omega,vq0,vq0,(vq1 s3),(vq1 s4),?_,⟨_,rfl⟩,?_,?_⟩
   ·refine(hk8.block _ (by omega) (fun hb=>?_)).trans (Ext.at hE7 hB1')
    have:=(hown1.ge hb).1;omega
   ·rw[zao hi,List.map_append]
    exact ho8
   ·refine hKA.trans ((hk1.toB hszA fun i _ h=>h).trans ((hE7.toB (by omega) fun i _ h=>h.elim).trans (hk8.toB (by omega) fun i h1 h2=>?_)))
    have:=(hown1.ge h2).1;omega
  ·intro hge2
   simp only[decide_eq_false_iff_not]at hge2
   rw[List.take_of_length_le (by omega)]at hown
   repeat (first|refine c_r ?_| (refine zcj (by rfl) ?_;intro gd K hgd hK;simp (disch:=first|omega|assumption|rfl) only[go_sem,s9];refine hK _ _ ?_;clear hK hgd;clear K gd))
   refine rt0 Tryz.ntmps104 ?_
   exact⟨hEA,zbp hown.rows (fun x hx=>by
    obtain⟨k,_,rfl⟩:=List.mem_map.1 hx
    show Row _ _ (s2.name.map vs)
    rw[mn];exact ht.ext hEA)⟩
end Go.Proofs.YtopbbjdembnfdaaGreat
