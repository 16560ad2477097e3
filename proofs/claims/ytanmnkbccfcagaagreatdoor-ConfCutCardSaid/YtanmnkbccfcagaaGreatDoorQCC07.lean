/-
  Texts of a proof, joined: W7, W8, NN, NO, NP, K38, NQ, NR, NS, NT.
  Conditions: none.
-/
import Derived.Test.YtanmnkbccfcagaaGreatDoorQCC06
import Derived.Laws.IdiomCopy
import Derived.Test.YtanmnkbccfcagaaGreatDoorQCC03
set_option linter.unusedVariables false
set_option linter.unusedSimpArgs false
set_option linter.defProp false
set_option linter.unnecessarySimpa false
set_option maxHeartbeats 8000000
namespace Go.Proofs.YtanmnkbccfcagaaGreatDoor
open Go
set_option maxRecDepth 10000
theorem zbH(w:World):zeD 2 (PlaceC w):=by
 refine⟨fun h=>?_,fun h=>?_⟩
 ·obtain⟨ov,rfl,_⟩:=h.ex;rfl
 ·obtain⟨ov,rfl,h1⟩:=h.ex
  intro q hq
  simp at hq
  rcases hq with rfl|rfl
  ·exact h1.isOne
  ·rfl
def gxC(cs:List Value)(x:SrvL×(Value×List Value)):Prop:=cs=x.2.2∧cs.length=6∧∀q∈cs,one q=true
theorem zgo:zeD 6 gxC:=⟨fun h=>h.2.1,fun h=>h.2.2⟩
structure SrvX(w0 A:World)(pv:Value)(cs:List Value)(s:SrvL):Prop where
 ex:∃nv a b c d,cs=[nv,zab a,zab b,zab c,zab d,pv]∧s.addr=[a,b,c,d]∧Row w0 nv (s.host.map vs)∧Rows 2 (PlaceC w0) A pv s.places
theorem SrvX.keep{w0 A A':World}{pv:Value}{cs:List Value}{s:SrvL}(h:SrvX w0 A pv cs s){S:Nat→Prop}(hk:Keep S A A')(hS:∀a n c,pv= .slice (some a) n c→a.block<A.heap.size∧¬S a.block):SrvX w0 A' pv cs s:=by
 obtain⟨nv,a,b,c,d,e,ha,h1,h2⟩:=h.ex
 exact⟨nv,a,b,c,d,e,ha,h1,h2.blocks fun a n c hv=>hk.block _ (hS a n c hv).1 (hS a n c hv).2⟩
structure GS(w0:World)(e:TypeId)(B:Nat)(A:World)(ov:Value)(G:List (SrvL×(Value×List Value))):Prop where
 own:Owns 6 gxC B A e ov G
 row:∀x∈G,SrvX w0 A x.2.1 x.2.2 x.1∧BlkB B A x.2.1∧∀a n c,x.2.1= .slice (some a) n c→some a.block≠ov.ownBlock
theorem GS.keep{w0 A A':World}{e:TypeId}{B:Nat}{ov:Value}{G:List (SrvL×(Value×List Value))}(h:GS w0 e B A ov G){S:Nat→Prop}(hk:Keep S A A')(hS:∀b,B≤b→b<A.heap.size→¬S b):GS w0 e B A' ov G:=
 ⟨h.own.keep hk (fun b hb=>hS b (h.own.ge hb).1 (h.own.ge hb).2),fun x hx=>by
  obtain⟨h1,h2,h3⟩:=h.row x hx
  exact⟨h1.keep hk (fun a n c hv=>⟨(h2 a n c hv).2,hS _ (h2 a n c hv).1 (h2 a n c hv).2⟩),h2.ext hk.size,h3⟩⟩
theorem GS.ext{w0 A A':World}{e:TypeId}{B:Nat}{ov:Value}{G:List (SrvL×(Value×List Value))}(h:GS w0 e B A ov G)(hE:Ext A A'):GS w0 e B A' ov G:=h.keep hE (fun _ _ _ h=>h)
theorem GS.app{w0 A A1 A2:World}{e:TypeId}{B:Nat}{ov ov':Value}{G:List (SrvL×(Value×List Value))}{x:SrvL×(Value×List Value)}(h:GS w0 e B A ov G)(hE:Ext A A1)(hB:B≤A.heap.size)
  (hx:SrvX w0 A1 x.2.1 x.2.2 x.1) (hxb:BlkB A.heap.size A1 x.2.1) (ho:Owns 6 gxC B A2 e ov' (G++ [x])) (hk:Keep (fun b=>some b=ov.ownBlock) A1 A2) (hb:∀b,some b=ov'.ownBlock→some b=ov.ownBlock∨A1.heap.size≤b):GS w0 e B A2 ov' (G++ [x]):=by
 refine⟨ho,fun y hy=>?_⟩
 have h1:=h.ext hE
 have hge:∀b,some b=ov.ownBlock→b<A.heap.size:=fun b hb=>(h.own.ge hb).2
 have hy2:SrvX w0 A1 y.2.1 y.2.2 y.1∧BlkB B A1 y.2.1∧∀a n c,y.2.1= .slice (some a) n c→some a.block≠ov.ownBlock:=by
  rcases List.mem_append.1 hy with hy|hy
  ·exact h1.row y hy
  ·rw[List.mem_singleton.1 hy]
   exact⟨hx,hxb.mono hB,fun a n c hv hbb=>by have:=hge _ hbb;have:=(hxb a n c hv).1;omega⟩
 obtain⟨g1,g2,g3⟩:=hy2
 refine⟨g1.keep hk (fun a n c hv=>⟨(g2 a n c hv).2,g3 a n c hv⟩),g2.ext hk.size,fun a n c hv hbb=>?_⟩
 rcases hb _ hbb with e|e
 ·exact g3 a n c hv e
 ·have:=(g2 a n c hv).2;omega
theorem GS.rows{w0 A:World}{e:TypeId}{B:Nat}{ov:Value}{G:List (SrvL×(Value×List Value))}(h:GS w0 e B A ov G)(hE:Ext w0 A):Rows 6 (SrvC A) A ov (G.map Prod.fst):=by
 obtain⟨L,h1,h2,h3⟩:=h.own.rows
 refine⟨L,h1,by rw[h2,List.length_map],fun i hi hi'=>?_⟩
 have hi2:i<G.length:=by omega
 obtain⟨e1,_⟩:=h3 i hi hi2
 obtain⟨g1,_⟩:=h.row _ (List.getElem_mem hi2)
 obtain⟨nv,a,b,c,d,e2,ha,g2,g3⟩:=g1.ex
 rw[e1,e2,List.getElem_map]
 exact⟨nv,a,b,c,d,_,rfl,ha,g2.ext hE,g3.to fun _ _ h=>h.ext hE⟩
structure IP(w0:World)(es ep:TypeId)(b5:Nat)(nv:Value)(a b c d:UInt8)(A0 v:World)(pv:Value)(ps:List za3):Prop where
 h:v.heap[b5]? =some (.cells #[nv,zab a,zab b,zab c,zab d,pv] es (0,0))
 own:Owns 2 (PlaceC w0) (b5+1) v ep pv ps
 e:Ext A0 v
 lo:A0.heap.size≤b5
theorem IP.app{w0 A0 v v1 v2 v3:World}{es ep:TypeId}{b5:Nat}{nv pv pv':Value}{a b c d:UInt8}{ps:List za3}{p:za3}(h:IP w0 es ep b5 nv a b c d A0 v pv ps)(hE:Ext v v1)
  (ho:Owns 2 (PlaceC w0) (b5+1) v2 ep pv' (ps++ [p])) (hk:Keep (fun b=>some b=pv.ownBlock) v1 v2) (h3:v3.heap[b5]? =some (.cells #[nv,zab a,zab b,zab c,zab d,pv'] es (0,0))) (hk3:Keep (fun b=>b=b5) v2 v3):IP w0 es ep b5 nv a b c d A0 v3 pv' (ps++ [p]):=by
 have lo:=h.lo
 have e2:Ext A0 v2:=Keep.to_ext (h.e.trans hE) rfl (fun b hb=>by have:=(h.own.ge hb).1;omega) hk
 exact⟨h3,ho.keep hk3 (fun b hb hb2=>by have:=(ho.ge hb).1;omega),Keep.to_ext e2 rfl (fun b hb=>by omega) hk3,lo⟩
theorem zdf{y:Addr}{n:Nat}(h:y.block<n):offS (zcn n) (some y):=fun a ha hb=>by
 cases ha
 exact absurd (show n≤y.block from hb) (by omega)
theorem Of15_ok(w:World){cs:List Value}{c:za4}(hc:ConfAt w cs c)(hf:FewC c):
  Fn Tryz.prog 44 #[.agg cs.toArray] w (fun v w'=>Ext w w'∧∃cs',v= .agg cs'.toArray∧ConfAt w' cs' c):=by
 obtain⟨sv,rv,rfl,hs,hr⟩:=hc.ex
 obtain⟨aS,cS,rfl,hat⟩:=zf6 hs
 have hr0:=hr
 have r1:=hr.isOne
 obtain⟨ar,cr,hrv,_,hgr⟩:=hr
 have hsl:=hf.sl
 refine enter Tryz.func44 Tryz.ntmps44 rfl rfl ?_
 repeat refine c_r ?_
 rw[hrv]
 refine rg0 ?_
 rw[←hrv]
 repeat refine c_r ?_
 rw[zaz]
 refine zcH ?_
 intro w1 hE1 hs1 hA hC
 have p0:zag w1 (some ⟨w.heap.size,0,Option.none⟩)=some (.slice aS c.servers.length cS):=zad hA rfl
 have p1:zag w1 (some ⟨w.heap.size,1,Option.none⟩)=some rv:=zad hA rfl
 have p2:zag w1 (some ⟨w.heap.size,2,Option.none⟩)=some (vi c.rw):=zad hA rfl
 have p3:zag w1 (some ⟨w.heap.size,3,Option.none⟩)=some (vi c.rf):=zad hA rfl
 repeat refine c_r ?_
 refine rq ?_;intro gd K hgd hK
 try simp (disch:=first|omega|assumption|rfl) only[go_sem,p1,p2,p3,Nat.zero_add]
 refine⟨by kernel_rfl,?_⟩
 rw[hrv,show bdV Tryz.prog 89 [(1,.slice ar (c.roots.map vi).length cr),(2,vi c.rw),(3,vi c.rf)]=some (.agg #[.slice Option.none 0 0,.slice ar (c.roots.map vi).length cr,vi c.rw,vi c.rf]) from by kernel_rfl,←hrv]
 try simp only[go_sem]
 refine zbg (P:=Tryz.prog) (l:=[.slice Option.none 0 0,rv,vi c.rw,vi c.rf]) rfl (fun v hv=>by simp at hv;rcases hv with rfl|rfl|rfl|rfl<;>first|exact r1|rfl) rfl rfl ?_
 intro w2 hE2 hs2 hD
 try simp only[go_sem]
 refine hK _ _ ?_;clear hK hgd;clear K;try clear gd
 obtain⟨c3,hc3⟩:∃b,w1.heap.size=b:=⟨_,rfl⟩
 rw[hc3]at hD hs2 ⊢
 have hE12:=hE1.trans hE2
 have p0w:=zaa hE2 p0
 repeat refine c_r ?_
 refine rg0 ?_
 repeat refine c_r ?_
 refine zaR (fun m σ ds A=>ds=[]∧∃(i:Nat) (ov:Value) (G:List (SrvL×(Value×List Value))),i+m=c.servers.length∧σ 4=vi i∧σ 1= .pointer (some ⟨w.heap.size,0,Option.none⟩)∧σ 2= .pointer (some ⟨w.heap.size+1,0,Option.none⟩)∧σ 3= .pointer (some ⟨c3,0,Option.none⟩)∧Ext w1 A∧c3+1≤A.heap.size∧
  A.heap[c3]? =some (.cells #[ov,rv,vi c.rw,vi c.rf] 89 (0,0))∧GS w 175 (c3+1) A ov G∧G.map Prod.fst=c.servers.take i) c.servers.length ?_ ?_
 ·exact⟨rfl,0,.slice Option.none 0 0,[],by omega,vr0,vq0,vq0,vq0,hE2,by omega,hD,⟨Owns.nil _ _ _ _ _,fun x h=>by cases h⟩,rfl⟩
 rintro m σ ds A ⟨rfl,i,ov,G,him,s4,s1,s2,s3,hEA,hAs,hB3,hGS,hGf⟩
 have p0A:=zaa hEA p0
 repeat refine c_r ?_
 refine rg4 s4 s1 p0A Nat.add_zero ?_
 repeat refine c_r ?_
 refine wc0 ?_ ?_
 ·intro hlt
  simp only[decide_eq_true_eq]at hlt
  have hi:i<c.servers.length:=by omega
  have hi0:(0:Int)≤(i:Int):=by omega
  have hi1':(i:Int)+1=((i+1:Nat):Int):=by push_cast;rfl
  obtain⟨xa,xi,x5,nv,ap,cp,rfl,hxi,hx5,g0,hn,g5,⟨b1,b2,b3,b4,hadr,hcs⟩,hpr,hpl⟩:=hat i hi
  obtain⟨s,hse⟩:∃s,c.servers[i]=s:=⟨_,rfl⟩
  obtain⟨fs1,fs2,fs3⟩:=hf.s s (hse▸List.getElem_mem hi)
  rw[hse]at hn g5 hadr hcs hpr
  simp only[hse]at hpl
  have n1:=hn.isOne
  have hz0:adr (some xi) 0=some xi:=zal _
  obtain⟨y1,hy1⟩:∃y,adr (some xi) 1=some y:=⟨_,rfl⟩
  have gby:zao w (some y1) 4=some [zab b1,zab b2,zab b3,zab b4]:=by
   have h5:=zb6 (m:=1) (k:=5) hcs
   rw[hy1]at h5
   exact zbB (m:=4) (k:=1) h5
  obtain⟨an,cn,hnv,_⟩:=id hn
  repeat refine c_r ?_
  refine zaU (fun i=>i==14) [(0,true),(1,true),(2,true),(3,true),(4,true),(5,true),(6,true),(7,true),(8,true),(9,true),(10,true),(11,true),(12,true),(13,false),(14,false)] NoS mixed (by kernel_rfl) ?_;intro gd K x hgd hx hxe hK;clear hxe
  have hwx:=hE1.trans (hEA.trans hx)
  have p0x:=zaa hx p0A
  have g0x:=zaa hwx g0
  have gbx:=zai hwx gby
  simp (disch:=first|omega|assumption|rfl) only[go_sem,s4,s1,p0x,Nat.add_zero,hi0,hlt,hxi,hz0,hy1,g0x,gbx]
  refine⟨by kernel_rfl,?_⟩
  rw[hnv,show bdV Tryz.prog 175 [(0,.slice an (s.host.map vs).length cn),(1,.agg #[zab b1,zab b2,zab b3,zab b4])]=some (.agg #[.slice an (s.host.map vs).length cn,zab b1,zab b2,zab b3,zab b4,.slice Option.none 0 0]) from by kernel_rfl,←hnv]
  simp (disch:=first|omega|assumption|rfl) only[go_sem]
  refine⟨.inr (Ext.alloc x _),?_⟩
  refine zbg (P:=Tryz.prog) (l:=[nv,zab b1,zab b2,zab b3,zab b4,.slice Option.none 0 0]) rfl (fun v hv=>by simp at hv;rcases hv with rfl|rfl|rfl|rfl|rfl|rfl<;>first|exact n1|rfl) rfl rfl ?_
  intro A1 hE3 hs3 hB5
  refine⟨.inl rfl,?_⟩
  simp (disch:=first|omega|assumption|rfl) only[go_sem]
  refine hK _ _ ?_;clear hK hgd;clear K;try clear gd
  have hx3:=hx.trans hE3
  obtain⟨b5,hb5⟩:∃b,x.heap.size=b:=⟨_,rfl⟩
  have hsx:=hx.size
  rw[hb5]at hB5 hs3 hsx ⊢
  have hIP:IP w 175 177 b5 nv b1 b2 b3 b4 A A1 (.slice Option.none 0 0) []:=⟨hB5,Owns.nil _ _ _ _ _,hx3,hsx⟩
  clear p0x g0x gbx hx hx3 hwx hE3 hB5
  repeat refine c_r ?_
  refine rg0 ?_
  repeat refine c_r ?_
  refine zaR (fun m σ ds v=>ds=[]∧∃(k:Nat) (pv:Value),k+m=s.places.length∧σ 6=vi k∧σ 4=vi i∧σ 1= .pointer (some ⟨w.heap.size,0,Option.none⟩)∧σ 2= .pointer (some ⟨w.heap.size+1,0,Option.none⟩)∧σ 3= .pointer (some ⟨c3,0,Option.none⟩)∧σ 5= .pointer (some ⟨b5,0,Option.none⟩)∧
   IP w 175 177 b5 nv b1 b2 b3 b4 A v pv (s.places.take k)∧b5+1≤v.heap.size) s.places.length ?_ ?_
  ·exact⟨rfl,0,_,by omega,vr0,(vq1 s4),(vq1 s1),(vq1 s2),(vq1 s3),vq0,hIP,by omega⟩
  clear s4 s1 s2 s3 hIP
  rintro m2 σ2 ds2 v ⟨rfl,k,pv,hkm,s6,s4,s1,s2,s3,s5,hIP,hvs⟩
  have hEv:=hEA.trans hIP.e
  have hwv:=hE1.trans hEv
  have p0v:=zaa hEv p0
  have g5v:=zaa hwv g5
  repeat refine c_r ?_
  refine rg9 s6 s4 s1 (an3 p0v Nat.add_zero g5v) hi0 hlt hxi hx5 trivial ?_
  repeat refine c_r ?_
  refine wc0 ?_ ?_
  ·intro hlt2
   simp only[decide_eq_true_eq]at hlt2
   have hk:k<s.places.length:=by omega
   have hk0:(0:Int)≤(k:Int):=by omega
   have hk1':(k:Int)+1=((k+1:Nat):Int):=by push_cast;rfl
   obtain⟨xp,xk,xk1,ow,rfl,hxk,hxk1,f0,ho,f1⟩:=hpl k hk
   have hz1:adr (some xk) 0=some xk:=zal _
   obtain⟨ao,co,how,_⟩:=id ho
   have q5:zag v (some ⟨b5,5,Option.none⟩)=some pv:=zad hIP.h rfl
   have lo:=hIP.lo
   repeat refine c_r ?_
   refine zaU (fun i=>i==26) [(0,true),(1,true),(2,true),(3,true),(4,true),(5,true),(6,true),(7,true),(8,true),(9,true),(10,true),(11,true),(12,true),(13,true),(14,true),(15,true),(16,true),(17,true),(18,true),(19,true),(20,true),(21,true),(22,true),(23,false),(24,false),(25,true),(26,false)] (zcn (b5+1)) mixed (by kernel_rfl) ?_;intro gd K x hgd hx hxe hK;have hx0:=za0 hxe;clear hxe
   have hwx:=hwv.trans hx0
   have p0x:=zaa hx0 p0v
   have g5x:=zaa hwx g5
   have f0x:=zaa hwx f0
   have f1x:=zaa hwx f1
   have q5x:=zaa hx0 q5
   simp (disch:=first|omega|assumption|rfl) only[go_sem,s6,s4,s1,s5,p0x,Nat.add_zero,Nat.zero_add,hi0,hlt,hk0,hlt2,hxi,hx5,hxk,hz1,hxk1,g5x,f0x,f1x,q5x]
   have l5:x5.block<b5+1:=by have:=zcl (show w.cell? x5=some _ from g5);have:=hwv.size;have:=hE1.size;have:=hEA.size;omega
   have lk:xk.block<b5+1:=by have:=zcl (show w.cell? xk=some _ from f0);have:=hE1.size;have:=hEA.size;omega
   have lk1:xk1.block<b5+1:=by have:=zcl (show w.cell? xk1=some _ from f1);have:=hE1.size;have:=hEA.size;omega
   have lw:w.heap.size<b5+1:=by have:=hE1.size;have:=hEA.size;omega
   refine⟨za8 (by omega),za8 lw,zdf l5,zdf lk,za8 lw,zdf l5,zdf lk1,by kernel_rfl,?_⟩
   rw[how,show bdV Tryz.prog 177 [(0,.slice ao (s.places[k].o.map vs).length co),(1,vs s.places[k].path)]=some (.agg #[.slice ao (s.places[k].o.map vs).length co,vs s.places[k].path]) from by kernel_rfl,←how]
   simp (disch:=first|omega|assumption|rfl) only[go_sem]
   refine zdN (zbH w) (l:=[ow,vs s.places[k].path]) (a:=s.places[k]) (by rfl) (by rfl) (by rfl) (by rfl) ⟨ow,rfl,ho⟩ (by decide) ?_
   intro v1 hE4 hs4' ho4
   refine⟨.inr hE4.keep,?_⟩
   simp (disch:=first|omega|assumption|rfl) only[go_sem]
   have hx04:=hx0.trans hE4
   have hsz4:=hx04.size
   refine zeq (zbH w) (hIP.own.ext hx04) ho4.rows (by rfl) (by rfl) (by rfl) (by rfl) (by rfl) (by rfl) (by decide) (vr0) (vr0) (by simp;omega) (by decide) (by omega) ?_
   intro pv' v2 ho5 hE5 hk5 hb5'
   refine⟨.inr (hk5.mono fun b _ hb=>(hIP.own.ge hb).1),?_⟩
   obtain⟨ap',cp',hpv',_⟩:=ho5.rows.open
   simp (disch:=first|omega|assumption|rfl) only[go_sem,s5,Nat.zero_add]
   refine zdq (P:=Tryz.prog) (t:=173) (j:=5) (u:=pv') (l:=[nv,zab b1,zab b2,zab b3,zab b4,pv]) ((hk5.block _ (by omega) (fun hb=>by have:=(hIP.own.ge hb).1;omega)).trans (Ext.at hx04 hIP.h)) (by simp) (by rw[hpv'];rfl) rfl rfl ?_
   intro v3 hs3' hB3' hk3'
   refine⟨.inl rfl,?_⟩
   simp (disch:=first|omega|assumption|rfl) only[go_sem]
   refine hK _ _ ?_;clear hK hgd;clear K;try clear gd
   have hIPn:=hIP.app hx04 ho5 hk5 hB3' hk3'
   have hs5:=hk5.size
   repeat refine c_r ?_
   refine rg2 s6 hk1' ?_
   repeat refine c_r ?_
   refine⟨m2 - 1,by omega,rfl,k+1,pv',by omega,vq0,(vq1 s4),(vq1 s1),(vq1 s2),(vq1 s3),(vq1 s5),?_,by omega⟩
   rw[zan hk];exact hIPn
  ·intro hge2
   simp only[decide_eq_false_iff_not]at hge2
   have hfull:s.places.take k=s.places:=List.take_of_length_le (by omega)
   rw[hfull]at hIP
   obtain⟨ap',cp',hpv',_⟩:=hIP.own.rows.open
   have lo:=hIP.lo
   have dB:zao v (some ⟨b5,0,Option.none⟩) 6=some [nv,zab b1,zab b2,zab b3,zab b4,pv]:=zam hIP.h rfl
   have q3:zag v (some ⟨c3,0,Option.none⟩)=some ov:=zad (Ext.at hIP.e hB3) rfl
   have ones6:∀q∈ [nv,zab b1,zab b2,zab b3,zab b4,pv],one q=true:=fun q hq=>by
    simp at hq
    rcases hq with rfl|rfl|rfl|rfl|rfl|rfl<;>first|exact n1|rfl| (rw[hpv'];rfl)
   have hGl:G.length=i:=by
    have:=congrArg List.length hGf
    simp at this;omega
   repeat refine c_r ?_
   refine rq ?_;intro gd K hgd hK
   try simp (disch:=first|omega|assumption|rfl) only[go_sem,s3,s5,q3,dB,Nat.add_zero]
   refine zdN (C:=gxC) zgo (l:=[nv,zab b1,zab b2,zab b3,zab b4,pv]) (a:=(s,(pv,[nv,zab b1,zab b2,zab b3,zab b4,pv]))) (by rfl) (by rfl) (by rfl) (by rfl) ⟨rfl,rfl,ones6⟩ (by decide) ?_
   intro v1 hE4 hs4' ho4
   try simp only[go_sem]
   have hAv1:=hIP.e.trans hE4
   have hsA1:=hAv1.size
   refine zeq zgo ((hGS.ext hAv1).own) ho4.rows (by rfl) (by rfl) (by rfl) (by rfl) (by rfl) (by rfl) (by decide) (vr0) (vr0) (by simp;omega) (by decide) (by omega) ?_
   intro ov' v2 ho5 hE5 hk5 hb5'
   obtain⟨ao',co',hov',_⟩:=ho5.rows.open
   try simp (disch:=first|omega|assumption|rfl) only[go_sem,s3,Nat.add_zero]
   refine zdq (P:=Tryz.prog) (t:=87) (j:=0) (u:=ov') (l:=[ov,rv,vi c.rw,vi c.rf]) ((hk5.block _ (by omega) (fun hb=>by have:=(hGS.own.ge hb).1;omega)).trans (Ext.at hAv1 hB3)) (by simp) (by rw[hov'];rfl) rfl rfl ?_
   intro v3 hs3' hB3' hk3'
   try simp only[go_sem]
   refine hK _ _ ?_;clear hK hgd;clear K;try clear gd
   have hGS2:=hGS.app hAv1 hAs (x:=(s,(pv,[nv,zab b1,zab b2,zab b3,zab b4,pv]))) ⟨nv,b1,b2,b3,b4,rfl,hadr,hn,hIP.own.rows.ext hE4⟩ ((hIP.own.blk.mono (by omega)).ext hE4.size) ho5 hk5 hb5'
   have hGS3:=hGS2.keep hk3' (fun b h1 _ h2=>by omega)
   have hs5:=hk5.size
   repeat refine c_r ?_
   refine rg2 s4 hi1' ?_
   repeat refine c_r ?_
   refine⟨m - 1,by omega,rfl,i+1,ov',_,by omega,vq0,(vq1 s1),(vq1 s2),(vq1 s3),Keep.to_ext (hE5 w1 (hEA.trans hAv1) (by omega)) rfl (fun b hb=>by omega) hk3',by omega,hB3',hGS3,?_⟩
   rw[zan hi,List.map_append,hGf,hse];rfl
 ·intro hge
  simp only[decide_eq_false_iff_not]at hge
  rw[List.take_of_length_le (by omega)]at hGf
  have hEw:=hE1.trans hEA
  have hrows:=hGS.rows hEw
  rw[hGf]at hrows
  have o1:=hrows.isOne
  have dx:=zam (n:=4) (l:=[ov,rv,vi c.rw,vi c.rf]) hB3 rfl
  repeat refine c_r ?_
  refine rq ?_;intro gd K hgd hK
  try simp (disch:=first|omega|assumption|rfl) only[go_sem,s3,s2,dx]
  refine za1 (P:=Tryz.prog) (t:=89) (l:=[ov,rv,vi c.rw,vi c.rf]) (Ext.at hEA hC) rfl (fun v hv=>by simp at hv;rcases hv with rfl|rfl|rfl|rfl<;>first|exact r1|exact o1|rfl) rfl rfl ?_
  intro z hsz hBz hkz
  try simp only[go_sem]
  refine hK _ _ ?_;clear hK hgd;clear K;try clear gd
  repeat refine c_r ?_
  refine zaf (.inr rfl) Tryz.ntmps44 rfl (zaS (x:=⟨w.heap.size+1,0,Option.none⟩) (k:=4) ((vq1 s2)) rfl rfl (zam hBz rfl) zae) ?_
  have hEz:Ext w z:=Keep.to_ext hEw rfl (fun b hb=>by omega) hkz
  have hGz:=(hGS.keep hkz (fun b h1 _ h2=>by omega)).rows hEz
  rw[hGf]at hGz
  exact⟨hEz,_,rfl,ov,rv,rfl,hGz,hr0.ext hEz⟩
theorem NmT.lb2{n:Nm}(h:NmT n):LB n∧n.length≤9000000000000000000:=⟨fun l hl=>by have:=h.1 l hl;omega,by have:=h.2;omega⟩
theorem dark_ok(w:World)(c:UInt8):Fn Tryz.prog 267 #[zab c] w (fun u w'=>u= .bool (decide (c.toNat≤32))∧Ext w w'):=by
 have h1:decide ((c.toNat:Int)≤32)=decide (c.toNat≤32):=decide_eq_decide.2 (by omega)
 have hbc:zab c= .int .u8 (c.toNat:Int):=rfl
 rw[hbc]
 refine enter Tryz.func267 Tryz.ntmps267 rfl rfl ?_
 refine go h1 ?_
 refine rt0 Tryz.ntmps267 ?_
 exact⟨rfl,Keep.refl _ _⟩
theorem ziJ(w:World){p:Lab}(hl:p.length≤1000000):Fn Tryz.prog 225 #[vs p] w (fun v w'=>Ext w w'∧∃t,v= .bool t∧(t=true↔zbF p)):=by
 refine enter Tryz.func225 Tryz.ntmps225 rfl rfl ?_
 by_cases h0:p=[]
 ·refine go trivial ?_
  refine rgg [(2,5)] (decide_eq_true h0) ?_
  refine go trivial ?_
  refine rt0 Tryz.ntmps225 ?_
  exact⟨Keep.refl _ _,_,rfl,⟨fun h=>(by cases h),fun h=>absurd h0 h.1⟩⟩
 refine go trivial ?_
 refine rq ?_;intro gd K hgd hK
 have hg2:∀n σ b,zaV gd n σ (some (2,b))=zaD (ev n σ (.tmp 5)) b:=(fun n σ b=>by rw[zak,show gd 2=some 5 from(by rw[hgd];rfl)];rfl)
 try simp (disch:=first|omega|assumption|rfl) only[go_sem,decide_eq_false h0,↓hg2]
 refine zdk rfl rfl rfl (vr0) ?_
 intro cp cur w2 hlc hcs hct hE2 hs2 hb2
 have hgx:∀i (h:i<p.length),zag w2 (some ⟨w.heap.size,i,Option.none⟩)=some (zab p[i]):=fun i hi=>by
  refine zad hb2 ?_
  have:(cur.toList.take p.length)[i]? =some (zab p[i]):=by rw[hct,List.getElem?_map,List.getElem?_eq_getElem hi];rfl
  rw[List.getElem?_take,if_pos hi]at this
  simpa using this
 try simp (disch:=first|omega|assumption|rfl) only[go_sem,↓hg2]
 refine Fn.mono (ziR (n:=p.length) (N:=267) (q:=fun i=>decide ((p.getD i 0).toNat≤32)) (by kernel_rfl) (by omega) fun i hi=>⟨zab p[i],rfl,by rw[show adr (some ⟨w.heap.size,0,Option.none⟩) i=some ⟨w.heap.size,i,Option.none⟩ by rw[zbb];simp[Addr.add]];exact hgx i hi,fun v hv=>?_⟩) ?_
 ·have e:p.getD i 0=p[i]:=by simp[List.getD,List.getElem?_eq_getElem hi]
  rw[e]
  exact dark_ok v p[i]
 rintro _ w3 ⟨rfl,hE3⟩
 try simp (disch:=first|omega|assumption|rfl) only[go_sem,↓hg2]
 refine hK _ _ ?_;clear hK hgd;clear K;try clear gd
 refine go trivial ?_
 refine rt0 Tryz.ntmps225 ?_
 refine⟨hE2.trans hE3,_,rfl,?_⟩
 rw[Bool.not_eq_true',decide_eq_false_iff_not]
 constructor
 ·intro h
  refine⟨h0,fun c hc=>?_⟩
  obtain⟨i,hi,rfl⟩:=List.mem_iff_getElem.1 hc
  have:=ixB_none h i hi
  have e:p.getD i 0=p[i]:=by simp[List.getD,List.getElem?_eq_getElem hi]
  simp only[e,decide_eq_false_iff_not]at this
  omega
 ·intro h hx
  obtain⟨i,hi,hq⟩:=zdj hx
  have e:p.getD i 0=p[i]:=by simp[List.getD,List.getElem?_eq_getElem hi]
  simp only[e,decide_eq_true_eq]at hq
  have:=h.2 p[i] (List.getElem_mem hi)
  omega
structure FineZ(l:List za3):Prop where
 few:l.length≤16
 each:∀i (h:i<l.length),zay l[i].o=0∧zbF l[i].path∧∀j (h2:j<i),¬zaA (l[j]'(by omega)).o=zaA l[i].o
structure zf3(c:za4):Prop where
 ns:c.servers≠ []
 nr:c.roots≠ []
 few:c.servers.length≤16
 rw:0≤c.rw∧c.rw≤8
 rf:0≤c.rf∧c.rf≤16
 inn:∀r∈c.roots,0≤r∧r<(c.servers.length:Int)
 once:∀i (h:i<c.roots.length),c.roots[i]∉c.roots.take i
 each:∀i (h:i<c.servers.length),zay c.servers[i].host=0∧FineZ c.servers[i].places∧∀j (h2:j<i),¬zaA (c.servers[j]'(by omega)).host=zaA c.servers[i].host∧¬(c.servers[j]'(by omega)).addr=c.servers[i].addr
structure SzS(s:SrvL):Prop where
 host:NmT s.host
 len:s.places.length≤1000000
 pl:∀p∈s.places,NmT p.o∧p.path.length≤1000000
structure SzC(c:za4):Prop where
 sl:c.servers.length≤1000000
 rl:c.roots.length≤1000000
 sv:∀s∈c.servers,SzS s
theorem zhi{w:World}{cs cs':List Value}{p q:za3}{b:Nat}(ho:PlaceC w cs p)(hs:PlaceC w cs' q)(hb:w.heap[b]? =some (.cells cs'.toArray 172 (0,0)))(hp:NmT p.o)(hq:NmT q.o):
  Fn Tryz.prog 227 #[.agg cs.toArray,.pointer (some ⟨b,0,Option.none⟩)] w (fun u w'=>u= .bool (decide (zaA p.o=zaA q.o))∧Ext w w'):=by
 obtain⟨nv,rfl,hn⟩:=ho.ex
 obtain⟨mv,rfl,hm⟩:=hs.ex
 refine enter Tryz.func227 Tryz.ntmps227 rfl rfl ?_
 refine go trivial ?_
 refine zap ?_
 intro w1 hE1 hs1 hA
 have q0:zag w1 (some ⟨w.heap.size,0,Option.none⟩)=some nv:=zaK (j:=0) hA rfl
 have p0:zag w1 (some ⟨b,0,Option.none⟩)=some mv:=zaK (j:=0) (Ext.at hE1 hb) rfl
 refine go trivial ?_
 refine rc (an3 q0 p0 Nat.add_zero) (zfZ w1 nv mv _ _ (hn.ext hE1) (hm.ext hE1) hp.lb2.1 hq.lb2.1 hp.lb2.2 hq.lb2.2) ?_
 rintro _ w2 ⟨rfl,hE2⟩
 refine rgo trivial ?_
 refine rt0 Tryz.ntmps227 ?_
 exact⟨rfl,hE1.trans hE2⟩
theorem Zones_ok{w:World}{cs:List Value}{s:SrvL}(hs:SrvC w cs s)(hz:SzS s):Fn Tryz.prog 175 #[.agg cs.toArray] w (fun v w'=>Ext w w'∧∃e,v=vi e∧(FineZ s.places→e=0)):=by
 obtain⟨nv,b1,b2,b3,b4,pv,rfl,ha,hn,hp⟩:=hs.ex
 obtain⟨a,c,rfl,hc,hg⟩:=hp.open
 have hzl:=hz.len
 refine enter Tryz.func175 Tryz.ntmps175 rfl rfl ?_
 refine go trivial ?_
 refine zap ?_
 intro w1 hE1 hs1 hA
 obtain⟨b,hb⟩:∃b,w.heap.size=b:=⟨_,rfl⟩
 rw[hb]at hA ⊢
 have p5:zag w1 (some ⟨b,5,Option.none⟩)=some (.slice a s.places.length c):=zaK (j:=5) hA rfl
 by_cases h16:16<s.places.length
 ·refine go (an3 p5 (decide_eq_true (show(16:Int)<(s.places.length:Int) by omega)) Nat.zero_add) ?_
  refine zaf (.inr rfl) Tryz.ntmps175 rfl (zac (vr0) zae) ?_
  exact⟨hE1,_,rfl,fun h=>absurd h.few (by omega)⟩
 refine go (an3 p5 (decide_eq_false (show¬(16:Int)<(s.places.length:Int) by omega)) Nat.zero_add) ?_
 refine zbq s.places.length (fun i σ v=>(σ 1= .pointer (some ⟨b,0,Option.none⟩)∧σ 11= .slice a s.places.length c∧σ 12=vi s.places.length∧σ 13=vi i)∧Ext w1 v) ?_ ?_ ?_
 ·exact⟨⟨vr0,vr0,vr0,vr0⟩,Keep.refl _ _⟩
 ·rintro i σ v hi r ⟨⟨s1,s11,s12,s13⟩,hE⟩
  obtain⟨cs0,g0,hcs⟩:=hg i hi
  have hEv:=hE1.trans hE
  have g:=zai hEv g0
  obtain⟨p,hpe⟩:∃p,s.places[i]=p:=⟨_,rfl⟩
  rw[hpe]at hcs
  obtain⟨hpo,hpl⟩:=hz.pl p (hpe▸List.getElem_mem hi)
  obtain⟨xa,rfl⟩:=Option.isSome_iff_exists.1 (zaF g)
  obtain⟨xi,hxi⟩:∃xi,adr (some xa) (i*2)=some xi:=⟨_,rfl⟩
  rw[hxi]at g
  have hi0:(0:Int)≤(i:Int):=by omega
  have hi1:(i:Int)<(s.places.length:Int):=by omega
  have hcs0:=hcs
  obtain⟨ov,rfl,ho⟩:=hcs.ex
  refine go (an5 s1 s11 s12 s13 r) ?_
  refine rq ?_;intro gd K hgd hK
  try simp (disch:=first|omega|assumption|rfl) only[go_sem,s11,s13,hi0,hi1,hxi,g]
  refine zbg (P:=Tryz.prog) (l:=[ov,vs p.path]) rfl ((zbH w).ones hcs0) rfl rfl ?_
  intro v1 hEv1 hsv1 hBv
  try simp only[go_sem]
  refine hK _ _ ?_;clear hK hgd;clear K;try clear gd
  obtain⟨b2,hb2⟩:∃b,v.heap.size=b:=⟨_,rfl⟩
  rw[hb2]at hBv ⊢
  have o0:zag v1 (some ⟨b2,0,Option.none⟩)=some ov:=zaK (j:=0) hBv rfl
  have o1:zag v1 (some ⟨b2,1,Option.none⟩)=some (vs p.path):=zaK (j:=1) hBv rfl
  have hEw1:=hEv.trans hEv1
  refine go trivial ?_
  refine rc (an2 o0 Nat.add_zero) (zdU v1 ov p.o (ho.ext hEw1) (fun l hl=>by have:=hpo.1 l hl;omega) (by have:=hpo.2;omega)) ?_
  rintro _ v2 ⟨rfl,hE2⟩
  have o12:=zaa hE2 o1
  by_cases hck:zay p.o=0
  rotate_left
  ·refine rgo (decide_eq_false hck) ?_
   refine zaf (.inr rfl) Tryz.ntmps175 rfl (zac (vr0) zae) ?_
   exact⟨hEw1.trans hE2,_,rfl,fun h=>absurd (hpe▸(h.each i hi).1) hck⟩
  rw[hck]
  refine rgo (show decide ((0:Int)=0)=true from rfl) ?_
  refine rc (an2 o12 Nat.zero_add) (ziJ v2 hpl) ?_
  rintro _ v3 ⟨hE3,t,rfl,ht⟩
  cases t with
  |false=>
   refine rgo trivial ?_
   refine zaf (.inr rfl) Tryz.ntmps175 rfl (zac (vr0) zae) ?_
   exact⟨(hEw1.trans hE2).trans hE3,_,rfl,fun h=>absurd (ht.2 (hpe▸(h.each i hi).2.1)) (by decide)⟩
  |true=>
  have hE13:=(hEv1.trans hE2).trans hE3
  have hEw3:=hEv.trans hE13
  have p53:=zaa (hE.trans hE13) p5
  have hB3:=Ext.at (hE2.trans hE3) hBv
  refine rgo (an2 s1 s13) ?_
  have hic:(i:Int)≤(c:Int):=by omega
  refine rc (an9 s1 p53 Nat.zero_add hi0 hic (by omega:(0:Int)≤0) Nat.zero_mul (an3 (zal xa) Nat.sub_zero (show(if c=0 then some xa else some xa)=some xa from ite_self _)) trivial) (ziQ (n:=i) (c:=c) (a:=some xa) (N:=227) (cap:= .pointer (some ⟨b2,0,Option.none⟩)) (q:=fun j=>decide (zaA (s.places.getD j p).o=zaA p.o)) (by kernel_rfl) (by omega) fun j hj=>?_) ?_
  ·obtain⟨cj,gj,hcj⟩:=hg j (by omega)
   refine⟨cj,zai hEw3 gj,fun v hv=>?_⟩
   have e:s.places.getD j p=s.places[j]:=by simp[List.getD,List.getElem?_eq_getElem (show j<s.places.length by omega)]
   rw[e]
   exact zhi (hcj.ext (hEw3.trans hv)) (hcs0.ext (hEw3.trans hv)) (Ext.at hv hB3) (hz.pl _ (List.getElem_mem _)).1 hpo
  rintro _ v4 ⟨rfl,hE4⟩
  have hE14:=hE13.trans hE4
  by_cases hx:0≤ixB (fun j=>decide (zaA (s.places.getD j p).o=zaA p.o)) i
  ·rw[decide_eq_true hx]
   refine rgo trivial ?_
   refine zaf (.inr rfl) Tryz.ntmps175 rfl (zac (vr0) zae) ?_
   refine⟨hEv.trans hE14,_,rfl,fun h=>?_⟩
   obtain⟨j,hj,hq⟩:=zdj hx
   have e:s.places.getD j p=s.places[j]:=by simp[List.getD,List.getElem?_eq_getElem (show j<s.places.length by omega)]
   simp only[e,decide_eq_true_eq]at hq
   exact absurd (hpe▸hq) ((h.each i hi).2.2 j hj)
  ·rw[decide_eq_false hx]
   refine rgo (an4 s1 s11 s12 (an2 s13 r)) ?_
   exact⟨rfl,⟨(vq1 s1),(vq1 s11),(vq1 s12),(vq1 r)⟩,hE.trans hE14⟩
 ·rintro σ v r ⟨⟨s1,s11,s12,s13⟩,hE⟩
  refine go (an5 s1 s11 s12 s13 r) ?_
  refine zaf (.inr rfl) Tryz.ntmps175 rfl (zac (vr0) zae) ?_
  exact⟨hE1.trans hE,_,rfl,fun _=>rfl⟩
theorem zdt(w:World):zeD 6 (SrvC w):=by
 refine⟨fun h=>?_,fun h=>?_⟩
 ·obtain⟨nv,a,b,c,d,pv,rfl,_⟩:=h.ex;rfl
 ·obtain⟨nv,a,b,c,d,pv,rfl,_,h1,h2⟩:=h.ex
  obtain⟨pa,pc,rfl,_⟩:=h2.open
  intro q hq
  simp at hq
  rcases hq with rfl|rfl|rfl|rfl|rfl|rfl<;>first|exact h1.isOne|rfl
theorem zcE{w:World}{p:Option Addr}{nv pv:Value}{a b c d:UInt8}(h:zao w p 6=some [nv,zab a,zab b,zab c,zab d,pv]):zao w (adr p 1) 4=some [zab a,zab b,zab c,zab d]:=
 zbB (m:=4) (k:=1) (zb6 (m:=1) (k:=5) h)
theorem zhg{w:World}{cs cs':List Value}{s q:SrvL}{b:Nat}(ho:SrvC w cs s)(hs:SrvC w cs' q)(hb:w.heap[b]? =some (.cells cs'.toArray 170 (0,0)))(hp:NmT s.host)(hq:NmT q.host):
  Fn Tryz.prog 174 #[.agg cs.toArray,.pointer (some ⟨b,0,Option.none⟩)] w (fun u w'=>u= .bool (decide (zaA s.host=zaA q.host)||decide (s.addr=q.addr))∧Ext w w'):=by
 obtain⟨nv,a1,a2,a3,a4,pv,rfl,ha,hn,_⟩:=ho.ex
 obtain⟨mv,b1,b2,b3,b4,qv,rfl,hb4,hm,_⟩:=hs.ex
 refine enter Tryz.func174 Tryz.ntmps174 rfl rfl ?_
 refine go trivial ?_
 refine zap ?_
 intro w1 hE1 hs1 hA
 have hBb:=Ext.at hE1 hb
 have q0:zag w1 (some ⟨w.heap.size,0,Option.none⟩)=some nv:=zaK (j:=0) hA rfl
 have p0:zag w1 (some ⟨b,0,Option.none⟩)=some mv:=zaK (j:=0) hBb rfl
 have q1:zao w1 (some ⟨w.heap.size,1,Option.none⟩) 4=some [zab a1,zab a2,zab a3,zab a4]:=zcE (zam (n:=6) hA rfl)
 have p1:zao w1 (some ⟨b,1,Option.none⟩) 4=some [zab b1,zab b2,zab b3,zab b4]:=zcE (zam (n:=6) hBb rfl)
 refine go trivial ?_
 refine rq ?_;intro gd K hgd hK
 have hg5:∀n σ b,zaV gd n σ (some (5,b))=zaD (ev n σ (.tmp 9)) b:=(fun n σ b=>by rw[zak,show gd 5=some 9 from(by rw[hgd];rfl)];rfl)
 try simp (disch:=first|omega|assumption|rfl) only[go_sem,q0,p0,Nat.add_zero,↓hg5]
 refine Fn.mono (zfZ w1 nv mv _ _ (hn.ext hE1) (hm.ext hE1) hp.lb2.1 hq.lb2.1 hp.lb2.2 hq.lb2.2) ?_
 rintro _ w2 ⟨rfl,hE2⟩
 obtain⟨sm,hsm⟩:∃b,decide (zaA s.host=zaA q.host)=b:=⟨_,rfl⟩
 rw[hsm]
 cases sm with
 |true=>
  try simp (disch:=first|omega|assumption|rfl) only[go_sem,↓hg5]
  refine hK _ _ ?_;clear hK hgd;clear K;try clear gd
  refine go trivial ?_
  refine rt0 Tryz.ntmps174 ?_
  exact⟨by rw[hsm];rfl,hE1.trans hE2⟩
 |false=>
 have q2:=zai hE2 q1
 have p2:=zai hE2 p1
 try simp (disch:=first|omega|assumption|rfl) only[go_sem,q2,p2,Nat.zero_add,↓hg5]
 refine op_eqA (a:=a1) (b:=a2) (c:=a3) (d1:=a4) (a':=b1) (b':=b2) (c':=b3) (d':=b4) rfl rfl rfl rfl (by kernel_rfl) (vr0) (vr0) ?_
 try simp (disch:=first|omega|assumption|rfl) only[go_sem,↓hg5]
 refine hK _ _ ?_;clear hK hgd;clear K;try clear gd
 refine go trivial ?_
 refine rt0 Tryz.ntmps174 ?_
 refine⟨?_,hE1.trans hE2⟩
 rw[ha,hb4,hsm,Bool.false_or]
theorem ziB{w:World}{sv rv:Value}{x y r:Int}{b n c:Nat}{a:Option Addr}(hb:w.heap[b]? =some (.cells #[.slice a n c,rv,vi x,vi y] 83 (0,0))):
  Fn Tryz.prog 221 #[vi r,.pointer (some ⟨b,0,Option.none⟩)] w (fun u w'=>u= .bool (decide (r<0)||decide ((n:Int)≤r))∧Ext w w'):=by
 have p0:zag w (some ⟨b,0,Option.none⟩)=some (.slice a n c):=zaK (j:=0) (l:=[.slice a n c,rv,vi x,vi y]) hb rfl
 refine enter Tryz.func221 Tryz.ntmps221 rfl rfl ?_
 refine go trivial ?_
 by_cases h:r<0
 ·refine rgg [(2,6)] (decide_eq_true h) ?_
  refine go trivial ?_
  refine rt0 Tryz.ntmps221 ?_
  exact⟨by rw[decide_eq_true h];rfl,Keep.refl _ _⟩
 ·refine rgg [(2,6)] (an3 (decide_eq_false h) p0 Nat.add_zero) ?_
  refine go trivial ?_
  refine rt0 Tryz.ntmps221 ?_
  exact⟨by rw[decide_eq_false h];rfl,Keep.refl _ _⟩
theorem zc9{w:World}{v:Value}{ps:List Int}(h:Row w v (ps.map vi)):∃a c,v= .slice a ps.length c∧∀i (hi:i<ps.length),∃x,a=some x∧zag w (adr (some x) i)=some (vi ps[i]):=by
 obtain⟨a,c,rfl,_,hg⟩:=h
 refine⟨a,c,by rw[List.length_map],fun i hi=>?_⟩
 have g:=hg i (by rw[List.length_map];exact hi)
 rw[List.getElem_map]at g
 obtain⟨x,rfl⟩:=Option.isSome_iff_exists.1 (zaj g)
 exact⟨x,rfl,g⟩
theorem ziO{w:World}{lv:Value}{l:List Int}{n:Int}(hl:Row w lv (l.map vi))(hlen:l.length≤1000000000):
  Fn Tryz.prog 265 #[lv,vi n] w (fun v w'=>(∃k,v=vi k∧decide (k≥0)=decide (n∈l))∧w'=w):=by
 obtain⟨a,c,rfl,hga⟩:=zc9 hl
 refine enter Tryz.func265 Tryz.ntmps265 rfl rfl ?_
 refine go trivial ?_
 refine zbq l.length (fun i σ v=>(σ 8=vi i∧σ 7=vi l.length∧σ 0= .slice a l.length c∧σ 1=vi n)∧v=w∧n∉l.take i) ?_ ?_ ?_
 ·exact⟨⟨vr0,vr0,vq0,vq0⟩,rfl,by simp⟩
 ·rintro i σ v hi r ⟨s,rfl,ht⟩
  obtain⟨x1,rfl,g1⟩:=hga i hi
  by_cases h:n=l[i]
  ·refine go (an4 s r g1 (decide_eq_true h)) ?_
   refine rt0 Tryz.ntmps265 ?_
   exact⟨⟨(i:Int),rfl,by rw[decide_eq_true (show(i:Int)≥0 by omega),decide_eq_true (h▸List.getElem_mem hi)]⟩,rfl⟩
  ·refine go (an4 s r g1 (decide_eq_false h)) ?_
   refine⟨rfl,sc (an2 s r),rfl,fun hm=>?_⟩
   rw[zan hi]at hm
   rcases List.mem_append.1 hm with hm|hm
   ·exact ht hm
   ·exact h (List.mem_singleton.1 hm)
 ·rintro σ v r ⟨s,rfl,ht⟩
  rw[List.take_length]at ht
  refine go (an2 s r) ?_
  refine rt0 Tryz.ntmps265 ?_
  exact⟨⟨-1,rfl,by rw[decide_eq_false ht];rfl⟩,rfl⟩
theorem zfx{w:World}{lv:Value}{l:List Int}{n:Int}(hl:Row w lv (l.map vi))(hlen:l.length≤1000000000):
  Fn Tryz.prog 223 #[lv,vi n] w (fun v w'=>v= .bool (decide (n∈l))∧w'=w):=by
 obtain⟨a,c,rfl,_⟩:=id (zc9 hl)
 refine enter Tryz.func223 Tryz.ntmps223 rfl rfl ?_
 refine go trivial ?_
 refine rc trivial (ziO (n:=n) hl hlen) ?_
 rintro _ _ ⟨⟨k,rfl,hk⟩,rfl⟩
 refine rgo hk ?_
 refine rt0 Tryz.ntmps223 ?_
 exact⟨rfl,rfl⟩
theorem All_ok{w:World}{cs:List Value}{c:za4}(hc:ConfAt w cs c)(hz:SzC c):Fn Tryz.prog 172 #[.agg cs.toArray] w (fun v w'=>Ext w w'∧∃e,v=vi e∧(zf3 c→e=0)∧(c.servers≠ []→c.roots≠ []→c.servers.length≤16→c.rw=9→e=1)):=by
 obtain⟨sv,rv,rfl,hs,hr⟩:=hc.ex
 obtain⟨a,k,rfl,_,_⟩:=hs.open
 obtain⟨ar,kr,rfl,hgr⟩:=zc9 hr
 have hsl:=hz.sl
 have hrl:=hz.rl
 refine enter Tryz.func172 Tryz.ntmps172 rfl rfl ?_
 refine go trivial ?_
 refine zap ?_
 intro w1 hE1 hs1 hA
 obtain⟨b,hb⟩:∃b,w.heap.size=b:=⟨_,rfl⟩
 rw[hb]at hA ⊢
 have p0:zag w1 (some ⟨b,0,Option.none⟩)=some (.slice a c.servers.length k):=zaK (j:=0) hA rfl
 have p1:zag w1 (some ⟨b,1,Option.none⟩)=some (.slice ar c.roots.length kr):=zaK (j:=1) hA rfl
 have p2:zag w1 (some ⟨b,2,Option.none⟩)=some (vi c.rw):=zaK (j:=2) hA rfl
 have p3:zag w1 (some ⟨b,3,Option.none⟩)=some (vi c.rf):=zaK (j:=3) hA rfl
 have n0:Nat.add 0 0=0:=rfl
 by_cases h1:c.servers=[]
 ·have d1:decide ((c.servers.length:Int)=0)=true:=decide_eq_true (by rw[h1];rfl)
  refine go (an3 p0 d1 Nat.add_zero) ?_
  refine zaf (.inr rfl) Tryz.ntmps172 rfl (zac (vr0) zae) ?_
  exact⟨hE1,_,rfl,fun h=>absurd h1 h.ns,fun h=>absurd h1 h⟩
 have d1:decide ((c.servers.length:Int)=0)=false:=decide_eq_false fun h=>h1 (List.length_eq_zero_iff.1 (by omega))
 by_cases h2:c.roots=[]
 ·have d2:decide ((c.roots.length:Int)=0)=true:=decide_eq_true (by rw[h2];rfl)
  refine go (an6 p0 d1 Nat.add_zero p1 d2 Nat.zero_add) ?_
  refine zaf (.inr rfl) Tryz.ntmps172 rfl (zac (vr0) zae) ?_
  exact⟨hE1,_,rfl,fun h=>absurd h2 h.nr,fun _ h=>absurd h2 h⟩
 have d2:decide ((c.roots.length:Int)=0)=false:=decide_eq_false fun h=>h2 (List.length_eq_zero_iff.1 (by omega))
 by_cases h3:16<c.servers.length
 ·have d3:decide ((16:Int)<(c.servers.length:Int))=true:=decide_eq_true (by omega)
  refine go (an7 p0 d1 Nat.add_zero p1 d2 Nat.zero_add d3) ?_
  refine zaf (.inr rfl) Tryz.ntmps172 rfl (zac (vr0) zae) ?_
  exact⟨hE1,_,rfl,fun h=>absurd h.few (by omega),fun _ _ h=>absurd h (by omega)⟩
 have d3:decide ((16:Int)<(c.servers.length:Int))=false:=decide_eq_false (by omega)
 have bad:∀{e:Int},e=1→¬((0≤c.rw∧c.rw≤8)∧0≤c.rf∧c.rf≤16∧∀r∈c.roots,0≤r∧r<(c.servers.length:Int))→(zf3 c→e=0)∧(c.servers≠ []→c.roots≠ []→c.servers.length≤16→c.rw=9→e=1):=fun h1 h2=>⟨fun h=>absurd ⟨h.rw,h.rf.1,h.rf.2,h.inn⟩ h2,fun _ _ _ _=>h1⟩
 by_cases h4:c.rw<0
 ·refine go (an8 p0 d1 Nat.add_zero p1 d2 Nat.zero_add d3 (an2 p2 (decide_eq_true h4))) ?_
  refine zaf (.inr rfl) Tryz.ntmps172 rfl (zac (vr0) zae) ?_
  exact⟨hE1,_,rfl,bad rfl (by omega)⟩
 have d4:=decide_eq_false h4
 by_cases h5:8<c.rw
 ·refine go (an8 p0 d1 Nat.add_zero p1 d2 Nat.zero_add d3 (an3 p2 d4 (decide_eq_true h5))) ?_
  refine zaf (.inr rfl) Tryz.ntmps172 rfl (zac (vr0) zae) ?_
  exact⟨hE1,_,rfl,bad rfl (by omega)⟩
 have d5:=decide_eq_false h5
 by_cases h6:c.rf<0
 ·refine go (an8 p0 d1 Nat.add_zero p1 d2 Nat.zero_add d3 (an5 p2 d4 d5 p3 (decide_eq_true h6))) ?_
  refine zaf (.inr rfl) Tryz.ntmps172 rfl (zac (vr0) zae) ?_
  exact⟨hE1,_,rfl,bad rfl (by omega)⟩
 have d6:=decide_eq_false h6
 by_cases h7:16<c.rf
 ·refine go (an8 p0 d1 Nat.add_zero p1 d2 Nat.zero_add d3 (an6 p2 d4 d5 p3 d6 (decide_eq_true h7))) ?_
  refine zaf (.inr rfl) Tryz.ntmps172 rfl (zac (vr0) zae) ?_
  exact⟨hE1,_,rfl,bad rfl (by omega)⟩
 have d7:=decide_eq_false h7
 refine go (an8 p0 d1 Nat.add_zero p1 d2 Nat.zero_add d3 (an6 p2 d4 d5 p3 d6 d7)) ?_
 refine rc (an2 p1 Nat.zero_add) (ziS (n:=c.roots.length) (c:=kr) (a:=ar) (N:=221) (cap:= .pointer (some ⟨b,0,Option.none⟩)) (q:=fun i=>decide (c.roots.getD i 0<0)||decide ((c.servers.length:Int)≤c.roots.getD i 0)) (by kernel_rfl) (by omega) fun i hi=>?_) ?_
 ·obtain⟨x,rfl,gx⟩:=hgr i hi
  have e:c.roots.getD i 0=c.roots[i]:=by simp[List.getD,List.getElem?_eq_getElem hi]
  rw[e]
  exact⟨vi c.roots[i],rfl,zaa hE1 gx,fun v hv=>ziB (sv:= .slice a c.servers.length k) (Ext.at hv hA)⟩
 rintro _ w2 ⟨rfl,hE2⟩
 by_cases hx:0≤ixB (fun i=>decide (c.roots.getD i 0<0)||decide ((c.servers.length:Int)≤c.roots.getD i 0)) c.roots.length
 ·rw[decide_eq_true hx]
  refine rgo trivial ?_
  refine zaf (.inr rfl) Tryz.ntmps172 rfl (zac (vr0) zae) ?_
  refine⟨hE1.trans hE2,_,rfl,bad rfl fun h=>?_⟩
  obtain⟨i,hi,hq⟩:=zdj hx
  have e:c.roots.getD i 0=c.roots[i]:=by simp[List.getD,List.getElem?_eq_getElem hi]
  have:=h.2.2.2 c.roots[i] (List.getElem_mem hi)
  simp only[e,Bool.or_eq_true,decide_eq_true_eq]at hq
  omega
 rw[decide_eq_false hx]
 have hE12:=hE1.trans hE2
 have ok1:(c.servers≠ []→c.roots≠ []→c.servers.length≤16→c.rw=9→∀e:Int,e=1):=fun _ _ _ h=>by omega
 refine rgo (an3 (zaa hE2 p1) Nat.zero_add trivial) ?_
 refine zbq c.roots.length (fun i σ v=>(σ 1= .pointer (some ⟨b,0,Option.none⟩)∧σ 39= .slice ar c.roots.length kr∧σ 40=vi c.roots.length∧σ 41=vi i)∧Ext w2 v) ?_ ?_ ?_
 ·exact⟨⟨vr0,vr0,vr0,vr0⟩,Keep.refl _ _⟩
 ·rintro i σ v hi r ⟨⟨s1,s39,s40,s41⟩,hE⟩
  obtain⟨x,rfl,g0⟩:=hgr i hi
  have g:=zaa (hE12.trans hE) g0
  have p1v:=zaa (hE2.trans hE) p1
  have hi0:(0:Int)≤(i:Int):=by omega
  have hi1:(i:Int)<(c.roots.length:Int):=by omega
  have hrk:=(show c.roots.length≤kr from by obtain⟨_,c',e,hk2,_⟩:=id hr;injection e with _ _ e3;rw[e3];simpa using hk2)
  have hik:(i:Int)≤(kr:Int):=by omega
  refine go (an9 s1 s39 s40 s41 r g (Nat.mul_one i) hi0 hi1) ?_
  refine rc (an9 s1 p1v Nat.zero_add hi0 hik (by omega:(0:Int)≤0) Nat.zero_mul (an3 (zal x) Nat.sub_zero (show(if kr=0 then some x else some x)=some x from ite_self _)) trivial) (zfx (w:=v) (lv:= .slice (some x) i kr) (l:=c.roots.take i) (n:=c.roots[i]) ?_ (by simp;omega)) ?_
  ·refine⟨some x,kr,by simp;omega,by simp;omega,fun j hj=>?_⟩
   simp only[List.length_map,List.length_take]at hj
   obtain⟨x2,hx2,gj⟩:=hgr j (by omega)
   cases hx2
   rw[List.getElem_map,List.getElem_take]
   exact zaa (hE12.trans hE) gj
  rintro _ _ ⟨rfl,rfl⟩
  by_cases hm:c.roots[i]∈c.roots.take i
  ·rw[decide_eq_true hm]
   refine rgo trivial ?_
   refine zaf (.inr rfl) Tryz.ntmps172 rfl (zac (vr0) zae) ?_
   exact⟨hE12.trans hE,_,rfl,fun h=>absurd hm (h.once i hi),fun h1 h2 h3 h4=>ok1 h1 h2 h3 h4 _⟩
  ·rw[decide_eq_false hm]
   refine rgo (an5 s1 s39 s40 s41 r) ?_
   exact⟨rfl,⟨(vq1 s1),(vq1 s39),(vq1 s40),(vq1 r)⟩,hE⟩
 ·rintro σ v r ⟨⟨s1,s39,s40,s41⟩,hE⟩
  refine go (an5 s1 s39 s40 s41 r) ?_
  refine zaf (.inr rfl) Tryz.ntmps172 rfl (zac (vr0) zae) ?_
  exact⟨hE12.trans hE,_,rfl,fun _=>rfl,fun h1 h2 h3 h4=>ok1 h1 h2 h3 h4 _⟩
theorem zcW{w:World}{cs:List Value}{c:za4}(hc:ConfAt w cs c)(hz:SzC c):Fn Tryz.prog 108 #[.agg cs.toArray] w (fun v w'=>Ext w w'∧∃i e,v= .tuple #[vi i,vi e]∧(zf3 c→e=0)∧(c.servers≠ []→c.roots≠ []→c.servers.length≤16→c.rw=9→e=1)):=by
 have hc0:=hc
 obtain⟨sv,rv,rfl,hs,hr⟩:=hc.ex
 obtain⟨a,k,rfl,hk,hg⟩:=hs.open
 have hsl:=hz.sl
 refine enter Tryz.func108 Tryz.ntmps108 rfl rfl ?_
 refine go trivial ?_
 refine zap ?_
 intro w1 hE1 hs1 hA
 obtain⟨b,hb⟩:∃b,w.heap.size=b:=⟨_,rfl⟩
 rw[hb]at hA ⊢
 have p0:zag w1 (some ⟨b,0,Option.none⟩)=some (.slice a c.servers.length k):=zaK (j:=0) hA rfl
 have q4:=zam (n:=4) (l:=[.slice a c.servers.length k,rv,vi c.rw,vi c.rf]) hA rfl
 refine go trivial ?_
 refine rc q4 (All_ok (hc0.ext hE1) hz) ?_
 rintro _ w2 ⟨hE2,e,rfl,hf,h9⟩
 have hE12:=hE1.trans hE2
 by_cases he:e=0
 rotate_left
 ·refine rgo (decide_eq_false he) ?_
  refine zaf (.inr rfl) Tryz.ntmps108 rfl (zac (vr0) (zac (vr0) zae)) ?_
  exact⟨hE12,_,_,rfl,hf,h9⟩
 subst he
 have h99:c.servers≠ []→c.roots≠ []→c.servers.length≤16→c.rw=9→∀e:Int,e=1:=fun x1 x2 x3 x4=>absurd (h9 x1 x2 x3 x4) (by decide)
 have p02:=zaa hE2 p0
 refine rgo (an3 (show decide ((0:Int)=0)=true from rfl) p02 Nat.add_zero) ?_
 refine zbq c.servers.length (fun i σ v=>(σ 1= .pointer (some ⟨b,0,Option.none⟩)∧σ 14= .slice a c.servers.length k∧σ 15=vi c.servers.length∧σ 16=vi i)∧Ext w2 v) ?_ ?_ ?_
 ·exact⟨⟨vr0,vr0,vr0,vr0⟩,Keep.refl _ _⟩
 ·rintro i σ v hi r ⟨⟨s1,s14,s15,s16⟩,hE⟩
  obtain⟨cs0,g0,hcs⟩:=hg i hi
  have hEv:=hE12.trans hE
  have g:=zai hEv g0
  obtain⟨s,hse⟩:∃s,c.servers[i]=s:=⟨_,rfl⟩
  rw[hse]at hcs
  have hzs:=hz.sv s (hse▸List.getElem_mem hi)
  obtain⟨xa,rfl⟩:=Option.isSome_iff_exists.1 (zaF g)
  obtain⟨xi,hxi⟩:∃xi,adr (some xa) (i*6)=some xi:=⟨_,rfl⟩
  rw[hxi]at g
  have hi0:(0:Int)≤(i:Int):=by omega
  have hi1:(i:Int)<(c.servers.length:Int):=by omega
  have hl6:=(zdt w).len hcs
  refine go (an5 s1 s14 s15 s16 r) ?_
  refine rq ?_;intro gd K hgd hK
  try simp (disch:=first|omega|assumption|rfl) only[go_sem,s14,s16,hi0,hi1,hxi,g]
  refine zbg (P:=Tryz.prog) (l:=cs0) (by rw[hl6];rfl) ((zdt w).ones hcs) (by rw[hl6];rfl) rfl ?_
  intro v1 hEv1 hsv1 hBv
  try simp only[go_sem]
  refine hK _ _ ?_;clear hK hgd;clear K;try clear gd
  obtain⟨b2,hb2⟩:∃b,v.heap.size=b:=⟨_,rfl⟩
  rw[hb2]at hBv ⊢
  have q6:=zam (n:=6) hBv hl6.symm
  have hcs0:=hcs
  obtain⟨nv,y1,y2,y3,y4,pv,rfl,_,hn,_⟩:=hcs.ex
  have o0:zag v1 (some ⟨b2,0,Option.none⟩)=some nv:=zaK (j:=0) hBv rfl
  have hEw1:=hEv.trans hEv1
  refine go trivial ?_
  refine rc (an2 o0 Nat.add_zero) (zdU v1 nv s.host (hn.ext hEw1) (fun l hl=>by have:=hzs.host.1 l hl;omega) (by have:=hzs.host.2;omega)) ?_
  rintro _ v2 ⟨rfl,hE2'⟩
  have hE02:=hEv1.trans hE2'
  have hik:(i:Int)≤(k:Int):=by omega
  have fin:∀{v':World} {e:Int},Ext v2 v'→(zf3 c→e=0)→Ext w v'∧∃i' e',(.tuple #[vi (i:Int),vi e]:Value)= .tuple #[vi i',vi e']∧(zf3 c→e'=0)∧(c.servers≠ []→c.roots≠ []→c.servers.length≤16→c.rw=9→e'=1):=fun hx he=>
   ⟨(hEv.trans hE02).trans hx,_,_,rfl,he,fun x1 x2 x3 x4=>h99 x1 x2 x3 x4 _⟩
  by_cases hck:zay s.host=0
  rotate_left
  ·refine rgo trivial ?_
   refine rgg [(2,26)] (decide_eq_false hck) ?_
   refine go (an2 (decide_eq_false hck) Bool.not_false) ?_
   refine zaf (.inr rfl) Tryz.ntmps108 rfl (zac (vr0) (zac (vr0) zae)) ?_
   exact fin (Keep.refl _ _) fun h=>absurd (hse▸(h.each i hi).1) hck
  rw[hck]
  have d0:decide ((0:Int)=0)=true:=rfl
  have p0v:=zaa (hE.trans hE02) p02
  refine rgo trivial ?_
  refine rcg [(2,26)] (an9 s1 d0 p0v Nat.add_zero hi0 hik (by omega:(0:Int)≤0) Nat.zero_mul (an3 (zal xa) Nat.sub_zero (show(if k=0 then some xa else some xa)=some xa from ite_self _))) (ziP (n:=i) (c:=k) (a:=some xa) (N:=174) (cap:= .pointer (some ⟨b2,0,Option.none⟩)) (q:=fun j=>decide (zaA (c.servers.getD j s).host=zaA s.host)||decide ((c.servers.getD j s).addr=s.addr)) (by kernel_rfl) (by omega) fun j hj=>?_) ?_
  ·obtain⟨cj,gj,hcj⟩:=hg j (by omega)
   have hEw2:=hEv.trans hE02
   refine⟨cj,zai hEw2 gj,fun v' hv=>?_⟩
   have e:c.servers.getD j s=c.servers[j]:=by simp[List.getD,List.getElem?_eq_getElem (show j<c.servers.length by omega)]
   rw[e]
   exact zhg (hcj.ext (hEw2.trans hv)) (hcs0.ext (hEw2.trans hv)) (Ext.at (hE2'.trans hv) hBv) (hz.sv _ (List.getElem_mem _)).host hzs.host
  rintro _ v3 ⟨rfl,hE3⟩
  by_cases hx:0≤ixB (fun j=>decide (zaA (c.servers.getD j s).host=zaA s.host)||decide ((c.servers.getD j s).addr=s.addr)) i
  ·rw[decide_eq_true hx]
   refine reg [(2,26)] d0 ?_
   refine go (an2 (show decide ((5:Int)=0)=false from rfl) Bool.not_false) ?_
   refine zaf (.inr rfl) Tryz.ntmps108 rfl (zac (vr0) (zac (vr0) zae)) ?_
   refine fin hE3 fun h=>?_
   obtain⟨j,hj,hq⟩:=zdj hx
   have e:c.servers.getD j s=c.servers[j]:=by simp[List.getD,List.getElem?_eq_getElem (show j<c.servers.length by omega)]
   have h2:=(h.each i hi).2.2 j hj
   rw[hse]at h2
   simp only[e,Bool.or_eq_true,decide_eq_true_eq]at hq
   rcases hq with hq|hq
   ·exact absurd hq h2.1
   ·exact absurd hq h2.2
  rw[decide_eq_false hx]
  have hE03:=hE02.trans hE3
  have q63:=zai (hE2'.trans hE3) q6
  refine reg [(2,26)] d0 ?_
  refine go d0 ?_
  refine rc q63 (Zones_ok (hcs0.ext (hEv.trans hE03)) hzs) ?_
  rintro _ v4 ⟨hE4,e,rfl,hfe⟩
  by_cases he:e=0
  rotate_left
  ·refine rgo (an2 (decide_eq_false he) Bool.not_false) ?_
   refine zaf (.inr rfl) Tryz.ntmps108 rfl (zac (vr0) (zac (vr0) zae)) ?_
   exact fin (hE3.trans hE4) fun h=>absurd (hfe (hse▸(h.each i hi).2.1)) he
  subst he
  refine rgo (an6 s1 s14 s15 s16 r d0) ?_
  exact⟨rfl,⟨(vq1 s1),(vq1 s14),(vq1 s15),(vq1 r)⟩,hE.trans (hE03.trans hE4)⟩
 ·rintro σ v r ⟨⟨s1,s14,s15,s16⟩,hE⟩
  refine go (an5 s1 s14 s15 s16 r) ?_
  refine zaf (.inr rfl) Tryz.ntmps108 rfl (zac (vr0) (zac (vr0) zae)) ?_
  exact⟨hE12.trans hE,_,_,rfl,fun _=>rfl,fun x1 x2 x3 x4=>h99 x1 x2 x3 x4 _⟩
theorem zdc{w:World}{b i:Nat}{cs:Array Value}{T:TypeId}(v:Value)(hb:w.heap[b]? =some (.cells cs T (0,0))):(w.setCell ⟨b,i,Option.none⟩ v).heap[b]? =some (.cells (cs.setIfInBounds i v) T (0,0))∧Keep (fun j=>j=b) w (w.setCell ⟨b,i,Option.none⟩ v):=by
 refine⟨heap_setCell_same w b i cs T v hb,rfl,rfl,rfl,?_,fun j hj hS=>?_,Nat.le_refl _⟩
 ·simp[World.setCell]
 ·rw[show w.setCell ⟨b,i,Option.none⟩ v=_ from setCell_eq_setRow w b i cs T (0,0) v hb]
  simp[World.setRow,Array.getElem?_modify,Ne.symm (show j≠b from hS)]
section
variable {P : Program} {d : Option Tmp} {ty : TypeId} {ps : String} {af : Array Edge} {g : Option (Nat × Bool)} {ρ : Operand → Value} {w : World} {K : Value → World → Prop}
theorem op_copy4{x y:Operand}{dT sT e:TypeId}{c0 c5 x1 x2 x3 x4:Value}{b:Nat}{T:TypeId}{sa:Option Addr}{sc:Nat}{a1 a2 a3 a4:UInt8}(hx:ρ x= .slice (some ⟨b,1,Option.none⟩) 4 4)(hy:ρ y= .slice sa 4 sc)
  (hb:w.heap[b]? =some (.cells #[c0,x1,x2,x3,x4,c5] T (0,0))) (hr:Row w (.slice sa 4 sc) ([a1,a2,a3,a4].map zab)) (hu:P.underlying dT=some (.slice e)) (hs:(P.info? e).map (·.size)=some 1)
  (h:∀w',w'.heap[b]? =some (.cells #[c0,zab a1,zab a2,zab a3,zab a4,c5] T (0,0))→Keep (fun j=>j=b) w w'→K (vi 4) w'):opW P ⟨d,.call ⟨.builtin .copy,#[x,y],#[dT,sT]⟩,ty,ps,af,g⟩ ρ w K:=by
 obtain⟨a,c,he,_,hg⟩:=hr
 cases he
 have hg0:=hg 0 (by simp)
 obtain⟨z,rfl⟩:=Option.isSome_iff_exists.1 (zaj hg0)
 refine zep hx hy (run_copy_cells (P:=P) w dT sT ty e b 1 4 4 z 4 sc ([a1,a2,a3,a4].map zab) hu hs rfl (fun j v hj=>?_) (fun j hj=>?_) (fun j hj=>?_) (fun v hv=>?_)) ?_
 ·obtain⟨hj1,rfl⟩:=List.getElem?_eq_some_iff.1 hj
  have:=hg j hj1
  exact this
 ·unfold World.cell?
  rw[hb]
  simp only[List.map_cons,List.map_nil,List.length_cons,List.length_nil]at hj
  rcases j with _|_|_|_|j<;>first|rfl|omega
 ·unfold World.frozen?
  rw[hb]
  simp
 ·simp only[List.map_cons,List.map_nil,List.mem_cons,List.not_mem_nil,or_false]at hv
  rcases hv with rfl|rfl|rfl|rfl<;>rfl
 ·have h1:=zdc (i:=1) (zab a1) hb
  have h2:=zdc (i:=2) (zab a2) h1.1
  have h3:=zdc (i:=3) (zab a3) h2.1
  have h4:=zdc (i:=4) (zab a4) h3.1
  exact h _ h4.1 (((h1.2.trans h2.2).trans h3.2).trans h4.2)
end
def Fz(M:Nat→Prop)(w:World)(v:Value):Prop:=∀a n c,v= .slice (some a) n c→a.block<w.heap.size∧¬M a.block
theorem Fz.step{M M' S:Nat→Prop}{w x:World}{v:Value}(h:Fz M w v)(hk:Keep S w x)(hM:∀i,M' i→M i∨w.heap.size≤i):Fz M' x v:=fun a n c hv=>by
 obtain⟨h1,h2⟩:=h a n c hv
 have:=hk.size
 exact⟨by omega,fun h=>(hM _ h).elim h2 (by omega)⟩
theorem Fz.fresh{M:Nat→Prop}{w x:World}{v:Value}(h:BlkB w.heap.size x v)(hM:∀i,M i→i<w.heap.size):Fz M x v:=fun a n c hv=>by
 obtain⟨h1,h2⟩:=h a n c hv
 exact⟨h2,fun h=>by have:=hM _ h;omega⟩
theorem Row.keepZ{M S:Nat→Prop}{w x:World}{v:Value}{l:List Value}(h:Row w v l)(hz:Fz M w v)(hk:Keep S w x)(hS:∀i,S i→M i):Row x v l:=
 h.blocks fun a n c hv=>hk.block _ (hz a n c hv).1 fun h=>(hz a n c hv).2 (hS _ h)
def FPl(M:Nat→Prop)(w:World)(cs:List Value)(p:za3):Prop:=∃ov,cs=[ov,vs p.path]∧Row w ov (p.o.map vs)∧Fz M w ov
theorem FPl.step{M M' S:Nat→Prop}{w x:World}{cs:List Value}{p:za3}(h:FPl M w cs p)(hk:Keep S w x)(hS:∀i,S i→M i)(hM:∀i,M' i→M i∨w.heap.size≤i):FPl M' x cs p:=by
 obtain⟨ov,e,h1,h2⟩:=h
 exact⟨ov,e,h1.keepZ h2 hk hS,h2.step hk hM⟩
def FHd(M:Nat→Prop)(w:World)(cs:List Value)(s:SrvL)(pv:Value):Prop:=∃nv a b c d,cs=[nv,zab a,zab b,zab c,zab d,pv]∧s.addr=[a,b,c,d]∧Row w nv (s.host.map vs)∧Fz M w nv
theorem FHd.step{M M' S:Nat→Prop}{w x:World}{cs:List Value}{s:SrvL}{pv:Value}(h:FHd M w cs s pv)(hk:Keep S w x)(hS:∀i,S i→M i)(hM:∀i,M' i→M i∨w.heap.size≤i):FHd M' x cs s pv:=by
 obtain⟨nv,a,b,c,d,e,ha,h1,h2⟩:=h
 exact⟨nv,a,b,c,d,e,ha,h1.keepZ h2 hk hS,h2.step hk hM⟩
theorem FHd.cells{M:Nat→Prop}{w:World}{cs:List Value}{s:SrvL}{pv:Value}(h:FHd M w cs s pv)(h1:one pv=true):cs.length=6∧∀q∈cs,one q=true:=by
 obtain⟨nv,a,b,c,d,rfl,_,h2,_⟩:=h
 refine⟨rfl,fun q hq=>?_⟩
 simp at hq
 rcases hq with rfl|rfl|rfl|rfl|rfl|rfl<;>first|exact h2.isOne|rfl|exact h1
def FSv(M:Nat→Prop)(w:World)(cs:List Value)(s:SrvL):Prop:=∃pv,FHd M w cs s pv∧Rows 2 (FPl M w) w pv s.places∧Fz M w pv
theorem FSv.step{M M' S:Nat→Prop}{w x:World}{cs:List Value}{s:SrvL}(h:FSv M w cs s)(hk:Keep S w x)(hS:∀i,S i→M i)(hM:∀i,M' i→M i∨w.heap.size≤i):FSv M' x cs s:=by
 obtain⟨pv,h1,h2,h3⟩:=h
 exact⟨pv,h1.step hk hS hM,(h2.blocks fun a n c hv=>hk.block _ (h3 a n c hv).1 fun h=>(h3 a n c hv).2 (hS _ h)).to fun _ _ h=>h.step hk hS hM,h3.step hk hM⟩
def gS(cs:List Value)(x:SrvL×List Value):Prop:=cs=x.2∧cs.length=6∧∀q∈cs,one q=true
theorem zgp:zeD 6 gS:=⟨fun h=>h.2.1,fun h=>h.2.2⟩
def gP(cs:List Value)(x:za3×List Value):Prop:=cs=x.2∧cs.length=2∧∀q∈cs,one q=true
theorem zgq:zeD 2 gP:=⟨fun h=>h.2.1,fun h=>h.2.2⟩
def Mut(b:Nat)(sv rv pv:Value):Nat→Prop:=fun i=>i≤b∨some i=sv.ownBlock∨some i=rv.ownBlock∨some i=pv.ownBlock
def Srvs(M:Nat→Prop)(w:World)(G:List (SrvL×List Value))(pv:Value)(GP:List (za3×List Value)):Prop:=
 (∀x∈G.dropLast,FSv M w x.2 x.1)∧(∀x,G.getLast? =some x→FHd M w x.2 x.1 pv∧x.1.places=GP.map Prod.fst)∧∀y∈GP,FPl M w y.2 y.1
theorem Srvs.step{M M' S:Nat→Prop}{w x:World}{G:List (SrvL×List Value)}{pv:Value}{GP:List (za3×List Value)}(h:Srvs M w G pv GP)(hk:Keep S w x)(hS:∀i,S i→M i)(hM:∀i,M' i→M i∨w.heap.size≤i):Srvs M' x G pv GP:=
 ⟨fun y hy=>(h.1 y hy).step hk hS hM,fun y hy=>⟨(h.2.1 y hy).1.step hk hS hM,(h.2.1 y hy).2⟩,fun y hy=>(h.2.2 y hy).step hk hS hM⟩
structure RC(B:Nat)(w:World)(b:Nat)(st:StL)(bad:Int)(sv rv pv:Value)(G:List (SrvL×List Value))(GP:List (za3×List Value)):Prop where
 h:w.heap[b]? =some (.cells #[sv,rv,vi st.c.rw,vi st.c.rf,vi st.stage,vi bad] 183 (0,0))
 lt:b<B
 le:B≤w.heap.size
 os:Owns 6 gS B w 170 sv G
 ow:Own B w 3 rv (st.c.roots.map vi)
 op:Owns 2 gP B w 172 pv GP
 d1:∀i,some i=sv.ownBlock→some i≠rv.ownBlock∧some i≠pv.ownBlock
 d2:∀i,some i=rv.ownBlock→some i≠pv.ownBlock
 sl:st.c.servers=G.map Prod.fst
 in_:Srvs (Mut b sv rv pv) w G pv GP
def RCx(B:Nat)(w:World)(b:Nat)(st:StL)(bad:Int):Prop:=∃sv rv pv G GP,RC B w b st bad sv rv pv G GP
section
variable {B b : Nat} {w x : World} {st : StL} {bad : Int} {sv rv pv : Value} {G : List (SrvL × List Value)} {GP : List (za3 × List Value)}
theorem RC.mut(h:RC B w b st bad sv rv pv G GP):∀i,Mut b sv rv pv i→True∧i<w.heap.size:=fun i hi=>by
 refine⟨trivial,?_⟩
 have h1:=h.lt
 have h2:=h.le
 rcases hi with hi|hi|hi|hi
 ·omega
 ·have:=h.os.ge hi;omega
 ·have:=h.ow.ge hi;omega
 ·have:=h.op.ge hi;omega
theorem RC.ext(h:RC B w b st bad sv rv pv G GP)(hE:Ext w x):RC B x b st bad sv rv pv G GP:=
 ⟨Ext.at hE h.h,h.lt,Nat.le_trans h.le hE.size,h.os.ext hE,h.ow.ext hE,h.op.ext hE,h.d1,h.d2,h.sl,h.in_.step hE (fun _ h=>h.elim) fun _ h=> .inl h⟩
theorem RC.turn(h:RC B w b st bad sv rv pv G GP){st':StL}{bad':Int}(hk:Keep (fun i=>i=b) w x)(hb:x.heap[b]? =some (.cells #[sv,rv,vi st'.c.rw,vi st'.c.rf,vi st'.stage,vi bad'] 183 (0,0)))(hs:st'.c.servers=st.c.servers)(hr:st'.c.roots=st.c.roots):RC B x b st' bad' sv rv pv G GP:=by
 have hl:=h.lt
 exact⟨hb,h.lt,Nat.le_trans h.le hk.size,h.os.keep hk fun i hi e=>by have:=(h.os.ge hi).1;omega,by rw[hr];exact h.ow.keep hk fun i hi e=>by have:=(h.ow.ge hi).1;omega,h.op.keep hk fun i hi e=>by have:=(h.op.ge hi).1;omega,h.d1,h.d2,by rw[hs];exact h.sl,h.in_.step hk (fun i e=> .inl (Nat.le_of_eq e)) fun _ h=> .inl h⟩
theorem RC.turnA(h:RC B w b st bad sv rv pv G GP){A:Nat}(hk:Keep (fun i=>i=A) w x)(hA:A<b):RC B x b st bad sv rv pv G GP:=by
 have hl:=h.lt
 have h2:=h.le
 have hin:Srvs (Mut b sv rv pv) x G pv GP:=h.in_.step hk (fun i e=> .inl (by omega)) fun _ h=> .inl h
 exact⟨(hk.block b (by omega) (by omega)).trans h.h,h.lt,Nat.le_trans h.le hk.size,h.os.keep hk fun i hi e=>by have:=(h.os.ge hi).1;omega,h.ow.keep hk fun i hi e=>by have:=(h.ow.ge hi).1;omega,h.op.keep hk fun i hi e=>by have:=(h.op.ge hi).1;omega,h.d1,h.d2,h.sl,hin⟩
theorem RC.server(h:RC B w b st bad sv rv pv G GP){y:World}{st':StL}{sv':Value}{s:SrvL}{cs:List Value}(ho:Owns 6 gS B y 170 sv' (G++ [(s,cs)]))(hk:Keep (fun i=>some i=sv.ownBlock) w y)(hb2:∀i,some i=sv'.ownBlock→some i=sv.ownBlock∨w.heap.size≤i)
  (hky:Keep (fun i=>i=b) y x) (hb:x.heap[b]? =some (.cells #[sv',rv,vi st'.c.rw,vi st'.c.rf,vi st'.stage,vi bad] 183 (0,0))) (hs:st'.c.servers=st.c.servers++ [s]) (hr:st'.c.roots=st.c.roots)
  (hn:FHd (Mut b sv rv pv) w cs s (.slice Option.none 0 0)) (hp:s.places=[]):RC B x b st' bad sv' rv (.slice Option.none 0 0) (G++ [(s,cs)]) []:=by
 have hl:=h.lt
 have hw:=h.le
 have hsy:=hk.size
 have hsx:=hky.size
 have hkk:Keep (Mut b sv rv pv) w x:=(hk.mono fun i _ e=> .inr (.inl e)).trans (hky.mono fun i _ e=> .inl (Nat.le_of_eq e))
 have hM:∀i,Mut b sv' rv (.slice Option.none 0 0) i→Mut b sv rv pv i∨w.heap.size≤i:=fun i hi=>by
  rcases hi with hi|hi|hi|hi
  ·exact .inl (.inl hi)
  ·exact(hb2 i hi).elim (fun e=> .inl (.inr (.inl e))) .inr
  ·exact .inl (.inr (.inr (.inl hi)))
  ·cases hi
 have hpr:∀i,some i=pv.ownBlock→¬Mut b sv' rv (.slice Option.none 0 0) i:=fun i hi hm=>by
  have g:=h.op.ge hi
  rcases hm with e|e|e|e
  ·omega
  ·rcases hb2 i e with e|e
   ·exact(h.d1 i e).2 hi
   ·omega
  ·exact h.d2 i e hi
  ·cases e
 have hfp:Fz (Mut b sv' rv (.slice Option.none 0 0)) x pv:=fun a n c hv=>by
  have e:some a.block=pv.ownBlock:=by rw[hv];rfl
  have:=(h.op.ge e).2
  exact⟨by omega,hpr _ e⟩
 refine⟨hb,hl,by omega,ho.keep hky fun i hi e=>by have:=(ho.ge hi).1;omega,?_,Owns.nil _ _ _ _ _,fun i hi=>⟨fun e=>?_,fun e=>(by cases e)⟩,fun i _ e=>(by cases e),(by rw[hs,h.sl];simp),?_,?_,fun y hy=>(by cases hy)⟩
 ·rw[hr]
  exact(h.ow.keep hk fun i hi e=>(h.d1 i e).1 hi).keep hky fun i hi e=>by have:=(h.ow.ge hi).1;omega
 ·rcases hb2 i hi with e2|e2
  ·exact(h.d1 i e2).1 e
  ·have:=(h.ow.ge e).2;omega
 ·intro z hz
  rw[List.dropLast_concat]at hz
  rcases List.eq_nil_or_concat G with e| ⟨G0,g,e⟩
  ·rw[e]at hz;cases hz
  rw[List.concat_eq_append]at e
  rw[e]at hz
  rcases List.mem_append.1 hz with h1|h1
  ·exact(h.in_.1 z (by rw[e,List.dropLast_concat];exact h1)).step hkk (fun i e=>e) hM
  ·rw[List.mem_singleton.1 h1]
   obtain⟨g1,g2⟩:=h.in_.2.1 g (by rw[e,List.getLast?_concat])
   refine⟨pv,g1.step hkk (fun i e=>e) hM,?_,hfp⟩
   rw[g2]
   have hop:Owns 2 gP B x 172 pv GP:=(h.op.keep hk fun i hi e=>(h.d1 i e).2 hi).keep hky fun i hi e=>by have:=(h.op.ge hi).1;omega
   obtain⟨L,k1,k2,k3⟩:=hop.rows
   refine⟨L,k1,by rw[k2,List.length_map],fun i hi hi'=>?_⟩
   have hi2:i<GP.length:=by omega
   rw[(k3 i hi hi2).1,List.getElem_map]
   exact(h.in_.2.2 _ (List.getElem_mem hi2)).step hkk (fun i e=>e) hM
 ·intro z hz
  rw[List.getLast?_concat]at hz
  cases hz
  exact⟨hn.step hkk (fun i e=>e) hM,hp⟩
theorem RC.root(h:RC B w b st bad sv rv pv G GP){y:World}{st':StL}{bad':Int}{rv':Value}(ho:Own B y 3 rv' (st'.c.roots.map vi))(hk:Keep (fun i=>some i=rv.ownBlock) w y)(hb2:∀i,some i=rv'.ownBlock→some i=rv.ownBlock∨w.heap.size≤i)
  (hky:Keep (fun i=>i=b) y x) (hb:x.heap[b]? =some (.cells #[sv,rv',vi st'.c.rw,vi st'.c.rf,vi st'.stage,vi bad'] 183 (0,0))) (hs:st'.c.servers=st.c.servers):RC B x b st' bad' sv rv' pv G GP:=by
 have hl:=h.lt
 have hw:=h.le
 have hsy:=hk.size
 have hsx:=hky.size
 have hkk:Keep (Mut b sv rv pv) w x:=(hk.mono fun i _ e=> .inr (.inr (.inl e))).trans (hky.mono fun i _ e=> .inl (Nat.le_of_eq e))
 have hM:∀i,Mut b sv rv' pv i→Mut b sv rv pv i∨w.heap.size≤i:=fun i hi=>by
  rcases hi with hi|hi|hi|hi
  ·exact .inl (.inl hi)
  ·exact .inl (.inr (.inl hi))
  ·exact(hb2 i hi).elim (fun e=> .inl (.inr (.inr (.inl e)))) .inr
  ·exact .inl (.inr (.inr (.inr hi)))
 refine⟨hb,hl,by omega,?_,ho.keep hky fun i hi e=>by have:=(ho.ge hi).1;omega,?_,fun i hi=>⟨fun e=>?_,(h.d1 i hi).2⟩,fun i hi e=>?_,by rw[hs];exact h.sl,h.in_.step hkk (fun i e=>e) hM⟩
 ·exact(h.os.keep hk fun i hi e=>(h.d1 i hi).1 e).keep hky fun i hi e=>by have:=(h.os.ge hi).1;omega
 ·exact(h.op.keep hk fun i hi e=>h.d2 i e hi).keep hky fun i hi e=>by have:=(h.op.ge hi).1;omega
 ·rcases hb2 i e with e2|e2
  ·exact(h.d1 i hi).1 e2
  ·have:=(h.os.ge hi).2;omega
 ·rcases hb2 i hi with e2|e2
  ·exact h.d2 i e2 e
  ·have:=(h.op.ge e).2;omega
theorem RC.zone(h:RC B w b st bad sv rv pv G GP){y:World}{st':StL}{pv':Value}{p:za3}{cs:List Value}{G0:List (SrvL×List Value)}{s:SrvL}{c5:List Value}(hG:G=G0++ [(s,c5)])(ho:Owns 2 gP B y 172 pv' (GP++ [(p,cs)]))(hk:Keep (fun i=>some i=pv.ownBlock) w y)(hb2:∀i,some i=pv'.ownBlock→some i=pv.ownBlock∨w.heap.size≤i)
  (hky:Keep (fun i=>some i=sv.ownBlock) y x) (hos:Owns 6 gS B x 170 sv (G0++ [({s with places:=s.places++ [p]},c5.set 5 pv')])) (hs:st'.c.servers=(G0++ [({s with places:=s.places++ [p]},c5.set 5 pv')]).map Prod.fst) (hrt:st'.c.roots=st.c.roots) (hrw:st'.c.rw=st.c.rw) (hrf:st'.c.rf=st.c.rf) (hst:st'.stage=st.stage)
  (hn:FPl (Mut b sv rv pv) w cs p):RC B x b st' bad sv rv pv' (G0++ [({s with places:=s.places++ [p]},c5.set 5 pv')]) (GP++ [(p,cs)]):=by
 have hl:=h.lt
 have hw:=h.le
 have hsy:=hk.size
 have hsx:=hky.size
 have hkk:Keep (Mut b sv rv pv) w x:=(hk.mono fun i _ e=> .inr (.inr (.inr e))).trans (hky.mono fun i _ e=> .inr (.inl e))
 have hM:∀i,Mut b sv rv pv' i→Mut b sv rv pv i∨w.heap.size≤i:=fun i hi=>by
  rcases hi with hi|hi|hi|hi
  ·exact .inl (.inl hi)
  ·exact .inl (.inr (.inl hi))
  ·exact .inl (.inr (.inr (.inl hi)))
  ·exact(hb2 i hi).elim (fun e=> .inl (.inr (.inr (.inr e)))) .inr
 have hpn:∀i,some i=sv.ownBlock→some i≠pv'.ownBlock:=fun i hi e=>by
  rcases hb2 i e with e2|e2
  ·exact(h.d1 i hi).2 e2
  ·have:=(h.os.ge hi).2;omega
 have hB:x.heap[b]? =w.heap[b]?:=(hky.block b (by omega) fun e=>by have:=(h.os.ge e).1;omega).trans (hk.block b (by omega) fun e=>by have:=(h.op.ge e).1;omega)
 obtain⟨g1,g2⟩:=h.in_.2.1 (s,c5) (by rw[hG,List.getLast?_concat])
 refine⟨by rw[hB,hrw,hrf,hst];exact h.h,hl,by omega,hos,?_,ho.keep hky fun i hi e=>hpn i e hi,fun i hi=>⟨(h.d1 i hi).1,hpn i hi⟩,fun i hi e=>?_,hs,fun z hz=>?_,fun z hz=>?_,fun z hz=>?_⟩
 ·rw[hrt]
  exact(h.ow.keep hk fun i hi e=>h.d2 i hi e).keep hky fun i hi e=>(h.d1 i e).1 hi
 ·rcases hb2 i e with e2|e2
  ·exact h.d2 i hi e2
  ·have:=(h.ow.ge hi).2;omega
 ·rw[List.dropLast_concat]at hz
  exact(h.in_.1 z (by rw[hG,List.dropLast_concat];exact hz)).step hkk (fun i e=>e) hM
 ·rw[List.getLast?_concat]at hz
  cases hz
  refine⟨?_,by rw[List.map_append,←g2];rfl⟩
  obtain⟨nv,a1,a2,a3,a4,e,ha,k1,k2⟩:=g1.step hkk (fun i e=>e) hM
  exact⟨nv,a1,a2,a3,a4,by rw[show c5=_ from e];rfl,ha,k1,k2⟩
 ·rcases List.mem_append.1 hz with h1|h1
  ·exact(h.in_.2.2 z h1).step hkk (fun i e=>e) hM
  ·rw[List.mem_singleton.1 h1]
   exact hn.step hkk (fun i e=>e) hM
theorem RC.conf(h:RC B w b st bad sv rv pv G GP):ConfAt w [sv,rv,vi st.c.rw,vi st.c.rf] st.c:=by
 refine⟨sv,rv,rfl,?_,h.ow.row⟩
 obtain⟨L,k1,k2,k3⟩:=h.os.rows
 rw[h.sl]
 refine⟨L,k1,by rw[k2,List.length_map],fun i hi hi'=>?_⟩
 have hi2:i<G.length:=by omega
 rw[(k3 i hi hi2).1,List.getElem_map]
 have pl:∀{M:Nat→Prop} {q:Value} {l:List za3},Rows 2 (FPl M w) w q l→Rows 2 (PlaceC w) w q l:=fun h=>h.to fun _ _ ⟨ov,e,h1,_⟩=>⟨ov,e,h1⟩
 rcases List.eq_nil_or_concat G with e| ⟨G0,g,e⟩
 ·rw[e]at hi2;simp at hi2
 rw[List.concat_eq_append]at e
 by_cases hlast:i<G0.length
 ·have hm:G[i]∈G.dropLast:=by
   simp only[e,List.dropLast_concat,List.getElem_append_left hlast]
   exact List.getElem_mem hlast
  obtain⟨q,⟨nv,a1,a2,a3,a4,e1,ha,m1,_⟩,m3,_⟩:=h.in_.1 _ hm
  exact⟨nv,a1,a2,a3,a4,q,e1,ha,m1,pl m3⟩
 ·have hm:G.getLast? =some G[i]:=by
   have hlen:G.length=G0.length+1:=by rw[e];simp
   rw[List.getLast?_eq_getElem?,List.getElem?_eq_getElem (by omega)]
   congr 1
   congr 1
   omega
  obtain⟨⟨nv,a1,a2,a3,a4,e1,ha,m1,_⟩,m3⟩:=h.in_.2.1 _ hm
  refine⟨nv,a1,a2,a3,a4,pv,e1,ha,m1,?_⟩
  rw[m3]
  obtain⟨L2,j1,j2,j3⟩:=h.op.rows
  refine⟨L2,j1,by rw[j2,List.length_map],fun j hj hj'=>?_⟩
  have hj2:j<GP.length:=by omega
  rw[(j3 j hj hj2).1,List.getElem_map]
  obtain⟨ov,e2,h2,_⟩:=h.in_.2.2 _ (List.getElem_mem hj2)
  exact⟨ov,e2,h2⟩
theorem ConfAt.servers{c:za4}{sv rv:Value}{x y:Int}(h:ConfAt w [sv,rv,vi x,vi y] c):∃a k,sv= .slice a c.servers.length k∧c.servers.length≤k∧∀i (h:i<c.servers.length),∃cs,zao w (adr a (i*6)) 6=some cs∧SrvC w cs c.servers[i]:=by
 obtain⟨sv',rv',e,hs,_⟩:=h.ex
 injection e with e _
 subst e
 exact hs.open
end
theorem zbN(w:World)(p:Value):Fn Tryz.prog 180 #[p,.bool true] w (fun _ w'=>w'=w):=by
 refine enter Tryz.func180 Tryz.ntmps180 rfl rfl ?_
 refine go trivial ?_
 refine rgg [(2,6)] Bool.not_true ?_
 refine go trivial ?_
 exact zar (by simp) rfl rfl
theorem zhW{w:World}(hW:WX w)(p:Value){a:Nat}(ha:a≤2147483647):Fn Tryz.prog 181 #[p,vs (Lib.decDigits a)] w (fun v w'=>v=vi a∧Ext w w'):=by
 have hd:decP 2147483647 (Lib.decDigits a)=(a,0):=zeB ha
 have hl:=zbk 19 a (by omega)
 have hwr:IntKind.i64.wrap (a:Int)=(a:Int):=zee (by omega) (by omega)
 refine enter Tryz.func181 Tryz.ntmps181 rfl rfl ?_
 refine go trivial ?_
 refine rc trivial (zed hW (Lib.decDigits a) 2147483647 (by decide) (by omega)) ?_
 rintro _ w1 ⟨rfl,hE1⟩
 rw[hd]
 refine rgo (show decide ((0:Int)=0)=true from rfl) ?_
 refine rc (show decide ((0:Int)=0)=true from rfl) (zbN w1 p) ?_
 rintro _ w2 rfl
 refine rgo hwr ?_
 refine rt1 hwr Tryz.ntmps181 ?_
 exact⟨rfl,hE1⟩
theorem zet(w:World)(p:Value){n:Nm}(hn:zeG n):Fn Tryz.prog 228 #[p,vs (zaW n)] w (fun v w'=>Ext w w'∧Row w' v (n.map vs)∧BlkB w.heap.size w' v):=by
 have hl:(zaW n).length≤5000000:=zdp hn.2.1 hn.2.2
 have hb:zgR (zaW n) []=(n,0):=zhZ hn.1
 refine enter Tryz.func228 Tryz.ntmps228 rfl rfl ?_
 refine go trivial ?_
 refine rc trivial (ziL w (zaW n) (.slice Option.none 0 0) [] (by omega) (ze4 w) ⟨by simp,by simp⟩) ?_
 rintro _ w1 ⟨hE1,nv,rfl,hr,hk⟩
 rw[hb]at hr ⊢
 have d0:decide ((0:Int)=0)=true:=rfl
 refine rgo trivial ?_
 refine rcg [(3,15)] d0 (zeH w1 nv n hr (fun l h=>by have:=hn.2.1 l h;omega) hn.2.2) ?_
 rintro _ w2 ⟨rfl,hE2⟩
 have d1:decide (zaW n=zaW n)=true:=decide_eq_true rfl
 refine rdg [(3,15)] (an2 d0 d1) (zbN w2 p) ?_
 rintro _ w3 rfl
 refine reg [(3,15)] trivial ?_
 refine go trivial ?_
 refine rt0 Tryz.ntmps228 ?_
 exact⟨hE1.trans hE2,hr.ext hE2,hk.ext hE2.size⟩
section
variable {B b W : Nat} {w : World} {st : StL}
theorem zdZ{u1 u2 u3:Lab}(h:w.heap[W]? =some (.cells #[vs u1,vs u2,vs u3] 9 (0,0))):zag w (some ⟨W,0,Option.none⟩)=some (vs u1)∧zag w (some ⟨W,1,Option.none⟩)=some (vs u2)∧zag w (some ⟨W,2,Option.none⟩)=some (vs u3):=
 ⟨zad h rfl,zad h rfl,zad h rfl⟩
theorem zd0(hX:WX w)(h:RCx B w b st 0){n:Nm}{a:List UInt8}(hn:zeG n)(ha:a.length=4){u:Lab}(hB:w.heap[W]? =some (.cells #[vs u,vs (zaW n),vs (zfn a)] 9 (0,0)))(hl:st.c.servers.length≤1000000):
  Fn Tryz.prog 182 #[.pointer (some ⟨b,0,Option.none⟩),.slice (some ⟨W,0,Option.none⟩) 3 3] w (fun _ w'=>RCx B w' b (zbn st (.server n a)).1 0∧Keep (fun i=>b≤i) w w'):=by
 obtain⟨sv,rv,pv,G,GP,h⟩:=h
 have hlt:=h.lt
 have hle:=h.le
 obtain⟨_,c1,c2⟩:=zdZ hB
 obtain⟨t,ht⟩:∃t,zfn a=t:=⟨_,rfl⟩
 have htw:=zhf ha
 rw[ht]at c2 htw
 have i1:(0:Int)≤1:=by decide
 have i2:(1:Int)<3:=by decide
 have i3:(2:Int)<3:=by decide
 have i4:(0:Int)≤2:=by decide
 have t1:(1:Int).toNat=1:=rfl
 have t2:(2:Int).toNat=2:=rfl
 refine enter Tryz.func182 Tryz.ntmps182 rfl rfl ?_
 repeat refine c_r ?_
 refine rq ?_;intro gd K hgd hK
 try simp (disch:=first|omega|assumption|rfl) only[go_sem,c1,i1,i2,t1,Nat.mul_one,Nat.zero_add]
 refine Fn.mono (zet w (.pointer (some ⟨b,0,Option.none⟩)) hn) ?_
 rintro nv w1 ⟨hE1,hrow,hblk⟩
 obtain⟨na,nc,rfl,_⟩:=id hrow
 simp only[List.length_map]at hrow hblk ⊢
 try simp only[go_sem]
 refine⟨by kernel_rfl,?_⟩
 rw[show bdV Tryz.prog 170 [(0,.slice na n.length nc)]=some (.agg #[.slice na n.length nc,.int .u8 0,.int .u8 0,.int .u8 0,.int .u8 0,.slice Option.none 0 0]) from by kernel_rfl]
 try simp only[go_sem]
 refine zbg (P:=Tryz.prog) (l:=[.slice na n.length nc,.int .u8 0,.int .u8 0,.int .u8 0,.int .u8 0,.slice Option.none 0 0]) rfl (fun v hv=>by simp at hv;rcases hv with rfl|rfl|rfl<;>rfl) rfl rfl ?_
 intro w2 hE2 hs2 hB2
 try simp only[go_sem]
 refine hK _ _ ?_;clear hK hgd;clear K;try clear gd
 obtain⟨b4,hb4⟩:∃b,w1.heap.size=b:=⟨_,rfl⟩
 rw[hb4]at hB2 ⊢
 have hE12:=hE1.trans hE2
 have hs1:=hE1.size
 have c2':=zaa hE12 c2
 repeat refine c_r ?_
 refine rq ?_;intro gd K hgd hK
 try simp (disch:=first|omega|assumption|rfl) only[go_sem,c2',i3,i4,t2,Nat.mul_one,Nat.zero_add]
 refine⟨by kernel_rfl,?_⟩
 rw[show bdV Tryz.prog 141 [(0,vs t)]=some (.agg #[vs t,.bool false]) from by kernel_rfl]
 try simp only[go_sem]
 refine zdN wd_shape (l:=[vs t,.bool false]) (a:=(t,false)) rfl rfl rfl rfl rfl (by decide) ?_
 intro y1 hy1 hys1 ho1
 try simp only[go_sem]
 refine Fn.mono (back1 (oa:=Option.none) (on:=0) (oc:=0) (hX.ext (hE12.trans hy1)) (zeb ha) rfl (d:=rawD 1 a) (wv:= .slice (some ⟨w2.heap.size,0,Option.none⟩) 1 1) ?_) ?_
 ·rw[show zeN hexU (rawD 1 a)=t from ht,htw]
  exact ho1.rows
 rintro _ y2 ⟨hy2,csd,rfl,hGD⟩
 obtain⟨hl5,hone5⟩:=ziT hGD
 try simp only[go_sem]
 refine zbg (P:=Tryz.prog) (l:=csd) (by rw[hl5];rfl) hone5 (by rw[hl5];rfl) rfl ?_
 intro y3 hy3 hys3 hB3
 try simp only[go_sem]
 refine hK _ _ ?_;clear hK hgd;clear K;try clear gd
 obtain⟨b5,hb5⟩:∃b,y2.heap.size=b:=⟨_,rfl⟩
 rw[hb5]at hB3 ⊢
 obtain⟨nm,nu,tx,rwv,rfl,_,_,_,hraw⟩:=hGD.now.ex
 obtain⟨a1,a2,a3,a4,rfl⟩:∃a1 a2 a3 a4,a=[a1,a2,a3,a4]:=by
  rcases a with _| ⟨a1,_| ⟨a2,_| ⟨a3,_| ⟨a4,_| ⟨a5,r⟩⟩⟩⟩⟩<;>first|exact⟨_,_,_,_,rfl⟩| (simp at ha)
 replace hraw:Row y2 rwv ([a1,a2,a3,a4].map zab):=hraw
 obtain⟨ra,rc',rfl,_⟩:=id hraw
 replace hraw:Row y2 (.slice ra 4 rc') ([a1,a2,a3,a4].map zab):=hraw
 replace hB3:y3.heap[b5]? =some (.cells #[vi (rawD 1 [a1,a2,a3,a4]).ty,nm,nu,tx,.slice ra 4 rc'] 33 (0,0)):=hB3
 have p4:zag y3 (some ⟨b5,4,Option.none⟩)=some (.slice ra 4 rc'):=zad hB3 rfl
 have hE3:=((hE12.trans hy1).trans hy2).trans hy3
 have hB23:=Ext.at ((hy1.trans hy2).trans hy3) hB2
 have d0:decide ((0:Int)=0)=true:=rfl
 refine go trivial ?_
 refine rc d0 (zbN y3 (.pointer (some ⟨b,0,Option.none⟩))) ?_
 rintro _ _ rfl
 refine rgo trivial ?_
 refine zaM (Q:=fun e' σ' ds' v'=>e'= .normal∧ds'=[]∧(σ' 0= .pointer (some ⟨b,0,Option.none⟩)∧σ' 4= .pointer (some ⟨b4,0,Option.none⟩))∧Ext w v'∧v'.heap[b4]? =some (.cells #[.slice na n.length nc,zab a1,zab a2,zab a3,zab a4,.slice Option.none 0 0] 170 (0,0))∧Row v' (.slice na n.length nc) (n.map vs)) ?_ ?_
 ·refine zaU (fun i=>i==4) [(0,true),(2,true),(3,true),(1,false),(4,false)] NoS mixed (by kernel_rfl) ?_;intro gd K x hgd hx hxe hK;have hx0:=za0 hxe;clear hxe
  have p4x:=zaa hx0 p4
  have hBx:=Ext.at hx0 hB23
  simp (disch:=first|omega|assumption|rfl) only[go_sem,p4x,Nat.zero_add]
  refine op_slA rfl (by decide) (by kernel_rfl) (vq0) ?_
  refine⟨.inr (Keep.refl _ _),?_⟩
  simp (disch:=first|omega|assumption|rfl) only[go_sem,p4x,Nat.zero_add]
  refine op_copy4 (b:=b4) (vr0) (vr0) hBx (hraw.ext (hy3.trans hx0)) rfl rfl ?_
  intro z1 hz1 hk1
  refine⟨.inl rfl,?_⟩
  simp (disch:=first|omega|assumption|rfl) only[go_sem]
  refine hK _ _ ?_;clear hK hgd;clear K;try clear gd
  exact⟨rfl,rfl,⟨vr0,vr0⟩,Keep.to_ext (hE3.trans hx0) rfl (fun i hi=>by omega) hk1,hz1,(hrow.ext ((((hE2.trans hy1).trans hy2).trans hy3).trans hx0)).blocks fun a n c hv=>by
   have h1:=(hblk a n c hv).2
   have h2:=(((hE2.trans hy1).trans hy2).trans hy3).size
   have h3:=hx0.size
   exact hk1.block _ (by omega) (by omega)⟩
 rintro _ σ1 _ z1 ⟨rfl,rfl,⟨s0,s4⟩,hEz,hBz,hrz⟩
 have hz:=h.ext hEz
 have q6:zao z1 (some ⟨b4,0,Option.none⟩) 6=some [.slice na n.length nc,zab a1,zab a2,zab a3,zab a4,.slice Option.none 0 0]:=zam (n:=6) hBz rfl
 have k0:zag z1 (some ⟨b,0,Option.none⟩)=some sv:=zad hz.h rfl
 obtain⟨se,sn,sc',hsv⟩:∃a n c,sv= .slice a n c:=by
  rcases h.os.cases with ⟨e,_⟩| ⟨_,_,_,e,_⟩<;>exact⟨_,_,_,e⟩
 have hGl:G.length≤1000000:=by have:=h.sl;rw[this,List.length_map]at hl;exact hl
 refine go (an2 s0 s4) ?_
 refine zaU (fun i=>i==9||i==13||i==16) [(0,true),(1,true),(2,true),(3,true),(4,true),(5,true),(6,true),(7,true),(8,false),(9,false),(10,true),(11,true),(12,true),(13,false),(14,true),(15,true),(16,false)] NoS mixed (by kernel_rfl) ?_;intro gd K x hgd hx hxe hK;have hx0:=za0 hxe;clear hxe
 have q6x:=zai hx0 q6
 have k0x:=zaa hx0 k0
 have hzx:=hz.ext hx0
 simp (disch:=first|omega|assumption|rfl) only[go_sem,s0,s4,k0x,q6x,Nat.zero_add,Nat.add_zero]
 have hlx:=hzx.le
 have hones:∀v∈ [.slice na n.length nc,zab a1,zab a2,zab a3,zab a4,.slice Option.none 0 0],one v=true:=fun v hv=>by simp at hv;rcases hv with rfl|rfl|rfl|rfl|rfl|rfl<;>rfl
 refine zdN zgp (l:=[.slice na n.length nc,zab a1,zab a2,zab a3,zab a4,.slice Option.none 0 0]) (a:=(⟨n,[a1,a2,a3,a4],[]⟩,[.slice na n.length nc,zab a1,zab a2,zab a3,zab a4,.slice Option.none 0 0])) rfl rfl rfl rfl ⟨rfl,rfl,hones⟩ (by decide) ?_
 intro u1 hu1 hsu1 hou1
 refine⟨.inr hu1.keep,?_⟩
 have hzu:=hzx.ext hu1
 simp (disch:=first|omega|assumption|rfl) only[go_sem]
 refine zeq zgp hzu.os hou1.rows rfl rfl rfl rfl rfl rfl (by decide) (vr0) (vr0) (by simp;omega) (by decide) hzu.le ?_
 intro sv' u2 ho2 hX2 hk2 hb2
 refine⟨.inl rfl,?_⟩
 have h1v:one sv'=true:=by rcases ho2.cases with ⟨e,_⟩| ⟨_,_,_,e,_⟩<;>rw[e]<;>rfl
 have hbu2:=(hk2.block b (by have:=hzu.le;omega) fun e=>by have:=(hzu.os.ge e).1;omega).trans hzu.h
 simp (disch:=first|omega|assumption|rfl) only[go_sem]
 refine zat (P:=Tryz.prog) rfl rfl h1v hbu2 (by simp) (by simp) ?_
 intro u3 hsu3 hb3 hk3
 refine⟨.inl rfl,?_⟩
 simp (disch:=first|omega|assumption|rfl) only[go_sem]
 refine zat (P:=Tryz.prog) rfl rfl rfl hb3 (by simp) (by simp) ?_
 intro u4 hsu4 hb4 hk4
 refine⟨.inl rfl,?_⟩
 simp (disch:=first|omega|assumption|rfl) only[go_sem]
 refine hK _ _ ?_;clear hK hgd;clear K;try clear gd
 refine go trivial ?_
 have hE4:=(hEz.trans hx0).trans hu1
 have hblk':BlkB w.heap.size u1 (.slice na n.length nc):=hblk.ext (by have:=hE4.size;have:=(((hE2.trans hy1).trans hy2).trans hy3).size;have:=hx0.size;have:=hu1.size;have:=hEz.size;have:=(Array.getElem?_eq_some_iff.1 hBz).1;omega)
 have hrow':Row u1 (.slice na n.length nc) (n.map vs):=hrz.ext (hx0.trans hu1)
 have hM:∀i,Mut b sv rv pv i→i<w.heap.size:=fun i hi=>(h.mut i hi).2
 refine zar (by simp) rfl ⟨⟨sv',rv,_,_,[],RC.server hzu ho2 hk2 hb2 (hk3.trans hk4) hb4 rfl rfl ⟨_,a1,a2,a3,a4,rfl,rfl,hrow',Fz.fresh hblk' hM⟩ rfl⟩,?_⟩
 exact(((hE4.mono fun _ _ h=>h.elim).trans (hk2.mono fun i _ e=>by have:=(hzu.os.ge e).1;omega)).trans (hk3.mono fun i _ e=>by omega)).trans (hk4.mono fun i _ e=>by omega)
theorem Owns.sd{α:Type}{k B:Nat}{C:List Value→α→Prop}{w:World}{e:TypeId}{v:Value}{xs:List α}(h:Owns k C B w e v xs)(h0:xs≠ []):∃b cap L,v= .slice (some ⟨b,0,Option.none⟩) xs.length cap∧B≤b∧xs.length≤cap∧cap≤maxLen∧SD k w b e cap L∧L.length=xs.length∧∀i (h:i<L.length) (h':i<xs.length),C L[i] xs[i]:=by
 rcases h.cases with ⟨_,e⟩|h
 ·exact absurd e h0
 ·exact h
theorem zeu{α β:Type}(f:α→β)(l:List α)(a:α):(l++ [a]).map f=l.map f++ [f a]:=by simp
theorem zoneR_ok{w0:World}(h:RCx B w0 b st 0)(hE0:Ext w0 w)(hW0:w0.heap.size≤W){o:Nm}{p:Lab}(hn:zeG o)(hp:zbF p)(hpl:p.length≤50){u:Lab}(hB:w.heap[W]? =some (.cells #[vs u,vs (zaW o),vs p] 9 (0,0)))(hl:st.c.servers.length≤1000000)(h0:st.c.servers≠ [])(hpn:∀s∈st.c.servers,s.places.length≤1000000):
  Fn Tryz.prog 183 #[.pointer (some ⟨b,0,Option.none⟩),.slice (some ⟨W,0,Option.none⟩) 3 3] w (fun _ w'=>RCx B w' b ⟨(zbn st (.zone o p)).1.c,st.stage⟩ 0∧Keep (fun i=>b≤i) w w'):=by
 obtain⟨sv,rv,pv,G,GP,h⟩:=h
 have hmW:∀i,Mut b sv rv pv i→i≠W:=fun i hi e=>by have:=(h.mut i hi).2;omega
 replace h:=h.ext hE0
 have hlt:=h.lt
 have hle:=h.le
 obtain⟨_,c1,c2⟩:=zdZ hB
 have i1:(0:Int)≤1:=by decide
 have i2:(1:Int)<3:=by decide
 have i3:(2:Int)<3:=by decide
 have i4:(0:Int)≤2:=by decide
 have t1:(1:Int).toNat=1:=rfl
 have t2:(2:Int).toNat=2:=rfl
 have hGl:G.length≤1000000:=by have:=h.sl;rw[this,List.length_map]at hl;exact hl
 obtain⟨G0,⟨s,c5⟩,hG⟩:∃G0 x,G=G0++ [x]:=by
  rcases List.eq_nil_or_concat G with e| ⟨G0,g,e⟩
  ·exact absurd (by rw[h.sl,e];rfl) h0
  ·exact⟨G0,g,by rw[e,List.concat_eq_append]⟩
 have hGlen:G.length=G0.length+1:=by rw[hG];simp
 obtain⟨S,cap,L,rfl,hBS,hcap,hmax,hSD,hLl,hLg⟩:=h.os.sd (fun e=>by rw[e]at hGlen;simp at hGlen)
 obtain⟨k,hk⟩:∃k,G0.length=k:=⟨_,rfl⟩
 have hkL:k<L.length:=by omega
 have hLk:L[k]=c5:=by
  have:=(hLg k hkL (by omega)).1
  rw[this]
  simp only[hG]
  rw[List.getElem_append_right (by omega)]
  simp[hk]
 obtain⟨⟨nv,a1,a2,a3,a4,hc5,hadr,hrow,hfz⟩,hpls⟩:=h.in_.2.1 (s,c5) (by rw[hG,List.getLast?_concat])
 simp only at hc5 hadr hrow hfz hpls
 have hpll:GP.length≤1000000:=by
  have:=hpn s (by rw[h.sl,hG,zeu];simp)
  rw[hpls,List.length_map]at this;exact this
 have hkc:(G.length:Int) - 1=(k:Int):=by omega
 have hk0:(0:Int)≤(k:Int):=by omega
 have hk1:(k:Int)<(G.length:Int):=by omega
 have k0:zag w (some ⟨b,0,Option.none⟩)=some (.slice (some ⟨S,0,Option.none⟩) G.length cap):=zad h.h rfl
 have k5:zag w (some ⟨S,k*6+5,Option.none⟩)=some pv:=by
  have g:=hSD.get hkL
  rw[hLk,hc5]at g
  have:=zbf g (j:=5) (by simp)
  rwa [zbb]at this
 obtain⟨pa,pn,pc,hpv⟩:∃a n c,pv= .slice a n c:=by
  rcases h.op.cases with ⟨e,_⟩| ⟨_,_,_,e,_⟩<;>exact⟨_,_,_,e⟩
 refine enter Tryz.func183 Tryz.ntmps183 rfl rfl ?_
 refine go trivial ?_
 refine zaM (Q:=fun e' σ' ds' v'=>e'= .normal∧ds'=[]∧(σ' 0= .pointer (some ⟨b,0,Option.none⟩)∧σ' 1= .slice (some ⟨W,0,Option.none⟩) 3 3∧σ' 4= .pointer (some ⟨S,k*6,Option.none⟩))∧Ext w v') ?_ ?_
 ·refine zaU (fun _=>false) [(0,true),(1,true),(2,true),(3,true),(4,true),(5,true),(6,true),(7,true),(8,true),(9,true),(10,true),(11,true),(12,true),(13,true)] NoS mixed (by kernel_rfl) ?_;intro gd K x hgd hx hxe hK;have hx0:=za0 hxe;clear hxe
  have k0x:=zaa hx0 k0
  simp (disch:=first|omega|assumption|rfl) only[go_sem,k0x,Nat.zero_add,Nat.add_zero,hkc,hk0,hk1]
  refine hK _ _ ?_;clear hK hgd;clear K;try clear gd
  exact⟨rfl,rfl,⟨vr0,vr0,vr0⟩,hx0⟩
 rintro _ σ1 _ w1 ⟨rfl,rfl,⟨s0,s1,s4⟩,hE1⟩
 refine go (an3 s0 s1 s4) ?_
 refine zaU (fun i=>i==15||i==18) [(0,true),(1,true),(2,true),(3,true),(4,true),(5,true),(6,true),(7,true),(8,true),(10,true),(11,true),(12,true),(9,false),(13,true),(14,false),(15,false),(16,true),(17,true),(18,false)] NoS mixed (by kernel_rfl) ?_;intro gd K x hgd hx hxe hK;have hx0:=za0 hxe;clear hxe
 have hw1:=hE1.trans hx0
 have k5x:=zaa hw1 k5
 have c1x:=zaa hw1 c1
 have c2x:=zaa hw1 c2
 simp (disch:=first|omega|assumption|rfl) only[go_sem,s0,s1,s4,k5x,c1x,c2x,i1,i2,i3,i4,t1,t2,Nat.zero_add,Nat.mul_one]
 refine Fn.mono (zet x (.pointer (some ⟨b,0,Option.none⟩)) hn) ?_
 rintro ov y1 ⟨hy1,hrow1,hblk1⟩
 obtain⟨na,nc,rfl,_⟩:=id hrow1
 simp only[List.length_map]at hrow1 hblk1 ⊢
 refine⟨.inr hy1.keep,?_⟩
 have k5y:=zaa hy1 k5x
 have c2y:=zaa hy1 c2x
 simp (disch:=first|omega|assumption|rfl) only[go_sem,s0,s1,s4,k5y,c2y,i3,i4,t2,Nat.zero_add,Nat.mul_one]
 refine⟨by kernel_rfl,?_⟩
 rw[show bdV Tryz.prog 172 [(0,.slice na o.length nc),(1,vs p)]=some (.agg #[.slice na o.length nc,vs p]) from by kernel_rfl]
 simp (disch:=first|omega|assumption|rfl) only[go_sem]
 refine zdN zgq (l:=[.slice na o.length nc,vs p]) (a:=(⟨o,p⟩,[.slice na o.length nc,vs p])) rfl rfl rfl rfl ⟨rfl,rfl,fun v hv=>by simp at hv;rcases hv with rfl|rfl<;>rfl⟩ (by decide) ?_
 intro u1 hu1 hsu1 hou1
 refine⟨.inr hu1.keep,?_⟩
 have hEu:=(hw1.trans hy1).trans hu1
 have hzu:=h.ext hEu
 simp (disch:=first|omega|assumption|rfl) only[go_sem]
 refine zeq zgq hzu.op hou1.rows rfl rfl rfl rfl rfl rfl (by decide) (vr0) (vr0) (by simp;omega) (by decide) hzu.le ?_
 intro pv' u2 ho2 hX2 hk2 hb2
 refine⟨.inl rfl,?_⟩
 have h1v:one pv'=true:=by rcases ho2.cases with ⟨e,_⟩| ⟨_,_,_,e,_⟩<;>rw[e]<;>rfl
 have hSD2:=(hSD.ext hEu).keep hk2 fun e=>(h.d1 S rfl).2 e
 simp (disch:=first|omega|assumption|rfl) only[go_sem]
 refine SD.setAt (P:=Tryz.prog) (t:=168) hSD2 (j:=k) (i:=5) hkL (by decide) h1v rfl rfl ?_
 intro u3 hs3 hSD3 hk3
 refine⟨.inl rfl,?_⟩
 simp (disch:=first|omega|assumption|rfl) only[go_sem]
 refine hK _ _ ?_;clear hK hgd;clear K;try clear gd
 have hsv:st.c.servers=G0.map Prod.fst++ [s]:=by rw[h.sl,hG,zeu]
 have hput:(zbn st (.zone o p)).1.c.servers=(G0++ [(({s with places:=s.places++ [⟨o,p⟩]}:SrvL),c5.set 5 pv')]).map Prod.fst:=by
  show putZ st.c.servers ⟨o,p⟩=_
  unfold putZ
  rw[hsv,List.getLast?_concat,List.dropLast_concat,zeu]
 have hos:Owns 6 gS B u3 170 (.slice (some ⟨S,0,Option.none⟩) G.length cap) (G0++ [(({s with places:=s.places++ [⟨o,p⟩]}:SrvL),c5.set 5 pv')]):=by
  have hxl:(G0++ [(({s with places:=s.places++ [⟨o,p⟩]}:SrvL),c5.set 5 pv')]).length=G.length:=by rw[hGlen];simp
  have:=Owns.of_sd (C:=gS) (xs:=G0++ [(({s with places:=s.places++ [⟨o,p⟩]}:SrvL),c5.set 5 pv')]) hSD3 hBS (by omega) hmax (by rw[List.length_set,hxl,hLl]) fun i hi hi'=>⟨?_,hSD3.len _ (List.getElem_mem hi),hSD3.ones _ (List.getElem_mem hi)⟩
  ·rw[hxl]at this;exact this
  ·rw[List.getElem_set]
   by_cases e:k=i
   ·subst e
    rw[if_pos rfl,hLk,List.getElem_append_right (by omega)]
    simp[hk]
   ·rw[if_neg e]
    have hi2:i<G0.length:=by simp at hi';omega
    have g:=(hLg i (by simpa using hi) (by omega)).1
    rw[g,List.getElem_append_left hi2]
    simp only[hG]
    rw[List.getElem_append_left hi2]
 have hM:∀i,Mut b (.slice (some ⟨S,0,Option.none⟩) G.length cap) rv pv i→i<x.heap.size:=fun i hi=>by have:=(h.mut i hi).2;have:=hw1.size;omega
 have hfin:=RC.zone hzu (st':=⟨(zbn st (.zone o p)).1.c,st.stage⟩) hG ho2 hk2 hb2 (hk3.mono fun i _ e=>by rw[e];rfl) hos hput rfl rfl rfl rfl ⟨_,rfl,hrow1.ext hu1,Fz.fresh (hblk1.ext hu1.size) hM⟩
 have hWs:W<u1.heap.size:=by have:=(Array.getElem?_eq_some_iff.1 hB).1;have:=hEu.size;omega
 have hBu:=(hk3.block W (by have:=hk2.size;omega) fun e=>hmW S (.inr (.inl rfl)) e.symm).trans ((hk2.block W hWs fun e=>hmW W (.inr (.inr (.inr e))) rfl).trans (Ext.at hEu hB))
 have c2u:=(zdZ hBu).2.2
 have hKu:Keep (fun i=>b≤i) w u3:=(((hEu.mono fun _ _ h=>h.elim).trans (hk2.mono fun i _ e=>by have:=(h.op.ge e).1;omega)).trans (hk3.mono fun i _ e=>by omega))
 refine go (an3 s0 s1 trivial) ?_
 refine rc (an7 s0 s1 c2u i3 i4 t2 (an2 Nat.zero_add Nat.mul_one)) (ziJ u3 (p:=p) (by omega)) ?_
 rintro _ u4 ⟨hu4,t,rfl,ht⟩
 obtain rfl:t=true:=ht.2 hp
 refine rd trivial (zbN u4 (.pointer (some ⟨b,0,Option.none⟩))) ?_
 rintro _ _ rfl
 refine rgo trivial ?_
 exact zar (by simp) rfl ⟨⟨_,rv,pv',_,_,hfin.ext hu4⟩,hKu.trans (hu4.mono fun _ _ h=>h.elim)⟩
end
def qH(l:List SrvL)(n:Nm)(j:Nat):Bool:=match l[j]? with
 |some s=>decide (zaA s.host=zaA n)
 |Option.none=>false
theorem ix_idx(l:List SrvL)(n:Nm):ixB (qH l n) l.length=idxS l n:=by
 unfold idxS
 cases hf:l.findIdx? (fun s=>decide (zaA s.host=zaA n)) with
 |some k=>
  obtain⟨hk,h1,h2⟩:=List.findIdx?_eq_some_iff_getElem.1 hf
  refine ze7 hk ?_ fun j hj=>?_
  ·unfold qH;rw[List.getElem?_eq_getElem hk];exact h1
  ·have:=h2 j hj
   unfold qH
   rw[List.getElem?_eq_getElem (by omega)]
   simpa using this
 |none=>
  rw[List.findIdx?_eq_none_iff]at hf
  refine ze6 fun j hj=>?_
  unfold qH
  rw[List.getElem?_eq_getElem hj]
  simpa using hf l[j] (List.getElem_mem hj)
theorem zf0{w:World}{cs:List Value}{s:SrvL}{b:Nat}{nv:Value}{n:Nm}(ho:SrvC w cs s)(hb:zag w (some ⟨b,0,Option.none⟩)=some nv)(hn:Row w nv (n.map vs))(hp:NmT s.host)(hq:NmT n):
  Fn Tryz.prog 229 #[.agg cs.toArray,.pointer (some ⟨b,0,Option.none⟩)] w (fun u w'=>u= .bool (decide (zaA s.host=zaA n))∧Ext w w'):=by
 obtain⟨mv,a1,a2,a3,a4,pv,rfl,_,hm,_⟩:=ho.ex
 refine enter Tryz.func229 Tryz.ntmps229 rfl rfl ?_
 refine go trivial ?_
 refine zap ?_
 intro w1 hE1 hs1 hA
 have q0:zag w1 (some ⟨w.heap.size,0,Option.none⟩)=some mv:=zaK (j:=0) hA rfl
 have p0:=zaa hE1 hb
 refine go trivial ?_
 refine rc (an3 q0 p0 Nat.add_zero) (zfZ w1 mv nv _ _ (hm.ext hE1) (hn.ext hE1) hp.lb2.1 hq.lb2.1 hp.lb2.2 hq.lb2.2) ?_
 rintro _ w2 ⟨rfl,hE2⟩
 refine rgo trivial ?_
 refine rt0 Tryz.ntmps229 ?_
 exact⟨rfl,hE1.trans hE2⟩
section
variable {B b W : Nat} {w : World} {st : StL}
theorem rootR_ok{w0:World}(h:RCx B w0 b st 0)(hE0:Ext w0 w){n:Nm}(hn:zeG n){u:Lab}(hB:w.heap[W]? =some (.cells #[vs u,vs (zaW n)] 9 (0,0)))(hl:st.c.servers.length≤1000000)(hrl:st.c.roots.length≤1000000)(hsz:∀s∈st.c.servers,NmT s.host):
  Fn Tryz.prog 184 #[.pointer (some ⟨b,0,Option.none⟩),.slice (some ⟨W,0,Option.none⟩) 2 2] w (fun _ w'=>RCx B w' b (zbn st (.root n)).1 (zbn st (.root n)).2∧Keep (fun i=>b≤i) w w'):=by
 obtain⟨sv,rv,pv,G,GP,h⟩:=h
 replace h:=h.ext hE0
 have hlt:=h.lt
 have hle:=h.le
 have c1:zag w (some ⟨W,1,Option.none⟩)=some (vs (zaW n)):=zad hB rfl
 have i1:(0:Int)≤1:=by decide
 have i2:(1:Int)<2:=by decide
 have t1:(1:Int).toNat=1:=rfl
 refine enter Tryz.func184 Tryz.ntmps184 rfl rfl ?_
 repeat refine c_r ?_
 refine rq ?_;intro gd K hgd hK
 try simp (disch:=first|omega|assumption|rfl) only[go_sem,c1,i1,i2,t1,Nat.mul_one,Nat.zero_add]
 refine Fn.mono (zet w (.pointer (some ⟨b,0,Option.none⟩)) hn) ?_
 rintro nv w1 ⟨hE1,hrow,hblk⟩
 obtain⟨na,nc,rfl,_⟩:=id hrow
 simp only[List.length_map]at hrow hblk ⊢
 try simp only[go_sem]
 refine st_al1 ?_
 intro y1 hy1 hys1 hA1
 refine zat (P:=Tryz.prog) rfl rfl rfl hA1 (by decide) (by simp) ?_
 intro w2 hs2 hB2 hk2
 try simp only[go_sem]
 refine hK _ _ ?_;clear hK hgd;clear K;try clear gd
 have hE2:Ext w1 w2:=Keep.to_ext hy1 rfl (fun i hi=>by omega) hk2
 obtain⟨b4,hb4⟩:∃b,w1.heap.size=b:=⟨_,rfl⟩
 rw[hb4]at hB2 ⊢
 have hE12:=hE1.trans hE2
 have h2:=h.ext hE12
 obtain⟨sa,kc,rfl,hcap,hg⟩:=(h2.conf).servers
 have k0:zag w2 (some ⟨b,0,Option.none⟩)=some (.slice sa st.c.servers.length kc):=zad h2.h rfl
 have v0:zag w2 (some ⟨b4,0,Option.none⟩)=some (.slice na n.length nc):=zad hB2 rfl
 refine go trivial ?_
 refine rc (an3 k0 Nat.zero_add trivial) (zgE (n:=st.c.servers.length) (c:=kc) (a:=sa) (N:=229) (cap:= .pointer (some ⟨b4,0,Option.none⟩)) (q:=qH st.c.servers n) (by kernel_rfl) (by omega) fun i hi=>?_) ?_
 ·obtain⟨cs,g,hcs⟩:=hg i hi
  refine⟨cs,g,fun v hv=>?_⟩
  unfold qH
  rw[List.getElem?_eq_getElem hi]
  exact zf0 (hcs.ext hv) (zaa hv v0) (hrow.ext (hE2.trans hv)) (hsz _ (List.getElem_mem hi)) hn.2
 rintro _ w3 ⟨rfl,hE3⟩
 rw[ix_idx]
 obtain⟨ix,hix⟩:∃ix,idxS st.c.servers n=ix:=⟨_,rfl⟩
 rw[hix]
 have h3:=h2.ext hE3
 have kb:zag w3 (some ⟨b,5,Option.none⟩)=some (vi 0):=zad h3.h rfl
 have d0:decide ((0:Int)=0)=true:=rfl
 refine rgo trivial ?_
 refine zaM (Q:=fun e' σ' ds' v'=>e'= .normal∧ds'=[]∧v'=w3∧(σ' 0= .pointer (some ⟨b,0,Option.none⟩)∧σ' 5=vi ix)∧σ' 26= .bool (decide (ix<0))) ?_ ?_
 ·by_cases hx:ix<0
  ·refine rgg [(2,20)] (an4 (decide_eq_true hx) kb Nat.zero_add d0) ?_
   exact⟨rfl,rfl,rfl,⟨vr0,vr0⟩,by rw[decide_eq_true hx];first| (simp only[go_sem];done)| (simp only[go_sem];rfl)⟩
  ·refine rgg [(2,20)] (decide_eq_false hx) ?_
   exact⟨rfl,rfl,rfl,⟨vr0,vr0⟩,by rw[decide_eq_false hx];first| (simp only[go_sem];done)| (simp only[go_sem];rfl)⟩
 rintro _ σ0 _ v3 ⟨rfl,rfl,hv3,⟨s0,s5⟩,s26⟩
 replace hv3:=hv3.symm
 subst hv3
 repeat refine c_r ?_
 refine zaM (Q:=fun e' σ' ds' v'=>e'= .normal∧ds'=[]∧(σ' 0= .pointer (some ⟨b,0,Option.none⟩)∧σ' 5=vi ix)∧Keep (fun i=>i=b) w3 v'∧v'.heap[b]? =some (.cells #[.slice sa st.c.servers.length kc,rv,vi st.c.rw,vi st.c.rf,vi st.stage,vi (if ix<0 then 4 else 0)] 183 (0,0))) ?_ ?_
 ·by_cases hx:ix<0
  ·rw[decide_eq_true hx]at s26
   refine go (an3 s0 s5 s26) ?_
   refine rq ?_;intro gd K hgd hK
   try simp (disch:=first|omega|assumption|rfl) only[go_sem,s0,Nat.zero_add]
   refine zat (P:=Tryz.prog) rfl rfl rfl h3.h (by simp) (by simp) ?_
   intro w4 hs4 hb4' hk4
   try simp only[go_sem]
   refine hK _ _ ?_;clear hK hgd;clear K;try clear gd
   exact⟨rfl,rfl,⟨(vq1 s0),(vq1 s5)⟩,hk4,by rw[if_pos hx];exact hb4'⟩
  ·rw[decide_eq_false hx]at s26
   refine go (an3 s0 s5 s26) ?_
   exact⟨rfl,rfl,⟨s0,s5⟩,Keep.refl _ _,by rw[if_neg hx];exact h3.h⟩
 clear s0 s5
 rintro _ σ1 _ w4 ⟨rfl,rfl,⟨s0,s5⟩,hk4,hb4'⟩
 have h4:RC B w4 b st (if ix<0 then 4 else 0) (.slice sa st.c.servers.length kc) rv pv G GP:=RC.turn h3 hk4 hb4' rfl rfl
 obtain⟨ra,rn,rcp,hrv⟩:∃a n c,rv= .slice a n c:=by
  obtain⟨a,c,e,_⟩:=h4.ow.row
  exact⟨a,_,c,e⟩
 have k1:zag w4 (some ⟨b,1,Option.none⟩)=some rv:=zad hb4' rfl
 have hle4:=h4.le
 refine go (an2 s0 s5) ?_
 refine rq ?_;intro gd K hgd hK
 try simp (disch:=first|omega|assumption|rfl) only[go_sem,s0,s5,k1,Nat.zero_add]
 refine zbE (z:=vi 0) rfl rfl rfl rfl rfl ?_
 intro y1 hy1 hys1 hyo
 have hy4:=h4.ext hy1
 try simp only[go_sem]
 refine zbi (e:=3) hy4.ow hyo.row rfl rfl rfl rfl rfl rfl (vr0) (vr0) (fun q hq=>by simp at hq;subst hq;rfl) (by simp;omega) (by decide) hy4.le ?_
 intro rv' y2 hown2 hX2 hK2 hb2
 have h1v:one rv'=true:=hown2.row.isOne
 have hby2:=(hK2.block b (by have:=hy4.le;omega) fun e=>by have:=(hy4.ow.ge e).1;omega).trans hy4.h
 try simp (disch:=first|omega|assumption|rfl) only[go_sem,Nat.zero_add]
 refine zat (P:=Tryz.prog) rfl rfl h1v hby2 (by simp) (by simp) ?_
 intro y3 hs3 hb3 hk3
 try simp (disch:=first|omega|assumption|rfl) only[go_sem,Nat.zero_add]
 refine zat (P:=Tryz.prog) rfl rfl rfl hb3 (by simp) (by simp) ?_
 intro y4 hs5 hb5 hk5
 try simp only[go_sem]
 refine hK _ _ ?_;clear hK hgd;clear K;try clear gd
 refine go trivial ?_
 have hst:(zbn st (.root n)).2=if ix<0 then 4 else 0:=by
  show(if idxS st.c.servers n<0 then(4:Int) else 0)=_
  rw[hix]
 refine zar (by simp) rfl ⟨⟨.slice sa st.c.servers.length kc,rv',pv,G,GP,?_⟩,?_⟩
 ·rw[hst]
  refine RC.root hy4 (st':=(zbn st (.root n)).1) ?_ hK2 hb2 (hk3.trans hk5) hb5 rfl
  have e:(zbn st (.root n)).1.c.roots.map vi=st.c.roots.map vi++ [vi ix]:=by
   show(st.c.roots++ [idxS st.c.servers n]).map vi=_
   rw[hix,List.map_append]
   rfl
  rw[e]
  exact hown2
 ·exact((((((hE12.trans hE3).mono fun _ _ h=>h.elim).trans (hk4.mono fun i _ e=>by omega)).trans (hy1.mono fun _ _ h=>h.elim)).trans (hK2.mono fun i _ e=>by have:=(hy4.ow.ge e).1;omega)).trans (hk3.mono fun i _ e=>by omega)).trans (hk5.mono fun i _ e=>by omega)
end
structure Szn(n:Nat)(c:za4):Prop where
 sl:c.servers.length≤n
 rl:c.roots.length≤n
 sv:∀s∈c.servers,NmT s.host∧s.places.length≤n∧∀p∈s.places,NmT p.o∧p.path.length≤50
theorem Szn.step{n:Nat}{s:StL}{r:RowL}(h:Szn n s.c)(hr:zcJ r):Szn (n+1) (zbn s r).1.c:=by
 have up:∀s'∈s.c.servers,NmT s'.host∧s'.places.length≤n+1∧∀p∈s'.places,NmT p.o∧p.path.length≤50:=fun s' hs=>by
  obtain⟨h1,h2,h3⟩:=h.sv s' hs
  exact⟨h1,by omega,h3⟩
 have h1:=h.sl
 have h2:=h.rl
 cases r with
 |bound a b=>exact⟨by show s.c.servers.length≤_;omega,by show s.c.roots.length≤_;omega,up⟩
 |server m a=>
  refine⟨by show(s.c.servers++ [_]).length≤_;simp;omega,by show s.c.roots.length≤_;omega,fun x hx=>?_⟩
  rcases List.mem_append.1 (show x∈s.c.servers++ [⟨m,a,[]⟩] from hx) with hx|hx
  ·exact up x hx
  ·rw[List.mem_singleton.1 hx]
   exact⟨hr.1.2,by simp,fun p hp=>by cases hp⟩
 |root m=>exact⟨by show s.c.servers.length≤_;omega,by show(s.c.roots++ [_]).length≤_;simp;omega,up⟩
 |zone o p=>
  have key:(putZ s.c.servers ⟨o,p⟩).length≤n+1∧∀x∈putZ s.c.servers ⟨o,p⟩,NmT x.host∧x.places.length≤n+1∧∀p∈x.places,NmT p.o∧p.path.length≤50:=by
   unfold putZ
   split
   ·rename_i z hz
    have hzm:=List.mem_of_getLast? hz
    refine⟨by simp;omega,fun x hx=>?_⟩
    rcases List.mem_append.1 hx with hx|hx
    ·exact up x ((List.dropLast_subset _ hx))
    ·rw[List.mem_singleton.1 hx]
     obtain⟨g1,g2,g3⟩:=h.sv z hzm
     refine⟨g1,by simp;omega,fun q hq=>?_⟩
     rcases List.mem_append.1 (show q∈z.places++ [⟨o,p⟩] from hq) with hq|hq
     ·exact g3 q hq
     ·rw[List.mem_singleton.1 hq];exact⟨hr.1.2,hr.2.2⟩
   ·exact⟨by simp,fun x hx=>by cases hx⟩
  exact⟨key.1,by show s.c.roots.length≤_;omega,key.2⟩
theorem zc8:∀(rs:List RowL) (s:StL) (n:Nat),Szn n s.c→(∀r∈rs,zcJ r)→Szn (n+rs.length) (za2 s rs).c
 | [],s,n,h,_=>h
 |r::rs,s,n,h,hr=>by
  have:=zc8 rs (zbn s r).1 (n+1) (h.step (hr r (List.mem_cons_self ..))) fun x hx=>hr x (List.mem_cons_of_mem _ hx)
  rw[List.length_cons,show n+(rs.length+1)=n+1+rs.length by omega]
  exact this
theorem zeg:Szn 0 init0.c:=⟨Nat.le_refl _,Nat.le_refl _,fun s hs=>by cases hs⟩
theorem Szn.z{n:Nat}{c:za4}(h:Szn n c)(hn:n≤1000000):SzC c:=⟨by have:=h.sl;omega,by have:=h.rl;omega,fun s hs=>by
 obtain⟨h1,h2,h3⟩:=h.sv s hs
 exact⟨h1,by omega,fun p hp=>⟨(h3 p hp).1,by have:=(h3 p hp).2;omega⟩⟩⟩
section
variable {B b : Nat} {w : World} {st : StL}
theorem line_ok(hX:WX w)(h:RCx B w b st 0){r:RowL}(hr:zcJ r)(hf:zfd st r){n:Nat}(hz:Szn n st.c)(hn:n≤1000000):
  Fn Tryz.prog 112 #[.pointer (some ⟨b,0,Option.none⟩),vs (zbv r)] w (fun _ w'=>RCx B w' b (zbn st r).1 (zbn st r).2∧Keep (fun i=>b≤i) w w'):=by
 have hll:=(zdh hr).1
 have hzz:=hz.z hn
 have z0:(0:Int)≤0:=by decide
 have z3:(0:Int)<3:=by decide
 have z2:(0:Int)<2:=by decide
 have d0:decide ((0:Int)=0)=true:=rfl
 refine enter Tryz.func112 Tryz.ntmps112 rfl rfl ?_
 refine go trivial ?_
 cases r with
 |bound a b'=>
  refine rc trivial (zcI (n:=3) hX (by omega) (zdg hr) rfl) ?_
  rintro _ w1 ⟨rfl,hB1,hE1⟩
  obtain⟨W,hW⟩:∃W,w.heap.size=W:=⟨_,rfl⟩
  rw[hW]at hB1 ⊢
  obtain⟨c0,c1,c2⟩:=zdZ hB1
  obtain⟨sv,rv,pv,G,GP,h⟩:=h
  have h1:=h.ext hE1
  have k4:zag w1 (some ⟨b,4,Option.none⟩)=some (vi st.stage):=zad h1.h rfl
  have k5:zag w1 (some ⟨b,5,Option.none⟩)=some (vi 0):=zad h1.h rfl
  have e0:decide (([98,111,117,110,100]:Lab)=[114,111,111,116])=false:=rfl
  have e1:decide (([98,111,117,110,100]:Lab)=[98,111,117,110,100])=true:=rfl
  have d3:decide (((3:Nat):Int)=3)=true:=rfl
  have ds:decide (st.stage=0)=true:=decide_eq_true hf
  refine rgo (an8 c0 z0 z3 Int.toNat_zero Nat.zero_mul Nat.add_zero e0 zal) ?_
  refine rc d3 (zbN w1 (.pointer (some ⟨b,0,Option.none⟩))) ?_
  rintro _ _ rfl
  refine rgo (an3 k5 d0 Nat.zero_add) ?_
  refine rgg [(4,31)] (an9 c0 z0 z3 Int.toNat_zero Nat.zero_mul Nat.add_zero e1 zal (an3 k4 ds Nat.zero_add)) ?_
  refine go trivial ?_
  have i1:(0:Int)≤1:=by decide
  have i2:(1:Int)<3:=by decide
  have i3:(2:Int)<3:=by decide
  have i4:(0:Int)≤2:=by decide
  have t1:(1:Int).toNat=1:=rfl
  have t2:(2:Int).toNat=2:=rfl
  refine zaU (fun i=>i==16||i==20||i==23) [(0,true),(1,true),(2,true),(3,true),(4,true),(5,true),(6,true),(8,true),(9,true),(10,true),(11,true),(7,false),(12,false),(13,true),(14,true),(15,true),(16,false),(17,true),(18,true),(19,true),(20,false),(21,true),(22,true),(23,false)] NoS mixed (by kernel_rfl) ?_;intro gd K x hgd hx hxe hK;have hx0:=za0 hxe;clear hxe
  have c1x:=zaa hx0 c1
  have c2x:=zaa hx0 c2
  simp (disch:=first|omega|assumption|rfl) only[go_sem,c1x,c2x,i1,i2,i3,i4,t1,t2,Nat.mul_one,Nat.zero_add]
  refine Fn.mono (zhW ((hX.ext hE1).ext hx0) (.pointer (some ⟨b,0,Option.none⟩)) hr.1) ?_
  rintro _ y1 ⟨rfl,hy1⟩
  refine⟨.inr hy1.keep,?_⟩
  have c2y:=zaa hy1 c2x
  simp (disch:=first|omega|assumption|rfl) only[go_sem,c2y,i1,i2,i3,i4,t1,t2,Nat.mul_one,Nat.zero_add]
  refine Fn.mono (zhW (((hX.ext hE1).ext hx0).ext hy1) (.pointer (some ⟨b,0,Option.none⟩)) hr.2) ?_
  rintro _ y2 ⟨rfl,hy2⟩
  refine⟨.inr hy2.keep,?_⟩
  have hy:=h1.ext ((hx0.trans hy1).trans hy2)
  simp (disch:=first|omega|assumption|rfl) only[go_sem,Nat.zero_add,Nat.add_zero]
  refine zat (P:=Tryz.prog) rfl rfl rfl hy.h (by simp) (by simp) ?_
  intro y3 hs3 hb3 hk3
  refine⟨.inl rfl,?_⟩
  simp (disch:=first|omega|assumption|rfl) only[go_sem,Nat.zero_add,Nat.add_zero]
  refine zat (P:=Tryz.prog) rfl rfl rfl hb3 (by simp) (by simp) ?_
  intro y4 hs4 hb4 hk4
  refine⟨.inl rfl,?_⟩
  simp (disch:=first|omega|assumption|rfl) only[go_sem,Nat.zero_add,Nat.add_zero]
  refine zat (P:=Tryz.prog) rfl rfl rfl hb4 (by simp) (by simp) ?_
  intro y5 hs5 hb5 hk5
  refine⟨.inl rfl,?_⟩
  simp (disch:=first|omega|assumption|rfl) only[go_sem]
  refine hK _ _ ?_;clear hK hgd;clear K;try clear gd
  refine go trivial ?_
  have hlt:=h1.lt
  refine zar (by simp) rfl ⟨⟨sv,rv,pv,G,GP,RC.turn hy (st':=(zbn st (.bound a b')).1) ((hk3.trans hk4).trans hk5) hb5 rfl rfl⟩,?_⟩
  exact((((((hE1.trans hx0).trans hy1).trans hy2).mono fun _ _ h=>h.elim).trans (hk3.mono fun i _ e=>by omega)).trans (hk4.mono fun i _ e=>by omega)).trans (hk5.mono fun i _ e=>by omega)
 |server m a=>
  refine rc trivial (zcI (n:=3) hX (by omega) (zdg hr) rfl) ?_
  rintro _ w1 ⟨rfl,hB1,hE1⟩
  obtain⟨W,hW⟩:∃W,w.heap.size=W:=⟨_,rfl⟩
  rw[hW]at hB1 ⊢
  obtain⟨c0,c1,c2⟩:=zdZ hB1
  have hh:=h
  obtain⟨sv,rv,pv,G,GP,h⟩:=h
  have h1:=h.ext hE1
  have k4:zag w1 (some ⟨b,4,Option.none⟩)=some (vi st.stage):=zad h1.h rfl
  have k5:zag w1 (some ⟨b,5,Option.none⟩)=some (vi 0):=zad h1.h rfl
  have e0:decide (([115,101,114,118,101,114]:Lab)=[114,111,111,116])=false:=rfl
  have e1:decide (([115,101,114,118,101,114]:Lab)=[98,111,117,110,100])=false:=rfl
  have e2:decide (([115,101,114,118,101,114]:Lab)=[115,101,114,118,101,114])=true:=rfl
  have d3:decide (((3:Nat):Int)=3)=true:=rfl
  refine rgo (an8 c0 z0 z3 Int.toNat_zero Nat.zero_mul Nat.add_zero e0 zal) ?_
  refine rc d3 (zbN w1 (.pointer (some ⟨b,0,Option.none⟩))) ?_
  rintro _ _ rfl
  refine rgo (an3 k5 d0 Nat.zero_add) ?_
  refine rgg [(4,31)] (an8 c0 z0 z3 Int.toNat_zero Nat.zero_mul Nat.add_zero e1 zal) ?_
  refine go trivial ?_
  have hcond:∀{Q:Prop},(decide (st.stage=1)=true→Q)→(decide (st.stage=1)=false→decide (st.stage=2)=true→Q)→Q:=fun q1 q2=>by
   by_cases hs:st.stage=1
   ·exact q1 (decide_eq_true hs)
   ·exact q2 (decide_eq_false hs) (decide_eq_true (hf.resolve_left hs))
  refine hcond (fun ds=>?_) fun ds ds2=>?_
  ·refine rgg [(4,64),(10,70)] (an9 c0 z0 z3 Int.toNat_zero Nat.zero_mul Nat.add_zero e2 zal (an3 k4 ds Nat.zero_add)) ?_
   refine go trivial ?_
   refine rc trivial (zd0 (hX.ext hE1) ⟨_,_,_,_,_,h1⟩ hr.1 hr.2 hB1 hzz.sl) ?_
   rintro _ w2 ⟨hfin,hk⟩
   refine rgo trivial ?_
   exact zar (by simp) rfl ⟨hfin,(hE1.mono fun _ _ h=>h.elim).trans hk⟩
  ·refine rgg [(4,64),(10,70)] (an9 c0 z0 z3 Int.toNat_zero Nat.zero_mul Nat.add_zero e2 zal (an4 k4 ds ds2 Nat.zero_add)) ?_
   refine go trivial ?_
   refine rc trivial (zd0 (hX.ext hE1) ⟨_,_,_,_,_,h1⟩ hr.1 hr.2 hB1 hzz.sl) ?_
   rintro _ w2 ⟨hfin,hk⟩
   refine rgo trivial ?_
   exact zar (by simp) rfl ⟨hfin,(hE1.mono fun _ _ h=>h.elim).trans hk⟩
 |zone o p=>
  refine rc trivial (zcI (n:=3) hX (by omega) (zdg hr) rfl) ?_
  rintro _ w1 ⟨rfl,hB1,hE1⟩
  obtain⟨W,hW⟩:∃W,w.heap.size=W:=⟨_,rfl⟩
  rw[hW]at hB1 ⊢
  obtain⟨c0,c1,c2⟩:=zdZ hB1
  have hh:=h
  obtain⟨sv,rv,pv,G,GP,h⟩:=h
  have h1:=h.ext hE1
  have k4:zag w1 (some ⟨b,4,Option.none⟩)=some (vi st.stage):=zad h1.h rfl
  have k5:zag w1 (some ⟨b,5,Option.none⟩)=some (vi 0):=zad h1.h rfl
  have e0:decide (([122,111,110,101]:Lab)=[114,111,111,116])=false:=rfl
  have e1:decide (([122,111,110,101]:Lab)=[98,111,117,110,100])=false:=rfl
  have e2:decide (([122,111,110,101]:Lab)=[115,101,114,118,101,114])=false:=rfl
  have e3:decide (([122,111,110,101]:Lab)=[122,111,110,101])=true:=rfl
  have d3:decide (((3:Nat):Int)=3)=true:=rfl
  have ds:decide (st.stage=2)=true:=decide_eq_true hf.1
  refine rgo (an8 c0 z0 z3 Int.toNat_zero Nat.zero_mul Nat.add_zero e0 zal) ?_
  refine rc d3 (zbN w1 (.pointer (some ⟨b,0,Option.none⟩))) ?_
  rintro _ _ rfl
  refine rgo (an3 k5 d0 Nat.zero_add) ?_
  refine rgg [(4,31)] (an8 c0 z0 z3 Int.toNat_zero Nat.zero_mul Nat.add_zero e1 zal) ?_
  refine go trivial ?_
  refine rgg [(4,64),(10,70)] (an8 c0 z0 z3 Int.toNat_zero Nat.zero_mul Nat.add_zero e2 zal) ?_
  refine go trivial ?_
  refine rgg [(4,86)] (an9 c0 z0 z3 Int.toNat_zero Nat.zero_mul Nat.add_zero e3 zal (an3 k4 ds Nat.zero_add)) ?_
  refine go trivial ?_
  refine rc trivial (zoneR_ok hh hE1 (by omega) hr.1 hr.2.1 hr.2.2 hB1 hzz.sl hf.2 fun s hs=>(hzz.sv s hs).len) ?_
  rintro _ w2 ⟨hfin,hk⟩
  refine rgo trivial ?_
  rw[hf.1]at hfin
  exact zar (by simp) rfl ⟨hfin,(hE1.mono fun _ _ h=>h.elim).trans hk⟩
 |root m=>
  refine rc trivial (zcI (n:=2) hX (by omega) (zdg hr) rfl) ?_
  rintro _ w1 ⟨rfl,hB1,hE1⟩
  obtain⟨W,hW⟩:∃W,w.heap.size=W:=⟨_,rfl⟩
  rw[hW]at hB1 ⊢
  have c0:zag w1 (some ⟨W,0,Option.none⟩)=some (vs [114,111,111,116]):=zad hB1 rfl
  have hh:=h
  obtain⟨sv,rv,pv,G,GP,h⟩:=h
  have h1:=h.ext hE1
  have k4:zag w1 (some ⟨b,4,Option.none⟩)=some (vi st.stage):=zad h1.h rfl
  have k5:zag w1 (some ⟨b,5,Option.none⟩)=some (vi 0):=zad h1.h rfl
  have e0:decide (([114,111,111,116]:Lab)=[114,111,111,116])=true:=rfl
  have e1:decide (([114,111,111,116]:Lab)=[98,111,117,110,100])=false:=rfl
  have e2:decide (([114,111,111,116]:Lab)=[115,101,114,118,101,114])=false:=rfl
  have e3:decide (([114,111,111,116]:Lab)=[122,111,110,101])=false:=rfl
  have d3:decide (((2:Nat):Int)=2)=true:=rfl
  have ds:decide ((2:Int)≤st.stage)=true:=decide_eq_true (by rcases hf with h|h<;>omega)
  refine rgo (an8 c0 z0 z2 Int.toNat_zero Nat.zero_mul Nat.add_zero e0 zal) ?_
  refine rc d3 (zbN w1 (.pointer (some ⟨b,0,Option.none⟩))) ?_
  rintro _ _ rfl
  refine rgo (an3 k5 d0 Nat.zero_add) ?_
  refine rgg [(4,31)] (an8 c0 z0 z2 Int.toNat_zero Nat.zero_mul Nat.add_zero e1 zal) ?_
  refine go trivial ?_
  refine rgg [(4,64),(10,70)] (an8 c0 z0 z2 Int.toNat_zero Nat.zero_mul Nat.add_zero e2 zal) ?_
  refine go trivial ?_
  refine rgg [(4,86)] (an8 c0 z0 z2 Int.toNat_zero Nat.zero_mul Nat.add_zero e3 zal) ?_
  refine go trivial ?_
  refine rgg [(4,101)] (an9 c0 z0 z2 Int.toNat_zero Nat.zero_mul Nat.add_zero e0 zal (an3 k4 ds Nat.zero_add)) ?_
  refine go trivial ?_
  refine rc trivial (rootR_ok hh hE1 hr hB1 hzz.sl hzz.rl fun s hs=>(hzz.sv s hs).host) ?_
  rintro _ w2 ⟨hfin,hk⟩
  refine rgo trivial ?_
  exact zar (by simp) rfl ⟨hfin,(hE1.mono fun _ _ h=>h.elim).trans hk⟩
end
end Go.Proofs.YtanmnkbccfcagaaGreatDoor
