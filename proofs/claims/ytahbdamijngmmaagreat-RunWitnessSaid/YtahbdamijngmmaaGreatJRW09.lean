/-
  Texts of a proof, joined: G3, G4, G5, Y3, M6ed, M6eg, F0, F1, G6, G7, V0, K27, K25, V1, K28, V2, V3, V4, M5ci, V5, M5st, V6, R4.
  Conditions: none.
-/
import Derived.Test.YtahbdamijngmmaaGreatJRW08
import Derived.Test.YtahbdamijngmmaaGreatJRW01
import Derived.Test.YtahbdamijngmmaaGreatJRW03
import Derived.Test.YtahbdamijngmmaaGreatJRW02
import Derived.Test.YtahbdamijngmmaaGreatJRW07
import Derived.Test.YtahbdamijngmmaaGreatJRW05
set_option linter.unusedVariables false
set_option linter.unusedSimpArgs false
set_option linter.defProp false
set_option linter.unnecessarySimpa false
set_option maxHeartbeats 8000000
namespace Go.Proofs.YtahbdamijngmmaaGreat
open Go
set_option maxRecDepth 10000
theorem DatAt.open{w:World}{cs:List Value}{d:DatL}(h:DatAt w cs d):∃a1 n1 c1 a2 n2 c2 a3 n3 c3 a4 n4 c4,cs=[vi d.ty,.slice a1 n1 c1,.slice a2 n2 c2,.slice a3 n3 c3,.slice a4 n4 c4]:=by
 obtain⟨nm,nu,tx,rw',rfl,⟨vals,⟨an,cn,rfl,_⟩,_⟩,⟨au,cu,rfl,_⟩,⟨at1,ct,rfl,_⟩,⟨ar,cr,rfl,_⟩⟩:=h.ex
 exact⟨_,_,_,_,_,_,_,_,_,_,_,_,rfl⟩
theorem DatX.open{w0 A:World}{B:Nat}{nm:Value}{cs:List Value}{d:DatL}(h:DatX w0 B A nm cs d):∃a1 n1 c1 a2 n2 c2 a3 n3 c3 a4 n4 c4,cs=[vi d.ty,.slice a1 n1 c1,.slice a2 n2 c2,.slice a3 n3 c3,.slice a4 n4 c4]:=by
 obtain⟨nu,tx,rw,vals,e,⟨a1,c1,rfl,_⟩,h2,h3,⟨a4,c4,rfl,_⟩,⟨a5,c5,rfl,_⟩,⟨a6,c6,rfl,_⟩⟩:=h.ex
 exact⟨_,_,_,_,_,_,_,_,_,_,_,_,e⟩
structure RecX(w0:World)(B:Nat)(A:World)(nm:Value)(cs:List Value)(r:RecL):Prop where
 ex:∃ow ds,cs=ow::v32 r.ttl::ds∧Row w0 ow (r.owner.map vs)∧DatX w0 B A nm ds r.dat
theorem RecX.at{w0 A:World}{B:Nat}{nm:Value}{cs:List Value}{r:RecL}(h:RecX w0 B A nm cs r)(hE:Ext w0 A):RecAt A cs r:=by
 obtain⟨ow,ds,e,h1,h2⟩:=h.ex
 exact⟨ow,ds,e,h1.ext hE,h2.at hE⟩
theorem RecX.keep{w0 A x:World}{B:Nat}{nm:Value}{cs:List Value}{r:RecL}(h:RecX w0 B A nm cs r){S:Nat→Prop}(hk:Keep S A x)(hS:∀a n c,nm= .slice (some a) n c→¬S a.block):RecX w0 B x nm cs r:=by
 obtain⟨ow,ds,e,h1,h2⟩:=h.ex
 exact⟨ow,ds,e,h1,h2.keep hk hS⟩
theorem RecX.mono{w0 A:World}{B B':Nat}{nm:Value}{cs:List Value}{r:RecL}(h:RecX w0 B A nm cs r)(hB:B'≤B):RecX w0 B' A nm cs r:=by
 obtain⟨ow,ds,e,h1,h2⟩:=h.ex
 exact⟨ow,ds,e,h1,h2.mono hB⟩
theorem RecX.blk{w0 A:World}{B:Nat}{nm:Value}{cs:List Value}{r:RecL}(h:RecX w0 B A nm cs r):BlkB B A nm:=by
 obtain⟨ow,ds,e,h1,h2⟩:=h.ex
 exact h2.blk
theorem RecX.cells{w0 A:World}{B:Nat}{nm:Value}{cs:List Value}{r:RecL}(h:RecX w0 B A nm cs r):cs.length=7∧∀q∈cs,one q=true:=by
 obtain⟨ow,ds,e,⟨a,c,rfl,_⟩,h2⟩:=h.ex
 obtain⟨b1,m1,e1,b2,m2,e2,b3,m3,e3,b4,m4,e4,hds⟩:=h2.open
 rw[e,hds]
 refine⟨rfl,fun q hq=>?_⟩
 simp at hq
 rcases hq with rfl|rfl|rfl|rfl|rfl|rfl|rfl<;>rfl
theorem zl8{w0 w:World}(hE0:Ext w0 w){cs:List Value}{r:RecL}(hr:RecAt w0 cs r)(hnn:r.dat.names.length≤1000000000):
  Fn Tryz.prog 116 #[.agg cs.toArray] w (fun v w'=>Ext w w'∧∃cs' nm,v= .agg cs'.toArray∧RecX w0 w.heap.size w' nm cs' r):=by
 obtain⟨ow,ds,rfl,h1,h2⟩:=hr.ex
 obtain⟨oa,oc,how,_⟩:=id h1
 obtain⟨on,hon⟩:∃on,(r.owner.map vs).length=on:=⟨_,rfl⟩
 rw[hon]at how
 obtain⟨b1,m1,e1,b2,m2,e2,b3,m3,e3,b4,m4,e4,hds⟩:=h2.open
 rw[hds,how]
 refine enter Tryz.func116 Tryz.ntmps116 rfl rfl ?_
 repeat refine c_r ?_
 refine rg0 ?_
 repeat refine c_r ?_
 rw[zai]
 refine zaO ?_
 intro w1 hE1 hs1 hA hC
 have p0:zae w1 (some ⟨w.heap.size,0,Option.none⟩)=some (.slice oa on oc):=zab hA rfl
 have p1:zae w1 (some ⟨w.heap.size,1,Option.none⟩)=some (v32 r.ttl):=zab hA rfl
 have p2:zas w1 (some ⟨w.heap.size,2,Option.none⟩) 5=some [vi r.dat.ty,.slice b1 m1 e1,.slice b2 m2 e2,.slice b3 m3 e3,.slice b4 m4 e4]:=by
  have h7:=zah (n:=7) (l:=[.slice oa on oc,v32 r.ttl,vi r.dat.ty,.slice b1 m1 e1,.slice b2 m2 e2,.slice b3 m3 e3,.slice b4 m4 e4]) hA rfl
  have:=za8 (m:=2) (k:=5) h7
  rwa [zaU]at this
 refine zaJ (fun i=>i==8) [(0,true),(1,true),(2,true),(3,true),(4,true),(5,true),(6,false),(7,true),(8,false)] NoS mixed (by kernel_rfl) ?_;intro gd K x hgd hx hxe hK;clear hxe
 have p0x:=zaa hx p0
 have p1x:=zaa hx p1
 have p2x:=zad hx p2
 have hxs:=hx.size
 simp (disch:=first|omega|assumption|rfl) only[go_sem,p0x,p1x,p2x,Nat.add_zero,Nat.zero_add]
 rw[←hds]
 refine Fn.mono (DOf_ok (hE0.trans (hE1.trans hx)) h2 hnn) ?_
 rintro _ w2 ⟨hE2,cs',nm',rfl,hd'⟩
 refine⟨.inr hE2,?_⟩
 obtain⟨b1',m1',e1',b2',m2',e2',b3',m3',e3',b4',m4',e4',hds'⟩:=hd'.open
 rw[hds']
 simp (disch:=first|omega|assumption|rfl) only[go_sem,p0x,p1x,p2x,Nat.add_zero,Nat.zero_add]
 refine⟨by kernel_rfl,?_⟩
 rw[show bdV Tryz.prog 210 [(0,.slice oa on oc),(1,v32 r.ttl),(2,.agg [vi r.dat.ty,.slice b1' m1' e1',.slice b2' m2' e2',.slice b3' m3' e3',.slice b4' m4' e4'].toArray)]=some (.agg #[.slice oa on oc,v32 r.ttl,vi r.dat.ty,.slice b1' m1' e1',.slice b2' m2' e2',.slice b3' m3' e3',.slice b4' m4' e4']) from by kernel_rfl]
 simp (disch:=first|omega|assumption|rfl) only[go_sem]
 refine zaM (P:=Tryz.prog) (t:=210) (l:=[.slice oa on oc,v32 r.ttl,vi r.dat.ty,.slice b1' m1' e1',.slice b2' m2' e2',.slice b3' m3' e3',.slice b4' m4' e4']) (Ext.at (hx.trans hE2) hC) rfl (fun v h=>by simp at h;rcases h with rfl|rfl|rfl|rfl|rfl|rfl|rfl<;>rfl) rfl rfl ?_
 intro z hz' hbz hkz
 refine⟨.inl rfl,?_⟩
 simp (disch:=first|omega|assumption|rfl) only[go_sem]
 refine hK _ _ ?_;clear hK hgd;clear K;try clear gd
 repeat refine c_r ?_
 refine zaE (.inr rfl) Tryz.ntmps116 rfl (zaZ (x:=⟨w.heap.size+1,0,Option.none⟩) (k:=7) (vq0) rfl rfl (zah hbz rfl) zaz) ?_
 have hEz:Ext w z:=Keep.to_ext (hE1.trans (hx.trans hE2)) rfl (fun b hb=>by omega) hkz
 refine⟨hEz,_,nm',rfl,⟨ow,cs',?_,h1,?_⟩⟩
 ·rw[how,hds']
 ·exact(hd'.keep hkz (fun a n c hv=>by have:=hd'.blk a n c hv;omega)).mono (by omega)
abbrev OX:=RecL×(Value×List Value)
def oxC(cs:List Value)(x:OX):Prop:=cs=x.2.2∧cs.length=7∧∀q∈cs,one q=true
theorem zi8:zeQ 7 oxC:=⟨fun h=>h.2.1,fun h=>h.2.2⟩
structure OI(w0:World)(B:Nat)(A:World)(ov:Value)(G:List OX):Prop where
 own:Owns 7 oxC B A 210 ov G
 row:∀x∈G,RecX w0 B A x.2.1 x.2.2 x.1∧∀a n c,x.2.1= .slice (some a) n c→some a.block≠ov.ownBlock
theorem OI.ext{w0 A A':World}{B:Nat}{ov:Value}{G:List OX}(h:OI w0 B A ov G)(hE:Ext A A'):OI w0 B A' ov G:=
 ⟨h.own.ext hE,fun x hx=>by
  obtain⟨h1,h2⟩:=h.row x hx
  exact⟨h1.keep hE (fun a n c hv h=>h),h2⟩⟩
theorem OI.app{w0 A A':World}{B:Nat}{ov v':Value}{G:List OX}{s:OX}(h:OI w0 B A ov G)(hs:RecX w0 B A s.2.1 s.2.2 s.1∧∀a n c,s.2.1= .slice (some a) n c→some a.block≠ov.ownBlock)
  (ho:Owns 7 oxC B A' 210 v' (G++ [s])) (hk:Keep (fun b=>some b=ov.ownBlock) A A') (hb:∀b,some b=v'.ownBlock→some b=ov.ownBlock∨A.heap.size≤b):OI w0 B A' v' (G++ [s]):=by
 refine⟨ho,fun y hy=>?_⟩
 have hy2:RecX w0 B A y.2.1 y.2.2 y.1∧∀a n c,y.2.1= .slice (some a) n c→some a.block≠ov.ownBlock:=by
  rcases List.mem_append.1 hy with hy|hy
  ·exact h.row y hy
  ·rw[List.mem_singleton.1 hy];exact hs
 obtain⟨h1,h2⟩:=hy2
 refine⟨h1.keep hk h2,fun a n c hv e=>?_⟩
 rcases hb _ e with e|e
 ·exact h2 a n c hv e
 ·have:=(h1.blk a n c hv).2;omega
theorem zmb{w0 w:World}(hE0:Ext w0 w){lv:Value}{R:List RecL}(hl:Rows 7 (RecAt w0) w lv R)(hnn:∀r∈R,r.dat.names.length≤1000000000)(hlen:R.length≤1000000000):
  Fn Tryz.prog 64 #[lv] w (fun v w'=>Ext w w'∧∃G:List OX,OI w0 w.heap.size w' v G∧G.map Prod.fst=R):=by
 obtain⟨aR,cR,rfl,hcR,hgR⟩:=hl.open
 refine enter Tryz.func64 Tryz.ntmps64 rfl rfl ?_
 repeat refine c_r ?_
 refine rg0 ?_
 repeat refine c_r ?_
 refine rg0 ?_
 repeat refine c_r ?_
 refine rg0 ?_
 repeat refine c_r ?_
 refine zam (fun m σ ds A=>ds=[]∧∃(i:Nat) (ov:Value) (G:List OX),i+m=R.length∧σ 4=vi i∧σ 3=ov∧σ 0= .slice aR R.length cR∧Ext w A∧OI w0 w.heap.size A ov G∧G.map Prod.fst=R.take i) R.length ?_ ?_
 ·exact⟨rfl,0,.slice Option.none 0 0,[],by omega,vr0,vq0,vq0,Keep.refl _ _,⟨Owns.nil _ _ _ _ _,fun x h=>absurd h (by simp)⟩,rfl⟩
 rintro m σ ds A ⟨rfl,i,ov,G,him,h4,h3,h0,hEA,hOI,hG⟩
 repeat refine c_r ?_
 refine rg2 h4 h0 ?_
 repeat refine c_r ?_
 refine wc0 ?_ ?_
 ·intro hlt
  simp only[decide_eq_true_eq]at hlt
  have hi:i<R.length:=by omega
  have hi0:(0:Int)≤(i:Int):=by omega
  have hi1:(i:Int)<(R.length:Int):=by omega
  have hi1':(i:Int)+1=((i+1:Nat):Int):=by push_cast;rfl
  have hGl:G.length=i:=by
   have:=congrArg List.length hG
   simp at this;omega
  obtain⟨cr,hcr,hRr⟩:=hgR i hi
  obtain⟨r,hr⟩:∃r,R[i]=r:=⟨_,rfl⟩
  rw[hr]at hRr
  have hrn:=hnn r (hr▸List.getElem_mem hi)
  obtain⟨xR,rfl⟩:=Option.isSome_iff_exists.1 (zaq hcr)
  obtain⟨xi,hxi⟩:∃xi,adr (some xR) (i*7)=some xi:=⟨_,rfl⟩
  rw[hxi]at hcr
  have hcA:=zad hEA hcr
  repeat refine c_r ?_
  refine rq ?_;intro gd K hgd hK
  try simp (disch:=first|omega|assumption|rfl) only[go_sem,h3,h0,h4,hi0,hi1,hxi,hcA]
  refine Fn.mono (zl8 (hE0.trans hEA) hRr hrn) ?_
  rintro _ A2 ⟨hA2,cs',nm',rfl,hx⟩
  have hA2s:=hA2.size
  have hEAs:=hEA.size
  try simp only[go_sem]
  refine zbg (l:=cs') (a:=((r,(nm',cs')):OX)) zi8 rfl rfl rfl rfl ⟨rfl,hx.cells.1,hx.cells.2⟩ (by decide) ?_
  intro A3 hA3 hs3 ho3
  try simp (disch:=first|omega|assumption|rfl) only[go_sem,h3]
  refine zaV zi8 ((hOI.ext hA2).ext hA3).own ho3.rows rfl rfl rfl rfl rfl rfl (by decide) (vr0) (vr0) (by simp;omega) (by decide) (by omega) ?_
  intro v7 A4 ho7 hE7 hk7 hb7
  try simp only[go_sem]
  refine hK _ _ ?_;clear hK hgd;clear K;try clear gd
  have hnew:=((hOI.ext hA2).ext hA3).app (s:=((r,(nm',cs')):OX)) ⟨(hx.keep hA3 (fun a n c hv h=>h)).mono hEAs,fun a n c hv e=>by
   have h8:=(hx.blk a n c hv).1
   have h9:=(hOI.own.ge e).2
   omega⟩ ho7 hk7 hb7
  repeat refine c_r ?_
  refine rg2 h4 hi1' ?_
  repeat refine c_r ?_
  exact⟨m - 1,by omega,rfl,i+1,v7,_,by omega,vq0,vq0,(vq1 h0),hE7 w ((hEA.trans hA2).trans hA3) (Nat.le_refl _),hnew,by rw[List.map_append,hG,zap hi,hr];rfl⟩
 ·intro hge
  simp only[decide_eq_false_iff_not]at hge
  have hi:i=R.length:=by omega
  rw[hi,List.take_length]at hG
  repeat refine c_r ?_
  refine rg1 h3 ?_
  repeat refine c_r ?_
  refine rt0 Tryz.ntmps64 ?_
  exact⟨hEA,G,hOI,hG⟩
theorem OI.rows{w0 A:World}{B:Nat}{ov:Value}{G:List OX}(h:OI w0 B A ov G)(hE:Ext w0 A):Rows 7 (RecAt A) A ov (G.map Prod.fst):=
 h.own.rows.mapM (C':=RecAt A) Prod.fst fun cs x hx hc=>by
  rw[hc.1]
  exact(h.row x hx).1.at hE
theorem zjz{w0 w:World}(hE0:Ext w0 w){lv:Value}{R:List RecL}(hl:Rows 7 (RecAt w0) w lv R)(hnn:∀r∈R,r.dat.names.length≤1000000000)(hlen:R.length≤1000000000):
  Fn Tryz.prog 64 #[lv] w (fun v w'=>Ext w w'∧Rows 7 (RecAt w') w' v R):=by
 refine Fn.mono (zmb hE0 hl hnn hlen) ?_
 rintro v w' ⟨hE,G,hOI,rfl⟩
 exact⟨hE,hOI.rows (hE0.trans hE)⟩
theorem zif{w0 w:World}(hE0:Ext w0 w){cs:List Value}{r:RecL}(hr:RecAt w0 cs r)(hf:DatF r.dat)(ho:(∀l∈r.owner,l.length≤1000000000)∧r.owner.length≤1000000000):
  Fn Tryz.prog 163 #[.agg cs.toArray] w (fun v w'=>Ext w w'∧∃e:Int,v=vi e∧(e=0→zaD r.owner=0∧(∀n∈r.dat.names,zaD n=0)∧(zgJ r.dat.ty→r.dat.names.length=1))):=by
 obtain⟨ow,ds,rfl,h1,h2⟩:=hr.ex
 obtain⟨b1,m1,e1,b2,m2,e2,b3,m3,e3,b4,m4,e4,hds⟩:=h2.open
 rw[hds]
 refine enter Tryz.func163 Tryz.ntmps163 rfl rfl ?_
 repeat refine c_r ?_
 refine rg0 ?_
 repeat refine c_r ?_
 refine zaB ?_
 intro w1 hE1 hs1 hA
 have p0:zae w1 (some ⟨w.heap.size,0,Option.none⟩)=some ow:=zab hA rfl
 have p1:zae w1 (some ⟨w.heap.size,1,Option.none⟩)=some (v32 r.ttl):=zab hA rfl
 have p2:zas w1 (some ⟨w.heap.size,2,Option.none⟩) 5=some ds:=by
  have h7:=zah (n:=7) (l:=[ow,v32 r.ttl,vi r.dat.ty,.slice b1 m1 e1,.slice b2 m2 e2,.slice b3 m3 e3,.slice b4 m4 e4]) hA rfl
  have:=za8 (m:=2) (k:=5) h7
  rw[zaU]at this
  rw[hds];exact this
 refine rq ?_;intro gd K hgd hK
 try simp (disch:=first|omega|assumption|rfl) only[go_sem,p0,Nat.add_zero]
 refine Fn.mono (zbH w1 ow r.owner (h1.ext (hE0.trans hE1)) ho.1 ho.2) ?_
 rintro _ w2 ⟨rfl,hE2⟩
 try simp only[go_sem]
 refine hK _ _ ?_;clear hK hgd;clear K;try clear gd
 have hE12:=hE1.trans hE2
 have p1':=zaa hE2 p1
 have p2':=zad hE2 p2
 repeat refine c_r ?_
 refine rg0 ?_
 repeat refine c_r ?_
 by_cases h0:zaD r.owner=0
 rotate_left
 ·refine zaH (t:=!decide (zaD r.owner=0)) (vr0) ?_ (fun h=>by rw[decide_eq_false h0]at h;cases h)
  intro _
  repeat refine c_r ?_
  refine rg0 ?_
  repeat refine c_r ?_
  refine rt0 Tryz.ntmps163 ?_
  exact⟨hE12,_,rfl,fun h=>absurd h h0⟩
 refine zaH (t:=!decide (zaD r.owner=0)) (vr0) (fun h=>by rw[decide_eq_true h0]at h;cases h) ?_
 intro _
 repeat refine c_r ?_
 refine rg2 p1' Nat.zero_add ?_
 repeat refine c_r ?_
 refine wc0 ?_ ?_
 ·intro _
  repeat (first|refine c_r ?_|refine rg0 ?_)
  refine rt0 Tryz.ntmps163 ?_
  exact⟨hE12,7,rfl,fun h=>by cases h⟩
 intro _
 repeat refine c_r ?_
 refine rq ?_;intro gd K hgd hK
 try simp (disch:=first|omega|assumption|rfl) only[go_sem,p2',Nat.zero_add]
 refine Fn.mono (zha (hE0.trans hE12) h2 hf) ?_
 rintro _ w3 ⟨hE3,e,rfl,he⟩
 try simp only[go_sem]
 refine hK _ _ ?_;clear hK hgd;clear K;try clear gd
 repeat refine c_r ?_
 refine rt0 Tryz.ntmps163 ?_
 exact⟨hE12.trans hE3,e,rfl,fun h=>⟨h0,he h⟩⟩
theorem few_f{n:Nm}(h:few n=true):(∀l∈n,l.length≤1000000000)∧n.length≤1000000000:=by
 simp only[few,Bool.and_eq_true,List.all_eq_true,decide_eq_true_eq]at h
 exact⟨fun l hl=>by have:=h.2 l hl;omega,by omega⟩
theorem DFew_ok{w0 w:World}(hE0:Ext w0 w){cs:List Value}{d:DatL}(hd:DatAt w0 cs d):
  Fn Tryz.prog 217 #[.agg cs.toArray] w (fun v w'=>Ext w w'∧∃b:Bool,v= .bool b∧(b=true→DatF d)):=by
 obtain⟨nm,nu,tx,rw',rfl,⟨vals,⟨an,cn,rfl,hcn,hgn⟩,hvl,hvr⟩,⟨au,cu,rfl,hcu,hgu⟩,⟨at1,ct,rfl,hct,hgt⟩,⟨ar,cr,rfl,hcr,hgr⟩⟩:=hd.ex
 simp only[List.length_map]at hcu hgu hct hgt hcr hgr
 simp only[List.length_map]
 refine enter Tryz.func217 Tryz.ntmps217 rfl rfl ?_
 repeat refine c_r ?_
 refine rg0 ?_
 repeat refine c_r ?_
 refine zaB ?_
 intro w1 hE1 hs1 hA
 have p1:zae w1 (some ⟨w.heap.size,1,Option.none⟩)=some (.slice an vals.length cn):=zab hA rfl
 have p2:zae w1 (some ⟨w.heap.size,2,Option.none⟩)=some (.slice au d.nums.length cu):=zab hA rfl
 have p3:zae w1 (some ⟨w.heap.size,3,Option.none⟩)=some (.slice at1 d.texts.length ct):=zab hA rfl
 have p4:zae w1 (some ⟨w.heap.size,4,Option.none⟩)=some (.slice ar d.raw.length cr):=zab hA rfl
 refine zay (Q:=fun e σ' ds' v'=>e= .normal∧ds'=[]∧σ' 1= .pointer (some ⟨w.heap.size,0,Option.none⟩)∧v'=w1∧∃bb,σ' 26= .bool bb∧(bb=false→vals.length≤8∧d.nums.length≤12∧d.texts.length≤40∧d.raw.length≤1100)) ?_ ?_
 ·by_cases hA1:(vals.length:Int)>8
  ·refine rq ?_;intro gd K hgd hK
   have hg4:∀n σ b,zav gd n σ (some (4,b))=zal (ev n σ (.tmp 9)) b:=(fun n σ b=>by rw[zac,show gd 4=some 9 from(by rw[hgd];rfl)];rfl);have hg10:∀n σ b,zav gd n σ (some (10,b))=zal (ev n σ (.tmp 15)) b:=(fun n σ b=>by rw[zac,show gd 10=some 15 from(by rw[hgd];rfl)];rfl);have hg16:∀n σ b,zav gd n σ (some (16,b))=zal (ev n σ (.tmp 21)) b:=(fun n σ b=>by rw[zac,show gd 16=some 21 from(by rw[hgd];rfl)];rfl)
   try simp (disch:=first|omega|assumption|rfl) only[go_sem,p1,Nat.zero_add,decide_eq_true hA1,zbS,↓hg4,↓hg10,↓hg16]
   refine hK _ _ ?_;clear hK hgd;clear K;try clear gd
   exact⟨rfl,rfl,vq0,rfl,_,vr0,fun h=>by cases h⟩
  by_cases hA2:(d.nums.length:Int)>12
  ·refine rq ?_;intro gd K hgd hK
   have hg4:∀n σ b,zav gd n σ (some (4,b))=zal (ev n σ (.tmp 9)) b:=(fun n σ b=>by rw[zac,show gd 4=some 9 from(by rw[hgd];rfl)];rfl);have hg10:∀n σ b,zav gd n σ (some (10,b))=zal (ev n σ (.tmp 15)) b:=(fun n σ b=>by rw[zac,show gd 10=some 15 from(by rw[hgd];rfl)];rfl);have hg16:∀n σ b,zav gd n σ (some (16,b))=zal (ev n σ (.tmp 21)) b:=(fun n σ b=>by rw[zac,show gd 16=some 21 from(by rw[hgd];rfl)];rfl)
   try simp (disch:=first|omega|assumption|rfl) only[go_sem,p1,p2,Nat.zero_add,decide_eq_false hA1,decide_eq_true hA2,zbS,↓hg4,↓hg10,↓hg16]
   refine hK _ _ ?_;clear hK hgd;clear K;try clear gd
   exact⟨rfl,rfl,vq0,rfl,_,vr0,fun h=>by cases h⟩
  by_cases hA3:(d.texts.length:Int)>40
  ·refine rq ?_;intro gd K hgd hK
   have hg4:∀n σ b,zav gd n σ (some (4,b))=zal (ev n σ (.tmp 9)) b:=(fun n σ b=>by rw[zac,show gd 4=some 9 from(by rw[hgd];rfl)];rfl);have hg10:∀n σ b,zav gd n σ (some (10,b))=zal (ev n σ (.tmp 15)) b:=(fun n σ b=>by rw[zac,show gd 10=some 15 from(by rw[hgd];rfl)];rfl);have hg16:∀n σ b,zav gd n σ (some (16,b))=zal (ev n σ (.tmp 21)) b:=(fun n σ b=>by rw[zac,show gd 16=some 21 from(by rw[hgd];rfl)];rfl)
   try simp (disch:=first|omega|assumption|rfl) only[go_sem,p1,p2,p3,Nat.zero_add,decide_eq_false hA1,decide_eq_false hA2,decide_eq_true hA3,zbS,↓hg4,↓hg10,↓hg16]
   refine hK _ _ ?_;clear hK hgd;clear K;try clear gd
   exact⟨rfl,rfl,vq0,rfl,_,vr0,fun h=>by cases h⟩
  by_cases hA4:(d.raw.length:Int)>1100
  ·refine rq ?_;intro gd K hgd hK
   have hg4:∀n σ b,zav gd n σ (some (4,b))=zal (ev n σ (.tmp 9)) b:=(fun n σ b=>by rw[zac,show gd 4=some 9 from(by rw[hgd];rfl)];rfl);have hg10:∀n σ b,zav gd n σ (some (10,b))=zal (ev n σ (.tmp 15)) b:=(fun n σ b=>by rw[zac,show gd 10=some 15 from(by rw[hgd];rfl)];rfl);have hg16:∀n σ b,zav gd n σ (some (16,b))=zal (ev n σ (.tmp 21)) b:=(fun n σ b=>by rw[zac,show gd 16=some 21 from(by rw[hgd];rfl)];rfl)
   try simp (disch:=first|omega|assumption|rfl) only[go_sem,p1,p2,p3,p4,Nat.zero_add,decide_eq_false hA1,decide_eq_false hA2,decide_eq_false hA3,decide_eq_true hA4,zbS,↓hg4,↓hg10,↓hg16]
   refine hK _ _ ?_;clear hK hgd;clear K;try clear gd
   exact⟨rfl,rfl,vq0,rfl,_,vr0,fun h=>by cases h⟩
  ·refine rq ?_;intro gd K hgd hK
   have hg4:∀n σ b,zav gd n σ (some (4,b))=zal (ev n σ (.tmp 9)) b:=(fun n σ b=>by rw[zac,show gd 4=some 9 from(by rw[hgd];rfl)];rfl);have hg10:∀n σ b,zav gd n σ (some (10,b))=zal (ev n σ (.tmp 15)) b:=(fun n σ b=>by rw[zac,show gd 10=some 15 from(by rw[hgd];rfl)];rfl);have hg16:∀n σ b,zav gd n σ (some (16,b))=zal (ev n σ (.tmp 21)) b:=(fun n σ b=>by rw[zac,show gd 16=some 21 from(by rw[hgd];rfl)];rfl)
   try simp (disch:=first|omega|assumption|rfl) only[go_sem,p1,p2,p3,p4,Nat.zero_add,decide_eq_false hA1,decide_eq_false hA2,decide_eq_false hA3,decide_eq_false hA4,zbS,↓hg4,↓hg10,↓hg16]
   refine hK _ _ ?_;clear hK hgd;clear K;try clear gd
   exact⟨rfl,rfl,vq0,rfl,_,vr0,fun _=>⟨by omega,by omega,by omega,by omega⟩⟩
 rintro _ σ1 _ v1 ⟨rfl,rfl,h1,hv1,bb,h26,hbb⟩
 rw[hv1]
 clear hv1 v1
 repeat refine c_r ?_
 refine zaH (t:=bb) ((vq1 h26)) ?_ ?_
 ·intro _
  repeat (first|refine c_r ?_|refine rg0 ?_)
  refine rt0 Tryz.ntmps217 ?_
  exact⟨hE1,false,rfl,fun h=>by cases h⟩
 intro hb
 obtain⟨ln,lu,lt,lr⟩:=hbb hb
 repeat refine c_r ?_
 refine rg0 ?_
 repeat refine c_r ?_
 refine zay (Q:=fun e σ' ds' v'=>ds'=[]∧Ext w1 v'∧((e= .exit 0∧σ' 1= .pointer (some ⟨w.heap.size,0,Option.none⟩)∧∀n∈d.names,few n=true)∨(e= .ret∧σ' 2= .bool false))) ?_ ?_
 ·refine zam (fun m σ ds A=>ds=[]∧∃(i:Nat),i+m=vals.length∧σ 3=vi i∧σ 1= .pointer (some ⟨w.heap.size,0,Option.none⟩)∧Ext w1 A∧∀j (h:j<d.names.length),j<i→few d.names[j]=true) vals.length ?_ ?_
  ·exact⟨rfl,0,by omega,vr0,(vq1 h1),Keep.refl _ _,fun j h hj=>absurd hj (by omega)⟩
  clear h1
  rintro m σ ds A ⟨rfl,i,him,h3,h1,hEA,hlow⟩
  have q1:=zaa hEA p1
  repeat refine c_r ?_
  refine rg4 h3 h1 q1 Nat.zero_add ?_
  repeat refine c_r ?_
  refine wc0 ?_ ?_
  ·intro hlt
   simp only[decide_eq_true_eq]at hlt
   have hi:i<vals.length:=by omega
   have hi0:(0:Int)≤(i:Int):=by omega
   have hi1:(i:Int)<(vals.length:Int):=by omega
   have hi1':(i:Int)+1=((i+1:Nat):Int):=by push_cast;rfl
   have hgi:=hgn i hi
   obtain⟨xN,rfl⟩:=Option.isSome_iff_exists.1 (zag hgi)
   have hgi':=zaa (hE0.trans (hE1.trans hEA)) hgi
   have hrow:=hvr i hi (by omega)
   obtain⟨n,hn⟩:∃n,d.names[i]'(by omega)=n:=⟨_,rfl⟩
   rw[hn]at hrow
   obtain⟨hv,hhv⟩:∃hv,vals[i]=hv:=⟨_,rfl⟩
   rw[hhv]at hgi' hrow
   repeat refine c_r ?_
   refine rq ?_;intro gd K hgd hK
   try simp (disch:=first|omega|assumption|rfl) only[go_sem,h3,h1,q1,Nat.zero_add,hi0,hi1,hgi']
   refine Fn.mono (zii A hv n (hrow.ext (hE0.trans (hE1.trans hEA)))) ?_
   rintro _ A2 ⟨rfl,hA2⟩
   try simp only[go_sem]
   refine hK _ _ ?_;clear hK hgd;clear K;try clear gd
   repeat refine c_r ?_
   refine zaH (t:=!few n) (vr0) ?_ ?_
   ·intro _
    repeat refine c_r ?_
    refine rg0 ?_
    repeat refine c_r ?_
    exact⟨rfl,hEA.trans hA2,.inr ⟨rfl,vq0⟩⟩
   ·intro hfn
    repeat refine c_r ?_
    refine rg2 h3 hi1' ?_
    repeat refine c_r ?_
    refine⟨m - 1,by omega,rfl,i+1,by omega,vq0,(vq1 h1),hEA.trans hA2,fun j hj hji=>?_⟩
    by_cases hj2:j=i
    ·subst hj2;rw[hn];simpa using hfn
    ·exact hlow j hj (by omega)
  ·intro hge
   simp only[decide_eq_false_iff_not]at hge
   repeat refine c_r ?_
   refine⟨rfl,hEA,.inl ⟨rfl,(vq1 h1),fun n hn=>?_⟩⟩
   obtain⟨j,hj,rfl⟩:=List.getElem_of_mem hn
   exact hlow j hj (by omega)
 clear h1
 rintro e σ4 _ A ⟨rfl,hEA,⟨rfl,h1,hall⟩| ⟨rfl,h2⟩⟩
 rotate_left
 ·repeat refine c_r ?_
  refine rt1 h2 Tryz.ntmps217 ?_
  exact⟨hE1.trans hEA,false,rfl,fun h=>by cases h⟩
 have q3:=zaa hEA p3
 repeat refine c_r ?_
 refine rg0 ?_
 repeat refine c_r ?_
 refine zay (Q:=fun e σ' ds' v'=>ds'=[]∧v'=A∧((e= .exit 2∧σ' 1= .pointer (some ⟨w.heap.size,0,Option.none⟩)∧∀l∈d.texts,l.length≤300)∨(e= .ret∧σ' 2= .bool false))) ?_ ?_
 ·refine zam (fun m σ ds B=>ds=[]∧∃(i:Nat),i+m=d.texts.length∧σ 4=vi i∧σ 1= .pointer (some ⟨w.heap.size,0,Option.none⟩)∧B=A∧∀j (h:j<d.texts.length),j<i→d.texts[j].length≤300) d.texts.length ?_ ?_
  ·exact⟨rfl,0,by omega,vr0,(vq1 h1),rfl,fun j h hj=>absurd hj (by omega)⟩
  clear h1
  rintro m σ ds B ⟨rfl,i,him,h4,h1,hB2,hlow⟩
  rw[hB2]
  clear hB2 B
  repeat refine c_r ?_
  refine rg4 h4 h1 q3 Nat.zero_add ?_
  repeat refine c_r ?_
  refine wc0 ?_ ?_
  ·intro hlt
   simp only[decide_eq_true_eq]at hlt
   have hi:i<d.texts.length:=by omega
   have hi0:(0:Int)≤(i:Int):=by omega
   have hi1:(i:Int)<(d.texts.length:Int):=by omega
   have hi1':(i:Int)+1=((i+1:Nat):Int):=by push_cast;rfl
   have hgi:=hgt i hi
   obtain⟨xT,rfl⟩:=Option.isSome_iff_exists.1 (zag hgi)
   have hgi':=zaa (hE0.trans (hE1.trans hEA)) hgi
   rw[List.getElem_map]at hgi'
   repeat refine c_r ?_
   refine rg7 h4 h1 q3 Nat.zero_add hi0 hi1 hgi' ?_
   repeat refine c_r ?_
   refine wc0 ?_ ?_
   ·intro hgt2
    repeat refine c_r ?_
    refine rg0 ?_
    repeat refine c_r ?_
    exact⟨rfl,rfl,.inr ⟨rfl,vq0⟩⟩
   ·intro hgt2
    simp only[decide_eq_false_iff_not]at hgt2
    repeat refine c_r ?_
    refine rg2 h4 hi1' ?_
    repeat refine c_r ?_
    refine⟨m - 1,by omega,rfl,i+1,by omega,vq0,(vq1 h1),rfl,fun j hj hji=>?_⟩
    by_cases hj2:j=i
    ·subst hj2;omega
    ·exact hlow j hj (by omega)
  ·intro hge
   simp only[decide_eq_false_iff_not]at hge
   repeat refine c_r ?_
   refine⟨rfl,rfl,.inl ⟨rfl,(vq1 h1),fun l hl=>?_⟩⟩
   obtain⟨j,hj,rfl⟩:=List.getElem_of_mem hl
   exact hlow j hj (by omega)
 clear h1
 rintro e σ6 _ v1 ⟨rfl,hv1,⟨rfl,h1,htl⟩| ⟨rfl,h2⟩⟩
 rotate_left
 ·rw[hv1]
  repeat refine c_r ?_
  refine rt1 h2 Tryz.ntmps217 ?_
  exact⟨hE1.trans hEA,false,rfl,fun h=>by cases h⟩
 rw[hv1]
 clear hv1 v1
 repeat (first|refine c_r ?_|refine rg0 ?_)
 refine rt0 Tryz.ntmps217 ?_
 exact⟨hE1.trans hEA,true,rfl,fun _=>⟨fun n hn=>few_f (hall n hn),by omega,by omega,by omega,fun l hl=>by have:=htl l hl;omega,by omega,by omega⟩⟩
theorem RsFew_ok{w0 w:World}(hE0:Ext w0 w){lv:Value}{R:List RecL}(hl:Rows 7 (RecAt w0) w lv R):
  Fn Tryz.prog 162 #[lv] w (fun v w'=>Ext w w'∧∃b:Bool,v= .bool b∧(b=true→R.length≤60∧∀r∈R,few r.owner=true∧DatF r.dat)):=by
 obtain⟨aR,cR,rfl,hcR,hgR⟩:=hl.open
 refine enter Tryz.func162 Tryz.ntmps162 rfl rfl ?_
 repeat refine c_r ?_
 refine rg0 ?_
 repeat refine c_r ?_
 refine rg0 ?_
 repeat refine c_r ?_
 refine wc0 ?_ ?_
 ·intro _
  repeat (first|refine c_r ?_|refine rg0 ?_)
  refine rt0 Tryz.ntmps162 ?_
  exact⟨Keep.refl _ _,false,rfl,fun h=>by cases h⟩
 intro h60
 simp only[decide_eq_false_iff_not]at h60
 repeat refine c_r ?_
 refine rg0 ?_
 repeat refine c_r ?_
 refine zam (fun m σ ds A=>ds=[]∧∃(i:Nat),i+m=R.length∧σ 3=vi i∧σ 0= .slice aR R.length cR∧Ext w A∧∀j (h:j<R.length),j<i→few R[j].owner=true∧DatF R[j].dat) R.length ?_ ?_
 ·exact⟨rfl,0,by omega,vr0,vq0,Keep.refl _ _,fun j h hj=>absurd hj (by omega)⟩
 rintro m σ ds A ⟨rfl,i,him,h3,h0,hEA,hlow⟩
 repeat refine c_r ?_
 refine rg2 h3 h0 ?_
 repeat refine c_r ?_
 refine wc0 ?_ ?_
 ·intro hlt
  simp only[decide_eq_true_eq]at hlt
  have hi:i<R.length:=by omega
  have hi0:(0:Int)≤(i:Int):=by omega
  have hi1:(i:Int)<(R.length:Int):=by omega
  have hi1':(i:Int)+1=((i+1:Nat):Int):=by push_cast;rfl
  obtain⟨cr,hcr,hRr⟩:=hgR i hi
  obtain⟨r,hr⟩:∃r,R[i]=r:=⟨_,rfl⟩
  rw[hr]at hRr
  obtain⟨ow,dsc,hcrE,o1,o2,g0,g1,g2,gd⟩:=hRr.cells
  obtain⟨xR,rfl⟩:=Option.isSome_iff_exists.1 (zaq hcr)
  obtain⟨xi,hxi⟩:∃xi,adr (some xR) (i*7)=some xi:=⟨_,rfl⟩
  rw[hxi]at hcr
  obtain⟨xd,hxd⟩:∃xd,adr (some xi) 2=some xd:=⟨_,rfl⟩
  have rc:∀{x},Ext w x→zae x (some xi)=some ow∧zas x (some xd) 5=some dsc:=fun {x} hx=>by
   have hcx:=zad hx hcr
   have e0:=zax hcx g0
   have e5:=za8 (m:=2) (k:=5) hcx
   rw[zaA]at e0
   rw[hxd,gd]at e5
   exact⟨e0,e5⟩
  obtain⟨c0,_⟩:=rc hEA
  have hwA:=hE0.trans hEA
  repeat refine c_r ?_
  refine zay (Q:=fun e σ' ds' v'=>e= .normal∧ds'=[]∧σ' 3=vi i∧σ' 0= .slice (some xR) R.length cR∧Ext A v'∧∃bb,σ' 28= .bool bb∧(bb=false→few r.owner=true∧DatF r.dat)) ?_ ?_
  ·cases hf:few r.owner with
   |false=>
    refine rq ?_;intro gd K hgd hK
    have hg7:∀n σ b,zav gd n σ (some (7,b))=zal (ev n σ (.tmp 20)) b:=(fun n σ b=>by rw[zac,show gd 7=some 20 from(by rw[hgd];rfl)];rfl)
    try simp (disch:=first|omega|assumption|rfl) only[go_sem,h0,h3,hi0,hi1,hxi,c0,zaA]
    refine Fn.mono (zii A ow r.owner (o1.ext hwA)) ?_
    rintro _ A2 ⟨rfl,hA2⟩
    rw[hf]
    try simp (disch:=first|omega|assumption|rfl) only[go_sem,Bool.not_false,↓hg7]
    refine hK _ _ ?_;clear hK hgd;clear K;try clear gd
    exact⟨rfl,rfl,(vq1 h3),(vq1 h0),hA2,_,vr0,fun h=>by cases h⟩
   |true=>
    refine rq ?_;intro gd K hgd hK
    have hg7:∀n σ b,zav gd n σ (some (7,b))=zal (ev n σ (.tmp 20)) b:=(fun n σ b=>by rw[zac,show gd 7=some 20 from(by rw[hgd];rfl)];rfl)
    try simp (disch:=first|omega|assumption|rfl) only[go_sem,h0,h3,hi0,hi1,hxi,c0,zaA]
    refine Fn.mono (zii A ow r.owner (o1.ext hwA)) ?_
    rintro _ A2 ⟨rfl,hA2⟩
    rw[hf]
    obtain⟨_,c5⟩:=rc (hEA.trans hA2)
    try simp (disch:=first|omega|assumption|rfl) only[go_sem,h0,h3,hi0,hi1,hxi,hxd,c5,Bool.not_true,↓hg7]
    refine Fn.mono (DFew_ok (hwA.trans hA2) o2) ?_
    rintro _ A3 ⟨hA3,b,rfl,hb⟩
    try simp (disch:=first|omega|assumption|rfl) only[go_sem,↓hg7]
    refine hK _ _ ?_;clear hK hgd;clear K;try clear gd
    exact⟨rfl,rfl,(vq1 h3),(vq1 h0),hA2.trans hA3,_,vr0,fun h=>⟨rfl,hb (by simpa using h)⟩⟩
  clear h3 h0
  rintro _ σ1 _ A1 ⟨rfl,rfl,h3,h0,hA1,bb,h28,hbb⟩
  repeat refine c_r ?_
  refine zaH (t:=bb) ((vq1 h28)) ?_ ?_
  ·intro _
   repeat (first|refine c_r ?_|refine rg0 ?_)
   refine rt0 Tryz.ntmps162 ?_
   exact⟨hEA.trans hA1,false,rfl,fun h=>by cases h⟩
  ·intro ht
   repeat refine c_r ?_
   refine rg2 h3 hi1' ?_
   repeat refine c_r ?_
   refine⟨m - 1,by omega,rfl,i+1,by omega,vq0,(vq1 h0),hEA.trans hA1,fun j hj hji=>?_⟩
   by_cases hj2:j=i
   ·subst hj2;rw[hr];exact hbb ht
   ·exact hlow j hj (by omega)
 ·intro hge
  simp only[decide_eq_false_iff_not]at hge
  repeat (first|refine c_r ?_|refine rg0 ?_)
  refine rt0 Tryz.ntmps162 ?_
  refine⟨hEA,true,rfl,fun _=>⟨by omega,fun r hr=>?_⟩⟩
  obtain⟨j,hj,rfl⟩:=List.getElem_of_mem hr
  exact hlow j hj (by omega)
structure zeM(R:List RecL):Prop where
 len:R.length≤60
 few:∀r∈R,few r.owner=true∧DatF r.dat
 own:∀r∈R,zaD r.owner=0
 names:∀r∈R,∀n∈r.dat.names,zaD n=0
 lead:∀r∈R,zgJ r.dat.ty→r.dat.names.length=1
theorem zl5{w0 w:World}(hE0:Ext w0 w){lv:Value}{R:List RecL}(hl:Rows 7 (RecAt w0) w lv R):
  Fn Tryz.prog 113 #[lv] w (fun v w'=>Ext w w'∧∃b:Bool,v= .bool b∧(b=true→zeM R)):=by
 obtain⟨aR,cR,rfl,hcR,hgR⟩:=hl.open
 refine enter Tryz.func113 Tryz.ntmps113 rfl rfl ?_
 repeat refine c_r ?_
 refine rg0 ?_
 repeat refine c_r ?_
 refine rq ?_;intro gd K hgd hK
 try simp only[go_sem]
 refine Fn.mono (RsFew_ok hE0 hl) ?_
 rintro _ w1 ⟨hE1,b,rfl,hb⟩
 try simp only[go_sem]
 refine hK _ _ ?_;clear hK hgd;clear K;try clear gd
 repeat refine c_r ?_
 refine zaH (t:=!b) (vr0) ?_ ?_
 ·intro _
  repeat (first|refine c_r ?_|refine rg0 ?_)
  refine rt0 Tryz.ntmps113 ?_
  exact⟨hE1,false,rfl,fun h=>by cases h⟩
 intro hb2
 obtain⟨hRl,hRf⟩:=hb (by simpa using hb2)
 repeat refine c_r ?_
 refine rg0 ?_
 repeat refine c_r ?_
 refine zam (fun m σ ds A=>ds=[]∧∃(i:Nat),i+m=R.length∧σ 3=vi i∧σ 0= .slice aR R.length cR∧Ext w A∧∀j (h:j<R.length),j<i→zaD R[j].owner=0∧(∀n∈R[j].dat.names,zaD n=0)∧(zgJ R[j].dat.ty→R[j].dat.names.length=1)) R.length ?_ ?_
 ·exact⟨rfl,0,by omega,vr0,vq0,hE1,fun j h hj=>absurd hj (by omega)⟩
 rintro m σ ds A ⟨rfl,i,him,h3,h0,hEA,hlow⟩
 repeat refine c_r ?_
 refine rg2 h3 h0 ?_
 repeat refine c_r ?_
 refine wc0 ?_ ?_
 ·intro hlt
  simp only[decide_eq_true_eq]at hlt
  have hi:i<R.length:=by omega
  have hi0:(0:Int)≤(i:Int):=by omega
  have hi1:(i:Int)<(R.length:Int):=by omega
  have hi1':(i:Int)+1=((i+1:Nat):Int):=by push_cast;rfl
  obtain⟨cr,hcr,hRr⟩:=hgR i hi
  obtain⟨r,hr⟩:∃r,R[i]=r:=⟨_,rfl⟩
  rw[hr]at hRr
  obtain⟨f1,f2⟩:=hRf r (hr▸List.getElem_mem hi)
  obtain⟨xR,rfl⟩:=Option.isSome_iff_exists.1 (zaq hcr)
  obtain⟨xi,hxi⟩:∃xi,adr (some xR) (i*7)=some xi:=⟨_,rfl⟩
  rw[hxi]at hcr
  have hcA:=zad hEA hcr
  have hwA:=hE0.trans hEA
  repeat refine c_r ?_
  refine rq ?_;intro gd K hgd hK
  try simp (disch:=first|omega|assumption|rfl) only[go_sem,h0,h3,hi0,hi1,hxi,hcA]
  refine Fn.mono (zl8 hwA hRr f2.nn) ?_
  rintro _ A2 ⟨hA2,cs',nm',rfl,hx⟩
  try simp only[go_sem]
  refine Fn.mono (zif (Keep.refl _ A2) (hx.at (hwA.trans hA2)) f2 (few_f f1)) ?_
  rintro _ A3 ⟨hA3,e,rfl,he⟩
  try simp only[go_sem]
  refine hK _ _ ?_;clear hK hgd;clear K;try clear gd
  repeat refine c_r ?_
  by_cases h0e:e=0
  ·refine zaH (t:=!decide (e=0)) (vr0) (fun h=>by rw[decide_eq_true h0e]at h;cases h) ?_
   intro _
   repeat refine c_r ?_
   refine rg2 h3 hi1' ?_
   repeat refine c_r ?_
   refine⟨m - 1,by omega,rfl,i+1,by omega,vq0,(vq1 h0),hEA.trans (hA2.trans hA3),fun j hj hji=>?_⟩
   by_cases hj2:j=i
   ·subst hj2;rw[hr];exact he h0e
   ·exact hlow j hj (by omega)
  ·refine zaH (t:=!decide (e=0)) (vr0) ?_ (fun h=>by rw[decide_eq_false h0e]at h;cases h)
   intro _
   repeat (first|refine c_r ?_|refine rg0 ?_)
   refine rt0 Tryz.ntmps113 ?_
   exact⟨hEA.trans (hA2.trans hA3),false,rfl,fun h=>by cases h⟩
 ·intro hge
  simp only[decide_eq_false_iff_not]at hge
  repeat (first|refine c_r ?_|refine rg0 ?_)
  refine rt0 Tryz.ntmps113 ?_
  have hall:∀r∈R,zaD r.owner=0∧(∀n∈r.dat.names,zaD n=0)∧(zgJ r.dat.ty→r.dat.names.length=1):=fun r hr=>by
   obtain⟨j,hj,rfl⟩:=List.getElem_of_mem hr
   exact hlow j hj (by omega)
  exact⟨hEA,true,rfl,fun _=>⟨hRl,hRf,fun r hr=>(hall r hr).1,fun r hr=>(hall r hr).2.1,fun r hr=>(hall r hr).2.2⟩⟩
theorem ZGood_ok{w0 w:World}(hE0:Ext w0 w){ov lv:Value}{o:Nm}{R:List RecL}(ho:Row w ov (o.map vs))(hl:Rows 7 (RecAt w0) w lv R):
  Fn Tryz.prog 62 #[ov,lv] w (fun v w'=>Ext w w'∧∃b:Bool,v= .bool b∧(b=true→zbW o=true∧zeM R)):=by
 refine enter Tryz.func62 Tryz.ntmps62 rfl rfl ?_
 repeat refine c_r ?_
 refine rg0 ?_
 repeat refine c_r ?_
 cases hg:zbW o with
 |false=>
  refine rq ?_;intro gd K hgd hK
  have hg2:∀n σ b,zav gd n σ (some (2,b))=zal (ev n σ (.tmp 7)) b:=(fun n σ b=>by rw[zac,show gd 2=some 7 from(by rw[hgd];rfl)];rfl)
  try simp only[go_sem]
  refine Fn.mono (zhc w ov o ho) ?_
  rintro _ w1 ⟨rfl,hE1⟩
  rw[hg]
  try simp (disch:=first|omega|assumption|rfl) only[go_sem,↓hg2]
  refine hK _ _ ?_;clear hK hgd;clear K;try clear gd
  repeat refine c_r ?_
  refine rt0 Tryz.ntmps62 ?_
  exact⟨hE1,false,rfl,fun h=>by cases h⟩
 |true=>
  refine rq ?_;intro gd K hgd hK
  have hg2:∀n σ b,zav gd n σ (some (2,b))=zal (ev n σ (.tmp 7)) b:=(fun n σ b=>by rw[zac,show gd 2=some 7 from(by rw[hgd];rfl)];rfl)
  try simp only[go_sem]
  refine Fn.mono (zhc w ov o ho) ?_
  rintro _ w1 ⟨rfl,hE1⟩
  rw[hg]
  try simp (disch:=first|omega|assumption|rfl) only[go_sem,↓hg2]
  refine Fn.mono (zl5 (hE0.trans hE1) (hl.ext hE1)) ?_
  rintro _ w2 ⟨hE2,b,rfl,hb⟩
  try simp (disch:=first|omega|assumption|rfl) only[go_sem,↓hg2]
  refine hK _ _ ?_;clear hK hgd;clear K;try clear gd
  repeat refine c_r ?_
  refine rt0 Tryz.ntmps62 ?_
  exact⟨hE1.trans hE2,b,rfl,fun h=>⟨rfl,hb h⟩⟩
structure zl7(r:ResL):Prop where
 nm:NmS r.name
 dat:∀d∈r.data,DatOk d
 dl:r.data.length≤1000000000
 gl:r.glue.length≤1000000000
 g:∀x∈r.glue,NmS x.1∧(∀d∈x.2,DatOk d)∧x.2.length≤1000000000
theorem DatX.cells{w0 A:World}{B:Nat}{nm:Value}{cs:List Value}{d:DatL}(h:DatX w0 B A nm cs d):cs.length=5∧∀q∈cs,one q=true:=by
 obtain⟨b1,m1,e1,b2,m2,e2,b3,m3,e3,b4,m4,e4,hds⟩:=h.open
 rw[hds]
 refine⟨rfl,fun q hq=>?_⟩
 simp at hq
 rcases hq with rfl|rfl|rfl|rfl|rfl<;>rfl
def NumR(R:List RecL):Prop:=∀r∈R,∀n∈r.dat.nums,0≤n∧n≤4294967295
theorem zh7{n:Nm}(h:zaD n=0):LB n:=fun l hl=>by have:=(zbi h l hl).2;omega
theorem good_dat{R:List RecL}(h:zeM R)(hv:NumR R):∀r∈R,DatOk r.dat:=fun r hr=>by
 have hf:=(h.few r hr).2
 exact⟨fun n hn=>⟨zh7 (h.names r hr n hn),by have:=(hf.names n hn).2;omega⟩,by have:=hf.nn;omega,by have:=hf.nu;omega,by have:=hf.nt;omega,hv r hr,by have:=hf.nr;omega⟩
theorem zgR{R:List RecL}(h:zeM R)(hv:NumR R):∀r∈R,zbs r:=fun r hr=>
 ⟨zh7 (h.own r hr),by have:=zgm (h.own r hr);omega,good_dat h hv r hr⟩
structure GoodC(R:List RecL):Prop where
 ok:∀r∈R,zbs r
 srt:zkh R
 gd:zey R
 ld:LeadR R
 len:R.length≤60
 nn:∀r∈R,r.dat.names.length≤1000000000
theorem zjX{R:List RecL}(h:zeM R)(hv:NumR R):GoodC (za3 R):=by
 refine⟨zbQ (fun a b h=>⟨h.lb,h.len,h.dat⟩) (zgR h hv),zg2 R,?_,?_,Nat.le_trans (zdp R) h.len,?_⟩
 ·exact zbQ (Q:=fun r=>∀n∈r.dat.names,NmG n) (fun a b h=>h) (fun r hr n hn=>ze1 (h.names r hr n hn))
 ·refine zbQ (Q:=fun r=>(r.dat.ty=2∨r.dat.ty=5∨r.dat.ty=39)→r.dat.names≠ []) (fun a b h=>h) (fun r hr ht hn=>?_)
  have:=h.lead r hr ht
  rw[hn]at this
  cases this
 ·exact zbQ (Q:=fun r=>r.dat.names.length≤1000000000) (fun a b h=>h) (fun r hr=>(h.few r hr).2.nn)
theorem zls{w0 w:World}{ov lv:Value}{o:Nm}{R:List RecL}(h:GoodC R)(hE:Ext w0 w)(ho:Row w ov (o.map vs))(hl:Rows 7 (RecAt w0) w lv R)(hg:zbW o=true):ZnAt w0 w ov lv o R:=
 ⟨hE,ho,hl,(zbN hg).m.s.lb,(zbN hg).m.s.len,h.ok,by have:=h.len;omega⟩
structure ResF(P:DatL→Prop)(m:Nat)(r:ResL):Prop where
 nm:NmS r.name
 dat:∀d∈r.data,P d
 dl:r.data.length≤m
 gl:r.glue.length≤m
 g:∀x∈r.glue,NmS x.1∧(∀d∈x.2,P d)∧x.2.length≤m+m
theorem zbL{P:DatL→Prop}{m:Nat}{k:Int}{ds:List DatL}{n:Nm}{b:Bool}(hn:NmS n)(hd:∀d∈ds,P d)(hl:ds.length≤m):ResF P m ⟨k,ds,n,b,[]⟩:=
 ⟨hn,hd,hl,Nat.zero_le _,fun x h=>by cases h⟩
theorem zjQ:NmS []:=⟨fun l h=>(by cases h),Nat.zero_le _⟩
section
variable {P : DatL → Prop} {R : List RecL} {o : Nm}
theorem zh3(hP:∀r∈R,P r.dat){n:Nm}{t:Int}:∀d∈datC R n t,P d:=fun d hd=>by
 obtain⟨r,hr,rfl⟩:=ze0 hd
 exact hP r hr
theorem refer_F(hP:∀r∈R,P r.dat)(hG:zey R){n:Nm}(hn:NmS n):ResF P R.length (zdB R n):=by
 refine⟨hn,zh3 hP,zcm,?_,fun x hx=>?_⟩
 ·exact Nat.le_trans (zga _ _) (Nat.le_trans (zdj _ _) (Nat.le_trans (ze9 _ _) zcm))
 ·obtain⟨h,hh,he⟩:=List.mem_filterMap.1 hx
  split at he
  ·cases he
  ·cases he
   refine⟨(zbT hG (n:=n) (t:=2) (fun d hd=>hd) h (zb6 _ _ h hh)).m.s,fun d hd=>?_,?_⟩
   ·unfold zcG at hd
    rcases List.mem_append.1 hd with hd|hd
    ·exact zh3 hP d hd
    ·exact zh3 hP d hd
   ·have h1:=zcm (R:=R) (n:=h) (t:=1)
    have h2:=zcm (R:=R) (n:=h) (t:=28)
    show(zcG R h).length≤_
    unfold zcG
    rw[List.length_append];omega
theorem ziY(hP:∀r∈R,P r.dat){n:Nm}{t:Int}:(∀d∈(datC R n t).take 1,P d)∧((datC R n t).take 1).length≤R.length:=
 ⟨fun d hd=>zh3 hP d (List.mem_of_mem_take hd),by have:=zcm (R:=R) (n:=n) (t:=t);rw[List.length_take];omega⟩
theorem zkH(hP:∀r∈R,P r.dat)(hG:zey R){q n:Nm}(hq:NmM q){r:ResL}(h:zaK R q n=some r):ResF P R.length r:=by
 unfold zaK at h
 split at h
 ·cases h
 ·split at h
  ·cases h
   have hm:=swap_m hq (toN_m hG (n:=n) (t:=39) (u:=39)) (f:=n)
   exact zbL ⟨fun l hl=>by have:=hm.1 l hl;omega,by have:=hm.2;omega⟩ (ziY hP).1 (ziY hP).2
  ·cases h
   exact zbL zjQ (fun d h=>by cases h) (Nat.zero_le _)
theorem at_F(hP:∀r∈R,P r.dat)(hG:zey R){n:Nm}{t:Int}{b:Bool}:ResF P R.length (atL R n t b):=by
 unfold atL
 split
 ·exact zbL zjQ (zh3 hP) zcm
 ·split
  ·exact zbL (toN_m hG).s (ziY hP).1 (ziY hP).2
  ·exact zbL zjQ (fun d h=>by cases h) (Nat.zero_le _)
theorem go_F(hP:∀r∈R,P r.dat)(hG:zey R){q:Nm}(hq:NmM q):∀{l:List Nm} {r:ResL},(∀n∈l,NmS n)→goL o R q l=some r→ResF P R.length r
 | [],r,_,h=>by cases h
 |n::l,r,hl,h=>by
  simp only[goL]at h
  split at h
  ·cases h
   exact refer_F hP hG (hl n (List.mem_cons_self ..))
  ·split at h
   ·cases h
   ·split at h
    ·rename_i r' hr
     cases h
     exact zkH hP hG hq hr
    ·exact go_F hP hG hq (fun x hx=>hl x (List.mem_cons_of_mem _ hx)) h
theorem look_F(hP:∀r∈R,P r.dat)(hG:zey R){q:Nm}{t:Int}(hq:NmM q):ResF P R.length (zbl o R q t):=by
 unfold zbl
 split
 ·exact zbL zjQ (fun d h=>by cases h) (Nat.zero_le _)
 ·split
  ·rename_i r hr
   refine go_F hP hG hq (fun n hn=>?_) hr
   unfold zbe at hn
   split at hn
   ·obtain⟨i,_,rfl⟩:=zbA.1 hn
    exact(hq.drop i).s
   ·cases hn
  ·split
   ·exact at_F hP hG
   ·split
    ·exact at_F hP hG
    ·exact zbL zjQ (fun d h=>by cases h) (Nat.zero_le _)
end
theorem look_ok{R:List RecL}(h:GoodC R){o q:Nm}{t:Int}(hq:NmM q):zl7 (zbl o R q t):=by
 have h1:=look_F (o:=o) (P:=DatOk) (fun r hr=>(h.ok r hr).dat) h.gd (t:=t) hq
 have hl:=h.len
 exact⟨h1.nm,h1.dat,by have:=h1.dl;omega,by have:=h1.gl;omega,fun x hx=>by
  obtain⟨a,b,c⟩:=h1.g x hx
  exact⟨a,b,by omega⟩⟩
structure zcq where
 o:Nm
 recs:List RecL
structure zex where
 name:Nm
 addr:List UInt8
 zones:List zcq
structure NetL where
 hosts:List zex
 roots:List Int
 rw:Int
 rf:Int
structure ZoneC(w:World)(cs:List Value)(z:zcq):Prop where
 ex:∃ov lv,cs=[ov,lv]∧Row w ov (z.o.map vs)∧Rows 7 (RecAt w) w lv z.recs
structure HostC(w:World)(cs:List Value)(h:zex):Prop where
 ex:∃nv a b c d zv,cs=[nv,zaf a,zaf b,zaf c,zaf d,zv]∧h.addr=[a,b,c,d]∧Row w nv (h.name.map vs)∧Rows 2 (ZoneC w) w zv h.zones
structure NetAt(w:World)(cs:List Value)(N:NetL):Prop where
 ex:∃hv rv,cs=[hv,rv,vi N.rw,vi N.rf]∧Rows 6 (HostC w) w hv N.hosts∧Row w rv (N.roots.map vi)
theorem Rows.extC{α:Type}{k:Nat}{C:World→List Value→α→Prop}{w x:World}{v:Value}{l:List α}(hC:∀cs a,C w cs a→C x cs a)(h:Rows k (C w) w v l)(hE:Ext w x):Rows k (C x) x v l:=(h.ext hE).to hC
theorem ZoneC.ext{w x:World}{cs:List Value}{z:zcq}(h:ZoneC w cs z)(hE:Ext w x):ZoneC x cs z:=by
 obtain⟨ov,lv,e,h1,h2⟩:=h.ex
 exact⟨ov,lv,e,h1.ext hE,Rows.extC (fun _ _ h=>RecAt.ext h hE) h2 hE⟩
theorem HostC.ext{w x:World}{cs:List Value}{z:zex}(h:HostC w cs z)(hE:Ext w x):HostC x cs z:=by
 obtain⟨nv,a,b,c,d,zv,e,ha,h1,h2⟩:=h.ex
 exact⟨nv,a,b,c,d,zv,e,ha,h1.ext hE,Rows.extC (fun _ _ h=>ZoneC.ext h hE) h2 hE⟩
theorem NetAt.ext{w x:World}{cs:List Value}{z:NetL}(h:NetAt w cs z)(hE:Ext w x):NetAt x cs z:=by
 obtain⟨hv,rv,e,h1,h2⟩:=h.ex
 exact⟨hv,rv,e,Rows.extC (fun _ _ h=>HostC.ext h hE) h1 hE,h2.ext hE⟩
structure GoodZ(z:zcq):Prop where
 o:zbW z.o=true
 gd:zeM z.recs
 nv:NumR z.recs
 can:za3 z.recs=z.recs
theorem GoodZ.c{z:zcq}(h:GoodZ z):GoodC z.recs:=h.can▸zjX h.gd h.nv
theorem GoodZ.m{z:zcq}(h:GoodZ z):NmM z.o:=(zbN h.o).m
theorem GoodZ.zn{w0 w:World}{ov lv:Value}{z:zcq}(h:GoodZ z)(hE:Ext w0 w)(ho:Row w ov (z.o.map vs))(hl:Rows 7 (RecAt w0) w lv z.recs):ZnAt w0 w ov lv z.o z.recs:=zls h.c hE ho hl h.o
structure NetZ(N:NetL):Prop where
 hl:N.hosts.length≤1000
 nm:∀h∈N.hosts,NmM h.name
 zl:∀h∈N.hosts,h.zones.length≤1000
 z:∀h∈N.hosts,∀z∈h.zones,GoodZ z
 rl:N.roots.length≤1000
def NetL.zones(N:NetL)(s:Int):List zcq:=if s<0 then [] else match N.hosts[s.toNat]? with
 |some h=>h.zones
 |Option.none=>[]
def zaR(q:Nm)(b:Int×Int)(x:Nat×zcq):Int×Int:=if zaQ q x.2.o=true∧b.2<(x.2.o.length:Int) then((x.1:Int),(x.2.o.length:Int)) else b
def numZ:Nat→List zcq→List (Nat×zcq)
 |_,[]=>[]
 |i,z::l=>(i,z)::numZ (i+1) l
def zlW(q:Nm)(l:List zcq):Int×Int:=(numZ 0 l).foldl (zaR q) (0, -1)
def zcx(N:NetL)(s:Int)(q:Nm):Int×Bool:=let b:=zlW q (N.zones s);(b.1,decide (0≤b.2))
def askN(N:NetL)(s:Int)(q:Nm)(t:Int):ResL:=if (zcx N s q).2=true then match (N.zones s)[(zcx N s q).1.toNat]? with
  |some z=>zbl z.o z.recs q t
  |Option.none=>⟨7,[],[],false,[]⟩
 else⟨7,[],[],false,[]⟩
theorem zce:∀{l:List zcq} {i:Nat},(numZ i l).length=l.length
 | [],_=>rfl
 |_::l,i=>by simp[numZ,zce (l:=l)]
theorem zeW:∀{l:List zcq} {i j:Nat} (h:j<l.length) (h':j<(numZ i l).length),(numZ i l)[j]=(i+j,l[j])
 | [],_,_,h,_=>absurd h (by simp)
 |_::l,i,0,_,_=>by simp[numZ]
 |_::l,i,j+1,h,h'=>by
  simp only[numZ,List.getElem_cons_succ]
  rw[zeW (by simpa using h)]
  exact Prod.ext (by dsimp only;omega) rfl
theorem zlV(q:Nm):∀{l:List (Nat×zcq)} {b:Int×Int} {m:Nat},(∀x∈l,x.1<m)→((0≤b.2→0≤b.1∧b.1<m))→0≤(l.foldl (zaR q) b).2→0≤(l.foldl (zaR q) b).1∧(l.foldl (zaR q) b).1<m
 | [],b,m,_,h,h2=>h h2
 |x::l,b,m,hx,h,h2=>by
  rw[List.foldl_cons]at h2 ⊢
  refine zlV q (fun y hy=>hx y (List.mem_cons_of_mem _ hy)) (fun h3=>?_) h2
  unfold zaR at h3 ⊢
  split at h3
  ·rename_i hc
   rw[if_pos hc]
   have:=hx x (List.mem_cons_self ..)
   exact⟨by dsimp only;omega,by dsimp only;omega⟩
  ·rename_i hc
   rw[if_neg hc];exact h h3
theorem bestN_in{N:NetL}{s:Int}{q:Nm}(h:(zcx N s q).2=true):0≤(zcx N s q).1∧(zcx N s q).1<((N.zones s).length:Int):=by
 unfold zcx zlW at*
 simp only[decide_eq_true_eq]at h
 refine zlV q (fun x hx=>?_) (fun h=>absurd h (by decide)) h
 obtain⟨i,hi,rfl⟩:=List.mem_iff_getElem.1 hx
 rw[zeW (by rw[zce]at hi;exact hi)]
 have:=hi
 rw[zce]at this
 dsimp only;omega
theorem zeh{N:NetL}(h:NetZ N){s:Int}:(∀z∈N.zones s,GoodZ z)∧(N.zones s).length≤1000:=by
 unfold NetL.zones
 split
 ·exact⟨fun z h=>absurd h (by simp),by simp⟩
 ·cases hh:N.hosts[s.toNat]? with
  |none=>exact⟨fun z h=>absurd h (by simp),by simp⟩
  |some x=>exact⟨h.z x (List.mem_of_getElem? hh),h.zl x (List.mem_of_getElem? hh)⟩
section
variable {A B C D E F G H I : Prop}
theorem an2(a:A)(b:B):A∧B:=⟨a,b⟩
theorem an3(a:A)(b:B)(c:C):A∧B∧C:=⟨a,b,c⟩
theorem an4(a:A)(b:B)(c:C)(d:D):A∧B∧C∧D:=⟨a,b,c,d⟩
theorem an5(a:A)(b:B)(c:C)(d:D)(e:E):A∧B∧C∧D∧E:=⟨a,b,c,d,e⟩
theorem an6(a:A)(b:B)(c:C)(d:D)(e:E)(f:F):A∧B∧C∧D∧E∧F:=⟨a,b,c,d,e,f⟩
theorem an7(a:A)(b:B)(c:C)(d:D)(e:E)(f:F)(g:G):A∧B∧C∧D∧E∧F∧G:=⟨a,b,c,d,e,f,g⟩
theorem an8(a:A)(b:B)(c:C)(d:D)(e:E)(f:F)(g:G)(h:H):A∧B∧C∧D∧E∧F∧G∧H:=⟨a,b,c,d,e,f,g,h⟩
theorem an9(a:A)(b:B)(c:C)(d:D)(e:E)(f:F)(g:G)(h:H)(i:I):A∧B∧C∧D∧E∧F∧G∧H∧I:=⟨a,b,c,d,e,f,g,h,i⟩
end
def gdOk:List (Nat×Nat)→(Nat→Option Tmp)→Prop
 | [],_=>True
 |p::l,gd=>gd p.1=some p.2∧gdOk l gd
theorem ziE{L:List Oper}:∀{gs:List (Nat×Nat)},(gs.all fun p=>dstL L p.1==some p.2)=true→gdOk gs (dstL L)
 | [],_=>trivial
 |p::l,h=>by
  simp only[List.all_cons,Bool.and_eq_true,beq_iff_eq]at h
  exact⟨h.1,ziE h.2⟩
theorem zcp(b:Bool):zal undef b=false:=nr rfl
def Rest(P:Program)(Q:Post)(ds:List Deferred)(L:List Oper)(F:(Nat→Option Tmp)→(Sto→World→Prop)→Prop):Prop:=
 ∀(gd:Nat→Option Tmp) (K:Sto→World→Prop),gd=dstL L→(∀σ' w',Q .normal σ' ds w'→K σ' w')→F gd K
section
variable {P : Program} {r : Option Nat} {n : Nat} {Q : Post} {σ : Sto} {ds : List Deferred} {w : World} {p : Prop} {L : List Oper} {F : (Nat → Option Tmp) → (Sto → World → Prop) → Prop}
theorem wt{c:Operand}{x y:Code}(h:p)(ht:W P r n x Q σ ds w)(hc:p→ev n σ c= .bool true:=by intro h1;first| (simp only[go_sem,h1];done)| (simp only[go_sem,h1];rfl)):W P r n (.cond c x y) Q σ ds w:=zaH (hc h) (fun _=>ht) (fun h=>by cases h)
theorem wf{c:Operand}{x y:Code}(h:p)(ht:W P r n y Q σ ds w)(hc:p→ev n σ c= .bool false:=by intro h1;first| (simp only[go_sem,h1];done)| (simp only[go_sem,h1];rfl)):W P r n (.cond c x y) Q σ ds w:=zaH (hc h) (fun h=>by cases h) (fun _=>ht)
theorem ro{id:Nat}{ops:Array Oper}(h:Rest P Q ds ops.toList (fun gd K=>opsV P gd n ops.toList σ w K))(hd:zaW ops=true:=by rfl):W P r n (.region id ops false) Q σ ds w:=zcS hd fun gd K hgd hK=>h gd K hgd hK
theorem rd{f:FuncId}{args:Array Value}{w1:World}{R:Value→World→Prop}{C:(Nat→Option Tmp)→(Sto→World→Prop)→Value→World→Prop}(h:p)(hF:Fn P f args w1 R)(hr:∀v w',R v w'→Rest P Q ds L (fun gd K=>C gd K v w'))
  (hs:p→∀(gd:Nat→Option Tmp) (K:Sto→World→Prop),F gd K=Fn P f args w1 (fun v w'=>C gd K v w'):=by intro h1 gd K;(simp (disch:=first|omega|assumption|rfl) only[go_sem,h1])<;>exact rfl):Rest P Q ds L F:=
 fun gd K hgd hK=>(hs h gd K).mpr (Fn.mono hF fun v w' hR=>hr v w' hR gd K hgd hK)
theorem rc{id:Nat}{ops:Array Oper}{f:FuncId}{args:Array Value}{w1:World}{R:Value→World→Prop}{C:(Nat→Option Tmp)→(Sto→World→Prop)→Value→World→Prop}(h:p)(hF:Fn P f args w1 R)(hr:∀v w',R v w'→Rest P Q ds ops.toList (fun gd K=>C gd K v w'))
  (hs:p→∀(gd:Nat→Option Tmp) (K:Sto→World→Prop),opsV P gd n ops.toList σ w K=Fn P f args w1 (fun v w'=>C gd K v w'):=by intro h1 gd K;(simp (disch:=first|omega|assumption|rfl) only[go_sem,h1])<;>exact rfl)
  (hd:zaW ops=true:=by rfl):W P r n (.region id ops false) Q σ ds w:=ro (rd h hF hr hs) hd
theorem re{σ1:Sto}{w1:World}(h:p)(hq:Q .normal σ1 ds w1)
  (hs:p→∀(gd:Nat→Option Tmp) (K:Sto→World→Prop),F gd K=K σ1 w1:=by intro h1 gd K;(first| (simp (disch:=first|omega|assumption|rfl) only[go_sem,h1])|skip)<;>exact rfl):Rest P Q ds L F:=
 fun gd K _ hK=>(hs h gd K).mpr (hK _ _ hq)
theorem rdg(gs:List (Nat×Nat)){f:FuncId}{args:Array Value}{w1:World}{R:Value→World→Prop}{C:(Nat→Option Tmp)→(Sto→World→Prop)→Value→World→Prop}(h:p)(hF:Fn P f args w1 R)(hr:∀v w',R v w'→Rest P Q ds L (fun gd K=>C gd K v w'))
  (hs:p→∀(gd:Nat→Option Tmp) (K:Sto→World→Prop),gdOk gs gd→F gd K=Fn P f args w1 (fun v w'=>C gd K v w'):=by intro h1 gd K hg;simp only[gdOk]at hg;(simp (disch:=first|omega|assumption|rfl) only[go_sem,zac,zb5,zcp,hg,h1])<;>exact rfl)
  (hg:(gs.all fun p=>dstL L p.1==some p.2)=true:=by exact rfl):Rest P Q ds L F:=
 fun gd K hgd hK=>(hs h gd K (hgd▸ziE hg)).mpr (Fn.mono hF fun v w' hR=>hr v w' hR gd K hgd hK)
theorem rcg(gs:List (Nat×Nat)){id:Nat}{ops:Array Oper}{f:FuncId}{args:Array Value}{w1:World}{R:Value→World→Prop}{C:(Nat→Option Tmp)→(Sto→World→Prop)→Value→World→Prop}(h:p)(hF:Fn P f args w1 R)(hr:∀v w',R v w'→Rest P Q ds ops.toList (fun gd K=>C gd K v w'))
  (hs:p→∀(gd:Nat→Option Tmp) (K:Sto→World→Prop),gdOk gs gd→opsV P gd n ops.toList σ w K=Fn P f args w1 (fun v w'=>C gd K v w'):=by intro h1 gd K hg;simp only[gdOk]at hg;(simp (disch:=first|omega|assumption|rfl) only[go_sem,zac,zb5,zcp,hg,h1])<;>exact rfl)
  (hg:(gs.all fun p=>dstL ops.toList p.1==some p.2)=true:=by exact rfl) (hd:zaW ops=true:=by rfl):W P r n (.region id ops false) Q σ ds w:=ro (rdg gs h hF hr hs hg) hd
theorem reg(gs:List (Nat×Nat)){σ1:Sto}{w1:World}(h:p)(hq:Q .normal σ1 ds w1)
  (hs:p→∀(gd:Nat→Option Tmp) (K:Sto→World→Prop),gdOk gs gd→F gd K=K σ1 w1:=by intro h1 gd K hg;simp only[gdOk]at hg;(first| (simp (disch:=first|omega|assumption|rfl) only[go_sem,zac,zb5,zcp,hg,h1])|skip)<;>exact rfl)
  (hg:(gs.all fun p=>dstL L p.1==some p.2)=true:=by exact rfl):Rest P Q ds L F:=
 fun gd K hgd hK=>(hs h gd K (hgd▸ziE hg)).mpr (hK _ _ hq)
theorem rgg(gs:List (Nat×Nat)){id:Nat}{ops:Array Oper}{σ1:Sto}{w1:World}(h:p)(hq:Q .normal σ1 ds w1)
  (hs:p→∀(gd:Nat→Option Tmp) (K:Sto→World→Prop),gdOk gs gd→opsV P gd n ops.toList σ w K=K σ1 w1:=by intro h1 gd K hg;simp only[gdOk]at hg;(simp (disch:=first|omega|assumption|rfl) only[go_sem,zac,zb5,zcp,hg,h1])<;>exact rfl)
  (hg:(gs.all fun p=>dstL ops.toList p.1==some p.2)=true:=by exact rfl) (hd:zaW ops=true:=by rfl):W P r n (.region id ops false) Q σ ds w:=ro (reg gs h hq hs hg) hd
end
section
variable {P : Program} {x : World} {e : TypeId} {K : Value → World → Prop}
theorem za2{t:TypeId}{cur:Array Value}{l:List Value}(hl:l.length=cur.size)(h1:∀v∈l,one v=true)(hs:tyS P t=l.length)(hi:(P.info? t).isSome=true)
  (hK:∀w',Ext x w'→w'.heap.size=x.heap.size+1→w'.heap[x.heap.size]? =some (.cells l.toArray e (0,0))→K undef w'):stK P t (.pointer (some ⟨x.heap.size,0,Option.none⟩)) (.agg l.toArray) (x.alloc (.cells cur e (0,0))) K:=by
 have hB3:=zao x (.cells cur e (0,0))
 have hE4:=Ext.alloc x (.cells cur e (0,0))
 have hs4:=zai x (.cells cur e (0,0))
 refine zaM (P:=P) (t:=t) (l:=l) hB3 hl h1 hs hi ?_
 intro w5 hs5 hB5 hk5
 exact hK w5 (Keep.to_ext hE4 rfl (fun b hb=>by omega) hk5) (by omega) hB5
theorem Row.isOne{w:World}{v:Value}{l:List Value}(h:Row w v l):one v=true:=by
 obtain⟨a,c,rfl,_⟩:=h;rfl
theorem Rows.isOne{α:Type}{k:Nat}{C:List Value→α→Prop}{w:World}{v:Value}{l:List α}(h:Rows k C w v l):one v=true:=by
 obtain⟨a,c,rfl,_⟩:=h.open;rfl
theorem zei{a b:Value}(ha:one a=true)(hb:one b=true):∀v∈ [a,b],one v=true:=fun v h=>by
 simp at h
 rcases h with rfl|rfl<;>assumption
end
def encZ(w0:World)(x:Nat×zcq)(_:World)(args:Array Value):Prop:=∃ov lv,args=#[vi x.1,.agg #[ov,lv]]∧Row w0 ov (x.2.o.map vs)∧Rows 7 (RecAt w0) w0 lv x.2.recs
theorem zcI{n0:Nat}{C:Nat→Prop}{a b:World}(h:Ext a b)(hn:n0≤a.heap.size):KeepB n0 C a b:=Keep.toB h hn (fun _ _ h=>h.elim)
theorem zones_ok(w:World){hv rv:Value}{s a b:Int}:
  Fn Tryz.prog 194 #[.agg #[hv,rv,vi a,vi b],vi s] w (fun v w'=>v= .func (.func 240) #[] #[.pointer (some ⟨w.heap.size+1,0,Option.none⟩),.pointer (some ⟨w.heap.size,0,Option.none⟩)]∧Ext w w'∧w'.heap.size=w.heap.size+2∧
   w'.heap[w.heap.size]? =some (.cells #[hv,rv,vi a,vi b] 25 (0,0))∧w'.heap[w.heap.size+1]? =some (.cells #[vi s] 3 (0,0))):=by
 refine enter Tryz.func194 Tryz.ntmps194 rfl rfl ?_
 repeat refine c_r ?_
 refine rg0 ?_
 repeat refine c_r ?_
 rw[zai]
 refine zaO ?_
 intro w1 hE1 hs1 hA hC
 refine rg0 ?_
 repeat refine c_r ?_
 refine rt0 Tryz.ntmps194 ?_
 exact⟨rfl,hE1,hs1,hA,hC⟩
theorem zonesIt{w0 W0:World}{C:Nat→Prop}{sb nb:Nat}{hv rv:Value}{s:Int}{N:NetL}(hE0:Ext w0 W0)(hbs:W0.heap[sb]? =some (.cells #[vi s] 3 (0,0)))(hbn:W0.heap[nb]? =some (.cells #[hv,rv,vi N.rw,vi N.rf] 25 (0,0)))
  (hh:Rows 6 (HostC w0) w0 hv N.hosts) (hC:∀b,C b→w0.heap.size≤b) (hN:NetZ N):
  Iter Tryz.prog 240 #[.pointer (some ⟨sb,0,Option.none⟩),.pointer (some ⟨nb,0,Option.none⟩)] W0 W0.heap.size C (numZ 0 (N.zones s)) (encZ w0):=by
 intro lp J Jx W hW hnW hJ hJx hY h0
 obtain⟨ah,ch,rfl,hch,hgh⟩:=hh.open
 have hl:=hN.hl
 have ps:zae W (some ⟨sb,0,Option.none⟩)=some (vi s):=zaa hW (zab hbs rfl)
 have pn:zae W (some ⟨nb,0,Option.none⟩)=some (.slice ah N.hosts.length ch):=zaa hW (zab hbn rfl)
 refine enter Tryz.func240 Tryz.ntmps240 rfl rfl ?_
 repeat refine c_r ?_
 by_cases h1:s<0
 ·refine rgg [(2,8)] (an3 ps (decide_eq_true h1) Nat.add_zero) ?_
  repeat refine c_r ?_
  refine wt trivial ?_
  repeat refine c_r ?_
  refine zar (by simp) rfl (.inl ?_)
  unfold NetL.zones
  rw[if_pos h1];exact h0
 by_cases h2:(N.hosts.length:Int)≤s
 ·refine rgg [(2,8)] (an5 ps pn (decide_eq_false h1) (decide_eq_true h2) Nat.add_zero) ?_
  repeat refine c_r ?_
  refine wt trivial ?_
  repeat refine c_r ?_
  refine zar (by simp) rfl (.inl ?_)
  unfold NetL.zones
  rw[if_neg h1,List.getElem?_eq_none (by omega)];exact h0
 refine rgg [(2,8)] (an5 ps pn (decide_eq_false h1) (decide_eq_false h2) Nat.add_zero) ?_
 repeat refine c_r ?_
 refine wf trivial ?_
 obtain⟨i0,rfl⟩:∃i:Nat,s=i:=⟨s.toNat,by omega⟩
 have hi0:i0<N.hosts.length:=by omega
 obtain⟨hcs,hhc,hhC⟩:=hgh i0 hi0
 obtain⟨h,hhe⟩:∃h,N.hosts[i0]=h:=⟨_,rfl⟩
 rw[hhe]at hhC
 obtain⟨nv,b1,b2,b3,b4,zv,rfl,_,hnm,hz⟩:=hhC.ex
 have hzl:N.zones (i0:Int)=h.zones:=by
  unfold NetL.zones
  rw[if_neg h1,Int.toNat_natCast,List.getElem?_eq_getElem hi0,hhe]
 have hzb:h.zones.length≤1000:=hN.zl h (hhe▸List.getElem_mem hi0)
 rw[hzl]at hY ⊢
 obtain⟨az,cz,rfl,hcz,hgz⟩:=hz.open
 obtain⟨xh,rfl⟩:=Option.isSome_iff_exists.1 (zaq hhc)
 obtain⟨xi,hxi⟩:∃xi,adr (some xh) (i0*6)=some xi:=⟨_,rfl⟩
 rw[hxi]at hhc
 have pz:zae W (adr (some xi) 5)=some (.slice az h.zones.length cz):=zax (zad (hE0.trans hW) hhc) rfl
 obtain⟨x5,hx5⟩:∃x,adr (some xi) 5=some x:=⟨_,rfl⟩
 rw[hx5]at pz
 have hi0':(0:Int)≤(i0:Int):=by omega
 have hi1':(i0:Int)<(N.hosts.length:Int):=by omega
 repeat refine c_r ?_
 refine rg8 ps pn hi0' hi1' hxi hx5 pz Nat.add_zero ?_
 repeat refine c_r ?_
 obtain⟨L,hL⟩:∃L,numZ 0 h.zones=L:=⟨_,rfl⟩
 have hLl:L.length=h.zones.length:=by rw[←hL,zce]
 rw[hL]at hY ⊢
 refine zam (fun m σ ds v=>ds=[]∧∃(i:Nat),i+m=L.length∧σ 22=vi i∧σ 21=vi h.zones.length∧σ 20= .slice az h.zones.length cz∧σ 0= .func (.yield lp) #[] #[]∧J (L.take i) v∧KeepB W0.heap.size C W v) L.length ?_ ?_
 ·exact⟨rfl,0,by omega,vr0,vq0,vq0,vq0,h0,KeepB.refl _ _ _⟩
 rintro m σ ds v ⟨rfl,i,him,s22,s21,s20,s0,hj,hKB⟩
 repeat refine c_r ?_
 refine rg2 s22 s21 ?_
 repeat refine c_r ?_
 refine wc0 ?_ ?_
 ·intro hlt
  simp only[decide_eq_true_eq]at hlt
  have hi:i<h.zones.length:=by omega
  have hi0:(0:Int)≤(i:Int):=by omega
  have hi1':(i:Int)+1=((i+1:Nat):Int):=by push_cast;rfl
  obtain⟨cs,hcs,hZ⟩:=hgz i hi
  obtain⟨ov,lv,rfl,ho,hr⟩:=hZ.ex
  obtain⟨xz,rfl⟩:=Option.isSome_iff_exists.1 (zaq hcs)
  obtain⟨xi,hxi⟩:∃xi,adr (some xz) (i*2)=some xi:=⟨_,rfl⟩
  rw[hxi]at hcs
  have hEv:Ext w0 v:=zcZ (hE0.trans hW) hKB hE0.size hC
  have d:=zad hEv hcs
  have hLi:L[i]'(by omega)=(i,h.zones[i]):=by
   simp only[←hL]
   rw[zeW hi];simp
  repeat refine c_r ?_
  refine rq ?_;intro gd K hgd hK
  try simp (disch:=first|omega|assumption|rfl) only[go_sem,s22,s20,hi0,hlt,hxi,d]
  refine za2 (P:=Tryz.prog) (l:=[ov,lv]) rfl (zei ho.isOne hr.isOne) rfl rfl ?_
  intro v1 hE1 hs1 hB1
  try simp only[go_sem]
  refine hK _ _ ?_;clear hK hgd;clear K;try clear gd
  have d1:=zah (n:=2) hB1 rfl
  repeat refine c_r ?_
  refine rq ?_;intro gd K hgd hK
  try simp (disch:=first|omega|assumption|rfl) only[go_sem,s0,d1]
  refine Yld.mono (hY (L.take i) (L[i]'(by omega)) (L.drop (i+1)) v1 _ (by rw[←List.drop_eq_getElem_cons,List.take_append_drop]) (hJ _ _ _ hj hE1) (hKB.trans (zcI hE1 (by have:=hKB.size;omega))) ⟨ov,lv,by rw[hLi],by rw[hLi];exact ho,by rw[hLi];exact hr⟩) ?_
  rintro u x (⟨rfl,hj',hk'⟩| ⟨rfl,hjx⟩)
  ·try simp only[go_sem]
   refine hK _ _ ?_;clear hK hgd;clear K;try clear gd
   repeat refine c_r ?_
   refine wc0 ?_ ?_
   ·intro h;simp at h
   ·intro _
    repeat refine c_r ?_
    refine rg2 s22 hi1' ?_
    repeat refine c_r ?_
    exact⟨m - 1,by omega,rfl,i+1,by omega,vq0,(vq1 s21),(vq1 s20),(vq1 s0),by rw[←List.take_append_getElem (by omega)]at*;exact hj',(hKB.trans (zcI hE1 (by have:=hKB.size;omega))).trans hk'⟩
  ·try simp only[go_sem]
   refine hK _ _ ?_;clear hK hgd;clear K;try clear gd
   repeat refine c_r ?_
   refine wc0 ?_ ?_
   ·intro _
    repeat refine c_r ?_
    refine zar (by simp) rfl (.inr ⟨_,_,L.drop (i+1),?_,hjx⟩)
    rw[←List.drop_eq_getElem_cons,List.take_append_drop]
   ·intro h;simp at h
 ·intro hge
  simp only[decide_eq_false_iff_not]at hge
  repeat refine c_r ?_
  refine zar (by simp) rfl (.inl ?_)
  rwa [List.take_of_length_le (by omega)]at hj
theorem zfD{w:World}{a:Addr}:∀(i m k:Nat) {l:List Value},zaN w a i (m+k)=some l→zaN w a i m=some (l.take m)
 |i,0,k,l,h=>by simp[zaN]
 |i,m+1,k,l,h=>by
  rw[show m+1+k=(m+k)+1 from by omega]at h
  unfold zaN at h ⊢
  split at h
  ·rename_i v l' h1 h2
   cases h
   rw[h1,zfD (i+1) m k h2];rfl
  ·cases h
theorem zcw{w:World}{p:Option Addr}{m k:Nat}{l:List Value}(h:zas w p (m+k)=some l):zas w p m=some (l.take m):=by
 cases p with
 |none=>cases h
 |some a=>exact zfD 0 m k h
section
variable {P : Program} {w : World} {K : Value → World → Prop} {t : TypeId} {p v : Value} {A B : Obj}
theorem st_al1(h:∀z,Ext w z→z.heap.size=w.heap.size+1→z.heap[w.heap.size]? =some A→stK P t p v z K):stK P t p v (w.alloc A) K:=
 h _ (Ext.alloc w A) (zai w A) (World.alloc_heap_new w A)
theorem st_al2(h:∀z,Ext w z→z.heap.size=w.heap.size+2→z.heap[w.heap.size]? =some A→z.heap[w.heap.size+1]? =some B→stK P t p v z K):stK P t p v ((w.alloc A).alloc B) K:=by
 obtain⟨h1,h2,h3,h4⟩:=zda w A B
 exact h _ h1 h2 h3 h4
end
section
variable {P : Program} {d : Option Tmp} {ty : TypeId} {ps : String} {af : Array Edge} {g : Option (Nat × Bool)} {ρ : Operand → Value} {w : World} {K : Value → World → Prop}
theorem op_slA{t e:TypeId}{x:Operand}{n:Nat}{a:Addr}{m:Lck K (opW P ⟨d,.slice t x Option.none Option.none Option.none,ty,ps,af,g⟩ ρ w K)}(ht:P.underlying t=some (.array n e))(hn:n≠0)(he:(P.info? e).isSome=true)
  (hx:ρ x= .pointer (some a)) (h:K (.slice (some a) n n) w):optL (slD P (some (.array n e)) (.pointer (some a)) Option.none Option.none Option.none) w K (opW P ⟨d,.slice t x Option.none Option.none Option.none,ty,ps,af,g⟩ ρ w K) m:=by
 show opW P _ ρ w K
 obtain⟨inf,hi⟩:=Option.isSome_iff_exists.1 he
 refine zaI (s:=Instr.sliceAt t (ρ x) Option.none Option.none Option.none) (v:= .slice (some a) n n) (w':=w) ?_ h
 have e1:=zcb (P:=P) (w:=w) (sl:=false) (n:=n) (c:=n) (lo:=Option.none) (hi:=Option.none) (mx:=Option.none) (l:=0) (h:=n) (m:=n) rfl rfl rfl (Nat.zero_le _) (Nat.le_refl _) (Nat.le_refl _) (by simp)
 have ha0:a.add 0=a:=by simp[Addr.add]
 simp[Instr.sliceAt,underlying,program,Sem.run,ht,hx,Instr.sureAddr,e1,sizeOf,typeInfo,hi,hn,ha0]
end
theorem NetAt.one{w:World}{cs:List Value}{N:NetL}(h:NetAt w cs N):cs.length=4∧∀v∈cs,one v=true:=by
 obtain⟨hv,rv,rfl,h1,h2⟩:=h.ex
 refine⟨rfl,fun v hv=>?_⟩
 simp at hv
 rcases hv with rfl|rfl|rfl|rfl
 ·exact h1.isOne
 ·exact h2.isOne
 ·rfl
 ·rfl
theorem zmn{w0 w:World}(hE0:Ext w0 w){cs:List Value}{N:NetL}{s:Int}{q:Nm}{qv:Value}(hN:NetAt w0 cs N)(hG:NetZ N)(hq:Row w qv (q.map vs))(mq:NmM q):
  Fn Tryz.prog 148 #[.agg cs.toArray,vi s,qv] w (fun v w'=>v= .tuple #[vi (zcx N s q).1,.bool (zcx N s q).2]∧Ext w w'):=by
 obtain⟨hv,rv,rfl,hh,hr⟩:=hN.ex
 have e1:=hh.isOne
 have e2:=hr.isOne
 obtain⟨ah,ch,hhv,_⟩:=hh.open
 obtain⟨ar,cr,hrv,_⟩:=id hr
 obtain⟨aq,cq,hqv,_⟩:=id hq
 have ql:=mq.len
 refine enter Tryz.func148 Tryz.ntmps148 rfl rfl ?_
 repeat refine c_r ?_
 rw[hhv,hrv,hqv]
 refine rg0 ?_
 rw[←hhv,←hrv,←hqv]
 repeat refine c_r ?_
 rw[zai]
 refine zaO ?_
 intro w1 hE1 hs1 hA hC
 refine rq ?_;intro gd K hgd hK
 try simp only[go_sem]
 rw[zai]
 refine st_al2 ?_
 intro w2 hE2 hs2 h8 h9
 refine zaY (P:=Tryz.prog) (t:=3) (j:=0) (u:=vi 0) (l:=[vi 0]) h8 (by simp) rfl rfl rfl ?_
 intro w3 hs3 h8' hk3
 try simp only[go_sem]
 refine zaY (P:=Tryz.prog) (t:=3) (j:=0) (u:=vi (-1)) (l:=[vi 0]) ((hk3.block _ (by omega) (by omega)).trans h9) (by simp) rfl rfl rfl ?_
 intro w4 hs4 h9' hk4
 try simp only[go_sem]
 refine hK _ _ ?_;clear hK hgd;clear K;try clear gd
 simp only[List.set_cons_zero]at h8' h9'
 obtain⟨b8,hb8⟩:∃b,w1.heap.size=b:=⟨_,rfl⟩
 rw[hb8]at h8 h8' h9 h9' hk3 hk4 hs2 ⊢
 have hE3:=Keep.to_ext (hE1.trans hE2) rfl (fun b hb=>by omega) hk3
 have hE4:=Keep.to_ext hE3 rfl (fun b hb=>by omega) hk4
 have g8:=(hk4.block _ (by omega) (by omega)).trans h8'
 have gA:=(hk4.block _ (by omega) (by omega)).trans ((hk3.block _ (by omega) (by omega)).trans (Ext.at hE2 hA))
 have gC:=(hk4.block _ (by omega) (by omega)).trans ((hk3.block _ (by omega) (by omega)).trans (Ext.at hE2 hC))
 clear h8 h8' h9 hk3 hk4 hE3 hE2 hE1 hA hC
 have d4:=zah (n:=4) (l:=[hv,rv,vi N.rw,vi N.rf]) gA rfl
 have p5:zae w4 (some ⟨w.heap.size+1,0,Option.none⟩)=some qv:=zab gC rfl
 have hb8w:w.heap.size+2≤b8:=by omega
 repeat refine c_r ?_
 refine rc d4 (zones_ok w4) ?_
 rintro _ w5 ⟨rfl,hE5,hs5,hbn,hbs⟩
 refine re trivial ?_
 repeat refine c_r ?_
 have hE05:=hE0.trans (hE4.trans hE5)
 refine zdN (g:=240) (cap:=#[.pointer (some ⟨w4.heap.size+1,0,Option.none⟩),.pointer (some ⟨w4.heap.size,0,Option.none⟩)]) (vq0) rfl (zonesIt (C:=fun b=>b=b8∨b=b8+1) hE05 hbs hbn hh (fun b hb=>by have:=hE0.size;omega) hG) (Keep.refl _ _) (Nat.le_refl _) (fun b hb=>by omega) (fun x A args h=>by obtain⟨_,_,e,_⟩:=h;rw[e];rfl)
  (fun pre A=>Ext w A∧A.heap[b8]? =some (.cells #[vi (pre.foldl (zaR q) (0, -1)).1] 3 (0,0))∧A.heap[b8+1]? =some (.cells #[vi (pre.foldl (zaR q) (0, -1)).2] 3 (0,0))∧A.heap[w.heap.size+1]? =some (.cells #[qv] 27 (0,0)))
  (fun _ _ _=>False) ?_ (fun _ _ _ _ h _=>h.elim) ?_ ?_ ?_ (fun _ _ _ _ _ _ _ h _=>h.elim)
 ·rintro pre A B ⟨h1,h2,h3,h4⟩ hk
  have f:∀{b:Nat} {O:Obj},A.heap[b]? =some O→b<w5.heap.size→B.heap[b]? =some O:=fun h hb=>(hk.block _ (Array.getElem?_eq_some_iff.1 h).1 (by unfold two;omega)).trans h
  exact⟨Keep.to_ext h1 rfl (fun b hb=>by unfold two at hb;omega) hk,f h2 (by omega),f h3 (by omega),f h4 (by omega)⟩
 ·exact⟨hE4.trans hE5,Ext.at hE5 g8,Ext.at hE5 h9',Ext.at hE5 gC⟩
 ·rintro lp pre y suf A args hxs hszA ⟨hEA,k8,k9,k5⟩ ⟨ov,lv,rfl,ho,hr⟩
  obtain⟨B,hB⟩:∃B,pre.foldl (zaR q) (0, -1)=B:=⟨_,rfl⟩
  have hfo:(pre++ [y]).foldl (zaR q) (0, -1)=zaR q B y:=by rw[List.foldl_append,List.foldl_cons,List.foldl_nil,hB]
  rw[hB]at k8 k9
  have gz:GoodZ y.2:=by
   have hm:y∈numZ 0 (N.zones s):=hxs▸(by simp)
   obtain⟨i,hi,rfl⟩:=List.mem_iff_getElem.1 hm
   have hi':=hi
   rw[zce]at hi'
   rw[zeW hi']
   exact(zeh hG).1 _ (List.getElem_mem hi')
  have mo:=gz.m
  have ol:=mo.len
  repeat (first|refine c_r ?_|refine rg0 ?_)
  refine rq ?_;intro gd K hgd hK
  try simp only[go_sem]
  refine za2 (P:=Tryz.prog) (l:=[ov,lv]) rfl (zei ho.isOne hr.isOne) rfl rfl ?_
  intro A1 hE6 hs6 hB6
  try simp only[go_sem]
  refine hK _ _ ?_;clear hK hgd;clear K;try clear gd
  refine zau ?_
  refine⟨rfl,zcI hE6 (by omega),fun Y hY=>?_⟩
  have f:∀{b:Nat} {O:Obj},A1.heap[b]? =some O→¬two w5.heap.size b→Y.heap[b]? =some O:=fun h hb=>(hY.block _ (Array.getElem?_eq_some_iff.1 h).1 hb).trans h
  have y8:=f (Ext.at hE6 k8) (by unfold two;omega)
  have y9:=f (Ext.at hE6 k9) (by unfold two;omega)
  have y5:=f (Ext.at hE6 k5) (by unfold two;omega)
  have y6:=f hB6 (by unfold two;omega)
  have hEY:Ext w Y:=Keep.to_ext (hEA.trans hE6) rfl (fun b hb=>by unfold two at hb;omega) hY
  have hsY:=hY.size
  have q8:zae Y (some ⟨b8,0,Option.none⟩)=some (vi B.1):=zab y8 rfl
  have q9:zae Y (some ⟨b8+1,0,Option.none⟩)=some (vi B.2):=zab y9 rfl
  have q5:zae Y (some ⟨w.heap.size+1,0,Option.none⟩)=some qv:=zab y5 rfl
  have q6:zae Y (some ⟨A.heap.size,0,Option.none⟩)=some ov:=zab y6 rfl
  obtain⟨ao,co,hov,_⟩:=id ho
  have holen:(y.2.o.map vs).length=y.2.o.length:=by simp
  rw[holen]at hov
  clear y5 y6
  repeat refine c_r ?_
  refine rcg [(4,21)] (an3 q5 q6 Nat.add_zero) (zcN Y qv ov q y.2.o (hq.ext hEY) (ho.ext (hE0.trans hEY)) mq.LB mo.LB (by omega) (by omega)) ?_
  rintro _ Z ⟨rfl,hZ⟩
  have z6:=zaa hZ q6
  have z9:=zaa hZ q9
  rw[hov]at z6
  have hEZ:=hEY.trans hZ
  have z8':=Ext.at hZ y8
  have z9':=Ext.at hZ y9
  have z5':=Ext.at hZ (f (Ext.at hE6 k5) (by unfold two;omega))
  have hkZ:KeepB (w5.heap.size+2) (fun b=>b=b8∨b=b8+1) Y Z:=zcI hZ (by omega)
  obtain⟨u,hu⟩:∃u,zaQ q y.2.o=u:=⟨_,rfl⟩
  rw[hu]
  have hstay:(u=true∧B.2<(y.2.o.length:Int))∨zaR q B y=B:=by
   by_cases h:u=true∧B.2<(y.2.o.length:Int)
   ·exact .inl h
   ·exact .inr (by unfold zaR;rw[hu,if_neg h])
  cases u with
  |false=>
   have hst:zaR q B y=B:=hstay.resolve_left (fun h=>by cases h.1)
   refine reg [(4,21)] trivial ?_
   repeat refine c_r ?_
   refine wf trivial ?_
   repeat refine c_r ?_
   refine⟨⟨hEZ,?_,?_,z5'⟩,hkZ⟩
   ·rw[hfo,hst];exact z8'
   ·rw[hfo,hst];exact z9'
  |true=>
   refine reg [(4,21)] (an3 z6 z9 Nat.add_zero) ?_
   repeat refine c_r ?_
   by_cases hgt:B.2<(y.2.o.length:Int)
   ·refine wt (decide_eq_true hgt) ?_
    have hst:zaR q B y=((y.1:Int),(y.2.o.length:Int)):=by unfold zaR;rw[hu,if_pos ⟨rfl,hgt⟩]
    repeat refine c_r ?_
    refine zaJ (fun i=>i==5) [(0,true),(1,true),(2,true),(3,true),(4,false),(5,false)] ((fun i=>i=b8∨i=b8+1)) mixed (by kernel_rfl) ?_;intro gd K x hgd hx hxe hK;have hx0:=zh2 hxe;clear hxe
    have z6x:=zaa hx0 z6
    have hsZ:=hZ.size
    have hsx:=hx0.size
    simp (disch:=first|omega|assumption|rfl) only[go_sem,z6x,Nat.add_zero]
    refine⟨fun a ha hb=>by cases ha;dsimp only at hb;omega,?_⟩
    refine zaY (P:=Tryz.prog) (t:=3) (j:=0) (u:=vi y.1) (l:=[vi B.1]) (Ext.at hx0 z8') (by simp) rfl rfl rfl ?_
    intro Z1 hsZ1 h8' hkZ1
    refine⟨.inr (hkZ1.mono fun i _ h=> .inl h),?_⟩
    simp (disch:=first|omega|assumption|rfl) only[go_sem]
    refine zaY (P:=Tryz.prog) (t:=3) (j:=0) (u:=vi y.2.o.length) (l:=[vi B.2]) ((hkZ1.block _ (by omega) (by omega)).trans (Ext.at hx0 z9')) (by simp) rfl rfl rfl ?_
    intro Z2 hsZ2 h9' hkZ2
    refine⟨.inl rfl,?_⟩
    simp (disch:=first|omega|assumption|rfl) only[go_sem]
    refine hK _ _ ?_;clear hK hgd;clear K;try clear gd
    have z5x:=Ext.at hx0 z5'
    repeat refine c_r ?_
    refine⟨⟨Keep.to_ext (Keep.to_ext (hEZ.trans hx0) rfl (fun b hb=>by omega) hkZ1) rfl (fun b hb=>by omega) hkZ2,?_,?_,?_⟩,(hkZ.trans (zcI hx0 (by omega))).trans ((hkZ1.toB (by omega) (fun i _ h=> .inl h)).trans (hkZ2.toB (by omega) (fun i _ h=> .inr h)))⟩
    ·rw[hfo,hst];exact(hkZ2.block _ (by omega) (by omega)).trans h8'
    ·rw[hfo,hst];exact h9'
    ·exact(hkZ2.block _ (by omega) (by omega)).trans ((hkZ1.block _ (by omega) (by omega)).trans z5x)
   ·refine wf (decide_eq_false hgt) ?_
    have hst:zaR q B y=B:=hstay.resolve_left (fun h=>hgt h.2)
    repeat refine c_r ?_
    refine⟨⟨hEZ,?_,?_,z5'⟩,hkZ⟩
    ·rw[hfo,hst];exact z8'
    ·rw[hfo,hst];exact z9'
 ·intro A hszA ⟨hEA,k8,k9,_⟩ hD
  have q8:zae A (some ⟨b8,0,Option.none⟩)=some (vi (zlW q (N.zones s)).1):=zab k8 rfl
  have q9:zae A (some ⟨b8+1,0,Option.none⟩)=some (vi (zlW q (N.zones s)).2):=zab k9 rfl
  repeat refine c_r ?_
  refine zaJ (fun _=>false) [(0,true),(1,true),(2,true),(3,true),(4,true)] NoS mixed (by kernel_rfl) ?_;intro gd K x hgd hx hxe hK;clear hxe
  have q8x:=zaa hx q8
  have q9x:=zaa hx q9
  simp (disch:=first|omega|assumption|rfl) only[go_sem,q8x,q9x]
  refine hK _ _ ?_;clear hK hgd;clear K;try clear gd
  repeat refine c_r ?_
  refine zkG (v:=vi (zcx N s q).1) (v':= .bool (zcx N s q).2) (.inr rfl) (by rfl) Tryz.ntmps148 (vr0) (vr0) (Ext.at hx hD) ?_
  intro Z hkZ hsZ
  exact⟨rfl,Keep.to_ext (hEA.trans hx) rfl (fun b hb=>by omega) hkZ⟩
theorem zl3{w0 w:World}(hE0:Ext w0 w){cs:List Value}{N:NetL}{s:Int}{q:Nm}{qv:Value}(hN:NetAt w0 cs N)(hG:NetZ N)(hq:Row w qv (q.map vs))(mq:NmM q):
  Fn Tryz.prog 150 #[.agg cs.toArray,vi s,qv] w (fun v w'=>v= .bool (zcx N s q).2∧Ext w w'):=by
 have hN0:=hN
 obtain⟨hv,rv,rfl,hh,hr⟩:=hN.ex
 obtain⟨ah,ch,hhv,_⟩:=hh.open
 obtain⟨ar,cr,hrv,_⟩:=id hr
 refine enter Tryz.func150 Tryz.ntmps150 rfl rfl ?_
 repeat refine c_r ?_
 rw[hhv,hrv]
 refine rg0 ?_
 rw[←hhv,←hrv]
 repeat refine c_r ?_
 refine zaB ?_
 intro w1 hE1 hs1 hA
 have d:=zah (n:=4) (l:=[hv,rv,vi N.rw,vi N.rf]) hA rfl
 repeat refine c_r ?_
 refine rc d (zmn (s:=s) (hE0.trans hE1) hN0 hG (hq.ext hE1) mq) ?_
 rintro _ w2 ⟨rfl,hE2⟩
 refine re trivial ?_
 repeat refine c_r ?_
 refine rg0 ?_
 repeat refine c_r ?_
 refine rt0 Tryz.ntmps150 ?_
 exact⟨rfl,hE1.trans hE2⟩
theorem zone_at{w:World}{hv:Value}{N:NetL}{s k:Int}{z:zcq}(hh:Rows 6 (HostC w) w hv N.hosts)(hz:(N.zones s)[k.toNat]? =some z)(hk:0≤k):
  ∃(i j:Nat) (ah:Addr) (ch:Nat) (xi x5 az:Addr) (cz nz:Nat) (xz:Addr) (ov lv:Value),s=(i:Int)∧k=(j:Int)∧i<N.hosts.length∧j<nz∧hv= .slice (some ah) N.hosts.length ch∧adr (some ah) (i*6)=some xi∧adr (some xi) 5=some x5∧zae w (some x5)=some (.slice (some az) nz cz)∧adr (some az) (j*2)=some xz∧
   zas w (some xz) 2=some [ov,lv]∧Row w ov (z.o.map vs)∧Rows 7 (RecAt w) w lv z.recs:=by
 unfold NetL.zones at hz
 split at hz
 ·simp at hz
 rename_i hs
 cases hh':N.hosts[s.toNat]? with
 |none=>rw[hh']at hz;simp at hz
 |some h=>
  rw[hh']at hz
  dsimp only at hz
  obtain⟨hi,hhi⟩:=List.getElem?_eq_some_iff.1 hh'
  obtain⟨hj,hzj⟩:=List.getElem?_eq_some_iff.1 hz
  obtain⟨ah,ch,rfl,_,hgh⟩:=hh.open
  obtain⟨cs,hcs,hH⟩:=hgh _ hi
  rw[hhi]at hH
  obtain⟨nv,b1,b2,b3,b4,zv,rfl,_,_,hzr⟩:=hH.ex
  obtain⟨az,cz,rfl,_,hgz⟩:=hzr.open
  obtain⟨c2,hc2,hZ⟩:=hgz _ hj
  rw[hzj]at hZ
  obtain⟨ov,lv,rfl,ho,hr⟩:=hZ.ex
  obtain⟨xh,rfl⟩:=Option.isSome_iff_exists.1 (zaq hcs)
  obtain⟨xz,rfl⟩:=Option.isSome_iff_exists.1 (zaq hc2)
  obtain⟨xi,hxi⟩:∃xi,adr (some xh) (s.toNat*6)=some xi:=⟨_,rfl⟩
  obtain⟨x5,hx5⟩:∃x,adr (some xi) 5=some x:=⟨_,rfl⟩
  obtain⟨xk,hxk⟩:∃xi,adr (some xz) (k.toNat*2)=some xi:=⟨_,rfl⟩
  rw[hxi]at hcs
  rw[hxk]at hc2
  exact⟨s.toNat,k.toNat,xh,ch,xi,x5,xz,cz,_,xk,ov,lv,by omega,by omega,hi,hj,rfl,hxi,hx5,by rw[←hx5];exact zax hcs rfl,hxk,hc2,ho,hr⟩
theorem ones5{a b c:Value}{k:Int}{d:Bool}(ha:one a=true)(hb:one b=true)(hc:one c=true):∀v∈ [vi k,a,b,.bool d,c],one v=true:=fun v h=>by
 simp at h
 rcases h with rfl|rfl|rfl|rfl|rfl<;>first|assumption|rfl
theorem nil_res{w0 w:World}{B:Nat}{k:Int}{b:Bool}:ResB w0 B w [vi k,.slice Option.none 0 0,.slice Option.none 0 0,.bool b,.slice Option.none 0 0] ⟨k,[],[],b,[]⟩:=
 ⟨_,_,_,rfl,Rows.nil _ _ _,BlkB.nil,.inr (zbd _),Rows.nil _ _ _,BlkB.nil⟩
theorem Ask_ok{w0 w:World}(hE0:Ext w0 w){cs:List Value}{N:NetL}{s:Int}{q:Nm}{qv:Value}{t:Int}(hN:NetAt w0 cs N)(hG:NetZ N)(hq:Row w qv (q.map vs))(mq:NmM q):
  Fn Tryz.prog 93 #[.agg cs.toArray,vi s,qv,vi t] w (fun v w'=>Ext w w'∧∃cs,v= .agg cs.toArray∧ResB w0 w.heap.size w' cs (askN N s q t)):=by
 have hN0:=hN
 obtain⟨hv,rv,rfl,hh,hr⟩:=hN.ex
 obtain⟨ah,ch,hhv,_⟩:=hh.open
 obtain⟨ar,cr,hrv,_⟩:=id hr
 refine enter Tryz.func93 Tryz.ntmps93 rfl rfl ?_
 repeat refine c_r ?_
 rw[hhv,hrv]
 refine rg0 ?_
 rw[←hhv,←hrv]
 repeat refine c_r ?_
 rw[zai]
 refine zaO ?_
 intro w1 hE1 hs1 hA hC
 have d:=zah (n:=4) (l:=[hv,rv,vi N.rw,vi N.rf]) hA rfl
 repeat refine c_r ?_
 refine rc d (zmn (s:=s) (hE0.trans hE1) hN0 hG (hq.ext hE1) mq) ?_
 rintro _ w2 ⟨rfl,hE2⟩
 refine re trivial ?_
 have hE02:=hE0.trans (hE1.trans hE2)
 have hC2:=Ext.at hE2 hC
 have d2:=zad hE2 d
 repeat refine c_r ?_
 refine rg0 ?_
 repeat refine c_r ?_
 cases hb:(zcx N s q).2 with
 |false=>
  have hk:askN N s q t=⟨7,[],[],false,[]⟩:=by unfold askN;rw[hb];rfl
  refine wt trivial ?_
  repeat refine c_r ?_
  refine rq ?_;intro gd K hgd hK
  try simp only[go_sem]
  refine⟨by kernel_rfl,?_⟩
  rw[show bdV Tryz.prog 184 [(0,vi 7)]=some (.agg #[vi 7,.slice Option.none 0 0,.slice Option.none 0 0,.bool false,.slice Option.none 0 0]) from by kernel_rfl]
  try simp only[go_sem]
  refine zaM (P:=Tryz.prog) (t:=184) (l:=[vi 7,.slice Option.none 0 0,.slice Option.none 0 0,.bool false,.slice Option.none 0 0]) hC2 rfl (ones5 rfl rfl rfl) rfl rfl ?_
  intro z hz' hbz hkz
  try simp only[go_sem]
  refine hK _ _ ?_;clear hK hgd;clear K;try clear gd
  repeat refine c_r ?_
  refine zaE (.inr rfl) Tryz.ntmps93 rfl (zaZ (x:=⟨w.heap.size+1,0,Option.none⟩) (k:=5) (vq0) rfl rfl (zah hbz rfl) zaz) ?_
  exact⟨Keep.to_ext (hE1.trans hE2) rfl (fun b hb=>by omega) hkz,_,rfl,by rw[hk];exact nil_res⟩
 |true=>
  obtain⟨hk0,hk1⟩:=bestN_in hb
  obtain⟨z,hz⟩:∃z,(N.zones s)[(zcx N s q).1.toNat]? =some z:=⟨_,List.getElem?_eq_getElem (by omega)⟩
  have hk:askN N s q t=zbl z.o z.recs q t:=by unfold askN;rw[hb,hz];rfl
  have gz:=(zeh hG).1 z (List.mem_of_getElem? hz)
  obtain⟨i,j,xh,c1,xi,x5,az,cz,nz,xz,ov,lv,rfl,hkj,hi,hj,rfl,hxi,hx5,pz,hxz,dz,ho,hl⟩:=zone_at hh hz hk0
  rw[hkj]
  refine wf trivial ?_
  have p0:zae w2 (some ⟨w.heap.size,0,Option.none⟩)=some (.slice (some xh) N.hosts.length c1):=zab (Ext.at hE2 hA) rfl
  have pz2:=zaa hE02 pz
  have dz2:=zad hE02 dz
  have i0:(0:Int)≤(i:Int):=by omega
  have i1:(i:Int)<(N.hosts.length:Int):=by omega
  have j0:(0:Int)≤(j:Int):=by omega
  have j1:(j:Int)<(nz:Int):=by omega
  repeat refine c_r ?_
  refine rq ?_;intro gd K hgd hK
  try simp (disch:=first|omega|assumption|rfl) only[go_sem,p0,i0,i1,j0,j1,hxi,hx5,pz2,hxz,dz2,Nat.add_zero]
  refine Fn.mono (Zone_ok (t:=t) (gz.zn hE02 (ho.ext hE02) (hl.ext hE02)) gz.c.gd (hq.ext (hE1.trans hE2)) mq) ?_
  rintro _ w3 ⟨hE3,cs,rfl,hres⟩
  try simp only[go_sem]
  refine zaM (P:=Tryz.prog) (t:=184) (l:=cs) (Ext.at hE3 hC2) hres.cells.1 hres.cells.2 (by rw[hres.cells.1];rfl) rfl ?_
  intro z hz' hbz hkz
  try simp only[go_sem]
  refine hK _ _ ?_;clear hK hgd;clear K;try clear gd
  repeat refine c_r ?_
  refine zaE (.inr rfl) Tryz.ntmps93 rfl (zaZ (x:=⟨w.heap.size+1,0,Option.none⟩) (k:=5) (vq0) rfl rfl (zah hbz hres.cells.1.symm) zaz) ?_
  have hs2:=hE2.size
  exact⟨Keep.to_ext (hE1.trans (hE2.trans hE3)) rfl (fun b hb=>by omega) hkz,_,rfl,by rw[hk];exact(hres.keep hkz (fun b h1 _ h2=>by omega)).mono (by omega)⟩
structure TellD(w0 w:World)(g:FuncId)(cap:List Value)(p:DatL→Bool)(R:List DatL):Prop where
 call:zan Tryz.prog g=true
 tell:∀(A:World) (cs:List Value) (r:DatL),Ext w A→r∈R→DatAt w0 cs r→Fn Tryz.prog g (.agg cs.toArray::cap).toArray A (fun v A'=>v= .bool (p r)∧Ext A A')
theorem zmi{w0 w:World}{lv:Value}{R:List DatL}{g:FuncId}{cap:List Value}{p:DatL→Bool}(hl:Rows 5 (DatAt w0) w lv R)(ht:TellD w0 w g cap p R)(hlen:R.length≤1000000000):
  Fn Tryz.prog 284 #[lv,.func (.func g) #[] cap.toArray] w (fun v w'=>Ext w w'∧∃i:Int,v=vi i∧decide (i≥0)=R.any p):=by
 obtain⟨hcal,htell⟩:=ht
 obtain⟨aR,cR,rfl,hcR,hgR⟩:=hl.open
 refine enter Tryz.func284 Tryz.ntmps284 rfl rfl ?_
 repeat refine c_r ?_
 refine rg0 ?_
 repeat refine c_r ?_
 refine rg0 ?_
 repeat refine c_r ?_
 refine zam (fun m σ ds A=>ds=[]∧∃(i:Nat),i+m=R.length∧σ 8=vi i∧σ 7=vi R.length∧σ 0= .slice aR R.length cR∧σ 1= .func (.func g) #[] cap.toArray∧Ext w A∧∀j (h:j<R.length),j<i→p R[j]=false) R.length ?_ ?_
 ·exact⟨rfl,0,by omega,vr0,vq0,vq0,vq0,Keep.refl _ _,fun j h hj=>absurd hj (by omega)⟩
 rintro m σ ds A ⟨rfl,i,him,h8,h7,h0,h1,hEA,hlow⟩
 repeat refine c_r ?_
 refine rg2 h8 h7 ?_
 repeat refine c_r ?_
 refine wc0 ?_ ?_
 ·intro hlt
  simp only[decide_eq_true_eq]at hlt
  have hiR:i<R.length:=by omega
  have hi0:(0:Int)≤(i:Int):=by omega
  have hi1:(i:Int)<(R.length:Int):=by omega
  have hi1':(i:Int)+1=((i+1:Nat):Int):=by push_cast;rfl
  obtain⟨cr,hcr,hRr⟩:=hgR i hiR
  obtain⟨xR,rfl⟩:=Option.isSome_iff_exists.1 (zaq hcr)
  have hcrA:=zad hEA hcr
  repeat refine c_r ?_
  refine rg1 h8 ?_
  repeat refine c_r ?_
  refine rq ?_;intro gd K hgd hK
  try simp (disch:=first|omega|assumption|rfl) only[go_sem,h0,h1,hi0,hi1,hcrA]
  refine zbB hcal (Fn.mono (htell A cr R[i] hEA (List.getElem_mem hiR) hRr) ?_)
  rintro _ A1 ⟨rfl,hE1⟩
  try simp only[go_sem]
  refine hK _ _ ?_;clear hK hgd;clear K;try clear gd
  repeat refine c_r ?_
  refine wc0 ?_ ?_
  ·intro ht
   repeat (first|refine c_r ?_|refine rg0 ?_)
   refine rt0 Tryz.ntmps284 ?_
   refine⟨hEA.trans hE1,_,rfl,?_⟩
   rw[show R.any p=true from List.any_eq_true.2 ⟨_,List.getElem_mem hiR,ht⟩]
   exact decide_eq_true (by omega)
  ·intro ht
   repeat refine c_r ?_
   refine rg2 h8 hi1' ?_
   repeat refine c_r ?_
   refine⟨m - 1,by omega,rfl,i+1,by omega,vq0,(vq1 h7),(vq1 h0),(vq1 h1),hEA.trans hE1,fun j hj hji=>?_⟩
   by_cases hj2:j=i
   ·subst hj2;exact ht
   ·exact hlow j hj (by omega)
 ·intro hge
  simp only[decide_eq_false_iff_not]at hge
  repeat (first|refine c_r ?_|refine rg0 ?_)
  refine rt0 Tryz.ntmps284 ?_
  refine⟨hEA,_,rfl,?_⟩
  have:R.any p=false:=by
   rw[List.any_eq_false]
   intro x hx
   obtain⟨j,hj,rfl⟩:=List.getElem_of_mem hx
   rw[hlow j hj (by omega)];exact Bool.false_ne_true
  rw[this];rfl
theorem zeN{w0 w:World}{lv:Value}{R:List DatL}{g:FuncId}{cap:List Value}{p:DatL→Bool}(hl:Rows 5 (DatAt w0) w lv R)(ht:TellD w0 w g cap p R)(hlen:R.length≤1000000000):
  Fn Tryz.prog 254 #[lv,.func (.func g) #[] cap.toArray] w (fun v w'=>v= .bool (R.any p)∧Ext w w'):=by
 refine enter Tryz.func254 Tryz.ntmps254 rfl rfl ?_
 repeat refine c_r ?_
 refine rg0 ?_
 repeat refine c_r ?_
 refine rq ?_;intro gd K hgd hK
 try simp only[go_sem]
 refine Fn.mono (zmi hl ht hlen) ?_
 rintro _ w1 ⟨hE1,i,rfl,hi⟩
 try simp only[go_sem]
 refine hK _ _ ?_;clear hK hgd;clear K;try clear gd
 repeat refine c_r ?_
 refine rt0 Tryz.ntmps254 ?_
 exact⟨by rw[hi],hE1⟩
theorem zmo(w:World)(a b:Value)(xs ys:List UInt8)(ha:Row w a (xs.map zaf))(hb:Row w b (ys.map zaf)):Fn Tryz.prog 257 #[a,b] w (fun v w'=>v= .bool (decide (xs=ys))∧w'=w):=by
 obtain⟨a1,c1,rfl,_,h1⟩:=ha
 obtain⟨a2,c2,rfl,_,h2⟩:=hb
 simp only[List.length_map]at h1 h2 ⊢
 refine enter Tryz.func257 Tryz.ntmps257 rfl rfl ?_
 repeat refine c_r ?_
 refine rg0 ?_
 repeat refine c_r ?_
 refine rq ?_;intro gd K hgd hK
 try simp only[go_sem]
 refine zb3 (l:=xs) rfl rfl rfl (vq0) (fun j hj=>by have:=h1 j (by simpa using hj);simpa using this) ?_
 try simp only[go_sem]
 refine zb3 (l:=ys) rfl rfl rfl (vq0) (fun j hj=>by have:=h2 j (by simpa using hj);simpa using this) ?_
 try simp only[go_sem]
 refine hK _ _ ?_;clear hK hgd;clear K;try clear gd
 repeat refine c_r ?_
 refine rt0 Tryz.ntmps257 ?_
 exact⟨rfl,rfl⟩
def isA(d:DatL):Bool:=decide (d.ty=1)
def isG(addr:List UInt8)(d:DatL):Bool:=isA d && decide (d.raw=addr)
theorem IsA_ok{w0 A:World}{cs:List Value}{r:DatL}(hcs:DatAt w0 cs r):Fn Tryz.prog 253 #[.agg cs.toArray] A (fun v A'=>v= .bool (isA r)∧Ext A A'):=by
 obtain⟨nm,nu,tx,rw',rfl,h1,h2,h3,h4⟩:=hcs.ex
 refine enter Tryz.func253 Tryz.ntmps253 rfl rfl ?_
 repeat refine c_r ?_
 refine rg0 ?_
 repeat refine c_r ?_
 refine zaB ?_
 intro w1 hE1 hs1 hA
 have p0:zae w1 (some ⟨A.heap.size,0,Option.none⟩)=some (vi r.ty):=zab hA rfl
 refine rg2 p0 Nat.add_zero ?_
 repeat refine c_r ?_
 refine rt0 Tryz.ntmps253 ?_
 exact⟨rfl,hE1⟩
theorem tell_A{w0 w:World}{ds:List DatL}:TellD w0 w 253 [] isA ds:=⟨rfl,fun A cs r _ _ hcs=>IsA_ok hcs⟩
theorem tell_G{w0 w:World}{bf bh:Nat}{nv zv:Value}{a b c d:UInt8}{ds:List DatL}(hE0:Ext w0 w)(hf:w.heap[bf]? =some (.cells #[.func (.func 253) #[] #[]] 352 (0,0)))(hh:w.heap[bh]? =some (.cells #[nv,zaf a,zaf b,zaf c,zaf d,zv] 116 (0,0))):
  TellD w0 w 256 [.pointer (some ⟨bf,0,Option.none⟩),.pointer (some ⟨bh,0,Option.none⟩)] (isG [a,b,c,d]) ds:=by
 refine⟨rfl,fun A cs r hE hr hcs=>?_⟩
 have hcs0:=hcs
 obtain⟨nm,nu,tx,rw',rfl,h1,h2,h3,h4⟩:=hcs.ex
 obtain⟨vals,⟨a1,c1,rfl,_⟩,_⟩:=id h1
 obtain⟨a2,c2,rfl,_⟩:=id h2
 obtain⟨a3,c3,rfl,_⟩:=id h3
 obtain⟨a4,c4,hrw,_⟩:=id h4
 refine enter Tryz.func256 Tryz.ntmps256 rfl rfl ?_
 repeat refine c_r ?_
 rw[hrw]
 refine rg0 ?_
 rw[←hrw]
 repeat refine c_r ?_
 refine zaB ?_
 intro w1 hE1 hs1 hA
 have hE01:=hE0.trans (hE.trans hE1)
 have pf:zae w1 (some ⟨bf,0,Option.none⟩)=some (.func (.func 253) #[] #[]):=zab (Ext.at (hE.trans hE1) hf) rfl
 have hhA:=Ext.at (hE.trans hE1) hh
 have d5:=zah (n:=5) (l:=[vi r.ty,_,_,_,rw']) hA rfl
 have p4:zae w1 (some ⟨A.heap.size,4,Option.none⟩)=some rw':=zab hA rfl
 have hadr:Row w1 (.slice (some ⟨bh,1,Option.none⟩) 4 4) ([a,b,c,d].map zaf):=⟨some ⟨bh,1,Option.none⟩,4,rfl,Nat.le_refl _,fun j hj=>by
  have hj4:j<4:=by simpa using hj
  have:adr (some ⟨bh,1,Option.none⟩) j=some ⟨bh,1+j,Option.none⟩:=by simp[adr,Addr.add]
  rw[this]
  refine zab hhA ?_
  match j,hj4 with
  |0,_=>rfl
  |1,_=>rfl
  |2,_=>rfl
  |3,_=>rfl⟩
 repeat refine c_r ?_
 refine zaJ (fun _=>false) [(0,true),(1,true),(2,false),(3,true),(4,true),(5,true),(6,true),(7,false),(8,false),(9,true),(10,true)] NoS mixed (by kernel_rfl) ?_;intro gd K x hgd hx hxe hK;clear hxe
 have hg3:∀n σ b,zav gd n σ (some (3,b))=zal (ev n σ (.tmp 8)) b:=(fun n σ b=>by rw[zac,show gd 3=some 8 from(by rw[hgd];rfl)];rfl)
 have pfx:=zaa hx pf
 have d5x:=zad hx d5
 have p4x:=zaa hx p4
 simp (disch:=first|omega|assumption|rfl) only[go_sem,pfx,d5x]
 refine Fn.mono (IsA_ok hcs0) ?_
 rintro _ y1 ⟨rfl,hy1⟩
 refine⟨.inr hy1,?_⟩
 have p4y:=zaa hy1 p4x
 cases hai:isA r with
 |false=>
  simp (disch:=first|omega|assumption|rfl) only[go_sem,↓hg3]
  refine hK _ _ ?_;clear hK hgd;clear K;try clear gd
  repeat refine c_r ?_
  refine rt0 Tryz.ntmps256 ?_
  exact⟨by unfold isG;rw[hai];rfl,(hE1.trans hx).trans hy1⟩
 |true=>
  simp (disch:=first|omega|assumption|rfl) only[go_sem,p4y,↓hg3]
  refine op_slA rfl (by decide) (by kernel_rfl) (vq0) ?_
  refine⟨.inr (Keep.refl _ _),?_⟩
  simp (disch:=first|omega|assumption|rfl) only[go_sem,↓hg3]
  refine Fn.mono (zmo _ _ _ _ _ (h4.ext ((hE01.trans hx).trans hy1)) (hadr.ext (hx.trans hy1))) ?_
  rintro _ _ ⟨rfl,rfl⟩
  refine⟨.inr (Keep.refl _ _),?_⟩
  simp (disch:=first|omega|assumption|rfl) only[go_sem,↓hg3]
  refine hK _ _ ?_;clear hK hgd;clear K;try clear gd
  repeat refine c_r ?_
  refine rt0 Tryz.ntmps256 ?_
  exact⟨by unfold isG;rw[hai];rfl,(hE1.trans hx).trans hy1⟩
end Go.Proofs.YtahbdamijngmmaaGreat
namespace Go.Proofs.YtahbdamijngmmaaGreat.P_ci
open Go Go.Proofs.YtahbdamijngmmaaGreat
set_option maxRecDepth 10000
theorem Clip_ok{w:World}{a:Option Addr}{n c:Nat}(hc:n≤c):Fn Tryz.prog 90 #[.slice a n c] w (fun u w'=>u= .slice a n n∧w'=w):=by
 refine enter Tryz.func90 Tryz.ntmps90 rfl rfl ?_
 repeat refine c_r ?_
 refine rg0 ?_
 repeat refine c_r ?_
 refine rq ?_;intro gd K hgd hK
 try simp only[go_sem]
 have hcl:slD Tryz.prog (some (TypeDesc.slice 3)) (Value.slice a n c) Option.none (some (Value.int IntKind.i64 ↑n)) (some (Value.int IntKind.i64 ↑n))=some (.slice a n n):=zdU hc (by rfl)
 rw[hcl]
 try simp only[go_sem]
 refine hK _ _ ?_;clear hK hgd;clear K;try clear gd
 repeat refine c_r ?_
 refine rt0 Tryz.ntmps90 ?_
 exact⟨rfl,rfl⟩
end Go.Proofs.YtahbdamijngmmaaGreat.P_ci
namespace Go.Proofs.YtahbdamijngmmaaGreat
open Go
set_option maxRecDepth 10000
structure TellH(w0 w:World)(g:FuncId)(cap:List Value)(p:zex→Bool)(R:List zex):Prop where
 call:zan Tryz.prog g=true
 tell:∀(A:World) (cs:List Value) (r:zex),Ext w A→r∈R→HostC w0 cs r→Fn Tryz.prog g (.agg cs.toArray::cap).toArray A (fun v A'=>v= .bool (p r)∧Ext A A')
theorem HostC.one{w:World}{cs:List Value}{h:zex}(hc:HostC w cs h):cs.length=6∧∀v∈cs,one v=true:=by
 obtain⟨nv,a,b,c,d,zv,rfl,_,h1,h2⟩:=hc.ex
 refine⟨rfl,fun v hv=>?_⟩
 simp at hv
 rcases hv with rfl|rfl|rfl|rfl|rfl|rfl<;>first|exact h1.isOne|exact h2.isOne|rfl
theorem tell_N{w0 w:World}{bn:Nat}{hv:Value}{host:Nm}{R:List zex}(hE0:Ext w0 w)(hb:w.heap[bn]? =some (.cells #[hv] 27 (0,0)))(hh:Row w0 hv (host.map vs))(mh:NmM host)(hR:∀h∈R,NmM h.name):
  TellH w0 w 252 [.pointer (some ⟨bn,0,Option.none⟩)] (fun h=>decide (zaj h.name=zaj host)) R:=by
 refine⟨rfl,fun A cs r hE hr hcs=>?_⟩
 obtain⟨nv,a,b,c,d,zv,rfl,_,h1,h2⟩:=hcs.ex
 have mr:=hR r hr
 have l1:=mr.len
 have l2:=mh.len
 have e1:=h1.isOne
 have e2:=h2.isOne
 obtain⟨a1,c1,hnv,_⟩:=id h1
 obtain⟨a2,c2,hzv,_⟩:=h2.open
 refine enter Tryz.func252 Tryz.ntmps252 rfl rfl ?_
 repeat refine c_r ?_
 rw[hnv,hzv]
 refine rg0 ?_
 rw[←hnv,←hzv]
 repeat refine c_r ?_
 refine zaB ?_
 intro w1 hE1 hs1 hA
 have p0:zae w1 (some ⟨A.heap.size,0,Option.none⟩)=some nv:=zab hA rfl
 have p1:zae w1 (some ⟨bn,0,Option.none⟩)=some hv:=zab (Ext.at (hE.trans hE1) hb) rfl
 have hE01:=hE0.trans (hE.trans hE1)
 repeat refine c_r ?_
 refine rc (an3 p0 p1 Nat.add_zero) (zew w1 nv hv r.name host (h1.ext hE01) (hh.ext hE01) mr.LB mh.LB (by omega) (by omega)) ?_
 rintro _ w2 ⟨rfl,hE2⟩
 refine re trivial ?_
 repeat refine c_r ?_
 refine rt0 Tryz.ntmps252 ?_
 exact⟨rfl,hE1.trans hE2⟩
theorem tell_M{w0 w:World}{bg bf:Nat}{gv:Value}{glue:List DatL}{R:List zex}(hE0:Ext w0 w)(hb:w.heap[bg]? =some (.cells #[gv] 181 (0,0)))(hf:w.heap[bf]? =some (.cells #[.func (.func 253) #[] #[]] 352 (0,0)))(hg:Rows 5 (DatAt w0) w gv glue)(hgl:glue.length≤1000000000):
  TellH w0 w 255 [.pointer (some ⟨bg,0,Option.none⟩),.pointer (some ⟨bf,0,Option.none⟩)] (fun h=>glue.any (isG h.addr)) R:=by
 refine⟨rfl,fun A cs r hE hr hcs=>?_⟩
 obtain⟨nv,a,b,c,d,zv,rfl,ha,h1,h2⟩:=hcs.ex
 obtain⟨a1,c1,hnv,_⟩:=id h1
 obtain⟨a2,c2,hzv,_⟩:=h2.open
 refine enter Tryz.func255 Tryz.ntmps255 rfl rfl ?_
 repeat refine c_r ?_
 rw[hnv,hzv]
 refine rg0 ?_
 rw[←hnv,←hzv]
 repeat refine c_r ?_
 refine zaB ?_
 intro w1 hE1 hs1 hA
 have p1:zae w1 (some ⟨bg,0,Option.none⟩)=some gv:=zab (Ext.at (hE.trans hE1) hb) rfl
 have hE01:=hE0.trans (hE.trans hE1)
 repeat refine c_r ?_
 refine rc p1 (zeN (hg.ext (hE.trans hE1)) (tell_G hE01 (Ext.at (hE.trans hE1) hf) hA) hgl) ?_
 rintro _ w2 ⟨rfl,hE2⟩
 refine re trivial ?_
 repeat refine c_r ?_
 refine rt0 Tryz.ntmps255 ?_
 exact⟨by rw[ha],hE1.trans hE2⟩
def zc0(host:Nm)(glue:List DatL)(h:zex):Bool:=if glue.any isA=true then glue.any (isG h.addr) else decide (zaj h.name=zaj host)
def zcW{α:Type}(p:α→Bool):Nat→List α→List Int
 |_,[]=>[]
 |i,h::l=>(if p h=true then [(i:Int)] else [])++zcW p (i+1) l
def zk8(N:NetL)(host:Nm)(glue:List DatL):List Int:=zcW (zc0 host glue) 0 N.hosts
theorem zhz{α:Type}{p:α→Bool}:∀{l m:List α} {i:Nat},zcW p i (l++m)=zcW p i l++zcW p (i+l.length) m
 | [],m,i=>by simp[zcW]
 |h::l,m,i=>by
  simp only[List.cons_append,zcW,List.append_assoc]
  rw[zhz (l:=l),List.length_cons,show i+1+l.length=i+(l.length+1) from by omega]
theorem zjL{α:Type}{p:α→Bool}{l:List α}{i:Nat}(hi:i<l.length):zcW p 0 (l.take (i+1))=zcW p 0 (l.take i)++if p l[i]=true then [(i:Int)] else []:=by
 rw[zap hi,zhz]
 simp only[zcW,List.append_nil,List.length_take]
 rw[show 0+min i l.length=i from by omega]
theorem zfm{α:Type}{p:α→Bool}:∀{l:List α} {i:Nat},(zcW p i l).length≤l.length
 | [],i=>by simp[zcW]
 |h::l,i=>by
  have:=zfm (p:=p) (l:=l) (i:=i+1)
  simp only[zcW,List.length_append,List.length_cons]
  split<;>simp<;>omega
theorem Meant_ok{w0 w:World}(hE0:Ext w0 w){cs:List Value}{N:NetL}{host:Nm}{hv gv:Value}{glue:List DatL}(hN:NetAt w0 cs N)(hG:NetZ N)(hh:Row w0 hv (host.map vs))(mh:NmM host)(hg:Rows 5 (DatAt w0) w gv glue)(hgl:glue.length≤1000000000):
  Fn Tryz.prog 205 #[.agg cs.toArray,hv,gv] w (fun v w'=>Ext w w'∧Row w' v ((zk8 N host glue).map vi)∧BlkB w.heap.size w' v):=by
 obtain⟨hs,rs,rfl,hhs,hr⟩:=hN.ex
 obtain⟨ah,ch,rfl,hch,hgh⟩:=hhs.open
 obtain⟨ar,cr,hrv,_⟩:=id hr
 obtain⟨a1,c1,hnv,_⟩:=id hh
 obtain⟨a2,c2,hgv,_⟩:=hg.open
 have hl:=hG.hl
 refine enter Tryz.func205 Tryz.ntmps205 rfl rfl ?_
 repeat refine c_r ?_
 rw[hrv,hnv,hgv]
 refine rg0 ?_
 rw[←hrv,←hnv,←hgv]
 repeat refine c_r ?_
 rw[zai,zai,zai]
 refine zdt ?_
 intro w1 hE1 hs1 hA hB hC
 repeat refine c_r ?_
 refine rg0 ?_
 repeat refine c_r ?_
 refine rq ?_;intro gd K hgd hK
 try simp only[go_sem]
 refine st_al1 ?_
 intro w2 hE2 hs2 hD
 refine zaY (P:=Tryz.prog) (t:=352) (j:=0) (u:= .func (.func 253) #[] #[]) (l:=[_]) hD (by simp) rfl rfl rfl ?_
 intro w3 hs3 hD3 hk3
 try simp only[go_sem]
 refine hK _ _ ?_;clear hK hgd;clear K;try clear gd
 simp only[List.set_cons_zero]at hD3
 obtain⟨b8,hb8⟩:∃b,w1.heap.size=b:=⟨_,rfl⟩
 rw[hb8]at hD3 hk3 hs2 ⊢
 have hE3:Ext w w3:=Keep.to_ext (hE1.trans hE2) rfl (fun b hb=>by omega) hk3
 have up:∀{b:Nat} {O:Obj},w1.heap[b]? =some O→w3.heap[b]? =some O:=fun {b O} h=>(hk3.block _ (by have:=(Array.getElem?_eq_some_iff.1 h).1;omega) (by have:=(Array.getElem?_eq_some_iff.1 h).1;omega)).trans (Ext.at hE2 h)
 have p0:zae w3 (some ⟨w.heap.size,0,Option.none⟩)=some (.slice ah N.hosts.length ch):=zab (up hA) rfl
 have pC:zae w3 (some ⟨w.heap.size+1+1,0,Option.none⟩)=some gv:=zab (up hC) rfl
 have pD:zae w3 (some ⟨b8,0,Option.none⟩)=some (.func (.func 253) #[] #[]):=zab hD3 rfl
 repeat refine c_r ?_
 refine rc (an2 pC pD) (zeN (hg.ext hE3) tell_A hgl) ?_
 rintro _ w4 ⟨rfl,hE4⟩
 refine re trivial ?_
 have hE34:=hE3.trans hE4
 have hE04:=hE0.trans hE34
 repeat refine c_r ?_
 refine zay (Q:=fun e σ' ds' v'=>e= .normal∧ds'=[]∧v'=w4∧σ' 3= .pointer (some ⟨w.heap.size,0,Option.none⟩)∧∃g cap,σ' 7= .func (.func g) #[] cap.toArray∧TellH w0 w4 g cap (zc0 host glue) N.hosts) ?_ ?_
 ·cases hany:glue.any isA with
  |true=>
   refine wt trivial ?_
   repeat refine c_r ?_
   refine rg0 ?_
   have hp:zc0 host glue=fun h=>glue.any (isG h.addr):=funext fun h=>by unfold zc0;rw[hany];rfl
   exact⟨rfl,rfl,rfl,vq0,255,[.pointer (some ⟨w.heap.size+1+1,0,Option.none⟩),.pointer (some ⟨b8,0,Option.none⟩)],vr0,by rw[hp];exact tell_M hE04 (Ext.at hE4 (up hC)) (Ext.at hE4 hD3) (hg.ext hE34) hgl⟩
  |false=>
   refine wf trivial ?_
   repeat refine c_r ?_
   have hp:zc0 host glue=fun h=>decide (zaj h.name=zaj host):=funext fun h=>by unfold zc0;rw[hany];rfl
   exact⟨rfl,rfl,rfl,vq0,252,[.pointer (some ⟨w.heap.size+1,0,Option.none⟩)],vr0,by rw[hp];exact tell_N hE04 (Ext.at hE4 (up hB)) hh mh hG.nm⟩
 rintro _ σ1 _ w5 ⟨rfl,rfl,rfl,h3,g,cap,h7,htell⟩
 have p0':=zaa hE4 p0
 repeat refine c_r ?_
 refine rg0 ?_
 repeat refine c_r ?_
 refine rg3 h3 p0' Nat.add_zero ?_
 repeat refine c_r ?_
 refine zam (fun m σ ds A=>ds=[]∧∃(i:Nat) (ov:Value),i+m=N.hosts.length∧σ 20=vi i∧σ 19=vi N.hosts.length∧σ 18= .slice ah N.hosts.length ch∧σ 7= .func (.func g) #[] cap.toArray∧σ 9=ov∧Own w5.heap.size A 3 ov ((zcW (zc0 host glue) 0 (N.hosts.take i)).map vi)∧Ext w5 A) N.hosts.length ?_ ?_
 ·exact⟨rfl,0,.slice Option.none 0 0,by omega,vr0,vq0,vq0,(vq1 h7),vq0,Own.nil _ _ _,Keep.refl _ _⟩
 rintro m σ ds A ⟨rfl,i,ov,him,s20,s19,s18,s7,s9,hown,hEA⟩
 repeat refine c_r ?_
 refine rg2 s20 s19 ?_
 repeat refine c_r ?_
 refine wc0 ?_ ?_
 ·intro hlt
  simp only[decide_eq_true_eq]at hlt
  have hi:i<N.hosts.length:=by omega
  have hi0:(0:Int)≤(i:Int):=by omega
  have hi1':(i:Int)+1=((i+1:Nat):Int):=by push_cast;rfl
  obtain⟨cs,hcs,hH⟩:=hgh i hi
  obtain⟨xz,rfl⟩:=Option.isSome_iff_exists.1 (zaq hcs)
  obtain⟨xi,hxi⟩:∃xi,adr (some xz) (i*6)=some xi:=⟨_,rfl⟩
  rw[hxi]at hcs
  obtain⟨hc6,hc1⟩:=hH.one
  have d:=zad (hE04.trans hEA) hcs
  repeat refine c_r ?_
  refine rq ?_;intro gd K hgd hK
  try simp (disch:=first|omega|assumption|rfl) only[go_sem,s20,s18,hi0,hlt,hxi,d]
  refine za2 (P:=Tryz.prog) (l:=cs) (by rw[hc6];rfl) hc1 (by rw[hc6];rfl) rfl ?_
  intro A1 hE6 hs6 hB6
  try simp only[go_sem]
  refine hK _ _ ?_;clear hK hgd;clear K;try clear gd
  have d1:=zah (n:=6) hB6 hc6.symm
  repeat refine c_r ?_
  refine rq ?_;intro gd K hgd hK
  try simp (disch:=first|omega|assumption|rfl) only[go_sem,s7,d1]
  refine zbB htell.call (Fn.mono (htell.tell A1 cs N.hosts[i] (hEA.trans hE6) (List.getElem_mem hi) hH) ?_)
  rintro _ A2 ⟨rfl,hE7⟩
  try simp only[go_sem]
  refine hK _ _ ?_;clear hK hgd;clear K;try clear gd
  have hE67:=hE6.trans hE7
  have hown2:=hown.ext hE67
  have hpk:=zjL (p:=zc0 host glue) hi
  have hlen:=zfm (p:=zc0 host glue) (l:=N.hosts.take i) (i:=0)
  have hsz:=(hEA.trans hE67).size
  repeat refine c_r ?_
  refine zay (Q:=fun e σ' ds' v'=>e= .normal∧ds'=[]∧σ' 20=vi i∧σ' 19=vi N.hosts.length∧σ' 18= .slice (some xz) N.hosts.length ch∧σ' 7= .func (.func g) #[] cap.toArray∧∃ov',σ' 9=ov'∧Own w5.heap.size v' 3 ov' ((zcW (zc0 host glue) 0 (N.hosts.take (i+1))).map vi)∧Ext w5 v') ?_ ?_
  ·cases hb:zc0 host glue N.hosts[i] with
   |false=>
    rw[hb,if_neg (by decide),List.append_nil]at hpk
    refine wf trivial ?_
    repeat refine c_r ?_
    exact⟨rfl,rfl,(vq1 s20),(vq1 s19),(vq1 s18),(vq1 s7),ov,(vq1 s9),by rw[hpk];exact hown2,hEA.trans hE67⟩
   |true=>
    rw[hb,if_pos rfl]at hpk
    refine wt trivial ?_
    repeat refine c_r ?_
    refine rq ?_;intro gd K hgd hK
    try simp (disch:=first|omega|assumption|rfl) only[go_sem,s9]
    refine zed (z:=vi 0) (by rfl) (by rfl) (by rfl) (by rfl) (by rfl) ?_
    intro A3 hE8 hs8 ho8
    try simp only[go_sem]
    refine zd0 (B:=w5.heap.size) (hown2.ext hE8) ho8.row (by rfl) (by rfl) (by rfl) (by rfl) (by rfl) (by rfl) ((vr1 s9)) (vr0) (fun q hq=>by rw[List.mem_singleton.1 hq];rfl) (by simp at hlen ⊢;omega) (by decide) (by omega) ?_
    intro ov' A4 ho9 hE9 _ _
    try simp only[go_sem]
    refine hK _ _ ?_;clear hK hgd;clear K;try clear gd
    exact⟨rfl,rfl,(vq1 s20),(vq1 s19),(vq1 s18),(vq1 s7),ov',vr0,by rw[hpk,List.map_append];exact ho9,hE9 _ ((hEA.trans hE67).trans hE8) (Nat.le_refl _)⟩
  clear s20 s19 s18 s7 s9
  rintro _ σ2 _ A3 ⟨rfl,rfl,s20,s19,s18,s7,ov',s9,hown3,hE3⟩
  repeat refine c_r ?_
  refine rg2 s20 hi1' ?_
  repeat refine c_r ?_
  exact⟨m - 1,by omega,rfl,i+1,ov',by omega,vq0,(vq1 s19),(vq1 s18),(vq1 s7),(vq1 s9),hown3,hE3⟩
 ·intro hge
  simp only[decide_eq_false_iff_not]at hge
  rw[List.take_of_length_le (by omega)]at hown
  obtain⟨ao,co,hov,hco,hgo⟩:=hown.row
  rw[hov]at s9
  repeat refine c_r ?_
  refine rc s9 (P_ci.Clip_ok hco) ?_
  rintro _ A1 ⟨rfl,rfl⟩
  refine re trivial ?_
  repeat refine c_r ?_
  refine rt0 Tryz.ntmps205 ?_
  exact⟨hE34.trans hEA,⟨ao,_,rfl,Nat.le_refl _,hgo⟩,((hov▸hown.blk).same).mono hE34.size⟩
end Go.Proofs.YtahbdamijngmmaaGreat
namespace Go.Proofs.YtahbdamijngmmaaGreat.P_st
open Go Go.Proofs.YtahbdamijngmmaaGreat
set_option maxRecDepth 10000
theorem Clip_ok{w:World}{a:Option Addr}{n c:Nat}(hc:n≤c):Fn Tryz.prog 147 #[.slice a n c] w (fun u w'=>u= .slice a n n∧w'=w):=by
 refine enter Tryz.func147 Tryz.ntmps147 rfl rfl ?_
 repeat refine c_r ?_
 refine rg0 ?_
 repeat refine c_r ?_
 refine rq ?_;intro gd K hgd hK
 try simp only[go_sem]
 have hcl:slD Tryz.prog (some (TypeDesc.slice 80)) (Value.slice a n c) Option.none (some (Value.int IntKind.i64 ↑n)) (some (Value.int IntKind.i64 ↑n))=some (.slice a n n):=zdU hc (by rfl)
 rw[hcl]
 try simp only[go_sem]
 refine hK _ _ ?_;clear hK hgd;clear K;try clear gd
 repeat refine c_r ?_
 refine rt0 Tryz.ntmps147 ?_
 exact⟨rfl,rfl⟩
end Go.Proofs.YtahbdamijngmmaaGreat.P_st
namespace Go.Proofs.YtahbdamijngmmaaGreat
open Go
set_option maxRecDepth 10000
structure zak where
 sv:Int
 name:Nm
 rw:Int
 rf:Int
 ref:Bool
 fin:Int
def stV(nv:Value)(s:zak):List Value:=[vi s.sv,nv,vi s.rw,vi s.rf,.bool s.ref,vi s.fin]
def StN(nv:Value)(cs:List Value)(s:zak):Prop:=cs=stV nv s∧one nv=true
structure StC(w:World)(cs:List Value)(s:zak):Prop where
 ex:∃nv,cs=stV nv s∧Row w nv (s.name.map vs)
theorem zbZ{nv:Value}{s:zak}(h:one nv=true):∀v∈stV nv s,one v=true:=fun v hv=>by
 unfold stV at hv
 simp at hv
 rcases hv with rfl|rfl|rfl|rfl|rfl|rfl<;>first|assumption|rfl
theorem zcC(nv:Value):zeQ 6 (StN nv):=⟨fun h=>by rw[h.1];rfl,fun h=>by rw[h.1];exact zbZ h.2⟩
theorem StC.ext{w x:World}{cs:List Value}{s:zak}(h:StC w cs s)(hE:Ext w x):StC x cs s:=by
 obtain⟨nv,e,h1⟩:=h.ex
 exact⟨nv,e,h1.ext hE⟩
theorem stC_of{w:World}{nv:Value}{v:Value}{l:List zak}(h:Rows 6 (StN nv) w v l)(hn:∀s∈l,Row w nv (s.name.map vs)):Rows 6 (StC w) w v l:=by
 obtain⟨L,h1,h2,h3⟩:=h
 exact⟨L,h1,h2,fun i h h'=>⟨nv,(h3 i h h').1,hn _ (List.getElem_mem h')⟩⟩
def endS(s:zak)(k:Int):List zak:=[{s with fin:=k}]
def zck(N:NetL)(s:zak):List zak:=N.roots.map fun r=>{s with sv:=r}
theorem zja{s x:zak}{k:Int}(h:x∈endS s k):x.name=s.name:=by
 unfold endS at h;rw[List.mem_singleton.1 h]
def StF(B:Nat)(ok:Value→Prop)(w:World)(v:Value)(L:List zak):Prop:=BlkB B w v∧∃u,ok u∧Rows 6 (StN u) w v L∧∀s∈L,Row w u (s.name.map vs)
theorem StF.c{B:Nat}{ok:Value→Prop}{w:World}{v:Value}{L:List zak}(h:StF B ok w v L):Rows 6 (StC w) w v L:=by
 obtain⟨_,u,_,h1,h2⟩:=h
 exact stC_of h1 h2
theorem StF.mono{B B':Nat}{ok ok':Value→Prop}{w:World}{v:Value}{L:List zak}(h:StF B ok w v L)(hB:B'≤B)(hok:∀u,ok u→ok' u):StF B' ok' w v L:=by
 obtain⟨h0,u,h1,h2⟩:=h
 exact⟨h0.mono hB,u,hok u h1,h2⟩
theorem zcj{B:Nat}{nv:Value}{s:zak}{k:Int}{w:World}{v:Value}(h:Rows 6 (StN nv) w v (endS s k)∧BlkB B w v)(hr:Row w nv (s.name.map vs)):StF B (fun u=>u=nv) w v (endS s k):=
 ⟨h.2,nv,rfl,h.1,fun x hx=>by rw[zja hx];exact hr⟩
theorem zcJ(w:World){nv:Value}{l:List Value}(hr:Row w nv l)(s:zak)(k:Int):
  Fn Tryz.prog 94 #[.agg (stV nv s).toArray,vi k] w (fun v w'=>Ext w w'∧Rows 6 (StN nv) w' v (endS s k)∧BlkB w.heap.size w' v):=by
 have h1:=hr.isOne
 obtain⟨an,cn,hnv,_⟩:=hr
 unfold stV
 rw[hnv]
 refine enter Tryz.func94 Tryz.ntmps94 rfl rfl ?_
 repeat refine c_r ?_
 refine rg0 ?_
 rw[←hnv]
 repeat refine c_r ?_
 refine zaB ?_
 intro w1 hE1 hs1 hA
 refine rq ?_;intro gd K hgd hK
 try simp only[go_sem]
 refine zaY (P:=Tryz.prog) (t:=3) (j:=5) (u:=vi k) (l:=stV nv s) hA (by show 5<6;decide) rfl rfl rfl ?_
 intro w2 hs2 hA2 hk2
 try simp only[go_sem]
 refine hK _ _ ?_;clear hK hgd;clear K;try clear gd
 have hE2:=Keep.to_ext hE1 rfl (fun b hb=>by omega) hk2
 have d:zas w2 (some ⟨w.heap.size,0,Option.none⟩) 6=some (stV nv {s with fin:=k}):=zah hA2 rfl
 repeat refine c_r ?_
 refine rq ?_;intro gd K hgd hK
 try simp (disch:=first|omega|assumption|rfl) only[go_sem,d]
 refine zbg (C:=StN nv) (zcC nv) (l:=stV nv {s with fin:=k}) (by rfl) (by rfl) (by rfl) (by rfl) ⟨rfl,h1⟩ (by decide) ?_
 intro w3 hE3 hs3 ho3
 try simp only[go_sem]
 refine hK _ _ ?_;clear hK hgd;clear K;try clear gd
 repeat refine c_r ?_
 refine rt0 Tryz.ntmps94 ?_
 exact⟨hE2.trans hE3,ho3.rows,ho3.blk.mono hE2.size⟩
theorem zi2{w0 w:World}(hE0:Ext w0 w){cs:List Value}{N:NetL}(hN:NetAt w0 cs N)(hrl:N.roots.length≤1000){nv:Value}{l:List Value}(hr:Row w nv l)(s:zak):
  Fn Tryz.prog 92 #[.agg cs.toArray,.agg (stV nv s).toArray] w (fun v w'=>Ext w w'∧Rows 6 (StN nv) w' v (zck N s)∧BlkB w.heap.size w' v):=by
 have h1:=hr.isOne
 obtain⟨an,cn,hnv,_⟩:=hr
 obtain⟨hv,rv,rfl,hh,hro⟩:=hN.ex
 obtain⟨ah,ch,hhv,_⟩:=hh.open
 obtain⟨ar,cr,rfl,hcr,hgr⟩:=hro
 simp only[List.length_map]at hcr hgr
 unfold stV
 rw[hnv,hhv]
 refine enter Tryz.func92 Tryz.ntmps92 rfl rfl ?_
 repeat refine c_r ?_
 refine rq ?_;intro gd K hgd hK;simp (disch:=first|omega|assumption|rfl) only[go_sem,List.length_map];refine hK _ _ ?_;clear hK hgd;clear K gd
 rw[←hnv,←hhv]
 repeat refine c_r ?_
 rw[zai]
 refine zaO ?_
 intro w1 hE1 hs1 hA hC
 have p1:zae w1 (some ⟨w.heap.size,1,Option.none⟩)=some (.slice ar N.roots.length cr):=zab hA rfl
 repeat refine c_r ?_
 refine rg0 ?_
 repeat refine c_r ?_
 refine rg2 p1 Nat.zero_add ?_
 repeat refine c_r ?_
 obtain⟨b3,hb3⟩:∃b,w.heap.size+1=b:=⟨_,rfl⟩
 rw[hb3]at hC ⊢
 refine zam (fun m σ ds A=>ds=[]∧∃(i:Nat) (ov:Value) (s':zak),i+m=N.roots.length∧σ 11=vi i∧σ 10=vi N.roots.length∧σ 9= .slice ar N.roots.length cr∧σ 3= .pointer (some ⟨b3,0,Option.none⟩)∧σ 5=ov∧A.heap[b3]? =some (.cells (stV nv s').toArray 80 (0,0))∧(∃k,s'={s with sv:=k})∧
  Owns 6 (StN nv) w1.heap.size A 80 ov ((N.roots.take i).map fun r=>{s with sv:=r})∧Ext w A∧w1.heap.size≤A.heap.size) N.roots.length ?_ ?_
 ·exact⟨rfl,0,.slice Option.none 0 0,s,by omega,vr0,vq0,vq0,vq0,vq0,hC,⟨s.sv,rfl⟩,Owns.nil _ _ _ _ _,hE1,Nat.le_refl _⟩
 rintro m σ ds A ⟨rfl,i,ov,s',him,s11,s10,s9,s3,s5,hB,⟨k0,hs'⟩,hown,hEA,hsz⟩
 repeat refine c_r ?_
 refine rg2 s11 s10 ?_
 repeat refine c_r ?_
 refine wc0 ?_ ?_
 ·intro hlt
  simp only[decide_eq_true_eq]at hlt
  have hi:i<N.roots.length:=by omega
  have hi0:(0:Int)≤(i:Int):=by omega
  have hi1':(i:Int)+1=((i+1:Nat):Int):=by push_cast;rfl
  have hg:=zaa (hE0.trans hEA) (hgr i hi)
  rw[List.getElem_map]at hg
  obtain⟨xz,rfl⟩:=Option.isSome_iff_exists.1 (zag (hgr 0 (by omega)))
  have hszA:=hEA.size
  repeat refine c_r ?_
  refine rq ?_;intro gd K hgd hK;simp (disch:=first|omega|assumption|rfl) only[go_sem,s11,s9,hi0,hlt,hg,Nat.mul_one];refine hK _ _ ?_;clear hK hgd;clear K gd
  repeat refine c_r ?_
  refine rq ?_;intro gd K hgd hK
  try simp (disch:=first|omega|assumption|rfl) only[go_sem,s3]
  refine zaY (P:=Tryz.prog) (t:=3) (j:=0) (u:=vi N.roots[i]) (l:=stV nv s') hB (by show 0<6;decide) rfl rfl rfl ?_
  intro A1 hs6 hB1 hk1
  try simp only[go_sem]
  refine hK _ _ ?_;clear hK hgd;clear K;try clear gd
  have hB1':A1.heap[b3]? =some (.cells (stV nv {s with sv:=N.roots[i]}).toArray 80 (0,0)):=by rw[hs']at hB1;exact hB1
  have hE1':=Keep.to_ext hEA rfl (fun b hb=>by omega) hk1
  have d:zas A1 (some ⟨b3,0,Option.none⟩) 6=some (stV nv {s with sv:=N.roots[i]}):=zah hB1' rfl
  have hown1:=hown.keep hk1 (fun b hb hb2=>by have:=(hown.ge hb).1;omega)
  repeat refine c_r ?_
  refine rq ?_;intro gd K hgd hK
  try simp (disch:=first|omega|assumption|rfl) only[go_sem,s5,s3,d]
  refine zbg (C:=StN nv) (zcC nv) (l:=stV nv {s with sv:=N.roots[i]}) (by rfl) (by rfl) (by rfl) (by rfl) ⟨rfl,h1⟩ (by decide) ?_
  intro A2 hE7 hs7 ho7
  try simp only[go_sem]
  refine zaV (zcC nv) (hown1.ext hE7) ho7.rows (by rfl) (by rfl) (by rfl) (by rfl) (by rfl) (by rfl) (by decide) ((vr1 s5)) (vr0) (by simp;omega) (by decide) (by omega) ?_
  intro ov' A3 ho8 hE8 hk8 _
  try simp only[go_sem]
  refine hK _ _ ?_;clear hK hgd;clear K;try clear gd
  have hsz3:=hk8.size
  repeat refine c_r ?_
  refine rg2 s11 hi1' ?_
  repeat refine c_r ?_
  refine⟨m - 1,by omega,rfl,i+1,ov',{s with sv:=N.roots[i]},by omega,vq0,(vq1 s10),(vq1 s9),(vq1 s3),vq0,?_,⟨_,rfl⟩,?_,hE8 w (hE1'.trans hE7) (by omega),by omega⟩
  ·refine(hk8.block _ (by omega) (fun hb=>?_)).trans (Ext.at hE7 hB1')
   have:=(hown1.ge hb).1;omega
  ·rw[zap hi,List.map_append];exact ho8
 ·intro hge
  simp only[decide_eq_false_iff_not]at hge
  have hfull:(N.roots.take i).map (fun r=>({s with sv:=r}:zak))=zck N s:=by rw[List.take_of_length_le (by omega)];rfl
  rw[hfull]at hown
  obtain⟨ao,co,hov,hco,_⟩:=hown.rows.open
  rw[hov]at s5 hown
  repeat refine c_r ?_
  refine rc s5 (P_st.Clip_ok hco) ?_
  rintro _ A1 ⟨rfl,rfl⟩
  refine re trivial ?_
  repeat refine c_r ?_
  refine rt0 Tryz.ntmps92 ?_
  have:=hown.rows.take (m:=(zck N s).length) (c2:=(zck N s).length) (Nat.le_refl _) (Nat.le_refl _)
  rw[List.take_length]at this
  exact⟨hEA,this,hown.blk.same.mono (by have:=hE1.size;omega)⟩
theorem zfM{w0 w:World}(hE0:Ext w0 w){cs:List Value}{N:NetL}(hN:NetAt w0 cs N)(hrl:N.roots.length≤1000){nv:Value}{q:Nm}(hq:Row w nv (q.map vs)):
  Fn Tryz.prog 44 #[.agg cs.toArray,nv] w (fun v w'=>Ext w w'∧StF w.heap.size (fun u=>u=nv) w' v (zck N ⟨0,q,0,0,false,0⟩)):=by
 have hN0:=hN
 obtain⟨hv,rv,rfl,hh,hr⟩:=hN.ex
 obtain⟨ah,ch,hhv,_⟩:=hh.open
 obtain⟨ar,cr,hrv,_⟩:=id hr
 obtain⟨an,cn,hnv,_⟩:=id hq
 refine enter Tryz.func44 Tryz.ntmps44 rfl rfl ?_
 repeat refine c_r ?_
 rw[hhv,hrv,hnv]
 refine rg0 ?_
 rw[←hhv,←hrv,←hnv]
 repeat refine c_r ?_
 refine zaB ?_
 intro w1 hE1 hs1 hA
 have d:=zah (n:=4) (l:=[hv,rv,vi N.rw,vi N.rf]) hA rfl
 repeat refine c_r ?_
 refine rq ?_;intro gd K hgd hK
 try simp (disch:=first|omega|assumption|rfl) only[go_sem,d]
 refine⟨by kernel_rfl,?_⟩
 rw[hnv,show bdV Tryz.prog 80 [(1,.slice an (q.map vs).length cn)]=some (.agg #[vi 0,.slice an (q.map vs).length cn,vi 0,vi 0,.bool false,vi 0]) from by kernel_rfl,←hnv]
 try simp only[go_sem]
 refine Fn.mono (zi2 (hE0.trans hE1) hN0 hrl (hq.ext hE1) ⟨0,q,0,0,false,0⟩) ?_
 rintro v w2 ⟨hE2,hrs⟩
 try simp only[go_sem]
 refine hK _ _ ?_;clear hK hgd;clear K;try clear gd
 repeat refine c_r ?_
 refine rt0 Tryz.ntmps44 ?_
 exact⟨hE1.trans hE2,hrs.2.mono hE1.size,nv,rfl,hrs.1,fun s hs=>by
  obtain⟨r,_,rfl⟩:=List.mem_map.1 hs
  exact hq.ext (hE1.trans hE2)⟩
theorem Start_ok{w0 w:World}(hE0:Ext w0 w){cs:List Value}{N:NetL}(hN:NetAt w0 cs N)(hrl:N.roots.length≤1000){nv:Value}{q:Nm}(hq:Row w nv (q.map vs)):
  Fn Tryz.prog 44 #[.agg cs.toArray,nv] w (fun v w'=>Ext w w'∧Rows 6 (StC w') w' v (zck N ⟨0,q,0,0,false,0⟩)):=Fn.mono (zfM hE0 hN hrl hq) fun _ _ h=>⟨h.1,h.2.c⟩
theorem zea(l:Lab):(zaS l).length=l.length:=by simp[zaS]
theorem LB.fold{n:Nm}(h:LB n):LB (zaj n):=fun l hl=>by
 simp only[zaj,List.mem_map]at hl
 obtain⟨m,hm,rfl⟩:=hl
 rw[zea];exact h m hm
end Go.Proofs.YtahbdamijngmmaaGreat
