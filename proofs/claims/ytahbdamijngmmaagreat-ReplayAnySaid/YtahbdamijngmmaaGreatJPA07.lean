/-
  Texts of a proof, joined: G3, G4, G5, Y3, F0, F1, G6, G7, V0, K27, K25, V1, K28, V2, V3, V4, M5ci, V5, M5st, V6, R4, KC, KN, K32, O2, K34, O3, O4, W0, W1, W2, V7.
  Conditions: none.
-/
import Derived.Test.YtahbdamijngmmaaGreatJPA06
import Derived.Test.YtahbdamijngmmaaGreatJPA01
import Derived.Test.YtahbdamijngmmaaGreatJPA05
import Derived.Test.YtahbdamijngmmaaGreatJPA03
import Derived.Test.YtahbdamijngmmaaGreatJPA02
import Derived.ProofKit
import Derived.OpenShut
import Derived.SizedLaws
import Derived.Deep.Slices
import Derived.Test.YtahbdamijngmmaaGreatJPA04
set_option linter.unusedVariables false
set_option linter.unusedSimpArgs false
set_option linter.defProp false
set_option linter.unnecessarySimpa false
set_option maxHeartbeats 8000000
namespace Go.Proofs.YtahbdamijngmmaaGreat
open Go
set_option maxRecDepth 10000
theorem DatAt.open{w:World}{cs:List Value}{d:DatL}(h:DatAt w cs d):∃a1 n1 c1 a2 n2 c2 a3 n3 c3 a4 n4 c4,cs=[vi d.ty,.slice a1 n1 c1,.slice a2 n2 c2,.slice a3 n3 c3,.slice a4 n4 c4]:=by
 obtain⟨nm,nu,tx,rw',rfl,⟨vals,⟨an,cn,rfl,_⟩,_⟩,⟨au,cu,rfl,_⟩,⟨at1,ct,rfl,_⟩,⟨ar,cr,rfl,_⟩⟩:=h.ex;exact⟨_,_,_,_,_,_,_,_,_,_,_,_,rfl⟩
theorem DatX.open{w0 A:World}{B:Nat}{nm:Value}{cs:List Value}{d:DatL}(h:DatX w0 B A nm cs d):∃a1 n1 c1 a2 n2 c2 a3 n3 c3 a4 n4 c4,cs=[vi d.ty,.slice a1 n1 c1,.slice a2 n2 c2,.slice a3 n3 c3,.slice a4 n4 c4]:=by
 obtain⟨nu,tx,rw,vals,e,⟨a1,c1,rfl,_⟩,h2,h3,⟨a4,c4,rfl,_⟩,⟨a5,c5,rfl,_⟩,⟨a6,c6,rfl,_⟩⟩:=h.ex;exact⟨_,_,_,_,_,_,_,_,_,_,_,_,e⟩
structure RecX(w0:World)(B:Nat)(A:World)(nm:Value)(cs:List Value)(r:RecL):Prop where
 ex:∃ow ds,cs=ow::v32 r.ttl::ds/\Row w0 ow (r.owner.map vs)/\DatX w0 B A nm ds r.dat
theorem RecX.at{w0 A:World}{B:Nat}{nm:Value}{cs:List Value}{r:RecL}(h:RecX w0 B A nm cs r)(hE:Ext w0 A):RecAt A cs r:=by
 obtain⟨ow,ds,e,h1,h2⟩:=h.ex;exact⟨ow,ds,e,h1.ext hE,h2.at hE⟩
theorem RecX.keep{w0 A x:World}{B:Nat}{nm:Value}{cs:List Value}{r:RecL}(h:RecX w0 B A nm cs r){S:Nat->Prop}(hk:Keep S A x)(hS:∀a n c,nm= .slice (some a) n c->¬S a.block):RecX w0 B x nm cs r:=by
 obtain⟨ow,ds,e,h1,h2⟩:=h.ex;exact⟨ow,ds,e,h1,h2.keep hk hS⟩
theorem RecX.mono{w0 A:World}{B B':Nat}{nm:Value}{cs:List Value}{r:RecL}(h:RecX w0 B A nm cs r)(hB:B'<=B):RecX w0 B' A nm cs r:=by
 obtain⟨ow,ds,e,h1,h2⟩:=h.ex;exact⟨ow,ds,e,h1,h2.mono hB⟩
theorem RecX.blk{w0 A:World}{B:Nat}{nm:Value}{cs:List Value}{r:RecL}(h:RecX w0 B A nm cs r):BlkB B A nm:=by
 obtain⟨ow,ds,e,h1,h2⟩:=h.ex;exact h2.blk
theorem RecX.cells{w0 A:World}{B:Nat}{nm:Value}{cs:List Value}{r:RecL}(h:RecX w0 B A nm cs r):cs.length=7/\∀q∈cs,one q=true:=by
 obtain⟨ow,ds,e,⟨a,c,rfl,_⟩,h2⟩:=h.ex;obtain⟨b1,m1,e1,b2,m2,e2,b3,m3,e3,b4,m4,e4,hds⟩:=h2.open;rw[e,hds];refine⟨rfl,fun q hq=>?_⟩;simp at hq;rcases hq with rfl|rfl|rfl|rfl|rfl|rfl|rfl<;>rfl
theorem zmr{w0 w:World}(hE0:Ext w0 w){cs:List Value}{r:RecL}(hr:RecAt w0 cs r)(hnn:r.dat.names.length<=1000000000):
  Fn Tryz.prog 116 #[.agg cs.toArray] w (fun v w'=>Ext w w'/\∃cs' nm,v= .agg cs'.toArray/\RecX w0 w.heap.size w' nm cs' r):=by
 obtain⟨ow,ds,rfl,h1,h2⟩:=hr.ex;obtain⟨oa,oc,how,_⟩:=id h1;obtain⟨on,hon⟩:∃on,(r.owner.map vs).length=on:=⟨_,rfl⟩;rw[hon]at how;obtain⟨b1,m1,e1,b2,m2,e2,b3,m3,e3,b4,m4,e4,hds⟩:=h2.open;rw[hds,how];refine enter Tryz.func116 Tryz.ntmps116 rfl rfl ?_;refine gz0 ?_;rw[zai];refine zaF ?_;intro w1 hE1 hs1 hA hC;have p0:zad w1 (some ⟨w.heap.size,0,.none⟩)=some (.slice oa on oc):=zab hA rfl;have p1:zad w1 (some ⟨w.heap.size,1,.none⟩)=some (v32 r.ttl):=zab hA rfl;have p2:zan w1 (some ⟨w.heap.size,2,.none⟩) 5=some [vi r.dat.ty,.slice b1 m1 e1,.slice b2 m2 e2,.slice b3 m3 e3,.slice b4 m4 e4]:=by
  have h7:=zae (n:=7) (l:=[.slice oa on oc,v32 r.ttl,vi r.dat.ty,.slice b1 m1 e1,.slice b2 m2 e2,.slice b3 m3 e3,.slice b4 m4 e4]) hA rfl;have:=za9 (m:=2) (k:=5) h7
  rwa [za6]at this
 refine zaJ (fun i=>i==8) [(0,true),(1,true),(2,true),(3,true),(4,true),(5,true),(6,false),(7,true),(8,false)] NoS mixed (by kernel_rfl) ?_;intro gd K x hgd hx hxe hK;clear hxe;have p0x:=zaa hx p0;have p1x:=zaa hx p1;have p2x:=zac hx p2;have hxs:=hx.size;refine sgz (az5 p0x p1x p2x Nat.add_zero yn0) ?_;rw[←hds];refine Fn.mono (DOf_ok (hE0.trans (hE1.trans hx)) h2 hnn) ?_;rintro _ w2 ⟨hE2,cs',nm',rfl,hd'⟩;refine⟨.inr hE2,?_⟩;obtain⟨b1',m1',e1',b2',m2',e2',b3',m3',e3',b4',m4',e4',hds'⟩:=hd'.open;rw[hds'];refine sgz (az5 p0x p1x p2x Nat.add_zero yn0) ?_;refine⟨by kernel_rfl,?_⟩;rw[show bdV Tryz.prog 210 [(0,.slice oa on oc),(1,v32 r.ttl),(2,.agg [vi r.dat.ty,.slice b1' m1' e1',.slice b2' m2' e2',.slice b3' m3' e3',.slice b4' m4' e4'].toArray)]=some (.agg #[.slice oa on oc,v32 r.ttl,vi r.dat.ty,.slice b1' m1' e1',.slice b2' m2' e2',.slice b3' m3' e3',.slice b4' m4' e4']) from by kernel_rfl];refine sg0 ?_;refine zaD (P:=Tryz.prog) (t:=210) (l:=[.slice oa on oc,v32 r.ttl,vi r.dat.ty,.slice b1' m1' e1',.slice b2' m2' e2',.slice b3' m3' e3',.slice b4' m4' e4']) (Ext.at (hx.trans hE2) hC) rfl (fun v h=>by simp at h;rcases h with rfl|rfl|rfl|rfl|rfl|rfl|rfl<;>rfl) rfl rfl ?_;intro z hz' hbz hkz;refine⟨.inl rfl,?_⟩;refine sg0 ?_;refine en hK ?_;refine zat (.inr rfl) Tryz.ntmps116 rfl (zaI (x:=⟨w.heap.size+1,0,.none⟩) (k:=7) vq0 rfl rfl (zae hbz rfl) zap) ?_;have hEz:Ext w z:=Keep.to_ext (hE1.trans (hx.trans hE2)) rfl (fun b hb=>by omega) hkz
 refine⟨hEz,_,nm',rfl,⟨ow,cs',?_,h1,?_⟩⟩
 ·rw[how,hds']
 ·exact(hd'.keep hkz (fun a n c hv=>by have:=hd'.blk a n c hv;omega)).mono (by omega)
abbrev OX:=RecL×(Value×List Value)
def oxC(cs:List Value)(x:OX):Prop:=cs=x.2.2/\cs.length=7/\∀q∈cs,one q=true
theorem zjg:zeD 7 oxC:=⟨fun h=>h.2.1,fun h=>h.2.2⟩
structure OI(w0:World)(B:Nat)(A:World)(ov:Value)(G:List OX):Prop where
 own:Owns 7 oxC B A 210 ov G
 row:∀x∈G,RecX w0 B A x.2.1 x.2.2 x.1/\∀a n c,x.2.1= .slice (some a) n c->some a.block≠ov.ownBlock
theorem OI.ext{w0 A A':World}{B:Nat}{ov:Value}{G:List OX}(h:OI w0 B A ov G)(hE:Ext A A'):OI w0 B A' ov G:=
 ⟨h.own.ext hE,fun x hx=>by
  obtain⟨h1,h2⟩:=h.row x hx;exact⟨h1.keep hE (fun a n c hv h=>h),h2⟩⟩
theorem OI.app{w0 A A':World}{B:Nat}{ov v':Value}{G:List OX}{s:OX}(h:OI w0 B A ov G)(hs:RecX w0 B A s.2.1 s.2.2 s.1/\∀a n c,s.2.1= .slice (some a) n c->some a.block≠ov.ownBlock)
  (ho:Owns 7 oxC B A' 210 v' (G++ [s])) (hk:Keep (fun b=>some b=ov.ownBlock) A A') (hb:∀b,some b=v'.ownBlock->some b=ov.ownBlock\/A.heap.size<=b):OI w0 B A' v' (G++ [s]):=by
 refine⟨ho,fun y hy=>?_⟩;have hy2:RecX w0 B A y.2.1 y.2.2 y.1/\∀a n c,y.2.1= .slice (some a) n c->some a.block≠ov.ownBlock:=by
  rcases List.mem_append.1 hy with hy|hy
  ·exact h.row y hy
  ·rw[List.mem_singleton.1 hy];exact hs
 obtain⟨h1,h2⟩:=hy2;refine⟨h1.keep hk h2,fun a n c hv e=>?_⟩;rcases hb _ e with e|e
 ·exact h2 a n c hv e
 ·have:=(h1.blk a n c hv).2;omega
theorem zif{w0 w:World}(hE0:Ext w0 w){lv:Value}{R:List RecL}(hl:Rows 7 (RecAt w0) w lv R)(hnn:∀r∈R,r.dat.names.length<=1000000000)(hlen:R.length<=1000000000):
  Fn Tryz.prog 64 #[lv] w (fun v w'=>Ext w w'/\∃G:List OX,OI w0 w.heap.size w' v G/\G.map Prod.fst=R):=by
 obtain⟨aR,cR,rfl,hcR,hgR⟩:=hl.open;refine enter Tryz.func64 Tryz.ntmps64 rfl rfl ?_;refine gz0 ?_;refine zao (fun m σ ds A=>ds=[]/\∃(i:Nat) (ov:Value) (G:List OX),i+m=R.length/\σ 4=vi i/\σ 3=ov/\σ 0= .slice aR R.length cR/\Ext w A/\OI w0 w.heap.size A ov G/\G.map Prod.fst=R.take i) R.length ?_ ?_
 ·exact⟨rfl,0,.slice .none 0 0,[],by omega,vr0,vq0,vq0,Keep.refl _ _,⟨Owns.nil _ _ _ _ _,fun x h=>absurd h (by simp)⟩,rfl⟩
 rintro m σ ds A ⟨rfl,i,ov,G,him,h4,h3,h0,hEA,hOI,hG⟩;refine gz (az2 h4 h0) ?_;refine wc0 ?_ ?_
 ·intro hlt;simp only[ydT]at hlt;have hi:i<R.length:=by omega
  have hi0:=cj i;have hi1:(i:Int)<(R.length:Int):=by omega
  have hi1':=ci i;have hGl:G.length=i:=by
   have:=congrArg List.length hG;simp at this;omega
  obtain⟨cr,hcr,hRr⟩:=hgR i hi;obtain⟨r,hr⟩:∃r,R[i]=r:=⟨_,rfl⟩;rw[hr]at hRr;have hrn:=hnn r (hr▸List.getElem_mem hi);obtain⟨xR,rfl⟩:=yxs (zak hcr);obtain⟨xi,hxi⟩:∃xi,adr (some xR) (i*7)=some xi:=⟨_,rfl⟩;rw[hxi]at hcr;have hcA:=zac hEA hcr;refine rqz ?_;intro gd K hgd hK;refine sgz (az7 h3 h0 h4 hi0 hi1 hxi hcA) ?_;refine Fn.mono (zmr (hE0.trans hEA) hRr hrn) ?_;rintro _ A2 ⟨hA2,cs',nm',rfl,hx⟩;have hA2s:=hA2.size;have hEAs:=hEA.size;try simp only[go_sem]
  refine zaR (l:=cs') (a:=((r,(nm',cs')):OX)) zjg rfl rfl rfl rfl ⟨rfl,hx.cells.1,hx.cells.2⟩ (by decide) ?_;intro A3 hA3 hs3 ho3;refine sgz h3 ?_;refine zaG zjg ((hOI.ext hA2).ext hA3).own ho3.rows rfl rfl rfl rfl rfl rfl (by decide) vr0 vr0 (by simp;omega) (by decide) (by omega) ?_;intro v7 A4 ho7 hE7 hk7 hb7;try simp only[go_sem]
  apply hK;have hnew:=((hOI.ext hA2).ext hA3).app (s:=((r,(nm',cs')):OX)) ⟨(hx.keep hA3 (fun a n c hv h=>h)).mono hEAs,fun a n c hv e=>by
   have h8:=(hx.blk a n c hv).1;have h9:=(hOI.own.ge e).2;omega⟩ ho7 hk7 hb7
  refine gz (az2 h4 hi1') ?_;exact⟨m - 1,by omega,rfl,i+1,v7,_,by omega,vq0,vq0,vq1 h0,hE7 w ((hEA.trans hA2).trans hA3) (ynl _),hnew,by rw[List.map_append,hG,zal hi,hr];rfl⟩
 ·intro hge;simp only[ydF]at hge;have hi:i=R.length:=by omega
  rw[hi,List.take_length]at hG;refine gz h3 ?_;refine rt0 Tryz.ntmps64 ?_;exact⟨hEA,G,hOI,hG⟩
theorem OI.rows{w0 A:World}{B:Nat}{ov:Value}{G:List OX}(h:OI w0 B A ov G)(hE:Ext w0 A):Rows 7 (RecAt A) A ov (G.map Prod.fst):=
 h.own.rows.mapM (C':=RecAt A) Prod.fst fun cs x hx hc=>by
  rw[hc.1];exact(h.row x hx).1.at hE
theorem zjM{w0 w:World}(hE0:Ext w0 w){lv:Value}{R:List RecL}(hl:Rows 7 (RecAt w0) w lv R)(hnn:∀r∈R,r.dat.names.length<=1000000000)(hlen:R.length<=1000000000):
  Fn Tryz.prog 64 #[lv] w (fun v w'=>Ext w w'/\Rows 7 (RecAt w') w' v R):=by
 refine Fn.mono (zif hE0 hl hnn hlen) ?_;rintro v w' ⟨hE,G,hOI,rfl⟩;exact⟨hE,hOI.rows (hE0.trans hE)⟩
theorem zic{w0 w:World}(hE0:Ext w0 w){cs:List Value}{r:RecL}(hr:RecAt w0 cs r)(hf:DatF r.dat)(ho:(∀l∈r.owner,l.length<=1000000000)/\r.owner.length<=1000000000):
  Fn Tryz.prog 163 #[.agg cs.toArray] w (fun v w'=>Ext w w'/\∃e:Int,v=vi e/\(e=0->zaA r.owner=0/\(∀n∈r.dat.names,zaA n=0)/\(zgQ r.dat.ty->r.dat.names.length=1))):=by
 obtain⟨ow,ds,rfl,h1,h2⟩:=hr.ex;obtain⟨b1,m1,e1,b2,m2,e2,b3,m3,e3,b4,m4,e4,hds⟩:=h2.open;rw[hds];refine enter Tryz.func163 Tryz.ntmps163 rfl rfl ?_;refine gz0 ?_;refine zax ?_;intro w1 hE1 hs1 hA;have p0:zad w1 (some ⟨w.heap.size,0,.none⟩)=some ow:=zab hA rfl;have p1:zad w1 (some ⟨w.heap.size,1,.none⟩)=some (v32 r.ttl):=zab hA rfl;have p2:zan w1 (some ⟨w.heap.size,2,.none⟩) 5=some ds:=by
  have h7:=zae (n:=7) (l:=[ow,v32 r.ttl,vi r.dat.ty,.slice b1 m1 e1,.slice b2 m2 e2,.slice b3 m3 e3,.slice b4 m4 e4]) hA rfl;have:=za9 (m:=2) (k:=5) h7;rw[za6]at this;rw[hds];exact this
 refine rq ?_;intro gd K hgd hK;refine sgz (az2 p0 Nat.add_zero) ?_;refine Fn.mono (zbc w1 ow r.owner (h1.ext (hE0.trans hE1)) ho.1 ho.2) ?_;rintro _ w2 ⟨rfl,hE2⟩;try simp only[go_sem]
 apply hK;have hE12:=hE1.trans hE2;have p1':=zaa hE2 p1;have p2':=zac hE2 p2;refine gz0 ?_;by_cases h0:zaA r.owner=0
 rotate_left
 ·refine zay (t:=!decide (zaA r.owner=0)) vr0 ?_ (fun h=>by rw[yef h0]at h;cases h);intro _;refine gz0 ?_;refine rt0 Tryz.ntmps163 ?_;exact⟨hE12,_,rfl,fun h=>absurd h h0⟩
 refine zay (t:=!decide (zaA r.owner=0)) vr0 (fun h=>by rw[yet h0]at h;cases h) ?_;intro _;refine gz (az2 p1' yn0) ?_;refine wc0 ?_ ?_
 ·intro _;refine gz0 ?_;refine rt0 Tryz.ntmps163 ?_;exact⟨hE12,7,rfl,fun h=>by cases h⟩
 intro _;refine rqz ?_;intro gd K hgd hK;refine sgz (az2 p2' yn0) ?_;refine Fn.mono (zhc (hE0.trans hE12) h2 hf) ?_;rintro _ w3 ⟨hE3,e,rfl,he⟩;try simp only[go_sem]
 refine en hK ?_;refine rt0 Tryz.ntmps163 ?_;exact⟨hE12.trans hE3,e,rfl,fun h=>⟨h0,he h⟩⟩
theorem few_f{n:Nm}(h:few n=true):(∀l∈n,l.length<=1000000000)/\n.length<=1000000000:=by
 simp only[few,Bool.and_eq_true,List.all_eq_true,ydT]at h;exact⟨fun l hl=>by have:=h.2 l hl;omega,by omega⟩
theorem DFew_ok{w0 w:World}(hE0:Ext w0 w){cs:List Value}{d:DatL}(hd:DatAt w0 cs d):
  Fn Tryz.prog 217 #[.agg cs.toArray] w (fun v w'=>Ext w w'/\∃b:Bool,v= .bool b/\(b=true->DatF d)):=by
 obtain⟨nm,nu,tx,rw',rfl,⟨vals,⟨an,cn,rfl,hcn,hgn⟩,hvl,hvr⟩,⟨au,cu,rfl,hcu,hgu⟩,⟨at1,ct,rfl,hct,hgt⟩,⟨ar,cr,rfl,hcr,hgr⟩⟩:=hd.ex;simp only[ylm]at hcu hgu hct hgt hcr hgr;simp only[ylm];refine enter Tryz.func217 Tryz.ntmps217 rfl rfl ?_;refine gz0 ?_;refine zax ?_;intro w1 hE1 hs1 hA;have p1:zad w1 (some ⟨w.heap.size,1,.none⟩)=some (.slice an vals.length cn):=zab hA rfl;have p2:zad w1 (some ⟨w.heap.size,2,.none⟩)=some (.slice au d.nums.length cu):=zab hA rfl;have p3:zad w1 (some ⟨w.heap.size,3,.none⟩)=some (.slice at1 d.texts.length ct):=zab hA rfl;have p4:zad w1 (some ⟨w.heap.size,4,.none⟩)=some (.slice ar d.raw.length cr):=zab hA rfl;refine zaw (Q:=fun e σ' ds' v'=>e= .normal/\ds'=[]/\σ' 1= .pointer (some ⟨w.heap.size,0,.none⟩)/\v'=w1/\∃bb,σ' 26= .bool bb/\(bb=false->vals.length<=8/\d.nums.length<=12/\d.texts.length<=40/\d.raw.length<=1100)) ?_ ?_
 ·by_cases hA1:(vals.length:Int)>8
  ·refine rq ?_;intro gd K hgd hK;have hg4:=gk 4 9 hgd rfl;have hg10:=gk 10 15 hgd rfl;have hg16:=gk 16 21 hgd rfl;try simp (disch:=first|omega|assumption|rfl) only[go_sem,p1,yn0,yet hA1,zb1,↓hg4,↓hg10,↓hg16]
   apply hK;exact⟨rfl,rfl,vq0,rfl,_,vr0,fun h=>by cases h⟩
  by_cases hA2:(d.nums.length:Int)>12
  ·refine rq ?_;intro gd K hgd hK;have hg4:=gk 4 9 hgd rfl;have hg10:=gk 10 15 hgd rfl;have hg16:=gk 16 21 hgd rfl;try simp (disch:=first|omega|assumption|rfl) only[go_sem,p1,p2,yn0,yef hA1,yet hA2,zb1,↓hg4,↓hg10,↓hg16]
   apply hK;exact⟨rfl,rfl,vq0,rfl,_,vr0,fun h=>by cases h⟩
  by_cases hA3:(d.texts.length:Int)>40
  ·refine rq ?_;intro gd K hgd hK;have hg4:=gk 4 9 hgd rfl;have hg10:=gk 10 15 hgd rfl;have hg16:=gk 16 21 hgd rfl;try simp (disch:=first|omega|assumption|rfl) only[go_sem,p1,p2,p3,yn0,yef hA1,yef hA2,yet hA3,zb1,↓hg4,↓hg10,↓hg16]
   apply hK;exact⟨rfl,rfl,vq0,rfl,_,vr0,fun h=>by cases h⟩
  by_cases hA4:(d.raw.length:Int)>1100
  ·refine rq ?_;intro gd K hgd hK;have hg4:=gk 4 9 hgd rfl;have hg10:=gk 10 15 hgd rfl;have hg16:=gk 16 21 hgd rfl;try simp (disch:=first|omega|assumption|rfl) only[go_sem,p1,p2,p3,p4,yn0,yef hA1,yef hA2,yef hA3,yet hA4,zb1,↓hg4,↓hg10,↓hg16]
   apply hK;exact⟨rfl,rfl,vq0,rfl,_,vr0,fun h=>by cases h⟩
  ·refine rq ?_;intro gd K hgd hK;have hg4:=gk 4 9 hgd rfl;have hg10:=gk 10 15 hgd rfl;have hg16:=gk 16 21 hgd rfl;try simp (disch:=first|omega|assumption|rfl) only[go_sem,p1,p2,p3,p4,yn0,yef hA1,yef hA2,yef hA3,yef hA4,zb1,↓hg4,↓hg10,↓hg16]
   apply hK;exact⟨rfl,rfl,vq0,rfl,_,vr0,fun _=>⟨by omega,by omega,by omega,by omega⟩⟩
 rintro _ σ1 _ v1 ⟨rfl,rfl,h1,hv1,bb,h26,hbb⟩;rw[hv1];clear hv1 v1;repeat refine c_r ?_
 refine zay (t:=bb) ((vq1 h26)) ?_ ?_
 ·intro _;refine gz0 ?_;refine rt0 Tryz.ntmps217 ?_;exact⟨hE1,false,rfl,fun h=>by cases h⟩
 intro hb;obtain⟨ln,lu,lt,lr⟩:=hbb hb;refine gz0 ?_;refine zaw (Q:=fun e σ' ds' v'=>ds'=[]/\Ext w1 v'/\((e= .exit 0/\σ' 1= .pointer (some ⟨w.heap.size,0,.none⟩)/\∀n∈d.names,few n=true)\/(e= .ret/\σ' 2= .bool false))) ?_ ?_
 ·refine zao (fun m σ ds A=>ds=[]/\∃(i:Nat),i+m=vals.length/\σ 3=vi i/\σ 1= .pointer (some ⟨w.heap.size,0,.none⟩)/\Ext w1 A/\∀j (h:j<d.names.length),j<i->few d.names[j]=true) vals.length ?_ ?_
  ·exact⟨rfl,0,by omega,vr0,vq1 h1,Keep.refl _ _,fun j h hj=>absurd hj (by omega)⟩
  clear h1;rintro m σ ds A ⟨rfl,i,him,h3,h1,hEA,hlow⟩;have q1:=zaa hEA p1;refine gz (az4 h3 h1 q1 yn0) ?_;refine wc0 ?_ ?_
  ·intro hlt;simp only[ydT]at hlt;have hi:i<vals.length:=by omega
   have hi0:=cj i;have hi1:(i:Int)<(vals.length:Int):=by omega
   have hi1':=ci i;have hgi:=hgn i hi;obtain⟨xN,rfl⟩:=yxs (zag hgi);have hgi':=zaa (hE0.trans (hE1.trans hEA)) hgi;have hrow:=hvr i hi (by omega);obtain⟨n,hn⟩:∃n,d.names[i]'(by omega)=n:=⟨_,rfl⟩;rw[hn]at hrow;obtain⟨hv,hhv⟩:∃hv,vals[i]=hv:=⟨_,rfl⟩;rw[hhv]at hgi' hrow;refine rqz ?_;intro gd K hgd hK;refine sgz (az7 h3 h1 q1 yn0 hi0 hi1 hgi') ?_;refine Fn.mono (zgB A hv n (hrow.ext (hE0.trans (hE1.trans hEA)))) ?_;rintro _ A2 ⟨rfl,hA2⟩;try simp only[go_sem]
   refine en hK ?_;refine zay (t:=!few n) vr0 ?_ ?_
   ·intro _;refine gz0 ?_;exact⟨rfl,hEA.trans hA2,.inr ⟨rfl,vq0⟩⟩
   ·intro hfn;refine gz (az2 h3 hi1') ?_;refine⟨m - 1,by omega,rfl,i+1,by omega,vq0,vq1 h1,hEA.trans hA2,fun j hj hji=>?_⟩;by_cases hj2:j=i
    ·subst hj2;rw[hn];simpa using hfn
    ·exact hlow j hj (by omega)
  ·intro hge;simp only[ydF]at hge;repeat refine c_r ?_
   refine⟨rfl,hEA,.inl ⟨rfl,vq1 h1,fun n hn=>?_⟩⟩;obtain⟨j,hj,rfl⟩:=List.getElem_of_mem hn;exact hlow j hj (by omega)
 clear h1;rintro e σ4 _ A ⟨rfl,hEA,⟨rfl,h1,hall⟩| ⟨rfl,h2⟩⟩
 rotate_left
 ·repeat refine c_r ?_
  refine rt1 h2 Tryz.ntmps217 ?_;exact⟨hE1.trans hEA,false,rfl,fun h=>by cases h⟩
 have q3:=zaa hEA p3;refine gz0 ?_;refine zaw (Q:=fun e σ' ds' v'=>ds'=[]/\v'=A/\((e= .exit 2/\σ' 1= .pointer (some ⟨w.heap.size,0,.none⟩)/\∀l∈d.texts,l.length<=300)\/(e= .ret/\σ' 2= .bool false))) ?_ ?_
 ·refine zao (fun m σ ds B=>ds=[]/\∃(i:Nat),i+m=d.texts.length/\σ 4=vi i/\σ 1= .pointer (some ⟨w.heap.size,0,.none⟩)/\B=A/\∀j (h:j<d.texts.length),j<i->d.texts[j].length<=300) d.texts.length ?_ ?_
  ·exact⟨rfl,0,by omega,vr0,vq1 h1,rfl,fun j h hj=>absurd hj (by omega)⟩
  clear h1;rintro m σ ds B ⟨rfl,i,him,h4,h1,hB2,hlow⟩;rw[hB2];clear hB2 B;refine gz (az4 h4 h1 q3 yn0) ?_;refine wc0 ?_ ?_
  ·intro hlt;simp only[ydT]at hlt;have hi:i<d.texts.length:=by omega
   have hi0:=cj i;have hi1:(i:Int)<(d.texts.length:Int):=by omega
   have hi1':=ci i;have hgi:=hgt i hi;obtain⟨xT,rfl⟩:=yxs (zag hgi);have hgi':=zaa (hE0.trans (hE1.trans hEA)) hgi;rw[List.getElem_map]at hgi';refine gz (az7 h4 h1 q3 yn0 hi0 hi1 hgi') ?_;refine wc0 ?_ ?_
   ·intro hgt2;refine gz0 ?_;exact⟨rfl,rfl,.inr ⟨rfl,vq0⟩⟩
   ·intro hgt2;simp only[ydF]at hgt2;refine gz (az2 h4 hi1') ?_;refine⟨m - 1,by omega,rfl,i+1,by omega,vq0,vq1 h1,rfl,fun j hj hji=>?_⟩;by_cases hj2:j=i
    ·subst hj2;omega
    ·exact hlow j hj (by omega)
  ·intro hge;simp only[ydF]at hge;repeat refine c_r ?_
   refine⟨rfl,rfl,.inl ⟨rfl,vq1 h1,fun l hl=>?_⟩⟩;obtain⟨j,hj,rfl⟩:=List.getElem_of_mem hl;exact hlow j hj (by omega)
 clear h1;rintro e σ6 _ v1 ⟨rfl,hv1,⟨rfl,h1,htl⟩| ⟨rfl,h2⟩⟩
 rotate_left
 ·rw[hv1];repeat refine c_r ?_
  refine rt1 h2 Tryz.ntmps217 ?_;exact⟨hE1.trans hEA,false,rfl,fun h=>by cases h⟩
 rw[hv1];clear hv1 v1;refine gz0 ?_;refine rt0 Tryz.ntmps217 ?_;exact⟨hE1.trans hEA,true,rfl,fun _=>⟨fun n hn=>few_f (hall n hn),by omega,by omega,by omega,fun l hl=>by have:=htl l hl;omega,by omega,by omega⟩⟩
theorem RsFew_ok{w0 w:World}(hE0:Ext w0 w){lv:Value}{R:List RecL}(hl:Rows 7 (RecAt w0) w lv R):
  Fn Tryz.prog 162 #[lv] w (fun v w'=>Ext w w'/\∃b:Bool,v= .bool b/\(b=true->R.length<=60/\∀r∈R,few r.owner=true/\DatF r.dat)):=by
 obtain⟨aR,cR,rfl,hcR,hgR⟩:=hl.open;refine enter Tryz.func162 Tryz.ntmps162 rfl rfl ?_;refine gz0 ?_;refine wc0 ?_ ?_
 ·intro _;refine gz0 ?_;refine rt0 Tryz.ntmps162 ?_;exact⟨Keep.refl _ _,false,rfl,fun h=>by cases h⟩
 intro h60;simp only[ydF]at h60;refine gz0 ?_;refine zao (fun m σ ds A=>ds=[]/\∃(i:Nat),i+m=R.length/\σ 3=vi i/\σ 0= .slice aR R.length cR/\Ext w A/\∀j (h:j<R.length),j<i->few R[j].owner=true/\DatF R[j].dat) R.length ?_ ?_
 ·exact⟨rfl,0,by omega,vr0,vq0,Keep.refl _ _,fun j h hj=>absurd hj (by omega)⟩
 rintro m σ ds A ⟨rfl,i,him,h3,h0,hEA,hlow⟩;refine gz (az2 h3 h0) ?_;refine wc0 ?_ ?_
 ·intro hlt;simp only[ydT]at hlt;have hi:i<R.length:=by omega
  have hi0:=cj i;have hi1:(i:Int)<(R.length:Int):=by omega
  have hi1':=ci i;obtain⟨cr,hcr,hRr⟩:=hgR i hi;obtain⟨r,hr⟩:∃r,R[i]=r:=⟨_,rfl⟩;rw[hr]at hRr;obtain⟨ow,dsc,hcrE,o1,o2,g0,g1,g2,gd⟩:=hRr.cells;obtain⟨xR,rfl⟩:=yxs (zak hcr);obtain⟨xi,hxi⟩:∃xi,adr (some xR) (i*7)=some xi:=⟨_,rfl⟩;rw[hxi]at hcr;obtain⟨xd,hxd⟩:∃xd,adr (some xi) 2=some xd:=⟨_,rfl⟩;have rc:∀{x},Ext w x->zad x (some xi)=some ow/\zan x (some xd) 5=some dsc:=fun {x} hx=>by
   have hcx:=zac hx hcr;have e0:=zah hcx g0;have e5:=za9 (m:=2) (k:=5) hcx;rw[zaj]at e0;rw[hxd,gd]at e5;exact⟨e0,e5⟩
  obtain⟨c0,_⟩:=rc hEA;have hwA:=hE0.trans hEA;repeat refine c_r ?_
  refine zaw (Q:=fun e σ' ds' v'=>e= .normal/\ds'=[]/\σ' 3=vi i/\σ' 0= .slice (some xR) R.length cR/\Ext A v'/\∃bb,σ' 28= .bool bb/\(bb=false->few r.owner=true/\DatF r.dat)) ?_ ?_
  ·cases hf:few r.owner with
   |false=>
    refine rq ?_;intro gd K hgd hK;have hg7:=gk 7 20 hgd rfl;refine sgz (az7 h0 h3 hi0 hi1 hxi c0 zaj) ?_;refine Fn.mono (zgB A ow r.owner (o1.ext hwA)) ?_;rintro _ A2 ⟨rfl,hA2⟩;rw[hf];try simp (disch:=first|omega|assumption|rfl) only[go_sem,Bool.not_false,↓hg7]
    apply hK;exact⟨rfl,rfl,vq1 h3,vq1 h0,hA2,_,vr0,fun h=>by cases h⟩
   |true=>
    refine rq ?_;intro gd K hgd hK;have hg7:=gk 7 20 hgd rfl;refine sgz (az7 h0 h3 hi0 hi1 hxi c0 zaj) ?_;refine Fn.mono (zgB A ow r.owner (o1.ext hwA)) ?_;rintro _ A2 ⟨rfl,hA2⟩;rw[hf];obtain⟨_,c5⟩:=rc (hEA.trans hA2);try simp (disch:=first|omega|assumption|rfl) only[go_sem,h0,h3,hi0,hi1,hxi,hxd,c5,Bool.not_true,↓hg7]
    refine Fn.mono (DFew_ok (hwA.trans hA2) o2) ?_;rintro _ A3 ⟨hA3,b,rfl,hb⟩;try simp (disch:=first|omega|assumption|rfl) only[go_sem,↓hg7]
    apply hK;exact⟨rfl,rfl,vq1 h3,vq1 h0,hA2.trans hA3,_,vr0,fun h=>⟨rfl,hb (by simpa using h)⟩⟩
  clear h3 h0;rintro _ σ1 _ A1 ⟨rfl,rfl,h3,h0,hA1,bb,h28,hbb⟩;repeat refine c_r ?_
  refine zay (t:=bb) ((vq1 h28)) ?_ ?_
  ·intro _;refine gz0 ?_;refine rt0 Tryz.ntmps162 ?_;exact⟨hEA.trans hA1,false,rfl,fun h=>by cases h⟩
  ·intro ht;refine gz (az2 h3 hi1') ?_;refine⟨m - 1,by omega,rfl,i+1,by omega,vq0,vq1 h0,hEA.trans hA1,fun j hj hji=>?_⟩;by_cases hj2:j=i
   ·subst hj2;rw[hr];exact hbb ht
   ·exact hlow j hj (by omega)
 ·intro hge;simp only[ydF]at hge;refine gz0 ?_;refine rt0 Tryz.ntmps162 ?_;refine⟨hEA,true,rfl,fun _=>⟨by omega,fun r hr=>?_⟩⟩;obtain⟨j,hj,rfl⟩:=List.getElem_of_mem hr;exact hlow j hj (by omega)
structure zeU(R:List RecL):Prop where
 len:R.length<=60
 few:∀r∈R,few r.owner=true/\DatF r.dat
 own:∀r∈R,zaA r.owner=0
 names:∀r∈R,∀n∈r.dat.names,zaA n=0
 lead:∀r∈R,zgQ r.dat.ty->r.dat.names.length=1
theorem zmp{w0 w:World}(hE0:Ext w0 w){lv:Value}{R:List RecL}(hl:Rows 7 (RecAt w0) w lv R):
  Fn Tryz.prog 113 #[lv] w (fun v w'=>Ext w w'/\∃b:Bool,v= .bool b/\(b=true->zeU R)):=by
 obtain⟨aR,cR,rfl,hcR,hgR⟩:=hl.open;refine enter Tryz.func113 Tryz.ntmps113 rfl rfl ?_;refine gz0 ?_;refine rq ?_;intro gd K hgd hK;try simp only[go_sem]
 refine Fn.mono (RsFew_ok hE0 hl) ?_;rintro _ w1 ⟨hE1,b,rfl,hb⟩;try simp only[go_sem]
 refine en hK ?_;refine zay (t:=!b) vr0 ?_ ?_
 ·intro _;refine gz0 ?_;refine rt0 Tryz.ntmps113 ?_;exact⟨hE1,false,rfl,fun h=>by cases h⟩
 intro hb2;obtain⟨hRl,hRf⟩:=hb (by simpa using hb2);refine gz0 ?_;refine zao (fun m σ ds A=>ds=[]/\∃(i:Nat),i+m=R.length/\σ 3=vi i/\σ 0= .slice aR R.length cR/\Ext w A/\∀j (h:j<R.length),j<i->zaA R[j].owner=0/\(∀n∈R[j].dat.names,zaA n=0)/\(zgQ R[j].dat.ty->R[j].dat.names.length=1)) R.length ?_ ?_
 ·exact⟨rfl,0,by omega,vr0,vq0,hE1,fun j h hj=>absurd hj (by omega)⟩
 rintro m σ ds A ⟨rfl,i,him,h3,h0,hEA,hlow⟩;refine gz (az2 h3 h0) ?_;refine wc0 ?_ ?_
 ·intro hlt;simp only[ydT]at hlt;have hi:i<R.length:=by omega
  have hi0:=cj i;have hi1:(i:Int)<(R.length:Int):=by omega
  have hi1':=ci i;obtain⟨cr,hcr,hRr⟩:=hgR i hi;obtain⟨r,hr⟩:∃r,R[i]=r:=⟨_,rfl⟩;rw[hr]at hRr;obtain⟨f1,f2⟩:=hRf r (hr▸List.getElem_mem hi);obtain⟨xR,rfl⟩:=yxs (zak hcr);obtain⟨xi,hxi⟩:∃xi,adr (some xR) (i*7)=some xi:=⟨_,rfl⟩;rw[hxi]at hcr;have hcA:=zac hEA hcr;have hwA:=hE0.trans hEA;refine rqz ?_;intro gd K hgd hK;refine sgz (az6 h0 h3 hi0 hi1 hxi hcA) ?_;refine Fn.mono (zmr hwA hRr f2.nn) ?_;rintro _ A2 ⟨hA2,cs',nm',rfl,hx⟩;try simp only[go_sem]
  refine Fn.mono (zic (Keep.refl _ A2) (hx.at (hwA.trans hA2)) f2 (few_f f1)) ?_;rintro _ A3 ⟨hA3,e,rfl,he⟩;try simp only[go_sem]
  refine en hK ?_;by_cases h0e:e=0
  ·refine zay (t:=!decide (e=0)) vr0 (fun h=>by rw[yet h0e]at h;cases h) ?_;intro _;refine gz (az2 h3 hi1') ?_;refine⟨m - 1,by omega,rfl,i+1,by omega,vq0,vq1 h0,hEA.trans (hA2.trans hA3),fun j hj hji=>?_⟩;by_cases hj2:j=i
   ·subst hj2;rw[hr];exact he h0e
   ·exact hlow j hj (by omega)
  ·refine zay (t:=!decide (e=0)) vr0 ?_ (fun h=>by rw[yef h0e]at h;cases h);intro _;refine gz0 ?_;refine rt0 Tryz.ntmps113 ?_;exact⟨hEA.trans (hA2.trans hA3),false,rfl,fun h=>by cases h⟩
 ·intro hge;simp only[ydF]at hge;refine gz0 ?_;refine rt0 Tryz.ntmps113 ?_;have hall:∀r∈R,zaA r.owner=0/\(∀n∈r.dat.names,zaA n=0)/\(zgQ r.dat.ty->r.dat.names.length=1):=fun r hr=>by
   obtain⟨j,hj,rfl⟩:=List.getElem_of_mem hr;exact hlow j hj (by omega)
  exact⟨hEA,true,rfl,fun _=>⟨hRl,hRf,fun r hr=>(hall r hr).1,fun r hr=>(hall r hr).2.1,fun r hr=>(hall r hr).2.2⟩⟩
theorem ZGood_ok{w0 w:World}(hE0:Ext w0 w){ov lv:Value}{o:Nm}{R:List RecL}(ho:Row w ov (o.map vs))(hl:Rows 7 (RecAt w0) w lv R):
  Fn Tryz.prog 62 #[ov,lv] w (fun v w'=>Ext w w'/\∃b:Bool,v= .bool b/\(b=true->zbX o=true/\zeU R)):=by
 refine enter Tryz.func62 Tryz.ntmps62 rfl rfl ?_;refine gz0 ?_;cases hg:zbX o with
 |false=>
  refine rq ?_;intro gd K hgd hK;have hg2:=gk 2 7 hgd rfl;try simp only[go_sem]
  refine Fn.mono (zjN w ov o ho) ?_;rintro _ w1 ⟨rfl,hE1⟩;rw[hg];try simp (disch:=first|omega|assumption|rfl) only[go_sem,↓hg2]
  refine en hK ?_;refine rt0 Tryz.ntmps62 ?_;exact⟨hE1,false,rfl,fun h=>by cases h⟩
 |true=>
  refine rq ?_;intro gd K hgd hK;have hg2:=gk 2 7 hgd rfl;try simp only[go_sem]
  refine Fn.mono (zjN w ov o ho) ?_;rintro _ w1 ⟨rfl,hE1⟩;rw[hg];try simp (disch:=first|omega|assumption|rfl) only[go_sem,↓hg2]
  refine Fn.mono (zmp (hE0.trans hE1) (hl.ext hE1)) ?_;rintro _ w2 ⟨hE2,b,rfl,hb⟩;try simp (disch:=first|omega|assumption|rfl) only[go_sem,↓hg2]
  refine en hK ?_;refine rt0 Tryz.ntmps62 ?_;exact⟨hE1.trans hE2,b,rfl,fun h=>⟨rfl,hb h⟩⟩
structure zkt(r:ResL):Prop where
 nm:NmS r.name
 dat:∀d∈r.data,DatOk d
 dl:r.data.length<=1000000000
 gl:r.glue.length<=1000000000
 g:∀x∈r.glue,NmS x.1/\(∀d∈x.2,DatOk d)/\x.2.length<=1000000000
theorem DatX.cells{w0 A:World}{B:Nat}{nm:Value}{cs:List Value}{d:DatL}(h:DatX w0 B A nm cs d):cs.length=5/\∀q∈cs,one q=true:=by
 obtain⟨b1,m1,e1,b2,m2,e2,b3,m3,e3,b4,m4,e4,hds⟩:=h.open;rw[hds];refine⟨rfl,fun q hq=>?_⟩;simp at hq;rcases hq with rfl|rfl|rfl|rfl|rfl<;>rfl
def NumR(R:List RecL):Prop:=∀r∈R,∀n∈r.dat.nums,0<=n/\n<=4294967295
theorem zhW{n:Nm}(h:zaA n=0):LB n:=fun l hl=>by have:=(zbk h l hl).2;omega
theorem good_dat{R:List RecL}(h:zeU R)(hv:NumR R):∀r∈R,DatOk r.dat:=fun r hr=>by
 have hf:=(h.few r hr).2;exact⟨fun n hn=>⟨zhW (h.names r hr n hn),by have:=(hf.names n hn).2;omega⟩,by have:=hf.nn;omega,by have:=hf.nu;omega,by have:=hf.nt;omega,hv r hr,by have:=hf.nr;omega⟩
theorem zgX{R:List RecL}(h:zeU R)(hv:NumR R):∀r∈R,zbr r:=fun r hr=>
 ⟨zhW (h.own r hr),by have:=zgt (h.own r hr);omega,good_dat h hv r hr⟩
structure GoodC(R:List RecL):Prop where
 ok:∀r∈R,zbr r
 srt:zdX R
 gd:zdJ R
 ld:LeadR R
 len:R.length<=60
 nn:∀r∈R,r.dat.names.length<=1000000000
theorem zj9{R:List RecL}(h:zeU R)(hv:NumR R):GoodC (zaN R):=by
 refine⟨zbI (fun a b h=>⟨h.lb,h.len,h.dat⟩) (zgX h hv),zg4 R,?_,?_,Nat.le_trans (zci R) h.len,?_⟩
 ·exact zbI (Q:=fun r=>∀n∈r.dat.names,NmG n) (fun a b h=>h) (fun r hr n hn=>zei (h.names r hr n hn))
 ·refine zbI (Q:=fun r=>(r.dat.ty=2\/r.dat.ty=5\/r.dat.ty=39)->r.dat.names≠ []) (fun a b h=>h) (fun r hr ht hn=>?_);have:=h.lead r hr ht;rw[hn]at this;cases this
 ·exact zbI (Q:=fun r=>r.dat.names.length<=1000000000) (fun a b h=>h) (fun r hr=>(h.few r hr).2.nn)
theorem zlO{w0 w:World}{ov lv:Value}{o:Nm}{R:List RecL}(h:GoodC R)(hE:Ext w0 w)(ho:Row w ov (o.map vs))(hl:Rows 7 (RecAt w0) w lv R)(hg:zbX o=true):ZnAt w0 w ov lv o R:=
 ⟨hE,ho,hl,(zcb hg).m.s.lb,(zcb hg).m.s.len,h.ok,by have:=h.len;omega⟩
structure ResF(P:DatL->Prop)(m:Nat)(r:ResL):Prop where
 nm:NmS r.name
 dat:∀d∈r.data,P d
 dl:r.data.length<=m
 gl:r.glue.length<=m
 g:∀x∈r.glue,NmS x.1/\(∀d∈x.2,P d)/\x.2.length<=m+m
theorem zbV{P:DatL->Prop}{m:Nat}{k:Int}{ds:List DatL}{n:Nm}{b:Bool}(hn:NmS n)(hd:∀d∈ds,P d)(hl:ds.length<=m):ResF P m ⟨k,ds,n,b,[]⟩:=
 ⟨hn,hd,hl,Nat.zero_le _,fun x h=>by cases h⟩
theorem zj3:NmS []:=⟨fun l h=>(by cases h),Nat.zero_le _⟩
section
variable {P : DatL -> Prop} {R : List RecL} {o : Nm}
theorem zhQ(hP:∀r∈R,P r.dat){n:Nm}{t:Int}:∀d∈datC R n t,P d:=fun d hd=>by
 obtain⟨r,hr,rfl⟩:=zdB hd;exact hP r hr
theorem refer_F(hP:∀r∈R,P r.dat)(hG:zdJ R){n:Nm}(hn:NmS n):ResF P R.length (zeI R n):=by
 refine⟨hn,zhQ hP,zbg,?_,fun x hx=>?_⟩
 ·exact Nat.le_trans (zgk _ _) (Nat.le_trans (zdx _ _) (Nat.le_trans (zfh _ _) zbg))
 ·obtain⟨h,hh,he⟩:=List.mem_filterMap.1 hx
  split at he
  ·cases he
  ·cases he;refine⟨(zb4 hG (n:=n) (t:=2) (fun d hd=>hd) h (zcg _ _ h hh)).m.s,fun d hd=>?_,?_⟩
   ·unfold zbe at hd;rcases List.mem_append.1 hd with hd|hd
    ·exact zhQ hP d hd
    ·exact zhQ hP d hd
   ·have h1:=zbg (R:=R) (n:=h) (t:=1);have h2:=zbg (R:=R) (n:=h) (t:=28);show(zbe R h).length<=_;unfold zbe;rw[List.length_append];omega
theorem zi4(hP:∀r∈R,P r.dat){n:Nm}{t:Int}:(∀d∈(datC R n t).take 1,P d)/\((datC R n t).take 1).length<=R.length:=
 ⟨fun d hd=>zhQ hP d (List.mem_of_mem_take hd),by have:=zbg (R:=R) (n:=n) (t:=t);rw[List.length_take];omega⟩
theorem zk6(hP:∀r∈R,P r.dat)(hG:zdJ R){q n:Nm}(hq:NmM q){r:ResL}(h:zaE R q n=some r):ResF P R.length r:=by
 unfold zaE at h
 split at h
 ·cases h
 ·split at h
  ·cases h;have hm:=zkI hq (toN_m hG (n:=n) (t:=39) (u:=39)) (f:=n);exact zbV ⟨fun l hl=>by have:=hm.1 l hl;omega,by have:=hm.2;omega⟩ (zi4 hP).1 (zi4 hP).2
  ·cases h;exact zbV zj3 (fun d h=>by cases h) (Nat.zero_le _)
theorem at_F(hP:∀r∈R,P r.dat)(hG:zdJ R){n:Nm}{t:Int}{b:Bool}:ResF P R.length (atL R n t b):=by
 unfold atL
 split
 ·exact zbV zj3 (zhQ hP) zbg
 ·split
  ·exact zbV (toN_m hG).s (zi4 hP).1 (zi4 hP).2
  ·exact zbV zj3 (fun d h=>by cases h) (Nat.zero_le _)
theorem go_F(hP:∀r∈R,P r.dat)(hG:zdJ R){q:Nm}(hq:NmM q):∀{l:List Nm} {r:ResL},(∀n∈l,NmS n)->goL o R q l=some r->ResF P R.length r
 | [],r,_,h=>by cases h
 |n::l,r,hl,h=>by
  simp only[goL]at h
  split at h
  ·cases h;exact refer_F hP hG (hl n (List.mem_cons_self ..))
  ·split at h
   ·cases h
   ·split at h
    ·rename_i r' hr;cases h;exact zk6 hP hG hq hr
    ·exact go_F hP hG hq (fun x hx=>hl x (List.mem_cons_of_mem _ hx)) h
theorem look_F(hP:∀r∈R,P r.dat)(hG:zdJ R){q:Nm}{t:Int}(hq:NmM q):ResF P R.length (za1 o R q t):=by
 unfold za1
 split
 ·exact zbV zj3 (fun d h=>by cases h) (Nat.zero_le _)
 ·split
  ·rename_i r hr;refine go_F hP hG hq (fun n hn=>?_) hr;unfold za8 at hn
   split at hn
   ·obtain⟨i,_,rfl⟩:=zbM.1 hn;exact(hq.drop i).s
   ·cases hn
  ·split
   ·exact at_F hP hG
   ·split
    ·exact at_F hP hG
    ·exact zbV zj3 (fun d h=>by cases h) (Nat.zero_le _)
end
theorem look_ok{R:List RecL}(h:GoodC R){o q:Nm}{t:Int}(hq:NmM q):zkt (za1 o R q t):=by
 have h1:=look_F (o:=o) (P:=DatOk) (fun r hr=>(h.ok r hr).dat) h.gd (t:=t) hq;have hl:=h.len;exact⟨h1.nm,h1.dat,by have:=h1.dl;omega,by have:=h1.gl;omega,fun x hx=>by
  obtain⟨a,b,c⟩:=h1.g x hx;exact⟨a,b,by omega⟩⟩
structure zcp where
 o:Nm
 recs:List RecL
structure zem where
 name:Nm
 addr:List UInt8
 zones:List zcp
structure NetL where
 hosts:List zem
 roots:List Int
 rw:Int
 rf:Int
structure ZoneC(w:World)(cs:List Value)(z:zcp):Prop where
 ex:∃ov lv,cs=[ov,lv]/\Row w ov (z.o.map vs)/\Rows 7 (RecAt w) w lv z.recs
structure HostC(w:World)(cs:List Value)(h:zem):Prop where
 ex:∃nv a b c d zv,cs=[nv,zaf a,zaf b,zaf c,zaf d,zv]/\h.addr=[a,b,c,d]/\Row w nv (h.name.map vs)/\Rows 2 (ZoneC w) w zv h.zones
structure NetAt(w:World)(cs:List Value)(N:NetL):Prop where
 ex:∃hv rv,cs=[hv,rv,vi N.rw,vi N.rf]/\Rows 6 (HostC w) w hv N.hosts/\Row w rv (N.roots.map vi)
theorem Rows.extC{α:Type}{k:Nat}{C:World->List Value->α->Prop}{w x:World}{v:Value}{l:List α}(hC:∀cs a,C w cs a->C x cs a)(h:Rows k (C w) w v l)(hE:Ext w x):Rows k (C x) x v l:=(h.ext hE).to hC
theorem ZoneC.ext{w x:World}{cs:List Value}{z:zcp}(h:ZoneC w cs z)(hE:Ext w x):ZoneC x cs z:=by
 obtain⟨ov,lv,e,h1,h2⟩:=h.ex;exact⟨ov,lv,e,h1.ext hE,Rows.extC (fun _ _ h=>RecAt.ext h hE) h2 hE⟩
theorem HostC.ext{w x:World}{cs:List Value}{z:zem}(h:HostC w cs z)(hE:Ext w x):HostC x cs z:=by
 obtain⟨nv,a,b,c,d,zv,e,ha,h1,h2⟩:=h.ex;exact⟨nv,a,b,c,d,zv,e,ha,h1.ext hE,Rows.extC (fun _ _ h=>ZoneC.ext h hE) h2 hE⟩
theorem NetAt.ext{w x:World}{cs:List Value}{z:NetL}(h:NetAt w cs z)(hE:Ext w x):NetAt x cs z:=by
 obtain⟨hv,rv,e,h1,h2⟩:=h.ex;exact⟨hv,rv,e,Rows.extC (fun _ _ h=>HostC.ext h hE) h1 hE,h2.ext hE⟩
structure GoodZ(z:zcp):Prop where
 o:zbX z.o=true
 gd:zeU z.recs
 nv:NumR z.recs
 can:zaN z.recs=z.recs
theorem GoodZ.c{z:zcp}(h:GoodZ z):GoodC z.recs:=h.can▸zj9 h.gd h.nv
theorem GoodZ.m{z:zcp}(h:GoodZ z):NmM z.o:=(zcb h.o).m
theorem GoodZ.zn{w0 w:World}{ov lv:Value}{z:zcp}(h:GoodZ z)(hE:Ext w0 w)(ho:Row w ov (z.o.map vs))(hl:Rows 7 (RecAt w0) w lv z.recs):ZnAt w0 w ov lv z.o z.recs:=zlO h.c hE ho hl h.o
structure NetZ(N:NetL):Prop where
 hl:N.hosts.length<=1000
 nm:∀h∈N.hosts,NmM h.name
 zl:∀h∈N.hosts,h.zones.length<=1000
 z:∀h∈N.hosts,∀z∈h.zones,GoodZ z
 rl:N.roots.length<=1000
def NetL.zones(N:NetL)(s:Int):List zcp:=if s<0 then [] else match N.hosts[s.toNat]? with
 |some h=>h.zones
 | .none=>[]
def zaS(q:Nm)(b:Int×Int)(x:Nat×zcp):Int×Int:=if zaV q x.2.o=true/\b.2<(x.2.o.length:Int) then((x.1:Int),(x.2.o.length:Int)) else b
def numZ:Nat->List zcp->List (Nat×zcp)
 |_,[]=>[]
 |i,z::l=>(i,z)::numZ (i+1) l
def ziO(q:Nm)(l:List zcp):Int×Int:=(numZ 0 l).foldl (zaS q) (0, -1)
def zbR(N:NetL)(s:Int)(q:Nm):Int×Bool:=let b:=ziO q (N.zones s);(b.1,decide (0<=b.2))
def askN(N:NetL)(s:Int)(q:Nm)(t:Int):ResL:=if (zbR N s q).2=true then match (N.zones s)[(zbR N s q).1.toNat]? with
  |some z=>za1 z.o z.recs q t
  | .none=>⟨7,[],[],false,[]⟩
 else⟨7,[],[],false,[]⟩
theorem zbW:∀{l:List zcp} {i:Nat},(numZ i l).length=l.length
 | [],_=>rfl
 |_::l,i=>by simp[numZ,zbW (l:=l)]
theorem zeb:∀{l:List zcp} {i j:Nat} (h:j<l.length) (h':j<(numZ i l).length),(numZ i l)[j]=(i+j,l[j])
 | [],_,_,h,_=>absurd h (by simp)
 |_::l,i,0,_,_=>by simp[numZ]
 |_::l,i,j+1,h,h'=>by
  simp only[numZ,List.getElem_cons_succ];rw[zeb (by simpa using h)];exact Prod.ext (by dsimp only;omega) rfl
theorem zme(q:Nm):∀{l:List (Nat×zcp)} {b:Int×Int} {m:Nat},(∀x∈l,x.1<m)->((0<=b.2->0<=b.1/\b.1<m))->0<=(l.foldl (zaS q) b).2->0<=(l.foldl (zaS q) b).1/\(l.foldl (zaS q) b).1<m
 | [],b,m,_,h,h2=>h h2
 |x::l,b,m,hx,h,h2=>by
  rw[List.foldl_cons]at h2 ⊢;refine zme q (fun y hy=>hx y (List.mem_cons_of_mem _ hy)) (fun h3=>?_) h2;unfold zaS at h3 ⊢
  split at h3
  ·rename_i hc;rw[if_pos hc];have:=hx x (List.mem_cons_self ..);exact⟨by dsimp only;omega,by dsimp only;omega⟩
  ·rename_i hc;rw[if_neg hc];exact h h3
theorem zjC{N:NetL}{s:Int}{q:Nm}(h:(zbR N s q).2=true):0<=(zbR N s q).1/\(zbR N s q).1<((N.zones s).length:Int):=by
 unfold zbR ziO at*;simp only[ydT]at h;refine zme q (fun x hx=>?_) (fun h=>absurd h (by decide)) h;obtain⟨i,hi,rfl⟩:=List.mem_iff_getElem.1 hx;rw[zeb (by rw[zbW]at hi;exact hi)];have:=hi;rw[zbW]at this
 dsimp only;omega
theorem zbT{N:NetL}(h:NetZ N){s:Int}:(∀z∈N.zones s,GoodZ z)/\(N.zones s).length<=1000:=by
 unfold NetL.zones
 split
 ·exact⟨fun z h=>absurd h (by simp),by simp⟩
 ·cases hh:N.hosts[s.toNat]? with
  |none=>exact⟨fun z h=>absurd h (by simp),by simp⟩
  |some x=>exact⟨h.z x (List.mem_of_getElem? hh),h.zl x (List.mem_of_getElem? hh)⟩
section
variable {A B C D E F G H I : Prop}
theorem an2(a:A)(b:B):A/\B:=⟨a,b⟩
theorem an3(a:A)(b:B)(c:C):A/\B/\C:=⟨a,b,c⟩
theorem an4(a:A)(b:B)(c:C)(d:D):A/\B/\C/\D:=⟨a,b,c,d⟩
theorem an5(a:A)(b:B)(c:C)(d:D)(e:E):A/\B/\C/\D/\E:=⟨a,b,c,d,e⟩
theorem an6(a:A)(b:B)(c:C)(d:D)(e:E)(f:F):A/\B/\C/\D/\E/\F:=⟨a,b,c,d,e,f⟩
theorem an7(a:A)(b:B)(c:C)(d:D)(e:E)(f:F)(g:G):A/\B/\C/\D/\E/\F/\G:=⟨a,b,c,d,e,f,g⟩
theorem an8(a:A)(b:B)(c:C)(d:D)(e:E)(f:F)(g:G)(h:H):A/\B/\C/\D/\E/\F/\G/\H:=⟨a,b,c,d,e,f,g,h⟩
theorem an9(a:A)(b:B)(c:C)(d:D)(e:E)(f:F)(g:G)(h:H)(i:I):A/\B/\C/\D/\E/\F/\G/\H/\I:=⟨a,b,c,d,e,f,g,h,i⟩
end
def gdOk:List (Nat×Nat)->(Nat->Option Tmp)->Prop
 | [],_=>True
 |p::l,gd=>gd p.1=some p.2/\gdOk l gd
theorem ziE{L:List Oper}:∀{gs:List (Nat×Nat)},(gs.all fun p=>dstL L p.1==some p.2)=true->gdOk gs (dstL L)
 | [],_=>trivial
 |p::l,h=>by
  simp only[List.all_cons,Bool.and_eq_true,beq_iff_eq]at h;exact⟨h.1,ziE h.2⟩
theorem zaT(b:Bool):zbS undef b=false:=nr rfl
def Rest(P:Program)(Q:Post)(ds:List Deferred)(L:List Oper)(F:(Nat->Option Tmp)->(Sto->World->Prop)->Prop):Prop:=
 ∀(gd:Nat->Option Tmp) (K:Sto->World->Prop),gd=dstL L->(∀σ' w',Q .normal σ' ds w'->K σ' w')->F gd K
section
variable {P : Program} {r : Option Nat} {n : Nat} {Q : Post} {σ : Sto} {ds : List Deferred} {w : World} {p : Prop} {L : List Oper} {F : (Nat -> Option Tmp) -> (Sto -> World -> Prop) -> Prop}
theorem wt{c:Operand}{x y:Code}(h:p)(ht:W P r n x Q σ ds w)(hc:p->ev n σ c= .bool true:=by intro h1;first| (simp only[go_sem,h1];done)| (simp only[go_sem,h1];rfl)):W P r n (.cond c x y) Q σ ds w:=zay (hc h) (fun _=>ht) (fun h=>by cases h)
theorem wf{c:Operand}{x y:Code}(h:p)(ht:W P r n y Q σ ds w)(hc:p->ev n σ c= .bool false:=by intro h1;first| (simp only[go_sem,h1];done)| (simp only[go_sem,h1];rfl)):W P r n (.cond c x y) Q σ ds w:=zay (hc h) (fun h=>by cases h) (fun _=>ht)
theorem ro{id:Nat}{ops:Array Oper}(h:Rest P Q ds ops.toList (fun gd K=>opsV P gd n ops.toList σ w K))(hd:za0 ops=true:=by rfl):W P r n (.region id ops false) Q σ ds w:=zb7 hd fun gd K hgd hK=>h gd K hgd hK
theorem rd{f:FuncId}{args:Array Value}{w1:World}{R:Value->World->Prop}{C:(Nat->Option Tmp)->(Sto->World->Prop)->Value->World->Prop}(h:p)(hF:Fn P f args w1 R)(hr:∀v w',R v w'->Rest P Q ds L (fun gd K=>C gd K v w'))
  (hs:p->∀(gd:Nat->Option Tmp) (K:Sto->World->Prop),F gd K=Fn P f args w1 (fun v w'=>C gd K v w'):=by intro h1 gd K;(simp (disch:=first|omega|assumption|rfl) only[go_sem,h1])<;>exact rfl):Rest P Q ds L F:=
 fun gd K hgd hK=>(hs h gd K).mpr (Fn.mono hF fun v w' hR=>hr v w' hR gd K hgd hK)
theorem rc{id:Nat}{ops:Array Oper}{f:FuncId}{args:Array Value}{w1:World}{R:Value->World->Prop}{C:(Nat->Option Tmp)->(Sto->World->Prop)->Value->World->Prop}(h:p)(hF:Fn P f args w1 R)(hr:∀v w',R v w'->Rest P Q ds ops.toList (fun gd K=>C gd K v w'))
  (hs:p->∀(gd:Nat->Option Tmp) (K:Sto->World->Prop),opsV P gd n ops.toList σ w K=Fn P f args w1 (fun v w'=>C gd K v w'):=by intro h1 gd K;(simp (disch:=first|omega|assumption|rfl) only[go_sem,h1])<;>exact rfl)
  (hd:za0 ops=true:=by rfl):W P r n (.region id ops false) Q σ ds w:=ro (rd h hF hr hs) hd
theorem re{σ1:Sto}{w1:World}(h:p)(hq:Q .normal σ1 ds w1)
  (hs:p->∀(gd:Nat->Option Tmp) (K:Sto->World->Prop),F gd K=K σ1 w1:=by intro h1 gd K;(first| (simp (disch:=first|omega|assumption|rfl) only[go_sem,h1])|skip)<;>exact rfl):Rest P Q ds L F:=
 fun gd K _ hK=>(hs h gd K).mpr (hK _ _ hq)
theorem rdg(gs:List (Nat×Nat)){f:FuncId}{args:Array Value}{w1:World}{R:Value->World->Prop}{C:(Nat->Option Tmp)->(Sto->World->Prop)->Value->World->Prop}(h:p)(hF:Fn P f args w1 R)(hr:∀v w',R v w'->Rest P Q ds L (fun gd K=>C gd K v w'))
  (hs:p->∀(gd:Nat->Option Tmp) (K:Sto->World->Prop),gdOk gs gd->F gd K=Fn P f args w1 (fun v w'=>C gd K v w'):=by intro h1 gd K hg;simp only[gdOk]at hg;(simp (disch:=first|omega|assumption|rfl) only[go_sem,zaY,zcf,zaT,hg,h1])<;>exact rfl)
  (hg:(gs.all fun p=>dstL L p.1==some p.2)=true:=by exact rfl):Rest P Q ds L F:=
 fun gd K hgd hK=>(hs h gd K (hgd▸ziE hg)).mpr (Fn.mono hF fun v w' hR=>hr v w' hR gd K hgd hK)
theorem rcg(gs:List (Nat×Nat)){id:Nat}{ops:Array Oper}{f:FuncId}{args:Array Value}{w1:World}{R:Value->World->Prop}{C:(Nat->Option Tmp)->(Sto->World->Prop)->Value->World->Prop}(h:p)(hF:Fn P f args w1 R)(hr:∀v w',R v w'->Rest P Q ds ops.toList (fun gd K=>C gd K v w'))
  (hs:p->∀(gd:Nat->Option Tmp) (K:Sto->World->Prop),gdOk gs gd->opsV P gd n ops.toList σ w K=Fn P f args w1 (fun v w'=>C gd K v w'):=by intro h1 gd K hg;simp only[gdOk]at hg;(simp (disch:=first|omega|assumption|rfl) only[go_sem,zaY,zcf,zaT,hg,h1])<;>exact rfl)
  (hg:(gs.all fun p=>dstL ops.toList p.1==some p.2)=true:=by exact rfl) (hd:za0 ops=true:=by rfl):W P r n (.region id ops false) Q σ ds w:=ro (rdg gs h hF hr hs hg) hd
theorem reg(gs:List (Nat×Nat)){σ1:Sto}{w1:World}(h:p)(hq:Q .normal σ1 ds w1)
  (hs:p->∀(gd:Nat->Option Tmp) (K:Sto->World->Prop),gdOk gs gd->F gd K=K σ1 w1:=by intro h1 gd K hg;simp only[gdOk]at hg;(first| (simp (disch:=first|omega|assumption|rfl) only[go_sem,zaY,zcf,zaT,hg,h1])|skip)<;>exact rfl)
  (hg:(gs.all fun p=>dstL L p.1==some p.2)=true:=by exact rfl):Rest P Q ds L F:=
 fun gd K hgd hK=>(hs h gd K (hgd▸ziE hg)).mpr (hK _ _ hq)
theorem rgg(gs:List (Nat×Nat)){id:Nat}{ops:Array Oper}{σ1:Sto}{w1:World}(h:p)(hq:Q .normal σ1 ds w1)
  (hs:p->∀(gd:Nat->Option Tmp) (K:Sto->World->Prop),gdOk gs gd->opsV P gd n ops.toList σ w K=K σ1 w1:=by intro h1 gd K hg;simp only[gdOk]at hg;(simp (disch:=first|omega|assumption|rfl) only[go_sem,zaY,zcf,zaT,hg,h1])<;>exact rfl)
  (hg:(gs.all fun p=>dstL ops.toList p.1==some p.2)=true:=by exact rfl) (hd:za0 ops=true:=by rfl):W P r n (.region id ops false) Q σ ds w:=ro (reg gs h hq hs hg) hd
end
section
variable {P : Program} {x : World} {e : TypeId} {K : Value -> World -> Prop}
theorem za3{t:TypeId}{cur:Array Value}{l:List Value}(hl:l.length=cur.size)(h1:∀v∈l,one v=true)(hs:tyS P t=l.length)(hi:(P.info? t).isSome=true)
  (hK:∀w',Ext x w'->w'.heap.size=x.heap.size+1->w'.heap[x.heap.size]? =some (.cells l.toArray e (0,0))->K undef w'):stK P t (.pointer (some ⟨x.heap.size,0,.none⟩)) (.agg l.toArray) (x.alloc (.cells cur e (0,0))) K:=by
 have hB3:=zau x (.cells cur e (0,0));have hE4:=Ext.alloc x (.cells cur e (0,0));have hs4:=zai x (.cells cur e (0,0));refine zaD (P:=P) (t:=t) (l:=l) hB3 hl h1 hs hi ?_;intro w5 hs5 hB5 hk5;exact hK w5 (Keep.to_ext hE4 rfl (fun b hb=>by omega) hk5) (by omega) hB5
theorem Row.isOne{w:World}{v:Value}{l:List Value}(h:Row w v l):one v=true:=by
 obtain⟨a,c,rfl,_⟩:=h;rfl
theorem Rows.isOne{α:Type}{k:Nat}{C:List Value->α->Prop}{w:World}{v:Value}{l:List α}(h:Rows k C w v l):one v=true:=by
 obtain⟨a,c,rfl,_⟩:=h.open;rfl
theorem zdO{a b:Value}(ha:one a=true)(hb:one b=true):∀v∈ [a,b],one v=true:=fun v h=>by
 simp at h;rcases h with rfl|rfl<;>assumption
end
def encZ(w0:World)(x:Nat×zcp)(_:World)(args:Array Value):Prop:=∃ov lv,args=#[vi x.1,.agg #[ov,lv]]/\Row w0 ov (x.2.o.map vs)/\Rows 7 (RecAt w0) w0 lv x.2.recs
theorem zc0{n0:Nat}{C:Nat->Prop}{a b:World}(h:Ext a b)(hn:n0<=a.heap.size):KeepB n0 C a b:=Keep.toB h hn (fun _ _ h=>h.elim)
theorem zones_ok(w:World){hv rv:Value}{s a b:Int}:
  Fn Tryz.prog 194 #[.agg #[hv,rv,vi a,vi b],vi s] w (fun v w'=>v= .func (.func 240) #[] #[.pointer (some ⟨w.heap.size+1,0,.none⟩),.pointer (some ⟨w.heap.size,0,.none⟩)]/\Ext w w'/\w'.heap.size=w.heap.size+2/\
   w'.heap[w.heap.size]? =some (.cells #[hv,rv,vi a,vi b] 25 (0,0))/\w'.heap[w.heap.size+1]? =some (.cells #[vi s] 3 (0,0))):=by
 refine enter Tryz.func194 Tryz.ntmps194 rfl rfl ?_;repeat refine c_r ?_
 refine rg0 ?_;repeat refine c_r ?_
 rw[zai];refine zaF ?_;intro w1 hE1 hs1 hA hC;refine rg0 ?_;repeat refine c_r ?_
 refine rt0 Tryz.ntmps194 ?_;exact⟨rfl,hE1,hs1,hA,hC⟩
theorem zonesIt{w0 W0:World}{C:Nat->Prop}{sb nb:Nat}{hv rv:Value}{s:Int}{N:NetL}(hE0:Ext w0 W0)(hbs:W0.heap[sb]? =some (.cells #[vi s] 3 (0,0)))(hbn:W0.heap[nb]? =some (.cells #[hv,rv,vi N.rw,vi N.rf] 25 (0,0)))
  (hh:Rows 6 (HostC w0) w0 hv N.hosts) (hC:∀b,C b->w0.heap.size<=b) (hN:NetZ N):
  Iter Tryz.prog 240 #[.pointer (some ⟨sb,0,.none⟩),.pointer (some ⟨nb,0,.none⟩)] W0 W0.heap.size C (numZ 0 (N.zones s)) (encZ w0):=by
 intro lp J Jx W hW hnW hJ hJx hY h0;obtain⟨ah,ch,rfl,hch,hgh⟩:=hh.open;have hl:=hN.hl;have ps:zad W (some ⟨sb,0,.none⟩)=some (vi s):=zaa hW (zab hbs rfl);have pn:zad W (some ⟨nb,0,.none⟩)=some (.slice ah N.hosts.length ch):=zaa hW (zab hbn rfl);refine enter Tryz.func240 Tryz.ntmps240 rfl rfl ?_;repeat refine c_r ?_
 by_cases h1:s<0
 ·refine rgg [(2,8)] (an3 ps (yet h1) Nat.add_zero) ?_;repeat refine c_r ?_
  refine wt trivial ?_;repeat refine c_r ?_
  refine zaC (by simp) rfl (.inl ?_);unfold NetL.zones;rw[if_pos h1];exact h0
 by_cases h2:(N.hosts.length:Int)<=s
 ·refine rgg [(2,8)] (an5 ps pn (yef h1) (yet h2) Nat.add_zero) ?_;repeat refine c_r ?_
  refine wt trivial ?_;repeat refine c_r ?_
  refine zaC (by simp) rfl (.inl ?_);unfold NetL.zones;rw[if_neg h1,List.getElem?_eq_none (by omega)];exact h0
 refine rgg [(2,8)] (an5 ps pn (yef h1) (yef h2) Nat.add_zero) ?_;repeat refine c_r ?_
 refine wf trivial ?_;obtain⟨i0,rfl⟩:∃i:Nat,s=i:=⟨s.toNat,by omega⟩;have hi0:i0<N.hosts.length:=by omega
 obtain⟨hcs,hhc,hhC⟩:=hgh i0 hi0;obtain⟨h,hhe⟩:∃h,N.hosts[i0]=h:=⟨_,rfl⟩;rw[hhe]at hhC;obtain⟨nv,b1,b2,b3,b4,zv,rfl,_,hnm,hz⟩:=hhC.ex;have hzl:N.zones (i0:Int)=h.zones:=by
  unfold NetL.zones;rw[if_neg h1,Int.toNat_natCast,List.getElem?_eq_getElem hi0,hhe]
 have hzb:h.zones.length<=1000:=hN.zl h (hhe▸List.getElem_mem hi0);rw[hzl]at hY ⊢;obtain⟨az,cz,rfl,hcz,hgz⟩:=hz.open;obtain⟨xh,rfl⟩:=yxs (zak hhc);obtain⟨xi,hxi⟩:∃xi,adr (some xh) (i0*6)=some xi:=⟨_,rfl⟩;rw[hxi]at hhc;have pz:zad W (adr (some xi) 5)=some (.slice az h.zones.length cz):=zah (zac (hE0.trans hW) hhc) rfl;obtain⟨x5,hx5⟩:∃x,adr (some xi) 5=some x:=⟨_,rfl⟩;rw[hx5]at pz;have hi0':(0:Int)<=(i0:Int):=by omega
 have hi1':(i0:Int)<(N.hosts.length:Int):=by omega
 refine gz (az2 (az7 ps pn hi0' hi1' hxi hx5 pz) Nat.add_zero) ?_;obtain⟨L,hL⟩:∃L,numZ 0 h.zones=L:=⟨_,rfl⟩;have hLl:L.length=h.zones.length:=by rw[←hL,zbW]
 rw[hL]at hY ⊢;refine zao (fun m σ ds v=>ds=[]/\∃(i:Nat),i+m=L.length/\σ 22=vi i/\σ 21=vi h.zones.length/\σ 20= .slice az h.zones.length cz/\σ 0= .func (.yield lp) #[] #[]/\J (L.take i) v/\KeepB W0.heap.size C W v) L.length ?_ ?_
 ·exact⟨rfl,0,by omega,vr0,vq0,vq0,vq0,h0,KeepB.refl _ _ _⟩
 rintro m σ ds v ⟨rfl,i,him,s22,s21,s20,s0,hj,hKB⟩;refine gz (az2 s22 s21) ?_;refine wc0 ?_ ?_
 ·intro hlt;simp only[ydT]at hlt;have hi:i<h.zones.length:=by omega
  have hi0:=cj i;have hi1':=ci i;obtain⟨cs,hcs,hZ⟩:=hgz i hi;obtain⟨ov,lv,rfl,ho,hr⟩:=hZ.ex;obtain⟨xz,rfl⟩:=yxs (zak hcs);obtain⟨xi,hxi⟩:∃xi,adr (some xz) (i*2)=some xi:=⟨_,rfl⟩;rw[hxi]at hcs;have hEv:Ext w0 v:=zdf (hE0.trans hW) hKB hE0.size hC;have d:=zac hEv hcs;have hLi:L[i]'(by omega)=(i,h.zones[i]):=by
   simp only[←hL];rw[zeb hi];simp
  refine rqz ?_;intro gd K hgd hK;refine sgz (az6 s22 s20 hi0 hlt hxi d) ?_;refine za3 (P:=Tryz.prog) (l:=[ov,lv]) rfl (zdO ho.isOne hr.isOne) rfl rfl ?_;intro v1 hE1 hs1 hB1;try simp only[go_sem]
  apply hK;have d1:=zae (n:=2) hB1 rfl;refine rqz ?_;intro gd K hgd hK;refine sgz (az2 s0 d1) ?_;refine Yld.mono (hY (L.take i) (L[i]'(by omega)) (L.drop (i+1)) v1 _ (by rw[←List.drop_eq_getElem_cons,List.take_append_drop]) (hJ _ _ _ hj hE1) (hKB.trans (zc0 hE1 (by have:=hKB.size;omega))) ⟨ov,lv,by rw[hLi],by rw[hLi];exact ho,by rw[hLi];exact hr⟩) ?_;rintro u x (⟨rfl,hj',hk'⟩| ⟨rfl,hjx⟩)
  ·try simp only[go_sem]
   apply hK;refine wcz ?_ ?_
   ·intro h;simp at h
   ·intro _;refine gz (az2 s22 hi1') ?_;exact⟨m - 1,by omega,rfl,i+1,by omega,vq0,vq1 s21,vq1 s20,vq1 s0,by rw[←List.take_append_getElem (by omega)]at*;exact hj',(hKB.trans (zc0 hE1 (by have:=hKB.size;omega))).trans hk'⟩
  ·try simp only[go_sem]
   apply hK;refine wcz ?_ ?_
   ·intro _;repeat refine c_r ?_
    refine zaC (by simp) rfl (.inr ⟨_,_,L.drop (i+1),?_,hjx⟩);rw[←List.drop_eq_getElem_cons,List.take_append_drop]
   ·intro h;simp at h
 ·intro hge;simp only[ydF]at hge;repeat refine c_r ?_
  refine zaC (by simp) rfl (.inl ?_)
  rwa [List.take_of_length_le (by omega)]at hj
theorem zfP{w:World}{a:Addr}:∀(i m k:Nat) {l:List Value},zaQ w a i (m+k)=some l->zaQ w a i m=some (l.take m)
 |i,0,k,l,h=>by simp[zaQ]
 |i,m+1,k,l,h=>by
  rw[show m+1+k=(m+k)+1 from by omega]at h;unfold zaQ at h ⊢
  split at h
  ·rename_i v l' h1 h2;cases h;rw[h1,zfP (i+1) m k h2];rfl
  ·cases h
theorem zcQ{w:World}{p:Option Addr}{m k:Nat}{l:List Value}(h:zan w p (m+k)=some l):zan w p m=some (l.take m):=by
 cases p with
 |none=>cases h
 |some a=>exact zfP 0 m k h
section
variable {P : Program} {w : World} {K : Value -> World -> Prop} {t : TypeId} {p v : Value} {A B : Obj}
theorem zkP(h:∀z,Ext w z->z.heap.size=w.heap.size+1->z.heap[w.heap.size]? =some A->stK P t p v z K):stK P t p v (w.alloc A) K:=
 h _ (Ext.alloc w A) (zai w A) (World.alloc_heap_new w A)
theorem st_al2(h:∀z,Ext w z->z.heap.size=w.heap.size+2->z.heap[w.heap.size]? =some A->z.heap[w.heap.size+1]? =some B->stK P t p v z K):stK P t p v ((w.alloc A).alloc B) K:=by
 obtain⟨h1,h2,h3,h4⟩:=zdn w A B;exact h _ h1 h2 h3 h4
end
section
variable {P : Program} {d : Option Tmp} {ty : TypeId} {ps : String} {af : Array Edge} {g : Option (Nat × Bool)} {ρ : Operand -> Value} {w : World} {K : Value -> World -> Prop}
theorem zlf{t e:TypeId}{x:Operand}{n:Nat}{a:Addr}{m:Lck K (opW P ⟨d,.slice t x .none .none .none,ty,ps,af,g⟩ ρ w K)}(ht:P.underlying t=some (.array n e))(hn:n≠0)(he:(P.info? e).isSome=true)
  (hx:ρ x= .pointer (some a)) (h:K (.slice (some a) n n) w):optL (slD P (some (.array n e)) (.pointer (some a)) .none .none .none) w K (opW P ⟨d,.slice t x .none .none .none,ty,ps,af,g⟩ ρ w K) m:=by
 show opW P _ ρ w K;obtain⟨inf,hi⟩:=yxs he;refine zaO (s:=Instr.sliceAt t (ρ x) .none .none .none) (v:= .slice (some a) n n) (w':=w) ?_ h;have e1:=zck (P:=P) (w:=w) (sl:=false) (n:=n) (c:=n) (lo:= .none) (hi:= .none) (mx:= .none) (l:=0) (h:=n) (m:=n) rfl rfl rfl (Nat.zero_le _) (ynl _) (ynl _) (by simp);have ha0:a.add 0=a:=by simp[Addr.add]
 simp[Instr.sliceAt,underlying,program,Sem.run,ht,hx,Instr.sureAddr,e1,sizeOf,typeInfo,hi,hn,ha0]
end
theorem NetAt.one{w:World}{cs:List Value}{N:NetL}(h:NetAt w cs N):cs.length=4/\∀v∈cs,one v=true:=by
 obtain⟨hv,rv,rfl,h1,h2⟩:=h.ex;refine⟨rfl,fun v hv=>?_⟩;simp at hv;rcases hv with rfl|rfl|rfl|rfl
 ·exact h1.isOne
 ·exact h2.isOne
 ·rfl
 ·rfl
theorem zmG{w0 w:World}(hE0:Ext w0 w){cs:List Value}{N:NetL}{s:Int}{q:Nm}{qv:Value}(hN:NetAt w0 cs N)(hG:NetZ N)(hq:Row w qv (q.map vs))(mq:NmM q):
  Fn Tryz.prog 148 #[.agg cs.toArray,vi s,qv] w (fun v w'=>v= .tuple #[vi (zbR N s q).1,.bool (zbR N s q).2]/\Ext w w'):=by
 obtain⟨hv,rv,rfl,hh,hr⟩:=hN.ex;have e1:=hh.isOne;have e2:=hr.isOne;obtain⟨ah,ch,hhv,_⟩:=hh.open;obtain⟨ar,cr,hrv,_⟩:=id hr;obtain⟨aq,cq,hqv,_⟩:=id hq;have ql:=mq.len;refine enter Tryz.func148 Tryz.ntmps148 rfl rfl ?_;repeat refine c_r ?_
 rw[hhv,hrv,hqv];refine rg0 ?_;rw[←hhv,←hrv,←hqv];repeat refine c_r ?_
 rw[zai];refine zaF ?_;intro w1 hE1 hs1 hA hC;refine rq ?_;intro gd K hgd hK;try simp only[go_sem]
 rw[zai];refine st_al2 ?_;intro w2 hE2 hs2 h8 h9;refine zaU (P:=Tryz.prog) (t:=3) (j:=0) (u:=vi 0) (l:=[vi 0]) h8 (by simp) rfl rfl rfl ?_;intro w3 hs3 h8' hk3;try simp only[go_sem]
 refine zaU (P:=Tryz.prog) (t:=3) (j:=0) (u:=vi (-1)) (l:=[vi 0]) ((hk3.block _ (by omega) (by omega)).trans h9) (by simp) rfl rfl rfl ?_;intro w4 hs4 h9' hk4;try simp only[go_sem]
 apply hK;simp only[List.set_cons_zero]at h8' h9';obtain⟨b8,hb8⟩:∃b,w1.heap.size=b:=⟨_,rfl⟩;rw[hb8]at h8 h8' h9 h9' hk3 hk4 hs2 ⊢;have hE3:=Keep.to_ext (hE1.trans hE2) rfl (fun b hb=>by omega) hk3;have hE4:=Keep.to_ext hE3 rfl (fun b hb=>by omega) hk4;have g8:=(hk4.block _ (by omega) (by omega)).trans h8';have gA:=(hk4.block _ (by omega) (by omega)).trans ((hk3.block _ (by omega) (by omega)).trans (Ext.at hE2 hA));have gC:=(hk4.block _ (by omega) (by omega)).trans ((hk3.block _ (by omega) (by omega)).trans (Ext.at hE2 hC));clear h8 h8' h9 hk3 hk4 hE3 hE2 hE1 hA hC;have d4:=zae (n:=4) (l:=[hv,rv,vi N.rw,vi N.rf]) gA rfl;have p5:zad w4 (some ⟨w.heap.size+1,0,.none⟩)=some qv:=zab gC rfl;have hb8w:w.heap.size+2<=b8:=by omega
 repeat refine c_r ?_
 refine rc d4 (zones_ok w4) ?_;rintro _ w5 ⟨rfl,hE5,hs5,hbn,hbs⟩;refine re trivial ?_;repeat refine c_r ?_
 have hE05:=hE0.trans (hE4.trans hE5);refine zdW (g:=240) (cap:=#[.pointer (some ⟨w4.heap.size+1,0,.none⟩),.pointer (some ⟨w4.heap.size,0,.none⟩)]) vq0 rfl (zonesIt (C:=fun b=>b=b8\/b=b8+1) hE05 hbs hbn hh (fun b hb=>by have:=hE0.size;omega) hG) (Keep.refl _ _) (ynl _) (fun b hb=>by omega) (fun x A args h=>by obtain⟨_,_,e,_⟩:=h;rw[e];rfl)
  (fun pre A=>Ext w A/\A.heap[b8]? =some (.cells #[vi (pre.foldl (zaS q) (0, -1)).1] 3 (0,0))/\A.heap[b8+1]? =some (.cells #[vi (pre.foldl (zaS q) (0, -1)).2] 3 (0,0))/\A.heap[w.heap.size+1]? =some (.cells #[qv] 27 (0,0)))
  (fun _ _ _=>False) ?_ (fun _ _ _ _ h _=>h.elim) ?_ ?_ ?_ (fun _ _ _ _ _ _ _ h _=>h.elim)
 ·rintro pre A B ⟨h1,h2,h3,h4⟩ hk;have f:∀{b:Nat} {O:Obj},A.heap[b]? =some O->b<w5.heap.size->B.heap[b]? =some O:=fun h hb=>(hk.block _ (Array.getElem?_eq_some_iff.1 h).1 (by unfold two;omega)).trans h;exact⟨Keep.to_ext h1 rfl (fun b hb=>by unfold two at hb;omega) hk,f h2 (by omega),f h3 (by omega),f h4 (by omega)⟩
 ·exact⟨hE4.trans hE5,Ext.at hE5 g8,Ext.at hE5 h9',Ext.at hE5 gC⟩
 ·rintro lp pre y suf A args hxs hszA ⟨hEA,k8,k9,k5⟩ ⟨ov,lv,rfl,ho,hr⟩;obtain⟨B,hB⟩:∃B,pre.foldl (zaS q) (0, -1)=B:=⟨_,rfl⟩;have hfo:(pre++ [y]).foldl (zaS q) (0, -1)=zaS q B y:=by rw[List.foldl_append,List.foldl_cons,List.foldl_nil,hB]
  rw[hB]at k8 k9;have gz:GoodZ y.2:=by
   have hm:y∈numZ 0 (N.zones s):=hxs▸(by simp);obtain⟨i,hi,rfl⟩:=List.mem_iff_getElem.1 hm;have hi':=hi;rw[zbW]at hi';rw[zeb hi'];exact(zbT hG).1 _ (List.getElem_mem hi')
  have mo:=gz.m;have ol:=mo.len;refine gz0 ?_;refine rq ?_;intro gd K hgd hK;try simp only[go_sem]
  refine za3 (P:=Tryz.prog) (l:=[ov,lv]) rfl (zdO ho.isOne hr.isOne) rfl rfl ?_;intro A1 hE6 hs6 hB6;try simp only[go_sem]
  apply hK;refine zas ?_;refine⟨rfl,zc0 hE6 (by omega),fun Y hY=>?_⟩;have f:∀{b:Nat} {O:Obj},A1.heap[b]? =some O->¬two w5.heap.size b->Y.heap[b]? =some O:=fun h hb=>(hY.block _ (Array.getElem?_eq_some_iff.1 h).1 hb).trans h;have y8:=f (Ext.at hE6 k8) (by unfold two;omega);have y9:=f (Ext.at hE6 k9) (by unfold two;omega);have y5:=f (Ext.at hE6 k5) (by unfold two;omega);have y6:=f hB6 (by unfold two;omega);have hEY:Ext w Y:=Keep.to_ext (hEA.trans hE6) rfl (fun b hb=>by unfold two at hb;omega) hY;have hsY:=hY.size;have q8:zad Y (some ⟨b8,0,.none⟩)=some (vi B.1):=zab y8 rfl;have q9:zad Y (some ⟨b8+1,0,.none⟩)=some (vi B.2):=zab y9 rfl;have q5:zad Y (some ⟨w.heap.size+1,0,.none⟩)=some qv:=zab y5 rfl;have q6:zad Y (some ⟨A.heap.size,0,.none⟩)=some ov:=zab y6 rfl;obtain⟨ao,co,hov,_⟩:=id ho;have holen:(y.2.o.map vs).length=y.2.o.length:=by simp
  rw[holen]at hov;clear y5 y6;repeat refine c_r ?_
  refine rcg [(4,21)] (an3 q5 q6 Nat.add_zero) (zc3 Y qv ov q y.2.o (hq.ext hEY) (ho.ext (hE0.trans hEY)) mq.LB mo.LB (by omega) (by omega)) ?_;rintro _ Z ⟨rfl,hZ⟩;have z6:=zaa hZ q6;have z9:=zaa hZ q9;rw[hov]at z6;have hEZ:=hEY.trans hZ;have z8':=Ext.at hZ y8;have z9':=Ext.at hZ y9;have z5':=Ext.at hZ (f (Ext.at hE6 k5) (by unfold two;omega));have hkZ:KeepB (w5.heap.size+2) (fun b=>b=b8\/b=b8+1) Y Z:=zc0 hZ (by omega);obtain⟨u,hu⟩:∃u,zaV q y.2.o=u:=⟨_,rfl⟩;rw[hu];have hstay:(u=true/\B.2<(y.2.o.length:Int))\/zaS q B y=B:=by
   by_cases h:u=true/\B.2<(y.2.o.length:Int)
   ·exact .inl h
   ·exact .inr (by unfold zaS;rw[hu,if_neg h])
  cases u with
  |false=>
   have hst:zaS q B y=B:=hstay.resolve_left (fun h=>by cases h.1);refine reg [(4,21)] trivial ?_;repeat refine c_r ?_
   refine wf trivial ?_;repeat refine c_r ?_
   refine⟨⟨hEZ,?_,?_,z5'⟩,hkZ⟩
   ·rw[hfo,hst];exact z8'
   ·rw[hfo,hst];exact z9'
  |true=>
   refine reg [(4,21)] (an3 z6 z9 Nat.add_zero) ?_;repeat refine c_r ?_
   by_cases hgt:B.2<(y.2.o.length:Int)
   ·refine wt (yet hgt) ?_;have hst:zaS q B y=((y.1:Int),(y.2.o.length:Int)):=by unfold zaS;rw[hu,if_pos ⟨rfl,hgt⟩]
    repeat refine c_r ?_
    refine zaJ (fun i=>i==5) [(0,true),(1,true),(2,true),(3,true),(4,false),(5,false)] ((fun i=>i=b8\/i=b8+1)) mixed (by kernel_rfl) ?_;intro gd K x hgd hx hxe hK;have hx0:=zez hxe;clear hxe;have z6x:=zaa hx0 z6;have hsZ:=hZ.size;have hsx:=hx0.size;refine sgz (az2 z6x Nat.add_zero) ?_;refine⟨fun a ha hb=>by cases ha;dsimp only at hb;omega,?_⟩;refine zaU (P:=Tryz.prog) (t:=3) (j:=0) (u:=vi y.1) (l:=[vi B.1]) (Ext.at hx0 z8') (by simp) rfl rfl rfl ?_;intro Z1 hsZ1 h8' hkZ1;refine⟨.inr (hkZ1.mono fun i _ h=> .inl h),?_⟩;refine sg0 ?_;refine zaU (P:=Tryz.prog) (t:=3) (j:=0) (u:=vi y.2.o.length) (l:=[vi B.2]) ((hkZ1.block _ (by omega) (by omega)).trans (Ext.at hx0 z9')) (by simp) rfl rfl rfl ?_;intro Z2 hsZ2 h9' hkZ2;refine⟨.inl rfl,?_⟩;refine sg0 ?_;apply hK;have z5x:=Ext.at hx0 z5';repeat refine c_r ?_
    refine⟨⟨Keep.to_ext (Keep.to_ext (hEZ.trans hx0) rfl (fun b hb=>by omega) hkZ1) rfl (fun b hb=>by omega) hkZ2,?_,?_,?_⟩,(hkZ.trans (zc0 hx0 (by omega))).trans ((hkZ1.toB (by omega) (fun i _ h=> .inl h)).trans (hkZ2.toB (by omega) (fun i _ h=> .inr h)))⟩
    ·rw[hfo,hst];exact(hkZ2.block _ (by omega) (by omega)).trans h8'
    ·rw[hfo,hst];exact h9'
    ·exact(hkZ2.block _ (by omega) (by omega)).trans ((hkZ1.block _ (by omega) (by omega)).trans z5x)
   ·refine wf (yef hgt) ?_;have hst:zaS q B y=B:=hstay.resolve_left (fun h=>hgt h.2);repeat refine c_r ?_
    refine⟨⟨hEZ,?_,?_,z5'⟩,hkZ⟩
    ·rw[hfo,hst];exact z8'
    ·rw[hfo,hst];exact z9'
 ·intro A hszA ⟨hEA,k8,k9,_⟩ hD;have q8:zad A (some ⟨b8,0,.none⟩)=some (vi (ziO q (N.zones s)).1):=zab k8 rfl;have q9:zad A (some ⟨b8+1,0,.none⟩)=some (vi (ziO q (N.zones s)).2):=zab k9 rfl;repeat refine c_r ?_
  refine zaJ (fun _=>false) [(0,true),(1,true),(2,true),(3,true),(4,true)] NoS mixed (by kernel_rfl) ?_;intro gd K x hgd hx hxe hK;clear hxe;have q8x:=zaa hx q8;have q9x:=zaa hx q9;refine sgz (az2 q8x q9x) ?_;refine en hK ?_;refine zk5 (v:=vi (zbR N s q).1) (v':= .bool (zbR N s q).2) (.inr rfl) (by rfl) Tryz.ntmps148 vr0 vr0 (Ext.at hx hD) ?_;intro Z hkZ hsZ;exact⟨rfl,Keep.to_ext (hEA.trans hx) rfl (fun b hb=>by omega) hkZ⟩
theorem zmn{w0 w:World}(hE0:Ext w0 w){cs:List Value}{N:NetL}{s:Int}{q:Nm}{qv:Value}(hN:NetAt w0 cs N)(hG:NetZ N)(hq:Row w qv (q.map vs))(mq:NmM q):
  Fn Tryz.prog 150 #[.agg cs.toArray,vi s,qv] w (fun v w'=>v= .bool (zbR N s q).2/\Ext w w'):=by
 have hN0:=hN;obtain⟨hv,rv,rfl,hh,hr⟩:=hN.ex;obtain⟨ah,ch,hhv,_⟩:=hh.open;obtain⟨ar,cr,hrv,_⟩:=id hr;refine enter Tryz.func150 Tryz.ntmps150 rfl rfl ?_;repeat refine c_r ?_
 rw[hhv,hrv];refine rg0 ?_;rw[←hhv,←hrv];repeat refine c_r ?_
 refine zax ?_;intro w1 hE1 hs1 hA;have d:=zae (n:=4) (l:=[hv,rv,vi N.rw,vi N.rf]) hA rfl;repeat refine c_r ?_
 refine rc d (zmG (s:=s) (hE0.trans hE1) hN0 hG (hq.ext hE1) mq) ?_;rintro _ w2 ⟨rfl,hE2⟩;refine re trivial ?_;refine gz0 ?_;refine rt0 Tryz.ntmps150 ?_;exact⟨rfl,hE1.trans hE2⟩
theorem zky{w:World}{hv:Value}{N:NetL}{s k:Int}{z:zcp}(hh:Rows 6 (HostC w) w hv N.hosts)(hz:(N.zones s)[k.toNat]? =some z)(hk:0<=k):
  ∃(i j:Nat) (ah:Addr) (ch:Nat) (xi x5 az:Addr) (cz nz:Nat) (xz:Addr) (ov lv:Value),s=(i:Int)/\k=(j:Int)/\i<N.hosts.length/\j<nz/\hv= .slice (some ah) N.hosts.length ch/\adr (some ah) (i*6)=some xi/\adr (some xi) 5=some x5/\zad w (some x5)=some (.slice (some az) nz cz)/\adr (some az) (j*2)=some xz/\
   zan w (some xz) 2=some [ov,lv]/\Row w ov (z.o.map vs)/\Rows 7 (RecAt w) w lv z.recs:=by
 unfold NetL.zones at hz
 split at hz
 ·simp at hz
 rename_i hs;cases hh':N.hosts[s.toNat]? with
 |none=>rw[hh']at hz;simp at hz
 |some h=>
  rw[hh']at hz
  dsimp only at hz
  obtain⟨hi,hhi⟩:=List.getElem?_eq_some_iff.1 hh';obtain⟨hj,hzj⟩:=List.getElem?_eq_some_iff.1 hz;obtain⟨ah,ch,rfl,_,hgh⟩:=hh.open;obtain⟨cs,hcs,hH⟩:=hgh _ hi;rw[hhi]at hH;obtain⟨nv,b1,b2,b3,b4,zv,rfl,_,_,hzr⟩:=hH.ex;obtain⟨az,cz,rfl,_,hgz⟩:=hzr.open;obtain⟨c2,hc2,hZ⟩:=hgz _ hj;rw[hzj]at hZ;obtain⟨ov,lv,rfl,ho,hr⟩:=hZ.ex;obtain⟨xh,rfl⟩:=yxs (zak hcs);obtain⟨xz,rfl⟩:=yxs (zak hc2);obtain⟨xi,hxi⟩:∃xi,adr (some xh) (s.toNat*6)=some xi:=⟨_,rfl⟩;obtain⟨x5,hx5⟩:∃x,adr (some xi) 5=some x:=⟨_,rfl⟩;obtain⟨xk,hxk⟩:∃xi,adr (some xz) (k.toNat*2)=some xi:=⟨_,rfl⟩;rw[hxi]at hcs;rw[hxk]at hc2;exact⟨s.toNat,k.toNat,xh,ch,xi,x5,xz,cz,_,xk,ov,lv,by omega,by omega,hi,hj,rfl,hxi,hx5,by rw[←hx5];exact zah hcs rfl,hxk,hc2,ho,hr⟩
theorem ones5{a b c:Value}{k:Int}{d:Bool}(ha:one a=true)(hb:one b=true)(hc:one c=true):∀v∈ [vi k,a,b,.bool d,c],one v=true:=fun v h=>by
 simp at h;rcases h with rfl|rfl|rfl|rfl|rfl<;>first|assumption|rfl
theorem zlp{w0 w:World}{B:Nat}{k:Int}{b:Bool}:ResB w0 B w [vi k,.slice .none 0 0,.slice .none 0 0,.bool b,.slice .none 0 0] ⟨k,[],[],b,[]⟩:=
 ⟨_,_,_,rfl,Rows.nil _ _ _,BlkB.nil,.inr (za7 _),Rows.nil _ _ _,BlkB.nil⟩
theorem Ask_ok{w0 w:World}(hE0:Ext w0 w){cs:List Value}{N:NetL}{s:Int}{q:Nm}{qv:Value}{t:Int}(hN:NetAt w0 cs N)(hG:NetZ N)(hq:Row w qv (q.map vs))(mq:NmM q):
  Fn Tryz.prog 93 #[.agg cs.toArray,vi s,qv,vi t] w (fun v w'=>Ext w w'/\∃cs,v= .agg cs.toArray/\ResB w0 w.heap.size w' cs (askN N s q t)):=by
 have hN0:=hN;obtain⟨hv,rv,rfl,hh,hr⟩:=hN.ex;obtain⟨ah,ch,hhv,_⟩:=hh.open;obtain⟨ar,cr,hrv,_⟩:=id hr;refine enter Tryz.func93 Tryz.ntmps93 rfl rfl ?_;repeat refine c_r ?_
 rw[hhv,hrv];refine rg0 ?_;rw[←hhv,←hrv];repeat refine c_r ?_
 rw[zai];refine zaF ?_;intro w1 hE1 hs1 hA hC;have d:=zae (n:=4) (l:=[hv,rv,vi N.rw,vi N.rf]) hA rfl;repeat refine c_r ?_
 refine rc d (zmG (s:=s) (hE0.trans hE1) hN0 hG (hq.ext hE1) mq) ?_;rintro _ w2 ⟨rfl,hE2⟩;refine re trivial ?_;have hE02:=hE0.trans (hE1.trans hE2);have hC2:=Ext.at hE2 hC;have d2:=zac hE2 d;refine gz0 ?_;cases hb:(zbR N s q).2 with
 |false=>
  have hk:askN N s q t=⟨7,[],[],false,[]⟩:=by unfold askN;rw[hb];rfl
  refine wt trivial ?_;refine rqz ?_;intro gd K hgd hK;try simp only[go_sem]
  refine⟨by kernel_rfl,?_⟩;rw[show bdV Tryz.prog 184 [(0,vi 7)]=some (.agg #[vi 7,.slice .none 0 0,.slice .none 0 0,.bool false,.slice .none 0 0]) from by kernel_rfl];try simp only[go_sem]
  refine zaD (P:=Tryz.prog) (t:=184) (l:=[vi 7,.slice .none 0 0,.slice .none 0 0,.bool false,.slice .none 0 0]) hC2 rfl (ones5 rfl rfl rfl) rfl rfl ?_;intro z hz' hbz hkz;try simp only[go_sem]
  refine en hK ?_;refine zat (.inr rfl) Tryz.ntmps93 rfl (zaI (x:=⟨w.heap.size+1,0,.none⟩) (k:=5) vq0 rfl rfl (zae hbz rfl) zap) ?_;exact⟨Keep.to_ext (hE1.trans hE2) rfl (fun b hb=>by omega) hkz,_,rfl,by rw[hk];exact zlp⟩
 |true=>
  obtain⟨hk0,hk1⟩:=zjC hb;obtain⟨z,hz⟩:∃z,(N.zones s)[(zbR N s q).1.toNat]? =some z:=⟨_,List.getElem?_eq_getElem (by omega)⟩;have hk:askN N s q t=za1 z.o z.recs q t:=by unfold askN;rw[hb,hz];rfl
  have gz:=(zbT hG).1 z (List.mem_of_getElem? hz);obtain⟨i,j,xh,c1,xi,x5,az,cz,nz,xz,ov,lv,rfl,hkj,hi,hj,rfl,hxi,hx5,pz,hxz,dz,ho,hl⟩:=zky hh hz hk0;rw[hkj];refine wf trivial ?_;have p0:zad w2 (some ⟨w.heap.size,0,.none⟩)=some (.slice (some xh) N.hosts.length c1):=zab (Ext.at hE2 hA) rfl;have pz2:=zaa hE02 pz;have dz2:=zac hE02 dz;have i0:=cj i;have i1:(i:Int)<(N.hosts.length:Int):=by omega
  have j0:=cj j;have j1:(j:Int)<(nz:Int):=by omega
  refine rqz ?_;intro gd K hgd hK;refine sgz (az2 (az7 p0 i0 i1 j0 j1 hxi hx5) (az4 pz2 hxz dz2 Nat.add_zero)) ?_;refine Fn.mono (Zone_ok (t:=t) (gz.zn hE02 (ho.ext hE02) (hl.ext hE02)) gz.c.gd (hq.ext (hE1.trans hE2)) mq) ?_;rintro _ w3 ⟨hE3,cs,rfl,hres⟩;try simp only[go_sem]
  refine zaD (P:=Tryz.prog) (t:=184) (l:=cs) (Ext.at hE3 hC2) hres.cells.1 hres.cells.2 (by rw[hres.cells.1];rfl) rfl ?_;intro z hz' hbz hkz;try simp only[go_sem]
  refine en hK ?_;refine zat (.inr rfl) Tryz.ntmps93 rfl (zaI (x:=⟨w.heap.size+1,0,.none⟩) (k:=5) vq0 rfl rfl (zae hbz hres.cells.1.symm) zap) ?_;have hs2:=hE2.size;exact⟨Keep.to_ext (hE1.trans (hE2.trans hE3)) rfl (fun b hb=>by omega) hkz,_,rfl,by rw[hk];exact(hres.keep hkz (fun b h1 _ h2=>by omega)).mono (by omega)⟩
structure TellD(w0 w:World)(g:FuncId)(cap:List Value)(p:DatL->Bool)(R:List DatL):Prop where
 call:zar Tryz.prog g=true
 tell:∀(A:World) (cs:List Value) (r:DatL),Ext w A->r∈R->DatAt w0 cs r->Fn Tryz.prog g (.agg cs.toArray::cap).toArray A (fun v A'=>v= .bool (p r)/\Ext A A')
theorem zmC{w0 w:World}{lv:Value}{R:List DatL}{g:FuncId}{cap:List Value}{p:DatL->Bool}(hl:Rows 5 (DatAt w0) w lv R)(ht:TellD w0 w g cap p R)(hlen:R.length<=1000000000):
  Fn Tryz.prog 284 #[lv,.func (.func g) #[] cap.toArray] w (fun v w'=>Ext w w'/\∃i:Int,v=vi i/\decide (i>=0)=R.any p):=by
 obtain⟨hcal,htell⟩:=ht;obtain⟨aR,cR,rfl,hcR,hgR⟩:=hl.open;refine enter Tryz.func284 Tryz.ntmps284 rfl rfl ?_;refine gz0 ?_;refine zao (fun m σ ds A=>ds=[]/\∃(i:Nat),i+m=R.length/\σ 8=vi i/\σ 7=vi R.length/\σ 0= .slice aR R.length cR/\σ 1= .func (.func g) #[] cap.toArray/\Ext w A/\∀j (h:j<R.length),j<i->p R[j]=false) R.length ?_ ?_
 ·exact⟨rfl,0,by omega,vr0,vq0,vq0,vq0,Keep.refl _ _,fun j h hj=>absurd hj (by omega)⟩
 rintro m σ ds A ⟨rfl,i,him,h8,h7,h0,h1,hEA,hlow⟩;refine gz (az2 h8 h7) ?_;refine wc0 ?_ ?_
 ·intro hlt;simp only[ydT]at hlt;have hiR:i<R.length:=by omega
  have hi0:=cj i;have hi1:(i:Int)<(R.length:Int):=by omega
  have hi1':=ci i;obtain⟨cr,hcr,hRr⟩:=hgR i hiR;obtain⟨xR,rfl⟩:=yxs (zak hcr);have hcrA:=zac hEA hcr;refine gz h8 ?_;refine rq ?_;intro gd K hgd hK;refine sgz (az5 h0 h1 hi0 hi1 hcrA) ?_;refine zcC hcal (Fn.mono (htell A cr R[i] hEA (List.getElem_mem hiR) hRr) ?_);rintro _ A1 ⟨rfl,hE1⟩;try simp only[go_sem]
  apply hK;refine wcz ?_ ?_
  ·intro ht;refine gz0 ?_;refine rt0 Tryz.ntmps284 ?_;refine⟨hEA.trans hE1,_,rfl,?_⟩;rw[show R.any p=true from List.any_eq_true.2 ⟨_,List.getElem_mem hiR,ht⟩];exact yet (by omega)
  ·intro ht;refine gz (az2 h8 hi1') ?_;refine⟨m - 1,by omega,rfl,i+1,by omega,vq0,vq1 h7,vq1 h0,vq1 h1,hEA.trans hE1,fun j hj hji=>?_⟩;by_cases hj2:j=i
   ·subst hj2;exact ht
   ·exact hlow j hj (by omega)
 ·intro hge;simp only[ydF]at hge;refine gz0 ?_;refine rt0 Tryz.ntmps284 ?_;refine⟨hEA,_,rfl,?_⟩;have:R.any p=false:=by
   rw[List.any_eq_false];intro x hx;obtain⟨j,hj,rfl⟩:=List.getElem_of_mem hx;rw[hlow j hj (by omega)];exact Bool.false_ne_true
  rw[this];rfl
theorem zeV{w0 w:World}{lv:Value}{R:List DatL}{g:FuncId}{cap:List Value}{p:DatL->Bool}(hl:Rows 5 (DatAt w0) w lv R)(ht:TellD w0 w g cap p R)(hlen:R.length<=1000000000):
  Fn Tryz.prog 254 #[lv,.func (.func g) #[] cap.toArray] w (fun v w'=>v= .bool (R.any p)/\Ext w w'):=by
 refine enter Tryz.func254 Tryz.ntmps254 rfl rfl ?_;refine gz0 ?_;refine rq ?_;intro gd K hgd hK;try simp only[go_sem]
 refine Fn.mono (zmC hl ht hlen) ?_;rintro _ w1 ⟨hE1,i,rfl,hi⟩;try simp only[go_sem]
 refine en hK ?_;refine rt0 Tryz.ntmps254 ?_;exact⟨by rw[hi],hE1⟩
theorem zmH(w:World)(a b:Value)(xs ys:List UInt8)(ha:Row w a (xs.map zaf))(hb:Row w b (ys.map zaf)):Fn Tryz.prog 257 #[a,b] w (fun v w'=>v= .bool (decide (xs=ys))/\w'=w):=by
 obtain⟨a1,c1,rfl,_,h1⟩:=ha;obtain⟨a2,c2,rfl,_,h2⟩:=hb;simp only[ylm]at h1 h2 ⊢;refine enter Tryz.func257 Tryz.ntmps257 rfl rfl ?_;refine gz0 ?_;refine rq ?_;intro gd K hgd hK;try simp only[go_sem]
 refine zbh (l:=xs) rfl rfl rfl vq0 (fun j hj=>by have:=h1 j (by simpa using hj);simpa using this) ?_;try simp only[go_sem]
 refine zbh (l:=ys) rfl rfl rfl vq0 (fun j hj=>by have:=h2 j (by simpa using hj);simpa using this) ?_;try simp only[go_sem]
 refine en hK ?_;refine rt0 Tryz.ntmps257 ?_;exact⟨rfl,rfl⟩
def isA(d:DatL):Bool:=decide (d.ty=1)
def isG(addr:List UInt8)(d:DatL):Bool:=isA d && decide (d.raw=addr)
theorem IsA_ok{w0 A:World}{cs:List Value}{r:DatL}(hcs:DatAt w0 cs r):Fn Tryz.prog 253 #[.agg cs.toArray] A (fun v A'=>v= .bool (isA r)/\Ext A A'):=by
 obtain⟨nm,nu,tx,rw',rfl,h1,h2,h3,h4⟩:=hcs.ex;refine enter Tryz.func253 Tryz.ntmps253 rfl rfl ?_;refine gz0 ?_;refine zax ?_;intro w1 hE1 hs1 hA;have p0:zad w1 (some ⟨A.heap.size,0,.none⟩)=some (vi r.ty):=zab hA rfl;refine gz (az2 p0 Nat.add_zero) ?_;refine rt0 Tryz.ntmps253 ?_;exact⟨rfl,hE1⟩
theorem tell_A{w0 w:World}{ds:List DatL}:TellD w0 w 253 [] isA ds:=⟨rfl,fun A cs r _ _ hcs=>IsA_ok hcs⟩
theorem tell_G{w0 w:World}{bf bh:Nat}{nv zv:Value}{a b c d:UInt8}{ds:List DatL}(hE0:Ext w0 w)(hf:w.heap[bf]? =some (.cells #[.func (.func 253) #[] #[]] 352 (0,0)))(hh:w.heap[bh]? =some (.cells #[nv,zaf a,zaf b,zaf c,zaf d,zv] 116 (0,0))):
  TellD w0 w 256 [.pointer (some ⟨bf,0,.none⟩),.pointer (some ⟨bh,0,.none⟩)] (isG [a,b,c,d]) ds:=by
 refine⟨rfl,fun A cs r hE hr hcs=>?_⟩;have hcs0:=hcs;obtain⟨nm,nu,tx,rw',rfl,h1,h2,h3,h4⟩:=hcs.ex;obtain⟨vals,⟨a1,c1,rfl,_⟩,_⟩:=id h1;obtain⟨a2,c2,rfl,_⟩:=id h2;obtain⟨a3,c3,rfl,_⟩:=id h3;obtain⟨a4,c4,hrw,_⟩:=id h4;refine enter Tryz.func256 Tryz.ntmps256 rfl rfl ?_;repeat refine c_r ?_
 rw[hrw];refine rg0 ?_;rw[←hrw];repeat refine c_r ?_
 refine zax ?_;intro w1 hE1 hs1 hA;have hE01:=hE0.trans (hE.trans hE1);have pf:zad w1 (some ⟨bf,0,.none⟩)=some (.func (.func 253) #[] #[]):=zab (Ext.at (hE.trans hE1) hf) rfl;have hhA:=Ext.at (hE.trans hE1) hh;have d5:=zae (n:=5) (l:=[vi r.ty,_,_,_,rw']) hA rfl;have p4:zad w1 (some ⟨A.heap.size,4,.none⟩)=some rw':=zab hA rfl;have hadr:Row w1 (.slice (some ⟨bh,1,.none⟩) 4 4) ([a,b,c,d].map zaf):=⟨some ⟨bh,1,.none⟩,4,rfl,ynl _,fun j hj=>by
  have hj4:j<4:=by simpa using hj
  have:adr (some ⟨bh,1,.none⟩) j=some ⟨bh,1+j,.none⟩:=by simp[adr,Addr.add]
  rw[this];refine zab hhA ?_
  match j,hj4 with
  |0,_=>rfl
  |1,_=>rfl
  |2,_=>rfl
  |3,_=>rfl⟩
 repeat refine c_r ?_
 refine zaJ (fun _=>false) [(0,true),(1,true),(2,false),(3,true),(4,true),(5,true),(6,true),(7,false),(8,false),(9,true),(10,true)] NoS mixed (by kernel_rfl) ?_;intro gd K x hgd hx hxe hK;clear hxe;have hg3:=gk 3 8 hgd rfl;have pfx:=zaa hx pf;have d5x:=zac hx d5;have p4x:=zaa hx p4;refine sgz (az2 pfx d5x) ?_;refine Fn.mono (IsA_ok hcs0) ?_;rintro _ y1 ⟨rfl,hy1⟩;refine⟨.inr hy1,?_⟩;have p4y:=zaa hy1 p4x;cases hai:isA r with
 |false=>
  simp (disch:=first|omega|assumption|rfl) only[go_sem,↓hg3];refine en hK ?_;refine rt0 Tryz.ntmps256 ?_;exact⟨by unfold isG;rw[hai];rfl,(hE1.trans hx).trans hy1⟩
 |true=>
  simp (disch:=first|omega|assumption|rfl) only[go_sem,p4y,↓hg3];refine zlf rfl (by decide) (by kernel_rfl) vq0 ?_;refine⟨.inr (Keep.refl _ _),?_⟩;simp (disch:=first|omega|assumption|rfl) only[go_sem,↓hg3];refine Fn.mono (zmH _ _ _ _ _ (h4.ext ((hE01.trans hx).trans hy1)) (hadr.ext (hx.trans hy1))) ?_;rintro _ _ ⟨rfl,rfl⟩;refine⟨.inr (Keep.refl _ _),?_⟩;simp (disch:=first|omega|assumption|rfl) only[go_sem,↓hg3];refine en hK ?_;refine rt0 Tryz.ntmps256 ?_;exact⟨by unfold isG;rw[hai];rfl,(hE1.trans hx).trans hy1⟩
end Go.Proofs.YtahbdamijngmmaaGreat
namespace Go.Proofs.YtahbdamijngmmaaGreat.P_ci
open Go Go.Proofs.YtahbdamijngmmaaGreat
set_option maxRecDepth 10000
theorem Clip_ok{w:World}{a:Option Addr}{n c:Nat}(hc:n<=c):Fn Tryz.prog 90 #[.slice a n c] w (fun u w'=>u= .slice a n n/\w'=w):=by
 refine enter Tryz.func90 Tryz.ntmps90 rfl rfl ?_;refine gz0 ?_;refine rq ?_;intro gd K hgd hK;try simp only[go_sem]
 have hcl:slD Tryz.prog (some (TypeDesc.slice 3)) (Value.slice a n c) .none (some (Value.int IntKind.i64 ↑n)) (some (Value.int IntKind.i64 ↑n))=some (.slice a n n):=zfm hc (by rfl);rw[hcl];try simp only[go_sem]
 refine en hK ?_;refine rt0 Tryz.ntmps90 ?_;exact⟨rfl,rfl⟩
end Go.Proofs.YtahbdamijngmmaaGreat.P_ci
namespace Go.Proofs.YtahbdamijngmmaaGreat
open Go
set_option maxRecDepth 10000
structure TellH(w0 w:World)(g:FuncId)(cap:List Value)(p:zem->Bool)(R:List zem):Prop where
 call:zar Tryz.prog g=true
 tell:∀(A:World) (cs:List Value) (r:zem),Ext w A->r∈R->HostC w0 cs r->Fn Tryz.prog g (.agg cs.toArray::cap).toArray A (fun v A'=>v= .bool (p r)/\Ext A A')
theorem HostC.one{w:World}{cs:List Value}{h:zem}(hc:HostC w cs h):cs.length=6/\∀v∈cs,one v=true:=by
 obtain⟨nv,a,b,c,d,zv,rfl,_,h1,h2⟩:=hc.ex;refine⟨rfl,fun v hv=>?_⟩;simp at hv;rcases hv with rfl|rfl|rfl|rfl|rfl|rfl<;>first|exact h1.isOne|exact h2.isOne|rfl
theorem tell_N{w0 w:World}{bn:Nat}{hv:Value}{host:Nm}{R:List zem}(hE0:Ext w0 w)(hb:w.heap[bn]? =some (.cells #[hv] 27 (0,0)))(hh:Row w0 hv (host.map vs))(mh:NmM host)(hR:∀h∈R,NmM h.name):
  TellH w0 w 252 [.pointer (some ⟨bn,0,.none⟩)] (fun h=>decide (zaq h.name=zaq host)) R:=by
 refine⟨rfl,fun A cs r hE hr hcs=>?_⟩;obtain⟨nv,a,b,c,d,zv,rfl,_,h1,h2⟩:=hcs.ex;have mr:=hR r hr;have l1:=mr.len;have l2:=mh.len;have e1:=h1.isOne;have e2:=h2.isOne;obtain⟨a1,c1,hnv,_⟩:=id h1;obtain⟨a2,c2,hzv,_⟩:=h2.open;refine enter Tryz.func252 Tryz.ntmps252 rfl rfl ?_;repeat refine c_r ?_
 rw[hnv,hzv];refine rg0 ?_;rw[←hnv,←hzv];repeat refine c_r ?_
 refine zax ?_;intro w1 hE1 hs1 hA;have p0:zad w1 (some ⟨A.heap.size,0,.none⟩)=some nv:=zab hA rfl;have p1:zad w1 (some ⟨bn,0,.none⟩)=some hv:=zab (Ext.at (hE.trans hE1) hb) rfl;have hE01:=hE0.trans (hE.trans hE1);repeat refine c_r ?_
 refine rc (an3 p0 p1 Nat.add_zero) (zeF w1 nv hv r.name host (h1.ext hE01) (hh.ext hE01) mr.LB mh.LB (by omega) (by omega)) ?_;rintro _ w2 ⟨rfl,hE2⟩;refine re trivial ?_;repeat refine c_r ?_
 refine rt0 Tryz.ntmps252 ?_;exact⟨rfl,hE1.trans hE2⟩
theorem tell_M{w0 w:World}{bg bf:Nat}{gv:Value}{glue:List DatL}{R:List zem}(hE0:Ext w0 w)(hb:w.heap[bg]? =some (.cells #[gv] 181 (0,0)))(hf:w.heap[bf]? =some (.cells #[.func (.func 253) #[] #[]] 352 (0,0)))(hg:Rows 5 (DatAt w0) w gv glue)(hgl:glue.length<=1000000000):
  TellH w0 w 255 [.pointer (some ⟨bg,0,.none⟩),.pointer (some ⟨bf,0,.none⟩)] (fun h=>glue.any (isG h.addr)) R:=by
 refine⟨rfl,fun A cs r hE hr hcs=>?_⟩;obtain⟨nv,a,b,c,d,zv,rfl,ha,h1,h2⟩:=hcs.ex;obtain⟨a1,c1,hnv,_⟩:=id h1;obtain⟨a2,c2,hzv,_⟩:=h2.open;refine enter Tryz.func255 Tryz.ntmps255 rfl rfl ?_;repeat refine c_r ?_
 rw[hnv,hzv];refine rg0 ?_;rw[←hnv,←hzv];repeat refine c_r ?_
 refine zax ?_;intro w1 hE1 hs1 hA;have p1:zad w1 (some ⟨bg,0,.none⟩)=some gv:=zab (Ext.at (hE.trans hE1) hb) rfl;have hE01:=hE0.trans (hE.trans hE1);repeat refine c_r ?_
 refine rc p1 (zeV (hg.ext (hE.trans hE1)) (tell_G hE01 (Ext.at (hE.trans hE1) hf) hA) hgl) ?_;rintro _ w2 ⟨rfl,hE2⟩;refine re trivial ?_;repeat refine c_r ?_
 refine rt0 Tryz.ntmps255 ?_;exact⟨by rw[ha],hE1.trans hE2⟩
def zbF(host:Nm)(glue:List DatL)(h:zem):Bool:=if glue.any isA=true then glue.any (isG h.addr) else decide (zaq h.name=zaq host)
def zcK{α:Type}(p:α->Bool):Nat->List α->List Int
 |_,[]=>[]
 |i,h::l=>(if p h=true then [(i:Int)] else [])++zcK p (i+1) l
def zec(N:NetL)(host:Nm)(glue:List DatL):List Int:=zcK (zbF host glue) 0 N.hosts
theorem zhw{α:Type}{p:α->Bool}:∀{l m:List α} {i:Nat},zcK p i (l++m)=zcK p i l++zcK p (i+l.length) m
 | [],m,i=>by simp[zcK]
 |h::l,m,i=>by
  simp only[List.cons_append,zcK,yla];rw[zhw (l:=l),List.length_cons,show i+1+l.length=i+(l.length+1) from by omega]
theorem zgh{α:Type}{p:α->Bool}{l:List α}{i:Nat}(hi:i<l.length):zcK p 0 (l.take (i+1))=zcK p 0 (l.take i)++if p l[i]=true then [(i:Int)] else []:=by
 rw[zal hi,zhw];simp only[zcK,List.append_nil,List.length_take];rw[show 0+min i l.length=i from by omega]
theorem zdc{α:Type}{p:α->Bool}:∀{l:List α} {i:Nat},(zcK p i l).length<=l.length
 | [],i=>by simp[zcK]
 |h::l,i=>by
  have:=zdc (p:=p) (l:=l) (i:=i+1);simp only[zcK,List.length_append,List.length_cons]
  split<;>simp<;>omega
theorem Meant_ok{w0 w:World}(hE0:Ext w0 w){cs:List Value}{N:NetL}{host:Nm}{hv gv:Value}{glue:List DatL}(hN:NetAt w0 cs N)(hG:NetZ N)(hh:Row w0 hv (host.map vs))(mh:NmM host)(hg:Rows 5 (DatAt w0) w gv glue)(hgl:glue.length<=1000000000):
  Fn Tryz.prog 205 #[.agg cs.toArray,hv,gv] w (fun v w'=>Ext w w'/\Row w' v ((zec N host glue).map vi)/\BlkB w.heap.size w' v):=by
 obtain⟨hs,rs,rfl,hhs,hr⟩:=hN.ex;obtain⟨ah,ch,rfl,hch,hgh⟩:=hhs.open;obtain⟨ar,cr,hrv,_⟩:=id hr;obtain⟨a1,c1,hnv,_⟩:=id hh;obtain⟨a2,c2,hgv,_⟩:=hg.open;have hl:=hG.hl;refine enter Tryz.func205 Tryz.ntmps205 rfl rfl ?_;repeat refine c_r ?_
 rw[hrv,hnv,hgv];refine rg0 ?_;rw[←hrv,←hnv,←hgv];repeat refine c_r ?_
 rw[zai,zai,zai];refine zcz ?_;intro w1 hE1 hs1 hA hB hC;refine gz0 ?_;refine rq ?_;intro gd K hgd hK;try simp only[go_sem]
 refine zkP ?_;intro w2 hE2 hs2 hD;refine zaU (P:=Tryz.prog) (t:=352) (j:=0) (u:= .func (.func 253) #[] #[]) (l:=[_]) hD (by simp) rfl rfl rfl ?_;intro w3 hs3 hD3 hk3;try simp only[go_sem]
 apply hK;simp only[List.set_cons_zero]at hD3;obtain⟨b8,hb8⟩:∃b,w1.heap.size=b:=⟨_,rfl⟩;rw[hb8]at hD3 hk3 hs2 ⊢;have hE3:Ext w w3:=Keep.to_ext (hE1.trans hE2) rfl (fun b hb=>by omega) hk3;have up:∀{b:Nat} {O:Obj},w1.heap[b]? =some O->w3.heap[b]? =some O:=fun {b O} h=>(hk3.block _ (by have:=(Array.getElem?_eq_some_iff.1 h).1;omega) (by have:=(Array.getElem?_eq_some_iff.1 h).1;omega)).trans (Ext.at hE2 h);have p0:zad w3 (some ⟨w.heap.size,0,.none⟩)=some (.slice ah N.hosts.length ch):=zab (up hA) rfl;have pC:zad w3 (some ⟨w.heap.size+1+1,0,.none⟩)=some gv:=zab (up hC) rfl;have pD:zad w3 (some ⟨b8,0,.none⟩)=some (.func (.func 253) #[] #[]):=zab hD3 rfl;repeat refine c_r ?_
 refine rc (an2 pC pD) (zeV (hg.ext hE3) tell_A hgl) ?_;rintro _ w4 ⟨rfl,hE4⟩;refine re trivial ?_;have hE34:=hE3.trans hE4;have hE04:=hE0.trans hE34;repeat refine c_r ?_
 refine zaw (Q:=fun e σ' ds' v'=>e= .normal/\ds'=[]/\v'=w4/\σ' 3= .pointer (some ⟨w.heap.size,0,.none⟩)/\∃g cap,σ' 7= .func (.func g) #[] cap.toArray/\TellH w0 w4 g cap (zbF host glue) N.hosts) ?_ ?_
 ·cases hany:glue.any isA with
  |true=>
   refine wt trivial ?_;refine gz0 ?_;have hp:zbF host glue=fun h=>glue.any (isG h.addr):=funext fun h=>by unfold zbF;rw[hany];rfl
   exact⟨rfl,rfl,rfl,vq0,255,[.pointer (some ⟨w.heap.size+1+1,0,.none⟩),.pointer (some ⟨b8,0,.none⟩)],vr0,by rw[hp];exact tell_M hE04 (Ext.at hE4 (up hC)) (Ext.at hE4 hD3) (hg.ext hE34) hgl⟩
  |false=>
   refine wf trivial ?_;repeat refine c_r ?_
   have hp:zbF host glue=fun h=>decide (zaq h.name=zaq host):=funext fun h=>by unfold zbF;rw[hany];rfl
   exact⟨rfl,rfl,rfl,vq0,252,[.pointer (some ⟨w.heap.size+1,0,.none⟩)],vr0,by rw[hp];exact tell_N hE04 (Ext.at hE4 (up hB)) hh mh hG.nm⟩
 rintro _ σ1 _ w5 ⟨rfl,rfl,rfl,h3,g,cap,h7,htell⟩;have p0':=zaa hE4 p0;refine gz (az3 h3 p0' Nat.add_zero) ?_;refine zao (fun m σ ds A=>ds=[]/\∃(i:Nat) (ov:Value),i+m=N.hosts.length/\σ 20=vi i/\σ 19=vi N.hosts.length/\σ 18= .slice ah N.hosts.length ch/\σ 7= .func (.func g) #[] cap.toArray/\σ 9=ov/\Own w5.heap.size A 3 ov ((zcK (zbF host glue) 0 (N.hosts.take i)).map vi)/\Ext w5 A) N.hosts.length ?_ ?_
 ·exact⟨rfl,0,.slice .none 0 0,by omega,vr0,vq0,vq0,vq1 h7,vq0,Own.nil _ _ _,Keep.refl _ _⟩
 rintro m σ ds A ⟨rfl,i,ov,him,s20,s19,s18,s7,s9,hown,hEA⟩;refine gz (az2 s20 s19) ?_;refine wc0 ?_ ?_
 ·intro hlt;simp only[ydT]at hlt;have hi:i<N.hosts.length:=by omega
  have hi0:=cj i;have hi1':=ci i;obtain⟨cs,hcs,hH⟩:=hgh i hi;obtain⟨xz,rfl⟩:=yxs (zak hcs);obtain⟨xi,hxi⟩:∃xi,adr (some xz) (i*6)=some xi:=⟨_,rfl⟩;rw[hxi]at hcs;obtain⟨hc6,hc1⟩:=hH.one;have d:=zac (hE04.trans hEA) hcs;refine rqz ?_;intro gd K hgd hK;refine sgz (az6 s20 s18 hi0 hlt hxi d) ?_;refine za3 (P:=Tryz.prog) (l:=cs) (by rw[hc6];rfl) hc1 (by rw[hc6];rfl) rfl ?_;intro A1 hE6 hs6 hB6;try simp only[go_sem]
  apply hK;have d1:=zae (n:=6) hB6 hc6.symm;refine rqz ?_;intro gd K hgd hK;refine sgz (az2 s7 d1) ?_;refine zcC htell.call (Fn.mono (htell.tell A1 cs N.hosts[i] (hEA.trans hE6) (List.getElem_mem hi) hH) ?_);rintro _ A2 ⟨rfl,hE7⟩;try simp only[go_sem]
  apply hK;have hE67:=hE6.trans hE7;have hown2:=hown.ext hE67;have hpk:=zgh (p:=zbF host glue) hi;have hlen:=zdc (p:=zbF host glue) (l:=N.hosts.take i) (i:=0);have hsz:=(hEA.trans hE67).size;repeat refine c_r ?_
  refine zaw (Q:=fun e σ' ds' v'=>e= .normal/\ds'=[]/\σ' 20=vi i/\σ' 19=vi N.hosts.length/\σ' 18= .slice (some xz) N.hosts.length ch/\σ' 7= .func (.func g) #[] cap.toArray/\∃ov',σ' 9=ov'/\Own w5.heap.size v' 3 ov' ((zcK (zbF host glue) 0 (N.hosts.take (i+1))).map vi)/\Ext w5 v') ?_ ?_
  ·cases hb:zbF host glue N.hosts[i] with
   |false=>
    rw[hb,if_neg (by decide),List.append_nil]at hpk;refine wf trivial ?_;repeat refine c_r ?_
    exact⟨rfl,rfl,vq1 s20,vq1 s19,vq1 s18,vq1 s7,ov,vq1 s9,by rw[hpk];exact hown2,hEA.trans hE67⟩
   |true=>
    rw[hb,if_pos rfl]at hpk;refine wt trivial ?_;refine rqz ?_;intro gd K hgd hK;refine sgz s9 ?_;refine zdk (z:=vi 0) (by rfl) (by rfl) (by rfl) (by rfl) (by rfl) ?_;intro A3 hE8 hs8 ho8;try simp only[go_sem]
    refine zcv (B:=w5.heap.size) (hown2.ext hE8) ho8.row (by rfl) (by rfl) (by rfl) (by rfl) (by rfl) (by rfl) ((vr1 s9)) vr0 (fun q hq=>by rw[List.mem_singleton.1 hq];rfl) (by simp at hlen ⊢;omega) (by decide) (by omega) ?_;intro ov' A4 ho9 hE9 _ _;try simp only[go_sem]
    apply hK;exact⟨rfl,rfl,vq1 s20,vq1 s19,vq1 s18,vq1 s7,ov',vr0,by rw[hpk,List.map_append];exact ho9,hE9 _ ((hEA.trans hE67).trans hE8) (ynl _)⟩
  clear s20 s19 s18 s7 s9;rintro _ σ2 _ A3 ⟨rfl,rfl,s20,s19,s18,s7,ov',s9,hown3,hE3⟩;refine gz (az2 s20 hi1') ?_;exact⟨m - 1,by omega,rfl,i+1,ov',by omega,vq0,vq1 s19,vq1 s18,vq1 s7,vq1 s9,hown3,hE3⟩
 ·intro hge;simp only[ydF]at hge;rw[List.take_of_length_le (by omega)]at hown;obtain⟨ao,co,hov,hco,hgo⟩:=hown.row;rw[hov]at s9;repeat refine c_r ?_
  refine rc s9 (P_ci.Clip_ok hco) ?_;rintro _ A1 ⟨rfl,rfl⟩;refine re trivial ?_;repeat refine c_r ?_
  refine rt0 Tryz.ntmps205 ?_;exact⟨hE34.trans hEA,⟨ao,_,rfl,ynl _,hgo⟩,((hov▸hown.blk).same).mono hE34.size⟩
end Go.Proofs.YtahbdamijngmmaaGreat
namespace Go.Proofs.YtahbdamijngmmaaGreat.P_st
open Go Go.Proofs.YtahbdamijngmmaaGreat
set_option maxRecDepth 10000
theorem Clip_ok{w:World}{a:Option Addr}{n c:Nat}(hc:n<=c):Fn Tryz.prog 147 #[.slice a n c] w (fun u w'=>u= .slice a n n/\w'=w):=by
 refine enter Tryz.func147 Tryz.ntmps147 rfl rfl ?_;refine gz0 ?_;refine rq ?_;intro gd K hgd hK;try simp only[go_sem]
 have hcl:slD Tryz.prog (some (TypeDesc.slice 80)) (Value.slice a n c) .none (some (Value.int IntKind.i64 ↑n)) (some (Value.int IntKind.i64 ↑n))=some (.slice a n n):=zfm hc (by rfl);rw[hcl];try simp only[go_sem]
 refine en hK ?_;refine rt0 Tryz.ntmps147 ?_;exact⟨rfl,rfl⟩
end Go.Proofs.YtahbdamijngmmaaGreat.P_st
namespace Go.Proofs.YtahbdamijngmmaaGreat
open Go
set_option maxRecDepth 10000
structure zav where
 sv:Int
 name:Nm
 rw:Int
 rf:Int
 ref:Bool
 fin:Int
def stV(nv:Value)(s:zav):List Value:=[vi s.sv,nv,vi s.rw,vi s.rf,.bool s.ref,vi s.fin]
def StN(nv:Value)(cs:List Value)(s:zav):Prop:=cs=stV nv s/\one nv=true
structure StC(w:World)(cs:List Value)(s:zav):Prop where
 ex:∃nv,cs=stV nv s/\Row w nv (s.name.map vs)
theorem zbs{nv:Value}{s:zav}(h:one nv=true):∀v∈stV nv s,one v=true:=fun v hv=>by
 unfold stV at hv;simp at hv;rcases hv with rfl|rfl|rfl|rfl|rfl|rfl<;>first|assumption|rfl
theorem zba(nv:Value):zeD 6 (StN nv):=⟨fun h=>by rw[h.1];rfl,fun h=>by rw[h.1];exact zbs h.2⟩
theorem StC.ext{w x:World}{cs:List Value}{s:zav}(h:StC w cs s)(hE:Ext w x):StC x cs s:=by
 obtain⟨nv,e,h1⟩:=h.ex;exact⟨nv,e,h1.ext hE⟩
theorem zc4{w:World}{nv:Value}{v:Value}{l:List zav}(h:Rows 6 (StN nv) w v l)(hn:∀s∈l,Row w nv (s.name.map vs)):Rows 6 (StC w) w v l:=by
 obtain⟨L,h1,h2,h3⟩:=h;exact⟨L,h1,h2,fun i h h'=>⟨nv,(h3 i h h').1,hn _ (List.getElem_mem h')⟩⟩
def endS(s:zav)(k:Int):List zav:=[{s with fin:=k}]
def zd5(N:NetL)(s:zav):List zav:=N.roots.map fun r=>{s with sv:=r}
theorem zbL{s x:zav}{k:Int}(h:x∈endS s k):x.name=s.name:=by
 unfold endS at h;rw[List.mem_singleton.1 h]
def StF(B:Nat)(ok:Value->Prop)(w:World)(v:Value)(L:List zav):Prop:=BlkB B w v/\∃u,ok u/\Rows 6 (StN u) w v L/\∀s∈L,Row w u (s.name.map vs)
theorem StF.mono{B B':Nat}{ok ok':Value->Prop}{w:World}{v:Value}{L:List zav}(h:StF B ok w v L)(hB:B'<=B)(hok:∀u,ok u->ok' u):StF B' ok' w v L:=by
 obtain⟨h0,u,h1,h2⟩:=h;exact⟨h0.mono hB,u,hok u h1,h2⟩
theorem zcs{B:Nat}{nv:Value}{s:zav}{k:Int}{w:World}{v:Value}(h:Rows 6 (StN nv) w v (endS s k)/\BlkB B w v)(hr:Row w nv (s.name.map vs)):StF B (fun u=>u=nv) w v (endS s k):=
 ⟨h.2,nv,rfl,h.1,fun x hx=>by rw[zbL hx];exact hr⟩
theorem zc1(w:World){nv:Value}{l:List Value}(hr:Row w nv l)(s:zav)(k:Int):
  Fn Tryz.prog 94 #[.agg (stV nv s).toArray,vi k] w (fun v w'=>Ext w w'/\Rows 6 (StN nv) w' v (endS s k)/\BlkB w.heap.size w' v):=by
 have h1:=hr.isOne;obtain⟨an,cn,hnv,_⟩:=hr;unfold stV;rw[hnv];refine enter Tryz.func94 Tryz.ntmps94 rfl rfl ?_;refine gz0 ?_;rw[←hnv];repeat refine c_r ?_
 refine zax ?_;intro w1 hE1 hs1 hA;refine rq ?_;intro gd K hgd hK;try simp only[go_sem]
 refine zaU (P:=Tryz.prog) (t:=3) (j:=5) (u:=vi k) (l:=stV nv s) hA (by show 5<6;decide) rfl rfl rfl ?_;intro w2 hs2 hA2 hk2;try simp only[go_sem]
 apply hK;have hE2:=Keep.to_ext hE1 rfl (fun b hb=>by omega) hk2;have d:zan w2 (some ⟨w.heap.size,0,.none⟩) 6=some (stV nv {s with fin:=k}):=zae hA2 rfl;refine rqz ?_;intro gd K hgd hK;refine sgz d ?_;refine zaR (C:=StN nv) (zba nv) (l:=stV nv {s with fin:=k}) (by rfl) (by rfl) (by rfl) (by rfl) ⟨rfl,h1⟩ (by decide) ?_;intro w3 hE3 hs3 ho3;try simp only[go_sem]
 refine en hK ?_;refine rt0 Tryz.ntmps94 ?_;exact⟨hE2.trans hE3,ho3.rows,ho3.blk.mono hE2.size⟩
theorem zja{w0 w:World}(hE0:Ext w0 w){cs:List Value}{N:NetL}(hN:NetAt w0 cs N)(hrl:N.roots.length<=1000){nv:Value}{l:List Value}(hr:Row w nv l)(s:zav):
  Fn Tryz.prog 92 #[.agg cs.toArray,.agg (stV nv s).toArray] w (fun v w'=>Ext w w'/\Rows 6 (StN nv) w' v (zd5 N s)/\BlkB w.heap.size w' v):=by
 have h1:=hr.isOne;obtain⟨an,cn,hnv,_⟩:=hr;obtain⟨hv,rv,rfl,hh,hro⟩:=hN.ex;obtain⟨ah,ch,hhv,_⟩:=hh.open;obtain⟨ar,cr,rfl,hcr,hgr⟩:=hro;simp only[ylm]at hcr hgr;unfold stV;rw[hnv,hhv];refine enter Tryz.func92 Tryz.ntmps92 rfl rfl ?_;refine rqz ?_;intro gd K hgd hK;simp (disch:=first|omega|assumption|rfl) only[go_sem,ylm];refine hK _ _ ?_;clear hK hgd;clear K gd;rw[←hnv,←hhv];repeat refine c_r ?_
 rw[zai];refine zaF ?_;intro w1 hE1 hs1 hA hC;have p1:zad w1 (some ⟨w.heap.size,1,.none⟩)=some (.slice ar N.roots.length cr):=zab hA rfl;refine gz (az2 p1 yn0) ?_;obtain⟨b3,hb3⟩:∃b,w.heap.size+1=b:=⟨_,rfl⟩;rw[hb3]at hC ⊢;refine zao (fun m σ ds A=>ds=[]/\∃(i:Nat) (ov:Value) (s':zav),i+m=N.roots.length/\σ 11=vi i/\σ 10=vi N.roots.length/\σ 9= .slice ar N.roots.length cr/\σ 3= .pointer (some ⟨b3,0,.none⟩)/\σ 5=ov/\A.heap[b3]? =some (.cells (stV nv s').toArray 80 (0,0))/\(∃k,s'={s with sv:=k})/\
  Owns 6 (StN nv) w1.heap.size A 80 ov ((N.roots.take i).map fun r=>{s with sv:=r})/\Ext w A/\w1.heap.size<=A.heap.size) N.roots.length ?_ ?_
 ·exact⟨rfl,0,.slice .none 0 0,s,by omega,vr0,vq0,vq0,vq0,vq0,hC,⟨s.sv,rfl⟩,Owns.nil _ _ _ _ _,hE1,ynl _⟩
 rintro m σ ds A ⟨rfl,i,ov,s',him,s11,s10,s9,s3,s5,hB,⟨k0,hs'⟩,hown,hEA,hsz⟩;refine gz (az2 s11 s10) ?_;refine wc0 ?_ ?_
 ·intro hlt;simp only[ydT]at hlt;have hi:i<N.roots.length:=by omega
  have hi0:=cj i;have hi1':=ci i;have hg:=zaa (hE0.trans hEA) (hgr i hi);rw[List.getElem_map]at hg;obtain⟨xz,rfl⟩:=yxs (zag (hgr 0 (by omega)));have hszA:=hEA.size;refine rqz ?_;intro gd K hgd hK;simp (disch:=first|omega|assumption|rfl) only[go_sem,s11,s9,hi0,hlt,hg,Nat.mul_one];refine hK _ _ ?_;clear hK hgd;clear K gd;refine rqz ?_;intro gd K hgd hK;refine sgz s3 ?_;refine zaU (P:=Tryz.prog) (t:=3) (j:=0) (u:=vi N.roots[i]) (l:=stV nv s') hB (by show 0<6;decide) rfl rfl rfl ?_;intro A1 hs6 hB1 hk1;try simp only[go_sem]
  apply hK;have hB1':A1.heap[b3]? =some (.cells (stV nv {s with sv:=N.roots[i]}).toArray 80 (0,0)):=by rw[hs']at hB1;exact hB1
  have hE1':=Keep.to_ext hEA rfl (fun b hb=>by omega) hk1;have d:zan A1 (some ⟨b3,0,.none⟩) 6=some (stV nv {s with sv:=N.roots[i]}):=zae hB1' rfl;have hown1:=hown.keep hk1 (fun b hb hb2=>by have:=(hown.ge hb).1;omega);refine rqz ?_;intro gd K hgd hK;refine sgz (az3 s5 s3 d) ?_;refine zaR (C:=StN nv) (zba nv) (l:=stV nv {s with sv:=N.roots[i]}) (by rfl) (by rfl) (by rfl) (by rfl) ⟨rfl,h1⟩ (by decide) ?_;intro A2 hE7 hs7 ho7;try simp only[go_sem]
  refine zaG (zba nv) (hown1.ext hE7) ho7.rows (by rfl) (by rfl) (by rfl) (by rfl) (by rfl) (by rfl) (by decide) ((vr1 s5)) vr0 (by simp;omega) (by decide) (by omega) ?_;intro ov' A3 ho8 hE8 hk8 _;try simp only[go_sem]
  apply hK;have hsz3:=hk8.size;refine gz (az2 s11 hi1') ?_;refine⟨m - 1,by omega,rfl,i+1,ov',{s with sv:=N.roots[i]},by omega,vq0,vq1 s10,vq1 s9,vq1 s3,vq0,?_,⟨_,rfl⟩,?_,hE8 w (hE1'.trans hE7) (by omega),by omega⟩
  ·refine(hk8.block _ (by omega) (fun hb=>?_)).trans (Ext.at hE7 hB1');have:=(hown1.ge hb).1;omega
  ·rw[zal hi,List.map_append];exact ho8
 ·intro hge;simp only[ydF]at hge;have hfull:(N.roots.take i).map (fun r=>({s with sv:=r}:zav))=zd5 N s:=by rw[List.take_of_length_le (by omega)];rfl
  rw[hfull]at hown;obtain⟨ao,co,hov,hco,_⟩:=hown.rows.open;rw[hov]at s5 hown;repeat refine c_r ?_
  refine rc s5 (P_st.Clip_ok hco) ?_;rintro _ A1 ⟨rfl,rfl⟩;refine re trivial ?_;repeat refine c_r ?_
  refine rt0 Tryz.ntmps92 ?_;have:=hown.rows.take (m:=(zd5 N s).length) (c2:=(zd5 N s).length) (ynl _) (ynl _);rw[List.take_length]at this;exact⟨hEA,this,hown.blk.same.mono (by have:=hE1.size;omega)⟩
theorem zml{w0 w:World}(hE0:Ext w0 w){cs:List Value}{N:NetL}(hN:NetAt w0 cs N)(hrl:N.roots.length<=1000){nv:Value}{q:Nm}(hq:Row w nv (q.map vs)):
  Fn Tryz.prog 44 #[.agg cs.toArray,nv] w (fun v w'=>Ext w w'/\StF w.heap.size (fun u=>u=nv) w' v (zd5 N ⟨0,q,0,0,false,0⟩)):=by
 have hN0:=hN;obtain⟨hv,rv,rfl,hh,hr⟩:=hN.ex;obtain⟨ah,ch,hhv,_⟩:=hh.open;obtain⟨ar,cr,hrv,_⟩:=id hr;obtain⟨an,cn,hnv,_⟩:=id hq;refine enter Tryz.func44 Tryz.ntmps44 rfl rfl ?_;repeat refine c_r ?_
 rw[hhv,hrv,hnv];refine rg0 ?_;rw[←hhv,←hrv,←hnv];repeat refine c_r ?_
 refine zax ?_;intro w1 hE1 hs1 hA;have d:=zae (n:=4) (l:=[hv,rv,vi N.rw,vi N.rf]) hA rfl;refine rqz ?_;intro gd K hgd hK;refine sgz d ?_;refine⟨by kernel_rfl,?_⟩;rw[hnv,show bdV Tryz.prog 80 [(1,.slice an (q.map vs).length cn)]=some (.agg #[vi 0,.slice an (q.map vs).length cn,vi 0,vi 0,.bool false,vi 0]) from by kernel_rfl,←hnv];try simp only[go_sem]
 refine Fn.mono (zja (hE0.trans hE1) hN0 hrl (hq.ext hE1) ⟨0,q,0,0,false,0⟩) ?_;rintro v w2 ⟨hE2,hrs⟩;try simp only[go_sem]
 refine en hK ?_;refine rt0 Tryz.ntmps44 ?_;exact⟨hE1.trans hE2,hrs.2.mono hE1.size,nv,rfl,hrs.1,fun s hs=>by
  obtain⟨r,_,rfl⟩:=List.mem_map.1 hs;exact hq.ext (hE1.trans hE2)⟩
end Go.Proofs.YtahbdamijngmmaaGreat
namespace Go.Proofs.YtahbdamijngmmaaGreat
open Go Go.ChangeShapes Go.WideShapes Go.ChangeAt Go.RowKit Go.WideElems
theorem Ext.below{w x:World}(h:Ext w x):RowKit.Below w.heap.size w x:=⟨h.os,h.tape,h.output,h.size,fun k hk=>h.block k hk (fun h=>h)⟩
theorem Ext.kept{w x:World}(h:Ext w x)(may:MemPlace->Prop):w.keptBut x may:=by
 refine⟨h.os,h.output,fun i hi=>?_⟩;rw[h.block i hi (fun h=>h)];cases hw:w.heap[i]? with
 |none=>trivial
 |some o=>cases o<;>simp
theorem zd0{H:Type}{enc:TypeId×Value->H}{P:Program}(hl:laidOutB P=true){W W':World}{sp:Nat->Bool}(hE:Ext W W'):
  ∀{ts:List TypeId} {vs:List Value} {ds:List (DataW H)} {ps:List MemPlace},(∀t∈ts,P.readableRec t=true/\t<P.types.size)->DataW.TrodAll enc P W 0 (fun _=>true) true ts vs ds ps->(∀x∈ps,x.block<W.heap.size)->(∀x∈ps,sp x.block=true)->
   DataW.TrodAll enc P W' 0 sp true ts vs ds ps
 | [],_,_,_,_,h,_,_=>by
  obtain⟨rfl,rfl,rfl⟩:=trodAll_nil h;exact trodAll_mk0
 |_::_,_,_,_,ht,h,hlt,hs=>by
  obtain⟨v,vs1,d,ds1,a,b,rfl,rfl,rfl,h1,h2⟩:=trodAll_cons h;obtain⟨hr,hrow⟩:=ht _ (List.mem_cons_self ..);exact trodAll_cons_mk (WideElems.Trod_stays hl hr hrow h1 (fun x hx=>hE.below.same (hlt x (List.mem_append_left _ hx))) (fun x hx=>hs x (List.mem_append_left _ hx)))
   (zd0 hl hE (fun t h=>ht t (List.mem_cons_of_mem _ h)) h2 (fun x hx=>hlt x (List.mem_append_right _ hx)) (fun x hx=>hs x (List.mem_append_right _ hx)))
theorem zka{w x:World}(h:Ext w x){b:Nat}(hb:b<w.heap.size)(o:Nat):x.frozen? ⟨b,o,.none⟩=w.frozen? ⟨b,o,.none⟩:=by
 unfold World.frozen?;rw[h.block b hb (fun h=>h)]
theorem law_post{H:Type}{enc:TypeId×Value->H}{P:Program}{f:Func}{s:ChangeSpec}{apart fresh handsOn again:Bool}{W W':World}{args:Array Value}{ds gs:List (DataW H)}{before:List MemPlace}
  (hW:DataW.Whole enc P f.params.toList s.vars apart W args.toList ds gs before) (hvn:s.vars=[]) (hspec:s.fn H ds={results:=[.lit (.bool true)],args:=ds}) {tb:TypeId} (hrt:f.resultTypes=#[tb]) (htb:P.underlying tb=some .bool)
  (hl:laidOutB P=true) (hrd:∀t∈f.params.toList,P.readableRec t=true/\t<P.types.size) (hE:Ext W W'):s.post enc P f apart fresh handsOn again W args (.bool true) W':=by
 have hlt:=hW.lt;have hW0:=hW;obtain⟨p,q,hA,hV,hpq,hfz,hnd⟩:=hW;have hq:gs=[]/\q=[]:=by
  rw[hvn]at hV;cases gs with
  |nil=>exact⟨rfl,hV⟩
  |cons _ _=>exact hV.elim
 obtain⟨rfl,rfl⟩:=hq;rw[List.append_nil]at hpq;subst hpq;have hres:∀(b:Nat) (sp:Nat->Bool) (hd:Bool),DataW.TrodAll enc P W' b sp hd f.resultTypes.toList ((Value.bool true).resultList f.resultTypes.size) (s.fn H (ds++ [])).results []:=fun b sp hd=>by
  rw[List.append_nil,hspec,hrt];exact trodAll_mk1 (shut_bool htb true)
 have hargs:∀sp:Nat->Bool,(∀x∈before,sp x.block=true)->DataW.TrodAll enc P W' 0 sp true f.params.toList args.toList (s.fn H (ds++ [])).args before:=fun sp hs=>by
  rw[List.append_nil,hspec];exact zd0 hl hE hrd hA hlt hs
 have hvars:∀sp:Nat->Bool,DataW.TrodVars enc P W' sp s.vars (s.fn H (ds++ [])).vars []:=fun sp=>by
  rw[List.append_nil,hspec,hvn];rfl
 have hold:∀x∈before,(fun b=>decide (b<W.heap.size)) x.block=true:=fun x hx=>by simpa using hlt x hx
 refine⟨ds,[],before,[],before,[],hW0,hres _ _ _,hargs _ hold,hvars _,hE.kept _,fun _=>?_⟩;refine⟨fun j t r h1 h2=>?_,_,_,([]++before)++ [],⟨[]++before,[],trodAll_append (hargs _ (fun _ _=>rfl)) (hres _ _ _),hvars _,rfl,?_,?_⟩,?_⟩
 ·rw[hrt]at h1 h2
  match j with
  |0=>
   simp at h1;subst h1;have:r= .bool true:=by simpa [Value.resultList] using h2.symm
   subst this;exact okWide_bool_mk htb true
  |j+1=>simp at h1
 ·intro b off hp;have hp':MemPlace.cell b off∈before:=by simpa using hp
  rw[zka hE (show b<W.heap.size from hlt _ hp')];exact hfz b off hp'
 ·intro ha;simpa using hnd ha
 ·intro x hx _;simpa using hx
theorem law_lift{C:Checked}{os:Os}{f:FuncId}{fn:Func}{s:ChangeSpec}{conds:List PathCond}{apart fresh handsOn again:Bool}{H:Type}{enc:TypeId×Value->H}
  (own:ownKnob C.prog.godebug=none) (started:os.Started) (noInit:C.prog.inits.idxOf? f=none) (hfn:C.prog.funcs[f]? =some fn)
  (witness:∃(w:World) (tape:Tape) (i:Input),w.os=os/\(w.forCall tape i).Shaped C.prog/\i.vars=[]/\Input.okWide C.prog (w.forCall tape i) .any w.heap.size f i/\
   s.pre6 enc C.prog fn conds apart (w.forCall tape i).memory i.args/\({}:Assume).holds C.prog (lone (Frame.enter C.prog f i.args .normal) [] (w.forCall tape i)))
  (hvn:s.vars=[]) (hspec:∀ds:List (DataW H),ds.length=fn.params.size->s.fn H ds={results:=[.lit (.bool true)],args:=ds}) {tb:TypeId} (hrt:fn.resultTypes=#[tb]) (htb:C.prog.underlying tb=some .bool)
  (hl:laidOutB C.prog=true) (hrd:fn.params.toList.all (fun t=>C.prog.readableRec t && decide (t<C.prog.types.size))=true)
  (walk:∀(W:World) (base:Nat) (args:List Value) (ds:List (DataW H)) (p:List MemPlace),(∀(j:Nat) t v,fn.params[j]? =some t->args[j]? =some v->Value.okWide C.prog W .any base t v)->
   DataW.TrodAll enc C.prog W 0 (fun _=>true) true fn.params.toList args ds p->(∀x∈DataW.weightsEach C.prog fn.params.toList ds,x<=reachBytes)->Fn C.prog f args.toArray W (fun v W'=>v= .bool true/\Ext W W')):
  ReturnsInHanded {} C os f .any (s.pre6 enc C.prog fn conds apart) (s.post enc C.prog fn apart fresh handsOn again):=by
 refine returnsInHanded_of_change_sized own started noInit hfn witness ?_;intro W base args ds gs before hval hW _ hwt _;have hW0:=hW;obtain⟨p,q,hA,hV,_⟩:=hW;have hgs:gs=[]:=by
  rw[hvn]at hV;cases gs with
  |nil=>rfl
  |cons _ _=>exact hV.elim
 subst hgs;have hvt:s.plain.varTypes C.prog=[]:=by
  unfold DataSpec.varTypes;rw[show s.plain.vars=[] from hvn];rfl
 rw[hvt,List.append_nil,List.append_nil]at hwt;have hlen:∀{ts:List TypeId} {vs:List Value} {ds:List (DataW H)} {ps:List MemPlace},DataW.TrodAll enc C.prog W 0 (fun _=>true) true ts vs ds ps->ds.length=ts.length:=by
  intro ts
  induction ts with
  |nil=>intro vs ds ps h;obtain⟨rfl,rfl,rfl⟩:=trodAll_nil h;rfl
  |cons t ts ih=>
   intro vs ds ps h;obtain⟨v,vs1,d,ds1,a,b,rfl,rfl,rfl,h1,h2⟩:=trodAll_cons h;simp[ih h2]
 have hw:=walk W base args.toList ds p (fun j t v h1 h2=>hval j t v h1 (by simpa using h2)) hA (fun x hx=>by simpa using (List.all_eq_true.1 hwt) x hx);rw[Array.toArray_toList]at hw;refine Calls.mono (callsIn_wide.1 hw) ?_;rintro e W' ⟨v,rfl,rfl,hE⟩;refine⟨_,rfl,law_post hW0 hvn (hspec ds (by rw[hlen hA];simp)) hrt htb hl (fun t ht=>?_) hE⟩;have:=(List.all_eq_true.1 hrd) t ht;simpa using this
/-! arguments -/
section
variable {H : Type} {enc : TypeId × Value -> H} {P : Program} {w : World} {base : Nat} {sp : Nat -> Bool} {held : Bool}
def Rd(enc:TypeId×Value->H)(P:Program)(w:World)(base:Nat)(sp:Nat->Bool)(held:Bool)(t:TypeId)(v:Value):Prop:=∃n x,DataW.trod enc P w base sp held n t [v]=some x/\∀k∈x.1.weights P t,k<=reachBytes
theorem zcT{e:TypeId}{d:DataW H}{k:Nat}:∀{l:List (DataW H)},d∈l->k∈d.weights P e->k∈DataW.weightsAll P e l
 |a::l,hd,hk=>by
  simp only[DataW.weightsAll,List.mem_append];rcases List.mem_cons.1 hd with rfl|hd
  ·exact .inl hk
  ·exact .inr (zcT hd hk)
theorem zgI{t e:TypeId}{v:Value}(h:Rd enc P w base sp held t v)(ht:P.underlying t=some (.slice e))(hc:P.cellsOf e=1):
  ∃vals,Row w v vals/\(∀u∈vals,Rd enc P w base sp held e u)/\vals.length*P.bytesOf e<=reachBytes:=by
 obtain⟨n,x,h,hw⟩:=h;rcases Go.Deep.open_slice1 ht hc h with ⟨h1,_⟩| ⟨a,len,cap,m,k,V,D,Pl,h1,_,hl,hm,hmm,rfl,hx⟩
 ·simp only[List.cons.injEq,and_true]at h1;subst h1;exact⟨[],⟨.none,0,rfl,ynl _,fun j h=>by simp at h⟩,fun u h=>(by cases h),by simp⟩
 ·simp only[List.cons.injEq,and_true]at h1;subst h1;have hml:len<=m:=by rw[hmm];split<;>omega
  simp only[DataW.weights,ht]at hw;refine⟨(List.range len).map V,⟨some a,cap,by simp,by simpa using hl,fun j hj=>?_⟩,fun u hu=>?_,?_⟩
  ·simp at hj;have:=(hx j (by omega)).1;simpa [zad,adr] using this
  ·obtain⟨j,hj,rfl⟩:=List.mem_map.1 hu;simp at hj;refine⟨_,_,(hx j (by omega)).2,fun q hq=>hw q (List.mem_cons_of_mem _ (List.mem_append_left _ (zcT (d:=D j) ?_ hq)))⟩;exact List.mem_map.2 ⟨j,by simpa using hj,rfl⟩
  ·have h1:=hw _ (List.mem_cons_self ..);have h2:((List.range len).map V).length*P.bytesOf e<=(((List.range len).map D).length+((List.range (m - len)).map fun j=>D (len+j)).length)*P.bytesOf e:=Nat.mul_le_mul (by simp) (ynl _);omega
theorem zk8{t:TypeId}{v:Value}(h:Rd enc P w base sp held t v)(ht:P.underlying t=some .string):∃s:List UInt8,v=vs s/\s.length<=reachBytes:=by
 obtain⟨n,x,h,hw⟩:=h;cases n with
 |zero=>cases h
 |succ n=>
  unfold DataW.trod at h;rw[ht]at h;cases v<;>simp at h;rename_i s;obtain⟨_,rfl⟩:=h;exact⟨s.data.toList,by simp[vs],by simpa [DataW.weights,ByteArray.toList_eq] using hw⟩
theorem ziB{α β:Type}{f:α->β}{Q:α->Prop}:∀{l:List β},(∀u∈l,∃s,u=f s/\Q s)->∃m:List α,l=m.map f/\∀s∈m,Q s
 | [],_=>⟨[],rfl,fun s h=>by cases h⟩
 |b::l,h=>by
  obtain⟨s,rfl,hq⟩:=h b (List.mem_cons_self ..);obtain⟨m,rfl,hm⟩:=ziB (fun u hu=>h u (List.mem_cons_of_mem _ hu));refine⟨s::m,rfl,fun x hx=>?_⟩;rcases List.mem_cons.1 hx with rfl|hx
  ·exact hq
  ·exact hm x hx
end
end Go.Proofs.YtahbdamijngmmaaGreat
namespace Go.Proofs.YtahbdamijngmmaaGreat
open Go
section
variable {H : Type} {enc : TypeId × Value -> H} {P : Program} {w : World} {base : Nat} {sp : Nat -> Bool} {held : Bool}
structure NmOk(n:Nm):Prop where
 lb:LB n
 len:n.length<=8796093022207
theorem reach_lt:reachBytes<140737488355328:=by decide
theorem zep{t e:TypeId}{v:Value}(h:Rd enc P w base sp held t v)(ht:P.underlying t=some (.slice e))(hc:P.cellsOf e=1)(he:P.underlying e=some .string)(hb:P.bytesOf e=16):∃n:Nm,Row w v (n.map vs)/\NmOk n:=by
 obtain⟨vals,hr,hall,hl⟩:=zgI h ht hc;obtain⟨m,rfl,hm⟩:=ziB (f:=vs) (fun u hu=>zk8 (hall u hu) he);have:=reach_lt;rw[hb]at hl;exact⟨m,hr,fun l hl=>by have:=hm l hl;omega,by simp at hl;omega⟩
theorem rd_names{t ts tb:TypeId}{v:Value}(h:Rd enc P w base sp held t v)(ht:P.underlying t=some (.slice ts))(hc:P.cellsOf ts=1)(ht2:P.underlying ts=some (.slice tb))(hc2:P.cellsOf tb=1)(he:P.underlying tb=some .string)(hb:P.bytesOf tb=16):
  ∃L:List Nm,NamesAt w v L/\∀n∈L,NmOk n:=by
 obtain⟨vals,hr,hall,hlen0⟩:=zgI h ht hc;have:∃L:List Nm,(vals.length=L.length/\∀i (h:i<vals.length) (h':i<L.length),Row w vals[i] (L[i].map vs))/\∀n∈L,NmOk n:=by
  clear hr h hlen0
  induction vals with
  |nil=>exact⟨[],⟨rfl,fun i h=>by simp at h⟩,fun n h=>by cases h⟩
  |cons u vals ih=>
   obtain⟨n,hn,hok⟩:=zep (hall u (List.mem_cons_self ..)) ht2 hc2 he hb;obtain⟨L,⟨h1,h2⟩,h3⟩:=ih (fun x hx=>hall x (List.mem_cons_of_mem _ hx));refine⟨n::L,⟨by simp[h1],fun i a b=>?_⟩,fun x hx=>?_⟩
   ·cases i with
    |zero=>exact hn
    |succ i=>exact h2 i (by simpa using a) (by simpa using b)
   ·rcases List.mem_cons.1 hx with rfl|hx
    ·exact hok
    ·exact h3 x hx
 obtain⟨L,⟨h1,h2⟩,h3⟩:=this;exact⟨L,⟨vals,hr,h1,h2⟩,h3⟩
end
class Tr (p:World->Prop):Prop where
 tr:∀{w x:World},Ext w x->p w->p x
theorem tr{p:World->Prop}[h:Tr p]{w x:World}(hE:Ext w x)(hp:p w):p x:=h.tr hE hp
instance Tr.and{p q:World->Prop}[Tr p][Tr q]:Tr fun w=>p w/\q w:=⟨fun hE h=>⟨tr hE h.1,tr hE h.2⟩⟩
instance Tr.cell{a:Option Addr}{v:Value}:Tr fun w=>zad w a=some v:=⟨fun hE h=>zaa hE h⟩
instance Tr.cells{a:Option Addr}{k:Nat}{l:List Value}:Tr fun w=>zan w a k=some l:=⟨fun hE h=>zac hE h⟩
instance Tr.ext{w0:World}:Tr fun w=>Ext w0 w:=⟨fun hE h=>h.trans hE⟩
instance Tr.row{v:Value}{l:List Value}:Tr fun w=>Row w v l:=⟨fun hE h=>h.ext hE⟩
instance Tr.obj{b:Nat}{o:Obj}:Tr fun w=>w.heap[b]? =some o:=⟨fun hE h=>Ext.at hE h⟩
instance Tr.const{p:Prop}:Tr fun _=>p:=⟨fun _ h=>h⟩
instance Tr.all{α:Sort _}{p:α->World->Prop}[∀a,Tr (p a)]:Tr fun w=>∀a,p a w:=⟨fun hE h a=>tr hE (h a)⟩
instance Tr.ex{α:Sort _}{p:α->World->Prop}[∀a,Tr (p a)]:Tr fun w=>∃a,p a w:=⟨fun hE h=>h.elim fun a h=>⟨a,tr hE h⟩⟩
attribute [go_sem] decide_true decide_false
theorem sc{p q:Prop}(h:p)(hs:p->q=True:=by intro h1;simp only[go_sem,h1]):q:=(hs h).mpr trivial
/-! many steps at once -/
structure Gto(p q:Prop):Prop where
 of:q->p
section
variable {P : Program} {r : Option Nat} {n : Nat} {Q : Post} {σ : Sto} {ds : List Deferred} {w : World} {p q s : Prop} {L : List Oper} {F : (Nat -> Option Tmp) -> (Sto -> World -> Prop) -> Prop}
theorem zlM:Gto p p:=⟨id⟩
theorem gto_c(h:Ctl p q)(k:Gto q s):Gto p s:=⟨fun g=>c_r (k.of g) h⟩
theorem gto_r{id:Nat}{ops:Array Oper}{σ1:Sto}{w1:World}(hs:∀(gd:Nat->Option Tmp) (K:Sto->World->Prop),gd=dstL ops.toList->opsV P gd n ops.toList σ w K=K σ1 w1)(hd:za0 ops=true)(k:Gto (Q .normal σ1 ds w1) q):
  Gto (W P r n (.region id ops false) Q σ ds w) q:=⟨fun g=>zb7 hd fun gd K hgd hK=>(hs gd K hgd).mpr (hK _ _ (k.of g))⟩
theorem gto_t{c:Operand}{x y:Code}(hc:ev n σ c= .bool true)(k:Gto (W P r n x Q σ ds w) q):Gto (W P r n (.cond c x y) Q σ ds w) q:=⟨fun g=>zay hc (fun _=>k.of g) (fun h=>by cases h)⟩
theorem gto_f{c:Operand}{x y:Code}(hc:ev n σ c= .bool false)(k:Gto (W P r n y Q σ ds w) q):Gto (W P r n (.cond c x y) Q σ ds w) q:=⟨fun g=>zay hc (fun h=>by cases h) (fun _=>k.of g)⟩
theorem go(h:p)(hq:s)(hs:p->Gto q s:=by
  intro h1;repeat (first
   | (apply gto_c;· (with_reducible constructor)<;>exact rfl)
   | (apply gto_r;(intro gd K hgd;(simp (disch:=first|omega|assumption|rfl) only[go_sem,h1])<;>with_reducible exact rfl);rfl)
   | (apply gto_t;· first| (simp only[go_sem,h1];done)| (simp only[go_sem,h1];exact rfl))
   | (apply gto_f;· first| (simp only[go_sem,h1];done)| (simp only[go_sem,h1];exact rfl)))
  exact zlM):q:=(hs h).of hq
theorem rgo{σ1:Sto}{w1:World}(h:p)(hq:s)
  (hs:p->∀(gd:Nat->Option Tmp) (K:Sto->World->Prop),F gd K=K σ1 w1:=by intro h1 gd K;(first| (simp (disch:=first|omega|assumption|rfl) only[go_sem,h1])|skip)<;>exact rfl)
  (hg:p->Gto (Q .normal σ1 ds w1) s:=by
   intro h1;repeat (first
    | (apply gto_c;· (with_reducible constructor)<;>exact rfl)
    | (apply gto_r;(intro gd K hgd;(simp (disch:=first|omega|assumption|rfl) only[go_sem,h1])<;>with_reducible exact rfl);rfl)
    | (apply gto_t;· first| (simp only[go_sem,h1];done)| (simp only[go_sem,h1];exact rfl))
    | (apply gto_f;· first| (simp only[go_sem,h1];done)| (simp only[go_sem,h1];exact rfl)))
   exact zlM):Rest P Q ds L F:=
 re (p:=True) trivial ((hg h).of hq) fun _=>hs h
theorem zh4{c:Code}(N:Nat)(I:Nat->Sto->World->Prop)(h0:I 0 σ w)
  (hs:∀i σ w,i<N->(decide ((i:Int)<(N:Int))=true/\(0:Int)<=(i:Int)/\(i:Int)<(N:Int)/\(i:Int)+1=((i+1:Nat):Int))->I i σ w->W P r n c (zdH (fun σ ds w=>ds=[]/\I (i+1) σ w) Q) σ [] w)
  (he:∀σ w,decide ((N:Int)<(N:Int))=false->I N σ w->W P r n c (zdH (fun _ _ _=>False) Q) σ [] w):W P r n (.loop c) Q σ [] w:=by
 refine zao (fun m σ ds w=>ds=[]/\∃i,i+m=N/\I i σ w) N ⟨rfl,0,by omega,h0⟩ ?_;rintro m σ ds w ⟨rfl,i,him,hI⟩;by_cases h:i<N
 ·refine zaw (hs i σ w h ⟨yet (by omega),by omega,by omega,by push_cast;rfl⟩ hI) ?_;intro e σ' ds' w' hq;cases e<;>first|exact hq|exact⟨m - 1,by omega,hq.1,i+1,by omega,hq.2⟩
 ·have e1:i=N:=by omega
  subst e1;refine zaw (he σ w (yef (by omega)) hI) ?_;intro e σ' ds' w' hq;cases e<;>first|exact hq|exact hq.elim
end
set_option maxRecDepth 10000
theorem KeyL.eq_iff{a b:KeyL}:(a.name=b.name/\a.a=b.a/\a.b=b.b/\a.c=b.c/\a.d=b.d/\a.ref=b.ref)↔a=b:=by
 cases a;cases b;simp
instance:DecidableEq KeyL:=fun _ _=>decidable_of_iff _ KeyL.eq_iff
def RowY(S:Nat->Prop)(w:World)(v:Value)(l:List Value):Prop:=Row w v l/\(l≠ []->∀a n c,v= .slice (some a) n c->a.block<w.heap.size/\¬S a.block)
theorem RowY.turn{S S':Nat->Prop}{w x:World}{v:Value}{l:List Value}(h:RowY S w v l)(hk:Keep S w x)(hS:∀b,S' b->S b\/w.heap.size<=b):RowY S' x v l:=by
 obtain⟨h1,h2⟩:=h;refine⟨?_,fun hl a n c e=>?_⟩
 ·by_cases hl:l=[]
  ·subst hl;obtain⟨a,c,e,hc,_⟩:=h1;exact⟨a,c,e,hc,fun j hj=>absurd hj (by simp)⟩
  ·exact h1.blocks fun a n c e=>hk.block _ (h2 hl a n c e).1 (h2 hl a n c e).2
 ·obtain⟨k1,k2⟩:=h2 hl a n c e;have:=hk.size;exact⟨by omega,fun hb=>(hS _ hb).elim k2 (by omega)⟩
theorem RowY.old{S:Nat->Prop}{w0 w:World}{v:Value}{l:List Value}(h:Row w0 v l)(hE:Ext w0 w)(hS:∀b,S b->w0.heap.size<=b):RowY S w v l:=by
 refine⟨h.ext hE,fun hl a n c e=>?_⟩;obtain⟨a',c',e',_,hg⟩:=h;have h0:=hg 0 (List.length_pos_iff.2 hl);rw[e',Value.slice.injEq]at e;obtain⟨rfl,_,_⟩:=e;rw[zaj]at h0;have hlt:a.block<w0.heap.size:=by
  have hc:w0.cell? a=some (l[0]'(List.length_pos_iff.2 hl)):=h0;unfold World.cell? at hc;cases hb:w0.heap[a.block]? with
  |none=>rw[hb]at hc;cases hc
  |some o=>exact(Array.getElem?_eq_some_iff.1 hb).1
 have:=hE.size;exact⟨by omega,fun hb=>by have:=hS _ hb;omega⟩
theorem RowY.alike{S:Nat->Prop}{w:World}{v:Value}{l l2:List Value}(h:RowY S w v l)(h2:Row w v l2):RowY S w v l2:=by
 refine⟨h2,fun hl a n c e=>h.2 (fun h0=>hl ?_) a n c e⟩;obtain⟨a1,c1,e1,_⟩:=h.1;obtain⟨a2,c2,e2,_⟩:=h2;rw[e1,Value.slice.injEq]at e2;exact List.eq_nil_of_length_eq_zero (by rw[←e2.2.1,h0];rfl)
section
variable {P : Program} {d : Option Tmp} {ty : TypeId} {ps : String} {af : Array Edge} {g : Option (Nat × Bool)} {ρ : Operand -> Value} {w : World} {K : Value -> World -> Prop}
end
theorem zee{α:Type}{xs ys:List α}{i:Nat}(h1:i<xs.length)(h2:i<ys.length)(ht:xs.take i=ys.take i)(he:xs[i]=ys[i]):xs.take (i+1)=ys.take (i+1):=by
 rw[zal h1,zal h2,ht,he]
theorem zmA(w:World){a b:Value}{xs ys:List Lab}(ha:Row w a (xs.map vs))(hb:Row w b (ys.map vs))(hl:xs.length<=1000000000000000):
  Fn Tryz.prog 114 #[a,b] w (fun v w'=>Ext w w'/\∃t,v= .bool t/\(t=true->xs=ys)):=by
 obtain⟨a1,c1,rfl,_,h1⟩:=ha;obtain⟨a2,c2,rfl,_,h2⟩:=hb;simp only[ylm,List.getElem_map]at h1 h2 ⊢;refine enter Tryz.func114 Tryz.ntmps114 rfl rfl ?_;repeat refine c_r ?_
 refine rg0 ?_;repeat refine c_r ?_
 by_cases hn:(xs.length:Int)=(ys.length:Int)
 rotate_left
 ·refine rg1 (yef hn) ?_;repeat refine c_r ?_
  refine wt Bool.not_false ?_;repeat (first|refine c_r ?_|refine rg0 ?_)
  refine rt0 Tryz.ntmps114 ?_;exact⟨Keep.refl _ _,_,rfl,fun h=>by cases h⟩
 refine rg1 (yet hn) ?_;repeat refine c_r ?_
 refine wf Bool.not_true ?_;have hn':xs.length=ys.length:=by omega
 repeat refine c_r ?_
 refine rg0 ?_;repeat refine c_r ?_
 refine zao (fun m σ ds A=>ds=[]/\∃(i:Nat),i+m=xs.length/\σ 5=vi i/\σ 0= .slice a1 xs.length c1/\σ 1= .slice a2 ys.length c2/\Ext w A/\xs.take i=ys.take i) xs.length ?_ ?_
 ·exact⟨rfl,0,by omega,vr0,vq0,vq0,Keep.refl _ _,rfl⟩
 rintro m σ ds A ⟨rfl,i,him,s5,s0,s1,hEA,ht⟩;repeat refine c_r ?_
 refine rg2 s5 s0 ?_;repeat refine c_r ?_
 refine wc0 ?_ ?_
 ·intro hlt;simp only[ydT]at hlt;have hi:i<xs.length:=by omega
  have hi2:i<ys.length:=by omega
  have hi0:=cj i;have hi1:(i:Int)<(ys.length:Int):=by omega
  have hi1':=ci i;have g1:=h1 i hi;have g2:=h2 i hi2;obtain⟨x1,rfl⟩:=yxs (zag g1);obtain⟨x2,rfl⟩:=yxs (zag g2);repeat refine c_r ?_
  refine zaJ (fun _=>false) [(0,true),(1,true),(2,true),(3,true),(4,true),(5,true),(6,true),(7,true),(8,true)] NoS mixed (by kernel_rfl) ?_;intro gd K x hgd hx hxe hK;clear hxe;have g1x:=zaa (hEA.trans hx) g1;have g2x:=zaa (hEA.trans hx) g2;simp (disch:=first|omega|assumption|rfl) only[go_sem,s5,s0,s1,hi0,hlt,hi1,g1x,g2x,Nat.mul_one];refine hK _ _ ?_;clear hK hgd;clear K;try clear gd
  by_cases he:xs[i]=ys[i]
  ·repeat refine c_r ?_
   refine wf (an2 (yet he) Bool.not_true) ?_;repeat refine c_r ?_
   refine rg2 s5 hi1' ?_;repeat refine c_r ?_
   exact⟨m - 1,by omega,rfl,i+1,by omega,vq0,vq1 s0,vq1 s1,hEA.trans hx,zee hi hi2 ht he⟩
  ·repeat refine c_r ?_
   refine wt (an2 (yef he) Bool.not_false) ?_;repeat (first|refine c_r ?_|refine rg0 ?_)
   refine rt0 Tryz.ntmps114 ?_;exact⟨hEA.trans hx,_,rfl,fun h=>by cases h⟩
 ·intro hge;simp only[ydF]at hge;repeat (first|refine c_r ?_|refine rg0 ?_)
  refine rt0 Tryz.ntmps114 ?_;refine⟨hEA,_,rfl,fun _=>?_⟩
  rwa [List.take_of_length_le (by omega),List.take_of_length_le (by omega)]at ht
structure DatN(d:DatL):Prop where
 nn:d.names.length<=1000000000000000
 ns:∀n∈d.names,n.length<=1000000000000000
 nu:d.nums.length<=1000000000000000
 nt:d.texts.length<=1000000000000000
theorem DatOk.n{d:DatL}(h:DatOk d):DatN d:=⟨h.nn,fun n hn=>(h.names n hn).2,h.nu,h.nt⟩
theorem Is4_ok(w:World){ca cb:List Value}{a b:DatL}(ha:DatAt w ca a)(hb:DatAt w cb b)(ka:DatN a):
  Fn Tryz.prog 115 #[.agg ca.toArray,.agg cb.toArray] w (fun v w'=>Ext w w'/\∃t,v= .bool t/\(t=true->a=b)):=by
 obtain⟨nm,nu,tx,rw1,rfl,hnm,hnu,htx,hrw⟩:=ha.ex;obtain⟨mm,mu,ux,rw2,rfl,hmm,hmu,hux,hrx⟩:=hb.ex;obtain⟨V1,⟨a1,c1,rfl,_,ga⟩,lV1,hV1⟩:=hnm;obtain⟨V2,⟨a2,c2,rfl,_,gb⟩,lV2,hV2⟩:=hmm;obtain⟨a3,c3,rfl,_,gc⟩:=hnu;obtain⟨a4,c4,rfl,_,gd4⟩:=hmu;obtain⟨a5,c5,htxe,_⟩:=id htx;obtain⟨a6,c6,huxe,_⟩:=id hux;obtain⟨a7,c7,rfl,_,gr⟩:=hrw;obtain⟨a8,c8,rfl,_,gs⟩:=hrx;simp only[ylm,List.getElem_map]at gc gd4 gr gs htxe huxe ⊢;refine enter Tryz.func115 Tryz.ntmps115 rfl rfl ?_;repeat refine c_r ?_
 rw[htxe,huxe];refine gz0 ?_;rw[zai];refine zaF ?_;intro w1 hE1 hs1 hA hB;have p0:zad w1 (some ⟨w.heap.size,0,.none⟩)=some (vi a.ty):=zab hA rfl;have p1:zad w1 (some ⟨w.heap.size,1,.none⟩)=some (.slice a1 V1.length c1):=zab hA rfl;have p2:zad w1 (some ⟨w.heap.size,2,.none⟩)=some (.slice a3 a.nums.length c3):=zab hA rfl;have p3:zad w1 (some ⟨w.heap.size,3,.none⟩)=some (.slice a5 a.texts.length c5):=zab hA rfl;have p4:zad w1 (some ⟨w.heap.size,4,.none⟩)=some (.slice a7 a.raw.length c7):=zab hA rfl;have q0:zad w1 (some ⟨w.heap.size+1,0,.none⟩)=some (vi b.ty):=zab hB rfl;have q1:zad w1 (some ⟨w.heap.size+1,1,.none⟩)=some (.slice a2 V2.length c2):=zab hB rfl;have q2:zad w1 (some ⟨w.heap.size+1,2,.none⟩)=some (.slice a4 b.nums.length c4):=zab hB rfl;have q3:zad w1 (some ⟨w.heap.size+1,3,.none⟩)=some (.slice a6 b.texts.length c6):=zab hB rfl;have q4:zad w1 (some ⟨w.heap.size+1,4,.none⟩)=some (.slice a8 b.raw.length c8):=zab hB rfl;repeat refine c_r ?_
 refine zaw (Q:=fun e σ' ds' v'=>e= .normal/\ds'=[]/\v'=w1/\σ' 2= .pointer (some ⟨w.heap.size,0,.none⟩)/\σ' 3= .pointer (some ⟨w.heap.size+1,0,.none⟩)/\∃t,σ' 47= .bool t/\(t=false->a.ty=b.ty/\V1.length=V2.length/\a.nums.length=b.nums.length/\a.texts.length=b.texts.length/\a.raw=b.raw)) ?_ ?_
 ·by_cases e0:a.ty=b.ty
  rotate_left
  ·refine rgg [(5,12),(14,21),(23,30),(32,39)] (an5 p0 q0 Nat.add_zero (yef e0) Bool.not_false) ?_;exact⟨rfl,rfl,rfl,vq0,vq0,_,vr0,fun h=>by cases h⟩
  by_cases e1:(V1.length:Int)=(V2.length:Int)
  rotate_left
  ·refine rgg [(5,12),(14,21),(23,30),(32,39)] (an9 p0 q0 Nat.add_zero (yet e0) Bool.not_true p1 q1 yn0 (yef e1)) ?_;exact⟨rfl,rfl,rfl,vq0,vq0,_,vr0,fun h=>by cases h⟩
  by_cases e2:(a.nums.length:Int)=(b.nums.length:Int)
  rotate_left
  ·refine rgg [(5,12),(14,21),(23,30),(32,39)] (an4 (an9 p0 q0 Nat.add_zero (yet e0) Bool.not_true p1 q1 yn0 (yet e1)) p2 q2 (yef e2)) ?_;exact⟨rfl,rfl,rfl,vq0,vq0,_,vr0,fun h=>by cases h⟩
  by_cases e3:(a.texts.length:Int)=(b.texts.length:Int)
  rotate_left
  ·refine rgg [(5,12),(14,21),(23,30),(32,39)] (an7 (an9 p0 q0 Nat.add_zero (yet e0) Bool.not_true p1 q1 yn0 (yet e1)) p2 q2 (yet e2) p3 q3 (yef e3)) ?_;exact⟨rfl,rfl,rfl,vq0,vq0,_,vr0,fun h=>by cases h⟩
  refine rq ?_;intro gd K hgd hK;have hg5:=gk 5 12 hgd rfl;have hg14:=gk 14 21 hgd rfl;have hg23:=gk 23 30 hgd rfl;have hg32:=gk 32 39 hgd rfl;try simp (disch:=first|omega|assumption|rfl) only[go_sem,p0,q0,Nat.add_zero,yet e0,Bool.not_true,p1,q1,yn0,yet e1,p2,q2,yet e2,p3,q3,yet e3,p4,↓hg5,↓hg14,↓hg23,↓hg32]
  refine zbh (l:=a.raw) rfl rfl rfl vq0 (fun j hj=>zaa hE1 (gr j hj)) ?_;try simp (disch:=first|omega|assumption|rfl) only[go_sem,q4,yn0,↓hg5,↓hg14,↓hg23,↓hg32]
  refine zbh (l:=b.raw) rfl rfl rfl vq0 (fun j hj=>zaa hE1 (gs j hj)) ?_;try simp (disch:=first|omega|assumption|rfl) only[go_sem,↓hg5,↓hg14,↓hg23,↓hg32]
  apply hK;exact⟨rfl,rfl,rfl,vq0,vq0,_,vr0,fun h=>⟨e0,by omega,by omega,by omega,by simpa using h⟩⟩
 rintro _ σ1 _ w2 ⟨rfl,rfl,rfl,s2,s3,t,s47,ht⟩;repeat refine c_r ?_
 cases t with
 |true=>
  refine wt s47 ?_;refine gz0 ?_;refine rt0 Tryz.ntmps115 ?_;exact⟨hE1,_,rfl,fun h=>by cases h⟩
 |false=>
 refine wf s47 ?_;obtain⟨e0,e1,e2,e3,e4⟩:=ht rfl;clear s47 ht;have kn:=ka.nn;have ku:=ka.nu;have kt:=ka.nt;refine gz0 ?_;refine zao (fun m σ ds A=>ds=[]/\∃(i:Nat),i+m=V1.length/\σ 5=vi i/\σ 2= .pointer (some ⟨w.heap.size,0,.none⟩)/\σ 3= .pointer (some ⟨w.heap.size+1,0,.none⟩)/\Ext w2 A/\a.names.take i=b.names.take i) V1.length ?_ ?_
 ·exact⟨rfl,0,by omega,vr0,vq1 s2,vq1 s3,Keep.refl _ _,rfl⟩
 clear s2 s3;rintro m σ ds A ⟨rfl,i,him,s5,s2,s3,hEA,ht⟩;have p1A:=zaa hEA p1;have q1A:=zaa hEA q1;refine gz (az4 s5 s2 p1A yn0) ?_;refine wc0 ?_ ?_
 ·intro hlt;simp only[ydT]at hlt;have hi:i<V1.length:=by omega
  have hi2:i<V2.length:=by omega
  have hi0:=cj i;have hi1:(i:Int)<(V2.length:Int):=by omega
  have hi1':=ci i;have g1:=ga i hi;have g2:=gb i hi2;have r1:=hV1 i hi (by omega);have r2:=hV2 i hi2 (by omega);have kl:=ka.ns _ (List.getElem_mem (show i<a.names.length by omega));obtain⟨x1,rfl⟩:=yxs (zag g1);obtain⟨x2,rfl⟩:=yxs (zag g2);repeat refine c_r ?_
  refine zaJ (fun _=>false) [(0,true),(1,true),(2,true),(3,true),(4,true),(5,true),(6,true),(7,true),(8,true),(9,true),(10,false),(11,true)] NoS mixed (by kernel_rfl) ?_;intro gd K x hgd hx hxe hK;clear hxe;have g1x:=zaa (hE1.trans (hEA.trans hx)) g1;have g2x:=zaa (hE1.trans (hEA.trans hx)) g2;have p1x:=zaa hx p1A;have q1x:=zaa hx q1A;refine sgz (az2 (az7 s5 s2 s3 hi0 hlt hi1 g1x) (az5 g2x p1x q1x Nat.mul_one yn0)) ?_;refine Fn.mono (zmA x (r1.ext (hE1.trans (hEA.trans hx))) (r2.ext (hE1.trans (hEA.trans hx))) kl) ?_;rintro _ y ⟨hy,t,rfl,ht2⟩;refine⟨.inr hy,?_⟩;refine sg0 ?_;apply hK;cases t with
  |true=>
   repeat refine c_r ?_
   refine wf Bool.not_true ?_;refine gz (az2 s5 hi1') ?_;exact⟨m - 1,by omega,rfl,i+1,by omega,vq0,vq1 s2,vq1 s3,(hEA.trans hx).trans hy,zee _ _ ht (ht2 rfl)⟩
  |false=>
   repeat refine c_r ?_
   refine wt Bool.not_false ?_;refine gz0 ?_;refine rt0 Tryz.ntmps115 ?_;exact⟨hE1.trans ((hEA.trans hx).trans hy),_,rfl,fun h=>by cases h⟩
 intro hge;simp only[ydF]at hge;have hnames:a.names=b.names:=by rwa [List.take_of_length_le (by omega),List.take_of_length_le (by omega)]at ht
 clear him hge s5 ht p1A q1A;refine gz0 ?_;refine zao (fun m σ ds B=>ds=[]/\∃(i:Nat),i+m=a.nums.length/\σ 6=vi i/\σ 2= .pointer (some ⟨w.heap.size,0,.none⟩)/\σ 3= .pointer (some ⟨w.heap.size+1,0,.none⟩)/\Ext w2 B/\a.nums.take i=b.nums.take i) a.nums.length ?_ ?_
 ·exact⟨rfl,0,by omega,vr0,vq1 s2,vq1 s3,hEA,rfl⟩
 clear s2 s3 hEA;rintro m2 σ3 ds3 B ⟨rfl,i,him,s6,s2,s3,hEB,ht⟩;have p2B:=zaa hEB p2;have q2B:=zaa hEB q2;refine gz (az4 s6 s2 p2B yn0) ?_;refine wc0 ?_ ?_
 ·intro hlt;simp only[ydT]at hlt;have hi:i<a.nums.length:=by omega
  have hi2:i<b.nums.length:=by omega
  have hi0:=cj i;have hi1:(i:Int)<(b.nums.length:Int):=by omega
  have hi1':=ci i;have g1:=gc i hi;have g2:=gd4 i hi2;obtain⟨x1,rfl⟩:=yxs (zag g1);obtain⟨x2,rfl⟩:=yxs (zag g2);repeat refine c_r ?_
  refine zaJ (fun _=>false) [(0,true),(1,true),(2,true),(3,true),(4,true),(5,true),(6,true),(7,true),(8,true),(9,true),(10,true)] NoS mixed (by kernel_rfl) ?_;intro gd K x hgd hx hxe hK;clear hxe;have g1x:=zaa (hE1.trans (hEB.trans hx)) g1;have g2x:=zaa (hE1.trans (hEB.trans hx)) g2;have p2x:=zaa hx p2B;have q2x:=zaa hx q2B;refine sgz (az2 (az7 s6 s2 s3 hi0 hlt hi1 g1x) (az5 g2x p2x q2x Nat.mul_one yn0)) ?_;apply hK;by_cases he:a.nums[i]=b.nums[i]
  ·repeat refine c_r ?_
   refine wf (an2 (yet he) Bool.not_true) ?_;refine gz (az2 s6 hi1') ?_;exact⟨m2 - 1,by omega,rfl,i+1,by omega,vq0,vq1 s2,vq1 s3,hEB.trans hx,zee hi hi2 ht he⟩
  ·repeat refine c_r ?_
   refine wt (an2 (yef he) Bool.not_false) ?_;refine gz0 ?_;refine rt0 Tryz.ntmps115 ?_;exact⟨hE1.trans (hEB.trans hx),_,rfl,fun h=>by cases h⟩
 intro hge;simp only[ydF]at hge;have hnums:a.nums=b.nums:=by rwa [List.take_of_length_le (by omega),List.take_of_length_le (by omega)]at ht
 have p3B:=zaa hEB p3;have q3B:=zaa hEB q3;rw[←htxe]at p3B;rw[←huxe]at q3B;repeat refine c_r ?_
 refine rc (an5 s2 s3 p3B q3B yn0) (zmA B (htx.ext (hE1.trans hEB)) (hux.ext (hE1.trans hEB)) kt) ?_;rintro _ y ⟨hy,t,rfl,ht2⟩;refine re trivial ?_;repeat refine c_r ?_
 refine rt0 Tryz.ntmps115 ?_;refine⟨hE1.trans (hEB.trans hy),_,rfl,fun h=>?_⟩;obtain⟨t1,n1,u1,x1,r1⟩:=a;obtain⟨t2,n2,u2,x2,r2⟩:=b
 dsimp only at e0 hnames hnums ht2 e4
 rw[e0,hnames,hnums,ht2 h,e4]
theorem Is5_ok(w:World){av bv:Value}{xs ys:List RecL}(ha:Rows 7 (RecAt w) w av xs)(hb:Rows 7 (RecAt w) w bv ys)(ko:∀r∈xs,r.owner.length<=1000000000000000/\DatN r.dat)(hl:xs.length<=1000000000):
  Fn Tryz.prog 63 #[av,bv] w (fun v w'=>Ext w w'/\∃t,v= .bool t/\(t=true->xs=ys)):=by
 obtain⟨a1,c1,rfl,_,h1⟩:=ha.open;obtain⟨a2,c2,rfl,_,h2⟩:=hb.open;refine enter Tryz.func63 Tryz.ntmps63 rfl rfl ?_;repeat refine c_r ?_
 refine rg0 ?_;repeat refine c_r ?_
 by_cases hn:(xs.length:Int)=(ys.length:Int)
 rotate_left
 ·refine rg1 (yef hn) ?_;repeat refine c_r ?_
  refine wt Bool.not_false ?_;repeat (first|refine c_r ?_|refine rg0 ?_)
  refine rt0 Tryz.ntmps63 ?_;exact⟨Keep.refl _ _,_,rfl,fun h=>by cases h⟩
 refine rg1 (yet hn) ?_;repeat refine c_r ?_
 refine wf Bool.not_true ?_;repeat refine c_r ?_
 refine rg0 ?_;repeat refine c_r ?_
 refine zao (fun m σ ds A=>ds=[]/\∃(i:Nat),i+m=xs.length/\σ 5=vi i/\σ 0= .slice a1 xs.length c1/\σ 1= .slice a2 ys.length c2/\Ext w A/\xs.take i=ys.take i) xs.length ?_ ?_
 ·exact⟨rfl,0,by omega,vr0,vq0,vq0,Keep.refl _ _,rfl⟩
 rintro m σ ds A ⟨rfl,i,him,s5,s0,s1,hEA,ht⟩;repeat refine c_r ?_
 refine rg2 s5 s0 ?_;repeat refine c_r ?_
 refine wc0 ?_ ?_
 ·intro hlt;simp only[ydT]at hlt;have hi:i<xs.length:=by omega
  have hi2:i<ys.length:=by omega
  have hi0:=cj i;have hi1:(i:Int)<(ys.length:Int):=by omega
  have hi1':=ci i;obtain⟨ca,hca,hRa⟩:=h1 i hi;obtain⟨cb,hcb,hRb⟩:=h2 i hi2;obtain⟨ko1,ko2⟩:=ko _ (List.getElem_mem hi);obtain⟨ra,hra⟩:∃r,xs[i]=r:=⟨_,rfl⟩;obtain⟨rb,hrb⟩:∃r,ys[i]=r:=⟨_,rfl⟩;rw[hra]at hRa ko1 ko2;rw[hrb]at hRb;obtain⟨oa,da,rfl,o1,e1⟩:=hRa.ex;obtain⟨ob,db,rfl,o2,e2⟩:=hRb.ex;have e1':=e1;have e2':=e2;obtain⟨na1,na2,na3,na4,rfl,_⟩:=e1.ex;obtain⟨nb1,nb2,nb3,nb4,rfl,_⟩:=e2.ex;obtain⟨x1,rfl⟩:=yxs (zak hca);obtain⟨x2,rfl⟩:=yxs (zak hcb);obtain⟨y1,hy1⟩:∃y,adr (some x1) (i*7)=some y:=⟨_,rfl⟩;obtain⟨y2,hy2⟩:∃y,adr (some x2) (i*7)=some y:=⟨_,rfl⟩;rw[hy1]at hca;rw[hy2]at hcb;obtain⟨u1,hu1⟩:∃y,adr (some y1) 1=some y:=⟨_,rfl⟩;obtain⟨u2,hu2⟩:∃y,adr (some y2) 1=some y:=⟨_,rfl⟩;obtain⟨z1,hz1⟩:∃y,adr (some y1) 2=some y:=⟨_,rfl⟩;obtain⟨z2,hz2⟩:∃y,adr (some y2) 2=some y:=⟨_,rfl⟩;repeat refine c_r ?_
  refine zaJ (fun _=>false) [(0,true),(1,true),(2,true),(3,true),(4,true),(5,true),(6,true),(7,true),(8,true),(9,true),(10,false),(11,true),(12,true),(13,true),(14,true),(15,true),(16,true),(17,true),(18,true),(19,true),(20,true),(21,true),(22,true),(23,true),(24,true),(25,true),(26,true),(27,true),(28,true),(29,true),(30,true),(31,true),(32,true),(33,true),(34,true),(35,true),(36,false),(37,true),(38,true)] NoS mixed (by kernel_rfl) ?_;intro gd K x hgd hx hxe hK;clear hxe;have hg12:=gk 12 29 hgd rfl;have hg25:=gk 25 42 hgd rfl;have hW:=hEA.trans hx;have f0:zad x (adr (some y1) 0)=some oa:=zah (zac hW hca) rfl;have f1:zad x (adr (some y1) 1)=some (v32 ra.ttl):=zah (zac hW hca) rfl;have f2:zan x (adr (some y1) 2) 5=some [vi ra.dat.ty,na1,na2,na3,na4]:=za9 (m:=2) (k:=5) (zac hW hca);have g0:zad x (adr (some y2) 0)=some ob:=zah (zac hW hcb) rfl;have g1:zad x (adr (some y2) 1)=some (v32 rb.ttl):=zah (zac hW hcb) rfl;have g2:zan x (adr (some y2) 2) 5=some [vi rb.dat.ty,nb1,nb2,nb3,nb4]:=za9 (m:=2) (k:=5) (zac hW hcb);rw[zaj]at f0 g0;rw[hu1]at f1;rw[hu2]at g1;rw[hz1]at f2;rw[hz2]at g2;simp (disch:=first|omega|assumption|rfl) only[go_sem,s5,s0,s1,hi0,hlt,hi1,hy1,hy2,hu1,hu2,hz1,hz2,zaj,f0,f1,f2,g0,g1,g2];refine Fn.mono (zmA x (o1.ext hW) (o2.ext hW) ko1) ?_;rintro _ y ⟨hy,t,rfl,ht2⟩;refine⟨.inr hy,?_⟩;cases t with
  |false=>
   simp (disch:=first|omega|assumption|rfl) only[go_sem,Bool.not_false,zaT,↓hg12,↓hg25];refine hK _ _ ?_;clear hK hgd;clear K;try clear gd
   repeat refine c_r ?_
   refine wt trivial ?_;repeat (first|refine c_r ?_|refine rg0 ?_)
   refine rt0 Tryz.ntmps63 ?_;exact⟨hW.trans hy,_,rfl,fun h=>by cases h⟩
  |true=>
  have f1y:=zaa hy f1;have f2y:=zac hy f2;have g1y:=zaa hy g1;have g2y:=zac hy g2;by_cases htt:ra.ttl=rb.ttl
  rotate_left
  ·simp (disch:=first|omega|assumption|rfl) only[go_sem,Bool.not_true,zaT,s5,s0,s1,hi0,hlt,hi1,hy1,hy2,hu1,hu2,f1y,g1y,yef htt,Bool.not_false,↓hg12,↓hg25];refine hK _ _ ?_;clear hK hgd;clear K;try clear gd
   repeat refine c_r ?_
   refine wt trivial ?_;repeat (first|refine c_r ?_|refine rg0 ?_)
   refine rt0 Tryz.ntmps63 ?_;exact⟨hW.trans hy,_,rfl,fun h=>by cases h⟩
  simp (disch:=first|omega|assumption|rfl) only[go_sem,Bool.not_true,zaT,s5,s0,s1,hi0,hlt,hi1,hy1,hy2,hu1,hu2,f1y,g1y,yet htt,hz1,hz2,f2y,g2y,↓hg12,↓hg25];refine Fn.mono (Is4_ok y (e1'.ext (hW.trans hy)) (e2'.ext (hW.trans hy)) ko2) ?_;rintro _ z ⟨hz,t,rfl,ht4⟩;refine⟨.inr hz,?_⟩;simp (disch:=first|omega|assumption|rfl) only[go_sem,zaT,↓hg12,↓hg25];refine hK _ _ ?_;clear hK hgd;clear K;try clear gd
  have hWz:=(hW.trans hy).trans hz;cases t with
  |false=>
   repeat refine c_r ?_
   refine wt Bool.not_false ?_;repeat (first|refine c_r ?_|refine rg0 ?_)
   refine rt0 Tryz.ntmps63 ?_;exact⟨hWz,_,rfl,fun h=>by cases h⟩
  |true=>
   have hrr:xs[i]=ys[i]:=by
    rw[hra,hrb];obtain⟨r1,r2,r3⟩:=ra;obtain⟨r4,r5,r6⟩:=rb
    dsimp only at ht2 htt ht4
    rw[ht2 rfl,htt,ht4 rfl]
   repeat refine c_r ?_
   refine wf Bool.not_true ?_;repeat refine c_r ?_
   refine rg2 s5 hi1' ?_;repeat refine c_r ?_
   exact⟨m - 1,by omega,rfl,i+1,by omega,vq0,vq1 s0,vq1 s1,hWz,zee hi hi2 ht hrr⟩
 ·intro hge;simp only[ydF]at hge;repeat (first|refine c_r ?_|refine rg0 ?_)
  refine rt0 Tryz.ntmps63 ?_;refine⟨hEA,_,rfl,fun _=>?_⟩
  rwa [List.take_of_length_le (by omega),List.take_of_length_le (by omega)]at ht
def zcm(to:Nm):List (Nm×List DatL)->List DatL
 | []=>[]
 |g::l=>if zaq g.1=zaq to then g.2 else zcm to l
theorem zhG{to:Nm}:∀{l:List (Nm×List DatL)},zcm to l=[]\/∃g∈l,zcm to l=g.2
 | []=> .inl rfl
 |g::l=>by
  unfold zcm
  split
  ·exact .inr ⟨g,List.mem_cons_self ..,rfl⟩
  ·rcases zhG (to:=to) (l:=l) with h| ⟨x,hx,h⟩
   ·exact .inl h
   ·exact .inr ⟨x,List.mem_cons_of_mem _ hx,h⟩
theorem Hints_ok{w0 w:World}(hE0:Ext w0 w){cs:List Value}{r:ResL}{hv:Value}{to:Nm}(hr:ResAt w0 w cs r)(kr:zkt r)(hh:Row w hv (to.map vs))(mh:NmS to):
  Fn Tryz.prog 206 #[.agg cs.toArray,hv] w (fun v w'=>Ext w w'/\Rows 5 (DatAt w0) w' v (zcm to r.glue)):=by
 obtain⟨dv,nv,gv,rfl,h1,h2,h3⟩:=hr.ex;obtain⟨a1,c1,hdv,_⟩:=h1.open;obtain⟨a2,c2,hnv,_⟩:=id h2;obtain⟨ag,cg,rfl,hcg,hgg⟩:=h3.open;have gl:=kr.gl;have ml:=mh.len;refine enter Tryz.func206 Tryz.ntmps206 rfl rfl ?_;repeat refine c_r ?_
 rw[hdv,hnv];refine rg0 ?_;rw[←hdv,←hnv];repeat refine c_r ?_
 refine zax ?_;intro w1 hE1 hs1 hA;have p4:zad w1 (some ⟨w.heap.size,4,.none⟩)=some (.slice ag r.glue.length cg):=zab hA rfl;refine gz (az2 p4 yn0) ?_;refine zao (fun m σ ds A=>ds=[]/\∃(i:Nat),i+m=r.glue.length/\σ 10=vi i/\σ 9=vi r.glue.length/\σ 8= .slice ag r.glue.length cg/\σ 1=hv/\zcm to r.glue=zcm to (r.glue.drop i)/\Ext w A) r.glue.length ?_ ?_
 ·exact⟨rfl,0,by omega,vr0,vq0,vq0,vq0,rfl,hE1⟩
 rintro m σ ds A ⟨rfl,i,him,s10,s9,s8,s1,hgo,hEA⟩;refine gz (az2 s10 s9) ?_;refine wc0 ?_ ?_
 ·intro hlt;simp only[ydT]at hlt;have hi:i<r.glue.length:=by omega
  have hi0:=cj i;have hi1':=ci i;obtain⟨cs,hcs,hG⟩:=hgg i hi;obtain⟨g,hge⟩:∃g,r.glue[i]=g:=⟨_,rfl⟩;rw[hge]at hG;obtain⟨gh,gdv,rfl,g1,g2⟩:=hG;have kg:=kr.g g (hge▸List.getElem_mem hi);have kgl:=kg.1.len;obtain⟨xz,rfl⟩:=yxs (zak hcs);obtain⟨xi,hxi⟩:∃xi,adr (some xz) (i*2)=some xi:=⟨_,rfl⟩;rw[hxi]at hcs;have d:=zac hEA hcs;rw[List.drop_eq_getElem_cons hi,hge,show zcm to (g::r.glue.drop (i+1))=if zaq g.1=zaq to then g.2 else zcm to (r.glue.drop (i+1)) from rfl]at hgo;refine rqz ?_;intro gd K hgd hK;refine sgz (az6 s10 s8 hi0 hlt hxi d) ?_;refine za3 (P:=Tryz.prog) (l:=[gh,gdv]) rfl (zdO g1.isOne g2.isOne) rfl rfl ?_;intro A1 hE6 hs6 hB6;try simp only[go_sem]
  apply hK;have q0:zad A1 (some ⟨A.heap.size,0,.none⟩)=some gh:=zab hB6 rfl;have q1:zad A1 (some ⟨A.heap.size,1,.none⟩)=some gdv:=zab hB6 rfl;have hE06:=hE0.trans (hEA.trans hE6);repeat refine c_r ?_
  refine rc (an3 q0 s1 Nat.add_zero) (zeF A1 gh hv g.1 to (g1.ext hE06) (hh.ext (hEA.trans hE6)) kg.1.lb mh.lb (by omega) (by omega)) ?_;rintro _ A2 ⟨rfl,hE7⟩;refine re trivial ?_;have q1':=zaa hE7 q1;have hE67:=hE6.trans hE7;repeat refine c_r ?_
  by_cases hs:zaq g.1=zaq to
  ·refine wt (yet hs) ?_;rw[if_pos hs]at hgo;refine gz (az2 q1' yn0) ?_;refine rt0 Tryz.ntmps206 ?_;rw[hgo];exact⟨hEA.trans hE67,g2.ext (hEA.trans hE67)⟩
  ·refine wf (yef hs) ?_;rw[if_neg hs]at hgo;refine gz (az2 s10 hi1') ?_;exact⟨m - 1,by omega,rfl,i+1,by omega,vq0,vq1 s9,vq1 s8,vq1 s1,hgo,hEA.trans hE67⟩
 ·intro hge;simp only[ydF]at hge;rw[List.drop_eq_nil_of_le (by omega)]at hgo;refine gz0 ?_;refine rt0 Tryz.ntmps206 ?_;rw[hgo];exact⟨hEA,Rows.nil _ _ _⟩
end Go.Proofs.YtahbdamijngmmaaGreat
