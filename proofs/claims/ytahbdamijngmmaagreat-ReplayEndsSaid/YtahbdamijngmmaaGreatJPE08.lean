/-
  Texts of a proof, joined: W6, W7, W8, K26, W9, X0, X1, O5, X7, OC, O6, O7, O8, OD, O9, OA, TP, H0, A0, M2, L1, M3b, M3, A1, A2, A3, A4, A5, A6, A7, X2, KR, KR2, G8, L3.
  Conditions: none.
-/
import Derived.Test.YtahbdamijngmmaaGreatJPE07
import Derived.Test.YtahbdamijngmmaaGreatJPE01
import Derived.Test.YtahbdamijngmmaaGreatJPE05
import Derived.Test.YtahbdamijngmmaaGreatJPE06
import Derived.Test.YtahbdamijngmmaaGreatJPE02
import Derived.Test.YtahbdamijngmmaaGreatProg
import Derived.Ground.SlsfProg
import Derived.Shelf.SlSortCmp.NoneTotal
import Derived.Test.YtahbdamijngmmaaGreatJPE03
set_option linter.unusedVariables false
set_option linter.unusedSimpArgs false
set_option linter.defProp false
set_option linter.unnecessarySimpa false
set_option maxHeartbeats 8000000
namespace Go.Proofs.YtahbdamijngmmaaGreat
open Go
set_option maxRecDepth 10000
structure zlh(c:zgs):Prop where
 ne:c.roots≠ []
 inn:∀r∈c.roots,0≤r∧r<(c.servers.length:Int)
theorem zhC(w:World){cs:List Value}{c:zgs}(hc:ConfAt w cs c)(hf:FewC c):
  Fn Tryz.prog 67 #[.agg cs.toArray] w (fun v w'=>Ext w w'∧∃a e,v= .tuple #[vi a,vi e]∧(e=0→zlh c)):=by
 have hc0:=hc
 obtain⟨sv,rv,rfl,hs,hr⟩:=hc.ex
 obtain⟨aS,cS,rfl,hat⟩:=zig hs
 obtain⟨ar,cr,rfl,_,hgr⟩:=hr
 simp only[List.length_map,List.getElem_map]at hgr hc0 ⊢
 have hsl:=hf.sl
 have hrl:=hf.rl
 refine enter Tryz.func67 Tryz.ntmps67 rfl rfl ?_
 repeat refine c_r ?_
 refine rg0 ?_
 repeat refine c_r ?_
 refine zaB ?_
 intro w1 hE1 hs1 hA
 have p0:zae w1 (some ⟨w.heap.size,0,Option.none⟩)=some (.slice aS c.servers.length cS):=zab hA rfl
 have p1:zae w1 (some ⟨w.heap.size,1,Option.none⟩)=some (.slice ar c.roots.length cr):=zab hA rfl
 have p2:zae w1 (some ⟨w.heap.size,2,Option.none⟩)=some (vi c.rw):=zab hA rfl
 have p3:zae w1 (some ⟨w.heap.size,3,Option.none⟩)=some (vi c.rf):=zab hA rfl
 have dC:zal w1 (some ⟨w.heap.size,0,Option.none⟩) 4=some [.slice aS c.servers.length cS,.slice ar c.roots.length cr,vi c.rw,vi c.rf]:=zah hA rfl
 repeat refine c_r ?_
 by_cases h1:(c.servers.length:Int)=0
 ·refine rgg [(4,14)] (an3 p0 Nat.add_zero (decide_eq_true h1)) ?_
  repeat refine c_r ?_
  refine wt trivial ?_
  repeat (first|refine c_r ?_|refine rg0 ?_)
  refine zaC (by simp) Tryz.ntmps67 rfl (zak (vr0) (zak (vr0) zav)) ?_
  exact⟨hE1,_,_,rfl,fun h=>by cases h⟩
 by_cases h2:(c.roots.length:Int)=0
 ·refine rgg [(4,14)] (an6 p0 Nat.add_zero (decide_eq_false h1) p1 Nat.zero_add (decide_eq_true h2)) ?_
  repeat refine c_r ?_
  refine wt trivial ?_
  repeat (first|refine c_r ?_|refine rg0 ?_)
  refine zaC (by simp) Tryz.ntmps67 rfl (zak (vr0) (zak (vr0) zav)) ?_
  exact⟨hE1,_,_,rfl,fun h=>by cases h⟩
 refine rgg [(4,14)] (an6 p0 Nat.add_zero (decide_eq_false h1) p1 Nat.zero_add (decide_eq_false h2)) ?_
 repeat refine c_r ?_
 refine wf trivial ?_
 repeat refine c_r ?_
 refine rg2 p0 Nat.add_zero ?_
 repeat refine c_r ?_
 refine wc0 ?_ ?_
 ·intro _
  repeat (first|refine c_r ?_|refine rg0 ?_)
  refine zaC (by simp) Tryz.ntmps67 rfl (zak (vr0) (zak (vr0) zav)) ?_
  exact⟨hE1,_,_,rfl,fun h=>by cases h⟩
 intro _
 repeat refine c_r ?_
 refine zaA (Q:=fun e σ' ds' v'=>e= .normal∧ds'=[]∧v'=w1∧σ' 1= .pointer (some ⟨w.heap.size,0,Option.none⟩)∧∃t,σ' 25= .bool t) ?_ ?_
 ·by_cases e0:c.rw<0
  ·refine rgg [(3,29),(8,34),(13,39)] (an3 p2 Nat.zero_add (decide_eq_true e0)) ?_
   exact⟨rfl,rfl,rfl,vq0,_,vr0⟩
  by_cases e1:c.rw>8
  ·refine rgg [(3,29),(8,34),(13,39)] (an4 p2 Nat.zero_add (decide_eq_false e0) (decide_eq_true e1)) ?_
   exact⟨rfl,rfl,rfl,vq0,_,vr0⟩
  by_cases e2:c.rf<0
  ·refine rgg [(3,29),(8,34),(13,39)] (an6 p2 Nat.zero_add (decide_eq_false e0) (decide_eq_false e1) p3 (decide_eq_true e2)) ?_
   exact⟨rfl,rfl,rfl,vq0,_,vr0⟩
  refine rgg [(3,29),(8,34),(13,39)] (an6 p2 Nat.zero_add (decide_eq_false e0) (decide_eq_false e1) p3 (decide_eq_false e2)) ?_
  exact⟨rfl,rfl,rfl,vq0,_,vr0⟩
 rintro _ σ1 _ w2 ⟨rfl,rfl,rfl,s1,t,s25⟩
 repeat refine c_r ?_
 cases t with
 |true=>
  refine wt s25 ?_
  repeat (first|refine c_r ?_|refine rg0 ?_)
  refine zaC (by simp) Tryz.ntmps67 rfl (zak (vr0) (zak (vr0) zav)) ?_
  exact⟨hE1,_,_,rfl,fun h=>by cases h⟩
 |false=>
 refine wf s25 ?_
 clear s25
 repeat refine c_r ?_
 refine rg0 ?_
 repeat refine c_r ?_
 refine zar (fun m σ ds A=>ds=[]∧∃(i:Nat),i+m=c.roots.length∧σ 4=vi i∧σ 1= .pointer (some ⟨w.heap.size,0,Option.none⟩)∧Ext w2 A∧∀j (h:j<c.roots.length),j<i→0≤c.roots[j]∧c.roots[j]<(c.servers.length:Int)) c.roots.length ?_ ?_
 ·exact⟨rfl,0,by omega,vr0,(vq1 s1),Keep.refl _ _,fun j h h2=>absurd h2 (by omega)⟩
 clear s1
 rintro m σ ds A ⟨rfl,i,him,s4,s1,hEA,ht⟩
 have p1A:=zaa hEA p1
 repeat refine c_r ?_
 refine rg4 s4 s1 p1A Nat.zero_add ?_
 repeat refine c_r ?_
 refine wc0 ?_ ?_
 ·intro hlt
  simp only[decide_eq_true_eq]at hlt
  have hi:i<c.roots.length:=by omega
  have hi0:(0:Int)≤(i:Int):=by omega
  have hi1':(i:Int)+1=((i+1:Nat):Int):=by push_cast;rfl
  have g:=hgr i hi
  obtain⟨x1,rfl⟩:=Option.isSome_iff_exists.1 (zag g)
  repeat refine c_r ?_
  refine zaH (fun _=>false) [(0,true),(1,true),(2,true),(3,true),(4,true),(5,true),(6,true),(7,true),(8,true),(9,true),(10,true),(11,true),(12,true),(13,true),(14,true),(15,true),(16,true)] NoS mixed (by kernel_rfl) ?_;intro gd K x hgd hx hxe hK;clear hxe
  have hg6:∀n σ b,zat gd n σ (some (6,b))=zaj (ev n σ (.tmp 57)) b:=(fun n σ b=>by rw[zad,show gd 6=some 57 from(by rw[hgd];rfl)];rfl)
  have p1x:=zaa hx p1A
  have p0x:=zaa (hEA.trans hx) p0
  have gx:=zaa (hE1.trans (hEA.trans hx)) g
  by_cases hneg:c.roots[i]<0
  ·simp (disch:=first|omega|assumption|rfl) only[go_sem,s4,s1,p1x,Nat.zero_add,Nat.mul_one,hi0,hlt,gx,decide_eq_true hneg,zbd,↓hg6]
   refine hK _ _ ?_;clear hK hgd;clear K;try clear gd
   repeat refine c_r ?_
   refine wt trivial ?_
   repeat (first|refine c_r ?_|refine rg0 ?_)
   refine zaC (by simp) Tryz.ntmps67 rfl (zak (vr0) (zak (vr0) zav)) ?_
   exact⟨hE1.trans (hEA.trans hx),_,_,rfl,fun h=>by cases h⟩
  by_cases hbig:c.roots[i]≥(c.servers.length:Int)
  ·simp (disch:=first|omega|assumption|rfl) only[go_sem,s4,s1,p1x,p0x,Nat.zero_add,Nat.add_zero,Nat.mul_one,hi0,hlt,gx,decide_eq_false hneg,decide_eq_true hbig,zbd,↓hg6]
   refine hK _ _ ?_;clear hK hgd;clear K;try clear gd
   repeat refine c_r ?_
   refine wt trivial ?_
   repeat (first|refine c_r ?_|refine rg0 ?_)
   refine zaC (by simp) Tryz.ntmps67 rfl (zak (vr0) (zak (vr0) zav)) ?_
   exact⟨hE1.trans (hEA.trans hx),_,_,rfl,fun h=>by cases h⟩
  simp (disch:=first|omega|assumption|rfl) only[go_sem,s4,s1,p1x,p0x,Nat.zero_add,Nat.add_zero,Nat.mul_one,hi0,hlt,gx,decide_eq_false hneg,decide_eq_false hbig,zbd,↓hg6]
  refine hK _ _ ?_;clear hK hgd;clear K;try clear gd
  repeat refine c_r ?_
  refine wf trivial ?_
  repeat refine c_r ?_
  refine rg2 s4 hi1' ?_
  repeat refine c_r ?_
  refine⟨m - 1,by omega,rfl,i+1,by omega,vq0,(vq1 s1),hEA.trans hx,fun j hj hji=>?_⟩
  by_cases hj2:j=i
  ·subst hj2;omega
  ·exact ht j hj (by omega)
 intro hge
 simp only[decide_eq_false_iff_not]at hge
 have hro:zlh c:=⟨fun h=>by rw[h]at h2;exact h2 rfl,fun r hr=>by
  obtain⟨j,hj,rfl⟩:=List.mem_iff_getElem.1 hr
  exact ht j hj (by omega)⟩
 clear him hge s4 ht p1A
 repeat refine c_r ?_
 refine rg0 ?_
 repeat refine c_r ?_
 refine zar (fun m σ ds B=>ds=[]∧∃(i:Nat),i+m=c.roots.length∧σ 5=vi i∧σ 1= .pointer (some ⟨w.heap.size,0,Option.none⟩)∧Ext w2 B) c.roots.length ?_ ?_
 ·exact⟨rfl,0,by omega,vr0,(vq1 s1),hEA⟩
 clear s1 hEA
 rintro m2 σ2 ds2 B ⟨rfl,i,him,s5,s1,hEB⟩
 have p1B:=zaa hEB p1
 repeat refine c_r ?_
 refine rg4 s5 s1 p1B Nat.zero_add ?_
 repeat refine c_r ?_
 refine wc0 ?_ ?_
 ·intro hlt
  simp only[decide_eq_true_eq]at hlt
  have hi:i<c.roots.length:=by omega
  have hi0:(0:Int)≤(i:Int):=by omega
  have hi1':(i:Int)+1=((i+1:Nat):Int):=by push_cast;rfl
  have g:=hgr i hi
  obtain⟨x1,rfl⟩:=Option.isSome_iff_exists.1 (zag g)
  repeat refine c_r ?_
  refine rg0 ?_
  repeat refine c_r ?_
  refine zar (fun m σ ds C=>ds=[]∧∃(j:Nat),j+m=i∧σ 6=vi j∧σ 5=vi i∧σ 1= .pointer (some ⟨w.heap.size,0,Option.none⟩)∧Ext w2 C) i ?_ ?_
  ·exact⟨rfl,0,by omega,vr0,(vq1 s5),(vq1 s1),hEB⟩
  clear s5 s1
  rintro m3 σ3 ds3 C ⟨rfl,j,hjm,s6,s5,s1,hEC⟩
  have p1C:=zaa hEC p1
  repeat refine c_r ?_
  refine rg2 s6 s5 ?_
  repeat refine c_r ?_
  refine wc0 ?_ ?_
  ·intro hlt2
   simp only[decide_eq_true_eq]at hlt2
   have hj:j<c.roots.length:=by omega
   have hj0:(0:Int)≤(j:Int):=by omega
   have hj1:(j:Int)<(c.roots.length:Int):=by omega
   have hj1':(j:Int)+1=((j+1:Nat):Int):=by push_cast;rfl
   have gj:=hgr j hj
   repeat refine c_r ?_
   refine zaH (fun _=>false) [(0,true),(1,true),(2,true),(3,true),(4,true),(5,true),(6,true),(7,true),(8,true),(9,true),(10,true)] NoS mixed (by kernel_rfl) ?_;intro gd K x hgd hx hxe hK;clear hxe
   have p1x:=zaa hx p1C
   have gx:=zaa (hE1.trans (hEC.trans hx)) g
   have gjx:=zaa (hE1.trans (hEC.trans hx)) gj
   simp (disch:=first|omega|assumption|rfl) only[go_sem,s6,s5,s1,p1x,Nat.zero_add,Nat.mul_one,hi0,hlt,hj0,hj1,gx,gjx]
   refine hK _ _ ?_;clear hK hgd;clear K;try clear gd
   repeat refine c_r ?_
   refine wc0 ?_ ?_
   ·intro _
    repeat (first|refine c_r ?_|refine rg0 ?_)
    refine zaC (by simp) Tryz.ntmps67 rfl (zak (vr0) (zak (vr0) zav)) ?_
    exact⟨hE1.trans (hEC.trans hx),_,_,rfl,fun h=>by cases h⟩
   ·intro _
    repeat refine c_r ?_
    refine rg2 s6 hj1' ?_
    repeat refine c_r ?_
    exact⟨m3 - 1,by omega,rfl,j+1,by omega,vq0,(vq1 s5),(vq1 s1),hEC.trans hx⟩
  ·intro _
   repeat refine c_r ?_
   refine rg2 s5 hi1' ?_
   repeat refine c_r ?_
   exact⟨m2 - 1,by omega,rfl,i+1,by omega,vq0,(vq1 s1),hEC⟩
 intro hge
 clear him hge s5 p1B
 repeat refine c_r ?_
 refine rg0 ?_
 repeat refine c_r ?_
 refine zar (fun m σ ds B=>ds=[]∧∃(i:Nat),i+m=c.servers.length∧σ 7=vi i∧σ 1= .pointer (some ⟨w.heap.size,0,Option.none⟩)∧Ext w2 B) c.servers.length ?_ ?_
 ·exact⟨rfl,0,by omega,vr0,(vq1 s1),hEB⟩
 clear s1 hEB
 rintro m3 σ3 ds3 C ⟨rfl,i,him,s7,s1,hEC⟩
 have p0C:=zaa hEC p0
 have dCC:=zac hEC dC
 repeat refine c_r ?_
 refine rg4 s7 s1 p0C Nat.add_zero ?_
 repeat refine c_r ?_
 refine wc0 ?_ ?_
 ·intro hlt
  simp only[decide_eq_true_eq]at hlt
  have hi:i<c.servers.length:=by omega
  have hi1':(i:Int)+1=((i+1:Nat):Int):=by push_cast;rfl
  repeat refine c_r ?_
  refine rc (an3 s7 s1 dCC) (zlf C (hc0.ext (hE1.trans hEC)) hf hi) ?_
  rintro _ C1 ⟨hE2,e,rfl⟩
  refine re trivial ?_
  repeat refine c_r ?_
  by_cases he:e=0
  ·refine rg1 (decide_eq_true he) ?_
   repeat refine c_r ?_
   refine wf Bool.not_true ?_
   repeat refine c_r ?_
   refine rg2 s7 hi1' ?_
   repeat refine c_r ?_
   exact⟨m3 - 1,by omega,rfl,i+1,by omega,vq0,(vq1 s1),hEC.trans hE2⟩
  ·refine rg1 (decide_eq_false he) ?_
   repeat refine c_r ?_
   refine wt Bool.not_false ?_
   repeat refine c_r ?_
   refine rg1 s7 ?_
   repeat refine c_r ?_
   refine zaC (by simp) Tryz.ntmps67 rfl (zak (vr0) (zak (vr0) zav)) ?_
   exact⟨hE1.trans (hEC.trans hE2),_,_,rfl,fun h=>absurd h he⟩
 ·intro _
  repeat (first|refine c_r ?_|refine rg0 ?_)
  refine zaC (by simp) Tryz.ntmps67 rfl (zak (vr0) (zak (vr0) zav)) ?_
  exact⟨hE1.trans hEC,_,_,rfl,fun _=>hro⟩
theorem zcr(w:World):zeq 2 (PlaceC w):=by
 refine⟨fun h=>?_,fun h=>?_⟩
 ·obtain⟨ov,rfl,_⟩:=h.ex;rfl
 ·obtain⟨ov,rfl,h1⟩:=h.ex
  intro q hq
  simp at hq
  rcases hq with rfl|rfl
  ·exact h1.isOne
  ·rfl
def gxC(cs:List Value)(x:SrvL×(Value×List Value)):Prop:=cs=x.2.2∧cs.length=6∧∀q∈cs,one q=true
theorem zey:zeq 6 gxC:=⟨fun h=>h.2.1,fun h=>h.2.2⟩
structure SrvX(w0 A:World)(pv:Value)(cs:List Value)(s:SrvL):Prop where
 ex:∃nv a b c d,cs=[nv,zaf a,zaf b,zaf c,zaf d,pv]∧s.addr=[a,b,c,d]∧Row w0 nv (s.host.map vs)∧Rows 2 (PlaceC w0) A pv s.places
theorem SrvX.keep{w0 A A':World}{pv:Value}{cs:List Value}{s:SrvL}(h:SrvX w0 A pv cs s){S:Nat→Prop}(hk:Keep S A A')(hS:∀a n c,pv= .slice (some a) n c→a.block<A.heap.size∧¬S a.block):SrvX w0 A' pv cs s:=by
 obtain⟨nv,a,b,c,d,e,ha,h1,h2⟩:=h.ex
 exact⟨nv,a,b,c,d,e,ha,h1,h2.blocks fun a n c hv=>hk.block _ (hS a n c hv).1 (hS a n c hv).2⟩
structure GS(w0:World)(e:TypeId)(B:Nat)(A:World)(ov:Value)(G:List (SrvL×(Value×List Value))):Prop where
 own:Owns 6 gxC B A e ov G
 row:∀x∈G,SrvX w0 A x.2.1 x.2.2 x.1∧BlkB B A x.2.1∧∀a n c,x.2.1= .slice (some a) n c→some a.block≠ov.ownBlock
theorem GS.keep{w0 A A':World}{e:TypeId}{B:Nat}{ov:Value}{G:List (SrvL×(Value×List Value))}(h:GS w0 e B A ov G){S:Nat→Prop}(hk:Keep S A A')(hS:∀b,B≤b→b<A.heap.size→¬S b):GS w0 e B A' ov G:=
 ⟨h.own.keep hk (fun b hb=>hS b (h.own.ge hb).1 (h.own.ge hb).2),fun x hx=>by
  obtain⟨h1,h2,h3⟩:=h.row x hx
  exact⟨h1.keep hk (fun a n c hv=>⟨(h2 a n c hv).2,hS _ (h2 a n c hv).1 (h2 a n c hv).2⟩),h2.ext hk.size,h3⟩⟩
theorem GS.ext{w0 A A':World}{e:TypeId}{B:Nat}{ov:Value}{G:List (SrvL×(Value×List Value))}(h:GS w0 e B A ov G)(hE:Ext A A'):GS w0 e B A' ov G:=h.keep hE (fun _ _ _ h=>h)
theorem GS.app{w0 A A1 A2:World}{e:TypeId}{B:Nat}{ov ov':Value}{G:List (SrvL×(Value×List Value))}{x:SrvL×(Value×List Value)}(h:GS w0 e B A ov G)(hE:Ext A A1)(hB:B≤A.heap.size)
  (hx:SrvX w0 A1 x.2.1 x.2.2 x.1) (hxb:BlkB A.heap.size A1 x.2.1) (ho:Owns 6 gxC B A2 e ov' (G++ [x])) (hk:Keep (fun b=>some b=ov.ownBlock) A1 A2) (hb:∀b,some b=ov'.ownBlock→some b=ov.ownBlock∨A1.heap.size≤b):GS w0 e B A2 ov' (G++ [x]):=by
 refine⟨ho,fun y hy=>?_⟩
 have h1:=h.ext hE
 have hge:∀b,some b=ov.ownBlock→b<A.heap.size:=fun b hb=>(h.own.ge hb).2
 have hy2:SrvX w0 A1 y.2.1 y.2.2 y.1∧BlkB B A1 y.2.1∧∀a n c,y.2.1= .slice (some a) n c→some a.block≠ov.ownBlock:=by
  rcases List.mem_append.1 hy with hy|hy
  ·exact h1.row y hy
  ·rw[List.mem_singleton.1 hy]
   exact⟨hx,hxb.mono hB,fun a n c hv hbb=>by have:=hge _ hbb;have:=(hxb a n c hv).1;omega⟩
 obtain⟨g1,g2,g3⟩:=hy2
 refine⟨g1.keep hk (fun a n c hv=>⟨(g2 a n c hv).2,g3 a n c hv⟩),g2.ext hk.size,fun a n c hv hbb=>?_⟩
 rcases hb _ hbb with e|e
 ·exact g3 a n c hv e
 ·have:=(g2 a n c hv).2;omega
theorem GS.rows{w0 A:World}{e:TypeId}{B:Nat}{ov:Value}{G:List (SrvL×(Value×List Value))}(h:GS w0 e B A ov G)(hE:Ext w0 A):Rows 6 (SrvC A) A ov (G.map Prod.fst):=by
 obtain⟨L,h1,h2,h3⟩:=h.own.rows
 refine⟨L,h1,by rw[h2,List.length_map],fun i hi hi'=>?_⟩
 have hi2:i<G.length:=by omega
 obtain⟨e1,_⟩:=h3 i hi hi2
 obtain⟨g1,_⟩:=h.row _ (List.getElem_mem hi2)
 obtain⟨nv,a,b,c,d,e2,ha,g2,g3⟩:=g1.ex
 rw[e1,e2,List.getElem_map]
 exact⟨nv,a,b,c,d,_,rfl,ha,g2.ext hE,g3.to fun _ _ h=>h.ext hE⟩
structure IP(w0:World)(es ep:TypeId)(b5:Nat)(nv:Value)(a b c d:UInt8)(A0 v:World)(pv:Value)(ps:List zfl):Prop where
 h:v.heap[b5]? =some (.cells #[nv,zaf a,zaf b,zaf c,zaf d,pv] es (0,0))
 own:Owns 2 (PlaceC w0) (b5+1) v ep pv ps
 e:Ext A0 v
 lo:A0.heap.size≤b5
theorem IP.app{w0 A0 v v1 v2 v3:World}{es ep:TypeId}{b5:Nat}{nv pv pv':Value}{a b c d:UInt8}{ps:List zfl}{p:zfl}(h:IP w0 es ep b5 nv a b c d A0 v pv ps)(hE:Ext v v1)
  (ho:Owns 2 (PlaceC w0) (b5+1) v2 ep pv' (ps++ [p])) (hk:Keep (fun b=>some b=pv.ownBlock) v1 v2) (h3:v3.heap[b5]? =some (.cells #[nv,zaf a,zaf b,zaf c,zaf d,pv'] es (0,0))) (hk3:Keep (fun b=>b=b5) v2 v3):IP w0 es ep b5 nv a b c d A0 v3 pv' (ps++ [p]):=by
 have lo:=h.lo
 have e2:Ext A0 v2:=Keep.to_ext (h.e.trans hE) rfl (fun b hb=>by have:=(h.own.ge hb).1;omega) hk
 exact⟨h3,ho.keep hk3 (fun b hb hb2=>by have:=(ho.ge hb).1;omega),Keep.to_ext e2 rfl (fun b hb=>by omega) hk3,lo⟩
theorem Of15_ok(w:World){cs:List Value}{c:zgs}(hc:ConfAt w cs c)(hf:FewC c):
  Fn Tryz.prog 68 #[.agg cs.toArray] w (fun v w'=>Ext w w'∧∃cs',v= .agg cs'.toArray∧ConfAt w' cs' c):=by
 obtain⟨sv,rv,rfl,hs,hr⟩:=hc.ex
 obtain⟨aS,cS,rfl,hat⟩:=zig hs
 have hr0:=hr
 have r1:=hr.isOne
 obtain⟨ar,cr,hrv,_,hgr⟩:=hr
 have hsl:=hf.sl
 refine enter Tryz.func68 Tryz.ntmps68 rfl rfl ?_
 repeat refine c_r ?_
 rw[hrv]
 refine rg0 ?_
 rw[←hrv]
 repeat refine c_r ?_
 rw[zai]
 refine zaM ?_
 intro w1 hE1 hs1 hA hC
 have p0:zae w1 (some ⟨w.heap.size,0,Option.none⟩)=some (.slice aS c.servers.length cS):=zab hA rfl
 have p1:zae w1 (some ⟨w.heap.size,1,Option.none⟩)=some rv:=zab hA rfl
 have p2:zae w1 (some ⟨w.heap.size,2,Option.none⟩)=some (vi c.rw):=zab hA rfl
 have p3:zae w1 (some ⟨w.heap.size,3,Option.none⟩)=some (vi c.rf):=zab hA rfl
 repeat refine c_r ?_
 refine rq ?_;intro gd K hgd hK
 try simp (disch:=first|omega|assumption|rfl) only[go_sem,p1,p2,p3,Nat.zero_add]
 refine⟨by kernel_rfl,?_⟩
 rw[hrv,show bdV Tryz.prog 137 [(1,.slice ar (c.roots.map vi).length cr),(2,vi c.rw),(3,vi c.rf)]=some (.agg #[.slice Option.none 0 0,.slice ar (c.roots.map vi).length cr,vi c.rw,vi c.rf]) from by kernel_rfl,←hrv]
 try simp only[go_sem]
 refine zaQ (P:=Tryz.prog) (l:=[.slice Option.none 0 0,rv,vi c.rw,vi c.rf]) rfl (fun v hv=>by simp at hv;rcases hv with rfl|rfl|rfl|rfl<;>first|exact r1|rfl) rfl rfl ?_
 intro w2 hE2 hs2 hD
 try simp only[go_sem]
 refine hK _ _ ?_;clear hK hgd;clear K;try clear gd
 obtain⟨c3,hc3⟩:∃b,w1.heap.size=b:=⟨_,rfl⟩
 rw[hc3]at hD hs2 ⊢
 have hE12:=hE1.trans hE2
 have p0w:=zaa hE2 p0
 repeat refine c_r ?_
 refine rg0 ?_
 repeat refine c_r ?_
 refine zar (fun m σ ds A=>ds=[]∧∃(i:Nat) (ov:Value) (G:List (SrvL×(Value×List Value))),i+m=c.servers.length∧σ 4=vi i∧σ 1= .pointer (some ⟨w.heap.size,0,Option.none⟩)∧σ 2= .pointer (some ⟨w.heap.size+1,0,Option.none⟩)∧σ 3= .pointer (some ⟨c3,0,Option.none⟩)∧Ext w1 A∧c3+1≤A.heap.size∧
  A.heap[c3]? =some (.cells #[ov,rv,vi c.rw,vi c.rf] 137 (0,0))∧GS w 217 (c3+1) A ov G∧G.map Prod.fst=c.servers.take i) c.servers.length ?_ ?_
 ·exact⟨rfl,0,.slice Option.none 0 0,[],by omega,vr0,vq0,vq0,vq0,hE2,by omega,hD,⟨Owns.nil _ _ _ _ _,fun x h=>by cases h⟩,rfl⟩
 rintro m σ ds A ⟨rfl,i,ov,G,him,s4,s1,s2,s3,hEA,hAs,hB3,hGS,hGf⟩
 have p0A:=zaa hEA p0
 repeat refine c_r ?_
 refine rg4 s4 s1 p0A Nat.add_zero ?_
 repeat refine c_r ?_
 refine wc0 ?_ ?_
 ·intro hlt
  simp only[decide_eq_true_eq]at hlt
  have hi:i<c.servers.length:=by omega
  have hi0:(0:Int)≤(i:Int):=by omega
  have hi1':(i:Int)+1=((i+1:Nat):Int):=by push_cast;rfl
  obtain⟨xa,xi,x5,nv,ap,cp,rfl,hxi,hx5,g0,hn,g5,⟨b1,b2,b3,b4,hadr,hcs⟩,hpr,hpl⟩:=hat i hi
  obtain⟨s,hse⟩:∃s,c.servers[i]=s:=⟨_,rfl⟩
  obtain⟨fs1,fs2,fs3⟩:=hf.s s (hse▸List.getElem_mem hi)
  rw[hse]at hn g5 hadr hcs hpr
  simp only[hse]at hpl
  have n1:=hn.isOne
  have hz0:adr (some xi) 0=some xi:=zaz _
  obtain⟨y1,hy1⟩:∃y,adr (some xi) 1=some y:=⟨_,rfl⟩
  have gby:zal w (some y1) 4=some [zaf b1,zaf b2,zaf b3,zaf b4]:=by
   have h5:=za5 (m:=1) (k:=5) hcs
   rw[hy1]at h5
   exact zcl (m:=4) (k:=1) h5
  obtain⟨an,cn,hnv,_⟩:=id hn
  repeat refine c_r ?_
  refine zaH (fun i=>i==14) [(0,true),(1,true),(2,true),(3,true),(4,true),(5,true),(6,true),(7,true),(8,true),(9,true),(10,true),(11,true),(12,true),(13,false),(14,false)] NoS mixed (by kernel_rfl) ?_;intro gd K x hgd hx hxe hK;clear hxe
  have hwx:=hE1.trans (hEA.trans hx)
  have p0x:=zaa hx p0A
  have g0x:=zaa hwx g0
  have gbx:=zac hwx gby
  simp (disch:=first|omega|assumption|rfl) only[go_sem,s4,s1,p0x,Nat.add_zero,hi0,hlt,hxi,hz0,hy1,g0x,gbx]
  refine⟨by kernel_rfl,?_⟩
  rw[hnv,show bdV Tryz.prog 217 [(0,.slice an (s.host.map vs).length cn),(1,.agg #[zaf b1,zaf b2,zaf b3,zaf b4])]=some (.agg #[.slice an (s.host.map vs).length cn,zaf b1,zaf b2,zaf b3,zaf b4,.slice Option.none 0 0]) from by kernel_rfl,←hnv]
  simp (disch:=first|omega|assumption|rfl) only[go_sem]
  refine⟨.inr (Ext.alloc x _),?_⟩
  refine zaQ (P:=Tryz.prog) (l:=[nv,zaf b1,zaf b2,zaf b3,zaf b4,.slice Option.none 0 0]) rfl (fun v hv=>by simp at hv;rcases hv with rfl|rfl|rfl|rfl|rfl|rfl<;>first|exact n1|rfl) rfl rfl ?_
  intro A1 hE3 hs3 hB5
  refine⟨.inl rfl,?_⟩
  simp (disch:=first|omega|assumption|rfl) only[go_sem]
  refine hK _ _ ?_;clear hK hgd;clear K;try clear gd
  have hx3:=hx.trans hE3
  obtain⟨b5,hb5⟩:∃b,x.heap.size=b:=⟨_,rfl⟩
  have hsx:=hx.size
  rw[hb5]at hB5 hs3 hsx ⊢
  have hIP:IP w 217 219 b5 nv b1 b2 b3 b4 A A1 (.slice Option.none 0 0) []:=⟨hB5,Owns.nil _ _ _ _ _,hx3,hsx⟩
  clear p0x g0x gbx hx hx3 hwx hE3 hB5
  repeat refine c_r ?_
  refine rg0 ?_
  repeat refine c_r ?_
  refine zar (fun m σ ds v=>ds=[]∧∃(k:Nat) (pv:Value),k+m=s.places.length∧σ 6=vi k∧σ 4=vi i∧σ 1= .pointer (some ⟨w.heap.size,0,Option.none⟩)∧σ 2= .pointer (some ⟨w.heap.size+1,0,Option.none⟩)∧σ 3= .pointer (some ⟨c3,0,Option.none⟩)∧σ 5= .pointer (some ⟨b5,0,Option.none⟩)∧
   IP w 217 219 b5 nv b1 b2 b3 b4 A v pv (s.places.take k)∧b5+1≤v.heap.size) s.places.length ?_ ?_
  ·exact⟨rfl,0,_,by omega,vr0,(vq1 s4),(vq1 s1),(vq1 s2),(vq1 s3),vq0,hIP,by omega⟩
  clear s4 s1 s2 s3 hIP
  rintro m2 σ2 ds2 v ⟨rfl,k,pv,hkm,s6,s4,s1,s2,s3,s5,hIP,hvs⟩
  have hEv:=hEA.trans hIP.e
  have hwv:=hE1.trans hEv
  have p0v:=zaa hEv p0
  have g5v:=zaa hwv g5
  repeat refine c_r ?_
  refine rg9 s6 s4 s1 (an3 p0v Nat.add_zero g5v) hi0 hlt hxi hx5 trivial ?_
  repeat refine c_r ?_
  refine wc0 ?_ ?_
  ·intro hlt2
   simp only[decide_eq_true_eq]at hlt2
   have hk:k<s.places.length:=by omega
   have hk0:(0:Int)≤(k:Int):=by omega
   have hk1':(k:Int)+1=((k+1:Nat):Int):=by push_cast;rfl
   obtain⟨xp,xk,xk1,ow,rfl,hxk,hxk1,f0,ho,f1⟩:=hpl k hk
   have hz1:adr (some xk) 0=some xk:=zaz _
   obtain⟨ao,co,how,_⟩:=id ho
   have q5:zae v (some ⟨b5,5,Option.none⟩)=some pv:=zab hIP.h rfl
   have lo:=hIP.lo
   repeat refine c_r ?_
   refine zaH (fun i=>i==26) [(0,true),(1,true),(2,true),(3,true),(4,true),(5,true),(6,true),(7,true),(8,true),(9,true),(10,true),(11,true),(12,true),(13,true),(14,true),(15,true),(16,true),(17,true),(18,true),(19,true),(20,true),(21,true),(22,true),(23,false),(24,false),(25,true),(26,false)] (zd8 (b5+1)) mixed (by kernel_rfl) ?_;intro gd K x hgd hx hxe hK;have hx0:=zfp hxe;clear hxe
   have hwx:=hwv.trans hx0
   have p0x:=zaa hx0 p0v
   have g5x:=zaa hwx g5
   have f0x:=zaa hwx f0
   have f1x:=zaa hwx f1
   have q5x:=zaa hx0 q5
   simp (disch:=first|omega|assumption|rfl) only[go_sem,s6,s4,s1,s5,p0x,Nat.add_zero,Nat.zero_add,hi0,hlt,hk0,hlt2,hxi,hx5,hxk,hz1,hxk1,g5x,f0x,f1x,q5x]
   have l5:x5.block<b5+1:=by have:=zds (show w.cell? x5=some _ from g5);have:=hwv.size;have:=hE1.size;have:=hEA.size;omega
   have lk:xk.block<b5+1:=by have:=zds (show w.cell? xk=some _ from f0);have:=hE1.size;have:=hEA.size;omega
   have lk1:xk1.block<b5+1:=by have:=zds (show w.cell? xk1=some _ from f1);have:=hE1.size;have:=hEA.size;omega
   have lw:w.heap.size<b5+1:=by have:=hE1.size;have:=hEA.size;omega
   refine⟨zdI (by omega),zdI lw,zgT l5,zgT lk,zdI lw,zgT l5,zgT lk1,by kernel_rfl,?_⟩
   rw[how,show bdV Tryz.prog 219 [(0,.slice ao (s.places[k].o.map vs).length co),(1,vs s.places[k].path)]=some (.agg #[.slice ao (s.places[k].o.map vs).length co,vs s.places[k].path]) from by kernel_rfl,←how]
   simp (disch:=first|omega|assumption|rfl) only[go_sem]
   refine za9 (zcr w) (l:=[ow,vs s.places[k].path]) (a:=s.places[k]) (by rfl) (by rfl) (by rfl) (by rfl) ⟨ow,rfl,ho⟩ (by decide) ?_
   intro v1 hE4 hs4' ho4
   refine⟨.inr hE4.keep,?_⟩
   simp (disch:=first|omega|assumption|rfl) only[go_sem]
   have hx04:=hx0.trans hE4
   have hsz4:=hx04.size
   refine zaT (zcr w) (hIP.own.ext hx04) ho4.rows (by rfl) (by rfl) (by rfl) (by rfl) (by rfl) (by rfl) (by decide) (vr0) (vr0) (by simp;omega) (by decide) (by omega) ?_
   intro pv' v2 ho5 hE5 hk5 hb5'
   refine⟨.inr (hk5.mono fun b _ hb=>(hIP.own.ge hb).1),?_⟩
   obtain⟨ap',cp',hpv',_⟩:=ho5.rows.open
   simp (disch:=first|omega|assumption|rfl) only[go_sem,s5,Nat.zero_add]
   refine zaR (P:=Tryz.prog) (t:=215) (j:=5) (u:=pv') (l:=[nv,zaf b1,zaf b2,zaf b3,zaf b4,pv]) ((hk5.block _ (by omega) (fun hb=>by have:=(hIP.own.ge hb).1;omega)).trans (Ext.at hx04 hIP.h)) (by simp) (by rw[hpv'];rfl) rfl rfl ?_
   intro v3 hs3' hB3' hk3'
   refine⟨.inl rfl,?_⟩
   simp (disch:=first|omega|assumption|rfl) only[go_sem]
   refine hK _ _ ?_;clear hK hgd;clear K;try clear gd
   have hIPn:=hIP.app hx04 ho5 hk5 hB3' hk3'
   have hs5:=hk5.size
   repeat refine c_r ?_
   refine rg2 s6 hk1' ?_
   repeat refine c_r ?_
   refine⟨m2 - 1,by omega,rfl,k+1,pv',by omega,vq0,(vq1 s4),(vq1 s1),(vq1 s2),(vq1 s3),(vq1 s5),?_,by omega⟩
   rw[zan hk];exact hIPn
  ·intro hge2
   simp only[decide_eq_false_iff_not]at hge2
   have hfull:s.places.take k=s.places:=List.take_of_length_le (by omega)
   rw[hfull]at hIP
   obtain⟨ap',cp',hpv',_⟩:=hIP.own.rows.open
   have lo:=hIP.lo
   have dB:zal v (some ⟨b5,0,Option.none⟩) 6=some [nv,zaf b1,zaf b2,zaf b3,zaf b4,pv]:=zah hIP.h rfl
   have q3:zae v (some ⟨c3,0,Option.none⟩)=some ov:=zab (Ext.at hIP.e hB3) rfl
   have ones6:∀q∈ [nv,zaf b1,zaf b2,zaf b3,zaf b4,pv],one q=true:=fun q hq=>by
    simp at hq
    rcases hq with rfl|rfl|rfl|rfl|rfl|rfl<;>first|exact n1|rfl| (rw[hpv'];rfl)
   have hGl:G.length=i:=by
    have:=congrArg List.length hGf
    simp at this;omega
   repeat refine c_r ?_
   refine rq ?_;intro gd K hgd hK
   try simp (disch:=first|omega|assumption|rfl) only[go_sem,s3,s5,q3,dB,Nat.add_zero]
   refine za9 (C:=gxC) zey (l:=[nv,zaf b1,zaf b2,zaf b3,zaf b4,pv]) (a:=(s,(pv,[nv,zaf b1,zaf b2,zaf b3,zaf b4,pv]))) (by rfl) (by rfl) (by rfl) (by rfl) ⟨rfl,rfl,ones6⟩ (by decide) ?_
   intro v1 hE4 hs4' ho4
   try simp only[go_sem]
   have hAv1:=hIP.e.trans hE4
   have hsA1:=hAv1.size
   refine zaT zey ((hGS.ext hAv1).own) ho4.rows (by rfl) (by rfl) (by rfl) (by rfl) (by rfl) (by rfl) (by decide) (vr0) (vr0) (by simp;omega) (by decide) (by omega) ?_
   intro ov' v2 ho5 hE5 hk5 hb5'
   obtain⟨ao',co',hov',_⟩:=ho5.rows.open
   try simp (disch:=first|omega|assumption|rfl) only[go_sem,s3,Nat.add_zero]
   refine zaR (P:=Tryz.prog) (t:=135) (j:=0) (u:=ov') (l:=[ov,rv,vi c.rw,vi c.rf]) ((hk5.block _ (by omega) (fun hb=>by have:=(hGS.own.ge hb).1;omega)).trans (Ext.at hAv1 hB3)) (by simp) (by rw[hov'];rfl) rfl rfl ?_
   intro v3 hs3' hB3' hk3'
   try simp only[go_sem]
   refine hK _ _ ?_;clear hK hgd;clear K;try clear gd
   have hGS2:=hGS.app hAv1 hAs (x:=(s,(pv,[nv,zaf b1,zaf b2,zaf b3,zaf b4,pv]))) ⟨nv,b1,b2,b3,b4,rfl,hadr,hn,hIP.own.rows.ext hE4⟩ ((hIP.own.blk.mono (by omega)).ext hE4.size) ho5 hk5 hb5'
   have hGS3:=hGS2.keep hk3' (fun b h1 _ h2=>by omega)
   have hs5:=hk5.size
   repeat refine c_r ?_
   refine rg2 s4 hi1' ?_
   repeat refine c_r ?_
   refine⟨m - 1,by omega,rfl,i+1,ov',_,by omega,vq0,(vq1 s1),(vq1 s2),(vq1 s3),Keep.to_ext (hE5 w1 (hEA.trans hAv1) (by omega)) rfl (fun b hb=>by omega) hk3',by omega,hB3',hGS3,?_⟩
   rw[zan hi,List.map_append,hGf,hse];rfl
 ·intro hge
  simp only[decide_eq_false_iff_not]at hge
  rw[List.take_of_length_le (by omega)]at hGf
  have hEw:=hE1.trans hEA
  have hrows:=hGS.rows hEw
  rw[hGf]at hrows
  have o1:=hrows.isOne
  have dx:=zah (n:=4) (l:=[ov,rv,vi c.rw,vi c.rf]) hB3 rfl
  repeat refine c_r ?_
  refine rq ?_;intro gd K hgd hK
  try simp (disch:=first|omega|assumption|rfl) only[go_sem,s3,s2,dx]
  refine zaK (P:=Tryz.prog) (t:=137) (l:=[ov,rv,vi c.rw,vi c.rf]) (Ext.at hEA hC) rfl (fun v hv=>by simp at hv;rcases hv with rfl|rfl|rfl|rfl<;>first|exact r1|exact o1|rfl) rfl rfl ?_
  intro z hsz hBz hkz
  try simp only[go_sem]
  refine hK _ _ ?_;clear hK hgd;clear K;try clear gd
  repeat refine c_r ?_
  refine zaC (.inr rfl) Tryz.ntmps68 rfl (zaX (x:=⟨w.heap.size+1,0,Option.none⟩) (k:=4) ((vq1 s2)) rfl rfl (zah hBz rfl) zav) ?_
  have hEz:Ext w z:=Keep.to_ext hEw rfl (fun b hb=>by omega) hkz
  have hGz:=(hGS.keep hkz (fun b h1 _ h2=>by omega)).rows hEz
  rw[hGf]at hGz
  exact⟨hEz,_,rfl,ov,rv,rfl,hGz,hr0.ext hEz⟩
section
variable {P : Program} {d : Option Tmp} {ty : TypeId} {ps : String} {af : Array Edge} {g : Option (Nat × Bool)} {ρ : Operand → Value} {w : World} {K : Value → World → Prop}
theorem op_field{s:TypeId}{x:Operand}{f:Nat}{fs:Array Field}{fd:Field}{cs:Array Value}{v:Value}(hs:P.underlying s=some (.struct fs))(hf:fs[f]? =some fd)(ha:tyA P fd.type=false)(hu:(P.underlying fd.type).isSome=true)
  (hx:ρ x= .agg cs) (hv:cs[fd.offset]? =some v) (h:K v w):opV P ⟨d,.field s x f,ty,ps,af,g⟩ ρ w K:=by
 show opW P _ ρ w K
 refine zaJ (s:=Instr.field s (ρ x) f) (w':=w) (v:=v) ?_ h
 obtain⟨u,hu⟩:=Option.isSome_iff_exists.1 hu
 have hi:(isAgg fd.type).run P w= .ok false w:=by
  unfold tyA at ha
  rw[hu]at ha
  cases u<;>first| (cases ha;done)|simp[isAgg,underlying,program,Sem.run,hu]
 have hp:(part fd.type cs fd.offset).run P w= .ok v w:=by
  unfold part
  simp only[Sem.run_bind,hi,Result.andThen_ok,Bool.false_eq_true,if_false,hv,Sem.run_pure]
 unfold Instr.field
 simp[underlying,program,Sem.run,hs,hf,hx,asAgg]
 exact hp
end
theorem host_at{w:World}{hv:Value}{l:List zdV}(hs:Rows 6 (HostC w) w hv l):∃a c,hv= .slice a l.length c∧∀i (h:i<l.length),∃xa xi x5 nv az cz,a=some xa∧adr (some xa) (i*6)=some xi∧adr (some xi) 5=some x5∧zae w (some xi)=some nv∧Row w nv (l[i].name.map vs)∧
  zae w (some x5)=some (.slice az l[i].zones.length cz)∧(∃b1 b2 b3 b4,l[i].addr=[b1,b2,b3,b4]∧zal w (some xi) 6=some [nv,zaf b1,zaf b2,zaf b3,zaf b4,.slice az l[i].zones.length cz])∧
  ∀k (h:k<l[i].zones.length),∃xz xk ov lv,az=some xz∧adr (some xz) (k*2)=some xk∧zal w (some xk) 2=some [ov,lv]∧Row w ov (l[i].zones[k].o.map vs)∧Rows 7 (RecAt w) w lv l[i].zones[k].recs:=by
 obtain⟨a,c,rfl,_,hg⟩:=hs.open
 refine⟨a,c,rfl,fun i hi=>?_⟩
 obtain⟨cs,hcs,hS⟩:=hg i hi
 obtain⟨nv,b1,b2,b3,b4,pv,rfl,ha,hn,hp⟩:=hS.ex
 obtain⟨ap,cp,rfl,_,hgp⟩:=hp.open
 obtain⟨xa,rfl⟩:=Option.isSome_iff_exists.1 (zao hcs)
 obtain⟨xi,hxi⟩:∃xi,adr (some xa) (i*6)=some xi:=⟨_,rfl⟩
 obtain⟨x5,hx5⟩:∃x,adr (some xi) 5=some x:=⟨_,rfl⟩
 rw[hxi]at hcs
 have h0:=zax (j:=0) hcs rfl
 rw[zaz]at h0
 have h5:=zax (j:=5) hcs rfl
 rw[hx5]at h5
 refine⟨xa,xi,x5,nv,ap,cp,rfl,hxi,hx5,h0,hn,h5,⟨b1,b2,b3,b4,ha,hcs⟩,fun k hk=>?_⟩
 obtain⟨c2,hc2,hP⟩:=hgp k hk
 obtain⟨ov,lv,rfl,ho,hl⟩:=hP.ex
 obtain⟨xp,rfl⟩:=Option.isSome_iff_exists.1 (zao hc2)
 obtain⟨xk,hxk⟩:∃xi,adr (some xp) (k*2)=some xi:=⟨_,rfl⟩
 rw[hxk]at hc2
 exact⟨xp,xk,ov,lv,rfl,hxk,hc2,ho,hl⟩
def zgL(z:zb5):zfl:=⟨z.o,[120]⟩
def srvH(h:zdV):SrvL:=⟨h.name,h.addr,h.zones.map zgL⟩
def confN(N:NetL):zgs:=⟨N.hosts.map srvH,N.roots,N.rw,N.rf⟩
def NumN(N:NetL):Prop:=∀h∈N.hosts,∀z∈h.zones,NumR z.recs
structure zaV(N:NetL):Prop where
 z:NetZ N
 h1:1≤N.hosts.length∧N.hosts.length≤6
 r1:1≤N.roots.length∧N.roots.length≤4
 rin:∀r∈N.roots,0≤r∧r<(N.hosts.length:Int)
 w:0≤N.rw∧N.rw≤4
 f:0≤N.rf∧N.rf≤6
 zl:∀h∈N.hosts,h.zones.length≤4
 sh:∀h∈N.hosts,Sh h.name
theorem RecAt.up{w x:World}{v:Value}{R:List RecL}(h:Rows 7 (RecAt w) x v R)(hE:Ext w x):Rows 7 (RecAt x) x v R:=h.to fun _ _ h=>h.ext hE
theorem zhw(w:World){cs:List Value}{N:NetL}(hN:NetAt w cs N)(hv:NumN N):
  Fn Tryz.prog 16 #[.agg cs.toArray] w (fun v w'=>Ext w w'∧∃t,v= .bool t∧(t=true→zaV N)):=by
 obtain⟨hsv,rv,rfl,hs,hr⟩:=hN.ex
 obtain⟨aS,cS,rfl,hat⟩:=host_at hs
 have hr0:=hr
 have r1:=hr.isOne
 obtain⟨ar,cr,hrv,_,hgr⟩:=hr
 rw[List.length_map]at hrv
 refine enter Tryz.func16 Tryz.ntmps16 rfl rfl ?_
 repeat refine c_r ?_
 rw[hrv]
 refine rg0 ?_
 rw[←hrv]
 repeat refine c_r ?_
 refine zaB ?_
 intro w1 hE1 hs1 hA
 have p0:zae w1 (some ⟨w.heap.size,0,Option.none⟩)=some (.slice aS N.hosts.length cS):=zab hA rfl
 have p1:zae w1 (some ⟨w.heap.size,1,Option.none⟩)=some rv:=zab hA rfl
 have p2:zae w1 (some ⟨w.heap.size,2,Option.none⟩)=some (vi N.rw):=zab hA rfl
 have p3:zae w1 (some ⟨w.heap.size,3,Option.none⟩)=some (vi N.rf):=zab hA rfl
 rw[hrv]at p1
 repeat refine c_r ?_
 refine zaA (Q:=fun e σ' ds' v'=>e= .normal∧ds'=[]∧v'=w1∧σ' 1= .pointer (some ⟨w.heap.size,0,Option.none⟩)∧∃t,σ' 51= .bool t∧(t=false→(1≤N.hosts.length∧N.hosts.length≤6)∧(1≤N.roots.length∧N.roots.length≤4)∧(0≤N.rw∧N.rw≤4)∧0≤N.rf∧N.rf≤6)) ?_ ?_
 ·by_cases e0:(N.hosts.length:Int)<1
  ·refine rgg [(4,14),(10,20),(16,26),(22,32),(27,37),(32,42),(37,47)] (an3 p0 Nat.add_zero (decide_eq_true e0)) ?_
   exact⟨rfl,rfl,rfl,vq0,_,vr0,fun h=>by cases h⟩
  by_cases e1:(N.hosts.length:Int)>6
  ·refine rgg [(4,14),(10,20),(16,26),(22,32),(27,37),(32,42),(37,47)] (an4 p0 Nat.add_zero (decide_eq_false e0) (decide_eq_true e1)) ?_
   exact⟨rfl,rfl,rfl,vq0,_,vr0,fun h=>by cases h⟩
  by_cases e2:(N.roots.length:Int)<1
  ·refine rgg [(4,14),(10,20),(16,26),(22,32),(27,37),(32,42),(37,47)] (an7 p0 Nat.add_zero (decide_eq_false e0) (decide_eq_false e1) p1 Nat.zero_add (decide_eq_true e2)) ?_
   exact⟨rfl,rfl,rfl,vq0,_,vr0,fun h=>by cases h⟩
  by_cases e3:(N.roots.length:Int)>4
  ·refine rgg [(4,14),(10,20),(16,26),(22,32),(27,37),(32,42),(37,47)] (an8 p0 Nat.add_zero (decide_eq_false e0) (decide_eq_false e1) p1 Nat.zero_add (decide_eq_false e2) (decide_eq_true e3)) ?_
   exact⟨rfl,rfl,rfl,vq0,_,vr0,fun h=>by cases h⟩
  by_cases e4:N.rw<0
  ·refine rgg [(4,14),(10,20),(16,26),(22,32),(27,37),(32,42),(37,47)] (an3 (an8 p0 Nat.add_zero (decide_eq_false e0) (decide_eq_false e1) p1 Nat.zero_add (decide_eq_false e2) (decide_eq_false e3)) p2 (decide_eq_true e4)) ?_
   exact⟨rfl,rfl,rfl,vq0,_,vr0,fun h=>by cases h⟩
  by_cases e5:N.rw>4
  ·refine rgg [(4,14),(10,20),(16,26),(22,32),(27,37),(32,42),(37,47)] (an4 (an8 p0 Nat.add_zero (decide_eq_false e0) (decide_eq_false e1) p1 Nat.zero_add (decide_eq_false e2) (decide_eq_false e3)) p2 (decide_eq_false e4) (decide_eq_true e5)) ?_
   exact⟨rfl,rfl,rfl,vq0,_,vr0,fun h=>by cases h⟩
  by_cases e6:N.rf<0
  ·refine rgg [(4,14),(10,20),(16,26),(22,32),(27,37),(32,42),(37,47)] (an6 (an8 p0 Nat.add_zero (decide_eq_false e0) (decide_eq_false e1) p1 Nat.zero_add (decide_eq_false e2) (decide_eq_false e3)) p2 (decide_eq_false e4) (decide_eq_false e5) p3 (decide_eq_true e6)) ?_
   exact⟨rfl,rfl,rfl,vq0,_,vr0,fun h=>by cases h⟩
  refine rgg [(4,14),(10,20),(16,26),(22,32),(27,37),(32,42),(37,47)] (an6 (an8 p0 Nat.add_zero (decide_eq_false e0) (decide_eq_false e1) p1 Nat.zero_add (decide_eq_false e2) (decide_eq_false e3)) p2 (decide_eq_false e4) (decide_eq_false e5) p3 (decide_eq_false e6)) ?_
  refine⟨rfl,rfl,rfl,vq0,_,vr0,fun h=>?_⟩
  simp only[decide_eq_false_iff_not]at h
  omega
 rintro _ σ1 _ w2 ⟨rfl,rfl,rfl,s1,t,s51,ht⟩
 repeat refine c_r ?_
 cases t with
 |true=>
  refine wt s51 ?_
  repeat (first|refine c_r ?_|refine rg0 ?_)
  refine rt0 Tryz.ntmps16 ?_
  exact⟨hE1,_,rfl,fun h=>by cases h⟩
 |false=>
 refine wf s51 ?_
 obtain⟨k1,k2,k3,k4⟩:=ht rfl
 clear ht s51
 repeat refine c_r ?_
 refine rq ?_;intro gd K hgd hK
 try simp (disch:=first|omega|assumption|rfl) only[go_sem,s1,p1,p2,p3,Nat.zero_add]
 refine⟨by kernel_rfl,?_⟩
 rw[show bdV Tryz.prog 112 [(1,.slice ar N.roots.length cr),(2,vi N.rw),(3,vi N.rf)]=some (.agg #[.slice Option.none 0 0,.slice ar N.roots.length cr,vi N.rw,vi N.rf]) from by kernel_rfl,←hrv]
 try simp only[go_sem]
 refine zaQ (P:=Tryz.prog) (l:=[.slice Option.none 0 0,rv,vi N.rw,vi N.rf]) rfl (fun v hv=>by simp at hv;rcases hv with rfl|rfl|rfl|rfl<;>first|exact r1|rfl) rfl rfl ?_
 intro w3 hE2 hs2 hD
 try simp only[go_sem]
 refine hK _ _ ?_;clear hK hgd;clear K;try clear gd
 obtain⟨c3,hc3⟩:∃b,w2.heap.size=b:=⟨_,rfl⟩
 rw[hc3]at hD hs2 ⊢
 repeat refine c_r ?_
 refine rg0 ?_
 repeat refine c_r ?_
 refine zar (fun m σ ds A=>ds=[]∧∃(i:Nat) (ov:Value) (G:List (SrvL×(Value×List Value))),i+m=N.hosts.length∧σ 4=vi i∧σ 1= .pointer (some ⟨w.heap.size,0,Option.none⟩)∧σ 3= .pointer (some ⟨c3,0,Option.none⟩)∧Ext w2 A∧c3+1≤A.heap.size∧
  A.heap[c3]? =some (.cells #[ov,rv,vi N.rw,vi N.rf] 112 (0,0))∧GS w 119 (c3+1) A ov G∧G.map Prod.fst=(N.hosts.take i).map srvH∧∀j (h:j<N.hosts.length),j<i→N.hosts[j].zones.length≤4∧∀z∈N.hosts[j].zones,GoodZ z) N.hosts.length ?_ ?_
 ·exact⟨rfl,0,.slice Option.none 0 0,[],by omega,vr0,(vq1 s1),vq0,hE2,by omega,hD,⟨Owns.nil _ _ _ _ _,fun x h=>by cases h⟩,rfl,fun j h h2=>absurd h2 (by omega)⟩
 clear s1
 rintro m σ ds A ⟨rfl,i,ov,G,him,s4,s1,s3,hEA,hAs,hB3,hGS,hGf,hgood⟩
 have p0A:=zaa hEA p0
 repeat refine c_r ?_
 refine rg4 s4 s1 p0A Nat.add_zero ?_
 repeat refine c_r ?_
 refine wc0 ?_ ?_
 ·intro hlt
  simp only[decide_eq_true_eq]at hlt
  have hi:i<N.hosts.length:=by omega
  have hi0:(0:Int)≤(i:Int):=by omega
  have hi1':(i:Int)+1=((i+1:Nat):Int):=by push_cast;rfl
  obtain⟨xa,xi,x5,nv,az,cz,rfl,hxi,hx5,g0,hn,g5,⟨b1,b2,b3,b4,hadr,hcs⟩,hpl⟩:=hat i hi
  have hvi:=hv _ (List.getElem_mem hi)
  obtain⟨s,hse⟩:∃s,N.hosts[i]=s:=⟨_,rfl⟩
  rw[hse]at hn g5 hadr hcs hvi
  simp only[hse]at hpl
  have n1:=hn.isOne
  have hz0:adr (some xi) 0=some xi:=zaz _
  obtain⟨y1,hy1⟩:∃y,adr (some xi) 1=some y:=⟨_,rfl⟩
  have gby:zal w (some y1) 4=some [zaf b1,zaf b2,zaf b3,zaf b4]:=by
   have h5:=za5 (m:=1) (k:=5) hcs
   rw[hy1]at h5
   exact zcl (m:=4) (k:=1) h5
  obtain⟨an,cn,hnv,_⟩:=id hn
  repeat refine c_r ?_
  refine zaH (fun i=>i==14) [(0,true),(1,true),(2,true),(3,true),(4,true),(5,true),(6,true),(7,true),(8,true),(9,true),(10,true),(11,true),(12,true),(13,false),(14,false)] NoS mixed (by kernel_rfl) ?_;intro gd K x hgd hx hxe hK;clear hxe
  have hwx:=hE1.trans (hEA.trans hx)
  have p0x:=zaa hx p0A
  have g0x:=zaa hwx g0
  have gbx:=zac hwx gby
  simp (disch:=first|omega|assumption|rfl) only[go_sem,s4,s1,p0x,Nat.add_zero,hi0,hlt,hxi,hz0,hy1,g0x,gbx]
  refine⟨by kernel_rfl,?_⟩
  rw[hnv,show bdV Tryz.prog 119 [(0,.slice an (s.name.map vs).length cn),(1,.agg #[zaf b1,zaf b2,zaf b3,zaf b4])]=some (.agg #[.slice an (s.name.map vs).length cn,zaf b1,zaf b2,zaf b3,zaf b4,.slice Option.none 0 0]) from by kernel_rfl,←hnv]
  simp (disch:=first|omega|assumption|rfl) only[go_sem]
  refine⟨.inr (Ext.alloc x _),?_⟩
  refine zaQ (P:=Tryz.prog) (l:=[nv,zaf b1,zaf b2,zaf b3,zaf b4,.slice Option.none 0 0]) rfl (fun v hv=>by simp at hv;rcases hv with rfl|rfl|rfl|rfl|rfl|rfl<;>first|exact n1|rfl) rfl rfl ?_
  intro A1 hE3 hs3 hB5
  refine⟨.inl rfl,?_⟩
  simp (disch:=first|omega|assumption|rfl) only[go_sem]
  refine hK _ _ ?_;clear hK hgd;clear K;try clear gd
  have hx3:=hx.trans hE3
  obtain⟨b5,hb5⟩:∃b,x.heap.size=b:=⟨_,rfl⟩
  have hsx:=hx.size
  rw[hb5]at hB5 hs3 hsx ⊢
  have hIP:IP w 119 131 b5 nv b1 b2 b3 b4 A A1 (.slice Option.none 0 0) []:=⟨hB5,Owns.nil _ _ _ _ _,hx3,hsx⟩
  have p01:=zaa hx3 p0A
  have g51:=zaa (hE1.trans (hEA.trans hx3)) g5
  clear p0x g0x gbx hx hwx hE3 hB5
  repeat refine c_r ?_
  by_cases h4:(s.zones.length:Int)>4
  ·refine rg9 s4 s1 p01 Nat.add_zero hi0 hlt hxi hx5 (an2 g51 (decide_eq_true h4)) ?_
   repeat refine c_r ?_
   refine wt trivial ?_
   repeat (first|refine c_r ?_|refine rg0 ?_)
   refine rt0 Tryz.ntmps16 ?_
   exact⟨hE1.trans (hEA.trans hx3),_,rfl,fun h=>by cases h⟩
  refine rg9 s4 s1 p01 Nat.add_zero hi0 hlt hxi hx5 (an2 g51 (decide_eq_false h4)) ?_
  repeat refine c_r ?_
  refine wf trivial ?_
  clear p01 g51 hx3
  repeat refine c_r ?_
  refine rg0 ?_
  repeat refine c_r ?_
  refine zar (fun m σ ds v=>ds=[]∧∃(k:Nat) (pv:Value),k+m=s.zones.length∧σ 6=vi k∧σ 4=vi i∧σ 1= .pointer (some ⟨w.heap.size,0,Option.none⟩)∧σ 3= .pointer (some ⟨c3,0,Option.none⟩)∧σ 5= .pointer (some ⟨b5,0,Option.none⟩)∧
   IP w 119 131 b5 nv b1 b2 b3 b4 A v pv ((s.zones.take k).map zgL)∧b5+1≤v.heap.size∧∀j (h:j<s.zones.length),j<k→GoodZ s.zones[j]) s.zones.length ?_ ?_
  ·exact⟨rfl,0,_,by omega,vr0,(vq1 s4),(vq1 s1),(vq1 s3),vq0,hIP,by omega,fun j h h2=>absurd h2 (by omega)⟩
  clear s4 s1 s3 hIP
  rintro m2 σ2 ds2 v ⟨rfl,k,pv,hkm,s6,s4,s1,s3,s5,hIP,hvs,hgz⟩
  have hEv:=hEA.trans hIP.e
  have hwv:=hE1.trans hEv
  have p0v:=zaa hEv p0
  have g5v:=zaa hwv g5
  repeat refine c_r ?_
  refine rg9 s6 s4 s1 (an3 p0v Nat.add_zero g5v) hi0 hlt hxi hx5 trivial ?_
  repeat refine c_r ?_
  refine wc0 ?_ ?_
  ·intro hlt2
   simp only[decide_eq_true_eq]at hlt2
   have hk:k<s.zones.length:=by omega
   have hk0:(0:Int)≤(k:Int):=by omega
   have hk1':(k:Int)+1=((k+1:Nat):Int):=by push_cast;rfl
   obtain⟨xp,xk,ow,lv,rfl,hxk,dz,ho,hl⟩:=hpl k hk
   obtain⟨z,hze⟩:∃z,s.zones[k]=z:=⟨_,rfl⟩
   have hnz:=hvi _ (List.getElem_mem hk)
   rw[hze]at ho hl hnz
   have o1:=ho.isOne
   have l1:=hl.isOne
   have dzv:=zac hwv dz
   repeat refine c_r ?_
   refine rq ?_;intro gd K hgd hK
   try simp (disch:=first|omega|assumption|rfl) only[go_sem,s6,s4,s1,p0v,Nat.add_zero,g5v,hi0,hlt,hxi,hx5,hk0,hlt2,hxk,dzv]
   refine zaQ (P:=Tryz.prog) (l:=[ow,lv]) rfl (zdX o1 l1) rfl rfl ?_
   intro v1 hE4 hs4' hB7
   try simp only[go_sem]
   refine hK _ _ ?_;clear hK hgd;clear K;try clear gd
   obtain⟨b7,hb7⟩:∃b,v.heap.size=b:=⟨_,rfl⟩
   rw[hb7]at hB7 hs4' ⊢
   have hwv1:=hwv.trans hE4
   have e0:zae v1 (some ⟨b7,0,Option.none⟩)=some ow:=zab hB7 rfl
   have e1:zae v1 (some ⟨b7,1,Option.none⟩)=some lv:=zab hB7 rfl
   obtain⟨al,cl,hlv,_⟩:=hl.open
   repeat refine c_r ?_
   refine zaA (Q:=fun e σ' ds' v'=>e= .normal∧ds'=[]∧σ' 6=vi k∧σ' 4=vi i∧σ' 1= .pointer (some ⟨w.heap.size,0,Option.none⟩)∧σ' 3= .pointer (some ⟨c3,0,Option.none⟩)∧σ' 5= .pointer (some ⟨b5,0,Option.none⟩)∧σ' 7= .pointer (some ⟨b7,0,Option.none⟩)∧Ext v1 v'∧∃t,σ' 132= .bool t∧(t=false→GoodZ z)) ?_ ?_
   ·refine zaH (fun _=>false) [(0,true),(1,true),(2,true),(3,true),(4,false),(5,true),(6,true),(7,true),(8,true),(9,true),(10,true),(11,true),(12,true),(13,true),(14,true),(16,true),(17,true),(18,true),(19,true),(15,false),(20,false),(21,false),(22,false),(23,false),(24,true),(25,true)] NoS mixed (by kernel_rfl) ?_;intro gd K x hgd hx hxe hK;clear hxe
    have hg6:∀n σ b,zat gd n σ (some (6,b))=zaj (ev n σ (.tmp 113)) b:=(fun n σ b=>by rw[zad,show gd 6=some 113 from(by rw[hgd];rfl)];rfl);have hg12:∀n σ b,zat gd n σ (some (12,b))=zaj (ev n σ (.tmp 119)) b:=(fun n σ b=>by rw[zad,show gd 12=some 119 from(by rw[hgd];rfl)];rfl)
    have e0x:=zaa hx e0
    have e1x:=zaa hx e1
    have hwx:=hwv1.trans hx
    simp (disch:=first|omega|assumption|rfl) only[go_sem,e0x,e1x,Nat.add_zero,Nat.zero_add]
    refine Fn.mono (ZGood_ok hwx (ho.ext hwx) (hl.ext hwx)) ?_
    rintro _ y1 ⟨hy1,b,rfl,hb⟩
    refine⟨.inr hy1,?_⟩
    cases b with
    |false=>
     simp (disch:=first|omega|assumption|rfl) only[go_sem,Bool.not_false,zbd,↓hg6,↓hg12]
     refine hK _ _ ?_;clear hK hgd;clear K;try clear gd
     exact⟨rfl,rfl,(vq1 s6),(vq1 s4),(vq1 s1),(vq1 s3),(vq1 s5),vq0,hx.trans hy1,_,vr0,fun h=>by cases h⟩
    |true=>
    obtain⟨go,gR⟩:=hb rfl
    have hrok:=zgb gR hnz
    have hRl:=gR.len
    have e1y:=zaa hy1 e1x
    rw[hlv]at e1y
    by_cases h20:(z.recs.length:Int)>20
    ·simp (disch:=first|omega|assumption|rfl) only[go_sem,Bool.not_true,zbd,e1y,Nat.zero_add,decide_eq_true h20,↓hg6,↓hg12]
     refine hK _ _ ?_;clear hK hgd;clear K;try clear gd
     exact⟨rfl,rfl,(vq1 s6),(vq1 s4),(vq1 s1),(vq1 s3),(vq1 s5),vq0,hx.trans hy1,_,vr0,fun h=>by cases h⟩
    have e0y1:=zaa hy1 e0x
    simp (disch:=first|omega|assumption|rfl) only[go_sem,Bool.not_true,zbd,e1y,e0y1,Nat.zero_add,Nat.add_zero,decide_eq_false h20,↓hg6,↓hg12]
    rw[←hlv]
    have hwy1:=hwx.trans hy1
    refine Fn.mono (ziQ hwy1 (hl.ext hwy1) (fun r hr=>(gR.few r hr).2.nn) (by omega)) ?_
    rintro l1v y2 ⟨hy2,hl2⟩
    refine⟨.inr hy2,?_⟩
    have hwy2:=hwy1.trans hy2
    have e0y:=zaa (hy1.trans hy2) e0x
    have e1y2:=zaa (hy1.trans hy2) e1x
    simp (disch:=first|omega|assumption|rfl) only[go_sem,e0y,e1y2,Nat.add_zero,Nat.zero_add,zbd,↓hg6,↓hg12]
    refine Fn.mono (ziQ hwy2 (hl.ext hwy2) (fun r hr=>(gR.few r hr).2.nn) (by omega)) ?_
    rintro l2v y3 ⟨hy3,hl3⟩
    refine⟨.inr hy3,?_⟩
    have hwy3:=hwy2.trans hy3
    simp (disch:=first|omega|assumption|rfl) only[go_sem,zbd,↓hg6,↓hg12]
    refine Fn.mono (RZNew_ok (Keep.refl _ y3) (ho.ext hwy3) hl3 hrok (by omega)) ?_
    rintro _ y4 ⟨hy4,cv,rfl,hcv⟩
    refine⟨.inr hy4,?_⟩
    have hl4:Rows 7 (RecAt y4) y4 l1v z.recs:=Rows.extC (fun _ _ h=>RecAt.ext h (hy3.trans hy4)) hl2 (hy3.trans hy4)
    have hcv4:=RecAt.up hcv hy4
    simp (disch:=first|omega|assumption|rfl) only[go_sem,zbd,↓hg6,↓hg12]
    refine op_field (P:=Tryz.prog) (v:=cv) rfl rfl rfl rfl (vr0) rfl ?_
    refine⟨.inr (Keep.refl _ _),?_⟩
    refine Fn.mono (Is5_ok y4 hl4 hcv4 (fun r hr=>⟨(hrok r hr).len,(hrok r hr).dat.n⟩) (by omega)) ?_
    rintro _ y5 ⟨hy5,t,rfl,ht⟩
    refine⟨.inr hy5,?_⟩
    simp (disch:=first|omega|assumption|rfl) only[go_sem,zbd,↓hg6,↓hg12]
    refine hK _ _ ?_;clear hK hgd;clear K;try clear gd
    refine⟨rfl,rfl,(vq1 s6),(vq1 s4),(vq1 s1),(vq1 s3),(vq1 s5),vq0,((((hx.trans hy1).trans hy2).trans hy3).trans hy4).trans hy5,_,vr0,fun h=>⟨go,gR,hnz,(ht ?_).symm⟩⟩
    simpa using h
   clear s6 s4 s1 s3 s5
   rintro _ σ3 _ v2 ⟨rfl,rfl,s6,s4,s1,s3,s5,s7,hE5,t,s132,hzt⟩
   repeat refine c_r ?_
   cases t with
   |true=>
    refine wt s132 ?_
    repeat (first|refine c_r ?_|refine rg0 ?_)
    refine rt0 Tryz.ntmps16 ?_
    exact⟨hwv1.trans hE5,_,rfl,fun h=>by cases h⟩
   |false=>
   refine wf s132 ?_
   have hgzk:=hzt rfl
   clear s132 hzt
   have hE45:=hE4.trans hE5
   have hIP2:=hIP.h
   have hB52:=Ext.at hE45 hIP.h
   have q5:zae v2 (some ⟨b5,5,Option.none⟩)=some pv:=zab hB52 rfl
   have e02:=zaa hE5 e0
   have lo:=hIP.lo
   have hsz2:=hE45.size
   obtain⟨ao,co,how,_⟩:=id ho
   repeat refine c_r ?_
   refine rq ?_;intro gd K hgd hK
   try simp (disch:=first|omega|assumption|rfl) only[go_sem,s5,s7,q5,e02,Nat.add_zero,Nat.zero_add]
   refine⟨by kernel_rfl,?_⟩
   rw[how,show bdV Tryz.prog 131 [(0,.slice ao (z.o.map vs).length co),(1,vs [120])]=some (.agg #[.slice ao (z.o.map vs).length co,vs [120]]) from by kernel_rfl,←how]
   try simp only[go_sem]
   refine za9 (zcr w) (l:=[ow,vs [120]]) (a:=zgL z) (by rfl) (by rfl) (by rfl) (by rfl) ⟨ow,rfl,ho⟩ (by decide) ?_
   intro v3 hE6 hs6' ho6
   try simp only[go_sem]
   have hx04:=hE45.trans hE6
   have hsz4:=hx04.size
   refine zaT (zcr w) (hIP.own.ext hx04) ho6.rows (by rfl) (by rfl) (by rfl) (by rfl) (by rfl) (by rfl) (by decide) (vr0) (vr0) (by simp;omega) (by decide) (by omega) ?_
   intro pv' v4 ho7 hE7 hk7 hb7'
   obtain⟨ap',cp',hpv',_⟩:=ho7.rows.open
   try simp (disch:=first|omega|assumption|rfl) only[go_sem,s5,Nat.zero_add]
   refine zaR (P:=Tryz.prog) (t:=117) (j:=5) (u:=pv') (l:=[nv,zaf b1,zaf b2,zaf b3,zaf b4,pv]) ((hk7.block _ (by omega) (fun hb=>by have:=(hIP.own.ge hb).1;omega)).trans (Ext.at hx04 hIP.h)) (by simp) (by rw[hpv'];rfl) rfl rfl ?_
   intro v5 hs5' hB5' hk5'
   try simp only[go_sem]
   refine hK _ _ ?_;clear hK hgd;clear K;try clear gd
   have hIPn:=hIP.app hx04 ho7 hk7 hB5' hk5'
   have hs7:=hk7.size
   repeat refine c_r ?_
   refine rg2 s6 hk1' ?_
   repeat refine c_r ?_
   refine⟨m2 - 1,by omega,rfl,k+1,pv',by omega,vq0,(vq1 s4),(vq1 s1),(vq1 s3),(vq1 s5),?_,by omega,fun j hj hjk=>?_⟩
   ·rw[zan hk,List.map_append,hze];exact hIPn
   ·by_cases hj2:j=k
    ·subst hj2;rw[hze];exact hgzk
    ·exact hgz j hj (by omega)
  ·intro hge2
   simp only[decide_eq_false_iff_not]at hge2
   have hfull:(s.zones.take k).map zgL=s.zones.map zgL:=by rw[List.take_of_length_le (by omega)]
   rw[hfull]at hIP
   obtain⟨ap',cp',hpv',_⟩:=hIP.own.rows.open
   have lo:=hIP.lo
   have dB:zal v (some ⟨b5,0,Option.none⟩) 6=some [nv,zaf b1,zaf b2,zaf b3,zaf b4,pv]:=zah hIP.h rfl
   have q3:zae v (some ⟨c3,0,Option.none⟩)=some ov:=zab (Ext.at hIP.e hB3) rfl
   have ones6:∀q∈ [nv,zaf b1,zaf b2,zaf b3,zaf b4,pv],one q=true:=fun q hq=>by
    simp at hq
    rcases hq with rfl|rfl|rfl|rfl|rfl|rfl<;>first|exact n1|rfl| (rw[hpv'];rfl)
   have hGl:G.length=i:=by
    have:=congrArg List.length hGf
    simp at this;omega
   repeat refine c_r ?_
   refine rq ?_;intro gd K hgd hK
   try simp (disch:=first|omega|assumption|rfl) only[go_sem,s3,s5,q3,dB,Nat.add_zero]
   refine za9 (C:=gxC) zey (l:=[nv,zaf b1,zaf b2,zaf b3,zaf b4,pv]) (a:=(srvH s,(pv,[nv,zaf b1,zaf b2,zaf b3,zaf b4,pv]))) (by rfl) (by rfl) (by rfl) (by rfl) ⟨rfl,rfl,ones6⟩ (by decide) ?_
   intro v1 hE4 hs4' ho4
   try simp only[go_sem]
   have hAv1:=hIP.e.trans hE4
   have hsA1:=hAv1.size
   refine zaT zey ((hGS.ext hAv1).own) ho4.rows (by rfl) (by rfl) (by rfl) (by rfl) (by rfl) (by rfl) (by decide) (vr0) (vr0) (by simp;omega) (by decide) (by omega) ?_
   intro ov' v2 ho5 hE5 hk5 hb5'
   obtain⟨ao',co',hov',_⟩:=ho5.rows.open
   try simp (disch:=first|omega|assumption|rfl) only[go_sem,s3,Nat.add_zero]
   refine zaR (P:=Tryz.prog) (t:=110) (j:=0) (u:=ov') (l:=[ov,rv,vi N.rw,vi N.rf]) ((hk5.block _ (by omega) (fun hb=>by have:=(hGS.own.ge hb).1;omega)).trans (Ext.at hAv1 hB3)) (by simp) (by rw[hov'];rfl) rfl rfl ?_
   intro v3 hs3' hB3' hk3'
   try simp only[go_sem]
   refine hK _ _ ?_;clear hK hgd;clear K;try clear gd
   have hGS2:=hGS.app hAv1 hAs (x:=(srvH s,(pv,[nv,zaf b1,zaf b2,zaf b3,zaf b4,pv]))) ⟨nv,b1,b2,b3,b4,rfl,hadr,hn,hIP.own.rows.ext hE4⟩ ((hIP.own.blk.mono (by omega)).ext hE4.size) ho5 hk5 hb5'
   have hGS3:=hGS2.keep hk3' (fun b h1 _ h2=>by omega)
   have hs5:=hk5.size
   repeat refine c_r ?_
   refine rg2 s4 hi1' ?_
   repeat refine c_r ?_
   refine⟨m - 1,by omega,rfl,i+1,ov',_,by omega,vq0,(vq1 s1),(vq1 s3),Keep.to_ext (hE5 w2 (hEA.trans hAv1) (by omega)) rfl (fun b hb=>by omega) hk3',by omega,hB3',hGS3,?_,fun j hj hji=>?_⟩
   ·rw[zan hi,List.map_append,List.map_append,hGf,hse];rfl
   ·by_cases hj2:j=i
    ·subst hj2
     rw[hse]
     refine⟨by omega,fun z hz=>?_⟩
     obtain⟨k2,hk2,rfl⟩:=List.mem_iff_getElem.1 hz
     exact hgz k2 hk2 (by omega)
    ·exact hgood j hj (by omega)
 ·intro hge
  simp only[decide_eq_false_iff_not]at hge
  rw[List.take_of_length_le (by omega)]at hGf
  have hEw:=hE1.trans hEA
  have hrows:=hGS.rows hEw
  rw[hGf]at hrows
  have o1:=hrows.isOne
  have dx:=zah (n:=4) (l:=[ov,rv,vi N.rw,vi N.rf]) hB3 rfl
  have hcf:ConfAt A [ov,rv,vi N.rw,vi N.rf] (confN N):=⟨ov,rv,rfl,hrows,hr0.ext hEw⟩
  repeat refine c_r ?_
  refine rc (an2 s3 dx) (Few15_ok A hcf) ?_
  rintro _ A1 ⟨hE3,t,rfl,hfew⟩
  refine re trivial ?_
  repeat refine c_r ?_
  cases t with
  |false=>
   refine wt Bool.not_false ?_
   repeat (first|refine c_r ?_|refine rg0 ?_)
   refine rt0 Tryz.ntmps16 ?_
   exact⟨hEw.trans hE3,_,rfl,fun h=>by cases h⟩
  |true=>
  refine wf Bool.not_true ?_
  have hf:=hfew rfl
  have dx1:=zac hE3 dx
  repeat refine c_r ?_
  refine rc (an2 s3 dx1) (Of15_ok A1 (hcf.ext hE3) hf) ?_
  rintro _ A2 ⟨hE4,cs',rfl,hcf2⟩
  refine rd trivial (zhC A2 hcf2 hf) ?_
  rintro _ A3 ⟨hE5,a,e,rfl,he⟩
  refine re trivial ?_
  repeat refine c_r ?_
  refine rg0 ?_
  repeat refine c_r ?_
  refine rt0 Tryz.ntmps16 ?_
  refine⟨hEw.trans (hE3.trans (hE4.trans hE5)),_,rfl,fun h=>?_⟩
  have hro:=he (by simpa using h)
  have hgj:∀h∈N.hosts,h.zones.length≤4∧∀z∈h.zones,GoodZ z:=fun h hh=>by
   obtain⟨j,hj,rfl⟩:=List.mem_iff_getElem.1 hh
   exact hgood j hj (by omega)
  refine⟨⟨by omega,fun h hh=>(hf.s (srvH h) (List.mem_map_of_mem hh)).1.m,fun h hh=>by have:=(hgj h hh).1;omega,fun h hh=>(hgj h hh).2,by omega⟩,k1,k2,fun r hr=>?_,k3,k4,fun h hh=>(hgj h hh).1,fun h hh=>(hf.s (srvH h) (List.mem_map_of_mem hh)).1⟩
  have:=hro.inn r hr
  rw[show (confN N).servers.length=N.hosts.length from List.length_map _]at this
  exact this
structure GoodSt(N:NetL)(s:zaq):Prop where
 s0:0≤s.sv
 s1:s.sv<(N.hosts.length:Int)
 nm:zbi s.name=true
 w0:0≤s.rw
 w1:s.rw≤N.rw
 f0:0≤s.rf
 f1:s.rf≤N.rf
 e0:0≤s.fin
 e1:s.fin≤9
theorem zjL:∀{n:Nm},(∀l∈n,l≠ [])→2*n.length≤(n.map fun l=>1+l.length).sum
 | [],_=>by simp
 |l::n,h=>by
  have h1:=List.length_pos_iff.2 (h l (List.mem_cons_self ..))
  have h2:=zjL (n:=n) fun m hm=>h m (List.mem_cons_of_mem _ hm)
  rw[List.map_cons,List.sum_cons,List.length_cons];omega
theorem zh1{n:Nm}(h:zaE n=0):n.length≤127:=by
 have hl:=zbc h
 have h2:=zjL fun l hm=>(hl l hm).1
 unfold zaE at h
 cases hf:n.find? (fun l=>decide (errL l≠0)) with
 |some x=>
  rw[hf]at h
  have h1:=List.find?_some hf
  simp at h1
  exact absurd h h1
 |none=>
  rw[hf]at h
  dsimp only at h
  split at h
  ·cases h
  ·rename_i h3
   unfold lenN at h3
   omega
theorem zjg{n:Nm}(h:zaE n=0):zbi n=true:=by
 unfold zbi
 rw[Bool.and_eq_true,decide_eq_true_eq]
 refine⟨?_,h⟩
 have h1:=zbc h
 have h2:=zh1 h
 unfold few
 simp only[Bool.and_eq_true,decide_eq_true_eq,List.all_eq_true]
 refine⟨by omega,fun l hl=>by have:=(h1 l hl).2;omega⟩
theorem GoodSt.b{N:NetL}{s:zaq}(h:GoodSt N s)(hN:zaV N):StB s:=⟨(zbZ h.nm).m,h.w0,by have:=h.w1;have:=hN.w.2;omega,h.f0,by have:=h.f1;have:=hN.f.2;omega⟩
structure zlo(N:NetL)(s x:zaq):Prop where
 g:GoodSt N x
 w:s.rw≤x.rw
 f:s.rf≤x.rf
 m1:x.rw - s.rw+x.rf - s.rf≤1
 go:x.fin=0→x.rw - s.rw+x.rf - s.rf=1
theorem zg9{N:NetL}{s s0 x:zaq}{k:Int}(hs:GoodSt N s)(hk:1≤k∧k≤9)(hw:s0.rw=s.rw)(hf:s0.rf≤s.rf∧s.rf≤s0.rf+1)(hx:x∈endS s k):zlo N s0 x:=by
 rw[List.mem_singleton.1 hx]
 exact⟨⟨hs.s0,hs.s1,hs.nm,hs.w0,hs.w1,hs.f0,hs.f1,by dsimp only;omega,hk.2⟩,by dsimp only;omega,by dsimp only;omega,by dsimp only;omega,fun h=>by dsimp only at h;omega⟩
theorem zin{α:Type}{p:α→Bool}:∀{l:List α} {i:Nat} {k:Int},k∈zcK p i l→(i:Int)≤k∧k<(i:Int)+(l.length:Int)
 | [],i,k,h=>by cases h
 |a::l,i,k,h=>by
  unfold zcK at h
  rcases List.mem_append.1 h with h|h
  ·split at h
   ·rw[List.mem_singleton.1 h,List.length_cons];omega
   ·cases h
  ·have:=zin h
   rw[List.length_cons];omega
theorem aliasS_F{N:NetL}{s x:zaq}{to:Nm}(hN:zaV N)(hs:GoodSt N s)(h0:s.fin=0)(ht:zaE to=0)(hx:x∈zfQ N s to):zlo N s x:=by
 unfold zfQ at hx
 split at hx
 ·exact zg9 hs (by omega) rfl (by omega) hx
 rename_i hw
 have hw':s.rw<N.rw:=by omega
 have g:∀k:Int,0≤k→k<(N.hosts.length:Int)→zlo N s {s with rw:=s.rw+1,name:=to,ref:=false,sv:=k}:=fun k h1 h2=>
  ⟨⟨h1,h2,zjg ht,by have:=hs.w0;dsimp only;omega,by dsimp only;omega,hs.f0,hs.f1,hs.e0,hs.e1⟩,by dsimp only;omega,by dsimp only;omega,by dsimp only;omega,fun _=>by dsimp only;omega⟩
 split at hx
 ·rw[List.mem_singleton.1 hx]
  exact g s.sv hs.s0 hs.s1
 ·unfold zdj at hx
  obtain⟨k,hk,rfl⟩:=List.mem_map.1 hx
  have:=hN.rin k hk
  exact g k this.1 this.2
theorem referS_F{N:NetL}{s x:zaq}{r:ResL}(hs:GoodSt N s)(h0:s.fin=0)(hx:x∈zfu N s r):zlo N s x:=by
 unfold zfu at hx
 split at hx
 ·exact zg9 hs (by omega) rfl (by omega) hx
 rename_i hw
 have hf0:=hs.f0
 have hs2:GoodSt N {s with rf:=s.rf+1}:=⟨hs.s0,hs.s1,hs.nm,hs.w0,hs.w1,by dsimp only;omega,by dsimp only;omega,hs.e0,hs.e1⟩
 obtain⟨h,_,hx⟩:=List.mem_flatMap.1 hx
 unfold zd6 at hx
 rcases List.mem_append.1 hx with hx|hx
 ·split at hx
  ·exact zg9 hs2 (by omega) rfl (by dsimp only;omega) hx
  ·cases hx
 ·obtain⟨k,hk,rfl⟩:=List.mem_map.1 hx
  unfold ofR zks at hk
  have:=zin hk
  exact⟨⟨by dsimp only;omega,by dsimp only;omega,hs.nm,hs.w0,hs.w1,by dsimp only;omega,by dsimp only;omega,hs.e0,hs.e1⟩,by dsimp only;omega,by dsimp only;omega,by dsimp only;omega,fun _=>by dsimp only;omega⟩
theorem zgV{N:NetL}{s x:zaq}{t:Int}(hN:zaV N)(hs:GoodSt N s)(hx:x∈zbD N s t):s.fin=0∧zlo N s x:=by
 have hF:=ask_F (s:=s.sv) (t:=t) hN.z (zbZ hs.nm).m
 unfold zbD at hx
 split at hx
 ·rename_i h0
  refine⟨h0,?_⟩
  repeat first| (split at hx;(first|exact zg9 hs (by omega) rfl (by omega) hx|exact aliasS_F hN hs h0 (hF.nm (by assumption)) hx|exact referS_F hs h0 hx))|exact zg9 hs (by omega) rfl (by omega) hx
 ·cases hx
theorem zgw{u:Int}{ds:List DatL}:(zau u ds).length≤ds.length:=by
 unfold zau
 split
 ·exact List.length_filterMap_le _ _
 ·simp
theorem next_len{N:NetL}{s:zaq}{t:Int}(hN:NetZ N)(ms:NmM s.name):(zbD N s t).length≤2000000:=by
 have hF:=ask_F (s:=s.sv) (t:=t) hN ms
 have he:∀k:Int,(endS s k).length≤2000000:=fun k=>by unfold endS;simp
 have h1:=hN.rl
 have h2:=hN.hl
 unfold zbD
 split
 ·repeat (split;· exact he _)
  split
  ·unfold zfQ
   split
   ·exact he _
   split
   ·simp
   ·unfold zdj;rw[List.length_map];omega
  split
  ·unfold zfu
   split
   ·exact he _
   ·have h3:=zge (fun a=>zg0 (N:=N) (r:=askN N s.sv s.name t) (s:={s with rf:=s.rf+1}) (h:=a)) (zau 2 (askN N s.sv s.name t).data)
    have h4:=zgw (u:=2) (ds:=(askN N s.sv s.name t).data)
    have h5:=hF.dl
    have h6:(zau 2 (askN N s.sv s.name t).data).length*(N.hosts.length+1)≤1000*1001:=Nat.mul_le_mul (by omega) (by omega)
    omega
  split<;>exact he _
 ·simp
def zdp(N:NetL)(t:Int):Nat→Nat→List MetL→List MetL
 |0,_,row=>row
 |f+1,i,row=>match row[i]? with
  |some x=>if row.length≤4096 then zdp N t f (i+1) (zbb x.2 0 row (zbD N x.1 t)) else row
  |Option.none=>row
def za0(N:NetL)(q:Nm):List zaq:=zdj N ⟨0,q,0,0,false,0⟩
def zdf(N:NetL)(q:Nm)(t:Int):List MetL:=zdp N t 4097 0 (zbb [] 0 [] (za0 N q))
def zcO(row:List MetL)(k:Int):Option MetL:=row.find? fun x=>decide (x.1.fin=k)
def zhc(row:List MetL)(n:Nat):List (Int×List Int):=(List.range n).filterMap fun j=>(zcO row ((j+1:Nat):Int)).map fun x=>(((j+1:Nat):Int),x.2)
def zha(row:List MetL):List (Int×List Int):=zhc row 9
theorem zfG{row:List MetL}{n:Nat}:zhc row (n+1)=zhc row n++((zcO row ((n+1:Nat):Int)).map fun x=>(((n+1:Nat):Int),x.2)).toList:=by
 unfold zhc
 rw[List.range_succ,List.filterMap_append]
 congr 1
theorem zhb(row:List MetL)(n:Nat):(zhc row n).length≤n:=by
 unfold zhc
 have:=List.length_filterMap_le (fun j=>(zcO row ((j+1:Nat):Int)).map fun x=>(((j+1:Nat):Int),x.2)) (List.range n)
 rw[List.length_range]at this
 exact this
structure EndI(w:World)(P:List MetL)(E:List (Value×MetL)):Prop where
 a:∀e∈E,zcO P e.2.1.fin=some e.2∧e.2.1.fin≠0∧Row w e.1 (e.2.2.map vi)
 b:∀x∈P,x.1.fin≠0→∃e∈E,e.2.1.fin=x.1.fin
theorem EndI.ext{w x:World}{P:List MetL}{E:List (Value×MetL)}(h:EndI w P E)(hE:Ext w x):EndI x P E:=
 ⟨fun e he=>by obtain⟨h1,h2,h3⟩:=h.a e he;exact⟨h1,h2,h3.ext hE⟩,h.b⟩
theorem zdo{P:List MetL}{X:MetL}{k:Int}:zcO (P++ [X]) k=(zcO P k).or (if X.1.fin=k then some X else Option.none):=by
 unfold zcO
 rw[List.find?_append]
 congr 1
 by_cases h:X.1.fin=k<;>simp[h]
theorem EndI.keep{w:World}{P:List MetL}{E:List (Value×MetL)}{X:MetL}(h:EndI w P E)(hx:X.1.fin=0∨∃e∈E,e.2.1.fin=X.1.fin):EndI w (P++ [X]) E:=by
 refine⟨fun e he=>?_,fun x hx' h0=>?_⟩
 ·obtain⟨h1,h2,h3⟩:=h.a e he
  exact⟨by rw[zdo,h1];rfl,h2,h3⟩
 ·rcases List.mem_append.1 hx' with hx'|hx'
  ·exact h.b x hx' h0
  ·rw[List.mem_singleton.1 hx']at h0 ⊢
   exact hx.resolve_left h0
theorem EndI.add{w:World}{P:List MetL}{E:List (Value×MetL)}{X:MetL}{pv:Value}(h:EndI w P E)(h0:X.1.fin≠0)(hn:∀e∈E,e.2.1.fin≠X.1.fin)(hr:Row w pv (X.2.map vi)):EndI w (P++ [X]) (E++ [(pv,X)]):=by
 have hnone:zcO P X.1.fin=Option.none:=List.find?_eq_none.2 fun x hx e=>by
  have e:=of_decide_eq_true e
  obtain⟨y,hy,he⟩:=h.b x hx (by rw[e];exact h0)
  exact hn y hy (he.trans e)
 refine⟨fun e he=>?_,fun x hx' hx0=>?_⟩
 ·rcases List.mem_append.1 he with he|he
  ·obtain⟨h1,h2,h3⟩:=h.a e he
   exact⟨by rw[zdo,h1];rfl,h2,h3⟩
  ·rw[List.mem_singleton.1 he]
   exact⟨by rw[zdo,hnone,if_pos rfl];rfl,h0,hr⟩
 ·rcases List.mem_append.1 hx' with hx'|hx'
  ·obtain⟨e,he,h1⟩:=h.b x hx' hx0
   exact⟨e,List.mem_append_left _ he,h1⟩
  ·exact⟨(pv,X),by simp,by rw[List.mem_singleton.1 hx']⟩
theorem EndI.no{w:World}{P:List MetL}{E:List (Value×MetL)}{k:Int}(h:EndI w P E)(hk:k≠0)(hn:∀e∈E,e.2.1.fin≠k):zcO P k=Option.none:=List.find?_eq_none.2 fun x hx e=>by
 have e:=of_decide_eq_true e
 obtain⟨y,hy,he⟩:=h.b x hx (by rw[e];exact hk)
 exact hn y hy (he.trans e)
def entE(e:Value×MetL):Value×Value:=(vi e.2.1.fin,.agg #[vi e.2.1.fin,e.1])
structure RowG(N:NetL)(i:Nat)(row:List MetL):Prop where
 g:∀y∈row,GoodSt N y.1
 p:∀y∈row,y.2.length≤i
theorem RowG.meet{N:NetL}{i:Nat}{row:List MetL}{p:List Int}{L:List zaq}{k:Nat}(h:RowG N i row)(hp:p.length<i)(hL:∀s∈L,GoodSt N s):RowG N i (zbb p k row L):=by
 refine⟨fun y hy=>?_,fun y hy=>?_⟩
 ·rcases zdJ hy with hy| ⟨hy,_⟩
  ·exact h.g y hy
  ·exact hL _ hy
 ·rcases zdJ hy with hy| ⟨_,j,e⟩
  ·exact h.p y hy
  ·rw[e,List.length_append,List.length_singleton];omega
theorem RowG.mono{N:NetL}{i j:Nat}{row:List MetL}(h:RowG N i row)(hij:i≤j):RowG N j row:=⟨h.g,fun y hy=>Nat.le_trans (h.p y hy) hij⟩
theorem zes{x:Int}(h0:0≤x)(h1:x≤1000000):(Lit.int .i64 x).wf=true:=by
 have e1:IntKind.i64.min= -9223372036854775808:=by decide
 have e2:IntKind.i64.max=9223372036854775807:=by decide
 show(decide (IntKind.i64.min≤x) && decide (x≤IntKind.i64.max))=true
 rw[e1,e2,decide_eq_true (by omega),decide_eq_true (by omega)];rfl
theorem zfU{k:Nat}:∀{l:List Nat},(∀x∈l,x≤k)→l.sum≤k*l.length
 | [],_=>by simp
 |a::l,h=>by
  have h1:=h a (by simp)
  have h2:=zfU (l:=l) fun x hx=>h x (by simp[hx])
  rw[List.sum_cons,List.length_cons,Nat.mul_succ];omega
theorem zgc{N:NetL}{s:zaq}(hN:zaV N)(h:GoodSt N s):StG s:=by
 have hg:=zbZ h.nm
 have hf:=hg.fold
 have hfew:few s.name=true:=by have:=h.nm;unfold zbi at this;exact(Bool.and_eq_true_iff.1 this).1
 have hl:∀l∈zaw s.name,l.length≤100:=fun l hl=>by
  obtain⟨x,hx,rfl⟩:=List.mem_map.1 hl
  simp only[few,Bool.and_eq_true,List.all_eq_true,decide_eq_true_eq]at hfew
  rw[zdO];exact hfew.2 x hx
 have h1:=hN.h1.2
 have h2:=hN.w.2
 have h3:=hN.f.2
 have:=h.s0;have:=h.s1;have:=h.w0;have:=h.w1;have:=h.f0;have:=h.f1;have:=h.e0;have:=h.e1
 refine⟨hg,?_,zes (by show 0≤s.sv;omega) (by show s.sv≤_;omega),zes (by show 0≤s.rw;omega) (by show s.rw≤_;omega),zes (by show 0≤s.rf;omega) (by show s.rf≤_;omega),zes (by show 0≤s.fin;omega) (by show s.fin≤_;omega)⟩
 show(zbh (zaw s.name)).length≤_
 have h4:=zdz (zaw s.name)
 have h5:=zfU (k:=100) (l:=(zaw s.name).map List.length) (fun x hx=>by obtain⟨l,hl',rfl⟩:=List.mem_map.1 hx;exact hl l hl')
 rw[List.length_map]at h5
 have h6:=hf.len
 unfold zbh
 split
 ·simp
 ·omega
theorem zeL{N:NetL}{q:Nm}(hN:zaV N)(hq:zbi q=true):∀s∈za0 N q,GoodSt N s:=fun s hs=>by
 obtain⟨r,hr,rfl⟩:=List.mem_map.1 hs
 obtain⟨h1,h2⟩:=hN.rin r hr
 exact⟨h1,h2,hq,Int.le_refl _,hN.w.1,Int.le_refl _,hN.f.1,Int.le_refl _,by show(0:Int)≤9;decide⟩
theorem expl_g{N:NetL}{t:Int}(hN:zaV N):∀{f i:Nat} {row:List MetL},RowG N (i+1) row→RowG N (i+f+1) (zdp N t f i row)
 |0,i,row,h=>h
 |f+1,i,row,h=>by
  unfold zdp
  split
  ·rename_i x hx
   split
   ·have hm:=List.mem_of_getElem? hx
    have h1:=h.p x hm
    have:=expl_g (f:=f) (i:=i+1) (t:=t) hN ((h.mono (j:=i+1+1) (by omega)).meet (k:=0) (p:=x.2) (L:=zbD N x.1 t) (by omega) (fun s hs=>(zgV hN (h.g x hm) hs).2.g))
    rw[show i+(f+1)+1=i+1+f+1 by omega]
    exact this
   ·exact h.mono (by omega)
  ·exact h.mono (by omega)
structure EndAt(w:World)(cs:List Value)(x:Int×List Int):Prop where
 ex:∃pv,cs=[vi x.1,pv]∧Row w pv (x.2.map vi)
theorem EndAt.ext{w x:World}{cs:List Value}{e:Int×List Int}(h:EndAt w cs e)(hE:Ext w x):EndAt x cs e:=by
 obtain⟨pv,e1,h1⟩:=h.ex
 exact⟨pv,e1,h1.ext hE⟩
theorem zhd(w:World):zeq 2 (EndAt w):=⟨fun h=>by obtain⟨pv,rfl,_⟩:=h.ex;rfl,fun h=>by obtain⟨pv,rfl,h1⟩:=h.ex;exact zdX rfl h1.isOne⟩
theorem zko{N:NetL}{s:zaq}{t:Int}(hN:zaV N)(hs:GoodSt N s):(zbD N s t).length≤2000000:=next_len hN.z (zbZ hs.nm).m
theorem zjF{w0 w:World}(hE0:Ext w0 w){cs:List Value}{N:NetL}{qv:Value}{q:Nm}{t:Int}(hN:NetAt w0 cs N)(hG:zaV N)(hq:Row w qv (q.map vs))(hgq:zbi q=true):
  Fn Tryz.prog 35 #[.agg cs.toArray,qv,vi t] w (fun v w'=>Ext w w'∧((4096<(zdf N q t).length∧v= .tuple #[.slice Option.none 0 0,vi 0,vi 11])∨
   ((zdf N q t).length≤4096∧∃ev,v= .tuple #[ev,vi (zdf N q t).length,vi 0]∧Rows 2 (EndAt w') w' ev (zha (zdf N q t))))):=by
 have hN0:=hN
 obtain⟨hsv,rv,rfl,hh,hr⟩:=hN.ex
 obtain⟨ah,ch,hhv,_⟩:=hh.open
 obtain⟨ar0,cr0,hrv,_⟩:=id hr
 refine enter Tryz.func35 Tryz.ntmps35 rfl rfl ?_
 repeat refine c_r ?_
 rw[hhv,hrv]
 refine go trivial ?_
 rw[←hhv,←hrv]
 refine zaB ?_
 intro w1 hE1 hs1 hA
 refine rq ?_;intro gd K hgd hK
 try simp only[go_sem]
 refine⟨by kernel_rfl,?_⟩
 rw[show bdV Tryz.prog 161 [(0,.map (some w1.heap.size))]=some (.agg #[.map (some w1.heap.size),.slice Option.none 0 0]) from by kernel_rfl]
 try simp only[go_sem]
 refine hK _ _ ?_;clear hK hgd;clear K;try clear gd
 rw[zai]
 refine go trivial ?_
 refine zaM ?_
 intro w2 hE2 hs2 hM hB
 have dN:zal w2 (some ⟨w.heap.size,0,Option.none⟩) 4=some [hsv,rv,vi N.rw,vi N.rf]:=zah (Ext.at hE2 hA) rfl
 obtain⟨m,hm⟩:∃m,w1.heap.size=m:=⟨_,rfl⟩
 rw[hm]at hM hB hs2 ⊢
 have hI2:SetI w1 w2 (m+1) m (.slice Option.none 0 0) []:=⟨hB,⟨_,_,hM,rfl⟩,Owns.nil _ _ _ _ _,hE2,by omega,by omega,by omega,(fun e=>by cases e),(fun e=>by cases e)⟩
 clear hB hM
 have hE02:=hE0.trans (hE1.trans hE2)
 refine go trivial ?_
 have hmq:=zbZ hgq
 refine rc dN (zhq hE02 hN0 hG.z.rl (hq.ext (hE1.trans hE2))) ?_
 rintro sv w3 ⟨hE3,hsb,_,rfl,hsr,hsn⟩
 have hI3:=hI2.ext hE3
 have hSw:∀i,setB (m+1) m (.slice Option.none 0 0) i→w1.heap.size≤i∧i<w2.heap.size:=fun i hi=>hI2.lt hi
 have hsl:(za0 N q).length≤1000:=by have:=hG.z.rl;unfold za0 zdj;rw[List.length_map];exact this
 refine rd trivial (zkr (L:=za0 N q) (p:=[]) hI3 ⟨⟨Option.none,0,rfl,Nat.le_refl _,fun j h=>by simp at h⟩,fun h=>absurd rfl h⟩ (by decide) hsr (fun a n c e=>by
  obtain⟨k1,k2⟩:=hsb a n c e
  exact⟨k2,fun hj=>by have:=hSw _ hj;omega⟩) (fun s hs=>by
  have:s.name=q:=by obtain⟨r,_,rfl⟩:=List.mem_map.1 hs;rfl
  rw[this]
  exact RowY.old hq (hE1.trans (hE2.trans hE3)) fun b hb=>by have:=hSw _ hb;have:=hE1.size;omega) (fun s hs=>zgc hG (zeL hG hgq s hs)) (fun y hy=>by cases hy) (by simp;omega)) ?_
 rintro _ w4 ⟨lv,hI4,hk4,hS4⟩
 refine rgo trivial ?_
 have hR0:RowG N 1 (zbb [] 0 [] (za0 N q)):=RowG.meet ⟨fun y hy=>(by cases hy),fun y hy=>(by cases hy)⟩ (by simp) (zeL hG hgq)
 have hl0:(zbb [] 0 [] (za0 N q)).length≤1000:=by have:=zdK (p:=[]) (k:=0) (L:=za0 N q) (row:=[]);simp at this;omega
 obtain⟨F,hF⟩:∃F,zdf N q t=F:=⟨_,rfl⟩
 rw[hF]
 have hA4:w4.heap[w.heap.size]? =some (.cells #[hsv,rv,vi N.rw,vi N.rf] 25 (0,0)):=Ext.at (hI4.e) hA
 have hqo:∀{v lv':_} {row:List MetL},SetI w1 v (m+1) m lv' row→zal v (some ⟨w.heap.size,0,Option.none⟩) 4=some [hsv,rv,vi N.rw,vi N.rf]:=fun h=>zah (Ext.at h.e hA) rfl
 refine zaA (Q:=fun e σ' ds' v=>e= .exit 0∧ds'=[]∧(σ' 9= .pointer (some ⟨m+1,0,Option.none⟩))∧∃lv,SetI w1 v (m+1) m lv F∧RowG N 5000 F∧F.length≤2100000) ?_ ?_
 ·refine zar (fun mm σ ds v=>ds=[]∧∃(i:Nat) (lv:Value) (row:List MetL),i+mm=4098∧(σ 10=vi i∧σ 9= .pointer (some ⟨m+1,0,Option.none⟩)∧σ 3= .pointer (some ⟨w.heap.size,0,Option.none⟩)∧σ 2=vi t)∧SetI w1 v (m+1) m lv row∧RowG N (i+1) row∧row.length≤2100000∧zdp N t (4097 - i) i row=F) 4098 ?_ ?_
  ·exact⟨rfl,0,lv,_,by omega,⟨vr0,vq0,vq0,vq0⟩,hI4,hR0,by omega,hF⟩
  rintro mm σ ds v ⟨rfl,i,lv1,row,him,s,hI,hRG,hrl,hFe⟩
  obtain⟨al,cl,rfl,_,hgl⟩:=hI.o.rows.open
  have c1:zae v (some ⟨m+1,1,Option.none⟩)=some (.slice al row.length cl):=zab (i:=1) hI.c rfl
  by_cases hi:i<row.length
  rotate_left
  ·have hFr:row=F:=by
    rw[←hFe]
    cases hf:4097 - i with
    |zero=>rfl
    |succ f=>unfold zdp;rw[List.getElem?_eq_none (by omega)]
   have hd:decide ((i:Int)<(row.length:Int))=false:=decide_eq_false (by omega)
   refine go trivial ?_
   refine rgg [(7,35)] (an3 s c1 hd) ?_
   refine go trivial ?_
   rw[←hFr]
   exact⟨rfl,rfl,(vq1 s),_,hI,hRG.mono (by omega),hrl⟩
  have hd:decide ((i:Int)<(row.length:Int))=true:=decide_eq_true (by omega)
  by_cases hm4:row.length≤4096
  rotate_left
  ·have hFr:row=F:=by
    rw[←hFe]
    cases hf:4097 - i with
    |zero=>rfl
    |succ f=>unfold zdp;rw[List.getElem?_eq_getElem hi];simp only[];rw[if_neg hm4]
   have hd2:decide ((row.length:Int)≤4096)=false:=decide_eq_false (by omega)
   refine go trivial ?_
   refine rgg [(7,35)] (an4 s c1 hd hd2) ?_
   refine go trivial ?_
   rw[←hFr]
   exact⟨rfl,rfl,(vq1 s),_,hI,hRG.mono (by omega),hrl⟩
  have hd2:decide ((row.length:Int)≤4096)=true:=decide_eq_true (by omega)
  obtain⟨f,hf⟩:∃f,4097 - i=f+1:=⟨4096 - i,by omega⟩
  obtain⟨cs7,hcs,hMt⟩:=hgl i hi
  have hmem:=List.getElem_mem hi
  have hFn:zdp N t f (i+1) (zbb row[i].2 0 row (zbD N row[i].1 t))=F:=by
   rw[←hFe,hf]
   conv=>rhs;unfold zdp
   rw[List.getElem?_eq_getElem hi];simp only[];rw[if_pos hm4]
  obtain⟨X,hX⟩:∃X,row[i]=X:=⟨_,rfl⟩
  rw[hX]at hMt hmem hFn
  have gX:=hRG.g X hmem
  have pX:=hRG.p X hmem
  obtain⟨nv,pv,rfl,hnv,hpv⟩:=id hMt.ex
  obtain⟨xa,rfl⟩:=Option.isSome_iff_exists.1 (zao hcs)
  obtain⟨xi,hxi⟩:∃xi,adr (some xa) (i*7)=some xi:=⟨_,rfl⟩
  rw[hxi]at hcs
  have hz0:adr (some xi) 0=some xi:=zaz _
  obtain⟨x6,hx6⟩:∃x,adr (some xi) 6=some x:=⟨_,rfl⟩
  have g6:=zax (j:=6) hcs rfl
  rw[hx6]at g6
  have gS:=zcl (m:=6) (k:=1) hcs
  rw[show (stV nv X.1++ [pv]).take 6=stV nv X.1 from rfl]at gS
  have hi0:(0:Int)≤(i:Int):=by omega
  have hi1:(i:Int)<(row.length:Int):=by omega
  have hi1':(i:Int)+1=((i+1:Nat):Int):=by push_cast;rfl
  have dN':=hqo hI
  have hnl:=zko (t:=t) hG gX
  refine go trivial ?_
  refine rgg [(7,35)] (an4 s c1 hd hd2) ?_
  refine go trivial ?_
  refine zaA (Q:=fun e σ' ds' v'=>e= .normal∧ds'=[]∧(σ' 10=vi i∧σ' 9= .pointer (some ⟨m+1,0,Option.none⟩)∧σ' 3= .pointer (some ⟨w.heap.size,0,Option.none⟩)∧σ' 2=vi t)∧∃lv',SetI w1 v' (m+1) m lv' (zbb X.2 0 row (zbD N X.1 t))) ?_ ?_
  ·refine zaH (fun i=>i==20) [(0,true),(1,true),(2,true),(3,true),(4,true),(5,true),(6,true),(7,true),(8,true),(9,true),(10,true),(11,true),(12,true),(13,true),(14,true),(15,true),(16,true),(17,true),(18,true),(19,false),(20,false)] NoS mixed (by kernel_rfl) ?_;intro gd K x hgd hx hxe hK;clear hxe
   have c1x:=zaa hx c1
   have g6x:=zaa hx g6
   have gSx:=zac hx gS
   have dNx:=zac hx dN'
   unfold stV at gSx
   simp (disch:=first|omega|assumption|rfl) only[go_sem,s,c1x,g6x,gSx,dNx,hxi,hz0,hx6,hi0,hi1]
   have hE0x:=hE0.trans (hE1.trans (hI.e.trans hx))
   refine Fn.mono (ziR (t:=t) hE0x hN0 hG.z (hnv.1.ext hx) (gX.b hG)) ?_
   rintro sv2 y ⟨hy,hsb2,u,hok,hsr2,hsn2⟩
   refine⟨.inr hy,?_⟩
   simp (disch:=first|omega|assumption|rfl) only[go_sem]
   have hIy:=hI.ext (hx.trans hy)
   have hSx:∀j,setB (m+1) m (.slice (some xa) row.length cl) j→w1.heap.size≤j∧j<x.heap.size:=fun j hj=>(hI.ext hx).lt hj
   have kx:Keep (setB (m+1) m (.slice (some xa) row.length cl)) v y:=(hx.trans hy).mono fun _ _ h=>h.elim
   refine Fn.mono (zkr (L:=zbD N X.1 t) (p:=X.2) hIy (hpv.turn kx fun _ h=> .inl h) (by omega) hsr2 (fun a n c e=>by
    obtain⟨k1,k2⟩:=hsb2 a n c e
    exact⟨k2,fun hj=>by have:=hSx _ hj;omega⟩) (fun s' hs'=>?_) (fun s' hs'=>zgc hG (zgV hG gX hs').2.g) (fun y' hy'=>(zgc hG (hRG.g y' hy')).k) (by omega)) ?_
   ·rcases hok with rfl|hok| ⟨l,hl⟩
    ·exact(hnv.turn kx fun _ h=> .inl h).alike (hsn2 s' hs')
    ·refine⟨hsn2 s' hs',fun _ a n c e=>?_⟩
     obtain⟨k1,k2⟩:=hok a n c e
     exact⟨k2,fun hj=>by have:=hSx _ hj;omega⟩
    ·exact(RowY.old hl (hE0x.trans hy) fun j hj=>by have:=(hSx j hj).1;have:=(hE0.trans hE1).size;omega).alike (hsn2 s' hs')
   rintro _ z ⟨lv2,hI2',_,_⟩
   refine⟨.inl rfl,?_⟩
   simp (disch:=first|omega|assumption|rfl) only[go_sem]
   refine hK _ _ ?_;clear hK hgd;clear K;try clear gd
   exact⟨rfl,rfl,sc s,lv2,hI2'⟩
  clear s
  rintro _ σ1 _ v1 ⟨rfl,rfl,s,lv2,hI2'⟩
  have hml:=zdK (p:=X.2) (k:=0) (L:=zbD N X.1 t) (row:=row)
  refine go (an2 s hi1') ?_
  exact⟨mm - 1,by omega,rfl,i+1,lv2,_,by omega,sc (an2 s hi1'),hI2',(hRG.mono (j:=i+1+1) (by omega)).meet (by omega) (fun s hs=>(zgV hG gX hs).2.g),by omega,by rw[show 4097 - (i+1)=f by omega];exact hFn⟩
 rintro _ σ _ v ⟨rfl,rfl,s9,lv5,hI5,hRF,hFl⟩
 obtain⟨al,cl,rfl,_,hgl⟩:=hI5.o.rows.open
 have c1:zae v (some ⟨m+1,1,Option.none⟩)=some (.slice al F.length cl):=zab (i:=1) hI5.c rfl
 have hEwv:Ext w v:=hE1.trans hI5.e
 refine go trivial ?_
 by_cases h4:(F.length:Int)>4096
 ·refine go (an4 s9 c1 (decide_eq_true h4) Nat.zero_add) ?_
  refine zaC (.inr rfl) Tryz.ntmps35 rfl (zak (v:= .slice Option.none 0 0) (vr0) (zak (v:=vi 0) (vr0) (zak (v:=vi 11) (vr0) zav))) ?_
  exact⟨hEwv,.inl ⟨by omega,rfl⟩⟩
 refine go (an4 s9 c1 (decide_eq_false h4) Nat.zero_add) ?_
 refine zaB ?_
 intro v1 hEm hsm hMp
 obtain⟨mp,hmp⟩:∃mp,v.heap.size=mp:=⟨_,rfl⟩
 rw[hmp]at hMp hsm ⊢
 have c1m:=zaa hEm c1
 refine go (an2 s9 c1m) ?_
 have hEI0:EndI v ([]:List MetL) []:=⟨fun e he=>(by cases he),fun x hx=>(by cases hx)⟩
 have hG0:GM v1 mp (([]:List (Value×MetL)).map entE):=⟨_,_,hMp,rfl⟩
 refine zaA (Q:=fun e σ' ds' x=>e= .exit 2∧ds'=[]∧(σ' 11= .map (some mp)∧σ' 9= .pointer (some ⟨m+1,0,Option.none⟩))∧∃E,Ext v x∧EndI v F E∧GM x mp (E.map entE)) ?_ ?_
 ·refine zho F.length (fun i σ x=>(σ 78=vi i∧σ 77=vi F.length∧σ 76= .slice al F.length cl∧σ 11= .map (some mp)∧σ 9= .pointer (some ⟨m+1,0,Option.none⟩))∧∃E,Ext v x∧EndI v (F.take i) E∧GM x mp (E.map entE)) ?_ ?_ ?_
  ·exact⟨⟨vr0,vq0,vq0,vq0,(vq1 s9)⟩,[],hEm,hEI0,hG0⟩
  ·rintro i σ X hi q ⟨s,E,hEX,hEI,hGM⟩
   obtain⟨cs7,hcs,hMt⟩:=hgl i hi
   replace hcs:=zac hEX hcs
   obtain⟨nv,pv,rfl,hnv,hpv⟩:=id hMt.ex
   have hone:=hMt.ones
   have hpX:=hpv.1
   obtain⟨xa,rfl⟩:=Option.isSome_iff_exists.1 (zao hcs)
   obtain⟨xi,hxi⟩:∃xi,adr (some xa) (i*7)=some xi:=⟨_,rfl⟩
   rw[hxi]at hcs
   have htk:F.take (i+1)=F.take i++ [F[i]]:=zan hi
   obtain⟨S,hS⟩:∃S,F[i]=S:=⟨_,rfl⟩
   rw[hS]at htk hcs hpX hone
   refine go (an3 s q hxi) ?_
   refine rq ?_;intro gd K hgd hK
   replace hcs:zal X (some xi) 7=some [vi S.1.sv,nv,vi S.1.rw,vi S.1.rf,.bool S.1.ref,vi S.1.fin,pv]:=hcs
   try simp (disch:=first|omega|assumption|rfl) only[go_sem,s,q,hxi,hcs]
   refine zaQ (P:=Tryz.prog) (l:=stV nv S.1++ [pv]) rfl hone.2 rfl rfl ?_
   intro X1 hX1 hs1 hC
   try simp only[go_sem]
   refine hK _ _ ?_;clear hK hgd;clear K;try clear gd
   obtain⟨c7,hc7⟩:∃c,X.heap.size=c:=⟨_,rfl⟩
   rw[hc7]at hC ⊢
   have g5:zae X1 (some ⟨c7,5,Option.none⟩)=some (vi S.1.fin):=zab (i:=5) hC rfl
   have g6:zae X1 (some ⟨c7,6,Option.none⟩)=some pv:=zab (i:=6) hC rfl
   have hEX1:=hEX.trans hX1
   replace hGM:=hGM.block (hX1.block _ hGM.lt (fun h=>h))
   clear hcs hxi hC hMt hnv hpv
   have hgk:∀p∈E.map entE,∃n,p.1= .int .i64 n:=fun p hp=>by obtain⟨e,_,rfl⟩:=List.mem_map.1 hp;exact⟨_,rfl⟩
   refine go trivial ?_
   refine rq ?_;intro gd K hgd hK
   try simp (disch:=first|omega|assumption|rfl) only[go_sem,g5]
   refine zf2 (key:=vi S.1.fin) (z:= .agg #[vi 0,.slice Option.none 0 0]) (MKey.int (kd:= .i64) rfl) rfl rfl rfl ((vq1 s)) (vr0) hGM ⟨_,rfl⟩ hgk (fun hno=>?_) (fun u hu=>?_)
   ·have hn:∀e∈E,e.2.1.fin≠S.1.fin:=fun e he h0=>hno _ (List.mem_map.2 ⟨e,he,rfl⟩) (by unfold entE;rw[h0])
    try simp only[go_sem]
    refine zaQ (P:=Tryz.prog) (l:=[vi 0,.slice Option.none 0 0]) rfl (fun q hq=>by simp at hq;rcases hq with rfl|rfl<;>rfl) rfl rfl ?_
    intro X2 hX2 hs2 hC2
    try simp only[go_sem]
    refine hK _ _ ?_;clear hK hgd;clear K;try clear gd
    have e5:=zaa hX2 g5
    have e6:=zaa hX2 g6
    have hEX2:=hEX1.trans hX2
    have hGM2:=hGM.block (hX2.block _ hGM.lt (fun h=>h))
    clear hC2
    by_cases hf:S.1.fin=0
    ·refine go trivial ?_
     refine rgg [(2,92)] (an2 e5 (decide_eq_true hf)) ?_
     refine go trivial ?_
     refine go (an2 s q) ?_
     exact⟨rfl,sc (an2 s q),E,hEX2,by rw[htk];exact hEI.keep (.inl hf),hGM2⟩
    ·refine go trivial ?_
     refine rgg [(2,92)] (an2 e5 (decide_eq_false hf)) ?_
     refine go trivial ?_
     obtain⟨ap,cp,rfl,_⟩:=id hpX
     have kbd:∀(n:Int) (l c:Nat),bdV Tryz.prog 91 [(0,vi n),(1,.slice ap l c)]=some (.agg #[vi n,.slice ap l c]):=fun n l c=>by kernel_rfl
     refine rq ?_;intro gd K hgd hK
     try simp (disch:=first|omega|assumption|rfl) only[go_sem,s,e5,e6]
     refine⟨by kernel_rfl,?_⟩
     rw[kbd]
     try simp (disch:=first|omega|assumption|rfl) only[go_sem,s,e5,e6]
     refine zkg (key:=vi S.1.fin) (v:= .agg #[vi S.1.fin,.slice ap (S.2.map vi).length cp]) (MKey.int (kd:= .i64) rfl) rfl ((vq1 s)) (vr0) (vr0) hGM2 ⟨_,rfl⟩ hgk (fun p hp h0=>by
      obtain⟨e,he,rfl⟩:=List.mem_map.1 hp
      injection h0 with _ h0
      exact hn e he h0) ?_
     intro X3 hg3 hk3 hs3
     try simp only[go_sem]
     refine hK _ _ ?_;clear hK hgd;clear K;try clear gd
     refine go (an2 s q) ?_
     exact⟨rfl,sc (an2 s q),E++ [(_,S)],Keep.to_ext hEX2 rfl (fun i hi=>by omega) hk3,by rw[htk];exact hEI.add hf hn hpX,by rw[List.map_append];exact hg3⟩
   ·obtain⟨e,he,hee⟩:=List.mem_map.1 hu
    unfold entE at hee
    simp only[Prod.mk.injEq]at hee
    obtain⟨h1,rfl⟩:=hee
    have h1:e.2.1.fin=S.1.fin:=by injection h1
    try simp only[go_sem]
    refine zaQ (P:=Tryz.prog) (l:=[vi e.2.1.fin,e.1]) rfl (fun q hq=>by simp at hq;rcases hq with rfl|rfl;exact rfl;exact(hEI.a e he).2.2.isOne) rfl rfl ?_
    intro X2 hX2 hs2 hC2
    try simp only[go_sem]
    refine hK _ _ ?_;clear hK hgd;clear K;try clear gd
    have hEX2:=hEX1.trans hX2
    have hGM2:=hGM.block (hX2.block _ hGM.lt (fun h=>h))
    clear hC2
    refine go trivial ?_
    refine rgg [(2,92)] trivial ?_
    refine go trivial ?_
    refine go (an2 s q) ?_
    exact⟨rfl,sc (an2 s q),E,hEX2,by rw[htk];exact hEI.keep (.inr ⟨e,he,h1⟩),hGM2⟩
  ·rintro σ x q ⟨s,E,hEX,hEI,hGM⟩
   refine go (an2 s q) ?_
   rw[List.take_length]at hEI
   exact⟨rfl,rfl,sc s,E,hEX,hEI,hGM⟩
 clear s9
 rintro _ σ2 _ v2 ⟨rfl,rfl,s,E,hEX,hEI,hGM⟩
 have hEv2:=hEX.size
 refine go s ?_
 refine zaA (Q:=fun e σ' ds' x=>e= .exit 4∧ds'=[]∧(σ' 9= .pointer (some ⟨m+1,0,Option.none⟩))∧∃ev,σ' 16=ev∧Ext v2 x∧Owns 2 (EndAt v) v2.heap.size x 91 ev (zha F)) ?_ ?_
 ·refine zho 9 (fun i σ x=>(σ 17=vi ((i+1:Nat):Int)∧σ 11= .map (some mp)∧σ 9= .pointer (some ⟨m+1,0,Option.none⟩))∧∃ev,σ 16=ev∧Ext v2 x∧Owns 2 (EndAt v) v2.heap.size x 91 ev (zhc F i)) ?_ ?_ ?_
  ·exact⟨⟨vr0,(vq1 s),(vq1 s)⟩,.slice Option.none 0 0,vr0,Keep.refl _ _,Owns.nil _ _ _ _ _⟩
  ·rintro i σ x hi _ ⟨s,ev,h16,hEx,ho⟩
   have hd:decide (((i+1:Nat):Int)≤9)=true:=decide_eq_true (by omega)
   have hi1:((i+1:Nat):Int)+1=((i+1+1:Nat):Int):=by push_cast;rfl
   have hGMx:=hGM.block (hEx.block _ hGM.lt (fun h=>h))
   have hgk:∀p∈E.map entE,∃n,p.1= .int .i64 n:=fun p hp=>by obtain⟨e,_,rfl⟩:=List.mem_map.1 hp;exact⟨_,rfl⟩
   refine go (an3 s h16 hd) ?_
   refine rq ?_;intro gd K hgd hK
   try simp (disch:=first|omega|assumption|rfl) only[go_sem,s]
   refine zf2 (key:=vi ((i+1:Nat):Int)) (z:= .agg #[vi 0,.slice Option.none 0 0]) (MKey.int (kd:= .i64) rfl) rfl rfl rfl ((vq1 s)) (vr0) hGMx ⟨_,rfl⟩ hgk (fun hno=>?_) (fun u hu=>?_)
   ·have hn:∀e∈E,e.2.1.fin≠((i+1:Nat):Int):=fun e he h0=>hno _ (List.mem_map.2 ⟨e,he,rfl⟩) (by unfold entE;rw[h0])
    try simp only[go_sem]
    refine zaQ (P:=Tryz.prog) (l:=[vi 0,.slice Option.none 0 0]) rfl (fun q hq=>by simp at hq;rcases hq with rfl|rfl<;>rfl) rfl rfl ?_
    intro y hy hsy hC
    try simp only[go_sem]
    refine hK _ _ ?_;clear hK hgd;clear K;try clear gd
    refine go trivial ?_
    refine go (an3 s h16 hi1) ?_
    exact⟨rfl,sc (an2 s hi1),ev,(vq1 h16),hEx.trans hy,by rw[zfG,hEI.no (by omega) hn];simpa using ho.ext hy⟩
   ·obtain⟨e,he,hee⟩:=List.mem_map.1 hu
    unfold entE at hee
    simp only[Prod.mk.injEq]at hee
    obtain⟨h1,rfl⟩:=hee
    have h1:e.2.1.fin=((i+1:Nat):Int):=by injection h1
    obtain⟨hf,h0,hrw⟩:=hEI.a e he
    try simp only[go_sem]
    refine zaQ (P:=Tryz.prog) (l:=[vi e.2.1.fin,e.1]) rfl (fun q hq=>by simp at hq;rcases hq with rfl|rfl;exact rfl;exact hrw.isOne) rfl rfl ?_
    intro y hy hsy hC
    try simp only[go_sem]
    refine hK _ _ ?_;clear hK hgd;clear K;try clear gd
    obtain⟨c9,hc9⟩:∃c,x.heap.size=c:=⟨_,rfl⟩
    rw[hc9]at hC ⊢
    have dE:zal y (some ⟨c9,0,Option.none⟩) 2=some [vi e.2.1.fin,e.1]:=zah hC rfl
    have hEA:EndAt v [vi e.2.1.fin,e.1] (((i+1:Nat):Int),e.2.2):=⟨e.1,by rw[h1],hrw⟩
    refine go trivial ?_
    refine rq ?_;intro gd K hgd hK
    try simp (disch:=first|omega|assumption|rfl) only[go_sem,s,h16,dE]
    refine za9 (zhd v) rfl rfl rfl rfl hEA (by decide) ?_
    intro y2 hE2 hs2 ho2
    try simp only[go_sem]
    refine zaT (zhd v) ((ho.ext hy).ext hE2) ho2.rows rfl rfl rfl rfl rfl rfl (by decide) ((vq1 h16)) (vr0) (by have:=zhb F i;rw[List.length_singleton];omega) (by decide) (by have:=hEx.size;have:=hy.size;omega) ?_
    intro u y3 ho3 hE3 hk3 hb3
    try simp only[go_sem]
    refine hK _ _ ?_;clear hK hgd;clear K;try clear gd
    refine go (an2 s hi1) ?_
    exact⟨rfl,sc (an2 s hi1),u,vr0,hE3 v2 ((hEx.trans hy).trans hE2) (Nat.le_refl _),by rw[zfG,show zcO F ((i+1:Nat):Int)=some e.2 by rw[←h1];exact hf];exact ho3⟩
  ·rintro σ x _ ⟨s,ev,h16,hEx,ho⟩
   have hd:decide (((9+1:Nat):Int)≤9)=false:=by decide
   refine go (an2 s hd) ?_
   exact⟨rfl,rfl,sc s,ev,(vq1 h16),hEx,ho⟩
 clear s
 rintro _ σ3 _ v3 ⟨rfl,rfl,s,ev,h16,hE3,ho⟩
 have hEv3:=hEX.trans hE3
 have c13:=zaa hEv3 c1
 refine go trivial ?_
 refine zaH (fun _=>false) [(0,true),(1,true),(2,true),(3,true),(4,true),(5,true),(6,true),(7,true),(8,true)] NoS mixed (by kernel_rfl) ?_;intro gd K x hgd hx hxe hK;have hx0:=zfp hxe;clear hxe
 have c1x:=zaa hx c13
 simp (disch:=first|omega|assumption|rfl) only[go_sem,s,h16,c1x,Nat.zero_add]
 refine hK _ _ ?_;clear hK hgd;clear K;try clear gd
 refine go trivial ?_
 refine zaC (.inr rfl) Tryz.ntmps35 rfl (zak (v:=ev) (vr0) (zak (v:=vi F.length) (vr0) (zak (v:=vi 0) (vr0) zav))) ?_
 exact⟨hEwv.trans (hEv3.trans hx),.inr ⟨by omega,ev,rfl,((ho.ext hx).to fun _ _ h=>h.ext (hEv3.trans hx)).rows⟩⟩
theorem zeU{o:Option Value}{v:Value}{w:World}{K:Value→World→Prop}{F:Prop}{m:Lck K F}(h:o=some v)(hK:K v w):optL o w K F m:=by
 subst h;rw[zgN];exact hK
def stZ:zaq:=⟨0,[],0,0,false,0⟩
def za4(N:NetL)(t:Int):List Int→List zaq→List (zaq×Bool)
 | [],_=>[]
 |c::cs,row=>if c<0 then [(stZ,false)] else match row[c.toNat]? with
  |some s=>(s,true)::za4 N t cs (zbD N s t)
  |Option.none=>[(stZ,false)]
def zdG(N:NetL)(q:Nm)(t:Int)(ch:List Int):zaq×Bool:=(za4 N t ch (za0 N q)).getLastD (stZ,false)
def encP(C:Nat→Prop)(n0 ws:Nat)(x:zaq×Bool)(U:Nat→Prop)(A:World)(args:Array Value):Prop:=∃nv,args=#[.agg (stV nv x.1).toArray,.bool x.2]∧RowY (fun b=>(C b∨(n0≤b∧b<ws))∨U b) A nv (x.1.name.map vs)
theorem zkc{N:NetL}{t c:Int}{cs:List Int}{row:List zaq}(h:c<0∨(row.length:Int)≤c):za4 N t (c::cs) row=[(stZ,false)]:=by
 unfold za4
 by_cases h0:c<0
 ·rw[if_pos h0]
 ·rw[if_neg h0,List.getElem?_eq_none (by omega)]
theorem zdF{N:NetL}{t:Int}{cs:List Int}{row:List zaq}{c:Nat}(h:c<row.length):za4 N t ((c:Int)::cs) row=(row[c],true)::za4 N t cs (zbD N row[c] t):=by
 conv=>lhs;unfold za4
 rw[if_neg (by omega),Int.toNat_natCast,List.getElem?_eq_getElem h]
theorem zkb{w0 w1 W0:World}{C:Nat→Prop}{bn bq bc bt:Nat}{cs:List Value}{N:NetL}{qv cv:Value}{q:Nm}{ch:List Int}{t:Int}(hE01:Ext w0 w1)(hE1:Ext w1 W0)
  (hbn:W0.heap[bn]? =some (.cells cs.toArray 25 (0,0))) (hbq:W0.heap[bq]? =some (.cells #[qv] 27 (0,0))) (hbc:W0.heap[bc]? =some (.cells #[cv] 23 (0,0))) (hbt:W0.heap[bt]? =some (.cells #[vi t] 3 (0,0)))
  (hC:∀b,C b→w1.heap.size≤b∧b<W0.heap.size) (hCb:¬C bn∧¬C bq∧¬C bc∧¬C bt) (hN:NetAt w0 cs N) (hG:zaV N) (hq:Row w1 qv (q.map vs)) (hgq:zbi q=true) (hcv:Row w1 cv (ch.map vi)) (hchl:ch.length≤1000000000):
  IterU Tryz.prog 146 #[.pointer (some ⟨bn,0,Option.none⟩),.pointer (some ⟨bq,0,Option.none⟩),.pointer (some ⟨bc,0,Option.none⟩),.pointer (some ⟨bt,0,Option.none⟩)] W0 W0.heap.size C 0 (fun pre x=>∃suf,za4 N t ch (za0 N q)=pre++x::suf) (fun xs=>xs=za4 N t ch (za0 N q)) (encP C W0.heap.size):=by
 intro lp J Jx W hW hnW hJ hJx hY h0
 have hn4:=hN.one
 have hnl:=(Array.getElem?_eq_some_iff.1 hbn).1
 have hql:=(Array.getElem?_eq_some_iff.1 hbq).1
 have hcl:=(Array.getElem?_eq_some_iff.1 hbc).1
 have htl:=(Array.getElem?_eq_some_iff.1 hbt).1
 have hs1:=hE1.size
 have hE1W:=hE1.trans hW
 obtain⟨F,hF⟩:∃F,za4 N t ch (za0 N q)=F:=⟨_,rfl⟩
 rw[hF]at hY ⊢
 have dn:=zah (n:=4) (Ext.at hW hbn) hn4.1.symm
 have dq:zae W (some ⟨bq,0,Option.none⟩)=some qv:=zab (i:=0) (Ext.at hW hbq) rfl
 have dc:zae W (some ⟨bc,0,Option.none⟩)=some cv:=zab (i:=0) (Ext.at hW hbc) rfl
 obtain⟨ac,cc,hcve,_⟩:=id hcv
 rw[List.length_map]at hcve
 refine enter Tryz.func146 Tryz.ntmps146 rfl rfl ?_
 refine go trivial ?_
 refine rc (an2 dn dq) (zhq (hE01.trans hE1W) hN hG.z.rl (hq.ext hE1W)) ?_
 rintro sv v1 ⟨hEs,hsb,_,rfl,hsr,hsn⟩
 refine rgo trivial ?_
 have dc1:=zaa hEs dc
 rw[hcve]at dc1
 refine go dc1 ?_
 obtain⟨S,hS⟩:∃S:Nat→Prop,S=fun b=>C b∨(W0.heap.size≤b∧b<W.heap.size):=⟨_,rfl⟩
 have hSw:∀b,S b→w1.heap.size≤b:=fun b hb=>by
  rw[hS]at hb
  rcases hb with hb|hb
  ·exact(hC b hb).1
  ·omega
 have hSW:∀b,S b→b<W.heap.size:=fun b hb=>by
  rw[hS]at hb
  rcases hb with hb|hb
  ·have:=(hC b hb).2;omega
  ·omega
 have hCS:∀b,C b→S b:=fun b hb=>by rw[hS];exact .inl hb
 have hSn:∀b,b<W0.heap.size→¬C b→¬S b:=fun b h1 h2 h3=>by
  rw[hS]at h3
  rcases h3 with h3|h3
  ·exact h2 h3
  ·omega
 have hKR:∀{A B:World} {U:Nat→Prop},KeepR W0.heap.size W.heap.size (fun b=>C b∨U b) A B→Keep (fun b=>S b∨U b) A B:=fun h=>⟨h.os,h.tape,h.output,h.size,fun b hb hs=>h.block b hb (by
  by_cases h1:b<W0.heap.size
  ·exact .inl h1
  ·by_cases h2:b<W.heap.size
   ·exact absurd (by rw[hS];exact .inl (.inr ⟨by omega,h2⟩)) hs
   ·exact .inr (by omega)) (fun hc=>hs (hc.imp (hCS b) id)),h.drawn⟩
 have hcy:RowY S W cv (ch.map vi):=RowY.old hcv hE1W hSw
 refine zho ch.length (fun i σ v=>(σ 14=vi i∧σ 13=vi ch.length∧σ 12= .slice ac ch.length cc∧σ 0= .func (.yield lp) #[] #[]∧σ 1= .pointer (some ⟨bn,0,Option.none⟩)∧σ 4= .pointer (some ⟨bt,0,Option.none⟩))∧
  ∃sv u L pre U,σ 6=sv∧Rows 6 (StN u) v sv L∧BlkB W.heap.size v sv∧(∀a n c,sv= .slice (some a) n c→¬U a.block)∧(∀b,U b→W.heap.size≤b∧b<v.heap.size)∧(∀s∈L,RowY (fun b=>S b∨U b) v u (s.name.map vs))∧(∀s∈L,GoodSt N s)∧J pre U v∧Keep S W v∧pre++za4 N t (ch.drop i) L=F) ?_ ?_ ?_
 ·exact⟨⟨vr0,vr0,vq0,vq0,vq0,vq0⟩,sv,_,za0 N q,[],NoS,vq0,hsr,hsb,fun _ _ _ _ h=>h,fun _ h=>h.elim,fun s hs=>(RowY.old hq (hE1W.trans hEs) fun b h=>h.elim (hSw b) (fun h=>h.elim)).alike (hsn s hs),zeL hG hgq,hJ _ _ _ _ h0 (hEs.mono fun _ _ h=>h.elim),hEs.mono fun _ _ h=>h.elim,hF⟩
 ·rintro i σ v hi q0 ⟨s,sv,u,L,pre,U,h6,hrows,hblk,hbu,hUw,hnm,hgds,hj,hk,hsuf⟩
  obtain⟨al,cl,rfl,_⟩:=hrows.open
  have hEv:Ext w1 v:=Keep.to_ext hE1W rfl hSw hk
  have hkz:=hk.size
  have hKB:KeepB W0.heap.size C W v:=⟨hk.os,hk.tape,hk.output,hk.size,fun b hb hc=>hk.block b (by omega) (hSn b hb hc),hk.drawn⟩
  have g:=(hcy.turn hk fun _ h=> .inl h).1
  rw[hcve]at g
  obtain⟨a',c',e',_,g⟩:=g
  rw[Value.slice.injEq]at e'
  obtain⟨rfl,_,rfl⟩:=e'
  replace g:=g i (by rw[List.length_map];exact hi)
  rw[List.getElem_map]at g
  obtain⟨c,hce⟩:∃c,ch[i]=c:=⟨_,rfl⟩
  have hdr:ch.drop i=c::ch.drop (i+1):=by rw[←hce];exact List.drop_eq_getElem_cons hi
  rw[hdr]at hsuf
  rw[hce]at g
  obtain⟨xa,rfl⟩:=Option.isSome_iff_exists.1 (zag g)
  refine go (an3 s q0 g) ?_
  by_cases hb:c<0∨(L.length:Int)≤c
  ·rw[zkc hb]at hsuf
   refine zaA (Q:=fun e σ' ds' v'=>e= .normal∧ds'=[]∧v'=v∧σ' 0= .func (.yield lp) #[] #[]∧σ' 25= .bool true) ?_ ?_
   ·by_cases hc0:c<0
    ·refine rgg [(2,20)] (an2 s (decide_eq_true hc0)) ?_
     exact⟨rfl,rfl,rfl,(vq1 s),vr0⟩
    ·have hd:decide (c≥(L.length:Int))=true:=decide_eq_true (hb.resolve_left hc0)
     refine rgg [(2,20)] (an4 s h6 (decide_eq_false hc0) hd) ?_
     exact⟨rfl,rfl,rfl,(vq1 s),vr0⟩
   rintro _ σ2 _ v2 ⟨rfl,rfl,rfl,s0,h25⟩
   refine go h25 ?_
   refine rq ?_;intro gd K hgd hK
   try simp (disch:=first|omega|assumption|rfl) only[go_sem,s0]
   refine⟨by kernel_rfl,?_⟩
   rw[show bdV Tryz.prog 80 []=some (.agg #[vi 0,.slice Option.none 0 0,vi 0,vi 0,.bool false,vi 0]) from by kernel_rfl]
   try simp (disch:=first|omega|assumption|rfl) only[go_sem,s0]
   refine Yld.mono (hY pre U (stZ,false) v2 _ ⟨_,hsuf.symm⟩ hj (by omega) hKB ⟨.slice Option.none 0 0,rfl,⟨Option.none,0,rfl,Nat.le_refl _,fun j h=>by simp[stZ]at h⟩,fun h=>absurd rfl h⟩) ?_
   rintro y z (⟨rfl,U',hjz,hU',hkr⟩| ⟨rfl,hjx⟩)
   ·try simp only[go_sem]
    refine hK _ _ ?_;clear hK hgd;clear K;try clear gd
    refine go trivial ?_
    exact zay (by simp) rfl (.inl ⟨_,_,rfl,by rw[←hsuf];exact hjz⟩)
   ·try simp only[go_sem]
    refine hK _ _ ?_;clear hK hgd;clear K;try clear gd
    refine go trivial ?_
    exact zay (by simp) rfl (.inr ⟨_,_,⟨_,hsuf.symm⟩,hjx⟩)
  ·obtain⟨k,rfl⟩:=Int.eq_ofNat_of_zero_le (show 0≤c by omega)
   have hkL:k<L.length:=by omega
   rw[zdF hkL]at hsuf
   have hc0:decide ((k:Int)<0)=false:=decide_eq_false (by omega)
   have hd:decide ((k:Int)≥(L.length:Int))=false:=decide_eq_false (by omega)
   refine rgg [(2,20)] (an4 s h6 hc0 hd) ?_
   refine go trivial ?_
   obtain⟨cs6,hcs,rfl,hone⟩:=hrows.get hkL
   obtain⟨X,hX⟩:∃X,L[k]=X:=⟨_,rfl⟩
   have hmX:X∈L:=by rw[←hX];exact List.getElem_mem hkL
   rw[hX]at hcs hsuf
   unfold stV at hcs
   have hk0:(0:Int)≤(k:Int):=by omega
   have hk1:(k:Int)<(L.length:Int):=by omega
   obtain⟨xl,rfl⟩:=Option.isSome_iff_exists.1 (zao hcs)
   refine rq ?_;intro gd K hgd hK
   try simp (disch:=first|omega|assumption|rfl) only[go_sem,s,h6,hcs,hk0,hk1]
   refine Yld.mono (hY pre U (X,true) v _ ⟨_,hsuf.symm⟩ hj (by omega) hKB ⟨u,rfl,by have:=hnm X hmX;rw[hS]at this;exact this⟩) ?_
   rintro y z (⟨rfl,U',hjz,hU',hkr⟩| ⟨rfl,hjx⟩)
   ·try simp only[go_sem]
    refine hK _ _ ?_;clear hK hgd;clear K;try clear gd
    have hkz2:=hKR hkr
    have hWz:Keep S W z:=⟨hkz2.os.trans hk.os,hkz2.tape.trans hk.tape,hkz2.output.trans hk.output,Nat.le_trans hk.size hkz2.size,fun b hb hs=>(hkz2.block b (by omega) fun h=>h.elim hs fun hu=>by have:=hUw b hu;omega).trans (hk.block b hb hs),Nat.le_trans hk.drawn hkz2.drawn⟩
    have hsS:∀b,(S b∨U' b)→(S b∨U b)∨v.heap.size≤b:=fun b h=>by
     rcases h with h|h
     ·exact .inl (.inl h)
     ·exact(hU' b h).imp .inr (fun h=>h.1)
    have hEz:Ext w1 z:=Keep.to_ext hE1W rfl hSw hWz
    have hsz:=hWz.size
    have hsz2:=hkz2.size
    have hrz:=hrows.blocks fun a n c e=>hkz2.block _ (hblk a n c e).2 (fun h=>h.elim (fun h=>by have:=hSW _ h;have:=(hblk a n c e).1;omega) (hbu a n c e))
    have hblz:=hblk.ext hsz2
    obtain⟨cs6,hcz,rfl,_⟩:=hrz.get hkL
    rw[hX]at hcz
    unfold stV at hcz
    have hnz:=(hnm X hmX).turn hkz2 hsS
    have dnz:=zah (n:=4) ((hWz.block _ (by omega) (hSn _ hnl hCb.1)).trans (Ext.at hW hbn)) hn4.1.symm
    have dtz:zae z (some ⟨bt,0,Option.none⟩)=some (vi t):=zab (i:=0) ((hWz.block _ (by omega) (hSn _ htl hCb.2.2.2)).trans (Ext.at hW hbt)) rfl
    refine go trivial ?_
    refine zaH (fun _=>false) [(0,true),(1,true),(2,true),(3,true),(4,true),(5,true),(6,false),(7,true)] NoS mixed (by kernel_rfl) ?_;intro gd K x hgd hx hxe hK;clear hxe
    have dnx:=zac hx dnz
    have dtx:=zaa hx dtz
    have dcx:=zac hx hcz
    simp (disch:=first|omega|assumption|rfl) only[go_sem,s,h6,dnx,dtx,dcx,hk0,hk1]
    refine Fn.mono (ziR (t:=t) (hE01.trans (hEz.trans hx)) hN hG.z (hnz.1.ext hx) ((hgds X hmX).b hG)) ?_
    rintro sv2 y ⟨hy,hsb2,u2,hok,hsr2,hsn2⟩
    refine⟨.inr hy,?_⟩
    simp (disch:=first|omega|assumption|rfl) only[go_sem]
    refine hK _ _ ?_;clear hK hgd;clear K;try clear gd
    have hxy:=hx.trans hy
    have hxs:=hx.size
    have hky:Keep (fun b=>S b∨U' b) z y:=hxy.mono fun _ _ h=>h.elim
    have hzy:=hxy.size
    have hUz:∀b,U' b→W.heap.size≤b∧b<z.heap.size:=fun b hb=>by
     rcases hU' b hb with h|h
     ·have:=hUw b h;omega
     ·omega
    refine go (an2 s q0) ?_
    refine⟨rfl,sc (an2 s q0),sv2,u2,zbD N X t,_,U',vr0,hsr2,hsb2.mono (by omega),fun a n c e hu=>by have:=(hsb2 a n c e).1;have:=hUz _ hu;omega,fun b hb=>by have:=hUz b hb;omega,fun s' hs'=>?_,fun s' hs'=>(zgV hG (hgds X hmX) hs').2.g,hJ _ _ _ _ hjz (hxy.mono fun _ _ h=>h.elim),hWz.trans (hxy.mono fun _ _ h=>h.elim),by rw[List.append_assoc];exact hsuf⟩
    rcases hok with rfl|hok| ⟨l,hl⟩
    ·exact(hnz.turn hky fun _ h=> .inl h).alike (hsn2 s' hs')
    ·refine⟨hsn2 s' hs',fun _ a n c e=>?_⟩
     obtain⟨k1,k2⟩:=hok a n c e
     exact⟨k2,fun hj=>hj.elim (fun hj=>by have:=hSW _ hj;omega) (fun hj=>by have:=hUz _ hj;omega)⟩
    ·exact(RowY.old hl ((hE01.trans hEz).trans hxy) fun j hj=>by
      have:=hE01.size
      have:=hE1W.size
      rcases hj with hj|hj
      ·have:=hSw j hj;omega
      ·have:=hUz j hj;omega).alike (hsn2 s' hs')
   ·try simp only[go_sem]
    refine hK _ _ ?_;clear hK hgd;clear K;try clear gd
    refine go trivial ?_
    exact zay (by simp) rfl (.inr ⟨_,_,⟨_,hsuf.symm⟩,hjx⟩)
 ·rintro σ v q0 ⟨s,sv,u,L,pre,U,h6,hrows,hblk,hbu,hUw,hnm,hgds,hj,hk,hsuf⟩
  refine go (an2 s q0) ?_
  rw[List.drop_length]at hsuf
  refine zay (by simp) rfl (.inl ⟨F,U,rfl,?_⟩)
  rw[←hsuf];simpa [za4] using hj
def Pl(N:NetL)(t:Int):List Int→List zaq→zaq→Prop
 | [],_,_=>False
 |c::cs,L,s=>∃k:Nat,c=(k:Int)∧∃x,L[k]? =some x∧((cs=[]∧s=x)∨Pl N t cs (zbD N x t) s)
theorem Pl.snoc{N:NetL}{t:Int}{s s':zaq}{k:Nat}(hk:(zbD N s t)[k]? =some s'):∀{ch:List Int} {L:List zaq},Pl N t ch L s→Pl N t (ch++ [(k:Int)]) L s'
 | [],_,h=>h.elim
 |c::cs,L,⟨j,hc,x,hx,h⟩=>by
  refine⟨j,hc,x,hx,.inr ?_⟩
  rcases h with ⟨rfl,rfl⟩|h
  ·exact⟨k,rfl,s',hk,.inl ⟨rfl,rfl⟩⟩
  ·exact Pl.snoc hk h
theorem Pl.play{N:NetL}{t:Int}{s:zaq}:∀{ch:List Int} {L:List zaq} {d:zaq×Bool},Pl N t ch L s→(za4 N t ch L).getLastD d=(s,true)
 | [],_,_,h=>h.elim
 |c::cs,L,d,⟨j,hc,x,hx,h⟩=>by
  subst hc
  obtain⟨hj,rfl⟩:=List.getElem?_eq_some_iff.1 hx
  rw[zdF hj,List.getLastD_cons]
  rcases h with ⟨rfl,rfl⟩|h
  ·rfl
  ·exact Pl.play h
theorem Pl.ne{N:NetL}{t:Int}{s:zaq}{ch:List Int}{L:List zaq}(h:Pl N t ch L s):ch≠ []:=fun e=>by subst e;exact h
theorem zfv(row:List MetL)(x:MetL):(putL row x=row∧∃y∈row,keyS y.1=keyS x.1)∨putL row x=row++ [x]:=by
 unfold putL
 split
 ·rename_i h
  obtain⟨y,hy,e⟩:=List.any_eq_true.1 h
  exact .inl ⟨rfl,y,hy,of_decide_eq_true e⟩
 ·exact .inr rfl
theorem zdL{p:List Int}:∀(L:List zaq) (k:Nat) (row:List MetL),∃E,zbb p k row L=row++E∧∀y∈E,∃j:Nat,L[j]? =some y.1∧y.2=p++ [((k+j:Nat):Int)]
 | [],k,row=>⟨[],by simp[zbb],fun y h=>by cases h⟩
 |s::L,k,row=>by
  obtain⟨E,h1,h2⟩:=zdL (p:=p) L (k+1) (putL row (s,p++ [(k:Int)]))
  have h3:∀y∈E,∃j:Nat,(s::L)[j]? =some y.1∧y.2=p++ [((k+j:Nat):Int)]:=fun y hy=>by
   obtain⟨j,e1,e2⟩:=h2 y hy
   exact⟨j+1,e1,by rw[e2,Nat.add_assoc,Nat.add_comm 1 j]⟩
  rcases zfv row (s,p++ [(k:Int)]) with ⟨e,_⟩|e
  ·rw[e]at h1
   refine⟨E,?_,h3⟩
   show zbb p (k+1) (putL row (s,p++ [(k:Int)])) L=_
   rw[e];exact h1
  ·refine⟨(s,p++ [(k:Int)])::E,?_,fun y hy=>?_⟩
   ·show zbb p (k+1) (putL row (s,p++ [(k:Int)])) L=_
    rw[h1,e,List.append_assoc];rfl
   ·rcases List.mem_cons.1 hy with rfl|hy
    ·exact⟨0,rfl,rfl⟩
    ·exact h3 y hy
theorem zeX{p:List Int}:∀{L:List zaq} {k:Nat} {row:List MetL} {s:zaq},s∈L→∃y∈zbb p k row L,keyS y.1=keyS s
 |a::L,k,row,s,h=>by
  rcases List.mem_cons.1 h with rfl|h
  ·obtain⟨E,h1,_⟩:=zdL (p:=p) L (k+1) (putL row (s,p++ [(k:Int)]))
   show∃y∈zbb p (k+1) (putL row (s,p++ [(k:Int)])) L,_
   rw[h1]
   rcases zfv row (s,p++ [(k:Int)]) with ⟨e,y,hy,hk⟩|e
   ·exact⟨y,by rw[e];exact List.mem_append_left _ hy,hk⟩
   ·exact⟨(s,p++ [(k:Int)]),by rw[e];simp,rfl⟩
  ·exact zeX (L:=L) h
structure Bfs(N:NetL)(t:Int)(q:Nm)(i:Nat)(row:List MetL):Prop where
 mono:∀{a b:Nat} {x y:MetL},a≤b→row[a]? =some x→row[b]? =some y→x.2.length≤y.2.length
 near:∀{x:MetL},row[i]? =some x→∀y∈row,y.2.length≤x.2.length+1
 shut:∀{j:Nat} {x:MetL},j<i→row[j]? =some x→∀s∈zbD N x.1 t,∃y∈row,keyS y.1=keyS s∧y.2.length≤x.2.length+1
 start:∀s∈za0 N q,∃y∈row,keyS y.1=keyS s∧y.2.length≤1
 pl:∀y∈row,Pl N t y.2 (za0 N q) y.1
theorem bfs_zero{N:NetL}{t:Int}{q:Nm}:Bfs N t q 0 (zbb [] 0 [] (za0 N q)):=by
 obtain⟨E,h1,h2⟩:=zdL (p:=[]) (za0 N q) 0 []
 have hs:∀s∈za0 N q,∃y∈zbb [] 0 [] (za0 N q),keyS y.1=keyS s:=fun s hs=>zeX hs
 rw[h1,List.nil_append]at hs ⊢
 have hl:∀y∈E,y.2.length=1:=fun y hy=>by obtain⟨j,_,e⟩:=h2 y hy;rw[e];rfl
 refine⟨fun {a b x y} hab hx hy=>?_,fun {x} hx y hy=>?_,fun {j x} hj=>absurd hj (by omega),fun s h=>?_,fun y hy=>?_⟩
 ·rw[hl x (List.mem_of_getElem? hx),hl y (List.mem_of_getElem? hy)];omega
 ·rw[hl y hy];omega
 ·obtain⟨y,hy,hk⟩:=hs s h
  exact⟨y,hy,hk,by rw[hl y hy];omega⟩
 ·obtain⟨j,e1,e2⟩:=h2 y hy
  rw[e2]
  exact⟨j,by rw[Nat.zero_add],y.1,e1,.inl ⟨rfl,rfl⟩⟩
theorem Bfs.step{N:NetL}{t:Int}{q:Nm}{i:Nat}{row:List MetL}{x:MetL}(h:Bfs N t q i row)(hx:row[i]? =some x):Bfs N t q (i+1) (zbb x.2 0 row (zbD N x.1 t)):=by
 obtain⟨E,h1,h2⟩:=zdL (p:=x.2) (zbD N x.1 t) 0 row
 have hs:∀s∈zbD N x.1 t,∃y∈zbb x.2 0 row (zbD N x.1 t),keyS y.1=keyS s:=fun s hs=>zeX hs
 rw[h1]at hs ⊢
 have hl:∀y∈E,y.2.length=x.2.length+1:=fun y hy=>by obtain⟨j,_,e⟩:=h2 y hy;rw[e];simp
 have hi:=(List.getElem?_eq_some_iff.1 hx).1
 have hm:=List.mem_of_getElem? hx
 have hn:=h.near hx
 have all:∀y∈row++E,y.2.length≤x.2.length+1:=fun y hy=>by
  rcases List.mem_append.1 hy with hy|hy
  ·exact hn y hy
  ·rw[hl y hy];omega
 have right:∀{b:Nat} {y:MetL},row.length≤b→(row++E)[b]? =some y→y∈E:=fun {b y} hb hy=>by
  rw[List.getElem?_append_right hb]at hy;exact List.mem_of_getElem? hy
 refine⟨fun {a b u v} hab hu hv=>?_,fun {z} hz y hy=>?_,fun {j u} hj hu s h0=>?_,fun s h0=>?_,fun y hy=>?_⟩
 ·by_cases hb:b<row.length
  ·rw[List.getElem?_append_left (by omega)]at hu
   rw[List.getElem?_append_left hb]at hv
   exact h.mono hab hu hv
  ·rw[hl v (right (by omega) hv)]
   exact all u (List.mem_of_getElem? hu)
 ·have:=all y hy
  by_cases hb:i+1<row.length
  ·rw[List.getElem?_append_left hb]at hz
   have:=h.mono (by omega) hx hz
   omega
  ·have:=hl z (right (by omega) hz)
   omega
 ·by_cases hb:j<i
  ·rw[List.getElem?_append_left (by omega)]at hu
   obtain⟨y,hy,hk⟩:=h.shut hb hu s h0
   exact⟨y,List.mem_append_left _ hy,hk⟩
  ·have e:j=i:=by omega
   subst e
   rw[List.getElem?_append_left hi,hx]at hu
   obtain rfl:=Option.some.inj hu
   obtain⟨y,hy,hk⟩:=hs s h0
   exact⟨y,hy,hk,all y hy⟩
 ·obtain⟨y,hy,hk⟩:=h.start s h0
  exact⟨y,List.mem_append_left _ hy,hk⟩
 ·rcases List.mem_append.1 hy with hy|hy
  ·exact h.pl y hy
  ·obtain⟨j,e1,e2⟩:=h2 y hy
   rw[e2,Nat.zero_add]
   exact(h.pl x hm).snoc e1
theorem ziC{N:NetL}{t:Int}{q:Nm}:∀{f i:Nat} {row:List MetL},Bfs N t q i row→(zdp N t f i row).length≤4096→4097≤f+i→∃j,(zdp N t f i row).length≤j∧Bfs N t q j (zdp N t f i row)
 |0,i,row,h,hl,hf=>⟨i,by have:zdp N t 0 i row=row:=rfl;rw[this]at hl ⊢;omega,h⟩
 |f+1,i,row,h,hl,hf=>by
  unfold zdp at hl ⊢
  cases hx:row[i]? with
  |none=>
   rw[hx]at hl
   exact⟨i,List.getElem?_eq_none_iff.1 hx,h⟩
  |some x=>
   rw[hx]at hl
   dsimp only at hl ⊢
   by_cases hc:row.length≤4096
   ·rw[if_pos hc]at hl ⊢
    exact ziC (h.step hx) hl (by omega)
   ·rw[if_neg hc]at hl
    exact absurd hl hc
structure Shut(N:NetL)(t:Int)(q:Nm)(row:List MetL):Prop where
 mono:∀{a b:Nat} {x y:MetL},a≤b→row[a]? =some x→row[b]? =some y→x.2.length≤y.2.length
 shut:∀x∈row,∀s∈zbD N x.1 t,∃y∈row,keyS y.1=keyS s∧y.2.length≤x.2.length+1
 start:∀s∈za0 N q,∃y∈row,keyS y.1=keyS s∧y.2.length≤1
 pl:∀y∈row,Pl N t y.2 (za0 N q) y.1
 g:∀y∈row,GoodSt N y.1
 p:∀y∈row,y.2.length≤4098
theorem zkM{N:NetL}{t:Int}{q:Nm}(hN:zaV N)(hq:zbi q=true)(h:(zdf N q t).length≤4096):Shut N t q (zdf N q t):=by
 obtain⟨j,hj,hb⟩:=ziC bfs_zero h (by omega)
 have hg:RowG N 1 (zbb [] 0 [] (za0 N q)):=RowG.meet (i:=1) ⟨fun y hy=>(by cases hy),fun y hy=>(by cases hy)⟩ (by simp) (zeL hN hq)
 have hg2:RowG N (0+4097+1) (zdp N t 4097 0 (zbb [] 0 [] (za0 N q))):=expl_g (f:=4097) hN hg
 refine⟨hb.mono,fun x hx=>?_,hb.start,hb.pl,hg2.g,hg2.p⟩
 obtain⟨k,hk,rfl⟩:=List.mem_iff_getElem.1 hx
 exact hb.shut (by have:k<(zdf N q t).length:=hk;have:(zdf N q t).length≤j:=hj;omega) (List.getElem?_eq_getElem hk)
theorem in_ends{row:List MetL}{k:Int}{p:List Int}(h:(k,p)∈zha row):∃x∈row,zcO row k=some x∧x.1.fin=k∧x.2=p∧k≠0:=by
 unfold zha zhc at h
 obtain⟨j,_,h⟩:=List.mem_filterMap.1 h
 obtain⟨x,hx,e⟩:=Option.map_eq_some_iff.1 h
 simp only[Prod.mk.injEq]at e
 obtain⟨rfl,rfl⟩:=e
 have h1:=List.find?_some hx
 exact⟨x,List.mem_of_find?_eq_some hx,hx,of_decide_eq_true h1,rfl,by omega⟩
theorem zkQ(row:List MetL):(zha row).length≤9:=zhb row 9
theorem zjx(w:World)(A B C D:Obj):Ext w ((((w.alloc A).alloc B).alloc C).alloc D)∧((((w.alloc A).alloc B).alloc C).alloc D).heap.size=w.heap.size+4∧((((w.alloc A).alloc B).alloc C).alloc D).heap[w.heap.size]? =some A∧
  ((((w.alloc A).alloc B).alloc C).alloc D).heap[w.heap.size+1]? =some B∧((((w.alloc A).alloc B).alloc C).alloc D).heap[w.heap.size+2]? =some C∧((((w.alloc A).alloc B).alloc C).alloc D).heap[w.heap.size+3]? =some D:=by
 obtain⟨h1,h2,h3,h4,h5⟩:=zdt w A B C
 have hE:=Ext.alloc (((w.alloc A).alloc B).alloc C) D
 have hD:=zas (((w.alloc A).alloc B).alloc C) D
 rw[h2]at hD
 exact⟨h1.trans hE,by rw[zai,h2],Ext.at hE h3,Ext.at hE h4,Ext.at hE h5,hD⟩
theorem ziP(w:World){nv qv tv cv:Value}:Fn Tryz.prog 91 #[nv,qv,tv,cv] w (fun v w'=>v= .func (.func 146) #[] #[.pointer (some ⟨w.heap.size,0,Option.none⟩),.pointer (some ⟨w.heap.size+1,0,Option.none⟩),.pointer (some ⟨w.heap.size+3,0,Option.none⟩),.pointer (some ⟨w.heap.size+2,0,Option.none⟩)]∧Ext w w'∧w'.heap.size=w.heap.size+4∧
  w'.heap[w.heap.size]? =some (.cells nv.cells 25 (0,0))∧w'.heap[w.heap.size+1]? =some (.cells qv.cells 27 (0,0))∧w'.heap[w.heap.size+2]? =some (.cells tv.cells 3 (0,0))∧w'.heap[w.heap.size+3]? =some (.cells cv.cells 23 (0,0))):=by
 refine enter Tryz.func91 Tryz.ntmps91 rfl rfl ?_
 refine go trivial ?_
 obtain⟨hE,hs,hA,hB,hC,hD⟩:=zjx w (.cells nv.cells 25 (0,0)) (.cells qv.cells 27 (0,0)) (.cells tv.cells 3 (0,0)) (.cells cv.cells 23 (0,0))
 refine rt0 Tryz.ntmps91 ?_
 exact⟨by simp only[zai],hE,hs,hA,hB,hC,hD⟩
theorem Play_ok{w0 w:World}(hE0:Ext w0 w){cs:List Value}{N:NetL}{qv cv:Value}{q:Nm}{ch:List Int}{t:Int}(hN:NetAt w0 cs N)(hG:zaV N)(hq:Row w qv (q.map vs))(hgq:zbi q=true)(hcv:Row w cv (ch.map vi))(hchl:ch.length≤1000000000):
  Fn Tryz.prog 40 #[.agg cs.toArray,qv,vi t,cv] w (fun v w'=>Ext w w'∧∃nv,v= .tuple #[.agg (stV nv (zdG N q t ch).1).toArray,.bool (zdG N q t ch).2]∧Row w' nv ((zdG N q t ch).1.name.map vs)):=by
 obtain⟨hsv,rv,rfl,hh,hr⟩:=id hN.ex
 obtain⟨ah,ch0,hhv,_⟩:=hh.open
 obtain⟨ar0,cr0,hrv,_⟩:=id hr
 obtain⟨aq,cq,hqe,_⟩:=id hq
 obtain⟨ac,cc,hce,_⟩:=id hcv
 refine enter Tryz.func40 Tryz.ntmps40 rfl rfl ?_
 rw[hhv,hrv]
 refine go trivial ?_
 rw[zai,zai,zai]
 refine zcz ?_
 rw[←hhv,←hrv]
 intro w1 hE1 hs1 hA hB hC
 obtain⟨b,hb⟩:∃b,w.heap.size=b:=⟨_,rfl⟩
 rw[hb]at hA hB hC hs1 ⊢
 rw[show b+1+1=b+2 from rfl]at hC ⊢
 refine rq ?_;intro gd K hgd hK
 try simp only[go_sem]
 rw[hs1]
 refine zjQ ?_
 intro z hEz hsz hD
 rw[hs1]at hD
 refine zcB rfl rfl rfl hD (by simp) (by simp) ?_
 intro w2 hs2 hD2 hk2
 try simp only[go_sem]
 refine hK _ _ ?_;clear hK hgd;clear K;try clear gd
 have hE2:Ext w1 w2:=Keep.to_ext hEz rfl (fun i hi=>by omega) hk2
 have hA2:=Ext.at hE2 hA
 have hB2:=Ext.at hE2 hB
 have hC2:=Ext.at hE2 hC
 have hz2:=(Array.getElem?_eq_some_iff.1 hD2).1
 have dn:zal w2 (some ⟨b,0,Option.none⟩) 4=some [hsv,rv,vi N.rw,vi N.rf]:=zah hA2 rfl
 have hEw2:=hE1.trans hE2
 clear hEz hsz hD hs2 hk2 hA hB hC
 refine go trivial ?_
 refine rc dn (ziP w2) ?_
 rintro _ w3 ⟨rfl,hE3,hs3,k1,k2,k3,k4⟩
 refine rgo trivial ?_
 have k2':w3.heap[w2.heap.size+1]? =some (.cells #[qv] 27 (0,0)):=by rw[k2,hqe];rfl
 have k4':w3.heap[w2.heap.size+3]? =some (.cells #[cv] 23 (0,0)):=by rw[k4,hce];rfl
 have hB3:=Ext.at hE3 hB2
 have hC3:=Ext.at hE3 hC2
 have hD3:=Ext.at hE3 hD2
 have hEw3:=hEw2.trans hE3
 obtain⟨S,hS⟩:∃S:Nat→Prop,S=fun i=>(i=b+1∨i=b+2∨i=b+3)∨(w3.heap.size≤i∧i<w3.heap.size+2):=⟨_,rfl⟩
 refine zdS (own:=0) (n0:=w3.heap.size) (C:=fun i=>i=b+1∨i=b+2∨i=b+3) (W0:=w3) (vq0) (by rfl)
  (zkb (w0:=w0) (w1:=w) (t:=t) (ch:=ch) (q:=q) hE0 hEw3 k1 k2' k4' k3 (fun i hi=>by omega) (by omega) hN hG hq hgq hcv hchl) (Keep.refl _ _) (Nat.le_refl _) (fun i hi=>by omega)
  (fun x U A args h=>by obtain⟨nv,rfl,_⟩:=h;rfl)
  (fun pre U v=>(∀i,¬U i)∧∃nv,v.heap[b+1]? =some (.cells (stV (.slice Option.none 0 0) stZ).toArray 80 (0,0))∧v.heap[b+2]? =some (.cells (stV nv (pre.getLastD (stZ,false)).1).toArray 80 (0,0))∧v.heap[b+3]? =some (.cells #[.bool (pre.getLastD (stZ,false)).2] 4 (0,0))∧RowY S v nv ((pre.getLastD (stZ,false)).1.name.map vs)∧Ext w v)
  (fun _ _ _=>False) ?_ ?_ ?_ ?_ ?_ ?_
 ·rintro pre U A B ⟨hU,nv,h1,h2,h3,h4,h5⟩ _ hk
  have l1:=(Array.getElem?_eq_some_iff.1 h3).1
  have hno:∀i,i<w3.heap.size→¬span w3.heap.size (2+0) i:=fun i h1 h2=>by unfold span at h2;omega
  refine⟨hU,nv,(hk.block _ (by omega) (hno _ (by omega))).trans h1,(hk.block _ (by omega) (hno _ (by omega))).trans h2,(hk.block _ (by omega) (hno _ (by omega))).trans h3,h4.turn (hk.mono fun i _ h=>by rw[hS];unfold span at h;exact .inr (by omega)) fun _ h=> .inl h,Keep.to_ext h5 rfl (fun i hi=>by unfold span at hi;omega) hk⟩
 ·rintro c pre A B h _
  exact h
 ·exact⟨fun _ h=>h,.slice Option.none 0 0,hB3,hC3,hD3,⟨⟨Option.none,0,rfl,Nat.le_refl _,fun j h=>by simp[stZ]at h⟩,fun h=>absurd rfl h⟩,hEw3⟩
 ·rintro lp pre U x A args ⟨suf,hsp⟩ hszA ⟨hU,nv,h1,h2,h3,h4,h5⟩ _ ⟨xv,rfl,hx⟩
  have hxS:RowY S A xv (x.1.name.map vs):=hx.turn (Keep.refl _ _) fun i h=>by rw[hS]at h;exact .inl (.inl h)
  have hl:(pre++ [x]).getLastD (stZ,false)=x:=by rw[List.getLastD_eq_getLast?];simp
  have l3:=(Array.getElem?_eq_some_iff.1 h3).1
  refine go trivial ?_
  refine rq ?_;intro gd K hgd hK
  try simp only[go_sem]
  refine zaK (P:=Tryz.prog) (l:=stV xv x.1) h2 rfl (zcJ hx.1.isOne) rfl rfl ?_
  intro A1 hs1 hA1 hk1
  try simp only[go_sem]
  refine hK _ _ ?_;clear hK hgd;clear K;try clear gd
  refine go trivial ?_
  refine rq ?_;intro gd K hgd hK
  try simp only[go_sem]
  refine zcB rfl rfl rfl ((hk1.block _ (by omega) (by omega)).trans h3) (by simp) (by simp) ?_
  intro A2 hs2 hA2 hk2
  try simp only[go_sem]
  refine hK _ _ ?_;clear hK hgd;clear K;try clear gd
  have hk12:Keep (fun i=>i=b+2∨i=b+3) A A2:=(hk1.mono fun i _ h=> .inl h).trans (hk2.mono fun i _ h=> .inr h)
  refine⟨rfl,hk12.mono fun i _ h=> .inl (.inr h),fun A3 hk3=>?_⟩
  have hno:∀i,i<w3.heap.size→¬two w3.heap.size i:=fun i h1 h2=>by unfold two at h2;omega
  refine go trivial ?_
  have hz2:=hk12.size
  refine⟨U,⟨hU,xv,?_,?_,?_,?_,?_⟩,fun i h=> .inl h,Keep.refl _ _⟩
  ·exact(hk3.block _ (by omega) (hno _ (by omega))).trans ((hk12.block _ (by omega) (by omega)).trans h1)
  ·rw[hl];exact(hk3.block _ (by omega) (hno _ (by omega))).trans ((hk2.block _ (by omega) (by omega)).trans hA1)
  ·rw[hl];exact(hk3.block _ (by omega) (hno _ (by omega))).trans hA2
  ·rw[hl];exact(hxS.turn (hk12.mono fun i _ h=>by rw[hS];exact .inl (.inr h)) fun _ h=> .inl h).turn (hk3.mono fun i _ h=>by rw[hS];unfold two at h;exact .inr (by omega)) fun _ h=> .inl h
  ·exact Keep.to_ext (Keep.to_ext h5 rfl (fun i hi=>by omega) hk12) rfl (fun i hi=>by unfold two at hi;omega) hk3
 ·rintro xs U v rfl hsz _ ⟨hU,nv,h1,h2,h3,h4,h5⟩ hDv
  have hp:(za4 N t ch (za0 N q)).getLastD (stZ,false)=zdG N q t ch:=rfl
  rw[hp]at h2 h3 h4
  obtain⟨L,hL⟩:∃L,zdG N q t ch=L:=⟨_,rfl⟩
  rw[hL]at h2 h3 h4 ⊢
  have d2:zal v (some ⟨b+2,0,Option.none⟩) 6=some [vi L.1.sv,nv,vi L.1.rw,vi L.1.rf,.bool L.1.ref,vi L.1.fin]:=zah (l:=stV nv L.1) h2 rfl
  have d3:zae v (some ⟨b+3,0,Option.none⟩)=some (.bool L.2):=zab (i:=0) h3 rfl
  have l3:=(Array.getElem?_eq_some_iff.1 h3).1
  refine go trivial ?_
  refine zaH (fun _=>false) [(0,true),(1,true),(2,false),(3,true)] ((fun i=>i=b+1)) mixed (by kernel_rfl) ?_;intro gd K x hgd hx hxe hK;have hx0:=zfp hxe;clear hxe
  have d2x:=zac hx0 d2
  have d3x:=zaa hx0 d3
  simp (disch:=first|omega|assumption|rfl) only[go_sem,d2x,d3x]
  refine⟨fun a ha hb=>by cases ha;dsimp only at hb;omega,fun a ha hb=>by cases ha;dsimp only at hb;omega,?_⟩
  refine zaK (P:=Tryz.prog) (l:=stV nv L.1) (Ext.at hx0 h1) rfl (zcJ h4.1.isOne) rfl rfl ?_
  intro y hsy hB8 hky
  refine⟨.inr (hky.mono fun i _ h=>h),?_⟩
  simp (disch:=first|omega|assumption|rfl) only[go_sem]
  refine hK _ _ ?_;clear hK hgd;clear K;try clear gd
  refine go trivial ?_
  have hxs:=hx0.size
  have hys:=hky.size
  refine zba (.inr rfl) Tryz.ntmps40 rfl ((hky.block _ (by omega) (by omega)).trans (Ext.at hx0 hDv)) ?_
  intro y2 hk2 hs2
  have hB9:=(hk2.block _ (by omega) (by omega)).trans hB8
  have hkxy:Keep (fun i=>i=b+1∨i=w3.heap.size) x y2:=(hky.mono fun i _ h=> .inl h).trans (hk2.mono fun i _ h=> .inr h)
  have hrow:Row y2 nv (L.1.name.map vs):=by
   by_cases hl:L.1.name=[]
   ·have h6:=h4.1
    rw[hl]at h6 ⊢
    obtain⟨a1,c1,e1,e2,_⟩:=h6
    exact⟨a1,c1,e1,e2,fun j hj=>absurd hj (by simp)⟩
   ·refine h4.1.blocks fun a n c e=>?_
    obtain⟨k1,k2⟩:=h4.2 (fun h=>hl (by simpa using h)) a n c e
    exact(hk2.block _ (by omega) (fun h=>k2 (by rw[hS];exact .inr (by omega)))).trans ((hky.block _ (by omega) (fun h=>k2 (by rw[hS];exact .inl (.inl h)))).trans (hx0.block _ k1 (fun h=>h)))
  exact⟨_,zaX (x:=⟨b+1,0,Option.none⟩) (k:=6) (vr0) rfl rfl (zah (l:=stV nv L.1) hB9 rfl) (zak (v:= .bool L.2) (vr0) zav),Keep.to_ext (h5.trans hx0) rfl (fun i hi=>by have:=hEw3.size;omega) hkxy,nv,rfl,hrow⟩
 ·rintro c pre x v _ _ h
  exact h.elim
theorem zjC(w:World){cs:List Value}{N:NetL}(hN:NetAt w cs N)(hv:NumN N):
  Fn Tryz.prog 34 #[.agg cs.toArray] w (fun v w'=>Ext w w'∧∃t,v= .bool t∧(t=true→zaV N)):=by
 have hN0:=hN
 obtain⟨hsv,rv,rfl,hh,hr⟩:=hN.ex
 obtain⟨ah,ch,hhv,_⟩:=hh.open
 obtain⟨ar0,cr0,hrv,_⟩:=id hr
 refine enter Tryz.func34 Tryz.ntmps34 rfl rfl ?_
 rw[hhv,hrv]
 refine go trivial ?_
 rw[←hhv,←hrv]
 refine zaB ?_
 intro w1 hE1 hs1 hA
 have dA:=zah (n:=4) (l:=[hsv,rv,vi N.rw,vi N.rf]) hA rfl
 have n0:zae w1 (some ⟨w.heap.size,0,Option.none⟩)=some (.slice ah N.hosts.length ch):=by rw[←hhv];exact zab hA rfl
 have n2:zae w1 (some ⟨w.heap.size,2,Option.none⟩)=some (vi N.rw):=zab hA rfl
 have n3:zae w1 (some ⟨w.heap.size,3,Option.none⟩)=some (vi N.rf):=zab hA rfl
 obtain⟨x1,k1⟩:∃x,decide ((N.hosts.length:Int)≤5)=x:=⟨_,rfl⟩
 obtain⟨x2,k2⟩:∃x,decide (N.rw≤3)=x:=⟨_,rfl⟩
 obtain⟨x3,k3⟩:∃x,decide (N.rf≤4)=x:=⟨_,rfl⟩
 refine rcg [(2,5),(8,11),(13,16)] dA (zhw w1 (hN0.ext hE1) hv) ?_
 rintro _ w2 ⟨hE2,t,rfl,hg⟩
 have m0:=zaa hE2 n0
 have m2:=zaa hE2 n2
 have m3:=zaa hE2 n3
 cases t
 ·refine reg [(2,5),(8,11),(13,16)] trivial ?_
  refine go trivial ?_
  refine rt0 Tryz.ntmps34 ?_
  exact⟨hE1.trans hE2,false,rfl,hg⟩
 cases x1
 ·refine reg [(2,5),(8,11),(13,16)] (an3 m0 k1 Nat.add_zero) ?_
  refine go trivial ?_
  refine rt0 Tryz.ntmps34 ?_
  exact⟨hE1.trans hE2,false,rfl,fun h=>by cases h⟩
 cases x2
 ·refine reg [(2,5),(8,11),(13,16)] (an6 m0 k1 Nat.add_zero m2 k2 Nat.zero_add) ?_
  refine go trivial ?_
  refine rt0 Tryz.ntmps34 ?_
  exact⟨hE1.trans hE2,false,rfl,fun h=>by cases h⟩
 cases x3
 ·refine reg [(2,5),(8,11),(13,16)] (an8 m0 k1 Nat.add_zero m2 k2 Nat.zero_add m3 k3) ?_
  refine go trivial ?_
  refine rt0 Tryz.ntmps34 ?_
  exact⟨hE1.trans hE2,false,rfl,fun h=>by cases h⟩
 ·refine reg [(2,5),(8,11),(13,16)] (an8 m0 k1 Nat.add_zero m2 k2 Nat.zero_add m3 k3) ?_
  refine go trivial ?_
  refine rt0 Tryz.ntmps34 ?_
  exact⟨hE1.trans hE2,true,rfl,hg⟩
section
variable {names : List Nm} (hcl : ∀ l f, l :: f ∈ names → f ∈ names) (hnd : names.Nodup)
include hcl
include hnd
end
structure FLab where
 val:Lab
 fold:za2 val=val
 len:val.length≤9000000000000000000
instance:Inhabited FLab:=⟨⟨[],rfl,by decide⟩⟩
section
variable {H : Type} {enc : TypeId × Value → H} {P : Program} {w : World} {base : Nat} {sp : Nat → Bool} {held : Bool}
def RdC(enc:TypeId×Value→H)(P:Program)(w:World)(base:Nat)(sp:Nat→Bool)(held:Bool)(t:TypeId)(cs:List Value):Prop:=∃n x,DataW.trod enc P w base sp held n t cs=some x∧∀k∈x.1.weights P t,k≤reachBytes
theorem RdC.one{t:TypeId}{v:Value}(h:RdC enc P w base sp held t [v]):Rd enc P w base sp held t v:=h
theorem Rd.c{t:TypeId}{v:Value}(h:Rd enc P w base sp held t v):RdC enc P w base sp held t [v]:=h
theorem zhl{a:Addr}:∀(k i:Nat) {l:List Value},l.length=k→(∀j (h:j<l.length),w.cell? (a.add (i+j))=some l[j])→zaL w a i k=some l
 |0,_,l,hl,_=>by
  have:l=[]:=List.length_eq_zero_iff.1 hl
  subst this;rfl
 |k+1,i,l,hl,h=>by
  cases l with
  |nil=>cases hl
  |cons v l=>
   have h0:=h 0 (by simp)
   have ih:=zhl (l:=l) k (i+1) (by simpa using hl) (fun j hj=>by
    have:=h (j+1) (by simpa using hj)
    rw[show i+(j+1)=i+1+j from by omega]at this
    simpa using this)
   unfold zaL
   rw[Nat.add_zero]at h0
   rw[h0,ih];rfl
theorem zeQ{t e:TypeId}{k:Nat}{v:Value}(h:Rd enc P w base sp held t v)(ht:P.underlying t=some (.slice e))(hc:P.cellsOf e=k):
  ∃L,RowK k w v L∧(∀cs∈L,RdC enc P w base sp held e cs)∧L.length*P.bytesOf e≤reachBytes:=by
 obtain⟨n,x,h,hw⟩:=h
 rcases Go.Deep.open_slice ht h with ⟨h1,_⟩| ⟨a,len,cap,m,q,D,Pl,h1,_,hl,hm,hmm,rfl,hx⟩
 ·simp only[List.cons.injEq,and_true]at h1
  subst h1
  exact⟨[],⟨Option.none,0,rfl,Nat.le_refl _,fun j h=>by simp at h⟩,fun u h=>(by cases h),by simp⟩
 ·simp only[List.cons.injEq,and_true]at h1
  subst h1
  have hml:len≤m:=by rw[hmm];split<;>omega
  simp only[DataW.weights,ht]at hw
  rw[hc]at hx
  obtain⟨V,hV⟩:=Go.Deep.choose_lt (α:=List Value) (p:=fun i cs=>w.cells? base (a.add (i*k)) k=some cs∧DataW.trod enc P w base sp held q e cs=some (D i,Pl i)) hx
  refine⟨(List.range len).map V,⟨some a,cap,by simp,by simpa using hl,fun j hj=>?_⟩,fun u hu=>?_,?_⟩
  ·simp at hj
   obtain⟨_,h2,h3⟩:=World.cells?_some (hV j (by omega)).1
   have e1:((List.range len).map V)[j]'(by simpa using hj)=V j:=by simp
   rw[e1]
   show zaL w (a.add (j*k)) 0 k=_
   refine zhl k 0 h2 (fun i hi=>?_)
   rw[Nat.zero_add,h3 i (by omega)]
   exact List.getElem?_eq_getElem hi
  ·obtain⟨j,hj,rfl⟩:=List.mem_map.1 hu
   simp at hj
   refine⟨_,_,(hV j (by omega)).2,fun q hq=>hw q (List.mem_cons_of_mem _ (List.mem_append_left _ (zcn (d:=D j) ?_ hq)))⟩
   exact List.mem_map.2 ⟨j,by simpa using hj,rfl⟩
  ·have h1:=hw _ (List.mem_cons_self ..)
   have h2:((List.range len).map V).length*P.bytesOf e≤(((List.range len).map D).length+((List.range (m - len)).map fun j=>D (len+j)).length)*P.bytesOf e:=Nat.mul_le_mul (by simp) (Nat.le_refl _)
   omega
theorem zdD{e:TypeId}{fs:Array Field}{cs:List Value}(h:RdC enc P w base sp held e cs)(he:P.underlying e=some (.struct fs)):cs.length=P.cellsOf e∧∀(i:Nat) (f:Field),fs[i]? =some f→RdC enc P w base sp held f.type ((cs.drop f.offset).take (P.cellsOf f.type)):=by
 obtain⟨n,x,h,hw⟩:=h
 obtain⟨xs,m,_,rfl,hl,hxl,hf⟩:=DataW.trod_struct he h
 refine⟨hl,fun i f hfi=>?_⟩
 have hi:i<fs.size:=(Array.getElem?_eq_some_iff.1 hfi).1
 have h1:=hf i f hfi
 rw[List.getElem?_eq_getElem (by omega)]at h1
 refine⟨m,_,h1,fun k hk=>hw k ?_⟩
 simp only[DataW.weights,he]
 refine DataW.weights_mem_each (ts:=fs.toList.map (·.type)) (ds:=xs.map (·.1)) (j:=i) (t:=f.type) (d:=xs[i].1) ?_ ?_ k hk
 ·rw[List.getElem?_map]
  rw[show fs.toList[i]? =some f from by simpa using hfi];rfl
 ·rw[List.getElem?_map,List.getElem?_eq_getElem (by omega)];rfl
theorem zgE{t:TypeId}{k:IntKind}{cs:List Value}(h:RdC enc P w base sp held t cs)(ht:P.underlying t=some (.int k)):∃n,cs=[.int k n]∧(Lit.int k n).wf=true:=by
 obtain⟨n,x,h,_⟩:=h
 obtain⟨m,h1,_,h2⟩:=DataW.trod_int ht h
 exact⟨m,h1,h2⟩
end
set_option maxRecDepth 100000
section
variable {H : Type} {enc : TypeId × Value → H} {P : Program} {w : World} {base : Nat} {sp : Nat → Bool} {held : Bool}
theorem zhK{t e:TypeId}{k:IntKind}{v:Value}(h:Rd enc P w base sp held t v)(ht:P.underlying t=some (.slice e))(hc:P.cellsOf e=1)(he:P.underlying e=some (.int k)):∃l:List Int,Row w v (l.map (.int k))∧∀n∈l,(Lit.int k n).wf=true:=by
 obtain⟨vals,hr,hall,_⟩:=zfZ h ht hc
 obtain⟨m,rfl,hm⟩:=zhR (f:=fun n=>Value.int k n) (Q:=fun n=>(Lit.int k n).wf=true) (fun u hu=>by
  obtain⟨n,h1,h2⟩:=zgE (hall u hu).c he
  exact⟨n,by simpa using h1,h2⟩)
 exact⟨m,hr,hm⟩
theorem wf_u32{n:Int}(h:(Lit.int .u32 n).wf=true):0≤n∧n≤4294967295:=by
 simp[Lit.wf,IntKind.min,IntKind.max,IntKind.signed,IntKind.bits]at h
 omega
theorem wf_u8{n:Int}(h:(Lit.int .u8 n).wf=true):0≤n∧n≤255:=by
 simp[Lit.wf,IntKind.min,IntKind.max,IntKind.signed,IntKind.bits]at h
 omega
theorem bytes_of{l:List Int}(h:∀n∈l,(Lit.int .u8 n).wf=true):∃m:List UInt8,l.map (Value.int .u8)=m.map zaf:=by
 induction l with
 |nil=>exact⟨[],rfl⟩
 |cons n l ih=>
  obtain⟨m,hm⟩:=ih (fun x hx=>h x (List.mem_cons_of_mem _ hx))
  have hb:=wf_u8 (h n (List.mem_cons_self ..))
  obtain⟨k,rfl⟩:∃k:Nat,n=(k:Int):=⟨n.toNat,by omega⟩
  exact⟨UInt8.ofNat k::m,by rw[List.map_cons,List.map_cons,hm,zdQ (by omega)]⟩
theorem rd_data{cs:List Value}(h:RdC enc Tryz.prog w base sp held 197 cs):∃d:DatL,DatAt w cs d∧∀n∈d.nums,0≤n∧n≤4294967295:=by
 obtain⟨hl,hf⟩:=zdD h rfl
 have hl5:cs.length=5:=hl
 match cs,hl5 with
 | [c0,c1,c2,c3,c4],_=>
  obtain⟨ty,e0,_⟩:=zgE (hf 0 _ rfl) rfl
  obtain⟨names,n1,_⟩:=rd_names (P:=Tryz.prog) (ts:=27) (tb:=9) (RdC.one (hf 1 _ rfl)) rfl rfl rfl rfl rfl rfl
  obtain⟨nums,n2,n3⟩:=zhK (RdC.one (hf 2 _ rfl)) rfl rfl rfl
  obtain⟨texts,n4,_⟩:=zd0 (P:=Tryz.prog) (RdC.one (hf 3 _ rfl)) (e:=9) rfl rfl rfl rfl
  obtain⟨raw,n5,n6⟩:=zhK (RdC.one (hf 4 _ rfl)) rfl rfl rfl
  obtain⟨rb,hrb⟩:=bytes_of n6
  rw[hrb]at n5
  have e0':c0=vi ty:=List.head_eq_of_cons_eq (show [c0]=[vi ty] from e0)
  exact⟨⟨ty,names,nums,texts,rb⟩,⟨c1,c2,c3,c4,by rw[e0'],n1,n2,n4,n5⟩,fun n hn=>wf_u32 (n3 n hn)⟩
theorem rd_rec{cs:List Value}(h:RdC enc Tryz.prog w base sp held 201 cs):∃r:RecL,RecAt w cs r∧∀n∈r.dat.nums,0≤n∧n≤4294967295:=by
 obtain⟨hl,hf⟩:=zdD h rfl
 have hl7:cs.length=7:=hl
 match cs,hl7 with
 | [c0,c1,c2,c3,c4,c5,c6],_=>
  obtain⟨owner,n0,_⟩:=zd0 (P:=Tryz.prog) (RdC.one (hf 0 _ rfl)) (e:=9) rfl rfl rfl rfl
  obtain⟨ttl,e1,_⟩:=zgE (hf 1 _ rfl) rfl
  obtain⟨d,hd,hn⟩:=rd_data (hf 2 _ rfl)
  have e1':c1=v32 ttl:=List.head_eq_of_cons_eq (show [c1]=[v32 ttl] from e1)
  have hd':DatAt w [c2,c3,c4,c5,c6] d:=hd
  exact⟨⟨owner,ttl,d⟩,⟨c0,[c2,c3,c4,c5,c6],by rw[e1'],n0,hd'⟩,hn⟩
theorem rd_recs{v:Value}(h:Rd enc Tryz.prog w base sp held 120 v):∃R:List RecL,Rows 7 (RecAt w) w v R∧NumR R:=by
 obtain⟨L,hL,hall,_⟩:=zeQ h (e:=201) (k:=7) rfl rfl
 have:∀L:List (List Value),(∀cs∈L,RdC enc Tryz.prog w base sp held 201 cs)→∃R:List RecL,L.length=R.length∧(∀i (h:i<L.length) (h':i<R.length),RecAt w L[i] R[i])∧NumR R:=fun L=>by
  induction L with
  |nil=>intro _;exact⟨[],rfl,fun i h=>by simp at h,fun r h=>by cases h⟩
  |cons cs L ih=>
   intro h
   obtain⟨r,h1,h2⟩:=rd_rec (h cs (List.mem_cons_self ..))
   obtain⟨R,a1,a2,a3⟩:=ih (fun x hx=>h x (List.mem_cons_of_mem _ hx))
   refine⟨r::R,by simp[a1],fun i a b=>?_,fun x hx=>?_⟩
   ·cases i with
    |zero=>exact h1
    |succ i=>exact a2 i (by simpa using a) (by simpa using b)
   ·rcases List.mem_cons.1 hx with rfl|hx
    ·exact h2
    ·exact a3 x hx
 obtain⟨R,a1,a2,a3⟩:=this L hall
 exact⟨R,⟨L,hL,a1,a2⟩,a3⟩
end
end Go.Proofs.YtahbdamijngmmaaGreat
