/-
  Texts of a proof, joined: K11, C1, CP, K12, C2, C3, T0, S1, R1, L0, M3a, K14, R2, K13, N1, N2, R3, Q1, Q2, Q3, K15, K16, D0, D1, D2, K17, D3, SS0, SO, CQ, CQ2, K19, K20, K21, SS1rec, SS2rec, SS3rec, SS4rec, SO2, SS5rec, M4rec, SS6rec, D4, D6, D7, Y0, K18, E0, D8, E1, K22, E2, E3, Y1, E4, E5, B4, K23.
  Conditions: none.
-/
import Derived.Test.YtihbdhjibplldaaGreatDoorQLM01
import Derived.Maps.RangeRun
import Derived.Maps.Range
import Derived.Lib.Bytealg
import Derived.Test.YtihbdhjibplldaaGreatDoorProg
import Derived.Shelf.Small.Strs
import Derived.CallsIn
import Derived.Laws.Externs
import Derived.Lib.Builder
import Derived.Lib.AppendStr
import Derived.Lib.UnsafeStr
set_option linter.unusedVariables false
set_option linter.unusedSimpArgs false
set_option linter.defProp false
set_option linter.unnecessarySimpa false
set_option maxHeartbeats 8000000
namespace Go.Proofs.YtihbdhjibplldaaGreatDoor
open Go
inductive Pln
 |fin
 |run (pl:List (Nat×Bool)) (p:Pln)
 |fork (m:Nat) (is:List Nat) (p:Nat→Pln)
def Pln.len:Pln→Nat
 | .fin=>0
 | .run pl p=>pl.length+p.len
 | .fork m _ _=>m+1
def zdm(ops:Array Oper)(isB:Nat→Bool):List (Nat×Bool)→Array Bool→Option (Array Bool)
 | [],l=>some l
 | (i,true)::pl,l=>if (rdy ops l).contains i && Region.free .any ops l i && !isB i then zdm ops isB pl (l.setIfInBounds i true) else Option.none
 | (i,false)::pl,l=>if rdy ops l==[i] then zdm ops isB pl (l.setIfInBounds i true) else Option.none
def zgD(ops:Array Oper)(isB:Nat→Bool):Pln→Array Bool→Bool
 | .fin,l=>(rdy ops l).isEmpty
 | .run pl p,l=>match zdm ops isB pl l with|some l'=>zgD ops isB p l'|Option.none=>false
 | .fork m is p,l=>(rdy ops l==is) && !is.isEmpty && is.all fun i=>(p i).len==m && zgD ops isB (p i) (l.setIfInBounds i true)
section
variable {P : Program} {ops : Array Oper} {n : Nat} {isB : Nat → Bool} {K : Sto → World → Prop} {S : Nat → Prop}
theorem zfu(hsel:Region.noSelect ops=true)(hB:zcJ ops isB=true){f:Nat}{l':Array Bool}:∀(pl:List (Nat×Bool)) (l:Array Bool) (σ:Sto) (w:World),zbJ ops l→
  zdm ops isB pl l=some l'→zee P ops n S isB pl σ w (fun σ' w'=>zbJ ops l'→anyK P ops n isB K (Keep S w') f l' σ' w')→anyK P ops n isB K (Keep S w) (pl.length+f) l σ w
 | [],l,σ,w,hcl,hp,h=>by
  cases hp
  rw[List.length_nil,Nat.zero_add]
  exact h hcl
 | (i,true)::pl,l,σ,w,hcl,hp,h=>by
  unfold zdm at hp
  split at hp
  ·rename_i hc
   simp only[Bool.and_eq_true,Bool.not_eq_true',List.contains_iff_mem]at hc
   obtain⟨⟨hr,hfree⟩,hni⟩:=hc
   obtain⟨v,hq,h⟩:=h
   obtain⟨_,oi,hoi,_⟩:=mem_ready.1 hr
   have hd:zgO ops i=oi.dst:=by simp[zgO,hoi]
   rw[hd]at h
   have:=zeR hoi hsel hB hni (pl.length+f) (Keep S w) l σ w hcl (Region.free_spec hoi hfree) hr hq (Keep.refl S w)
    (zfu hsel hB pl _ _ w (zbe hcl hr) hp h)
   rwa [show ((i,true)::pl).length+f=(pl.length+f)+1 from by simp;omega]
  ·cases hp
 | (i,false)::pl,l,σ,w,hcl,hp,h=>by
  unfold zdm at hp
  split at hp
  ·rename_i hr
   rw[beq_iff_eq]at hr
   have hmem:i∈rdy ops l:=by rw[hr];exact List.mem_singleton.2 rfl
   rw[show ((i,false)::pl).length+f=(pl.length+f)+1 from by simp;omega]
   refine⟨fun h0=>(by rw[hr]at h0;cases h0),fun j hj=>?_⟩
   rw[hr]at hj
   obtain rfl:=List.mem_singleton.1 hj
   refine zbv (fun σ' w' ⟨hor,hk⟩=>?_) h
   have hrec:=zfu hsel hB pl _ σ' w' (zbe hcl hmem) hp hk
   cases hb:isB j with
   |true=>exact .inl ⟨rfl,zb2 _ _ _ _ _ hrec⟩
   |false=>
    rw[hb]at hor
    have hkeep:=hor.resolve_left (by simp)
    exact .inr ⟨rfl,Keep S w',fun x hx=>hkeep.trans hx,Keep.refl S w',hrec⟩
  ·cases hp
def zhw(P:Program)(ops:Array Oper)(n:Nat)(S:Nat→Prop)(isB:Nat→Bool)(K:Sto→World→Prop):Pln→Sto→World→Prop
 | .fin,σ,w=>K σ w
 | .run pl p,σ,w=>zee P ops n S isB pl σ w (fun σ' w'=>zhw P ops n S isB K p σ' w')
 | .fork _ is p,σ,w=>∀i∈is,opAt P ops n i σ w (fun σ' w'=>(isB i=true∨Keep S w w')∧zhw P ops n S isB K (p i) σ' w')
theorem zcA{K K':Sto→World→Prop}(hk:∀σ w,K σ w→K' σ w):∀(pl:List (Nat×Bool)) (σ:Sto) (w:World),zee P ops n S isB pl σ w K→zee P ops n S isB pl σ w K'
 | [],σ,w,h=>hk σ w h
 | (i,true)::pl,σ,w,⟨v,h1,h2⟩=>⟨v,h1,zcA hk pl _ _ h2⟩
 | (i,false)::pl,σ,w,h=>zbv (fun σ' w' ⟨h1,h2⟩=>⟨h1,zcA hk pl _ _ h2⟩) h
theorem zcp(hsel:Region.noSelect ops=true)(hB:zcJ ops isB=true):∀(p:Pln) (l:Array Bool) (σ:Sto) (w:World),zbJ ops l→
  zgD ops isB p l=true→zhw P ops n S isB K p σ w→anyK P ops n isB K (Keep S w) p.len l σ w
 | .fin,l,σ,w,_,hp,h=>⟨by simpa [zgD] using hp,h⟩
 | .run pl p,l,σ,w,hcl,hp,h=>by
  unfold zgD at hp
  split at hp
  ·rename_i l' hl'
   exact zfu hsel hB pl l σ w hcl hl' (zcA (fun σ' w' hk hcl'=>zcp hsel hB p l' σ' w' hcl' hp hk) pl σ w h)
  ·cases hp
 | .fork m is p,l,σ,w,hcl,hp,h=>by
  simp only[zgD,Bool.and_eq_true,beq_iff_eq,List.all_eq_true,Bool.not_eq_true']at hp
  obtain⟨⟨hr,hne⟩,hall⟩:=hp
  refine⟨fun h0=>(by rw[hr]at h0;subst h0;cases hne),fun j hj=>?_⟩
  have hj':=hj
  rw[hr]at hj'
  obtain⟨hlen,hpj⟩:=hall j hj'
  refine zbv (fun σ' w' ⟨hor,hk⟩=>?_) (h j hj')
  have hrec:=zcp hsel hB (p j) _ σ' w' (zbe hcl hj) hpj hk
  rw[hlen]at hrec
  cases hb:isB j with
  |true=>exact .inl ⟨rfl,zb2 _ _ _ _ _ hrec⟩
  |false=>
   rw[hb]at hor
   have hkeep:=hor.resolve_left (by simp)
   exact .inr ⟨rfl,Keep S w',fun x hx=>hkeep.trans hx,Keep.refl S w',hrec⟩
end
def treeOk(ops:Array Oper)(isB:Nat→Bool)(p:Pln):Bool:=
 Region.noSelect ops && zaY ops && zcJ ops isB && decide (p.len=ops.size) && zgD ops isB p (Array.replicate ops.size false)
def allL{α:Type}:List α→(α→Prop)→Prop
 | [],_=>True
 | [a],f=>f a
 |a::l,f=>f a∧allL l f
theorem zhE{α:Type}{f:α→Prop}:∀{l:List α},allL l f→∀a∈l,f a
 | [],_,a,h=>by cases h
 | [b],h,a,ha=>by rw[List.mem_singleton.1 ha];exact h
 |b::c::l,h,a,ha=>by
  rcases List.mem_cons.1 ha with rfl|ha
  ·exact h.1
  ·exact zhE h.2 a ha
def zfp(P:Program)(gd:Nat→Option Tmp)(ops:List Oper)(n:Nat)(S:Nat→Prop)(isB:Nat→Bool):Pln→Sto→World→(Sto→World→Prop)→Prop
 | .fin,σ,w,K=>K σ w
 | .run pl p,σ,w,K=>zbr P gd ops n S isB pl σ w (fun σ' w'=>zfp P gd ops n S isB p σ' w' K)
 | .fork _ is p,σ,w,K=>allL is fun i=>zbr P gd ops n S isB [(i,false)] σ w (fun σ' w'=>zfp P gd ops n S isB (p i) σ' w' K)
section
variable {P : Program} {n : Nat} {S : Nat → Prop} {isB : Nat → Bool} {K : Sto → World → Prop}
theorem zcS{ops:Array Oper}:∀(p:Pln) (σ:Sto) (w:World),zfp P (dstL ops.toList) ops.toList n S isB p σ w K→zhw P ops n S isB K p σ w
 | .fin,_,_,h=>h
 | .run pl p,σ,w,h=>zcA (fun σ' w' hk=>zcS p σ' w' hk) pl σ w (zbb pl σ w h)
 | .fork m is p,σ,w,h=>fun i hi=>by
  have:=zbb _ σ w (zhE h i hi)
  exact zbv (fun σ' w' ⟨h1,h2⟩=>⟨h1,zcS (p i) σ' w' h2⟩) this
variable {r : Option Nat} {Q : Post} {σ : Sto} {ds : List Deferred} {w : World}
theorem W_tree{id:Nat}{ops:Array Oper}(isB:Nat→Bool)(p:Pln)(S:Nat→Prop)
  (hm:P.follows .mixedOrders=true) (hok:treeOk ops isB p=true)
  (h:∀(gd:Nat→Option Tmp) (K:Sto→World→Prop) (x:World),gd=dstL ops.toList→Keep S w x→x=w.drew→(∀σ' w',Q .normal σ' ds w'→K σ' w')→zfp P gd ops.toList n S isB p σ x K):
  W P r n (.region id ops true) Q σ ds w:=by
 simp only[treeOk,Bool.and_eq_true,decide_eq_true_eq]at hok
 obtain⟨⟨⟨⟨h1,h2⟩,h3⟩,h4⟩,h5⟩:=hok
 refine wpIn_region_any hm ?_
 have:=zcp (K:=fun σ w=>Q .normal σ ds w) h1 h3 p _ σ w.drew (zdD ops) h5 (zcS p σ w.drew (h _ _ _ rfl (Keep.drew S w) rfl (fun _ _ h=>h)))
 rw[h4]at this
 exact zbi h2 (fun σ w hk=>⟨σ,ds,rfl,hk⟩) _ _ _ _ (zb2 _ _ _ _ _ this)
variable {gd : Nat → Option Tmp} {ops : List Oper}
theorem zjA:zfp P gd ops n S isB .fin σ w K=K σ w:=nr rfl
theorem zjz(pl:List (Nat×Bool))(p:Pln):zfp P gd ops n S isB (.run pl p) σ w K=zbr P gd ops n S isB pl σ w (fun σ' w'=>zfp P gd ops n S isB p σ' w' K):=nr rfl
theorem zh2(m:Nat)(is:List Nat)(p:Nat→Pln):zfp P gd ops n S isB (.fork m is p) σ w K=allL is fun i=>zbr P gd ops n S isB [(i,false)] σ w (fun σ' w'=>zfp P gd ops n S isB (p i) σ' w' K):=nr rfl
end
section
variable {α : Type} {f : α → Prop} {a b : α} {l : List α}
theorem zhD:allL [a] f=f a:=nr rfl
theorem zgn:allL (a::b::l) f=(f a∧allL (b::l) f):=nr rfl
end
def zdx(n:Nat):Nat→Prop:=fun b=>n≤b
theorem Ext.keep{S:Nat→Prop}{w x:World}(h:Ext w x):Keep S w x:=h.mono (fun _ _ h=>h.elim)
attribute [go_sem ↓] zjA zjz zh2
set_option maxRecDepth 10000
theorem zbs{n0:Nat}{C:Nat→Prop}{w x:World}(hk:KeepB n0 C w x){a:Addr}(hn:a.block<n0)(hC:¬C a.block){v:Value}(h:w.cell? a=some v):x.cell? a=some v:=by
 rw[←h];exact World.cell?_of_block (w:=w) (hk.block a.block hn hC)
theorem zb8{w x:World}(hk:Ext w x){a:Addr}{v:Value}(h:w.cell? a=some v):x.cell? a=some v:=zdg hk (fun h=>h) h
theorem zal{α:Type}{l:List α}{i:Nat}(h:i<l.length):l.take (i+1)=l.take i++ [l[i]]:=by
 rw[List.take_succ_eq_append_getElem h]
theorem zbM{α:Type}{l:List α}{i:Nat}(h:i<l.length):l=l.take i++l[i]::l.drop (i+1):=by
 rw[←List.drop_eq_getElem_cons h,List.take_append_drop]
theorem zbL{α:Type}{l:List α}{pre suf:List (α×Nat)}{x:α×Nat}(h:l.zipIdx=pre++x::suf):∃hk:pre.length<l.length,x=(l[pre.length],pre.length):=by
 have hk:pre.length<l.length:=by have:=congrArg List.length h;simp at this;omega
 refine⟨hk,?_⟩
 have h1:l.zipIdx[pre.length]? =some x:=by rw[h];simp
 rw[List.getElem?_zipIdx]at h1
 simp[hk]at h1
 exact h1.symm
def zjx(p:UInt8×Nat)(_:World)(args:Array Value):Prop:=args=#[vi p.2,zao p.1]
theorem zhO{W0:World}{n0:Nat}{C:Nat→Prop}{b:Nat}{l:List UInt8}(hb:W0.cell? ⟨b,0,Option.none⟩=some (vs l))(hbn:b<n0)(hbC:¬C b)(hl:l.length≤9000000000000000000):
  Iter Tryz.prog 91 #[.pointer (some ⟨b,0,Option.none⟩)] W0 n0 C l.zipIdx zjx:=by
 intro lp J Jx W hW hnW hJ hJx hY h0
 refine enter Tryz.func91 Tryz.ntmps91 rfl rfl ?_
 repeat (first|refine c_r ?_|refine rg0 ?_)
 refine zbg (fun m σ ds v=>ds=[]∧∃i,i+m=l.length∧σ 3=vi i∧σ 0= .func (.yield lp) #[] #[]∧σ 1= .pointer (some ⟨b,0,Option.none⟩)∧J (l.zipIdx.take i) v∧KeepB n0 C W v) l.length ?_ ?_
 ·refine⟨rfl,0,by omega,?_,?_,?_,by simpa using h0,KeepB.refl _ _ _⟩<;>simp only[go_sem]<;>rfl
 ·rintro m σ ds v ⟨rfl,i,him,h3,hf0,hf1,hj,hK0⟩
  have hcell:zad v (some ⟨b,0,Option.none⟩)=some (vs l):=zbs hK0 hbn hbC (zb8 hW hb)
  repeat refine c_r ?_
  refine rg4 h3 hf0 hf1 hcell ?_
  refine wc0 ?_ ?_
  ·intro hlt
   simp only[decide_eq_true_eq]at hlt
   have hi:i<l.zipIdx.length:=by simp;omega
   repeat refine c_r ?_
   refine rq ?_;intro gd K hgd hK
   try simp (disch:=first|omega|assumption|rfl) only[go_sem,h3,hf0,hf1,hcell]
   refine Yld.mono (hY (l.zipIdx.take i) l.zipIdx[i] (l.zipIdx.drop (i+1)) v _ (zbM hi) hj hK0 (by simp[zjx,zao])) ?_
   rintro u x (⟨rfl,hj',hk'⟩| ⟨rfl,hjx⟩)
   ·try simp only[go_sem]
    refine hK _ _ ?_;clear hK hgd;clear K;try clear gd
    repeat refine c_r ?_
    refine wc0 ?_ ?_
    ·intro h;simp at h
    ·intro _
     repeat refine c_r ?_
     refine rg1 h3 ?_
     refine zaE ?_
     refine⟨m - 1,by omega,rfl,i+1,by omega,?_,?_,?_,?_,hK0.trans hk'⟩
     ·simp only[go_sem];rfl
     ·simp only[go_sem,hf0]
     ·simp only[go_sem,hf1]
     ·rw[zal hi];exact hj'
   ·try simp only[go_sem]
    refine hK _ _ ?_;clear hK hgd;clear K;try clear gd
    repeat refine c_r ?_
    refine wc0 ?_ ?_
    ·intro _
     repeat refine c_r ?_
     refine zaA (by simp) rfl (.inr ⟨_,_,_,zbM hi,hjx⟩)
    ·intro h;simp at h
  ·intro hge
   simp only[decide_eq_false_iff_not]at hge
   repeat refine c_r ?_
   refine zaA (by simp) rfl (.inl ?_)
   have:l.zipIdx.take i=l.zipIdx:=List.take_of_length_le (by simp;omega)
   rw[this]at hj;exact hj
theorem zc5(w:World)(l:List UInt8)(hl:l.length≤9000000000000000000):Fn Tryz.prog 65 #[vs l] w (fun v w'=>Ext w w'∧∃cap,v= .func (.func 91) #[] cap∧
  ∀C:Nat→Prop,(∀b,C b→b<w.heap.size)→Iter Tryz.prog 91 cap w' w'.heap.size C l.zipIdx zjx):=by
 refine enter Tryz.func65 Tryz.ntmps65 rfl rfl ?_
 repeat refine c_r ?_
 refine rg0 ?_
 repeat refine c_r ?_
 refine rg0 ?_
 repeat refine c_r ?_
 refine rt0 Tryz.ntmps65 ?_
 refine⟨Ext.alloc _ _,_,rfl,fun C hC=>zhO ?_ (by simp) (fun h=>by have:=hC _ h;omega) hl⟩
 rw[zbT (zax _ _)];rfl
def zhZ(c:UInt8):UInt8:=if 65≤c∧c≤90 then c+32 else c
def zaV(l:List UInt8):List UInt8:=l.map zhZ
def zbB(l:List UInt8)(k:Nat):List UInt8:=zaV (l.take k)++l.drop k
theorem zed{l:List UInt8}{k:Nat}(hk:k<l.length):(zbB l k).set k (zhZ l[k])=zbB l (k+1):=by
 unfold zbB zaV
 have e:(List.map zhZ (l.take k)).length=k:=by simp;omega
 rw[zal hk,List.map_append,List.set_append_right _ _ (by omega),e,Nat.sub_self,List.drop_eq_getElem_cons hk,List.set_cons_zero]
 simp
theorem zhY(l:List UInt8)(k:Nat):(zbB l k).length=l.length:=by simp[zbB,zaV];omega
theorem foldB_up{c:UInt8}(h:65≤c∧c≤90):zhZ c=c+32:=if_pos h
theorem foldB_no{c:UInt8}(h:¬(65≤c∧c≤90)):zhZ c=c:=if_neg h
theorem zgL{l:List UInt8}{k:Nat}(hk:k<l.length)(h:¬(65≤l[k]∧l[k]≤90)):zbB l k=zbB l (k+1):=by
 rw[←zed hk,foldB_no h]
 apply List.ext_getElem?
 intro j
 rw[List.getElem?_set]
 split
 ·rename_i hj;subst hj
  rw[if_pos (by rw[zhY];exact hk)]
  unfold zbB zaV
  have e:(List.map zhZ (l.take k)).length=k:=by simp;omega
  rw[List.getElem?_append_right (by omega),e]
  simp[hk]
 ·rfl
theorem zfB(w:World)(l:List UInt8)(hl:l.length≤9000000000000000000):Fn Tryz.prog 131 #[vs l] w (fun v w'=>v=vs (zaV l)∧Ext w w'):=by
 refine enter Tryz.func131 Tryz.ntmps131 rfl rfl ?_
 repeat (first|refine c_r ?_|refine rg0 ?_)
 repeat refine c_r ?_
 refine rq ?_;intro gd K hgd hK
 try simp only[go_sem]
 refine zfr rfl rfl rfl (vq0) ?_
 intro c cur w1 hlc hcur htake hE1 hsz1 hb1
 try simp only[go_sem]
 refine zan rfl rfl rfl (zax _ _) (by simp) (by simp) ?_
 intro w2 hsz2 hb2 hk2
 simp only[World.size_alloc]at hsz2 hb2 hk2
 have hE2:Ext w w2:=hE1.trans (Keep.to_ext (Ext.alloc w1 _) rfl (fun b hb=>by omega) hk2)
 have hgb:w2.heap[w.heap.size]? =some (.cells cur 5 (c,c+1)):=(hk2.block _ (by simp;omega) (by omega)).trans ((RowKit.Below.heap_alloc _ _ _ (by omega)).trans hb1)
 rw[hsz1]at hsz2 hb2 ⊢
 simp at hb2
 clear hk2 hb1
 refine hK _ _ ?_;clear hK hgd;clear K;try clear gd
 repeat refine c_r ?_
 refine rq ?_;intro gd K hgd hK
 try simp only[go_sem]
 refine Fn.mono (zc5 _ _ hl) ?_
 rintro _ w3 ⟨hE3,cap,rfl,hit⟩
 try simp only[go_sem]
 refine hK _ _ ?_;clear hK hgd;clear K;try clear gd
 repeat refine c_r ?_
 have hE3':=hE2.trans hE3
 have hsz3:=hE3.size
 refine zcs (g:=91) (cap:=cap) (vq0) rfl (hit (fun b=>b=w.heap.size) (fun b hb=>by omega)) (Keep.refl _ _) (Nat.le_refl _) (fun b hb=>by omega)
  (fun x A args h=>by rw[h];rfl)
  (fun pre A=>Ext w A∧A.heap[w.heap.size+1]? =some (.cells #[.slice (some ⟨w.heap.size,0,Option.none⟩) l.length c] 32 (0,0))∧
   ∃cur:Array Value,cur.size=c∧cur.toList.take l.length=(zbB l pre.length).map zao∧A.heap[w.heap.size]? =some (.cells cur 5 (c,c+1)))
  (fun _ _ _=>False) ?_ (fun _ _ _ _ h _=>h.elim) ?_ ?_ ?_ (fun _ _ _ _ _ _ _ h _=>h.elim)
 ·rintro pre A B ⟨h1,h2,cu,h3,h4,h5⟩ hk
  have ne1:¬two w3.heap.size (w.heap.size+1):=by unfold two;omega
  have ne2:¬two w3.heap.size w.heap.size:=by unfold two;omega
  exact⟨Keep.to_ext h1 rfl (fun b hb=>by unfold two at hb;omega) hk,(hk.block _ (Array.getElem?_eq_some_iff.1 h2).1 ne1).trans h2,cu,h3,h4,
   (hk.block _ (Array.getElem?_eq_some_iff.1 h5).1 ne2).trans h5⟩
 ·refine⟨hE3',(hE3.block _ (by omega) (fun h=>h)).trans hb2,cur,hcur,?_,(hE3.block _ (by omega) (fun h=>h)).trans hgb⟩
  simpa [zbB,zaV] using htake
 ·rintro lp pre x suf A args hxs hszA ⟨hEA,hbox,cu,hcu,hpre,hrow⟩ rfl
  obtain⟨hk,rfl⟩:=zbL hxs
  dsimp only
  repeat (first|refine c_r ?_| (refine zeA (by rfl) ?_;intro gd K hgd hK;simp (disch:=first|omega|assumption|rfl) only[go_sem,zao];refine hK _ _ ?_;clear hK hgd;clear K gd))
  refine⟨rfl,KeepB.refl _ _ _,fun A2 hA2=>?_⟩
  have ne1:¬two w3.heap.size (w.heap.size+1):=by unfold two;omega
  have ne2:¬two w3.heap.size w.heap.size:=by unfold two;omega
  have hbox2:=(hA2.block _ (Array.getElem?_eq_some_iff.1 hbox).1 ne1).trans hbox
  have hrow2:=(hA2.block _ (Array.getElem?_eq_some_iff.1 hrow).1 ne2).trans hrow
  have hE2':Ext w A2:=Keep.to_ext hEA rfl (fun b hb=>by unfold two at hb;omega) hA2
  have hs2:=hA2.size
  clear hbox hrow hA2 hit hb2 hgb
  have hcu':cu[pre.length]? =some (zao (l[pre.length])):=by
   have:(cu.toList.take l.length)[pre.length]? =some (zao (l[pre.length])):=by
    rw[hpre,List.getElem?_map]
    unfold zbB
    rw[List.getElem?_append_right (by simp[zaV];omega)]
    have e:(zaV (l.take pre.length)).length=pre.length:=by simp[zaV];omega
    rw[e];simp[hk]
   rw[List.getElem?_take,if_pos hk]at this
   simpa using this
  have hbit:∀u:UInt8,(65≤u↔(65:Int)≤u.toNat)∧(u≤90↔(u.toNat:Int)≤90):=fun u=>by
   rw[UInt8.le_iff_toNat_le,UInt8.le_iff_toNat_le]
   constructor
   ·show 65≤u.toNat↔_;omega
   ·show u.toNat≤90↔_;omega
  have hkeep:∀B,A2=B→¬(65≤l[pre.length]∧l[pre.length]≤90)→(Ext w B∧B.heap[w.heap.size+1]? =some (.cells #[.slice (some ⟨w.heap.size,0,Option.none⟩) l.length c] 32 (0,0))∧
   ∃cur:Array Value,cur.size=c∧cur.toList.take l.length=(zbB l (pre++ [(l[pre.length],pre.length)]).length).map zao∧B.heap[w.heap.size]? =some (.cells cur 5 (c,c+1)))∧
    KeepB (w3.heap.size+2) (fun b=>b=w.heap.size) A2 B:=by
   rintro B rfl hno
   refine⟨⟨hE2',hbox2,cu,hcu,?_,hrow2⟩,KeepB.refl _ _ _⟩
   rw[hpre,zgL hk hno];simp
  generalize hcc:l[pre.length]=cc at*
  repeat refine c_r ?_
  refine rq ?_;intro gd K hgd hK
  have hg2:∀n σ b,zaJ gd n σ (some (2,b))=zat (ev n σ (.tmp 14)) b:=(fun n σ b=>by rw[zag,show gd 2=some 14 from(by rw[hgd];rfl)];rfl)
  by_cases h65:(65:Int)≤cc.toNat
  ·try simp (disch:=first|omega|assumption|rfl) only[go_sem,hg2,zag,zbE,zep,decide_eq_true h65,beq_self_eq_true]
   refine hK _ _ ?_;clear hK hgd;clear K;try clear gd
   repeat refine c_r ?_
   refine wc0 ?_ ?_
   ·intro h90
    simp only[decide_eq_true_eq]at h90
    have hc1:zad A2 (some ⟨w.heap.size+1,0,Option.none⟩)=some (.slice (some ⟨w.heap.size,0,Option.none⟩) l.length c):=by
     show A2.cell? _=_
     rw[zbT hbox2];rfl
    repeat refine c_r ?_
    refine rq ?_;intro gd K hgd hK
    try simp (disch:=first|omega|assumption|rfl) only[go_sem,hc1]
    refine zan rfl rfl rfl hrow2 (by omega) (by simp;omega) ?_
    intro w5 hsz5 hb5 hk5
    refine hK _ _ ?_;clear hK hgd;clear K;try clear gd
    repeat refine c_r ?_
    have hset:((zbB l pre.length).map zao).set pre.length (.int .u8 (↑cc.toNat+97 - 65))=(zbB l (pre.length+1)).map zao:=by
     rw[←zed hk,hcc,List.map_set]
     congr 1
     rw[foldB_up ⟨(hbit cc).1.2 h65,(hbit cc).2.2 h90⟩]
     unfold zao
     congr 1
     have:(cc+32).toNat=cc.toNat+32:=by
      rw[UInt8.toNat_add];show(cc.toNat+32) % 256=_;omega
     rw[this];push_cast;omega
    refine⟨⟨Keep.to_ext hE2' rfl (fun b hb=>by omega) hk5,?_,cu.setIfInBounds pre.length (.int .u8 (↑cc.toNat+97 - 65)),by simpa using hcu,?_,hb5⟩,hk5.toB (by omega) (fun i _ h=>h)⟩
    ·exact(hk5.block _ (by omega) (by omega)).trans hbox2
    ·rw[Array.toList_setIfInBounds,List.take_set,hpre,hset];simp
   ·intro h90
    simp only[decide_eq_false_iff_not]at h90
    repeat refine c_r ?_
    exact hkeep _ rfl (fun h=>h90 ((hbit cc).2.1 h.2))
  ·try simp (disch:=first|omega|assumption|rfl) only[go_sem,hg2,zag,zbE,zep,decide_eq_false h65,beq_self_eq_true]
   refine hK _ _ ?_;clear hK hgd;clear K;try clear gd
   repeat refine c_r ?_
   refine wc0 ?_ ?_
   ·intro h;simp at h
   ·intro _
    repeat refine c_r ?_
    exact hkeep _ rfl (fun h=>h65 ((hbit cc).1.1 h.1))
 ·rintro w4 hsz4 ⟨hE4,hbox,cu,hcu,hpre,hrow⟩ hD
  have hc1:zad w4 (some ⟨w.heap.size+1,0,Option.none⟩)=some (.slice (some ⟨w.heap.size,0,Option.none⟩) l.length c):=by
   show w4.cell? _=_
   rw[zbT hbox];rfl
  have hfull:zbB l l.zipIdx.length=zaV l:=by simp[zbB]
  rw[hfull]at hpre
  have hlen:(zaV l).length=l.length:=by simp[zaV]
  repeat refine c_r ?_
  refine rq ?_;intro gd K hgd hK
  try simp (disch:=first|omega|assumption|rfl) only[go_sem,hc1]
  rw[←hlen]
  refine zb7 rfl rfl rfl (vq0) ?_ ?_
  ·intro j hj
   rw[hlen]at hj
   rw[zaZ]
   show w4.cell? _=_
   rw[zbT hrow]
   have:(cu.toList.take l.length)[j]? =some (zao ((zaV l)[j]'(by omega))):=by
    rw[hpre,List.getElem?_map,List.getElem?_eq_getElem (by omega)];rfl
   rw[List.getElem?_take,if_pos hj]at this
   simpa using this
  try simp only[go_sem]
  refine hK _ _ ?_;clear hK hgd;clear K;try clear gd
  repeat refine c_r ?_
  refine ze0 (by simp) rfl Tryz.ntmps131 (by simp only[go_sem];rfl) hD ?_
  intro w5 hk5 _
  exact⟨rfl,Keep.to_ext hE4 rfl (fun b hb=>by omega) hk5⟩
section
variable {P : Program} {d : Option Tmp} {ty : TypeId} {ps : String} {af : Array Edge} {g : Option (Nat × Bool)} {ρ : Operand → Value} {w : World} {K : Value → World → Prop}
end
abbrev Nm:=List (List UInt8)
theorem KeepB.to_ext{n0:Nat}{C:Nat→Prop}{w0 w x:World}(h0:Ext w0 w)(h:KeepB n0 C w x)(hn:w0.heap.size≤n0)(hC:∀b,C b→w0.heap.size≤b):Ext w0 x:=
  ⟨h.os.trans h0.os,h.tape.trans h0.tape,h.output.trans h0.output,Nat.le_trans h0.size h.size,
   fun b hb _=>(h.block b (by omega) (fun hc=>by have:=hC b hc;omega)).trans (h0.block b hb (fun x=>x)),Nat.le_trans h0.drawn h.drawn⟩
theorem Fn.of_calls{P:Program}{f:FuncId}{args:Array Value}{w:World}{R:Value→World→Prop}(h:Calls P f args w (fun e w'=>∃v,e= .returned v∧R v w')):Fn P f args w R:=callsIn_wide.2 h
theorem Fn.calls{P:Program}{f:FuncId}{args:Array Value}{w:World}{R:Value→World→Prop}(h:Fn P f args w R):Calls P f args w (fun e w'=>∃v,e= .returned v∧R v w'):=callsIn_wide.1 h
theorem s_clip{P:Program}{e:TypeId}{ad:Option Addr}{n c:Nat}{k k':IntKind}(h:n≤c)(hi:(P.info? e).isSome=true):
  slD P (some (.slice e)) (.slice ad n c) Option.none (some (.int k n)) (some (.int k' n))=some (.slice ad n n):=by
 have e1:slB Option.none=some 0:=rfl
 have e2:∀(k:IntKind) (d:Nat),slH (some (.int k (n:Int))) d=some n:=fun k d=>by simp[slH]
 simp only[slD,e1,e2]
 simp[h,hi,zak]
--?? slices.Clip[[]string,string]
def Own(B:Nat)(w:World)(e:TypeId)(v:Value)(l:List Value):Prop:=w.ownsRow B e 1 v l.length l
section
variable {P : Program} {d : Option Tmp} {ty : TypeId} {ps : String} {af : Array Edge} {g : Option (Nat × Bool)} {ρ : Operand → Value} {w : World} {K : Value → World → Prop}
theorem Own.slice{B:Nat}{e:TypeId}{v:Value}{l:List Value}(h:Own B w e v l):∃a c,v= .slice a l.length c:=by
 rcases h.2 with ⟨rfl,h0⟩| ⟨g,cap,cur,rfl,_⟩
 ·exact⟨_,_,by rw[h0]⟩
 ·exact⟨_,_,rfl⟩
theorem Own.row{B:Nat}{e:TypeId}{v:Value}{l:List Value}(h:Own B w e v l):Row w v l:=Row.of_owns h
theorem Own.rowB{B:Nat}{e:TypeId}{v:Value}{l:List Value}(h:Own B w e v l):RowB B w v l:=RowB.of_owns h
theorem Own.nil(B:Nat)(w:World)(e:TypeId):Own B w e (.slice Option.none 0 0) []:=⟨rfl,.inl ⟨rfl,rfl⟩⟩
theorem Own.ge{B:Nat}{e:TypeId}{v:Value}{l:List Value}(h:Own B w e v l){b:Nat}(hb:some b=v.ownBlock):B≤b∧b<w.heap.size:=by
 rcases h.2 with ⟨rfl,_⟩| ⟨g,cap,cur,rfl,hg,hc,_⟩
 ·cases hb
 ·cases hb;exact⟨hg,(Array.getElem?_eq_some_iff.1 hc).1⟩
theorem Own.keep{B:Nat}{e:TypeId}{v:Value}{l:List Value}{x:World}{S:Nat→Prop}(h:Own B w e v l)(hk:Keep S w x)(hS:∀b,some b=v.ownBlock→¬S b):Own B x e v l:=by
 obtain⟨h1,h2⟩:=h
 refine⟨h1,?_⟩
 rcases h2 with h2| ⟨g,cap,cur,hv,hb,hg,rest⟩
 ·exact .inl h2
 ·exact .inr ⟨g,cap,cur,hv,hb,(hk.block _ (Array.getElem?_eq_some_iff.1 hg).1 (hS _ (by rw[hv];rfl))).trans hg,rest⟩
theorem Own.ext{B:Nat}{e:TypeId}{v:Value}{l:List Value}{x:World}(h:Own B w e v l)(hk:Ext w x):Own B x e v l:=h.keep hk (fun _ _ h=>h)
theorem Own.mono{B B':Nat}{e:TypeId}{v:Value}{l:List Value}(h:Own B w e v l)(hB:B'≤B):Own B' w e v l:=by
 obtain⟨h1,h2⟩:=h
 refine⟨h1,?_⟩
 rcases h2 with h2| ⟨g,cap,cur,hv,hb,rest⟩
 ·exact .inl h2
 ·exact .inr ⟨g,cap,cur,hv,by omega,rest⟩
theorem za5{t e:TypeId}{z v:Value}(hu:tyU P t=some (.slice e))(hz:tyZ P e=some z)(hs:tyS P e=1)(hz1:z.cells=#[z])(hv:v.cells=#[v])
  (h:∀w1,Ext w w1→w1.heap.size=w.heap.size+1→Own w.heap.size w1 e (.slice (some ⟨w.heap.size,0,Option.none⟩) 1 1) [v]→K (.slice (some ⟨w.heap.size,0,Option.none⟩) 1 1) w1):bsL P t 1 [(0,v)] w K .mk:=by
 unfold bsL bsK
 rw[bsC_one hu hz hs hz1 hv]
 exact h _ (Ext.alloc w _) (zaB w _) ⟨rfl,.inr ⟨w.heap.size,1,#[v],rfl,Nat.le_refl _,zax w _,Nat.le_refl _,by decide,rfl,rfl⟩⟩
theorem set2{A:Array Value}(h:A.size=2)(u v:Value):(A.setIfInBounds 0 u).setIfInBounds 1 v=#[u,v]:=by
 obtain⟨l⟩:=A
 match l,h with
 | [x,y],_=>rfl
theorem zjJ{t e:TypeId}{z u v:Value}(hu:tyU P t=some (.slice e))(hz:tyZ P e=some z)(hs:tyS P e=1)(hz1:z.cells=#[z])(hu1:u.cells=#[u])(hv:v.cells=#[v])
  (h:∀w1,Ext w w1→w1.heap.size=w.heap.size+1→Own w.heap.size w1 e (.slice (some ⟨w.heap.size,0,Option.none⟩) 2 2) [u,v]→K (.slice (some ⟨w.heap.size,0,Option.none⟩) 2 2) w1):bsL P t 2 [(0,u),(1,v)] w K .mk:=by
 unfold bsL bsK
 have:bsC P t 2 [(0,u),(1,v)]=some (e,#[u,v]):=by
  simp[bsC,hu,hz,hs,hz1,Instr.fill,hu1,hv]
  exact set2 (by simp) u v
 rw[this]
 exact h _ (Ext.alloc w _) (zaB w _) ⟨rfl,.inr ⟨w.heap.size,2,#[u,v],rfl,Nat.le_refl _,zax w _,Nat.le_refl _,by decide,rfl,rfl⟩⟩
theorem zhA{t e:TypeId}{z:Value}(hu:tyU P t=some (.slice e))(hz:tyZ P e=some z)(hs:tyS P e=1)(hz1:z.cells=#[z])
  (h:∀w1,Ext w w1→w1.heap.size=w.heap.size+1→Own w.heap.size w1 e (.slice (some ⟨w.heap.size,0,Option.none⟩) 0 0) []→K (.slice (some ⟨w.heap.size,0,Option.none⟩) 0 0) w1):bsL P t 0 [] w K .mk:=by
 unfold bsL bsK
 have:bsC P t 0 []=some (e,#[]):=by simp[bsC,hu,hz,hs,hz1,Instr.fill]
 rw[this]
 exact h _ (Ext.alloc w _) (zaB w _) ⟨rfl,.inr ⟨w.heap.size,0,#[],rfl,Nat.le_refl _,zax w _,Nat.le_refl _,by decide,rfl,rfl⟩⟩
theorem za2{B:Nat}{s x:Operand}{t e:TypeId}{inf:TypeInfo}{z:Value}{bytes:Nat}{v u:Value}{l news:List Value}(hown:Own B w e v l)(hrow:Row w u news)
  (ht:tyU P t=some (.slice e)) (hi:P.info? e=some inf) (hz:inf.zero=some z)
  (hsize:inf.size=1) (hby:inf.bytes=bytes) (hzs:z.cells.size=1) (hv:ρ s=v) (hu:ρ x=u) 
  (h1:∀q∈news,one q=true) (hlen:l.length+news.length≤1000000000000) (hbytes:bytes≤100) (hB:B≤w.heap.size)
  (h:∀v' w',Own B w' e v' (l++news)→(∀w0,Ext w0 w→w0.heap.size≤B→Ext w0 w')→Keep (fun b=>some b=v.ownBlock) w w'→(∀b,some b=v'.ownBlock→some b=v.ownBlock∨w.heap.size≤b)→K v' w'):
  opW P ⟨d,.call ⟨.builtin .append,#[s,x],#[t,t]⟩,ty,ps,af,g⟩ ρ w K:=by
 refine zfW (B:=B) (m:=news.length) (xs:=l) (n:=l.length) ht hi hz hsize hby hzs (by decide) hv hu hown (Src1.of_row hrow) h1 (by simp[maxLen];omega) ?_ hB ?_
 ·have:(l.length+news.length)*bytes≤1000000000000*100:=Nat.mul_le_mul hlen hbytes
  omega
 ·intro v' w' ho hk hw
  refine h v' w' (by simpa [Own] using ho) (fun w0 hE hB0=>?_) hk hw.2
  exact Keep.to_ext hE rfl (fun b hb=>by have:=(Own.ge (l:=l) hown hb).1;omega) hk
theorem v_min(a:Array Operand)(t:Array TypeId):opV P ⟨d,.call ⟨.builtin .min,a,t⟩,ty,ps,af,g⟩ ρ w K=opL P ⟨d,.call ⟨.builtin .min,a,t⟩,ty,ps,af,g⟩ ρ w K .mk:=nr rfl
theorem zfU{x y:Operand}{ts:Array TypeId}{k:IntKind}{a b:Int}(hx:ρ x= .int k a)(hy:ρ y= .int k b)(h:K (.int k (min a b)) w):opW P ⟨d,.call ⟨.builtin .min,#[x,y],ts⟩,ty,ps,af,g⟩ ρ w K:=by
 simp only[opW,execOp,Sem.run_bind,resolve]
 simp only[Sem.run_pure,Result.andThen_ok,invoke,builtin]
 refine zaw (s:=Builtin.min_ ts ty (Array.map ρ #[x,y])) (v:= .int k (min a b)) (w':=w) ?_ h
 simp[Builtin.min_,hx,hy,Builtin.min2,Sem.run,List.foldlM]
 omega
end
attribute [go_sem] b_quo b_rem
attribute [go_sem ↓] v_min
theorem ones_vs(l:List Lab):∀q∈l.map vs,one q=true:=fun q hq=>by
 obtain⟨s,_,rfl⟩:=List.mem_map.1 hq
 rfl
def few(n:Nm):Bool:=decide (n.length≤140) && n.all fun l=>decide (l.length≤100)
def NamesAt(w:World)(v:Value)(ns:List Nm):Prop:=∃vals,Row w v vals∧vals.length=ns.length∧∀i (h:i<vals.length) (h':i<ns.length),Row w vals[i] (ns[i].map vs)
theorem NamesAt.ext{w x:World}{v:Value}{L:List Nm}(h:NamesAt w v L)(hE:Ext w x):NamesAt x v L:=by
 obtain⟨vals,h1,h2,h3⟩:=h
 exact⟨vals,h1.ext hE,h2,fun i a b=>(h3 i a b).ext hE⟩
def zaq(w:World)(p:Option Addr)(k:Nat):Option (List Value):=p.bind fun a=>zaG w a 0 k
theorem zja{P:Program}{w:World}{t:TypeId}{p:Option Addr}(hA:tyA P t=true):ldA P w t p=(zaq w p (tyS P t)).map fun l=> .agg l.toArray:=by
 cases p with
 |none=>rfl
 |some a=>simp[ldA,ldP,ldV,hA,zaq]
theorem zdE{w:World}{b o:Nat}{cur:Array Value}{e:TypeId}{fr:Nat×Nat}(h:w.heap[b]? =some (.cells cur e fr)):∀(k i:Nat),o+i+k≤cur.size→
  zaG w ⟨b,o,Option.none⟩ i k=some ((cur.toList.drop (o+i)).take k)
 |0,_,_=>by simp[zaG]
 |k+1,i,hk=>by
  unfold zaG
  rw[zdS,zbT h,zdE h k (i+1) (by omega)]
  have hlt:o+i<cur.size:=by omega
  have hd:=List.drop_eq_getElem_cons (l:=cur.toList) (i:=o+i) (by simpa using hlt)
  rw[Array.getElem?_eq_getElem hlt,hd,List.take_succ_cons]
  rfl
theorem zau{w:World}{b o k:Nat}{cur:Array Value}{e:TypeId}{fr:Nat×Nat}(h:w.heap[b]? =some (.cells cur e fr))(hk:o+k≤cur.size):
  zaq w (some ⟨b,o,Option.none⟩) k=some ((cur.toList.drop o).take k):=by
 have:=zdE (o:=o) h k 0 (by omega)
 simpa [zaq] using this
theorem zen{S:Nat→Prop}{w x:World}(hk:Keep S w x){p:Option Addr}(hS:offS S p){k:Nat}{l:List Value}(h:zaq w p k=some l):zaq x p k=some l:=by
 cases p with
 |none=>cases h
 |some a=>exact zcT hk (hS a rfl) k 0 l h
theorem zaj{w x:World}(hk:Ext w x){p:Option Addr}{k:Nat}{l:List Value}(h:zaq w p k=some l):zaq x p k=some l:=
 zen hk (by simp[offS,NoS]) h
theorem zaO{w:World}{a:Option Addr}{j k:Nat}{l:List Value}(h:zaq w (adr a j) k=some l):a.isSome=true:=by
 cases a with
 |none=>simp[zaq,adr]at h
 |some a=>rfl
theorem zeO{w:World}{a:Addr}:∀{k i:Nat} {l:List Value},zaG w a i k=some l→l.length=k
 |0,_,l,h=>by simp[zaG]at h;subst h;rfl
 |k+1,i,l,h=>by
  unfold zaG at h
  split at h
  ·rename_i v l' h1 h2
   cases h
   simp[zeO h2]
  ·cases h
theorem zh6{w:World}{p:Option Addr}{k:Nat}{l:List Value}(h:zaq w p k=some l):l.length=k:=by
 cases p with
 |none=>cases h
 |some a=>exact zeO h
theorem zds{w:World}{a:Addr}:∀{k i:Nat} {l:List Value},zaG w a i k=some l→∀(j:Nat) (h:j<l.length),w.cell? (a.add (i+j))=some l[j]
 |0,_,l,h,j,hj=>by simp[zaG]at h;subst h;simp at hj
 |k+1,i,l,h,j,hj=>by
  unfold zaG at h
  split at h
  ·rename_i v l' h1 h2
   cases h
   cases j with
   |zero=>exact h1
   |succ j=>
    have:=zds h2 j (by simpa using hj)
    rw[show i+(j+1)=i+1+j from by omega]
    exact this
  ·cases h
theorem zaR{w:World}{p:Option Addr}{k:Nat}{l:List Value}(h:zaq w p k=some l){j:Nat}(hj:j<l.length):zad w (adr p j)=some l[j]:=by
 cases p with
 |none=>cases h
 |some a=>
  have:=zds (i:=0) h j hj
  rw[Nat.zero_add]at this
  exact this
def RowK(k:Nat)(w:World)(v:Value)(L:List (List Value)):Prop:=
 ∃a c,v= .slice a L.length c∧L.length≤c∧∀j (h:j<L.length),zaq w (adr a (j*k)) k=some L[j]
theorem RowK.ext{k:Nat}{w x:World}{v:Value}{L:List (List Value)}(h:RowK k w v L)(hE:Ext w x):RowK k x v L:=by
 obtain⟨a,c,rfl,hc,hl⟩:=h
 exact⟨a,c,rfl,hc,fun j hj=>zaj hE (hl j hj)⟩
/-! ### a block of elements -/
structure SD(k:Nat)(w:World)(b:Nat)(e:TypeId)(cap:Nat)(D:List (List Value)):Prop where
 lies:∃cur:Array Value,∃R:List Value,w.heap[b]? =some (.cells cur e (0,0))∧cur.toList=D.flatten++R∧cur.size=cap*k
 len:∀x∈D,x.length=k
 ones:∀x∈D,∀v∈x,one v=true
theorem zbd{k:Nat}:∀{D:List (List Value)},(∀x∈D,x.length=k)→D.flatten.length=D.length*k
 | [],_=>by simp
 |x::D,h=>by
  have h1:=h x (List.mem_cons_self ..)
  have h2:=zbd (D:=D) (fun y hy=>h y (List.mem_cons_of_mem _ hy))
  rw[List.flatten_cons,List.length_append,h1,h2,List.length_cons,Nat.succ_mul];omega
theorem zfm{k:Nat}{D:List (List Value)}(h:∀x∈D,x.length=k){j:Nat}(hj:j<D.length):D.flatten=(D.take j).flatten++D[j]++(D.drop (j+1)).flatten∧(D.take j).flatten.length=j*k:=by
 constructor
 ·refine(congrArg List.flatten (zbM hj)).trans ?_
  rw[List.flatten_append,List.flatten_cons,List.append_assoc]
 ·rw[zbd (fun x hx=>h x (List.mem_of_mem_take hx)),List.length_take,Nat.min_eq_left (by omega)]
theorem SD.get{k:Nat}{w:World}{b:Nat}{e:TypeId}{cap:Nat}{D:List (List Value)}(h:SD k w b e cap D){j:Nat}(hj:j<D.length):zaq w (some ⟨b,j*k,Option.none⟩) k=some D[j]:=by
 obtain⟨cur,R,hb,hc,hs⟩:=h.lies
 obtain⟨e1,e2⟩:=zfm h.len hj
 have hk:=h.len D[j] (List.getElem_mem hj)
 have hlen:cur.toList.length=D.flatten.length+R.length:=by rw[hc];simp
 have e3:=congrArg List.length e1
 simp only[List.length_append]at e3
 have hsz:cur.toList.length=cur.size:=by simp
 rw[zau hb (by omega),hc,e1,List.append_assoc,List.append_assoc,List.drop_left' e2,List.take_left' hk]
theorem zc2{b o:Nat}{e:TypeId}:∀(l:List Value) (i:Nat) (w:World) (A V B:List Value) (cur:Array Value),w.heap[b]? =some (.cells cur e (0,0))→cur.toList=A++V++B→A.length=o+i→V.length=l.length→(∀v∈l,one v=true)→
  ∃w',stC w ⟨b,o,Option.none⟩ i l=some w'∧w'.heap.size=w.heap.size∧Keep (fun x=>x=b) w w'∧∃cur':Array Value,w'.heap[b]? =some (.cells cur' e (0,0))∧cur'.toList=A++l++B
 | [],i,w,A,V,B,cur,hb,hc,hA,hV,_=>by
  have:V=[]:=List.length_eq_zero_iff.1 hV
  subst this
  exact⟨w,rfl,rfl,Keep.refl _ _,cur,hb,by simpa using hc⟩
 |v::l,i,w,A,V,B,cur,hb,hc,hA,hV,h1=>by
  cases V with
  |nil=>simp at hV
  |cons u V=>
   have hcl:=congrArg List.length hc
   simp only[List.length_append,List.length_cons,Array.length_toList]at hcl
   have hlt:o+i<cur.size:=by omega
   have hset:(cur.setIfInBounds (o+i) v).toList=(A++ [v])++V++B:=by
    rw[Array.toList_setIfInBounds,hc,←hA,List.append_assoc,List.set_append_right _ _ (Nat.le_refl _),Nat.sub_self]
    simp
   obtain⟨w',k1,k2,k3,cur',k4,k5⟩:=zc2 l (i+1) (w.setCell ⟨b,o+i,Option.none⟩ v) (A++ [v]) V B _ (zfL hb) hset (by rw[List.length_append,hA];rfl) (by simpa using hV) (fun x hx=>h1 x (List.mem_cons_of_mem _ hx))
   refine⟨w',?_,by rw[k2];simp,(zg8 w b (o+i) v).trans k3,cur',k4,by simpa using k5⟩
   unfold stC
   rw[zdS,zbT hb,zf6 hb,Array.getElem?_eq_getElem hlt,h1 v (List.mem_cons_self ..)]
   simpa using k1
theorem SD.set{k:Nat}{w:World}{b:Nat}{e:TypeId}{cap:Nat}{D:List (List Value)}(h:SD k w b e cap D){P:Program}{t:TypeId}{K:Value→World→Prop}{j:Nat}(hj:j<D.length){x:List Value}(hx:x.length=k)(h1:∀v∈x,one v=true)
  (hs:tyS P t=k) (hi:(P.info? t).isSome=true) (hK:∀w',w'.heap.size=w.heap.size→SD k w' b e cap (D.set j x)→Keep (fun i=>i=b) w w'→K undef w'):
  stK P t (.pointer (some ⟨b,j*k,Option.none⟩)) (.agg x.toArray) w K:=by
 obtain⟨cur,R,hb,hc,hsz⟩:=h.lies
 obtain⟨e1,e2⟩:=zfm h.len hj
 have hk:=h.len D[j] (List.getElem_mem hj)
 rw[e1,List.append_assoc,List.append_assoc]at hc
 obtain⟨w',k1,k2,k3,cur',k4,k5⟩:=zc2 (o:=j*k) x 0 w (D.take j).flatten D[j] ((D.drop (j+1)).flatten++R) cur hb (by rw[hc];simp) (by simpa using e2) (by rw[hk,hx]) h1
 refine⟨by simp[Value.cells,hx,hs],hi,w',by simpa [Value.cells] using k1,hK w' k2 ⟨⟨cur',R,k4,?_,?_⟩,?_,?_⟩ k3⟩
 ·have e3:(D.set j x).flatten=(D.take j).flatten++x++(D.drop (j+1)).flatten:=by
   rw[List.set_eq_take_append_cons_drop,if_pos hj];simp
  rw[k5,e3];simp
 ·have l1:=congrArg List.length k5
  have l2:=congrArg List.length hc
  simp only[List.length_append,Array.length_toList]at l1 l2
  omega
 ·intro y hy
  rcases List.mem_or_eq_of_mem_set hy with hy|rfl
  ·exact h.len y hy
  ·exact hx
 ·intro y hy
  rcases List.mem_or_eq_of_mem_set hy with hy|rfl
  ·exact h.ones y hy
  ·exact h1
theorem SD.keep{k:Nat}{w x:World}{b:Nat}{e:TypeId}{cap:Nat}{D:List (List Value)}{S:Nat→Prop}(h:SD k w b e cap D)(hk:Keep S w x)(hS:¬S b):SD k x b e cap D:=by
 obtain⟨⟨cur,R,hb,hr⟩,h1,h2⟩:=h
 exact⟨⟨cur,R,(hk.block _ (Array.getElem?_eq_some_iff.1 hb).1 hS).trans hb,hr⟩,h1,h2⟩
theorem SD.ext{k:Nat}{w x:World}{b:Nat}{e:TypeId}{cap:Nat}{D:List (List Value)}(h:SD k w b e cap D)(hE:Ext w x):SD k x b e cap D:=h.keep hE (fun h=>h)
theorem SD.lt{k:Nat}{w:World}{b:Nat}{e:TypeId}{cap:Nat}{D:List (List Value)}(h:SD k w b e cap D):b<w.heap.size:=by
 obtain⟨cur,R,hb,_⟩:=h.lies
 exact(Array.getElem?_eq_some_iff.1 hb).1
def ldAX(P:Program)(w:World)(t:TypeId)(p:Option Addr):Bool→Nat→Option Value
 |true,k=>(zaq w p k).map fun l=> .agg l.toArray
 |false,_=>ldP P w t p
theorem ldA_X{P:Program}{w:World}{t:TypeId}(p:Option Addr):ldA P w t p=ldAX P w t p (tyA P t) (tyS P t):=by
 cases hA:tyA P t with
 |true=>exact zja hA
 |false=>rfl
theorem zjb{P:Program}{w:World}{t:TypeId}(p:Option Addr)(k:Nat):ldAX P w t p true k=(zaq w p k).map fun l=> .agg l.toArray:=nr rfl
attribute [go_sem] ldA_X zjb
theorem zaa{w:World}{b i:Nat}{cur:Array Value}{e:TypeId}{fr:Nat×Nat}{v:Value}(h:w.heap[b]? =some (.cells cur e fr))(hv:cur[i]? =some v):zad w (some ⟨b,i,Option.none⟩)=some v:=by
 show w.cell? _=_
 rw[zbT h];exact hv
def zd4(k:Nat):List Value→List (Nat×Value)
 | []=>[]
 |v::l=>(k,v)::zd4 (k+1) l
theorem zf9:∀(l:List Value) (k:Nat) (cells:Array Value),(∀v∈l,v.cells=#[v])→k+l.length≤cells.size→
  ∃r,Instr.fill (fun i=>some (i*1,1)) cells (zd4 k l)=some r∧r.toList=cells.toList.take k++l++cells.toList.drop (k+l.length)
 | [],k,cells,_,_=>⟨cells,rfl,by simp⟩
 |v::l,k,cells,h,hk=>by
  simp only[List.length_cons]at hk
  have hv:=h v (List.mem_cons_self ..)
  obtain⟨r,h1,h2⟩:=zf9 l (k+1) (cells.setIfInBounds k v) (fun u hu=>h u (List.mem_cons_of_mem _ hu)) (by simp;omega)
  refine⟨r,?_,?_⟩
  ·unfold zd4 Instr.fill
   simp only[hv,Nat.mul_one]
   have:¬((#[v]:Array Value).size≠1∨k+(#[v]:Array Value).size>cells.size):=by simp;omega
   rw[if_neg (by simpa using this)]
   simpa using h1
  ·rw[h2,Array.toList_setIfInBounds,List.take_set,List.drop_set_of_lt (by omega)]
   have hlt:k<cells.toList.length:=by simp;omega
   rw[zal hlt]
   have e1:(cells.toList.take k).length=k:=by rw[List.length_take];omega
   rw[List.set_append_right _ _ (by omega),e1,Nat.sub_self,List.set_cons_zero]
   simp[Nat.add_assoc,Nat.add_comm 1]
section
variable {P : Program} {w : World} {K : Value → World → Prop}
theorem zft{t e:TypeId}{z:Value}{l:List Value}{n:Nat}{parts:List (Nat×Value)}(hn:n=l.length)(hp:parts=zd4 0 l)(hu:tyU P t=some (.slice e))(hz:tyZ P e=some z)(hs:tyS P e=1)(hz1:z.cells=#[z])(hv:∀v∈l,v.cells=#[v])(hl:l.length≤1000000)
  (h:∀w1,Ext w w1→w1.heap.size=w.heap.size+1→Own w.heap.size w1 e (.slice (some ⟨w.heap.size,0,Option.none⟩) n n) l→K (.slice (some ⟨w.heap.size,0,Option.none⟩) n n) w1):bsL P t n parts w K .mk:=by
 subst hn hp
 unfold bsL bsK
 have hsz:((Array.range (l.length*1)).map fun x=>z.cells[x % z.cells.size]!).size=l.length:=by simp
 obtain⟨r,h1,h2⟩:=zf9 l 0 ((Array.range (l.length*1)).map fun x=>z.cells[x % z.cells.size]!) hv (by rw[hsz];omega)
 have hr:r.toList=l:=by
  rw[h2,List.take_zero,List.nil_append,Nat.zero_add,List.drop_of_length_le (by rw[Array.length_toList,hsz];exact Nat.le_refl _),List.append_nil]
 have:bsC P t l.length (zd4 0 l)=some (e,r):=by
  unfold bsC
  rw[hu]
  simp only[hz,hs]
  have c1:(decide (l.length*1≤2 ^ 24) && decide (z.cells.size=1))=true:=by rw[hz1];simp;omega
  rw[c1,cond_true,h1];rfl
 rw[this]
 have hrs:r.size=l.length:=by rw[←hr];simp
 exact h _ (Ext.alloc w _) (zaB w _) ⟨by simp,.inr ⟨w.heap.size,l.length,r,rfl,Nat.le_refl _,zax w _,Nat.le_refl _,by simp[maxLen];omega,by simpa using hrs,by rw[hr];simp⟩⟩
end
abbrev v32(n:Int):Value:= .int .u32 n
structure DatL where
 ty:Int
 names:List Nm
 nums:List Int
 texts:List Lab
 raw:List UInt8
structure RecL where
 owner:Nm
 ttl:Int
 dat:DatL
structure DatAt(w:World)(cs:List Value)(d:DatL):Prop where
 ex:∃nm nu tx rw,cs=[vi d.ty,nm,nu,tx,rw]∧NamesAt w nm d.names∧Row w nu (d.nums.map v32)∧Row w tx (d.texts.map vs)∧Row w rw (d.raw.map zao)
structure RecAt(w:World)(cs:List Value)(r:RecL):Prop where
 ex:∃ow ds,cs=ow::v32 r.ttl::ds∧Row w ow (r.owner.map vs)∧DatAt w ds r.dat
theorem DatAt.ext{w x:World}{cs:List Value}{d:DatL}(h:DatAt w cs d)(hE:Ext w x):DatAt x cs d:=by
 obtain⟨nm,nu,tx,rw,e,h1,h2,h3,h4⟩:=h.ex
 exact⟨nm,nu,tx,rw,e,h1.ext hE,h2.ext hE,h3.ext hE,h4.ext hE⟩
theorem RecAt.ext{w x:World}{cs:List Value}{r:RecL}(h:RecAt w cs r)(hE:Ext w x):RecAt x cs r:=by
 obtain⟨ow,ds,e,h1,h2⟩:=h.ex
 exact⟨ow,ds,e,h1.ext hE,h2.ext hE⟩
structure OwnK(k B:Nat)(w:World)(e:TypeId)(v:Value)(L:List (List Value)):Prop where
 own:w.ownsRow B e k v L.length L.flatten
 len:∀x∈L,x.length=k
 ones:∀x∈L,∀v∈x,one v=true
section
variable {P : Program} {d : Option Tmp} {ty : TypeId} {ps : String} {af : Array Edge} {g : Option (Nat × Bool)} {ρ : Operand → Value} {w : World} {K : Value → World → Prop}
theorem OwnK.nil(k B:Nat)(w:World)(e:TypeId):OwnK k B w e (.slice Option.none 0 0) []:=⟨⟨by simp,.inl ⟨rfl,rfl⟩⟩,fun x h=>(by cases h),fun x h=>(by cases h)⟩
theorem OwnK.ge{k B:Nat}{e:TypeId}{v:Value}{L:List (List Value)}(h:OwnK k B w e v L){b:Nat}(hb:some b=v.ownBlock):B≤b∧b<w.heap.size:=by
 rcases h.own.2 with ⟨rfl,_⟩| ⟨g,cap,cur,rfl,hg,hc,_⟩
 ·cases hb
 ·cases hb;exact⟨hg,(Array.getElem?_eq_some_iff.1 hc).1⟩
theorem OwnK.keep{k B:Nat}{e:TypeId}{v:Value}{L:List (List Value)}{x:World}{S:Nat→Prop}(h:OwnK k B w e v L)(hk:Keep S w x)(hS:∀b,some b=v.ownBlock→¬S b):OwnK k B x e v L:=by
 obtain⟨⟨h1,h2⟩,h3,h4⟩:=h
 refine⟨⟨h1,?_⟩,h3,h4⟩
 rcases h2 with h2| ⟨g,cap,cur,hv,hb,hg,rest⟩
 ·exact .inl h2
 ·exact .inr ⟨g,cap,cur,hv,hb,(hk.block _ (Array.getElem?_eq_some_iff.1 hg).1 (hS _ (by rw[hv];rfl))).trans hg,rest⟩
theorem OwnK.ext{k B:Nat}{e:TypeId}{v:Value}{L:List (List Value)}{x:World}(h:OwnK k B w e v L)(hk:Ext w x):OwnK k B x e v L:=h.keep hk (fun _ _ h=>h)
theorem OwnK.mono{k B B':Nat}{e:TypeId}{v:Value}{L:List (List Value)}(h:OwnK k B w e v L)(hB:B'≤B):OwnK k B' w e v L:=by
 obtain⟨⟨h1,h2⟩,h3,h4⟩:=h
 refine⟨⟨h1,?_⟩,h3,h4⟩
 rcases h2 with h2| ⟨g,cap,cur,hv,hb,rest⟩
 ·exact .inl h2
 ·exact .inr ⟨g,cap,cur,hv,by omega,rest⟩
theorem OwnK.cases{k B:Nat}{e:TypeId}{v:Value}{L:List (List Value)}(h:OwnK k B w e v L):
  (v= .slice Option.none 0 0∧L=[])∨∃b cap,v= .slice (some ⟨b,0,Option.none⟩) L.length cap∧B≤b∧L.length≤cap∧cap≤maxLen∧SD k w b e cap L:=by
 obtain⟨⟨h1,h2⟩,h3,h4⟩:=h
 rcases h2 with ⟨rfl,h0⟩| ⟨g,cap,cur,rfl,hg,hb,hn,hm,hcs,hx⟩
 ·exact .inl ⟨rfl,List.length_eq_zero_iff.1 h0⟩
 ·refine .inr ⟨g,cap,rfl,hg,hn,hm,⟨cur,cur.toList.drop (L.length*k),hb,?_,hcs⟩,h3,h4⟩
  rw[←hx,List.take_append_drop]
theorem OwnK.of_sd{k B b cap:Nat}{e:TypeId}{L:List (List Value)}(h:SD k w b e cap L)(hB:B≤b)(hc:L.length≤cap)(hm:cap≤maxLen):OwnK k B w e (.slice (some ⟨b,0,Option.none⟩) L.length cap) L:=by
 obtain⟨cur,R,hb,e1,e2⟩:=h.lies
 refine⟨⟨zbd h.len,.inr ⟨b,cap,cur,rfl,hB,hb,hc,hm,e2,?_⟩⟩,h.len,h.ones⟩
 rw[e1,List.take_left' (zbd h.len)]
theorem OwnK.rowK{k B:Nat}{e:TypeId}{v:Value}{L:List (List Value)}(h:OwnK k B w e v L):RowK k w v L:=by
 rcases h.cases with ⟨rfl,rfl⟩| ⟨b,cap,rfl,_,hc,_,hD⟩
 ·exact⟨Option.none,0,rfl,Nat.le_refl _,fun j h=>by simp at h⟩
 ·exact⟨_,cap,rfl,hc,fun j hj=>by rw[zaZ,Nat.zero_add];exact hD.get hj⟩
theorem Src1.of_rowK{k:Nat}{u:Value}{L:List (List Value)}(h:RowK k w u L)(hk:∀x∈L,x.length=k):Src1 w u L.length k L.flatten:=by
 obtain⟨a,c,rfl,hc,hl⟩:=h
 refine⟨a,c,rfl,zbd hk,fun j hj=>?_⟩
 rw[zbd hk]at hj
 have hk0:0<k:=Nat.pos_of_ne_zero (fun h=>by subst h;simp at hj)
 have hq:j / k<L.length:=Nat.div_lt_of_lt_mul (by rw[Nat.mul_comm];exact hj)
 obtain⟨e1,e2⟩:=zfm hk hq
 have hlen:=hk L[j / k] (List.getElem_mem hq)
 have hr:j % k<L[j / k].length:=by rw[hlen];exact Nat.mod_lt _ hk0
 have hg:=zaR (hl (j / k) hq) hr
 have hj2:j / k*k+j % k=j:=by rw[Nat.mul_comm];exact Nat.div_add_mod j k
 rw[zdw,hj2]at hg
 rw[hg]
 have:L.flatten[j]? =some L[j / k][j % k]:=by
  rw[e1,List.append_assoc,List.getElem?_append_right (by rw[e2];omega),List.getElem?_append_left (by rw[e2];omega),e2]
  rw[show j - j / k*k=j % k from by omega]
  exact List.getElem?_eq_getElem hr
 rw[List.getElem?_eq_getElem (by rw[zbd hk];exact hj)]at this
 exact this.symm
theorem ziV{k B:Nat}{s x:Operand}{t e:TypeId}{inf:TypeInfo}{z:Value}{bytes:Nat}{v u:Value}{L N:List (List Value)}(hown:OwnK k B w e v L)(hrow:RowK k w u N)
  (ht:tyU P t=some (.slice e)) (hi:P.info? e=some inf) (hz:inf.zero=some z)
  (hsize:inf.size=k) (hby:inf.bytes=bytes) (hzs:z.cells.size=k) (hk0:0<k) (hv:ρ s=v) (hu:ρ x=u)
  (hl:∀x∈N,x.length=k) (h1:∀x∈N,∀q∈x,one q=true) (hlen:L.length+N.length≤100000000000) (hbytes:bytes≤1000) (hB:B≤w.heap.size)
  (h:∀v' w',OwnK k B w' e v' (L++N)→(∀w0,Ext w0 w→w0.heap.size≤B→Ext w0 w')→Keep (fun b=>some b=v.ownBlock) w w'→(∀b,some b=v'.ownBlock→some b=v.ownBlock∨w.heap.size≤b)→(v'= .slice Option.none 0 0→v= .slice Option.none 0 0)→K v' w'):
  opW P ⟨d,.call ⟨.builtin .append,#[s,x],#[t,t]⟩,ty,ps,af,g⟩ ρ w K:=by
 refine zfW (B:=B) (m:=N.length) (xs:=L.flatten) (news:=N.flatten) (n:=L.length) ht hi hz hsize hby hzs hk0 hv hu hown.own (Src1.of_rowK hrow hl) ?_ (by simp[maxLen];omega) ?_ hB ?_
 ·intro q hq
  obtain⟨y,hy,hq⟩:=List.mem_flatten.1 hq
  exact h1 y hy q hq
 ·have:(L.length+N.length)*bytes≤100000000000*1000:=Nat.mul_le_mul hlen hbytes
  omega
 ·intro v' w' ho hk hw
  refine h v' w' ⟨by simpa using ho,?_,?_⟩ (fun w0 hE hB0=>?_) hk hw.2 (fun hv'=>(hw.1.1 hv').1)
  ·intro y hy
   rcases List.mem_append.1 hy with hy|hy
   ·exact hown.len y hy
   ·exact hl y hy
  ·intro y hy
   rcases List.mem_append.1 hy with hy|hy
   ·exact hown.ones y hy
   ·exact h1 y hy
  ·exact Keep.to_ext hE rfl (fun b hb=>by have:=(hown.ge hb).1;omega) hk
theorem bs_nilK{k:Nat}{t e:TypeId}{z:Value}(hu:tyU P t=some (.slice e))(hz:tyZ P e=some z)(hs:tyS P e=k)(hz1:z.cells.size=k)
  (h:∀w1,Ext w w1→w1.heap.size=w.heap.size+1→OwnK k w.heap.size w1 e (.slice (some ⟨w.heap.size,0,Option.none⟩) 0 0) []→K (.slice (some ⟨w.heap.size,0,Option.none⟩) 0 0) w1):bsL P t 0 [] w K .mk:=by
 unfold bsL bsK
 have:bsC P t 0 []=some (e,#[]):=by simp[bsC,hu,hz,hs,hz1,Instr.fill]
 rw[this]
 exact h _ (Ext.alloc w _) (zaB w _) ⟨⟨by simp,.inr ⟨w.heap.size,0,#[],rfl,Nat.le_refl _,zax w _,Nat.le_refl _,by decide,by simp,by simp⟩⟩,fun x h=>(by cases h),fun x h=>(by cases h)⟩
theorem zfK:∀(l:List Value) (n:Nat) (cells:Array Value),n+l.length≤cells.size→((l.zipIdx n).foldl (fun cs (x:Value×Nat)=>cs.setIfInBounds (0+x.2) x.1) cells).toList=cells.toList.take n++l++cells.toList.drop (n+l.length)
 | [],n,cells,_=>by simp
 |v::l,n,cells,h=>by
  simp only[List.length_cons]at h
  rw[List.zipIdx_cons,List.foldl_cons,zfK l (n+1) _ (by simp;omega)]
  rw[Nat.zero_add,Array.toList_setIfInBounds,List.take_set,List.drop_set_of_lt (by omega)]
  have hlt:n<cells.toList.length:=by simp;omega
  rw[zal hlt]
  have e1:(cells.toList.take n).length=n:=by rw[List.length_take];omega
  rw[List.set_append_right _ _ (by omega),e1,Nat.sub_self,List.set_cons_zero]
  simp[Nat.add_assoc,Nat.add_comm 1]
theorem fill_agg{l:List Value}{k:Nat}{cells:Array Value}(hl:l.length=k)(hc:cells.size=k):
  ∃r,Instr.fill (fun i=>some (i*k,k)) cells [(0,.agg l.toArray)]=some r∧r.toList=l:=by
 refine⟨(l.zipIdx 0).foldl (fun cs (x:Value×Nat)=>cs.setIfInBounds (0+x.2) x.1) cells,?_,?_⟩
 ·unfold Instr.fill
  have hcl:(Value.agg l.toArray).cells=l.toArray:=rfl
  have c1:(decide (l.toArray.size≠k)||decide (0*k+l.toArray.size>cells.size))=false:=by simp[hl,hc]
  simp only[hcl]
  rw[if_neg (by rw[c1];exact Bool.false_ne_true)]
  show some _=some _
  congr 1
  rw[Nat.zero_mul]
  simp[Array.foldl_toList,←Array.foldl_toList]
 ·rw[zfK l 0 cells (by omega)]
  simp[hl,hc]
theorem bs_oneK{k:Nat}{t e:TypeId}{z:Value}{l:List Value}(hu:tyU P t=some (.slice e))(hz:tyZ P e=some z)(hs:tyS P e=k)(hz1:z.cells.size=k)(hl:l.length=k)(hk:k≤1000)(h1:∀q∈l,one q=true)
  (h:∀w1,Ext w w1→w1.heap.size=w.heap.size+1→OwnK k w.heap.size w1 e (.slice (some ⟨w.heap.size,0,Option.none⟩) 1 1) [l]→K (.slice (some ⟨w.heap.size,0,Option.none⟩) 1 1) w1):bsL P t 1 [(0,.agg l.toArray)] w K .mk:=by
 unfold bsL bsK
 obtain⟨r,hr1,hr2⟩:=fill_agg (cells:=(Array.range (1*k)).map (z.cells[· % z.cells.size]!)) hl (by simp)
 have:bsC P t 1 [(0,.agg l.toArray)]=some (e,r):=by
  unfold bsC
  rw[hu]
  simp only[hz,hs]
  have c1:(decide (1*k≤2 ^ 24) && decide (z.cells.size=k))=true:=by rw[hz1];simp;omega
  rw[c1,cond_true,hr1];rfl
 rw[this]
 have hsz:r.size=k:=by rw[←hl,←hr2];simp
 exact h _ (Ext.alloc w _) (zaB w _) ⟨⟨by simp[hl],.inr ⟨w.heap.size,1,r,rfl,Nat.le_refl _,zax w _,Nat.le_refl _,by decide,by simpa using hsz,by rw[hr2];simp[←hl]⟩⟩,fun x h=>(by rw[List.mem_singleton.1 h];exact hl),fun x h=>(by rw[List.mem_singleton.1 h];exact h1)⟩
theorem zcr(w:World)(A B:Obj):Ext w ((w.alloc A).alloc B)∧((w.alloc A).alloc B).heap.size=w.heap.size+2∧((w.alloc A).alloc B).heap[w.heap.size]? =some A∧((w.alloc A).alloc B).heap[w.heap.size+1]? =some B:=by
 have s1:=zaB w A
 have s2:=zaB (w.alloc A) B
 have b1:=zax w A
 have b2:=zax (w.alloc A) B
 rw[s1]at s2 b2
 exact⟨(Ext.alloc w A).trans (Ext.alloc _ B),s2,(RowKit.Below.heap_alloc _ B _ (by rw[s1];omega)).trans b1,b2⟩
theorem zgT(w:World)(A B C:Obj):Ext w (((w.alloc A).alloc B).alloc C)∧(((w.alloc A).alloc B).alloc C).heap.size=w.heap.size+3∧(((w.alloc A).alloc B).alloc C).heap[w.heap.size]? =some A∧(((w.alloc A).alloc B).alloc C).heap[w.heap.size+1]? =some B∧(((w.alloc A).alloc B).alloc C).heap[w.heap.size+2]? =some C:=by
 obtain⟨h1,h2,h3,h4⟩:=zcr w A B
 have s3:=zaB ((w.alloc A).alloc B) C
 have b3:=zax ((w.alloc A).alloc B) C
 rw[h2]at s3 b3
 exact⟨h1.trans (Ext.alloc _ C),s3,(RowKit.Below.heap_alloc _ C _ (by rw[h2];omega)).trans h3,(RowKit.Below.heap_alloc _ C _ (by rw[h2];omega)).trans h4,b3⟩
theorem eqIn_sl{t e:TypeId}(h:P.underlying t=some (.slice e))(n:Nat)(a:Option Addr)(l c:Nat):
  (Op.equalIn (n+1) t (.slice a l c) (.slice Option.none 0 0)).run P w= .ok a.isNone w:=by
 cases a<;>simp[Op.equalIn,underlying,program,Sem.run,h]
theorem zjt{t e yt:TypeId}{x y:Operand}{a:Option Addr}{n c:Nat}(ht:tyU P t=some (.slice e))(hx:ρ x= .slice a n c)(hy:ρ y= .slice Option.none 0 0)(h:K (.bool a.isNone) w):
  opW P ⟨d,.binOp .eql t x y yt,ty,ps,af,g⟩ ρ w K:=by
 have h2:(Op.equal t (.slice a n c) (.slice Option.none 0 0)).run P w= .ok a.isNone w:=eqIn_sl (show P.underlying t=_ from ht) 9999 a n c
 have hr:(do eqGuard .eql t x y (.slice a n c) (.slice Option.none 0 0);binOp .eql t (.slice a n c) (.slice Option.none 0 0):Sem Value).run P w= .ok (.bool a.isNone) w:=by
  simp[eqGuard,binOp,h2]
 have:=zaw (P:=P) (K:=K) hr h
 rw[←hx,←hy]at this
 exact this
end
section
variable {α : Type}
end
section
variable {α : Type} {lt : α → α → Prop}
end
section
variable {α β : Type}
end
section
variable {α : Type} (cf : α → α → Int) (jn : α → α → α)
variable {cf jn}
end
section
variable {α β : Type} {cf : α → α → Int} {jn : α → α → α}
end
/-! ### records -/
section
variable {α : Type}
def Rows(k:Nat)(C:List Value→α→Prop)(w:World)(v:Value)(xs:List α):Prop:=∃L,RowK k w v L∧L.length=xs.length∧∀i (h:i<L.length) (h':i<xs.length),C L[i] xs[i]
def Owns(k:Nat)(C:List Value→α→Prop)(B:Nat)(w:World)(e:TypeId)(v:Value)(xs:List α):Prop:=∃L,OwnK k B w e v L∧L.length=xs.length∧∀i (h:i<L.length) (h':i<xs.length),C L[i] xs[i]
structure zgU(k:Nat)(C:List Value→α→Prop):Prop where
 len:∀{cs:List Value} {a:α},C cs a→cs.length=k
 ones:∀{cs:List Value} {a:α},C cs a→∀q∈cs,one q=true
variable {k B : Nat} {C C' : List Value → α → Prop} {w x : World} {v : Value} {xs : List α} {e : TypeId}
theorem Rows.ext(h:Rows k C w v xs)(hE:Ext w x):Rows k C x v xs:=by
 obtain⟨L,h1,h2,h3⟩:=h
 exact⟨L,h1.ext hE,h2,h3⟩
theorem Rows.to(h:Rows k C w v xs)(hC:∀cs a,C cs a→C' cs a):Rows k C' w v xs:=by
 obtain⟨L,h1,h2,h3⟩:=h
 exact⟨L,h1,h2,fun i h h'=>hC _ _ (h3 i h h')⟩
theorem Owns.ext(h:Owns k C B w e v xs)(hE:Ext w x):Owns k C B x e v xs:=by
 obtain⟨L,h1,h2,h3⟩:=h
 exact⟨L,h1.ext hE,h2,h3⟩
theorem Owns.keep{S:Nat→Prop}(h:Owns k C B w e v xs)(hk:Keep S w x)(hS:∀b,some b=v.ownBlock→¬S b):Owns k C B x e v xs:=by
 obtain⟨L,h1,h2,h3⟩:=h
 exact⟨L,h1.keep hk hS,h2,h3⟩
theorem Owns.rows(h:Owns k C B w e v xs):Rows k C w v xs:=by
 obtain⟨L,h1,h2,h3⟩:=h
 exact⟨L,h1.rowK,h2,h3⟩
theorem Owns.nil(k:Nat)(C:List Value→α→Prop)(B:Nat)(w:World)(e:TypeId):Owns k C B w e (.slice Option.none 0 0) []:=⟨[],OwnK.nil _ _ _ _,rfl,fun i h=>absurd h (by simp)⟩
theorem Rows.nil(k:Nat)(C:List Value→α→Prop)(w:World):Rows k C w (.slice Option.none 0 0) []:=(Owns.nil k C 0 w 0).rows
theorem Owns.mono{B':Nat}(h:Owns k C B w e v xs)(hB:B'≤B):Owns k C B' w e v xs:=by
 obtain⟨L,h1,h2,h3⟩:=h
 exact⟨L,OwnK.mono h1 hB,h2,h3⟩
theorem Owns.ge(h:Owns k C B w e v xs){b:Nat}(hb:some b=v.ownBlock):B≤b∧b<w.heap.size:=by
 obtain⟨L,h1,_⟩:=h
 exact h1.ge hb
theorem Rows.open(h:Rows k C w v xs):∃a c,v= .slice a xs.length c∧xs.length≤c∧∀i (h:i<xs.length),∃cs,zaq w (adr a (i*k)) k=some cs∧C cs xs[i]:=by
 obtain⟨L,⟨a,c,rfl,hc,hg⟩,h2,h3⟩:=h
 refine⟨a,c,by rw[h2],by omega,fun i hi=>⟨L[i]'(by omega),hg i (by omega),h3 i (by omega) hi⟩⟩
theorem zhh{D:Nat→List Value→Prop}:∀(m:Nat),(∀i,i<m→∃cs,D i cs)→∃L:List (List Value),L.length=m∧∀i (h:i<L.length),D i L[i]
 |0,_=>⟨[],rfl,fun i h=>absurd h (by simp)⟩
 |m+1,h=>by
  obtain⟨L,hl,hL⟩:=zhh m (fun i hi=>h i (by omega))
  obtain⟨cs,h1⟩:=h m (by omega)
  refine⟨L++ [cs],by simp[hl],fun i hi=>?_⟩
  by_cases he:i<L.length
  ·rw[List.getElem_append_left he];exact hL i he
  ·have hi0:i=L.length:=by simp at hi;omega
   have e1:(L++ [cs])[i]=cs:=by simp[hi0]
   rw[e1,hi0,hl];exact h1
theorem Rows.close{a:Option Addr}{c:Nat}(hc:xs.length≤c)(h:∀i (h:i<xs.length),∃cs,zaq w (adr a (i*k)) k=some cs∧C cs xs[i]):Rows k C w (.slice a xs.length c) xs:=by
 obtain⟨L,hl,hL⟩:=zhh (D:=fun i cs=>∀h:i<xs.length,zaq w (adr a (i*k)) k=some cs∧C cs xs[i]) xs.length (fun i hi=>by
  obtain⟨cs,h1⟩:=h i hi
  exact⟨cs,fun _=>h1⟩)
 exact⟨L,⟨a,c,by rw[hl],by omega,fun i hi=>(hL i hi (by omega)).1⟩,hl,fun i h h'=>(hL i h h').2⟩
theorem all_app{L M:List (List Value)}{ys:List α}(hl:L.length=xs.length)(hm:M.length=ys.length)(h:∀q (h:q<L.length) (h':q<xs.length),C L[q] xs[q])(hM:∀q (h:q<M.length) (h':q<ys.length),C M[q] ys[q]):
  ∀q (h:q<(L++M).length) (h':q<(xs++ys).length),C (L++M)[q] (xs++ys)[q]:=by
 intro q h1 h2
 by_cases hq:q<L.length
 ·rw[List.getElem_append_left hq,List.getElem_append_left (by omega)];exact h q hq (by omega)
 ·have e1:(L++M)[q]=M[q - L.length]'(by simp at h1;omega):=List.getElem_append_right (by omega)
  have e2:(xs++ys)[q]=ys[q - L.length]'(by simp at h2;omega):=by rw[List.getElem_append_right (by omega)];simp[hl]
  rw[e1,e2];exact hM _ _ _
theorem Rows.drop{a:Option Addr}{c n:Nat}(h:Rows k C w (.slice a n c) xs){m:Nat}(hm:m≤n):Rows k C w (.slice (if c=m then a else adr a (m*k)) (n - m) (c - m)) (xs.drop m):=by
 obtain⟨a',c',hv',hc,hg⟩:=h.open
 have e1:a=a':=by injection hv'
 have e2:n=xs.length:=by injection hv'
 have e3:c=c':=by injection hv'
 subst e1 e2 e3
 rw[show xs.length - m=(xs.drop m).length from(List.length_drop ..).symm]
 refine Rows.close (by rw[List.length_drop];omega) (fun i hi=>?_)
 rw[List.length_drop]at hi
 obtain⟨cs,h1,h2⟩:=hg (m+i) (by omega)
 refine⟨cs,?_,by rw[List.getElem_drop];exact h2⟩
 rw[if_neg (by omega),zdw,←Nat.add_mul];exact h1
theorem Rows.take{a:Option Addr}{c n:Nat}(h:Rows k C w (.slice a n c) xs){m c2:Nat}(hm:m≤n)(hc2:m≤c2):Rows k C w (.slice a m c2) (xs.take m):=by
 obtain⟨a',c',hv',hc,hg⟩:=h.open
 have e1:a=a':=by injection hv'
 have e2:n=xs.length:=by injection hv'
 subst e1 e2
 have hl:(xs.take m).length=m:=by rw[List.length_take];omega
 have:=Rows.close (k:=k) (C:=C) (w:=w) (a:=a) (c:=c2) (xs:=xs.take m) (by omega) (fun i hi=>by
  rw[hl]at hi
  obtain⟨cs,h1,h2⟩:=hg i (by omega)
  exact⟨cs,h1,by rw[List.getElem_take];exact h2⟩)
 rwa [hl]at this
theorem Rows.len{a:Option Addr}{c n:Nat}(h:Rows k C w (.slice a n c) xs):n=xs.length∧xs.length≤c:=by
 obtain⟨a',c',hv',hc,hg⟩:=h.open
 have e2:n=xs.length:=by injection hv'
 have e3:c=c':=by injection hv'
 exact⟨e2,by omega⟩
theorem Rows.get{a:Option Addr}{c n:Nat}(h:Rows k C w (.slice a n c) xs){i:Nat}(hi:i<xs.length):∃cs,zaq w (adr a (i*k)) k=some cs∧C cs xs[i]:=by
 obtain⟨a',c',hv',hc,hg⟩:=h.open
 have e1:a=a':=by injection hv'
 subst e1
 exact hg i hi
theorem Owns.cases(h:Owns k C B w e v xs):
  (v= .slice Option.none 0 0∧xs=[])∨∃b cap L,v= .slice (some ⟨b,0,Option.none⟩) xs.length cap∧B≤b∧xs.length≤cap∧cap≤maxLen∧SD k w b e cap L∧L.length=xs.length∧∀i (h:i<L.length) (h':i<xs.length),C L[i] xs[i]:=by
 obtain⟨L,h1,h2,h3⟩:=h
 rcases h1.cases with ⟨hv,h0⟩| ⟨b,cap,hv,hb,hc,hm,hD⟩
 ·refine .inl ⟨hv,?_⟩
  rw[h0]at h2
  exact List.length_eq_zero_iff.1 h2.symm
 ·exact .inr ⟨b,cap,L,by rw[hv,h2],hb,by omega,hm,hD,h2,h3⟩
end
section
variable {P : Program} {d : Option Tmp} {ty : TypeId} {ps : String} {af : Array Edge} {g : Option (Nat × Bool)} {ρ : Operand → Value} {w : World} {K : Value → World → Prop} {α : Type} {k : Nat} {C : List Value → α → Prop}
theorem Ext.at{w x:World}(h:Ext w x){b:Nat}{O:Obj}(hb:w.heap[b]? =some O):x.heap[b]? =some O:=(h.block _ (Array.getElem?_eq_some_iff.1 hb).1 (fun h=>h)).trans hb
theorem zam{f:Option Nat}{n:Nat}{c:Code}{Q:Post}{σ:Sto}{ds:List Deferred}{O:Obj}(h:∀w1,Ext w w1→w1.heap.size=w.heap.size+1→w1.heap[w.heap.size]? =some O→W P f n c Q σ ds w1):W P f n c Q σ ds (w.alloc O):=
 h _ (Ext.alloc w O) (zaB w O) (zax w O)
theorem zfy{f:Option Nat}{n:Nat}{c:Code}{Q:Post}{σ:Sto}{ds:List Deferred}{A B:Obj}(h:∀w1,Ext w w1→w1.heap.size=w.heap.size+2→w1.heap[w.heap.size]? =some A→w1.heap[w.heap.size+1]? =some B→W P f n c Q σ ds w1):W P f n c Q σ ds ((w.alloc A).alloc B):=by
 obtain⟨h1,h2,h3,h4⟩:=zcr w A B
 exact h _ h1 h2 h3 h4
theorem zd6(hC:zgU k C){B:Nat}{s x:Operand}{t e:TypeId}{inf:TypeInfo}{z:Value}{bytes:Nat}{v u:Value}{xs ys:List α}(hown:Owns k C B w e v xs)(hrow:Rows k C w u ys)
  (ht:tyU P t=some (.slice e)) (hi:P.info? e=some inf) (hz:inf.zero=some z)
  (hsize:inf.size=k) (hby:inf.bytes=bytes) (hzs:z.cells.size=k) (hk0:0<k) (hv:ρ s=v) (hu:ρ x=u)
  (hlen:xs.length+ys.length≤100000000000) (hbytes:bytes≤1000) (hB:B≤w.heap.size)
  (h:∀v' w',Owns k C B w' e v' (xs++ys)→(∀w0,Ext w0 w→w0.heap.size≤B→Ext w0 w')→Keep (fun b=>some b=v.ownBlock) w w'→(∀b,some b=v'.ownBlock→some b=v.ownBlock∨w.heap.size≤b)→K v' w'):
  opW P ⟨d,.call ⟨.builtin .append,#[s,x],#[t,t]⟩,ty,ps,af,g⟩ ρ w K:=by
 obtain⟨L,h1,h2,h3⟩:=hown
 obtain⟨M,m1,m2,m3⟩:=hrow
 have hMl:∀x∈M,x.length=k:=fun x hx=>by
  obtain⟨i,hi,rfl⟩:=List.getElem_of_mem hx
  exact hC.len (m3 i hi (by omega))
 have hM1:∀x∈M,∀q∈x,one q=true:=fun x hx=>by
  obtain⟨i,hi,rfl⟩:=List.getElem_of_mem hx
  exact hC.ones (m3 i hi (by omega))
 refine ziV h1 m1 ht hi hz hsize hby hzs hk0 hv hu hMl hM1 (by omega) hbytes hB ?_
 intro v' w' ho hE hk hb _
 exact h v' w' ⟨L++M,ho,by simp[h2,m2],all_app h2 m2 h3 m3⟩ hE hk hb
theorem zeo(hC:zgU k C){t e:TypeId}{z:Value}{l:List Value}{a:α}(hu:tyU P t=some (.slice e))(hz:tyZ P e=some z)(hs:tyS P e=k)(hz1:z.cells.size=k)(hl:C l a)(hk:k≤1000)
  (h:∀w1,Ext w w1→w1.heap.size=w.heap.size+1→Owns k C w.heap.size w1 e (.slice (some ⟨w.heap.size,0,Option.none⟩) 1 1) [a]→K (.slice (some ⟨w.heap.size,0,Option.none⟩) 1 1) w1):bsL P t 1 [(0,.agg l.toArray)] w K .mk:=by
 refine bs_oneK hu hz hs hz1 (hC.len hl) hk (hC.ones hl) ?_
 intro w1 hE hsz ho
 refine h w1 hE hsz ⟨[l],ho,rfl,fun i h h'=>?_⟩
 have:i=0:=by simp at h;omega
 subst this
 exact hl
end
theorem flat_set{k:Nat}{D:List (List Value)}(h:∀x∈D,x.length=k){j i:Nat}(hj:j<D.length)(hi:i<k)(v:Value):(D.set j (D[j].set i v)).flatten=D.flatten.set (j*k+i) v:=by
 obtain⟨e1,e2⟩:=zfm h hj
 have hk:=h D[j] (List.getElem_mem hj)
 have e3:(D.set j (D[j].set i v)).flatten=(D.take j).flatten++D[j].set i v++(D.drop (j+1)).flatten:=by
  rw[List.set_eq_take_append_cons_drop,if_pos hj];simp
 rw[e3,e1,List.append_assoc,List.append_assoc,List.set_append_right _ _ (by omega),e2,show j*k+i - j*k=i from by omega,List.set_append_left _ _ (by omega)]
theorem SD.setAt{k:Nat}{w:World}{b:Nat}{e:TypeId}{cap:Nat}{D:List (List Value)}(h:SD k w b e cap D){P:Program}{t:TypeId}{K:Value→World→Prop}{j i:Nat}(hj:j<D.length)(hi:i<k){v:Value}(hv:one v=true)
  (hs:tyS P t=1) (hin:(P.info? t).isSome=true) (hK:∀w',w'.heap.size=w.heap.size→SD k w' b e cap (D.set j (D[j].set i v))→Keep (fun i=>i=b) w w'→K undef w'):
  stK P t (.pointer (some ⟨b,j*k+i,Option.none⟩)) v w K:=by
 obtain⟨cur,R,hb,hc,hsz⟩:=h.lies
 have hfl:=zbd h.len
 have hlt:j*k+i<D.flatten.length:=by
  rw[hfl]
  have:(j+1)*k≤D.length*k:=Nat.mul_le_mul_right k hj
  rw[Nat.succ_mul]at this;omega
 have hcl:cur.size=D.flatten.length+R.length:=by
  have:=congrArg List.length hc
  simpa using this
 refine zan hs hin hv hb (by omega) (by simp) ?_
 intro w' hs' hb' hk'
 refine hK w' hs' ⟨⟨_,R,hb',?_,by simpa using hsz⟩,?_,?_⟩ hk'
 ·rw[Array.toList_setIfInBounds,hc,flat_set h.len hj hi,List.set_append_left _ _ hlt]
 ·intro y hy
  rcases List.mem_or_eq_of_mem_set hy with hy|rfl
  ·exact h.len y hy
  ·rw[List.length_set];exact h.len _ (List.getElem_mem hj)
 ·intro y hy
  rcases List.mem_or_eq_of_mem_set hy with hy|rfl
  ·exact h.ones y hy
  ·intro q hq
   rcases List.mem_or_eq_of_mem_set hq with hq|rfl
   ·exact h.ones _ (List.getElem_mem hj) q hq
   ·exact hv
theorem zfs{w:World}{a:Addr}{v:Value}(h:w.cell? a=some v):a.block<w.heap.size:=by
 apply Classical.byContradiction
 intro hn
 unfold World.cell? at h
 rw[Array.getElem?_eq_none (by omega)]at h
 cases h
theorem cells_lt{w:World}{p:Option Addr}{k:Nat}{l:List Value}(h:zaq w p k=some l)(hk:0<k){a:Addr}(ha:p=some a):a.block<w.heap.size:=by
 subst ha
 have hl:=zh6 h
 have h1:zaG w a 0 k=some l:=h
 have:=zfs (zds h1 0 (by omega))
 have e:(a.add (0+0)).block=a.block:=by unfold Addr.add;split<;>rfl
 rwa [e]at this
section
variable {P : Program} {w : World} {K : Value → World → Prop} {α : Type} {k : Nat} {C : List Value → α → Prop}
theorem zjH{b n:Nat}{cur:Array Value}{e:TypeId}{fr:Nat×Nat}(h:w.heap[b]? =some (.cells cur e fr))(hn:n=cur.size):zaq w (some ⟨b,0,Option.none⟩) n=some cur.toList:=by
 rw[zau h (by omega),List.drop_zero,List.take_of_length_le (by simp[hn])]
end
section
variable {α : Type} {k B : Nat} {C : List Value → α → Prop} {w x : World} {v : Value} {xs : List α} {e : TypeId}
theorem zbK(a:Addr)(i:Nat):(a.add i).block=a.block:=by unfold Addr.add;split<;>rfl
theorem zb0{a:Addr}(h:x.heap[a.block]? =w.heap[a.block]?):x.cell? a=w.cell? a:=by unfold World.cell?;rw[h]
theorem zek{a:Addr}(h:x.heap[a.block]? =w.heap[a.block]?):∀(k i:Nat),zaG x a i k=zaG w a i k
 |0,_=>rfl
 |k+1,i=>by
  have e1:x.cell? (a.add i)=w.cell? (a.add i):=zb0 (by rw[zbK];exact h)
  have e2:=zek h k (i+1)
  unfold zaG
  rw[e1,e2]
theorem zem{p:Option Addr}(h:∀a,p=some a→x.heap[a.block]? =w.heap[a.block]?)(k:Nat):zaq x p k=zaq w p k:=by
 cases p with
 |none=>rfl
 |some a=>exact zek (h a rfl) k 0
theorem Rows.blocks(h:Rows k C w v xs)(hb:∀a n c,v= .slice (some a) n c→x.heap[a.block]? =w.heap[a.block]?):Rows k C x v xs:=by
 obtain⟨L,⟨a,c,rfl,hc,hl⟩,h2,h3⟩:=h
 refine⟨L,⟨a,c,rfl,hc,fun j hj=>?_⟩,h2,h3⟩
 rw[←hl j hj]
 refine zem (fun p hp=>?_) k
 cases a with
 |none=>cases hp
 |some a=>
  have:p.block=a.block:=by
   simp only[adr,Option.map_some,Option.some.injEq]at hp
   rw[←hp,zbK]
  rw[this];exact hb a _ _ rfl
def BlkB(B:Nat)(w:World)(v:Value):Prop:=∀a n c,v= .slice (some a) n c→B≤a.block∧a.block<w.heap.size
theorem BlkB.ext(h:BlkB B w v)(hs:w.heap.size≤x.heap.size):BlkB B x v:=fun a n c hv=>⟨(h a n c hv).1,Nat.lt_of_lt_of_le (h a n c hv).2 hs⟩
theorem BlkB.mono{B':Nat}(h:BlkB B w v)(hB:B'≤B):BlkB B' w v:=fun a n c hv=>⟨Nat.le_trans hB (h a n c hv).1,(h a n c hv).2⟩
theorem BlkB.nil{n c:Nat}:BlkB B w (.slice Option.none n c):=fun a n c hv=>by cases hv
theorem Rows.keep(h:Rows k C w v xs){S:Nat→Prop}(hk:Keep S w x)(hB:BlkB B w v)(hS:∀b,B≤b→b<w.heap.size→¬S b):Rows k C x v xs:=
 h.blocks fun a n c hv=>hk.block _ (hB a n c hv).2 (hS _ (hB a n c hv).1 (hB a n c hv).2)
theorem zel{w:World}{a:Addr}:∀(i m k:Nat) {l:List Value},zaG w a i (m+k)=some l→zaG w a (i+m) k=some (l.drop m)
 |i,0,k,l,h=>by rw[Nat.zero_add]at h;simpa using h
 |i,m+1,k,l,h=>by
  rw[show m+1+k=(m+k)+1 from by omega]at h
  unfold zaG at h
  split at h
  ·rename_i v l' h1 h2
   cases h
   have:=zel (i+1) m k h2
   rw[show i+1+m=i+(m+1) from by omega]at this
   simpa using this
  ·cases h
theorem zgk{w:World}{a:Addr}{m:Nat}:∀(k i:Nat),zaG w (a.add m) i k=zaG w a (m+i) k
 |0,_=>rfl
 |k+1,i=>by
  have e:=zgk (w:=w) (a:=a) (m:=m) k (i+1)
  unfold zaG
  rw[zdF,e];rfl
theorem zcC{w:World}{p:Option Addr}{m k:Nat}{l:List Value}(h:zaq w p (m+k)=some l):zaq w (adr p m) k=some (l.drop m):=by
 cases p with
 |none=>cases h
 |some a=>
  show zaG w (a.add m) 0 k=_
  rw[zgk,Nat.add_zero]
  have:=zel 0 m k (show zaG w a 0 (m+k)=some l from h)
  rwa [Nat.zero_add]at this
theorem zbw{b o n:Nat}(h:b<n):offS (zdx n) (some ⟨b,o,Option.none⟩):=fun a ha hb=>by
 cases ha
 unfold zdx at hb
 exact absurd (show n≤b from hb) (by omega)
theorem zaP{w x:World}(h:x=w.drew):Ext w x:=h▸Keep.drew NoS w
/-! ### a variable of several cells -/
variable {P : Program} {K : Value → World → Prop}
theorem zaK{t:TypeId}{b:Nat}{cur:Array Value}{l:List Value}(hb:w.heap[b]? =some (.cells cur e (0,0)))(hl:l.length=cur.size)(h1:∀v∈l,one v=true)(hs:tyS P t=l.length)(hi:(P.info? t).isSome=true)
  (hK:∀w',w'.heap.size=w.heap.size→w'.heap[b]? =some (.cells l.toArray e (0,0))→Keep (fun i=>i=b) w w'→K undef w'):stK P t (.pointer (some ⟨b,0,Option.none⟩)) (.agg l.toArray) w K:=by
 obtain⟨w',k1,k2,k3,cur',k4,k5⟩:=zc2 (o:=0) l 0 w [] cur.toList [] cur hb (by simp) rfl (by simp[hl]) h1
 refine⟨by simp[Value.cells,hs],hi,w',by simpa [Value.cells] using k1,hK w' k2 ?_ k3⟩
 rw[k4]
 have:cur'=l.toArray:=by
  apply Array.ext'
  simpa using k5
 rw[this]
theorem zcG{t:TypeId}{b j:Nat}{u:Value}{l:List Value}(hb:w.heap[b]? =some (.cells l.toArray e (0,0)))(hj:j<l.length)(h1:one u=true)(hs:tyS P t=1)(hi:(P.info? t).isSome=true)
  (hK:∀w',w'.heap.size=w.heap.size→w'.heap[b]? =some (.cells (l.set j u).toArray e (0,0))→Keep (fun i=>i=b) w w'→K undef w'):stK P t (.pointer (some ⟨b,j,Option.none⟩)) u w K:=by
 refine zan hs hi h1 hb (by simpa using hj) (by simp) ?_
 intro w' h1 h2 h3
 refine hK w' h1 ?_ h3
 rw[h2];simp
theorem za1{b j:Nat}{u:Value}{l:List Value}(hb:w.heap[b]? =some (.cells l.toArray e (0,0)))(hj:l[j]? =some u):zad w (some ⟨b,j,Option.none⟩)=some u:=by
 show w.cell? _=_
 rw[zbT hb];simpa using hj
theorem zai{b n:Nat}{l:List Value}(hb:w.heap[b]? =some (.cells l.toArray e (0,0)))(hn:n=l.length):zaq w (some ⟨b,0,Option.none⟩) n=some l:=by
 have:=zjH (n:=n) hb (by simp[hn])
 simpa using this
end
end Go.Proofs.YtihbdhjibplldaaGreatDoor
namespace Go.Proofs.YtihbdhjibplldaaGreatDoor.S_rec
open Go Go.Proofs.YtihbdhjibplldaaGreatDoor
set_option maxRecDepth 10000
section
variable {α : Type} {enc : α → List Value}
end
section
variable {α : Type} {enc : α → List Value}
end
section
variable {α : Type} {enc : α → List Value}
end
section
variable {α : Type} {enc : α → List Value}
end
end Go.Proofs.YtihbdhjibplldaaGreatDoor.S_rec
namespace Go.Proofs.YtihbdhjibplldaaGreatDoor
open Go
section
variable {α : Type} {lt older : α → α → Prop}
end
end Go.Proofs.YtihbdhjibplldaaGreatDoor
namespace Go.Proofs.YtihbdhjibplldaaGreatDoor.S_rec
open Go Go.Proofs.YtihbdhjibplldaaGreatDoor
set_option maxRecDepth 10000
section
variable {α : Type} {enc : α → List Value}
end
theorem Clip_ok{w:World}{v:Value}{L:List (List Value)}(hr:RowK 7 w v L):Fn Tryz.prog 34 #[v] w (fun u w'=>RowK 7 w' u L∧w'=w):=by
 obtain⟨a,c,rfl,hc,hl⟩:=hr
 refine enter Tryz.func34 Tryz.ntmps34 rfl rfl ?_
 repeat refine c_r ?_
 refine rg0 ?_
 repeat refine c_r ?_
 refine rq ?_;intro gd K hgd hK
 try simp only[go_sem]
 have hcl:slD Tryz.prog (some (TypeDesc.slice 36)) (Value.slice a L.length c) Option.none (some (Value.int IntKind.i64 ↑L.length)) (some (Value.int IntKind.i64 ↑L.length))=some (.slice a L.length L.length):=s_clip hc (by rfl)
 rw[hcl]
 try simp only[go_sem]
 refine hK _ _ ?_;clear hK hgd;clear K;try clear gd
 repeat refine c_r ?_
 refine rt0 Tryz.ntmps34 ?_
 exact⟨⟨a,L.length,rfl,Nat.le_refl _,hl⟩,rfl⟩
section
variable {α : Type} {enc : α → List Value}
end
end Go.Proofs.YtihbdhjibplldaaGreatDoor.S_rec
namespace Go.Proofs.YtihbdhjibplldaaGreatDoor
open Go
set_option maxRecDepth 10000
def RecsAt(w:World)(v:Value)(R:List RecL):Prop:=Rows 7 (RecAt w) w v R
def IterT{α:Type}(P:Program)(g:FuncId)(cap:Array Value)(W0:World)(n0:Nat)(C T:Nat→Prop)(own:Nat)(Pre:List α→α→Prop)(Full:List α→Prop)(enc:Nat→α→World→Array Value→Prop):Prop:=
 ∀(l:Nat) (J Jx:List α→World→Prop) (W:World),Ext W0 W→n0≤W.heap.size→
  (∀pre A B,J pre A→Keep (fun b=>span W.heap.size own b∨T b) A B→J pre B)→(∀pre A B,Jx pre A→Keep (fun b=>span W.heap.size own b∨T b) A B→Jx pre B)→
  (∀pre x A args,Pre pre x→J pre A→W.heap.size+own≤A.heap.size→KeepB n0 (fun b=>C b∨T b) W A→enc W.heap.size x A args→Yld P l args A (fun v B=>
   (v= .bool true∧J (pre++ [x]) B∧KeepB n0 C A B∧∀b,span W.heap.size own b→B.heap[b]? =A.heap[b]?)∨(v= .bool false∧Jx (pre++ [x]) B)))→
  J [] W→Fn P g (#[.func (.yield l) #[] #[]]++cap) W (fun _ B=>(∃xs,Full xs∧J xs B)∨∃pre x,Pre pre x∧Jx (pre++ [x]) B)
theorem W_rangeT{α:Type}{P:Program}{n:Nat}{f:Operand}{ps:Array Tmp}{assign body:Code}{Q:Post}{σ:Sto}{ds:List Deferred}{w:World}
  {g:FuncId} {cap:Array Value} {W0:World} {n0:Nat} {C T:Nat→Prop} {own:Nat} {Pre:List α→α→Prop} {Full:List α→Prop} {enc:Nat→α→World→Array Value→Prop}
  (hf:ev n σ f= .func (.func g) #[] cap) (hc:zah P g=true) (hit:IterT P g cap W0 n0 C T own Pre Full enc) (hW0:Ext W0 w) (hn0:n0≤w.heap.size) (hCn:∀b,C b→b<w.heap.size) (hTn:∀b,T b→b<w.heap.size)
  (henc:∀x A args,enc (w.heap.size+2) x A args→args.size=ps.size)
  (I:List α→World→Prop) (Ix:Code→List α→World→Prop)
  (hI:∀pre A B,I pre A→Keep (fun b=>span w.heap.size (2+own) b∨T b) A B→I pre B)
  (hIx:∀c pre A B,Ix c pre A→Keep (fun b=>span w.heap.size (2+own) b∨T b) A B→Ix c pre B)
  (h0:I [] w)
  (hround:∀(l:Nat) (pre:List α) (x:α) (A:World) (args:Array Value),Pre pre x→w.heap.size+2+own≤A.heap.size→I pre A→enc (w.heap.size+2) x A args→
   W P (some l) n assign (zc0 (fun σ1 ds1 A1=>ds1=[]∧KeepB (w.heap.size+2+own) C A A1∧∀A2,Keep (two w.heap.size) A1 A2→W P (some l) n body (ziF I Ix (w.heap.size+2+own) C (pre++ [x]) A2) σ1 [] A2) (fun _ _ _ _=>False))
    (zdH σ (ps.zip args).toList) [] A)
  (hdone:∀xs w',Full xs→w.heap.size+2≤w'.heap.size→I xs w'→w'.heap[w.heap.size]? =some (.deferred (some []))→Q .normal σ ({target:= .collected w.heap.size,args:=#[]}::ds) w')
  (hstop:∀c pre x w',w.heap.size+2≤w'.heap.size→Pre pre x→Ix c (pre++ [x]) w'→w'.heap[w.heap.size]? =some (.deferred (some []))→
   W P Option.none n c Q σ ({target:= .collected w.heap.size,args:=#[]}::ds) w'):
  W P Option.none n (.rangeFunc f ps assign body) Q σ ds w:=by
 refine wpIn_rangeFunc ?_
 intro fn _
 generalize hrec:zfQ fn (act n σ ds).tmps ps assign body w.heap.size=rec
 obtain⟨W1,hW1⟩:∃W1,(w.alloc (.deferred (some []))).alloc (.loop (rec .ready Option.none))=W1:=⟨_,rfl⟩
 have hsz1:W1.heap.size=w.heap.size+2:=by rw[←hW1];simp
 have hL1:W1.heap[w.heap.size+1]? =some (.loop (rec .ready Option.none)):=by
  rw[←hW1];have:=World.alloc_heap_new (w.alloc (.deferred (some []))) (.loop (rec .ready Option.none));rwa [World.size_alloc]at this
 have hK1:W1.heap[w.heap.size]? =some (.deferred (some [])):=by
  rw[←hW1];exact(RowKit.Below.heap_alloc _ _ _ (by simp)).trans (World.alloc_heap_new w _)
 have hE1:Ext w W1:=by rw[←hW1];exact(Ext.alloc w _).trans (Ext.alloc _ _)
 have hI1:I [] W1:=hI _ _ _ h0 (hE1.mono (fun _ _ h=>h.elim))
 have hl2:two w.heap.size (w.heap.size+1):= .inr rfl
 have hl2':span w.heap.size (2+own) (w.heap.size+1):=by unfold span;omega
 refine⟨w.heap.size+1,[{target:= .collected w.heap.size,args:=#[]}],W1,{target:= .fn (.func g) cap,args:=#[.func (.yield (w.heap.size+1)) #[] #[]]},W1,g,
  #[.func (.yield (w.heap.size+1)) #[] #[]]++cap,W1,?_,?_,?_,?_,zdd,?_⟩
 ·rw[←hW1,←hrec];exact run_enterLoop_outer _ _ _ _ _
 ·simp only[resolve,zca,hf]
  simp[Deferred.ofValue,ev]
 ·intro f' hf';trivial
 ·simp only[invoke];exact zcf hc
 ·-- the iterator's contract
  have hsp:∀{n:Nat} b,b<n→(span W1.heap.size own b∨T b)→(span w.heap.size (2+own) b∨T b):=fun b _ h=>h.imp (fun h=>by unfold span at*;omega) id
  have hno:∀b,two w.heap.size b→¬(span W1.heap.size own b∨T b):=fun b hb h=>by
   rcases h with h|h
   ·unfold span at h;unfold two at hb;omega
   ·have:=hTn _ h;unfold two at hb;omega
  have hCl:∀b,two w.heap.size b→¬C b:=fun b hb hcb=>by have:=hCn b hcb;rcases hb with rfl|rfl<;>omega
  refine zcU (CallsIn.mono (hit (w.heap.size+1)
   (fun pre B=>I pre B∧w.heap.size+2≤B.heap.size∧B.heap[w.heap.size+1]? =some (.loop (rec .ready Option.none))∧B.heap[w.heap.size]? =some (.deferred (some [])))
   (fun pre B=>∃c,Ix c pre B∧w.heap.size+2≤B.heap.size∧B.heap[w.heap.size+1]? =some (.loop (rec .done (some c)))∧B.heap[w.heap.size]? =some (.deferred (some [])))
   W1 (hW0.trans hE1) (by omega) ?_ ?_ ?_ ⟨hI1,by omega,hL1,hK1⟩) ?_)
  ·rintro pre A B ⟨hi,hs,hl,hk⟩ hAB
   exact⟨hI _ _ _ hi (hAB.mono hsp),Nat.le_trans hs hAB.size,(hAB.block _ (by omega) (hno _ hl2)).trans hl,(hAB.block _ (by omega) (hno _ (.inl rfl))).trans hk⟩
  ·rintro pre A B ⟨c,hi,hs,hl,hk⟩ hAB
   exact⟨c,hIx _ _ _ _ hi (hAB.mono hsp),Nat.le_trans hs hAB.size,(hAB.block _ (by omega) (hno _ hl2)).trans hl,(hAB.block _ (by omega) (hno _ (.inl rfl))).trans hk⟩
  ·-- one round
   rintro pre x A args hxs ⟨hi,hs,hl,hk⟩ hsA _ hx
   rw[hsz1]at hx
   have hy:=run_yield (P:=P) (args:=args) hl (by rw[←hrec];exact henc x A args hx)
   unfold Yld zgl
   dsimp only
   rw[show (#[]++args:Array Value)=args from by simp]
   rw[hy,←hrec]
   dsimp only[zfQ,opR]
   refine zcN (r:=Option.none) (n:=0) (roundIn_of_wpIn (F:=fw Option.none) (n:=0) trivial ?_)
   have hin:(fw Option.none).inRound (w.heap.size+1)=fw (some (w.heap.size+1)):=rfl
   rw[hin]
   have hfold:(ps.zip args).foldl (fun t (x:Tmp×Value)=>t.setIfInBounds x.1 x.2) (act n σ ds).tmps=(act n (zdH σ (ps.zip args).toList) []).tmps:=by
    rw[←Array.foldl_toList]
    exact zcQ n ds _ σ
   have hst:({tmps:=(ps.zip args).foldl (fun t (x:Tmp×Value)=>t.setIfInBounds x.1 x.2) (act n σ ds).tmps,defers:=[]}:Act)=act n (zdH σ (ps.zip args).toList) []:=by
    rw[hfold];rfl
   have hr:=hround (w.heap.size+1) pre x A args hxs (by omega) hi hx
   unfold W at hr
   rw[←hst]at hr
   refine wpIn_mono hr ?_
   rintro e a A1 ⟨σ1,ds1,rfl,hq⟩
   cases e with
   |normal=>
    obtain⟨rfl,hA1,hbody⟩:=hq
    have hlA1:A1.heap[w.heap.size+1]? =some (.loop (rec .ready Option.none)):=(hA1.block _ (by omega) (hCl _ hl2)).trans hl
    have hkA1:A1.heap[w.heap.size]? =some (.deferred (some [])):=(hA1.block _ (by omega) (hCl _ (.inl rfl))).trans hk
    have hlt1:w.heap.size+1<A1.heap.size:=(Array.getElem?_eq_some_iff.1 hlA1).1
    refine⟨_,run_beginRound hlA1 (by rw[←hrec];rfl),?_⟩
    have hb:=hbody _ (zaD (w:=A1) (r:=w.heap.size+1) (o:= .loop {rec .ready Option.none with state:= .busy}) hl2)
    refine wpIn_mono hb ?_
    have hlA2:(A1.putObj (w.heap.size+1) (.loop {rec .ready Option.none with state:= .busy})).heap[w.heap.size+1]? =some (.loop {rec .ready Option.none with state:= .busy}):=World.putObj_heap_same hlt1
    have hkA2:(A1.putObj (w.heap.size+1) (.loop {rec .ready Option.none with state:= .busy})).heap[w.heap.size]? =some (.deferred (some [])):=(World.putObj_heap_other (by omega)).trans hkA1
    have fin:∀(jump:Option Code) (B:World),KeepB (w.heap.size+2+own) C (A1.putObj (w.heap.size+1) (.loop {rec .ready Option.none with state:= .busy})) B→
      (Instr.endRound (w.heap.size+1) jump).run P B= .ok (.bool jump.isNone) (B.putObj (w.heap.size+1) (.loop (rec (if jump.isNone then .ready else .done) jump)))∧
      w.heap.size+2≤(B.putObj (w.heap.size+1) (.loop (rec (if jump.isNone then .ready else .done) jump))).heap.size∧
      (B.putObj (w.heap.size+1) (.loop (rec (if jump.isNone then .ready else .done) jump))).heap[w.heap.size+1]? =some (.loop (rec (if jump.isNone then .ready else .done) jump))∧
      (B.putObj (w.heap.size+1) (.loop (rec (if jump.isNone then .ready else .done) jump))).heap[w.heap.size]? =some (.deferred (some []))∧
      KeepB n0 C A (B.putObj (w.heap.size+1) (.loop (rec (if jump.isNone then .ready else .done) jump)))∧
      ∀b,span W1.heap.size own b→(B.putObj (w.heap.size+1) (.loop (rec (if jump.isNone then .ready else .done) jump))).heap[b]? =A.heap[b]?:=by
     intro jump B hB
     have hlB:=(hB.block _ (by omega) (hCl _ hl2)).trans hlA2
     have hkB:=(hB.block _ (by omega) (hCl _ (.inl rfl))).trans hkA2
     have hltB:w.heap.size+1<B.heap.size:=(Array.getElem?_eq_some_iff.1 hlB).1
     refine⟨?_,by simp;omega,World.putObj_heap_same hltB,(World.putObj_heap_other (by omega)).trans hkB,?_,?_⟩
     ·have:=run_endRound (P:=P) jump hlB
      rw[←hrec]at this ⊢
      exact this
     ·refine(hA1.mono (by omega) (fun _ _ h=>h)).trans (KeepB.trans ?_ ((hB.mono (by omega) (fun _ _ h=>h)).trans ?_))
      ·exact(zaD (S:=two w.heap.size) hl2).toB (by omega) (fun i hi hs=>by rcases hs with rfl|rfl<;>omega)
      ·exact(zaD (S:=two w.heap.size) hl2).toB (by omega) (fun i hi hs=>by rcases hs with rfl|rfl<;>omega)
     ·intro b hb
      unfold span at hb
      have hCb:¬C b:=fun h=>by have:=hCn b h;omega
      exact(World.putObj_heap_other (by omega)).trans ((hB.block b (by omega) hCb).trans ((World.putObj_heap_other (by omega)).trans (hA1.block b (by omega) hCb)))
    rintro e a B ⟨σ2,ds2,rfl,hq⟩
    cases e with
    |normal=>
     obtain⟨hi',hB⟩:=hq
     obtain⟨h1,h2,h3,h4,h5,h6⟩:=fin Option.none B hB
     exact⟨_,_,h1,_,rfl,.inl ⟨rfl,⟨hI _ _ _ hi' (zaD (.inl hl2')),h2,h3.trans (by rw[←hrec];rfl),h4⟩,h5,h6⟩⟩
    |ret=>
     obtain⟨hi',hB⟩:=hq
     obtain⟨h1,h2,h3,h4,h5,_⟩:=fin (some .ret) B hB
     exact⟨_,_,h1,_,rfl,.inr ⟨rfl,_,hIx _ _ _ _ hi' (zaD (.inl hl2')),h2,h3.trans (by rw[←hrec];rfl),h4⟩⟩
    |exit id=>
     obtain⟨hi',hB⟩:=hq
     obtain⟨h1,h2,h3,h4,h5,_⟩:=fin (some (.exit id)) B hB
     exact⟨_,_,h1,_,rfl,.inr ⟨rfl,_,hIx _ _ _ _ hi' (zaD (.inl hl2')),h2,h3.trans (by rw[←hrec];rfl),h4⟩⟩
    |goto t=>
     obtain⟨hi',hB⟩:=hq
     obtain⟨h1,h2,h3,h4,h5,_⟩:=fin (some (.goto t)) B hB
     exact⟨_,_,h1,_,rfl,.inr ⟨rfl,_,hIx _ _ _ _ hi' (zaD (.inl hl2')),h2,h3.trans (by rw[←hrec];rfl),h4⟩⟩
    |panic c=>exact hq.elim
    |outgrown=>exact hq.elim
   |ret=>exact hq.elim
   |exit id=>exact hq.elim
   |goto t=>exact hq.elim
   |panic c=>exact hq.elim
   |outgrown=>exact hq.elim
  ·rintro e B ⟨v,rfl,h⟩
   rcases h with ⟨xs,hfull,hi,hs,hl,hk⟩| ⟨pre,x,hxs,c,hi,hs,hl,hk⟩
   ·have hend:=run_endLoop (P:=P) hl (by rw[←hrec];simp[zfQ])
    have hp:(rec LoopState.ready Option.none).pending=Option.none:=by rw[←hrec];rfl
    rw[hp]at hend
    refine⟨Option.none,_,hend,?_⟩
    exact⟨σ,_,rfl,hdone xs _ hfull (by simp;omega) (hI _ _ _ hi (zaD (.inl hl2'))) ((World.putObj_heap_other (by omega)).trans hk)⟩
   ·have hend:=run_endLoop (P:=P) hl (by rw[←hrec];simp[zfQ])
    have hp:(rec LoopState.done (some c)).pending=some c:=by rw[←hrec];rfl
    rw[hp]at hend
    refine⟨some c,_,hend,?_⟩
    exact hstop c pre x _ (by simp;omega) hxs (hIx _ _ _ _ hi (zaD (.inl hl2'))) ((World.putObj_heap_other (by omega)).trans hk)
section
variable {α : Type} {cf : α → α → Int} {jn : α → α → α}
end
theorem RecAt.ttl{w:World}{cs:List Value}{r:RecL}(h:RecAt w cs r):cs[1]? =some (v32 r.ttl):=by
 obtain⟨ow,ds,rfl,_⟩:=h.ex
 rfl
theorem RecAt.cells{w0:World}{cs:List Value}{r:RecL}(h:RecAt w0 cs r):∃ow ds,cs=[ow,v32 r.ttl]++ds∧Row w0 ow (r.owner.map vs)∧DatAt w0 ds r.dat∧cs[0]? =some ow∧cs[1]? =some (v32 r.ttl)∧cs[2]? =some (vi r.dat.ty)∧cs.drop 2=ds:=by
 obtain⟨ow,ds,rfl,h1,h2⟩:=h.ex
 obtain⟨nm,nu,tx,rw',rfl,_⟩:=h2.ex
 exact⟨ow,_,rfl,h1,h2,rfl,rfl,rfl,rfl⟩
theorem zfx{P:Program}{w:World}{f:Option Nat}{n:Nat}{c:Code}{Q:Post}{σ:Sto}{ds:List Deferred}{A B C:Obj}(h:∀w1,Ext w w1→w1.heap.size=w.heap.size+3→w1.heap[w.heap.size]? =some A→w1.heap[w.heap.size+1]? =some B→w1.heap[w.heap.size+1+1]? =some C→W P f n c Q σ ds w1):W P f n c Q σ ds (((w.alloc A).alloc B).alloc C):=by
 obtain⟨h1,h2,h3,h4,h5⟩:=zgT w A B C
 exact h _ h1 h2 h3 h4 h5
section
variable {P : Program} {n : Nat} {σ : Sto} {w : World} {l : List ResultVar} {r : List Value}
theorem zae:resV P n σ w []=some []:=rfl
theorem zac{t:Tmp}{v:Value}(hv:ev n σ (.tmp t)=v)(h:resV P n σ w l=some r):resV P n σ w (.tmp t::l)=some (v::r):=by
 unfold resV
 rw[h,←hv];rfl
theorem zaL{a:Tmp}{t:TypeId}{x:Addr}{k:Nat}{cs:List Value}(hv:ev n σ (.tmp a)= .pointer (some x))(hA:tyA P t=true)(hk:tyS P t=k)(hc:zaq w (some x) k=some cs)(h:resV P n σ w l=some r):resV P n σ w (.cell a t::l)=some (.agg cs.toArray::r):=by
 subst hk
 unfold resV
 rw[show (if a<n then σ a else undef)= .pointer (some x) from hv]
 have:ldV P w t x=some (.agg cs.toArray):=by
  unfold ldV
  rw[hA,cond_true,show zaG w x 0 (tyS P t)=some cs from hc];rfl
 simp only[this,h]
theorem zb4{a:Tmp}{t:TypeId}{x:Addr}{v:Value}(hv:ev n σ (.tmp a)= .pointer (some x))(hA:tyA P t=false)(hU:(tyU P t).isSome=true)(hc:zad w (some x)=some v)(h:resV P n σ w l=some r):resV P n σ w (.cell a t::l)=some (v::r):=by
 unfold resV
 rw[show (if a<n then σ a else undef)= .pointer (some x) from hv]
 have:ldV P w t x=some v:=by
  unfold ldV
  rw[hA,cond_false,hU,cond_true];exact hc
 simp only[this,h]
theorem zaf{fn:Func}{R:Value→World→Prop}{e:Exit}(he:e= .normal∨e= .ret)(hm:fn.ntmps=n){rs:List ResultVar}(hl:fn.results.toList=rs)(hr:resV P n σ w rs=some r)(h:R (resT r) w):retQ P fn R e σ [] w:=by
 subst hm hl
 exact⟨he,trivial,r,hr,h⟩
theorem zcw{fn:Func}{R:Value→World→Prop}{e:Exit}{D:Nat}(he:e= .normal∨e= .ret)(hm:fn.ntmps=n){rs:List ResultVar}(hl:fn.results.toList=rs)(hD:w.heap[D]? =some (.deferred (some [])))
  (h:∀w',Keep (fun b=>b=D) w w'→w'.heap.size=w.heap.size→∃r,resV P n σ w' rs=some r∧R (resT r) w'):retQ P fn R e σ [{target:= .collected D,args:=#[]}] w:=by
 subst hm hl
 obtain⟨r,h1,h2⟩:=h (w.putObj D (.deferred Option.none)) (zaD rfl) (by simp)
 exact⟨he,⟨D,rfl,hD,trivial⟩,r,h1,h2⟩
end
theorem zf3{w0 w x:World}{n0:Nat}{C:Nat→Prop}(hE:Ext w0 w)(hk:KeepB n0 C w x)(hn:w0.heap.size≤n0)(hC:∀b,C b→w0.heap.size≤b):Ext w0 x:=
 ⟨hk.os.trans hE.os,hk.tape.trans hE.tape,hk.output.trans hE.output,Nat.le_trans hE.size hk.size,fun b hb h=>by
  rw[hk.block b (by omega) (fun h=>by have:=hC b h;omega)]
  exact hE.block b hb (fun h=>h),Nat.le_trans hE.drawn hk.drawn⟩
theorem Own.blk{B:Nat}{w:World}{e:TypeId}{v:Value}{l:List Value}(h:Own B w e v l):BlkB B w v:=fun a n c hv=>(h.rowB).2 a n c hv
theorem zkc{w:World}{v:Value}{n:Nm}(hr:Row w v (n.map vs))(hlen:n.length≤1000000000000):
  Fn Tryz.prog 141 #[v] w (fun u w'=>Own w.heap.size w' 9 u (n.map vs)∧Ext w w'):=by
 have hr':=hr
 obtain⟨a,c,rfl,hc,hl⟩:=hr
 refine enter Tryz.func141 Tryz.ntmps141 rfl rfl ?_
 repeat refine c_r ?_
 refine rg0 ?_
 repeat refine c_r ?_
 refine rq ?_;intro gd K hgd hK
 try simp only[go_sem]
 refine zjt (by rfl) (by rfl) (by rfl) ?_
 try simp only[go_sem]
 refine hK _ _ ?_;clear hK hgd;clear K;try clear gd
 repeat refine c_r ?_
 cases a with
 |none=>
  have:n=[]:=by
   cases n with
   |nil=>rfl
   |cons x L=>have:=hl 0 (by simp);simp[zad,adr]at this
  subst this
  refine wc0 ?_ ?_
  ·intro _
   repeat refine c_r ?_
   refine rg0 ?_
   repeat refine c_r ?_
   refine rt0 Tryz.ntmps141 ?_
   exact⟨Own.nil _ _ _,Keep.refl _ _⟩
  ·intro h;cases h
 |some a=>
  refine wc0 ?_ ?_
  ·intro h;cases h
  intro _
  repeat refine c_r ?_
  refine rq ?_;intro gd K hgd hK
  try simp only[go_sem]
  refine zhA (z:=vs []) (by rfl) (by rfl) (by rfl) (by rfl) ?_
  intro w1 hE1 hs1 ho1
  try simp only[go_sem]
  refine za2 (B:=w.heap.size) ho1 (hr'.ext hE1) (by rfl) (by rfl) (by rfl) (by rfl) (by rfl) (by rfl) (by rfl) (by rfl) (ones_vs _) (by simp;omega) (by decide) (by omega) ?_
  intro v' w2 ho2 hE2 _ _
  try simp only[go_sem]
  refine hK _ _ ?_;clear hK hgd;clear K;try clear gd
  repeat refine c_r ?_
  refine rt0 Tryz.ntmps141 ?_
  exact⟨by simpa using ho2,hE2 w hE1 (Nat.le_refl _)⟩
theorem findL_at{α:Type}{p:α→Bool}{l pre suf:List α}{x:α}(h:l=pre++x::suf)(hp:∀y∈pre,p y=false)(hx:p x=true):l.find? p=some x:=by
 rw[h,List.find?_append]
 have:pre.find? p=Option.none:=by
  rw[List.find?_eq_none]
  intro y hy
  rw[hp y hy];exact Bool.false_ne_true
 rw[this]
 simp[hx]
theorem zh0{α:Type}{p:α→Bool}{l:List α}(hp:∀y∈l,p y=false):l.find? p=Option.none:=by
 rw[List.find?_eq_none]
 intro y hy
 rw[hp y hy];exact Bool.false_ne_true
def errL(l:Lab):Int:=if l=[] then 8 else if 63<l.length then 3 else 0
def lenN(n:Nm):Nat:=1+(n.map fun l=>1+l.length).sum
def zaX(n:Nm):Int:=match n.find? (fun l=>decide (errL l≠0)) with
 |some l=>errL l
 |Option.none=>if 255<lenN n then 3 else 0
theorem zgt(w:World)(l:Lab)(hl:l.length≤9000000000000000000):Fn Tryz.prog 167 #[vs l] w (fun v w'=>v=vi (errL l)∧Ext w w'):=by
 refine enter Tryz.func167 Tryz.ntmps167 rfl rfl ?_
 repeat refine c_r ?_
 refine rg0 ?_
 repeat refine c_r ?_
 refine rg0 ?_
 repeat refine c_r ?_
 refine wc0 ?_ ?_
 ·intro h
  simp only[decide_eq_true_eq]at h
  repeat (first|refine c_r ?_|refine rg0 ?_)
  refine rt0 Tryz.ntmps167 ?_
  exact⟨by unfold errL;rw[if_pos h],Keep.refl _ _⟩
 intro h
 simp only[decide_eq_false_iff_not]at h
 repeat refine c_r ?_
 refine rg0 ?_
 repeat refine c_r ?_
 refine wc0 ?_ ?_
 ·intro h2
  simp only[decide_eq_true_eq]at h2
  repeat (first|refine c_r ?_|refine rg0 ?_)
  refine rt0 Tryz.ntmps167 ?_
  exact⟨by unfold errL;rw[if_neg h,if_pos (by omega)],Keep.refl _ _⟩
 ·intro h2
  simp only[decide_eq_false_iff_not]at h2
  repeat (first|refine c_r ?_|refine rg0 ?_)
  refine rt0 Tryz.ntmps167 ?_
  exact⟨by unfold errL;rw[if_neg h,if_neg (by omega)],Keep.refl _ _⟩
theorem zeB(w:World)(l:Lab)(hl:l.length≤9000000000000000000):Fn Tryz.prog 37 #[vs l] w (fun v w'=>v=vi (errL l)∧Ext w w'):=by
 refine enter Tryz.func37 Tryz.ntmps37 rfl rfl ?_
 repeat refine c_r ?_
 refine rg0 ?_
 repeat refine c_r ?_
 refine rg0 ?_
 repeat refine c_r ?_
 refine wc0 ?_ ?_
 ·intro h
  simp only[decide_eq_true_eq]at h
  repeat (first|refine c_r ?_|refine rg0 ?_)
  refine rt0 Tryz.ntmps37 ?_
  exact⟨by unfold errL;rw[if_pos h],Keep.refl _ _⟩
 intro h
 simp only[decide_eq_false_iff_not]at h
 repeat refine c_r ?_
 refine rg0 ?_
 repeat refine c_r ?_
 refine wc0 ?_ ?_
 ·intro h2
  simp only[decide_eq_true_eq]at h2
  repeat (first|refine c_r ?_|refine rg0 ?_)
  refine rt0 Tryz.ntmps37 ?_
  exact⟨by unfold errL;rw[if_neg h,if_pos (by omega)],Keep.refl _ _⟩
 ·intro h2
  simp only[decide_eq_false_iff_not]at h2
  repeat (first|refine c_r ?_|refine rg0 ?_)
  refine rt0 Tryz.ntmps37 ?_
  exact⟨by unfold errL;rw[if_neg h,if_neg (by omega)],Keep.refl _ _⟩
theorem sum_take{n:Nm}{i:Nat}(hi:i<n.length)(f:Lab→Nat):((n.take (i+1)).map f).sum=((n.take i).map f).sum+f n[i]:=by
 rw[zal hi,List.map_append,List.sum_append,List.map_cons,List.map_nil,List.sum_cons,List.sum_nil,Nat.add_zero]
theorem zd0:∀(k:Nm),(∀l∈k,l.length≤1000000000)→(k.map fun l=>1+l.length).sum≤1000000001*k.length
 | [],_=>by simp
 |x::k,h=>by
  have h3:=zd0 k (fun l hl=>h l (List.mem_cons_of_mem _ hl))
  have h4:=h x (List.mem_cons_self ..)
  rw[List.map_cons,List.sum_cons,List.length_cons];omega
theorem RLen_ok(w:World)(nv:Value)(n:Nm)(hn:Row w nv (n.map vs))(hl:∀l∈n,l.length≤1000000000)(hnl:n.length≤1000000000):
  Fn Tryz.prog 38 #[nv] w (fun v w'=>v=vi (lenN n)∧Ext w w'):=by
 obtain⟨an,cn,rfl,hcn,hgn⟩:=hn
 simp only[List.length_map]at hcn hgn
 rw[List.length_map]
 refine enter Tryz.func38 Tryz.ntmps38 rfl rfl ?_
 repeat refine c_r ?_
 refine rg0 ?_
 repeat refine c_r ?_
 refine rg0 ?_
 repeat refine c_r ?_
 refine rg0 ?_
 repeat refine c_r ?_
 refine zbg (fun m σ ds A=>ds=[]∧∃(i:Nat),i+m=n.length∧σ 4=vi i∧σ 0= .slice an n.length cn∧σ 3=vi (lenN (n.take i))∧Ext w A) n.length ?_ ?_
 ·exact⟨rfl,0,by omega,vr0,vq0,vr0,Keep.refl _ _⟩
 rintro m σ ds A ⟨rfl,i,him,h4,h0,h3,hEA⟩
 repeat refine c_r ?_
 refine rg2 h4 h0 ?_
 repeat refine c_r ?_
 refine wc0 ?_ ?_
 ·intro hlt
  simp only[decide_eq_true_eq]at hlt
  have hi:i<n.length:=by omega
  have hi0:(0:Int)≤(i:Int):=by omega
  have hi1:(i:Int)<(n.length:Int):=by omega
  have hi1':(i:Int)+1=((i+1:Nat):Int):=by push_cast;rfl
  have hg:=zab hEA (hgn i (by simpa using hi))
  rw[List.getElem_map]at hg
  obtain⟨xn,rfl⟩:=Option.isSome_iff_exists.1 (zap hg)
  have hb:=zd0 (n.take i) (fun l hl'=>hl l (List.mem_of_mem_take hl'))
  rw[List.length_take]at hb
  have hb2:=hl n[i] (List.getElem_mem hi)
  have hs:((n.take (i+1)).map fun l=>1+l.length).sum=((n.take i).map fun l=>1+l.length).sum+(1+n[i].length):=sum_take hi _
  have hlen:((lenN (n.take i):Nat):Int)+1+((n[i]).length:Int)=((lenN (n.take (i+1)):Nat):Int):=by unfold lenN;rw[hs];omega
  have hln:lenN (n.take i)≤2000000000000000000:=by
   unfold lenN
   have:min i n.length≤1000000000:=by omega
   omega
  repeat refine c_r ?_
  refine rg7 h0 h3 h4 hi0 hi1 hg hlen ?_
  repeat refine c_r ?_
  refine rg2 h4 hi1' ?_
  repeat refine c_r ?_
  exact⟨m - 1,by omega,rfl,i+1,by omega,vq0,(vq1 h0),vq0,hEA⟩
 ·intro hge
  simp only[decide_eq_false_iff_not]at hge
  rw[List.take_of_length_le (by omega)]at h3
  repeat refine c_r ?_
  refine rg1 h3 ?_
  repeat refine c_r ?_
  refine rt1 h3 Tryz.ntmps38 ?_
  exact⟨rfl,hEA⟩
section
variable {P : Program} {d : Option Tmp} {ty : TypeId} {ps : String} {af : Array Edge} {g : Option (Nat × Bool)} {ρ : Operand → Value} {w : World} {K : Value → World → Prop}
theorem ziT{op:BinOp}{t yt:TypeId}{x y:Operand}{u v r:Value}(hx:ρ x=u)(hy:ρ y=v)(hr:(do eqGuard op t x y u v;binOp op t u v:Sem Value).run P w= .ok r w)(h:K r w):
  opW P ⟨d,.binOp op t x y yt,ty,ps,af,g⟩ ρ w K:=by
 have:=zaw (P:=P) (K:=K) hr h
 rw[←hx,←hy]at this
 exact this
theorem zf2{t te yt:TypeId}{j:TypeInfo}{x y:Operand}{a:Addr}(ht:tyU P t=some (.pointer te))(hj:P.info? te=some j)(hx:ρ x= .pointer (some a))(hy:ρ y= .pointer (some a))(h:K (.bool false) w):
  opW P ⟨d,.binOp .neq t x y yt,ty,ps,af,g⟩ ρ w K:=by
 refine ziT hx hy ?_ h
 simp[eqGuard,Lib.run_neq_ptr_same (P:=P) w a (show P.underlying t=_ from ht) hj]
theorem ziU{s t:TypeId}{x:Operand}{u v:Value}{w':World}(hx:ρ x=u)(hr:(convert s t u).run P w= .ok v w')(h:K v w'):opW P ⟨d,.convert s t x,ty,ps,af,g⟩ ρ w K:=by
 show opR P K ((do pure (.value (←convert s t (ρ x))):Sem Next).run P w)
 rw[hx]
 exact zaw hr h
theorem op_appS{B:Nat}{s x:Operand}{t tu e:TypeId}{inf:TypeInfo}{v:Value}{l:List Value}{bs:List UInt8}(hown:Own B w e v l)(ht:tyU P t=some (.slice e))(hu:tyU P tu=some .string)(hi:P.info? e=some inf)(hz:inf.zero=some (.int .u8 0))
  (hsize:inf.size=1) (hby:inf.bytes=1) (hv:ρ s=v) (hx:ρ x=vs bs) (hlen:l.length+bs.length≤100000000000) (hB:B≤w.heap.size)
  (h:∀v' w',Own B w' e v' (l++bs.map zao)→Keep (fun b=>some b=v.ownBlock) w w'→K v' w'):
  opW P ⟨d,.call ⟨.builtin .append,#[s,x],#[t,tu]⟩,ty,ps,af,g⟩ ρ w K:=by
 have hs:(⟨bs.toArray⟩:ByteArray).size=bs.length:=by simp[ByteArray.size]
 obtain⟨v',w',hr,h2,h3,h4⟩:=Lib.run_append_own_string (P:=P) w B t tu ty e inf (show P.underlying t=_ from ht) (show P.underlying tu=_ from hu) hi hz hsize hby v l.length l hown ⟨bs.toArray⟩ (by rw[hs];simp[maxLen];omega) (by rw[hs];omega) hB
 have hc:Lib.strCells ⟨bs.toArray⟩=bs.map zao:=by simp[Lib.strCells,zao]
 rw[hs,hc]at h2
 refine zcg (b:= .append) (r:= .ok v' w') (fun v2 w2 h'=>?_) ⟨v',w',by rw[hv,hx];exact hr⟩
 rw[hv,hx]at h'
 have e1:(Builtin.append_ #[t,tu] ty #[v,.string ⟨bs.toArray⟩]).run P w= .ok v2 w2:=h'
 rw[hr]at e1
 cases e1
 have hl:l.length+bs.length=(l++bs.map zao).length:=by simp
 rw[hl]at h2
 exact h v' w' h2 (zeJ h3 (zaF _ _ _ _ hr))
theorem zbO{x:Operand}{ts:Array TypeId}{u v:Value}{w':World}(hx:ρ x=u)(hr:(Builtin.unsafeSliceData_ ts ty #[u]).run P w= .ok v w')(h:K v w'):
  opW P ⟨d,.call ⟨.builtin .unsafeSliceData,#[x],ts⟩,ty,ps,af,g⟩ ρ w K:=by
 simp only[opW,execOp,Sem.run_bind,resolve]
 simp only[Sem.run_pure,Result.andThen_ok,invoke,builtin]
 exact zaw (s:=Builtin.unsafeSliceData_ ts ty (Array.map ρ #[x])) (by simpa [hx] using hr) h
theorem za4{x y:Operand}{ts:Array TypeId}{u z v:Value}{w':World}(hx:ρ x=u)(hy:ρ y=z)(hr:(Builtin.unsafeString_ ts ty #[u,z]).run P w= .ok v w')(h:K v w'):
  opW P ⟨d,.call ⟨.builtin .unsafeString,#[x,y],ts⟩,ty,ps,af,g⟩ ρ w K:=by
 simp only[opW,execOp,Sem.run_bind,resolve]
 simp only[Sem.run_pure,Result.andThen_ok,invoke,builtin]
 exact zaw (s:=Builtin.unsafeString_ ts ty (Array.map ρ #[x,y])) (by simpa [hx,hy] using hr) h
end
end Go.Proofs.YtihbdhjibplldaaGreatDoor
