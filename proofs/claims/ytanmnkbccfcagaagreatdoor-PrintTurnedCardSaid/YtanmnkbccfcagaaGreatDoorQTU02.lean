/-
  Texts of a proof, joined: K11, C1, K14, K15, K16, K17, K19, K20, C2, C3, T0, S1, K12, K13, N1, K21, K22, K23.
  Conditions: none.
-/
import Derived.Test.YtanmnkbccfcagaaGreatDoorQTU01
import Derived.Lib.Bytealg
import Derived.Maps.RangeRun
import Derived.Maps.Range
import Derived.Lib.Builder
import Derived.Lib.AppendStr
import Derived.Lib.UnsafeStr
set_option linter.unusedVariables false
set_option linter.unusedSimpArgs false
set_option linter.defProp false
set_option linter.unnecessarySimpa false
set_option maxHeartbeats 8000000
namespace Go.Proofs.YtanmnkbccfcagaaGreatDoor
open Go
inductive Pln
 |fin
 |run (pl:List (Nat×Bool)) (p:Pln)
 |fork (m:Nat) (is:List Nat) (p:Nat→Pln)
def Pln.len:Pln→Nat
 | .fin=>0
 | .run pl p=>pl.length+p.len
 | .fork m _ _=>m+1
def zcT(ops:Array Oper)(isB:Nat→Bool):List (Nat×Bool)→Array Bool→Option (Array Bool)
 | [],l=>some l
 | (i,true)::pl,l=>if (rdy ops l).contains i && Region.free .any ops l i && !isB i then zcT ops isB pl (l.setIfInBounds i true) else Option.none
 | (i,false)::pl,l=>if rdy ops l==[i] then zcT ops isB pl (l.setIfInBounds i true) else Option.none
def zfB(ops:Array Oper)(isB:Nat→Bool):Pln→Array Bool→Bool
 | .fin,l=>(rdy ops l).isEmpty
 | .run pl p,l=>match zcT ops isB pl l with|some l'=>zfB ops isB p l'|Option.none=>false
 | .fork m is p,l=>(rdy ops l==is) && !is.isEmpty && is.all fun i=>(p i).len==m && zfB ops isB (p i) (l.setIfInBounds i true)
section
variable {P : Program} {ops : Array Oper} {n : Nat} {isB : Nat → Bool} {K : Sto → World → Prop} {S : Nat → Prop}
theorem zeC(hsel:Region.noSelect ops=true)(hB:zcj ops isB=true){f:Nat}{l':Array Bool}:∀(pl:List (Nat×Bool)) (l:Array Bool) (σ:Sto) (w:World),zbu ops l→
  zcT ops isB pl l=some l'→zdM P ops n S isB pl σ w (fun σ' w'=>zbu ops l'→anyK P ops n isB K (Keep S w') f l' σ' w')→anyK P ops n isB K (Keep S w) (pl.length+f) l σ w
 | [],l,σ,w,hcl,hp,h=>by
  cases hp
  rw[List.length_nil,Nat.zero_add]
  exact h hcl
 | (i,true)::pl,l,σ,w,hcl,hp,h=>by
  unfold zcT at hp
  split at hp
  ·rename_i hc
   simp only[Bool.and_eq_true,Bool.not_eq_true',List.contains_iff_mem]at hc
   obtain⟨⟨hr,hfree⟩,hni⟩:=hc
   obtain⟨v,hq,h⟩:=h
   obtain⟨_,oi,hoi,_⟩:=mem_ready.1 hr
   have hd:zfJ ops i=oi.dst:=by simp[zfJ,hoi]
   rw[hd]at h
   have:=zel hoi hsel hB hni (pl.length+f) (Keep S w) l σ w hcl (Region.free_spec hoi hfree) hr hq (Keep.refl S w)
    (zeC hsel hB pl _ _ w (za2 hcl hr) hp h)
   rwa [show ((i,true)::pl).length+f=(pl.length+f)+1 from by simp;omega]
  ·cases hp
 | (i,false)::pl,l,σ,w,hcl,hp,h=>by
  unfold zcT at hp
  split at hp
  ·rename_i hr
   rw[beq_iff_eq]at hr
   have hmem:i∈rdy ops l:=by rw[hr];exact List.mem_singleton.2 rfl
   rw[show ((i,false)::pl).length+f=(pl.length+f)+1 from by simp;omega]
   refine⟨fun h0=>(by rw[hr]at h0;cases h0),fun j hj=>?_⟩
   rw[hr]at hj
   obtain rfl:=List.mem_singleton.1 hj
   refine zbh (fun σ' w' ⟨hor,hk⟩=>?_) h
   have hrec:=zeC hsel hB pl _ σ' w' (za2 hcl hmem) hp hk
   cases hb:isB j with
   |true=>exact .inl ⟨rfl,zbN _ _ _ _ _ hrec⟩
   |false=>
    rw[hb]at hor
    have hkeep:=hor.resolve_left (by simp)
    exact .inr ⟨rfl,Keep S w',fun x hx=>hkeep.trans hx,Keep.refl S w',hrec⟩
  ·cases hp
def zgj(P:Program)(ops:Array Oper)(n:Nat)(S:Nat→Prop)(isB:Nat→Bool)(K:Sto→World→Prop):Pln→Sto→World→Prop
 | .fin,σ,w=>K σ w
 | .run pl p,σ,w=>zdM P ops n S isB pl σ w (fun σ' w'=>zgj P ops n S isB K p σ' w')
 | .fork _ is p,σ,w=>∀i∈is,opAt P ops n i σ w (fun σ' w'=>(isB i=true∨Keep S w w')∧zgj P ops n S isB K (p i) σ' w')
theorem zcb{K K':Sto→World→Prop}(hk:∀σ w,K σ w→K' σ w):∀(pl:List (Nat×Bool)) (σ:Sto) (w:World),zdM P ops n S isB pl σ w K→zdM P ops n S isB pl σ w K'
 | [],σ,w,h=>hk σ w h
 | (i,true)::pl,σ,w,⟨v,h1,h2⟩=>⟨v,h1,zcb hk pl _ _ h2⟩
 | (i,false)::pl,σ,w,h=>zbh (fun σ' w' ⟨h1,h2⟩=>⟨h1,zcb hk pl _ _ h2⟩) h
theorem zb1(hsel:Region.noSelect ops=true)(hB:zcj ops isB=true):∀(p:Pln) (l:Array Bool) (σ:Sto) (w:World),zbu ops l→
  zfB ops isB p l=true→zgj P ops n S isB K p σ w→anyK P ops n isB K (Keep S w) p.len l σ w
 | .fin,l,σ,w,_,hp,h=>⟨by simpa [zfB] using hp,h⟩
 | .run pl p,l,σ,w,hcl,hp,h=>by
  unfold zfB at hp
  split at hp
  ·rename_i l' hl'
   exact zeC hsel hB pl l σ w hcl hl' (zcb (fun σ' w' hk hcl'=>zb1 hsel hB p l' σ' w' hcl' hp hk) pl σ w h)
  ·cases hp
 | .fork m is p,l,σ,w,hcl,hp,h=>by
  simp only[zfB,Bool.and_eq_true,beq_iff_eq,List.all_eq_true,Bool.not_eq_true']at hp
  obtain⟨⟨hr,hne⟩,hall⟩:=hp
  refine⟨fun h0=>(by rw[hr]at h0;subst h0;cases hne),fun j hj=>?_⟩
  have hj':=hj
  rw[hr]at hj'
  obtain⟨hlen,hpj⟩:=hall j hj'
  refine zbh (fun σ' w' ⟨hor,hk⟩=>?_) (h j hj')
  have hrec:=zb1 hsel hB (p j) _ σ' w' (za2 hcl hj) hpj hk
  rw[hlen]at hrec
  cases hb:isB j with
  |true=>exact .inl ⟨rfl,zbN _ _ _ _ _ hrec⟩
  |false=>
   rw[hb]at hor
   have hkeep:=hor.resolve_left (by simp)
   exact .inr ⟨rfl,Keep S w',fun x hx=>hkeep.trans hx,Keep.refl S w',hrec⟩
end
def treeOk(ops:Array Oper)(isB:Nat→Bool)(p:Pln):Bool:=
 Region.noSelect ops && zaQ ops && zcj ops isB && decide (p.len=ops.size) && zfB ops isB p (Array.replicate ops.size false)
def allL{α:Type}:List α→(α→Prop)→Prop
 | [],_=>True
 | [a],f=>f a
 |a::l,f=>f a∧allL l f
theorem zgm{α:Type}{f:α→Prop}:∀{l:List α},allL l f→∀a∈l,f a
 | [],_,a,h=>by cases h
 | [b],h,a,ha=>by rw[List.mem_singleton.1 ha];exact h
 |b::c::l,h,a,ha=>by
  rcases List.mem_cons.1 ha with rfl|ha
  ·exact h.1
  ·exact zgm h.2 a ha
def zez(P:Program)(gd:Nat→Option Tmp)(ops:List Oper)(n:Nat)(S:Nat→Prop)(isB:Nat→Bool):Pln→Sto→World→(Sto→World→Prop)→Prop
 | .fin,σ,w,K=>K σ w
 | .run pl p,σ,w,K=>zbd P gd ops n S isB pl σ w (fun σ' w'=>zez P gd ops n S isB p σ' w' K)
 | .fork _ is p,σ,w,K=>allL is fun i=>zbd P gd ops n S isB [(i,false)] σ w (fun σ' w'=>zez P gd ops n S isB (p i) σ' w' K)
section
variable {P : Program} {n : Nat} {S : Nat → Prop} {isB : Nat → Bool} {K : Sto → World → Prop}
theorem zcs{ops:Array Oper}:∀(p:Pln) (σ:Sto) (w:World),zez P (dstL ops.toList) ops.toList n S isB p σ w K→zgj P ops n S isB K p σ w
 | .fin,_,_,h=>h
 | .run pl p,σ,w,h=>zcb (fun σ' w' hk=>zcs p σ' w' hk) pl σ w (za1 pl σ w h)
 | .fork m is p,σ,w,h=>fun i hi=>by
  have:=za1 _ σ w (zgm h i hi)
  exact zbh (fun σ' w' ⟨h1,h2⟩=>⟨h1,zcs (p i) σ' w' h2⟩) this
variable {r : Option Nat} {Q : Post} {σ : Sto} {ds : List Deferred} {w : World}
theorem W_tree{id:Nat}{ops:Array Oper}(isB:Nat→Bool)(p:Pln)(S:Nat→Prop)
  (hm:P.follows .mixedOrders=true) (hok:treeOk ops isB p=true)
  (h:∀(gd:Nat→Option Tmp) (K:Sto→World→Prop) (x:World),gd=dstL ops.toList→Keep S w x→x=w.drew→(∀σ' w',Q .normal σ' ds w'→K σ' w')→zez P gd ops.toList n S isB p σ x K):
  W P r n (.region id ops true) Q σ ds w:=by
 simp only[treeOk,Bool.and_eq_true,decide_eq_true_eq]at hok
 obtain⟨⟨⟨⟨h1,h2⟩,h3⟩,h4⟩,h5⟩:=hok
 refine wpIn_region_any hm ?_
 have:=zb1 (K:=fun σ w=>Q .normal σ ds w) h1 h3 p _ σ w.drew (zdf ops) h5 (zcs p σ w.drew (h _ _ _ rfl (Keep.drew S w) rfl (fun _ _ h=>h)))
 rw[h4]at this
 exact za3 h2 (fun σ w hk=>⟨σ,ds,rfl,hk⟩) _ _ _ _ (zbN _ _ _ _ _ this)
variable {gd : Nat → Option Tmp} {ops : List Oper}
theorem zid:zez P gd ops n S isB .fin σ w K=K σ w:=nr rfl
theorem zic(pl:List (Nat×Bool))(p:Pln):zez P gd ops n S isB (.run pl p) σ w K=zbd P gd ops n S isB pl σ w (fun σ' w'=>zez P gd ops n S isB p σ' w' K):=nr rfl
theorem zgT(m:Nat)(is:List Nat)(p:Nat→Pln):zez P gd ops n S isB (.fork m is p) σ w K=allL is fun i=>zbd P gd ops n S isB [(i,false)] σ w (fun σ' w'=>zez P gd ops n S isB (p i) σ' w' K):=nr rfl
end
section
variable {α : Type} {f : α → Prop} {a b : α} {l : List α}
theorem zeD:allL [a] f=f a:=nr rfl
theorem zdW:allL (a::b::l) f=(f a∧allL (b::l) f):=nr rfl
end
def zbR(n:Nat):Nat→Prop:=fun b=>n≤b
theorem Ext.keep{S:Nat→Prop}{w x:World}(h:Ext w x):Keep S w x:=h.mono (fun _ _ h=>h.elim)
attribute [go_sem ↓] zid zic zgT
set_option maxRecDepth 10000
theorem zce{n0:Nat}{C:Nat→Prop}{w x:World}(hk:KeepB n0 C w x){a:Addr}(hn:a.block<n0)(hC:¬C a.block){v:Value}(h:w.cell? a=some v):x.cell? a=some v:=by
 rw[←h];exact World.cell?_of_block (w:=w) (hk.block a.block hn hC)
theorem zcL{w x:World}(hk:Ext w x){a:Addr}{v:Value}(h:w.cell? a=some v):x.cell? a=some v:=zcK hk (fun h=>h) h
theorem zag{α:Type}{l:List α}{i:Nat}(h:i<l.length):l.take (i+1)=l.take i++ [l[i]]:=by
 rw[List.take_succ_eq_append_getElem h]
theorem za5{α:Type}{l:List α}{i:Nat}(h:i<l.length):l=l.take i++l[i]::l.drop (i+1):=by
 rw[←List.drop_eq_getElem_cons h,List.take_append_drop]
theorem zc8{α:Type}{l:List α}{pre suf:List (α×Nat)}{x:α×Nat}(h:l.zipIdx=pre++x::suf):∃hk:pre.length<l.length,x=(l[pre.length],pre.length):=by
 have hk:pre.length<l.length:=by have:=congrArg List.length h;simp at this;omega
 refine⟨hk,?_⟩
 have h1:l.zipIdx[pre.length]? =some x:=by rw[h];simp
 rw[List.getElem?_zipIdx]at h1
 simp[hk]at h1
 exact h1.symm
def zia(p:UInt8×Nat)(_:World)(args:Array Value):Prop:=args=#[vi p.2,zaj p.1]
theorem zgE{W0:World}{n0:Nat}{C:Nat→Prop}{b:Nat}{l:List UInt8}(hb:W0.cell? ⟨b,0,Option.none⟩=some (vs l))(hbn:b<n0)(hbC:¬C b)(hl:l.length≤9000000000000000000):
  Iter Tryz.prog 185 #[.pointer (some ⟨b,0,Option.none⟩)] W0 n0 C l.zipIdx zia:=by
 intro lp J Jx W hW hnW hJ hJx hY h0
 refine enter Tryz.func185 Tryz.ntmps185 rfl rfl ?_
 repeat (first|refine c_r ?_|refine rg0 ?_)
 refine zas (fun m σ ds v=>ds=[]∧∃i,i+m=l.length∧σ 3=vi i∧σ 0= .func (.yield lp) #[] #[]∧σ 1= .pointer (some ⟨b,0,Option.none⟩)∧J (l.zipIdx.take i) v∧KeepB n0 C W v) l.length ?_ ?_
 ·refine⟨rfl,0,by omega,?_,?_,?_,by simpa using h0,KeepB.refl _ _ _⟩<;>simp only[go_sem]<;>rfl
 ·rintro m σ ds v ⟨rfl,i,him,h3,hf0,hf1,hj,hK0⟩
  have hcell:zaf v (some ⟨b,0,Option.none⟩)=some (vs l):=zce hK0 hbn hbC (zcL hW hb)
  repeat refine c_r ?_
  refine rg4 h3 hf0 hf1 hcell ?_
  refine wc0 ?_ ?_
  ·intro hlt
   simp only[decide_eq_true_eq]at hlt
   have hi:i<l.zipIdx.length:=by simp;omega
   repeat refine c_r ?_
   refine rq ?_;intro gd K hgd hK
   try simp (disch:=first|omega|assumption|rfl) only[go_sem,h3,hf0,hf1,hcell]
   refine Yld.mono (hY (l.zipIdx.take i) l.zipIdx[i] (l.zipIdx.drop (i+1)) v _ (za5 hi) hj hK0 (by simp[zia,zaj])) ?_
   rintro u x (⟨rfl,hj',hk'⟩| ⟨rfl,hjx⟩)
   ·try simp only[go_sem]
    refine hK _ _ ?_;clear hK hgd;clear K;try clear gd
    repeat refine c_r ?_
    refine wc0 ?_ ?_
    ·intro h;simp at h
    ·intro _
     repeat refine c_r ?_
     refine rg1 h3 ?_
     refine zaq ?_
     refine⟨m - 1,by omega,rfl,i+1,by omega,?_,?_,?_,?_,hK0.trans hk'⟩
     ·simp only[go_sem];rfl
     ·simp only[go_sem,hf0]
     ·simp only[go_sem,hf1]
     ·rw[zag hi];exact hj'
   ·try simp only[go_sem]
    refine hK _ _ ?_;clear hK hgd;clear K;try clear gd
    repeat refine c_r ?_
    refine wc0 ?_ ?_
    ·intro _
     repeat refine c_r ?_
     refine zaw (by simp) rfl (.inr ⟨_,_,_,za5 hi,hjx⟩)
    ·intro h;simp at h
  ·intro hge
   simp only[decide_eq_false_iff_not]at hge
   repeat refine c_r ?_
   refine zaw (by simp) rfl (.inl ?_)
   have:l.zipIdx.take i=l.zipIdx:=List.take_of_length_le (by simp;omega)
   rw[this]at hj;exact hj
theorem ze1(w:World)(l:List UInt8)(hl:l.length≤9000000000000000000):Fn Tryz.prog 116 #[vs l] w (fun v w'=>Ext w w'∧∃cap,v= .func (.func 185) #[] cap∧
  ∀C:Nat→Prop,(∀b,C b→b<w.heap.size)→Iter Tryz.prog 185 cap w' w'.heap.size C l.zipIdx zia):=by
 refine enter Tryz.func116 Tryz.ntmps116 rfl rfl ?_
 repeat refine c_r ?_
 refine rg0 ?_
 repeat refine c_r ?_
 refine rg0 ?_
 repeat refine c_r ?_
 refine rt0 Tryz.ntmps116 ?_
 refine⟨Ext.alloc _ _,_,rfl,fun C hC=>zgE ?_ (by simp) (fun h=>by have:=hC _ h;omega) hl⟩
 rw[zbe (zak _ _)];rfl
def zdL(c:UInt8):UInt8:=if 65≤c∧c≤90 then c+32 else c
def zaS(l:List UInt8):List UInt8:=l.map zdL
def zaP(l:List UInt8)(k:Nat):List UInt8:=zaS (l.take k)++l.drop k
theorem zcq{l:List UInt8}{k:Nat}(hk:k<l.length):(zaP l k).set k (zdL l[k])=zaP l (k+1):=by
 unfold zaP zaS
 have e:(List.map zdL (l.take k)).length=k:=by simp;omega
 rw[zag hk,List.map_append,List.set_append_right _ _ (by omega),e,Nat.sub_self,List.drop_eq_getElem_cons hk,List.set_cons_zero]
 simp
theorem zgL(l:List UInt8)(k:Nat):(zaP l k).length=l.length:=by simp[zaP,zaS];omega
theorem zgg{c:UInt8}(h:65≤c∧c≤90):zdL c=c+32:=if_pos h
theorem foldB_no{c:UInt8}(h:¬(65≤c∧c≤90)):zdL c=c:=if_neg h
theorem zdJ{l:List UInt8}{k:Nat}(hk:k<l.length)(h:¬(65≤l[k]∧l[k]≤90)):zaP l k=zaP l (k+1):=by
 rw[←zcq hk,foldB_no h]
 apply List.ext_getElem?
 intro j
 rw[List.getElem?_set]
 split
 ·rename_i hj;subst hj
  rw[if_pos (by rw[zgL];exact hk)]
  unfold zaP zaS
  have e:(List.map zdL (l.take k)).length=k:=by simp;omega
  rw[List.getElem?_append_right (by omega),e]
  simp[hk]
 ·rfl
theorem zcP(w:World)(l:List UInt8)(hl:l.length≤9000000000000000000):Fn Tryz.prog 53 #[vs l] w (fun v w'=>v=vs (zaS l)∧Ext w w'):=by
 refine enter Tryz.func53 Tryz.ntmps53 rfl rfl ?_
 repeat (first|refine c_r ?_|refine rg0 ?_)
 repeat refine c_r ?_
 refine rq ?_;intro gd K hgd hK
 try simp only[go_sem]
 refine zeA rfl rfl rfl (vq0) ?_
 intro c cur w1 hlc hcur htake hE1 hsz1 hb1
 try simp only[go_sem]
 refine za9 rfl rfl rfl (zak _ _) (by simp) (by simp) ?_
 intro w2 hsz2 hb2 hk2
 simp only[World.size_alloc]at hsz2 hb2 hk2
 have hE2:Ext w w2:=hE1.trans (Keep.to_ext (Ext.alloc w1 _) rfl (fun b hb=>by omega) hk2)
 have hgb:w2.heap[w.heap.size]? =some (.cells cur 5 (c,c+1)):=(hk2.block _ (by simp;omega) (by omega)).trans ((RowKit.Below.heap_alloc _ _ _ (by omega)).trans hb1)
 rw[hsz1]at hsz2 hb2 ⊢
 simp at hb2
 clear hk2 hb1
 refine hK _ _ ?_;clear hK hgd;clear K;try clear gd
 repeat refine c_r ?_
 refine rq ?_;intro gd K hgd hK
 try simp only[go_sem]
 refine Fn.mono (ze1 _ _ hl) ?_
 rintro _ w3 ⟨hE3,cap,rfl,hit⟩
 try simp only[go_sem]
 refine hK _ _ ?_;clear hK hgd;clear K;try clear gd
 repeat refine c_r ?_
 have hE3':=hE2.trans hE3
 have hsz3:=hE3.size
 refine zeF (g:=185) (cap:=cap) (vq0) rfl (hit (fun b=>b=w.heap.size) (fun b hb=>by omega)) (Keep.refl _ _) (Nat.le_refl _) (fun b hb=>by omega)
  (fun x A args h=>by rw[h];rfl)
  (fun pre A=>Ext w A∧A.heap[w.heap.size+1]? =some (.cells #[.slice (some ⟨w.heap.size,0,Option.none⟩) l.length c] 31 (0,0))∧
   ∃cur:Array Value,cur.size=c∧cur.toList.take l.length=(zaP l pre.length).map zaj∧A.heap[w.heap.size]? =some (.cells cur 5 (c,c+1)))
  (fun _ _ _=>False) ?_ (fun _ _ _ _ h _=>h.elim) ?_ ?_ ?_ (fun _ _ _ _ _ _ _ h _=>h.elim)
 ·rintro pre A B ⟨h1,h2,cu,h3,h4,h5⟩ hk
  have ne1:¬two w3.heap.size (w.heap.size+1):=by unfold two;omega
  have ne2:¬two w3.heap.size w.heap.size:=by unfold two;omega
  exact⟨Keep.to_ext h1 rfl (fun b hb=>by unfold two at hb;omega) hk,(hk.block _ (Array.getElem?_eq_some_iff.1 h2).1 ne1).trans h2,cu,h3,h4,
   (hk.block _ (Array.getElem?_eq_some_iff.1 h5).1 ne2).trans h5⟩
 ·refine⟨hE3',(hE3.block _ (by omega) (fun h=>h)).trans hb2,cur,hcur,?_,(hE3.block _ (by omega) (fun h=>h)).trans hgb⟩
  simpa [zaP,zaS] using htake
 ·rintro lp pre x suf A args hxs hszA ⟨hEA,hbox,cu,hcu,hpre,hrow⟩ rfl
  obtain⟨hk,rfl⟩:=zc8 hxs
  dsimp only
  repeat (first|refine c_r ?_| (refine zcM (by rfl) ?_;intro gd K hgd hK;simp (disch:=first|omega|assumption|rfl) only[go_sem,zaj];refine hK _ _ ?_;clear hK hgd;clear K gd))
  refine⟨rfl,KeepB.refl _ _ _,fun A2 hA2=>?_⟩
  have ne1:¬two w3.heap.size (w.heap.size+1):=by unfold two;omega
  have ne2:¬two w3.heap.size w.heap.size:=by unfold two;omega
  have hbox2:=(hA2.block _ (Array.getElem?_eq_some_iff.1 hbox).1 ne1).trans hbox
  have hrow2:=(hA2.block _ (Array.getElem?_eq_some_iff.1 hrow).1 ne2).trans hrow
  have hE2':Ext w A2:=Keep.to_ext hEA rfl (fun b hb=>by unfold two at hb;omega) hA2
  have hs2:=hA2.size
  clear hbox hrow hA2 hit hb2 hgb
  have hcu':cu[pre.length]? =some (zaj (l[pre.length])):=by
   have:(cu.toList.take l.length)[pre.length]? =some (zaj (l[pre.length])):=by
    rw[hpre,List.getElem?_map]
    unfold zaP
    rw[List.getElem?_append_right (by simp[zaS];omega)]
    have e:(zaS (l.take pre.length)).length=pre.length:=by simp[zaS];omega
    rw[e];simp[hk]
   rw[List.getElem?_take,if_pos hk]at this
   simpa using this
  have hbit:∀u:UInt8,(65≤u↔(65:Int)≤u.toNat)∧(u≤90↔(u.toNat:Int)≤90):=fun u=>by
   rw[UInt8.le_iff_toNat_le,UInt8.le_iff_toNat_le]
   constructor
   ·show 65≤u.toNat↔_;omega
   ·show u.toNat≤90↔_;omega
  have hkeep:∀B,A2=B→¬(65≤l[pre.length]∧l[pre.length]≤90)→(Ext w B∧B.heap[w.heap.size+1]? =some (.cells #[.slice (some ⟨w.heap.size,0,Option.none⟩) l.length c] 31 (0,0))∧
   ∃cur:Array Value,cur.size=c∧cur.toList.take l.length=(zaP l (pre++ [(l[pre.length],pre.length)]).length).map zaj∧B.heap[w.heap.size]? =some (.cells cur 5 (c,c+1)))∧
    KeepB (w3.heap.size+2) (fun b=>b=w.heap.size) A2 B:=by
   rintro B rfl hno
   refine⟨⟨hE2',hbox2,cu,hcu,?_,hrow2⟩,KeepB.refl _ _ _⟩
   rw[hpre,zdJ hk hno];simp
  generalize hcc:l[pre.length]=cc at*
  repeat refine c_r ?_
  refine rq ?_;intro gd K hgd hK
  have hg2:∀n σ b,zap gd n σ (some (2,b))=zah (ev n σ (.tmp 14)) b:=(fun n σ b=>by rw[zab,show gd 2=some 14 from(by rw[hgd];rfl)];rfl)
  by_cases h65:(65:Int)≤cc.toNat
  ·try simp (disch:=first|omega|assumption|rfl) only[go_sem,hg2,zab,zbn,zdT,decide_eq_true h65,beq_self_eq_true]
   refine hK _ _ ?_;clear hK hgd;clear K;try clear gd
   repeat refine c_r ?_
   refine wc0 ?_ ?_
   ·intro h90
    simp only[decide_eq_true_eq]at h90
    have hc1:zaf A2 (some ⟨w.heap.size+1,0,Option.none⟩)=some (.slice (some ⟨w.heap.size,0,Option.none⟩) l.length c):=by
     show A2.cell? _=_
     rw[zbe hbox2];rfl
    repeat refine c_r ?_
    refine rq ?_;intro gd K hgd hK
    try simp (disch:=first|omega|assumption|rfl) only[go_sem,hc1]
    refine za9 rfl rfl rfl hrow2 (by omega) (by simp;omega) ?_
    intro w5 hsz5 hb5 hk5
    refine hK _ _ ?_;clear hK hgd;clear K;try clear gd
    repeat refine c_r ?_
    have hset:((zaP l pre.length).map zaj).set pre.length (.int .u8 (↑cc.toNat+97 - 65))=(zaP l (pre.length+1)).map zaj:=by
     rw[←zcq hk,hcc,List.map_set]
     congr 1
     rw[zgg ⟨(hbit cc).1.2 h65,(hbit cc).2.2 h90⟩]
     unfold zaj
     congr 1
     have:(cc+32).toNat=cc.toNat+32:=by
      rw[UInt8.toNat_add];show(cc.toNat+32) % 256=_;omega
     rw[this];push_cast;omega
    refine⟨⟨Keep.to_ext hE2' rfl (fun b hb=>by omega) hk5,?_,cu.setIfInBounds pre.length (.int .u8 (↑cc.toNat+97 - 65)),by simpa using hcu,?_,hb5⟩,hk5.toB (by omega) (fun i _ h=>h)⟩
    ·exact(hk5.block _ (by omega) (by omega)).trans hbox2
    ·rw[Array.toList_setIfInBounds,List.take_set,hpre,hset];simp
   ·intro h90
    simp only[decide_eq_false_iff_not]at h90
    repeat refine c_r ?_
    exact hkeep _ rfl (fun h=>h90 ((hbit cc).2.1 h.2))
  ·try simp (disch:=first|omega|assumption|rfl) only[go_sem,hg2,zab,zbn,zdT,decide_eq_false h65,beq_self_eq_true]
   refine hK _ _ ?_;clear hK hgd;clear K;try clear gd
   repeat refine c_r ?_
   refine wc0 ?_ ?_
   ·intro h;simp at h
   ·intro _
    repeat refine c_r ?_
    exact hkeep _ rfl (fun h=>h65 ((hbit cc).1.1 h.1))
 ·rintro w4 hsz4 ⟨hE4,hbox,cu,hcu,hpre,hrow⟩ hD
  have hc1:zaf w4 (some ⟨w.heap.size+1,0,Option.none⟩)=some (.slice (some ⟨w.heap.size,0,Option.none⟩) l.length c):=by
   show w4.cell? _=_
   rw[zbe hbox];rfl
  have hfull:zaP l l.zipIdx.length=zaS l:=by simp[zaP]
  rw[hfull]at hpre
  have hlen:(zaS l).length=l.length:=by simp[zaS]
  repeat refine c_r ?_
  refine rq ?_;intro gd K hgd hK
  try simp (disch:=first|omega|assumption|rfl) only[go_sem,hc1]
  rw[←hlen]
  refine zcc rfl rfl rfl (vq0) ?_ ?_
  ·intro j hj
   rw[hlen]at hj
   rw[zaW]
   show w4.cell? _=_
   rw[zbe hrow]
   have:(cu.toList.take l.length)[j]? =some (zaj ((zaS l)[j]'(by omega))):=by
    rw[hpre,List.getElem?_map,List.getElem?_eq_getElem (by omega)];rfl
   rw[List.getElem?_take,if_pos hj]at this
   simpa using this
  try simp only[go_sem]
  refine hK _ _ ?_;clear hK hgd;clear K;try clear gd
  repeat refine c_r ?_
  refine zep (by simp) rfl Tryz.ntmps53 (by simp only[go_sem];rfl) hD ?_
  intro w5 hk5 _
  exact⟨rfl,Keep.to_ext hE4 rfl (fun b hb=>by omega) hk5⟩
def Own(B:Nat)(w:World)(e:TypeId)(v:Value)(l:List Value):Prop:=w.ownsRow B e 1 v l.length l
section
variable {P : Program} {d : Option Tmp} {ty : TypeId} {ps : String} {af : Array Edge} {g : Option (Nat × Bool)} {ρ : Operand → Value} {w : World} {K : Value → World → Prop}
theorem Own.slice{B:Nat}{e:TypeId}{v:Value}{l:List Value}(h:Own B w e v l):∃a c,v= .slice a l.length c:=by
 rcases h.2 with ⟨rfl,h0⟩| ⟨g,cap,cur,rfl,_⟩
 ·exact⟨_,_,by rw[h0]⟩
 ·exact⟨_,_,rfl⟩
theorem Own.row{B:Nat}{e:TypeId}{v:Value}{l:List Value}(h:Own B w e v l):Row w v l:=Row.of_owns h
theorem Own.nil(B:Nat)(w:World)(e:TypeId):Own B w e (.slice Option.none 0 0) []:=⟨rfl,.inl ⟨rfl,rfl⟩⟩
theorem Own.ge{B:Nat}{e:TypeId}{v:Value}{l:List Value}(h:Own B w e v l){b:Nat}(hb:some b=v.ownBlock):B≤b∧b<w.heap.size:=by
 rcases h.2 with ⟨rfl,_⟩| ⟨g,cap,cur,rfl,hg,hc,_⟩
 ·cases hb
 ·cases hb;exact⟨hg,(Array.getElem?_eq_some_iff.1 hc).1⟩
theorem Own.keep{B:Nat}{e:TypeId}{v:Value}{l:List Value}{x:World}{S:Nat→Prop}(h:Own B w e v l)(hk:Keep S w x)(hS:∀b,some b=v.ownBlock→¬S b):Own B x e v l:=by
 obtain⟨h1,h2⟩:=h
 refine⟨h1,?_⟩
 rcases h2 with h2| ⟨g,cap,cur,hv,hb,hg,rest⟩
 ·exact .inl h2
 ·exact .inr ⟨g,cap,cur,hv,hb,(hk.block _ (Array.getElem?_eq_some_iff.1 hg).1 (hS _ (by rw[hv];rfl))).trans hg,rest⟩
theorem Own.ext{B:Nat}{e:TypeId}{v:Value}{l:List Value}{x:World}(h:Own B w e v l)(hk:Ext w x):Own B x e v l:=h.keep hk (fun _ _ h=>h)
theorem Own.mono{B B':Nat}{e:TypeId}{v:Value}{l:List Value}(h:Own B w e v l)(hB:B'≤B):Own B' w e v l:=by
 obtain⟨h1,h2⟩:=h
 refine⟨h1,?_⟩
 rcases h2 with h2| ⟨g,cap,cur,hv,hb,rest⟩
 ·exact .inl h2
 ·exact .inr ⟨g,cap,cur,hv,by omega,rest⟩
theorem zbM{t e:TypeId}{z v:Value}(hu:tyU P t=some (.slice e))(hz:tyZ P e=some z)(hs:tyS P e=1)(hz1:z.cells=#[z])(hv:v.cells=#[v])
  (h:∀w1,Ext w w1→w1.heap.size=w.heap.size+1→Own w.heap.size w1 e (.slice (some ⟨w.heap.size,0,Option.none⟩) 1 1) [v]→K (.slice (some ⟨w.heap.size,0,Option.none⟩) 1 1) w1):bsL P t 1 [(0,v)] w K .mk:=by
 unfold bsL bsK
 rw[bsC_one hu hz hs hz1 hv]
 exact h _ (Ext.alloc w _) (zat w _) ⟨rfl,.inr ⟨w.heap.size,1,#[v],rfl,Nat.le_refl _,zak w _,Nat.le_refl _,by decide,rfl,rfl⟩⟩
theorem set2{A:Array Value}(h:A.size=2)(u v:Value):(A.setIfInBounds 0 u).setIfInBounds 1 v=#[u,v]:=by
 obtain⟨l⟩:=A
 match l,h with
 | [x,y],_=>rfl
theorem bs_two{t e:TypeId}{z u v:Value}(hu:tyU P t=some (.slice e))(hz:tyZ P e=some z)(hs:tyS P e=1)(hz1:z.cells=#[z])(hu1:u.cells=#[u])(hv:v.cells=#[v])
  (h:∀w1,Ext w w1→w1.heap.size=w.heap.size+1→Own w.heap.size w1 e (.slice (some ⟨w.heap.size,0,Option.none⟩) 2 2) [u,v]→K (.slice (some ⟨w.heap.size,0,Option.none⟩) 2 2) w1):bsL P t 2 [(0,u),(1,v)] w K .mk:=by
 unfold bsL bsK
 have:bsC P t 2 [(0,u),(1,v)]=some (e,#[u,v]):=by
  simp[bsC,hu,hz,hs,hz1,Instr.fill,hu1,hv]
  exact set2 (by simp) u v
 rw[this]
 exact h _ (Ext.alloc w _) (zat w _) ⟨rfl,.inr ⟨w.heap.size,2,#[u,v],rfl,Nat.le_refl _,zak w _,Nat.le_refl _,by decide,rfl,rfl⟩⟩
theorem zbr{B:Nat}{s x:Operand}{t e:TypeId}{inf:TypeInfo}{z:Value}{bytes:Nat}{v u:Value}{l news:List Value}(hown:Own B w e v l)(hrow:Row w u news)
  (ht:tyU P t=some (.slice e)) (hi:P.info? e=some inf) (hz:inf.zero=some z)
  (hsize:inf.size=1) (hby:inf.bytes=bytes) (hzs:z.cells.size=1) (hv:ρ s=v) (hu:ρ x=u) 
  (h1:∀q∈news,one q=true) (hlen:l.length+news.length≤1000000000000) (hbytes:bytes≤100) (hB:B≤w.heap.size)
  (h:∀v' w',Own B w' e v' (l++news)→(∀w0,Ext w0 w→w0.heap.size≤B→Ext w0 w')→Keep (fun b=>some b=v.ownBlock) w w'→(∀b,some b=v'.ownBlock→some b=v.ownBlock∨w.heap.size≤b)→K v' w'):
  opW P ⟨d,.call ⟨.builtin .append,#[s,x],#[t,t]⟩,ty,ps,af,g⟩ ρ w K:=by
 refine zeX (B:=B) (m:=news.length) (xs:=l) (n:=l.length) ht hi hz hsize hby hzs (by decide) hv hu hown (Src1.of_row hrow) h1 (by simp[maxLen];omega) ?_ hB ?_
 ·have:(l.length+news.length)*bytes≤1000000000000*100:=Nat.mul_le_mul hlen hbytes
  omega
 ·intro v' w' ho hk hw
  refine h v' w' (by simpa [Own] using ho) (fun w0 hE hB0=>?_) hk hw.2
  exact Keep.to_ext hE rfl (fun b hb=>by have:=(Own.ge (l:=l) hown hb).1;omega) hk
theorem v_min(a:Array Operand)(t:Array TypeId):opV P ⟨d,.call ⟨.builtin .min,a,t⟩,ty,ps,af,g⟩ ρ w K=opL P ⟨d,.call ⟨.builtin .min,a,t⟩,ty,ps,af,g⟩ ρ w K .mk:=nr rfl
theorem zhL{x y:Operand}{ts:Array TypeId}{k:IntKind}{a b:Int}(hx:ρ x= .int k a)(hy:ρ y= .int k b)(h:K (.int k (min a b)) w):opW P ⟨d,.call ⟨.builtin .min,#[x,y],ts⟩,ty,ps,af,g⟩ ρ w K:=by
 simp only[opW,execOp,Sem.run_bind,resolve]
 simp only[Sem.run_pure,Result.andThen_ok,invoke,builtin]
 refine zan (s:=Builtin.min_ ts ty (Array.map ρ #[x,y])) (v:= .int k (min a b)) (w':=w) ?_ h
 simp[Builtin.min_,hx,hy,Builtin.min2,Sem.run,List.foldlM]
 omega
end
attribute [go_sem] b_quo b_rem
attribute [go_sem ↓] v_min
def zav(w:World)(p:Option Addr)(k:Nat):Option (List Value):=p.bind fun a=>zaG w a 0 k
theorem zhW{P:Program}{w:World}{t:TypeId}{p:Option Addr}(hA:tyA P t=true):ldA P w t p=(zav w p (tyS P t)).map fun l=> .agg l.toArray:=by
 cases p with
 |none=>rfl
 |some a=>simp[ldA,ldP,ldV,hA,zav]
theorem zdg{w:World}{b o:Nat}{cur:Array Value}{e:TypeId}{fr:Nat×Nat}(h:w.heap[b]? =some (.cells cur e fr)):∀(k i:Nat),o+i+k≤cur.size→
  zaG w ⟨b,o,Option.none⟩ i k=some ((cur.toList.drop (o+i)).take k)
 |0,_,_=>by simp[zaG]
 |k+1,i,hk=>by
  unfold zaG
  rw[zds,zbe h,zdg h k (i+1) (by omega)]
  have hlt:o+i<cur.size:=by omega
  have hd:=List.drop_eq_getElem_cons (l:=cur.toList) (i:=o+i) (by simpa using hlt)
  rw[Array.getElem?_eq_getElem hlt,hd,List.take_succ_cons]
  rfl
theorem zam{w:World}{b o k:Nat}{cur:Array Value}{e:TypeId}{fr:Nat×Nat}(h:w.heap[b]? =some (.cells cur e fr))(hk:o+k≤cur.size):
  zav w (some ⟨b,o,Option.none⟩) k=some ((cur.toList.drop o).take k):=by
 have:=zdg (o:=o) h k 0 (by omega)
 simpa [zav] using this
theorem zfP{S:Nat→Prop}{w x:World}(hk:Keep S w x){p:Option Addr}(hS:offS S p){k:Nat}{l:List Value}(h:zav w p k=some l):zav x p k=some l:=by
 cases p with
 |none=>cases h
 |some a=>exact zct hk (hS a rfl) k 0 l h
theorem zai{w x:World}(hk:Ext w x){p:Option Addr}{k:Nat}{l:List Value}(h:zav w p k=some l):zav x p k=some l:=
 zfP hk (by simp[offS,NoS]) h
theorem zaR{w:World}{a:Option Addr}{j k:Nat}{l:List Value}(h:zav w (adr a j) k=some l):a.isSome=true:=by
 cases a with
 |none=>simp[zav,adr]at h
 |some a=>rfl
theorem zej{w:World}{a:Addr}:∀{k i:Nat} {l:List Value},zaG w a i k=some l→∀(j:Nat) (h:j<l.length),w.cell? (a.add (i+j))=some l[j]
 |0,_,l,h,j,hj=>by simp[zaG]at h;subst h;simp at hj
 |k+1,i,l,h,j,hj=>by
  unfold zaG at h
  split at h
  ·rename_i v l' h1 h2
   cases h
   cases j with
   |zero=>exact h1
   |succ j=>
    have:=zej h2 j (by simpa using hj)
    rw[show i+(j+1)=i+1+j from by omega]
    exact this
  ·cases h
theorem zbK{w:World}{p:Option Addr}{k:Nat}{l:List Value}(h:zav w p k=some l){j:Nat}(hj:j<l.length):zaf w (adr p j)=some l[j]:=by
 cases p with
 |none=>cases h
 |some a=>
  have:=zej (i:=0) h j hj
  rw[Nat.zero_add]at this
  exact this
def RowK(k:Nat)(w:World)(v:Value)(L:List (List Value)):Prop:=
 ∃a c,v= .slice a L.length c∧L.length≤c∧∀j (h:j<L.length),zav w (adr a (j*k)) k=some L[j]
theorem RowK.ext{k:Nat}{w x:World}{v:Value}{L:List (List Value)}(h:RowK k w v L)(hE:Ext w x):RowK k x v L:=by
 obtain⟨a,c,rfl,hc,hl⟩:=h
 exact⟨a,c,rfl,hc,fun j hj=>zai hE (hl j hj)⟩
/-! ### a block of elements -/
structure SD(k:Nat)(w:World)(b:Nat)(e:TypeId)(cap:Nat)(D:List (List Value)):Prop where
 lies:∃cur:Array Value,∃R:List Value,w.heap[b]? =some (.cells cur e (0,0))∧cur.toList=D.flatten++R∧cur.size=cap*k
 len:∀x∈D,x.length=k
 ones:∀x∈D,∀v∈x,one v=true
theorem zbb{k:Nat}:∀{D:List (List Value)},(∀x∈D,x.length=k)→D.flatten.length=D.length*k
 | [],_=>by simp
 |x::D,h=>by
  have h1:=h x (List.mem_cons_self ..)
  have h2:=zbb (D:=D) (fun y hy=>h y (List.mem_cons_of_mem _ hy))
  rw[List.flatten_cons,List.length_append,h1,h2,List.length_cons,Nat.succ_mul];omega
theorem zfI{k:Nat}{D:List (List Value)}(h:∀x∈D,x.length=k){j:Nat}(hj:j<D.length):D.flatten=(D.take j).flatten++D[j]++(D.drop (j+1)).flatten∧(D.take j).flatten.length=j*k:=by
 constructor
 ·refine(congrArg List.flatten (za5 hj)).trans ?_
  rw[List.flatten_append,List.flatten_cons,List.append_assoc]
 ·rw[zbb (fun x hx=>h x (List.mem_of_mem_take hx)),List.length_take,Nat.min_eq_left (by omega)]
theorem SD.get{k:Nat}{w:World}{b:Nat}{e:TypeId}{cap:Nat}{D:List (List Value)}(h:SD k w b e cap D){j:Nat}(hj:j<D.length):zav w (some ⟨b,j*k,Option.none⟩) k=some D[j]:=by
 obtain⟨cur,R,hb,hc,hs⟩:=h.lies
 obtain⟨e1,e2⟩:=zfI h.len hj
 have hk:=h.len D[j] (List.getElem_mem hj)
 have hlen:cur.toList.length=D.flatten.length+R.length:=by rw[hc];simp
 have e3:=congrArg List.length e1
 simp only[List.length_append]at e3
 have hsz:cur.toList.length=cur.size:=by simp
 rw[zam hb (by omega),hc,e1,List.append_assoc,List.append_assoc,List.drop_left' e2,List.take_left' hk]
theorem zdy{b o:Nat}{e:TypeId}:∀(l:List Value) (i:Nat) (w:World) (A V B:List Value) (cur:Array Value),w.heap[b]? =some (.cells cur e (0,0))→cur.toList=A++V++B→A.length=o+i→V.length=l.length→(∀v∈l,one v=true)→
  ∃w',stC w ⟨b,o,Option.none⟩ i l=some w'∧w'.heap.size=w.heap.size∧Keep (fun x=>x=b) w w'∧∃cur':Array Value,w'.heap[b]? =some (.cells cur' e (0,0))∧cur'.toList=A++l++B
 | [],i,w,A,V,B,cur,hb,hc,hA,hV,_=>by
  have:V=[]:=List.length_eq_zero_iff.1 hV
  subst this
  exact⟨w,rfl,rfl,Keep.refl _ _,cur,hb,by simpa using hc⟩
 |v::l,i,w,A,V,B,cur,hb,hc,hA,hV,h1=>by
  cases V with
  |nil=>simp at hV
  |cons u V=>
   have hcl:=congrArg List.length hc
   simp only[List.length_append,List.length_cons,Array.length_toList]at hcl
   have hlt:o+i<cur.size:=by omega
   have hset:(cur.setIfInBounds (o+i) v).toList=(A++ [v])++V++B:=by
    rw[Array.toList_setIfInBounds,hc,←hA,List.append_assoc,List.set_append_right _ _ (Nat.le_refl _),Nat.sub_self]
    simp
   obtain⟨w',k1,k2,k3,cur',k4,k5⟩:=zdy l (i+1) (w.setCell ⟨b,o+i,Option.none⟩ v) (A++ [v]) V B _ (zeS hb) hset (by rw[List.length_append,hA];rfl) (by simpa using hV) (fun x hx=>h1 x (List.mem_cons_of_mem _ hx))
   refine⟨w',?_,by rw[k2];simp,(zfZ w b (o+i) v).trans k3,cur',k4,by simpa using k5⟩
   unfold stC
   rw[zds,zbe hb,ze9 hb,Array.getElem?_eq_getElem hlt,h1 v (List.mem_cons_self ..)]
   simpa using k1
theorem SD.set{k:Nat}{w:World}{b:Nat}{e:TypeId}{cap:Nat}{D:List (List Value)}(h:SD k w b e cap D){P:Program}{t:TypeId}{K:Value→World→Prop}{j:Nat}(hj:j<D.length){x:List Value}(hx:x.length=k)(h1:∀v∈x,one v=true)
  (hs:tyS P t=k) (hi:(P.info? t).isSome=true) (hK:∀w',w'.heap.size=w.heap.size→SD k w' b e cap (D.set j x)→Keep (fun i=>i=b) w w'→K undef w'):
  stK P t (.pointer (some ⟨b,j*k,Option.none⟩)) (.agg x.toArray) w K:=by
 obtain⟨cur,R,hb,hc,hsz⟩:=h.lies
 obtain⟨e1,e2⟩:=zfI h.len hj
 have hk:=h.len D[j] (List.getElem_mem hj)
 rw[e1,List.append_assoc,List.append_assoc]at hc
 obtain⟨w',k1,k2,k3,cur',k4,k5⟩:=zdy (o:=j*k) x 0 w (D.take j).flatten D[j] ((D.drop (j+1)).flatten++R) cur hb (by rw[hc];simp) (by simpa using e2) (by rw[hk,hx]) h1
 refine⟨by simp[Value.cells,hx,hs],hi,w',by simpa [Value.cells] using k1,hK w' k2 ⟨⟨cur',R,k4,?_,?_⟩,?_,?_⟩ k3⟩
 ·have e3:(D.set j x).flatten=(D.take j).flatten++x++(D.drop (j+1)).flatten:=by
   rw[List.set_eq_take_append_cons_drop,if_pos hj];simp
  rw[k5,e3];simp
 ·have l1:=congrArg List.length k5
  have l2:=congrArg List.length hc
  simp only[List.length_append,Array.length_toList]at l1 l2
  omega
 ·intro y hy
  rcases List.mem_or_eq_of_mem_set hy with hy|rfl
  ·exact h.len y hy
  ·exact hx
 ·intro y hy
  rcases List.mem_or_eq_of_mem_set hy with hy|rfl
  ·exact h.ones y hy
  ·exact h1
theorem SD.keep{k:Nat}{w x:World}{b:Nat}{e:TypeId}{cap:Nat}{D:List (List Value)}{S:Nat→Prop}(h:SD k w b e cap D)(hk:Keep S w x)(hS:¬S b):SD k x b e cap D:=by
 obtain⟨⟨cur,R,hb,hr⟩,h1,h2⟩:=h
 exact⟨⟨cur,R,(hk.block _ (Array.getElem?_eq_some_iff.1 hb).1 hS).trans hb,hr⟩,h1,h2⟩
theorem SD.ext{k:Nat}{w x:World}{b:Nat}{e:TypeId}{cap:Nat}{D:List (List Value)}(h:SD k w b e cap D)(hE:Ext w x):SD k x b e cap D:=h.keep hE (fun h=>h)
theorem SD.lt{k:Nat}{w:World}{b:Nat}{e:TypeId}{cap:Nat}{D:List (List Value)}(h:SD k w b e cap D):b<w.heap.size:=by
 obtain⟨cur,R,hb,_⟩:=h.lies
 exact(Array.getElem?_eq_some_iff.1 hb).1
def ldAX(P:Program)(w:World)(t:TypeId)(p:Option Addr):Bool→Nat→Option Value
 |true,k=>(zav w p k).map fun l=> .agg l.toArray
 |false,_=>ldP P w t p
theorem ldA_X{P:Program}{w:World}{t:TypeId}(p:Option Addr):ldA P w t p=ldAX P w t p (tyA P t) (tyS P t):=by
 cases hA:tyA P t with
 |true=>exact zhW hA
 |false=>rfl
theorem zhX{P:Program}{w:World}{t:TypeId}(p:Option Addr)(k:Nat):ldAX P w t p true k=(zav w p k).map fun l=> .agg l.toArray:=nr rfl
attribute [go_sem] ldA_X zhX
theorem zac{w:World}{b i:Nat}{cur:Array Value}{e:TypeId}{fr:Nat×Nat}{v:Value}(h:w.heap[b]? =some (.cells cur e fr))(hv:cur[i]? =some v):zaf w (some ⟨b,i,Option.none⟩)=some v:=by
 show w.cell? _=_
 rw[zbe h];exact hv
def zdD(k:Nat):List Value→List (Nat×Value)
 | []=>[]
 |v::l=>(k,v)::zdD (k+1) l
theorem zfd:∀(l:List Value) (k:Nat) (cells:Array Value),(∀v∈l,v.cells=#[v])→k+l.length≤cells.size→
  ∃r,Instr.fill (fun i=>some (i*1,1)) cells (zdD k l)=some r∧r.toList=cells.toList.take k++l++cells.toList.drop (k+l.length)
 | [],k,cells,_,_=>⟨cells,rfl,by simp⟩
 |v::l,k,cells,h,hk=>by
  simp only[List.length_cons]at hk
  have hv:=h v (List.mem_cons_self ..)
  obtain⟨r,h1,h2⟩:=zfd l (k+1) (cells.setIfInBounds k v) (fun u hu=>h u (List.mem_cons_of_mem _ hu)) (by simp;omega)
  refine⟨r,?_,?_⟩
  ·unfold zdD Instr.fill
   simp only[hv,Nat.mul_one]
   have:¬((#[v]:Array Value).size≠1∨k+(#[v]:Array Value).size>cells.size):=by simp;omega
   rw[if_neg (by simpa using this)]
   simpa using h1
  ·rw[h2,Array.toList_setIfInBounds,List.take_set,List.drop_set_of_lt (by omega)]
   have hlt:k<cells.toList.length:=by simp;omega
   rw[zag hlt]
   have e1:(cells.toList.take k).length=k:=by rw[List.length_take];omega
   rw[List.set_append_right _ _ (by omega),e1,Nat.sub_self,List.set_cons_zero]
   simp[Nat.add_assoc,Nat.add_comm 1]
section
variable {P : Program} {w : World} {K : Value → World → Prop}
theorem zbf{t e:TypeId}{z:Value}{l:List Value}{n:Nat}{parts:List (Nat×Value)}(hn:n=l.length)(hp:parts=zdD 0 l)(hu:tyU P t=some (.slice e))(hz:tyZ P e=some z)(hs:tyS P e=1)(hz1:z.cells=#[z])(hv:∀v∈l,v.cells=#[v])(hl:l.length≤1000000)
  (h:∀w1,Ext w w1→w1.heap.size=w.heap.size+1→Own w.heap.size w1 e (.slice (some ⟨w.heap.size,0,Option.none⟩) n n) l→K (.slice (some ⟨w.heap.size,0,Option.none⟩) n n) w1):bsL P t n parts w K .mk:=by
 subst hn hp
 unfold bsL bsK
 have hsz:((Array.range (l.length*1)).map fun x=>z.cells[x % z.cells.size]!).size=l.length:=by simp
 obtain⟨r,h1,h2⟩:=zfd l 0 ((Array.range (l.length*1)).map fun x=>z.cells[x % z.cells.size]!) hv (by rw[hsz];omega)
 have hr:r.toList=l:=by
  rw[h2,List.take_zero,List.nil_append,Nat.zero_add,List.drop_of_length_le (by rw[Array.length_toList,hsz];exact Nat.le_refl _),List.append_nil]
 have:bsC P t l.length (zdD 0 l)=some (e,r):=by
  unfold bsC
  rw[hu]
  simp only[hz,hs]
  have c1:(decide (l.length*1≤2 ^ 24) && decide (z.cells.size=1))=true:=by rw[hz1];simp;omega
  rw[c1,cond_true,h1];rfl
 rw[this]
 have hrs:r.size=l.length:=by rw[←hr];simp
 exact h _ (Ext.alloc w _) (zat w _) ⟨by simp,.inr ⟨w.heap.size,l.length,r,rfl,Nat.le_refl _,zak w _,Nat.le_refl _,by simp[maxLen];omega,by simpa using hrs,by rw[hr];simp⟩⟩
end
structure OwnK(k B:Nat)(w:World)(e:TypeId)(v:Value)(L:List (List Value)):Prop where
 own:w.ownsRow B e k v L.length L.flatten
 len:∀x∈L,x.length=k
 ones:∀x∈L,∀v∈x,one v=true
section
variable {P : Program} {d : Option Tmp} {ty : TypeId} {ps : String} {af : Array Edge} {g : Option (Nat × Bool)} {ρ : Operand → Value} {w : World} {K : Value → World → Prop}
theorem OwnK.nil(k B:Nat)(w:World)(e:TypeId):OwnK k B w e (.slice Option.none 0 0) []:=⟨⟨by simp,.inl ⟨rfl,rfl⟩⟩,fun x h=>(by cases h),fun x h=>(by cases h)⟩
theorem OwnK.ge{k B:Nat}{e:TypeId}{v:Value}{L:List (List Value)}(h:OwnK k B w e v L){b:Nat}(hb:some b=v.ownBlock):B≤b∧b<w.heap.size:=by
 rcases h.own.2 with ⟨rfl,_⟩| ⟨g,cap,cur,rfl,hg,hc,_⟩
 ·cases hb
 ·cases hb;exact⟨hg,(Array.getElem?_eq_some_iff.1 hc).1⟩
theorem OwnK.keep{k B:Nat}{e:TypeId}{v:Value}{L:List (List Value)}{x:World}{S:Nat→Prop}(h:OwnK k B w e v L)(hk:Keep S w x)(hS:∀b,some b=v.ownBlock→¬S b):OwnK k B x e v L:=by
 obtain⟨⟨h1,h2⟩,h3,h4⟩:=h
 refine⟨⟨h1,?_⟩,h3,h4⟩
 rcases h2 with h2| ⟨g,cap,cur,hv,hb,hg,rest⟩
 ·exact .inl h2
 ·exact .inr ⟨g,cap,cur,hv,hb,(hk.block _ (Array.getElem?_eq_some_iff.1 hg).1 (hS _ (by rw[hv];rfl))).trans hg,rest⟩
theorem OwnK.ext{k B:Nat}{e:TypeId}{v:Value}{L:List (List Value)}{x:World}(h:OwnK k B w e v L)(hk:Ext w x):OwnK k B x e v L:=h.keep hk (fun _ _ h=>h)
theorem OwnK.mono{k B B':Nat}{e:TypeId}{v:Value}{L:List (List Value)}(h:OwnK k B w e v L)(hB:B'≤B):OwnK k B' w e v L:=by
 obtain⟨⟨h1,h2⟩,h3,h4⟩:=h
 refine⟨⟨h1,?_⟩,h3,h4⟩
 rcases h2 with h2| ⟨g,cap,cur,hv,hb,rest⟩
 ·exact .inl h2
 ·exact .inr ⟨g,cap,cur,hv,by omega,rest⟩
theorem OwnK.cases{k B:Nat}{e:TypeId}{v:Value}{L:List (List Value)}(h:OwnK k B w e v L):
  (v= .slice Option.none 0 0∧L=[])∨∃b cap,v= .slice (some ⟨b,0,Option.none⟩) L.length cap∧B≤b∧L.length≤cap∧cap≤maxLen∧SD k w b e cap L:=by
 obtain⟨⟨h1,h2⟩,h3,h4⟩:=h
 rcases h2 with ⟨rfl,h0⟩| ⟨g,cap,cur,rfl,hg,hb,hn,hm,hcs,hx⟩
 ·exact .inl ⟨rfl,List.length_eq_zero_iff.1 h0⟩
 ·refine .inr ⟨g,cap,rfl,hg,hn,hm,⟨cur,cur.toList.drop (L.length*k),hb,?_,hcs⟩,h3,h4⟩
  rw[←hx,List.take_append_drop]
theorem OwnK.of_sd{k B b cap:Nat}{e:TypeId}{L:List (List Value)}(h:SD k w b e cap L)(hB:B≤b)(hc:L.length≤cap)(hm:cap≤maxLen):OwnK k B w e (.slice (some ⟨b,0,Option.none⟩) L.length cap) L:=by
 obtain⟨cur,R,hb,e1,e2⟩:=h.lies
 refine⟨⟨zbb h.len,.inr ⟨b,cap,cur,rfl,hB,hb,hc,hm,e2,?_⟩⟩,h.len,h.ones⟩
 rw[e1,List.take_left' (zbb h.len)]
theorem OwnK.rowK{k B:Nat}{e:TypeId}{v:Value}{L:List (List Value)}(h:OwnK k B w e v L):RowK k w v L:=by
 rcases h.cases with ⟨rfl,rfl⟩| ⟨b,cap,rfl,_,hc,_,hD⟩
 ·exact⟨Option.none,0,rfl,Nat.le_refl _,fun j h=>by simp at h⟩
 ·exact⟨_,cap,rfl,hc,fun j hj=>by rw[zaW,Nat.zero_add];exact hD.get hj⟩
theorem Src1.of_rowK{k:Nat}{u:Value}{L:List (List Value)}(h:RowK k w u L)(hk:∀x∈L,x.length=k):Src1 w u L.length k L.flatten:=by
 obtain⟨a,c,rfl,hc,hl⟩:=h
 refine⟨a,c,rfl,zbb hk,fun j hj=>?_⟩
 rw[zbb hk]at hj
 have hk0:0<k:=Nat.pos_of_ne_zero (fun h=>by subst h;simp at hj)
 have hq:j / k<L.length:=Nat.div_lt_of_lt_mul (by rw[Nat.mul_comm];exact hj)
 obtain⟨e1,e2⟩:=zfI hk hq
 have hlen:=hk L[j / k] (List.getElem_mem hq)
 have hr:j % k<L[j / k].length:=by rw[hlen];exact Nat.mod_lt _ hk0
 have hg:=zbK (hl (j / k) hq) hr
 have hj2:j / k*k+j % k=j:=by rw[Nat.mul_comm];exact Nat.div_add_mod j k
 rw[zcv,hj2]at hg
 rw[hg]
 have:L.flatten[j]? =some L[j / k][j % k]:=by
  rw[e1,List.append_assoc,List.getElem?_append_right (by rw[e2];omega),List.getElem?_append_left (by rw[e2];omega),e2]
  rw[show j - j / k*k=j % k from by omega]
  exact List.getElem?_eq_getElem hr
 rw[List.getElem?_eq_getElem (by rw[zbb hk];exact hj)]at this
 exact this.symm
theorem zfC{k B:Nat}{s x:Operand}{t e:TypeId}{inf:TypeInfo}{z:Value}{bytes:Nat}{v u:Value}{L N:List (List Value)}(hown:OwnK k B w e v L)(hrow:RowK k w u N)
  (ht:tyU P t=some (.slice e)) (hi:P.info? e=some inf) (hz:inf.zero=some z)
  (hsize:inf.size=k) (hby:inf.bytes=bytes) (hzs:z.cells.size=k) (hk0:0<k) (hv:ρ s=v) (hu:ρ x=u)
  (hl:∀x∈N,x.length=k) (h1:∀x∈N,∀q∈x,one q=true) (hlen:L.length+N.length≤100000000000) (hbytes:bytes≤1000) (hB:B≤w.heap.size)
  (h:∀v' w',OwnK k B w' e v' (L++N)→(∀w0,Ext w0 w→w0.heap.size≤B→Ext w0 w')→Keep (fun b=>some b=v.ownBlock) w w'→(∀b,some b=v'.ownBlock→some b=v.ownBlock∨w.heap.size≤b)→(v'= .slice Option.none 0 0→v= .slice Option.none 0 0)→K v' w'):
  opW P ⟨d,.call ⟨.builtin .append,#[s,x],#[t,t]⟩,ty,ps,af,g⟩ ρ w K:=by
 refine zeX (B:=B) (m:=N.length) (xs:=L.flatten) (news:=N.flatten) (n:=L.length) ht hi hz hsize hby hzs hk0 hv hu hown.own (Src1.of_rowK hrow hl) ?_ (by simp[maxLen];omega) ?_ hB ?_
 ·intro q hq
  obtain⟨y,hy,hq⟩:=List.mem_flatten.1 hq
  exact h1 y hy q hq
 ·have:(L.length+N.length)*bytes≤100000000000*1000:=Nat.mul_le_mul hlen hbytes
  omega
 ·intro v' w' ho hk hw
  refine h v' w' ⟨by simpa using ho,?_,?_⟩ (fun w0 hE hB0=>?_) hk hw.2 (fun hv'=>(hw.1.1 hv').1)
  ·intro y hy
   rcases List.mem_append.1 hy with hy|hy
   ·exact hown.len y hy
   ·exact hl y hy
  ·intro y hy
   rcases List.mem_append.1 hy with hy|hy
   ·exact hown.ones y hy
   ·exact h1 y hy
  ·exact Keep.to_ext hE rfl (fun b hb=>by have:=(hown.ge hb).1;omega) hk
theorem ziq{k:Nat}{t e:TypeId}{z:Value}(hu:tyU P t=some (.slice e))(hz:tyZ P e=some z)(hs:tyS P e=k)(hz1:z.cells.size=k)
  (h:∀w1,Ext w w1→w1.heap.size=w.heap.size+1→OwnK k w.heap.size w1 e (.slice (some ⟨w.heap.size,0,Option.none⟩) 0 0) []→K (.slice (some ⟨w.heap.size,0,Option.none⟩) 0 0) w1):bsL P t 0 [] w K .mk:=by
 unfold bsL bsK
 have:bsC P t 0 []=some (e,#[]):=by simp[bsC,hu,hz,hs,hz1,Instr.fill]
 rw[this]
 exact h _ (Ext.alloc w _) (zat w _) ⟨⟨by simp,.inr ⟨w.heap.size,0,#[],rfl,Nat.le_refl _,zak w _,Nat.le_refl _,by decide,by simp,by simp⟩⟩,fun x h=>(by cases h),fun x h=>(by cases h)⟩
theorem zeR:∀(l:List Value) (n:Nat) (cells:Array Value),n+l.length≤cells.size→((l.zipIdx n).foldl (fun cs (x:Value×Nat)=>cs.setIfInBounds (0+x.2) x.1) cells).toList=cells.toList.take n++l++cells.toList.drop (n+l.length)
 | [],n,cells,_=>by simp
 |v::l,n,cells,h=>by
  simp only[List.length_cons]at h
  rw[List.zipIdx_cons,List.foldl_cons,zeR l (n+1) _ (by simp;omega)]
  rw[Nat.zero_add,Array.toList_setIfInBounds,List.take_set,List.drop_set_of_lt (by omega)]
  have hlt:n<cells.toList.length:=by simp;omega
  rw[zag hlt]
  have e1:(cells.toList.take n).length=n:=by rw[List.length_take];omega
  rw[List.set_append_right _ _ (by omega),e1,Nat.sub_self,List.set_cons_zero]
  simp[Nat.add_assoc,Nat.add_comm 1]
theorem fill_agg{l:List Value}{k:Nat}{cells:Array Value}(hl:l.length=k)(hc:cells.size=k):
  ∃r,Instr.fill (fun i=>some (i*k,k)) cells [(0,.agg l.toArray)]=some r∧r.toList=l:=by
 refine⟨(l.zipIdx 0).foldl (fun cs (x:Value×Nat)=>cs.setIfInBounds (0+x.2) x.1) cells,?_,?_⟩
 ·unfold Instr.fill
  have hcl:(Value.agg l.toArray).cells=l.toArray:=rfl
  have c1:(decide (l.toArray.size≠k)||decide (0*k+l.toArray.size>cells.size))=false:=by simp[hl,hc]
  simp only[hcl]
  rw[if_neg (by rw[c1];exact Bool.false_ne_true)]
  show some _=some _
  congr 1
  rw[Nat.zero_mul]
  simp[Array.foldl_toList,←Array.foldl_toList]
 ·rw[zeR l 0 cells (by omega)]
  simp[hl,hc]
theorem zin{k:Nat}{t e:TypeId}{z:Value}{l:List Value}(hu:tyU P t=some (.slice e))(hz:tyZ P e=some z)(hs:tyS P e=k)(hz1:z.cells.size=k)(hl:l.length=k)(hk:k≤1000)(h1:∀q∈l,one q=true)
  (h:∀w1,Ext w w1→w1.heap.size=w.heap.size+1→OwnK k w.heap.size w1 e (.slice (some ⟨w.heap.size,0,Option.none⟩) 1 1) [l]→K (.slice (some ⟨w.heap.size,0,Option.none⟩) 1 1) w1):bsL P t 1 [(0,.agg l.toArray)] w K .mk:=by
 unfold bsL bsK
 obtain⟨r,hr1,hr2⟩:=fill_agg (cells:=(Array.range (1*k)).map (z.cells[· % z.cells.size]!)) hl (by simp)
 have:bsC P t 1 [(0,.agg l.toArray)]=some (e,r):=by
  unfold bsC
  rw[hu]
  simp only[hz,hs]
  have c1:(decide (1*k≤2 ^ 24) && decide (z.cells.size=k))=true:=by rw[hz1];simp;omega
  rw[c1,cond_true,hr1];rfl
 rw[this]
 have hsz:r.size=k:=by rw[←hl,←hr2];simp
 exact h _ (Ext.alloc w _) (zat w _) ⟨⟨by simp[hl],.inr ⟨w.heap.size,1,r,rfl,Nat.le_refl _,zak w _,Nat.le_refl _,by decide,by simpa using hsz,by rw[hr2];simp[←hl]⟩⟩,fun x h=>(by rw[List.mem_singleton.1 h];exact hl),fun x h=>(by rw[List.mem_singleton.1 h];exact h1)⟩
theorem ret_cell{fn:Func}{n:Nat}{σ:Sto}{R:Value→World→Prop}{e:Exit}(he:e= .normal∨e= .ret){t:Tmp}{tt:TypeId}{x:Addr}{l:List Value}(hl:fn.results.toList=[.cell t tt])(hm:fn.ntmps=n)(hv:ev n σ (.tmp t)= .pointer (some x))
  (hA:tyA P tt=true) {k:Nat} (hk:tyS P tt=k) (hc:zav w (some x) k=some l) (h:R (.agg l.toArray) w):retQ P fn R e σ [] w:=by
 subst hm hk
 refine zdB he hl (rs:=[.agg l.toArray]) ?_ h
 unfold resV
 rw[show (if t<fn.ntmps then σ t else undef)= .pointer (some x) from hv]
 have:ldV P w tt x=some (.agg l.toArray):=by
  unfold ldV
  rw[hA,cond_true,show zaG w x 0 (tyS P tt)=some l from hc];rfl
 simp only[this,resV]
theorem zdV(w:World)(A B:Obj):Ext w ((w.alloc A).alloc B)∧((w.alloc A).alloc B).heap.size=w.heap.size+2∧((w.alloc A).alloc B).heap[w.heap.size]? =some A∧((w.alloc A).alloc B).heap[w.heap.size+1]? =some B:=by
 have s1:=zat w A
 have s2:=zat (w.alloc A) B
 have b1:=zak w A
 have b2:=zak (w.alloc A) B
 rw[s1]at s2 b2
 exact⟨(Ext.alloc w A).trans (Ext.alloc _ B),s2,(RowKit.Below.heap_alloc _ B _ (by rw[s1];omega)).trans b1,b2⟩
theorem zfS(w:World)(A B C:Obj):Ext w (((w.alloc A).alloc B).alloc C)∧(((w.alloc A).alloc B).alloc C).heap.size=w.heap.size+3∧(((w.alloc A).alloc B).alloc C).heap[w.heap.size]? =some A∧(((w.alloc A).alloc B).alloc C).heap[w.heap.size+1]? =some B∧(((w.alloc A).alloc B).alloc C).heap[w.heap.size+2]? =some C:=by
 obtain⟨h1,h2,h3,h4⟩:=zdV w A B
 have s3:=zat ((w.alloc A).alloc B) C
 have b3:=zak ((w.alloc A).alloc B) C
 rw[h2]at s3 b3
 exact⟨h1.trans (Ext.alloc _ C),s3,(RowKit.Below.heap_alloc _ C _ (by rw[h2];omega)).trans h3,(RowKit.Below.heap_alloc _ C _ (by rw[h2];omega)).trans h4,b3⟩
theorem eqIn_sl{t e:TypeId}(h:P.underlying t=some (.slice e))(n:Nat)(a:Option Addr)(l c:Nat):
  (Op.equalIn (n+1) t (.slice a l c) (.slice Option.none 0 0)).run P w= .ok a.isNone w:=by
 cases a<;>simp[Op.equalIn,underlying,program,Sem.run,h]
theorem eql_nil{t e yt:TypeId}{x y:Operand}{a:Option Addr}{n c:Nat}(ht:tyU P t=some (.slice e))(hx:ρ x= .slice a n c)(hy:ρ y= .slice Option.none 0 0)(h:K (.bool a.isNone) w):
  opW P ⟨d,.binOp .eql t x y yt,ty,ps,af,g⟩ ρ w K:=by
 have h2:(Op.equal t (.slice a n c) (.slice Option.none 0 0)).run P w= .ok a.isNone w:=eqIn_sl (show P.underlying t=_ from ht) 9999 a n c
 have hr:(do eqGuard .eql t x y (.slice a n c) (.slice Option.none 0 0);binOp .eql t (.slice a n c) (.slice Option.none 0 0):Sem Value).run P w= .ok (.bool a.isNone) w:=by
  simp[eqGuard,binOp,h2]
 have:=zan (P:=P) (K:=K) hr h
 rw[←hx,←hy]at this
 exact this
end
section
variable {α : Type}
def Rows(k:Nat)(C:List Value→α→Prop)(w:World)(v:Value)(xs:List α):Prop:=∃L,RowK k w v L∧L.length=xs.length∧∀i (h:i<L.length) (h':i<xs.length),C L[i] xs[i]
def Owns(k:Nat)(C:List Value→α→Prop)(B:Nat)(w:World)(e:TypeId)(v:Value)(xs:List α):Prop:=∃L,OwnK k B w e v L∧L.length=xs.length∧∀i (h:i<L.length) (h':i<xs.length),C L[i] xs[i]
structure ziw(k:Nat)(C:List Value→α→Prop):Prop where
 len:∀{cs:List Value} {a:α},C cs a→cs.length=k
 ones:∀{cs:List Value} {a:α},C cs a→∀q∈cs,one q=true
variable {k B : Nat} {C C' : List Value → α → Prop} {w x : World} {v : Value} {xs : List α} {e : TypeId}
theorem Rows.ext(h:Rows k C w v xs)(hE:Ext w x):Rows k C x v xs:=by
 obtain⟨L,h1,h2,h3⟩:=h
 exact⟨L,h1.ext hE,h2,h3⟩
theorem Rows.to(h:Rows k C w v xs)(hC:∀cs a,C cs a→C' cs a):Rows k C' w v xs:=by
 obtain⟨L,h1,h2,h3⟩:=h
 exact⟨L,h1,h2,fun i h h'=>hC _ _ (h3 i h h')⟩
theorem Owns.ext(h:Owns k C B w e v xs)(hE:Ext w x):Owns k C B x e v xs:=by
 obtain⟨L,h1,h2,h3⟩:=h
 exact⟨L,h1.ext hE,h2,h3⟩
theorem Owns.keep{S:Nat→Prop}(h:Owns k C B w e v xs)(hk:Keep S w x)(hS:∀b,some b=v.ownBlock→¬S b):Owns k C B x e v xs:=by
 obtain⟨L,h1,h2,h3⟩:=h
 exact⟨L,h1.keep hk hS,h2,h3⟩
theorem Owns.to(h:Owns k C B w e v xs)(hC:∀cs a,C cs a→C' cs a):Owns k C' B w e v xs:=by
 obtain⟨L,h1,h2,h3⟩:=h
 exact⟨L,h1,h2,fun i h h'=>hC _ _ (h3 i h h')⟩
theorem Owns.rows(h:Owns k C B w e v xs):Rows k C w v xs:=by
 obtain⟨L,h1,h2,h3⟩:=h
 exact⟨L,h1.rowK,h2,h3⟩
theorem Owns.nil(k:Nat)(C:List Value→α→Prop)(B:Nat)(w:World)(e:TypeId):Owns k C B w e (.slice Option.none 0 0) []:=⟨[],OwnK.nil _ _ _ _,rfl,fun i h=>absurd h (by simp)⟩
theorem Rows.nil(k:Nat)(C:List Value→α→Prop)(w:World):Rows k C w (.slice Option.none 0 0) []:=(Owns.nil k C 0 w 0).rows
theorem Owns.mono{B':Nat}(h:Owns k C B w e v xs)(hB:B'≤B):Owns k C B' w e v xs:=by
 obtain⟨L,h1,h2,h3⟩:=h
 exact⟨L,h1.mono hB,h2,h3⟩
theorem Owns.ge(h:Owns k C B w e v xs){b:Nat}(hb:some b=v.ownBlock):B≤b∧b<w.heap.size:=by
 obtain⟨L,h1,_⟩:=h
 exact h1.ge hb
theorem Rows.open(h:Rows k C w v xs):∃a c,v= .slice a xs.length c∧xs.length≤c∧∀i (h:i<xs.length),∃cs,zav w (adr a (i*k)) k=some cs∧C cs xs[i]:=by
 obtain⟨L,⟨a,c,rfl,hc,hg⟩,h2,h3⟩:=h
 refine⟨a,c,by rw[h2],by omega,fun i hi=>⟨L[i]'(by omega),hg i (by omega),h3 i (by omega) hi⟩⟩
theorem zgb{D:Nat→List Value→Prop}:∀(m:Nat),(∀i,i<m→∃cs,D i cs)→∃L:List (List Value),L.length=m∧∀i (h:i<L.length),D i L[i]
 |0,_=>⟨[],rfl,fun i h=>absurd h (by simp)⟩
 |m+1,h=>by
  obtain⟨L,hl,hL⟩:=zgb m (fun i hi=>h i (by omega))
  obtain⟨cs,h1⟩:=h m (by omega)
  refine⟨L++ [cs],by simp[hl],fun i hi=>?_⟩
  by_cases he:i<L.length
  ·rw[List.getElem_append_left he];exact hL i he
  ·have hi0:i=L.length:=by simp at hi;omega
   have e1:(L++ [cs])[i]=cs:=by simp[hi0]
   rw[e1,hi0,hl];exact h1
theorem Rows.close{a:Option Addr}{c:Nat}(hc:xs.length≤c)(h:∀i (h:i<xs.length),∃cs,zav w (adr a (i*k)) k=some cs∧C cs xs[i]):Rows k C w (.slice a xs.length c) xs:=by
 obtain⟨L,hl,hL⟩:=zgb (D:=fun i cs=>∀h:i<xs.length,zav w (adr a (i*k)) k=some cs∧C cs xs[i]) xs.length (fun i hi=>by
  obtain⟨cs,h1⟩:=h i hi
  exact⟨cs,fun _=>h1⟩)
 exact⟨L,⟨a,c,by rw[hl],by omega,fun i hi=>(hL i hi (by omega)).1⟩,hl,fun i h h'=>(hL i h h').2⟩
theorem all_app{L M:List (List Value)}{ys:List α}(hl:L.length=xs.length)(hm:M.length=ys.length)(h:∀q (h:q<L.length) (h':q<xs.length),C L[q] xs[q])(hM:∀q (h:q<M.length) (h':q<ys.length),C M[q] ys[q]):
  ∀q (h:q<(L++M).length) (h':q<(xs++ys).length),C (L++M)[q] (xs++ys)[q]:=by
 intro q h1 h2
 by_cases hq:q<L.length
 ·rw[List.getElem_append_left hq,List.getElem_append_left (by omega)];exact h q hq (by omega)
 ·have e1:(L++M)[q]=M[q - L.length]'(by simp at h1;omega):=List.getElem_append_right (by omega)
  have e2:(xs++ys)[q]=ys[q - L.length]'(by simp at h2;omega):=by rw[List.getElem_append_right (by omega)];simp[hl]
  rw[e1,e2];exact hM _ _ _
theorem Rows.drop{a:Option Addr}{c n:Nat}(h:Rows k C w (.slice a n c) xs){m:Nat}(hm:m≤n):Rows k C w (.slice (if c=m then a else adr a (m*k)) (n - m) (c - m)) (xs.drop m):=by
 obtain⟨a',c',hv',hc,hg⟩:=h.open
 have e1:a=a':=by injection hv'
 have e2:n=xs.length:=by injection hv'
 have e3:c=c':=by injection hv'
 subst e1 e2 e3
 rw[show xs.length - m=(xs.drop m).length from(List.length_drop ..).symm]
 refine Rows.close (by rw[List.length_drop];omega) (fun i hi=>?_)
 rw[List.length_drop]at hi
 obtain⟨cs,h1,h2⟩:=hg (m+i) (by omega)
 refine⟨cs,?_,by rw[List.getElem_drop];exact h2⟩
 rw[if_neg (by omega),zcv,←Nat.add_mul];exact h1
theorem Rows.take{a:Option Addr}{c n:Nat}(h:Rows k C w (.slice a n c) xs){m c2:Nat}(hm:m≤n)(hc2:m≤c2):Rows k C w (.slice a m c2) (xs.take m):=by
 obtain⟨a',c',hv',hc,hg⟩:=h.open
 have e1:a=a':=by injection hv'
 have e2:n=xs.length:=by injection hv'
 subst e1 e2
 have hl:(xs.take m).length=m:=by rw[List.length_take];omega
 have:=Rows.close (k:=k) (C:=C) (w:=w) (a:=a) (c:=c2) (xs:=xs.take m) (by omega) (fun i hi=>by
  rw[hl]at hi
  obtain⟨cs,h1,h2⟩:=hg i (by omega)
  exact⟨cs,h1,by rw[List.getElem_take];exact h2⟩)
 rwa [hl]at this
theorem Rows.len{a:Option Addr}{c n:Nat}(h:Rows k C w (.slice a n c) xs):n=xs.length∧xs.length≤c:=by
 obtain⟨a',c',hv',hc,hg⟩:=h.open
 have e2:n=xs.length:=by injection hv'
 have e3:c=c':=by injection hv'
 exact⟨e2,by omega⟩
theorem Rows.get{a:Option Addr}{c n:Nat}(h:Rows k C w (.slice a n c) xs){i:Nat}(hi:i<xs.length):∃cs,zav w (adr a (i*k)) k=some cs∧C cs xs[i]:=by
 obtain⟨a',c',hv',hc,hg⟩:=h.open
 have e1:a=a':=by injection hv'
 subst e1
 exact hg i hi
theorem Owns.cases(h:Owns k C B w e v xs):
  (v= .slice Option.none 0 0∧xs=[])∨∃b cap L,v= .slice (some ⟨b,0,Option.none⟩) xs.length cap∧B≤b∧xs.length≤cap∧cap≤maxLen∧SD k w b e cap L∧L.length=xs.length∧∀i (h:i<L.length) (h':i<xs.length),C L[i] xs[i]:=by
 obtain⟨L,h1,h2,h3⟩:=h
 rcases h1.cases with ⟨hv,h0⟩| ⟨b,cap,hv,hb,hc,hm,hD⟩
 ·refine .inl ⟨hv,?_⟩
  rw[h0]at h2
  exact List.length_eq_zero_iff.1 h2.symm
 ·exact .inr ⟨b,cap,L,by rw[hv,h2],hb,by omega,hm,hD,h2,h3⟩
theorem Owns.of_sd{b cap:Nat}{L:List (List Value)}(h:SD k w b e cap L)(hB:B≤b)(hc:xs.length≤cap)(hm:cap≤maxLen)(hl:L.length=xs.length)(h3:∀i (h:i<L.length) (h':i<xs.length),C L[i] xs[i]):
  Owns k C B w e (.slice (some ⟨b,0,Option.none⟩) xs.length cap) xs:=by
 have:=OwnK.of_sd h hB (by omega) hm
 rw[hl]at this
 exact⟨L,this,hl,h3⟩
end
section
variable {P : Program} {d : Option Tmp} {ty : TypeId} {ps : String} {af : Array Edge} {g : Option (Nat × Bool)} {ρ : Operand → Value} {w : World} {K : Value → World → Prop} {α : Type} {k : Nat} {C : List Value → α → Prop}
theorem Ext.at{w x:World}(h:Ext w x){b:Nat}{O:Obj}(hb:w.heap[b]? =some O):x.heap[b]? =some O:=(h.block _ (Array.getElem?_eq_some_iff.1 hb).1 (fun h=>h)).trans hb
theorem zaI{f:Option Nat}{n:Nat}{c:Code}{Q:Post}{σ:Sto}{ds:List Deferred}{O:Obj}(h:∀w1,Ext w w1→w1.heap.size=w.heap.size+1→w1.heap[w.heap.size]? =some O→W P f n c Q σ ds w1):W P f n c Q σ ds (w.alloc O):=
 h _ (Ext.alloc w O) (zat w O) (zak w O)
theorem zdt{f:Option Nat}{n:Nat}{c:Code}{Q:Post}{σ:Sto}{ds:List Deferred}{A B:Obj}(h:∀w1,Ext w w1→w1.heap.size=w.heap.size+2→w1.heap[w.heap.size]? =some A→w1.heap[w.heap.size+1]? =some B→W P f n c Q σ ds w1):W P f n c Q σ ds ((w.alloc A).alloc B):=by
 obtain⟨h1,h2,h3,h4⟩:=zdV w A B
 exact h _ h1 h2 h3 h4
theorem zbk(hC:ziw k C){B:Nat}{s x:Operand}{t e:TypeId}{inf:TypeInfo}{z:Value}{bytes:Nat}{v u:Value}{xs ys:List α}(hown:Owns k C B w e v xs)(hrow:Rows k C w u ys)
  (ht:tyU P t=some (.slice e)) (hi:P.info? e=some inf) (hz:inf.zero=some z)
  (hsize:inf.size=k) (hby:inf.bytes=bytes) (hzs:z.cells.size=k) (hk0:0<k) (hv:ρ s=v) (hu:ρ x=u)
  (hlen:xs.length+ys.length≤100000000000) (hbytes:bytes≤1000) (hB:B≤w.heap.size)
  (h:∀v' w',Owns k C B w' e v' (xs++ys)→(∀w0,Ext w0 w→w0.heap.size≤B→Ext w0 w')→Keep (fun b=>some b=v.ownBlock) w w'→(∀b,some b=v'.ownBlock→some b=v.ownBlock∨w.heap.size≤b)→K v' w'):
  opW P ⟨d,.call ⟨.builtin .append,#[s,x],#[t,t]⟩,ty,ps,af,g⟩ ρ w K:=by
 obtain⟨L,h1,h2,h3⟩:=hown
 obtain⟨M,m1,m2,m3⟩:=hrow
 have hMl:∀x∈M,x.length=k:=fun x hx=>by
  obtain⟨i,hi,rfl⟩:=List.getElem_of_mem hx
  exact hC.len (m3 i hi (by omega))
 have hM1:∀x∈M,∀q∈x,one q=true:=fun x hx=>by
  obtain⟨i,hi,rfl⟩:=List.getElem_of_mem hx
  exact hC.ones (m3 i hi (by omega))
 refine zfC h1 m1 ht hi hz hsize hby hzs hk0 hv hu hMl hM1 (by omega) hbytes hB ?_
 intro v' w' ho hE hk hb _
 exact h v' w' ⟨L++M,ho,by simp[h2,m2],all_app h2 m2 h3 m3⟩ hE hk hb
theorem zdS(hC:ziw k C){t e:TypeId}{z:Value}{l:List Value}{a:α}(hu:tyU P t=some (.slice e))(hz:tyZ P e=some z)(hs:tyS P e=k)(hz1:z.cells.size=k)(hl:C l a)(hk:k≤1000)
  (h:∀w1,Ext w w1→w1.heap.size=w.heap.size+1→Owns k C w.heap.size w1 e (.slice (some ⟨w.heap.size,0,Option.none⟩) 1 1) [a]→K (.slice (some ⟨w.heap.size,0,Option.none⟩) 1 1) w1):bsL P t 1 [(0,.agg l.toArray)] w K .mk:=by
 refine zin hu hz hs hz1 (hC.len hl) hk (hC.ones hl) ?_
 intro w1 hE hsz ho
 refine h w1 hE hsz ⟨[l],ho,rfl,fun i h h'=>?_⟩
 have:i=0:=by simp at h;omega
 subst this
 exact hl
end
theorem zc4{w:World}{a:Addr}{v:Value}(h:w.cell? a=some v):a.block<w.heap.size:=by
 apply Classical.byContradiction
 intro hn
 unfold World.cell? at h
 rw[Array.getElem?_eq_none (by omega)]at h
 cases h
section
variable {P : Program} {w : World} {K : Value → World → Prop} {α : Type} {k : Nat} {C : List Value → α → Prop}
theorem zio{t e:TypeId}{z:Value}(hu:tyU P t=some (.slice e))(hz:tyZ P e=some z)(hs:tyS P e=k)(hz1:z.cells.size=k)
  (h:∀w1,Ext w w1→w1.heap.size=w.heap.size+1→Owns k C w.heap.size w1 e (.slice (some ⟨w.heap.size,0,Option.none⟩) 0 0) ([]:List α)→K (.slice (some ⟨w.heap.size,0,Option.none⟩) 0 0) w1):bsL P t 0 [] w K .mk:=
 ziq hu hz hs hz1 fun w1 h1 h2 h3=>h w1 h1 h2 ⟨[],h3,rfl,fun i h=>absurd h (by simp)⟩
theorem zik{b n:Nat}{cur:Array Value}{e:TypeId}{fr:Nat×Nat}(h:w.heap[b]? =some (.cells cur e fr))(hn:n=cur.size):zav w (some ⟨b,0,Option.none⟩) n=some cur.toList:=by
 rw[zam h (by omega),List.drop_zero,List.take_of_length_le (by simp[hn])]
end
theorem u8_le(u:UInt8):(65≤u↔(65:Int)≤u.toNat)∧(u≤90↔(u.toNat:Int)≤90):=by
 rw[UInt8.le_iff_toNat_le,UInt8.le_iff_toNat_le]
 constructor
 ·show 65≤u.toNat↔_;omega
 ·show u.toNat≤90↔_;omega
theorem byteV_up{cc:UInt8}(h65:(65:Int)≤cc.toNat)(h90:(cc.toNat:Int)≤90):zaj (zdL cc)= .int .u8 (cc.toNat+32):=by
 rw[zgg ⟨(u8_le cc).1.2 h65,(u8_le cc).2.2 h90⟩]
 unfold zaj
 congr 1
 have:(cc+32).toNat=cc.toNat+32:=by
  rw[UInt8.toNat_add];show(cc.toNat+32) % 256=_;omega
 rw[this];push_cast;omega
theorem zgM{l:List UInt8}{k:Nat}(hk:k<l.length):(zaP l k)[k]? =some l[k]:=by
 unfold zaP
 have e:(zaS (l.take k)).length=k:=by simp[zaS];omega
 rw[List.getElem?_append_right (by omega),e];simp[hk]
theorem zcO(w:World)(l:List UInt8)(hl:l.length≤9000000000000000000):Fn Tryz.prog 217 #[vs l] w (fun v w'=>v=vs (zaS l)∧Ext w w'):=by
 refine enter Tryz.func217 Tryz.ntmps217 rfl rfl ?_
 repeat (first|refine c_r ?_|refine rg0 ?_)
 repeat refine c_r ?_
 refine rq ?_;intro gd K hgd hK
 try simp only[go_sem]
 refine zeA rfl rfl rfl (vq0) ?_
 intro c cur w1 hlc hcur htake hE1 hsz1 hb1
 try simp only[go_sem]
 refine hK _ _ ?_;clear hK hgd;clear K;try clear gd
 repeat (first|refine c_r ?_|refine rg0 ?_)
 refine zas (fun m σ ds A=>ds=[]∧∃i,i+m=l.length∧σ 4=vi i∧σ 3= .slice (some ⟨w.heap.size,0,Option.none⟩) l.length c∧Ext w A∧
  ∃cur:Array Value,cur.size=c∧cur.toList.take l.length=(zaP l i).map zaj∧A.heap[w.heap.size]? =some (.cells cur 5 (c,c+1))) l.length ?_ ?_
 ·refine⟨rfl,0,by omega,?_,?_,hE1,cur,hcur,by simpa [zaP,zaS] using htake,hb1⟩<;>simp only[go_sem]<;>rfl
 ·rintro m σ ds A ⟨rfl,i,him,h4,h3,hE,cu,hcu,hpre,hrow⟩
  repeat refine c_r ?_
  refine rg2 h4 h3 ?_
  refine wc0 ?_ ?_
  ·intro hlt
   simp only[decide_eq_true_eq]at hlt
   have hk:i<l.length:=by omega
   generalize hcc:l[i]=cc
   have hcell:zaf A (some ⟨w.heap.size,i,Option.none⟩)=some (.int .u8 cc.toNat):=by
    show A.cell? _=_
    rw[zbe hrow]
    have:(cu.toList.take l.length)[i]? =some (zaj cc):=by rw[hpre,List.getElem?_map,zgM hk,hcc];rfl
    rw[List.getElem?_take,if_pos hk]at this
    simpa [zaj] using this
   repeat (with_reducible first|refine zfl ?_|refine ziu ?_|refine zfn ?_|refine zaq ?_|refine zb6 ?_|refine zcz ?_|refine zbm ?_|refine zcg ?_|refine zbv ?_|refine zbj rfl ?_)
   refine W_mid (fun σ ds B=>ds=[]∧σ 4=vi i∧σ 3= .slice (some ⟨w.heap.size,0,Option.none⟩) l.length c∧Ext w B∧
    ∃cur:Array Value,cur.size=c∧cur.toList.take l.length=(zaP l (i+1)).map zaj∧B.heap[w.heap.size]? =some (.cells cur 5 (c,c+1))) ?_ ?_
   ·repeat refine c_r ?_
    refine rq ?_;intro gd K hgd hK
    have hg5:∀n σ b,zap gd n σ (some (5,b))=zah (ev n σ (.tmp 18)) b:=(fun n σ b=>by rw[zab,show gd 5=some 18 from(by rw[hgd];rfl)];rfl)
    have hno:¬(65≤cc∧cc≤90)→cu.toList.take l.length=(zaP l (i+1)).map zaj:=fun h=>by rw[hpre,zdJ hk (by rw[hcc];exact h)]
    by_cases h65:(65:Int)≤cc.toNat
    ·try simp (disch:=first|omega|assumption|rfl) only[go_sem,h4,h3,hcell,decide_eq_true h65,↓hg5]
     refine hK _ _ ?_;clear hK hgd;clear K;try clear gd
     repeat refine c_r ?_
     refine wc0 ?_ ?_
     ·intro h90
      simp only[decide_eq_true_eq]at h90
      repeat refine c_r ?_
      refine rq ?_;intro gd K hgd hK
      try simp (disch:=first|omega|assumption|rfl) only[go_sem,h4,h3,hcell]
      refine za9 rfl rfl rfl hrow (by omega) (by simp;omega) ?_
      intro w5 hsz5 hb5 hk5
      refine hK _ _ ?_;clear hK hgd;clear K;try clear gd
      repeat (with_reducible first|refine zfl ?_|refine ziu ?_|refine zfn ?_|refine zaq ?_|refine zb6 ?_|refine zcz ?_|refine zbm ?_|refine zcg ?_|refine zbv ?_|refine zbj rfl ?_)
      have hset:((zaP l i).map zaj).set i (.int .u8 (↑cc.toNat+32))=(zaP l (i+1)).map zaj:=by
       rw[←zcq hk,hcc,List.map_set,byteV_up h65 h90]
      refine⟨rfl,?_,?_,Keep.to_ext hE rfl (fun b hb=>by omega) hk5,cu.setIfInBounds i (.int .u8 (↑cc.toNat+32)),by simpa using hcu,?_,hb5⟩
      ·simp only[go_sem,h4]
      ·simp only[go_sem,h3]
      ·rw[Array.toList_setIfInBounds,List.take_set,hpre,hset]
     ·intro h90
      simp only[decide_eq_false_iff_not]at h90
      repeat (with_reducible first|refine zfl ?_|refine ziu ?_|refine zfn ?_|refine zaq ?_|refine zb6 ?_|refine zcz ?_|refine zbm ?_|refine zcg ?_|refine zbv ?_|refine zbj rfl ?_)
      exact⟨rfl,(vq1 h4),(vq1 h3),hE,cu,hcu,hno (fun h=>h90 ((u8_le cc).2.1 h.2)),hrow⟩
    ·try simp (disch:=first|omega|assumption|rfl) only[go_sem,h4,h3,hcell,decide_eq_false h65,↓hg5]
     refine hK _ _ ?_;clear hK hgd;clear K;try clear gd
     repeat refine c_r ?_
     refine wc0 ?_ ?_
     ·intro h;simp at h
     ·intro _
      repeat (with_reducible first|refine zfl ?_|refine ziu ?_|refine zfn ?_|refine zaq ?_|refine zb6 ?_|refine zcz ?_|refine zbm ?_|refine zcg ?_|refine zbv ?_|refine zbj rfl ?_)
      exact⟨rfl,(vq1 h4),(vq1 h3),hE,cu,hcu,hno (fun h=>h65 ((u8_le cc).1.1 h.1)),hrow⟩
   ·rintro σ' ds B ⟨rfl,h4',h3',hE',hex⟩
    refine rg1 h4' ?_
    refine zaq ?_
    exact⟨m - 1,by omega,rfl,i+1,by omega,by simp only[go_sem];rfl,(vq1 h3'),hE',hex⟩
  ·intro hge
   simp only[decide_eq_false_iff_not]at hge
   have hfull:zaP l i=zaS l:=by unfold zaP;rw[List.take_of_length_le (by omega),List.drop_of_length_le (by omega)];simp
   rw[hfull]at hpre
   have hlen:(zaS l).length=l.length:=by simp[zaS]
   repeat refine c_r ?_
   refine rq ?_;intro gd K hgd hK
   try simp (disch:=first|omega|assumption|rfl) only[go_sem,h3]
   rw[←hlen]
   refine zcc rfl rfl rfl ((vq2 h3 hlen)) ?_ ?_
   ·intro j hj
    rw[hlen]at hj
    rw[zaW]
    show A.cell? _=_
    rw[zbe hrow]
    have:(cu.toList.take l.length)[j]? =some (zaj ((zaS l)[j]'(by omega))):=by
     rw[hpre,List.getElem?_map,List.getElem?_eq_getElem (by omega)];rfl
    rw[List.getElem?_take,if_pos hj]at this
    simpa using this
   try simp only[go_sem]
   refine hK _ _ ?_;clear hK hgd;clear K;try clear gd
   repeat refine c_r ?_
   refine rt0 Tryz.ntmps217 ?_
   exact⟨rfl,hE⟩
abbrev Nm:=List (List UInt8)
def LB(n:Nm):Prop:=∀l∈n,l.length≤9000000000000000000
theorem LB.get{n:Nm}(h:LB n){i:Nat}(hi:i<n.length):n[i].length≤9000000000000000000:=h _ (List.getElem_mem hi)
def zao(n:Nm):Nm:=n.map zaS
theorem zaX(n:Nm):(zao n).length=n.length:=by simp[zao]
theorem zbI{n:Nm}{i:Nat}(h:i<n.length):zao (n.take (i+1))=zao (n.take i)++ [zaS n[i]]:=by
 rw[zag h];simp only[zao,List.map_append,List.map_cons,List.map_nil]
theorem zdd{a b:Nm}(h:a.length≠b.length):zao a≠zao b:=fun e=>h (by rw[←zaX a,e,zaX])
theorem zdK{a b:Nm}{i:Nat}(ha:i<a.length)(hb:i<b.length)(h:zaS a[i]≠zaS b[i]):zao a≠zao b:=by
 intro e
 apply h
 have:=congrArg (fun l:Nm=>l[i]?) e
 simpa [zao,ha,hb] using this
theorem RSame_ok(w:World)(a b:Value)(xs ys:List (List UInt8))(ha:Row w a (xs.map vs))(hb:Row w b (ys.map vs))(hx:LB xs)(hy:LB ys)(hxl:xs.length≤9000000000000000000)(hyl:ys.length≤9000000000000000000):
  Fn Tryz.prog 176 #[a,b] w (fun v w'=>v= .bool (decide (zao xs=zao ys))∧Ext w w'):=by
 obtain⟨a,ca,rfl,hca,hla⟩:=ha
 obtain⟨b,cb,rfl,hcb,hlb⟩:=hb
 simp only[List.length_map]at*
 refine enter Tryz.func176 Tryz.ntmps176 rfl rfl ?_
 repeat (first|refine c_r ?_|refine rg0 ?_)
 refine zaL (t:=!decide ((xs.length:Int)=ys.length)) (by simp only[go_sem]) ?_ ?_
 ·intro ht
  repeat (first|refine c_r ?_|refine rg0 ?_)
  refine rt0 Tryz.ntmps176 ?_
  exact⟨by rw[decide_eq_false (zdd (by simp at ht;omega))],Keep.refl _ _⟩
 ·intro ht
  repeat (first|refine c_r ?_|refine rg0 ?_)
  refine zas (fun m σ ds v=>ds=[]∧∃i,i+m=xs.length∧σ 5=vi i∧σ 0= .slice a xs.length ca∧σ 1= .slice b ys.length cb∧Ext w v∧zao (xs.take i)=zao (ys.take i)) xs.length ?_ ?_
  ·refine⟨rfl,0,by omega,?_,?_,?_,Keep.refl _ _,by simp[zao]⟩<;>simp only[go_sem]<;>rfl
  ·rintro m σ ds v ⟨rfl,i,him,h5,h0,h1,hE,hpre⟩
   refine zfm ?_
   refine zfm ?_
   refine rq ?_;intro gd K hgd hK
   simp only[go_sem,h5,h0,h1]
   refine hK _ _ ?_;clear hK hgd;clear K;try clear gd
   refine zaL (t:=decide ((i:Int)<xs.length)) (by simp only[go_sem]) ?_ ?_
   ·intro hlt
    simp only[decide_eq_true_eq]at hlt
    repeat refine c_r ?_
    refine zaK (fun _=>false) [(0,true),(1,true),(2,true),(3,true),(5,true),(6,true),(7,true),(8,true),(4,false),(9,false),(10,true)] NoS mixed (by kernel_rfl) ?_;intro gd K x hgd hx hxe hK;clear hxe
    have hsa:a.isSome=true:=zae (hla i (by omega))
    have hsb:b.isSome=true:=zae (hlb i (by simp at ht;omega))
    have hla':=fun j h=>zaa (hE.trans hx) (hla j h)
    have hlb':=fun j h=>zaa (hE.trans hx) (hlb j h)
    have hxy:xs.length=ys.length:=by simp at ht;omega
    clear ht
    simp (disch:=first|omega|assumption) only[go_sem,h5,h0,h1,hla',hlb',List.getElem_map]
    refine Fn.mono (zcO _ _ (LB.get ‹LB _› _)) ?_
    rintro _ x1 ⟨rfl,hx1⟩
    refine⟨.inr hx1,?_⟩
    simp (disch:=first|omega|assumption|rfl) only[go_sem]
    refine Fn.mono (zcO _ _ (LB.get ‹LB _› _)) ?_
    rintro _ x2 ⟨rfl,hx2⟩
    refine⟨.inr hx2,?_⟩
    simp only[go_sem]
    refine hK _ _ ?_;clear hK hgd;clear K;try clear gd
    repeat refine c_r ?_
    refine zaL (by simp only[go_sem];rfl) ?_ ?_
    ·intro hne
     simp only[Bool.not_eq_true',decide_eq_false_iff_not]at hne
     repeat (first|refine c_r ?_|refine rg0 ?_)
     refine rt0 Tryz.ntmps176 ?_
     exact⟨by rw[decide_eq_false (zdK (i:=i) (by omega) (by omega) hne)],((hE.trans hx).trans hx1).trans hx2⟩
    ·intro heq
     simp only[Bool.not_eq_false',decide_eq_true_eq]at heq
     repeat refine c_r ?_
     refine rq ?_;intro gd K hgd hK
     simp (disch:=first|omega|assumption) only[go_sem,h5,h0,h1]
     refine hK _ _ ?_;clear hK hgd;clear K;try clear gd
     refine zaq ?_
     refine⟨m - 1,by omega,rfl,i+1,by omega,?_,?_,?_,((hE.trans hx).trans hx1).trans hx2,?_⟩
     ·simp only[go_sem];rfl
     ·simp only[go_sem,h0]
     ·simp only[go_sem,h1]
     ·rw[zbI (by omega),zbI (by omega),hpre,heq]
   ·intro hge
    simp only[decide_eq_false_iff_not]at hge
    repeat (first|refine c_r ?_|refine rg0 ?_)
    refine rt0 Tryz.ntmps176 ?_
    refine⟨?_,hE⟩
    rw[List.take_of_length_le (by omega),List.take_of_length_le (by simp at ht;omega)]at hpre
    rw[decide_eq_true hpre]
theorem Row.cut{w:World}{a:Option Addr}{n c:Nat}{l:List Value}(hn:n=l.length)(hc:n≤c)(hl:∀j (h:j<l.length),zaf w (adr a j)=some l[j]){lo hi:Nat}(h1:lo≤hi)(h2:hi≤n):
  Row w (.slice (if c=lo then a else adr a lo) (hi - lo) (c - lo)) ((l.drop lo).take (hi - lo)):=by
 have hlen:((l.drop lo).take (hi - lo)).length=hi - lo:=by simp;omega
 refine⟨_,_,by rw[hlen],by omega,fun j hj=>?_⟩
 rw[hlen]at hj
 rw[if_neg (by omega),zcv,hl (lo+j) (by omega)]
 simp
theorem Row.tail{w:World}{a:Option Addr}{n c:Nat}{l:List Value}(hn:n=l.length)(hc:n≤c)(hl:∀j (h:j<l.length),zaf w (adr a j)=some l[j]){lo:Nat}(h2:lo≤n):
  Row w (.slice (if c=lo then a else adr a lo) (n - lo) (c - lo)) (l.drop lo):=by
 have:=Row.cut hn hc hl h2 (Nat.le_refl _)
 rwa [List.take_of_length_le (by simp;omega)]at this
def zgv(n z:Nm):Bool:=decide (z.length≤n.length) && decide (zao (n.drop (n.length - z.length))=zao z)
theorem LB.drop{n:Nm}(h:LB n)(k:Nat):LB (n.drop k):=fun l hl=>h l (List.drop_subset _ _ hl)
theorem LSame_ok(w:World)(a b:List UInt8)(ha:a.length≤9000000000000000000)(hb:b.length≤9000000000000000000):Fn Tryz.prog 72 #[vs a,vs b] w (fun v w'=>v= .bool (decide (zaS a=zaS b))∧Ext w w'):=by
 refine enter Tryz.func72 Tryz.ntmps72 rfl rfl ?_
 repeat refine c_r ?_
 refine rg0 ?_
 repeat refine c_r ?_
 refine rq ?_;intro gd K hgd hK
 try simp only[go_sem]
 refine Fn.mono (zcP _ _ ha) ?_
 rintro _ w1 ⟨rfl,hE1⟩
 try simp only[go_sem]
 refine Fn.mono (zcP _ _ hb) ?_
 rintro _ w2 ⟨rfl,hE2⟩
 try simp only[go_sem]
 refine hK _ _ ?_;clear hK hgd;clear K;try clear gd
 repeat refine c_r ?_
 refine rt0 Tryz.ntmps72 ?_
 exact⟨rfl,hE1.trans hE2⟩
theorem zft(w:World)(a b:Value)(xs ys:Nm)(ha:Row w a (xs.map vs))(hb:Row w b (ys.map vs))(hx:LB xs)(hy:LB ys)(hxl:xs.length≤9000000000000000000)(hyl:ys.length≤9000000000000000000):
  Fn Tryz.prog 71 #[a,b,.func (.func 72) #[] #[]] w (fun v w'=>v= .bool (decide (zao xs=zao ys))∧Ext w w'):=by
 obtain⟨a,ca,rfl,hca,hla⟩:=ha
 obtain⟨b,cb,rfl,hcb,hlb⟩:=hb
 simp only[List.length_map]at*
 refine enter Tryz.func71 Tryz.ntmps71 rfl rfl ?_
 repeat (first|refine c_r ?_|refine rg0 ?_)
 refine zaL (t:=!decide ((xs.length:Int)=ys.length)) (by simp only[go_sem]) ?_ ?_
 ·intro ht
  repeat (first|refine c_r ?_|refine rg0 ?_)
  refine rt0 Tryz.ntmps71 ?_
  exact⟨by rw[decide_eq_false (zdd (by simp at ht;omega))],Keep.refl _ _⟩
 ·intro ht
  have hxy:xs.length=ys.length:=by simp at ht;omega
  clear ht
  repeat (first|refine c_r ?_|refine rg0 ?_)
  refine zas (fun m σ ds v=>ds=[]∧∃i,i+m=xs.length∧σ 17=vi i∧σ 16=vi xs.length∧σ 15= .slice a xs.length ca∧σ 1= .slice b ys.length cb∧σ 2= .func (.func 72) #[] #[]∧Ext w v∧zao (xs.take i)=zao (ys.take i)) xs.length ?_ ?_
  ·refine⟨rfl,0,by omega,?_,?_,?_,?_,?_,Keep.refl _ _,by simp[zao]⟩<;>simp only[go_sem]<;>rfl
  ·rintro m σ ds v ⟨rfl,i,him,h17,h16,h15,h1,h2,hE,hpre⟩
   repeat refine c_r ?_
   refine rg2 h17 h16 ?_
   repeat refine c_r ?_
   refine wc0 ?_ ?_
   ·intro hlt
    simp only[decide_eq_true_eq]at hlt
    have hsa:a.isSome=true:=zae (hla i (by omega))
    have hsb:b.isSome=true:=zae (hlb i (by omega))
    have hla':=fun j h=>zaa hE (hla j h)
    have hlb':=fun j h=>zaa hE (hlb j h)
    repeat (first|refine c_r ?_| (refine zcM (by rfl) ?_;intro gd K hgd hK;simp (disch:=first|omega|assumption|rfl) only[go_sem,h17,h15,h1,hla',hlb',List.getElem_map];refine hK _ _ ?_;clear hK hgd;clear K gd))
    refine rq ?_;intro gd K hgd hK
    try simp (disch:=first|omega|assumption|rfl) only[go_sem,h2]
    refine Fn.mono (LSame_ok _ _ _ (LB.get hx _) (LB.get hy _)) ?_
    rintro _ x1 ⟨rfl,hx1⟩
    try simp only[go_sem]
    refine hK _ _ ?_;clear hK hgd;clear K;try clear gd
    repeat refine c_r ?_
    refine wc0 ?_ ?_
    ·intro hne
     simp only[Bool.not_eq_true',decide_eq_false_iff_not]at hne
     repeat refine c_r ?_
     refine rg0 ?_
     repeat refine c_r ?_
     refine rt0 Tryz.ntmps71 ?_
     exact⟨by rw[decide_eq_false (zdK (i:=i) (by omega) (by omega) hne)],hE.trans hx1⟩
    ·intro heq
     simp only[Bool.not_eq_false',decide_eq_true_eq]at heq
     repeat refine c_r ?_
     refine rg1 h17 ?_
     refine zaq ?_
     refine⟨m - 1,by omega,rfl,i+1,by omega,?_,?_,?_,?_,?_,hE.trans hx1,?_⟩
     ·simp only[go_sem];rfl
     ·simp only[go_sem,h16]
     ·simp only[go_sem,h15]
     ·simp only[go_sem,h1]
     ·simp only[go_sem,h2]
     ·rw[zbI (by omega),zbI (by omega),hpre,heq]
   ·intro hge
    simp only[decide_eq_false_iff_not]at hge
    repeat (first|refine c_r ?_|refine rg0 ?_)
    refine rt0 Tryz.ntmps71 ?_
    refine⟨?_,hE⟩
    rw[List.take_of_length_le (by omega),List.take_of_length_le (by omega)]at hpre
    rw[decide_eq_true hpre]
theorem zix(w:World)(a b:Value)(xs ys:Nm)(ha:Row w a (xs.map vs))(hb:Row w b (ys.map vs))(hx:LB xs)(hy:LB ys)(hxl:xs.length≤9000000000000000000)(hyl:ys.length≤9000000000000000000):
  Fn Tryz.prog 20 #[a,b] w (fun v w'=>v= .bool (decide (zao xs=zao ys))∧Ext w w'):=by
 refine enter Tryz.func20 Tryz.ntmps20 rfl rfl ?_
 repeat refine c_r ?_
 refine rg0 ?_
 repeat refine c_r ?_
 refine rq ?_;intro gd K hgd hK
 try simp only[go_sem]
 refine Fn.mono (zft w _ _ _ _ ha hb hx hy hxl hyl) ?_
 rintro _ w1 ⟨rfl,hE⟩
 try simp only[go_sem]
 refine hK _ _ ?_;clear hK hgd;clear K;try clear gd
 repeat refine c_r ?_
 refine rt0 Tryz.ntmps20 ?_
 exact⟨rfl,hE⟩
theorem Under_ok(w:World)(a b:Value)(xs ys:Nm)(ha:Row w a (xs.map vs))(hb:Row w b (ys.map vs))(hx:LB xs)(hy:LB ys)(hxl:xs.length≤9000000000000000000)(hyl:ys.length≤9000000000000000000):
  Fn Tryz.prog 69 #[a,b] w (fun v w'=>v= .bool (zgv xs ys)∧Ext w w'):=by
 have hb0:=hb
 obtain⟨a,ca,rfl,hca,hla⟩:=ha
 obtain⟨b,cb,rfl,hcb,hlb⟩:=hb
 simp only[List.length_map]at*
 refine enter Tryz.func69 Tryz.ntmps69 rfl rfl ?_
 repeat refine c_r ?_
 refine rg0 ?_
 repeat refine c_r ?_
 refine rq ?_;intro gd K hgd hK
 have hg5:∀n σ b,zap gd n σ (some (5,b))=zah (ev n σ (.tmp 10)) b:=(fun n σ b=>by rw[zab,show gd 5=some 10 from(by rw[hgd];rfl)];rfl)
 by_cases h:(ys.length:Int)≤xs.length
 ·try simp (disch:=first|omega|assumption|rfl) only[go_sem,decide_eq_true h,↓hg5]
  have hd:((xs.length:Int) - ys.length).toNat=xs.length - ys.length:=by omega
  have hcut:=Row.tail (l:=xs.map vs) (by simp) hca (fun j hj=>by rw[hla j (by simpa using hj)]) (lo:=xs.length - ys.length) (by omega)
  rw[←List.map_drop]at hcut
  rw[hd]
  refine Fn.mono (zix w _ _ _ _ hcut hb0 (hx.drop _) hy (by simp;omega) hyl) ?_
  rintro _ w1 ⟨rfl,hE⟩
  try simp (disch:=first|omega|assumption|rfl) only[go_sem,decide_eq_true h,↓hg5]
  refine hK _ _ ?_;clear hK hgd;clear K;try clear gd
  repeat refine c_r ?_
  refine rt0 Tryz.ntmps69 ?_
  exact⟨by simp[zgv];omega,hE⟩
 ·try simp (disch:=first|omega|assumption|rfl) only[go_sem,decide_eq_false h,↓hg5]
  refine hK _ _ ?_;clear hK hgd;clear K;try clear gd
  repeat refine c_r ?_
  refine rt0 Tryz.ntmps69 ?_
  exact⟨by simp[zgv];omega,Keep.refl _ _⟩
theorem zgr(w:World)(a:Value)(xs:Nm)(ha:Row w a (xs.map vs))(hx:LB xs)(hxl:xs.length≤1000000000000):
  Fn Tryz.prog 16 #[a] w (fun v w'=>RowB w.heap.size w' v ((zao xs).map vs)∧Ext w w'):=by
 obtain⟨a,ca,rfl,hca,hla⟩:=ha
 simp only[List.length_map]at*
 refine enter Tryz.func16 Tryz.ntmps16 rfl rfl ?_
 repeat refine c_r ?_
 refine rg0 ?_
 repeat refine c_r ?_
 refine rq ?_;intro gd K hgd hK
 try simp only[go_sem]
 refine zda (n:=xs.length) rfl rfl rfl rfl (vq0) (vq0) (by show 16*_≤_;omega) (by omega) rfl ?_
 try simp only[go_sem]
 refine hK _ _ ?_;clear hK hgd;clear K;try clear gd
 have hb1:=zak w (.cells (madeCells #[vs []] xs.length) 9 (0,0))
 have hE1:=Ext.alloc w (.cells (madeCells #[vs []] xs.length) 9 (0,0))
 have hs1:=size_madeCells #[vs []] xs.length
 revert hb1 hE1 hs1
 generalize (madeCells #[vs []] xs.length)=cur1
 intro hb1 hE1 hs1
 repeat (first|refine c_r ?_|refine rg0 ?_)
 refine zas (fun m σ ds A=>ds=[]∧∃i,i+m=xs.length∧σ 11=vi i∧σ 10=vi xs.length∧σ 9= .slice a xs.length ca∧σ 3= .slice (some ⟨w.heap.size,0,Option.none⟩) xs.length xs.length∧Ext w A∧
  ∃cur:Array Value,cur.size=xs.length∧cur.toList.take i=(zao (xs.take i)).map vs∧A.heap[w.heap.size]? =some (.cells cur 9 (0,0))) xs.length ?_ ?_
 ·refine⟨rfl,0,by omega,?_,?_,?_,?_,hE1,cur1,hs1,by simp[zao],hb1⟩<;>simp only[go_sem]<;>rfl
 ·rintro m σ ds A ⟨rfl,i,him,h11,h10,h9,h3,hE,cu,hcu,hpre,hrow⟩
  repeat refine c_r ?_
  refine rq ?_;intro gd K hgd hK;simp (disch:=first|omega|assumption|rfl) only[go_sem,h11,h10];refine hK _ _ ?_;clear hK hgd;clear K gd
  repeat refine c_r ?_
  refine wc0 ?_ ?_
  ·intro hlt
   simp only[decide_eq_true_eq]at hlt
   have hsa:a.isSome=true:=zae (hla i (by omega))
   have hla':=fun j h=>zaa hE (hla j h)
   repeat refine c_r ?_
   refine rq ?_;intro gd K hgd hK;simp (disch:=first|omega|assumption|rfl) only[go_sem,h11,h9,hla',List.getElem_map];refine hK _ _ ?_;clear hK hgd;clear K gd
   repeat refine c_r ?_
   refine rq ?_;intro gd K hgd hK
   try simp (disch:=first|omega|assumption|rfl) only[go_sem,h3]
   refine Fn.mono (zcP _ _ (LB.get hx _)) ?_
   rintro _ w5 ⟨rfl,hE5⟩
   try simp (disch:=first|omega|assumption|rfl) only[go_sem,h3]
   refine za9 rfl rfl rfl ((hE5.block _ (by have:=hE.size;have:=(Array.getElem?_eq_some_iff.1 hrow).1;omega) (fun h=>h)).trans hrow) (by omega) (by simp) ?_
   intro w6 hsz6 hb6 hk6
   refine hK _ _ ?_;clear hK hgd;clear K;try clear gd
   repeat refine c_r ?_
   refine rq ?_;intro gd K hgd hK;simp (disch:=first|omega|assumption|rfl) only[go_sem,h11];refine hK _ _ ?_;clear hK hgd;clear K gd
   repeat refine c_r ?_
   refine⟨m - 1,by omega,rfl,i+1,by omega,by simp only[go_sem];rfl,(vq1 h10),(vq1 h9),(vq1 h3),Keep.to_ext (hE.trans hE5) rfl (fun b hb=>by omega) hk6,_,by simpa using hcu,?_,hb6⟩
   rw[zbI (by omega),Array.toList_setIfInBounds,zag (by simp;omega),List.take_set_of_le (by omega),hpre,List.map_append]
   simp
  ·intro hge
   simp only[decide_eq_false_iff_not]at hge
   repeat refine c_r ?_
   refine rg1 h3 ?_
   repeat refine c_r ?_
   refine rt0 Tryz.ntmps16 ?_
   refine⟨?_,hE⟩
   rw[List.take_of_length_le (l:=xs) (by omega),List.take_of_length_le (by simp;omega)]at hpre
   refine⟨⟨_,_,by rw[List.length_map,zaX],by simp[zaX],fun j hj=>?_⟩,fun a n c hv=>?_⟩
   ·rw[zaW]
    show A.cell? _=_
    rw[zbe hrow,Nat.zero_add,←Array.getElem?_toList,hpre,List.getElem?_eq_getElem hj]
   ·cases hv
    exact⟨Nat.le_refl _,(Array.getElem?_eq_some_iff.1 hrow).1⟩
theorem KeepB.to_ext{n0:Nat}{C:Nat→Prop}{w0 w x:World}(h0:Ext w0 w)(h:KeepB n0 C w x)(hn:w0.heap.size≤n0)(hC:∀b,C b→w0.heap.size≤b):Ext w0 x:=
  ⟨h.os.trans h0.os,h.tape.trans h0.tape,h.output.trans h0.output,Nat.le_trans h0.size h.size,
   fun b hb _=>(h.block b (by omega) (fun hc=>by have:=hC b hc;omega)).trans (h0.block b hb (fun x=>x)),Nat.le_trans h0.drawn h.drawn⟩
abbrev cmpL:Lab→Lab→Int:=Lib.compareBytes
theorem zbU{a b:UInt8}:a<b↔a.toNat<b.toNat:=UInt8.lt_iff_toNat_lt
theorem zdq:∀a b:Lab,cmpL b a= - cmpL a b
 | [],[]=>rfl
 | [],_::_=>rfl
 |_::_,[]=>rfl
 |a::l,b::m=>by
  show(if b<a then _ else if a<b then _ else cmpL m l)= - (if a<b then(-1:Int) else if b<a then 1 else cmpL l m)
  by_cases h1:a<b
  ·have h2:¬b<a:=by rw[zbU]at*;omega
   rw[if_neg h2,if_pos h1,if_pos h1];rfl
  ·by_cases h2:b<a
   ·rw[if_pos h2,if_neg h1,if_pos h2]
   ·rw[if_neg h2,if_neg h1,if_neg h1,if_neg h2];exact zdq l m
theorem zbt:∀{a b:Lab},cmpL a b=0→a=b
 | [],[],_=>rfl
 | [],_::_,h=>by cases h
 |_::_,[],h=>by cases h
 |a::l,b::m,h=>by
  change (if a<b then(-1:Int) else if b<a then 1 else cmpL l m)=0 at h
  by_cases h1:a<b
  ·rw[if_pos h1]at h;cases h
  ·by_cases h2:b<a
   ·rw[if_neg h1,if_pos h2]at h;cases h
   ·rw[if_neg h1,if_neg h2]at h
    have e:a=b:=by
     apply UInt8.toNat_inj.1
     rw[zbU]at*;omega
    rw[e,zbt h]
theorem zei:∀{a b c:Lab},cmpL a b≤0→cmpL b c≤0→cmpL a c≤0
 | [],_,[],_,_=>Int.le_refl _
 | [],_,_::_,_,_=>by show(-1:Int)≤0;omega
 |a::l,[],_,h,_=>by exact absurd h (by show¬(1:Int)≤0;omega)
 |a::l,b::m,[],_,h=>by exact absurd h (by show¬(1:Int)≤0;omega)
 |a::l,b::m,c::n,h1,h2=>by
  change (if a<b then(-1:Int) else if b<a then 1 else cmpL l m)≤0 at h1
  change (if b<c then(-1:Int) else if c<b then 1 else cmpL m n)≤0 at h2
  show(if a<c then(-1:Int) else if c<a then 1 else cmpL l n)≤0
  by_cases e1:a<b
  ·have e3:¬c<b∨c<b:=by by_cases h:c<b<;>simp[h]
   by_cases e2:c<b
   ·have e4:¬b<c:=by rw[zbU]at*;omega
    rw[if_neg e4,if_pos e2]at h2;omega
   ·have:a<c:=by rw[zbU]at*;omega
    rw[if_pos this];omega
  ·by_cases e2:b<a
   ·rw[if_neg e1,if_pos e2]at h1;omega
   ·have e:a=b:=by
     apply UInt8.toNat_inj.1
     rw[zbU]at*;omega
    subst e
    rw[if_neg e1,if_neg e2]at h1
    by_cases e3:a<c
    ·rw[if_pos e3];omega
    ·by_cases e4:c<a
     ·rw[if_neg e3,if_pos e4]at h2;omega
     ·rw[if_neg e3,if_neg e4]at h2
      rw[if_neg e3,if_neg e4]
      exact zei h1 h2
def MapIt(w:World)(r m:Nat)(l:List (Lab×Value))(pre:List Lab):Prop:=
 ∃es clk,∃ds:List MapEntry,w.heap[m]? =some (.map es clk)∧es.toList.map (fun e=>(e.key,e.val))=l.map (fun p=>(vs p.1,p.2))∧(es.toList.map (·.born)).Pairwise (·≠·)∧(∀e∈es.toList,e.born<clk)∧
  w.heap[r]? =some (.mapIter (some m) clk (ds.map (·.born)).toArray clk)∧(∀d∈ds,d∈es.toList)∧ds.map (·.key)=pre.map vs
theorem MapIt.map{w:World}{r m:Nat}{l:List (Lab×Value)}{pre:List Lab}(h:MapIt w r m l pre):MapAt w m l:=by
 obtain⟨es,clk,ds,h1,h2,h3,h4,_⟩:=h
 exact⟨es,clk,h1,h2,h3,h4⟩
theorem MapIt.block{w x:World}{r m:Nat}{l:List (Lab×Value)}{pre:List Lab}(h:MapIt w r m l pre)(h1:x.heap[m]? =w.heap[m]?)(h2:x.heap[r]? =w.heap[r]?):MapIt x r m l pre:=by
 obtain⟨es,clk,ds,a,b,c,d,e,f⟩:=h
 exact⟨es,clk,ds,h1.trans a,b,c,d,h2.trans e,f⟩
theorem zhf{a b:List UInt8}(h:vs a=vs b):a=b:=by
 simpa [vs] using h
theorem zcY{es:List MapEntry}{l:List (Lab×Value)}(h:es.map (fun e=>(e.key,e.val))=l.map (fun p=>(vs p.1,p.2)))(hn:(l.map (·.1)).Nodup):es.Pairwise (fun x y=>x.key≠y.key):=by
 have h1:es.map (·.key)=l.map (fun p=>vs p.1):=by
  have:=congrArg (List.map Prod.fst) h
  simpa [List.map_map,Function.comp_def] using this
 have h2:(l.map (fun p=>vs p.1)).Pairwise (·≠·):=by
  rw[List.pairwise_map]
  have:=List.pairwise_map.1 hn
  exact this.imp (fun hne e=>hne (zhf e))
 rw[←h1,List.pairwise_map]at h2
 exact h2
section
variable {P : Program} {d : Option Tmp} {ty : TypeId} {ps : String} {af : Array Edge} {g : Option (Nat × Bool)} {ρ : Operand → Value} {w : World} {K : Value → World → Prop}
theorem op_range{t kt et:TypeId}{x:Operand}{m:Nat}{l:List (Lab×Value)}(ht:tyU P t=some (.map kt et))(hx:ρ x= .map (some m))(hm:MapAt w m l)
  (h:∀w',MapIt w' w.heap.size m l []→Ext w w'→w'.heap.size=w.heap.size+1→K (.pointer (some ⟨w.heap.size,0,Option.none⟩)) w'):
  opW P ⟨d,.range t x,ty,ps,af,g⟩ ρ w K:=by
 obtain⟨es,clk,h1,h2,h3,h4⟩:=hm
 have hrun:(Instr.range t (.map (some m))).run P w= .ok (.pointer (some ⟨w.heap.size,0,Option.none⟩)) (w.alloc (.mapIter (some m) clk #[] clk)):=by
  simp[Instr.range,run_underlying (show P.underlying t=_ from ht),MapKept.run_getObj_map h1,newObj,Sem.run,Result.andThen]
 have hlt:=(Array.getElem?_eq_some_iff.1 h1).1
 show opR P K _
 refine zan (s:=Instr.range t (ρ x)) (by rw[hx];exact hrun) (h _ ⟨es,clk,[],?_,h2,h3,h4,?_,by simp,rfl⟩ (Ext.alloc w _) (by simp))
 ·exact(RowKit.Below.heap_alloc _ _ _ hlt).trans h1
 ·exact zak w _
theorem op_next{x:Operand}{r m:Nat}{l:List (Lab×Value)}{pre:List Lab}(hx:ρ x= .pointer (some ⟨r,0,Option.none⟩))(hit:MapIt w r m l pre)(hn:(l.map (·.1)).Nodup)
  (h1:(∀k∈l.map (·.1),k∈pre)→K (.tuple #[.bool false]) w)
  (h2:∀k v w',(k,v)∈l→k∉pre→MapIt w' r m l (pre++ [k])→Keep (fun b=>b=r) w w'→w'.heap.size=w.heap.size→K (.tuple #[.bool true,vs k,v]) w'):
  opW P ⟨d,.next x false,ty,ps,af,g⟩ ρ w K:=by
 obtain⟨es,clk,ds,e1,e2,e3,e4,e5,e6,e7⟩:=hit
 have hap:=zcY e2 hn
 have hmem:∀e:MapEntry,e∈es.toList→∃k v,(k,v)∈l∧e.key=vs k∧e.val=v:=fun e he=>by
  have:(e.key,e.val)∈l.map (fun p=>(vs p.1,p.2)):=by rw[←e2];exact List.mem_map.2 ⟨e,he,rfl⟩
  obtain⟨⟨k,v⟩,hp,heq⟩:=List.mem_map.1 this
  simp only[Prod.mk.injEq]at heq
  exact⟨k,v,hp,heq.1.symm,heq.2.symm⟩
 rcases run_next_at (P:=P) w ty r m clk clk (ds.map (·.born)).toArray es clk e5 e1 e4 (Nat.le_refl _) with ⟨h0,hrun⟩| ⟨e,he,w1,hw1,hrun⟩
 ·show opR P K _
  refine zan (s:=Instr.next (ρ x) false ty) (by rw[hx];exact hrun) (h1 fun k hk=>?_)
  obtain⟨⟨k,v⟩,hp,rfl⟩:=List.mem_map.1 hk
  have:(vs k,v)∈es.toList.map (fun e=>(e.key,e.val)):=by rw[e2];exact List.mem_map.2 ⟨_,hp,rfl⟩
  obtain⟨e,he,heq⟩:=List.mem_map.1 this
  simp only[Prod.mk.injEq]at heq
  have hin:(ds.map (·.born)).toArray.contains e.born=true:=by
   cases hc:(ds.map (·.born)).toArray.contains e.born with
   |true=>rfl
   |false=>
    have:e∈(leftOf es (ds.map (·.born)).toArray).toList:=by
     unfold leftOf;simp only[Array.toList_filter,List.mem_filter];exact⟨he,by rw[hc];rfl⟩
    rw[Array.size_eq_length_toList,List.length_eq_zero_iff]at h0
    rw[h0]at this;cases this
  simp only[List.contains_toArray,List.contains_iff_mem,List.mem_map]at hin
  obtain⟨d',hd,hb⟩:=hin
  have hde:d'=e:=by
   exact born_inj e3 (e6 _ hd) he hb
  subst hde
  have:d'.key∈pre.map vs:=by rw[←e7];exact List.mem_map.2 ⟨_,hd,rfl⟩
  rw[heq.1]at this
  obtain⟨k',hk',hkk⟩:=List.mem_map.1 this
  rw[zhf hkk]at hk';exact hk'
 ·have hel:e∈es.toList∧(ds.map (·.born)).toArray.contains e.born=false:=by
   unfold leftOf at he
   simp only[Array.toList_filter,List.mem_filter]at he
   exact⟨he.1,by simpa using he.2⟩
  obtain⟨k,v,hkv,hk,hv⟩:=hmem e hel.1
  have hlt:r<w1.heap.size:=by
   have:=(Array.getElem?_eq_some_iff.1 e5).1
   rcases hw1 with rfl|rfl<;>exact this
  have hrm:r≠m:=fun e=>by rw[e,e1]at e5;cases e5
  have hk1:Keep (fun b=>b=r) w w1:=by rcases hw1 with rfl|rfl<;>first|exact Keep.refl _ _|exact Keep.drew _ _
  have hput:ChangeMaps.setBlock w1 r (.mapIter (some m) clk ((ds.map (·.born)).toArray.push e.born) clk)=w1.putObj r (.mapIter (some m) clk ((ds.map (·.born)).toArray.push e.born) clk):=rfl
  rw[hput]at hrun
  show opR P K _
  rw[hk,hv]at hrun
  refine zan (s:=Instr.next (ρ x) false ty) (by rw[hx];exact hrun) (h2 k v _ hkv ?_ ⟨es,clk,ds++ [e],?_,e2,e3,e4,?_,?_,?_⟩ (hk1.trans (zaN rfl)) ?_)
  ·intro hkp
   have:vs k∈ds.map (·.key):=by rw[e7];exact List.mem_map.2 ⟨_,hkp,rfl⟩
   obtain⟨d',hd,hdk⟩:=List.mem_map.1 this
   have hde:d'=e:=entry_eq_of_key hap (e6 _ hd) hel.1 (by rw[hdk,hk])
   subst hde
   have:=hel.2
   simp only[List.contains_toArray]at this
   have h3:(ds.map (·.born)).contains d'.born=true:=by rw[List.contains_iff_mem];exact List.mem_map.2 ⟨_,hd,rfl⟩
   rw[h3]at this;cases this
  ·refine(World.putObj_heap_other (fun e=>hrm e.symm)).trans ?_
   rcases hw1 with rfl|rfl<;>exact e1
  ·rw[World.putObj_heap_same hlt];simp
  ·intro d' hd
   rcases List.mem_append.1 hd with hd|hd
   ·exact e6 _ hd
   ·rw[List.mem_singleton.1 hd];exact hel.1
  ·rw[List.map_append,e7,List.map_append];simp[hk]
  ·rcases hw1 with rfl|rfl<;>simp
end
section
variable {α : Type} {k B : Nat} {C : List Value → α → Prop} {w x : World} {v : Value} {xs : List α} {e : TypeId}
theorem zfj(a:Addr)(i:Nat):(a.add i).block=a.block:=by unfold Addr.add;split<;>rfl
theorem zbL{a:Addr}(h:x.heap[a.block]? =w.heap[a.block]?):x.cell? a=w.cell? a:=by unfold World.cell?;rw[h]
theorem zdO{a:Addr}(h:x.heap[a.block]? =w.heap[a.block]?):∀(k i:Nat),zaG x a i k=zaG w a i k
 |0,_=>rfl
 |k+1,i=>by
  have e1:x.cell? (a.add i)=w.cell? (a.add i):=zbL (by rw[zfj];exact h)
  have e2:=zdO h k (i+1)
  unfold zaG
  rw[e1,e2]
theorem zfO{p:Option Addr}(h:∀a,p=some a→x.heap[a.block]? =w.heap[a.block]?)(k:Nat):zav x p k=zav w p k:=by
 cases p with
 |none=>rfl
 |some a=>exact zdO (h a rfl) k 0
theorem Rows.blocks(h:Rows k C w v xs)(hb:∀a n c,v= .slice (some a) n c→x.heap[a.block]? =w.heap[a.block]?):Rows k C x v xs:=by
 obtain⟨L,⟨a,c,rfl,hc,hl⟩,h2,h3⟩:=h
 refine⟨L,⟨a,c,rfl,hc,fun j hj=>?_⟩,h2,h3⟩
 rw[←hl j hj]
 refine zfO (fun p hp=>?_) k
 cases a with
 |none=>cases hp
 |some a=>
  have:p.block=a.block:=by
   simp only[adr,Option.map_some,Option.some.injEq]at hp
   rw[←hp,zfj]
  rw[this];exact hb a _ _ rfl
def BlkB(B:Nat)(w:World)(v:Value):Prop:=∀a n c,v= .slice (some a) n c→B≤a.block∧a.block<w.heap.size
theorem BlkB.ext(h:BlkB B w v)(hs:w.heap.size≤x.heap.size):BlkB B x v:=fun a n c hv=>⟨(h a n c hv).1,Nat.lt_of_lt_of_le (h a n c hv).2 hs⟩
theorem BlkB.mono{B':Nat}(h:BlkB B w v)(hB:B'≤B):BlkB B' w v:=fun a n c hv=>⟨Nat.le_trans hB (h a n c hv).1,(h a n c hv).2⟩
theorem BlkB.nil{n c:Nat}:BlkB B w (.slice Option.none n c):=fun a n c hv=>by cases hv
theorem BlkB.same{a:Option Addr}{n c n' c':Nat}(h:BlkB B w (.slice a n c)):BlkB B w (.slice a n' c'):=fun b n2 c2 hv=>by
 injection hv with e1 e2 e3
 subst e1
 exact h b n c rfl
theorem Owns.blk(h:Owns k C B w e v xs):BlkB B w v:=by
 intro a n c hv
 rcases h.cases with ⟨h1,_⟩| ⟨b,cap,L,h1,hb,_,_,hD,_⟩
 ·rw[h1]at hv;cases hv
 ·rw[h1]at hv
  injection hv with e1 e2 e3
  injection e1 with e1
  subst e1
  exact⟨hb,hD.lt⟩
theorem Rows.keep(h:Rows k C w v xs){S:Nat→Prop}(hk:Keep S w x)(hB:BlkB B w v)(hS:∀b,B≤b→b<w.heap.size→¬S b):Rows k C x v xs:=
 h.blocks fun a n c hv=>hk.block _ (hB a n c hv).2 (hS _ (hB a n c hv).1 (hB a n c hv).2)
theorem zdP{w:World}{a:Addr}:∀(i m k:Nat) {l:List Value},zaG w a i (m+k)=some l→zaG w a (i+m) k=some (l.drop m)
 |i,0,k,l,h=>by rw[Nat.zero_add]at h;simpa using h
 |i,m+1,k,l,h=>by
  rw[show m+1+k=(m+k)+1 from by omega]at h
  unfold zaG at h
  split at h
  ·rename_i v l' h1 h2
   cases h
   have:=zdP (i+1) m k h2
   rw[show i+1+m=i+(m+1) from by omega]at this
   simpa using this
  ·cases h
theorem zfi{w:World}{a:Addr}{m:Nat}:∀(k i:Nat),zaG w (a.add m) i k=zaG w a (m+i) k
 |0,_=>rfl
 |k+1,i=>by
  have e:=zfi (w:=w) (a:=a) (m:=m) k (i+1)
  unfold zaG
  rw[zb3,e];rfl
theorem zcd{w:World}{p:Option Addr}{m k:Nat}{l:List Value}(h:zav w p (m+k)=some l):zav w (adr p m) k=some (l.drop m):=by
 cases p with
 |none=>cases h
 |some a=>
  show zaG w (a.add m) 0 k=_
  rw[zfi,Nat.add_zero]
  have:=zdP 0 m k (show zaG w a 0 (m+k)=some l from h)
  rwa [Nat.zero_add]at this
theorem zaU{b o n:Nat}(h:b<n):offS (zbR n) (some ⟨b,o,Option.none⟩):=fun a ha hb=>by
 cases ha
 unfold zbR at hb
 exact absurd (show n≤b from hb) (by omega)
theorem zbc{w x:World}(h:x=w.drew):Ext w x:=h▸Keep.drew NoS w
/-! ### a variable of several cells -/
variable {P : Program} {K : Value → World → Prop}
theorem zfY{t:TypeId}{b:Nat}{cur:Array Value}{l:List Value}(hb:w.heap[b]? =some (.cells cur e (0,0)))(hl:l.length=cur.size)(h1:∀v∈l,one v=true)(hs:tyS P t=l.length)(hi:(P.info? t).isSome=true)
  (hK:∀w',w'.heap.size=w.heap.size→w'.heap[b]? =some (.cells l.toArray e (0,0))→Keep (fun i=>i=b) w w'→K undef w'):stK P t (.pointer (some ⟨b,0,Option.none⟩)) (.agg l.toArray) w K:=by
 obtain⟨w',k1,k2,k3,cur',k4,k5⟩:=zdy (o:=0) l 0 w [] cur.toList [] cur hb (by simp) rfl (by simp[hl]) h1
 refine⟨by simp[Value.cells,hs],hi,w',by simpa [Value.cells] using k1,hK w' k2 ?_ k3⟩
 rw[k4]
 have:cur'=l.toArray:=by
  apply Array.ext'
  simpa using k5
 rw[this]
theorem zen{t:TypeId}{b j:Nat}{u:Value}{l:List Value}(hb:w.heap[b]? =some (.cells l.toArray e (0,0)))(hj:j<l.length)(h1:one u=true)(hs:tyS P t=1)(hi:(P.info? t).isSome=true)
  (hK:∀w',w'.heap.size=w.heap.size→w'.heap[b]? =some (.cells (l.set j u).toArray e (0,0))→Keep (fun i=>i=b) w w'→K undef w'):stK P t (.pointer (some ⟨b,j,Option.none⟩)) u w K:=by
 refine za9 hs hi h1 hb (by simpa using hj) (by simp) ?_
 intro w' h1 h2 h3
 refine hK w' h1 ?_ h3
 rw[h2];simp
theorem zbF{b j:Nat}{u:Value}{l:List Value}(hb:w.heap[b]? =some (.cells l.toArray e (0,0)))(hj:l[j]? =some u):zaf w (some ⟨b,j,Option.none⟩)=some u:=by
 show w.cell? _=_
 rw[zbe hb];simpa using hj
theorem za4{b n:Nat}{l:List Value}(hb:w.heap[b]? =some (.cells l.toArray e (0,0)))(hn:n=l.length):zav w (some ⟨b,0,Option.none⟩) n=some l:=by
 have:=zik (n:=n) hb (by simp[hn])
 simpa using this
end
section
variable {P : Program} {n : Nat} {σ : Sto} {w : World} {l : List ResultVar} {r : List Value}
theorem zay:resV P n σ w []=some []:=rfl
theorem zal{t:Tmp}{v:Value}(hv:ev n σ (.tmp t)=v)(h:resV P n σ w l=some r):resV P n σ w (.tmp t::l)=some (v::r):=by
 unfold resV
 rw[h,←hv];rfl
theorem zhx{a:Tmp}{t:TypeId}{x:Addr}{k:Nat}{cs:List Value}(hv:ev n σ (.tmp a)= .pointer (some x))(hA:tyA P t=true)(hk:tyS P t=k)(hc:zav w (some x) k=some cs)(h:resV P n σ w l=some r):resV P n σ w (.cell a t::l)=some (.agg cs.toArray::r):=by
 subst hk
 unfold resV
 rw[show (if a<n then σ a else undef)= .pointer (some x) from hv]
 have:ldV P w t x=some (.agg cs.toArray):=by
  unfold ldV
  rw[hA,cond_true,show zaG w x 0 (tyS P t)=some cs from hc];rfl
 simp only[this,h]
theorem zaB{fn:Func}{R:Value→World→Prop}{e:Exit}(he:e= .normal∨e= .ret)(hm:fn.ntmps=n){rs:List ResultVar}(hl:fn.results.toList=rs)(hr:resV P n σ w rs=some r)(h:R (resT r) w):retQ P fn R e σ [] w:=by
 subst hm hl
 exact⟨he,trivial,r,hr,h⟩
theorem ret_anyM{fn:Func}{R:Value→World→Prop}{e:Exit}{D:Nat}(he:e= .normal∨e= .ret)(hm:fn.ntmps=n){rs:List ResultVar}(hl:fn.results.toList=rs)(hD:w.heap[D]? =some (.deferred (some [])))
  (h:∀w',Keep (fun b=>b=D) w w'→w'.heap.size=w.heap.size→∃r,resV P n σ w' rs=some r∧R (resT r) w'):retQ P fn R e σ [{target:= .collected D,args:=#[]}] w:=by
 subst hm hl
 obtain⟨r,h1,h2⟩:=h (w.putObj D (.deferred Option.none)) (zaN rfl) (by simp)
 exact⟨he,⟨D,rfl,hD,trivial⟩,r,h1,h2⟩
end
section
variable {P : Program} {d : Option Tmp} {ty : TypeId} {ps : String} {af : Array Edge} {g : Option (Nat × Bool)} {ρ : Operand → Value} {w : World} {K : Value → World → Prop}
theorem zhK{op:BinOp}{t yt:TypeId}{x y:Operand}{u v r:Value}(hx:ρ x=u)(hy:ρ y=v)(hr:(do eqGuard op t x y u v;binOp op t u v:Sem Value).run P w= .ok r w)(h:K r w):
  opW P ⟨d,.binOp op t x y yt,ty,ps,af,g⟩ ρ w K:=by
 have:=zan (P:=P) (K:=K) hr h
 rw[←hx,←hy]at this
 exact this
theorem ze2{t te yt:TypeId}{j:TypeInfo}{x y:Operand}{a:Addr}(ht:tyU P t=some (.pointer te))(hj:P.info? te=some j)(hx:ρ x= .pointer (some a))(hy:ρ y= .pointer (some a))(h:K (.bool false) w):
  opW P ⟨d,.binOp .neq t x y yt,ty,ps,af,g⟩ ρ w K:=by
 refine zhK hx hy ?_ h
 simp[eqGuard,Lib.run_neq_ptr_same (P:=P) w a (show P.underlying t=_ from ht) hj]
theorem zhM{s t:TypeId}{x:Operand}{u v:Value}{w':World}(hx:ρ x=u)(hr:(convert s t u).run P w= .ok v w')(h:K v w'):opW P ⟨d,.convert s t x,ty,ps,af,g⟩ ρ w K:=by
 show opR P K ((do pure (.value (←convert s t (ρ x))):Sem Next).run P w)
 rw[hx]
 exact zan hr h
theorem op_appS{B:Nat}{s x:Operand}{t tu e:TypeId}{inf:TypeInfo}{v:Value}{l:List Value}{bs:List UInt8}(hown:Own B w e v l)(ht:tyU P t=some (.slice e))(hu:tyU P tu=some .string)(hi:P.info? e=some inf)(hz:inf.zero=some (.int .u8 0))
  (hsize:inf.size=1) (hby:inf.bytes=1) (hv:ρ s=v) (hx:ρ x=vs bs) (hlen:l.length+bs.length≤100000000000) (hB:B≤w.heap.size)
  (h:∀v' w',Own B w' e v' (l++bs.map zaj)→Keep (fun b=>some b=v.ownBlock) w w'→K v' w'):
  opW P ⟨d,.call ⟨.builtin .append,#[s,x],#[t,tu]⟩,ty,ps,af,g⟩ ρ w K:=by
 have hs:(⟨bs.toArray⟩:ByteArray).size=bs.length:=by simp[ByteArray.size]
 obtain⟨v',w',hr,h2,h3,h4⟩:=Lib.run_append_own_string (P:=P) w B t tu ty e inf (show P.underlying t=_ from ht) (show P.underlying tu=_ from hu) hi hz hsize hby v l.length l hown ⟨bs.toArray⟩ (by rw[hs];simp[maxLen];omega) (by rw[hs];omega) hB
 have hc:Lib.strCells ⟨bs.toArray⟩=bs.map zaj:=by simp[Lib.strCells,zaj]
 rw[hs,hc]at h2
 refine zbp (b:= .append) (r:= .ok v' w') (fun v2 w2 h'=>?_) ⟨v',w',by rw[hv,hx];exact hr⟩
 rw[hv,hx]at h'
 have e1:(Builtin.append_ #[t,tu] ty #[v,.string ⟨bs.toArray⟩]).run P w= .ok v2 w2:=h'
 rw[hr]at e1
 cases e1
 have hl:l.length+bs.length=(l++bs.map zaj).length:=by simp
 rw[hl]at h2
 exact h v' w' h2 (zc0 h3 (zaz _ _ _ _ hr))
theorem zaO{x:Operand}{ts:Array TypeId}{u v:Value}{w':World}(hx:ρ x=u)(hr:(Builtin.unsafeSliceData_ ts ty #[u]).run P w= .ok v w')(h:K v w'):
  opW P ⟨d,.call ⟨.builtin .unsafeSliceData,#[x],ts⟩,ty,ps,af,g⟩ ρ w K:=by
 simp only[opW,execOp,Sem.run_bind,resolve]
 simp only[Sem.run_pure,Result.andThen_ok,invoke,builtin]
 exact zan (s:=Builtin.unsafeSliceData_ ts ty (Array.map ρ #[x])) (by simpa [hx] using hr) h
theorem zax{x y:Operand}{ts:Array TypeId}{u z v:Value}{w':World}(hx:ρ x=u)(hy:ρ y=z)(hr:(Builtin.unsafeString_ ts ty #[u,z]).run P w= .ok v w')(h:K v w'):
  opW P ⟨d,.call ⟨.builtin .unsafeString,#[x,y],ts⟩,ty,ps,af,g⟩ ρ w K:=by
 simp only[opW,execOp,Sem.run_bind,resolve]
 simp only[Sem.run_pure,Result.andThen_ok,invoke,builtin]
 exact zan (s:=Builtin.unsafeString_ ts ty (Array.map ρ #[x,y])) (by simpa [hx,hy] using hr) h
end
end Go.Proofs.YtanmnkbccfcagaaGreatDoor
