/-
  Texts of a proof, joined: K9, K10, K11, C1, CP, Q0int, K12, C2, C3, T0, S1, R1, L0, M3a, K14, R2, K13, N1, N2, R3, Q1, Q2, QCcn, QCcu.
  Conditions: none.
-/
import Derived.Test.YtopbbjdembnfdaaGreatJN01
import Derived.MapFrom
import Derived.Maps.RangeRun
import Derived.Maps.Range
import Derived.Lib.Bytealg
import Derived.Test.YtopbbjdembnfdaaGreatProg
import Derived.Shelf.Small.Strs
import Derived.CallsIn
set_option linter.unusedVariables false
set_option linter.unusedSimpArgs false
set_option linter.defProp false
set_option linter.unnecessarySimpa false
namespace Go.Proofs.YtopbbjdembnfdaaGreat
open Go
section
variable {P : Program} {d : Option Tmp} {ty : TypeId} {ps : String} {af : Array Edge} {g : Option (Nat × Bool)} {ρ : Operand → Value} {w : World} {K : Value → World → Prop}
theorem Row.of_owns{B:Nat}{e:TypeId}{v:Value}{n:Nat}{xs:List Value}(h:w.ownsRow B e 1 v n xs):Row w v xs:=by
 obtain⟨hl,h⟩:=h
 rw[Nat.mul_one]at hl
 rcases h with ⟨rfl,rfl⟩| ⟨g,cap,cur,rfl,_,hg,hn,_,hcs,hx⟩
 ·have:xs=[]:=List.length_eq_zero_iff.1 hl
  subst this
  exact⟨Option.none,0,rfl,Nat.le_refl _,fun j h=>by simp at h⟩
 ·refine⟨_,_,by rw[hl],by omega,fun j hj=>?_⟩
  rw[za6]
  show w.cell? _=_
  rw[zbT hg,←Array.getElem?_toList,Nat.zero_add]
  have:xs[j]? =some xs[j]:=List.getElem?_eq_getElem hj
  rw[←this,←hx,List.getElem?_take,if_pos (by omega)]
def RowB(base:Nat)(w:World)(v:Value)(l:List Value):Prop:=Row w v l∧∀a n c,v= .slice (some a) n c→base≤a.block∧a.block<w.heap.size
theorem RowB.of_owns{B:Nat}{e:TypeId}{v:Value}{n:Nat}{xs:List Value}(h:w.ownsRow B e 1 v n xs):RowB B w v xs:=by
 refine⟨Row.of_owns h,fun a m c hv=>?_⟩
 rcases h.2 with ⟨h1,_⟩| ⟨g,cap,cur,h1,hg,hb,_⟩
 ·rw[h1]at hv;cases hv
 ·rw[h1]at hv;cases hv;exact⟨hg,(Array.getElem?_eq_some_iff.1 hb).1⟩
theorem Row.blocks{x:World}{v:Value}{l:List Value}(h:Row w v l)(hb:∀a n c,v= .slice (some a) n c→x.heap[a.block]? =w.heap[a.block]?):Row x v l:=by
 obtain⟨a,c,rfl,hc,hl⟩:=h
 refine⟨a,c,rfl,hc,fun j hj=>?_⟩
 cases a with
 |none=>exact hl j hj
 |some a=>
  have:=hb a _ _ rfl
  have h2:=hl j hj
  show x.cell? (a.add j)=_
  have hbl:(a.add j).block=a.block:=by unfold Addr.add;split<;>rfl
  rw[World.cell?_of_block (w:=w) (by rw[hbl];exact this)]
  exact h2
theorem set1{A:Array Value}(h:A.size=1)(v:Value):A.setIfInBounds 0 v=#[v]:=by
 obtain⟨l⟩:=A
 match l,h with
 | [x],_=>rfl
theorem zik{t e:TypeId}{z v:Value}(hu:tyU P t=some (.slice e))(hz:tyZ P e=some z)(hs:tyS P e=1)(hz1:z.cells=#[z])(hv:v.cells=#[v]):
  bsC P t 1 [(0,v)]=some (e,#[v]):=by
 simp[bsC,hu,hz,hs,hz1,Instr.fill,hv]
 exact set1 (by simp) v
end
abbrev Lab:=List UInt8
def MapAt(w:World)(r:Nat)(l:List (Lab×Value)):Prop:=
 ∃es clk,w.heap[r]? =some (.map es clk)∧es.toList.map (fun e=>(e.key,e.val))=l.map (fun p=>(vs p.1,p.2))∧(es.toList.map (·.born)).Pairwise (·≠·)∧(∀e∈es.toList,e.born<clk)
theorem MapAt.block{w x:World}{r:Nat}{l:List (Lab×Value)}(h:MapAt w r l)(hb:x.heap[r]? =w.heap[r]?):MapAt x r l:=by
 obtain⟨es,clk,h1,h2⟩:=h
 exact⟨es,clk,hb.trans h1,h2⟩
theorem zcx(a b:Lab):Instr.sameNow .string (vs a) (vs b)=some (a==b):=by
 simp only[vs,Instr.sameNow,Option.some.injEq]
 rw[Bool.eq_iff_iff,MapKept.bytes_beq,beq_iff_eq]
 constructor
 ·intro h
  have:=congrArg (fun x:ByteArray=>x.data.toList) h
  simpa using this
 ·rintro rfl;rfl
theorem zfk{key:Lab}:∀(es:List MapEntry) (l:List (Lab×Value)) (i:Nat),es.map (fun e=>(e.key,e.val))=l.map (fun p=>(vs p.1,p.2))→l.lookup key=Option.none→Instr.findNow .string (vs key) es i=some Option.none
 | [],[],_,_,_=>rfl
 | [],_::_,_,h,_=>by simp at h
 |_::_,[],_,h,_=>by simp at h
 |e::es,(k,v)::l,i,h,hl=>by
  simp only[List.map_cons,List.cons.injEq,Prod.mk.injEq]at h
  obtain⟨⟨h1,h2⟩,h3⟩:=h
  simp only[List.lookup_cons]at hl
  split at hl
  ·cases hl
  ·rename_i hne
   simp only[Instr.findNow,h1,zcx,hne]
   exact zfk es l (i+1) h3 hl
theorem zhp{key:Lab}{v:Value}:∀(es:List MapEntry) (l:List (Lab×Value)) (i:Nat),es.map (fun e=>(e.key,e.val))=l.map (fun p=>(vs p.1,p.2))→l.lookup key=some v→∃j,Instr.findNow .string (vs key) es i=some (some (j,v))
 | [],[],_,_,h=>by simp at h
 | [],_::_,_,h,_=>by simp at h
 |_::_,[],_,h,_=>by simp at h
 |e::es,(k,u)::l,i,h,hl=>by
  simp only[List.map_cons,List.cons.injEq,Prod.mk.injEq]at h
  obtain⟨⟨h1,h2⟩,h3⟩:=h
  simp only[List.lookup_cons]at hl
  split at hl
  ·rename_i heq
   cases hl
   exact⟨i,by simp only[Instr.findNow,h1,zcx,heq,h2]⟩
  ·rename_i hne
   simp only[Instr.findNow,h1,zcx,hne]
   exact zhp es l (i+1) h3 hl
section
variable {P : Program} {d : Option Tmp} {ty : TypeId} {ps : String} {af : Array Edge} {g : Option (Nat × Bool)} {ρ : Operand → Value} {w : World} {K : Value → World → Prop}
theorem MapAt.lk{r:Nat}{l:List (Lab×Value)}(h:MapAt w r l){t kt et:TypeId}{z:Value}(ht:tyU P t=some (.map kt et))(hk:tyU P kt=some .string)(hz:tyZ P et=some z)(key:Lab):
  lkV P w t (.map (some r)) (vs key) false=some ((l.lookup key).getD z):=by
 obtain⟨es,clk,h1,h2,_⟩:=h
 unfold lkV
 rw[ht];simp only[hk,hz,h1]
 cases hl:l.lookup key with
 |none=>rw[zfk _ _ 0 h2 hl];rfl
 |some v=>obtain⟨j,hj⟩:=zhp _ _ 0 h2 hl;rw[hj];rfl
theorem zha{t kt et:TypeId}{m k x:Operand}{r:Nat}{l:List (Lab×Value)}{key:Lab}{v:Value}(ht:tyU P t=some (.map kt et))(hk:tyU P kt=some .string)
  (hm:ρ m= .map (some r)) (hkey:ρ k=vs key) (hx:ρ x=v) (hat:MapAt w r l) (hno:l.lookup key=Option.none)
  (h:∀w',MapAt w' r (l++ [(key,v)])→Keep (fun i=>i=r) w w'→w'.heap.size=w.heap.size→K undef w'):
  opW P ⟨d,.mapUpdate t m k x,ty,ps,af,g⟩ ρ w K:=by
 obtain⟨es,clk,h1,h2,h3,h4⟩:=hat
 have hf:=zfk es.toList l 0 h2 hno
 have hrun:(Instr.mapUpdate t (.map (some r)) (vs key) v).run P w= .ok () (w.putObj r (.map (es.push {key:=vs key,val:=v,born:=clk}) (clk+1))):=by
  have hck:∀e,(Instr.checkKey e 10000 kt (vs key)).run P w= .ok () w:=fun e=>zch hk 9999
  simp[Instr.mapUpdate,run_underlying (show P.underlying t=_ from ht),MapKept.run_getObj_map h1,hck,Instr.findKey,run_underlying (show P.underlying kt=_ from hk),hf,MapKept.run_setObj_map _ h1,Result.andThen]
  rfl
 have hlt:r<w.heap.size:=(Array.getElem?_eq_some_iff.1 h1).1
 have hat':MapAt (w.putObj r (.map (es.push {key:=vs key,val:=v,born:=clk}) (clk+1))) r (l++ [(key,v)]):=by
  refine⟨_,_,World.putObj_heap_same hlt,by simp[h2],?_,?_⟩
  ·simp only[Array.toList_push,List.map_append,List.map_cons,List.map_nil,List.pairwise_append]
   refine⟨h3,by simp,fun a ha b hb=>?_⟩
   simp at hb;subst hb
   obtain⟨e,he,rfl⟩:=List.mem_map.1 ha
   exact Nat.ne_of_lt (h4 e he)
  ·intro e he
   simp only[Array.toList_push,List.mem_append,List.mem_singleton]at he
   rcases he with he|rfl
   ·exact Nat.lt_succ_of_lt (h4 e he)
   ·exact Nat.lt_succ_self _
 have hfin:=h _ hat' (zaK rfl) (by simp)
 show opR P K ((do Instr.mapUpdate t (ρ m) (ρ k) (ρ x);pure .skip:Sem Next).run P w)
 rw[hm,hkey,hx]
 simp only[Sem.run_bind,hrun,Result.andThen_ok,Sem.run_pure]
 exact hfin
theorem new_map(w:World):MapAt (w.alloc (.map #[] 0)) w.heap.size []:=⟨_,_,zaw w _,rfl,by simp,by simp⟩
end
inductive Pln
 |fin
 |run (pl:List (Nat×Bool)) (p:Pln)
 |fork (m:Nat) (is:List Nat) (p:Nat→Pln)
def Pln.len:Pln→Nat
 | .fin=>0
 | .run pl p=>pl.length+p.len
 | .fork m _ _=>m+1
def zee(ops:Array Oper)(isB:Nat→Bool):List (Nat×Bool)→Array Bool→Option (Array Bool)
 | [],l=>some l
 | (i,true)::pl,l=>if (rdy ops l).contains i && Region.free .any ops l i && !isB i then zee ops isB pl (l.setIfInBounds i true) else Option.none
 | (i,false)::pl,l=>if rdy ops l==[i] then zee ops isB pl (l.setIfInBounds i true) else Option.none
def zh4(ops:Array Oper)(isB:Nat→Bool):Pln→Array Bool→Bool
 | .fin,l=>(rdy ops l).isEmpty
 | .run pl p,l=>match zee ops isB pl l with|some l'=>zh4 ops isB p l'|Option.none=>false
 | .fork m is p,l=>(rdy ops l==is) && !is.isEmpty && is.all fun i=>(p i).len==m && zh4 ops isB (p i) (l.setIfInBounds i true)
section
variable {P : Program} {ops : Array Oper} {n : Nat} {isB : Nat → Bool} {K : Sto → World → Prop} {S : Nat → Prop}
theorem zgI(hsel:Region.noSelect ops=true)(hB:zdx ops isB=true){f:Nat}{l':Array Bool}:∀(pl:List (Nat×Bool)) (l:Array Bool) (σ:Sto) (w:World),zcg ops l→
  zee ops isB pl l=some l'→zfn P ops n S isB pl σ w (fun σ' w'=>zcg ops l'→anyK P ops n isB K (Keep S w') f l' σ' w')→anyK P ops n isB K (Keep S w) (pl.length+f) l σ w
 | [],l,σ,w,hcl,hp,h=>by
  cases hp
  rw[List.length_nil,Nat.zero_add]
  exact h hcl
 | (i,true)::pl,l,σ,w,hcl,hp,h=>by
  unfold zee at hp
  split at hp
  ·rename_i hc
   simp only[Bool.and_eq_true,Bool.not_eq_true',List.contains_iff_mem]at hc
   obtain⟨⟨hr,hfree⟩,hni⟩:=hc
   obtain⟨v,hq,h⟩:=h
   obtain⟨_,oi,hoi,_⟩:=mem_ready.1 hr
   have hd:zie ops i=oi.dst:=by simp[zie,hoi]
   rw[hd]at h
   have:=zgd hoi hsel hB hni (pl.length+f) (Keep S w) l σ w hcl (Region.free_spec hoi hfree) hr hq (Keep.refl S w)
    (zgI hsel hB pl _ _ w (zbE hcl hr) hp h)
   rwa [show ((i,true)::pl).length+f=(pl.length+f)+1 from by simp;omega]
  ·cases hp
 | (i,false)::pl,l,σ,w,hcl,hp,h=>by
  unfold zee at hp
  split at hp
  ·rename_i hr
   rw[beq_iff_eq]at hr
   have hmem:i∈rdy ops l:=by rw[hr];exact List.mem_singleton.2 rfl
   rw[show ((i,false)::pl).length+f=(pl.length+f)+1 from by simp;omega]
   refine⟨fun h0=>(by rw[hr]at h0;cases h0),fun j hj=>?_⟩
   rw[hr]at hj
   obtain rfl:=List.mem_singleton.1 hj
   refine zb1 (fun σ' w' ⟨hor,hk⟩=>?_) h
   have hrec:=zgI hsel hB pl _ σ' w' (zbE hcl hmem) hp hk
   cases hb:isB j with
   |true=>exact .inl ⟨rfl,zcF _ _ _ _ _ hrec⟩
   |false=>
    rw[hb]at hor
    have hkeep:=hor.resolve_left (by simp)
    exact .inr ⟨rfl,Keep S w',fun x hx=>hkeep.trans hx,Keep.refl S w',hrec⟩
  ·cases hp
def ziX(P:Program)(ops:Array Oper)(n:Nat)(S:Nat→Prop)(isB:Nat→Bool)(K:Sto→World→Prop):Pln→Sto→World→Prop
 | .fin,σ,w=>K σ w
 | .run pl p,σ,w=>zfn P ops n S isB pl σ w (fun σ' w'=>ziX P ops n S isB K p σ' w')
 | .fork _ is p,σ,w=>∀i∈is,opAt P ops n i σ w (fun σ' w'=>(isB i=true∨Keep S w w')∧ziX P ops n S isB K (p i) σ' w')
theorem zdn{K K':Sto→World→Prop}(hk:∀σ w,K σ w→K' σ w):∀(pl:List (Nat×Bool)) (σ:Sto) (w:World),zfn P ops n S isB pl σ w K→zfn P ops n S isB pl σ w K'
 | [],σ,w,h=>hk σ w h
 | (i,true)::pl,σ,w,⟨v,h1,h2⟩=>⟨v,h1,zdn hk pl _ _ h2⟩
 | (i,false)::pl,σ,w,h=>zb1 (fun σ' w' ⟨h1,h2⟩=>⟨h1,zdn hk pl _ _ h2⟩) h
theorem zc7(hsel:Region.noSelect ops=true)(hB:zdx ops isB=true):∀(p:Pln) (l:Array Bool) (σ:Sto) (w:World),zcg ops l→
  zh4 ops isB p l=true→ziX P ops n S isB K p σ w→anyK P ops n isB K (Keep S w) p.len l σ w
 | .fin,l,σ,w,_,hp,h=>⟨by simpa [zh4] using hp,h⟩
 | .run pl p,l,σ,w,hcl,hp,h=>by
  unfold zh4 at hp
  split at hp
  ·rename_i l' hl'
   exact zgI hsel hB pl l σ w hcl hl' (zdn (fun σ' w' hk hcl'=>zc7 hsel hB p l' σ' w' hcl' hp hk) pl σ w h)
  ·cases hp
 | .fork m is p,l,σ,w,hcl,hp,h=>by
  simp only[zh4,Bool.and_eq_true,beq_iff_eq,List.all_eq_true,Bool.not_eq_true']at hp
  obtain⟨⟨hr,hne⟩,hall⟩:=hp
  refine⟨fun h0=>(by rw[hr]at h0;subst h0;cases hne),fun j hj=>?_⟩
  have hj':=hj
  rw[hr]at hj'
  obtain⟨hlen,hpj⟩:=hall j hj'
  refine zb1 (fun σ' w' ⟨hor,hk⟩=>?_) (h j hj')
  have hrec:=zc7 hsel hB (p j) _ σ' w' (zbE hcl hj) hpj hk
  rw[hlen]at hrec
  cases hb:isB j with
  |true=>exact .inl ⟨rfl,zcF _ _ _ _ _ hrec⟩
  |false=>
   rw[hb]at hor
   have hkeep:=hor.resolve_left (by simp)
   exact .inr ⟨rfl,Keep S w',fun x hx=>hkeep.trans hx,Keep.refl S w',hrec⟩
end
def treeOk(ops:Array Oper)(isB:Nat→Bool)(p:Pln):Bool:=
 Region.noSelect ops && zbc ops && zdx ops isB && decide (p.len=ops.size) && zh4 ops isB p (Array.replicate ops.size false)
def allL{α:Type}:List α→(α→Prop)→Prop
 | [],_=>True
 | [a],f=>f a
 |a::l,f=>f a∧allL l f
theorem zi7{α:Type}{f:α→Prop}:∀{l:List α},allL l f→∀a∈l,f a
 | [],_,a,h=>by cases h
 | [b],h,a,ha=>by rw[List.mem_singleton.1 ha];exact h
 |b::c::l,h,a,ha=>by
  rcases List.mem_cons.1 ha with rfl|ha
  ·exact h.1
  ·exact zi7 h.2 a ha
def zgE(P:Program)(gd:Nat→Option Tmp)(ops:List Oper)(n:Nat)(S:Nat→Prop)(isB:Nat→Bool):Pln→Sto→World→(Sto→World→Prop)→Prop
 | .fin,σ,w,K=>K σ w
 | .run pl p,σ,w,K=>zbS P gd ops n S isB pl σ w (fun σ' w'=>zgE P gd ops n S isB p σ' w' K)
 | .fork _ is p,σ,w,K=>allL is fun i=>zbS P gd ops n S isB [(i,false)] σ w (fun σ' w'=>zgE P gd ops n S isB (p i) σ' w' K)
section
variable {P : Program} {n : Nat} {S : Nat → Prop} {isB : Nat → Bool} {K : Sto → World → Prop}
theorem zdF{ops:Array Oper}:∀(p:Pln) (σ:Sto) (w:World),zgE P (dstL ops.toList) ops.toList n S isB p σ w K→ziX P ops n S isB K p σ w
 | .fin,_,_,h=>h
 | .run pl p,σ,w,h=>zdn (fun σ' w' hk=>zdF p σ' w' hk) pl σ w (zbA pl σ w h)
 | .fork m is p,σ,w,h=>fun i hi=>by
  have:=zbA _ σ w (zi7 h i hi)
  exact zb1 (fun σ' w' ⟨h1,h2⟩=>⟨h1,zdF (p i) σ' w' h2⟩) this
variable {r : Option Nat} {Q : Post} {σ : Sto} {ds : List Deferred} {w : World}
theorem zfB{id:Nat}{ops:Array Oper}(isB:Nat→Bool)(p:Pln)(S:Nat→Prop)
  (hm:P.follows .mixedOrders=true) (hok:treeOk ops isB p=true)
  (h:∀(gd:Nat→Option Tmp) (K:Sto→World→Prop) (x:World),gd=dstL ops.toList→Keep S w x→x=w.drew→(∀σ' w',Q .normal σ' ds w'→K σ' w')→zgE P gd ops.toList n S isB p σ x K):
  W P r n (.region id ops true) Q σ ds w:=by
 simp only[treeOk,Bool.and_eq_true,decide_eq_true_eq]at hok
 obtain⟨⟨⟨⟨h1,h2⟩,h3⟩,h4⟩,h5⟩:=hok
 refine wpIn_region_any hm ?_
 have:=zc7 (K:=fun σ w=>Q .normal σ ds w) h1 h3 p _ σ w.drew (zeA ops) h5 (zdF p σ w.drew (h _ _ _ rfl (Keep.drew S w) rfl (fun _ _ h=>h)))
 rw[h4]at this
 exact zbG h2 (fun σ w hk=>⟨σ,ds,rfl,hk⟩) _ _ _ _ (zcF _ _ _ _ _ this)
variable {gd : Nat → Option Tmp} {ops : List Oper}
theorem zlh:zgE P gd ops n S isB .fin σ w K=K σ w:=nr rfl
theorem zlg(pl:List (Nat×Bool))(p:Pln):zgE P gd ops n S isB (.run pl p) σ w K=zbS P gd ops n S isB pl σ w (fun σ' w'=>zgE P gd ops n S isB p σ' w' K):=nr rfl
theorem zjy(m:Nat)(is:List Nat)(p:Nat→Pln):zgE P gd ops n S isB (.fork m is p) σ w K=allL is fun i=>zbS P gd ops n S isB [(i,false)] σ w (fun σ' w'=>zgE P gd ops n S isB (p i) σ' w' K):=nr rfl
end
section
variable {α : Type} {f : α → Prop} {a b : α} {l : List α}
theorem zbv:allL [a] f=f a:=nr rfl
theorem zbg:allL (a::b::l) f=(f a∧allL (b::l) f):=nr rfl
end
def zbB(n:Nat):Nat→Prop:=fun b=>n≤b
theorem Ext.keep{S:Nat→Prop}{w x:World}(h:Ext w x):Keep S w x:=h.mono (fun _ _ h=>h.elim)
attribute [go_sem ↓] zlh zlg zjy
set_option maxRecDepth 10000
theorem zdp{n0:Nat}{C:Nat→Prop}{w x:World}(hk:KeepB n0 C w x){a:Addr}(hn:a.block<n0)(hC:¬C a.block){v:Value}(h:w.cell? a=some v):x.cell? a=some v:=by
 rw[←h];exact World.cell?_of_block (w:=w) (hk.block a.block hn hC)
theorem cell_ext{w x:World}(hk:Ext w x){a:Addr}{v:Value}(h:w.cell? a=some v):x.cell? a=some v:=zc5 hk (fun h=>h) h
theorem zao{α:Type}{l:List α}{i:Nat}(h:i<l.length):l.take (i+1)=l.take i++ [l[i]]:=by
 rw[List.take_succ_eq_append_getElem h]
theorem zdP{α:Type}{l:List α}{i:Nat}(h:i<l.length):l=l.take i++l[i]::l.drop (i+1):=by
 rw[←List.drop_eq_getElem_cons h,List.take_append_drop]
theorem zer{α:Type}{l:List α}{pre suf:List (α×Nat)}{x:α×Nat}(h:l.zipIdx=pre++x::suf):∃hk:pre.length<l.length,x=(l[pre.length],pre.length):=by
 have hk:pre.length<l.length:=by have:=congrArg List.length h;simp at this;omega
 refine⟨hk,?_⟩
 have h1:l.zipIdx[pre.length]? =some x:=by rw[h];simp
 rw[List.getElem?_zipIdx]at h1
 simp[hk]at h1
 exact h1.symm
def zle(p:UInt8×Nat)(_:World)(args:Array Value):Prop:=args=#[vi p.2,zag p.1]
theorem zjo{W0:World}{n0:Nat}{C:Nat→Prop}{b:Nat}{l:List UInt8}(hb:W0.cell? ⟨b,0,Option.none⟩=some (vs l))(hbn:b<n0)(hbC:¬C b)(hl:l.length≤9000000000000000000):
  Iter Tryz.prog 192 #[.pointer (some ⟨b,0,Option.none⟩)] W0 n0 C l.zipIdx zle:=by
 intro lp J Jx W hW hnW hJ hJx hY h0
 refine enter Tryz.func192 Tryz.ntmps192 rfl rfl ?_
 repeat (first|refine c_r ?_|refine rg0 ?_)
 refine zap (fun m σ ds v=>ds=[]∧∃i,i+m=l.length∧σ 3=vi i∧σ 0= .func (.yield lp) #[] #[]∧σ 1= .pointer (some ⟨b,0,Option.none⟩)∧J (l.zipIdx.take i) v∧KeepB n0 C W v) l.length ?_ ?_
 ·refine⟨rfl,0,by omega,?_,?_,?_,by simpa using h0,KeepB.refl _ _ _⟩<;>simp only[go_sem]<;>rfl
 ·rintro m σ ds v ⟨rfl,i,him,h3,hf0,hf1,hj,hK0⟩
  have hcell:zaf v (some ⟨b,0,Option.none⟩)=some (vs l):=zdp hK0 hbn hbC (cell_ext hW hb)
  repeat refine c_r ?_
  refine rg4 h3 hf0 hf1 hcell ?_
  refine wc0 ?_ ?_
  ·intro hlt
   simp only[decide_eq_true_eq]at hlt
   have hi:i<l.zipIdx.length:=by simp;omega
   repeat refine c_r ?_
   refine rq ?_;intro gd K hgd hK
   try simp (disch:=first|omega|assumption|rfl) only[go_sem,h3,hf0,hf1,hcell]
   refine Yld.mono (hY (l.zipIdx.take i) l.zipIdx[i] (l.zipIdx.drop (i+1)) v _ (zdP hi) hj hK0 (by simp[zle,zag])) ?_
   rintro u x (⟨rfl,hj',hk'⟩| ⟨rfl,hjx⟩)
   ·try simp only[go_sem]
    refine hK _ _ ?_;clear hK hgd;clear K;try clear gd
    repeat refine c_r ?_
    refine wc0 ?_ ?_
    ·intro h;simp at h
    ·intro _
     repeat refine c_r ?_
     refine rg1 h3 ?_
     refine zav ?_
     refine⟨m - 1,by omega,rfl,i+1,by omega,?_,?_,?_,?_,hK0.trans hk'⟩
     ·simp only[go_sem];rfl
     ·simp only[go_sem,hf0]
     ·simp only[go_sem,hf1]
     ·rw[zao hi];exact hj'
   ·try simp only[go_sem]
    refine hK _ _ ?_;clear hK hgd;clear K;try clear gd
    repeat refine c_r ?_
    refine wc0 ?_ ?_
    ·intro _
     repeat refine c_r ?_
     refine zaJ (by simp) rfl (.inr ⟨_,_,_,zdP hi,hjx⟩)
    ·intro h;simp at h
  ·intro hge
   simp only[decide_eq_false_iff_not]at hge
   repeat refine c_r ?_
   refine zaJ (by simp) rfl (.inl ?_)
   have:l.zipIdx.take i=l.zipIdx:=List.take_of_length_le (by simp;omega)
   rw[this]at hj;exact hj
theorem zhe(w:World)(l:List UInt8)(hl:l.length≤9000000000000000000):Fn Tryz.prog 148 #[vs l] w (fun v w'=>Ext w w'∧∃cap,v= .func (.func 192) #[] cap∧
  ∀C:Nat→Prop,(∀b,C b→b<w.heap.size)→Iter Tryz.prog 192 cap w' w'.heap.size C l.zipIdx zle):=by
 refine enter Tryz.func148 Tryz.ntmps148 rfl rfl ?_
 repeat refine c_r ?_
 refine rg0 ?_
 repeat refine c_r ?_
 refine rg0 ?_
 repeat refine c_r ?_
 refine rt0 Tryz.ntmps148 ?_
 refine⟨Ext.alloc _ _,_,rfl,fun C hC=>zjo ?_ (by simp) (fun h=>by have:=hC _ h;omega) hl⟩
 rw[zbT (zaw _ _)];rfl
def zfK(c:UInt8):UInt8:=if 65≤c∧c≤90 then c+32 else c
def zbi(l:List UInt8):List UInt8:=l.map zfK
def zbh(l:List UInt8)(k:Nat):List UInt8:=zbi (l.take k)++l.drop k
theorem zdE{l:List UInt8}{k:Nat}(hk:k<l.length):(zbh l k).set k (zfK l[k])=zbh l (k+1):=by
 unfold zbh zbi
 have e:(List.map zfK (l.take k)).length=k:=by simp;omega
 rw[zao hk,List.map_append,List.set_append_right _ _ (by omega),e,Nat.sub_self,List.drop_eq_getElem_cons hk,List.set_cons_zero]
 simp
theorem zjw(l:List UInt8)(k:Nat):(zbh l k).length=l.length:=by simp[zbh,zbi];omega
theorem zgB{c:UInt8}(h:65≤c∧c≤90):zfK c=c+32:=if_pos h
theorem zeR{c:UInt8}(h:¬(65≤c∧c≤90)):zfK c=c:=if_neg h
theorem zfi{l:List UInt8}{k:Nat}(hk:k<l.length)(h:¬(65≤l[k]∧l[k]≤90)):zbh l k=zbh l (k+1):=by
 rw[←zdE hk,zeR h]
 apply List.ext_getElem?
 intro j
 rw[List.getElem?_set]
 split
 ·rename_i hj;subst hj
  rw[if_pos (by rw[zjw];exact hk)]
  unfold zbh zbi
  have e:(List.map zfK (l.take k)).length=k:=by simp;omega
  rw[List.getElem?_append_right (by omega),e]
  simp[hk]
 ·rfl
theorem zeW(w:World)(l:List UInt8)(hl:l.length≤9000000000000000000):Fn Tryz.prog 87 #[vs l] w (fun v w'=>v=vs (zbi l)∧Ext w w'):=by
 refine enter Tryz.func87 Tryz.ntmps87 rfl rfl ?_
 repeat (first|refine c_r ?_|refine rg0 ?_)
 repeat refine c_r ?_
 refine rq ?_;intro gd K hgd hK
 try simp only[go_sem]
 refine ziZ rfl rfl rfl (vq0) ?_
 intro c cur w1 hlc hcur htake hE1 hsz1 hb1
 try simp only[go_sem]
 refine zfU rfl rfl rfl (zaw _ _) (by simp) (by simp) ?_
 intro w2 hsz2 hb2 hk2
 simp only[World.size_alloc]at hsz2 hb2 hk2
 have hE2:Ext w w2:=hE1.trans (Keep.to_ext (Ext.alloc w1 _) rfl (fun b hb=>by omega) hk2)
 have hgb:w2.heap[w.heap.size]? =some (.cells cur 5 (c,c+1)):=(hk2.block _ (by simp;omega) (by omega)).trans ((RowKit.Below.heap_alloc _ _ _ (by omega)).trans hb1)
 rw[hsz1]at hsz2 hb2 ⊢
 simp at hb2
 clear hk2 hb1
 refine hK _ _ ?_;clear hK hgd;clear K;try clear gd
 repeat refine c_r ?_
 refine rq ?_;intro gd K hgd hK
 try simp only[go_sem]
 refine Fn.mono (zhe _ _ hl) ?_
 rintro _ w3 ⟨hE3,cap,rfl,hit⟩
 try simp only[go_sem]
 refine hK _ _ ?_;clear hK hgd;clear K;try clear gd
 repeat refine c_r ?_
 have hE3':=hE2.trans hE3
 have hsz3:=hE3.size
 refine zdH (g:=192) (cap:=cap) (vq0) rfl (hit (fun b=>b=w.heap.size) (fun b hb=>by omega)) (Keep.refl _ _) (Nat.le_refl _) (fun b hb=>by omega)
  (fun x A args h=>by rw[h];rfl)
  (fun pre A=>Ext w A∧A.heap[w.heap.size+1]? =some (.cells #[.slice (some ⟨w.heap.size,0,Option.none⟩) l.length c] 57 (0,0))∧
   ∃cur:Array Value,cur.size=c∧cur.toList.take l.length=(zbh l pre.length).map zag∧A.heap[w.heap.size]? =some (.cells cur 5 (c,c+1)))
  (fun _ _ _=>False) ?_ (fun _ _ _ _ h _=>h.elim) ?_ ?_ ?_ (fun _ _ _ _ _ _ _ h _=>h.elim)
 ·rintro pre A B ⟨h1,h2,cu,h3,h4,h5⟩ hk
  have ne1:¬two w3.heap.size (w.heap.size+1):=by unfold two;omega
  have ne2:¬two w3.heap.size w.heap.size:=by unfold two;omega
  exact⟨Keep.to_ext h1 rfl (fun b hb=>by unfold two at hb;omega) hk,(hk.block _ (Array.getElem?_eq_some_iff.1 h2).1 ne1).trans h2,cu,h3,h4,
   (hk.block _ (Array.getElem?_eq_some_iff.1 h5).1 ne2).trans h5⟩
 ·refine⟨hE3',(hE3.block _ (by omega) (fun h=>h)).trans hb2,cur,hcur,?_,(hE3.block _ (by omega) (fun h=>h)).trans hgb⟩
  simpa [zbh,zbi] using htake
 ·rintro lp pre x suf A args hxs hszA ⟨hEA,hbox,cu,hcu,hpre,hrow⟩ rfl
  obtain⟨hk,rfl⟩:=zer hxs
  dsimp only
  repeat (first|refine c_r ?_| (refine zcj (by rfl) ?_;intro gd K hgd hK;simp (disch:=first|omega|assumption|rfl) only[go_sem,zag];refine hK _ _ ?_;clear hK hgd;clear K gd))
  refine⟨rfl,KeepB.refl _ _ _,fun A2 hA2=>?_⟩
  have ne1:¬two w3.heap.size (w.heap.size+1):=by unfold two;omega
  have ne2:¬two w3.heap.size w.heap.size:=by unfold two;omega
  have hbox2:=(hA2.block _ (Array.getElem?_eq_some_iff.1 hbox).1 ne1).trans hbox
  have hrow2:=(hA2.block _ (Array.getElem?_eq_some_iff.1 hrow).1 ne2).trans hrow
  have hE2':Ext w A2:=Keep.to_ext hEA rfl (fun b hb=>by unfold two at hb;omega) hA2
  have hs2:=hA2.size
  clear hbox hrow hA2 hit hb2 hgb
  have hcu':cu[pre.length]? =some (zag (l[pre.length])):=by
   have:(cu.toList.take l.length)[pre.length]? =some (zag (l[pre.length])):=by
    rw[hpre,List.getElem?_map]
    unfold zbh
    rw[List.getElem?_append_right (by simp[zbi];omega)]
    have e:(zbi (l.take pre.length)).length=pre.length:=by simp[zbi];omega
    rw[e];simp[hk]
   rw[List.getElem?_take,if_pos hk]at this
   simpa using this
  have hbit:∀u:UInt8,(65≤u↔(65:Int)≤u.toNat)∧(u≤90↔(u.toNat:Int)≤90):=fun u=>by
   rw[UInt8.le_iff_toNat_le,UInt8.le_iff_toNat_le]
   constructor
   ·show 65≤u.toNat↔_;omega
   ·show u.toNat≤90↔_;omega
  have hkeep:∀B,A2=B→¬(65≤l[pre.length]∧l[pre.length]≤90)→(Ext w B∧B.heap[w.heap.size+1]? =some (.cells #[.slice (some ⟨w.heap.size,0,Option.none⟩) l.length c] 57 (0,0))∧
   ∃cur:Array Value,cur.size=c∧cur.toList.take l.length=(zbh l (pre++ [(l[pre.length],pre.length)]).length).map zag∧B.heap[w.heap.size]? =some (.cells cur 5 (c,c+1)))∧
    KeepB (w3.heap.size+2) (fun b=>b=w.heap.size) A2 B:=by
   rintro B rfl hno
   refine⟨⟨hE2',hbox2,cu,hcu,?_,hrow2⟩,KeepB.refl _ _ _⟩
   rw[hpre,zfi hk hno];simp
  generalize hcc:l[pre.length]=cc at*
  repeat refine c_r ?_
  refine rq ?_;intro gd K hgd hK
  have hg2:∀n σ b,zas gd n σ (some (2,b))=zal (ev n σ (.tmp 14)) b:=(fun n σ b=>by rw[zad,show gd 2=some 14 from(by rw[hgd];rfl)];rfl)
  by_cases h65:(65:Int)≤cc.toNat
  ·try simp (disch:=first|omega|assumption|rfl) only[go_sem,hg2,zad,zb8,zfw,decide_eq_true h65,beq_self_eq_true]
   refine hK _ _ ?_;clear hK hgd;clear K;try clear gd
   repeat refine c_r ?_
   refine wc0 ?_ ?_
   ·intro h90
    simp only[decide_eq_true_eq]at h90
    have hc1:zaf A2 (some ⟨w.heap.size+1,0,Option.none⟩)=some (.slice (some ⟨w.heap.size,0,Option.none⟩) l.length c):=by
     show A2.cell? _=_
     rw[zbT hbox2];rfl
    repeat refine c_r ?_
    refine rq ?_;intro gd K hgd hK
    try simp (disch:=first|omega|assumption|rfl) only[go_sem,hc1]
    refine zfU rfl rfl rfl hrow2 (by omega) (by simp;omega) ?_
    intro w5 hsz5 hb5 hk5
    refine hK _ _ ?_;clear hK hgd;clear K;try clear gd
    repeat refine c_r ?_
    have hset:((zbh l pre.length).map zag).set pre.length (.int .u8 (↑cc.toNat+97 - 65))=(zbh l (pre.length+1)).map zag:=by
     rw[←zdE hk,hcc,List.map_set]
     congr 1
     rw[zgB ⟨(hbit cc).1.2 h65,(hbit cc).2.2 h90⟩]
     unfold zag
     congr 1
     have:(cc+32).toNat=cc.toNat+32:=by
      rw[UInt8.toNat_add];show(cc.toNat+32) % 256=_;omega
     rw[this];push_cast;omega
    refine⟨⟨Keep.to_ext hE2' rfl (fun b hb=>by omega) hk5,?_,cu.setIfInBounds pre.length (.int .u8 (↑cc.toNat+97 - 65)),by simpa using hcu,?_,hb5⟩,hk5.toB (by omega) (fun i _ h=>h)⟩
    ·exact(hk5.block _ (by omega) (by omega)).trans hbox2
    ·rw[Array.toList_setIfInBounds,List.take_set,hpre,hset];simp
   ·intro h90
    simp only[decide_eq_false_iff_not]at h90
    repeat refine c_r ?_
    exact hkeep _ rfl (fun h=>h90 ((hbit cc).2.1 h.2))
  ·try simp (disch:=first|omega|assumption|rfl) only[go_sem,hg2,zad,zb8,zfw,decide_eq_false h65,beq_self_eq_true]
   refine hK _ _ ?_;clear hK hgd;clear K;try clear gd
   repeat refine c_r ?_
   refine wc0 ?_ ?_
   ·intro h;simp at h
   ·intro _
    repeat refine c_r ?_
    exact hkeep _ rfl (fun h=>h65 ((hbit cc).1.1 h.1))
 ·rintro w4 hsz4 ⟨hE4,hbox,cu,hcu,hpre,hrow⟩ hD
  have hc1:zaf w4 (some ⟨w.heap.size+1,0,Option.none⟩)=some (.slice (some ⟨w.heap.size,0,Option.none⟩) l.length c):=by
   show w4.cell? _=_
   rw[zbT hbox];rfl
  have hfull:zbh l l.zipIdx.length=zbi l:=by simp[zbh]
  rw[hfull]at hpre
  have hlen:(zbi l).length=l.length:=by simp[zbi]
  repeat refine c_r ?_
  refine rq ?_;intro gd K hgd hK
  try simp (disch:=first|omega|assumption|rfl) only[go_sem,hc1]
  rw[←hlen]
  refine zbf rfl rfl rfl (vq0) ?_ ?_
  ·intro j hj
   rw[hlen]at hj
   rw[za6]
   show w4.cell? _=_
   rw[zbT hrow]
   have:(cu.toList.take l.length)[j]? =some (zag ((zbi l)[j]'(by omega))):=by
    rw[hpre,List.getElem?_map,List.getElem?_eq_getElem (by omega)];rfl
   rw[List.getElem?_take,if_pos hj]at this
   simpa using this
  try simp only[go_sem]
  refine hK _ _ ?_;clear hK hgd;clear K;try clear gd
  repeat refine c_r ?_
  refine zdQ (by simp) rfl Tryz.ntmps87 (by simp only[go_sem];rfl) hD ?_
  intro w5 hk5 _
  exact⟨rfl,Keep.to_ext hE4 rfl (fun b hb=>by omega) hk5⟩
def cmpI(a b:Int):Int:=if a<b then -1 else if b<a then 1 else 0
def orI:List Int→Int
 | []=>0
 |a::l=>if a=0 then orI l else a
def lexC{α:Type}(cf:α→α→Int):List α→List α→Int
 | [],[]=>0
 | [],_::_=> -1
 |_::_,[]=>1
 |x::l,y::m=>if cf x y=0 then lexC cf l m else cf x y
theorem orI_drop{l:List Int}{i:Nat}(h:i<l.length):orI (l.drop i)=if l[i]=0 then orI (l.drop (i+1)) else l[i]:=by
 rw[List.drop_eq_getElem_cons h];rfl
theorem zcA{α:Type}{cf:α→α→Int}{a b:List α}{i:Nat}(ha:i<a.length)(hb:i<b.length):lexC cf (a.drop i) (b.drop i)=if cf a[i] b[i]=0 then lexC cf (a.drop (i+1)) (b.drop (i+1)) else cf a[i] b[i]:=by
 rw[List.drop_eq_getElem_cons ha,List.drop_eq_getElem_cons hb];rfl
theorem zcK{α:Type}{cf:α→α→Int}:∀{a b:List α},a=[]∨b=[]→lexC cf a b=cmpI a.length b.length
 | [],[],_=>rfl
 | [],_::_,_=>by simp only[lexC,cmpI,List.length_cons,List.length_nil];rw[if_pos (by omega)]
 |_::_,[],_=>by simp only[lexC,cmpI,List.length_cons,List.length_nil];rw[if_neg (by omega),if_pos (by omega)]
 |_::_,_::_,h=>by simp at h
end Go.Proofs.YtopbbjdembnfdaaGreat
namespace Go.Proofs.YtopbbjdembnfdaaGreat.N_int
open Go Go.Proofs.YtopbbjdembnfdaaGreat
set_option maxRecDepth 10000
theorem zd0(w:World)(a:Int):Fn Tryz.prog 171 #[.int .i64 a] w (fun v w'=>v= .bool false∧w'=w):=by
 refine enter Tryz.func171 Tryz.ntmps171 rfl rfl ?_
 repeat (first|refine c_r ?_| (refine zcj (by rfl) ?_;intro gd K hgd hK;simp (disch:=first|omega|assumption|rfl) only[go_sem,decide_true];refine hK _ _ ?_;clear hK hgd;clear K gd))
 refine rt0 Tryz.ntmps171 ?_
 exact⟨rfl,rfl⟩
theorem Compare_ok(w:World)(a b:Int):Fn Tryz.prog 120 #[.int .i64 a,.int .i64 b] w (fun v w'=>v=vi (cmpI a b)∧w'=w):=by
 refine enter Tryz.func120 Tryz.ntmps120 rfl rfl ?_
 repeat refine c_r ?_
 refine rg0 ?_
 repeat refine c_r ?_
 refine rq ?_;intro gd K hgd hK
 try simp only[go_sem]
 refine Fn.mono (zd0 _ _) ?_
 rintro _ _ ⟨rfl,rfl⟩
 try simp only[go_sem]
 refine hK _ _ ?_;clear hK hgd;clear K;try clear gd
 repeat refine c_r ?_
 refine rq ?_;intro gd K hgd hK
 try simp only[go_sem]
 refine Fn.mono (zd0 _ _) ?_
 rintro _ _ ⟨rfl,rfl⟩
 try simp only[go_sem]
 refine hK _ _ ?_;clear hK hgd;clear K;try clear gd
 repeat refine c_r ?_
 refine rg0 ?_
 repeat refine c_r ?_
 refine wc0 ?_ ?_
 ·intro h;cases h
 intro _
 repeat refine c_r ?_
 refine rg0 ?_
 repeat refine c_r ?_
 refine wc0 ?_ ?_
 ·intro h;cases h
 intro _
 repeat refine c_r ?_
 refine rg0 ?_
 repeat refine c_r ?_
 refine wc0 ?_ ?_
 ·intro h
  simp only[decide_eq_true_eq]at h
  repeat (first|refine c_r ?_|refine rg0 ?_)
  refine rt0 Tryz.ntmps120 ?_
  exact⟨by rw[cmpI,if_pos h],rfl⟩
 intro h
 simp only[decide_eq_false_iff_not]at h
 repeat (first|refine c_r ?_|refine rg0 ?_)
 refine wc0 ?_ ?_
 ·intro h2
  simp only[decide_eq_true_eq]at h2
  repeat (first|refine c_r ?_|refine rg0 ?_)
  refine rt0 Tryz.ntmps120 ?_
  exact⟨by rw[cmpI,if_neg h,if_pos h2],rfl⟩
 intro h2
 simp only[decide_eq_false_iff_not]at h2
 repeat (first|refine c_r ?_|refine rg0 ?_)
 refine rt0 Tryz.ntmps120 ?_
 exact⟨by rw[cmpI,if_neg h,if_neg h2],rfl⟩
end Go.Proofs.YtopbbjdembnfdaaGreat.N_int
namespace Go.Proofs.YtopbbjdembnfdaaGreat
open Go
section
variable {P : Program} {d : Option Tmp} {ty : TypeId} {ps : String} {af : Array Edge} {g : Option (Nat × Bool)} {ρ : Operand → Value} {w : World} {K : Value → World → Prop}
end
set_option maxRecDepth 10000
theorem u8_le(u:UInt8):(65≤u↔(65:Int)≤u.toNat)∧(u≤90↔(u.toNat:Int)≤90):=by
 rw[UInt8.le_iff_toNat_le,UInt8.le_iff_toNat_le]
 constructor
 ·show 65≤u.toNat↔_;omega
 ·show u.toNat≤90↔_;omega
theorem byteV_up{cc:UInt8}(h65:(65:Int)≤cc.toNat)(h90:(cc.toNat:Int)≤90):zag (zfK cc)= .int .u8 (cc.toNat+32):=by
 rw[zgB ⟨(u8_le cc).1.2 h65,(u8_le cc).2.2 h90⟩]
 unfold zag
 congr 1
 have:(cc+32).toNat=cc.toNat+32:=by
  rw[UInt8.toNat_add];show(cc.toNat+32) % 256=_;omega
 rw[this];push_cast;omega
theorem zjx{l:List UInt8}{k:Nat}(hk:k<l.length):(zbh l k)[k]? =some l[k]:=by
 unfold zbh
 have e:(zbi (l.take k)).length=k:=by simp[zbi];omega
 rw[List.getElem?_append_right (by omega),e];simp[hk]
theorem zbL(w:World)(l:List UInt8)(hl:l.length≤9000000000000000000):Fn Tryz.prog 88 #[vs l] w (fun v w'=>v=vs (zbi l)∧Ext w w'):=by
 refine enter Tryz.func88 Tryz.ntmps88 rfl rfl ?_
 repeat (first|refine c_r ?_|refine rg0 ?_)
 repeat refine c_r ?_
 refine rq ?_;intro gd K hgd hK
 try simp only[go_sem]
 refine ziZ rfl rfl rfl (vq0) ?_
 intro c cur w1 hlc hcur htake hE1 hsz1 hb1
 try simp only[go_sem]
 refine hK _ _ ?_;clear hK hgd;clear K;try clear gd
 repeat (first|refine c_r ?_|refine rg0 ?_)
 refine zap (fun m σ ds A=>ds=[]∧∃i,i+m=l.length∧σ 4=vi i∧σ 3= .slice (some ⟨w.heap.size,0,Option.none⟩) l.length c∧Ext w A∧
  ∃cur:Array Value,cur.size=c∧cur.toList.take l.length=(zbh l i).map zag∧A.heap[w.heap.size]? =some (.cells cur 5 (c,c+1))) l.length ?_ ?_
 ·refine⟨rfl,0,by omega,?_,?_,hE1,cur,hcur,by simpa [zbh,zbi] using htake,hb1⟩<;>simp only[go_sem]<;>rfl
 ·rintro m σ ds A ⟨rfl,i,him,h4,h3,hE,cu,hcu,hpre,hrow⟩
  repeat refine c_r ?_
  refine rg2 h4 h3 ?_
  refine wc0 ?_ ?_
  ·intro hlt
   simp only[decide_eq_true_eq]at hlt
   have hk:i<l.length:=by omega
   generalize hcc:l[i]=cc
   have hcell:zaf A (some ⟨w.heap.size,i,Option.none⟩)=some (.int .u8 cc.toNat):=by
    show A.cell? _=_
    rw[zbT hrow]
    have:(cu.toList.take l.length)[i]? =some (zag cc):=by rw[hpre,List.getElem?_map,zjx hk,hcc];rfl
    rw[List.getElem?_take,if_pos hk]at this
    simpa [zag] using this
   repeat (with_reducible first|refine zhH ?_|refine zjL ?_|refine zfC ?_|refine zav ?_|refine zdg ?_|refine zdN ?_|refine zbI ?_|refine zdr ?_|refine zbV ?_|refine zb2 rfl ?_)
   refine W_mid (fun σ ds B=>ds=[]∧σ 4=vi i∧σ 3= .slice (some ⟨w.heap.size,0,Option.none⟩) l.length c∧Ext w B∧
    ∃cur:Array Value,cur.size=c∧cur.toList.take l.length=(zbh l (i+1)).map zag∧B.heap[w.heap.size]? =some (.cells cur 5 (c,c+1))) ?_ ?_
   ·repeat refine c_r ?_
    refine rq ?_;intro gd K hgd hK
    have hg5:∀n σ b,zas gd n σ (some (5,b))=zal (ev n σ (.tmp 18)) b:=(fun n σ b=>by rw[zad,show gd 5=some 18 from(by rw[hgd];rfl)];rfl)
    have hno:¬(65≤cc∧cc≤90)→cu.toList.take l.length=(zbh l (i+1)).map zag:=fun h=>by rw[hpre,zfi hk (by rw[hcc];exact h)]
    by_cases h65:(65:Int)≤cc.toNat
    ·try simp (disch:=first|omega|assumption|rfl) only[go_sem,h4,h3,hcell,decide_eq_true h65,↓hg5]
     refine hK _ _ ?_;clear hK hgd;clear K;try clear gd
     repeat refine c_r ?_
     refine wc0 ?_ ?_
     ·intro h90
      simp only[decide_eq_true_eq]at h90
      repeat refine c_r ?_
      refine rq ?_;intro gd K hgd hK
      try simp (disch:=first|omega|assumption|rfl) only[go_sem,h4,h3,hcell]
      refine zfU rfl rfl rfl hrow (by omega) (by simp;omega) ?_
      intro w5 hsz5 hb5 hk5
      refine hK _ _ ?_;clear hK hgd;clear K;try clear gd
      repeat (with_reducible first|refine zhH ?_|refine zjL ?_|refine zfC ?_|refine zav ?_|refine zdg ?_|refine zdN ?_|refine zbI ?_|refine zdr ?_|refine zbV ?_|refine zb2 rfl ?_)
      have hset:((zbh l i).map zag).set i (.int .u8 (↑cc.toNat+32))=(zbh l (i+1)).map zag:=by
       rw[←zdE hk,hcc,List.map_set,byteV_up h65 h90]
      refine⟨rfl,?_,?_,Keep.to_ext hE rfl (fun b hb=>by omega) hk5,cu.setIfInBounds i (.int .u8 (↑cc.toNat+32)),by simpa using hcu,?_,hb5⟩
      ·simp only[go_sem,h4]
      ·simp only[go_sem,h3]
      ·rw[Array.toList_setIfInBounds,List.take_set,hpre,hset]
     ·intro h90
      simp only[decide_eq_false_iff_not]at h90
      repeat (with_reducible first|refine zhH ?_|refine zjL ?_|refine zfC ?_|refine zav ?_|refine zdg ?_|refine zdN ?_|refine zbI ?_|refine zdr ?_|refine zbV ?_|refine zb2 rfl ?_)
      exact⟨rfl,(vq1 h4),(vq1 h3),hE,cu,hcu,hno (fun h=>h90 ((u8_le cc).2.1 h.2)),hrow⟩
    ·try simp (disch:=first|omega|assumption|rfl) only[go_sem,h4,h3,hcell,decide_eq_false h65,↓hg5]
     refine hK _ _ ?_;clear hK hgd;clear K;try clear gd
     repeat refine c_r ?_
     refine wc0 ?_ ?_
     ·intro h;simp at h
     ·intro _
      repeat (with_reducible first|refine zhH ?_|refine zjL ?_|refine zfC ?_|refine zav ?_|refine zdg ?_|refine zdN ?_|refine zbI ?_|refine zdr ?_|refine zbV ?_|refine zb2 rfl ?_)
      exact⟨rfl,(vq1 h4),(vq1 h3),hE,cu,hcu,hno (fun h=>h65 ((u8_le cc).1.1 h.1)),hrow⟩
   ·rintro σ' ds B ⟨rfl,h4',h3',hE',hex⟩
    refine rg1 h4' ?_
    refine zav ?_
    exact⟨m - 1,by omega,rfl,i+1,by omega,by simp only[go_sem];rfl,(vq1 h3'),hE',hex⟩
  ·intro hge
   simp only[decide_eq_false_iff_not]at hge
   have hfull:zbh l i=zbi l:=by unfold zbh;rw[List.take_of_length_le (by omega),List.drop_of_length_le (by omega)];simp
   rw[hfull]at hpre
   have hlen:(zbi l).length=l.length:=by simp[zbi]
   repeat refine c_r ?_
   refine rq ?_;intro gd K hgd hK
   try simp (disch:=first|omega|assumption|rfl) only[go_sem,h3]
   rw[←hlen]
   refine zbf rfl rfl rfl ((vq2 h3 hlen)) ?_ ?_
   ·intro j hj
    rw[hlen]at hj
    rw[za6]
    show A.cell? _=_
    rw[zbT hrow]
    have:(cu.toList.take l.length)[j]? =some (zag ((zbi l)[j]'(by omega))):=by
     rw[hpre,List.getElem?_map,List.getElem?_eq_getElem (by omega)];rfl
    rw[List.getElem?_take,if_pos hj]at this
    simpa using this
   try simp only[go_sem]
   refine hK _ _ ?_;clear hK hgd;clear K;try clear gd
   repeat refine c_r ?_
   refine rt0 Tryz.ntmps88 ?_
   exact⟨rfl,hE⟩
abbrev Nm:=List (List UInt8)
def LB(n:Nm):Prop:=∀l∈n,l.length≤9000000000000000000
theorem LB.get{n:Nm}(h:LB n){i:Nat}(hi:i<n.length):n[i].length≤9000000000000000000:=h _ (List.getElem_mem hi)
def zaq(n:Nm):Nm:=n.map zbi
theorem zbb(n:Nm):(zaq n).length=n.length:=by simp[zaq]
theorem zcC{n:Nm}{i:Nat}(h:i<n.length):zaq (n.take (i+1))=zaq (n.take i)++ [zbi n[i]]:=by
 rw[zao h];simp only[zaq,List.map_append,List.map_cons,List.map_nil]
theorem zex{a b:Nm}(h:a.length≠b.length):zaq a≠zaq b:=fun e=>h (by rw[←zbb a,e,zbb])
theorem zfj{a b:Nm}{i:Nat}(ha:i<a.length)(hb:i<b.length)(h:zbi a[i]≠zbi b[i]):zaq a≠zaq b:=by
 intro e
 apply h
 have:=congrArg (fun l:Nm=>l[i]?) e
 simpa [zaq,ha,hb] using this
theorem zbK(w:World)(a b:Value)(xs ys:List (List UInt8))(ha:Row w a (xs.map vs))(hb:Row w b (ys.map vs))(hx:LB xs)(hy:LB ys)(hxl:xs.length≤9000000000000000000)(hyl:ys.length≤9000000000000000000):
  Fn Tryz.prog 30 #[a,b] w (fun v w'=>v= .bool (decide (zaq xs=zaq ys))∧Ext w w'):=by
 obtain⟨a,ca,rfl,hca,hla⟩:=ha
 obtain⟨b,cb,rfl,hcb,hlb⟩:=hb
 simp only[List.length_map]at*
 refine enter Tryz.func30 Tryz.ntmps30 rfl rfl ?_
 repeat (first|refine c_r ?_|refine rg0 ?_)
 refine zaB (t:=!decide ((xs.length:Int)=ys.length)) (by simp only[go_sem]) ?_ ?_
 ·intro ht
  repeat (first|refine c_r ?_|refine rg0 ?_)
  refine rt0 Tryz.ntmps30 ?_
  exact⟨by rw[decide_eq_false (zex (by simp at ht;omega))],Keep.refl _ _⟩
 ·intro ht
  repeat (first|refine c_r ?_|refine rg0 ?_)
  refine zap (fun m σ ds v=>ds=[]∧∃i,i+m=xs.length∧σ 5=vi i∧σ 0= .slice a xs.length ca∧σ 1= .slice b ys.length cb∧Ext w v∧zaq (xs.take i)=zaq (ys.take i)) xs.length ?_ ?_
  ·refine⟨rfl,0,by omega,?_,?_,?_,Keep.refl _ _,by simp[zaq]⟩<;>simp only[go_sem]<;>rfl
  ·rintro m σ ds v ⟨rfl,i,him,h5,h0,h1,hE,hpre⟩
   refine zfN ?_
   refine zfN ?_
   refine rq ?_;intro gd K hgd hK
   simp only[go_sem,h5,h0,h1]
   refine hK _ _ ?_;clear hK hgd;clear K;try clear gd
   refine zaB (t:=decide ((i:Int)<xs.length)) (by simp only[go_sem]) ?_ ?_
   ·intro hlt
    simp only[decide_eq_true_eq]at hlt
    repeat refine c_r ?_
    refine zaN (fun _=>false) [(0,true),(1,true),(2,true),(3,true),(5,true),(6,true),(7,true),(8,true),(4,false),(9,false),(10,true)] NoS mixed (by kernel_rfl) ?_;intro gd K x hgd hx hxe hK;clear hxe
    have hsa:a.isSome=true:=zai (hla i (by omega))
    have hsb:b.isSome=true:=zai (hlb i (by simp at ht;omega))
    have hla':=fun j h=>zab (hE.trans hx) (hla j h)
    have hlb':=fun j h=>zab (hE.trans hx) (hlb j h)
    have hxy:xs.length=ys.length:=by simp at ht;omega
    clear ht
    simp (disch:=first|omega|assumption) only[go_sem,h5,h0,h1,hla',hlb',List.getElem_map]
    refine Fn.mono (zbL _ _ (LB.get ‹LB _› _)) ?_
    rintro _ x1 ⟨rfl,hx1⟩
    refine⟨.inr hx1,?_⟩
    simp (disch:=first|omega|assumption|rfl) only[go_sem]
    refine Fn.mono (zbL _ _ (LB.get ‹LB _› _)) ?_
    rintro _ x2 ⟨rfl,hx2⟩
    refine⟨.inr hx2,?_⟩
    simp only[go_sem]
    refine hK _ _ ?_;clear hK hgd;clear K;try clear gd
    repeat refine c_r ?_
    refine zaB (by simp only[go_sem];rfl) ?_ ?_
    ·intro hne
     simp only[Bool.not_eq_true',decide_eq_false_iff_not]at hne
     repeat (first|refine c_r ?_|refine rg0 ?_)
     refine rt0 Tryz.ntmps30 ?_
     exact⟨by rw[decide_eq_false (zfj (i:=i) (by omega) (by omega) hne)],((hE.trans hx).trans hx1).trans hx2⟩
    ·intro heq
     simp only[Bool.not_eq_false',decide_eq_true_eq]at heq
     repeat refine c_r ?_
     refine rq ?_;intro gd K hgd hK
     simp (disch:=first|omega|assumption) only[go_sem,h5,h0,h1]
     refine hK _ _ ?_;clear hK hgd;clear K;try clear gd
     refine zav ?_
     refine⟨m - 1,by omega,rfl,i+1,by omega,?_,?_,?_,((hE.trans hx).trans hx1).trans hx2,?_⟩
     ·simp only[go_sem];rfl
     ·simp only[go_sem,h0]
     ·simp only[go_sem,h1]
     ·rw[zcC (by omega),zcC (by omega),hpre,heq]
   ·intro hge
    simp only[decide_eq_false_iff_not]at hge
    repeat (first|refine c_r ?_|refine rg0 ?_)
    refine rt0 Tryz.ntmps30 ?_
    refine⟨?_,hE⟩
    rw[List.take_of_length_le (by omega),List.take_of_length_le (by simp at ht;omega)]at hpre
    rw[decide_eq_true hpre]
theorem Row.cut{w:World}{a:Option Addr}{n c:Nat}{l:List Value}(hn:n=l.length)(hc:n≤c)(hl:∀j (h:j<l.length),zaf w (adr a j)=some l[j]){lo hi:Nat}(h1:lo≤hi)(h2:hi≤n):
  Row w (.slice (if c=lo then a else adr a lo) (hi - lo) (c - lo)) ((l.drop lo).take (hi - lo)):=by
 have hlen:((l.drop lo).take (hi - lo)).length=hi - lo:=by simp;omega
 refine⟨_,_,by rw[hlen],by omega,fun j hj=>?_⟩
 rw[hlen]at hj
 rw[if_neg (by omega),zfz,hl (lo+j) (by omega)]
 simp
theorem Row.tail{w:World}{a:Option Addr}{n c:Nat}{l:List Value}(hn:n=l.length)(hc:n≤c)(hl:∀j (h:j<l.length),zaf w (adr a j)=some l[j]){lo:Nat}(h2:lo≤n):
  Row w (.slice (if c=lo then a else adr a lo) (n - lo) (c - lo)) (l.drop lo):=by
 have:=Row.cut hn hc hl h2 (Nat.le_refl _)
 rwa [List.take_of_length_le (by simp;omega)]at this
def zaY(n z:Nm):Bool:=decide (z.length≤n.length) && decide (zaq (n.drop (n.length - z.length))=zaq z)
theorem LB.drop{n:Nm}(h:LB n)(k:Nat):LB (n.drop k):=fun l hl=>h l (List.drop_subset _ _ hl)
theorem zcG(w:World)(a b:Value)(xs ys:Nm)(ha:Row w a (xs.map vs))(hb:Row w b (ys.map vs))(hx:LB xs)(hy:LB ys)(hxl:xs.length≤9000000000000000000)(hyl:ys.length≤9000000000000000000):
  Fn Tryz.prog 67 #[a,b] w (fun v w'=>v= .bool (zaY xs ys)∧Ext w w'):=by
 have hb0:=hb
 obtain⟨a,ca,rfl,hca,hla⟩:=ha
 obtain⟨b,cb,rfl,hcb,hlb⟩:=hb
 simp only[List.length_map]at*
 refine enter Tryz.func67 Tryz.ntmps67 rfl rfl ?_
 repeat refine c_r ?_
 refine rg0 ?_
 repeat refine c_r ?_
 refine rq ?_;intro gd K hgd hK
 have hg5:∀n σ b,zas gd n σ (some (5,b))=zal (ev n σ (.tmp 10)) b:=(fun n σ b=>by rw[zad,show gd 5=some 10 from(by rw[hgd];rfl)];rfl)
 by_cases h:(ys.length:Int)≤xs.length
 ·try simp (disch:=first|omega|assumption|rfl) only[go_sem,decide_eq_true h,↓hg5]
  have hd:((xs.length:Int) - ys.length).toNat=xs.length - ys.length:=by omega
  have hcut:=Row.tail (l:=xs.map vs) (by simp) hca (fun j hj=>by rw[hla j (by simpa using hj)]) (lo:=xs.length - ys.length) (by omega)
  rw[←List.map_drop]at hcut
  rw[hd]
  refine Fn.mono (zbK w _ _ _ _ hcut hb0 (hx.drop _) hy (by simp;omega) hyl) ?_
  rintro _ w1 ⟨rfl,hE⟩
  try simp (disch:=first|omega|assumption|rfl) only[go_sem,decide_eq_true h,↓hg5]
  refine hK _ _ ?_;clear hK hgd;clear K;try clear gd
  repeat refine c_r ?_
  refine rt0 Tryz.ntmps67 ?_
  exact⟨by simp[zaY];omega,hE⟩
 ·try simp (disch:=first|omega|assumption|rfl) only[go_sem,decide_eq_false h,↓hg5]
  refine hK _ _ ?_;clear hK hgd;clear K;try clear gd
  repeat refine c_r ?_
  refine rt0 Tryz.ntmps67 ?_
  exact⟨by simp[zaY];omega,Keep.refl _ _⟩
theorem LSame_ok(w:World)(a b:List UInt8)(ha:a.length≤9000000000000000000)(hb:b.length≤9000000000000000000):Fn Tryz.prog 86 #[vs a,vs b] w (fun v w'=>v= .bool (decide (zbi a=zbi b))∧Ext w w'):=by
 refine enter Tryz.func86 Tryz.ntmps86 rfl rfl ?_
 repeat refine c_r ?_
 refine rg0 ?_
 repeat refine c_r ?_
 refine rq ?_;intro gd K hgd hK
 try simp only[go_sem]
 refine Fn.mono (zeW _ _ ha) ?_
 rintro _ w1 ⟨rfl,hE1⟩
 try simp only[go_sem]
 refine Fn.mono (zeW _ _ hb) ?_
 rintro _ w2 ⟨rfl,hE2⟩
 try simp only[go_sem]
 refine hK _ _ ?_;clear hK hgd;clear K;try clear gd
 repeat refine c_r ?_
 refine rt0 Tryz.ntmps86 ?_
 exact⟨rfl,hE1.trans hE2⟩
theorem zdd(w:World)(a b:Value)(xs ys:Nm)(ha:Row w a (xs.map vs))(hb:Row w b (ys.map vs))(hx:LB xs)(hy:LB ys)(hxl:xs.length≤9000000000000000000)(hyl:ys.length≤9000000000000000000):
  Fn Tryz.prog 85 #[a,b,.func (.func 86) #[] #[]] w (fun v w'=>v= .bool (decide (zaq xs=zaq ys))∧Ext w w'):=by
 obtain⟨a,ca,rfl,hca,hla⟩:=ha
 obtain⟨b,cb,rfl,hcb,hlb⟩:=hb
 simp only[List.length_map]at*
 refine enter Tryz.func85 Tryz.ntmps85 rfl rfl ?_
 repeat (first|refine c_r ?_|refine rg0 ?_)
 refine zaB (t:=!decide ((xs.length:Int)=ys.length)) (by simp only[go_sem]) ?_ ?_
 ·intro ht
  repeat (first|refine c_r ?_|refine rg0 ?_)
  refine rt0 Tryz.ntmps85 ?_
  exact⟨by rw[decide_eq_false (zex (by simp at ht;omega))],Keep.refl _ _⟩
 ·intro ht
  have hxy:xs.length=ys.length:=by simp at ht;omega
  clear ht
  repeat (first|refine c_r ?_|refine rg0 ?_)
  refine zap (fun m σ ds v=>ds=[]∧∃i,i+m=xs.length∧σ 17=vi i∧σ 16=vi xs.length∧σ 15= .slice a xs.length ca∧σ 1= .slice b ys.length cb∧σ 2= .func (.func 86) #[] #[]∧Ext w v∧zaq (xs.take i)=zaq (ys.take i)) xs.length ?_ ?_
  ·refine⟨rfl,0,by omega,?_,?_,?_,?_,?_,Keep.refl _ _,by simp[zaq]⟩<;>simp only[go_sem]<;>rfl
  ·rintro m σ ds v ⟨rfl,i,him,h17,h16,h15,h1,h2,hE,hpre⟩
   repeat refine c_r ?_
   refine rg2 h17 h16 ?_
   repeat refine c_r ?_
   refine wc0 ?_ ?_
   ·intro hlt
    simp only[decide_eq_true_eq]at hlt
    have hsa:a.isSome=true:=zai (hla i (by omega))
    have hsb:b.isSome=true:=zai (hlb i (by omega))
    have hla':=fun j h=>zab hE (hla j h)
    have hlb':=fun j h=>zab hE (hlb j h)
    repeat (first|refine c_r ?_| (refine zcj (by rfl) ?_;intro gd K hgd hK;simp (disch:=first|omega|assumption|rfl) only[go_sem,h17,h15,h1,hla',hlb',List.getElem_map];refine hK _ _ ?_;clear hK hgd;clear K gd))
    refine rq ?_;intro gd K hgd hK
    try simp (disch:=first|omega|assumption|rfl) only[go_sem,h2]
    refine Fn.mono (LSame_ok _ _ _ (LB.get hx _) (LB.get hy _)) ?_
    rintro _ x1 ⟨rfl,hx1⟩
    try simp only[go_sem]
    refine hK _ _ ?_;clear hK hgd;clear K;try clear gd
    repeat refine c_r ?_
    refine wc0 ?_ ?_
    ·intro hne
     simp only[Bool.not_eq_true',decide_eq_false_iff_not]at hne
     repeat refine c_r ?_
     refine rg0 ?_
     repeat refine c_r ?_
     refine rt0 Tryz.ntmps85 ?_
     exact⟨by rw[decide_eq_false (zfj (i:=i) (by omega) (by omega) hne)],hE.trans hx1⟩
    ·intro heq
     simp only[Bool.not_eq_false',decide_eq_true_eq]at heq
     repeat refine c_r ?_
     refine rg1 h17 ?_
     refine zav ?_
     refine⟨m - 1,by omega,rfl,i+1,by omega,?_,?_,?_,?_,?_,hE.trans hx1,?_⟩
     ·simp only[go_sem];rfl
     ·simp only[go_sem,h16]
     ·simp only[go_sem,h15]
     ·simp only[go_sem,h1]
     ·simp only[go_sem,h2]
     ·rw[zcC (by omega),zcC (by omega),hpre,heq]
   ·intro hge
    simp only[decide_eq_false_iff_not]at hge
    repeat (first|refine c_r ?_|refine rg0 ?_)
    refine rt0 Tryz.ntmps85 ?_
    refine⟨?_,hE⟩
    rw[List.take_of_length_le (by omega),List.take_of_length_le (by omega)]at hpre
    rw[decide_eq_true hpre]
theorem zdJ(w:World)(a b:Value)(xs ys:Nm)(ha:Row w a (xs.map vs))(hb:Row w b (ys.map vs))(hx:LB xs)(hy:LB ys)(hxl:xs.length≤9000000000000000000)(hyl:ys.length≤9000000000000000000):
  Fn Tryz.prog 28 #[a,b] w (fun v w'=>v= .bool (decide (zaq xs=zaq ys))∧Ext w w'):=by
 refine enter Tryz.func28 Tryz.ntmps28 rfl rfl ?_
 repeat refine c_r ?_
 refine rg0 ?_
 repeat refine c_r ?_
 refine rq ?_;intro gd K hgd hK
 try simp only[go_sem]
 refine Fn.mono (zdd w _ _ _ _ ha hb hx hy hxl hyl) ?_
 rintro _ w1 ⟨rfl,hE⟩
 try simp only[go_sem]
 refine hK _ _ ?_;clear hK hgd;clear K;try clear gd
 repeat refine c_r ?_
 refine rt0 Tryz.ntmps28 ?_
 exact⟨rfl,hE⟩
theorem zcQ(w:World)(a b:Value)(xs ys:Nm)(ha:Row w a (xs.map vs))(hb:Row w b (ys.map vs))(hx:LB xs)(hy:LB ys)(hxl:xs.length≤9000000000000000000)(hyl:ys.length≤9000000000000000000):
  Fn Tryz.prog 26 #[a,b] w (fun v w'=>v= .bool (zaY xs ys)∧Ext w w'):=by
 have hb0:=hb
 obtain⟨a,ca,rfl,hca,hla⟩:=ha
 obtain⟨b,cb,rfl,hcb,hlb⟩:=hb
 simp only[List.length_map]at*
 refine enter Tryz.func26 Tryz.ntmps26 rfl rfl ?_
 repeat refine c_r ?_
 refine rg0 ?_
 repeat refine c_r ?_
 refine rq ?_;intro gd K hgd hK
 have hg5:∀n σ b,zas gd n σ (some (5,b))=zal (ev n σ (.tmp 10)) b:=(fun n σ b=>by rw[zad,show gd 5=some 10 from(by rw[hgd];rfl)];rfl)
 by_cases h:(ys.length:Int)≤xs.length
 ·try simp (disch:=first|omega|assumption|rfl) only[go_sem,decide_eq_true h,↓hg5]
  have hd:((xs.length:Int) - ys.length).toNat=xs.length - ys.length:=by omega
  have hcut:=Row.tail (l:=xs.map vs) (by simp) hca (fun j hj=>by rw[hla j (by simpa using hj)]) (lo:=xs.length - ys.length) (by omega)
  rw[←List.map_drop]at hcut
  rw[hd]
  refine Fn.mono (zdJ w _ _ _ _ hcut hb0 (hx.drop _) hy (by simp;omega) hyl) ?_
  rintro _ w1 ⟨rfl,hE⟩
  try simp (disch:=first|omega|assumption|rfl) only[go_sem,decide_eq_true h,↓hg5]
  refine hK _ _ ?_;clear hK hgd;clear K;try clear gd
  repeat refine c_r ?_
  refine rt0 Tryz.ntmps26 ?_
  exact⟨by simp[zaY];omega,hE⟩
 ·try simp (disch:=first|omega|assumption|rfl) only[go_sem,decide_eq_false h,↓hg5]
  refine hK _ _ ?_;clear hK hgd;clear K;try clear gd
  repeat refine c_r ?_
  refine rt0 Tryz.ntmps26 ?_
  exact⟨by simp[zaY];omega,Keep.refl _ _⟩
theorem Child_ok(w:World)(b:Value)(l:List UInt8)(xs:Nm)(hb:Row w b (xs.map vs))(hxl:xs.length≤1000000000000):
  Fn Tryz.prog 133 #[vs l,b] w (fun v w'=>RowB w.heap.size w' v ((l::xs).map vs)∧Ext w w'):=by
 have hb0:=hb
 obtain⟨b,cb,rfl,hcb,hlb⟩:=hb
 simp only[List.length_map]at*
 refine enter Tryz.func133 Tryz.ntmps133 rfl rfl ?_
 repeat refine c_r ?_
 refine rg0 ?_
 repeat refine c_r ?_
 refine rq ?_;intro gd K hgd hK
 try simp only[go_sem]
 have hbs:bsC Tryz.prog 23 1 [(0,vs l)]=some (9,#[vs l]):=zik (z:=vs []) rfl rfl rfl rfl rfl
 unfold bsL bsK
 rw[hbs]
 simp only[]
 have hown:(w.alloc (.cells #[vs l] 9)).ownsRow w.heap.size 9 1 (.slice (some ⟨w.heap.size,0,Option.none⟩) 1 1) 1 [vs l]:=
  ⟨rfl,.inr ⟨w.heap.size,1,#[vs l],rfl,Nat.le_refl _,zaw w _,Nat.le_refl _,by decide,rfl,rfl⟩⟩
 try simp only[go_sem]
 refine zdT (P:=Tryz.prog) (e:=9) (size:=1) (bytes:=16) (m:=xs.length) rfl rfl rfl rfl rfl rfl (by decide) (vq0) (by simp only[go_sem];rfl) hown (by simpa using Src1.of_row (hb0.ext (Ext.alloc w _))) ?_ ?_ ?_ (by simp) ?_
 ·intro q hq
  obtain⟨s,_,rfl⟩:=List.mem_map.1 hq
  rfl
 ·simp[maxLen];omega
 ·omega
 intro v' w' hown' hgr _
 try simp only[go_sem]
 refine hK _ _ ?_;clear hK hgd;clear K;try clear gd
 repeat refine c_r ?_
 refine rt0 Tryz.ntmps133 ?_
 exact⟨by simpa using RowB.of_owns hown',Keep.to_ext (Ext.alloc w _) rfl (fun b hb=>by simp[Value.ownBlock]at hb;omega) hgr⟩
theorem KeepB.to_ext{n0:Nat}{C:Nat→Prop}{w0 w x:World}(h0:Ext w0 w)(h:KeepB n0 C w x)(hn:w0.heap.size≤n0)(hC:∀b,C b→w0.heap.size≤b):Ext w0 x:=
  ⟨h.os.trans h0.os,h.tape.trans h0.tape,h.output.trans h0.output,Nat.le_trans h0.size h.size,
   fun b hb _=>(h.block b (by omega) (fun hc=>by have:=hC b hc;omega)).trans (h0.block b hb (fun x=>x)),Nat.le_trans h0.drawn h.drawn⟩
abbrev cmpL:Lab→Lab→Int:=Lib.compareBytes
theorem zcc{a b:UInt8}:a<b↔a.toNat<b.toNat:=UInt8.lt_iff_toNat_lt
theorem zhy:∀a:Lab,cmpL a a=0
 | []=>rfl
 |a::l=>by
  show(if a<a then _ else if a<a then _ else cmpL l l)=0
  have h:¬a<a:=by rw[zcc];omega
  rw[if_neg h,if_neg h];exact zhy l
theorem zeT:∀a b:Lab,cmpL b a= - cmpL a b
 | [],[]=>rfl
 | [],_::_=>rfl
 |_::_,[]=>rfl
 |a::l,b::m=>by
  show(if b<a then _ else if a<b then _ else cmpL m l)= - (if a<b then(-1:Int) else if b<a then 1 else cmpL l m)
  by_cases h1:a<b
  ·have h2:¬b<a:=by rw[zcc]at*;omega
   rw[if_neg h2,if_pos h1,if_pos h1];rfl
  ·by_cases h2:b<a
   ·rw[if_pos h2,if_neg h1,if_pos h2]
   ·rw[if_neg h2,if_neg h1,if_neg h1,if_neg h2];exact zeT l m
theorem zcD:∀{a b:Lab},cmpL a b=0→a=b
 | [],[],_=>rfl
 | [],_::_,h=>by cases h
 |_::_,[],h=>by cases h
 |a::l,b::m,h=>by
  change (if a<b then(-1:Int) else if b<a then 1 else cmpL l m)=0 at h
  by_cases h1:a<b
  ·rw[if_pos h1]at h;cases h
  ·by_cases h2:b<a
   ·rw[if_neg h1,if_pos h2]at h;cases h
   ·rw[if_neg h1,if_neg h2]at h
    have e:a=b:=by
     apply UInt8.toNat_inj.1
     rw[zcc]at*;omega
    rw[e,zcD h]
theorem zf7:∀{a b c:Lab},cmpL a b≤0→cmpL b c≤0→cmpL a c≤0
 | [],_,[],_,_=>Int.le_refl _
 | [],_,_::_,_,_=>by show(-1:Int)≤0;omega
 |a::l,[],_,h,_=>by exact absurd h (by show¬(1:Int)≤0;omega)
 |a::l,b::m,[],_,h=>by exact absurd h (by show¬(1:Int)≤0;omega)
 |a::l,b::m,c::n,h1,h2=>by
  change (if a<b then(-1:Int) else if b<a then 1 else cmpL l m)≤0 at h1
  change (if b<c then(-1:Int) else if c<b then 1 else cmpL m n)≤0 at h2
  show(if a<c then(-1:Int) else if c<a then 1 else cmpL l n)≤0
  by_cases e1:a<b
  ·have e3:¬c<b∨c<b:=by by_cases h:c<b<;>simp[h]
   by_cases e2:c<b
   ·have e4:¬b<c:=by rw[zcc]at*;omega
    rw[if_neg e4,if_pos e2]at h2;omega
   ·have:a<c:=by rw[zcc]at*;omega
    rw[if_pos this];omega
  ·by_cases e2:b<a
   ·rw[if_neg e1,if_pos e2]at h1;omega
   ·have e:a=b:=by
     apply UInt8.toNat_inj.1
     rw[zcc]at*;omega
    subst e
    rw[if_neg e1,if_neg e2]at h1
    by_cases e3:a<c
    ·rw[if_pos e3];omega
    ·by_cases e4:c<a
     ·rw[if_neg e3,if_pos e4]at h2;omega
     ·rw[if_neg e3,if_neg e4]at h2
      rw[if_neg e3,if_neg e4]
      exact zf7 h1 h2
theorem zfv:∀a b:Lab,zc6 a b=decide (cmpL a b<0)
 | [],[]=>rfl
 | [],_::_=>rfl
 |_::_,[]=>rfl
 |a::l,b::m=>by
  show(decide (a<b)|| (a==b && zc6 l m))=decide ((if a<b then(-1:Int) else if b<a then 1 else cmpL l m)<0)
  by_cases h1:a<b
  ·simp[h1]
  ·by_cases h2:b<a
   ·have:¬a=b:=by rintro rfl;exact h1 h2
    simp[h1,h2,this]
   ·have:a=b:=by apply UInt8.toNat_inj.1;rw[zcc]at*;omega
    subst this
    simp[h1,zfv l m]
theorem zf8:∀a b:Lab,cmpL a b= -1∨cmpL a b=0∨cmpL a b=1
 | [],[]=> .inr (.inl rfl)
 | [],_::_=> .inl rfl
 |_::_,[]=> .inr (.inr rfl)
 |a::l,b::m=>by
  show(if a<b then(-1:Int) else if b<a then 1 else cmpL l m)= -1∨(if a<b then(-1:Int) else if b<a then 1 else cmpL l m)=0∨(if a<b then(-1:Int) else if b<a then 1 else cmpL l m)=1
  by_cases h1:a<b
  ·simp[h1]
  ·by_cases h2:b<a
   ·simp[h1,h2]
   ·simp only[h1,h2,if_false];exact zf8 l m
theorem zd3{a b c:Lab}(h1:cmpL a b<0)(h2:cmpL b c≤0):cmpL a c<0:=by
 have h3:=zf7 (Int.le_of_lt h1) h2
 by_cases h:cmpL a c=0
 ·have:=zcD h
  subst this
  have:=zeT a b
  omega
 ·omega
theorem zfE(w:World)(a b:Lab):Fn Tryz.prog 217 #[vs a,vs b] w (fun v w'=>v=vi (cmpL a b)∧Ext w w'):=by
 have hc:=zf8 a b
 have h1:=zfv a b
 have h2:cmpL a b=0↔a=b:=⟨zcD,fun h=>by rw[h];exact zhy _⟩
 refine enter Tryz.func217 Tryz.ntmps217 rfl rfl ?_
 repeat (first|refine c_r ?_|refine rg0 ?_)
 refine wc0 ?_ ?_
 ·intro ht
  rw[h1]at ht
  simp only[decide_eq_true_eq]at ht
  repeat (first|refine c_r ?_|refine rg0 ?_)
  refine rt0 Tryz.ntmps217 ?_
  exact⟨by congr 1;omega,Keep.refl _ _⟩
 ·intro hf
  rw[h1]at hf
  simp only[decide_eq_false_iff_not]at hf
  repeat (first|refine c_r ?_|refine rg0 ?_)
  refine wc0 ?_ ?_
  ·intro ht
   rw[h1]at ht
   simp only[Bool.not_eq_true',Bool.or_eq_false_iff,decide_eq_false_iff_not]at ht
   repeat (first|refine c_r ?_|refine rg0 ?_)
   refine rt0 Tryz.ntmps217 ?_
   refine⟨?_,Keep.refl _ _⟩
   have:¬cmpL a b=0:=fun h=>ht.2 (h2.1 h)
   congr 1;omega
  ·intro hf2
   rw[h1]at hf2
   simp only[Bool.not_eq_false',Bool.or_eq_true,decide_eq_true_eq]at hf2
   repeat (first|refine c_r ?_|refine rg0 ?_)
   refine rt0 Tryz.ntmps217 ?_
   refine⟨?_,Keep.refl _ _⟩
   have:cmpL a b=0:=h2.2 (hf2.resolve_left hf)
   rw[this]
theorem zeI(w:World)(a b:Lab)(ha:a.length≤9000000000000000000)(hb:b.length≤9000000000000000000):Fn Tryz.prog 200 #[vs a,vs b] w (fun v w'=>v=vi (cmpL (zbi a) (zbi b))∧Ext w w'):=by
 refine enter Tryz.func200 Tryz.ntmps200 rfl rfl ?_
 repeat (first|refine c_r ?_|refine rg0 ?_)
 refine rq ?_;intro gd K hgd hK
 try simp only[go_sem]
 refine Fn.mono (zbL _ _ ha) ?_
 rintro _ w1 ⟨rfl,hE1⟩
 try simp only[go_sem]
 refine Fn.mono (zbL _ _ hb) ?_
 rintro _ w2 ⟨rfl,hE2⟩
 try simp only[go_sem]
 refine Fn.mono (zfE _ _ _) ?_
 rintro _ w3 ⟨rfl,hE3⟩
 try simp only[go_sem]
 refine hK _ _ ?_;clear hK hgd;clear K;try clear gd
 repeat refine c_r ?_
 refine rt0 Tryz.ntmps200 ?_
 exact⟨rfl,(hE1.trans hE2).trans hE3⟩
def sgn(n:Int):Int:=if n<0 then -1 else if 0<n then 1 else 0
theorem zdu(w:World)(n:Int):Fn Tryz.prog 201 #[vi n] w (fun v w'=>v=vi (sgn n)∧Ext w w'):=by
 refine enter Tryz.func201 Tryz.ntmps201 rfl rfl ?_
 repeat (first|refine c_r ?_|refine rg0 ?_)
 refine wc0 ?_ ?_
 ·intro ht
  simp only[decide_eq_true_eq]at ht
  repeat (first|refine c_r ?_|refine rg0 ?_)
  refine rt0 Tryz.ntmps201 ?_
  exact⟨by rw[sgn,if_pos ht],Keep.refl _ _⟩
 ·intro hf
  simp only[decide_eq_false_iff_not]at hf
  repeat (first|refine c_r ?_|refine rg0 ?_)
  refine wc0 ?_ ?_
  ·intro ht
   simp only[decide_eq_true_eq]at ht
   repeat (first|refine c_r ?_|refine rg0 ?_)
   refine rt0 Tryz.ntmps201 ?_
   exact⟨by rw[sgn,if_neg hf,if_pos ht],Keep.refl _ _⟩
  ·intro hf2
   simp only[decide_eq_false_iff_not]at hf2
   repeat (first|refine c_r ?_|refine rg0 ?_)
   refine rt0 Tryz.ntmps201 ?_
   exact⟨by rw[sgn,if_neg hf,if_neg hf2],Keep.refl _ _⟩
def cmpR:Nm→Nm→Int
 | [],[]=>0
 | [],_::_=> -1
 |_::_,[]=>1
 |a::l,b::m=>if cmpL a b=0 then cmpR l m else cmpL a b
def cmpN(a b:Nm):Int:=cmpR a.reverse b.reverse
theorem zi0:∀a b:Nm,a=[]∨b=[]→cmpR a b=sgn ((a.length:Int) - b.length)
 | [],[],_=>rfl
 | [],_::_,_=>by simp only[cmpR,sgn,List.length_cons,List.length_nil];rw[if_pos (by omega)]
 |_::_,[],_=>by simp only[cmpR,sgn,List.length_cons,List.length_nil];rw[if_neg (by omega),if_pos (by omega)]
 |_::_,_::_,h=>by simp at h
theorem zhw{a b:Nm}{i:Nat}(ha:i<a.length)(hb:i<b.length):cmpR (a.drop i) (b.drop i)=if cmpL a[i] b[i]=0 then cmpR (a.drop (i+1)) (b.drop (i+1)) else cmpL a[i] b[i]:=by
 rw[List.drop_eq_getElem_cons ha,List.drop_eq_getElem_cons hb];rfl
theorem zfF(w:World)(a b:Value)(xs ys:Nm)(ha:Row w a (xs.map vs))(hb:Row w b (ys.map vs))(hx:LB xs)(hy:LB ys)(hxl:xs.length≤9000000000000000000)(hyl:ys.length≤9000000000000000000):
  Fn Tryz.prog 160 #[a,b] w (fun v w'=>v=vi (cmpN (zaq xs) (zaq ys))∧Ext w w'):=by
 obtain⟨a,ca,rfl,hca,hla⟩:=ha
 obtain⟨b,cb,rfl,hcb,hlb⟩:=hb
 simp only[List.length_map]at*
 refine enter Tryz.func160 Tryz.ntmps160 rfl rfl ?_
 repeat (first|refine c_r ?_|refine rg0 ?_)
 refine zap (fun m σ ds v=>ds=[]∧∃i:Nat,i+m=xs.length∧i≤ys.length∧σ 5=vi (i+1)∧σ 0= .slice a xs.length ca∧σ 1= .slice b ys.length cb∧Ext w v∧cmpN (zaq xs) (zaq ys)=cmpR ((zaq xs).reverse.drop i) ((zaq ys).reverse.drop i)) xs.length ?_ ?_
 ·refine⟨rfl,0,by omega,by omega,?_,?_,?_,Keep.refl _ _,by simp[cmpN]⟩<;>simp only[go_sem]<;>rfl
 ·rintro m σ ds v ⟨rfl,i,him,hiy,h5,h0,h1,hE,hinv⟩
  repeat refine c_r ?_
  refine rq ?_;intro gd K hgd hK
  have hg4:∀n σ b,zas gd n σ (some (4,b))=zal (ev n σ (.tmp 11)) b:=(fun n σ b=>by rw[zad,show gd 4=some 11 from(by rw[hgd];rfl)];rfl)
  have hstep:∀(c:Bool),(c=true↔i<xs.length∧i<ys.length)→c=false→cmpR ((zaq xs).reverse.drop i) ((zaq ys).reverse.drop i)=sgn ((xs.length:Int) - ys.length):=fun c hc hf=>by
   have hno:¬(i<xs.length∧i<ys.length):=fun h=>by rw[hc.2 h]at hf;cases hf
   have e1:((zaq xs).reverse.drop i).length=xs.length - i:=by simp[zbb]
   have e2:((zaq ys).reverse.drop i).length=ys.length - i:=by simp[zbb]
   rw[zi0 _ _ (by
    rcases Nat.lt_or_ge i xs.length with h|h
    ·exact .inr (List.length_eq_zero_iff.1 (by omega))
    ·exact .inl (List.length_eq_zero_iff.1 (by omega))),e1,e2]
   congr 1;omega
  by_cases hlx:((i:Int)+1≤xs.length)
  ·try simp (disch:=first|omega|assumption|rfl) only[go_sem,h5,h0,h1,decide_eq_true hlx,↓hg4]
   refine hK _ _ ?_;clear hK hgd;clear K;try clear gd
   repeat refine c_r ?_
   refine wc0 ?_ ?_
   ·intro hly
    simp only[decide_eq_true_eq]at hly
    have hsa:a.isSome=true:=zai (hla (xs.length - 1 - i) (by omega))
    have hsb:b.isSome=true:=zai (hlb (ys.length - 1 - i) (by omega))
    repeat refine c_r ?_
    refine zaN (fun _=>false) [(0,true),(1,true),(2,true),(3,true),(4,true),(5,true),(6,true),(7,true),(8,true),(9,true),(10,true),(11,true),(12,true),(13,true),(14,false),(15,true)] NoS mixed (by kernel_rfl) ?_;intro gd K x hgd hx hxe hK;clear hxe
    have hla':=fun j h=>zab (hE.trans hx) (hla j h)
    have hlb':=fun j h=>zab (hE.trans hx) (hlb j h)
    have e1:((xs.length:Int) - (i+1)).toNat=xs.length - 1 - i:=by omega
    have e2:((ys.length:Int) - (i+1)).toNat=ys.length - 1 - i:=by omega
    simp (disch:=first|omega|assumption) only[go_sem,h5,h0,h1,e1,e2,hla',hlb',List.getElem_map]
    refine Fn.mono (zeI _ _ _ (LB.get ‹LB xs› _) (LB.get ‹LB ys› _)) ?_
    rintro _ x1 ⟨rfl,hx1⟩
    refine⟨.inr hx1,?_⟩
    simp (disch:=first|omega|assumption|rfl) only[go_sem]
    refine hK _ _ ?_;clear hK hgd;clear K;try clear gd
    have hst:=zhw (a:=(zaq xs).reverse) (b:=(zaq ys).reverse) (i:=i) (by simp[zbb];omega) (by simp[zbb];omega)
    have g1:(zaq xs).reverse[i]'(by simp[zbb];omega)=zbi (xs[xs.length - 1 - i]'(by omega)):=by
     rw[List.getElem_reverse];simp[zaq]
    have g2:(zaq ys).reverse[i]'(by simp[zbb];omega)=zbi (ys[ys.length - 1 - i]'(by omega)):=by
     rw[List.getElem_reverse];simp[zaq]
    rw[g1,g2]at hst
    repeat refine c_r ?_
    refine rg0 ?_
    repeat refine c_r ?_
    refine wc0 ?_ ?_
    ·intro hne
     simp only[Bool.not_eq_true',decide_eq_false_iff_not]at hne
     repeat (first|refine c_r ?_|refine rg0 ?_)
     refine rt0 Tryz.ntmps160 ?_
     refine⟨by rw[hinv,hst,if_neg hne],(hE.trans hx).trans hx1⟩
    ·intro heq
     simp only[Bool.not_eq_false',decide_eq_true_eq]at heq
     repeat refine c_r ?_
     refine rq ?_;intro gd K hgd hK
     try simp (disch:=first|omega|assumption|rfl) only[go_sem,h5]
     refine hK _ _ ?_;clear hK hgd;clear K;try clear gd
     repeat refine c_r ?_
     refine⟨m - 1,by omega,rfl,i+1,by omega,by omega,?_,?_,?_,(hE.trans hx).trans hx1,?_⟩
     ·simp only[go_sem];push_cast;rfl
     ·simp only[go_sem,h0]
     ·simp only[go_sem,h1]
     ·rw[hinv,hst,if_pos heq]
   ·intro hge
    simp only[decide_eq_false_iff_not]at hge
    repeat refine c_r ?_
    refine rq ?_;intro gd K hgd hK
    try simp (disch:=first|omega|assumption|rfl) only[go_sem,h0,h1]
    refine Fn.mono (zdu _ _) ?_
    rintro _ w2 ⟨rfl,hE2⟩
    try simp only[go_sem]
    refine hK _ _ ?_;clear hK hgd;clear K;try clear gd
    repeat refine c_r ?_
    refine rt0 Tryz.ntmps160 ?_
    exact⟨by rw[hinv,hstep false (by simp;omega) rfl],hE.trans hE2⟩
  ·try simp (disch:=first|omega|assumption|rfl) only[go_sem,h5,h0,h1,decide_eq_false hlx,↓hg4]
   refine hK _ _ ?_;clear hK hgd;clear K;try clear gd
   repeat refine c_r ?_
   refine wc0 ?_ ?_
   ·intro h;simp at h
   ·intro _
    repeat refine c_r ?_
    refine rq ?_;intro gd K hgd hK
    try simp (disch:=first|omega|assumption|rfl) only[go_sem,h0,h1]
    refine Fn.mono (zdu _ _) ?_
    rintro _ w2 ⟨rfl,hE2⟩
    try simp only[go_sem]
    refine hK _ _ ?_;clear hK hgd;clear K;try clear gd
    repeat refine c_r ?_
    refine rt0 Tryz.ntmps160 ?_
    exact⟨by rw[hinv,hstep false (by simp;omega) rfl],hE.trans hE2⟩
end Go.Proofs.YtopbbjdembnfdaaGreat
namespace Go.Proofs
open Go.Shelf
def Tryz.lays106_ren:Go.Shelf.Ren:=⟨fun|106=>170|213=>207|265=>235|n=>n,fun|9=>9|3=>3|n=>n,fun|n=>n⟩
theorem Tryz.lays106:Go.Proofs.Lays.n106 Tryz.prog Tryz.lays106_ren:={
 mixed:=by kernel_rfl
 f106:=Tryz.func170.trans (congrArg some (by kernel_rfl))
 f213:=Tryz.func207.trans (congrArg some (by kernel_rfl))
 f265:=Tryz.func235.trans (congrArg some (by kernel_rfl))
 t3:=Tryz.underlying3
 a3:=Tryz.isAgg3
 z3:=Tryz.sizeOf3
 v3:=Tryz.zeroValue3
 t9:=Tryz.underlying9
 a9:=Tryz.isAgg9
 z9:=Tryz.sizeOf9
 v9:=Tryz.zeroValue9}
end Go.Proofs
namespace Go.Proofs.YtopbbjdembnfdaaGreat
open Go
set_option maxRecDepth 10000
theorem Fn.of_calls{P:Program}{f:FuncId}{args:Array Value}{w:World}{R:Value→World→Prop}(h:Calls P f args w (fun e w'=>∃v,e= .returned v∧R v w')):Fn P f args w R:=callsIn_wide.2 h
theorem zfD(w:World)(a b:Lab):Fn Tryz.prog 170 #[vs a,vs b] w (fun v w'=>v=vi (cmpL a b)∧w'=w):=
 Fn.of_calls (Calls.mono (Any.strings_Compare Tryz.lays106 ⟨a.toArray⟩ ⟨b.toArray⟩ w) fun _ _ ⟨he,hw⟩=>⟨_,he,rfl,hw⟩)
theorem zit(w:World)(a b:Lab)(ha:a.length≤9000000000000000000)(hb:b.length≤9000000000000000000):Fn Tryz.prog 119 #[vs a,vs b] w (fun v w'=>v=vi (cmpL (zbi a) (zbi b))∧Ext w w'):=by
 refine enter Tryz.func119 Tryz.ntmps119 rfl rfl ?_
 repeat (first|refine c_r ?_|refine rg0 ?_)
 refine rq ?_;intro gd K hgd hK
 try simp only[go_sem]
 refine Fn.mono (zeW _ _ ha) ?_
 rintro _ w1 ⟨rfl,hE1⟩
 try simp only[go_sem]
 refine Fn.mono (zeW _ _ hb) ?_
 rintro _ w2 ⟨rfl,hE2⟩
 try simp only[go_sem]
 refine Fn.mono (zfD _ _ _) ?_
 rintro _ w3 ⟨rfl,rfl⟩
 try simp only[go_sem]
 refine hK _ _ ?_;clear hK hgd;clear K;try clear gd
 repeat refine c_r ?_
 refine rt0 Tryz.ntmps119 ?_
 exact⟨rfl,hE1.trans hE2⟩
theorem ze6{P:Program}{e:TypeId}{ad:Option Addr}{n c:Nat}{k k':IntKind}(h:n≤c)(hi:(P.info? e).isSome=true):
  slD P (some (.slice e)) (.slice ad n c) Option.none (some (.int k n)) (some (.int k' n))=some (.slice ad n n):=by
 have e1:slB Option.none=some 0:=rfl
 have e2:∀(k:IntKind) (d:Nat),slH (some (.int k (n:Int))) d=some n:=fun k d=>by simp[slH]
 simp only[slD,e1,e2]
 simp[h,hi,zak]
--?? slices.Clip[[]string,string]
def Own(B:Nat)(w:World)(e:TypeId)(v:Value)(l:List Value):Prop:=w.ownsRow B e 1 v l.length l
section
variable {P : Program} {d : Option Tmp} {ty : TypeId} {ps : String} {af : Array Edge} {g : Option (Nat × Bool)} {ρ : Operand → Value} {w : World} {K : Value → World → Prop}
theorem Own.slice{B:Nat}{e:TypeId}{v:Value}{l:List Value}(h:Own B w e v l):∃a c,v= .slice a l.length c:=by
 rcases h.2 with ⟨rfl,h0⟩| ⟨g,cap,cur,rfl,_⟩
 ·exact⟨_,_,by rw[h0]⟩
 ·exact⟨_,_,rfl⟩
theorem Own.row{B:Nat}{e:TypeId}{v:Value}{l:List Value}(h:Own B w e v l):Row w v l:=Row.of_owns h
theorem Own.rowB{B:Nat}{e:TypeId}{v:Value}{l:List Value}(h:Own B w e v l):RowB B w v l:=RowB.of_owns h
theorem Own.nil(B:Nat)(w:World)(e:TypeId):Own B w e (.slice Option.none 0 0) []:=⟨rfl,.inl ⟨rfl,rfl⟩⟩
theorem Own.ge{B:Nat}{e:TypeId}{v:Value}{l:List Value}(h:Own B w e v l){b:Nat}(hb:some b=v.ownBlock):B≤b∧b<w.heap.size:=by
 rcases h.2 with ⟨rfl,_⟩| ⟨g,cap,cur,rfl,hg,hc,_⟩
 ·cases hb
 ·cases hb;exact⟨hg,(Array.getElem?_eq_some_iff.1 hc).1⟩
theorem Own.keep{B:Nat}{e:TypeId}{v:Value}{l:List Value}{x:World}{S:Nat→Prop}(h:Own B w e v l)(hk:Keep S w x)(hS:∀b,some b=v.ownBlock→¬S b):Own B x e v l:=by
 obtain⟨h1,h2⟩:=h
 refine⟨h1,?_⟩
 rcases h2 with h2| ⟨g,cap,cur,hv,hb,hg,rest⟩
 ·exact .inl h2
 ·exact .inr ⟨g,cap,cur,hv,hb,(hk.block _ (Array.getElem?_eq_some_iff.1 hg).1 (hS _ (by rw[hv];rfl))).trans hg,rest⟩
theorem Own.ext{B:Nat}{e:TypeId}{v:Value}{l:List Value}{x:World}(h:Own B w e v l)(hk:Ext w x):Own B x e v l:=h.keep hk (fun _ _ h=>h)
theorem Own.mono{B B':Nat}{e:TypeId}{v:Value}{l:List Value}(h:Own B w e v l)(hB:B'≤B):Own B' w e v l:=by
 obtain⟨h1,h2⟩:=h
 refine⟨h1,?_⟩
 rcases h2 with h2| ⟨g,cap,cur,hv,hb,rest⟩
 ·exact .inl h2
 ·exact .inr ⟨g,cap,cur,hv,by omega,rest⟩
theorem zgc{t e:TypeId}{z v:Value}(hu:tyU P t=some (.slice e))(hz:tyZ P e=some z)(hs:tyS P e=1)(hz1:z.cells=#[z])(hv:v.cells=#[v])
  (h:∀w1,Ext w w1→w1.heap.size=w.heap.size+1→Own w.heap.size w1 e (.slice (some ⟨w.heap.size,0,Option.none⟩) 1 1) [v]→K (.slice (some ⟨w.heap.size,0,Option.none⟩) 1 1) w1):bsL P t 1 [(0,v)] w K .mk:=by
 unfold bsL bsK
 rw[zik hu hz hs hz1 hv]
 exact h _ (Ext.alloc w _) (zam w _) ⟨rfl,.inr ⟨w.heap.size,1,#[v],rfl,Nat.le_refl _,zaw w _,Nat.le_refl _,by decide,rfl,rfl⟩⟩
theorem set2{A:Array Value}(h:A.size=2)(u v:Value):(A.setIfInBounds 0 u).setIfInBounds 1 v=#[u,v]:=by
 obtain⟨l⟩:=A
 match l,h with
 | [x,y],_=>rfl
theorem bs_two{t e:TypeId}{z u v:Value}(hu:tyU P t=some (.slice e))(hz:tyZ P e=some z)(hs:tyS P e=1)(hz1:z.cells=#[z])(hu1:u.cells=#[u])(hv:v.cells=#[v])
  (h:∀w1,Ext w w1→w1.heap.size=w.heap.size+1→Own w.heap.size w1 e (.slice (some ⟨w.heap.size,0,Option.none⟩) 2 2) [u,v]→K (.slice (some ⟨w.heap.size,0,Option.none⟩) 2 2) w1):bsL P t 2 [(0,u),(1,v)] w K .mk:=by
 unfold bsL bsK
 have:bsC P t 2 [(0,u),(1,v)]=some (e,#[u,v]):=by
  simp[bsC,hu,hz,hs,hz1,Instr.fill,hu1,hv]
  exact set2 (by simp) u v
 rw[this]
 exact h _ (Ext.alloc w _) (zam w _) ⟨rfl,.inr ⟨w.heap.size,2,#[u,v],rfl,Nat.le_refl _,zaw w _,Nat.le_refl _,by decide,rfl,rfl⟩⟩
theorem zlq{t e:TypeId}{z:Value}(hu:tyU P t=some (.slice e))(hz:tyZ P e=some z)(hs:tyS P e=1)(hz1:z.cells=#[z])
  (h:∀w1,Ext w w1→w1.heap.size=w.heap.size+1→Own w.heap.size w1 e (.slice (some ⟨w.heap.size,0,Option.none⟩) 0 0) []→K (.slice (some ⟨w.heap.size,0,Option.none⟩) 0 0) w1):bsL P t 0 [] w K .mk:=by
 unfold bsL bsK
 have:bsC P t 0 []=some (e,#[]):=by simp[bsC,hu,hz,hs,hz1,Instr.fill]
 rw[this]
 exact h _ (Ext.alloc w _) (zam w _) ⟨rfl,.inr ⟨w.heap.size,0,#[],rfl,Nat.le_refl _,zaw w _,Nat.le_refl _,by decide,rfl,rfl⟩⟩
theorem zdU{B:Nat}{s x:Operand}{t e:TypeId}{inf:TypeInfo}{z:Value}{bytes:Nat}{v u:Value}{l news:List Value}(hown:Own B w e v l)(hrow:Row w u news)
  (ht:tyU P t=some (.slice e)) (hi:P.info? e=some inf) (hz:inf.zero=some z)
  (hsize:inf.size=1) (hby:inf.bytes=bytes) (hzs:z.cells.size=1) (hv:ρ s=v) (hu:ρ x=u) 
  (h1:∀q∈news,one q=true) (hlen:l.length+news.length≤1000000000000) (hbytes:bytes≤100) (hB:B≤w.heap.size)
  (h:∀v' w',Own B w' e v' (l++news)→(∀w0,Ext w0 w→w0.heap.size≤B→Ext w0 w')→Keep (fun b=>some b=v.ownBlock) w w'→(∀b,some b=v'.ownBlock→some b=v.ownBlock∨w.heap.size≤b)→K v' w'):
  opW P ⟨d,.call ⟨.builtin .append,#[s,x],#[t,t]⟩,ty,ps,af,g⟩ ρ w K:=by
 refine zdT (B:=B) (m:=news.length) (xs:=l) (n:=l.length) ht hi hz hsize hby hzs (by decide) hv hu hown (Src1.of_row hrow) h1 (by simp[maxLen];omega) ?_ hB ?_
 ·have:(l.length+news.length)*bytes≤1000000000000*100:=Nat.mul_le_mul hlen hbytes
  omega
 ·intro v' w' ho hk hw
  refine h v' w' (by simpa [Own] using ho) (fun w0 hE hB0=>?_) hk hw.2
  exact Keep.to_ext hE rfl (fun b hb=>by have:=(Own.ge (l:=l) hown hb).1;omega) hk
theorem v_min(a:Array Operand)(t:Array TypeId):opV P ⟨d,.call ⟨.builtin .min,a,t⟩,ty,ps,af,g⟩ ρ w K=opL P ⟨d,.call ⟨.builtin .min,a,t⟩,ty,ps,af,g⟩ ρ w K .mk:=nr rfl
theorem zkw{x y:Operand}{ts:Array TypeId}{k:IntKind}{a b:Int}(hx:ρ x= .int k a)(hy:ρ y= .int k b)(h:K (.int k (min a b)) w):opW P ⟨d,.call ⟨.builtin .min,#[x,y],ts⟩,ty,ps,af,g⟩ ρ w K:=by
 simp only[opW,execOp,Sem.run_bind,resolve]
 simp only[Sem.run_pure,Result.andThen_ok,invoke,builtin]
 refine zaQ (s:=Builtin.min_ ts ty (Array.map ρ #[x,y])) (v:= .int k (min a b)) (w':=w) ?_ h
 simp[Builtin.min_,hx,hy,Builtin.min2,Sem.run,List.foldlM]
 omega
end
attribute [go_sem] b_quo b_rem
attribute [go_sem ↓] v_min
theorem zfd(l:List Lab):∀q∈l.map vs,one q=true:=fun q hq=>by
 obtain⟨s,_,rfl⟩:=List.mem_map.1 hq
 rfl
theorem RFold_ok(w:World)(a:Value)(xs:Nm)(ha:Row w a (xs.map vs))(hx:LB xs)(hxl:xs.length≤100000000000):
  Fn Tryz.prog 111 #[a] w (fun v w'=>Own w.heap.size w' 9 v ((zaq xs).map vs)∧Ext w w'):=by
 obtain⟨a,ca,rfl,hca,hla⟩:=ha
 simp only[List.length_map]at*
 refine enter Tryz.func111 Tryz.ntmps111 rfl rfl ?_
 repeat (first|refine c_r ?_|refine rg0 ?_)
 refine zap (fun m σ ds A=>ds=[]∧∃i:Nat,∃v,i+m=xs.length∧σ 4=vi i∧σ 0= .slice a xs.length ca∧σ 3=v∧Ext w A∧Own w.heap.size A 9 v ((zaq (xs.take i)).map vs)) xs.length ?_ ?_
 ·refine⟨rfl,0,_,by omega,?_,?_,?_,Keep.refl _ _,Own.nil _ _ _⟩<;>simp only[go_sem]<;>rfl
 ·rintro m σ ds A ⟨rfl,i,v,him,h4,h0,h3,hE,hown⟩
  repeat refine c_r ?_
  refine rg2 h4 h0 ?_
  repeat refine c_r ?_
  refine wc0 ?_ ?_
  ·intro hlt
   simp only[decide_eq_true_eq]at hlt
   have hsa:a.isSome=true:=zai (hla i (by omega))
   have hla':=fun j h=>zab hE (hla j h)
   repeat refine c_r ?_
   refine rq ?_;intro gd K hgd hK
   try simp (disch:=first|omega|assumption|rfl) only[go_sem,h4,h0,h3,hla',List.getElem_map]
   refine Fn.mono (zbL _ _ (LB.get hx _)) ?_
   rintro _ w1 ⟨rfl,hE1⟩
   try simp only[go_sem]
   refine zgc (z:=vs []) rfl rfl rfl rfl rfl ?_
   intro w2 hE2 hs2 ho2
   try simp only[go_sem]
   refine zdU ((hown.ext hE1).ext hE2) ho2.row rfl rfl rfl rfl rfl rfl ((vq1 h3)) (vr0) (zfd [_]) (by simp[zaq];omega) (by decide) (by have:=hE.size;have:=hE1.size;omega) ?_
   intro v' w3 ho3 hE3 _ _
   try simp only[go_sem]
   refine hK _ _ ?_;clear hK hgd;clear K;try clear gd
   repeat refine c_r ?_
   refine rg1 h4 ?_
   repeat refine c_r ?_
   refine⟨m - 1,by omega,rfl,i+1,_,by omega,by simp only[go_sem];push_cast;rfl,(vq1 h0),by simp only[go_sem];rfl,hE3 _ ((hE.trans hE1).trans hE2) (Nat.le_refl _),?_⟩
   rw[zcC (by omega),List.map_append];exact ho3
  ·intro hge
   simp only[decide_eq_false_iff_not]at hge
   repeat refine c_r ?_
   refine rg1 h3 ?_
   repeat refine c_r ?_
   refine rt0 Tryz.ntmps111 ?_
   rw[List.take_of_length_le (by omega)]at hown
   exact⟨hown,hE⟩
def few(n:Nm):Bool:=decide (n.length≤140) && n.all fun l=>decide (l.length≤100)
theorem few_lb{n:Nm}(h:few n=true):LB n:=fun l hl=>by
 simp only[few,Bool.and_eq_true,List.all_eq_true,decide_eq_true_eq]at h
 have:=h.2 l hl;omega
theorem few_len{n:Nm}(h:few n=true):n.length≤140:=by
 simp only[few,Bool.and_eq_true,decide_eq_true_eq]at h
 exact h.1
theorem zhS(w:World)(a:Value)(xs:Nm)(ha:Row w a (xs.map vs)):
  Fn Tryz.prog 56 #[a] w (fun v w'=>v= .bool (few xs)∧Ext w w'):=by
 obtain⟨a,ca,rfl,hca,hla⟩:=ha
 simp only[List.length_map]at*
 refine enter Tryz.func56 Tryz.ntmps56 rfl rfl ?_
 repeat (first|refine c_r ?_|refine rg0 ?_)
 refine wc0 ?_ ?_
 ·intro h
  simp only[decide_eq_true_eq]at h
  repeat (first|refine c_r ?_|refine rg0 ?_)
  refine rt0 Tryz.ntmps56 ?_
  exact⟨by rw[few,decide_eq_false (by omega)];rfl,Keep.refl _ _⟩
 ·intro h
  simp only[decide_eq_false_iff_not]at h
  repeat (first|refine c_r ?_|refine rg0 ?_)
  refine zap (fun m σ ds A=>ds=[]∧∃i:Nat,i+m=xs.length∧σ 3=vi i∧σ 0= .slice a xs.length ca∧Ext w A∧∀l∈xs.take i,l.length≤100) xs.length ?_ ?_
  ·refine⟨rfl,0,by omega,?_,?_,Keep.refl _ _,by simp⟩<;>simp only[go_sem]<;>rfl
  ·rintro m σ ds A ⟨rfl,i,him,h3,h0,hE,hall⟩
   repeat refine c_r ?_
   refine rg2 h3 h0 ?_
   repeat refine c_r ?_
   refine wc0 ?_ ?_
   ·intro hlt
    simp only[decide_eq_true_eq]at hlt
    have hsa:a.isSome=true:=zai (hla i (by omega))
    have hla':=fun j h=>zab hE (hla j h)
    repeat refine c_r ?_
    refine rq ?_;intro gd K hgd hK;simp (disch:=first|omega|assumption|rfl) only[go_sem,h3,h0,hla',List.getElem_map];refine hK _ _ ?_;clear hK hgd;clear K gd
    repeat refine c_r ?_
    refine wc0 ?_ ?_
    ·intro hb
     simp only[decide_eq_true_eq]at hb
     repeat (first|refine c_r ?_|refine rg0 ?_)
     refine rt0 Tryz.ntmps56 ?_
     refine⟨?_,hE⟩
     have:few xs=false:=by
      rw[←Bool.not_eq_true]
      intro hf
      simp only[few,Bool.and_eq_true,List.all_eq_true,decide_eq_true_eq]at hf
      have:=hf.2 (xs[i]'(by omega)) (List.getElem_mem _)
      omega
     rw[this]
    ·intro hb
     simp only[decide_eq_false_iff_not]at hb
     repeat refine c_r ?_
     refine rg1 h3 ?_
     repeat refine c_r ?_
     refine⟨m - 1,by omega,rfl,i+1,by omega,by simp only[go_sem];push_cast;rfl,(vq1 h0),hE,fun l hl=>?_⟩
     rw[zao (by omega)]at hl
     rcases List.mem_append.1 hl with hl|hl
     ·exact hall l hl
     ·rw[List.mem_singleton.1 hl];omega
   ·intro hge
    simp only[decide_eq_false_iff_not]at hge
    repeat (first|refine c_r ?_|refine rg0 ?_)
    refine rt0 Tryz.ntmps56 ?_
    refine⟨?_,hE⟩
    rw[List.take_of_length_le (by omega)]at hall
    have:few xs=true:=by
     simp only[few,Bool.and_eq_true,List.all_eq_true,decide_eq_true_eq]
     exact⟨by omega,hall⟩
    rw[this]
theorem zdh(w:World)(r:Nat)(o:Obj):(w.putObj r o).heap.size=w.heap.size:=by simp
structure KeepR(n0 n1:Nat)(X:Nat→Prop)(A B:World):Prop where
 os:B.os=A.os
 tape:B.tape=A.tape
 output:B.output=A.output
 size:A.heap.size≤B.heap.size
 block:∀b,b<A.heap.size→(b<n0∨n1≤b)→¬X b→B.heap[b]? =A.heap[b]?
 drawn:A.drawn≤B.drawn
def IterU{α:Type}(P:Program)(g:FuncId)(cap:Array Value)(W0:World)(n0:Nat)(C:Nat→Prop)(own:Nat)(Pre:List α→α→Prop)(Full:List α→Prop)(enc:Nat→α→(Nat→Prop)→World→Array Value→Prop):Prop:=
 ∀(l:Nat) (J:List α→(Nat→Prop)→World→Prop) (Jx:List α→World→Prop) (W:World),Ext W0 W→n0≤W.heap.size→
  (∀pre U A B,J pre U A→Keep (span W.heap.size own) A B→J pre U B)→(∀pre A B,Jx pre A→Keep (span W.heap.size own) A B→Jx pre B)→
  (∀pre U x A args,Pre pre x→J pre U A→W.heap.size+own≤A.heap.size→KeepB n0 C W A→enc W.heap.size x U A args→Yld P l args A (fun v B=>
   (v= .bool true∧∃U',J (pre++ [x]) U' B∧(∀b,U' b→U b∨(A.heap.size≤b∧b<B.heap.size))∧KeepR n0 W.heap.size (fun b=>C b∨U b) A B)∨(v= .bool false∧Jx (pre++ [x]) B)))→
  J [] NoS W→Fn P g (#[.func (.yield l) #[] #[]]++cap) W (fun _ B=>(∃xs U,Full xs∧J xs U B)∨∃pre x,Pre pre x∧Jx (pre++ [x]) B)
def roundU{α:Type}(I:List α→(Nat→Prop)→World→Prop)(Ix:Code→List α→World→Prop)(C U:Nat→Prop)(pre':List α)(A:World):Post
 | .normal,_,_,B=>∃U',I pre' U' B∧(∀b,U' b→U b∨(A.heap.size≤b∧b<B.heap.size))∧Keep (fun b=>C b∨U b) A B
 | .ret,_,_,B=>Ix .ret pre' B∧Keep (fun b=>C b∨U b) A B
 | .exit id,_,_,B=>Ix (.exit id) pre' B∧Keep (fun b=>C b∨U b) A B
 | .goto t,_,_,B=>Ix (.goto t) pre' B∧Keep (fun b=>C b∨U b) A B
 |_,_,_,_=>False
theorem zgK{α:Type}{P:Program}{n:Nat}{f:Operand}{ps:Array Tmp}{assign body:Code}{Q:Post}{σ:Sto}{ds:List Deferred}{w:World}
  {g:FuncId} {cap:Array Value} {W0:World} {n0:Nat} {C:Nat→Prop} {own:Nat} {Pre:List α→α→Prop} {Full:List α→Prop} {enc:Nat→α→(Nat→Prop)→World→Array Value→Prop}
  (hf:ev n σ f= .func (.func g) #[] cap) (hc:zaa P g=true) (hit:IterU P g cap W0 n0 C own Pre Full enc) (hW0:Ext W0 w) (hn0:n0≤w.heap.size) (hCn:∀b,C b→b<w.heap.size)
  (henc:∀x U A args,enc (w.heap.size+2) x U A args→args.size=ps.size)
  (I:List α→(Nat→Prop)→World→Prop) (Ix:Code→List α→World→Prop)
  (hI:∀pre U A B,I pre U A→(∀b,U b→w.heap.size+2+own≤b)→Keep (span w.heap.size (2+own)) A B→I pre U B)
  (hIx:∀c pre A B,Ix c pre A→Keep (span w.heap.size (2+own)) A B→Ix c pre B)
  (h0:I [] NoS w)
  (hround:∀(l:Nat) (pre:List α) (U:Nat→Prop) (x:α) (A:World) (args:Array Value),Pre pre x→w.heap.size+2+own≤A.heap.size→I pre U A→(∀b,U b→w.heap.size+2+own≤b∧b<A.heap.size)→enc (w.heap.size+2) x U A args→
   W P (some l) n assign (zdO (fun σ1 ds1 A1=>ds1=[]∧Keep (fun b=>C b∨U b) A A1∧∀A2,Keep (two w.heap.size) A1 A2→W P (some l) n body (roundU I Ix C U (pre++ [x]) A2) σ1 [] A2) (fun _ _ _ _=>False))
    (zdB σ (ps.zip args).toList) [] A)
  (hdone:∀xs U w',Full xs→w.heap.size+2≤w'.heap.size→(∀b,U b→w.heap.size+2+own≤b∧b<w'.heap.size)→I xs U w'→w'.heap[w.heap.size]? =some (.deferred (some []))→Q .normal σ ({target:= .collected w.heap.size,args:=#[]}::ds) w')
  (hstop:∀c pre x w',w.heap.size+2≤w'.heap.size→Pre pre x→Ix c (pre++ [x]) w'→w'.heap[w.heap.size]? =some (.deferred (some []))→
   W P Option.none n c Q σ ({target:= .collected w.heap.size,args:=#[]}::ds) w'):
  W P Option.none n (.rangeFunc f ps assign body) Q σ ds w:=by
 refine wpIn_rangeFunc ?_
 intro fn _
 generalize hrec:zeH fn (act n σ ds).tmps ps assign body w.heap.size=rec
 obtain⟨W1,hW1⟩:∃W1,(w.alloc (.deferred (some []))).alloc (.loop (rec .ready Option.none))=W1:=⟨_,rfl⟩
 have hsz1:W1.heap.size=w.heap.size+2:=by rw[←hW1];simp
 have hL1:W1.heap[w.heap.size+1]? =some (.loop (rec .ready Option.none)):=by
  rw[←hW1];have:=World.alloc_heap_new (w.alloc (.deferred (some []))) (.loop (rec .ready Option.none));rwa [World.size_alloc]at this
 have hK1:W1.heap[w.heap.size]? =some (.deferred (some [])):=by
  rw[←hW1];exact(RowKit.Below.heap_alloc _ _ _ (by simp)).trans (World.alloc_heap_new w _)
 have hE1:Ext w W1:=by rw[←hW1];exact(Ext.alloc w _).trans (Ext.alloc _ _)
 have hI1:I [] NoS W1:=hI _ _ _ _ h0 (fun _ h=>h.elim) (hE1.mono (fun _ _ h=>h.elim))
 have hl2:two w.heap.size (w.heap.size+1):= .inr rfl
 have hl2':span w.heap.size (2+own) (w.heap.size+1):=by unfold span;omega
 refine⟨w.heap.size+1,[{target:= .collected w.heap.size,args:=#[]}],W1,{target:= .fn (.func g) cap,args:=#[.func (.yield (w.heap.size+1)) #[] #[]]},W1,g,
  #[.func (.yield (w.heap.size+1)) #[] #[]]++cap,W1,?_,?_,?_,?_,zdl,?_⟩
 ·rw[←hW1,←hrec];exact run_enterLoop_outer _ _ _ _ _
 ·simp only[resolve,zcq,hf]
  simp[Deferred.ofValue,ev]
 ·intro f' hf';trivial
 ·simp only[invoke];exact zcm hc
 ·-- the iterator's contract
  have hsp:∀{n:Nat} b,b<n→span W1.heap.size own b→span w.heap.size (2+own) b:=fun b _ h=>by unfold span at*;omega
  have hCl:∀b,two w.heap.size b→¬C b:=fun b hb hcb=>by have:=hCn b hcb;rcases hb with rfl|rfl<;>omega
  refine zcP (CallsIn.mono (hit (w.heap.size+1)
   (fun pre U B=>(I pre U B∧∀b,U b→w.heap.size+2+own≤b∧b<B.heap.size)∧w.heap.size+2≤B.heap.size∧B.heap[w.heap.size+1]? =some (.loop (rec .ready Option.none))∧B.heap[w.heap.size]? =some (.deferred (some [])))
   (fun pre B=>∃c,Ix c pre B∧w.heap.size+2≤B.heap.size∧B.heap[w.heap.size+1]? =some (.loop (rec .done (some c)))∧B.heap[w.heap.size]? =some (.deferred (some [])))
   W1 (hW0.trans hE1) (by omega) ?_ ?_ ?_ ⟨⟨hI1,fun _ h=>h.elim⟩,by omega,hL1,hK1⟩) ?_)
  ·rintro pre U A B ⟨⟨hi,hu⟩,hs,hl,hk⟩ hAB
   exact⟨⟨hI _ _ _ _ hi (fun b hb=>(hu b hb).1) (hAB.mono hsp),fun b hb=>⟨(hu b hb).1,Nat.lt_of_lt_of_le (hu b hb).2 hAB.size⟩⟩,Nat.le_trans hs hAB.size,(hAB.block _ (by omega) (by unfold span;omega)).trans hl,(hAB.block _ (by omega) (by unfold span;omega)).trans hk⟩
  ·rintro pre A B ⟨c,hi,hs,hl,hk⟩ hAB
   exact⟨c,hIx _ _ _ _ hi (hAB.mono hsp),Nat.le_trans hs hAB.size,(hAB.block _ (by omega) (by unfold span;omega)).trans hl,(hAB.block _ (by omega) (by unfold span;omega)).trans hk⟩
  ·-- one round
   rintro pre U x A args hxs ⟨⟨hi,hu⟩,hs,hl,hk⟩ hsA _ hx
   have hy:=run_yield (P:=P) (args:=args) hl (by rw[←hrec];exact henc x U A args (by rw[←hsz1];exact hx))
   unfold Yld zgH
   dsimp only
   rw[show (#[]++args:Array Value)=args from by simp]
   rw[hy,←hrec]
   dsimp only[zeH,opR]
   refine zcI (r:=Option.none) (n:=0) (roundIn_of_wpIn (F:=fw Option.none) (n:=0) trivial ?_)
   have hin:(fw Option.none).inRound (w.heap.size+1)=fw (some (w.heap.size+1)):=rfl
   rw[hin]
   have hfold:(ps.zip args).foldl (fun t (x:Tmp×Value)=>t.setIfInBounds x.1 x.2) (act n σ ds).tmps=(act n (zdB σ (ps.zip args).toList) []).tmps:=by
    rw[←Array.foldl_toList]
    exact zcM n ds _ σ
   have hst:({tmps:=(ps.zip args).foldl (fun t (x:Tmp×Value)=>t.setIfInBounds x.1 x.2) (act n σ ds).tmps,defers:=[]}:Act)=act n (zdB σ (ps.zip args).toList) []:=by
    rw[hfold];rfl
   have hD1:=(Array.getElem?_eq_some_iff.1 hl).1
   have hno:∀b,two w.heap.size b→¬(C b∨U b):=fun b hb h=>by
    rcases h with h|h
    ·exact hCl b hb h
    ·have:=(hu b h).1;rcases hb with rfl|rfl<;>omega
   have hr:=hround (w.heap.size+1) pre U x A args hxs (by omega) hi hu (by rw[←hsz1];exact hx)
   unfold W at hr
   rw[←hst]at hr
   refine wpIn_mono hr ?_
   rintro e a A1 ⟨σ1,ds1,rfl,hq⟩
   cases e with
   |normal=>
    obtain⟨rfl,hA1,hbody⟩:=hq
    have hlA1:A1.heap[w.heap.size+1]? =some (.loop (rec .ready Option.none)):=(hA1.block _ (by omega) (hno _ hl2)).trans hl
    have hkA1:A1.heap[w.heap.size]? =some (.deferred (some [])):=(hA1.block _ (by omega) (hno _ (.inl rfl))).trans hk
    have hlt1:w.heap.size+1<A1.heap.size:=(Array.getElem?_eq_some_iff.1 hlA1).1
    refine⟨_,run_beginRound hlA1 (by rw[←hrec];rfl),?_⟩
    have hb:=hbody _ (zaK (w:=A1) (r:=w.heap.size+1) (o:= .loop {rec .ready Option.none with state:= .busy}) hl2)
    refine wpIn_mono hb ?_
    have hlA2:(A1.putObj (w.heap.size+1) (.loop {rec .ready Option.none with state:= .busy})).heap[w.heap.size+1]? =some (.loop {rec .ready Option.none with state:= .busy}):=World.putObj_heap_same hlt1
    have hkA2:(A1.putObj (w.heap.size+1) (.loop {rec .ready Option.none with state:= .busy})).heap[w.heap.size]? =some (.deferred (some [])):=(World.putObj_heap_other (by omega)).trans hkA1
    have fin:∀(jump:Option Code) (B:World),Keep (fun b=>C b∨U b) (A1.putObj (w.heap.size+1) (.loop {rec .ready Option.none with state:= .busy})) B→
      (Instr.endRound (w.heap.size+1) jump).run P B= .ok (.bool jump.isNone) (B.putObj (w.heap.size+1) (.loop (rec (if jump.isNone then .ready else .done) jump)))∧
      w.heap.size+2≤(B.putObj (w.heap.size+1) (.loop (rec (if jump.isNone then .ready else .done) jump))).heap.size∧
      (B.putObj (w.heap.size+1) (.loop (rec (if jump.isNone then .ready else .done) jump))).heap[w.heap.size+1]? =some (.loop (rec (if jump.isNone then .ready else .done) jump))∧
      (B.putObj (w.heap.size+1) (.loop (rec (if jump.isNone then .ready else .done) jump))).heap[w.heap.size]? =some (.deferred (some []))∧
      KeepR n0 W1.heap.size (fun b=>C b∨U b) A (B.putObj (w.heap.size+1) (.loop (rec (if jump.isNone then .ready else .done) jump))):=by
     intro jump B hB
     have hlB:=(hB.block _ (by simp;omega) (hno _ hl2)).trans hlA2
     have hkB:=(hB.block _ (by simp;omega) (hno _ (.inl rfl))).trans hkA2
     have hltB:w.heap.size+1<B.heap.size:=(Array.getElem?_eq_some_iff.1 hlB).1
     have hsB:=hB.size
     simp only[zdh]at hsB
     refine⟨?_,by simp;omega,World.putObj_heap_same hltB,(World.putObj_heap_other (by omega)).trans hkB,?_⟩
     ·have:=run_endRound (P:=P) jump hlB
      rw[←hrec]at this ⊢
      exact this
     ·refine⟨hB.os.trans hA1.os,hB.tape.trans hA1.tape,hB.output.trans hA1.output,?_,fun b hb hor hn=>?_,Nat.le_trans hA1.drawn hB.drawn⟩
      ·have:=hA1.size;simp;omega
      ·have h1:=hA1.size
       have hne:b≠w.heap.size+1:=by omega
       exact(World.putObj_heap_other hne).trans ((hB.block b (by simp;omega) hn).trans ((World.putObj_heap_other hne).trans (hA1.block b hb hn)))
    rintro e a B ⟨σ2,ds2,rfl,hq⟩
    cases e with
    |normal=>
     obtain⟨U',hi',hU',hB⟩:=hq
     obtain⟨h1,h2,h3,h4,h5⟩:=fin Option.none B hB
     have hsA1:=hA1.size
     have hsB:=hB.size
     simp only[zdh]at hsB
     have hU2:∀b,U' b→U b∨(A.heap.size≤b∧b<B.heap.size):=fun b hb=>by
      rcases hU' b hb with h| ⟨h,h'⟩
      ·exact .inl h
      ·simp only[zdh]at h;exact .inr ⟨by omega,h'⟩
     have hu':∀b,U' b→w.heap.size+2+own≤b∧b<B.heap.size:=fun b hb=>by
      rcases hU2 b hb with h| ⟨h,h'⟩
      ·have:=hu b h;omega
      ·omega
     exact⟨_,_,h1,_,rfl,.inl ⟨rfl,U',⟨⟨hI _ _ _ _ hi' (fun b hb=>(hu' b hb).1) (zaK hl2'),fun b hb=>by rw[zdh];exact hu' b hb⟩,h2,h3.trans (by rw[←hrec];rfl),h4⟩,fun b hb=>by rw[zdh];exact hU2 b hb,h5⟩⟩
    |ret=>
     obtain⟨hi',hB⟩:=hq
     obtain⟨h1,h2,h3,h4,_⟩:=fin (some .ret) B hB
     exact⟨_,_,h1,_,rfl,.inr ⟨rfl,_,hIx _ _ _ _ hi' (zaK hl2'),h2,h3.trans (by rw[←hrec];rfl),h4⟩⟩
    |exit id=>
     obtain⟨hi',hB⟩:=hq
     obtain⟨h1,h2,h3,h4,_⟩:=fin (some (.exit id)) B hB
     exact⟨_,_,h1,_,rfl,.inr ⟨rfl,_,hIx _ _ _ _ hi' (zaK hl2'),h2,h3.trans (by rw[←hrec];rfl),h4⟩⟩
    |goto t=>
     obtain⟨hi',hB⟩:=hq
     obtain⟨h1,h2,h3,h4,_⟩:=fin (some (.goto t)) B hB
     exact⟨_,_,h1,_,rfl,.inr ⟨rfl,_,hIx _ _ _ _ hi' (zaK hl2'),h2,h3.trans (by rw[←hrec];rfl),h4⟩⟩
    |panic c=>exact hq.elim
    |outgrown=>exact hq.elim
   |ret=>exact hq.elim
   |exit id=>exact hq.elim
   |goto t=>exact hq.elim
   |panic c=>exact hq.elim
   |outgrown=>exact hq.elim
  ·rintro e B ⟨v,rfl,h⟩
   rcases h with ⟨xs,U,hfull,⟨hi,hu⟩,hs,hl,hk⟩| ⟨pre,x,hxs,c,hi,hs,hl,hk⟩
   ·have hend:=run_endLoop (P:=P) hl (by rw[←hrec];simp[zeH])
    have hp:(rec LoopState.ready Option.none).pending=Option.none:=by rw[←hrec];rfl
    rw[hp]at hend
    refine⟨Option.none,_,hend,?_⟩
    exact⟨σ,_,rfl,hdone xs U _ hfull (by simp;omega) (fun b hb=>by rw[zdh];exact hu b hb) (hI _ _ _ _ hi (fun b hb=>(hu b hb).1) (zaK hl2')) ((World.putObj_heap_other (by omega)).trans hk)⟩
   ·have hend:=run_endLoop (P:=P) hl (by rw[←hrec];simp[zeH])
    have hp:(rec LoopState.done (some c)).pending=some c:=by rw[←hrec];rfl
    rw[hp]at hend
    refine⟨some c,_,hend,?_⟩
    exact hstop c pre x _ (by simp;omega) hxs (hIx _ _ _ _ hi (zaK hl2')) ((World.putObj_heap_other (by omega)).trans hk)
def NamesAt(w:World)(v:Value)(ns:List Nm):Prop:=∃vals,Row w v vals∧vals.length=ns.length∧∀i (h:i<vals.length) (h':i<ns.length),Row w vals[i] (ns[i].map vs)
theorem zi1:∀a b:Nm,cmpR b a= - cmpR a b
 | [],[]=>rfl
 | [],_::_=>rfl
 |_::_,[]=>rfl
 |a::l,b::m=>by
  simp only[cmpR]
  rw[zeT a b]
  by_cases h:cmpL a b=0
  ·simp[h,zi1 l m]
  ·have:¬ -cmpL a b=0:=by omega
   simp[h,this]
theorem zhv:∀{a b:Nm},cmpR a b=0→a=b
 | [],[],_=>rfl
 | [],_::_,h=>by cases h
 |_::_,[],h=>by cases h
 |a::l,b::m,h=>by
  simp only[cmpR]at h
  split at h
  ·rename_i h';rw[zcD h',zhv h]
  ·rename_i h';exact absurd h h'
theorem zf6:∀{a b c:Nm},cmpR a b<0→cmpR b c<0→cmpR a c<0
 | [],[],_,h,_=>by simp[cmpR]at h
 | [],_::_,[],_,h=>by simp[cmpR]at h
 | [],_::_,_::_,_,_=>by simp[cmpR]
 |_::_,[],_,h,_=>by simp[cmpR]at h
 |_::_,_::_,[],_,h=>by simp[cmpR]at h
 |a::l,b::m,c::n,h1,h2=>by
  simp only[cmpR]at*
  by_cases e1:cmpL a b=0
  ·rw[if_pos e1]at h1
   have:=zcD e1
   subst this
   by_cases e2:cmpL a c=0
   ·rw[if_pos e2]at h2 ⊢;exact zf6 h1 h2
   ·rw[if_neg e2]at h2 ⊢;exact h2
  ·rw[if_neg e1]at h1
   have h2':cmpL b c≤0:=by
    by_cases e2:cmpL b c=0
    ·omega
    ·rw[if_neg e2]at h2;omega
   have:=zd3 h1 h2'
   rw[if_neg (by omega)];exact this
theorem zi2(a b:Nm):cmpN b a= - cmpN a b:=zi1 _ _
theorem zhx{a b:Nm}(h:cmpN a b=0):a=b:=by
 have:=zhv h
 simpa using congrArg List.reverse this
theorem zjD{a b c:Nm}(h1:cmpN a b<0)(h2:cmpN b c<0):cmpN a c<0:=zf6 h1 h2
theorem NamesAt.ext{w x:World}{v:Value}{L:List Nm}(h:NamesAt w v L)(hE:Ext w x):NamesAt x v L:=by
 obtain⟨vals,h1,h2,h3⟩:=h
 exact⟨vals,h1.ext hE,h2,fun i a b=>(h3 i a b).ext hE⟩
theorem Or_ok(w:World)(a:Value)(l:List Int)(ha:Row w a (l.map vi))(hl:l.length≤1000000000000):Fn Tryz.prog 110 #[a] w (fun v w'=>v=vi (orI l)∧w'=w):=by
 obtain⟨a,ca,rfl,hca,hla⟩:=ha
 simp only[List.length_map]at*
 refine enter Tryz.func110 Tryz.ntmps110 rfl rfl ?_
 repeat (first|refine c_r ?_|refine rg0 ?_)
 refine zap (fun m σ ds v=>ds=[]∧v=w∧∃i:Nat,i+m=l.length∧σ 8=vi i∧σ 7=vi l.length∧σ 6= .slice a l.length ca∧σ 3=vi 0∧orI l=orI (l.drop i)) l.length ?_ ?_
 ·refine⟨rfl,rfl,0,by omega,?_,?_,?_,?_,by simp⟩
  ·simp only[go_sem];rfl
  ·simp only[go_sem]
  ·simp only[go_sem]
  ·simp only[go_sem]
 ·rintro m σ ds v ⟨rfl,hv,i,him,h8,h7,h6,h3,hinv⟩
  rw[hv]
  repeat refine c_r ?_
  refine rg2 h8 h7 ?_
  repeat refine c_r ?_
  refine wc0 ?_ ?_
  ·intro hlt
   simp only[decide_eq_true_eq]at hlt
   have hsa:a.isSome=true:=zai (hla i (by omega))
   have hd:=orI_drop (l:=l) (i:=i) (by omega)
   repeat refine c_r ?_
   refine rq ?_;intro gd K hgd hK;simp (disch:=first|omega|assumption|rfl) only[go_sem,h8,h6,hla,List.getElem_map];refine hK _ _ ?_;clear hK hgd;clear K gd
   repeat refine c_r ?_
   refine rg1 h3 ?_
   repeat refine c_r ?_
   refine wc0 ?_ ?_
   ·intro h
    simp only[Bool.not_eq_true',decide_eq_false_iff_not]at h
    repeat (first|refine c_r ?_|refine rg0 ?_)
    refine rt0 Tryz.ntmps110 ?_
    exact⟨by rw[hinv,hd,if_neg h],rfl⟩
   ·intro h
    simp only[Bool.not_eq_false',decide_eq_true_eq]at h
    repeat refine c_r ?_
    refine rg1 h8 ?_
    repeat refine c_r ?_
    exact⟨m - 1,by omega,rfl,rfl,i+1,by omega,by simp only[go_sem];push_cast;rfl,(vq1 h7),(vq1 h6),(vq1 h3),by rw[hinv,hd,if_pos h]⟩
  ·intro hge
   simp only[decide_eq_false_iff_not]at hge
   repeat (first|refine c_r ?_| (refine zcj (by rfl) ?_;intro gd K hgd hK;simp (disch:=first|omega|assumption|rfl) only[go_sem,h3];refine hK _ _ ?_;clear hK hgd;clear K gd))
   refine rt0 Tryz.ntmps110 ?_
   refine⟨?_,rfl⟩
   rw[hinv,List.drop_of_length_le (by omega)];rfl
theorem zlk(a b:Nm)(h:a=[]∨b=[]):cmpR a b=cmpI a.length b.length:=by
 rw[zi0 a b h];unfold sgn cmpI
 by_cases h1:(a.length:Int)<b.length
 ·rw[if_pos (by omega),if_pos h1]
 ·by_cases h2:(b.length:Int)<a.length
  ·rw[if_neg (by omega),if_pos (by omega),if_neg h1,if_pos h2]
  ·rw[if_neg (by omega),if_neg (by omega),if_neg h1,if_neg h2]
theorem zfI(w:World)(a b:Value)(xs ys:Nm)(ha:Row w a (xs.map vs))(hb:Row w b (ys.map vs))(hx:LB xs)(hy:LB ys)(hxl:xs.length≤9000000000000000000)(hyl:ys.length≤9000000000000000000):
  Fn Tryz.prog 54 #[a,b] w (fun v w'=>v=vi (cmpN (zaq xs) (zaq ys))∧Ext w w'):=by
 obtain⟨a,ca,rfl,hca,hla⟩:=ha
 obtain⟨b,cb,rfl,hcb,hlb⟩:=hb
 simp only[List.length_map]at*
 obtain⟨k,hk⟩:∃k,min xs.length ys.length=k:=⟨_,rfl⟩
 have hmin:min (xs.length:Int) (ys.length:Int)=(k:Int):=by omega
 refine enter Tryz.func54 Tryz.ntmps54 rfl rfl ?_
 repeat refine c_r ?_
 refine rg0 ?_
 repeat refine c_r ?_
 refine rq ?_;intro gd K hgd hK
 try simp only[go_sem]
 refine zkw (k:= .i64) (a:=xs.length) (b:=ys.length) (vq0) (vq0) ?_
 rw[hmin]
 try simp only[go_sem]
 refine hK _ _ ?_;clear hK hgd;clear K;try clear gd
 repeat refine c_r ?_
 refine zap (fun m σ ds v=>ds=[]∧∃i:Nat,i+m=k∧σ 12=vi i∧σ 11=vi k∧σ 0= .slice a xs.length ca∧σ 1= .slice b ys.length cb∧Ext w v∧cmpN (zaq xs) (zaq ys)=cmpR ((zaq xs).reverse.drop i) ((zaq ys).reverse.drop i)) k ?_ ?_
 ·refine⟨rfl,0,by omega,?_,?_,?_,?_,Keep.refl _ _,by simp[cmpN]⟩
  ·simp only[go_sem];rfl
  ·simp only[go_sem]
  ·simp only[go_sem]
  ·simp only[go_sem]
 ·rintro m σ ds v ⟨rfl,i,him,h12,h11,h0,h1,hE,hinv⟩
  repeat refine c_r ?_
  refine rq ?_;intro gd K hgd hK;simp (disch:=first|omega|assumption|rfl) only[go_sem,h12,h11];refine hK _ _ ?_;clear hK hgd;clear K gd
  repeat refine c_r ?_
  refine wc0 ?_ ?_
  ·intro hlt
   simp only[decide_eq_true_eq]at hlt
   have hsa:a.isSome=true:=zai (hla (xs.length - 1 - i) (by omega))
   have hsb:b.isSome=true:=zai (hlb (ys.length - 1 - i) (by omega))
   have e1:((xs.length:Int) - 1 - i).toNat=xs.length - 1 - i:=by omega
   have e2:((ys.length:Int) - 1 - i).toNat=ys.length - 1 - i:=by omega
   repeat refine c_r ?_
   refine rg1 h12 ?_
   repeat refine c_r ?_
   refine zaN (fun _=>false) [(0,true),(1,true),(2,true),(3,true),(4,true),(5,true),(6,true),(7,true),(8,true),(9,true),(10,true),(11,true),(12,true),(13,true),(14,true),(15,true),(16,false),(17,true)] NoS mixed (by kernel_rfl) ?_;intro gd K x hgd hx hxe hK;clear hxe
   have hla':=fun j h=>zab (hE.trans ‹Keep NoS v x›) (hla j h)
   have hlb':=fun j h=>zab (hE.trans ‹Keep NoS v x›) (hlb j h)
   simp (disch:=first|omega|assumption|rfl) only[go_sem,h12,h0,h1,e1,e2,hla',hlb',List.getElem_map]
   refine Fn.mono (zit _ _ _ (LB.get ‹LB xs› _) (LB.get ‹LB ys› _)) ?_
   rintro _ x1 ⟨rfl,hx1⟩
   refine⟨.inr hx1,?_⟩
   simp (disch:=first|omega|assumption|rfl) only[go_sem]
   refine hK _ _ ?_;clear hK hgd;clear K;try clear gd
   have hst:=zhw (a:=(zaq xs).reverse) (b:=(zaq ys).reverse) (i:=i) (by simp[zbb];omega) (by simp[zbb];omega)
   have g1:(zaq xs).reverse[i]'(by simp[zbb];omega)=zbi (xs[xs.length - 1 - i]'(by omega)):=by
    rw[List.getElem_reverse];simp[zaq]
   have g2:(zaq ys).reverse[i]'(by simp[zbb];omega)=zbi (ys[ys.length - 1 - i]'(by omega)):=by
    rw[List.getElem_reverse];simp[zaq]
   rw[g1,g2]at hst
   repeat refine c_r ?_
   refine rg0 ?_
   repeat refine c_r ?_
   refine wc0 ?_ ?_
   ·intro hne
    simp only[Bool.not_eq_true',decide_eq_false_iff_not]at hne
    repeat (first|refine c_r ?_|refine rg0 ?_)
    refine rt0 Tryz.ntmps54 ?_
    refine⟨by rw[hinv,hst,if_neg hne],(hE.trans ‹Keep NoS v x›).trans hx1⟩
   ·intro heq
    simp only[Bool.not_eq_false',decide_eq_true_eq]at heq
    repeat refine c_r ?_
    refine rg1 h12 ?_
    repeat refine c_r ?_
    exact⟨m - 1,by omega,rfl,i+1,by omega,by simp only[go_sem];push_cast;rfl,by simp only[go_sem,h11],(vq1 h0),(vq1 h1),(hE.trans ‹Keep NoS v x›).trans hx1,by rw[hinv,hst,if_pos heq]⟩
  ·intro hge
   simp only[decide_eq_false_iff_not]at hge
   repeat refine c_r ?_
   refine rq ?_;intro gd K hgd hK
   try simp (disch:=first|omega|assumption|rfl) only[go_sem,h0,h1]
   refine Fn.mono (N_int.Compare_ok _ _ _) ?_
   rintro _ w2 ⟨rfl,rfl⟩
   try simp only[go_sem]
   refine hK _ _ ?_;clear hK hgd;clear K;try clear gd
   repeat refine c_r ?_
   refine rt0 Tryz.ntmps54 ?_
   refine⟨?_,hE⟩
   have l1:((zaq xs).reverse.drop i).length=xs.length - i:=by simp[zbb]
   have l2:((zaq ys).reverse.drop i).length=ys.length - i:=by simp[zbb]
   rw[hinv,zlk _ _ (by
    rcases Nat.lt_or_ge i xs.length with h|h
    ·exact .inr (List.length_eq_zero_iff.1 (by omega))
    ·exact .inl (List.length_eq_zero_iff.1 (by omega))),l1,l2]
   unfold cmpI
   by_cases h1':(xs.length:Int)<ys.length
   ·rw[if_pos h1',if_pos (by omega)]
   ·by_cases h2':(ys.length:Int)<xs.length
    ·rw[if_neg h1',if_pos h2',if_neg (by omega),if_pos (by omega)]
    ·rw[if_neg h1',if_neg h2',if_neg (by omega),if_neg (by omega)]
end Go.Proofs.YtopbbjdembnfdaaGreat
namespace Go.Proofs.YtopbbjdembnfdaaGreat.C_cn
open Go Go.Proofs.YtopbbjdembnfdaaGreat
set_option maxRecDepth 10000
def RowR{α:Type}(Rl:World→α→Value→Prop)(w:World)(v:Value)(xs:List α):Prop:=∃us,Row w v us∧us.length=xs.length∧∀i (h:i<us.length) (h':i<xs.length),Rl w xs[i] us[i]
theorem CompareFunc_ok{α:Type}{Rl:World→α→Value→Prop}(hR:∀w x a v,Ext w x→Rl w a v→Rl x a v){cf:α→α→Int}{U:α→Prop}{g:FuncId}(hcal:zaa Tryz.prog g=true){w:World}
  (hcall:∀A x y u v,Ext w A→U x→U y→Rl A x u→Rl A y v→Fn Tryz.prog g #[u,v] A (fun r B=>r=vi (cf x y)∧Ext A B)) {a b:Value} {xs ys:List α} (ha:RowR Rl w a xs) (hb:RowR Rl w b ys) (hUx:∀x∈xs,U x) (hUy:∀y∈ys,U y) (hxl:xs.length≤1000000000000000) (hyl:ys.length≤1000000000000000):
  Fn Tryz.prog 218 #[a,b,.func (.func g) #[] #[]] w (fun v w'=>v=vi (lexC cf xs ys)∧Ext w w'):=by
 obtain⟨us,⟨a,ca,rfl,hca,hla⟩,hul,hu⟩:=ha
 obtain⟨vs',⟨b,cb,rfl,hcb,hlb⟩,hvl,hv⟩:=hb
 refine enter Tryz.func218 Tryz.ntmps218 rfl rfl ?_
 repeat refine c_r ?_
 refine rg0 ?_
 repeat refine c_r ?_
 refine rg0 ?_
 repeat refine c_r ?_
 refine zap (fun m σ ds v=>ds=[]∧∃i:Nat,i+m=us.length∧i≤vs'.length∧σ 13=vi i∧σ 12=vi us.length∧σ 11= .slice a us.length ca∧σ 0= .slice a us.length ca∧σ 1= .slice b vs'.length cb∧σ 2= .func (.func g) #[] #[]∧Ext w v∧lexC cf xs ys=lexC cf (xs.drop i) (ys.drop i)) us.length ?_ ?_
 ·refine⟨rfl,0,by omega,by omega,?_,?_,?_,?_,?_,?_,Keep.refl _ _,by simp⟩
  ·simp only[go_sem];rfl
  ·simp only[go_sem]
  ·simp only[go_sem]
  ·simp only[go_sem]
  ·simp only[go_sem]
  ·simp only[go_sem]
 ·rintro m σ ds v ⟨rfl,i,him,hiv,h13,h12,h11,h0,h1,h2,hE,hinv⟩
  repeat refine c_r ?_
  refine rg2 h13 h12 ?_
  repeat refine c_r ?_
  refine wc0 ?_ ?_
  ·intro hlt
   simp only[decide_eq_true_eq]at hlt
   have hsa:a.isSome=true:=zai (hla i (by omega))
   have hla':=fun j h=>zab hE (hla j h)
   have hlb':=fun j h=>zab hE (hlb j h)
   repeat refine c_r ?_
   refine rq ?_;intro gd K hgd hK;simp (disch:=first|omega|assumption|rfl) only[go_sem,h13,h11,hla'];refine hK _ _ ?_;clear hK hgd;clear K gd
   repeat refine c_r ?_
   refine rg1 h1 ?_
   repeat refine c_r ?_
   refine wc0 ?_ ?_
   ·intro hge
    simp only[decide_eq_true_eq]at hge
    repeat (first|refine c_r ?_|refine rg0 ?_)
    refine rt0 Tryz.ntmps218 ?_
    refine⟨?_,hE⟩
    have e:ys.drop i=[]:=List.drop_of_length_le (by omega)
    rw[hinv,zcK (.inr e),e]
    have l1:(xs.drop i).length=xs.length - i:=by simp
    unfold cmpI
    rw[l1,List.length_nil,if_neg (by omega),if_pos (by omega)]
   ·intro hlt2
    simp only[decide_eq_false_iff_not]at hlt2
    have hsb:b.isSome=true:=zai (hlb i (by omega))
    have hst:=zcA (cf:=cf) (a:=xs) (b:=ys) (i:=i) (by omega) (by omega)
    repeat refine c_r ?_
    refine rg2 h1 hlb' ?_
    repeat refine c_r ?_
    refine rq ?_;intro gd K hgd hK
    try simp (disch:=first|omega|assumption|rfl) only[go_sem,h2]
    refine zb5 hcal (Fn.mono (hcall v xs[i] ys[i] _ _ hE (hUx _ (List.getElem_mem _)) (hUy _ (List.getElem_mem _)) (hR _ _ _ _ hE (hu i (by omega) (by omega))) (hR _ _ _ _ hE (hv i (by omega) (by omega)))) ?_)
    rintro _ w1 ⟨rfl,hE1⟩
    try simp only[go_sem]
    refine hK _ _ ?_;clear hK hgd;clear K;try clear gd
    repeat refine c_r ?_
    refine rg0 ?_
    repeat refine c_r ?_
    refine wc0 ?_ ?_
    ·intro hne
     simp only[Bool.not_eq_true',decide_eq_false_iff_not]at hne
     repeat (first|refine c_r ?_|refine rg0 ?_)
     refine rt0 Tryz.ntmps218 ?_
     exact⟨by rw[hinv,hst,if_neg hne],hE.trans hE1⟩
    ·intro heq
     simp only[Bool.not_eq_false',decide_eq_true_eq]at heq
     repeat refine c_r ?_
     refine rg1 h13 ?_
     repeat refine c_r ?_
     exact⟨m - 1,by omega,rfl,i+1,by omega,by omega,by simp only[go_sem];push_cast;rfl,(vq1 h12),by simp only[go_sem,h11],(vq1 h0),(vq1 h1),(vq1 h2),hE.trans hE1,by rw[hinv,hst,if_pos heq]⟩
  ·intro hge
   simp only[decide_eq_false_iff_not]at hge
   have e:xs.drop i=[]:=List.drop_of_length_le (by omega)
   have l2:(ys.drop i).length=ys.length - i:=by simp
   have hval:lexC cf xs ys=cmpI 0 (ys.length - i:Nat):=by rw[hinv,zcK (.inl e),e,l2];rfl
   repeat refine c_r ?_
   refine rg2 h0 h1 ?_
   repeat refine c_r ?_
   refine wc0 ?_ ?_
   ·intro h
    simp only[decide_eq_true_eq]at h
    repeat (first|refine c_r ?_|refine rg0 ?_)
    refine rt0 Tryz.ntmps218 ?_
    exact⟨by rw[hval,cmpI,if_pos (by omega)],hE⟩
   ·intro h
    simp only[decide_eq_false_iff_not]at h
    repeat (first|refine c_r ?_|refine rg0 ?_)
    refine rt0 Tryz.ntmps218 ?_
    exact⟨by rw[hval,cmpI,if_neg (by omega),if_neg (by omega)],hE⟩
end Go.Proofs.YtopbbjdembnfdaaGreat.C_cn
namespace Go.Proofs.YtopbbjdembnfdaaGreat.C_cu
open Go Go.Proofs.YtopbbjdembnfdaaGreat
set_option maxRecDepth 10000
def RowR{α:Type}(Rl:World→α→Value→Prop)(w:World)(v:Value)(xs:List α):Prop:=∃us,Row w v us∧us.length=xs.length∧∀i (h:i<us.length) (h':i<xs.length),Rl w xs[i] us[i]
theorem CompareFunc_ok{α:Type}{Rl:World→α→Value→Prop}(hR:∀w x a v,Ext w x→Rl w a v→Rl x a v){cf:α→α→Int}{U:α→Prop}{g:FuncId}(hcal:zaa Tryz.prog g=true){w:World}
  (hcall:∀A x y u v,Ext w A→U x→U y→Rl A x u→Rl A y v→Fn Tryz.prog g #[u,v] A (fun r B=>r=vi (cf x y)∧Ext A B)) {a b:Value} {xs ys:List α} (ha:RowR Rl w a xs) (hb:RowR Rl w b ys) (hUx:∀x∈xs,U x) (hUy:∀y∈ys,U y) (hxl:xs.length≤1000000000000000) (hyl:ys.length≤1000000000000000):
  Fn Tryz.prog 219 #[a,b,.func (.func g) #[] #[]] w (fun v w'=>v=vi (lexC cf xs ys)∧Ext w w'):=by
 obtain⟨us,⟨a,ca,rfl,hca,hla⟩,hul,hu⟩:=ha
 obtain⟨vs',⟨b,cb,rfl,hcb,hlb⟩,hvl,hv⟩:=hb
 refine enter Tryz.func219 Tryz.ntmps219 rfl rfl ?_
 repeat refine c_r ?_
 refine rg0 ?_
 repeat refine c_r ?_
 refine rg0 ?_
 repeat refine c_r ?_
 refine zap (fun m σ ds v=>ds=[]∧∃i:Nat,i+m=us.length∧i≤vs'.length∧σ 13=vi i∧σ 12=vi us.length∧σ 11= .slice a us.length ca∧σ 0= .slice a us.length ca∧σ 1= .slice b vs'.length cb∧σ 2= .func (.func g) #[] #[]∧Ext w v∧lexC cf xs ys=lexC cf (xs.drop i) (ys.drop i)) us.length ?_ ?_
 ·refine⟨rfl,0,by omega,by omega,?_,?_,?_,?_,?_,?_,Keep.refl _ _,by simp⟩
  ·simp only[go_sem];rfl
  ·simp only[go_sem]
  ·simp only[go_sem]
  ·simp only[go_sem]
  ·simp only[go_sem]
  ·simp only[go_sem]
 ·rintro m σ ds v ⟨rfl,i,him,hiv,h13,h12,h11,h0,h1,h2,hE,hinv⟩
  repeat refine c_r ?_
  refine rg2 h13 h12 ?_
  repeat refine c_r ?_
  refine wc0 ?_ ?_
  ·intro hlt
   simp only[decide_eq_true_eq]at hlt
   have hsa:a.isSome=true:=zai (hla i (by omega))
   have hla':=fun j h=>zab hE (hla j h)
   have hlb':=fun j h=>zab hE (hlb j h)
   repeat refine c_r ?_
   refine rq ?_;intro gd K hgd hK;simp (disch:=first|omega|assumption|rfl) only[go_sem,h13,h11,hla'];refine hK _ _ ?_;clear hK hgd;clear K gd
   repeat refine c_r ?_
   refine rg1 h1 ?_
   repeat refine c_r ?_
   refine wc0 ?_ ?_
   ·intro hge
    simp only[decide_eq_true_eq]at hge
    repeat (first|refine c_r ?_|refine rg0 ?_)
    refine rt0 Tryz.ntmps219 ?_
    refine⟨?_,hE⟩
    have e:ys.drop i=[]:=List.drop_of_length_le (by omega)
    rw[hinv,zcK (.inr e),e]
    have l1:(xs.drop i).length=xs.length - i:=by simp
    unfold cmpI
    rw[l1,List.length_nil,if_neg (by omega),if_pos (by omega)]
   ·intro hlt2
    simp only[decide_eq_false_iff_not]at hlt2
    have hsb:b.isSome=true:=zai (hlb i (by omega))
    have hst:=zcA (cf:=cf) (a:=xs) (b:=ys) (i:=i) (by omega) (by omega)
    repeat refine c_r ?_
    refine rg2 h1 hlb' ?_
    repeat refine c_r ?_
    refine rq ?_;intro gd K hgd hK
    try simp (disch:=first|omega|assumption|rfl) only[go_sem,h2]
    refine zb5 hcal (Fn.mono (hcall v xs[i] ys[i] _ _ hE (hUx _ (List.getElem_mem _)) (hUy _ (List.getElem_mem _)) (hR _ _ _ _ hE (hu i (by omega) (by omega))) (hR _ _ _ _ hE (hv i (by omega) (by omega)))) ?_)
    rintro _ w1 ⟨rfl,hE1⟩
    try simp only[go_sem]
    refine hK _ _ ?_;clear hK hgd;clear K;try clear gd
    repeat refine c_r ?_
    refine rg0 ?_
    repeat refine c_r ?_
    refine wc0 ?_ ?_
    ·intro hne
     simp only[Bool.not_eq_true',decide_eq_false_iff_not]at hne
     repeat (first|refine c_r ?_|refine rg0 ?_)
     refine rt0 Tryz.ntmps219 ?_
     exact⟨by rw[hinv,hst,if_neg hne],hE.trans hE1⟩
    ·intro heq
     simp only[Bool.not_eq_false',decide_eq_true_eq]at heq
     repeat refine c_r ?_
     refine rg1 h13 ?_
     repeat refine c_r ?_
     exact⟨m - 1,by omega,rfl,i+1,by omega,by omega,by simp only[go_sem];push_cast;rfl,(vq1 h12),by simp only[go_sem,h11],(vq1 h0),(vq1 h1),(vq1 h2),hE.trans hE1,by rw[hinv,hst,if_pos heq]⟩
  ·intro hge
   simp only[decide_eq_false_iff_not]at hge
   have e:xs.drop i=[]:=List.drop_of_length_le (by omega)
   have l2:(ys.drop i).length=ys.length - i:=by simp
   have hval:lexC cf xs ys=cmpI 0 (ys.length - i:Nat):=by rw[hinv,zcK (.inl e),e,l2];rfl
   repeat refine c_r ?_
   refine rg2 h0 h1 ?_
   repeat refine c_r ?_
   refine wc0 ?_ ?_
   ·intro h
    simp only[decide_eq_true_eq]at h
    repeat (first|refine c_r ?_|refine rg0 ?_)
    refine rt0 Tryz.ntmps219 ?_
    exact⟨by rw[hval,cmpI,if_pos (by omega)],hE⟩
   ·intro h
    simp only[decide_eq_false_iff_not]at h
    repeat (first|refine c_r ?_|refine rg0 ?_)
    refine rt0 Tryz.ntmps219 ?_
    exact⟨by rw[hval,cmpI,if_neg (by omega),if_neg (by omega)],hE⟩
end Go.Proofs.YtopbbjdembnfdaaGreat.C_cu
