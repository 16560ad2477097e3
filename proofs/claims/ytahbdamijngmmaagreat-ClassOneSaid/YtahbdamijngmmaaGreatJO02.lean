/-
  Texts of a proof, joined: K10, K11, C1, CP, Q0int, K12, C2, C3, T0, S1, R1, L0, M3a, K14, R2.
  Conditions: none.
-/
import Derived.MapFrom
import Derived.Test.YtahbdamijngmmaaGreatJO01
import Derived.Maps.RangeRun
import Derived.Maps.Range
import Derived.Lib.Bytealg
import Derived.Test.YtahbdamijngmmaaGreatProg
import Derived.Shelf.Small.Strs
import Derived.CallsIn
set_option linter.unusedVariables false
set_option linter.unusedSimpArgs false
set_option linter.defProp false
set_option linter.unnecessarySimpa false
set_option maxHeartbeats 8000000
namespace Go.Proofs.YtahbdamijngmmaaGreat
open Go
abbrev Lab:=List UInt8
def MapAt(w:World)(r:Nat)(l:List (Lab×Value)):Prop:=
 ∃es clk,w.heap[r]? =some (.map es clk)∧es.toList.map (fun e=>(e.key,e.val))=l.map (fun p=>(vs p.1,p.2))∧(es.toList.map (·.born)).Pairwise (·≠·)∧(∀e∈es.toList,e.born<clk)
theorem MapAt.block{w x:World}{r:Nat}{l:List (Lab×Value)}(h:MapAt w r l)(hb:x.heap[r]? =w.heap[r]?):MapAt x r l:=by
 obtain⟨es,clk,h1,h2⟩:=h
 exact⟨es,clk,hb.trans h1,h2⟩
theorem zcm(a b:Lab):Instr.sameNow .string (vs a) (vs b)=some (a==b):=by
 simp only[vs,Instr.sameNow,Option.some.injEq]
 rw[Bool.eq_iff_iff,MapKept.bytes_beq,beq_iff_eq]
 constructor
 ·intro h
  have:=congrArg (fun x:ByteArray=>x.data.toList) h
  simpa using this
 ·rintro rfl;rfl
theorem ze2{key:Lab}:∀(es:List MapEntry) (l:List (Lab×Value)) (i:Nat),es.map (fun e=>(e.key,e.val))=l.map (fun p=>(vs p.1,p.2))→l.lookup key=Option.none→Instr.findNow .string (vs key) es i=some Option.none
 | [],[],_,_,_=>rfl
 | [],_::_,_,h,_=>by simp at h
 |_::_,[],_,h,_=>by simp at h
 |e::es,(k,v)::l,i,h,hl=>by
  simp only[List.map_cons,List.cons.injEq,Prod.mk.injEq]at h
  obtain⟨⟨h1,h2⟩,h3⟩:=h
  simp only[List.lookup_cons]at hl
  split at hl
  ·cases hl
  ·rename_i hne
   simp only[Instr.findNow,h1,zcm,hne]
   exact ze2 es l (i+1) h3 hl
theorem zgz{key:Lab}{v:Value}:∀(es:List MapEntry) (l:List (Lab×Value)) (i:Nat),es.map (fun e=>(e.key,e.val))=l.map (fun p=>(vs p.1,p.2))→l.lookup key=some v→∃j,Instr.findNow .string (vs key) es i=some (some (j,v))
 | [],[],_,_,h=>by simp at h
 | [],_::_,_,h,_=>by simp at h
 |_::_,[],_,h,_=>by simp at h
 |e::es,(k,u)::l,i,h,hl=>by
  simp only[List.map_cons,List.cons.injEq,Prod.mk.injEq]at h
  obtain⟨⟨h1,h2⟩,h3⟩:=h
  simp only[List.lookup_cons]at hl
  split at hl
  ·rename_i heq
   cases hl
   exact⟨i,by simp only[Instr.findNow,h1,zcm,heq,h2]⟩
  ·rename_i hne
   simp only[Instr.findNow,h1,zcm,hne]
   exact zgz es l (i+1) h3 hl
section
variable {P : Program} {d : Option Tmp} {ty : TypeId} {ps : String} {af : Array Edge} {g : Option (Nat × Bool)} {ρ : Operand → Value} {w : World} {K : Value → World → Prop}
theorem MapAt.lk{r:Nat}{l:List (Lab×Value)}(h:MapAt w r l){t kt et:TypeId}{z:Value}(ht:tyU P t=some (.map kt et))(hk:tyU P kt=some .string)(hz:tyZ P et=some z)(key:Lab):
  lkV P w t (.map (some r)) (vs key) false=some ((l.lookup key).getD z):=by
 obtain⟨es,clk,h1,h2,_⟩:=h
 unfold lkV
 rw[ht];simp only[hk,hz,h1]
 cases hl:l.lookup key with
 |none=>rw[ze2 _ _ 0 h2 hl];rfl
 |some v=>obtain⟨j,hj⟩:=zgz _ _ 0 h2 hl;rw[hj];rfl
theorem zec{t kt et:TypeId}{m k x:Operand}{r:Nat}{l:List (Lab×Value)}{key:Lab}{v:Value}(ht:tyU P t=some (.map kt et))(hk:tyU P kt=some .string)
  (hm:ρ m= .map (some r)) (hkey:ρ k=vs key) (hx:ρ x=v) (hat:MapAt w r l) (hno:l.lookup key=Option.none)
  (h:∀w',MapAt w' r (l++ [(key,v)])→Keep (fun i=>i=r) w w'→w'.heap.size=w.heap.size→K undef w'):
  opW P ⟨d,.mapUpdate t m k x,ty,ps,af,g⟩ ρ w K:=by
 obtain⟨es,clk,h1,h2,h3,h4⟩:=hat
 have hf:=ze2 es.toList l 0 h2 hno
 have hrun:(Instr.mapUpdate t (.map (some r)) (vs key) v).run P w= .ok () (w.putObj r (.map (es.push {key:=vs key,val:=v,born:=clk}) (clk+1))):=by
  have hck:∀e,(Instr.checkKey e 10000 kt (vs key)).run P w= .ok () w:=fun e=>zb7 hk 9999
  simp[Instr.mapUpdate,run_underlying (show P.underlying t=_ from ht),MapKept.run_getObj_map h1,hck,Instr.findKey,run_underlying (show P.underlying kt=_ from hk),hf,MapKept.run_setObj_map _ h1,Result.andThen]
  rfl
 have hlt:r<w.heap.size:=(Array.getElem?_eq_some_iff.1 h1).1
 have hat':MapAt (w.putObj r (.map (es.push {key:=vs key,val:=v,born:=clk}) (clk+1))) r (l++ [(key,v)]):=by
  refine⟨_,_,World.putObj_heap_same hlt,by simp[h2],?_,?_⟩
  ·simp only[Array.toList_push,List.map_append,List.map_cons,List.map_nil,List.pairwise_append]
   refine⟨h3,by simp,fun a ha b hb=>?_⟩
   simp at hb;subst hb
   obtain⟨e,he,rfl⟩:=List.mem_map.1 ha
   exact Nat.ne_of_lt (h4 e he)
  ·intro e he
   simp only[Array.toList_push,List.mem_append,List.mem_singleton]at he
   rcases he with he|rfl
   ·exact Nat.lt_succ_of_lt (h4 e he)
   ·exact Nat.lt_succ_self _
 have hfin:=h _ hat' (zaD rfl) (by simp)
 show opR P K ((do Instr.mapUpdate t (ρ m) (ρ k) (ρ x);pure .skip:Sem Next).run P w)
 rw[hm,hkey,hx]
 simp only[Sem.run_bind,hrun,Result.andThen_ok,Sem.run_pure]
 exact hfin
theorem zjJ(w:World):MapAt (w.alloc (.map #[] 0)) w.heap.size []:=⟨_,_,zam w _,rfl,by simp,by simp⟩
end
inductive Pln
 |fin
 |run (pl:List (Nat×Bool)) (p:Pln)
 |fork (m:Nat) (is:List Nat) (p:Nat→Pln)
def Pln.len:Pln→Nat
 | .fin=>0
 | .run pl p=>pl.length+p.len
 | .fork m _ _=>m+1
def zd0(ops:Array Oper)(isB:Nat→Bool):List (Nat×Bool)→Array Bool→Option (Array Bool)
 | [],l=>some l
 | (i,true)::pl,l=>if (rdy ops l).contains i && Region.free .any ops l i && !isB i then zd0 ops isB pl (l.setIfInBounds i true) else Option.none
 | (i,false)::pl,l=>if rdy ops l==[i] then zd0 ops isB pl (l.setIfInBounds i true) else Option.none
def zhb(ops:Array Oper)(isB:Nat→Bool):Pln→Array Bool→Bool
 | .fin,l=>(rdy ops l).isEmpty
 | .run pl p,l=>match zd0 ops isB pl l with|some l'=>zhb ops isB p l'|Option.none=>false
 | .fork m is p,l=>(rdy ops l==is) && !is.isEmpty && is.all fun i=>(p i).len==m && zhb ops isB (p i) (l.setIfInBounds i true)
section
variable {P : Program} {ops : Array Oper} {n : Nat} {isB : Nat → Bool} {K : Sto → World → Prop} {S : Nat → Prop}
theorem zf2(hsel:Region.noSelect ops=true)(hB:zdq ops isB=true){f:Nat}{l':Array Bool}:∀(pl:List (Nat×Bool)) (l:Array Bool) (σ:Sto) (w:World),zb6 ops l→
  zd0 ops isB pl l=some l'→ze4 P ops n S isB pl σ w (fun σ' w'=>zb6 ops l'→anyK P ops n isB K (Keep S w') f l' σ' w')→anyK P ops n isB K (Keep S w) (pl.length+f) l σ w
 | [],l,σ,w,hcl,hp,h=>by
  cases hp
  rw[List.length_nil,Nat.zero_add]
  exact h hcl
 | (i,true)::pl,l,σ,w,hcl,hp,h=>by
  unfold zd0 at hp
  split at hp
  ·rename_i hc
   simp only[Bool.and_eq_true,Bool.not_eq_true',List.contains_iff_mem]at hc
   obtain⟨⟨hr,hfree⟩,hni⟩:=hc
   obtain⟨v,hq,h⟩:=h
   obtain⟨_,oi,hoi,_⟩:=mem_ready.1 hr
   have hd:zhl ops i=oi.dst:=by simp[zhl,hoi]
   rw[hd]at h
   have:=zfE hoi hsel hB hni (pl.length+f) (Keep S w) l σ w hcl (Region.free_spec hoi hfree) hr hq (Keep.refl S w)
    (zf2 hsel hB pl _ _ w (zbu hcl hr) hp h)
   rwa [show ((i,true)::pl).length+f=(pl.length+f)+1 from by simp;omega]
  ·cases hp
 | (i,false)::pl,l,σ,w,hcl,hp,h=>by
  unfold zd0 at hp
  split at hp
  ·rename_i hr
   rw[beq_iff_eq]at hr
   have hmem:i∈rdy ops l:=by rw[hr];exact List.mem_singleton.2 rfl
   rw[show ((i,false)::pl).length+f=(pl.length+f)+1 from by simp;omega]
   refine⟨fun h0=>(by rw[hr]at h0;cases h0),fun j hj=>?_⟩
   rw[hr]at hj
   obtain rfl:=List.mem_singleton.1 hj
   refine zbS (fun σ' w' ⟨hor,hk⟩=>?_) h
   have hrec:=zf2 hsel hB pl _ σ' w' (zbu hcl hmem) hp hk
   cases hb:isB j with
   |true=>exact .inl ⟨rfl,zcu _ _ _ _ _ hrec⟩
   |false=>
    rw[hb]at hor
    have hkeep:=hor.resolve_left (by simp)
    exact .inr ⟨rfl,Keep S w',fun x hx=>hkeep.trans hx,Keep.refl S w',hrec⟩
  ·cases hp
def zh3(P:Program)(ops:Array Oper)(n:Nat)(S:Nat→Prop)(isB:Nat→Bool)(K:Sto→World→Prop):Pln→Sto→World→Prop
 | .fin,σ,w=>K σ w
 | .run pl p,σ,w=>ze4 P ops n S isB pl σ w (fun σ' w'=>zh3 P ops n S isB K p σ' w')
 | .fork _ is p,σ,w=>∀i∈is,opAt P ops n i σ w (fun σ' w'=>(isB i=true∨Keep S w w')∧zh3 P ops n S isB K (p i) σ' w')
theorem zdd{K K':Sto→World→Prop}(hk:∀σ w,K σ w→K' σ w):∀(pl:List (Nat×Bool)) (σ:Sto) (w:World),ze4 P ops n S isB pl σ w K→ze4 P ops n S isB pl σ w K'
 | [],σ,w,h=>hk σ w h
 | (i,true)::pl,σ,w,⟨v,h1,h2⟩=>⟨v,h1,zdd hk pl _ _ h2⟩
 | (i,false)::pl,σ,w,h=>zbS (fun σ' w' ⟨h1,h2⟩=>⟨h1,zdd hk pl _ _ h2⟩) h
theorem zc0(hsel:Region.noSelect ops=true)(hB:zdq ops isB=true):∀(p:Pln) (l:Array Bool) (σ:Sto) (w:World),zb6 ops l→
  zhb ops isB p l=true→zh3 P ops n S isB K p σ w→anyK P ops n isB K (Keep S w) p.len l σ w
 | .fin,l,σ,w,_,hp,h=>⟨by simpa [zhb] using hp,h⟩
 | .run pl p,l,σ,w,hcl,hp,h=>by
  unfold zhb at hp
  split at hp
  ·rename_i l' hl'
   exact zf2 hsel hB pl l σ w hcl hl' (zdd (fun σ' w' hk hcl'=>zc0 hsel hB p l' σ' w' hcl' hp hk) pl σ w h)
  ·cases hp
 | .fork m is p,l,σ,w,hcl,hp,h=>by
  simp only[zhb,Bool.and_eq_true,beq_iff_eq,List.all_eq_true,Bool.not_eq_true']at hp
  obtain⟨⟨hr,hne⟩,hall⟩:=hp
  refine⟨fun h0=>(by rw[hr]at h0;subst h0;cases hne),fun j hj=>?_⟩
  have hj':=hj
  rw[hr]at hj'
  obtain⟨hlen,hpj⟩:=hall j hj'
  refine zbS (fun σ' w' ⟨hor,hk⟩=>?_) (h j hj')
  have hrec:=zc0 hsel hB (p j) _ σ' w' (zbu hcl hj) hpj hk
  rw[hlen]at hrec
  cases hb:isB j with
  |true=>exact .inl ⟨rfl,zcu _ _ _ _ _ hrec⟩
  |false=>
   rw[hb]at hor
   have hkeep:=hor.resolve_left (by simp)
   exact .inr ⟨rfl,Keep S w',fun x hx=>hkeep.trans hx,Keep.refl S w',hrec⟩
end
def treeOk(ops:Array Oper)(isB:Nat→Bool)(p:Pln):Bool:=
 Region.noSelect ops && zaY ops && zdq ops isB && decide (p.len=ops.size) && zhb ops isB p (Array.replicate ops.size false)
def allL{α:Type}:List α→(α→Prop)→Prop
 | [],_=>True
 | [a],f=>f a
 |a::l,f=>f a∧allL l f
theorem zic{α:Type}{f:α→Prop}:∀{l:List α},allL l f→∀a∈l,f a
 | [],_,a,h=>by cases h
 | [b],h,a,ha=>by rw[List.mem_singleton.1 ha];exact h
 |b::c::l,h,a,ha=>by
  rcases List.mem_cons.1 ha with rfl|ha
  ·exact h.1
  ·exact zic h.2 a ha
def zfV(P:Program)(gd:Nat→Option Tmp)(ops:List Oper)(n:Nat)(S:Nat→Prop)(isB:Nat→Bool):Pln→Sto→World→(Sto→World→Prop)→Prop
 | .fin,σ,w,K=>K σ w
 | .run pl p,σ,w,K=>zbL P gd ops n S isB pl σ w (fun σ' w'=>zfV P gd ops n S isB p σ' w' K)
 | .fork _ is p,σ,w,K=>allL is fun i=>zbL P gd ops n S isB [(i,false)] σ w (fun σ' w'=>zfV P gd ops n S isB (p i) σ' w' K)
section
variable {P : Program} {n : Nat} {S : Nat → Prop} {isB : Nat → Bool} {K : Sto → World → Prop}
theorem zdx{ops:Array Oper}:∀(p:Pln) (σ:Sto) (w:World),zfV P (dstL ops.toList) ops.toList n S isB p σ w K→zh3 P ops n S isB K p σ w
 | .fin,_,_,h=>h
 | .run pl p,σ,w,h=>zdd (fun σ' w' hk=>zdx p σ' w' hk) pl σ w (zbr pl σ w h)
 | .fork m is p,σ,w,h=>fun i hi=>by
  have:=zbr _ σ w (zic h i hi)
  exact zbS (fun σ' w' ⟨h1,h2⟩=>⟨h1,zdx (p i) σ' w' h2⟩) this
variable {r : Option Nat} {Q : Post} {σ : Sto} {ds : List Deferred} {w : World}
theorem zgM{id:Nat}{ops:Array Oper}(isB:Nat→Bool)(p:Pln)(S:Nat→Prop)
  (hm:P.follows .mixedOrders=true) (hok:treeOk ops isB p=true)
  (h:∀(gd:Nat→Option Tmp) (K:Sto→World→Prop) (x:World),gd=dstL ops.toList→Keep S w x→x=w.drew→(∀σ' w',Q .normal σ' ds w'→K σ' w')→zfV P gd ops.toList n S isB p σ x K):
  W P r n (.region id ops true) Q σ ds w:=by
 simp only[treeOk,Bool.and_eq_true,decide_eq_true_eq]at hok
 obtain⟨⟨⟨⟨h1,h2⟩,h3⟩,h4⟩,h5⟩:=hok
 refine wpIn_region_any hm ?_
 have:=zc0 (K:=fun σ w=>Q .normal σ ds w) h1 h3 p _ σ w.drew (zeh ops) h5 (zdx p σ w.drew (h _ _ _ rfl (Keep.drew S w) rfl (fun _ _ h=>h)))
 rw[h4]at this
 exact zbv h2 (fun σ w hk=>⟨σ,ds,rfl,hk⟩) _ _ _ _ (zcu _ _ _ _ _ this)
variable {gd : Nat → Option Tmp} {ops : List Oper}
theorem zke:zfV P gd ops n S isB .fin σ w K=K σ w:=nr rfl
theorem zkd(pl:List (Nat×Bool))(p:Pln):zfV P gd ops n S isB (.run pl p) σ w K=zbL P gd ops n S isB pl σ w (fun σ' w'=>zfV P gd ops n S isB p σ' w' K):=nr rfl
theorem ziO(m:Nat)(is:List Nat)(p:Nat→Pln):zfV P gd ops n S isB (.fork m is p) σ w K=allL is fun i=>zbL P gd ops n S isB [(i,false)] σ w (fun σ' w'=>zfV P gd ops n S isB (p i) σ' w' K):=nr rfl
end
section
variable {α : Type} {f : α → Prop} {a b : α} {l : List α}
theorem zbY:allL [a] f=f a:=nr rfl
theorem zbE:allL (a::b::l) f=(f a∧allL (b::l) f):=nr rfl
end
def zc5(n:Nat):Nat→Prop:=fun b=>n≤b
theorem ziz{n b o:Nat}(h:b<n):offS (zc5 n) (some ⟨b,o,Option.none⟩)=True:=by
 simp only[offS,zc5,eq_iff_iff,iff_true]
 intro a ha
 cases ha
 show¬n≤b
 omega
theorem Ext.keep{S:Nat→Prop}{w x:World}(h:Ext w x):Keep S w x:=h.mono (fun _ _ h=>h.elim)
attribute [go_sem ↓] zke zkd ziO
set_option maxRecDepth 10000
theorem zcr{n0:Nat}{C:Nat→Prop}{w x:World}(hk:KeepB n0 C w x){a:Addr}(hn:a.block<n0)(hC:¬C a.block){v:Value}(h:w.cell? a=some v):x.cell? a=some v:=by
 rw[←h];exact World.cell?_of_block (w:=w) (hk.block a.block hn hC)
theorem zdR{w x:World}(hk:Ext w x){a:Addr}{v:Value}(h:w.cell? a=some v):x.cell? a=some v:=zcX hk (fun h=>h) h
theorem zak{α:Type}{l:List α}{i:Nat}(h:i<l.length):l.take (i+1)=l.take i++ [l[i]]:=by
 rw[List.take_succ_eq_append_getElem h]
theorem zcc{α:Type}{l:List α}{i:Nat}(h:i<l.length):l=l.take i++l[i]::l.drop (i+1):=by
 rw[←List.drop_eq_getElem_cons h,List.take_append_drop]
theorem zf8{α:Type}{l:List α}{pre suf:List (α×Nat)}{x:α×Nat}(h:l.zipIdx=pre++x::suf):∃hk:pre.length<l.length,x=(l[pre.length],pre.length):=by
 have hk:pre.length<l.length:=by have:=congrArg List.length h;simp at this;omega
 refine⟨hk,?_⟩
 have h1:l.zipIdx[pre.length]? =some x:=by rw[h];simp
 rw[List.getElem?_zipIdx]at h1
 simp[hk]at h1
 exact h1.symm
def zkb(p:UInt8×Nat)(_:World)(args:Array Value):Prop:=args=#[vi p.2,zae p.1]
theorem ziA{W0:World}{n0:Nat}{C:Nat→Prop}{b:Nat}{l:List UInt8}(hb:W0.cell? ⟨b,0,Option.none⟩=some (vs l))(hbn:b<n0)(hbC:¬C b)(hl:l.length≤9000000000000000000):
  Iter Tryz.prog 207 #[.pointer (some ⟨b,0,Option.none⟩)] W0 n0 C l.zipIdx zkb:=by
 intro lp J Jx W hW hnW hJ hJx hY h0
 refine enter Tryz.func207 Tryz.ntmps207 rfl rfl ?_
 repeat (first|refine c_r ?_|refine rg0 ?_)
 refine zai (fun m σ ds v=>ds=[]∧∃i,i+m=l.length∧σ 3=vi i∧σ 0= .func (.yield lp) #[] #[]∧σ 1= .pointer (some ⟨b,0,Option.none⟩)∧J (l.zipIdx.take i) v∧KeepB n0 C W v) l.length ?_ ?_
 ·refine⟨rfl,0,by omega,?_,?_,?_,by simpa using h0,KeepB.refl _ _ _⟩<;>simp only[go_sem]<;>rfl
 ·rintro m σ ds v ⟨rfl,i,him,h3,hf0,hf1,hj,hK0⟩
  have hcell:zah v (some ⟨b,0,Option.none⟩)=some (vs l):=zcr hK0 hbn hbC (zdR hW hb)
  repeat refine c_r ?_
  refine rg4 h3 hf0 hf1 hcell ?_
  refine wc0 ?_ ?_
  ·intro hlt
   simp only[decide_eq_true_eq]at hlt
   have hi:i<l.zipIdx.length:=by simp;omega
   repeat refine c_r ?_
   refine rq ?_;intro gd K hgd hK
   try simp (disch:=first|omega|assumption|rfl) only[go_sem,h3,hf0,hf1,hcell]
   refine Yld.mono (hY (l.zipIdx.take i) l.zipIdx[i] (l.zipIdx.drop (i+1)) v _ (zcc hi) hj hK0 (by simp[zkb,zae])) ?_
   rintro u x (⟨rfl,hj',hk'⟩| ⟨rfl,hjx⟩)
   ·try simp only[go_sem]
    refine hK _ _ ?_;clear hK hgd;clear K;try clear gd
    repeat refine c_r ?_
    refine wc0 ?_ ?_
    ·intro h;simp at h
    ·intro _
     repeat refine c_r ?_
     refine rg1 h3 ?_
     refine zaC ?_
     refine⟨m - 1,by omega,rfl,i+1,by omega,?_,?_,?_,?_,hK0.trans hk'⟩
     ·simp only[go_sem];rfl
     ·simp only[go_sem,hf0]
     ·simp only[go_sem,hf1]
     ·rw[zak hi];exact hj'
   ·try simp only[go_sem]
    refine hK _ _ ?_;clear hK hgd;clear K;try clear gd
    repeat refine c_r ?_
    refine wc0 ?_ ?_
    ·intro _
     repeat refine c_r ?_
     refine zat (by simp) rfl (.inr ⟨_,_,_,zcc hi,hjx⟩)
    ·intro h;simp at h
  ·intro hge
   simp only[decide_eq_false_iff_not]at hge
   repeat refine c_r ?_
   refine zat (by simp) rfl (.inl ?_)
   have:l.zipIdx.take i=l.zipIdx:=List.take_of_length_le (by simp;omega)
   rw[this]at hj;exact hj
theorem zjG(w:World)(l:List UInt8)(hl:l.length≤9000000000000000000):Fn Tryz.prog 152 #[vs l] w (fun v w'=>Ext w w'∧∃cap,v= .func (.func 207) #[] cap∧
  ∀C:Nat→Prop,(∀b,C b→b<w.heap.size)→Iter Tryz.prog 207 cap w' w'.heap.size C l.zipIdx zkb):=by
 refine enter Tryz.func152 Tryz.ntmps152 rfl rfl ?_
 repeat refine c_r ?_
 refine rg0 ?_
 repeat refine c_r ?_
 refine rg0 ?_
 repeat refine c_r ?_
 refine rt0 Tryz.ntmps152 ?_
 refine⟨Ext.alloc _ _,_,rfl,fun C hC=>ziA ?_ (by simp) (fun h=>by have:=hC _ h;omega) hl⟩
 rw[zaG (zam _ _)];rfl
def zdw(c:UInt8):UInt8:=if 65≤c∧c≤90 then c+32 else c
def zaF(l:List UInt8):List UInt8:=l.map zdw
def za4(l:List UInt8)(k:Nat):List UInt8:=zaF (l.take k)++l.drop k
theorem zdv{l:List UInt8}{k:Nat}(hk:k<l.length):(za4 l k).set k (zdw l[k])=za4 l (k+1):=by
 unfold za4 zaF
 have e:(List.map zdw (l.take k)).length=k:=by simp;omega
 rw[zak hk,List.map_append,List.set_append_right _ _ (by omega),e,Nat.sub_self,List.drop_eq_getElem_cons hk,List.set_cons_zero]
 simp
theorem ziI(l:List UInt8)(k:Nat):(za4 l k).length=l.length:=by simp[za4,zaF];omega
theorem zfT{c:UInt8}(h:65≤c∧c≤90):zdw c=c+32:=if_pos h
theorem zew{c:UInt8}(h:¬(65≤c∧c≤90)):zdw c=c:=if_neg h
theorem ze0{l:List UInt8}{k:Nat}(hk:k<l.length)(h:¬(65≤l[k]∧l[k]≤90)):za4 l k=za4 l (k+1):=by
 rw[←zdv hk,zew h]
 apply List.ext_getElem?
 intro j
 rw[List.getElem?_set]
 split
 ·rename_i hj;subst hj
  rw[if_pos (by rw[ziI];exact hk)]
  unfold za4 zaF
  have e:(List.map zdw (l.take k)).length=k:=by simp;omega
  rw[List.getElem?_append_right (by omega),e]
  simp[hk]
 ·rfl
theorem zcg(w:World)(l:List UInt8)(hl:l.length≤9000000000000000000):Fn Tryz.prog 97 #[vs l] w (fun v w'=>v=vs (zaF l)∧Ext w w'):=by
 refine enter Tryz.func97 Tryz.ntmps97 rfl rfl ?_
 repeat (first|refine c_r ?_|refine rg0 ?_)
 repeat refine c_r ?_
 refine rq ?_;intro gd K hgd hK
 try simp only[go_sem]
 refine zh4 rfl rfl rfl (vq0) ?_
 intro c cur w1 hlc hcur htake hE1 hsz1 hb1
 try simp only[go_sem]
 refine zbj rfl rfl rfl (zam _ _) (by simp) (by simp) ?_
 intro w2 hsz2 hb2 hk2
 simp only[World.size_alloc]at hsz2 hb2 hk2
 have hE2:Ext w w2:=hE1.trans (Keep.to_ext (Ext.alloc w1 _) rfl (fun b hb=>by omega) hk2)
 have hgb:w2.heap[w.heap.size]? =some (.cells cur 5 (c,c+1)):=(hk2.block _ (by simp;omega) (by omega)).trans ((RowKit.Below.heap_alloc _ _ _ (by omega)).trans hb1)
 rw[hsz1]at hsz2 hb2 ⊢
 simp at hb2
 clear hk2 hb1
 refine hK _ _ ?_;clear hK hgd;clear K;try clear gd
 repeat refine c_r ?_
 refine rq ?_;intro gd K hgd hK
 try simp only[go_sem]
 refine Fn.mono (zjG _ _ hl) ?_
 rintro _ w3 ⟨hE3,cap,rfl,hit⟩
 try simp only[go_sem]
 refine hK _ _ ?_;clear hK hgd;clear K;try clear gd
 repeat refine c_r ?_
 have hE3':=hE2.trans hE3
 have hsz3:=hE3.size
 refine zhw (g:=207) (cap:=cap) (vq0) rfl (hit (fun b=>b=w.heap.size) (fun b hb=>by omega)) (Keep.refl _ _) (Nat.le_refl _) (fun b hb=>by omega)
  (fun x A args h=>by rw[h];rfl)
  (fun pre A=>Ext w A∧A.heap[w.heap.size+1]? =some (.cells #[.slice (some ⟨w.heap.size,0,Option.none⟩) l.length c] 90 (0,0))∧
   ∃cur:Array Value,cur.size=c∧cur.toList.take l.length=(za4 l pre.length).map zae∧A.heap[w.heap.size]? =some (.cells cur 5 (c,c+1)))
  (fun _ _ _=>False) ?_ (fun _ _ _ _ h _=>h.elim) ?_ ?_ ?_ (fun _ _ _ _ _ _ _ h _=>h.elim)
 ·rintro pre A B ⟨h1,h2,cu,h3,h4,h5⟩ hk
  have ne1:¬two w3.heap.size (w.heap.size+1):=by unfold two;omega
  have ne2:¬two w3.heap.size w.heap.size:=by unfold two;omega
  exact⟨Keep.to_ext h1 rfl (fun b hb=>by unfold two at hb;omega) hk,(hk.block _ (Array.getElem?_eq_some_iff.1 h2).1 ne1).trans h2,cu,h3,h4,
   (hk.block _ (Array.getElem?_eq_some_iff.1 h5).1 ne2).trans h5⟩
 ·refine⟨hE3',(hE3.block _ (by omega) (fun h=>h)).trans hb2,cur,hcur,?_,(hE3.block _ (by omega) (fun h=>h)).trans hgb⟩
  simpa [za4,zaF] using htake
 ·rintro lp pre x suf A args hxs hszA ⟨hEA,hbox,cu,hcu,hpre,hrow⟩ rfl
  obtain⟨hk,rfl⟩:=zf8 hxs
  dsimp only
  repeat (first|refine c_r ?_| (refine zcv (by rfl) ?_;intro gd K hgd hK;simp (disch:=first|omega|assumption|rfl) only[go_sem,zae];refine hK _ _ ?_;clear hK hgd;clear K gd))
  refine⟨rfl,KeepB.refl _ _ _,fun A2 hA2=>?_⟩
  have ne1:¬two w3.heap.size (w.heap.size+1):=by unfold two;omega
  have ne2:¬two w3.heap.size w.heap.size:=by unfold two;omega
  have hbox2:=(hA2.block _ (Array.getElem?_eq_some_iff.1 hbox).1 ne1).trans hbox
  have hrow2:=(hA2.block _ (Array.getElem?_eq_some_iff.1 hrow).1 ne2).trans hrow
  have hE2':Ext w A2:=Keep.to_ext hEA rfl (fun b hb=>by unfold two at hb;omega) hA2
  have hs2:=hA2.size
  clear hbox hrow hA2 hit hb2 hgb
  have hcu':cu[pre.length]? =some (zae (l[pre.length])):=by
   have:(cu.toList.take l.length)[pre.length]? =some (zae (l[pre.length])):=by
    rw[hpre,List.getElem?_map]
    unfold za4
    rw[List.getElem?_append_right (by simp[zaF];omega)]
    have e:(zaF (l.take pre.length)).length=pre.length:=by simp[zaF];omega
    rw[e];simp[hk]
   rw[List.getElem?_take,if_pos hk]at this
   simpa using this
  have hbit:∀u:UInt8,(65≤u↔(65:Int)≤u.toNat)∧(u≤90↔(u.toNat:Int)≤90):=fun u=>by
   rw[UInt8.le_iff_toNat_le,UInt8.le_iff_toNat_le]
   constructor
   ·show 65≤u.toNat↔_;omega
   ·show u.toNat≤90↔_;omega
  have hkeep:∀B,A2=B→¬(65≤l[pre.length]∧l[pre.length]≤90)→(Ext w B∧B.heap[w.heap.size+1]? =some (.cells #[.slice (some ⟨w.heap.size,0,Option.none⟩) l.length c] 90 (0,0))∧
   ∃cur:Array Value,cur.size=c∧cur.toList.take l.length=(za4 l (pre++ [(l[pre.length],pre.length)]).length).map zae∧B.heap[w.heap.size]? =some (.cells cur 5 (c,c+1)))∧
    KeepB (w3.heap.size+2) (fun b=>b=w.heap.size) A2 B:=by
   rintro B rfl hno
   refine⟨⟨hE2',hbox2,cu,hcu,?_,hrow2⟩,KeepB.refl _ _ _⟩
   rw[hpre,ze0 hk hno];simp
  generalize hcc:l[pre.length]=cc at*
  repeat refine c_r ?_
  refine rq ?_;intro gd K hgd hK
  have hg2:∀n σ b,zas gd n σ (some (2,b))=zaj (ev n σ (.tmp 14)) b:=(fun n σ b=>by rw[zab,show gd 2=some 14 from(by rw[hgd];rfl)];rfl)
  by_cases h65:(65:Int)≤cc.toNat
  ·try simp (disch:=first|omega|assumption|rfl) only[go_sem,hg2,zab,zbZ,zfd,decide_eq_true h65,beq_self_eq_true]
   refine hK _ _ ?_;clear hK hgd;clear K;try clear gd
   repeat refine c_r ?_
   refine wc0 ?_ ?_
   ·intro h90
    simp only[decide_eq_true_eq]at h90
    have hc1:zah A2 (some ⟨w.heap.size+1,0,Option.none⟩)=some (.slice (some ⟨w.heap.size,0,Option.none⟩) l.length c):=by
     show A2.cell? _=_
     rw[zaG hbox2];rfl
    repeat refine c_r ?_
    refine rq ?_;intro gd K hgd hK
    try simp (disch:=first|omega|assumption|rfl) only[go_sem,hc1]
    refine zbj rfl rfl rfl hrow2 (by omega) (by simp;omega) ?_
    intro w5 hsz5 hb5 hk5
    refine hK _ _ ?_;clear hK hgd;clear K;try clear gd
    repeat refine c_r ?_
    have hset:((za4 l pre.length).map zae).set pre.length (.int .u8 (↑cc.toNat+97 - 65))=(za4 l (pre.length+1)).map zae:=by
     rw[←zdv hk,hcc,List.map_set]
     congr 1
     rw[zfT ⟨(hbit cc).1.2 h65,(hbit cc).2.2 h90⟩]
     unfold zae
     congr 1
     have:(cc+32).toNat=cc.toNat+32:=by
      rw[UInt8.toNat_add];show(cc.toNat+32) % 256=_;omega
     rw[this];push_cast;omega
    refine⟨⟨Keep.to_ext hE2' rfl (fun b hb=>by omega) hk5,?_,cu.setIfInBounds pre.length (.int .u8 (↑cc.toNat+97 - 65)),by simpa using hcu,?_,hb5⟩,hk5.toB (by omega) (fun i _ h=>h)⟩
    ·exact(hk5.block _ (by omega) (by omega)).trans hbox2
    ·rw[Array.toList_setIfInBounds,List.take_set,hpre,hset];simp
   ·intro h90
    simp only[decide_eq_false_iff_not]at h90
    repeat refine c_r ?_
    exact hkeep _ rfl (fun h=>h90 ((hbit cc).2.1 h.2))
  ·try simp (disch:=first|omega|assumption|rfl) only[go_sem,hg2,zab,zbZ,zfd,decide_eq_false h65,beq_self_eq_true]
   refine hK _ _ ?_;clear hK hgd;clear K;try clear gd
   repeat refine c_r ?_
   refine wc0 ?_ ?_
   ·intro h;simp at h
   ·intro _
    repeat refine c_r ?_
    exact hkeep _ rfl (fun h=>h65 ((hbit cc).1.1 h.1))
 ·rintro w4 hsz4 ⟨hE4,hbox,cu,hcu,hpre,hrow⟩ hD
  have hc1:zah w4 (some ⟨w.heap.size+1,0,Option.none⟩)=some (.slice (some ⟨w.heap.size,0,Option.none⟩) l.length c):=by
   show w4.cell? _=_
   rw[zaG hbox];rfl
  have hfull:za4 l l.zipIdx.length=zaF l:=by simp[za4]
  rw[hfull]at hpre
  have hlen:(zaF l).length=l.length:=by simp[zaF]
  repeat refine c_r ?_
  refine rq ?_;intro gd K hgd hK
  try simp (disch:=first|omega|assumption|rfl) only[go_sem,hc1]
  rw[←hlen]
  refine zde rfl rfl rfl (vq0) ?_ ?_
  ·intro j hj
   rw[hlen]at hj
   rw[zaU]
   show w4.cell? _=_
   rw[zaG hrow]
   have:(cu.toList.take l.length)[j]? =some (zae ((zaF l)[j]'(by omega))):=by
    rw[hpre,List.getElem?_map,List.getElem?_eq_getElem (by omega)];rfl
   rw[List.getElem?_take,if_pos hj]at this
   simpa using this
  try simp only[go_sem]
  refine hK _ _ ?_;clear hK hgd;clear K;try clear gd
  repeat refine c_r ?_
  refine zdF (by simp) rfl Tryz.ntmps97 (by simp only[go_sem];rfl) hD ?_
  intro w5 hk5 _
  exact⟨rfl,Keep.to_ext hE4 rfl (fun b hb=>by omega) hk5⟩
def cmpI(a b:Int):Int:=if a<b then -1 else if b<a then 1 else 0
def orI:List Int→Int
 | []=>0
 |a::l=>if a=0 then orI l else a
def lexC{α:Type}(cf:α→α→Int):List α→List α→Int
 | [],[]=>0
 | [],_::_=> -1
 |_::_,[]=>1
 |x::l,y::m=>if cf x y=0 then lexC cf l m else cf x y
theorem orI_drop{l:List Int}{i:Nat}(h:i<l.length):orI (l.drop i)=if l[i]=0 then orI (l.drop (i+1)) else l[i]:=by
 rw[List.drop_eq_getElem_cons h];rfl
theorem zcp{α:Type}{cf:α→α→Int}{a b:List α}{i:Nat}(ha:i<a.length)(hb:i<b.length):lexC cf (a.drop i) (b.drop i)=if cf a[i] b[i]=0 then lexC cf (a.drop (i+1)) (b.drop (i+1)) else cf a[i] b[i]:=by
 rw[List.drop_eq_getElem_cons ha,List.drop_eq_getElem_cons hb];rfl
theorem zcF{α:Type}{cf:α→α→Int}:∀{a b:List α},a=[]∨b=[]→lexC cf a b=cmpI a.length b.length
 | [],[],_=>rfl
 | [],_::_,_=>by simp only[lexC,cmpI,List.length_cons,List.length_nil];rw[if_pos (by omega)]
 |_::_,[],_=>by simp only[lexC,cmpI,List.length_cons,List.length_nil];rw[if_neg (by omega),if_pos (by omega)]
 |_::_,_::_,h=>by simp at h
end Go.Proofs.YtahbdamijngmmaaGreat
namespace Go.Proofs.YtahbdamijngmmaaGreat.N_int
open Go Go.Proofs.YtahbdamijngmmaaGreat
set_option maxRecDepth 10000
theorem zdN(w:World)(a:Int):Fn Tryz.prog 226 #[.int .i64 a] w (fun v w'=>v= .bool false∧w'=w):=by
 refine enter Tryz.func226 Tryz.ntmps226 rfl rfl ?_
 repeat (first|refine c_r ?_| (refine zcv (by rfl) ?_;intro gd K hgd hK;simp (disch:=first|omega|assumption|rfl) only[go_sem,decide_true];refine hK _ _ ?_;clear hK hgd;clear K gd))
 refine rt0 Tryz.ntmps226 ?_
 exact⟨rfl,rfl⟩
theorem Compare_ok(w:World)(a b:Int):Fn Tryz.prog 177 #[.int .i64 a,.int .i64 b] w (fun v w'=>v=vi (cmpI a b)∧w'=w):=by
 refine enter Tryz.func177 Tryz.ntmps177 rfl rfl ?_
 repeat refine c_r ?_
 refine rg0 ?_
 repeat refine c_r ?_
 refine rq ?_;intro gd K hgd hK
 try simp only[go_sem]
 refine Fn.mono (zdN _ _) ?_
 rintro _ _ ⟨rfl,rfl⟩
 try simp only[go_sem]
 refine hK _ _ ?_;clear hK hgd;clear K;try clear gd
 repeat refine c_r ?_
 refine rq ?_;intro gd K hgd hK
 try simp only[go_sem]
 refine Fn.mono (zdN _ _) ?_
 rintro _ _ ⟨rfl,rfl⟩
 try simp only[go_sem]
 refine hK _ _ ?_;clear hK hgd;clear K;try clear gd
 repeat refine c_r ?_
 refine rg0 ?_
 repeat refine c_r ?_
 refine wc0 ?_ ?_
 ·intro h;cases h
 intro _
 repeat refine c_r ?_
 refine rg0 ?_
 repeat refine c_r ?_
 refine wc0 ?_ ?_
 ·intro h;cases h
 intro _
 repeat refine c_r ?_
 refine rg0 ?_
 repeat refine c_r ?_
 refine wc0 ?_ ?_
 ·intro h
  simp only[decide_eq_true_eq]at h
  repeat (first|refine c_r ?_|refine rg0 ?_)
  refine rt0 Tryz.ntmps177 ?_
  exact⟨by rw[cmpI,if_pos h],rfl⟩
 intro h
 simp only[decide_eq_false_iff_not]at h
 repeat (first|refine c_r ?_|refine rg0 ?_)
 refine wc0 ?_ ?_
 ·intro h2
  simp only[decide_eq_true_eq]at h2
  repeat (first|refine c_r ?_|refine rg0 ?_)
  refine rt0 Tryz.ntmps177 ?_
  exact⟨by rw[cmpI,if_neg h,if_pos h2],rfl⟩
 intro h2
 simp only[decide_eq_false_iff_not]at h2
 repeat (first|refine c_r ?_|refine rg0 ?_)
 refine rt0 Tryz.ntmps177 ?_
 exact⟨by rw[cmpI,if_neg h,if_neg h2],rfl⟩
end Go.Proofs.YtahbdamijngmmaaGreat.N_int
namespace Go.Proofs.YtahbdamijngmmaaGreat
open Go
def MapIt(w:World)(r m:Nat)(l:List (Lab×Value))(pre:List Lab):Prop:=
 ∃es clk,∃ds:List MapEntry,w.heap[m]? =some (.map es clk)∧es.toList.map (fun e=>(e.key,e.val))=l.map (fun p=>(vs p.1,p.2))∧(es.toList.map (·.born)).Pairwise (·≠·)∧(∀e∈es.toList,e.born<clk)∧
  w.heap[r]? =some (.mapIter (some m) clk (ds.map (·.born)).toArray clk)∧(∀d∈ds,d∈es.toList)∧ds.map (·.key)=pre.map vs
theorem MapIt.map{w:World}{r m:Nat}{l:List (Lab×Value)}{pre:List Lab}(h:MapIt w r m l pre):MapAt w m l:=by
 obtain⟨es,clk,ds,h1,h2,h3,h4,_⟩:=h
 exact⟨es,clk,h1,h2,h3,h4⟩
theorem MapIt.block{w x:World}{r m:Nat}{l:List (Lab×Value)}{pre:List Lab}(h:MapIt w r m l pre)(h1:x.heap[m]? =w.heap[m]?)(h2:x.heap[r]? =w.heap[r]?):MapIt x r m l pre:=by
 obtain⟨es,clk,ds,a,b,c,d,e,f⟩:=h
 exact⟨es,clk,ds,h1.trans a,b,c,d,h2.trans e,f⟩
theorem zi4{a b:List UInt8}(h:vs a=vs b):a=b:=by
 simpa [vs] using h
theorem ziF{es:List MapEntry}{l:List (Lab×Value)}(h:es.map (fun e=>(e.key,e.val))=l.map (fun p=>(vs p.1,p.2)))(hn:(l.map (·.1)).Nodup):es.Pairwise (fun x y=>x.key≠y.key):=by
 have h1:es.map (·.key)=l.map (fun p=>vs p.1):=by
  have:=congrArg (List.map Prod.fst) h
  simpa [List.map_map,Function.comp_def] using this
 have h2:(l.map (fun p=>vs p.1)).Pairwise (·≠·):=by
  rw[List.pairwise_map]
  have:=List.pairwise_map.1 hn
  exact this.imp (fun hne e=>hne (zi4 e))
 rw[←h1,List.pairwise_map]at h2
 exact h2
section
variable {P : Program} {d : Option Tmp} {ty : TypeId} {ps : String} {af : Array Edge} {g : Option (Nat × Bool)} {ρ : Operand → Value} {w : World} {K : Value → World → Prop}
theorem op_range{t kt et:TypeId}{x:Operand}{m:Nat}{l:List (Lab×Value)}(ht:tyU P t=some (.map kt et))(hx:ρ x= .map (some m))(hm:MapAt w m l)
  (h:∀w',MapIt w' w.heap.size m l []→Ext w w'→w'.heap.size=w.heap.size+1→K (.pointer (some ⟨w.heap.size,0,Option.none⟩)) w'):
  opW P ⟨d,.range t x,ty,ps,af,g⟩ ρ w K:=by
 obtain⟨es,clk,h1,h2,h3,h4⟩:=hm
 have hrun:(Instr.range t (.map (some m))).run P w= .ok (.pointer (some ⟨w.heap.size,0,Option.none⟩)) (w.alloc (.mapIter (some m) clk #[] clk)):=by
  simp[Instr.range,run_underlying (show P.underlying t=_ from ht),MapKept.run_getObj_map h1,newObj,Sem.run,Result.andThen]
 have hlt:=(Array.getElem?_eq_some_iff.1 h1).1
 show opR P K _
 refine zaK (s:=Instr.range t (ρ x)) (by rw[hx];exact hrun) (h _ ⟨es,clk,[],?_,h2,h3,h4,?_,by simp,rfl⟩ (Ext.alloc w _) (by simp))
 ·exact(RowKit.Below.heap_alloc _ _ _ hlt).trans h1
 ·exact zam w _
theorem op_next{x:Operand}{r m:Nat}{l:List (Lab×Value)}{pre:List Lab}(hx:ρ x= .pointer (some ⟨r,0,Option.none⟩))(hit:MapIt w r m l pre)(hn:(l.map (·.1)).Nodup)
  (h1:(∀k∈l.map (·.1),k∈pre)→K (.tuple #[.bool false]) w)
  (h2:∀k v w',(k,v)∈l→k∉pre→MapIt w' r m l (pre++ [k])→Keep (fun b=>b=r) w w'→w'.heap.size=w.heap.size→K (.tuple #[.bool true,vs k,v]) w'):
  opW P ⟨d,.next x false,ty,ps,af,g⟩ ρ w K:=by
 obtain⟨es,clk,ds,e1,e2,e3,e4,e5,e6,e7⟩:=hit
 have hap:=ziF e2 hn
 have hmem:∀e:MapEntry,e∈es.toList→∃k v,(k,v)∈l∧e.key=vs k∧e.val=v:=fun e he=>by
  have:(e.key,e.val)∈l.map (fun p=>(vs p.1,p.2)):=by rw[←e2];exact List.mem_map.2 ⟨e,he,rfl⟩
  obtain⟨⟨k,v⟩,hp,heq⟩:=List.mem_map.1 this
  simp only[Prod.mk.injEq]at heq
  exact⟨k,v,hp,heq.1.symm,heq.2.symm⟩
 rcases run_next_at (P:=P) w ty r m clk clk (ds.map (·.born)).toArray es clk e5 e1 e4 (Nat.le_refl _) with ⟨h0,hrun⟩| ⟨e,he,w1,hw1,hrun⟩
 ·show opR P K _
  refine zaK (s:=Instr.next (ρ x) false ty) (by rw[hx];exact hrun) (h1 fun k hk=>?_)
  obtain⟨⟨k,v⟩,hp,rfl⟩:=List.mem_map.1 hk
  have:(vs k,v)∈es.toList.map (fun e=>(e.key,e.val)):=by rw[e2];exact List.mem_map.2 ⟨_,hp,rfl⟩
  obtain⟨e,he,heq⟩:=List.mem_map.1 this
  simp only[Prod.mk.injEq]at heq
  have hin:(ds.map (·.born)).toArray.contains e.born=true:=by
   cases hc:(ds.map (·.born)).toArray.contains e.born with
   |true=>rfl
   |false=>
    have:e∈(leftOf es (ds.map (·.born)).toArray).toList:=by
     unfold leftOf;simp only[Array.toList_filter,List.mem_filter];exact⟨he,by rw[hc];rfl⟩
    rw[Array.size_eq_length_toList,List.length_eq_zero_iff]at h0
    rw[h0]at this;cases this
  simp only[List.contains_toArray,List.contains_iff_mem,List.mem_map]at hin
  obtain⟨d',hd,hb⟩:=hin
  have hde:d'=e:=by
   exact born_inj e3 (e6 _ hd) he hb
  subst hde
  have:d'.key∈pre.map vs:=by rw[←e7];exact List.mem_map.2 ⟨_,hd,rfl⟩
  rw[heq.1]at this
  obtain⟨k',hk',hkk⟩:=List.mem_map.1 this
  rw[zi4 hkk]at hk';exact hk'
 ·have hel:e∈es.toList∧(ds.map (·.born)).toArray.contains e.born=false:=by
   unfold leftOf at he
   simp only[Array.toList_filter,List.mem_filter]at he
   exact⟨he.1,by simpa using he.2⟩
  obtain⟨k,v,hkv,hk,hv⟩:=hmem e hel.1
  have hlt:r<w1.heap.size:=by
   have:=(Array.getElem?_eq_some_iff.1 e5).1
   rcases hw1 with rfl|rfl<;>exact this
  have hrm:r≠m:=fun e=>by rw[e,e1]at e5;cases e5
  have hk1:Keep (fun b=>b=r) w w1:=by rcases hw1 with rfl|rfl<;>first|exact Keep.refl _ _|exact Keep.drew _ _
  have hput:ChangeMaps.setBlock w1 r (.mapIter (some m) clk ((ds.map (·.born)).toArray.push e.born) clk)=w1.putObj r (.mapIter (some m) clk ((ds.map (·.born)).toArray.push e.born) clk):=rfl
  rw[hput]at hrun
  show opR P K _
  rw[hk,hv]at hrun
  refine zaK (s:=Instr.next (ρ x) false ty) (by rw[hx];exact hrun) (h2 k v _ hkv ?_ ⟨es,clk,ds++ [e],?_,e2,e3,e4,?_,?_,?_⟩ (hk1.trans (zaD rfl)) ?_)
  ·intro hkp
   have:vs k∈ds.map (·.key):=by rw[e7];exact List.mem_map.2 ⟨_,hkp,rfl⟩
   obtain⟨d',hd,hdk⟩:=List.mem_map.1 this
   have hde:d'=e:=entry_eq_of_key hap (e6 _ hd) hel.1 (by rw[hdk,hk])
   subst hde
   have:=hel.2
   simp only[List.contains_toArray]at this
   have h3:(ds.map (·.born)).contains d'.born=true:=by rw[List.contains_iff_mem];exact List.mem_map.2 ⟨_,hd,rfl⟩
   rw[h3]at this;cases this
  ·refine(World.putObj_heap_other (fun e=>hrm e.symm)).trans ?_
   rcases hw1 with rfl|rfl<;>exact e1
  ·rw[World.putObj_heap_same hlt];simp
  ·intro d' hd
   rcases List.mem_append.1 hd with hd|hd
   ·exact e6 _ hd
   ·rw[List.mem_singleton.1 hd];exact hel.1
  ·rw[List.map_append,e7,List.map_append];simp[hk]
  ·rcases hw1 with rfl|rfl<;>simp
theorem op_entry{x:Operand}{r m:Nat}{l:List (Lab×Value)}{pre:List Lab}{k:Lab}(hx:ρ x= .pointer (some ⟨r,0,Option.none⟩))(hit:MapIt w r m l (pre++ [k]))
  (h:∀v,K (.tuple #[vs k,v]) w):
  opW P ⟨d,.entry x,ty,ps,af,g⟩ ρ w K:=by
 obtain⟨es,clk,ds,e1,e2,e3,e4,e5,e6,e7⟩:=hit
 rcases List.eq_nil_or_concat ds with rfl| ⟨ds',e,rfl⟩
 ·simp at e7
 ·rw[List.concat_eq_append,List.map_append,List.map_append]at e7
  have e7':=List.append_inj' e7 rfl
  have hk:e.key=vs k:=by simpa using e7'.2
  have hrun:=run_entry_at (P:=P) w r m clk (ds'.map (·.born)).toArray es clk e (by rw[e5];simp) e1 (e6 _ (by simp)) e3
  rw[hk]at hrun
  show opR P K _
  exact zaK (s:=Instr.entry (ρ x)) (by rw[hx];exact hrun) (h _)
end
set_option maxRecDepth 10000
theorem u8_le(u:UInt8):(65≤u↔(65:Int)≤u.toNat)∧(u≤90↔(u.toNat:Int)≤90):=by
 rw[UInt8.le_iff_toNat_le,UInt8.le_iff_toNat_le]
 constructor
 ·show 65≤u.toNat↔_;omega
 ·show u.toNat≤90↔_;omega
theorem byteV_up{cc:UInt8}(h65:(65:Int)≤cc.toNat)(h90:(cc.toNat:Int)≤90):zae (zdw cc)= .int .u8 (cc.toNat+32):=by
 rw[zfT ⟨(u8_le cc).1.2 h65,(u8_le cc).2.2 h90⟩]
 unfold zae
 congr 1
 have:(cc+32).toNat=cc.toNat+32:=by
  rw[UInt8.toNat_add];show(cc.toNat+32) % 256=_;omega
 rw[this];push_cast;omega
theorem ziJ{l:List UInt8}{k:Nat}(hk:k<l.length):(za4 l k)[k]? =some l[k]:=by
 unfold za4
 have e:(zaF (l.take k)).length=k:=by simp[zaF];omega
 rw[List.getElem?_append_right (by omega),e];simp[hk]
theorem zbF(w:World)(l:List UInt8)(hl:l.length≤9000000000000000000):Fn Tryz.prog 54 #[vs l] w (fun v w'=>v=vs (zaF l)∧Ext w w'):=by
 refine enter Tryz.func54 Tryz.ntmps54 rfl rfl ?_
 repeat (first|refine c_r ?_|refine rg0 ?_)
 repeat refine c_r ?_
 refine rq ?_;intro gd K hgd hK
 try simp only[go_sem]
 refine zh4 rfl rfl rfl (vq0) ?_
 intro c cur w1 hlc hcur htake hE1 hsz1 hb1
 try simp only[go_sem]
 refine hK _ _ ?_;clear hK hgd;clear K;try clear gd
 repeat (first|refine c_r ?_|refine rg0 ?_)
 refine zai (fun m σ ds A=>ds=[]∧∃i,i+m=l.length∧σ 4=vi i∧σ 3= .slice (some ⟨w.heap.size,0,Option.none⟩) l.length c∧Ext w A∧
  ∃cur:Array Value,cur.size=c∧cur.toList.take l.length=(za4 l i).map zae∧A.heap[w.heap.size]? =some (.cells cur 5 (c,c+1))) l.length ?_ ?_
 ·refine⟨rfl,0,by omega,?_,?_,hE1,cur,hcur,by simpa [za4,zaF] using htake,hb1⟩<;>simp only[go_sem]<;>rfl
 ·rintro m σ ds A ⟨rfl,i,him,h4,h3,hE,cu,hcu,hpre,hrow⟩
  repeat refine c_r ?_
  refine rg2 h4 h3 ?_
  refine wc0 ?_ ?_
  ·intro hlt
   simp only[decide_eq_true_eq]at hlt
   have hk:i<l.length:=by omega
   generalize hcc:l[i]=cc
   have hcell:zah A (some ⟨w.heap.size,i,Option.none⟩)=some (.int .u8 cc.toNat):=by
    show A.cell? _=_
    rw[zaG hrow]
    have:(cu.toList.take l.length)[i]? =some (zae cc):=by rw[hpre,List.getElem?_map,ziJ hk,hcc];rfl
    rw[List.getElem?_take,if_pos hk]at this
    simpa [zae] using this
   repeat (with_reducible first|refine zek ?_|refine zgO ?_|refine zel ?_|refine zaC ?_|refine zbG ?_|refine zb2 ?_|refine za7 ?_|refine zbM ?_|refine zbg ?_|refine za5 rfl ?_)
   refine W_mid (fun σ ds B=>ds=[]∧σ 4=vi i∧σ 3= .slice (some ⟨w.heap.size,0,Option.none⟩) l.length c∧Ext w B∧
    ∃cur:Array Value,cur.size=c∧cur.toList.take l.length=(za4 l (i+1)).map zae∧B.heap[w.heap.size]? =some (.cells cur 5 (c,c+1))) ?_ ?_
   ·repeat refine c_r ?_
    refine rq ?_;intro gd K hgd hK
    have hg5:∀n σ b,zas gd n σ (some (5,b))=zaj (ev n σ (.tmp 18)) b:=(fun n σ b=>by rw[zab,show gd 5=some 18 from(by rw[hgd];rfl)];rfl)
    have hno:¬(65≤cc∧cc≤90)→cu.toList.take l.length=(za4 l (i+1)).map zae:=fun h=>by rw[hpre,ze0 hk (by rw[hcc];exact h)]
    by_cases h65:(65:Int)≤cc.toNat
    ·try simp (disch:=first|omega|assumption|rfl) only[go_sem,h4,h3,hcell,decide_eq_true h65,↓hg5]
     refine hK _ _ ?_;clear hK hgd;clear K;try clear gd
     repeat refine c_r ?_
     refine wc0 ?_ ?_
     ·intro h90
      simp only[decide_eq_true_eq]at h90
      repeat refine c_r ?_
      refine rq ?_;intro gd K hgd hK
      try simp (disch:=first|omega|assumption|rfl) only[go_sem,h4,h3,hcell]
      refine zbj rfl rfl rfl hrow (by omega) (by simp;omega) ?_
      intro w5 hsz5 hb5 hk5
      refine hK _ _ ?_;clear hK hgd;clear K;try clear gd
      repeat (with_reducible first|refine zek ?_|refine zgO ?_|refine zel ?_|refine zaC ?_|refine zbG ?_|refine zb2 ?_|refine za7 ?_|refine zbM ?_|refine zbg ?_|refine za5 rfl ?_)
      have hset:((za4 l i).map zae).set i (.int .u8 (↑cc.toNat+32))=(za4 l (i+1)).map zae:=by
       rw[←zdv hk,hcc,List.map_set,byteV_up h65 h90]
      refine⟨rfl,?_,?_,Keep.to_ext hE rfl (fun b hb=>by omega) hk5,cu.setIfInBounds i (.int .u8 (↑cc.toNat+32)),by simpa using hcu,?_,hb5⟩
      ·simp only[go_sem,h4]
      ·simp only[go_sem,h3]
      ·rw[Array.toList_setIfInBounds,List.take_set,hpre,hset]
     ·intro h90
      simp only[decide_eq_false_iff_not]at h90
      repeat (with_reducible first|refine zek ?_|refine zgO ?_|refine zel ?_|refine zaC ?_|refine zbG ?_|refine zb2 ?_|refine za7 ?_|refine zbM ?_|refine zbg ?_|refine za5 rfl ?_)
      exact⟨rfl,(vq1 h4),(vq1 h3),hE,cu,hcu,hno (fun h=>h90 ((u8_le cc).2.1 h.2)),hrow⟩
    ·try simp (disch:=first|omega|assumption|rfl) only[go_sem,h4,h3,hcell,decide_eq_false h65,↓hg5]
     refine hK _ _ ?_;clear hK hgd;clear K;try clear gd
     repeat refine c_r ?_
     refine wc0 ?_ ?_
     ·intro h;simp at h
     ·intro _
      repeat (with_reducible first|refine zek ?_|refine zgO ?_|refine zel ?_|refine zaC ?_|refine zbG ?_|refine zb2 ?_|refine za7 ?_|refine zbM ?_|refine zbg ?_|refine za5 rfl ?_)
      exact⟨rfl,(vq1 h4),(vq1 h3),hE,cu,hcu,hno (fun h=>h65 ((u8_le cc).1.1 h.1)),hrow⟩
   ·rintro σ' ds B ⟨rfl,h4',h3',hE',hex⟩
    refine rg1 h4' ?_
    refine zaC ?_
    exact⟨m - 1,by omega,rfl,i+1,by omega,by simp only[go_sem];rfl,(vq1 h3'),hE',hex⟩
  ·intro hge
   simp only[decide_eq_false_iff_not]at hge
   have hfull:za4 l i=zaF l:=by unfold za4;rw[List.take_of_length_le (by omega),List.drop_of_length_le (by omega)];simp
   rw[hfull]at hpre
   have hlen:(zaF l).length=l.length:=by simp[zaF]
   repeat refine c_r ?_
   refine rq ?_;intro gd K hgd hK
   try simp (disch:=first|omega|assumption|rfl) only[go_sem,h3]
   rw[←hlen]
   refine zde rfl rfl rfl ((vq2 h3 hlen)) ?_ ?_
   ·intro j hj
    rw[hlen]at hj
    rw[zaU]
    show A.cell? _=_
    rw[zaG hrow]
    have:(cu.toList.take l.length)[j]? =some (zae ((zaF l)[j]'(by omega))):=by
     rw[hpre,List.getElem?_map,List.getElem?_eq_getElem (by omega)];rfl
    rw[List.getElem?_take,if_pos hj]at this
    simpa using this
   try simp only[go_sem]
   refine hK _ _ ?_;clear hK hgd;clear K;try clear gd
   repeat refine c_r ?_
   refine rt0 Tryz.ntmps54 ?_
   exact⟨rfl,hE⟩
abbrev Nm:=List (List UInt8)
def LB(n:Nm):Prop:=∀l∈n,l.length≤9000000000000000000
theorem LB.get{n:Nm}(h:LB n){i:Nat}(hi:i<n.length):n[i].length≤9000000000000000000:=h _ (List.getElem_mem hi)
def zag(n:Nm):Nm:=n.map zaF
theorem zau(n:Nm):(zag n).length=n.length:=by simp[zag]
theorem zb0{n:Nm}{i:Nat}(h:i<n.length):zag (n.take (i+1))=zag (n.take i)++ [zaF n[i]]:=by
 rw[zak h];simp only[zag,List.map_append,List.map_cons,List.map_nil]
theorem zeg{a b:Nm}(h:a.length≠b.length):zag a≠zag b:=fun e=>h (by rw[←zau a,e,zau])
theorem ze1{a b:Nm}{i:Nat}(ha:i<a.length)(hb:i<b.length)(h:zaF a[i]≠zaF b[i]):zag a≠zag b:=by
 intro e
 apply h
 have:=congrArg (fun l:Nm=>l[i]?) e
 simpa [zag,ha,hb] using this
theorem zdV(w:World)(a b:Value)(xs ys:List (List UInt8))(ha:Row w a (xs.map vs))(hb:Row w b (ys.map vs))(hx:LB xs)(hy:LB ys)(hxl:xs.length≤9000000000000000000)(hyl:ys.length≤9000000000000000000):
  Fn Tryz.prog 22 #[a,b] w (fun v w'=>v= .bool (decide (zag xs=zag ys))∧Ext w w'):=by
 obtain⟨a,ca,rfl,hca,hla⟩:=ha
 obtain⟨b,cb,rfl,hcb,hlb⟩:=hb
 simp only[List.length_map]at*
 refine enter Tryz.func22 Tryz.ntmps22 rfl rfl ?_
 repeat (first|refine c_r ?_|refine rg0 ?_)
 refine zaO (t:=!decide ((xs.length:Int)=ys.length)) (by simp only[go_sem]) ?_ ?_
 ·intro ht
  repeat (first|refine c_r ?_|refine rg0 ?_)
  refine rt0 Tryz.ntmps22 ?_
  exact⟨by rw[decide_eq_false (zeg (by simp at ht;omega))],Keep.refl _ _⟩
 ·intro ht
  repeat (first|refine c_r ?_|refine rg0 ?_)
  refine zai (fun m σ ds v=>ds=[]∧∃i,i+m=xs.length∧σ 5=vi i∧σ 0= .slice a xs.length ca∧σ 1= .slice b ys.length cb∧Ext w v∧zag (xs.take i)=zag (ys.take i)) xs.length ?_ ?_
  ·refine⟨rfl,0,by omega,?_,?_,?_,Keep.refl _ _,by simp[zag]⟩<;>simp only[go_sem]<;>rfl
  ·rintro m σ ds v ⟨rfl,i,him,h5,h0,h1,hE,hpre⟩
   refine zgN ?_
   refine zgN ?_
   refine rq ?_;intro gd K hgd hK
   simp only[go_sem,h5,h0,h1]
   refine hK _ _ ?_;clear hK hgd;clear K;try clear gd
   refine zaO (t:=decide ((i:Int)<xs.length)) (by simp only[go_sem]) ?_ ?_
   ·intro hlt
    simp only[decide_eq_true_eq]at hlt
    repeat refine c_r ?_
    refine zaL (fun _=>false) [(0,true),(1,true),(2,true),(3,true),(5,true),(6,true),(7,true),(8,true),(4,false),(9,false),(10,true)] NoS mixed (by kernel_rfl) ?_;intro gd K x hgd hx hxe hK;clear hxe
    have hsa:a.isSome=true:=zad (hla i (by omega))
    have hsb:b.isSome=true:=zad (hlb i (by simp at ht;omega))
    have hla':=fun j h=>zaa (hE.trans hx) (hla j h)
    have hlb':=fun j h=>zaa (hE.trans hx) (hlb j h)
    have hxy:xs.length=ys.length:=by simp at ht;omega
    clear ht
    simp (disch:=first|omega|assumption) only[go_sem,h5,h0,h1,hla',hlb',List.getElem_map]
    refine Fn.mono (zbF _ _ (LB.get ‹LB _› _)) ?_
    rintro _ x1 ⟨rfl,hx1⟩
    refine⟨.inr hx1,?_⟩
    simp (disch:=first|omega|assumption|rfl) only[go_sem]
    refine Fn.mono (zbF _ _ (LB.get ‹LB _› _)) ?_
    rintro _ x2 ⟨rfl,hx2⟩
    refine⟨.inr hx2,?_⟩
    simp only[go_sem]
    refine hK _ _ ?_;clear hK hgd;clear K;try clear gd
    repeat refine c_r ?_
    refine zaO (by simp only[go_sem];rfl) ?_ ?_
    ·intro hne
     simp only[Bool.not_eq_true',decide_eq_false_iff_not]at hne
     repeat (first|refine c_r ?_|refine rg0 ?_)
     refine rt0 Tryz.ntmps22 ?_
     exact⟨by rw[decide_eq_false (ze1 (i:=i) (by omega) (by omega) hne)],((hE.trans hx).trans hx1).trans hx2⟩
    ·intro heq
     simp only[Bool.not_eq_false',decide_eq_true_eq]at heq
     repeat refine c_r ?_
     refine rq ?_;intro gd K hgd hK
     simp (disch:=first|omega|assumption) only[go_sem,h5,h0,h1]
     refine hK _ _ ?_;clear hK hgd;clear K;try clear gd
     refine zaC ?_
     refine⟨m - 1,by omega,rfl,i+1,by omega,?_,?_,?_,((hE.trans hx).trans hx1).trans hx2,?_⟩
     ·simp only[go_sem];rfl
     ·simp only[go_sem,h0]
     ·simp only[go_sem,h1]
     ·rw[zb0 (by omega),zb0 (by omega),hpre,heq]
   ·intro hge
    simp only[decide_eq_false_iff_not]at hge
    repeat (first|refine c_r ?_|refine rg0 ?_)
    refine rt0 Tryz.ntmps22 ?_
    refine⟨?_,hE⟩
    rw[List.take_of_length_le (by omega),List.take_of_length_le (by simp at ht;omega)]at hpre
    rw[decide_eq_true hpre]
theorem Row.cut{w:World}{a:Option Addr}{n c:Nat}{l:List Value}(hn:n=l.length)(hc:n≤c)(hl:∀j (h:j<l.length),zah w (adr a j)=some l[j]){lo hi:Nat}(h1:lo≤hi)(h2:hi≤n):
  Row w (.slice (if c=lo then a else adr a lo) (hi - lo) (c - lo)) ((l.drop lo).take (hi - lo)):=by
 have hlen:((l.drop lo).take (hi - lo)).length=hi - lo:=by simp;omega
 refine⟨_,_,by rw[hlen],by omega,fun j hj=>?_⟩
 rw[hlen]at hj
 rw[if_neg (by omega),zf3,hl (lo+j) (by omega)]
 simp
theorem Row.tail{w:World}{a:Option Addr}{n c:Nat}{l:List Value}(hn:n=l.length)(hc:n≤c)(hl:∀j (h:j<l.length),zah w (adr a j)=some l[j]){lo:Nat}(h2:lo≤n):
  Row w (.slice (if c=lo then a else adr a lo) (n - lo) (c - lo)) (l.drop lo):=by
 have:=Row.cut hn hc hl h2 (Nat.le_refl _)
 rwa [List.take_of_length_le (by simp;omega)]at this
def za0(n z:Nm):Bool:=decide (z.length≤n.length) && decide (zag (n.drop (n.length - z.length))=zag z)
theorem LB.drop{n:Nm}(h:LB n)(k:Nat):LB (n.drop k):=fun l hl=>h l (List.drop_subset _ _ hl)
theorem zgR(w:World)(a b:Value)(xs ys:Nm)(ha:Row w a (xs.map vs))(hb:Row w b (ys.map vs))(hx:LB xs)(hy:LB ys)(hxl:xs.length≤9000000000000000000)(hyl:ys.length≤9000000000000000000):
  Fn Tryz.prog 71 #[a,b] w (fun v w'=>v= .bool (za0 xs ys)∧Ext w w'):=by
 have hb0:=hb
 obtain⟨a,ca,rfl,hca,hla⟩:=ha
 obtain⟨b,cb,rfl,hcb,hlb⟩:=hb
 simp only[List.length_map]at*
 refine enter Tryz.func71 Tryz.ntmps71 rfl rfl ?_
 repeat refine c_r ?_
 refine rg0 ?_
 repeat refine c_r ?_
 refine rq ?_;intro gd K hgd hK
 have hg5:∀n σ b,zas gd n σ (some (5,b))=zaj (ev n σ (.tmp 10)) b:=(fun n σ b=>by rw[zab,show gd 5=some 10 from(by rw[hgd];rfl)];rfl)
 by_cases h:(ys.length:Int)≤xs.length
 ·try simp (disch:=first|omega|assumption|rfl) only[go_sem,decide_eq_true h,↓hg5]
  have hd:((xs.length:Int) - ys.length).toNat=xs.length - ys.length:=by omega
  have hcut:=Row.tail (l:=xs.map vs) (by simp) hca (fun j hj=>by rw[hla j (by simpa using hj)]) (lo:=xs.length - ys.length) (by omega)
  rw[←List.map_drop]at hcut
  rw[hd]
  refine Fn.mono (zdV w _ _ _ _ hcut hb0 (hx.drop _) hy (by simp;omega) hyl) ?_
  rintro _ w1 ⟨rfl,hE⟩
  try simp (disch:=first|omega|assumption|rfl) only[go_sem,decide_eq_true h,↓hg5]
  refine hK _ _ ?_;clear hK hgd;clear K;try clear gd
  repeat refine c_r ?_
  refine rt0 Tryz.ntmps71 ?_
  exact⟨by simp[za0];omega,hE⟩
 ·try simp (disch:=first|omega|assumption|rfl) only[go_sem,decide_eq_false h,↓hg5]
  refine hK _ _ ?_;clear hK hgd;clear K;try clear gd
  repeat refine c_r ?_
  refine rt0 Tryz.ntmps71 ?_
  exact⟨by simp[za0];omega,Keep.refl _ _⟩
theorem LSame_ok(w:World)(a b:List UInt8)(ha:a.length≤9000000000000000000)(hb:b.length≤9000000000000000000):Fn Tryz.prog 82 #[vs a,vs b] w (fun v w'=>v= .bool (decide (zaF a=zaF b))∧Ext w w'):=by
 refine enter Tryz.func82 Tryz.ntmps82 rfl rfl ?_
 repeat refine c_r ?_
 refine rg0 ?_
 repeat refine c_r ?_
 refine rq ?_;intro gd K hgd hK
 try simp only[go_sem]
 refine Fn.mono (zcg _ _ ha) ?_
 rintro _ w1 ⟨rfl,hE1⟩
 try simp only[go_sem]
 refine Fn.mono (zcg _ _ hb) ?_
 rintro _ w2 ⟨rfl,hE2⟩
 try simp only[go_sem]
 refine hK _ _ ?_;clear hK hgd;clear K;try clear gd
 repeat refine c_r ?_
 refine rt0 Tryz.ntmps82 ?_
 exact⟨rfl,hE1.trans hE2⟩
theorem zgY(w:World)(a b:Value)(xs ys:Nm)(ha:Row w a (xs.map vs))(hb:Row w b (ys.map vs))(hx:LB xs)(hy:LB ys)(hxl:xs.length≤9000000000000000000)(hyl:ys.length≤9000000000000000000):
  Fn Tryz.prog 81 #[a,b,.func (.func 82) #[] #[]] w (fun v w'=>v= .bool (decide (zag xs=zag ys))∧Ext w w'):=by
 obtain⟨a,ca,rfl,hca,hla⟩:=ha
 obtain⟨b,cb,rfl,hcb,hlb⟩:=hb
 simp only[List.length_map]at*
 refine enter Tryz.func81 Tryz.ntmps81 rfl rfl ?_
 repeat (first|refine c_r ?_|refine rg0 ?_)
 refine zaO (t:=!decide ((xs.length:Int)=ys.length)) (by simp only[go_sem]) ?_ ?_
 ·intro ht
  repeat (first|refine c_r ?_|refine rg0 ?_)
  refine rt0 Tryz.ntmps81 ?_
  exact⟨by rw[decide_eq_false (zeg (by simp at ht;omega))],Keep.refl _ _⟩
 ·intro ht
  have hxy:xs.length=ys.length:=by simp at ht;omega
  clear ht
  repeat (first|refine c_r ?_|refine rg0 ?_)
  refine zai (fun m σ ds v=>ds=[]∧∃i,i+m=xs.length∧σ 17=vi i∧σ 16=vi xs.length∧σ 15= .slice a xs.length ca∧σ 1= .slice b ys.length cb∧σ 2= .func (.func 82) #[] #[]∧Ext w v∧zag (xs.take i)=zag (ys.take i)) xs.length ?_ ?_
  ·refine⟨rfl,0,by omega,?_,?_,?_,?_,?_,Keep.refl _ _,by simp[zag]⟩<;>simp only[go_sem]<;>rfl
  ·rintro m σ ds v ⟨rfl,i,him,h17,h16,h15,h1,h2,hE,hpre⟩
   repeat refine c_r ?_
   refine rg2 h17 h16 ?_
   repeat refine c_r ?_
   refine wc0 ?_ ?_
   ·intro hlt
    simp only[decide_eq_true_eq]at hlt
    have hsa:a.isSome=true:=zad (hla i (by omega))
    have hsb:b.isSome=true:=zad (hlb i (by omega))
    have hla':=fun j h=>zaa hE (hla j h)
    have hlb':=fun j h=>zaa hE (hlb j h)
    repeat (first|refine c_r ?_| (refine zcv (by rfl) ?_;intro gd K hgd hK;simp (disch:=first|omega|assumption|rfl) only[go_sem,h17,h15,h1,hla',hlb',List.getElem_map];refine hK _ _ ?_;clear hK hgd;clear K gd))
    refine rq ?_;intro gd K hgd hK
    try simp (disch:=first|omega|assumption|rfl) only[go_sem,h2]
    refine Fn.mono (LSame_ok _ _ _ (LB.get hx _) (LB.get hy _)) ?_
    rintro _ x1 ⟨rfl,hx1⟩
    try simp only[go_sem]
    refine hK _ _ ?_;clear hK hgd;clear K;try clear gd
    repeat refine c_r ?_
    refine wc0 ?_ ?_
    ·intro hne
     simp only[Bool.not_eq_true',decide_eq_false_iff_not]at hne
     repeat refine c_r ?_
     refine rg0 ?_
     repeat refine c_r ?_
     refine rt0 Tryz.ntmps81 ?_
     exact⟨by rw[decide_eq_false (ze1 (i:=i) (by omega) (by omega) hne)],hE.trans hx1⟩
    ·intro heq
     simp only[Bool.not_eq_false',decide_eq_true_eq]at heq
     repeat refine c_r ?_
     refine rg1 h17 ?_
     refine zaC ?_
     refine⟨m - 1,by omega,rfl,i+1,by omega,?_,?_,?_,?_,?_,hE.trans hx1,?_⟩
     ·simp only[go_sem];rfl
     ·simp only[go_sem,h16]
     ·simp only[go_sem,h15]
     ·simp only[go_sem,h1]
     ·simp only[go_sem,h2]
     ·rw[zb0 (by omega),zb0 (by omega),hpre,heq]
   ·intro hge
    simp only[decide_eq_false_iff_not]at hge
    repeat (first|refine c_r ?_|refine rg0 ?_)
    refine rt0 Tryz.ntmps81 ?_
    refine⟨?_,hE⟩
    rw[List.take_of_length_le (by omega),List.take_of_length_le (by omega)]at hpre
    rw[decide_eq_true hpre]
theorem zku(w:World)(a b:Value)(xs ys:Nm)(ha:Row w a (xs.map vs))(hb:Row w b (ys.map vs))(hx:LB xs)(hy:LB ys)(hxl:xs.length≤9000000000000000000)(hyl:ys.length≤9000000000000000000):
  Fn Tryz.prog 28 #[a,b] w (fun v w'=>v= .bool (decide (zag xs=zag ys))∧Ext w w'):=by
 refine enter Tryz.func28 Tryz.ntmps28 rfl rfl ?_
 repeat refine c_r ?_
 refine rg0 ?_
 repeat refine c_r ?_
 refine rq ?_;intro gd K hgd hK
 try simp only[go_sem]
 refine Fn.mono (zgY w _ _ _ _ ha hb hx hy hxl hyl) ?_
 rintro _ w1 ⟨rfl,hE⟩
 try simp only[go_sem]
 refine hK _ _ ?_;clear hK hgd;clear K;try clear gd
 repeat refine c_r ?_
 refine rt0 Tryz.ntmps28 ?_
 exact⟨rfl,hE⟩
theorem zdk(w:World)(a b:Value)(xs ys:Nm)(ha:Row w a (xs.map vs))(hb:Row w b (ys.map vs))(hx:LB xs)(hy:LB ys)(hxl:xs.length≤9000000000000000000)(hyl:ys.length≤9000000000000000000):
  Fn Tryz.prog 32 #[a,b] w (fun v w'=>v= .bool (za0 xs ys)∧Ext w w'):=by
 have hb0:=hb
 obtain⟨a,ca,rfl,hca,hla⟩:=ha
 obtain⟨b,cb,rfl,hcb,hlb⟩:=hb
 simp only[List.length_map]at*
 refine enter Tryz.func32 Tryz.ntmps32 rfl rfl ?_
 repeat refine c_r ?_
 refine rg0 ?_
 repeat refine c_r ?_
 refine rq ?_;intro gd K hgd hK
 have hg5:∀n σ b,zas gd n σ (some (5,b))=zaj (ev n σ (.tmp 10)) b:=(fun n σ b=>by rw[zab,show gd 5=some 10 from(by rw[hgd];rfl)];rfl)
 by_cases h:(ys.length:Int)≤xs.length
 ·try simp (disch:=first|omega|assumption|rfl) only[go_sem,decide_eq_true h,↓hg5]
  have hd:((xs.length:Int) - ys.length).toNat=xs.length - ys.length:=by omega
  have hcut:=Row.tail (l:=xs.map vs) (by simp) hca (fun j hj=>by rw[hla j (by simpa using hj)]) (lo:=xs.length - ys.length) (by omega)
  rw[←List.map_drop]at hcut
  rw[hd]
  refine Fn.mono (zku w _ _ _ _ hcut hb0 (hx.drop _) hy (by simp;omega) hyl) ?_
  rintro _ w1 ⟨rfl,hE⟩
  try simp (disch:=first|omega|assumption|rfl) only[go_sem,decide_eq_true h,↓hg5]
  refine hK _ _ ?_;clear hK hgd;clear K;try clear gd
  repeat refine c_r ?_
  refine rt0 Tryz.ntmps32 ?_
  exact⟨by simp[za0];omega,hE⟩
 ·try simp (disch:=first|omega|assumption|rfl) only[go_sem,decide_eq_false h,↓hg5]
  refine hK _ _ ?_;clear hK hgd;clear K;try clear gd
  repeat refine c_r ?_
  refine rt0 Tryz.ntmps32 ?_
  exact⟨by simp[za0];omega,Keep.refl _ _⟩
theorem zik(w:World)(a:Value)(xs:Nm)(ha:Row w a (xs.map vs))(hx:LB xs)(hxl:xs.length≤1000000000000):
  Fn Tryz.prog 46 #[a] w (fun v w'=>RowB w.heap.size w' v ((zag xs).map vs)∧Ext w w'):=by
 obtain⟨a,ca,rfl,hca,hla⟩:=ha
 simp only[List.length_map]at*
 refine enter Tryz.func46 Tryz.ntmps46 rfl rfl ?_
 repeat refine c_r ?_
 refine rg0 ?_
 repeat refine c_r ?_
 refine rq ?_;intro gd K hgd hK
 try simp only[go_sem]
 refine zgm (n:=xs.length) rfl rfl rfl rfl (vq0) (vq0) (by show 16*_≤_;omega) (by omega) rfl ?_
 try simp only[go_sem]
 refine hK _ _ ?_;clear hK hgd;clear K;try clear gd
 have hb1:=zam w (.cells (madeCells #[vs []] xs.length) 9 (0,0))
 have hE1:=Ext.alloc w (.cells (madeCells #[vs []] xs.length) 9 (0,0))
 have hs1:=size_madeCells #[vs []] xs.length
 revert hb1 hE1 hs1
 generalize (madeCells #[vs []] xs.length)=cur1
 intro hb1 hE1 hs1
 repeat (first|refine c_r ?_|refine rg0 ?_)
 refine zai (fun m σ ds A=>ds=[]∧∃i,i+m=xs.length∧σ 11=vi i∧σ 10=vi xs.length∧σ 9= .slice a xs.length ca∧σ 3= .slice (some ⟨w.heap.size,0,Option.none⟩) xs.length xs.length∧Ext w A∧
  ∃cur:Array Value,cur.size=xs.length∧cur.toList.take i=(zag (xs.take i)).map vs∧A.heap[w.heap.size]? =some (.cells cur 9 (0,0))) xs.length ?_ ?_
 ·refine⟨rfl,0,by omega,?_,?_,?_,?_,hE1,cur1,hs1,by simp[zag],hb1⟩<;>simp only[go_sem]<;>rfl
 ·rintro m σ ds A ⟨rfl,i,him,h11,h10,h9,h3,hE,cu,hcu,hpre,hrow⟩
  repeat refine c_r ?_
  refine rq ?_;intro gd K hgd hK;simp (disch:=first|omega|assumption|rfl) only[go_sem,h11,h10];refine hK _ _ ?_;clear hK hgd;clear K gd
  repeat refine c_r ?_
  refine wc0 ?_ ?_
  ·intro hlt
   simp only[decide_eq_true_eq]at hlt
   have hsa:a.isSome=true:=zad (hla i (by omega))
   have hla':=fun j h=>zaa hE (hla j h)
   repeat refine c_r ?_
   refine rq ?_;intro gd K hgd hK;simp (disch:=first|omega|assumption|rfl) only[go_sem,h11,h9,hla',List.getElem_map];refine hK _ _ ?_;clear hK hgd;clear K gd
   repeat refine c_r ?_
   refine rq ?_;intro gd K hgd hK
   try simp (disch:=first|omega|assumption|rfl) only[go_sem,h3]
   refine Fn.mono (zcg _ _ (LB.get hx _)) ?_
   rintro _ w5 ⟨rfl,hE5⟩
   try simp (disch:=first|omega|assumption|rfl) only[go_sem,h3]
   refine zbj rfl rfl rfl ((hE5.block _ (by have:=hE.size;have:=(Array.getElem?_eq_some_iff.1 hrow).1;omega) (fun h=>h)).trans hrow) (by omega) (by simp) ?_
   intro w6 hsz6 hb6 hk6
   refine hK _ _ ?_;clear hK hgd;clear K;try clear gd
   repeat refine c_r ?_
   refine rq ?_;intro gd K hgd hK;simp (disch:=first|omega|assumption|rfl) only[go_sem,h11];refine hK _ _ ?_;clear hK hgd;clear K gd
   repeat refine c_r ?_
   refine⟨m - 1,by omega,rfl,i+1,by omega,by simp only[go_sem];rfl,(vq1 h10),(vq1 h9),(vq1 h3),Keep.to_ext (hE.trans hE5) rfl (fun b hb=>by omega) hk6,_,by simpa using hcu,?_,hb6⟩
   rw[zb0 (by omega),Array.toList_setIfInBounds,zak (by simp;omega),List.take_set_of_le (by omega),hpre,List.map_append]
   simp
  ·intro hge
   simp only[decide_eq_false_iff_not]at hge
   repeat refine c_r ?_
   refine rg1 h3 ?_
   repeat refine c_r ?_
   refine rt0 Tryz.ntmps46 ?_
   refine⟨?_,hE⟩
   rw[List.take_of_length_le (l:=xs) (by omega),List.take_of_length_le (by simp;omega)]at hpre
   refine⟨⟨_,_,by rw[List.length_map,zau],by simp[zau],fun j hj=>?_⟩,fun a n c hv=>?_⟩
   ·rw[zaU]
    show A.cell? _=_
    rw[zaG hrow,Nat.zero_add,←Array.getElem?_toList,hpre,List.getElem?_eq_getElem hj]
   ·cases hv
    exact⟨Nat.le_refl _,(Array.getElem?_eq_some_iff.1 hrow).1⟩
theorem zim(w:World)(b:Value)(l:List UInt8)(xs:Nm)(hb:Row w b (xs.map vs))(hxl:xs.length≤8796093022207):
  Fn Tryz.prog 31 #[vs l,b] w (fun v w'=>RowB w.heap.size w' v ((l::xs).map vs)∧Ext w w'):=by
 have hb0:=hb
 obtain⟨b,cb,rfl,hcb,hlb⟩:=hb
 simp only[List.length_map]at*
 refine enter Tryz.func31 Tryz.ntmps31 rfl rfl ?_
 repeat refine c_r ?_
 refine rg0 ?_
 repeat refine c_r ?_
 refine rq ?_;intro gd K hgd hK
 try simp only[go_sem]
 have hbs:bsC Tryz.prog 27 1 [(0,vs l)]=some (9,#[vs l]):=zf1 (z:=vs []) rfl rfl rfl rfl rfl
 unfold bsL bsK
 rw[hbs]
 simp only[]
 have hown:(w.alloc (.cells #[vs l] 9)).ownsRow w.heap.size 9 1 (.slice (some ⟨w.heap.size,0,Option.none⟩) 1 1) 1 [vs l]:=
  ⟨rfl,.inr ⟨w.heap.size,1,#[vs l],rfl,Nat.le_refl _,zam w _,Nat.le_refl _,by decide,rfl,rfl⟩⟩
 try simp only[go_sem]
 refine zcS (P:=Tryz.prog) (e:=9) (size:=1) (bytes:=16) (m:=xs.length) rfl rfl rfl rfl rfl rfl (by decide) (vq0) (by simp only[go_sem];rfl) hown (by simpa using Src1.of_row (hb0.ext (Ext.alloc w _))) ?_ ?_ ?_ (by simp) ?_
 ·intro q hq
  obtain⟨s,_,rfl⟩:=List.mem_map.1 hq
  rfl
 ·simp[maxLen];omega
 ·omega
 intro v' w' hown' hgr _
 try simp only[go_sem]
 refine hK _ _ ?_;clear hK hgd;clear K;try clear gd
 repeat refine c_r ?_
 refine rt0 Tryz.ntmps31 ?_
 exact⟨by simpa using RowB.of_owns hown',Keep.to_ext (Ext.alloc w _) rfl (fun b hb=>by simp[Value.ownBlock]at hb;omega) hgr⟩
def sfx(f:Nm)(k:Nat):Nm:=f.drop (f.length - k)
theorem zhI(f:Nm):sfx f 0=[]:=by simp[sfx]
theorem zfG(f:Nm):sfx f f.length=f:=by simp[sfx]
theorem zhK{l:Lab}{f:Nm}{k:Nat}(h:k≤f.length):sfx (l::f) k=sfx f k:=by
 unfold sfx
 rw[List.length_cons,show f.length+1 - k=(f.length - k)+1 from by omega,List.drop_succ_cons]
theorem zhJ{f:Nm}{k:Nat}(h:k<f.length):sfx f (k+1)=f[f.length - 1 - k]::sfx f k:=by
 unfold sfx
 rw[List.drop_eq_getElem_cons (by omega)]
 congr 1
 ·congr 1;omega
 ·congr 1;omega
theorem zjg{f:Nm}{k:Nat}(h:k≤f.length):(sfx f k).length=k:=by simp[sfx];omega
def dep(names:List Nm):Nm→Nat
 | []=>0
 |l::f=>if l::f∈names then f.length+1 else dep names f
theorem zgC(names:List Nm):∀f,dep names f≤f.length
 | []=>Nat.le_refl _
 |l::f=>by
  unfold dep
  split
  ·simp
  ·have:=zgC names f;simp;omega
theorem zjy{m x:Nat}{pre suf:List Nat}(h:List.range m=pre++x::suf):x=pre.length:=by
 have h1:(List.range m)[pre.length]? =some x:=by rw[h];simp
 rw[List.getElem?_eq_some_iff]at h1
 obtain⟨h2,e⟩:=h1
 simpa using e.symm
structure TS where
 names:List Nm
 val:Nm→Value
 has:Nm→Bool
 nb:Nm→Nat
 mb:Nm→Nat
structure TSok(z:Value)(s:TS):Prop where
 nil:[]∈s.names
 tail:∀l f,l::f∈s.names→f∈s.names
 nd:s.names.Nodup
 injn:∀f∈s.names,∀g∈s.names,s.nb f=s.nb g→f=g
 injm:∀f∈s.names,∀g∈s.names,s.mb f=s.mb g→f=g
 one:∀f,one (s.val f)=true
 out:∀f,f∉s.names→s.val f=z∧s.has f=false
theorem zkg{z:Value}{s:TS}(hs:TSok z s):∀f,sfx f (dep s.names f)∈s.names
 | []=>by simpa [sfx,dep] using hs.nil
 |l::f=>by
  unfold dep
  split
  ·rename_i h
   have:sfx (l::f) (f.length+1)=l::f:=zfG (l::f)
   rw[this];exact h
  ·rw[zhK (zgC _ _)];exact zkg hs f
theorem zi6{z:Value}{s:TS}(hs:TSok z s){f:Nm}(h:f∈s.names):∀k,f.drop k∈s.names
 |0=>by simpa using h
 |k+1=>by
  have:=zi6 hs h k
  rw[←List.drop_drop]
  rcases hd:f.drop k with _| ⟨l,g⟩
  ·simpa [hd] using hs.nil
  ·rw[hd]at this
   simpa [hd] using hs.tail _ _ this
theorem zjh{z:Value}{s:TS}(hs:TSok z s){f:Nm}{k:Nat}(h:k≤dep s.names f):sfx f k∈s.names:=by
 have:=zi6 hs (zkg hs f) (dep s.names f - k)
 have hl:=zgC s.names f
 rwa [show (sfx f (dep s.names f)).drop (dep s.names f - k)=sfx f k from by
  unfold sfx;rw[List.drop_drop];congr 1;omega]at this
theorem zg5{z:Value}{s:TS}(hs:TSok z s):∀{f:Nm} {k:Nat},dep s.names f<k→k≤f.length→sfx f k∉s.names
 | [],k,h,h2=>by simp at h2;omega
 |l::f,k,h,h2=>by
  unfold dep at h
  split at h
  ·simp at h2;omega
  ·rename_i hn
   by_cases hk:k=f.length+1
   ·subst hk;have:=zfG (l::f);rw[List.length_cons]at this;rw[this];exact hn
   ·simp at h2
    rw[zhK (by omega)]
    exact zg5 hs h (by omega)
def zaS(names:List Nm)(f:Nm):List Lab:=
 names.filterMap fun g=>match g with
  |l::h=>if h=f then some l else Option.none
  | []=>Option.none
theorem za1{names:List Nm}{f:Nm}{l:Lab}:l∈zaS names f↔l::f∈names:=by
 simp only[zaS,List.mem_filterMap]
 constructor
 ·rintro⟨g,hg,h⟩
  cases g with
  |nil=>cases h
  |cons a t=>
   simp only at h
   split at h
   ·rename_i e;cases h;subst e;exact hg
   ·cases h
 ·intro h
  exact⟨_,h,by simp⟩
abbrev zav(b:Nat):Value:= .pointer (some ⟨b,0,Option.none⟩)
def za6(s:TS)(f:Nm):List (Lab×Value):=(zaS s.names f).map fun l=>(l,zav (s.nb (l::f)))
theorem ziD{l:List Lab}{g:Lab→Value}{k:Lab}:(l.map fun x=>(x,g x)).lookup k=if k∈l then some (g k) else Option.none:=by
 induction l with
 |nil=>simp
 |cons a l ih=>
  rw[List.map_cons,List.lookup_cons,ih]
  by_cases h:k=a
  ·subst h;simp
  ·have:(k==a)=false:=by simpa using h
   rw[this];simp[h]
theorem zd5(s:TS)(f:Nm)(l:Lab):(za6 s f).lookup l=if l::f∈s.names then some (zav (s.nb (l::f))) else Option.none:=by
 unfold za6
 rw[ziD]
 simp only[za1]
structure TreeAt(tt nt:TypeId)(w:World)(tb:Nat)(s:TS):Prop where
 root:w.heap[tb]? =some (.cells #[zav (s.nb []),.int .i64 (IntKind.i64.wrap s.names.length)] tt (0,0))
 node:∀f∈s.names,w.heap[s.nb f]? =some (.cells #[.map (some (s.mb f)),s.val f,.bool (s.has f)] nt (0,0))
 map:∀f∈s.names,MapAt w (s.mb f) (za6 s f)
theorem TreeAt.ext{tt nt:TypeId}{w x:World}{tb:Nat}{s:TS}(h:TreeAt tt nt w tb s)(hE:Ext w x):TreeAt tt nt x tb s:=by
 have hb:∀{b:Nat} {o:Obj},w.heap[b]? =some o→x.heap[b]? =some o:=fun {b o} h=>(hE.block b (Array.getElem?_eq_some_iff.1 h).1 (fun h=>h)).trans h
 refine⟨hb h.root,fun f hf=>hb (h.node f hf),fun f hf=>?_⟩
 obtain⟨es,clk,h1,_⟩:=h.map f hf
 exact(h.map f hf).block (by rw[hb h1,h1])
def tblk(tb:Nat)(s:TS):Nat→Prop:=fun b=>b=tb∨∃g∈s.names,b=s.nb g∨b=s.mb g
theorem TreeAt.lt{tt nt:TypeId}{w:World}{tb:Nat}{s:TS}(h:TreeAt tt nt w tb s){b:Nat}(hb:tblk tb s b):b<w.heap.size:=by
 rcases hb with rfl| ⟨g,hg,rfl|rfl⟩
 ·exact(Array.getElem?_eq_some_iff.1 h.root).1
 ·exact(Array.getElem?_eq_some_iff.1 (h.node g hg)).1
 ·obtain⟨es,clk,h1,_⟩:=h.map g hg
  exact(Array.getElem?_eq_some_iff.1 h1).1
theorem TreeAt.keep{tt nt:TypeId}{w x:World}{tb:Nat}{s:TS}(h:TreeAt tt nt w tb s)(hE:∀b,tblk tb s b→x.heap[b]? =w.heap[b]?):TreeAt tt nt x tb s:=
 ⟨(hE _ (.inl rfl)).trans h.root,fun f hf=>(hE _ (.inr ⟨f,hf,.inl rfl⟩)).trans (h.node f hf),fun f hf=>(h.map f hf).block (hE _ (.inr ⟨f,hf,.inr rfl⟩))⟩
def TS.add(s:TS)(g:Nm)(B:Nat)(z:Value):TS:=
 {names:=s.names++ [g],val:=fun f=>if f=g then z else s.val f,has:=fun f=>if f=g then false else s.has f,
  nb:=fun f=>if f=g then B+1 else s.nb f,mb:=fun f=>if f=g then B else s.mb f}
theorem TSok.add{z:Value}{s:TS}(hs:TSok z s){l:Lab}{h:Nm}{B:Nat}(hz:_root_.Go.Proofs.YtahbdamijngmmaaGreat.one z=true)(hh:h∈s.names)(hg:l::h∉s.names)(hn:∀f∈s.names,s.nb f<B)(hm:∀f∈s.names,s.mb f<B):TSok z (s.add (l::h) B z):=by
 have hmem:∀f,f∈(s.add (l::h) B z).names↔f∈s.names∨f=l::h:=fun f=>by simp[TS.add]
 refine⟨by rw[hmem];exact .inl hs.nil,?_,?_,?_,?_,?_,?_⟩
 ·intro l' f hf
  rw[hmem]at hf ⊢
  rcases hf with hf|hf
  ·exact .inl (hs.tail _ _ hf)
  ·cases hf;exact .inl hh
 ·simp only[TS.add,List.nodup_append]
  refine⟨hs.nd,by simp,fun a ha b hb=>?_⟩
  simp at hb;subst hb
  rintro rfl;exact hg ha
 ·intro f hf g' hg' he
  rw[hmem]at hf hg'
  simp only[TS.add]at he
  split at he<;>split at he
  ·simp_all
  ·rename_i h1 h2
   have:=hn g' (hg'.resolve_right h2);omega
  ·rename_i h1 h2
   have:=hn f (hf.resolve_right h1);omega
  ·rename_i h1 h2
   exact hs.injn f (hf.resolve_right h1) g' (hg'.resolve_right h2) he
 ·intro f hf g' hg' he
  rw[hmem]at hf hg'
  simp only[TS.add]at he
  split at he<;>split at he
  ·simp_all
  ·rename_i h1 h2
   have:=hm g' (hg'.resolve_right h2);omega
  ·rename_i h1 h2
   have:=hm f (hf.resolve_right h1);omega
  ·rename_i h1 h2
   exact hs.injm f (hf.resolve_right h1) g' (hg'.resolve_right h2) he
 ·intro f
  simp only[TS.add]
  split
  ·exact hz
  ·exact hs.one f
 ·intro f hf
  rw[hmem]at hf
  have h1:f≠l::h:=fun e=>hf (.inr e)
  simp only[TS.add,if_neg h1]
  exact hs.out f (fun e=>hf (.inl e))
theorem zda(names:List Nm)(l:Lab)(h f:Nm):zaS (names++ [l::h]) f=if f=h then zaS names f++ [l] else zaS names f:=by
 unfold zaS
 rw[List.filterMap_append]
 by_cases e:f=h
 ·subst e;simp
 ·have e':¬h=f:=fun x=>e x.symm
  simp[e,e']
theorem TreeAt.add{tt nt:TypeId}{w x:World}{tb:Nat}{z:Value}{s:TS}(ht:TreeAt tt nt w tb s)(hs:TSok z s){l:Lab}{h:Nm}{B:Nat}(hh:h∈s.names)(hg:l::h∉s.names)(hB:w.heap.size≤B)
  (hroot:x.heap[tb]? =some (.cells #[zav (s.nb []),.int .i64 (IntKind.i64.wrap (s.names.length+1))] tt (0,0)))
  (hnew:x.heap[B+1]? =some (.cells #[.map (some B),z,.bool false] nt (0,0))) (hnm:MapAt x B [])
  (hmap:MapAt x (s.mb h) (za6 s h++ [(l,zav (B+1))]))
  (hrest:∀b,tblk tb s b→b≠tb→b≠s.mb h→x.heap[b]? =w.heap[b]?):TreeAt tt nt x tb (s.add (l::h) B z):=by
 have hmem:∀f,f∈(s.add (l::h) B z).names↔f∈s.names∨f=l::h:=fun f=>by simp[TS.add]
 have hne:∀{f},f∈s.names→f≠l::h:=fun hf e=>hg (e▸hf)
 have hnt:∀{f},f∈s.names→s.nb f≠tb:=fun {f} hf e=>by
  have h1:=ht.node f hf;rw[e,ht.root]at h1;simp at h1
 have hnm':∀{f g},f∈s.names→g∈s.names→s.nb f≠s.mb g:=fun {f g} hf hg e=>by
  have h1:=ht.node f hf
  obtain⟨es,clk,h2,_⟩:=ht.map g hg
  rw[e,h2]at h1;cases h1
 have hmt:∀{f},f∈s.names→s.mb f≠tb:=fun {f} hf e=>by
  obtain⟨es,clk,h2,_⟩:=ht.map f hf
  rw[e,ht.root]at h2;cases h2
 have hkc:∀f,f∈s.names→f≠h→za6 (s.add (l::h) B z) f=za6 s f:=fun f hf e=>by
  unfold za6
  rw[show (s.add (l::h) B z).names=s.names++ [l::h] from rfl,zda,if_neg e]
  refine List.map_congr_left fun k hk=>?_
  rw[za1]at hk
  simp only[TS.add,if_neg (hne hk)]
 refine⟨?_,?_,?_⟩
 ·have e:(s.add (l::h) B z).names.length=s.names.length+1:=by simp[TS.add]
  have e2:(s.add (l::h) B z).nb []=s.nb []:=by simp[TS.add]
  rw[e,e2,hroot];push_cast;rfl
 ·intro f hf
  rw[hmem]at hf
  rcases hf with hf|rfl
  ·have h1:=hne hf
   simp only[TS.add,if_neg h1]
   exact(hrest _ (.inr ⟨f,hf,.inl rfl⟩) (hnt hf) (hnm' hf hh)).trans (ht.node f hf)
  ·simp only[TS.add,if_pos];exact hnew
 ·intro f hf
  rw[hmem]at hf
  rcases hf with hf|rfl
  ·have h1:=hne hf
   have e3:(s.add (l::h) B z).mb f=s.mb f:=by simp[TS.add,h1]
   rw[e3]
   by_cases e:f=h
   ·subst e
    have:za6 (s.add (l::f) B z) f=za6 s f++ [(l,zav (B+1))]:=by
     unfold za6
     rw[show (s.add (l::f) B z).names=s.names++ [l::f] from rfl,zda,if_pos rfl,List.map_append]
     congr 1
     ·refine List.map_congr_left fun k hk=>?_
      rw[za1]at hk
      simp only[TS.add,if_neg (hne hk)]
     ·simp[TS.add]
    rw[this];exact hmap
   ·rw[hkc f hf e]
    exact(ht.map f hf).block (hrest _ (.inr ⟨f,hf,.inr rfl⟩) (hmt hf) (fun e'=>e (hs.injm _ hf _ hh e')))
  ·have e3:(s.add (l::h) B z).mb (l::h)=B:=by simp[TS.add]
   have e4:za6 (s.add (l::h) B z) (l::h)=[]:=by
    unfold za6
    rw[show (s.add (l::h) B z).names=s.names++ [l::h] from rfl,zda,if_neg (by simp)]
    have:zaS s.names (l::h)=[]:=by
     rw[List.eq_nil_iff_forall_not_mem]
     intro k hk
     rw[za1]at hk
     exact hg (hs.tail _ _ hk)
    rw[this];rfl
   rw[e3,e4];exact hnm
def TS.set(s:TS)(g:Nm)(v:Value):TS:={s with val:=fun f=>if f=g then v else s.val f,has:=fun f=>if f=g then true else s.has f}
theorem TSok.set{z v:Value}{s:TS}(hs:TSok z s){g:Nm}(hg:g∈s.names)(hv:_root_.Go.Proofs.YtahbdamijngmmaaGreat.one v=true):TSok z (s.set g v):=by
 refine⟨hs.nil,hs.tail,hs.nd,hs.injn,hs.injm,?_,?_⟩
 ·intro f;simp only[TS.set];split
  ·exact hv
  ·exact hs.one f
 ·intro f hf
  have hne:f≠g:=fun e=>hf (e▸hg)
  simp only[TS.set,if_neg hne]
  exact hs.out f hf
theorem TreeAt.set{tt nt:TypeId}{w x:World}{tb:Nat}{z v:Value}{s:TS}(ht:TreeAt tt nt w tb s)(hs:TSok z s){g:Nm}(hg:g∈s.names)
  (hnew:x.heap[s.nb g]? =some (.cells #[.map (some (s.mb g)),v,.bool true] nt (0,0))) (hrest:∀b,tblk tb s b→b≠s.nb g→x.heap[b]? =w.heap[b]?):TreeAt tt nt x tb (s.set g v):=by
 refine⟨?_,?_,?_⟩
 ·refine(hrest tb (.inl rfl) (fun e=>?_)).trans ht.root
  have h1:=ht.node g hg;rw[←e,ht.root]at h1;simp at h1
 ·intro f hf
  by_cases e:f=g
  ·subst e
   simp only[TS.set,if_pos];exact hnew
  ·simp only[TS.set,if_neg e]
   exact(hrest _ (.inr ⟨f,hf,.inl rfl⟩) (fun e'=>e (hs.injn _ hf _ hg e'))).trans (ht.node f hf)
 ·intro f hf
  refine(ht.map f hf).block (hrest _ (.inr ⟨f,hf,.inr rfl⟩) (fun e=>?_))
  obtain⟨es,clk,h2,_⟩:=ht.map f hf
  have h1:=ht.node g hg
  have e':s.mb f=s.nb g:=e
  rw[←e',h2]at h1;cases h1
theorem KeepB.to_ext{n0:Nat}{C:Nat→Prop}{w0 w x:World}(h0:Ext w0 w)(h:KeepB n0 C w x)(hn:w0.heap.size≤n0)(hC:∀b,C b→w0.heap.size≤b):Ext w0 x:=
  ⟨h.os.trans h0.os,h.tape.trans h0.tape,h.output.trans h0.output,Nat.le_trans h0.size h.size,
   fun b hb _=>(h.block b (by omega) (fun hc=>by have:=hC b hc;omega)).trans (h0.block b hb (fun x=>x)),Nat.le_trans h0.drawn h.drawn⟩
abbrev cmpL:Lab→Lab→Int:=Lib.compareBytes
theorem zb1{a b:UInt8}:a<b↔a.toNat<b.toNat:=UInt8.lt_iff_toNat_lt
theorem zcW:∀a:Lab,cmpL a a=0
 | []=>rfl
 |a::l=>by
  show(if a<a then _ else if a<a then _ else cmpL l l)=0
  have h:¬a<a:=by rw[zb1];omega
  rw[if_neg h,if_neg h];exact zcW l
theorem zbp:∀a b:Lab,cmpL b a= - cmpL a b
 | [],[]=>rfl
 | [],_::_=>rfl
 |_::_,[]=>rfl
 |a::l,b::m=>by
  show(if b<a then _ else if a<b then _ else cmpL m l)= - (if a<b then(-1:Int) else if b<a then 1 else cmpL l m)
  by_cases h1:a<b
  ·have h2:¬b<a:=by rw[zb1]at*;omega
   rw[if_neg h2,if_pos h1,if_pos h1];rfl
  ·by_cases h2:b<a
   ·rw[if_pos h2,if_neg h1,if_pos h2]
   ·rw[if_neg h2,if_neg h1,if_neg h1,if_neg h2];exact zbp l m
theorem zbz:∀{a b:Lab},cmpL a b=0→a=b
 | [],[],_=>rfl
 | [],_::_,h=>by cases h
 |_::_,[],h=>by cases h
 |a::l,b::m,h=>by
  change (if a<b then(-1:Int) else if b<a then 1 else cmpL l m)=0 at h
  by_cases h1:a<b
  ·rw[if_pos h1]at h;cases h
  ·by_cases h2:b<a
   ·rw[if_neg h1,if_pos h2]at h;cases h
   ·rw[if_neg h1,if_neg h2]at h
    have e:a=b:=by
     apply UInt8.toNat_inj.1
     rw[zb1]at*;omega
    rw[e,zbz h]
theorem zdg:∀{a b c:Lab},cmpL a b≤0→cmpL b c≤0→cmpL a c≤0
 | [],_,[],_,_=>Int.le_refl _
 | [],_,_::_,_,_=>by show(-1:Int)≤0;omega
 |a::l,[],_,h,_=>by exact absurd h (by show¬(1:Int)≤0;omega)
 |a::l,b::m,[],_,h=>by exact absurd h (by show¬(1:Int)≤0;omega)
 |a::l,b::m,c::n,h1,h2=>by
  change (if a<b then(-1:Int) else if b<a then 1 else cmpL l m)≤0 at h1
  change (if b<c then(-1:Int) else if c<b then 1 else cmpL m n)≤0 at h2
  show(if a<c then(-1:Int) else if c<a then 1 else cmpL l n)≤0
  by_cases e1:a<b
  ·have e3:¬c<b∨c<b:=by by_cases h:c<b<;>simp[h]
   by_cases e2:c<b
   ·have e4:¬b<c:=by rw[zb1]at*;omega
    rw[if_neg e4,if_pos e2]at h2;omega
   ·have:a<c:=by rw[zb1]at*;omega
    rw[if_pos this];omega
  ·by_cases e2:b<a
   ·rw[if_neg e1,if_pos e2]at h1;omega
   ·have e:a=b:=by
     apply UInt8.toNat_inj.1
     rw[zb1]at*;omega
    subst e
    rw[if_neg e1,if_neg e2]at h1
    by_cases e3:a<c
    ·rw[if_pos e3];omega
    ·by_cases e4:c<a
     ·rw[if_neg e3,if_pos e4]at h2;omega
     ·rw[if_neg e3,if_neg e4]at h2
      rw[if_neg e3,if_neg e4]
      exact zdg h1 h2
def leL(a b:Lab):Bool:=decide (cmpL a b≤0)
def zdn(l:List Lab):List Lab:=l.mergeSort leL
theorem zjP(a b c:Lab)(h1:leL a b=true)(h2:leL b c=true):leL a c=true:=by
 simp only[leL,decide_eq_true_eq]at*;exact zdg h1 h2
theorem zjQ(a b:Lab):(leL a b||leL b a)=true:=by
 simp only[leL,Bool.or_eq_true,decide_eq_true_eq]
 have:=zbp a b;omega
theorem leL_anti{a b:Lab}(h1:leL a b=true)(h2:leL b a=true):a=b:=by
 simp only[leL,decide_eq_true_eq]at*
 have:=zbp a b
 exact zbz (by omega)
theorem zbH(l:List Lab):(zdn l).Perm l:=List.mergeSort_perm _ _
theorem zcd(l:List Lab):(zdn l).Pairwise (fun a b=>leL a b=true):=List.pairwise_mergeSort zjP zjQ l
theorem zgc{l m:List Lab}(h1:l.Pairwise (fun a b=>leL a b=true))(h2:m.Pairwise (fun a b=>leL a b=true))(hp:l.Perm m):l=m:=
 List.Perm.eq_of_pairwise (fun _ _ _ _=>leL_anti) h1 h2 hp
theorem zg2{l m:List Lab}(h:l.Perm m):zdn l=zdn m:=
 zgc (zcd l) (zcd m) ((zbH l).trans (h.trans (zbH m).symm))
theorem zfc:∀a b:Lab,zcY a b=decide (cmpL a b<0)
 | [],[]=>rfl
 | [],_::_=>rfl
 |_::_,[]=>rfl
 |a::l,b::m=>by
  show(decide (a<b)|| (a==b && zcY l m))=decide ((if a<b then(-1:Int) else if b<a then 1 else cmpL l m)<0)
  by_cases h1:a<b
  ·simp[h1]
  ·by_cases h2:b<a
   ·have:¬a=b:=by rintro rfl;exact h1 h2
    simp[h1,h2,this]
   ·have:a=b:=by apply UInt8.toNat_inj.1;rw[zb1]at*;omega
    subst this
    simp[h1,zfc l m]
theorem zfz:∀a b:Lab,cmpL a b= -1∨cmpL a b=0∨cmpL a b=1
 | [],[]=> .inr (.inl rfl)
 | [],_::_=> .inl rfl
 |_::_,[]=> .inr (.inr rfl)
 |a::l,b::m=>by
  show(if a<b then(-1:Int) else if b<a then 1 else cmpL l m)= -1∨(if a<b then(-1:Int) else if b<a then 1 else cmpL l m)=0∨(if a<b then(-1:Int) else if b<a then 1 else cmpL l m)=1
  by_cases h1:a<b
  ·simp[h1]
  ·by_cases h2:b<a
   ·simp[h1,h2]
   ·simp only[h1,h2,if_false];exact zfz l m
theorem zcH{a b c:Lab}(h1:cmpL a b<0)(h2:cmpL b c≤0):cmpL a c<0:=by
 have h3:=zdg (Int.le_of_lt h1) h2
 by_cases h:cmpL a c=0
 ·have:=zbz h
  subst this
  have:=zbp a b
  omega
 ·omega
theorem zfi(w:World)(a b:Lab):Fn Tryz.prog 268 #[vs a,vs b] w (fun v w'=>v=vi (cmpL a b)∧Ext w w'):=by
 have hc:=zfz a b
 have h1:=zfc a b
 have h2:cmpL a b=0↔a=b:=⟨zbz,fun h=>by rw[h];exact zcW _⟩
 refine enter Tryz.func268 Tryz.ntmps268 rfl rfl ?_
 repeat (first|refine c_r ?_|refine rg0 ?_)
 refine wc0 ?_ ?_
 ·intro ht
  rw[h1]at ht
  simp only[decide_eq_true_eq]at ht
  repeat (first|refine c_r ?_|refine rg0 ?_)
  refine rt0 Tryz.ntmps268 ?_
  exact⟨by congr 1;omega,Keep.refl _ _⟩
 ·intro hf
  rw[h1]at hf
  simp only[decide_eq_false_iff_not]at hf
  repeat (first|refine c_r ?_|refine rg0 ?_)
  refine wc0 ?_ ?_
  ·intro ht
   rw[h1]at ht
   simp only[Bool.not_eq_true',Bool.or_eq_false_iff,decide_eq_false_iff_not]at ht
   repeat (first|refine c_r ?_|refine rg0 ?_)
   refine rt0 Tryz.ntmps268 ?_
   refine⟨?_,Keep.refl _ _⟩
   have:¬cmpL a b=0:=fun h=>ht.2 (h2.1 h)
   congr 1;omega
  ·intro hf2
   rw[h1]at hf2
   simp only[Bool.not_eq_false',Bool.or_eq_true,decide_eq_true_eq]at hf2
   repeat (first|refine c_r ?_|refine rg0 ?_)
   refine rt0 Tryz.ntmps268 ?_
   refine⟨?_,Keep.refl _ _⟩
   have:cmpL a b=0:=h2.2 (hf2.resolve_left hf)
   rw[this]
theorem zeo(w:World)(a b:Lab)(ha:a.length≤9000000000000000000)(hb:b.length≤9000000000000000000):Fn Tryz.prog 265 #[vs a,vs b] w (fun v w'=>v=vi (cmpL (zaF a) (zaF b))∧Ext w w'):=by
 refine enter Tryz.func265 Tryz.ntmps265 rfl rfl ?_
 repeat (first|refine c_r ?_|refine rg0 ?_)
 refine rq ?_;intro gd K hgd hK
 try simp only[go_sem]
 refine Fn.mono (zbF _ _ ha) ?_
 rintro _ w1 ⟨rfl,hE1⟩
 try simp only[go_sem]
 refine Fn.mono (zbF _ _ hb) ?_
 rintro _ w2 ⟨rfl,hE2⟩
 try simp only[go_sem]
 refine Fn.mono (zfi _ _ _) ?_
 rintro _ w3 ⟨rfl,hE3⟩
 try simp only[go_sem]
 refine hK _ _ ?_;clear hK hgd;clear K;try clear gd
 repeat refine c_r ?_
 refine rt0 Tryz.ntmps265 ?_
 exact⟨rfl,(hE1.trans hE2).trans hE3⟩
def sgn(n:Int):Int:=if n<0 then -1 else if 0<n then 1 else 0
theorem zdl(w:World)(n:Int):Fn Tryz.prog 266 #[vi n] w (fun v w'=>v=vi (sgn n)∧Ext w w'):=by
 refine enter Tryz.func266 Tryz.ntmps266 rfl rfl ?_
 repeat (first|refine c_r ?_|refine rg0 ?_)
 refine wc0 ?_ ?_
 ·intro ht
  simp only[decide_eq_true_eq]at ht
  repeat (first|refine c_r ?_|refine rg0 ?_)
  refine rt0 Tryz.ntmps266 ?_
  exact⟨by rw[sgn,if_pos ht],Keep.refl _ _⟩
 ·intro hf
  simp only[decide_eq_false_iff_not]at hf
  repeat (first|refine c_r ?_|refine rg0 ?_)
  refine wc0 ?_ ?_
  ·intro ht
   simp only[decide_eq_true_eq]at ht
   repeat (first|refine c_r ?_|refine rg0 ?_)
   refine rt0 Tryz.ntmps266 ?_
   exact⟨by rw[sgn,if_neg hf,if_pos ht],Keep.refl _ _⟩
  ·intro hf2
   simp only[decide_eq_false_iff_not]at hf2
   repeat (first|refine c_r ?_|refine rg0 ?_)
   refine rt0 Tryz.ntmps266 ?_
   exact⟨by rw[sgn,if_neg hf,if_neg hf2],Keep.refl _ _⟩
def cmpR:Nm→Nm→Int
 | [],[]=>0
 | [],_::_=> -1
 |_::_,[]=>1
 |a::l,b::m=>if cmpL a b=0 then cmpR l m else cmpL a b
def cmpN(a b:Nm):Int:=cmpR a.reverse b.reverse
theorem zh5:∀a b:Nm,a=[]∨b=[]→cmpR a b=sgn ((a.length:Int) - b.length)
 | [],[],_=>rfl
 | [],_::_,_=>by simp only[cmpR,sgn,List.length_cons,List.length_nil];rw[if_pos (by omega)]
 |_::_,[],_=>by simp only[cmpR,sgn,List.length_cons,List.length_nil];rw[if_neg (by omega),if_pos (by omega)]
 |_::_,_::_,h=>by simp at h
theorem zgF{a b:Nm}{i:Nat}(ha:i<a.length)(hb:i<b.length):cmpR (a.drop i) (b.drop i)=if cmpL a[i] b[i]=0 then cmpR (a.drop (i+1)) (b.drop (i+1)) else cmpL a[i] b[i]:=by
 rw[List.drop_eq_getElem_cons ha,List.drop_eq_getElem_cons hb];rfl
theorem zca(w:World)(a b:Value)(xs ys:Nm)(ha:Row w a (xs.map vs))(hb:Row w b (ys.map vs))(hx:LB xs)(hy:LB ys)(hxl:xs.length≤9000000000000000000)(hyl:ys.length≤9000000000000000000):
  Fn Tryz.prog 219 #[a,b] w (fun v w'=>v=vi (cmpN (zag xs) (zag ys))∧Ext w w'):=by
 obtain⟨a,ca,rfl,hca,hla⟩:=ha
 obtain⟨b,cb,rfl,hcb,hlb⟩:=hb
 simp only[List.length_map]at*
 refine enter Tryz.func219 Tryz.ntmps219 rfl rfl ?_
 repeat (first|refine c_r ?_|refine rg0 ?_)
 refine zai (fun m σ ds v=>ds=[]∧∃i:Nat,i+m=xs.length∧i≤ys.length∧σ 5=vi (i+1)∧σ 0= .slice a xs.length ca∧σ 1= .slice b ys.length cb∧Ext w v∧cmpN (zag xs) (zag ys)=cmpR ((zag xs).reverse.drop i) ((zag ys).reverse.drop i)) xs.length ?_ ?_
 ·refine⟨rfl,0,by omega,by omega,?_,?_,?_,Keep.refl _ _,by simp[cmpN]⟩<;>simp only[go_sem]<;>rfl
 ·rintro m σ ds v ⟨rfl,i,him,hiy,h5,h0,h1,hE,hinv⟩
  repeat refine c_r ?_
  refine rq ?_;intro gd K hgd hK
  have hg4:∀n σ b,zas gd n σ (some (4,b))=zaj (ev n σ (.tmp 11)) b:=(fun n σ b=>by rw[zab,show gd 4=some 11 from(by rw[hgd];rfl)];rfl)
  have hstep:∀(c:Bool),(c=true↔i<xs.length∧i<ys.length)→c=false→cmpR ((zag xs).reverse.drop i) ((zag ys).reverse.drop i)=sgn ((xs.length:Int) - ys.length):=fun c hc hf=>by
   have hno:¬(i<xs.length∧i<ys.length):=fun h=>by rw[hc.2 h]at hf;cases hf
   have e1:((zag xs).reverse.drop i).length=xs.length - i:=by simp[zau]
   have e2:((zag ys).reverse.drop i).length=ys.length - i:=by simp[zau]
   rw[zh5 _ _ (by
    rcases Nat.lt_or_ge i xs.length with h|h
    ·exact .inr (List.length_eq_zero_iff.1 (by omega))
    ·exact .inl (List.length_eq_zero_iff.1 (by omega))),e1,e2]
   congr 1;omega
  by_cases hlx:((i:Int)+1≤xs.length)
  ·try simp (disch:=first|omega|assumption|rfl) only[go_sem,h5,h0,h1,decide_eq_true hlx,↓hg4]
   refine hK _ _ ?_;clear hK hgd;clear K;try clear gd
   repeat refine c_r ?_
   refine wc0 ?_ ?_
   ·intro hly
    simp only[decide_eq_true_eq]at hly
    have hsa:a.isSome=true:=zad (hla (xs.length - 1 - i) (by omega))
    have hsb:b.isSome=true:=zad (hlb (ys.length - 1 - i) (by omega))
    repeat refine c_r ?_
    refine zaL (fun _=>false) [(0,true),(1,true),(2,true),(3,true),(4,true),(5,true),(6,true),(7,true),(8,true),(9,true),(10,true),(11,true),(12,true),(13,true),(14,false),(15,true)] NoS mixed (by kernel_rfl) ?_;intro gd K x hgd hx hxe hK;clear hxe
    have hla':=fun j h=>zaa (hE.trans hx) (hla j h)
    have hlb':=fun j h=>zaa (hE.trans hx) (hlb j h)
    have e1:((xs.length:Int) - (i+1)).toNat=xs.length - 1 - i:=by omega
    have e2:((ys.length:Int) - (i+1)).toNat=ys.length - 1 - i:=by omega
    simp (disch:=first|omega|assumption) only[go_sem,h5,h0,h1,e1,e2,hla',hlb',List.getElem_map]
    refine Fn.mono (zeo _ _ _ (LB.get ‹LB xs› _) (LB.get ‹LB ys› _)) ?_
    rintro _ x1 ⟨rfl,hx1⟩
    refine⟨.inr hx1,?_⟩
    simp (disch:=first|omega|assumption|rfl) only[go_sem]
    refine hK _ _ ?_;clear hK hgd;clear K;try clear gd
    have hst:=zgF (a:=(zag xs).reverse) (b:=(zag ys).reverse) (i:=i) (by simp[zau];omega) (by simp[zau];omega)
    have g1:(zag xs).reverse[i]'(by simp[zau];omega)=zaF (xs[xs.length - 1 - i]'(by omega)):=by
     rw[List.getElem_reverse];simp[zag]
    have g2:(zag ys).reverse[i]'(by simp[zau];omega)=zaF (ys[ys.length - 1 - i]'(by omega)):=by
     rw[List.getElem_reverse];simp[zag]
    rw[g1,g2]at hst
    repeat refine c_r ?_
    refine rg0 ?_
    repeat refine c_r ?_
    refine wc0 ?_ ?_
    ·intro hne
     simp only[Bool.not_eq_true',decide_eq_false_iff_not]at hne
     repeat (first|refine c_r ?_|refine rg0 ?_)
     refine rt0 Tryz.ntmps219 ?_
     refine⟨by rw[hinv,hst,if_neg hne],(hE.trans hx).trans hx1⟩
    ·intro heq
     simp only[Bool.not_eq_false',decide_eq_true_eq]at heq
     repeat refine c_r ?_
     refine rq ?_;intro gd K hgd hK
     try simp (disch:=first|omega|assumption|rfl) only[go_sem,h5]
     refine hK _ _ ?_;clear hK hgd;clear K;try clear gd
     repeat refine c_r ?_
     refine⟨m - 1,by omega,rfl,i+1,by omega,by omega,?_,?_,?_,(hE.trans hx).trans hx1,?_⟩
     ·simp only[go_sem];push_cast;rfl
     ·simp only[go_sem,h0]
     ·simp only[go_sem,h1]
     ·rw[hinv,hst,if_pos heq]
   ·intro hge
    simp only[decide_eq_false_iff_not]at hge
    repeat refine c_r ?_
    refine rq ?_;intro gd K hgd hK
    try simp (disch:=first|omega|assumption|rfl) only[go_sem,h0,h1]
    refine Fn.mono (zdl _ _) ?_
    rintro _ w2 ⟨rfl,hE2⟩
    try simp only[go_sem]
    refine hK _ _ ?_;clear hK hgd;clear K;try clear gd
    repeat refine c_r ?_
    refine rt0 Tryz.ntmps219 ?_
    exact⟨by rw[hinv,hstep false (by simp;omega) rfl],hE.trans hE2⟩
  ·try simp (disch:=first|omega|assumption|rfl) only[go_sem,h5,h0,h1,decide_eq_false hlx,↓hg4]
   refine hK _ _ ?_;clear hK hgd;clear K;try clear gd
   repeat refine c_r ?_
   refine wc0 ?_ ?_
   ·intro h;simp at h
   ·intro _
    repeat refine c_r ?_
    refine rq ?_;intro gd K hgd hK
    try simp (disch:=first|omega|assumption|rfl) only[go_sem,h0,h1]
    refine Fn.mono (zdl _ _) ?_
    rintro _ w2 ⟨rfl,hE2⟩
    try simp only[go_sem]
    refine hK _ _ ?_;clear hK hgd;clear K;try clear gd
    repeat refine c_r ?_
    refine rt0 Tryz.ntmps219 ?_
    exact⟨by rw[hinv,hstep false (by simp;omega) rfl],hE.trans hE2⟩
end Go.Proofs.YtahbdamijngmmaaGreat
namespace Go.Proofs
open Go.Shelf
def Tryz.lays106_ren:Go.Shelf.Ren:=⟨fun|106=>225|213=>271|265=>294|n=>n,fun|9=>9|3=>3|n=>n,fun|n=>n⟩
theorem Tryz.lays106:Go.Proofs.Lays.n106 Tryz.prog Tryz.lays106_ren:={
 mixed:=by kernel_rfl
 f106:=Tryz.func225.trans (congrArg some (by kernel_rfl))
 f213:=Tryz.func271.trans (congrArg some (by kernel_rfl))
 f265:=Tryz.func294.trans (congrArg some (by kernel_rfl))
 t3:=Tryz.underlying3
 a3:=Tryz.isAgg3
 z3:=Tryz.sizeOf3
 v3:=Tryz.zeroValue3
 t9:=Tryz.underlying9
 a9:=Tryz.isAgg9
 z9:=Tryz.sizeOf9
 v9:=Tryz.zeroValue9}
end Go.Proofs
namespace Go.Proofs.YtahbdamijngmmaaGreat
open Go
set_option maxRecDepth 10000
theorem Fn.of_calls{P:Program}{f:FuncId}{args:Array Value}{w:World}{R:Value→World→Prop}(h:Calls P f args w (fun e w'=>∃v,e= .returned v∧R v w')):Fn P f args w R:=callsIn_wide.2 h
theorem Fn.calls{P:Program}{f:FuncId}{args:Array Value}{w:World}{R:Value→World→Prop}(h:Fn P f args w R):Calls P f args w (fun e w'=>∃v,e= .returned v∧R v w'):=callsIn_wide.1 h
theorem zfh(w:World)(a b:Lab):Fn Tryz.prog 225 #[vs a,vs b] w (fun v w'=>v=vi (cmpL a b)∧w'=w):=
 Fn.of_calls (Calls.mono (Any.strings_Compare Tryz.lays106 ⟨a.toArray⟩ ⟨b.toArray⟩ w) fun _ _ ⟨he,hw⟩=>⟨_,he,rfl,hw⟩)
theorem zfl(w:World)(a b:Lab)(ha:a.length≤9000000000000000000)(hb:b.length≤9000000000000000000):Fn Tryz.prog 176 #[vs a,vs b] w (fun v w'=>v=vi (cmpL (zaF a) (zaF b))∧Ext w w'):=by
 refine enter Tryz.func176 Tryz.ntmps176 rfl rfl ?_
 repeat (first|refine c_r ?_|refine rg0 ?_)
 refine rq ?_;intro gd K hgd hK
 try simp only[go_sem]
 refine Fn.mono (zcg _ _ ha) ?_
 rintro _ w1 ⟨rfl,hE1⟩
 try simp only[go_sem]
 refine Fn.mono (zcg _ _ hb) ?_
 rintro _ w2 ⟨rfl,hE2⟩
 try simp only[go_sem]
 refine Fn.mono (zfh _ _ _) ?_
 rintro _ w3 ⟨rfl,rfl⟩
 try simp only[go_sem]
 refine hK _ _ ?_;clear hK hgd;clear K;try clear gd
 repeat refine c_r ?_
 refine rt0 Tryz.ntmps176 ?_
 exact⟨rfl,hE1.trans hE2⟩
theorem zds{P:Program}{e:TypeId}{ad:Option Addr}{n c:Nat}{k k':IntKind}(h:n≤c)(hi:(P.info? e).isSome=true):
  slD P (some (.slice e)) (.slice ad n c) Option.none (some (.int k n)) (some (.int k' n))=some (.slice ad n n):=by
 have e1:slB Option.none=some 0:=rfl
 have e2:∀(k:IntKind) (d:Nat),slH (some (.int k (n:Int))) d=some n:=fun k d=>by simp[slH]
 simp only[slD,e1,e2]
 simp[h,hi,zar]
--?? slices.Clip[[]string,string]
def Own(B:Nat)(w:World)(e:TypeId)(v:Value)(l:List Value):Prop:=w.ownsRow B e 1 v l.length l
section
variable {P : Program} {d : Option Tmp} {ty : TypeId} {ps : String} {af : Array Edge} {g : Option (Nat × Bool)} {ρ : Operand → Value} {w : World} {K : Value → World → Prop}
theorem Own.slice{B:Nat}{e:TypeId}{v:Value}{l:List Value}(h:Own B w e v l):∃a c,v= .slice a l.length c:=by
 rcases h.2 with ⟨rfl,h0⟩| ⟨g,cap,cur,rfl,_⟩
 ·exact⟨_,_,by rw[h0]⟩
 ·exact⟨_,_,rfl⟩
theorem Own.row{B:Nat}{e:TypeId}{v:Value}{l:List Value}(h:Own B w e v l):Row w v l:=Row.of_owns h
theorem Own.rowB{B:Nat}{e:TypeId}{v:Value}{l:List Value}(h:Own B w e v l):RowB B w v l:=RowB.of_owns h
theorem Own.nil(B:Nat)(w:World)(e:TypeId):Own B w e (.slice Option.none 0 0) []:=⟨rfl,.inl ⟨rfl,rfl⟩⟩
theorem Own.ge{B:Nat}{e:TypeId}{v:Value}{l:List Value}(h:Own B w e v l){b:Nat}(hb:some b=v.ownBlock):B≤b∧b<w.heap.size:=by
 rcases h.2 with ⟨rfl,_⟩| ⟨g,cap,cur,rfl,hg,hc,_⟩
 ·cases hb
 ·cases hb;exact⟨hg,(Array.getElem?_eq_some_iff.1 hc).1⟩
theorem Own.keep{B:Nat}{e:TypeId}{v:Value}{l:List Value}{x:World}{S:Nat→Prop}(h:Own B w e v l)(hk:Keep S w x)(hS:∀b,some b=v.ownBlock→¬S b):Own B x e v l:=by
 obtain⟨h1,h2⟩:=h
 refine⟨h1,?_⟩
 rcases h2 with h2| ⟨g,cap,cur,hv,hb,hg,rest⟩
 ·exact .inl h2
 ·exact .inr ⟨g,cap,cur,hv,hb,(hk.block _ (Array.getElem?_eq_some_iff.1 hg).1 (hS _ (by rw[hv];rfl))).trans hg,rest⟩
theorem Own.ext{B:Nat}{e:TypeId}{v:Value}{l:List Value}{x:World}(h:Own B w e v l)(hk:Ext w x):Own B x e v l:=h.keep hk (fun _ _ h=>h)
theorem Own.mono{B B':Nat}{e:TypeId}{v:Value}{l:List Value}(h:Own B w e v l)(hB:B'≤B):Own B' w e v l:=by
 obtain⟨h1,h2⟩:=h
 refine⟨h1,?_⟩
 rcases h2 with h2| ⟨g,cap,cur,hv,hb,rest⟩
 ·exact .inl h2
 ·exact .inr ⟨g,cap,cur,hv,by omega,rest⟩
theorem zdS{t e:TypeId}{z v:Value}(hu:tyU P t=some (.slice e))(hz:tyZ P e=some z)(hs:tyS P e=1)(hz1:z.cells=#[z])(hv:v.cells=#[v])
  (h:∀w1,Ext w w1→w1.heap.size=w.heap.size+1→Own w.heap.size w1 e (.slice (some ⟨w.heap.size,0,Option.none⟩) 1 1) [v]→K (.slice (some ⟨w.heap.size,0,Option.none⟩) 1 1) w1):bsL P t 1 [(0,v)] w K .mk:=by
 unfold bsL bsK
 rw[zf1 hu hz hs hz1 hv]
 exact h _ (Ext.alloc w _) (zap w _) ⟨rfl,.inr ⟨w.heap.size,1,#[v],rfl,Nat.le_refl _,zam w _,Nat.le_refl _,by decide,rfl,rfl⟩⟩
theorem set2{A:Array Value}(h:A.size=2)(u v:Value):(A.setIfInBounds 0 u).setIfInBounds 1 v=#[u,v]:=by
 obtain⟨l⟩:=A
 match l,h with
 | [x,y],_=>rfl
theorem zko{t e:TypeId}{z u v:Value}(hu:tyU P t=some (.slice e))(hz:tyZ P e=some z)(hs:tyS P e=1)(hz1:z.cells=#[z])(hu1:u.cells=#[u])(hv:v.cells=#[v])
  (h:∀w1,Ext w w1→w1.heap.size=w.heap.size+1→Own w.heap.size w1 e (.slice (some ⟨w.heap.size,0,Option.none⟩) 2 2) [u,v]→K (.slice (some ⟨w.heap.size,0,Option.none⟩) 2 2) w1):bsL P t 2 [(0,u),(1,v)] w K .mk:=by
 unfold bsL bsK
 have:bsC P t 2 [(0,u),(1,v)]=some (e,#[u,v]):=by
  simp[bsC,hu,hz,hs,hz1,Instr.fill,hu1,hv]
  exact set2 (by simp) u v
 rw[this]
 exact h _ (Ext.alloc w _) (zap w _) ⟨rfl,.inr ⟨w.heap.size,2,#[u,v],rfl,Nat.le_refl _,zam w _,Nat.le_refl _,by decide,rfl,rfl⟩⟩
theorem zia{t e:TypeId}{z:Value}(hu:tyU P t=some (.slice e))(hz:tyZ P e=some z)(hs:tyS P e=1)(hz1:z.cells=#[z])
  (h:∀w1,Ext w w1→w1.heap.size=w.heap.size+1→Own w.heap.size w1 e (.slice (some ⟨w.heap.size,0,Option.none⟩) 0 0) []→K (.slice (some ⟨w.heap.size,0,Option.none⟩) 0 0) w1):bsL P t 0 [] w K .mk:=by
 unfold bsL bsK
 have:bsC P t 0 []=some (e,#[]):=by simp[bsC,hu,hz,hs,hz1,Instr.fill]
 rw[this]
 exact h _ (Ext.alloc w _) (zap w _) ⟨rfl,.inr ⟨w.heap.size,0,#[],rfl,Nat.le_refl _,zam w _,Nat.le_refl _,by decide,rfl,rfl⟩⟩
theorem zbU{B:Nat}{s x:Operand}{t e:TypeId}{inf:TypeInfo}{z:Value}{bytes:Nat}{v u:Value}{l news:List Value}(hown:Own B w e v l)(hrow:Row w u news)
  (ht:tyU P t=some (.slice e)) (hi:P.info? e=some inf) (hz:inf.zero=some z)
  (hsize:inf.size=1) (hby:inf.bytes=bytes) (hzs:z.cells.size=1) (hv:ρ s=v) (hu:ρ x=u) 
  (h1:∀q∈news,one q=true) (hlen:l.length+news.length≤1000000000000) (hbytes:bytes≤100) (hB:B≤w.heap.size)
  (h:∀v' w',Own B w' e v' (l++news)→(∀w0,Ext w0 w→w0.heap.size≤B→Ext w0 w')→Keep (fun b=>some b=v.ownBlock) w w'→(∀b,some b=v'.ownBlock→some b=v.ownBlock∨w.heap.size≤b)→K v' w'):
  opW P ⟨d,.call ⟨.builtin .append,#[s,x],#[t,t]⟩,ty,ps,af,g⟩ ρ w K:=by
 refine zcS (B:=B) (m:=news.length) (xs:=l) (n:=l.length) ht hi hz hsize hby hzs (by decide) hv hu hown (Src1.of_row hrow) h1 (by simp[maxLen];omega) ?_ hB ?_
 ·have:(l.length+news.length)*bytes≤1000000000000*100:=Nat.mul_le_mul hlen hbytes
  omega
 ·intro v' w' ho hk hw
  refine h v' w' (by simpa [Own] using ho) (fun w0 hE hB0=>?_) hk hw.2
  exact Keep.to_ext hE rfl (fun b hb=>by have:=(Own.ge (l:=l) hown hb).1;omega) hk
theorem v_min(a:Array Operand)(t:Array TypeId):opV P ⟨d,.call ⟨.builtin .min,a,t⟩,ty,ps,af,g⟩ ρ w K=opL P ⟨d,.call ⟨.builtin .min,a,t⟩,ty,ps,af,g⟩ ρ w K .mk:=nr rfl
theorem op_min{x y:Operand}{ts:Array TypeId}{k:IntKind}{a b:Int}(hx:ρ x= .int k a)(hy:ρ y= .int k b)(h:K (.int k (min a b)) w):opW P ⟨d,.call ⟨.builtin .min,#[x,y],ts⟩,ty,ps,af,g⟩ ρ w K:=by
 simp only[opW,execOp,Sem.run_bind,resolve]
 simp only[Sem.run_pure,Result.andThen_ok,invoke,builtin]
 refine zaK (s:=Builtin.min_ ts ty (Array.map ρ #[x,y])) (v:= .int k (min a b)) (w':=w) ?_ h
 simp[Builtin.min_,hx,hy,Builtin.min2,Sem.run,List.foldlM]
 omega
end
attribute [go_sem] b_quo b_rem
attribute [go_sem ↓] v_min
theorem zd3(l:List Lab):∀q∈l.map vs,one q=true:=fun q hq=>by
 obtain⟨s,_,rfl⟩:=List.mem_map.1 hq
 rfl
theorem zcK(w:World)(a:Value)(xs:Nm)(ha:Row w a (xs.map vs))(hx:LB xs)(hxl:xs.length≤100000000000):
  Fn Tryz.prog 83 #[a] w (fun v w'=>Own w.heap.size w' 9 v ((zag xs).map vs)∧Ext w w'):=by
 obtain⟨a,ca,rfl,hca,hla⟩:=ha
 simp only[List.length_map]at*
 refine enter Tryz.func83 Tryz.ntmps83 rfl rfl ?_
 repeat (first|refine c_r ?_|refine rg0 ?_)
 refine zai (fun m σ ds A=>ds=[]∧∃i:Nat,∃v,i+m=xs.length∧σ 4=vi i∧σ 0= .slice a xs.length ca∧σ 3=v∧Ext w A∧Own w.heap.size A 9 v ((zag (xs.take i)).map vs)) xs.length ?_ ?_
 ·refine⟨rfl,0,_,by omega,?_,?_,?_,Keep.refl _ _,Own.nil _ _ _⟩<;>simp only[go_sem]<;>rfl
 ·rintro m σ ds A ⟨rfl,i,v,him,h4,h0,h3,hE,hown⟩
  repeat refine c_r ?_
  refine rg2 h4 h0 ?_
  repeat refine c_r ?_
  refine wc0 ?_ ?_
  ·intro hlt
   simp only[decide_eq_true_eq]at hlt
   have hsa:a.isSome=true:=zad (hla i (by omega))
   have hla':=fun j h=>zaa hE (hla j h)
   repeat refine c_r ?_
   refine rq ?_;intro gd K hgd hK
   try simp (disch:=first|omega|assumption|rfl) only[go_sem,h4,h0,h3,hla',List.getElem_map]
   refine Fn.mono (zbF _ _ (LB.get hx _)) ?_
   rintro _ w1 ⟨rfl,hE1⟩
   try simp only[go_sem]
   refine zdS (z:=vs []) rfl rfl rfl rfl rfl ?_
   intro w2 hE2 hs2 ho2
   try simp only[go_sem]
   refine zbU ((hown.ext hE1).ext hE2) ho2.row rfl rfl rfl rfl rfl rfl ((vq1 h3)) (vr0) (zd3 [_]) (by simp[zag];omega) (by decide) (by have:=hE.size;have:=hE1.size;omega) ?_
   intro v' w3 ho3 hE3 _ _
   try simp only[go_sem]
   refine hK _ _ ?_;clear hK hgd;clear K;try clear gd
   repeat refine c_r ?_
   refine rg1 h4 ?_
   repeat refine c_r ?_
   refine⟨m - 1,by omega,rfl,i+1,_,by omega,by simp only[go_sem];push_cast;rfl,(vq1 h0),by simp only[go_sem];rfl,hE3 _ ((hE.trans hE1).trans hE2) (Nat.le_refl _),?_⟩
   rw[zb0 (by omega),List.map_append];exact ho3
  ·intro hge
   simp only[decide_eq_false_iff_not]at hge
   repeat refine c_r ?_
   refine rg1 h3 ?_
   repeat refine c_r ?_
   refine rt0 Tryz.ntmps83 ?_
   rw[List.take_of_length_le (by omega)]at hown
   exact⟨hown,hE⟩
def few(n:Nm):Bool:=decide (n.length≤140) && n.all fun l=>decide (l.length≤100)
theorem few_lb{n:Nm}(h:few n=true):LB n:=fun l hl=>by
 simp only[few,Bool.and_eq_true,List.all_eq_true,decide_eq_true_eq]at h
 have:=h.2 l hl;omega
theorem few_len{n:Nm}(h:few n=true):n.length≤140:=by
 simp only[few,Bool.and_eq_true,decide_eq_true_eq]at h
 exact h.1
theorem zgX(w:World)(a:Value)(xs:Nm)(ha:Row w a (xs.map vs)):
  Fn Tryz.prog 48 #[a] w (fun v w'=>v= .bool (few xs)∧Ext w w'):=by
 obtain⟨a,ca,rfl,hca,hla⟩:=ha
 simp only[List.length_map]at*
 refine enter Tryz.func48 Tryz.ntmps48 rfl rfl ?_
 repeat (first|refine c_r ?_|refine rg0 ?_)
 refine wc0 ?_ ?_
 ·intro h
  simp only[decide_eq_true_eq]at h
  repeat (first|refine c_r ?_|refine rg0 ?_)
  refine rt0 Tryz.ntmps48 ?_
  exact⟨by rw[few,decide_eq_false (by omega)];rfl,Keep.refl _ _⟩
 ·intro h
  simp only[decide_eq_false_iff_not]at h
  repeat (first|refine c_r ?_|refine rg0 ?_)
  refine zai (fun m σ ds A=>ds=[]∧∃i:Nat,i+m=xs.length∧σ 3=vi i∧σ 0= .slice a xs.length ca∧Ext w A∧∀l∈xs.take i,l.length≤100) xs.length ?_ ?_
  ·refine⟨rfl,0,by omega,?_,?_,Keep.refl _ _,by simp⟩<;>simp only[go_sem]<;>rfl
  ·rintro m σ ds A ⟨rfl,i,him,h3,h0,hE,hall⟩
   repeat refine c_r ?_
   refine rg2 h3 h0 ?_
   repeat refine c_r ?_
   refine wc0 ?_ ?_
   ·intro hlt
    simp only[decide_eq_true_eq]at hlt
    have hsa:a.isSome=true:=zad (hla i (by omega))
    have hla':=fun j h=>zaa hE (hla j h)
    repeat refine c_r ?_
    refine rq ?_;intro gd K hgd hK;simp (disch:=first|omega|assumption|rfl) only[go_sem,h3,h0,hla',List.getElem_map];refine hK _ _ ?_;clear hK hgd;clear K gd
    repeat refine c_r ?_
    refine wc0 ?_ ?_
    ·intro hb
     simp only[decide_eq_true_eq]at hb
     repeat (first|refine c_r ?_|refine rg0 ?_)
     refine rt0 Tryz.ntmps48 ?_
     refine⟨?_,hE⟩
     have:few xs=false:=by
      rw[←Bool.not_eq_true]
      intro hf
      simp only[few,Bool.and_eq_true,List.all_eq_true,decide_eq_true_eq]at hf
      have:=hf.2 (xs[i]'(by omega)) (List.getElem_mem _)
      omega
     rw[this]
    ·intro hb
     simp only[decide_eq_false_iff_not]at hb
     repeat refine c_r ?_
     refine rg1 h3 ?_
     repeat refine c_r ?_
     refine⟨m - 1,by omega,rfl,i+1,by omega,by simp only[go_sem];push_cast;rfl,(vq1 h0),hE,fun l hl=>?_⟩
     rw[zak (by omega)]at hl
     rcases List.mem_append.1 hl with hl|hl
     ·exact hall l hl
     ·rw[List.mem_singleton.1 hl];omega
   ·intro hge
    simp only[decide_eq_false_iff_not]at hge
    repeat (first|refine c_r ?_|refine rg0 ?_)
    refine rt0 Tryz.ntmps48 ?_
    refine⟨?_,hE⟩
    rw[List.take_of_length_le (by omega)]at hall
    have:few xs=true:=by
     simp only[few,Bool.and_eq_true,List.all_eq_true,decide_eq_true_eq]
     exact⟨by omega,hall⟩
    rw[this]
end Go.Proofs.YtahbdamijngmmaaGreat
