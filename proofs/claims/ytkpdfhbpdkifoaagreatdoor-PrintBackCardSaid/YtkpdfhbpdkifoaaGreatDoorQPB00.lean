/-
  Texts of a proof, joined: K0, K1, K2, K3, K4, K5.
  Conditions: none.
-/
import Derived.RangeFuncRecord
import Derived.OrdersIn
import Derived.RangeFuncCalls
import Derived.Below
import Derived.Laws.Strings
import Derived.Laws.Entries
import Derived.Laws.Slices
import Derived.Laws.IdiomStrings
import Derived.Deep.AppendSrc
set_option linter.unusedVariables false
set_option linter.unusedSimpArgs false
set_option linter.defProp false
set_option linter.unnecessarySimpa false
set_option maxHeartbeats 8000000
namespace Go.Proofs.YtkpdfhbpdkifoaaGreatDoor
open Go
def fw(r:Option Nat):Fence:={fn:=fun _=>True,depth:=Option.none,alive:=false,round:=r}
abbrev Sto:=Nat→Value
def upd(σ:Sto)(d:Nat)(v:Value):Sto:=fun i=>if i=d then v else σ i
def act(n:Nat)(σ:Sto)(ds:List Deferred):Act:=⟨Array.ofFn (n:=n) (fun i=>σ i),ds⟩
def ev(n:Nat)(σ:Sto):Operand→Value
 | .tmp t=>if t<n then σ t else undef
 | .const v=>v
 | .global g=> .pointer (some ⟨g,0,Option.none⟩)
 | .func f=> .func (.func f) #[] #[]
theorem zc4(n:Nat)(σ:Sto)(ds:List Deferred):(act n σ ds).eval=ev n σ:=by
 funext x
 cases x with
 |tmp t=>
  simp only[Act.eval,act,ev]
  by_cases h:t<n
  ·simp[h]
  ·simp[h]
 |const v=>rfl
 |global g=>rfl
 |func f=>rfl
def putS(σ:Sto):Option Tmp→Value→Sto
 |some d,v=>upd σ d v
 |Option.none,_=>σ
theorem znc(n:Nat)(σ:Sto)(ds:List Deferred)(d:Nat)(v:Value):
  (act n σ ds).tmps.setIfInBounds d v=(act n (upd σ d v) ds).tmps:=by
 apply Array.ext
 ·simp[act]
 ·intro i h1 h2
  simp[act]at h1 h2 ⊢
  by_cases h:d=i
  ·subst h;simp[upd]
  ·have h':(Array.ofFn (n:=n) (fun i=>σ i))[i]'(by simpa using h2)=σ i:=by simp
   rw[Array.getElem_setIfInBounds_ne (by simpa using h2) h,h']
   simp[upd,Ne.symm h]
theorem zhx(n:Nat)(σ:Sto)(ds:List Deferred)(d:Option Tmp)(v:Value):
  (act n σ ds).put d v=act n (putS σ d v) ds:=by
 cases d with
 |none=>rfl
 |some d=>simp only[Act.put,putS,znc];rfl
def yl(ops:Array Oper)(n:Nat)(σ:Sto)(j:Nat):Option Bool:=
 match (ops[j]?).bind (·.dst) with
 |some d=>if d<n then(match σ d with| .bool b=>some b|_=>Option.none) else Option.none
 |Option.none=>Option.none
theorem zgd(ops:Array Oper)(n:Nat)(σ:Sto)(ds:List Deferred):
  yielded ops (act n σ ds).tmps=yl ops n σ:=by
 funext j
 unfold yielded yl
 cases h:(ops[j]?).bind (·.dst) with
 |none=>rfl
 |some d=>
  simp only[Option.bind_some,act]
  by_cases hd:d<n
  ·simp only[hd,if_true]
   have:(Array.ofFn (n:=n) (fun i=>σ i))[d]? =some (σ d):=by simp[hd]
   rw[this]
   cases σ d<;>rfl
  ·simp[hd]
def opR(P:Program)(K:Value→World→Prop):Result Next→Prop
 | .ok (.value v) w'=>K v w'
 | .ok .skip w'=>K undef w'
 | .ok (.enter f args) w'=>CallsIn (fw Option.none) 0 P f args w' (fun e w''=>∃v,e= .returned v∧K v w'')
 | .ok (.round l f tmps assign body) w'=>RoundIn (fw Option.none) 0 P l f tmps assign body w' (fun e w''=>∃v,e= .returned v∧K v w'')
 | .ok (.row row args) w'=>RowsIn (fw Option.none) 0 P row args w' K
 |_=>False
def opW(P:Program)(o:Oper)(ρ:Operand→Value)(w:World)(K:Value→World→Prop):Prop:=
 opR P K ((execOp ρ o).run P w)
theorem zha{P:Program}{K K':Value→World→Prop}(h:∀v w,K v w→K' v w){r:Result Next}(hr:opR P K r):opR P K' r:=by
 cases r with
 |ok n w=>
  cases n<;>simp only[opR]at hr ⊢<;>first
   |exact h _ _ hr
   |exact CallsIn.mono hr fun e w ⟨v,he,hk⟩=>⟨v,he,h _ _ hk⟩
   |exact RoundIn.mono hr fun e w ⟨v,he,hk⟩=>⟨v,he,h _ _ hk⟩
   |exact RowsIn.mono hr fun v w hk=>h _ _ hk
 |halt x w=>cases x<;>simp only[opR]at hr
theorem zel{P:Program}{o:Oper}{ρ:Operand→Value}{w:World}{K K':Value→World→Prop}(h:∀v w,K v w→K' v w)
  (hr:opW P o ρ w K):opW P o ρ w K':=zha h hr
theorem zev{r:Option Nat}{x:Prop}:((fw r).depth.isSome=true→x):=fun h=>by simp[fw]at h
theorem zd3{r:Option Nat}{n m:Nat}{P:Program}{f:FuncId}{args:Array Value}{w:World}{R:Ending→World→Prop}
  (h:CallsIn (fw Option.none) n P f args w R):CallsIn (fw r) m P f args w R:=
 ⟨trivial,fun cs _=>h.2 cs (fun d hd=>by simp[fw]at hd)⟩
theorem zdV{r:Option Nat}{n m:Nat}{P:Program}{l:Nat}{f:FuncId}{tmps:Array Value}{assign body:Code}{w:World}{R:Ending→World→Prop}
  (h:RoundIn (fw Option.none) n P l f tmps assign body w R):RoundIn (fw r) m P l f tmps assign body w R:=
 ⟨trivial,fun c cs _=>h.2 c cs (fun d hd=>by simp[fw]at hd)⟩
theorem zlN{r:Option Nat}{n m:Nat}{P:Program}{row:String}{args:Array Value}{w:World}{R:Value→World→Prop}
  (h:RowsIn (fw Option.none) n P row args w R):RowsIn (fw r) m P row args w R:=
 fun c cs _=>h c cs (fun d hd=>by simp[fw]at hd)
theorem opW_in{P:Program}{r:Option Nat}{o:Oper}{a:Act}{w:World}{next:Act→World→Prop}{Q:Exit→Act→World→Prop}
  (hd:∀c,o.op≠ .defer c) (h:opW P o a.eval w (fun v w'=>next (a.put o.dst v) w')):o.wpIn (fw r) 0 P a w next Q:=by
 refine⟨fun f _=>trivial,?_⟩
 rw[Oper.semAt_eq _ _ _ hd]
 unfold opW at h
 generalize (execOp a.eval o).run P w=x at h ⊢
 cases x with
 |ok n w'=>
  cases n<;>simp only[opR]at h<;>simp only[Oper.uponIn]
  case value v=>exact h
  case skip=>exact h
  case enter f args=>
   exact⟨zev,(zd3 h).mono fun e w'' ⟨v,he,hk⟩=>by subst he;exact hk⟩
  case row row args=>exact⟨zev,zlN h⟩
  case round l f tmps assign body=>
   exact⟨zev,(zdV h).mono fun e w'' ⟨v,he,hk⟩=>by subst he;exact hk⟩
 |halt x w'=>cases x<;>simp only[opR]at h
def opsW(P:Program)(ops:Array Oper)(n:Nat):List Oper→Sto→World→(Sto→World→Prop)→Prop
 | [],σ,w,K=>K σ w
 |o::l,σ,w,K=>
  if Region.wanted o (yl ops n σ) then opW P o (ev n σ) w (fun v w'=>opsW P ops n l (putS σ o.dst v) w' K)
  else opsW P ops n l (putS σ o.dst undef) w K
def zbd(ops:Array Oper):Bool:=ops.toList.all fun o=>match o.op with| .defer _=>false|_=>true
theorem ze0{ops:Array Oper}(h:zbd ops=true){i:Nat}{o:Oper}(ho:ops[i]? =some o):∀c,o.op≠ .defer c:=by
 intro c hc
 have hm:o∈ops.toList:=Array.mem_toList_iff.2 (Array.mem_of_getElem? ho)
 have:=(List.all_eq_true.1 h) o hm
 rw[hc]at this
 simp at this
theorem zeN{P:Program}{r:Option Nat}{ops:Array Oper}{n:Nat}{ds:List Deferred}{Q:Exit→Act→World→Prop}{K:Sto→World→Prop}
  (hd:zbd ops=true) (hK:∀σ w,K σ w→Q .normal (act n σ ds) w):
  ∀(l:List Oper) (k:Nat),(∀j,l[j]? =ops[k+j]?)→∀(σ:Sto) (w:World),opsW P ops n l σ w K→
   wpOpsIn (fw r) 0 P ops Q (List.range' k l.length) (act n σ ds) w
 | [],_,_,σ,w,h=>hK σ w h
 |o::l,k,hl,σ,w,h=>by
  have h0:ops[k]? =some o:=by simpa using (hl 0).symm
  have hl':∀j,l[j]? =ops[k+1+j]?:=fun j=>by
   have:=hl (j+1);simpa [Nat.add_assoc,Nat.add_comm 1 j] using this
  simp only[List.length_cons,List.range'_succ,wpOpsIn,h0,zgd]
  simp only[opsW]at h
  split
  ·rename_i hw
   simp only[hw,if_true]at h
   refine opW_in (ze0 hd h0) ?_
   rw[zc4]
   refine zel (fun v w' hk=>?_) h
   rw[zhx]
   exact zeN hd hK l (k+1) hl' _ _ hk
  ·rename_i hw
   simp only[hw,Bool.false_eq_true,if_false]at h
   refine⟨fun _ _=>trivial,?_⟩
   rw[zhx]
   exact zeN hd hK l (k+1) hl' _ _ h
abbrev Post:=Exit→Sto→List Deferred→World→Prop
def W(P:Program)(r:Option Nat)(n:Nat)(c:Code)(Q:Post)(σ:Sto)(ds:List Deferred)(w:World):Prop:=
 c.wpIn (fw r) 0 P (fun e a w=>∃σ' ds',a=act n σ' ds'∧Q e σ' ds' w) (act n σ ds) w
section rules
variable {P : Program} {r : Option Nat} {n : Nat} {Q : Post} {σ : Sto} {ds : List Deferred} {w : World}
theorem zas{c:Code}{Q':Post}(h:W P r n c Q σ ds w)(hq:∀e σ ds w,Q e σ ds w→Q' e σ ds w):W P r n c Q' σ ds w:=
 wpIn_mono h fun e a w ⟨σ',ds',ha,hQ⟩=>⟨σ',ds',ha,hq _ _ _ _ hQ⟩
theorem zdP(h:Q .normal σ ds w):W P r n .skip Q σ ds w:=wpIn_skip ⟨σ,ds,rfl,h⟩
theorem zdQ{id:Nat}(h:Q (.exit id) σ ds w):W P r n (.exit id) Q σ ds w:=wpIn_exit ⟨σ,ds,rfl,h⟩
theorem zgt(h:Q .ret σ ds w):W P r n .ret Q σ ds w:=wpIn_ret ⟨σ,ds,rfl,h⟩
def zdU(next:Sto→List Deferred→World→Prop)(Q:Post):Post
 | .normal,σ,ds,w=>next σ ds w
 | .exit id,σ,ds,w=>Q (.exit id) σ ds w
 | .goto l,σ,ds,w=>Q (.goto l) σ ds w
 | .ret,σ,ds,w=>Q .ret σ ds w
 | .panic c,σ,ds,w=>Q (.panic c) σ ds w
 | .outgrown,σ,ds,w=>Q .outgrown σ ds w
theorem W_seq{x y:Code}(h:W P r n x (zdU (fun σ ds w=>W P r n y Q σ ds w) Q) σ ds w):W P r n (.seq x y) Q σ ds w:=by
 refine wpIn_seq (wpIn_mono h ?_)
 rintro e a w ⟨σ',ds',rfl,hq⟩
 cases e<;>first
  |exact hq
  |exact⟨σ',ds',rfl,hq⟩
theorem zbK{c:Operand}{x y:Code}{t:Bool}(hc:ev n σ c= .bool t)(ht:t=true→W P r n x Q σ ds w)(hf:t=false→W P r n y Q σ ds w):
  W P r n (.cond c x y) Q σ ds w:=
 wpIn_cond_split (t:=t) (by rw[zc4];exact hc) ht hf
def zdu(id:Nat)(Q:Post):Post
 | .exit id',σ,ds,w=>if id'=id then Q .normal σ ds w else Q (.exit id') σ ds w
 | .normal,σ,ds,w=>Q .normal σ ds w
 | .goto l,σ,ds,w=>Q (.goto l) σ ds w
 | .ret,σ,ds,w=>Q .ret σ ds w
 | .panic c,σ,ds,w=>Q (.panic c) σ ds w
 | .outgrown,σ,ds,w=>Q .outgrown σ ds w
theorem W_block{id:Nat}{c:Code}(h:W P r n c (zdu id Q) σ ds w):W P r n (.block id c) Q σ ds w:=by
 refine wpIn_block (wpIn_mono h ?_)
 rintro e a w ⟨σ',ds',rfl,hq⟩
 cases e with
 |exit id'=>
  simp only[zdu]at hq
  simp only[Exit.inBlock]
  split
  ·rename_i h;rw[if_pos h]at hq;exact⟨σ',ds',rfl,hq⟩
  ·rename_i h;rw[if_neg h]at hq;exact⟨σ',ds',rfl,hq⟩
 |normal=>exact⟨σ',ds',rfl,hq⟩
 |goto l=>exact⟨σ',ds',rfl,hq⟩
 |ret=>exact⟨σ',ds',rfl,hq⟩
 |panic c=>exact⟨σ',ds',rfl,hq⟩
 |outgrown=>exact⟨σ',ds',rfl,hq⟩
theorem zaD{c:Code}(I:Nat→Sto→List Deferred→World→Prop)(m0:Nat)(h₀:I m0 σ ds w)
  (round:∀m σ ds w,I m σ ds w→W P r n c (zdU (fun σ ds w=>∃m',m'<m∧I m' σ ds w) Q) σ ds w):W P r n (.loop c) Q σ ds w:=by
 -- by induction on the measure,over the rule on a loop with a ghost:we use the step of wpIn directly
 intro b k cs hro hb hr
 have key:∀m σ ds w,I m σ ds w→
   ∃e a' w',(∃σ' ds',a'=act n σ' ds'∧Q e σ' ds' w')∧ArrivesIn (Machine.fenced P (fw r)) P (lone (b.atR (act n σ ds) (.code c:: .inLoop c::k)) cs w) b k cs e a' w':=by
  intro m
  induction m using Nat.strongRecOn with
  |_ m ih=>
   intro σ ds w hI
   obtain⟨e,a₁,w₁,⟨σ₁,ds₁,rfl,hq⟩,harr⟩:=round m σ ds w hI b (.inLoop c::k) cs hro hb hr
   cases e with
   |normal=>
    obtain⟨m',hlt,hI₁⟩:=hq
    obtain⟨e₂,a₂,w₂,hq₂,harr₂⟩:=ih m' hlt σ₁ ds₁ w₁ hI₁
    exact⟨e₂,a₂,w₂,hq₂,.of_steps (StepsIn.trans harr (.one (fenced_calm hb hr rfl) stepR_inLoop)) harr₂⟩
   |exit id=>exact⟨_,_,w₁,⟨σ₁,ds₁,rfl,hq⟩,.pass (x:= .inLoop c) rfl (fun _ _=> .inl (by simp)) harr⟩
   |goto l=>exact⟨_,_,w₁,⟨σ₁,ds₁,rfl,hq⟩,.pass (x:= .inLoop c) rfl (fun _ _=> .inl (by simp)) harr⟩
   |ret=>exact⟨_,_,w₁,⟨σ₁,ds₁,rfl,hq⟩,.pass (x:= .inLoop c) rfl (fun _ _=> .inl (by simp)) harr⟩
   |panic ch=>exact⟨_,_,w₁,⟨σ₁,ds₁,rfl,hq⟩,.pass (x:= .inLoop c) rfl (fun _ _=> .inl (by simp)) harr⟩
   |outgrown=>exact⟨_,_,w₁,⟨σ₁,ds₁,rfl,hq⟩,.pass (x:= .inLoop c) rfl (fun _ _=> .inl (by simp)) harr⟩
 obtain⟨e,a',w',hq,harr⟩:=key m0 σ ds w h₀
 exact⟨e,a',w',hq,.of_steps (.one (fenced_calm hb hr rfl) stepR_loop) harr⟩
theorem W_region{id:Nat}{ops:Array Oper}(hd:zbd ops=true)(h:opsW P ops n ops.toList σ w (fun σ w=>Q .normal σ ds w)):
  W P r n (.region id ops false) Q σ ds w:=by
 refine wpIn_region ?_
 have:=zeN (r:=r) (ds:=ds) (Q:=fun e a w=>∃σ' ds',a=act n σ' ds'∧Q e σ' ds' w) hd (fun σ w h=>⟨σ,ds,rfl,h⟩) ops.toList 0 (by simp) σ w h
 simpa [List.range_eq_range'] using this
end rules
def sto0(args:Array Value):Sto:=fun i=>args.getD i undef
structure Keep(S:Nat→Prop)(w w':World):Prop where
 os:w'.os=w.os
 tape:w'.tape=w.tape
 output:w'.output=w.output
 size:w.heap.size≤w'.heap.size
 block:∀b,b<w.heap.size→¬S b→w'.heap[b]? =w.heap[b]?
 drawn:w.drawn≤w'.drawn
theorem Keep.refl(S:Nat→Prop)(w:World):Keep S w w:=⟨rfl,rfl,rfl,Nat.le_refl _,fun _ _ _=>rfl,Nat.le_refl _⟩
theorem Keep.trans{S:Nat→Prop}{a b c:World}(h:Keep S a b)(k:Keep S b c):Keep S a c:=
  ⟨k.os.trans h.os,k.tape.trans h.tape,k.output.trans h.output,Nat.le_trans h.size k.size,
   fun i hi hs=>(k.block i (Nat.lt_of_lt_of_le hi h.size) hs).trans (h.block i hi hs),Nat.le_trans h.drawn k.drawn⟩
theorem Keep.mono{S T:Nat→Prop}{a b:World}(h:Keep S a b)(hST:∀i,i<a.heap.size→S i→T i):Keep T a b:=
 ⟨h.os,h.tape,h.output,h.size,fun i hi hs=>h.block i hi (fun x=>hs (hST i hi x)),h.drawn⟩
theorem Keep.drew(S:Nat→Prop)(w:World):Keep S w w.drew:=⟨rfl,rfl,rfl,Nat.le_refl _,fun _ _ _=>rfl,Nat.le_succ _⟩
abbrev NoS:Nat→Prop:=fun _=>False
abbrev Ext(w w':World):Prop:=Keep NoS w w'
def opAt(P:Program)(ops:Array Oper)(n:Nat)(i:Nat)(σ:Sto)(w:World)(K:Sto→World→Prop):Prop:=
 match ops[i]? with
 |Option.none=>K σ w
 |some o=>if Region.wanted o (yl ops n σ) then opW P o (ev n σ) w (fun v w'=>K (putS σ o.dst v) w') else K (putS σ o.dst undef) w
theorem zb1{P:Program}{ops:Array Oper}{n i:Nat}{σ:Sto}{w:World}{K K':Sto→World→Prop}(h:∀σ w,K σ w→K' σ w)
  (hh:opAt P ops n i σ w K):opAt P ops n i σ w K':=by
 unfold opAt at*
 split
 ·rename_i ho;rw[ho]at hh;exact h _ _ hh
 ·rename_i o ho
  rw[ho]at hh
  dsimp only at hh
  split
  ·rename_i hw;rw[if_pos hw]at hh;exact zel (fun v w' hk=>h _ _ hk) hh
  ·rename_i hw;rw[if_neg hw]at hh;exact h _ _ hh
def zjf(ops:Array Oper)(i:Nat):Option Tmp:=(ops[i]?).bind (·.dst)
def qv(P:Program)(ops:Array Oper)(n:Nat)(i:Nat)(σ:Sto)(x:World)(v:Value):Prop:=
 match ops[i]? with
 |Option.none=>False
 |some o=>if Region.wanted o (yl ops n σ) then opW P o (ev n σ) x (fun v' w'=>v'=v∧w'=x) else v=undef
abbrev rdy(ops:Array Oper)(l:Array Bool):List Nat:=Region.ready .any ops l
def any0(P:Program)(ops:Array Oper)(n:Nat)(K:Sto→World→Prop):Nat→Array Bool→Sto→World→Prop
 |0,l,σ,w=>rdy ops l=[]∧K σ w
 |f+1,l,σ,w=>(rdy ops l=[]→K σ w)∧∀i∈rdy ops l,opAt P ops n i σ w (fun σ' w'=>any0 P ops n K f (l.setIfInBounds i true) σ' w')
def anyK(P:Program)(ops:Array Oper)(n:Nat)(isB:Nat→Bool)(K:Sto→World→Prop):(World→Prop)→Nat→Array Bool→Sto→World→Prop
 |_,0,l,σ,w=>rdy ops l=[]∧K σ w
 |C,f+1,l,σ,w=>(rdy ops l=[]→K σ w)∧∀i∈rdy ops l,opAt P ops n i σ w (fun σ' w'=>
   (isB i=true∧any0 P ops n K f (l.setIfInBounds i true) σ' w')∨
   (isB i=false∧∃C':World→Prop,(∀x,C' x→C x)∧C' w'∧anyK P ops n isB K C' f (l.setIfInBounds i true) σ' w'))
section
variable {P : Program} {ops : Array Oper} {n : Nat} {isB : Nat → Bool} {K : Sto → World → Prop}
theorem zcJ:∀(f:Nat) (C:World→Prop) (l:Array Bool) (σ:Sto) (w:World),anyK P ops n isB K C f l σ w→any0 P ops n K f l σ w
 |0,_,_,_,_,h=>h
 |f+1,_,_,_,_,h=>⟨h.1,fun i hi=>zb1 (fun σ w hk=>by
   rcases hk with ⟨_,hk⟩| ⟨_,C',_,_,hk⟩
   ·exact hk
   ·exact zcJ f C' _ _ _ hk) (h.2 i hi)⟩
def zch(ops:Array Oper)(l:Array Bool):Prop:=
 ∀k o,ops[k]? =some o→l.getD k false=true→∀e∈o.after,Region.binds .any e=true→l.getD e.on false=true
theorem zbH{l:Array Bool}(hl:zch ops l){j:Nat}(hj:j∈rdy ops l):zch ops (l.setIfInBounds j true):=by
 obtain⟨_,oj,hoj,hall⟩:=mem_ready.1 hj
 intro k o ho hk e he hb
 by_cases hkj:j=k
 ·subst hkj
  rw[ho]at hoj;cases hoj
  exact getD_set_true (hall e he hb)
 ·rw[getD_set_ne false hkj]at hk
  exact getD_set_true (hl k o ho hk e he hb)
def zj0(o:Oper):Bool:=
 match o.op with
 | .move _| .assign _| .pick .. | .binOp .. | .unOp .. | .indexAddr .. | .index .. | .slice .. | .extract .. | .convert .. | .fieldAddr .. | .nilCheck _| .makeFunc .. =>true
 |_=>false
def zfT(ops:Array Oper)(i:Nat):Bool:=((ops[i]?).map zj0).getD false
def zdM(ops:Array Oper)(isB:Nat→Bool):Bool:=
 let m:=Region.before ops
 ((List.range ops.size).all fun j=>(List.range ops.size).all fun q=>!(m.getD j 0).testBit q||
  ((ops[j]?).map fun o=>o.after.any fun e=>Region.binds .any e && decide (e.on<j) && (e.on==q|| (m.getD e.on 0).testBit q)).getD false) &&
 ((List.range ops.size).all fun b=>!isB b|| (List.range ops.size).all fun a=>isB a||zfT ops a|| (m.getD b 0).testBit a)
theorem zhE(hB:zdM ops isB=true){l:Array Bool}(hl:zch ops l):∀(j:Nat) (o:Oper),ops[j]? =some o→
  (∀e∈o.after,Region.binds .any e=true→l.getD e.on false=true)→∀q,q<ops.size→((Region.before ops).getD j 0).testBit q=true→l.getD q false=true:=by
 intro j
 induction j using Nat.strongRecOn with
 |_ j ih=>
  intro o ho hall q hq hbit
  unfold zdM at hB
  simp only[Bool.and_eq_true]at hB
  have hj:j<ops.size:=(Array.getElem?_eq_some_iff.1 ho).1
  have h1:=List.all_eq_true.1 hB.1 j (List.mem_range.2 hj)
  have h2:=List.all_eq_true.1 h1 q (List.mem_range.2 hq)
  rw[hbit,ho]at h2
  simp only[Bool.not_true,Bool.false_or,Option.map_some,Option.getD_some]at h2
  obtain⟨i,hi,h3⟩:=Array.any_eq_true.1 h2
  simp only[Bool.and_eq_true,decide_eq_true_eq,Bool.or_eq_true,beq_iff_eq]at h3
  obtain⟨⟨hbind,hlt⟩,hor⟩:=h3
  have hle:=hall o.after[i] (Array.getElem_mem hi) hbind
  rcases hor with heq|hbit'
  ·rw[←heq];exact hle
  ·have hlts:o.after[i].on<ops.size:=Nat.lt_trans hlt hj
   exact ih _ hlt ops[o.after[i].on] (by simp[hlts]) (fun e he hb=>hl _ _ (by simp[hlts]) hle e he hb) q hq hbit'
theorem B_waits(hB:zdM ops isB=true){l:Array Bool}(hl:zch ops l){j i:Nat}(hj:j∈rdy ops l)(hb:isB j=true)(hi:i<ops.size)(hni:isB i=false)(hnf:zfT ops i=false):l.getD i false=true:=by
 obtain⟨_,oj,hoj,hall⟩:=mem_ready.1 hj
 have hjs:j<ops.size:=(Array.getElem?_eq_some_iff.1 hoj).1
 refine zhE hB hl j oj hoj hall i hi ?_
 unfold zdM at hB
 simp only[Bool.and_eq_true]at hB
 have h1:=List.all_eq_true.1 hB.2 j (List.mem_range.2 hjs)
 rw[hb]at h1
 have h2:=List.all_eq_true.1 h1 i (List.mem_range.2 hi)
 rw[hni,hnf]at h2
 simpa using h2
theorem ev_putS{o:Oper}{σ:Sto}{dst:Option Tmp}{v:Value}(h:∀d,dst=some d→d∉o.looksAt ops):
  ∀x∈o.op.operands,ev n (putS σ dst v) x=ev n σ x:=by
 intro x hx
 cases dst with
 |none=>rfl
 |some d=>
  cases x with
  |tmp t=>
   have:t≠d:=fun e=>h d rfl (by
    subst e
    exact List.mem_append_left _ (List.mem_filterMap.2 ⟨.tmp t,by simpa using hx,rfl⟩))
   simp[ev,putS,upd,this]
  |_=>rfl
theorem ziq{o:Oper}{σ:Sto}{dst:Option Tmp}{v:Value}(hs:∀cs b,o.op≠ .select cs b)(h:∀d,dst=some d→d∉o.looksAt ops):
  execOp (ev n (putS σ dst v)) o=execOp (ev n σ) o:=execOp_congr o hs (ev_putS h)
theorem zfx{o:Oper}{σ:Sto}{dst:Option Tmp}{v:Value}(h:∀d,dst=some d→d∉o.looksAt ops):
  Region.wanted o (yl ops n (putS σ dst v))=Region.wanted o (yl ops n σ):=by
 cases dst with
 |none=>rfl
 |some d=>
  unfold Region.wanted
  cases hg:o.guard with
  |none=>rfl
  |some gw=>
   obtain⟨g,want⟩:=gw
   have hy:yl ops n (putS σ (some d) v) g=yl ops n σ g:=by
    unfold yl
    cases ht:(ops[g]?).bind (·.dst) with
    |none=>rfl
    |some t=>
     have hne:t≠d:=fun e=>h d rfl (by subst e;simp[Oper.looksAt,hg,ht])
     simp[putS,upd,hne]
   simp only[hy]
theorem zhV(σ:Sto){x y:Option Tmp}(v u:Value)(h:∀d,x=some d→y≠some d):putS (putS σ x v) y u=putS (putS σ y u) x v:=by
 cases x with
 |none=>rfl
 |some d=>
  cases y with
  |none=>rfl
  |some e=>
   have hne:d≠e:=fun he=>h d rfl (he▸rfl)
   funext i
   simp only[putS,upd]
   by_cases h1:i=e<;>by_cases h2:i=d<;>simp_all
theorem zi2{i:Nat}{oi oj:Oper}{v u:Value}{σ:Sto}{x:World}(hi:ops[i]? =some oi)(hs:∀cs b,oi.op≠ .select cs b)
  (hap:oi.apart ops oj=true) (h:qv P ops n i σ x v):qv P ops n i (putS σ oj.dst u) x v:=by
 obtain⟨h1,h2,h3⟩:=Oper.apart_spec hap
 unfold qv at*
 simp only[hi]at*
 rw[zfx h3]
 unfold opW at*
 rw[ziq hs h3]
 exact h
theorem zh4{j:Nat}{oi oj:Oper}{v:Value}(hj:ops[j]? =some oj)(hap:oi.apart ops oj=true)
  (hsj:∀cs b,oj.op≠ .select cs b) {K':Sto→World→Prop} {σ:Sto} {w:World} (h:opAt P ops n j (putS σ oi.dst v) w K'):
  opAt P ops n j σ w (fun σ' w'=>(∃u,σ'=putS σ oj.dst u)∧K' (putS σ' oi.dst v) w'):=by
 obtain⟨h1,h2,h3⟩:=Oper.apart_spec hap
 unfold opAt at*
 simp only[hj]at*
 rw[zfx h1]at h
 split
 ·rename_i hw
  rw[if_pos hw]at h
  unfold opW at*
  rw[ziq hsj h1]at h
  refine zha (fun u w' hk=>⟨⟨u,rfl⟩,?_⟩) h
  rw[←zhV σ v u h2];exact hk
 ·rename_i hw
  rw[if_neg hw]at h
  exact⟨⟨undef,rfl⟩,by rw[←zhV σ v undef h2];exact h⟩
theorem zdD{i:Nat}{oi:Oper}{v:Value}{σ:Sto}{w:World}(hi:ops[i]? =some oi)(h:qv P ops n i σ w v){K':Sto→World→Prop}(hk:K' (putS σ oi.dst v) w):
  opAt P ops n i σ w K':=by
 unfold qv at h
 unfold opAt
 simp only[hi]at*
 split
 ·rename_i hw
  rw[if_pos hw]at h
  exact zel (fun v' w' ⟨e1,e2⟩=>by subst e1;subst e2;exact hk) h
 ·rename_i hw
  rw[if_neg hw]at h
  subst h
  exact hk
theorem zk8{i:Nat}{oi:Oper}{v:Value}(hi:ops[i]? =some oi)(hsel:Region.noSelect ops=true):
  ∀(f:Nat) (l:Array Bool) (σ:Sto) (w:World),zch ops l→
   (∀j oj,ops[j]? =some oj→j≠i→l.getD j true=false→(∀e∈oj.after,Region.binds .any e=true→e.on≠i)→oi.apart ops oj=true)→
   i∈rdy ops l→(∀x,qv P ops n i σ x v)→any0 P ops n K f (l.setIfInBounds i true) (putS σ oi.dst v) w→any0 P ops n K (f+1) l σ w:=by
 intro f
 induction f with
 |zero=>
  intro l σ w hcl _ hr hy H
  refine⟨fun h=>(by rw[h]at hr;cases hr),fun j hj=>?_⟩
  by_cases hji:j=i
  ·subst hji;exact zdD hi (hy w) H
  ·have this:j∈rdy ops (l.setIfInBounds i true):=ready_mono hj hji
   rw[H.1]at this
   cases this
 |succ f ih=>
  intro l σ w hcl hfree hr hy H
  refine⟨fun h=>(by rw[h]at hr;cases hr),fun j hj=>?_⟩
  by_cases hji:j=i
  ·subst hji;exact zdD hi (hy w) H
  ·have h1:=H.2 j (ready_mono hj hji)
   have hiun:l.getD i true=false:=(mem_ready.1 hr).1
   have hiun':l.getD i false=false:=by
    rcases Nat.lt_or_ge i l.size with h'|h'
    ·simp[h']at hiun ⊢;exact hiun
    ·simp[Array.getElem?_eq_none h']at hiun
   obtain⟨hjun,oj,hoj,hall⟩:=mem_ready.1 hj
   have hnot:∀e∈oj.after,Region.binds .any e=true→e.on≠i:=fun e he hb heq=>by
    have h1:=hall e he hb
    rw[heq,hiun']at h1;cases h1
   have hap:=hfree j oj hoj hji hjun hnot
   have h2:=zh4 hoj hap (fun cs b=>Region.noSelect_spec hsel j oj cs b hoj) h1
   have hfree':∀k ok,ops[k]? =some ok→k≠i→(l.setIfInBounds j true).getD k true=false→
     (∀e∈ok.after,Region.binds .any e=true→e.on≠i)→oi.apart ops ok=true:=fun k ok hk hki hun hno=>by
    refine hfree k ok hk hki ?_ hno
    by_cases hjk:j=k
    ·subst hjk;exact hjun
    ·rw[getD_set_ne true hjk]at hun;exact hun
   refine zb1 (fun σ' w' h3=>?_) h2
   obtain⟨⟨u,rfl⟩,h3⟩:=h3
   refine ih (l.setIfInBounds j true) (putS σ oj.dst u) w' (zbH hcl hj) hfree' (ready_mono hr (Ne.symm hji)) ?_ ?_
   ·exact fun x=>zi2 hi (fun cs b=>Region.noSelect_spec hsel i oi cs b hi) hap (hy x)
   ·rw[Array.setIfInBounds_comm _ _ hji];exact h3
theorem zgU{i:Nat}{oi:Oper}{v:Value}(hi:ops[i]? =some oi)(hsel:Region.noSelect ops=true)(hB:zdM ops isB=true)(hni:isB i=false):
  ∀(f:Nat) (C:World→Prop) (l:Array Bool) (σ:Sto) (w:World),zch ops l→
   (∀j oj,ops[j]? =some oj→j≠i→l.getD j true=false→(∀e∈oj.after,Region.binds .any e=true→e.on≠i)→oi.apart ops oj=true)→
   i∈rdy ops l→(∀x,zfT ops i=true∨C x→qv P ops n i σ x v)→C w→
   anyK P ops n isB K C f (l.setIfInBounds i true) (putS σ oi.dst v) w→anyK P ops n isB K C (f+1) l σ w:=by
 have hsz:i<ops.size:=(Array.getElem?_eq_some_iff.1 hi).1
 intro f
 induction f with
 |zero=>
  intro C l σ w hcl _ hr hy hC H
  refine⟨fun h=>(by rw[h]at hr;cases hr),fun j hj=>?_⟩
  by_cases hji:j=i
  ·subst hji;exact zdD hi (hy w (.inr hC)) (.inr ⟨hni,C,fun _ h=>h,hC,H⟩)
  ·have this:j∈rdy ops (l.setIfInBounds i true):=ready_mono hj hji
   rw[H.1]at this
   cases this
 |succ f ih=>
  intro C l σ w hcl hfree hr hy hC H
  refine⟨fun h=>(by rw[h]at hr;cases hr),fun j hj=>?_⟩
  by_cases hji:j=i
  ·subst hji;exact zdD hi (hy w (.inr hC)) (.inr ⟨hni,C,fun _ h=>h,hC,H⟩)
  ·have h1:=H.2 j (ready_mono hj hji)
   have hiun:l.getD i true=false:=(mem_ready.1 hr).1
   have hiun':l.getD i false=false:=by
    rcases Nat.lt_or_ge i l.size with h'|h'
    ·simp[h']at hiun ⊢;exact hiun
    ·simp[Array.getElem?_eq_none h']at hiun
   have hjnb:isB j=true→zfT ops i=true:=fun hb=>by
    cases hf:zfT ops i with
    |true=>rfl
    |false=>have:=B_waits hB hcl hj hb hsz hni hf;rw[hiun']at this;cases this
   obtain⟨hjun,oj,hoj,hall⟩:=mem_ready.1 hj
   have hnot:∀e∈oj.after,Region.binds .any e=true→e.on≠i:=fun e he hb heq=>by
    have h1:=hall e he hb
    rw[heq,hiun']at h1;cases h1
   have hap:=hfree j oj hoj hji hjun hnot
   have h2:=zh4 hoj hap (fun cs b=>Region.noSelect_spec hsel j oj cs b hoj) h1
   have hfree':∀k ok,ops[k]? =some ok→k≠i→(l.setIfInBounds j true).getD k true=false→
     (∀e∈ok.after,Region.binds .any e=true→e.on≠i)→oi.apart ops ok=true:=fun k ok hk hki hun hno=>by
    refine hfree k ok hk hki ?_ hno
    by_cases hjk:j=k
    ·subst hjk;exact hjun
    ·rw[getD_set_ne true hjk]at hun;exact hun
   refine zb1 (fun σ' w' h3=>?_) h2
   obtain⟨⟨u,rfl⟩,h3⟩:=h3
   rcases h3 with ⟨hb,h3⟩| ⟨hjnb,C',hsub,hC',h3⟩
   ·refine .inl ⟨hb,zk8 (v:=v) hi hsel f (l.setIfInBounds j true) (putS σ oj.dst u) w' (zbH hcl hj) hfree' (ready_mono hr (Ne.symm hji)) ?_ ?_⟩
    ·exact fun x=>zi2 hi (fun cs b=>Region.noSelect_spec hsel i oi cs b hi) hap (hy x (.inl (hjnb hb)))
    ·rw[Array.setIfInBounds_comm _ _ hji];exact h3
   ·refine .inr ⟨hjnb,C',hsub,hC',ih C' (l.setIfInBounds j true) (putS σ oj.dst u) w' (zbH hcl hj) hfree' (ready_mono hr (Ne.symm hji)) ?_ hC' ?_⟩
    ·exact fun x hx=>zi2 hi (fun cs b=>Region.noSelect_spec hsel i oi cs b hi) hap (hy x (hx.imp id (hsub x)))
    ·rw[Array.setIfInBounds_comm _ _ hji];exact h3
/-! ### The plan -/
def zfK(ops:Array Oper)(isB:Nat→Bool):List (Nat×Bool)→Array Bool→Bool
 | [],l=>(rdy ops l).isEmpty
 | (i,true)::pl,l=>(rdy ops l).contains i && Region.free .any ops l i && !isB i && zfK ops isB pl (l.setIfInBounds i true)
 | (i,false)::pl,l=>(rdy ops l==[i]) && zfK ops isB pl (l.setIfInBounds i true)
def zfW(P:Program)(ops:Array Oper)(n:Nat)(S:Nat→Prop)(isB:Nat→Bool):List (Nat×Bool)→Sto→World→(Sto→World→Prop)→Prop
 | [],σ,w,K=>K σ w
 | (i,true)::pl,σ,w,K=>∃v,(∀x,zfT ops i=true∨Keep S w x→qv P ops n i σ x v)∧zfW P ops n S isB pl (putS σ (zjf ops i) v) w K
 | (i,false)::pl,σ,w,K=>opAt P ops n i σ w (fun σ' w'=>(isB i=true∨Keep S w w')∧zfW P ops n S isB pl σ' w' K)
theorem zdy{S:Nat→Prop}(hsel:Region.noSelect ops=true)(hB:zdM ops isB=true):∀(pl:List (Nat×Bool)) (l:Array Bool) (σ:Sto) (w:World),zch ops l→
  zfK ops isB pl l=true→zfW P ops n S isB pl σ w K→anyK P ops n isB K (Keep S w) pl.length l σ w
 | [],l,σ,w,_,hp,h=>⟨by simpa [zfK] using hp,h⟩
 | (i,true)::pl,l,σ,w,hcl,hp,h=>by
  simp only[zfK,Bool.and_eq_true,Bool.not_eq_true',List.contains_iff_mem]at hp
  obtain⟨⟨⟨hr,hfree⟩,hni⟩,hp⟩:=hp
  obtain⟨v,hq,h⟩:=h
  obtain⟨_,oi,hoi,_⟩:=mem_ready.1 hr
  have hd:zjf ops i=oi.dst:=by simp[zjf,hoi]
  rw[hd]at h
  exact zgU hoi hsel hB hni pl.length (Keep S w) l σ w hcl (Region.free_spec hoi hfree) hr hq (Keep.refl S w)
   (zdy hsel hB pl _ _ w (zbH hcl hr) hp h)
 | (i,false)::pl,l,σ,w,hcl,hp,h=>by
  simp only[zfK,Bool.and_eq_true,beq_iff_eq]at hp
  obtain⟨hr,hp⟩:=hp
  have hmem:i∈rdy ops l:=by rw[hr];exact List.mem_singleton.2 rfl
  refine⟨fun h0=>(by rw[hr]at h0;cases h0),fun j hj=>?_⟩
  rw[hr]at hj
  obtain rfl:=List.mem_singleton.1 hj
  refine zb1 (fun σ' w' ⟨hor,hk⟩=>?_) h
  have hrec:=zdy hsel hB pl _ σ' w' (zbH hcl hmem) hp hk
  cases hb:isB j with
  |true=>exact .inl ⟨rfl,zcJ _ _ _ _ _ hrec⟩
  |false=>
   rw[hb]at hor
   have hkeep:=hor.resolve_left (by simp)
   exact .inr ⟨rfl,Keep S w',fun x hx=>hkeep.trans hx,Keep.refl S w',hrec⟩
theorem zbM{r:Option Nat}{ds:List Deferred}{Q:Exit→Act→World→Prop}(hd:zbd ops=true)(hK:∀σ w,K σ w→Q .normal (act n σ ds) w):
  ∀(f:Nat) (l:Array Bool) (σ:Sto) (w:World),any0 P ops n K f l σ w→wpAnyIn (fw r) 0 P .any ops Q f l (act n σ ds) w
 |0,_,_,_,h=>⟨h.1,hK _ _ h.2⟩
 |f+1,l,σ,w,h=>by
  refine⟨fun h0=>hK _ _ (h.1 h0),fun i hi=>?_⟩
  have h2:=h.2 i hi
  unfold opAt at h2
  unfold wpOpIn
  split
  ·rename_i ho;rw[ho]at h2;exact zbM hd hK f _ _ _ h2
  ·rename_i o ho
   rw[ho]at h2
   dsimp only at h2
   rw[zgd]
   split
   ·rename_i hw
    rw[if_pos hw]at h2
    refine opW_in (ze0 hd ho) ?_
    rw[zc4]
    refine zel (fun v w' hk=>?_) h2
    rw[zhx]
    exact zbM hd hK f _ _ _ hk
   ·rename_i hw
    rw[if_neg hw]at h2
    refine⟨fun _ _=>trivial,?_⟩
    rw[zhx]
    exact zbM hd hK f _ _ _ h2
end
def zmV(ops:Array Oper)(isB:Nat→Bool)(pl:List (Nat×Bool)):Bool:=
 Region.noSelect ops && zbd ops && zdM ops isB && decide (pl.length=ops.size) && zfK ops isB pl (Array.replicate ops.size false)
theorem ze4(ops:Array Oper):zch ops (Array.replicate ops.size false):=by
 intro k o ho hk
 by_cases h:k<ops.size<;>simp[h]at hk
theorem W_draw{P:Program}{r:Option Nat}{n:Nat}{Q:Post}{σ:Sto}{ds:List Deferred}{w:World}{id:Nat}{ops:Array Oper}
  (isB:Nat→Bool) (pl:List (Nat×Bool)) (S:Nat→Prop)
  (hm:P.follows .mixedOrders=true) (hok:zmV ops isB pl=true)
  (h:zfW P ops n S isB pl σ w.drew (fun σ w=>Q .normal σ ds w)):W P r n (.region id ops true) Q σ ds w:=by
 simp only[zmV,Bool.and_eq_true,decide_eq_true_eq]at hok
 obtain⟨⟨⟨⟨h1,h2⟩,h3⟩,h4⟩,h5⟩:=hok
 refine wpIn_region_any hm ?_
 have:=zdy (K:=fun σ w=>Q .normal σ ds w) h1 h3 pl _ σ w.drew (ze4 ops) h5 h
 rw[h4]at this
 exact zbM h2 (fun σ w hk=>⟨σ,ds,rfl,hk⟩) _ _ _ _ (zcJ _ _ _ _ _ this)
abbrev vs(l:List UInt8):Value:= .string ⟨l.toArray⟩
abbrev vi(n:Int):Value:= .int .i64 n
def tyU(P:Program)(t:TypeId):Option TypeDesc:=P.underlying t
def tyS(P:Program)(t:TypeId):Nat:=((P.info? t).map (·.size)).getD 0
def tyA(P:Program)(t:TypeId):Bool:=match P.underlying t with|some (.struct _)|some (.array _ _)=>true|_=>false
def zdt(l m:List UInt8):Bool:=Op.bytesLess l m
-- a shift by a number of another kind
def shV(op:BinOp)(k:IntKind)(a b:Int):Option Value:=
 match op with
 | .shr=>if b<0 then Option.none else some (.int k (a.fdiv (2 ^ (min b.toNat k.bits))))
 | .shl=>if b<0 then Option.none else some (.int k (k.wrap (a*2 ^ (min b.toNat k.bits))))
 |_=>Option.none
def binV(P:Program)(op:BinOp)(t:TypeId):Value→Value→Option Value
 | .int k a,.int k' b=>if k=k' then
   match op with
   | .add=>some (.int k (k.wrap (a+b)))
   | .sub=>some (.int k (k.wrap (a - b)))
   | .mul=>some (.int k (k.wrap (a*b)))
   | .lss=>some (.bool (decide (a<b)))
   | .leq=>some (.bool (decide (a≤b)))
   | .gtr=>some (.bool (decide (b<a)))
   | .geq=>some (.bool (decide (b≤a)))
   | .eql=>some (.bool (decide (a=b)))
   | .neq=>some (.bool (!decide (a=b)))
   | .quo=>if b=0 then Option.none else some (.int k (k.wrap (a.tdiv b)))
   | .rem=>if b=0 then Option.none else some (.int k (a.tmod b))
   | .shr=>if b<0 then Option.none else some (.int k (a.fdiv (2 ^ (min b.toNat k.bits))))
   | .shl=>if b<0 then Option.none else some (.int k (k.wrap (a*2 ^ (min b.toNat k.bits))))
   | .and=>some (.int k (k.wrap (BitVec.ofInt k.bits a &&& BitVec.ofInt k.bits b).toNat))
   | .or=>some (.int k (k.wrap (BitVec.ofInt k.bits a|||BitVec.ofInt k.bits b).toNat))
   |_=>Option.none
  else shV op k a b
 | .string s,.string u=>
   match op with
   | .add=>if ((s.size+u.size:Nat):Int)>IntKind.i64.max then Option.none else some (.string (s++u))
   | .eql=>some (.bool (decide (s=u)))
   | .neq=>some (.bool (!decide (s=u)))
   | .lss=>some (.bool (zdt s.data.toList u.data.toList))
   | .gtr=>some (.bool (!(zdt s.data.toList u.data.toList||decide (s=u))))
   |_=>Option.none
 | .bool a,.bool b=>match op,tyU P t with
   | .eql,some .bool=>some (.bool (a==b))
   | .neq,some .bool=>some (.bool (!(a==b)))
   |_,_=>Option.none
 | .pointer a,.pointer Option.none=>match op,tyU P t with
   | .eql,some (.pointer _)=>some (.bool a.isNone)
   | .neq,some (.pointer _)=>some (.bool (!a.isNone))
   |_,_=>Option.none
 |_,_=>Option.none
theorem zeH(s u:ByteArray):(s.toList==u.toList)=decide (s=u):=by
 by_cases h:s=u
 ·subst h;simp
 ·have:¬s.toList=u.toList:=fun e=>h (by
   rw[ByteArray.toList_eq,ByteArray.toList_eq]at e
   exact ByteArray.ext (Array.toList_inj.1 e))
  simp[h,this]
theorem zna(a b:Int):(a==b)=decide (a=b):=by by_cases h:a=b<;>simp[h]
theorem zmP{P:Program}{t:TypeId}(h:P.underlying t=some .bool)(d:Nat)(a b:Bool)(w:World):
  (Op.equalIn (d+1) t (.bool a) (.bool b)).run P w= .ok (a==b) w:=by
 simp[Op.equalIn,underlying,program,Sem.run,h]
theorem eqIn_ptr{P:Program}{t e:TypeId}(h:P.underlying t=some (.pointer e))(d:Nat)(a:Option Addr)(w:World):
  (Op.equalIn (d+1) t (.pointer a) (.pointer Option.none)).run P w= .ok a.isNone w:=by
 cases a<;>simp[Op.equalIn,underlying,program,Sem.run,h]
theorem zmO{P:Program}{t:TypeId}(h:P.underlying t=some .bool)(a b:Bool)(w:World):
  (Op.equal t (.bool a) (.bool b)).run P w= .ok (a==b) w:=zmP h 9999 a b w
theorem eq_ptr{P:Program}{t e:TypeId}(h:P.underlying t=some (.pointer e))(a:Option Addr)(w:World):
  (Op.equal t (.pointer a) (.pointer Option.none)).run P w= .ok a.isNone w:=eqIn_ptr h 9999 a w
theorem binV_run{P:Program}{op:BinOp}{t:TypeId}{x y:Operand}{a b v:Value}{w:World}(h:binV P op t a b=some v):
    (do eqGuard op t x y a b;binOp op t a b:Sem Value).run P w= .ok v w:=by
  unfold binV at h
  split at h
  · rename_i k m k' m'
    split at h
    · rename_i hk
      subst hk
      split at h<;>first
        | (cases h;simp[eqGuard,binOp,Op.intArith,Op.intCmp,Sem.run,zna];done)
        | (cases h;simp[eqGuard,binOp,Op.intArith,Op.intCmp,Sem.run,zna,bne];done)
        | (split at h
           · cases h
           · rename_i hb;cases h;simp[eqGuard,binOp,Op.intDiv,hb,Sem.run])
        | (split at h
           · cases h
           · rename_i hb;cases h;simp[eqGuard,binOp,Op.shift,hb,Sem.run])
        | (cases h;simp[eqGuard,binOp,Op.intBits,Sem.run];done)
        |cases h
    · unfold shV at h
      split at h<;>first
        | (split at h
           · cases h
           · rename_i hb;cases h;simp[eqGuard,binOp,Op.shift,hb,Sem.run])
        |cases h
  · rename_i s u
    split at h
    · split at h
      · cases h
      · rename_i hb;cases h
        have hb':((s.size:Int)+(u.size:Int))≤9223372036854775807:=by
          have:IntKind.i64.max=9223372036854775807:=by decide
          rw[this]at hb;push_cast at hb;omega
        simp[eqGuard,binOp,Op.stringOp,Sem.run,hb']
    all_goals first
      | (cases h;simp[eqGuard,binOp,Op.stringOp,Sem.run,zeH,zdt,ByteArray.toList_eq];done)
      | (cases h;simp[eqGuard,binOp,Op.stringOp,Sem.run];rw[zeH];done)
      | (cases h;rw[←zeH,zdt,←ByteArray.toList_eq,←ByteArray.toList_eq];rfl)
      |cases h
  · split at h
    · rename_i hu;cases h;simp[eqGuard,binOp,zmO (show P.underlying t=_ from hu)]
    · rename_i hu;cases h;simp[eqGuard,binOp,zmO (show P.underlying t=_ from hu)]
    · cases h
  · split at h
    · rename_i hu;cases h;simp[eqGuard,binOp,eq_ptr (show P.underlying t=_ from hu)]
    · rename_i hu;cases h;simp[eqGuard,binOp,eq_ptr (show P.underlying t=_ from hu)]
    · cases h
  · cases h
def unV(op:UnOp):Value→Option Value
 | .bool b=>match op with| .not=>some (.bool (!b))|_=>Option.none
 | .int k n=>match op with| .neg=>some (.int k (k.wrap (0 - n)))|_=>Option.none
 |_=>Option.none
theorem unV_run{P:Program}{op:UnOp}{a v:Value}{w:World}(h:unV op a=some v):(Op.unary op a).run P w= .ok v w:=by
 unfold unV at h
 split at h
 ·split at h<;>cases h;simp[Op.unary,Op.intArith,Sem.run]
 ·split at h<;>cases h;simp[Op.unary,Op.intArith,Sem.run]
 ·cases h
def zaQ(w:World)(a:Addr):Nat→Nat→Option (List Value)
 |_,0=>some []
 |i,n+1=>match w.cell? (a.add i),zaQ w a (i+1) n with
  |some v,some l=>some (v::l)
  |_,_=>Option.none
def ldV(P:Program)(w:World)(t:TypeId)(a:Addr):Option Value:=
 bif tyA P t then(zaQ w a 0 (tyS P t)).map fun l=> .agg l.toArray else(bif (tyU P t).isSome then w.cell? a else Option.none)
theorem zcC{P:Program}{w:World}{a:Addr}:∀(n i:Nat) (acc:Array Value) (l:List Value),zaQ w a i n=some l→
  (loadCellsFrom a i n acc).run P w= .ok (acc++l.toArray) w
 |0,i,acc,l,h=>by simp[zaQ]at h;subst h;simp[loadCellsFrom,Sem.run]
 |n+1,i,acc,l,h=>by
  unfold zaQ at h
  split at h
  ·rename_i v l' h1 h2
   cases h
   have:=zcC (P:=P) n (i+1) (acc.push v) l' h2
   simp[loadCellsFrom,load,Sem.run,h1,this]
  ·cases h
theorem zmq{P:Program}{w:World}{t:TypeId}{a:Addr}{v:Value}(h:ldV P w t a=some v):(loadVar t a).run P w= .ok v w:=by
 unfold ldV at h
 cases hA:tyA P t with
 |true=>
  rw[hA]at h
  simp only[cond_true,Option.map_eq_some_iff]at h
  obtain⟨l,hl,rfl⟩:=h
  have hu:(isAgg t).run P w= .ok true w:=by
   unfold tyA at hA
   split at hA
   ·rename_i hd;simp[isAgg,underlying,program,Sem.run,hd]
   ·rename_i hd;simp[isAgg,underlying,program,Sem.run,hd]
   ·cases hA
  have hs:∃i,P.info? t=some i∧i.size=tyS P t:=by
   cases hi:P.info? t with
   |some i=>exact⟨i,rfl,by simp[tyS,hi]⟩
   |none=>simp[tyA,Program.underlying,hi]at hA
  obtain⟨i,hi,hs⟩:=hs
  have:=zcC (P:=P) (tyS P t) 0 #[] l hl
  simp[loadVar,hu,loadCells,sizeOf,typeInfo,program,Sem.run,hi,hs,this]
 |false=>
  rw[hA]at h
  simp only[cond_false]at h
  have hsome:(tyU P t).isSome=true:=by
   cases hs:(tyU P t).isSome with
   |true=>rfl
   |false=>rw[hs]at h;cases h
  rw[hsome]at h
  simp only[cond_true]at h
  have hu:(isAgg t).run P w= .ok false w:=by
   obtain⟨d,hd⟩:=Option.isSome_iff_exists.1 hsome
   have hd':P.underlying t=some d:=hd
   unfold tyA at hA
   rw[hd']at hA
   cases d<;>first| (cases hA;done)|simp[isAgg,underlying,program,Sem.run,hd']
  simp[loadVar,hu,load,Sem.run,h]
def zaj(P:Program)(f:FuncId):Bool:=
 match P.funcs[f]? with
 |some fn=>fn.body.isSome && !(fn.name== "runtime.NumGoroutine")
 |Option.none=>false
def Fn(P:Program)(f:FuncId)(args:Array Value)(w:World)(R:Value→World→Prop):Prop:=
 CallsIn (fw Option.none) 0 P f args w (fun e w'=>∃v,e= .returned v∧R v w')
theorem Fn.mono{P:Program}{f:FuncId}{args:Array Value}{w:World}{R R':Value→World→Prop}(h:Fn P f args w R)(hr:∀v w',R v w'→R' v w'):
  Fn P f args w R':=CallsIn.mono h fun _ _ ⟨v,he,hk⟩=>⟨v,he,hr _ _ hk⟩
theorem zdi{P:Program}{f:FuncId}{args:Array Value}{w:World}(h:zaj P f=true):(callFunc f args).run P w= .ok (.enter f args) w:=by
 unfold zaj at h
 split at h
 ·rename_i fn hf
  simp only[Bool.and_eq_true,Bool.not_eq_true',Option.isSome_iff_exists]at h
  obtain⟨⟨c,hb⟩,hn⟩:=h
  have hn':¬fn.name= "runtime.NumGoroutine" :=by simpa using hn
  simp[callFunc,program,Sem.run,hf,hb,hn']
 ·cases h
def extC(P:Program)(f:FuncId)(args:Array Value)(w:World)(K:Value→World→Prop):Prop:=∃v w',(callFunc f args).run P w= .ok (.value v) w'∧K v w'
def ziF(P:Program)(f:Value)(args:Array Value)(w:World)(K:Value→World→Prop):Prop:=
 match f with
 | .func (.func f) first captured=>bif zaj P f then Fn P f (first++args++captured) w K else extC P f (first++args++captured) w K
 | .func (.yield l) first captured=>opR P K ((Instr.yield l (first++args)).run P w)
 |_=>False
theorem zm3{P:Program}{f:Operand}{args:Array Operand}{ts:Array TypeId}{ty:TypeId}{ρ:Operand→Value}{w:World}{K:Value→World→Prop}
  (h:ziF P (ρ f) (args.map ρ) w K):opR P K ((do let d ←resolve ρ {callee:= .value f,args,argTypes:=ts} ty;invoke d.target d.args:Sem Next).run P w):=by
 unfold ziF at h
 split at h
 ·rename_i g first captured hf
  simp only[resolve,Sem.run_bind,hf,Deferred.ofValue]
  cases hc:zaj P g with
  |true=>
   rw[hc]at h
   simp only[Sem.run_pure,Result.andThen_ok,invoke,zdi hc]
   exact h
  |false=>
   rw[hc]at h
   obtain⟨v,w',hr,hk⟩:=h
   simp only[Sem.run_pure,Result.andThen_ok,invoke,hr]
   exact hk
 ·rename_i l first captured hf
  simp only[resolve,Sem.run_bind,hf,Deferred.ofValue]
  simp only[Sem.run_pure,Result.andThen_ok,invoke]
  exact h
 ·exact h.elim
def lenV(P:Program)(t:TypeId)(v:Value):Option Value:=
 match tyU P t,v with
 |some .string,.string s=>some (vi s.size)
 |some (.slice _),.slice _ n _=>some (vi n)
 |some (.array n _),_=>some (vi n)
 |_,_=>Option.none
theorem lenV_run{P:Program}{t:TypeId}{v u:Value}{w:World}(h:lenV P t v=some u)(ts:Array TypeId)(ty:TypeId)(hts:ts[0]? =some t):
  (Builtin.len_ ts ty #[v]).run P w= .ok u w:=by
 unfold lenV at h
 split at h<;>first
  | (rename_i hu _;cases h;simp[Builtin.len_,hts,underlying,program,Sem.run,show P.underlying t=_ from hu,goInt];done)
  | (rename_i hu;cases h;simp[Builtin.len_,hts,underlying,program,Sem.run,show P.underlying t=_ from hu,goInt];done)
  |cases h
def adr(a:Option Addr)(k:Nat):Option Addr:=a.map (·.add k)
theorem zfv(b o n:Nat):(⟨b,o,Option.none⟩:Addr).add n=⟨b,o+n,Option.none⟩:=by
 unfold Addr.add;split
 ·rename_i h;subst h;rfl
 ·rfl
theorem zdz(a:Addr)(j k:Nat):(a.add j).add k=a.add (j+k):=by
 unfold Addr.add
 by_cases h1:j=0<;>by_cases h2:k=0<;>simp[h1,h2,Nat.add_assoc]
theorem zeY(a:Option Addr)(j k:Nat):adr (adr a j) k=adr a (j+k):=by
 cases a<;>simp[adr,zdz]
theorem zaZ(b o k:Nat):adr (some ⟨b,o,Option.none⟩) k=some ⟨b,o+k,Option.none⟩:=by simp[adr,zfv]
theorem zk9(a:Option Addr)(k:Nat):(adr a k).isSome=a.isSome:=by cases a<;>rfl
theorem zam(a:Option Addr):adr a 0=a:=by cases a<;>simp[adr,Addr.add]
def ixA(P:Program)(t:TypeId)(x i:Value):Option Value:=
 match tyU P t,x,i with
 |some (.slice e),.slice a n _,.int _ j=>if 0≤j∧j<n∧a.isSome=true then(bif (P.info? e).isSome then some (.pointer (adr a (j.toNat*tyS P e))) else Option.none) else Option.none
 |some (.array n e),.pointer a,.int _ j=>if 0≤j∧j<n∧a.isSome=true then(bif (P.info? e).isSome then some (.pointer (adr a (j.toNat*tyS P e))) else Option.none) else Option.none
 |_,_,_=>Option.none
theorem ixA_run{P:Program}{t:TypeId}{x i u:Value}{w:World}(h:ixA P t x i=some u):(Instr.indexAt t x i).run P w= .ok u w:=by
 unfold ixA at h
 split at h
 ·rename_i e a n c k j hu
  split at h
  ·rename_i hj
   obtain⟨h1,h2,h3⟩:=hj
   obtain⟨a,rfl⟩:=Option.isSome_iff_exists.1 h3
   cases hi:P.info? e with
   |none=>rw[hi]at h;cases h
   |some inf=>
    rw[hi]at h
    simp only[Option.isSome_some,cond_true,Option.some.injEq]at h
    subst h
    simp[Instr.indexAt,asIntOf,underlying,program,Sem.run,show P.underlying t=_ from hu,h1,h2,sizeOf,typeInfo,hi,adr,tyS]
  ·cases h
 ·rename_i n e a k j hu
  split at h
  ·rename_i hj
   obtain⟨h1,h2,h3⟩:=hj
   obtain⟨a,rfl⟩:=Option.isSome_iff_exists.1 h3
   cases hi:P.info? e with
   |none=>rw[hi]at h;cases h
   |some inf=>
    rw[hi]at h
    simp only[Option.isSome_some,cond_true,Option.some.injEq]at h
    subst h
    simp[Instr.indexAt,Instr.sureAddr,asIntOf,underlying,program,Sem.run,show P.underlying t=_ from hu,h1,h2,sizeOf,typeInfo,hi,adr,tyS]
  ·cases h
 ·cases h
def ixS(P:Program)(t:TypeId)(x i:Value):Option Value:=
 match tyU P t,x,i with
 |some .string,.string s,.int _ j=>if 0≤j then(s.data.toList[j.toNat]?).map (fun c=> .int .u8 c.toNat) else Option.none
 |_,_,_=>Option.none
theorem ixS_run{P:Program}{t:TypeId}{x i u:Value}{w:World}(h:ixS P t x i=some u):(Instr.index t x i).run P w= .ok u w:=by
 unfold ixS at h
 split at h
 ·rename_i s k j hu
  split at h
  ·rename_i hj
   simp only[Option.map_eq_some_iff]at h
   obtain⟨c,hc,rfl⟩:=h
   have:s[j.toNat]? =some c:=by
    rw[Array.getElem?_toList]at hc
    obtain⟨h1,h2⟩:=Array.getElem?_eq_some_iff.1 hc
    have h3:j.toNat<s.size:=h1
    rw[getElem?_pos s j.toNat h3]
    exact congrArg some h2
   simp[Instr.index,asIntOf,underlying,program,Sem.run,show P.underlying t=_ from hu,hj,this]
  ·cases h
 ·cases h
def slB(lo:Option Value):Option Nat:=
 match lo with
 |Option.none=>some 0
 |some (.int _ i)=>if 0≤i then some i.toNat else Option.none
 |_=>Option.none
def slH(hi:Option Value)(n:Nat):Option Nat:=
 match hi with
 |Option.none=>some n
 |some (.int _ i)=>if 0≤i then some i.toNat else Option.none
 |_=>Option.none
def slV(P:Program)(t:TypeId)(x:Value)(lo hi mx:Option Value):Option Value:=
 match tyU P t,x,mx with
 |some .string,.string s,Option.none=>match slB lo,slH hi s.size with
  |some l,some h=>if l≤h∧h≤s.size then some (.string (s.extract l h)) else Option.none
  |_,_=>Option.none
 |some (.slice e),.slice a n c,_=>match slB lo,slH hi n,slH mx c with
  |some l,some h,some m=>if l≤h∧h≤m∧m≤c∧(mx.isSome=true→hi.isSome=true) then
    (bif (P.info? e).isSome then some (.slice (if m=l then a else adr a (l*tyS P e)) (h - l) (m - l)) else Option.none)
   else Option.none
  |_,_,_=>Option.none
 |_,_,_=>Option.none
theorem zdN{P:Program}{w:World}{k:IntKind}{i:Int}{y:Nat}{code:BoundsCode}(h0:0≤i)(h1:i.toNat≤y):
  (Instr.sliceBound (.int k i) y code).run P w= .ok i.toNat w:=by
 have:i≤(y:Int):=by omega
 simp[Instr.sliceBound,asIntOf,Sem.run,h0,this]
theorem zlG{P:Program}{w:World}{lo:Option Value}{l y:Nat}{code:BoundsCode}(hl:slB lo=some l)(h:l≤y):
  (match lo with|some v=>Instr.sliceBound v y code|Option.none=>pure 0:Sem Nat).run P w= .ok l w:=by
 cases lo with
 |none=>simp only[slB,Option.some.injEq]at hl;subst hl;rfl
 |some lv=>
  cases lv<;>simp only[slB]at hl<;>try (cases hl;done)
  split at hl
  ·rename_i h0;cases hl;exact zdN h0 h
  ·cases hl
theorem ziZ{P:Program}{w:World}{hi:Option Value}{n h y:Nat}{code:BoundsCode}(hh:slH hi n=some h)(hle:h≤y):
  (match hi with|some v=>Instr.sliceBound v y code|Option.none=>pure n:Sem Nat).run P w= .ok h w:=by
 cases hi with
 |none=>simp only[slH,Option.some.injEq]at hh;subst hh;rfl
 |some lv=>
  cases lv<;>simp only[slH]at hh<;>try (cases hh;done)
  split at hh
  ·rename_i h0;cases hh;exact zdN h0 hle
  ·cases hh
theorem zbP{P:Program}{w:World}{sl:Bool}{lo hi mx:Option Value}{n c l h m:Nat}(hl:slB lo=some l)(hh:slH hi n=some h)(hm:slH mx c=some m)
  (h1:l≤h) (h2:h≤m) (h3:m≤c) (h4:mx.isSome=true→hi.isSome=true):(Instr.sliceBounds sl n c lo hi mx).run P w= .ok (l,h,m) w:=by
 unfold Instr.sliceBounds
 cases mx with
 |none=>
  simp only[slH,Option.some.injEq]at hm
  subst hm
  have e2:=fun code=>zlG (P:=P) (w:=w) (code:=code) hl h1
  cases hi with
  |none=>
   simp only[slH,Option.some.injEq]at hh
   subst hh
   cases lo with
   |none=>have:=e2 .sliceB;simp at this;simp[this]
   |some lv=>have:=e2 .sliceB;simp at this;simp[this]
  |some hv=>
   have e3:=fun code=>ziZ (P:=P) (w:=w) (code:=code) hh h2
   simp only at e3
   cases lo with
   |none=>have:=e2 .sliceB;simp at this;simp[e3,this]
   |some lv=>have:=e2 .sliceB;simp at this;simp[e3,this]
 |some mv=>
  have e1:=fun code=>ziZ (P:=P) (w:=w) (code:=code) hm h3
  simp only at e1
  have e2:=fun code=>zlG (P:=P) (w:=w) (code:=code) hl h1
  cases hi with
  |none=>simp at h4
  |some hv=>
   have e3:=fun code=>ziZ (P:=P) (w:=w) (code:=code) hh h2
   simp only at e3
   cases lo with
   |none=>have:=e2 .slice3C;simp at this;simp[e1,e3,this]
   |some lv=>have:=e2 .slice3C;simp at this;simp[e1,e3,this]
theorem slV_run{P:Program}{t:TypeId}{x u:Value}{lo hi mx:Option Value}{w:World}(h:slV P t x lo hi mx=some u):
  (Instr.sliceAt t x lo hi mx).run P w= .ok u w:=by
 unfold slV at h
 split at h
 ·rename_i s hu
  split at h
  ·rename_i l hh hl hhh
   split at h
   ·rename_i hle
    cases h
    have e1:=zbP (P:=P) (w:=w) (sl:=false) (n:=s.size) (c:=s.size) hl hhh (mx:=Option.none) rfl hle.1 hle.2 (Nat.le_refl _) (by simp)
    simp[Instr.sliceAt,Instr.slice,underlying,program,Sem.run,show P.underlying t=_ from hu,e1]
   ·cases h
  ·cases h
 ·rename_i hu
  split at h
  ·rename_i l hh m hl hhh hm
   split at h
   ·rename_i hle
    obtain⟨h1,h2,h3,h4⟩:=hle
    generalize hinf:P.info? _=inf at h
    cases inf with
    |none=>cases h
    |some inf=>
     simp only[Option.isSome_some,cond_true,Option.some.injEq]at h
     subst h
     have e1:=zbP (P:=P) (w:=w) (sl:=true) hl hhh hm h1 h2 h3 h4
     simp[Instr.sliceAt,Instr.slice,underlying,program,Sem.run,show P.underlying t=_ from hu,e1,sizeOf,typeInfo,hinf,tyS,adr]
   ·cases h
  ·cases h
 ·cases h
def exV(i:Nat):Value→Option Value
 | .tuple l=>l[i]?
 |_=>Option.none
def cvV(P:Program)(src dst:TypeId)(x:Value):Option Value:=
 match tyU P src,tyU P dst,x with
 |some (.int _),some (.int k),.int _ n=>some (.int k (k.wrap n))
 |_,_,_=>Option.none
theorem cvV_run{P:Program}{s t:TypeId}{x u:Value}{w:World}(h:cvV P s t x=some u):(convert s t x).run P w= .ok u w:=by
 unfold cvV at h
 split at h
 ·rename_i k0 k k1 n hs hd
  cases h
  simp[convert,underlying,program,Sem.run,show P.underlying s=_ from hs,show P.underlying t=_ from hd,Conv.intToInt]
 ·cases h
def fdA(P:Program)(s:TypeId)(x:Value)(f:Nat):Option Value:=
 match tyU P s,x with
 |some (.struct fs),.pointer a=>if a.isSome=true then(fs[f]?).bind fun fd=>bif (P.info? fd.type).isSome && !decide (tyS P fd.type=0) then some (.pointer (adr a fd.offset)) else Option.none else Option.none
 |_,_=>Option.none
def ldP(P:Program)(w:World)(t:TypeId)(p:Option Addr):Option Value:=p.bind (ldV P w t)
def zad(w:World)(p:Option Addr):Option Value:=p.bind w.cell?
theorem ldP_cell{P:Program}{w:World}{t:TypeId}{p:Option Addr}(h1:tyA P t=false)(h2:(tyU P t).isSome=true):ldP P w t p=zad w p:=by
 cases p with
 |none=>rfl
 |some a=>simp[ldP,zad,ldV,h1,h2]
def optK(v:Option Value)(w:World)(K:Value→World→Prop)(alt:Prop):Prop:=
 match v with
 |some v=>K v w
 |Option.none=>alt
def tyZ(P:Program)(t:TypeId):Option Value:=(P.info? t).bind (·.zero)
def one:Value→Bool
 | .agg _| .tuple _=>false
 |_=>true
def stC(w:World)(a:Addr)(i:Nat):List Value→Option World
 | []=>some w
 |v::l=>bif one v && (w.cell? (a.add i)).isSome && !w.frozen? (a.add i) then stC (w.setCell (a.add i) v) a (i+1) l else Option.none
def stK(P:Program)(t:TypeId)(a v:Value)(w:World)(K:Value→World→Prop):Prop:=
 match a with
 | .pointer (some a)=>v.cells.size=tyS P t∧(P.info? t).isSome=true∧∃w',stC w a 0 v.cells.toList=some w'∧K undef w'
 |_=>False
theorem zlF{P:Program}{a:Addr}:∀(l:List Value) (i:Nat) (w w':World),stC w a i l=some w'→(storeCells a l i).run P w= .ok () w'
 | [],i,w,w',h=>by simp[stC]at h;subst h;rfl
 |v::l,i,w,w',h=>by
  unfold stC at h
  cases hc:(one v && (w.cell? (a.add i)).isSome && !w.frozen? (a.add i)) with
  |false=>rw[hc]at h;cases h
  |true=>
   rw[hc]at h
   simp only[cond_true]at h
   simp only[Bool.and_eq_true,Bool.not_eq_true']at hc
   obtain⟨⟨h1,h2⟩,h3⟩:=hc
   obtain⟨u,hu⟩:=Option.isSome_iff_exists.1 h2
   have hrec:=zlF (P:=P) (a:=a) l (i+1) _ w' h
   unfold storeCells
   have hst:(store (a.add i) v).run P w= .ok () (w.setCell (a.add i) v):=by
    cases v<;>simp only[one]at h1<;>first| (cases h1;done)|simp[store,Sem.run,hu,h3]
   simp only[Sem.run_bind,hst,Result.andThen_ok]
   exact hrec
theorem stK_run{P:Program}{t:TypeId}{a v:Value}{w:World}{K:Value→World→Prop}(h:stK P t a v w K):
  opR P K ((do Instr.storeAt t a v;pure .skip:Sem Next).run P w):=by
 unfold stK at h
 split at h
 ·rename_i a
  obtain⟨h1,h2,w',h3,h4⟩:=h
  obtain⟨inf,hinf⟩:=Option.isSome_iff_exists.1 h2
  have hs:tyS P t=inf.size:=by simp[tyS,hinf]
  have:=zlF (P:=P) v.cells.toList 0 w w' h3
  have e:(Instr.storeAt t (.pointer (some a)) v).run P w= .ok () w':=by
   simp[Instr.storeAt,Instr.sureAddr,storeVar,sizeOf,typeInfo,program,Sem.run,hinf,h1,hs,this]
  simp only[Sem.run_bind,e,Result.andThen_ok,Sem.run_pure]
  exact h4
 ·exact h.elim
def bdV(P:Program)(t:TypeId)(parts:List (Nat×Value)):Option Value:=
 match tyU P t,tyZ P t with
 |some (.struct fs),some z=>(Instr.fill (fun i=>(fs.map fun f=>(f.offset,tyS P f.type))[i]?) z.cells parts).map .agg
 |some (.array _ e),some z=>(Instr.fill (fun i=>some (i*tyS P e,tyS P e)) z.cells parts).map .agg
 |_,_=>Option.none
def zbD(P:Program)(t:TypeId):Bool:=
 match tyU P t with
 |some (.struct fs)=>fs.all fun f=>(P.info? f.type).isSome
 |some (.array _ e)=>(P.info? e).isSome
 |_=>false
theorem zgA{P:Program}{w:World}:∀(l:List Field),(∀f∈l,(P.info? f.type).isSome=true)→
  (l.mapM fun f=>(do pure (f.offset,←sizeOf f.type):Sem (Nat×Nat))).run P w= .ok (l.map fun f=>(f.offset,tyS P f.type)) w
 | [],_=>rfl
 |f::l,h=>by
  obtain⟨inf,hinf⟩:=Option.isSome_iff_exists.1 (h f (List.mem_cons_self ..))
  have ih:=zgA (P:=P) (w:=w) l (fun g hg=>h g (List.mem_cons_of_mem _ hg))
  rw[List.mapM_cons]
  have e1:(do pure (f.offset,←sizeOf f.type):Sem (Nat×Nat)).run P w= .ok (f.offset,tyS P f.type) w:=by
   simp[sizeOf,typeInfo,program,Sem.run,hinf,tyS]
  simp only[Sem.run_bind,e1,ih,Result.andThen_ok,Sem.run_pure,List.map_cons]
theorem bdV_run{P:Program}{t:TypeId}{parts:Array (Nat×Value)}{v:Value}{w:World}(hk:zbD P t=true)(h:bdV P t parts.toList=some v):
  (Instr.build t parts).run P w= .ok v w:=by
 unfold bdV at h
 split at h
 ·rename_i fs z hu hz
  unfold zbD at hk
  rw[hu]at hk
  simp only[Option.map_eq_some_iff]at h
  obtain⟨cs,hcs,rfl⟩:=h
  have hzv:(zeroValue t).run P w= .ok z w:=by
   unfold tyZ at hz
   cases hi:P.info? t with
   |none=>rw[hi]at hz;cases hz
   |some inf=>rw[hi]at hz;simp at hz;simp[zeroValue,typeInfo,program,Sem.run,hi,hz]
  have hm:(fs.mapM fun f=>(do pure (f.offset,←sizeOf f.type):Sem (Nat×Nat))).run P w= .ok (fs.map fun f=>(f.offset,tyS P f.type)) w:=by
   have:=zgA (P:=P) (w:=w) fs.toList (fun f hf=>by simpa using (Array.all_eq_true_iff_forall_mem.1 hk) f (by simpa using hf))
   rw[Array.mapM_eq_mapM_toList,Sem.run_map,this]
   simp only[Result.andThen_ok]
   congr 1
   rw[←Array.toList_inj];simp
  unfold Instr.build
  simp only[Sem.run_bind,hzv,Result.andThen_ok,Sem.run_pure,underlying,program,show P.underlying t=_ from hu]
  simp only[Sem.run,Result.andThen_ok,Sem.run_bind,hm,show P.underlying t=_ from hu,hcs]
  simp only[Sem.run_bind,hm,Result.andThen_ok,hcs,Sem.run_pure]
 ·rename_i n e z hu hz
  unfold zbD at hk
  rw[hu]at hk
  simp only[Option.map_eq_some_iff]at h
  obtain⟨cs,hcs,rfl⟩:=h
  have hzv:(zeroValue t).run P w= .ok z w:=by
   unfold tyZ at hz
   cases hi:P.info? t with
   |none=>rw[hi]at hz;cases hz
   |some inf=>rw[hi]at hz;simp at hz;simp[zeroValue,typeInfo,program,Sem.run,hi,hz]
  obtain⟨inf,hi⟩:=Option.isSome_iff_exists.1 hk
  have hu2:(underlying t).run P w= .ok (.array n e) w:=by simp[underlying,program,Sem.run,show P.underlying t=_ from hu]
  have hsz:(sizeOf e).run P w= .ok (tyS P e) w:=by simp[sizeOf,typeInfo,program,Sem.run,hi,tyS]
  unfold Instr.build
  simp only[Sem.run_bind,hzv,hu2,Result.andThen_ok,hsz,hcs,Sem.run_pure]
 ·cases h
def bsC(P:Program)(t:TypeId)(len:Nat)(parts:List (Nat×Value)):Option (TypeId×Array Value):=
 match tyU P t with
 |some (.slice e)=>match tyZ P e with
  |some z=>bif decide (len*tyS P e≤2 ^ 24) && decide (z.cells.size=tyS P e) then
    (Instr.fill (fun i=>some (i*tyS P e,tyS P e)) ((Array.range (len*tyS P e)).map (z.cells[· % z.cells.size]!)) parts).map fun cs=>(e,cs) else Option.none
  |Option.none=>Option.none
 |_=>Option.none
def bsK(P:Program)(t:TypeId)(len:Nat)(parts:List (Nat×Value))(w:World)(K:Value→World→Prop):Prop:=
 match bsC P t len parts with
 |some (e,cs)=>K (.slice (some ⟨w.heap.size,0,Option.none⟩) len len) (w.alloc (.cells cs e))
 |Option.none=>False
theorem bsK_run{P:Program}{t:TypeId}{len:Nat}{parts:Array (Nat×Value)}{w:World}{K:Value→World→Prop}(h:bsK P t len parts.toList w K):
  opR P K ((do pure (.value (←Instr.buildSlice t len parts)):Sem Next).run P w):=by
 unfold bsK at h
 split at h
 ·rename_i e cs hb
  unfold bsC at hb
  split at hb
  ·rename_i e' hu
   split at hb
   ·rename_i z hz
    cases hc:(decide (len*tyS P e'≤2 ^ 24) && decide (z.cells.size=tyS P e')) with
    |false=>rw[hc]at hb;cases hb
    |true=>
     rw[hc]at hb
     simp only[cond_true,Option.map_eq_some_iff,Prod.mk.injEq]at hb
     obtain⟨cs',hcs,rfl,rfl⟩:=hb
     simp only[Bool.and_eq_true,decide_eq_true_eq]at hc
     obtain⟨hle,hzs⟩:=hc
     have hi:∃inf,P.info? e'=some inf∧inf.zero=some z:=by
      unfold tyZ at hz
      cases hi:P.info? e' with
      |none=>rw[hi]at hz;cases hz
      |some inf=>rw[hi]at hz;exact⟨inf,rfl,by simpa using hz⟩
     obtain⟨inf,hinf,hz'⟩:=hi
     have hs:tyS P e'=inf.size:=by simp[tyS,hinf]
     have e1:(Instr.buildSlice t len parts).run P w= .ok (.slice (some ⟨w.heap.size,0,Option.none⟩) len len) (w.alloc (.cells cs' e')):=by
      rw[hs]at hle hcs
      have hle':¬(2 ^ 24<len*inf.size):=by omega
      unfold Instr.buildSlice
      simp only[Sem.run_bind,underlying,program,Sem.run,show P.underlying t=_ from hu,Result.andThen_ok,sizeOf,typeInfo,hinf,Sem.run_pure]
      by_cases h0:len*inf.size=0
      ·rw[h0]at hcs
       have ez:∀f:Nat→Value,Array.map f (Array.range 0)=#[]:=fun f=>by simp
       rw[ez]at hcs
       simp[h0,ez,hcs,newRow,newObj,Sem.run]
      ·simp[hle',h0,zeroValue,typeInfo,program,Sem.run,hinf,hz',hcs,newRow,newObj]
     simp only[Sem.run_bind,e1,Result.andThen_ok,Sem.run_pure]
     exact h
   ·cases hb
  ·cases hb
 ·exact h.elim
def zdJ(c:Call):Option (Operand×TypeId):=
 match c.callee,c.args.toList,c.argTypes.toList with
 | .builtin .len,[x],[t]=>some (x,t)
 |_,_,_=>Option.none
def opV(P:Program)(o:Oper)(ρ:Operand→Value)(w:World)(K:Value→World→Prop):Prop:=
 match o.op with
 | .move x=>K (ρ x) w
 | .assign x=>K (ρ x) w
 | .pick c a b=>match ρ c with| .bool t=>K (bif t then ρ a else ρ b) w|_=>False
 | .binOp op t x y _=>optK (binV P op t (ρ x) (ρ y)) w K (opW P o ρ w K)
 | .unOp op _ x=>optK (unV op (ρ x)) w K (opW P o ρ w K)
 | .load t x=>match ρ x with| .pointer p=>optK (ldP P w t p) w K False|_=>False
 | .store t a v=>stK P t (ρ a) (ρ v) w K
 | .indexAddr t x i=>optK (ixA P t (ρ x) (ρ i)) w K (opW P o ρ w K)
 | .index t x i=>optK (ixS P t (ρ x) (ρ i)) w K (opW P o ρ w K)
 | .slice t x lo hi mx=>optK (slV P t (ρ x) (lo.map ρ) (hi.map ρ) (mx.map ρ)) w K (opW P o ρ w K)
 | .extract x i=>optK (exV i (ρ x)) w K False
 | .convert s t x=>optK (cvV P s t (ρ x)) w K (opW P o ρ w K)
 | .fieldAddr s x f=>optK (fdA P s (ρ x) f) w K (opW P o ρ w K)
 | .nilCheck x=>match ρ x with| .pointer p=>p.isSome=true∧K (.pointer p) w|_=>opW P o ρ w K
 | .makeFunc fn f c=>K (.func fn (f.map ρ) (c.map ρ)) w
 | .box e x=>K (.pointer (some ⟨w.heap.size,0,Option.none⟩)) (w.alloc (.cells (ρ x).cells e))
 | .alloc e=>match tyZ P e with|some z=>K (.pointer (some ⟨w.heap.size,0,Option.none⟩)) (w.alloc (.cells z.cells e))|Option.none=>False
 | .build t parts=>zbD P t=true∧optK (bdV P t (parts.toList.map fun p=>(p.1,ρ p.2))) w K False
 | .buildSlice t n parts=>bsK P t n (parts.toList.map fun p=>(p.1,ρ p.2)) w K
 | .makeMap _ Option.none=>K (.map (some w.heap.size)) (w.alloc (.map #[] 0))
 | .call c=>match c.callee with
  | .value f=>ziF P (ρ f) (c.args.map ρ) w K
  |_=>match zdJ c with
   |some (x,t)=>optK (lenV P t (ρ x)) w K (opW P o ρ w K)
   |Option.none=>opW P o ρ w K
 |_=>opW P o ρ w K
theorem zbn{v:Option Value}{w:World}{K:Value→World→Prop}{alt G:Prop}(h:optK v w K alt)(h1:∀u,v=some u→K u w→G)(h2:alt→G):G:=by
 cases v with
 |none=>exact h2 h
 |some u=>exact h1 u rfl h
theorem zaC{P:Program}{K:Value→World→Prop}{s:Sem Value}{w w':World}{v:Value}(h:s.run P w= .ok v w')(hk:K v w'):
  opR P K ((do pure (.value (←s)):Sem Next).run P w):=by
 simp only[Sem.run_bind,h,Result.andThen_ok,Sem.run_pure];exact hk
theorem za3{P:Program}{o:Oper}{ρ:Operand→Value}{w:World}{K:Value→World→Prop}(h:opV P o ρ w K):opW P o ρ w K:=by
 obtain⟨dst,op,ty,ps,af,g⟩:=o
 unfold opV at h
 dsimp only at h
 split at h
 ·exact h
 ·exact h
 ·rename_i c a b
  split at h
  ·rename_i t ht
   simp only[opW,execOp]
   cases t<;>simp[ht,asBool,opR]<;>exact h
  ·exact h.elim
 ·rename_i op t x y yt
  refine zbn h (fun u hu hk=>?_) id
  exact zaC (binV_run (x:=x) (y:=y) hu) hk
 ·refine zbn h (fun u hu hk=>?_) id
  exact zaC (unV_run hu) hk
 ·split at h
  ·rename_i p hp
   refine zbn h (fun u hu hk=>?_) False.elim
   refine zaC (s:=Instr.loadAt _ _) (w':=w) (v:=u) ?_ hk
   simp only[ldP,Option.bind_eq_some_iff]at hu
   obtain⟨a,rfl,hu⟩:=hu
   simp only[Instr.loadAt,hp,Instr.sureAddr,Sem.run_bind,Sem.run_pure,Result.andThen_ok]
   exact zmq hu
  ·exact h.elim
 ·exact stK_run h
 ·refine zbn h (fun u hu hk=>?_) id
  exact zaC (ixA_run hu) hk
 ·refine zbn h (fun u hu hk=>?_) id
  exact zaC (ixS_run hu) hk
 ·refine zbn h (fun u hu hk=>?_) id
  exact zaC (slV_run hu) hk
 ·rename_i x i
  refine zbn h (fun u hu hk=>?_) False.elim
  refine zaC (s:=Instr.extract (ρ x) i) (w':=w) (v:=u) ?_ hk
  unfold exV at hu
  split at hu
  ·rename_i l hx;simp[Instr.extract,hx,hu]
  ·cases hu
 ·refine zbn h (fun u hu hk=>?_) id
  exact zaC (cvV_run hu) hk
 ·rename_i s x f
  refine zbn h (fun u hu hk=>?_) id
  refine zaC (s:=Instr.fieldAt s (ρ x) f) (w':=w) (v:=u) ?_ hk
  unfold fdA at hu
  split at hu
  ·rename_i fs a hs hx
   split at hu
   case isFalse=>cases hu
   rename_i ha
   obtain⟨a,rfl⟩:=Option.isSome_iff_exists.1 ha
   simp only[Option.bind_eq_some_iff]at hu
   obtain⟨fd,hfd,hu⟩:=hu
   cases hinf:P.info? fd.type with
   |none=>rw[hinf]at hu;cases hu
   |some inf=>
    rw[hinf]at hu
    by_cases h0:inf.size=0
    ·simp[tyS,hinf,h0]at hu
    ·simp[tyS,hinf,h0]at hu
     subst hu
     simp[Instr.fieldAt,underlying,program,Sem.run,show P.underlying s=_ from hs,hfd,hx,Instr.sureAddr,fieldPlace,sizeOf,typeInfo,hinf,h0,adr]
  ·cases hu
 ·rename_i x
  split at h
  ·rename_i p hp
   obtain⟨hs,h⟩:=h
   obtain⟨a,rfl⟩:=Option.isSome_iff_exists.1 hs
   simp only[opW,execOp,hp];exact h
  ·exact h
 ·exact h
 ·rename_i e x
  refine zaC (s:=Instr.box e (ρ x)) (w':=w.alloc (.cells (ρ x).cells e)) ?_ h
  simp[Instr.box,newVar,newRow,newObj,Sem.run]
 ·rename_i e
  split at h
  ·rename_i z hz
   refine zaC (s:=Instr.alloc e true (.tuple #[])) (w':=w.alloc (.cells z.cells e)) ?_ h
   unfold tyZ at hz
   cases hi:P.info? e with
   |none=>rw[hi]at hz;cases hz
   |some inf=>
    rw[hi]at hz
    have hz':inf.zero=some z:=by simpa using hz
    simp[Instr.alloc,zeroValue,typeInfo,program,Sem.run,hi,hz',newVar,newRow,newObj]
  ·exact h.elim
 ·rename_i t parts
  obtain⟨hk,h⟩:=h
  refine zbn h (fun u hu hk'=>?_) False.elim
  exact zaC (bdV_run hk (by simpa using hu)) hk'
 ·rename_i t n parts
  exact bsK_run (by simpa using h)
 ·rename_i t
  refine zaC (s:=Instr.makeMap t (Option.map ρ Option.none)) (w':=w.alloc (.map #[] 0)) ?_ h
  simp[Instr.makeMap,newObj,Sem.run]
 ·rename_i c
  split at h
  ·rename_i f hf
   obtain⟨callee,args,ts⟩:=c
   dsimp only at hf
   subst hf
   exact zm3 h
  ·split at h
   ·rename_i x t hb
    refine zbn h (fun u hu hk=>?_) id
    obtain⟨callee,args,ts⟩:=c
    unfold zdJ at hb
    dsimp only at hb
    split at hb
    ·rename_i x' t' _ hx ht _
     cases hb
     have hargs:args=#[x]:=by rw[←Array.toList_inj];exact hx
     have hts:ts=#[t]:=by rw[←Array.toList_inj];exact ht
     subst hargs
     subst hts
     simp only[opW,execOp,Sem.run_bind,resolve]
     simp only[Sem.run_pure,Result.andThen_ok,invoke,builtin]
     have:=lenV_run (P:=P) (w:=w) hu #[t] ty rfl
     exact zaC (s:=Builtin.len_ #[t] ty (Array.map ρ #[x])) (by simpa using this) hk
    ·cases hb
   ·exact h
 ·exact h
/-! a look-up in a map whose keys are texts,numbers or bools -/
def lkV(P:Program)(w:World)(t:TypeId)(m k:Value)(ok:Bool):Option Value:=
 match tyU P t,m with
 |some (.map kt et),.map Option.none=>match tyU P kt,tyZ P et with
  |some d,some z=>match Instr.findNow d k [] 0,d with
   |some Option.none,.string=>some (if ok then .tuple #[z,.bool false] else z)
   |_,_=>Option.none
  |_,_=>Option.none
 |some (.map kt et),.map (some r)=>match tyU P kt,tyZ P et,w.heap[r]? with
  |some d,some z,some (.map es _)=>match Instr.findNow d k es.toList 0,d with
   |some (some (_,v)),.string=>some (if ok then .tuple #[v,.bool true] else v)
   |some Option.none,.string=>some (if ok then .tuple #[z,.bool false] else z)
   |_,_=>Option.none
  |_,_,_=>Option.none
 |_,_=>Option.none
theorem zdr{P:Program}{w:World}{kt:TypeId}{k:Value}{e:Bool}(h:P.underlying kt=some .string)(d:Nat):
  (Instr.checkKey e (d+1) kt k).run P w= .ok () w:=by
 simp[Instr.checkKey,underlying,program,Sem.run,h]
theorem lkV_run{P:Program}{w:World}{t:TypeId}{m k v:Value}{ok:Bool}(h:lkV P w t m k ok=some v):(Instr.lookup t m k ok).run P w= .ok v w:=by
 have hck:∀kt e,P.underlying kt=some .string→(Instr.checkKey e 10000 kt k).run P w= .ok () w:=fun kt e hk=>zdr hk 9999
 unfold lkV at h
 split at h
 ·rename_i kt et hu
  split at h
  ·rename_i d z hd hz
   split at h
   ·rename_i hf
    cases h
    have hz':(zeroValue et).run P w= .ok z w:=by
     unfold tyZ at hz
     cases hi:P.info? et with
     |none=>rw[hi]at hz;cases hz
     |some inf=>rw[hi]at hz;simp at hz;simp[zeroValue,typeInfo,program,Sem.run,hi,hz]
    have hck':=fun e=>hck kt e hd
    simp only[Instr.lookup,Sem.run_bind,underlying,program,Sem.run,show P.underlying t=_ from hu,Result.andThen_ok,Sem.run_pure]
    simp only[hck',Sem.run_bind,Result.andThen_ok,Instr.findKey,underlying,program,Sem.run,show P.underlying kt=_ from hd,Sem.run_pure]
    simp[Instr.findNow,hz']
   ·cases h
  ·cases h
 ·rename_i kt et r hu
  split at h
  ·rename_i d z es c hd hz hr
   have hz':(zeroValue et).run P w= .ok z w:=by
    unfold tyZ at hz
    cases hi:P.info? et with
    |none=>rw[hi]at hz;cases hz
    |some inf=>rw[hi]at hz;simp at hz;simp[zeroValue,typeInfo,program,Sem.run,hi,hz]
   split at h
   ·rename_i i u hf
    cases h
    have hck':=fun e=>hck kt e hd
    simp only[Instr.lookup,Sem.run_bind,underlying,program,getObj,hr,Sem.run,show P.underlying t=_ from hu,Result.andThen_ok,Sem.run_pure]
    simp only[hck',Sem.run_bind,Result.andThen_ok,Instr.findKey,underlying,program,Sem.run,show P.underlying kt=_ from hd,Sem.run_pure,hf]
   ·rename_i hf
    cases h
    have hck':=fun e=>hck kt e hd
    simp only[Instr.lookup,Sem.run_bind,underlying,program,getObj,hr,Sem.run,show P.underlying t=_ from hu,Result.andThen_ok,Sem.run_pure]
    simp only[hck',Sem.run_bind,Result.andThen_ok,Instr.findKey,underlying,program,Sem.run,show P.underlying kt=_ from hd,Sem.run_pure,hf,hz']
   ·cases h
  ·cases h
 ·cases h
/-! quiet operations:one value,whatever has been laid since -/
def okV(v:Option Value)(k:Value→Prop):Prop:=
 match v with
 |some v=>k v
 |Option.none=>False
def offS(S:Nat→Prop)(p:Option Addr):Prop:=∀a,p=some a→¬S a.block
theorem offS_no(p:Option Addr):offS NoS p=True:=by simp[offS,NoS]
def quV(P:Program)(S:Nat→Prop)(o:Oper)(ρ:Operand→Value)(w:World)(k:Value→Prop):Prop:=
 match o.op with
 | .move x=>k (ρ x)
 | .assign x=>k (ρ x)
 | .pick c a b=>match ρ c with| .bool t=>k (bif t then ρ a else ρ b)|_=>False
 | .binOp op t x y _=>okV (binV P op t (ρ x) (ρ y)) k
 | .unOp op _ x=>okV (unV op (ρ x)) k
 | .load t x=>match ρ x with| .pointer p=>offS S p∧okV (ldP P w t p) k|_=>False
 | .indexAddr t x i=>okV (ixA P t (ρ x) (ρ i)) k
 | .index t x i=>okV (ixS P t (ρ x) (ρ i)) k
 | .slice t x lo hi mx=>okV (slV P t (ρ x) (lo.map ρ) (hi.map ρ) (mx.map ρ)) k
 | .extract x i=>okV (exV i (ρ x)) k
 | .convert s t x=>okV (cvV P s t (ρ x)) k
 | .fieldAddr s x f=>okV (fdA P s (ρ x) f) k
 | .nilCheck x=>match ρ x with| .pointer p=>p.isSome=true∧k (.pointer p)|_=>False
 | .makeFunc fn f c=>k (.func fn (f.map ρ) (c.map ρ))
 | .build t parts=>zbD P t=true∧okV (bdV P t (parts.toList.map fun p=>(p.1,ρ p.2))) k
 | .lookup t m key ok=>(∀r,ρ m= .map (some r)→¬S r)∧okV (lkV P w t (ρ m) (ρ key) ok) k
 | .call c=>match zdJ c with
   |some (x,t)=>okV (lenV P t (ρ x)) k
   |Option.none=>False
 |_=>False
theorem zbC{v:Option Value}{k:Value→Prop}(h:okV v k):∃u,v=some u∧k u:=by
 cases v with
 |none=>exact h.elim
 |some u=>exact⟨u,rfl,h⟩
theorem zeB{S:Nat→Prop}{w x:World}(hk:Keep S w x){a:Addr}(hS:¬S a.block){v:Value}(h:w.cell? a=some v):x.cell? a=some v:=by
 have hlt:=World.block_lt_of_cell? (w:=w) (h:=h)
 rw[←h]
 exact World.cell?_of_block (w:=w) (hk.block a.block hlt hS)
theorem zd2{S:Nat→Prop}{w x:World}(hk:Keep S w x){a:Addr}(hS:¬S a.block):∀(n i:Nat) (l:List Value),zaQ w a i n=some l→zaQ x a i n=some l
 |0,_,_,h=>h
 |n+1,i,l,h=>by
  unfold zaQ at h ⊢
  split at h
  ·rename_i v l' h1 h2
   cases h
   have hb:(a.add i).block=a.block:=by unfold Addr.add;split<;>rfl
   rw[zeB hk (by rw[hb];exact hS) h1,zd2 hk hS n (i+1) l' h2]
  ·cases h
theorem ldV_keep{P:Program}{S:Nat→Prop}{w x:World}(hk:Keep S w x){t:TypeId}{a:Addr}(hS:¬S a.block){v:Value}(h:ldV P w t a=some v):ldV P x t a=some v:=by
 unfold ldV at h ⊢
 cases hA:tyA P t with
 |true=>
  rw[hA]at h
  simp only[cond_true,Option.map_eq_some_iff]at h ⊢
  obtain⟨l,hl,rfl⟩:=h
  exact⟨l,zd2 hk hS _ _ _ hl,rfl⟩
 |false=>
  rw[hA]at h
  simp only[cond_false]at h ⊢
  cases hs:(tyU P t).isSome with
  |false=>rw[hs]at h;cases h
  |true=>rw[hs]at h;simp only[cond_true]at h ⊢;exact zeB hk hS h
theorem lkV_keep{P:Program}{S:Nat→Prop}{w x:World}(hk:Keep S w x){t:TypeId}{m key v:Value}{ok:Bool}(hS:∀r,m= .map (some r)→¬S r)
  (h:lkV P w t m key ok=some v):lkV P x t m key ok=some v:=by
 unfold lkV at h ⊢
 split at h
 ·exact h
 ·rename_i kt et r hu
  have:∀es c,w.heap[r]? =some (.map es c)→x.heap[r]? =some (.map es c):=fun es c hr=>by
   rw[←hr];exact hk.block r (Array.getElem?_eq_some_iff.1 hr).1 (hS r rfl)
  split at h
  ·rename_i d z es c hd hz hr
   rw[this es c hr]
   simp only[hu,hd,hz]
   exact h
  ·cases h
 ·cases h
theorem ldP_keep{P:Program}{S:Nat→Prop}{w x:World}(hk:Keep S w x){t:TypeId}{p:Option Addr}(hS:offS S p){v:Value}(h:ldP P w t p=some v):ldP P x t p=some v:=by
 simp only[ldP,Option.bind_eq_some_iff]at h ⊢
 obtain⟨a,rfl,h⟩:=h
 exact⟨a,rfl,ldV_keep hk (hS a rfl) h⟩
theorem zlW{P:Program}{S:Nat→Prop}{o:Oper}{ρ:Operand→Value}{w:World}{k:Value→Prop}(h:quV P S o ρ w k):
  ∃v,(∀x,zj0 o=true∨Keep S w x→opW P o ρ x (fun v' w'=>v'=v∧w'=x))∧k v:=by
 obtain⟨dst,op,ty,ps,af,g⟩:=o
 unfold quV at h
 dsimp only at h
 split at h
 ·exact⟨_,fun x _=>⟨rfl,rfl⟩,h⟩
 ·exact⟨_,fun x _=>⟨rfl,rfl⟩,h⟩
 ·split at h
  ·rename_i t ht
   exact⟨_,fun x _=>za3 (by unfold opV;dsimp only;rw[ht];exact⟨rfl,rfl⟩),h⟩
  ·exact h.elim
 ·obtain⟨u,hu,hk⟩:=zbC h
  exact⟨u,fun x _=>za3 (by unfold opV;dsimp only;rw[hu];exact⟨rfl,rfl⟩),hk⟩
 ·obtain⟨u,hu,hk⟩:=zbC h
  exact⟨u,fun x _=>za3 (by unfold opV;dsimp only;rw[hu];exact⟨rfl,rfl⟩),hk⟩
 ·split at h
  ·rename_i p ha
   obtain⟨hS,h⟩:=h
   obtain⟨u,hu,hk⟩:=zbC h
   refine⟨u,fun x hx=>za3 ?_,hk⟩
   have this:=ldP_keep (hx.resolve_left (by simp[zj0])) hS hu
   unfold opV;dsimp only;rw[ha];dsimp only;rw[this];exact⟨rfl,rfl⟩
  ·exact h.elim
 ·obtain⟨u,hu,hk⟩:=zbC h
  exact⟨u,fun x _=>za3 (by unfold opV;dsimp only;rw[hu];exact⟨rfl,rfl⟩),hk⟩
 ·obtain⟨u,hu,hk⟩:=zbC h
  exact⟨u,fun x _=>za3 (by unfold opV;dsimp only;rw[hu];exact⟨rfl,rfl⟩),hk⟩
 ·obtain⟨u,hu,hk⟩:=zbC h
  exact⟨u,fun x _=>za3 (by unfold opV;dsimp only;rw[hu];exact⟨rfl,rfl⟩),hk⟩
 ·obtain⟨u,hu,hk⟩:=zbC h
  exact⟨u,fun x _=>za3 (by unfold opV;dsimp only;rw[hu];exact⟨rfl,rfl⟩),hk⟩
 ·obtain⟨u,hu,hk⟩:=zbC h
  exact⟨u,fun x _=>za3 (by unfold opV;dsimp only;rw[hu];exact⟨rfl,rfl⟩),hk⟩
 ·obtain⟨u,hu,hk⟩:=zbC h
  exact⟨u,fun x _=>za3 (by unfold opV;dsimp only;rw[hu];exact⟨rfl,rfl⟩),hk⟩
 ·split at h
  ·rename_i p ha
   exact⟨_,fun x _=>za3 (by unfold opV;dsimp only;rw[ha];exact⟨h.1,rfl,rfl⟩),h.2⟩
  ·exact h.elim
 ·exact⟨_,fun x _=>za3 (by unfold opV;exact⟨rfl,rfl⟩),h⟩
 ·obtain⟨hf,h⟩:=h
  obtain⟨u,hu,hk⟩:=zbC h
  exact⟨u,fun x _=>za3 (by unfold opV;dsimp only;rw[hu];exact⟨hf,rfl,rfl⟩),hk⟩
 ·obtain⟨hS,h⟩:=h
  obtain⟨u,hu,hk⟩:=zbC h
  exact⟨u,fun x hx=>zaC (lkV_run (lkV_keep (hx.resolve_left (by simp[zj0])) hS hu)) ⟨rfl,rfl⟩,hk⟩
 ·rename_i c
  split at h
  ·rename_i x t hb
   obtain⟨u,hu,hk⟩:=zbC h
   refine⟨u,fun x _=>za3 ?_,hk⟩
   have hc:∀f,c.callee≠ .value f:=by
    intro f hf
    unfold zdJ at hb
    rw[hf]at hb
    simp at hb
   unfold opV
   dsimp only
   split
   ·rename_i f hf;exact absurd hf (hc f)
   ·rw[hb];dsimp only;rw[hu];exact⟨rfl,rfl⟩
  ·exact h.elim
 ·exact h.elim
/-! ### rows -/
def nthO:List Oper→Nat→Option Oper
 | [],_=>Option.none
 |o::_,0=>some o
 |_::l,i+1=>nthO l i
theorem zhc:∀(l:List Oper) (i:Nat),nthO l i=l[i]?
 | [],_=>by simp[nthO]
 |o::l,0=>rfl
 |o::l,i+1=>by simp[nthO,zhc l i]
def dstL(l:List Oper)(j:Nat):Option Tmp:=(nthO l j).bind (·.dst)
def ylV(gd:Nat→Option Tmp)(n:Nat)(σ:Sto)(j:Nat):Option Bool:=
 match gd j with
 |some d=>if d<n then(match σ d with| .bool b=>some b|_=>Option.none) else Option.none
 |Option.none=>Option.none
def zaE(gd:Nat→Option Tmp)(n:Nat)(σ:Sto):Option (Nat×Bool)→Bool
 |Option.none=>true
 |some (j,t)=>match ylV gd n σ j with
  |some b=>b==t
  |Option.none=>false
theorem zff(ops:Array Oper)(n:Nat)(σ:Sto)(o:Oper):Region.wanted o (yl ops n σ)=zaE (dstL ops.toList) n σ o.guard:=by
 unfold Region.wanted zaE
 cases o.guard with
 |none=>rfl
 |some p=>
  obtain⟨j,t⟩:=p
  have:yl ops n σ j=ylV (dstL ops.toList) n σ j:=by
   unfold yl ylV dstL
   rw[zhc,Array.getElem?_toList]
   all_goals
    cases (ops[j]?).bind (·.dst) with
    |none=>rfl
    |some d=>dsimp only;split<;>first|rfl| (cases σ d<;>rfl)
  simp only[this]
  cases ylV (dstL ops.toList) n σ j<;>simp
def opsV(P:Program)(gd:Nat→Option Tmp)(n:Nat):List Oper→Sto→World→(Sto→World→Prop)→Prop
 | [],σ,w,K=>K σ w
 |o::l,σ,w,K=>if zaE gd n σ o.guard=true then opV P o (ev n σ) w (fun v w'=>opsV P gd n l (putS σ o.dst v) w' K)
  else opsV P gd n l (putS σ o.dst undef) w K
theorem zjP{P:Program}{o:Oper}{ρ:Operand→Value}{w:World}{K K':Value→World→Prop}(h:∀v w,K v w→K' v w)
  (hr:opV P o ρ w K):opW P o ρ w K':=zel h (za3 hr)
theorem zeO{P:Program}{ops:Array Oper}{n:Nat}{K:Sto→World→Prop}:∀(l:List Oper) (σ:Sto) (w:World),
  opsV P (dstL ops.toList) n l σ w K→opsW P ops n l σ w K
 | [],_,_,h=>h
 |o::l,σ,w,h=>by
  unfold opsV at h
  unfold opsW
  rw[zff]
  split at h
  ·rename_i hw;rw[if_pos hw];exact zjP (fun v w' hk=>zeO l _ _ hk) h
  ·rename_i hw;rw[if_neg hw];exact zeO l _ _ h
def zbW(P:Program)(gd:Nat→Option Tmp)(ops:List Oper)(n:Nat)(S:Nat→Prop)(isB:Nat→Bool):List (Nat×Bool)→Sto→World→(Sto→World→Prop)→Prop
 | [],σ,w,K=>K σ w
 | (i,true)::pl,σ,w,K=>match nthO ops i with
  |some o=>if zaE gd n σ o.guard=true then quV P S o (ev n σ) w (fun v=>zbW P gd ops n S isB pl (putS σ o.dst v) w K)
   else zbW P gd ops n S isB pl (putS σ o.dst undef) w K
  |Option.none=>False
 | (i,false)::pl,σ,w,K=>match nthO ops i with
  |some o=>if zaE gd n σ o.guard=true then opV P o (ev n σ) w (fun v w'=>(isB i=true∨Keep S w w')∧zbW P gd ops n S isB pl (putS σ o.dst v) w' K)
   else zbW P gd ops n S isB pl (putS σ o.dst undef) w K
  |Option.none=>False
theorem zbE{P:Program}{ops:Array Oper}{n:Nat}{S:Nat→Prop}{isB:Nat→Bool}{K:Sto→World→Prop}:∀(pl:List (Nat×Bool)) (σ:Sto) (w:World),
  zbW P (dstL ops.toList) ops.toList n S isB pl σ w K→zfW P ops n S isB pl σ w K
 | [],_,_,h=>h
 | (i,true)::pl,σ,w,h=>by
  unfold zbW at h
  unfold zfW
  rw[zhc]at h
  split at h
  ·rename_i o ho
   have ho':ops[i]? =some o:=by simpa using ho
   have hd:zjf ops i=o.dst:=by simp[zjf,ho']
   rw[hd]
   split at h
   ·rename_i hw
    obtain⟨v,hv,hk⟩:=zlW h
    refine⟨v,fun x hx=>?_,zbE pl _ _ hk⟩
    unfold qv
    rw[ho']
    dsimp only
    rw[zff,if_pos hw]
    exact hv x (hx.imp (fun h=>by simpa [zfT,ho'] using h) id)
   ·rename_i hw
    refine⟨undef,fun x _=>?_,zbE pl _ _ h⟩
    unfold qv
    rw[ho']
    dsimp only
    rw[zff,if_neg hw]
  ·exact h.elim
 | (i,false)::pl,σ,w,h=>by
  unfold zbW at h
  unfold zfW opAt
  rw[zhc]at h
  split at h
  ·rename_i o ho
   have ho':ops[i]? =some o:=by simpa using ho
   rw[ho']
   dsimp only
   rw[zff]
   split at h
   ·rename_i hw
    rw[if_pos hw]
    exact zjP (fun v w' ⟨h1,h2⟩=>⟨h1,zbE pl _ _ h2⟩) h
   ·rename_i hw
    rw[if_neg hw]
    exact⟨.inr (Keep.refl S w),zbE pl _ _ h⟩
  ·exact h.elim
section rules
variable {P : Program} {r : Option Nat} {n : Nat} {Q : Post} {σ : Sto} {ds : List Deferred} {w : World}
theorem zd4{id:Nat}{ops:Array Oper}(hd:zbd ops=true)
  (h:∀(gd:Nat→Option Tmp) (K:Sto→World→Prop),gd=dstL ops.toList→(∀σ' w',Q .normal σ' ds w'→K σ' w')→opsV P gd n ops.toList σ w K):
  W P r n (.region id ops false) Q σ ds w:=
 W_region hd (zeO _ _ _ (h _ _ rfl (fun _ _ h=>h)))
theorem zaF{id:Nat}{ops:Array Oper}(isB:Nat→Bool)(pl:List (Nat×Bool))(S:Nat→Prop)
  (hm:P.follows .mixedOrders=true) (hok:zmV ops isB pl=true)
  (h:∀(gd:Nat→Option Tmp) (K:Sto→World→Prop) (x:World),gd=dstL ops.toList→Keep S w x→x=w.drew→(∀σ' w',Q .normal σ' ds w'→K σ' w')→zbW P gd ops.toList n S isB pl σ x K):
  W P r n (.region id ops true) Q σ ds w:=
 W_draw isB pl S hm hok (zbE _ _ _ (h _ _ _ rfl (Keep.drew S w) rfl (fun _ _ h=>h)))
end rules
/-! ### entry and end -/
def resV(P:Program)(n:Nat)(σ:Sto)(w:World):List ResultVar→Option (List Value)
 | []=>some []
 | .tmp t::l=>(resV P n σ w l).map fun r=>(if t<n then σ t else undef)::r
 | .cell a t::l=>match (if a<n then σ a else undef) with
  | .pointer (some x)=>match ldV P w t x,resV P n σ w l with
   |some v,some r=>some (v::r)
   |_,_=>Option.none
  |_=>Option.none
def resT:List Value→Value
 | [v]=>v
 |l=> .tuple l.toArray
def zjC(tm:Array Value):ResultVar→Sem Value
 | .tmp t=>pure (tm.getD t undef)
 | .cell a t=>do loadVar t (←asAddr (tm.getD a undef))
theorem zk7{P:Program}{w:World}(x:Addr):(asAddr (.pointer (some x))).run P w= .ok x w:=rfl
theorem zg2{P:Program}{n:Nat}{σ:Sto}{ds:List Deferred}{w:World}:∀(l:List ResultVar) (r:List Value),resV P n σ w l=some r→
  (l.mapM (zjC (act n σ ds).tmps)).run P w= .ok r w
 | [],r,h=>by cases h;rfl
 | .tmp t::l,r,h=>by
  simp only[resV,Option.map_eq_some_iff]at h
  obtain⟨r',hr',rfl⟩:=h
  have ih:=zg2 (ds:=ds) l r' hr'
  have e:(act n σ ds).tmps.getD t undef=if t<n then σ t else undef:=by
   have:=congrFun (zc4 n σ ds) (.tmp t);exact this
  simp only[List.mapM_cons,Sem.run_bind,zjC,Sem.run_pure,Result.andThen_ok,ih,e]
 | .cell a t::l,r,h=>by
  simp only[resV]at h
  have e:(act n σ ds).tmps.getD a undef=if a<n then σ a else undef:=by
   have:=congrFun (zc4 n σ ds) (.tmp a);exact this
  split at h
  ·rename_i x hx
   split at h
   ·rename_i v r' hv hr'
    cases h
    have ih:=zg2 (ds:=ds) l r' hr'
    simp only[List.mapM_cons,Sem.run_bind,zjC,e,hx,zk7,Sem.run_pure,Result.andThen_ok,zmq hv,ih]
   ·cases h
  ·cases h
theorem zi1{P:Program}{n:Nat}{σ:Sto}{ds:List Deferred}{w:World}{fn:Func}{r:List Value}(h:resV P n σ w fn.results.toList=some r):
  (results fn (act n σ ds).tmps).run P w= .ok (resT r) w:=by
 have:=zg2 (ds:=ds) _ _ h
 have e:results fn (act n σ ds).tmps=(do let vs ←fn.results.mapM (zjC (act n σ ds).tmps);pure (if h:vs.size=1 then vs[0] else .tuple vs)):=by
  unfold results
  congr 1
 rw[e,Sem.run_bind,Array.mapM_eq_mapM_toList,Sem.run_map,this]
 simp only[Result.andThen_ok,Sem.run_pure]
 congr 1
 match r with
 | []=>rfl
 | [v]=>rfl
 |v::u::l=>simp[resT]
def shut(w:World):List Deferred→World
 | []=>w
 | {target:= .collected D,.. }::ds=>shut (w.putObj D (.deferred Option.none)) ds
 |_::ds=>shut w ds
def zi6(w:World):List Deferred→Prop
 | []=>True
 |d::ds=>(∃D,d={target:= .collected D,args:=#[]}∧w.heap[D]? =some (.deferred (some []))∧zi6 (w.putObj D (.deferred Option.none)) ds)
def retQ(P:Program)(fn:Func)(R:Value→World→Prop):Post:=fun e σ ds w=>
 (e= .normal∨e= .ret)∧zi6 w ds∧∃r,resV P fn.ntmps σ (shut w ds) fn.results.toList=some r∧R (resT r) (shut w ds)
theorem ze1{P:Program}{fn:Func}{R:Value→World→Prop}{σ:Sto}{ds0:List Deferred}:∀(ds:List Deferred) (w:World),zi6 w ds→
  (∃r,resV P fn.ntmps σ (shut w ds) fn.results.toList=some r∧R (resT r) (shut w ds))→
  LeavesInM (fw Option.none) 0 P fn (act fn.ntmps σ ds0).tmps (fun e w'=>∃v,e= .returned v∧R v w') ds .returning w
 | [],w,_,⟨r,hr,hR⟩=>⟨resT r,zi1 hr,resT r,rfl,hR⟩
 |d::ds,w,hm,h=>by
  obtain⟨D,rfl,hD,hm'⟩:=hm
  refine⟨by simp,.inl ⟨D,w.putObj D (.deferred Option.none),rfl,run_takeDeferred hD,ze1 ds _ hm' h⟩⟩
theorem enter{P:Program}{f:FuncId}{fn:Func}{c:Code}{args:Array Value}{w:World}{R:Value→World→Prop}
  {n:Nat} (hf:P.funcs[f]? =some fn) (hN:fn.ntmps=n) (hb:fn.body=some c) (hn:Nat.ble args.size fn.ntmps=true)
  (h:W P Option.none n c (retQ P fn R) (sto0 args) [] w):Fn P f args w R:=by
 subst hN
 refine callsIn_of_wp_marks hf hb trivial (wpIn_mono (Q:=fun e a w=>∃σ' ds',a=act fn.ntmps σ' ds'∧retQ P fn R e σ' ds' w) ?_ ?_) rfl
 ·have:({tmps:=args++Array.replicate (fn.ntmps - args.size) undef,defers:=[]}:Act)=act fn.ntmps (sto0 args) []:=by
   unfold act sto0
   congr 1
   apply Array.ext
   ·have:=Nat.le_of_ble_eq_true hn;simp;omega
   ·intro i h1 h2
    simp at h2
    simp only[Array.getElem_ofFn]
    by_cases hi:i<args.size
    ·simp[hi,Array.getElem_append]
    ·simp[hi,Array.getElem_append]
  rw[this]
  exact h
 ·rintro e a w ⟨σ',ds',rfl,he,hm,hr⟩
  have:=ze1 (P:=P) (fn:=fn) (R:=R) (σ:=σ') (ds0:=ds') ds' w hm hr
  rcases he with rfl|rfl
  ·exact this
  ·exact this
def Row(w:World)(v:Value)(l:List Value):Prop:=
 ∃a c,v= .slice a l.length c∧l.length≤c∧∀j (h:j<l.length),zad w (adr a j)=some l[j]
theorem zeX{S:Nat→Prop}{w x:World}(hk:Keep S w x){p:Option Addr}(hS:offS S p){v:Value}(h:zad w p=some v):zad x p=some v:=by
 simp only[zad,Option.bind_eq_some_iff]at h ⊢
 obtain⟨a,rfl,h⟩:=h
 exact⟨a,rfl,zeB hk (hS a rfl) h⟩
theorem zab{w x:World}(hk:Ext w x){p:Option Addr}{v:Value}(h:zad w p=some v):zad x p=some v:=
 zeX hk (by simp[offS,NoS]) h
theorem Row.ext{w x:World}{v:Value}{l:List Value}(h:Row w v l)(hk:Ext w x):Row x v l:=by
 obtain⟨a,c,rfl,hc,hl⟩:=h
 exact⟨a,c,rfl,hc,fun j hj=>zab hk (hl j hj)⟩
theorem zai{w:World}{a:Option Addr}{k:Nat}{v:Value}(h:zad w (adr a k)=some v):a.isSome=true:=by
 cases a with
 |none=>simp[zad,adr]at h
 |some a=>rfl
/-! new blocks -/
theorem Ext.alloc(w:World)(o:Obj):Ext w (w.alloc o):=⟨rfl,rfl,rfl,by simp,fun b hb _=>RowKit.Below.heap_alloc w o b hb,Nat.le_refl _⟩
theorem Ext.drew_alloc(w:World)(o:Obj):Ext w (w.drew.alloc o):=⟨rfl,rfl,rfl,by simp,fun b hb _=>RowKit.Below.heap_alloc w.drew o b hb,Nat.le_succ _⟩
theorem Keep.to_ext{B:Nat}{w0 w x:World}(h0:Ext w0 w)(hB:B=w0.heap.size){S:Nat→Prop}(hS:∀b,S b→B≤b)(h:Keep S w x):Ext w0 x:=
  ⟨h.os.trans h0.os,h.tape.trans h0.tape,h.output.trans h0.output,Nat.le_trans h0.size h.size,
   fun b hb _=>(h.block b (Nat.lt_of_lt_of_le hb h0.size) (fun hs=>by have:=hS b hs;omega)).trans (h0.block b hb (fun x=>x)),Nat.le_trans h0.drawn h.drawn⟩
theorem zd6{x:Int}(h1: -9223372036854775808≤x)(h2:x≤9223372036854775807):IntKind.i64.wrap x=x:=by
 simp[IntKind.wrap,IntKind.bits,IntKind.signed];omega
theorem zkt{x:Int}(h1:0≤x)(h2:x≤255):IntKind.u8.wrap x=x:=by
 simp[IntKind.wrap,IntKind.bits,IntKind.signed];omega
end Go.Proofs.YtkpdfhbpdkifoaaGreatDoor
