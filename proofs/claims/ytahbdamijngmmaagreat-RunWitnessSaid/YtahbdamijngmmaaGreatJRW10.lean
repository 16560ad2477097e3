/-
  Texts of a proof, joined: KC, KN, K32, O2, K34, O3, O4, W0, W1, W2, V7, V8, V9, VA.
  Conditions: none.
-/
import Derived.ProofKit
import Derived.OpenShut
import Derived.SizedLaws
import Derived.Deep.Slices
import Derived.Test.YtahbdamijngmmaaGreatJRW01
import Derived.Test.YtahbdamijngmmaaGreatJRW03
import Derived.Test.YtahbdamijngmmaaGreatJRW09
import Derived.Test.YtahbdamijngmmaaGreatJRW02
import Derived.Test.YtahbdamijngmmaaGreatJRW07
import Derived.Test.YtahbdamijngmmaaGreatJRW06
set_option linter.unusedVariables false
set_option linter.unusedSimpArgs false
set_option linter.defProp false
set_option linter.unnecessarySimpa false
set_option maxHeartbeats 8000000
namespace Go.Proofs.YtahbdamijngmmaaGreat
open Go Go.ChangeShapes Go.WideShapes Go.ChangeAt Go.RowKit Go.WideElems
theorem Ext.below{w x:World}(h:Ext w x):RowKit.Below w.heap.size w x:=⟨h.os,h.tape,h.output,h.size,fun k hk=>h.block k hk (fun h=>h)⟩
theorem Ext.kept{w x:World}(h:Ext w x)(may:MemPlace→Prop):w.keptBut x may:=by
 refine⟨h.os,h.output,fun i hi=>?_⟩
 rw[h.block i hi (fun h=>h)]
 cases hw:w.heap[i]? with
 |none=>trivial
 |some o=>cases o<;>simp
theorem zdR{H:Type}{enc:TypeId×Value→H}{P:Program}(hl:laidOutB P=true){W W':World}{sp:Nat→Bool}(hE:Ext W W'):
  ∀{ts:List TypeId} {vs:List Value} {ds:List (DataW H)} {ps:List MemPlace},(∀t∈ts,P.readableRec t=true∧t<P.types.size)→DataW.TrodAll enc P W 0 (fun _=>true) true ts vs ds ps→(∀x∈ps,x.block<W.heap.size)→(∀x∈ps,sp x.block=true)→
   DataW.TrodAll enc P W' 0 sp true ts vs ds ps
 | [],_,_,_,_,h,_,_=>by
  obtain⟨rfl,rfl,rfl⟩:=trodAll_nil h
  exact trodAll_mk0
 |_::_,_,_,_,ht,h,hlt,hs=>by
  obtain⟨v,vs1,d,ds1,a,b,rfl,rfl,rfl,h1,h2⟩:=trodAll_cons h
  obtain⟨hr,hrow⟩:=ht _ (List.mem_cons_self ..)
  exact trodAll_cons_mk (WideElems.Trod_stays hl hr hrow h1 (fun x hx=>hE.below.same (hlt x (List.mem_append_left _ hx))) (fun x hx=>hs x (List.mem_append_left _ hx)))
   (zdR hl hE (fun t h=>ht t (List.mem_cons_of_mem _ h)) h2 (fun x hx=>hlt x (List.mem_append_right _ hx)) (fun x hx=>hs x (List.mem_append_right _ hx)))
theorem zjY{w x:World}(h:Ext w x){b:Nat}(hb:b<w.heap.size)(o:Nat):x.frozen? ⟨b,o,Option.none⟩=w.frozen? ⟨b,o,Option.none⟩:=by
 unfold World.frozen?
 rw[h.block b hb (fun h=>h)]
theorem law_post{H:Type}{enc:TypeId×Value→H}{P:Program}{f:Func}{s:ChangeSpec}{apart fresh handsOn again:Bool}{W W':World}{args:Array Value}{ds gs:List (DataW H)}{before:List MemPlace}
  (hW:DataW.Whole enc P f.params.toList s.vars apart W args.toList ds gs before) (hvn:s.vars=[]) (hspec:s.fn H ds={results:=[.lit (.bool true)],args:=ds}) {tb:TypeId} (hrt:f.resultTypes=#[tb]) (htb:P.underlying tb=some .bool)
  (hl:laidOutB P=true) (hrd:∀t∈f.params.toList,P.readableRec t=true∧t<P.types.size) (hE:Ext W W'):s.post enc P f apart fresh handsOn again W args (.bool true) W':=by
 have hlt:=hW.lt
 have hW0:=hW
 obtain⟨p,q,hA,hV,hpq,hfz,hnd⟩:=hW
 have hq:gs=[]∧q=[]:=by
  rw[hvn]at hV
  cases gs with
  |nil=>exact⟨rfl,hV⟩
  |cons _ _=>exact hV.elim
 obtain⟨rfl,rfl⟩:=hq
 rw[List.append_nil]at hpq
 subst hpq
 have hres:∀(b:Nat) (sp:Nat→Bool) (hd:Bool),DataW.TrodAll enc P W' b sp hd f.resultTypes.toList ((Value.bool true).resultList f.resultTypes.size) (s.fn H (ds++ [])).results []:=fun b sp hd=>by
  rw[List.append_nil,hspec,hrt]
  exact trodAll_mk1 (shut_bool htb true)
 have hargs:∀sp:Nat→Bool,(∀x∈before,sp x.block=true)→DataW.TrodAll enc P W' 0 sp true f.params.toList args.toList (s.fn H (ds++ [])).args before:=fun sp hs=>by
  rw[List.append_nil,hspec]
  exact zdR hl hE hrd hA hlt hs
 have hvars:∀sp:Nat→Bool,DataW.TrodVars enc P W' sp s.vars (s.fn H (ds++ [])).vars []:=fun sp=>by
  rw[List.append_nil,hspec,hvn];rfl
 have hold:∀x∈before,(fun b=>decide (b<W.heap.size)) x.block=true:=fun x hx=>by simpa using hlt x hx
 refine⟨ds,[],before,[],before,[],hW0,hres _ _ _,hargs _ hold,hvars _,hE.kept _,fun _=>?_⟩
 refine⟨fun j t r h1 h2=>?_,_,_,([]++before)++ [],⟨[]++before,[],trodAll_append (hargs _ (fun _ _=>rfl)) (hres _ _ _),hvars _,rfl,?_,?_⟩,?_⟩
 ·rw[hrt]at h1 h2
  match j with
  |0=>
   simp at h1
   subst h1
   have:r= .bool true:=by simpa [Value.resultList] using h2.symm
   subst this
   exact okWide_bool_mk htb true
  |j+1=>simp at h1
 ·intro b off hp
  have hp':MemPlace.cell b off∈before:=by simpa using hp
  rw[zjY hE (show b<W.heap.size from hlt _ hp')]
  exact hfz b off hp'
 ·intro ha
  simpa using hnd ha
 ·intro x hx _
  simpa using hx
theorem law_lift{C:Checked}{os:Os}{f:FuncId}{fn:Func}{s:ChangeSpec}{conds:List PathCond}{apart fresh handsOn again:Bool}{H:Type}{enc:TypeId×Value→H}
  (own:ownKnob C.prog.godebug=none) (started:os.Started) (noInit:C.prog.inits.idxOf? f=none) (hfn:C.prog.funcs[f]? =some fn)
  (witness:∃(w:World) (tape:Tape) (i:Input),w.os=os∧(w.forCall tape i).Shaped C.prog∧i.vars=[]∧Input.okWide C.prog (w.forCall tape i) .any w.heap.size f i∧
   s.pre6 enc C.prog fn conds apart (w.forCall tape i).memory i.args∧({}:Assume).holds C.prog (lone (Frame.enter C.prog f i.args .normal) [] (w.forCall tape i)))
  (hvn:s.vars=[]) (hspec:∀ds:List (DataW H),ds.length=fn.params.size→s.fn H ds={results:=[.lit (.bool true)],args:=ds}) {tb:TypeId} (hrt:fn.resultTypes=#[tb]) (htb:C.prog.underlying tb=some .bool)
  (hl:laidOutB C.prog=true) (hrd:fn.params.toList.all (fun t=>C.prog.readableRec t && decide (t<C.prog.types.size))=true)
  (walk:∀(W:World) (base:Nat) (args:List Value) (ds:List (DataW H)) (p:List MemPlace),(∀(j:Nat) t v,fn.params[j]? =some t→args[j]? =some v→Value.okWide C.prog W .any base t v)→
   DataW.TrodAll enc C.prog W 0 (fun _=>true) true fn.params.toList args ds p→(∀x∈DataW.weightsEach C.prog fn.params.toList ds,x≤reachBytes)→Fn C.prog f args.toArray W (fun v W'=>v= .bool true∧Ext W W')):
  ReturnsInHanded {} C os f .any (s.pre6 enc C.prog fn conds apart) (s.post enc C.prog fn apart fresh handsOn again):=by
 refine returnsInHanded_of_change_sized own started noInit hfn witness ?_
 intro W base args ds gs before hval hW _ hwt _
 have hW0:=hW
 obtain⟨p,q,hA,hV,_⟩:=hW
 have hgs:gs=[]:=by
  rw[hvn]at hV
  cases gs with
  |nil=>rfl
  |cons _ _=>exact hV.elim
 subst hgs
 have hvt:s.plain.varTypes C.prog=[]:=by
  unfold DataSpec.varTypes
  rw[show s.plain.vars=[] from hvn];rfl
 rw[hvt,List.append_nil,List.append_nil]at hwt
 have hlen:∀{ts:List TypeId} {vs:List Value} {ds:List (DataW H)} {ps:List MemPlace},DataW.TrodAll enc C.prog W 0 (fun _=>true) true ts vs ds ps→ds.length=ts.length:=by
  intro ts
  induction ts with
  |nil=>intro vs ds ps h;obtain⟨rfl,rfl,rfl⟩:=trodAll_nil h;rfl
  |cons t ts ih=>
   intro vs ds ps h
   obtain⟨v,vs1,d,ds1,a,b,rfl,rfl,rfl,h1,h2⟩:=trodAll_cons h
   simp[ih h2]
 have hw:=walk W base args.toList ds p (fun j t v h1 h2=>hval j t v h1 (by simpa using h2)) hA (fun x hx=>by simpa using (List.all_eq_true.1 hwt) x hx)
 rw[Array.toArray_toList]at hw
 refine Calls.mono (callsIn_wide.1 hw) ?_
 rintro e W' ⟨v,rfl,rfl,hE⟩
 refine⟨_,rfl,law_post hW0 hvn (hspec ds (by rw[hlen hA];simp)) hrt htb hl (fun t ht=>?_) hE⟩
 have:=(List.all_eq_true.1 hrd) t ht
 simpa using this
/-! arguments -/
section
variable {H : Type} {enc : TypeId × Value → H} {P : Program} {w : World} {base : Nat} {sp : Nat → Bool} {held : Bool}
def Rd(enc:TypeId×Value→H)(P:Program)(w:World)(base:Nat)(sp:Nat→Bool)(held:Bool)(t:TypeId)(v:Value):Prop:=∃n x,DataW.trod enc P w base sp held n t [v]=some x∧∀k∈x.1.weights P t,k≤reachBytes
theorem zcz{e:TypeId}{d:DataW H}{k:Nat}:∀{l:List (DataW H)},d∈l→k∈d.weights P e→k∈DataW.weightsAll P e l
 |a::l,hd,hk=>by
  simp only[DataW.weightsAll,List.mem_append]
  rcases List.mem_cons.1 hd with rfl|hd
  ·exact .inl hk
  ·exact .inr (zcz hd hk)
theorem zgz{t e:TypeId}{v:Value}(h:Rd enc P w base sp held t v)(ht:P.underlying t=some (.slice e))(hc:P.cellsOf e=1):
  ∃vals,Row w v vals∧(∀u∈vals,Rd enc P w base sp held e u)∧vals.length*P.bytesOf e≤reachBytes:=by
 obtain⟨n,x,h,hw⟩:=h
 rcases Go.Deep.open_slice1 ht hc h with ⟨h1,_⟩| ⟨a,len,cap,m,k,V,D,Pl,h1,_,hl,hm,hmm,rfl,hx⟩
 ·simp only[List.cons.injEq,and_true]at h1
  subst h1
  exact⟨[],⟨Option.none,0,rfl,Nat.le_refl _,fun j h=>by simp at h⟩,fun u h=>(by cases h),by simp⟩
 ·simp only[List.cons.injEq,and_true]at h1
  subst h1
  have hml:len≤m:=by rw[hmm];split<;>omega
  simp only[DataW.weights,ht]at hw
  refine⟨(List.range len).map V,⟨some a,cap,by simp,by simpa using hl,fun j hj=>?_⟩,fun u hu=>?_,?_⟩
  ·simp at hj
   have:=(hx j (by omega)).1
   simpa [zae,adr] using this
  ·obtain⟨j,hj,rfl⟩:=List.mem_map.1 hu
   simp at hj
   refine⟨_,_,(hx j (by omega)).2,fun q hq=>hw q (List.mem_cons_of_mem _ (List.mem_append_left _ (zcz (d:=D j) ?_ hq)))⟩
   exact List.mem_map.2 ⟨j,by simpa using hj,rfl⟩
  ·have h1:=hw _ (List.mem_cons_self ..)
   have h2:((List.range len).map V).length*P.bytesOf e≤(((List.range len).map D).length+((List.range (m - len)).map fun j=>D (len+j)).length)*P.bytesOf e:=Nat.mul_le_mul (by simp) (Nat.le_refl _)
   omega
theorem zkL{t:TypeId}{v:Value}(h:Rd enc P w base sp held t v)(ht:P.underlying t=some .string):∃s:List UInt8,v=vs s∧s.length≤reachBytes:=by
 obtain⟨n,x,h,hw⟩:=h
 cases n with
 |zero=>cases h
 |succ n=>
  unfold DataW.trod at h
  rw[ht]at h
  cases v<;>simp at h
  rename_i s
  obtain⟨_,rfl⟩:=h
  exact⟨s.data.toList,by simp[vs],by simpa [DataW.weights,ByteArray.toList_eq] using hw⟩
theorem zf4{t:TypeId}{v:Value}{d:DataW H}{p:List MemPlace}{ts:List TypeId}{ds:List (DataW H)}(h:DataW.Trod enc P w base sp held t v d p)(hv:v.cells.toList=[v])
  (hw:∀x∈DataW.weightsEach P ts ds,x≤reachBytes) {j:Nat} (ht:ts[j]? =some t) (hd:ds[j]? =some d):Rd enc P w base sp held t v:=by
 obtain⟨n,h⟩:=h
 rw[hv]at h
 exact⟨n,_,h,fun k hk=>hw k (DataW.weights_mem_each ht hd k hk)⟩
theorem ziC{α β:Type}{f:α→β}{Q:α→Prop}:∀{l:List β},(∀u∈l,∃s,u=f s∧Q s)→∃m:List α,l=m.map f∧∀s∈m,Q s
 | [],_=>⟨[],rfl,fun s h=>by cases h⟩
 |b::l,h=>by
  obtain⟨s,rfl,hq⟩:=h b (List.mem_cons_self ..)
  obtain⟨m,rfl,hm⟩:=ziC (fun u hu=>h u (List.mem_cons_of_mem _ hu))
  refine⟨s::m,rfl,fun x hx=>?_⟩
  rcases List.mem_cons.1 hx with rfl|hx
  ·exact hq
  ·exact hm x hx
end
end Go.Proofs.YtahbdamijngmmaaGreat
namespace Go.Proofs.YtahbdamijngmmaaGreat
open Go
section
variable {H : Type} {enc : TypeId × Value → H} {P : Program} {w : World} {base : Nat} {sp : Nat → Bool} {held : Bool}
structure NmOk(n:Nm):Prop where
 lb:LB n
 len:n.length≤8796093022207
theorem reach_lt:reachBytes<140737488355328:=by decide
theorem zen{t e:TypeId}{v:Value}(h:Rd enc P w base sp held t v)(ht:P.underlying t=some (.slice e))(hc:P.cellsOf e=1)(he:P.underlying e=some .string)(hb:P.bytesOf e=16):∃n:Nm,Row w v (n.map vs)∧NmOk n:=by
 obtain⟨vals,hr,hall,hl⟩:=zgz h ht hc
 obtain⟨m,rfl,hm⟩:=ziC (f:=vs) (fun u hu=>zkL (hall u hu) he)
 have:=reach_lt
 rw[hb]at hl
 exact⟨m,hr,fun l hl=>by have:=hm l hl;omega,by simp at hl;omega⟩
theorem rd_names{t ts tb:TypeId}{v:Value}(h:Rd enc P w base sp held t v)(ht:P.underlying t=some (.slice ts))(hc:P.cellsOf ts=1)(ht2:P.underlying ts=some (.slice tb))(hc2:P.cellsOf tb=1)(he:P.underlying tb=some .string)(hb:P.bytesOf tb=16):
  ∃L:List Nm,NamesAt w v L∧∀n∈L,NmOk n:=by
 obtain⟨vals,hr,hall,hlen0⟩:=zgz h ht hc
 have:∃L:List Nm,(vals.length=L.length∧∀i (h:i<vals.length) (h':i<L.length),Row w vals[i] (L[i].map vs))∧∀n∈L,NmOk n:=by
  clear hr h hlen0
  induction vals with
  |nil=>exact⟨[],⟨rfl,fun i h=>by simp at h⟩,fun n h=>by cases h⟩
  |cons u vals ih=>
   obtain⟨n,hn,hok⟩:=zen (hall u (List.mem_cons_self ..)) ht2 hc2 he hb
   obtain⟨L,⟨h1,h2⟩,h3⟩:=ih (fun x hx=>hall x (List.mem_cons_of_mem _ hx))
   refine⟨n::L,⟨by simp[h1],fun i a b=>?_⟩,fun x hx=>?_⟩
   ·cases i with
    |zero=>exact hn
    |succ i=>exact h2 i (by simpa using a) (by simpa using b)
   ·rcases List.mem_cons.1 hx with rfl|hx
    ·exact hok
    ·exact h3 x hx
 obtain⟨L,⟨h1,h2⟩,h3⟩:=this
 exact⟨L,⟨vals,hr,h1,h2⟩,h3⟩
end
class Tr (p:World→Prop):Prop where
 tr:∀{w x:World},Ext w x→p w→p x
theorem tr{p:World→Prop}[h:Tr p]{w x:World}(hE:Ext w x)(hp:p w):p x:=h.tr hE hp
instance Tr.and{p q:World→Prop}[Tr p][Tr q]:Tr fun w=>p w∧q w:=⟨fun hE h=>⟨tr hE h.1,tr hE h.2⟩⟩
instance Tr.cell{a:Option Addr}{v:Value}:Tr fun w=>zae w a=some v:=⟨fun hE h=>zaa hE h⟩
instance Tr.cells{a:Option Addr}{k:Nat}{l:List Value}:Tr fun w=>zas w a k=some l:=⟨fun hE h=>zad hE h⟩
instance Tr.ext{w0:World}:Tr fun w=>Ext w0 w:=⟨fun hE h=>h.trans hE⟩
instance Tr.row{v:Value}{l:List Value}:Tr fun w=>Row w v l:=⟨fun hE h=>h.ext hE⟩
instance Tr.obj{b:Nat}{o:Obj}:Tr fun w=>w.heap[b]? =some o:=⟨fun hE h=>Ext.at hE h⟩
instance Tr.const{p:Prop}:Tr fun _=>p:=⟨fun _ h=>h⟩
instance Tr.all{α:Sort _}{p:α→World→Prop}[∀a,Tr (p a)]:Tr fun w=>∀a,p a w:=⟨fun hE h a=>tr hE (h a)⟩
instance Tr.ex{α:Sort _}{p:α→World→Prop}[∀a,Tr (p a)]:Tr fun w=>∃a,p a w:=⟨fun hE h=>h.elim fun a h=>⟨a,tr hE h⟩⟩
attribute [go_sem] decide_true decide_false
theorem sc{p q:Prop}(h:p)(hs:p→q=True:=by intro h1;simp only[go_sem,h1]):q:=(hs h).mpr trivial
/-! many steps at once -/
structure Gto(p q:Prop):Prop where
 of:q→p
section
variable {P : Program} {r : Option Nat} {n : Nat} {Q : Post} {σ : Sto} {ds : List Deferred} {w : World} {p q s : Prop} {L : List Oper} {F : (Nat → Option Tmp) → (Sto → World → Prop) → Prop}
theorem zlq:Gto p p:=⟨id⟩
theorem gto_c(h:Ctl p q)(k:Gto q s):Gto p s:=⟨fun g=>c_r (k.of g) h⟩
theorem gto_r{id:Nat}{ops:Array Oper}{σ1:Sto}{w1:World}(hs:∀(gd:Nat→Option Tmp) (K:Sto→World→Prop),gd=dstL ops.toList→opsV P gd n ops.toList σ w K=K σ1 w1)(hd:zaW ops=true)(k:Gto (Q .normal σ1 ds w1) q):
  Gto (W P r n (.region id ops false) Q σ ds w) q:=⟨fun g=>zcS hd fun gd K hgd hK=>(hs gd K hgd).mpr (hK _ _ (k.of g))⟩
theorem gto_t{c:Operand}{x y:Code}(hc:ev n σ c= .bool true)(k:Gto (W P r n x Q σ ds w) q):Gto (W P r n (.cond c x y) Q σ ds w) q:=⟨fun g=>zaH hc (fun _=>k.of g) (fun h=>by cases h)⟩
theorem gto_f{c:Operand}{x y:Code}(hc:ev n σ c= .bool false)(k:Gto (W P r n y Q σ ds w) q):Gto (W P r n (.cond c x y) Q σ ds w) q:=⟨fun g=>zaH hc (fun h=>by cases h) (fun _=>k.of g)⟩
theorem go(h:p)(hq:s)(hs:p→Gto q s:=by
  intro h1
  repeat (first
   | (apply gto_c;· (with_reducible constructor)<;>exact rfl)
   | (apply gto_r;(intro gd K hgd;(simp (disch:=first|omega|assumption|rfl) only[go_sem,h1])<;>with_reducible exact rfl);rfl)
   | (apply gto_t;· first| (simp only[go_sem,h1];done)| (simp only[go_sem,h1];exact rfl))
   | (apply gto_f;· first| (simp only[go_sem,h1];done)| (simp only[go_sem,h1];exact rfl)))
  exact zlq):q:=(hs h).of hq
theorem rgo{σ1:Sto}{w1:World}(h:p)(hq:s)
  (hs:p→∀(gd:Nat→Option Tmp) (K:Sto→World→Prop),F gd K=K σ1 w1:=by intro h1 gd K;(first| (simp (disch:=first|omega|assumption|rfl) only[go_sem,h1])|skip)<;>exact rfl)
  (hg:p→Gto (Q .normal σ1 ds w1) s:=by
   intro h1
   repeat (first
    | (apply gto_c;· (with_reducible constructor)<;>exact rfl)
    | (apply gto_r;(intro gd K hgd;(simp (disch:=first|omega|assumption|rfl) only[go_sem,h1])<;>with_reducible exact rfl);rfl)
    | (apply gto_t;· first| (simp only[go_sem,h1];done)| (simp only[go_sem,h1];exact rfl))
    | (apply gto_f;· first| (simp only[go_sem,h1];done)| (simp only[go_sem,h1];exact rfl)))
   exact zlq):Rest P Q ds L F:=
 re (p:=True) trivial ((hg h).of hq) fun _=>hs h
theorem zfZ{c:Code}(N:Nat)(I:Nat→Sto→World→Prop)(h0:I 0 σ w)
  (hs:∀i σ w,i<N→(decide ((i:Int)<(N:Int))=true∧(0:Int)≤(i:Int)∧(i:Int)<(N:Int)∧(i:Int)+1=((i+1:Nat):Int))→I i σ w→W P r n c (zdv (fun σ ds w=>ds=[]∧I (i+1) σ w) Q) σ [] w)
  (he:∀σ w,decide ((N:Int)<(N:Int))=false→I N σ w→W P r n c (zdv (fun _ _ _=>False) Q) σ [] w):W P r n (.loop c) Q σ [] w:=by
 refine zam (fun m σ ds w=>ds=[]∧∃i,i+m=N∧I i σ w) N ⟨rfl,0,by omega,h0⟩ ?_
 rintro m σ ds w ⟨rfl,i,him,hI⟩
 by_cases h:i<N
 ·refine zay (hs i σ w h ⟨decide_eq_true (by omega),by omega,by omega,by push_cast;rfl⟩ hI) ?_
  intro e σ' ds' w' hq
  cases e<;>first|exact hq|exact⟨m - 1,by omega,hq.1,i+1,by omega,hq.2⟩
 ·have e1:i=N:=by omega
  subst e1
  refine zay (he σ w (decide_eq_false (by omega)) hI) ?_
  intro e σ' ds' w' hq
  cases e<;>first|exact hq|exact hq.elim
end
set_option maxRecDepth 10000
abbrev MetL:=zak×List Int
def keyS(s:zak):KeyL:=⟨zbI (zaj s.name),s.sv,s.rw,s.rf,s.fin,s.ref⟩
theorem KeyL.eq_iff{a b:KeyL}:(a.name=b.name∧a.a=b.a∧a.b=b.b∧a.c=b.c∧a.d=b.d∧a.ref=b.ref)↔a=b:=by
 cases a;cases b;simp
instance:DecidableEq KeyL:=fun _ _=>decidable_of_iff _ KeyL.eq_iff
def putL(row:List MetL)(x:MetL):List MetL:=if (row.any fun y=>decide (keyS y.1=keyS x.1))=true then row else row++ [x]
def setB(b m:Nat)(lv:Value):Nat→Prop:=fun i=>i=b∨i=m∨some i=lv.ownBlock
def RowY(S:Nat→Prop)(w:World)(v:Value)(l:List Value):Prop:=Row w v l∧(l≠ []→∀a n c,v= .slice (some a) n c→a.block<w.heap.size∧¬S a.block)
theorem RowY.turn{S S':Nat→Prop}{w x:World}{v:Value}{l:List Value}(h:RowY S w v l)(hk:Keep S w x)(hS:∀b,S' b→S b∨w.heap.size≤b):RowY S' x v l:=by
 obtain⟨h1,h2⟩:=h
 refine⟨?_,fun hl a n c e=>?_⟩
 ·by_cases hl:l=[]
  ·subst hl
   obtain⟨a,c,e,hc,_⟩:=h1
   exact⟨a,c,e,hc,fun j hj=>absurd hj (by simp)⟩
  ·exact h1.blocks fun a n c e=>hk.block _ (h2 hl a n c e).1 (h2 hl a n c e).2
 ·obtain⟨k1,k2⟩:=h2 hl a n c e
  have:=hk.size
  exact⟨by omega,fun hb=>(hS _ hb).elim k2 (by omega)⟩
theorem RowY.old{S:Nat→Prop}{w0 w:World}{v:Value}{l:List Value}(h:Row w0 v l)(hE:Ext w0 w)(hS:∀b,S b→w0.heap.size≤b):RowY S w v l:=by
 refine⟨h.ext hE,fun hl a n c e=>?_⟩
 obtain⟨a',c',e',_,hg⟩:=h
 have h0:=hg 0 (List.length_pos_iff.2 hl)
 rw[e',Value.slice.injEq]at e
 obtain⟨rfl,_,_⟩:=e
 rw[zaA]at h0
 have hlt:a.block<w0.heap.size:=by
  have hc:w0.cell? a=some (l[0]'(List.length_pos_iff.2 hl)):=h0
  unfold World.cell? at hc
  cases hb:w0.heap[a.block]? with
  |none=>rw[hb]at hc;cases hc
  |some o=>exact(Array.getElem?_eq_some_iff.1 hb).1
 have:=hE.size
 exact⟨by omega,fun hb=>by have:=hS _ hb;omega⟩
theorem RowY.alike{S:Nat→Prop}{w:World}{v:Value}{l l2:List Value}(h:RowY S w v l)(h2:Row w v l2):RowY S w v l2:=by
 refine⟨h2,fun hl a n c e=>h.2 (fun h0=>hl ?_) a n c e⟩
 obtain⟨a1,c1,e1,_⟩:=h.1
 obtain⟨a2,c2,e2,_⟩:=h2
 rw[e1,Value.slice.injEq]at e2
 exact List.eq_nil_of_length_eq_zero (by rw[←e2.2.1,h0];rfl)
structure MetAt(S:Nat→Prop)(w:World)(cs:List Value)(x:MetL):Prop where
 ex:∃nv pv,cs=stV nv x.1++ [pv]∧RowY S w nv (x.1.name.map vs)∧RowY S w pv (x.2.map vi)
theorem MetAt.turn{S S':Nat→Prop}{w x:World}{cs:List Value}{m:MetL}(h:MetAt S w cs m)(hk:Keep S w x)(hS:∀b,S' b→S b∨w.heap.size≤b):MetAt S' x cs m:=by
 obtain⟨nv,pv,e,h1,h2⟩:=h.ex
 exact⟨nv,pv,e,h1.turn hk hS,h2.turn hk hS⟩
theorem MetAt.ones{S:Nat→Prop}{w:World}{cs:List Value}{x:MetL}(h:MetAt S w cs x):cs.length=7∧∀q∈cs,one q=true:=by
 obtain⟨nv,pv,rfl,h1,h2⟩:=h.ex
 have e1:=h1.1.isOne
 have e2:=h2.1.isOne
 refine⟨rfl,fun q hq=>?_⟩
 rcases List.mem_append.1 hq with hq|hq
 ·exact zbZ e1 q hq
 ·rw[List.mem_singleton.1 hq];exact e2
theorem zhM(S:Nat→Prop)(w:World):zeQ 7 (MetAt S w):=⟨fun h=>h.ones.1,fun h=>h.ones.2⟩
structure SetI(w v:World)(b m:Nat)(lv:Value)(row:List MetL):Prop where
 c:v.heap[b]? =some (.cells #[.map (some m),lv] 161 (0,0))
 g:GM v m (row.map fun x=>(keyV (keyS x.1),.bool true))
 o:Owns 7 (MetAt (setB b m lv) v) w.heap.size v 164 lv row
 e:Ext w v
 lo:w.heap.size≤b∧w.heap.size≤m∧b≠m∧some b≠lv.ownBlock∧some m≠lv.ownBlock
theorem SetI.lt{w v:World}{b m:Nat}{lv:Value}{row:List MetL}(h:SetI w v b m lv row){i:Nat}(hi:setB b m lv i):w.heap.size≤i∧i<v.heap.size:=by
 obtain⟨l1,l2,_⟩:=h.lo
 rcases hi with rfl|rfl|hi
 ·exact⟨l1,(Array.getElem?_eq_some_iff.1 h.c).1⟩
 ·exact⟨l2,h.g.lt⟩
 ·exact h.o.ge hi
theorem SetI.ext{w v x:World}{b m:Nat}{lv:Value}{row:List MetL}(h:SetI w v b m lv row)(hE:Ext v x):SetI w x b m lv row:=
 ⟨Ext.at hE h.c,h.g.block (hE.block _ h.g.lt (fun h=>h)),(h.o.ext hE).to fun _ _ h=>h.turn (hE.mono fun _ _ h=>h.elim) (fun _ h=> .inl h),h.e.trans hE,h.lo⟩
theorem put_ok{w v:World}{b m:Nat}{lv:Value}{row:List MetL}{mc:List Value}{X:MetL}(h:SetI w v b m lv row)(hX:MetAt (setB b m lv) v mc X)(hk:zkl (keyS X.1))(hrk:∀y∈row,zkl (keyS y.1))(hlen:row.length≤100000000):
  Fn Tryz.prog 138 #[.pointer (some ⟨b,0,Option.none⟩),keyV (keyS X.1),.agg mc.toArray] v (fun _ v'=>∃lv',SetI w v' b m lv' (putL row X)∧Keep (setB b m lv) v v'∧∀i,setB b m lv' i→setB b m lv i∨v.heap.size≤i):=by
 obtain⟨nv,pv,rfl,hn,hp⟩:=id hX.ex
 obtain⟨an,cn,hne,_⟩:=id hn.1
 obtain⟨ap,cp,hpe,_⟩:=id hp.1
 unfold keyV stV
 refine enter Tryz.func138 Tryz.ntmps138 rfl rfl ?_
 repeat refine c_r ?_
 rw[hne,hpe]
 simp only[List.cons_append,List.nil_append]
 refine go trivial ?_
 rw[←hne,←hpe,zai]
 refine zaO ?_
 intro v1 hE1 hs1 hA hB
 obtain⟨q,hq⟩:∃q,v.heap.size=q:=⟨_,rfl⟩
 rw[hq]at hA hB ⊢
 have dK:zas v1 (some ⟨q,0,Option.none⟩) 6=some [vs (keyS X.1).name,vi (keyS X.1).a,vi (keyS X.1).b,vi (keyS X.1).c,vi (keyS X.1).d,.bool (keyS X.1).ref]:=zah (l:=[vs (keyS X.1).name,vi (keyS X.1).a,vi (keyS X.1).b,vi (keyS X.1).c,vi (keyS X.1).d,.bool (keyS X.1).ref]) hA rfl
 have dM:zas v1 (some ⟨q+1,0,Option.none⟩) 7=some (stV nv X.1++ [pv]):=zah (l:=stV nv X.1++ [pv]) hB rfl
 have h1:=h.ext hE1
 have c0:zae v1 (some ⟨b,0,Option.none⟩)=some (.map (some m)):=zab (i:=0) h1.c rfl
 have hgood:∀p∈row.map (fun x=>(keyV (keyS x.1),Value.bool true)),∃l,keyOf Tryz.prog 250 p.1=some l:=fun p hp=>by
  obtain⟨y,hy,rfl⟩:=List.mem_map.1 hp
  exact zgM (hrk y hy)
 refine zay (Q:=fun e σ' ds' v'=>e= .normal∧ds'=[]∧(σ' 0= .pointer (some ⟨b,0,Option.none⟩)∧σ' 4= .pointer (some ⟨q,0,Option.none⟩)∧σ' 5= .pointer (some ⟨q+1,0,Option.none⟩))∧Ext v1 v'∧∃t,σ' 12= .bool (!t)∧t=(row.any fun y=>decide (keyS y.1=keyS X.1))) ?_ ?_
 ·refine zaJ (fun _=>false) [(0,true),(1,true),(2,true),(3,true),(4,true),(5,false),(6,true)] NoS mixed (by kernel_rfl) ?_;intro gd K x hgd hx hxe hK;clear hxe
  have c0x:=zaa hx c0
  have dKx:=zad hx dK
  simp (disch:=first|omega|assumption|rfl) only[go_sem,c0x,dKx]
  refine zgE (key:=keyV (keyS X.1)) (z:= .bool false) (MKey.of zlj) rfl rfl rfl (vq0) (vr0) ((h1.ext hx).g) (zgM hk) hgood (fun hno=>?_) (fun u hu=>?_)
  ·refine⟨.inr (Keep.refl _ _),?_⟩
   simp (disch:=first|omega|assumption|rfl) only[go_sem]
   refine hK _ _ ?_;clear hK hgd;clear K;try clear gd
   refine⟨rfl,rfl,sc trivial,hx,false,vr0,?_⟩
   symm
   rw[List.any_eq_false]
   intro y hy e
   exact hno (keyV (keyS y.1),.bool true) (List.mem_map.2 ⟨y,hy,rfl⟩) (by rw[of_decide_eq_true e])
  ·obtain⟨y,hy,e⟩:=List.mem_map.1 hu
   simp only[Prod.mk.injEq]at e
   obtain⟨e1,rfl⟩:=e
   refine⟨.inr (Keep.refl _ _),?_⟩
   simp (disch:=first|omega|assumption|rfl) only[go_sem]
   refine hK _ _ ?_;clear hK hgd;clear K;try clear gd
   refine⟨rfl,rfl,sc trivial,hx,true,vr0,?_⟩
   symm
   rw[List.any_eq_true]
   exact⟨y,hy,decide_eq_true (zjc e1)⟩
 rintro _ σ1 _ v2 ⟨rfl,rfl,s,hE2,t,s12,ht⟩
 have hE02:=hE1.trans hE2
 have h2:=h1.ext hE2
 have hsz:=hE02.size
 cases t with
 |true=>
  refine go s12 ?_
  refine zar (by simp) rfl ⟨lv,?_,hE02.mono fun _ _ h=>h.elim,fun i hi=> .inl hi⟩
  unfold putL
  rw[if_pos ht.symm]
  exact h2
 |false=>
 have hput:putL row X=row++ [X]:=by unfold putL;rw[←ht];rfl
 have hno:∀p∈row.map (fun x=>(keyV (keyS x.1),Value.bool true)),p.1≠keyV (keyS X.1):=fun p hp e=>by
  obtain⟨y,hy,rfl⟩:=List.mem_map.1 hp
  have:=List.any_eq_false.1 ht.symm y hy
  exact this (decide_eq_true (zjc e))
 have c02:=zaa hE2 c0
 have dK2:=zad hE2 dK
 have dM2:=zad hE2 dM
 have hm2:=h2.lt (.inr (.inl rfl))
 obtain⟨l1,l2,l3,l4,l5⟩:=h2.lo
 refine go s12 ?_
 -- the key is put down
 refine zay (Q:=fun e σ' ds' v'=>e= .normal∧ds'=[]∧(σ' 0= .pointer (some ⟨b,0,Option.none⟩)∧σ' 5= .pointer (some ⟨q+1,0,Option.none⟩))∧Keep (fun i=>i=m) v2 v'∧GM v' m ((row++ [X]).map fun x=>(keyV (keyS x.1),.bool true))) ?_ ?_
 ·refine zaJ (fun i=>i==5) [(0,true),(1,true),(2,true),(3,true),(4,true),(5,false)] NoS mixed (by kernel_rfl) ?_;intro gd K x hgd hx hxe hK;clear hxe
  have c0x:=zaa hx c02
  have dKx:=zad hx dK2
  simp (disch:=first|omega|assumption|rfl) only[go_sem,s,c0x,dKx]
  refine zkW (key:=keyV (keyS X.1)) (v:= .bool true) (MKey.of zlj) rfl (vq0) (vr0) (vr0) ((h2.ext hx).g) (zgM hk) hgood hno ?_
  intro z hgz hkz hsz
  refine⟨.inl rfl,?_⟩
  simp (disch:=first|omega|assumption|rfl) only[go_sem]
  refine hK _ _ ?_;clear hK hgd;clear K;try clear gd
  exact⟨rfl,rfl,sc s,(hx.mono fun _ _ h=>h.elim).trans hkz,by rw[List.map_append];exact hgz⟩
 clear s
 rintro _ σ2 _ v3 ⟨rfl,rfl,s,hk3,hg3⟩
 have hs3:=hk3.size
 have hmv:=(h.lt (.inr (.inl rfl))).2
 have hbv:=(h.lt (.inl rfl)).2
 have hlb:=h2.lt (.inl rfl)
 have hc3:v3.heap[b]? =some (.cells #[.map (some m),lv] 161 (0,0)):=(hk3.block _ hlb.2 (by omega)).trans h2.c
 have c1:zae v3 (some ⟨b,1,Option.none⟩)=some lv:=zab (i:=1) hc3 rfl
 have hB3:v3.heap[q+1]? =some (.cells (stV nv X.1++ [pv]).toArray 164 (0,0)):=(hk3.block _ (Array.getElem?_eq_some_iff.1 (Ext.at hE2 hB)).1 (by show¬(_=_);omega)).trans (Ext.at hE2 hB)
 have hq1:=(Array.getElem?_eq_some_iff.1 hB3).1
 have dM3:zas v3 (some ⟨q+1,0,Option.none⟩) 7=some (stV nv X.1++ [pv]):=zah (l:=stV nv X.1++ [pv]) hB3 rfl
 have hkS:Keep (setB b m lv) v2 v3:=hk3.mono fun i _ h=> .inr (.inl h)
 have ho3:Owns 7 (MetAt (setB b m lv) v3) w.heap.size v3 164 lv row:=(h2.o.keep hk3 (fun i hi=>fun e=>l5 (by rw[←e];exact hi))).to fun _ _ h=>h.turn hkS fun _ h=> .inl h
 have hX3:MetAt (setB b m lv) v3 (stV nv X.1++ [pv]) X:=(hX.turn (hE02.mono fun _ _ h=>h.elim) fun _ h=> .inl h).turn hkS fun _ h=> .inl h
 refine go s ?_
 refine zaJ (fun i=>i==7||i==10) [(0,true),(1,true),(2,true),(3,true),(4,true),(5,true),(6,false),(7,false),(8,true),(9,true),(10,false)] NoS mixed (by kernel_rfl) ?_;intro gd K x hgd hx hxe hK;clear hxe
 have c1x:=zaa hx c1
 have dMx:=zad hx dM3
 unfold stV at dMx
 simp (disch:=first|omega|assumption|rfl) only[go_sem,s,c1x,dMx]
 refine zbg (zhM (setB b m lv) v3) rfl rfl rfl rfl hX3 (by decide) ?_
 intro w5 hE5 hs5 ho5
 refine⟨.inr hE5.keep,?_⟩
 simp (disch:=first|omega|assumption|rfl) only[go_sem]
 have hx5:=hx.trans hE5
 have hz5:=hx5.size
 refine zaV (zhM (setB b m lv) v3) (ho3.ext hx5) ho5.rows rfl rfl rfl rfl rfl rfl (by decide) (vq0) (vr0) (by simp;omega) (by decide) (by have:=hE02.size;have:=h.e.size;omega) ?_
 intro u w6 ho6 hE6 hk6 hb6
 refine⟨.inl rfl,?_⟩
 have hz6:=hk6.size
 have hc6:w6.heap[b]? =some (.cells #[.map (some m),lv] 161 (0,0)):=(hk6.block _ (by omega) l4).trans (Ext.at hx5 hc3)
 have hg6:=(hg3.block (hx5.block _ hg3.lt (fun h=>h))).block (hk6.block _ (by have:=hg3.lt;omega) l5)
 simp (disch:=first|omega|assumption|rfl) only[go_sem,s]
 refine zaY (P:=Tryz.prog) (t:=159) (j:=1) (u:=u) (l:=[.map (some m),lv]) hc6 (by simp) ho6.rows.isOne rfl rfl ?_
 intro w7 hz7 hc7 hk7
 refine⟨.inl rfl,?_⟩
 simp (disch:=first|omega|assumption|rfl) only[go_sem]
 refine hK _ _ ?_;clear hK hgd;clear K;try clear gd
 refine go trivial ?_
 have hk37:Keep (setB b m lv) v3 w7:=((hx5.mono fun _ _ h=>h.elim).trans (hk6.mono fun i _ h=> .inr (.inr h))).trans (hk7.mono fun i _ h=> .inl h)
 have hkv:Keep (setB b m lv) v w7:=((hE02.mono fun _ _ h=>h.elim).trans hkS).trans hk37
 have hown:∀i,some i=u.ownBlock→some i=lv.ownBlock∨v3.heap.size≤i:=fun i hi=>(hb6 i hi).imp id fun h=>by omega
 have hbo:some b≠u.ownBlock:=fun e=>by
  rcases hown b e with e|e
  ·exact l4 e
  ·omega
 have hmo:some m≠u.ownBlock:=fun e=>by
  rcases hown m e with e|e
  ·exact l5 e
  ·have:=hg3.lt;omega
 have hz7':=hk7.size
 refine zar (by simp) rfl ⟨u,?_,hkv,fun i hi=>?_⟩
 ·rw[hput]
  refine⟨hc7,hg6.block (hk7.block _ hg6.lt (by show¬(_=_);omega)),(ho6.keep hk7 fun i hi e=>hbo (by rw[←e];exact hi)).to fun _ _ h=>h.turn hk37 fun i hi=>?_,Keep.to_ext h.e rfl (fun i hi=>(h.lt hi).1) hkv,l1,l2,l3,hbo,hmo⟩
  rcases hi with hi|hi|hi
  ·exact .inl (.inl hi)
  ·exact .inl (.inr (.inl hi))
  ·exact(hown i hi).imp (fun e=> .inr (.inr e)) id
 ·rcases hi with hi|hi|hi
  ·exact .inl (.inl hi)
  ·exact .inl (.inr (.inl hi))
  ·rcases hown i hi with e|e
   ·exact .inl (.inr (.inr e))
   ·have:=hE02.size;exact .inr (by omega)
section
variable {P : Program} {d : Option Tmp} {ty : TypeId} {ps : String} {af : Array Edge} {g : Option (Nat × Bool)} {ρ : Operand → Value} {w : World} {K : Value → World → Prop}
theorem zer{s x:Operand}{t e:TypeId}{inf:TypeInfo}{z:Value}{a:Option Addr}{u:Value}{l news:List Value}(hrow:Row w (.slice a l.length l.length) l)(hsrc:Row w u news)(hne:0<news.length)
  (ht:tyU P t=some (.slice e)) (hi:P.info? e=some inf) (hz:inf.zero=some z) (hsize:inf.size=1) (hby:inf.bytes≤100) (hzs:z.cells.size=1) (hv:ρ s= .slice a l.length l.length) (hu:ρ x=u)
  (h1:∀q∈news,one q=true) (hlen:l.length+news.length≤1000000000)
  (h:∀v' w',Own w.heap.size w' e v' (l++news)→Ext w w'→K v' w'):
  opW P ⟨d,.call ⟨.builtin .append,#[s,x],#[t,t]⟩,ty,ps,af,g⟩ ρ w K:=by
 obtain⟨a',c',e1,hc,hl⟩:=hrow
 rw[Value.slice.injEq]at e1
 obtain⟨rfl,_,rfl⟩:=e1
 cases a with
 |none=>
  have hl0:l=[]:=by
   cases l with
   |nil=>rfl
   |cons q r=>have:=hl 0 (by simp);simp[zae,adr]at this
  subst hl0
  refine zd0 (B:=w.heap.size) (Own.nil _ _ _) hsrc ht hi hz hsize rfl hzs hv hu h1 (by simp at hlen ⊢;omega) hby (Nat.le_refl _) ?_
  intro v' w' ho hE _ _
  exact h v' w' ho (hE w (Keep.refl _ _) (Nat.le_refl _))
 |some b=>
  obtain⟨a2,c2,rfl,hc2,hl2⟩:=hsrc
  cases a2 with
  |none=>have:=hl2 0 hne;simp[zae,adr]at this
  |some b2=>
   have hol:∀j v,l[j]? =some v→w.cell? (b.add j)=some v:=fun j v hj=>by
    obtain⟨hlt,rfl⟩:=List.getElem?_eq_some_iff.1 hj
    have:=hl j hlt
    simpa [zae,adr] using this
   have hnw:∀j v,news[j]? =some v→w.cell? (b2.add j)=some v:=fun j v hj=>by
    obtain⟨hlt,rfl⟩:=List.getElem?_eq_some_iff.1 hj
    have:=hl2 j hlt
    simpa [zae,adr] using this
   have hbm:(l.length+news.length)*inf.bytes≤1000000000*100:=Nat.mul_le_mul hlen hby
   have hr:=run_append_grow (P:=P) w t ty e inf z ht hi hz b l.length l.length l (by rw[hsize];omega) hol b2 news.length c2 news (by rw[hsize];omega) hnw (by omega) (by omega) (growslice_fits (by omega) (by omega))
   have hge:=grownCap_ge w (l.length+news.length) l.length e
   have hcm:grownCap w (l.length+news.length) l.length e≤maxLen:=grownCap_le_maxLen w (l.length+news.length) l.length e (by simp[maxLen];omega)
   refine zcc (b:= .append) (r:= .ok undef w) (fun v1 w1 hr1=>?_) ⟨_,_,by rw[hv,hu];exact hr⟩
   rw[hv,hu,hr]at hr1
   cases hr1
   refine h _ _ ⟨by rw[List.length_append];omega,.inr ⟨w.heap.size,_,_,by rw[List.length_append],Nat.le_refl _,World.alloc_heap_new w.drew _,by rw[List.length_append];exact hge,hcm,?_,?_⟩⟩ (Ext.drew_alloc w _)
   ·simp only[Array.size_append,List.size_toArray,size_zeroCells,hzs];omega
   ·simp only[Array.toList_append,List.append_assoc]
    rw[←List.append_assoc,Nat.mul_one]
    exact List.take_left
end
def zbh(p:List Int):Nat→List MetL→List zak→List MetL
 |_,row,[]=>row
 |i,row,s::L=>zbh p (i+1) (putL row (s,p++ [(i:Int)])) L
theorem zf7(p:List Int):∀(A:List zak) (s:zak) (k:Nat) (row:List MetL),zbh p k row (A++ [s])=putL (zbh p k row A) (s,p++ [((k+A.length:Nat):Int)])
 | [],s,k,row=>rfl
 |a::A,s,k,row=>by
  simp only[List.cons_append,zbh,List.length_cons]
  rw[zf7 p A s (k+1)]
  congr 5;omega
theorem mem_putL{row:List MetL}{x y:MetL}(h:y∈putL row x):y∈row∨y=x:=by
 unfold putL at h
 split at h
 ·exact .inl h
 ·rcases List.mem_append.1 h with h|h
  ·exact .inl h
  ·exact .inr (List.mem_singleton.1 h)
theorem putL_len{row:List MetL}{x:MetL}:(putL row x).length≤row.length+1:=by
 unfold putL;split<;>simp
theorem zd3{p:List Int}:∀{L:List zak} {k:Nat} {row:List MetL} {y:MetL},y∈zbh p k row L→y∈row∨(y.1∈L∧∃i:Nat,y.2=p++ [(i:Int)])
 | [],_,_,_,h=> .inl h
 |s::L,k,row,y,h=>by
  rcases zd3 (L:=L) h with h| ⟨h,i,e⟩
  ·rcases mem_putL h with h|h
   ·exact .inl h
   ·exact .inr ⟨by rw[h];simp,k,by rw[h]⟩
  ·exact .inr ⟨List.mem_cons_of_mem _ h,i,e⟩
theorem zd4{p:List Int}:∀{L:List zak} {k:Nat} {row:List MetL},(zbh p k row L).length≤row.length+L.length
 | [],_,_=>Nat.le_refl _
 |s::L,k,row=>by
  have h1:=zd4 (p:=p) (L:=L) (k:=k+1) (row:=putL row (s,p++ [(k:Int)]))
  have h2:=putL_len (row:=row) (x:=(s,p++ [(k:Int)]))
  simp only[zbh,List.length_cons];omega
theorem NmG.fold{n:Nm}(h:NmG n):NmG (zaj n):=by
 have hm:∀l∈zaj n,∃x∈n,zaS x=l:=fun l hl=>List.mem_map.1 hl
 refine⟨fun l hl e=>?_,fun l hl=>?_,by rw[zaG];exact h.len⟩
 ·obtain⟨x,hx,rfl⟩:=hm l hl
  exact h.ne x hx (List.eq_nil_of_length_eq_zero (by rw[←zea,e];rfl))
 ·obtain⟨x,hx,rfl⟩:=hm l hl
  rw[zea];exact h.lb x hx
structure StG(s:zak):Prop where
 n:NmG s.name
 k:zkl (keyS s)
theorem zil{w:World}{v:Value}{p:List Int}(hr:Row w v (p.map vi))(hlen:p.length≤1000000000):
  Fn Tryz.prog 139 #[v] w (fun u w'=>Own w.heap.size w' 3 u (p.map vi)∧Ext w w'):=by
 have hr':=hr
 obtain⟨a,c,rfl,hc,hl⟩:=hr
 refine enter Tryz.func139 Tryz.ntmps139 rfl rfl ?_
 refine go trivial ?_
 refine rq ?_;intro gd K hgd hK
 try simp only[go_sem]
 refine zgX (by rfl) (by rfl) (by rfl) ?_
 try simp only[go_sem]
 refine hK _ _ ?_;clear hK hgd;clear K;try clear gd
 repeat refine c_r ?_
 cases a with
 |none=>
  have:p=[]:=by
   cases p with
   |nil=>rfl
   |cons x L=>have:=hl 0 (by simp);simp[zae,adr]at this
  subst this
  refine go trivial ?_
  refine rt0 Tryz.ntmps139 ?_
  exact⟨Own.nil _ _ _,Keep.refl _ _⟩
 |some a=>
  refine go trivial ?_
  refine rq ?_;intro gd K hgd hK
  try simp only[go_sem]
  refine zlU (z:=vi 0) (by rfl) (by rfl) (by rfl) (by rfl) ?_
  intro w1 hE1 hs1 ho1
  try simp only[go_sem]
  refine zd0 (B:=w.heap.size) ho1 (hr'.ext hE1) (by rfl) (by rfl) (by rfl) (by rfl) (by rfl) (by rfl) (by rfl) (by rfl) (fun q hq=>by obtain⟨x,_,rfl⟩:=List.mem_map.1 hq;rfl) (by simp;omega) (by decide) (by omega) ?_
  intro v' w2 ho2 hE2 _ _
  try simp only[go_sem]
  refine hK _ _ ?_;clear hK hgd;clear K;try clear gd
  refine go trivial ?_
  refine rt0 Tryz.ntmps139 ?_
  exact⟨by simpa using ho2,hE2 w hE1 (Nat.le_refl _)⟩
theorem zk7{w v:World}{b m:Nat}{lv:Value}{row:List MetL}(h:SetI w v b m lv row){bv sv u:Value}{p:List Int}{L:List zak}(hb:RowY (setB b m lv) v bv (p.map vi))(hp:p.length≤100000)
  (hs:Rows 6 (StN u) v sv L) (hsb:∀a n c,sv= .slice (some a) n c→a.block<v.heap.size∧¬setB b m lv a.block) (hu:∀s∈L,RowY (setB b m lv) v u (s.name.map vs)) (hg:∀s∈L,StG s) (hrk:∀y∈row,zkl (keyS y.1)) (hlen:row.length+L.length≤100000000):
  Fn Tryz.prog 84 #[.pointer (some ⟨b,0,Option.none⟩),bv,sv] v (fun _ v'=>∃lv',SetI w v' b m lv' (zbh p 0 row L)∧Keep (setB b m lv) v v'∧∀i,setB b m lv' i→setB b m lv i∨v.heap.size≤i):=by
 obtain⟨a,c,rfl,_,_⟩:=hs.open
 refine enter Tryz.func84 Tryz.ntmps84 rfl rfl ?_
 refine go trivial ?_
 refine zay (Q:=fun e σ' ds' x=>e= .exit 0∧ds'=[]∧∃lv',SetI w x b m lv' (zbh p 0 row L)∧Keep (setB b m lv) v x∧∀i,setB b m lv' i→setB b m lv i∨v.heap.size≤i) ?_ ?_
 ·refine zfZ L.length (fun i σ x=>(σ 11=vi i∧σ 10=vi L.length∧σ 9= .slice a L.length c∧σ 0= .pointer (some ⟨b,0,Option.none⟩)∧σ 1=bv)∧∃lv',SetI w x b m lv' (zbh p 0 row (L.take i))∧Keep (setB b m lv) v x∧∀j,setB b m lv' j→setB b m lv j∨v.heap.size≤j) ?_ ?_ ?_
  ·exact⟨⟨vr0,vq0,vq0,vq0,vq0⟩,lv,h,Keep.refl _ _,fun j hj=> .inl hj⟩
  ·rintro i σ X hi q ⟨s,lv1,hI,hk,hS⟩
   have hrows:Rows 6 (StN u) X (.slice a L.length c) L:=hs.blocks fun a' n' c' e=>hk.block _ (hsb a' n' c' e).1 (hsb a' n' c' e).2
   obtain⟨cs,hcs,rfl,hone⟩:=hrows.get hi
   have hmem:=List.getElem_mem hi
   have hux:=(hu _ hmem).turn hk hS
   have hbx:=hb.turn hk hS
   obtain⟨gN,gK⟩:=hg _ hmem
   have hml:=zd4 (p:=p) (L:=L.take i) (k:=0) (row:=row)
   have hmt:=List.length_take_le i L
   have hmk:∀y∈zbh p 0 row (L.take i),zkl (keyS y.1):=fun y hy=>by
    rcases zd3 hy with hy| ⟨hy,_⟩
    ·exact hrk y hy
    ·exact(hg _ (List.mem_of_mem_take hy)).k
   have hsn:zbh p 0 row (L.take (i+1))=putL (zbh p 0 row (L.take i)) (L[i],p++ [(i:Int)]):=by
    rw[zap hi,zf7,List.length_take,Nat.zero_add,Nat.min_eq_left (by omega)]
   obtain⟨S,hSe⟩:∃S,L[i]=S:=⟨_,rfl⟩
   rw[hSe]at hcs hux gN gK hsn
   obtain⟨xa,rfl⟩:=Option.isSome_iff_exists.1 (zaq hcs)
   obtain⟨xi,hxi⟩:∃xi,adr (some xa) (i*6)=some xi:=⟨_,rfl⟩
   rw[hxi]at hcs
   refine go (an3 s q hxi) ?_
   refine rq ?_;intro gd K hgd hK
   unfold stV at hcs
   try simp (disch:=first|omega|assumption|rfl) only[go_sem,s,q,hxi,hcs]
   refine za2 (P:=Tryz.prog) (l:=[vi S.sv,u,vi S.rw,vi S.rf,.bool S.ref,vi S.fin]) rfl (zbZ (s:=S) hone) rfl rfl ?_
   intro v1 hE1 hs1 hC
   try simp only[go_sem]
   refine hK _ _ ?_;clear hK hgd;clear K;try clear gd
   obtain⟨c7,hc7⟩:∃c,X.heap.size=c:=⟨_,rfl⟩
   rw[hc7]at hC ⊢
   have hI1:=hI.ext hE1
   have hu1:=hux.1.ext hE1
   have g0:zae v1 (some ⟨c7,0,Option.none⟩)=some (vi S.sv):=zab (i:=0) hC rfl
   have g1:zae v1 (some ⟨c7,1,Option.none⟩)=some u:=zab (i:=1) hC rfl
   have g2:zae v1 (some ⟨c7,2,Option.none⟩)=some (vi S.rw):=zab (i:=2) hC rfl
   have g3:zae v1 (some ⟨c7,3,Option.none⟩)=some (vi S.rf):=zab (i:=3) hC rfl
   have g4:zae v1 (some ⟨c7,4,Option.none⟩)=some (.bool S.ref):=zab (i:=4) hC rfl
   have g5:zae v1 (some ⟨c7,5,Option.none⟩)=some (vi S.fin):=zab (i:=5) hC rfl
   have gF:=gN.fold
   have gm:=gN.m
   have lm:=gm.len
   refine go trivial ?_
   refine zay (Q:=fun e σ' ds' v'=>e= .normal∧ds'=[]∧(σ' 7= .pointer (some ⟨c7,0,Option.none⟩)∧σ' 6=vi i∧σ' 11=vi i∧σ' 10=vi L.length∧σ' 9= .slice (some xa) L.length c∧σ' 0= .pointer (some ⟨b,0,Option.none⟩)∧σ' 1=bv)∧Ext v1 v'∧
    ∃c8,σ' 8= .pointer (some ⟨c8,0,Option.none⟩)∧v'.heap[c8]? =some (.cells #[vs (keyS S).name,vi (keyS S).a,vi (keyS S).b,vi (keyS S).c,vi (keyS S).d,.bool (keyS S).ref] 250 (0,0))) ?_ ?_
   ·refine zic (fun i=>i==17) (.run [(0,true),(1,true),(4,true),(5,true),(6,true),(7,true),(8,true),(9,true),(10,true),(11,true),(12,true),(13,true),(14,true)] (.fork 4 [2,16] (fun i=>if i=2 then(.run [] (.fork 3 [3,16] (fun i=>if i=3 then(.run [(15,true),(16,false),(17,false)] .fin) else(.run [(3,false),(15,true),(17,false)] .fin)))) else(.run [(2,false),(3,false),(15,true),(17,false)] .fin)))) NoS mixed (by kernel_rfl) ?_;intro gd K x hgd hx hxe hK;clear hxe
    have e0:=zaa hx g0
    have e1:=zaa hx g1
    have e2:=zaa hx g2
    have e3:=zaa hx g3
    have e4:=zaa hx g4
    have e5:=zaa hx g5
    simp (disch:=first|omega|assumption|rfl) only[go_sem,e0,e1,e2,e3,e4,e5]
    refine⟨by kernel_rfl,?_⟩
    rw[show bdV Tryz.prog 248 [(0,vi S.sv),(1,vi S.rw),(2,vi S.rf),(3,vi S.fin)]=some (.agg #[vi S.sv,vi S.rw,vi S.rf,vi S.fin]) from by kernel_rfl]
    simp (disch:=first|omega|assumption|rfl) only[go_sem,e0,e1,e2,e3,e4,e5]
    have kbd:∀t:Lab,bdV Tryz.prog 250 [(0,vs t),(1,.agg #[vi S.sv,vi S.rw,vi S.rf,vi S.fin]),(2,.bool S.ref)]=some (.agg #[vs t,vi S.sv,vi S.rw,vi S.rf,vi S.fin,.bool S.ref]):=fun t=>by kernel_rfl
    have kone:∀q∈ [vs (zbI (zaj S.name)),vi S.sv,vi S.rw,vi S.rf,vi S.fin,.bool S.ref],one q=true:=fun q hq=>by
     simp at hq
     rcases hq with rfl|rfl|rfl|rfl|rfl|rfl<;>rfl
    have hux1:=hu1.ext hx
    simp only[zbF,zb4];refine⟨?_,?_⟩
    ·simp (disch:=first|omega|assumption|rfl) only[go_sem]
     refine Fn.mono (zmk x u S.name hux1 gm.LB (by omega)) ?_
     rintro fv y1 ⟨hf,hy1⟩
     refine⟨.inr hy1,?_⟩
     simp (disch:=first|omega|assumption|rfl) only[go_sem]
     simp only[zbF,zb4];refine⟨?_,?_⟩
     ·simp (disch:=first|omega|assumption|rfl) only[go_sem]
      refine Fn.mono (ze4 y1 fv _ hf gF.ne gF.lb gF.len) ?_
      rintro _ y2 ⟨rfl,hy2⟩
      refine⟨.inr hy2,?_⟩
      simp (disch:=first|omega|assumption|rfl) only[go_sem]
      refine⟨by kernel_rfl,?_⟩
      rw[kbd]
      simp (disch:=first|omega|assumption|rfl) only[go_sem]
      refine⟨.inr (Ext.alloc y2 _),?_⟩
      try simp only[go_sem]
      refine za2 (P:=Tryz.prog) (l:=[vs (zbI (zaj S.name)),vi S.sv,vi S.rw,vi S.rf,vi S.fin,.bool S.ref]) rfl kone rfl rfl ?_
      intro y3 hy3 hs3 hB
      refine⟨.inl rfl,?_⟩
      simp (disch:=first|omega|assumption|rfl) only[go_sem]
      refine hK _ _ ?_;clear hK hgd;clear K;try clear gd
      exact⟨rfl,rfl,sc s,hx.trans (hy1.trans (hy2.trans hy3)),_,vr0,hB⟩
     ·simp (disch:=first|omega|assumption|rfl) only[go_sem]
      refine⟨.inr (Ext.alloc y1 _),?_⟩
      obtain⟨z,hz⟩:∃z,y1.alloc (.cells #[vs [],vi 0,vi 0,vi 0,vi 0,.bool false] 250 (0,0))=z:=⟨_,rfl⟩
      have hEz:Ext y1 z:=by rw[←hz];exact Ext.alloc _ _
      have hBz:=zao y1 (.cells #[vs [],vi 0,vi 0,vi 0,vi 0,.bool false] 250 (0,0))
      rw[hz]at hBz ⊢
      try simp only[go_sem]
      refine Fn.mono (ze4 z fv _ (hf.ext hEz) gF.ne gF.lb gF.len) ?_
      rintro _ y2 ⟨rfl,hy2⟩
      refine⟨.inr hy2,?_⟩
      simp (disch:=first|omega|assumption|rfl) only[go_sem]
      refine⟨by kernel_rfl,?_⟩
      rw[kbd]
      simp (disch:=first|omega|assumption|rfl) only[go_sem]
      refine zaM (P:=Tryz.prog) (l:=[vs (zbI (zaj S.name)),vi S.sv,vi S.rw,vi S.rf,vi S.fin,.bool S.ref]) (Ext.at hy2 hBz) rfl kone rfl rfl ?_
      intro y3 hs3 hB hk3
      refine⟨.inl rfl,?_⟩
      simp (disch:=first|omega|assumption|rfl) only[go_sem]
      refine hK _ _ ?_;clear hK hgd;clear K;try clear gd
      exact⟨rfl,rfl,sc s,hx.trans (hy1.trans (Keep.to_ext (hEz.trans hy2) rfl (fun j hj=>by omega) hk3)),_,vr0,hB⟩
    ·simp (disch:=first|omega|assumption|rfl) only[go_sem]
     refine⟨.inr (Ext.alloc x _),?_⟩
     obtain⟨z,hz⟩:∃z,x.alloc (.cells #[vs [],vi 0,vi 0,vi 0,vi 0,.bool false] 250 (0,0))=z:=⟨_,rfl⟩
     have hEz:Ext x z:=by rw[←hz];exact Ext.alloc _ _
     have hBz:=zao x (.cells #[vs [],vi 0,vi 0,vi 0,vi 0,.bool false] 250 (0,0))
     rw[hz]at hBz ⊢
     try simp only[go_sem]
     refine Fn.mono (zmk z u S.name (hux1.ext hEz) gm.LB (by omega)) ?_
     rintro fv y1 ⟨hf,hy1⟩
     refine⟨.inr hy1,?_⟩
     simp (disch:=first|omega|assumption|rfl) only[go_sem]
     refine Fn.mono (ze4 y1 fv _ hf gF.ne gF.lb gF.len) ?_
     rintro _ y2 ⟨rfl,hy2⟩
     refine⟨.inr hy2,?_⟩
     simp (disch:=first|omega|assumption|rfl) only[go_sem]
     refine⟨by kernel_rfl,?_⟩
     rw[kbd]
     simp (disch:=first|omega|assumption|rfl) only[go_sem]
     refine zaM (P:=Tryz.prog) (l:=[vs (zbI (zaj S.name)),vi S.sv,vi S.rw,vi S.rf,vi S.fin,.bool S.ref]) (Ext.at (hy1.trans hy2) hBz) rfl kone rfl rfl ?_
     intro y3 hs3 hB hk3
     refine⟨.inl rfl,?_⟩
     simp (disch:=first|omega|assumption|rfl) only[go_sem]
     refine hK _ _ ?_;clear hK hgd;clear K;try clear gd
     exact⟨rfl,rfl,sc s,hx.trans (Keep.to_ext (hEz.trans (hy1.trans hy2)) rfl (fun j hj=>by omega) hk3),_,vr0,hB⟩
   clear s
   rintro _ σ1 _ v2 ⟨rfl,rfl,s,hE2,c8,s8,hC8⟩
   have hE12:=hE1.trans hE2
   have hI2:=hI1.ext hE2
   have hC2:=Ext.at hE2 hC
   have d7:zas v2 (some ⟨c7,0,Option.none⟩) 6=some [vi S.sv,u,vi S.rw,vi S.rf,.bool S.ref,vi S.fin]:=zah (l:=[vi S.sv,u,vi S.rw,vi S.rf,.bool S.ref,vi S.fin]) hC2 rfl
   have d8:zas v2 (some ⟨c8,0,Option.none⟩) 6=some [vs (keyS S).name,vi (keyS S).a,vi (keyS S).b,vi (keyS S).c,vi (keyS S).d,.bool (keyS S).ref]:=zah (l:=[vs (keyS S).name,vi (keyS S).a,vi (keyS S).b,vi (keyS S).c,vi (keyS S).d,.bool (keyS S).ref]) hC8 rfl
   have hb2:RowY (setB b m lv1) v2 bv (p.map vi):=hbx.turn (hE12.mono fun _ _ h=>h.elim) fun _ h=> .inl h
   have hu2:RowY (setB b m lv1) v2 u (S.name.map vs):=hux.turn (hE12.mono fun _ _ h=>h.elim) fun _ h=> .inl h
   have hSlt:∀j,setB b m lv1 j→j<v2.heap.size:=fun j hj=>(hI2.lt hj).2
   -- the picks are laid,the state is put
   have fin:∀(y:World) (kv:Value),Ext v2 y→Own v2.heap.size y 3 kv ((p++ [(i:Int)]).map vi)→Fn Tryz.prog 138 #[.pointer (some ⟨b,0,Option.none⟩),keyV (keyS S),.agg #[vi S.sv,u,vi S.rw,vi S.rf,.bool S.ref,vi S.fin,kv]] y (fun _ v'=>∃lv',SetI w v' b m lv' (putL (zbh p 0 row (L.take i)) (S,p++ [(i:Int)]))∧Keep (setB b m lv1) y v'∧∀j,setB b m lv' j→setB b m lv1 j∨y.heap.size≤j):=fun y kv hy ho=>by
    have hxy:MetAt (setB b m lv1) y (stV u S++ [kv]) (S,p++ [(i:Int)]):=⟨u,kv,rfl,hu2.turn (hy.mono fun _ _ h=>h.elim) fun _ h=> .inl h,ho.row,fun _ a' n' c' e=>by
     obtain⟨k1,k2⟩:=ho.rowB.2 a' n' c' e
     exact⟨k2,fun hj=>by have:=hSlt _ hj;omega⟩⟩
    exact put_ok (hI2.ext hy) hxy gK hmk (by omega)
   refine go trivial ?_
   refine zay (Q:=fun e σ' ds' v'=>e= .normal∧ds'=[]∧(σ' 11=vi i∧σ' 10=vi L.length∧σ' 9= .slice (some xa) L.length c∧σ' 0= .pointer (some ⟨b,0,Option.none⟩)∧σ' 1=bv)∧∃y lv',Ext v2 y∧SetI w v' b m lv' (putL (zbh p 0 row (L.take i)) (S,p++ [(i:Int)]))∧Keep (setB b m lv1) y v'∧∀j,setB b m lv' j→setB b m lv1 j∨y.heap.size≤j) ?_ ?_
   ·refine zic (fun i=>i==10) (.run [(0,true),(1,true),(2,true),(3,true),(6,true)] (.fork 5 [4,7] (fun i=>if i=4 then(.run [] (.fork 4 [5,7] (fun i=>if i=5 then(.run [(7,false),(8,false),(9,true),(10,false)] .fin) else(.run [(5,false),(8,false),(9,true),(10,false)] .fin)))) else(.run [(4,false),(5,false),(8,false),(9,true),(10,false)] .fin)))) NoS mixed (by kernel_rfl) ?_;intro gd K x hgd hx hxe hK;clear hxe
    have d7x:=zad hx d7
    have d8x:=zad hx d8
    simp (disch:=first|omega|assumption|rfl) only[go_sem,s,s8,d7x,d8x]
    obtain⟨au,cu,hue,_⟩:=id hu2.1
    have mbd:∀ak nk ck,bdV Tryz.prog 164 [(0,.agg #[vi S.sv,u,vi S.rw,vi S.rf,.bool S.ref,vi S.fin]),(1,.slice ak nk ck)]=some (.agg #[vi S.sv,u,vi S.rw,vi S.rf,.bool S.ref,vi S.fin,.slice ak nk ck]):=by
     rw[hue];intro ak nk ck;kernel_rfl
    have hbx2:=hb2.1.ext hx
    simp only[zbF,zb4];refine⟨?_,?_⟩
    ·simp (disch:=first|omega|assumption|rfl) only[go_sem]
     refine Fn.mono (zil hbx2 (by omega)) ?_
     rintro _ y1 ⟨hc,hy1⟩
     obtain⟨ac,cc,rfl,hcc,hcl⟩:=id hc.row
     refine⟨.inr hy1,?_⟩
     simp (disch:=first|omega|assumption|rfl) only[go_sem]
     simp only[zbF,zb4];refine⟨?_,?_⟩
     ·simp (disch:=first|omega|assumption|rfl) only[go_sem]
      refine Fn.mono (P_ci.Clip_ok hcc) ?_
      rintro _ y2 ⟨rfl,hy2⟩
      replace hy2:=hy2.symm
      subst hy2
      refine⟨.inr (Keep.refl _ _),?_⟩
      simp (disch:=first|omega|assumption|rfl) only[go_sem]
      refine zed (z:=vi 0) rfl rfl rfl rfl rfl ?_
      intro y3 hy3 hs3 ho3
      refine⟨.inr hy3.keep,?_⟩
      replace hcl:=fun j hj=>zaa hy3 (hcl j hj)
      simp (disch:=first|omega|assumption|rfl) only[go_sem]
      have hfull:Row y3 (.slice ac (p.map vi).length (p.map vi).length) (p.map vi):=⟨ac,_,rfl,Nat.le_refl _,hcl⟩
      refine zer hfull ho3.row (by simp) rfl rfl rfl rfl (by decide) rfl (vq0) (vr0) (fun q hq=>by rw[List.mem_singleton.1 hq];rfl) (by simp;omega) ?_
      intro kv2 y ho hy9
      refine⟨.inr hy9.keep,?_⟩
      obtain⟨ak,ck,hke⟩:=ho.slice
      rw[hke]
      simp (disch:=first|omega|assumption|rfl) only[go_sem]
      refine⟨by kernel_rfl,?_⟩
      rw[mbd,←hke]
      simp (disch:=first|omega|assumption|rfl) only[go_sem]
      have hxy:=(hy1.trans hy3).trans hy9
      refine Fn.mono (fin y kv2 (hx.trans hxy) (by have:=(hx.trans (hy1.trans hy3)).size;have h2:=ho.mono this;rwa [←List.map_singleton (f:=vi),←List.map_append]at h2)) ?_
      rintro _ v9 ⟨lv9,hI9,hk9,hS9⟩
      refine⟨.inl rfl,?_⟩
      simp (disch:=first|omega|assumption|rfl) only[go_sem]
      refine hK _ _ ?_;clear hK hgd;clear K;try clear gd
      exact⟨rfl,rfl,sc s,y,lv9,hx.trans hxy,hI9,hk9,hS9⟩
     ·simp (disch:=first|omega|assumption|rfl) only[go_sem]
      refine zed (z:=vi 0) rfl rfl rfl rfl rfl ?_
      intro y3 hy3 hs3 ho3
      refine⟨.inr hy3.keep,?_⟩
      replace hcl:=fun j hj=>zaa hy3 (hcl j hj)
      simp (disch:=first|omega|assumption|rfl) only[go_sem]
      refine Fn.mono (P_ci.Clip_ok hcc) ?_
      rintro _ y2 ⟨rfl,hy2⟩
      replace hy2:=hy2.symm
      subst hy2
      refine⟨.inr (Keep.refl _ _),?_⟩
      simp (disch:=first|omega|assumption|rfl) only[go_sem]
      have hfull:Row y3 (.slice ac (p.map vi).length (p.map vi).length) (p.map vi):=⟨ac,_,rfl,Nat.le_refl _,hcl⟩
      refine zer hfull ho3.row (by simp) rfl rfl rfl rfl (by decide) rfl (vq0) (vr0) (fun q hq=>by rw[List.mem_singleton.1 hq];rfl) (by simp;omega) ?_
      intro kv2 y ho hy9
      refine⟨.inr hy9.keep,?_⟩
      obtain⟨ak,ck,hke⟩:=ho.slice
      rw[hke]
      simp (disch:=first|omega|assumption|rfl) only[go_sem]
      refine⟨by kernel_rfl,?_⟩
      rw[mbd,←hke]
      simp (disch:=first|omega|assumption|rfl) only[go_sem]
      have hxy:=(hy1.trans hy3).trans hy9
      refine Fn.mono (fin y kv2 (hx.trans hxy) (by have:=(hx.trans (hy1.trans hy3)).size;have h2:=ho.mono this;rwa [←List.map_singleton (f:=vi),←List.map_append]at h2)) ?_
      rintro _ v9 ⟨lv9,hI9,hk9,hS9⟩
      refine⟨.inl rfl,?_⟩
      simp (disch:=first|omega|assumption|rfl) only[go_sem]
      refine hK _ _ ?_;clear hK hgd;clear K;try clear gd
      exact⟨rfl,rfl,sc s,y,lv9,hx.trans hxy,hI9,hk9,hS9⟩
    ·simp (disch:=first|omega|assumption|rfl) only[go_sem]
     refine zed (z:=vi 0) rfl rfl rfl rfl rfl ?_
     intro y3 hy3 hs3 ho3
     refine⟨.inr hy3.keep,?_⟩
     simp (disch:=first|omega|assumption|rfl) only[go_sem]
     refine Fn.mono (zil (hbx2.ext hy3) (by omega)) ?_
     rintro _ y1 ⟨hc,hy1⟩
     obtain⟨ac,cc,rfl,hcc,hcl⟩:=id hc.row
     refine⟨.inr hy1,?_⟩
     simp (disch:=first|omega|assumption|rfl) only[go_sem]
     refine Fn.mono (P_ci.Clip_ok hcc) ?_
     rintro _ y2 ⟨rfl,hy2⟩
     replace hy2:=hy2.symm
     subst hy2
     refine⟨.inr (Keep.refl _ _),?_⟩
     replace ho3:=ho3.ext hy1
     simp (disch:=first|omega|assumption|rfl) only[go_sem]
     have hfull:Row y1 (.slice ac (p.map vi).length (p.map vi).length) (p.map vi):=⟨ac,_,rfl,Nat.le_refl _,hcl⟩
     refine zer hfull ho3.row (by simp) rfl rfl rfl rfl (by decide) rfl (vq0) (vr0) (fun q hq=>by rw[List.mem_singleton.1 hq];rfl) (by simp;omega) ?_
     intro kv2 y ho hy9
     refine⟨.inr hy9.keep,?_⟩
     obtain⟨ak,ck,hke⟩:=ho.slice
     rw[hke]
     simp (disch:=first|omega|assumption|rfl) only[go_sem]
     refine⟨by kernel_rfl,?_⟩
     rw[mbd,←hke]
     simp (disch:=first|omega|assumption|rfl) only[go_sem]
     have hxy:=(hy3.trans hy1).trans hy9
     refine Fn.mono (fin y kv2 (hx.trans hxy) (by have:=(hx.trans (hy3.trans hy1)).size;have h2:=ho.mono this;rwa [←List.map_singleton (f:=vi),←List.map_append]at h2)) ?_
     rintro _ v9 ⟨lv9,hI9,hk9,hS9⟩
     refine⟨.inl rfl,?_⟩
     simp (disch:=first|omega|assumption|rfl) only[go_sem]
     refine hK _ _ ?_;clear hK hgd;clear K;try clear gd
     exact⟨rfl,rfl,sc s,y,lv9,hx.trans hxy,hI9,hk9,hS9⟩
   clear s s8
   rintro _ σ2 _ v3 ⟨rfl,rfl,s,y,lv9,hy,hI9,hk9,hS9⟩
   refine go (an2 s q) ?_
   have hz:=hy.size
   have hkx:=hk.size
   have hz1:=hE12.size
   have hSv:∀j,setB b m lv1 j→setB b m lv j∨v.heap.size≤j:=hS
   refine⟨rfl,sc (an2 s q),lv9,by rw[hsn];exact hI9,?_,fun j hj=>?_⟩
   ·have hky:Keep (setB b m lv1) X v3:=((hE12.trans hy).mono fun _ _ h=>h.elim).trans hk9
    refine⟨hky.os.trans hk.os,hky.tape.trans hk.tape,hky.output.trans hk.output,Nat.le_trans hk.size hky.size,fun j hj hn=>?_,Nat.le_trans hk.drawn hky.drawn⟩
    exact(hky.block j (by omega) (fun hc=>(hSv j hc).elim hn (by omega))).trans (hk.block j hj hn)
   ·rcases hS9 j hj with h|h
    ·exact hSv j h
    ·exact .inr (by omega)
  ·rintro σ x q ⟨s,lv1,hI,hk,hS⟩
   rw[List.take_length]at hI
   refine go (an2 s q) ?_
   exact⟨rfl,rfl,lv1,hI,hk,hS⟩
 rintro _ σ _ x ⟨rfl,rfl,lv1,hI,hk,hS⟩
 refine go trivial ?_
 exact zar (by simp) rfl ⟨lv1,hI,hk,hS⟩
theorem zd7{α:Type}{xs ys:List α}{i:Nat}(h1:i<xs.length)(h2:i<ys.length)(ht:xs.take i=ys.take i)(he:xs[i]=ys[i]):xs.take (i+1)=ys.take (i+1):=by
 rw[zap h1,zap h2,ht,he]
theorem zmh(w:World){a b:Value}{xs ys:List Lab}(ha:Row w a (xs.map vs))(hb:Row w b (ys.map vs))(hl:xs.length≤1000000000000000):
  Fn Tryz.prog 114 #[a,b] w (fun v w'=>Ext w w'∧∃t,v= .bool t∧(t=true→xs=ys)):=by
 obtain⟨a1,c1,rfl,_,h1⟩:=ha
 obtain⟨a2,c2,rfl,_,h2⟩:=hb
 simp only[List.length_map,List.getElem_map]at h1 h2 ⊢
 refine enter Tryz.func114 Tryz.ntmps114 rfl rfl ?_
 repeat refine c_r ?_
 refine rg0 ?_
 repeat refine c_r ?_
 by_cases hn:(xs.length:Int)=(ys.length:Int)
 rotate_left
 ·refine rg1 (decide_eq_false hn) ?_
  repeat refine c_r ?_
  refine wt Bool.not_false ?_
  repeat (first|refine c_r ?_|refine rg0 ?_)
  refine rt0 Tryz.ntmps114 ?_
  exact⟨Keep.refl _ _,_,rfl,fun h=>by cases h⟩
 refine rg1 (decide_eq_true hn) ?_
 repeat refine c_r ?_
 refine wf Bool.not_true ?_
 have hn':xs.length=ys.length:=by omega
 repeat refine c_r ?_
 refine rg0 ?_
 repeat refine c_r ?_
 refine zam (fun m σ ds A=>ds=[]∧∃(i:Nat),i+m=xs.length∧σ 5=vi i∧σ 0= .slice a1 xs.length c1∧σ 1= .slice a2 ys.length c2∧Ext w A∧xs.take i=ys.take i) xs.length ?_ ?_
 ·exact⟨rfl,0,by omega,vr0,vq0,vq0,Keep.refl _ _,rfl⟩
 rintro m σ ds A ⟨rfl,i,him,s5,s0,s1,hEA,ht⟩
 repeat refine c_r ?_
 refine rg2 s5 s0 ?_
 repeat refine c_r ?_
 refine wc0 ?_ ?_
 ·intro hlt
  simp only[decide_eq_true_eq]at hlt
  have hi:i<xs.length:=by omega
  have hi2:i<ys.length:=by omega
  have hi0:(0:Int)≤(i:Int):=by omega
  have hi1:(i:Int)<(ys.length:Int):=by omega
  have hi1':(i:Int)+1=((i+1:Nat):Int):=by push_cast;rfl
  have g1:=h1 i hi
  have g2:=h2 i hi2
  obtain⟨x1,rfl⟩:=Option.isSome_iff_exists.1 (zag g1)
  obtain⟨x2,rfl⟩:=Option.isSome_iff_exists.1 (zag g2)
  repeat refine c_r ?_
  refine zaJ (fun _=>false) [(0,true),(1,true),(2,true),(3,true),(4,true),(5,true),(6,true),(7,true),(8,true)] NoS mixed (by kernel_rfl) ?_;intro gd K x hgd hx hxe hK;clear hxe
  have g1x:=zaa (hEA.trans hx) g1
  have g2x:=zaa (hEA.trans hx) g2
  simp (disch:=first|omega|assumption|rfl) only[go_sem,s5,s0,s1,hi0,hlt,hi1,g1x,g2x,Nat.mul_one]
  refine hK _ _ ?_;clear hK hgd;clear K;try clear gd
  by_cases he:xs[i]=ys[i]
  ·repeat refine c_r ?_
   refine wf (an2 (decide_eq_true he) Bool.not_true) ?_
   repeat refine c_r ?_
   refine rg2 s5 hi1' ?_
   repeat refine c_r ?_
   exact⟨m - 1,by omega,rfl,i+1,by omega,vq0,(vq1 s0),(vq1 s1),hEA.trans hx,zd7 hi hi2 ht he⟩
  ·repeat refine c_r ?_
   refine wt (an2 (decide_eq_false he) Bool.not_false) ?_
   repeat (first|refine c_r ?_|refine rg0 ?_)
   refine rt0 Tryz.ntmps114 ?_
   exact⟨hEA.trans hx,_,rfl,fun h=>by cases h⟩
 ·intro hge
  simp only[decide_eq_false_iff_not]at hge
  repeat (first|refine c_r ?_|refine rg0 ?_)
  refine rt0 Tryz.ntmps114 ?_
  refine⟨hEA,_,rfl,fun _=>?_⟩
  rwa [List.take_of_length_le (by omega),List.take_of_length_le (by omega)]at ht
structure DatN(d:DatL):Prop where
 nn:d.names.length≤1000000000000000
 ns:∀n∈d.names,n.length≤1000000000000000
 nu:d.nums.length≤1000000000000000
 nt:d.texts.length≤1000000000000000
theorem DatOk.n{d:DatL}(h:DatOk d):DatN d:=⟨h.nn,fun n hn=>(h.names n hn).2,h.nu,h.nt⟩
theorem Is4_ok(w:World){ca cb:List Value}{a b:DatL}(ha:DatAt w ca a)(hb:DatAt w cb b)(ka:DatN a):
  Fn Tryz.prog 115 #[.agg ca.toArray,.agg cb.toArray] w (fun v w'=>Ext w w'∧∃t,v= .bool t∧(t=true→a=b)):=by
 obtain⟨nm,nu,tx,rw1,rfl,hnm,hnu,htx,hrw⟩:=ha.ex
 obtain⟨mm,mu,ux,rw2,rfl,hmm,hmu,hux,hrx⟩:=hb.ex
 obtain⟨V1,⟨a1,c1,rfl,_,ga⟩,lV1,hV1⟩:=hnm
 obtain⟨V2,⟨a2,c2,rfl,_,gb⟩,lV2,hV2⟩:=hmm
 obtain⟨a3,c3,rfl,_,gc⟩:=hnu
 obtain⟨a4,c4,rfl,_,gd4⟩:=hmu
 obtain⟨a5,c5,htxe,_⟩:=id htx
 obtain⟨a6,c6,huxe,_⟩:=id hux
 obtain⟨a7,c7,rfl,_,gr⟩:=hrw
 obtain⟨a8,c8,rfl,_,gs⟩:=hrx
 simp only[List.length_map,List.getElem_map]at gc gd4 gr gs htxe huxe ⊢
 refine enter Tryz.func115 Tryz.ntmps115 rfl rfl ?_
 repeat refine c_r ?_
 rw[htxe,huxe]
 refine rg0 ?_
 repeat refine c_r ?_
 rw[zai]
 refine zaO ?_
 intro w1 hE1 hs1 hA hB
 have p0:zae w1 (some ⟨w.heap.size,0,Option.none⟩)=some (vi a.ty):=zab hA rfl
 have p1:zae w1 (some ⟨w.heap.size,1,Option.none⟩)=some (.slice a1 V1.length c1):=zab hA rfl
 have p2:zae w1 (some ⟨w.heap.size,2,Option.none⟩)=some (.slice a3 a.nums.length c3):=zab hA rfl
 have p3:zae w1 (some ⟨w.heap.size,3,Option.none⟩)=some (.slice a5 a.texts.length c5):=zab hA rfl
 have p4:zae w1 (some ⟨w.heap.size,4,Option.none⟩)=some (.slice a7 a.raw.length c7):=zab hA rfl
 have q0:zae w1 (some ⟨w.heap.size+1,0,Option.none⟩)=some (vi b.ty):=zab hB rfl
 have q1:zae w1 (some ⟨w.heap.size+1,1,Option.none⟩)=some (.slice a2 V2.length c2):=zab hB rfl
 have q2:zae w1 (some ⟨w.heap.size+1,2,Option.none⟩)=some (.slice a4 b.nums.length c4):=zab hB rfl
 have q3:zae w1 (some ⟨w.heap.size+1,3,Option.none⟩)=some (.slice a6 b.texts.length c6):=zab hB rfl
 have q4:zae w1 (some ⟨w.heap.size+1,4,Option.none⟩)=some (.slice a8 b.raw.length c8):=zab hB rfl
 repeat refine c_r ?_
 refine zay (Q:=fun e σ' ds' v'=>e= .normal∧ds'=[]∧v'=w1∧σ' 2= .pointer (some ⟨w.heap.size,0,Option.none⟩)∧σ' 3= .pointer (some ⟨w.heap.size+1,0,Option.none⟩)∧∃t,σ' 47= .bool t∧(t=false→a.ty=b.ty∧V1.length=V2.length∧a.nums.length=b.nums.length∧a.texts.length=b.texts.length∧a.raw=b.raw)) ?_ ?_
 ·by_cases e0:a.ty=b.ty
  rotate_left
  ·refine rgg [(5,12),(14,21),(23,30),(32,39)] (an5 p0 q0 Nat.add_zero (decide_eq_false e0) Bool.not_false) ?_
   exact⟨rfl,rfl,rfl,vq0,vq0,_,vr0,fun h=>by cases h⟩
  by_cases e1:(V1.length:Int)=(V2.length:Int)
  rotate_left
  ·refine rgg [(5,12),(14,21),(23,30),(32,39)] (an9 p0 q0 Nat.add_zero (decide_eq_true e0) Bool.not_true p1 q1 Nat.zero_add (decide_eq_false e1)) ?_
   exact⟨rfl,rfl,rfl,vq0,vq0,_,vr0,fun h=>by cases h⟩
  by_cases e2:(a.nums.length:Int)=(b.nums.length:Int)
  rotate_left
  ·refine rgg [(5,12),(14,21),(23,30),(32,39)] (an4 (an9 p0 q0 Nat.add_zero (decide_eq_true e0) Bool.not_true p1 q1 Nat.zero_add (decide_eq_true e1)) p2 q2 (decide_eq_false e2)) ?_
   exact⟨rfl,rfl,rfl,vq0,vq0,_,vr0,fun h=>by cases h⟩
  by_cases e3:(a.texts.length:Int)=(b.texts.length:Int)
  rotate_left
  ·refine rgg [(5,12),(14,21),(23,30),(32,39)] (an7 (an9 p0 q0 Nat.add_zero (decide_eq_true e0) Bool.not_true p1 q1 Nat.zero_add (decide_eq_true e1)) p2 q2 (decide_eq_true e2) p3 q3 (decide_eq_false e3)) ?_
   exact⟨rfl,rfl,rfl,vq0,vq0,_,vr0,fun h=>by cases h⟩
  refine rq ?_;intro gd K hgd hK
  have hg5:∀n σ b,zav gd n σ (some (5,b))=zal (ev n σ (.tmp 12)) b:=(fun n σ b=>by rw[zac,show gd 5=some 12 from(by rw[hgd];rfl)];rfl);have hg14:∀n σ b,zav gd n σ (some (14,b))=zal (ev n σ (.tmp 21)) b:=(fun n σ b=>by rw[zac,show gd 14=some 21 from(by rw[hgd];rfl)];rfl);have hg23:∀n σ b,zav gd n σ (some (23,b))=zal (ev n σ (.tmp 30)) b:=(fun n σ b=>by rw[zac,show gd 23=some 30 from(by rw[hgd];rfl)];rfl);have hg32:∀n σ b,zav gd n σ (some (32,b))=zal (ev n σ (.tmp 39)) b:=(fun n σ b=>by rw[zac,show gd 32=some 39 from(by rw[hgd];rfl)];rfl)
  try simp (disch:=first|omega|assumption|rfl) only[go_sem,p0,q0,Nat.add_zero,decide_eq_true e0,Bool.not_true,p1,q1,Nat.zero_add,decide_eq_true e1,p2,q2,decide_eq_true e2,p3,q3,decide_eq_true e3,p4,↓hg5,↓hg14,↓hg23,↓hg32]
  refine zb3 (l:=a.raw) rfl rfl rfl (vq0) (fun j hj=>zaa hE1 (gr j hj)) ?_
  try simp (disch:=first|omega|assumption|rfl) only[go_sem,q4,Nat.zero_add,↓hg5,↓hg14,↓hg23,↓hg32]
  refine zb3 (l:=b.raw) rfl rfl rfl (vq0) (fun j hj=>zaa hE1 (gs j hj)) ?_
  try simp (disch:=first|omega|assumption|rfl) only[go_sem,↓hg5,↓hg14,↓hg23,↓hg32]
  refine hK _ _ ?_;clear hK hgd;clear K;try clear gd
  exact⟨rfl,rfl,rfl,vq0,vq0,_,vr0,fun h=>⟨e0,by omega,by omega,by omega,by simpa using h⟩⟩
 rintro _ σ1 _ w2 ⟨rfl,rfl,rfl,s2,s3,t,s47,ht⟩
 repeat refine c_r ?_
 cases t with
 |true=>
  refine wt s47 ?_
  repeat (first|refine c_r ?_|refine rg0 ?_)
  refine rt0 Tryz.ntmps115 ?_
  exact⟨hE1,_,rfl,fun h=>by cases h⟩
 |false=>
 refine wf s47 ?_
 obtain⟨e0,e1,e2,e3,e4⟩:=ht rfl
 clear s47 ht
 have kn:=ka.nn
 have ku:=ka.nu
 have kt:=ka.nt
 repeat refine c_r ?_
 refine rg0 ?_
 repeat refine c_r ?_
 refine zam (fun m σ ds A=>ds=[]∧∃(i:Nat),i+m=V1.length∧σ 5=vi i∧σ 2= .pointer (some ⟨w.heap.size,0,Option.none⟩)∧σ 3= .pointer (some ⟨w.heap.size+1,0,Option.none⟩)∧Ext w2 A∧a.names.take i=b.names.take i) V1.length ?_ ?_
 ·exact⟨rfl,0,by omega,vr0,(vq1 s2),(vq1 s3),Keep.refl _ _,rfl⟩
 clear s2 s3
 rintro m σ ds A ⟨rfl,i,him,s5,s2,s3,hEA,ht⟩
 have p1A:=zaa hEA p1
 have q1A:=zaa hEA q1
 repeat refine c_r ?_
 refine rg4 s5 s2 p1A Nat.zero_add ?_
 repeat refine c_r ?_
 refine wc0 ?_ ?_
 ·intro hlt
  simp only[decide_eq_true_eq]at hlt
  have hi:i<V1.length:=by omega
  have hi2:i<V2.length:=by omega
  have hi0:(0:Int)≤(i:Int):=by omega
  have hi1:(i:Int)<(V2.length:Int):=by omega
  have hi1':(i:Int)+1=((i+1:Nat):Int):=by push_cast;rfl
  have g1:=ga i hi
  have g2:=gb i hi2
  have r1:=hV1 i hi (by omega)
  have r2:=hV2 i hi2 (by omega)
  have kl:=ka.ns _ (List.getElem_mem (show i<a.names.length by omega))
  obtain⟨x1,rfl⟩:=Option.isSome_iff_exists.1 (zag g1)
  obtain⟨x2,rfl⟩:=Option.isSome_iff_exists.1 (zag g2)
  repeat refine c_r ?_
  refine zaJ (fun _=>false) [(0,true),(1,true),(2,true),(3,true),(4,true),(5,true),(6,true),(7,true),(8,true),(9,true),(10,false),(11,true)] NoS mixed (by kernel_rfl) ?_;intro gd K x hgd hx hxe hK;clear hxe
  have g1x:=zaa (hE1.trans (hEA.trans hx)) g1
  have g2x:=zaa (hE1.trans (hEA.trans hx)) g2
  have p1x:=zaa hx p1A
  have q1x:=zaa hx q1A
  simp (disch:=first|omega|assumption|rfl) only[go_sem,s5,s2,s3,hi0,hlt,hi1,g1x,g2x,p1x,q1x,Nat.mul_one,Nat.zero_add]
  refine Fn.mono (zmh x (r1.ext (hE1.trans (hEA.trans hx))) (r2.ext (hE1.trans (hEA.trans hx))) kl) ?_
  rintro _ y ⟨hy,t,rfl,ht2⟩
  refine⟨.inr hy,?_⟩
  simp (disch:=first|omega|assumption|rfl) only[go_sem]
  refine hK _ _ ?_;clear hK hgd;clear K;try clear gd
  cases t with
  |true=>
   repeat refine c_r ?_
   refine wf Bool.not_true ?_
   repeat refine c_r ?_
   refine rg2 s5 hi1' ?_
   repeat refine c_r ?_
   exact⟨m - 1,by omega,rfl,i+1,by omega,vq0,(vq1 s2),(vq1 s3),(hEA.trans hx).trans hy,zd7 _ _ ht (ht2 rfl)⟩
  |false=>
   repeat refine c_r ?_
   refine wt Bool.not_false ?_
   repeat (first|refine c_r ?_|refine rg0 ?_)
   refine rt0 Tryz.ntmps115 ?_
   exact⟨hE1.trans ((hEA.trans hx).trans hy),_,rfl,fun h=>by cases h⟩
 intro hge
 simp only[decide_eq_false_iff_not]at hge
 have hnames:a.names=b.names:=by rwa [List.take_of_length_le (by omega),List.take_of_length_le (by omega)]at ht
 clear him hge s5 ht p1A q1A
 repeat refine c_r ?_
 refine rg0 ?_
 repeat refine c_r ?_
 refine zam (fun m σ ds B=>ds=[]∧∃(i:Nat),i+m=a.nums.length∧σ 6=vi i∧σ 2= .pointer (some ⟨w.heap.size,0,Option.none⟩)∧σ 3= .pointer (some ⟨w.heap.size+1,0,Option.none⟩)∧Ext w2 B∧a.nums.take i=b.nums.take i) a.nums.length ?_ ?_
 ·exact⟨rfl,0,by omega,vr0,(vq1 s2),(vq1 s3),hEA,rfl⟩
 clear s2 s3 hEA
 rintro m2 σ3 ds3 B ⟨rfl,i,him,s6,s2,s3,hEB,ht⟩
 have p2B:=zaa hEB p2
 have q2B:=zaa hEB q2
 repeat refine c_r ?_
 refine rg4 s6 s2 p2B Nat.zero_add ?_
 repeat refine c_r ?_
 refine wc0 ?_ ?_
 ·intro hlt
  simp only[decide_eq_true_eq]at hlt
  have hi:i<a.nums.length:=by omega
  have hi2:i<b.nums.length:=by omega
  have hi0:(0:Int)≤(i:Int):=by omega
  have hi1:(i:Int)<(b.nums.length:Int):=by omega
  have hi1':(i:Int)+1=((i+1:Nat):Int):=by push_cast;rfl
  have g1:=gc i hi
  have g2:=gd4 i hi2
  obtain⟨x1,rfl⟩:=Option.isSome_iff_exists.1 (zag g1)
  obtain⟨x2,rfl⟩:=Option.isSome_iff_exists.1 (zag g2)
  repeat refine c_r ?_
  refine zaJ (fun _=>false) [(0,true),(1,true),(2,true),(3,true),(4,true),(5,true),(6,true),(7,true),(8,true),(9,true),(10,true)] NoS mixed (by kernel_rfl) ?_;intro gd K x hgd hx hxe hK;clear hxe
  have g1x:=zaa (hE1.trans (hEB.trans hx)) g1
  have g2x:=zaa (hE1.trans (hEB.trans hx)) g2
  have p2x:=zaa hx p2B
  have q2x:=zaa hx q2B
  simp (disch:=first|omega|assumption|rfl) only[go_sem,s6,s2,s3,hi0,hlt,hi1,g1x,g2x,p2x,q2x,Nat.mul_one,Nat.zero_add]
  refine hK _ _ ?_;clear hK hgd;clear K;try clear gd
  by_cases he:a.nums[i]=b.nums[i]
  ·repeat refine c_r ?_
   refine wf (an2 (decide_eq_true he) Bool.not_true) ?_
   repeat refine c_r ?_
   refine rg2 s6 hi1' ?_
   repeat refine c_r ?_
   exact⟨m2 - 1,by omega,rfl,i+1,by omega,vq0,(vq1 s2),(vq1 s3),hEB.trans hx,zd7 hi hi2 ht he⟩
  ·repeat refine c_r ?_
   refine wt (an2 (decide_eq_false he) Bool.not_false) ?_
   repeat (first|refine c_r ?_|refine rg0 ?_)
   refine rt0 Tryz.ntmps115 ?_
   exact⟨hE1.trans (hEB.trans hx),_,rfl,fun h=>by cases h⟩
 intro hge
 simp only[decide_eq_false_iff_not]at hge
 have hnums:a.nums=b.nums:=by rwa [List.take_of_length_le (by omega),List.take_of_length_le (by omega)]at ht
 have p3B:=zaa hEB p3
 have q3B:=zaa hEB q3
 rw[←htxe]at p3B
 rw[←huxe]at q3B
 repeat refine c_r ?_
 refine rc (an5 s2 s3 p3B q3B Nat.zero_add) (zmh B (htx.ext (hE1.trans hEB)) (hux.ext (hE1.trans hEB)) kt) ?_
 rintro _ y ⟨hy,t,rfl,ht2⟩
 refine re trivial ?_
 repeat refine c_r ?_
 refine rt0 Tryz.ntmps115 ?_
 refine⟨hE1.trans (hEB.trans hy),_,rfl,fun h=>?_⟩
 obtain⟨t1,n1,u1,x1,r1⟩:=a
 obtain⟨t2,n2,u2,x2,r2⟩:=b
 dsimp only at e0 hnames hnums ht2 e4
 rw[e0,hnames,hnums,ht2 h,e4]
theorem Is5_ok(w:World){av bv:Value}{xs ys:List RecL}(ha:Rows 7 (RecAt w) w av xs)(hb:Rows 7 (RecAt w) w bv ys)(ko:∀r∈xs,r.owner.length≤1000000000000000∧DatN r.dat)(hl:xs.length≤1000000000):
  Fn Tryz.prog 63 #[av,bv] w (fun v w'=>Ext w w'∧∃t,v= .bool t∧(t=true→xs=ys)):=by
 obtain⟨a1,c1,rfl,_,h1⟩:=ha.open
 obtain⟨a2,c2,rfl,_,h2⟩:=hb.open
 refine enter Tryz.func63 Tryz.ntmps63 rfl rfl ?_
 repeat refine c_r ?_
 refine rg0 ?_
 repeat refine c_r ?_
 by_cases hn:(xs.length:Int)=(ys.length:Int)
 rotate_left
 ·refine rg1 (decide_eq_false hn) ?_
  repeat refine c_r ?_
  refine wt Bool.not_false ?_
  repeat (first|refine c_r ?_|refine rg0 ?_)
  refine rt0 Tryz.ntmps63 ?_
  exact⟨Keep.refl _ _,_,rfl,fun h=>by cases h⟩
 refine rg1 (decide_eq_true hn) ?_
 repeat refine c_r ?_
 refine wf Bool.not_true ?_
 repeat refine c_r ?_
 refine rg0 ?_
 repeat refine c_r ?_
 refine zam (fun m σ ds A=>ds=[]∧∃(i:Nat),i+m=xs.length∧σ 5=vi i∧σ 0= .slice a1 xs.length c1∧σ 1= .slice a2 ys.length c2∧Ext w A∧xs.take i=ys.take i) xs.length ?_ ?_
 ·exact⟨rfl,0,by omega,vr0,vq0,vq0,Keep.refl _ _,rfl⟩
 rintro m σ ds A ⟨rfl,i,him,s5,s0,s1,hEA,ht⟩
 repeat refine c_r ?_
 refine rg2 s5 s0 ?_
 repeat refine c_r ?_
 refine wc0 ?_ ?_
 ·intro hlt
  simp only[decide_eq_true_eq]at hlt
  have hi:i<xs.length:=by omega
  have hi2:i<ys.length:=by omega
  have hi0:(0:Int)≤(i:Int):=by omega
  have hi1:(i:Int)<(ys.length:Int):=by omega
  have hi1':(i:Int)+1=((i+1:Nat):Int):=by push_cast;rfl
  obtain⟨ca,hca,hRa⟩:=h1 i hi
  obtain⟨cb,hcb,hRb⟩:=h2 i hi2
  obtain⟨ko1,ko2⟩:=ko _ (List.getElem_mem hi)
  obtain⟨ra,hra⟩:∃r,xs[i]=r:=⟨_,rfl⟩
  obtain⟨rb,hrb⟩:∃r,ys[i]=r:=⟨_,rfl⟩
  rw[hra]at hRa ko1 ko2
  rw[hrb]at hRb
  obtain⟨oa,da,rfl,o1,e1⟩:=hRa.ex
  obtain⟨ob,db,rfl,o2,e2⟩:=hRb.ex
  have e1':=e1
  have e2':=e2
  obtain⟨na1,na2,na3,na4,rfl,_⟩:=e1.ex
  obtain⟨nb1,nb2,nb3,nb4,rfl,_⟩:=e2.ex
  obtain⟨x1,rfl⟩:=Option.isSome_iff_exists.1 (zaq hca)
  obtain⟨x2,rfl⟩:=Option.isSome_iff_exists.1 (zaq hcb)
  obtain⟨y1,hy1⟩:∃y,adr (some x1) (i*7)=some y:=⟨_,rfl⟩
  obtain⟨y2,hy2⟩:∃y,adr (some x2) (i*7)=some y:=⟨_,rfl⟩
  rw[hy1]at hca
  rw[hy2]at hcb
  obtain⟨u1,hu1⟩:∃y,adr (some y1) 1=some y:=⟨_,rfl⟩
  obtain⟨u2,hu2⟩:∃y,adr (some y2) 1=some y:=⟨_,rfl⟩
  obtain⟨z1,hz1⟩:∃y,adr (some y1) 2=some y:=⟨_,rfl⟩
  obtain⟨z2,hz2⟩:∃y,adr (some y2) 2=some y:=⟨_,rfl⟩
  repeat refine c_r ?_
  refine zaJ (fun _=>false) [(0,true),(1,true),(2,true),(3,true),(4,true),(5,true),(6,true),(7,true),(8,true),(9,true),(10,false),(11,true),(12,true),(13,true),(14,true),(15,true),(16,true),(17,true),(18,true),(19,true),(20,true),(21,true),(22,true),(23,true),(24,true),(25,true),(26,true),(27,true),(28,true),(29,true),(30,true),(31,true),(32,true),(33,true),(34,true),(35,true),(36,false),(37,true),(38,true)] NoS mixed (by kernel_rfl) ?_;intro gd K x hgd hx hxe hK;clear hxe
  have hg12:∀n σ b,zav gd n σ (some (12,b))=zal (ev n σ (.tmp 29)) b:=(fun n σ b=>by rw[zac,show gd 12=some 29 from(by rw[hgd];rfl)];rfl);have hg25:∀n σ b,zav gd n σ (some (25,b))=zal (ev n σ (.tmp 42)) b:=(fun n σ b=>by rw[zac,show gd 25=some 42 from(by rw[hgd];rfl)];rfl)
  have hW:=hEA.trans hx
  have f0:zae x (adr (some y1) 0)=some oa:=zax (zad hW hca) rfl
  have f1:zae x (adr (some y1) 1)=some (v32 ra.ttl):=zax (zad hW hca) rfl
  have f2:zas x (adr (some y1) 2) 5=some [vi ra.dat.ty,na1,na2,na3,na4]:=za8 (m:=2) (k:=5) (zad hW hca)
  have g0:zae x (adr (some y2) 0)=some ob:=zax (zad hW hcb) rfl
  have g1:zae x (adr (some y2) 1)=some (v32 rb.ttl):=zax (zad hW hcb) rfl
  have g2:zas x (adr (some y2) 2) 5=some [vi rb.dat.ty,nb1,nb2,nb3,nb4]:=za8 (m:=2) (k:=5) (zad hW hcb)
  rw[zaA]at f0 g0
  rw[hu1]at f1
  rw[hu2]at g1
  rw[hz1]at f2
  rw[hz2]at g2
  simp (disch:=first|omega|assumption|rfl) only[go_sem,s5,s0,s1,hi0,hlt,hi1,hy1,hy2,hu1,hu2,hz1,hz2,zaA,f0,f1,f2,g0,g1,g2]
  refine Fn.mono (zmh x (o1.ext hW) (o2.ext hW) ko1) ?_
  rintro _ y ⟨hy,t,rfl,ht2⟩
  refine⟨.inr hy,?_⟩
  cases t with
  |false=>
   simp (disch:=first|omega|assumption|rfl) only[go_sem,Bool.not_false,zcp,↓hg12,↓hg25]
   refine hK _ _ ?_;clear hK hgd;clear K;try clear gd
   repeat refine c_r ?_
   refine wt trivial ?_
   repeat (first|refine c_r ?_|refine rg0 ?_)
   refine rt0 Tryz.ntmps63 ?_
   exact⟨hW.trans hy,_,rfl,fun h=>by cases h⟩
  |true=>
  have f1y:=zaa hy f1
  have f2y:=zad hy f2
  have g1y:=zaa hy g1
  have g2y:=zad hy g2
  by_cases htt:ra.ttl=rb.ttl
  rotate_left
  ·simp (disch:=first|omega|assumption|rfl) only[go_sem,Bool.not_true,zcp,s5,s0,s1,hi0,hlt,hi1,hy1,hy2,hu1,hu2,f1y,g1y,decide_eq_false htt,Bool.not_false,↓hg12,↓hg25]
   refine hK _ _ ?_;clear hK hgd;clear K;try clear gd
   repeat refine c_r ?_
   refine wt trivial ?_
   repeat (first|refine c_r ?_|refine rg0 ?_)
   refine rt0 Tryz.ntmps63 ?_
   exact⟨hW.trans hy,_,rfl,fun h=>by cases h⟩
  simp (disch:=first|omega|assumption|rfl) only[go_sem,Bool.not_true,zcp,s5,s0,s1,hi0,hlt,hi1,hy1,hy2,hu1,hu2,f1y,g1y,decide_eq_true htt,hz1,hz2,f2y,g2y,↓hg12,↓hg25]
  refine Fn.mono (Is4_ok y (e1'.ext (hW.trans hy)) (e2'.ext (hW.trans hy)) ko2) ?_
  rintro _ z ⟨hz,t,rfl,ht4⟩
  refine⟨.inr hz,?_⟩
  simp (disch:=first|omega|assumption|rfl) only[go_sem,zcp,↓hg12,↓hg25]
  refine hK _ _ ?_;clear hK hgd;clear K;try clear gd
  have hWz:=(hW.trans hy).trans hz
  cases t with
  |false=>
   repeat refine c_r ?_
   refine wt Bool.not_false ?_
   repeat (first|refine c_r ?_|refine rg0 ?_)
   refine rt0 Tryz.ntmps63 ?_
   exact⟨hWz,_,rfl,fun h=>by cases h⟩
  |true=>
   have hrr:xs[i]=ys[i]:=by
    rw[hra,hrb]
    obtain⟨r1,r2,r3⟩:=ra
    obtain⟨r4,r5,r6⟩:=rb
    dsimp only at ht2 htt ht4
    rw[ht2 rfl,htt,ht4 rfl]
   repeat refine c_r ?_
   refine wf Bool.not_true ?_
   repeat refine c_r ?_
   refine rg2 s5 hi1' ?_
   repeat refine c_r ?_
   exact⟨m - 1,by omega,rfl,i+1,by omega,vq0,(vq1 s0),(vq1 s1),hWz,zd7 hi hi2 ht hrr⟩
 ·intro hge
  simp only[decide_eq_false_iff_not]at hge
  repeat (first|refine c_r ?_|refine rg0 ?_)
  refine rt0 Tryz.ntmps63 ?_
  refine⟨hEA,_,rfl,fun _=>?_⟩
  rwa [List.take_of_length_le (by omega),List.take_of_length_le (by omega)]at ht
def zc2(to:Nm):List (Nm×List DatL)→List DatL
 | []=>[]
 |g::l=>if zaj g.1=zaj to then g.2 else zc2 to l
theorem zhR{to:Nm}:∀{l:List (Nm×List DatL)},zc2 to l=[]∨∃g∈l,zc2 to l=g.2
 | []=> .inl rfl
 |g::l=>by
  unfold zc2
  split
  ·exact .inr ⟨g,List.mem_cons_self ..,rfl⟩
  ·rcases zhR (to:=to) (l:=l) with h| ⟨x,hx,h⟩
   ·exact .inl h
   ·exact .inr ⟨x,List.mem_cons_of_mem _ hx,h⟩
theorem Hints_ok{w0 w:World}(hE0:Ext w0 w){cs:List Value}{r:ResL}{hv:Value}{to:Nm}(hr:ResAt w0 w cs r)(kr:zl7 r)(hh:Row w hv (to.map vs))(mh:NmS to):
  Fn Tryz.prog 206 #[.agg cs.toArray,hv] w (fun v w'=>Ext w w'∧Rows 5 (DatAt w0) w' v (zc2 to r.glue)):=by
 obtain⟨dv,nv,gv,rfl,h1,h2,h3⟩:=hr.ex
 obtain⟨a1,c1,hdv,_⟩:=h1.open
 obtain⟨a2,c2,hnv,_⟩:=id h2
 obtain⟨ag,cg,rfl,hcg,hgg⟩:=h3.open
 have gl:=kr.gl
 have ml:=mh.len
 refine enter Tryz.func206 Tryz.ntmps206 rfl rfl ?_
 repeat refine c_r ?_
 rw[hdv,hnv]
 refine rg0 ?_
 rw[←hdv,←hnv]
 repeat refine c_r ?_
 refine zaB ?_
 intro w1 hE1 hs1 hA
 have p4:zae w1 (some ⟨w.heap.size,4,Option.none⟩)=some (.slice ag r.glue.length cg):=zab hA rfl
 repeat refine c_r ?_
 refine rg2 p4 Nat.zero_add ?_
 repeat refine c_r ?_
 refine zam (fun m σ ds A=>ds=[]∧∃(i:Nat),i+m=r.glue.length∧σ 10=vi i∧σ 9=vi r.glue.length∧σ 8= .slice ag r.glue.length cg∧σ 1=hv∧zc2 to r.glue=zc2 to (r.glue.drop i)∧Ext w A) r.glue.length ?_ ?_
 ·exact⟨rfl,0,by omega,vr0,vq0,vq0,vq0,rfl,hE1⟩
 rintro m σ ds A ⟨rfl,i,him,s10,s9,s8,s1,hgo,hEA⟩
 repeat refine c_r ?_
 refine rg2 s10 s9 ?_
 repeat refine c_r ?_
 refine wc0 ?_ ?_
 ·intro hlt
  simp only[decide_eq_true_eq]at hlt
  have hi:i<r.glue.length:=by omega
  have hi0:(0:Int)≤(i:Int):=by omega
  have hi1':(i:Int)+1=((i+1:Nat):Int):=by push_cast;rfl
  obtain⟨cs,hcs,hG⟩:=hgg i hi
  obtain⟨g,hge⟩:∃g,r.glue[i]=g:=⟨_,rfl⟩
  rw[hge]at hG
  obtain⟨gh,gdv,rfl,g1,g2⟩:=hG
  have kg:=kr.g g (hge▸List.getElem_mem hi)
  have kgl:=kg.1.len
  obtain⟨xz,rfl⟩:=Option.isSome_iff_exists.1 (zaq hcs)
  obtain⟨xi,hxi⟩:∃xi,adr (some xz) (i*2)=some xi:=⟨_,rfl⟩
  rw[hxi]at hcs
  have d:=zad hEA hcs
  rw[List.drop_eq_getElem_cons hi,hge,show zc2 to (g::r.glue.drop (i+1))=if zaj g.1=zaj to then g.2 else zc2 to (r.glue.drop (i+1)) from rfl]at hgo
  repeat refine c_r ?_
  refine rq ?_;intro gd K hgd hK
  try simp (disch:=first|omega|assumption|rfl) only[go_sem,s10,s8,hi0,hlt,hxi,d]
  refine za2 (P:=Tryz.prog) (l:=[gh,gdv]) rfl (zei g1.isOne g2.isOne) rfl rfl ?_
  intro A1 hE6 hs6 hB6
  try simp only[go_sem]
  refine hK _ _ ?_;clear hK hgd;clear K;try clear gd
  have q0:zae A1 (some ⟨A.heap.size,0,Option.none⟩)=some gh:=zab hB6 rfl
  have q1:zae A1 (some ⟨A.heap.size,1,Option.none⟩)=some gdv:=zab hB6 rfl
  have hE06:=hE0.trans (hEA.trans hE6)
  repeat refine c_r ?_
  refine rc (an3 q0 s1 Nat.add_zero) (zew A1 gh hv g.1 to (g1.ext hE06) (hh.ext (hEA.trans hE6)) kg.1.lb mh.lb (by omega) (by omega)) ?_
  rintro _ A2 ⟨rfl,hE7⟩
  refine re trivial ?_
  have q1':=zaa hE7 q1
  have hE67:=hE6.trans hE7
  repeat refine c_r ?_
  by_cases hs:zaj g.1=zaj to
  ·refine wt (decide_eq_true hs) ?_
   rw[if_pos hs]at hgo
   repeat refine c_r ?_
   refine rg2 q1' Nat.zero_add ?_
   repeat refine c_r ?_
   refine rt0 Tryz.ntmps206 ?_
   rw[hgo]
   exact⟨hEA.trans hE67,g2.ext (hEA.trans hE67)⟩
  ·refine wf (decide_eq_false hs) ?_
   rw[if_neg hs]at hgo
   repeat refine c_r ?_
   refine rg2 s10 hi1' ?_
   repeat refine c_r ?_
   exact⟨m - 1,by omega,rfl,i+1,by omega,vq0,(vq1 s9),(vq1 s8),(vq1 s1),hgo,hEA.trans hE67⟩
 ·intro hge
  simp only[decide_eq_false_iff_not]at hge
  rw[List.drop_eq_nil_of_le (by omega)]at hgo
  repeat refine c_r ?_
  refine rg0 ?_
  repeat refine c_r ?_
  refine rt0 Tryz.ntmps206 ?_
  rw[hgo]
  exact⟨hEA,Rows.nil _ _ _⟩
def ofR(N:NetL)(r:ResL)(x:Nm):List Int:=zk8 N x (zc2 x r.glue)
def encM(N:NetL)(r:ResL)(n0:Nat)(x:Nm)(U:Nat→Prop)(A:World)(args:Array Value):Prop:=∃v B,args=#[v]∧Row A v ((ofR N r x).map vi)∧BlkB B A v∧(∀b,U b→b<B)∧n0≤B
theorem meant_ok(w:World){a b c d e f g h k:Value}:
  Fn Tryz.prog 151 #[.agg #[a,b,c,d],.agg #[e,f,g,h,k]] w (fun v w'=>v= .func (.func 203) #[] #[.pointer (some ⟨w.heap.size+1,0,Option.none⟩),.pointer (some ⟨w.heap.size,0,Option.none⟩)]∧Ext w w'∧w'.heap.size=w.heap.size+2∧
   w'.heap[w.heap.size]? =some (.cells #[a,b,c,d] 25 (0,0))∧w'.heap[w.heap.size+1]? =some (.cells #[e,f,g,h,k] 184 (0,0))):=by
 refine enter Tryz.func151 Tryz.ntmps151 rfl rfl ?_
 repeat refine c_r ?_
 refine rg0 ?_
 repeat refine c_r ?_
 rw[zai]
 refine zaO ?_
 intro w1 hE1 hs1 hA hC
 refine rg0 ?_
 repeat refine c_r ?_
 refine rt0 Tryz.ntmps151 ?_
 exact⟨rfl,hE1,hs1,hA,hC⟩
theorem meantIt{w0 w1 W0:World}{C:Nat→Prop}{br bn:Nat}{cs cr:List Value}{N:NetL}{r:ResL}(hE01:Ext w0 w1)(hE1:Ext w1 W0)(hb:W0.heap[br]? =some (.cells cr.toArray 184 (0,0)))(hn:W0.heap[bn]? =some (.cells cs.toArray 25 (0,0)))
  (hC:∀b,C b→w1.heap.size≤b∧b<W0.heap.size) (hCb:¬C br) (hCn:¬C bn) (hN:NetAt w0 cs N) (hG:NetZ N) (hr:ResAt w0 w1 cr r) (kr:zl7 r) (hgood:∀n∈zaw 2 r.data,NmM n):
  IterU Tryz.prog 203 #[.pointer (some ⟨br,0,Option.none⟩),.pointer (some ⟨bn,0,Option.none⟩)] W0 W0.heap.size C 0 (fun pre x=>∃suf,zaw 2 r.data=pre++x::suf) (fun xs=>xs=zaw 2 r.data) (encM N r):=by
 intro lp J Jx W hW hnW hJ hJx hY h0
 have hr0:=hr
 have hN0:=hN
 have hn4:=hN.one
 obtain⟨dv,nv,gv,rfl,h1,h2,h3⟩:=hr.ex
 have dl:=kr.dl
 obtain⟨a1,c1,hdv,_⟩:=h1.open
 have hs1:=hE1.size
 have hbl:=(Array.getElem?_eq_some_iff.1 hb).1
 have hnl:=(Array.getElem?_eq_some_iff.1 hn).1
 have hE1W:=hE1.trans hW
 have pd:zae W (some ⟨br,1,Option.none⟩)=some dv:=zab (Ext.at hW hb) rfl
 refine enter Tryz.func203 Tryz.ntmps203 rfl rfl ?_
 repeat refine c_r ?_
 refine rq ?_;intro gd K hgd hK
 try simp (disch:=first|omega|assumption|rfl) only[go_sem,pd]
 refine⟨by kernel_rfl,?_⟩
 rw[hdv,show bdV Tryz.prog 340 [(1,vi 2),(3,.slice a1 r.data.length c1)]=some (.agg #[.slice Option.none 0 0,vi 2,v32 0,.slice a1 r.data.length c1]) from by kernel_rfl,←hdv]
 try simp only[go_sem]
 refine Fn.mono (zgq (t:=2) (ow:= .slice Option.none 0 0) (tl:=v32 0) (hE01.trans hE1W) rfl rfl (h1.ext hE1W) dl) ?_
 rintro tv X ⟨hEX,htv,htb⟩
 obtain⟨aT,cT,rfl,hcT,hgT⟩:=htv.open
 obtain⟨L,hL⟩:∃L,zaw 2 r.data=L:=⟨_,rfl⟩
 rw[hL]at htv htb hcT hgood hY ⊢
 simp only[hL]at hgT
 try simp only[go_sem]
 refine hK _ _ ?_;clear hK hgd;clear K;try clear gd
 have hLl:L.length≤1000000000:=by
  rw[←hL];unfold zaw
  split
  ·have:=List.length_filterMap_le (fun d:DatL=>d.names.head?) r.data;omega
  ·simp
 have hsX:=hEX.size
 repeat refine c_r ?_
 refine zam (fun m σ ds' v=>ds'=[]∧∃(i:Nat) (U:Nat→Prop),i+m=L.length∧σ 11=vi i∧σ 10=vi L.length∧σ 9= .slice aT L.length cT∧σ 0= .func (.yield lp) #[] #[]∧σ 1= .pointer (some ⟨br,0,Option.none⟩)∧σ 2= .pointer (some ⟨bn,0,Option.none⟩)∧
  J (L.take i) U v∧(∀b,U b→X.heap.size≤b∧b<v.heap.size)∧X.heap.size≤v.heap.size∧KeepB W0.heap.size C W v∧Ext w1 v∧Rows 1 (NmC w0) v (.slice aT L.length cT) L) L.length ?_ ?_
 ·exact⟨rfl,0,NoS,by omega,vr0,vq0,vq0,vq0,vq0,vq0,hJ _ _ _ _ h0 (hEX.mono (fun _ _ h=>h.elim)),fun b h=>h.elim,Nat.le_refl _,zcI hEX (by omega),hE1W.trans hEX,htv⟩
 rintro m σ ds' v ⟨rfl,i,U,him,s11,s10,s9,s0,s1,s2,hj,hU,hsv,hKB,hEv,hrow⟩
 repeat refine c_r ?_
 refine rg2 s11 s10 ?_
 repeat refine c_r ?_
 refine wc0 ?_ ?_
 ·intro hlt
  simp only[decide_eq_true_eq]at hlt
  have hi:i<L.length:=by omega
  have hi0:(0:Int)≤(i:Int):=by omega
  have hi1':(i:Int)+1=((i+1:Nat):Int):=by push_cast;rfl
  obtain⟨h,hh⟩:∃h,L[i]=h:=⟨_,rfl⟩
  have hgh:NmM h:=hh▸hgood _ (List.getElem_mem hi)
  obtain⟨cs',hcs,hv,rfl,hvr⟩:=hrow.get hi
  rw[hh]at hvr
  have hcell:zae v (adr aT i)=some hv:=by
   have:=zax hcs (j:=0) rfl
   rwa [Nat.mul_one,zaA]at this
  obtain⟨xT,rfl⟩:=Option.isSome_iff_exists.1 (zag hcell)
  have hbv:v.heap[br]? =some (.cells #[vi r.kind,dv,nv,.bool r.wild,gv] 184 (0,0)):=(hKB.block _ (by omega) hCb).trans (Ext.at hW hb)
  have hnv:v.heap[bn]? =some (.cells cs.toArray 25 (0,0)):=(hKB.block _ (by omega) hCn).trans (Ext.at hW hn)
  have db:=zah (n:=5) (l:=[vi r.kind,dv,nv,.bool r.wild,gv]) hbv rfl
  have dn:=zah (n:=4) hnv hn4.1.symm
  have hE0v:=hE01.trans hEv
  repeat refine c_r ?_
  refine rg5 s9 s11 hi0 hlt hcell ?_
  repeat refine c_r ?_
  refine zaJ (fun i=>i==7) [(0,true),(1,true),(2,true),(3,true),(4,true),(5,false),(6,false),(7,false),(8,true)] NoS mixed (by kernel_rfl) ?_;intro gd K x hgd hx hxe hK;clear hxe
  have dbx:=zad hx db
  have dnx:=zad hx dn
  simp (disch:=first|omega|assumption|rfl) only[go_sem,s0,s1,s2,dbx,dnx]
  have hE0x:=hE0v.trans hx
  refine Fn.mono (Hints_ok hE0x ((hr0.ext hEv).ext hx) kr (hvr.ext hE0x) hgh.s) ?_
  rintro gv' y1 ⟨hy1,hg1⟩
  refine⟨.inr hy1,?_⟩
  have dny:=zad hy1 dnx
  have hgl:(zc2 h r.glue).length≤1000000000:=by
   rcases zhR (to:=h) (l:=r.glue) with e| ⟨g,hg,e⟩
   ·rw[e];simp
   ·rw[e];exact(kr.g g hg).2.2
  simp (disch:=first|omega|assumption|rfl) only[go_sem]
  refine Fn.mono (Meant_ok (hE0x.trans hy1) hN0 hG hvr hgh hg1 hgl) ?_
  rintro mv y2 ⟨hy2,hm2,hB2⟩
  refine⟨.inr hy2,?_⟩
  have hvy:=(hx.trans hy1).trans hy2
  have hsy:=hvy.size
  have hsy1:=(hx.trans hy1).size
  simp (disch:=first|omega|assumption|rfl) only[go_sem,s0]
  refine Yld.mono (hY (L.take i) U h y2 _ ⟨L.drop (i+1),by rw[←hh,←List.drop_eq_getElem_cons,List.take_append_drop]⟩ (hJ _ _ _ _ hj (hvy.mono (fun _ _ h=>h.elim))) (by omega) (hKB.trans (zcI hvy (by have:=hKB.size;omega))) ⟨mv,_,rfl,hm2,hB2,fun b hb=>by have:=(hU b hb).2;omega,by omega⟩) ?_
  rintro u z (⟨rfl,U',hj',hU',hkr⟩| ⟨rfl,hjx⟩)
  ·refine⟨.inl rfl,?_⟩
   simp (disch:=first|omega|assumption|rfl) only[go_sem]
   refine hK _ _ ?_;clear hK hgd;clear K;try clear gd
   have hzs:=hkr.size
   have hCb:∀b,W.heap.size≤b→b<X.heap.size→¬(C b∨U b):=fun b h1 h2 h3=>by
    rcases h3 with h3|h3
    ·have:=hC b h3;omega
    ·have:=hU b h3;omega
   have hrowz:Rows 1 (NmC w0) z (.slice (some xT) L.length cT) L:=(hrow.ext hvy).blocks fun a n c hv=>by
    have h1:=htb a n c hv
    exact hkr.block _ (by omega) (.inr (by omega)) (hCb _ (by omega) h1.2)
   have hKz:KeepB W0.heap.size C W z:=(hKB.trans (zcI hvy (by have:=hKB.size;omega))).trans ⟨hkr.os,hkr.tape,hkr.output,hkr.size,fun b hb hc=>hkr.block b (by omega) (.inl hb) (fun h=>by
    rcases h with h|h
    ·exact hc h
    ·have:=hU b h;omega),hkr.drawn⟩
   have htk:L.take (i+1)=L.take i++ [h]:=by rw[zap hi,hh]
   repeat refine c_r ?_
   refine wf trivial ?_
   repeat refine c_r ?_
   refine rg2 s11 hi1' ?_
   repeat refine c_r ?_
   refine⟨m - 1,by omega,rfl,i+1,U',by omega,vq0,(vq1 s10),(vq1 s9),(vq1 s0),(vq1 s1),(vq1 s2),by rw[htk];exact hj',fun b hb=>?_,by omega,hKz,zcZ hE1W hKz (by omega) (fun b hb=>(hC b hb).1),hrowz⟩
   rcases hU' b hb with h|h
   ·have:=hU b h;omega
   ·omega
  ·refine⟨.inl rfl,?_⟩
   simp (disch:=first|omega|assumption|rfl) only[go_sem]
   refine hK _ _ ?_;clear hK hgd;clear K;try clear gd
   repeat refine c_r ?_
   refine wt trivial ?_
   repeat refine c_r ?_
   refine zar (by simp) rfl (.inr ⟨_,_,⟨L.drop (i+1),by rw[←hh,←List.drop_eq_getElem_cons,List.take_append_drop,hL]⟩,hjx⟩)
 ·intro hge
  simp only[decide_eq_false_iff_not]at hge
  repeat refine c_r ?_
  refine zar (by simp) rfl (.inl ⟨_,U,rfl,?_⟩)
  rw[List.take_of_length_le (by omega)]at hj
  rw[hL];exact hj
def zdC(N:NetL)(s:zak)(to:Nm):List zak:=if s.rw≥N.rw then endS s 7 else if (zcx N s.sv to).2=true then [{s with rw:=s.rw+1,name:=to,ref:=false}] else zck N {s with rw:=s.rw+1,name:=to,ref:=false}
def zc1(N:NetL)(r:ResL)(s:zak)(h:Nm):List zak:=(if ((ofR N r h).length:Int)=0 then endS s 9 else [])++(ofR N r h).map fun k=>{s with sv:=k,ref:=true}
def zdA(N:NetL)(s:zak)(r:ResL):List zak:=if s.rf≥N.rf then endS s 8 else(zaw 2 r.data).flatMap (zc1 N r {s with rf:=s.rf+1})
theorem alias_ok{w0 w:World}(hE0:Ext w0 w){cs:List Value}{N:NetL}(hN:NetAt w0 cs N)(hG:NetZ N){nv tv:Value}{s:zak}{to:Nm}(hr:Row w nv (s.name.map vs))(ht:Row w tv (to.map vs))(mt:NmM to)(b0:0≤s.rw)(b1:s.rw≤1000000):
  Fn Tryz.prog 95 #[.agg (stV nv s).toArray,.agg cs.toArray,tv] w (fun v w'=>Ext w w'∧StF w.heap.size (fun u=>u=nv∨u=tv) w' v (zdC N s to)):=by
 have hN0:=hN
 obtain⟨hv,rv,rfl,hh,hro⟩:=hN.ex
 obtain⟨ah,ch,hhv,_⟩:=hh.open
 obtain⟨ar,cr,hrv,_⟩:=id hro
 obtain⟨an,cn,hnv,_⟩:=id hr
 have t1:=ht.isOne
 obtain⟨at1,ct,htv,_⟩:=id ht
 unfold stV
 refine enter Tryz.func95 Tryz.ntmps95 rfl rfl ?_
 repeat refine c_r ?_
 rw[hhv,hrv,hnv]
 refine rg0 ?_
 rw[←hhv,←hrv,←hnv]
 repeat refine c_r ?_
 rw[zai]
 refine zaO ?_
 intro w1 hE1 hs1 hA hB
 have p2:zae w1 (some ⟨w.heap.size,2,Option.none⟩)=some (vi s.rw):=zab hA rfl
 have q2:zae w1 (some ⟨w.heap.size+1,2,Option.none⟩)=some (vi N.rw):=zab hB rfl
 have dA:zas w1 (some ⟨w.heap.size,0,Option.none⟩) 6=some (stV nv s):=zah hA rfl
 repeat refine c_r ?_
 unfold zdC
 by_cases hge:s.rw≥N.rw
 ·rw[if_pos hge]
  refine rg4 p2 q2 Nat.zero_add (decide_eq_true hge) ?_
  repeat refine c_r ?_
  refine wt trivial ?_
  repeat refine c_r ?_
  refine rc dA (zcJ w1 (hr.ext hE1) s 7) ?_
  rintro v w2 ⟨hE2,hv2⟩
  refine re trivial ?_
  repeat refine c_r ?_
  refine rt0 Tryz.ntmps95 ?_
  exact⟨hE1.trans hE2,(zcj hv2 (hr.ext (hE1.trans hE2))).mono hE1.size fun u h=> .inl h⟩
 rw[if_neg hge]
 refine rg4 p2 q2 Nat.zero_add (decide_eq_false hge) ?_
 repeat refine c_r ?_
 refine wf trivial ?_
 repeat refine c_r ?_
 refine rq ?_;intro gd K hgd hK
 try simp (disch:=first|omega|assumption|rfl) only[go_sem,p2,Nat.zero_add]
 refine zaY (P:=Tryz.prog) (t:=3) (j:=2) (u:=vi (s.rw+1)) (l:=stV nv s) hA (by show 2<6;decide) rfl rfl rfl ?_
 intro w2 hs2 hA2 hk2
 try simp only[go_sem]
 refine hK _ _ ?_;clear hK hgd;clear K;try clear gd
 repeat refine c_r ?_
 refine rq ?_;intro gd K hgd hK
 try simp only[go_sem]
 refine zaY (P:=Tryz.prog) (t:=27) (j:=1) (u:=tv) hA2 (by show 1<6;decide) t1 rfl rfl ?_
 intro w3 hs3 hA3 hk3
 try simp only[go_sem]
 refine zaY (P:=Tryz.prog) (t:=4) (j:=4) (u:= .bool false) hA3 (by show 4<6;decide) rfl rfl rfl ?_
 intro w4 hs4 hA4 hk4
 try simp only[go_sem]
 refine hK _ _ ?_;clear hK hgd;clear K;try clear gd
 obtain⟨s2,hs2e⟩:∃s2:zak,{s with rw:=s.rw+1,name:=to,ref:=false}=s2:=⟨_,rfl⟩
 have hA4':w4.heap[w.heap.size]? =some (.cells (stV tv s2).toArray 80 (0,0)):=by rw[←hs2e];exact hA4
 have hE4:Ext w w4:=Keep.to_ext (Keep.to_ext (Keep.to_ext hE1 rfl (fun b hb=>by omega) hk2) rfl (fun b hb=>by omega) hk3) rfl (fun b hb=>by omega) hk4
 have hB4:=(hk4.block _ (by omega) (by omega)).trans ((hk3.block _ (by omega) (by omega)).trans ((hk2.block _ (by omega) (by omega)).trans hB))
 have dN:zas w4 (some ⟨w.heap.size+1,0,Option.none⟩) 4=some [hv,rv,vi N.rw,vi N.rf]:=zah hB4 rfl
 have r0:zae w4 (some ⟨w.heap.size,0,Option.none⟩)=some (vi s.sv):=by rw[←hs2e]at hA4';exact zab hA4' rfl
 have hE04:=hE0.trans hE4
 have mn:s2.name=to:=by rw[←hs2e]
 rw[hs2e]
 repeat refine c_r ?_
 refine rc (an3 dN r0 Nat.add_zero) (zl3 (s:=s.sv) hE04 hN0 hG (ht.ext hE4) mt) ?_
 rintro _ w5 ⟨rfl,hE5⟩
 refine re trivial ?_
 have hE45:=hE4.trans hE5
 have dS:zas w5 (some ⟨w.heap.size,0,Option.none⟩) 6=some (stV tv s2):=zad hE5 (zah hA4' rfl)
 have dN5:=zad hE5 dN
 repeat refine c_r ?_
 cases hb:(zcx N s.sv to).2 with
 |true=>
  rw[if_pos rfl]
  refine wt trivial ?_
  repeat refine c_r ?_
  refine rq ?_;intro gd K hgd hK
  try simp (disch:=first|omega|assumption|rfl) only[go_sem,dS]
  refine zbg (C:=StN tv) (zcC tv) (l:=stV tv s2) (a:=s2) (by rfl) (by rfl) (by rfl) (by rfl) ⟨rfl,t1⟩ (by decide) ?_
  intro w6 hE6 hs6 ho6
  try simp only[go_sem]
  refine hK _ _ ?_;clear hK hgd;clear K;try clear gd
  repeat refine c_r ?_
  refine rt0 Tryz.ntmps95 ?_
  exact⟨hE45.trans hE6,ho6.blk.mono hE45.size,tv,.inr rfl,ho6.rows,fun x hx=>by rw[List.mem_singleton.1 hx,mn];exact ht.ext (hE45.trans hE6)⟩
 |false=>
  rw[if_neg Bool.false_ne_true]
  refine wf trivial ?_
  repeat refine c_r ?_
  refine rc (an2 dS dN5) (zi2 (hE0.trans hE45) hN0 hG.rl (ht.ext hE45) s2) ?_
  rintro v w6 ⟨hE6,hv6⟩
  refine re trivial ?_
  repeat refine c_r ?_
  refine rt0 Tryz.ntmps95 ?_
  exact⟨hE45.trans hE6,hv6.2.mono hE45.size,tv,.inr rfl,hv6.1,fun x hx=>by
   obtain⟨k,_,rfl⟩:=List.mem_map.1 hx
   show Row _ _ (s2.name.map vs)
   rw[mn];exact ht.ext (hE45.trans hE6)⟩
theorem zk6{N:NetL}{r:ResL}{s x:zak}{h:Nm}(hx:x∈zc1 N r s h):x.name=s.name:=by
 unfold zc1 at hx
 rcases List.mem_append.1 hx with hx|hx
 ·split at hx
  ·exact zja hx
  ·cases hx
 ·obtain⟨k,_,rfl⟩:=List.mem_map.1 hx;rfl
theorem zk1{N:NetL}{r:ResL}{h:Nm}:(ofR N r h).length≤N.hosts.length:=zfm
theorem zhQ{N:NetL}{r:ResL}{s:zak}{h:Nm}:(zc1 N r s h).length≤N.hosts.length+1:=by
 have:=zk1 (N:=N) (r:=r) (h:=h)
 unfold zc1 endS
 split<;>simp<;>omega
theorem zgV{α β:Type}{f:α→List β}{k:Nat}(hf:∀a,(f a).length≤k):∀l:List α,(l.flatMap f).length≤l.length*k
 | []=>by simp
 |a::l=>by
  have h1:=hf a
  have h2:=zgV hf l
  rw[List.flatMap_cons,List.length_append,List.length_cons,Nat.succ_mul]
  omega
structure SRf(w Y:World)(b7 b3 n0:Nat)(nv iv:Value)(U U':Nat→Prop)(s2:zak)(L:List Int)(ov:Value)(G:List zak)(v:World):Prop where
 h7:v.heap[b7]? =some (.cells #[ov] 92 (0,0))
 own:Owns 6 (StN nv) n0 v 80 ov G
 u1:∀b,some b=ov.ownBlock→U' b
 u2:∀b,U' b→U b∨(Y.heap.size≤b∧b<v.heap.size)
 kb:KeepB Y.heap.size (fun b=>b=b7∨U b) Y v
 e:Ext w v
 h3:v.heap[b3]? =some (.cells (stV nv s2).toArray 80 (0,0))
 riv:Row v iv (L.map vi)
 blk:∃B,BlkB B Y iv∧(∀b,U b→b<B)∧n0≤B
 lo:w.heap.size≤b3∧w.heap.size≤b7∧b3≠b7∧b3<n0∧b7<n0∧n0≤Y.heap.size∧∀b,U b→n0≤b∧b<Y.heap.size
theorem SRf.app{w Y v v1 v2 v3:World}{b7 b3 n0:Nat}{nv iv ov ov':Value}{U U':Nat→Prop}{s2:zak}{L:List Int}{G news:List zak}(h:SRf w Y b7 b3 n0 nv iv U U' s2 L ov G v)(hE:Ext v v1)
  (ho:Owns 6 (StN nv) n0 v2 80 ov' (G++news)) (hk:Keep (fun b=>some b=ov.ownBlock) v1 v2) (hb:∀b,some b=ov'.ownBlock→some b=ov.ownBlock∨v1.heap.size≤b)
  (h7:v3.heap[b7]? =some (.cells #[ov'] 92 (0,0))) (hk3:Keep (fun b=>b=b7) v2 v3):SRf w Y b7 b3 n0 nv iv U (fun b=>U' b∨(v1.heap.size≤b∧b<v3.heap.size)) s2 L ov' (G++news) v3:=by
 obtain⟨B,hB1,hB2,hB3⟩:=h.blk
 obtain⟨l1,l2,l3,l4,l5,l6,l7⟩:=h.lo
 have z0:=h.kb.size
 have z1:=hE.size
 have z2:=hk.size
 have z3:=hk3.size
 have ow:∀b,some b=ov.ownBlock→n0≤b∧b<v.heap.size:=fun b hb=>h.own.ge hb
 have low:∀b,some b=ov.ownBlock→b<Y.heap.size→U b:=fun b hb hY=>(h.u2 b (h.u1 b hb)).resolve_right (by omega)
 have k2:KeepB Y.heap.size (fun b=>b=b7∨U b) v1 v2:=hk.toB (by omega) (fun b hY hb=> .inr (low b hb hY))
 have k3:KeepB Y.heap.size (fun b=>b=b7∨U b) v2 v3:=hk3.toB (by omega) (fun b hY hb=> .inl hb)
 have e2:Ext w v2:=Keep.to_ext (h.e.trans hE) rfl (fun b hb=>by have:=ow b hb;omega) hk
 refine⟨h7,ho.keep hk3 (fun b hb hb2=>by have:=ho.ge hb;omega),fun b hb'=>?_,fun b hb'=>?_,(h.kb.trans (zcI hE (by omega))).trans (k2.trans k3),Keep.to_ext e2 rfl (fun b hb=>by omega) hk3,?_,?_,h.blk,h.lo⟩
 ·rcases hb b hb' with e|e
  ·exact .inl (h.u1 b e)
  ·have:=ho.ge hb';exact .inr (by omega)
 ·rcases hb' with e|e
  ·rcases h.u2 b e with e|e
   ·exact .inl e
   ·exact .inr (by omega)
  ·exact .inr (by omega)
 ·exact(hk3.block _ (by have:=(Array.getElem?_eq_some_iff.1 h.h3).1;omega) (by omega)).trans ((hk.block _ (by have:=(Array.getElem?_eq_some_iff.1 h.h3).1;omega) (fun hb=>by have:=ow _ hb;omega)).trans (Ext.at hE h.h3))
 ·have hivb:BlkB B v1 iv:=hB1.ext (by omega)
  refine(((h.riv.ext hE).blocks fun a n c hv=>hk.block _ (by have:=(hB1 a n c hv).2;omega) (fun hb=>?_))).blocks fun a n c hv=>hk3.block _ (by have:=(hB1 a n c hv).2;omega) (by have:=(hB1 a n c hv).1;omega)
  have h1:=(hB1 a n c hv)
  have:=hB2 _ (low _ hb h1.2)
  omega
theorem refer_ok{w0 w:World}(hE0:Ext w0 w){cs cr:List Value}{N:NetL}{r:ResL}(hN:NetAt w0 cs N)(hG:NetZ N){nv:Value}{s:zak}(hr:Row w nv (s.name.map vs))(hres:ResAt w0 w cr r)(kr:zl7 r)(kl:r.data.length≤1000)(hgood:∀n∈zaw 2 r.data,NmM n)(b0:0≤s.rf)(b1:s.rf≤1000000):
  Fn Tryz.prog 96 #[.agg (stV nv s).toArray,.agg cs.toArray,.agg cr.toArray] w (fun v w'=>Ext w w'∧StF w.heap.size (fun u=>u=nv) w' v (zdA N s r)):=by
 have hN0:=hN
 have hres0:=hres
 obtain⟨hv,rv,rfl,hh,hro⟩:=hN.ex
 obtain⟨dv,mv,gv,rfl,g1,g2,g3⟩:=hres.ex
 obtain⟨ah,ch,hhv,_⟩:=hh.open
 obtain⟨ar,cr,hrv,_⟩:=id hro
 obtain⟨an,cn,hnv,_⟩:=id hr
 obtain⟨ad,cd,hdv,_⟩:=g1.open
 obtain⟨am,cm,hmv,_⟩:=id g2
 obtain⟨ag,cg,hgv,_⟩:=g3.open
 have n1:=hr.isOne
 unfold stV
 refine enter Tryz.func96 Tryz.ntmps96 rfl rfl ?_
 repeat refine c_r ?_
 rw[hhv,hrv,hnv,hdv,hmv,hgv]
 refine rg0 ?_
 rw[←hhv,←hrv,←hnv,←hdv,←hmv,←hgv]
 repeat refine c_r ?_
 rw[zai,zai,zai]
 refine zdt ?_
 intro w1 hE1 hs1 hA hB hC
 have p3:zae w1 (some ⟨w.heap.size,3,Option.none⟩)=some (vi s.rf):=zab hA rfl
 have q3:zae w1 (some ⟨w.heap.size+1,3,Option.none⟩)=some (vi N.rf):=zab hB rfl
 have dA:zas w1 (some ⟨w.heap.size,0,Option.none⟩) 6=some (stV nv s):=zah hA rfl
 repeat refine c_r ?_
 unfold zdA
 by_cases hge:s.rf≥N.rf
 ·rw[if_pos hge]
  refine rg4 p3 q3 Nat.zero_add (decide_eq_true hge) ?_
  repeat refine c_r ?_
  refine wt trivial ?_
  repeat refine c_r ?_
  refine rc dA (zcJ w1 (hr.ext hE1) s 8) ?_
  rintro v w2 ⟨hE2,hv2⟩
  refine re trivial ?_
  repeat refine c_r ?_
  refine rt0 Tryz.ntmps96 ?_
  exact⟨hE1.trans hE2,(zcj hv2 (hr.ext (hE1.trans hE2))).mono hE1.size fun u h=>h⟩
 rw[if_neg hge]
 refine rg4 p3 q3 Nat.zero_add (decide_eq_false hge) ?_
 repeat refine c_r ?_
 refine wf trivial ?_
 repeat refine c_r ?_
 refine rq ?_;intro gd K hgd hK
 try simp (disch:=first|omega|assumption|rfl) only[go_sem,p3,Nat.zero_add]
 refine zaY (P:=Tryz.prog) (t:=3) (j:=3) (u:=vi (s.rf+1)) (l:=stV nv s) hA (by show 3<6;decide) rfl rfl rfl ?_
 intro w2 hs2 hA2 hk2
 try simp only[go_sem]
 refine hK _ _ ?_;clear hK hgd;clear K;try clear gd
 obtain⟨s2,hs2e⟩:∃s2:zak,{s with rf:=s.rf+1}=s2:=⟨_,rfl⟩
 have hA2':w2.heap[w.heap.size]? =some (.cells (stV nv s2).toArray 80 (0,0)):=by rw[←hs2e];exact hA2
 have mn:s2.name=s.name:=by rw[←hs2e]
 rw[hs2e]
 have hE2:Ext w w2:=Keep.to_ext hE1 rfl (fun b hb=>by omega) hk2
 have hB2:=(hk2.block _ (by omega) (by omega)).trans hB
 have hC2:=(hk2.block _ (by omega) (by omega)).trans hC
 repeat refine c_r ?_
 refine rg0 ?_
 refine zaB ?_
 intro w3 hE3 hs3 hD
 obtain⟨b7,hb7⟩:∃b,w2.heap.size=b:=⟨_,rfl⟩
 rw[hb7]at hD hs3 ⊢
 have hE03:=hE2.trans hE3
 have dN:zas w3 (some ⟨w.heap.size+1,0,Option.none⟩) 4=some [hv,rv,vi N.rw,vi N.rf]:=zah (Ext.at hE3 hB2) rfl
 have dR:zas w3 (some ⟨w.heap.size+1+1,0,Option.none⟩) 5=some [vi r.kind,dv,mv,.bool r.wild,gv]:=zah (Ext.at hE3 hC2) rfl
 repeat refine c_r ?_
 refine rc (an2 dN dR) (meant_ok w3) ?_
 rintro _ w4 ⟨rfl,hE4,hs4,hbn,hbr⟩
 refine re trivial ?_
 have hE04:=hE03.trans hE4
 have hA4:=Ext.at (hE3.trans hE4) hA2'
 have hD4:=Ext.at hE4 hD
 repeat refine c_r ?_
 refine ze3 (g:=203) (cap:=#[.pointer (some ⟨w3.heap.size+1,0,Option.none⟩),.pointer (some ⟨w3.heap.size,0,Option.none⟩)]) (vq0) rfl (meantIt (C:=fun b=>b=b7) hE0 hE04 hbr hbn (fun b hb=>by omega) (by omega) (by omega) hN0 hG hres0 kr hgood) (Keep.refl _ _) (Nat.le_refl _) (fun b hb=>by omega) (fun x U A args h=>by obtain⟨_,_,e,_⟩:=h;rw[e];rfl)
  (fun pre U A=>Ext w A∧∃ov,A.heap[b7]? =some (.cells #[ov] 92 (0,0))∧Owns 6 (StN nv) (w4.heap.size+2) A 80 ov (pre.flatMap (zc1 N r s2))∧(∀b,some b=ov.ownBlock→U b)∧A.heap[w.heap.size]? =some (.cells (stV nv s2).toArray 80 (0,0)))
  (fun _ _ _=>False) ?_ (fun _ _ _ _ h _=>h.elim) ?_ ?_ ?_ (fun _ _ _ _ _ _ h _=>h.elim)
 ·rintro pre U A B ⟨h1,ov,h2,h3,h4,h5⟩ hU hk
  have f:∀{b:Nat} {O:Obj},A.heap[b]? =some O→b<w4.heap.size→B.heap[b]? =some O:=fun h hb=>(hk.block _ (Array.getElem?_eq_some_iff.1 h).1 (by unfold span;omega)).trans h
  exact⟨Keep.to_ext h1 rfl (fun b hb=>by unfold span at hb;omega) hk,ov,f h2 (by omega),h3.keep hk (fun b hb hb2=>by have:=hU b (h4 b hb);unfold span at hb2;omega),h4,f h5 (by omega)⟩
 ·exact⟨hE04,.slice Option.none 0 0,hD4,Owns.nil _ _ _ _ _,fun b hb=>by simp[Value.ownBlock]at hb,hA4⟩
 ·rintro lp pre U y A args ⟨suf,hxs⟩ hszA ⟨hEA,ov,k7,hown,hU,k3⟩ hUb ⟨iv,B,rfl,hmv,hmb,hmB,hmn⟩
  refine rg0 ?_
  refine zau ?_
  refine⟨rfl,Keep.refl _ _,fun Y hY=>?_⟩
  have hsY:=hY.size
  have f:∀{b:Nat} {O:Obj},A.heap[b]? =some O→¬two w4.heap.size b→Y.heap[b]? =some O:=fun h hb=>(hY.block _ (Array.getElem?_eq_some_iff.1 h).1 hb).trans h
  have hEY:Ext w Y:=Keep.to_ext hEA rfl (fun b hb=>by unfold two at hb;omega) hY
  have hRI:SRf w Y b7 w.heap.size (w4.heap.size+2) nv iv U U s2 (ofR N r y) ov (pre.flatMap (zc1 N r s2)) Y:=⟨f k7 (by unfold two;omega),hown.keep hY (fun b hb hb2=>by have:=(hown.ge hb).1;unfold two at hb2;omega),hU,fun b hb=> .inl hb,KeepB.refl _ _ _,hEY,f k3 (by unfold two;omega),hmv.keepB hY hmb (fun b h1 _ h2=>by unfold two at h2;omega),⟨B,hmb.ext hsY,hmB,hmn⟩,by omega,by omega,by omega,by omega,by omega,by omega,fun b hb=>by have:=hUb b hb;omega⟩
  clear hmv hmb hmB hmn hown hU k7 k3
  obtain⟨L,hL⟩:∃L,ofR N r y=L:=⟨_,rfl⟩
  have hLl:L.length≤1000:=by
   have:=zk1 (N:=N) (r:=r) (h:=y)
   have:=hG.hl
   rw[←hL];omega
  have hho:zc1 N r s2 y=(if (L.length:Int)=0 then endS s2 9 else [])++L.map fun k=>{s2 with sv:=k,ref:=true}:=by unfold zc1;rw[hL]
  have hpl:pre.length≤1000:=by
   have h1:=congrArg List.length hxs
   have h2:(zaw 2 r.data).length≤r.data.length:=by
    unfold zaw
    split
    ·exact List.length_filterMap_le _ _
    ·simp
   simp at h1;omega
  have hGl:(pre.flatMap (zc1 N r s2)).length≤2000000:=by
   have h1:=zgV (fun a=>zhQ (N:=N) (r:=r) (s:=s2) (h:=a)) pre
   have h2:=hG.hl
   have h3:pre.length*(N.hosts.length+1)≤1000*1001:=Nat.mul_le_mul hpl (by omega)
   omega
  rw[hL]at hRI
  obtain⟨ai,ci,rfl,hci,_⟩:=id hRI.riv
  simp only[List.length_map]at hRI hci ⊢
  obtain⟨G,hGe⟩:∃G,pre.flatMap (zc1 N r s2)=G:=⟨_,rfl⟩
  rw[hGe]at hRI hGl
  have hb7n:b7<w4.heap.size+2:=by omega
  have hb3n:w.heap.size<w4.heap.size+2:=by omega
  repeat refine c_r ?_
  refine rg0 ?_
  repeat refine c_r ?_
  refine zay (Q:=fun e σ' ds' v'=>e= .normal∧ds'=[]∧σ' 8= .slice ai L.length ci∧σ' 3= .pointer (some ⟨w.heap.size,0,Option.none⟩)∧σ' 7= .pointer (some ⟨b7,0,Option.none⟩)∧∃ov' U',SRf w Y b7 w.heap.size (w4.heap.size+2) nv (.slice ai L.length ci) U U' s2 L ov' (G++if (L.length:Int)=0 then endS s2 9 else []) v') ?_ ?_
  ·by_cases h0:(L.length:Int)=0
   ·rw[if_pos h0]
    refine wt (decide_eq_true h0) ?_
    repeat refine c_r ?_
    refine zaJ (fun i=>i==4) [(0,true),(1,true),(2,false),(3,false),(4,false)] (zev (w4.heap.size+2)) mixed (by kernel_rfl) ?_;intro gd K x hgd hx hxe hK;have hx0:=zh2 hxe;clear hxe
    have q7:zae x (some ⟨b7,0,Option.none⟩)=some ov:=zab (Ext.at hx0 hRI.h7) rfl
    have q3:zas x (some ⟨w.heap.size,0,Option.none⟩) 6=some (stV nv s2):=zah (Ext.at hx0 hRI.h3) rfl
    simp (disch:=first|omega|assumption|rfl) only[go_sem,q7,q3]
    refine⟨zd2 hb7n,zd2 hb3n,?_⟩
    refine Fn.mono (zcJ x (hr.ext (hRI.e.trans hx0)) s2 9) ?_
    rintro ev y1 ⟨hy1,hev,_⟩
    refine⟨.inr hy1.keep,?_⟩
    have sx:=hx0.size
    have sy:=hy1.size
    have sY:=hRI.lo.2.2.2.2.2.1
    simp (disch:=first|omega|assumption|rfl) only[go_sem]
    refine zaV (zcC nv) (hRI.own.ext (hx0.trans hy1)) hev (by rfl) (by rfl) (by rfl) (by rfl) (by rfl) (by rfl) (by decide) (vr0) (vr0) (by unfold endS;simp;omega) (by decide) (by omega) ?_
    intro ov' y2 ho2 hE2 hk2 hb2
    refine⟨.inr (hk2.mono fun b _ hb=>(hRI.own.ge hb).1),?_⟩
    obtain⟨ao,co,hov,_⟩:=ho2.rows.open
    simp (disch:=first|omega|assumption|rfl) only[go_sem]
    refine zaY (P:=Tryz.prog) (t:=92) (j:=0) (u:=ov') (l:=[ov]) ((hk2.block _ (by omega) (fun hb=>by have:=(hRI.own.ge hb).1;omega)).trans (Ext.at (hx0.trans hy1) hRI.h7)) (by simp) (by rw[hov];rfl) rfl rfl ?_
    intro y3 hs3 h73 hk3
    refine⟨.inl rfl,?_⟩
    simp (disch:=first|omega|assumption|rfl) only[go_sem]
    refine hK _ _ ?_;clear hK hgd;clear K;try clear gd
    exact⟨rfl,rfl,vq0,vq0,vq0,ov',_,hRI.app (hx0.trans hy1) ho2 hk2 hb2 h73 hk3⟩
   ·rw[if_neg h0,List.append_nil]
    refine wf (decide_eq_false h0) ?_
    repeat refine c_r ?_
    exact⟨rfl,rfl,vq0,vq0,vq0,ov,U,hRI⟩
  rintro _ σ1 _ Y1 ⟨rfl,rfl,s8,s3,s7,ov1,U1,hR1⟩
  obtain⟨G1,hG1⟩:∃G1,(G++if (L.length:Int)=0 then endS s2 9 else [])=G1:=⟨_,rfl⟩
  have hG1l:G1.length≤2000001:=by
   rw[←hG1];unfold endS
   split<;>simp<;>omega
  rw[hG1]at hR1
  repeat refine c_r ?_
  refine rg1 s8 ?_
  repeat refine c_r ?_
  refine zam (fun m σ ds v=>ds=[]∧∃(i:Nat) (ov:Value) (U':Nat→Prop),i+m=L.length∧σ 36=vi i∧σ 35=vi L.length∧σ 34= .slice ai L.length ci∧σ 3= .pointer (some ⟨w.heap.size,0,Option.none⟩)∧σ 7= .pointer (some ⟨b7,0,Option.none⟩)∧
   SRf w Y b7 w.heap.size (w4.heap.size+2) nv (.slice ai L.length ci) U U' s2 L ov (G1++(L.take i).map fun k=>{s2 with sv:=k,ref:=true}) v) L.length ?_ ?_
  ·exact⟨rfl,0,ov1,U1,by omega,vr0,vq0,vq0,(vq1 s3),(vq1 s7),by simpa using hR1⟩
  clear s8 s3 s7
  rintro m σ ds v ⟨rfl,i,ov,U',him,s36,s35,s34,s3,s7,hR⟩
  repeat refine c_r ?_
  refine rg2 s36 s35 ?_
  repeat refine c_r ?_
  refine wc0 ?_ ?_
  ·intro hlt
   simp only[decide_eq_true_eq]at hlt
   have hi:i<L.length:=by omega
   have hi0:(0:Int)≤(i:Int):=by omega
   have hi1':(i:Int)+1=((i+1:Nat):Int):=by push_cast;rfl
   have hcell:zae v (adr ai i)=some (vi L[i]):=by
    obtain⟨a',c',e,_,hg⟩:=hR.riv
    injection e with e1 _ _
    subst e1
    have:=hg i (by simpa using hi)
    simpa using this
   obtain⟨xz,rfl⟩:=Option.isSome_iff_exists.1 (zag hcell)
   have sY:=hR.lo.2.2.2.2.2.1
   have sv0:=hR.kb.size
   have d3:zas v (some ⟨w.heap.size,0,Option.none⟩) 6=some (stV nv s2):=zah hR.h3 rfl
   repeat refine c_r ?_
   refine rq ?_;intro gd K hgd hK;simp (disch:=first|omega|assumption|rfl) only[go_sem,s36,s34,hi0,hlt,hcell,Nat.mul_one];refine hK _ _ ?_;clear hK hgd;clear K gd
   repeat refine c_r ?_
   refine rq ?_;intro gd K hgd hK
   try simp (disch:=first|omega|assumption|rfl) only[go_sem,s3,d3]
   refine za2 (P:=Tryz.prog) (l:=stV nv s2) rfl (zbZ n1) rfl rfl ?_
   intro v1 hE1 hs1 hB1
   try simp only[go_sem]
   refine hK _ _ ?_;clear hK hgd;clear K;try clear gd
   obtain⟨bx,hbx⟩:∃b,v.heap.size=b:=⟨_,rfl⟩
   rw[hbx]at hB1 hs1 ⊢
   repeat refine c_r ?_
   refine rq ?_;intro gd K hgd hK
   try simp only[go_sem]
   refine zaY (P:=Tryz.prog) (t:=3) (j:=0) (u:=vi L[i]) (l:=stV nv s2) hB1 (by show 0<6;decide) rfl rfl rfl ?_
   intro v2 hs2' hB2' hk2'
   try simp only[go_sem]
   refine zaY (P:=Tryz.prog) (t:=4) (j:=4) (u:= .bool true) hB2' (by show 4<6;decide) rfl rfl rfl ?_
   intro v3 hs3' hB3' hk3'
   try simp only[go_sem]
   refine hK _ _ ?_;clear hK hgd;clear K;try clear gd
   obtain⟨sk,hsk⟩:∃sk:zak,{s2 with sv:=L[i],ref:=true}=sk:=⟨_,rfl⟩
   have hB3:v3.heap[bx]? =some (.cells (stV nv sk).toArray 80 (0,0)):=by rw[←hsk];exact hB3'
   have hEv:Ext v v3:=Keep.to_ext (Keep.to_ext hE1 rfl (fun b hb=>by omega) hk2') rfl (fun b hb=>by omega) hk3'
   have q7:zae v3 (some ⟨b7,0,Option.none⟩)=some ov:=zab (Ext.at hEv hR.h7) rfl
   have dx:zas v3 (some ⟨bx,0,Option.none⟩) 6=some (stV nv sk):=zah hB3 rfl
   repeat refine c_r ?_
   refine rq ?_;intro gd K hgd hK
   try simp (disch:=first|omega|assumption|rfl) only[go_sem,s7,q7,dx]
   refine zbg (C:=StN nv) (zcC nv) (l:=stV nv sk) (a:=sk) (by rfl) (by rfl) (by rfl) (by rfl) ⟨rfl,n1⟩ (by decide) ?_
   intro v4 hE4' hs4' ho4
   try simp only[go_sem]
   refine zaV (zcC nv) (hR.own.ext (hEv.trans hE4')) ho4.rows (by rfl) (by rfl) (by rfl) (by rfl) (by rfl) (by rfl) (by decide) (vr0) (vr0) (by simp;omega) (by decide) (by omega) ?_
   intro ov' v5 ho5 hE5 hk5 hb5
   obtain⟨ao,co,hov,_⟩:=ho5.rows.open
   try simp (disch:=first|omega|assumption|rfl) only[go_sem,s7]
   refine zaY (P:=Tryz.prog) (t:=92) (j:=0) (u:=ov') (l:=[ov]) ((hk5.block _ (by omega) (fun hb=>by have:=(hR.own.ge hb).1;omega)).trans (Ext.at (hEv.trans hE4') hR.h7)) (by simp) (by rw[hov];rfl) rfl rfl ?_
   intro v6 hs6 h76 hk6
   try simp only[go_sem]
   refine hK _ _ ?_;clear hK hgd;clear K;try clear gd
   have hRn:=hR.app (hEv.trans hE4') ho5 hk5 hb5 h76 hk6
   obtain⟨U2,hU2⟩:∃U2,(fun b=>U' b∨(v4.heap.size≤b∧b<v6.heap.size))=U2:=⟨_,rfl⟩
   rw[hU2]at hRn
   repeat refine c_r ?_
   refine rg2 s36 hi1' ?_
   repeat refine c_r ?_
   refine⟨m - 1,by omega,rfl,i+1,ov',U2,by omega,vq0,(vq1 s35),(vq1 s34),(vq1 s3),(vq1 s7),?_⟩
   rw[zap hi,List.map_append,←List.append_assoc,List.map_cons,List.map_nil,hsk]
   exact hRn
  ·intro hge
   simp only[decide_eq_false_iff_not]at hge
   have hfin:G1++(L.take i).map (fun k=>({s2 with sv:=k,ref:=true}:zak))=(pre++ [y]).flatMap (zc1 N r s2):=by
    rw[List.take_of_length_le (by omega),List.flatMap_append,hGe,List.flatMap_cons,List.flatMap_nil,List.append_nil,hho,←hG1,List.append_assoc]
   rw[hfin]at hR
   repeat refine c_r ?_
   exact⟨U',⟨hR.e,ov,hR.h7,hR.own,hR.u1,hR.h3⟩,hR.u2,hR.kb.keep⟩
 ·rintro xs U A rfl hszA hUb ⟨hEA,ov,k7,hown,hU,k3⟩ hD
  obtain⟨ao,co,rfl,hco,_⟩:=hown.rows.open
  have q7:zae A (some ⟨b7,0,Option.none⟩)=some (.slice ao _ co):=zab k7 rfl
  repeat refine c_r ?_
  refine rc q7 (P_st.Clip_ok hco) ?_
  rintro _ A1 ⟨rfl,rfl⟩
  refine re trivial ?_
  repeat refine c_r ?_
  refine zdh (.inr rfl) (by rfl) Tryz.ntmps96 (vr0) hD ?_
  intro Z hkZ hsZ
  have hrows:=hown.rows.take (m:=_) (c2:=_) (Nat.le_refl _) (Nat.le_refl _)
  rw[List.take_length]at hrows
  have hEZ:Ext w Z:=Keep.to_ext hEA rfl (fun b hb=>by omega) hkZ
  refine⟨hEZ,(hown.blk.same.ext hkZ.size).mono (by omega),nv,rfl,hrows.keep hkZ hown.blk.same (fun b h1 _ h2=>by omega),fun x hx=>?_⟩
  obtain⟨h,_,hx⟩:=List.mem_flatMap.1 hx
  rw[zk6 hx,mn]
  exact hr.ext hEZ
end Go.Proofs.YtahbdamijngmmaaGreat
