/-
  Texts of a proof, joined: Y0, K18, M5cd, E0, E1, E2, E3, Y1, E4, M5cs, E5, E6, E7, B4, B5, B6, M5cm, E8.
  Conditions: none.
-/
import Derived.Test.YtahbdamijngmmaaGreatJPA03
import Derived.Test.YtahbdamijngmmaaGreatJPA02
import Derived.Test.YtahbdamijngmmaaGreatJPA01
set_option linter.unusedVariables false
set_option linter.unusedSimpArgs false
set_option linter.defProp false
set_option linter.unnecessarySimpa false
set_option maxHeartbeats 8000000
namespace Go.Proofs.YtahbdamijngmmaaGreat
open Go
def isL(o:Nm)(t:Int)(r:RecL):Bool:=decide (t=r.dat.ty) && decide (zaq o=zaq r.owner)
structure SetL where
 owner:Nm
 ty:Int
 ttl:Int
 data:List DatL
def mkS(r:RecL)(l:List RecL):SetL:=⟨r.owner,r.dat.ty,l.foldl (fun t x=>min t x.ttl) r.ttl,l.map RecL.dat⟩
def grpF:Nat->List RecL->List SetL
 |0,_=>[]
 |_,[]=>[]
 |n+1,r::l=>mkS r ((r::l).takeWhile (isL r.owner r.dat.ty))::grpF n ((r::l).dropWhile (isL r.owner r.dat.ty))
def grp(l:List RecL):List SetL:=grpF l.length l
theorem zgS(r:RecL):isL r.owner r.dat.ty r=true:=by simp[isL]
theorem zhH:∀(n m:Nat) (l:List RecL),l.length<=n->l.length<=m->grpF n l=grpF m l
 |0,0,_,_,_=>rfl
 |0,m+1,l,h,_=>by
  have:l=[]:=List.length_eq_zero_iff.1 (by omega);subst this;rfl
 |n+1,0,l,_,h=>by
  have:l=[]:=List.length_eq_zero_iff.1 (by omega);subst this;rfl
 |n+1,m+1,[],_,_=>rfl
 |n+1,m+1,r::l,h1,h2=>by
  simp only[List.length_cons]at h1 h2;have hd:((r::l).dropWhile (isL r.owner r.dat.ty)).length<=l.length:=by
   rw[List.dropWhile_cons_of_pos (zgS r)];exact(List.dropWhile_sublist _).length_le
  simp only[grpF];rw[zhH n m _ (by omega) (by omega)]
theorem zgW(r:RecL)(l:List RecL):grp (r::l)=mkS r ((r::l).takeWhile (isL r.owner r.dat.ty))::grp ((r::l).dropWhile (isL r.owner r.dat.ty)):=by
 have hd:((r::l).dropWhile (isL r.owner r.dat.ty)).length<=l.length:=by
  rw[List.dropWhile_cons_of_pos (zgS r)];exact(List.dropWhile_sublist _).length_le
 unfold grp;show grpF (l.length+1) (r::l)=_;simp only[grpF];rw[zhH l.length ((r::l).dropWhile (isL r.owner r.dat.ty)).length _ hd (ynl _)]
theorem zlN:grp []=[]:=rfl
theorem zge{α:Type}{p:α->Bool}{l:List α}{n:Nat}(hn:n<=l.length)(h:∀j (hj:j<l.length),j<n->p l[j]=true)(hs:∀h:n<l.length,p l[n]=false):l.takeWhile p=l.take n/\l.dropWhile p=l.drop n:=by
 have h1:∀x∈l.take n,p x=true:=fun x hx=>by
  obtain⟨j,hj,rfl⟩:=List.getElem_of_mem hx;rw[List.getElem_take];simp at hj;exact h j (by omega) (by omega)
 constructor
 ·conv=>lhs;rw[←List.take_append_drop n l]
  rw[List.takeWhile_append_of_pos h1];by_cases hlt:n<l.length
  ·rw[List.drop_eq_getElem_cons hlt,List.takeWhile_cons_of_neg (by rw[hs hlt];exact Bool.false_ne_true),List.append_nil]
  ·rw[List.drop_eq_nil_of_le (by omega)];simp
 ·conv=>lhs;rw[←List.take_append_drop n l]
  rw[List.dropWhile_append_of_pos h1];by_cases hlt:n<l.length
  ·rw[List.drop_eq_getElem_cons hlt,List.dropWhile_cons_of_neg (by rw[hs hlt];exact Bool.false_ne_true)]
  ·rw[List.drop_eq_nil_of_le (by omega)];simp
def ofC(R:List RecL)(o:Nm)(t:Int):List RecL:=zaN (R.filter (isL o t))
theorem zhL{β:Type}{cf:RecL->RecL->Int}{jn:RecL->RecL->RecL}{p:β->RecL}{Q:RecL->Prop}(hj:∀x r,Q x->Q r->cf x r=0->Q (jn x r)):∀(l:List β) (acc:List RecL),(∀x∈l,Q (p x))->(∀x∈acc,Q x)->∀x∈zcq cf jn p l acc,Q x
 | [],_,_,h=>h
 |r::l,acc,hl,ha=>zhL hj l _ (fun x hx=>hl x (List.mem_cons_of_mem _ hx)) (zd7 (fun x hx h0=>hj x (p r) hx (hl r (List.mem_cons_self ..)) h0) (hl r (List.mem_cons_self ..)) ha)
theorem zbI{Q:RecL->Prop}(hQ:∀a b,Q a->Q (minT a b)){l:List RecL}(h:∀x∈l,Q x):∀x∈zaN l,Q x:=
 zhL (fun x r hx _ _=>hQ x r hx) l [] h (fun x hx=>absurd hx (by simp))
theorem zci:∀(l:List RecL),(zaN l).length<=l.length:=by
 have h1:∀(r:RecL) (O:List RecL),(putC zaB minT r O).length<=O.length+1:=fun r O=>by
  induction O with
  |nil=>simp[putC]
  |cons x O ih=>
   simp only[putC]
   split
   ·simp;omega
   ·split<;>simp
 have h2:∀(l acc:List RecL),(zcq zaB minT (fun r=>r) l acc).length<=acc.length+l.length:=fun l=>by
  induction l with
  |nil=>intro acc;simp[zcq]
  |cons r l ih=>
   intro acc;have:=ih (putC zaB minT r acc);have:=h1 r acc;show(zcq zaB minT (fun r=>r) l (putC zaB minT r acc)).length<=_;simp only[List.length_cons];omega
 intro l;have h3:(zaN l).length<=([]:List RecL).length+l.length:=h2 l [];simpa using h3
theorem ofC_is{R:List RecL}{o:Nm}{t:Int}:∀x∈ofC R o t,isL o t x=true:=by
 unfold ofC;exact zbI (fun a b h=>h) (fun x hx=>(List.mem_filter.1 hx).2)
theorem zhK{l:List RecL}:∀(acc:List RecL),acc.Pairwise (fun a b=>zaB a b<0)->(zcq zaB minT (fun r=>r) l acc).Pairwise (fun a b=>zaB a b<0):=by
 induction l with
 |nil=>exact fun acc h=>h
 |cons r l ih=>exact fun acc h=>ih _ (zcl cpr_R zlF h)
abbrev zdX(R:List RecL):Prop:=R.Pairwise (fun a b=>zaB a b<0)
theorem zg4(l:List RecL):zdX (zaN l):=zhK [] List.Pairwise.nil
theorem putC_app{r:RecL}{O:List RecL}(h:∀x∈O,zaB x r<0):putC zaB minT r O=O++ [r]:=by
 induction O with
 |nil=>rfl
 |cons x O ih=>
  simp only[putC];rw[if_pos (h x (List.mem_cons_self ..)),ih (fun y hy=>h y (List.mem_cons_of_mem _ hy))];rfl
theorem zhZ{R:List RecL}(h:zdX R):zaN R=R:=by
 have:∀(l acc:List RecL),zdX (acc++l)->zcq zaB minT (fun r=>r) l acc=acc++l:=fun l=>by
  induction l with
  |nil=>intro acc _;simp[zcq]
  |cons r l ih=>
   intro acc hs;show zcq zaB minT (fun r=>r) l (putC zaB minT r acc)=_;have h1:=(List.pairwise_append.1 hs).2.2;rw[putC_app (fun x hx=>h1 x hx r (List.mem_cons_self ..)),ih (acc++ [r]) (by simpa using hs)];simp
 exact this R [] h
theorem zeu{R:List RecL}(h:zdX R)(o:Nm)(t:Int):ofC R o t=R.filter (isL o t):=zhZ (h.filter _)
theorem grp_one{o:Nm}{t:Int}{r:RecL}{l:List RecL}(h:∀x∈r::l,isL o t x=true):grp (r::l)=[mkS r (r::l)]:=by
 have hr:=h r (List.mem_cons_self ..);simp only[isL,Bool.and_eq_true,ydT]at hr;have h2:∀x∈r::l,isL r.owner r.dat.ty x=true:=fun x hx=>by
  have:=h x hx;simp only[isL,Bool.and_eq_true,ydT]at this ⊢;exact⟨hr.1.symm.trans this.1,hr.2.symm.trans this.2⟩
 obtain⟨e1,e2⟩:=zge (p:=isL r.owner r.dat.ty) (l:=r::l) (n:=(r::l).length) (ynl _) (fun j hj _=>h2 _ (List.getElem_mem hj)) (fun h=>absurd h (by omega));rw[zgW,e1,e2];rw[List.take_length,List.drop_length];rfl
def IterT{α:Type}(P:Program)(g:FuncId)(cap:Array Value)(W0:World)(n0:Nat)(C T:Nat->Prop)(own:Nat)(Pre:List α->α->Prop)(Full:List α->Prop)(enc:Nat->α->World->Array Value->Prop):Prop:=
 ∀(l:Nat) (J Jx:List α->World->Prop) (W:World),Ext W0 W->n0<=W.heap.size->
  (∀pre A B,J pre A->Keep (fun b=>span W.heap.size own b\/T b) A B->J pre B)->(∀pre A B,Jx pre A->Keep (fun b=>span W.heap.size own b\/T b) A B->Jx pre B)->
  (∀pre x A args,Pre pre x->J pre A->W.heap.size+own<=A.heap.size->KeepB n0 (fun b=>C b\/T b) W A->enc W.heap.size x A args->Yld P l args A (fun v B=>
   (v= .bool true/\J (pre++ [x]) B/\KeepB n0 C A B/\∀b,span W.heap.size own b->B.heap[b]? =A.heap[b]?)\/(v= .bool false/\Jx (pre++ [x]) B)))->
  J [] W->Fn P g (#[.func (.yield l) #[] #[]]++cap) W (fun _ B=>(∃xs,Full xs/\J xs B)\/∃pre x,Pre pre x/\Jx (pre++ [x]) B)
theorem W_rangeT{α:Type}{P:Program}{n:Nat}{f:Operand}{ps:Array Tmp}{assign body:Code}{Q:Post}{σ:Sto}{ds:List Deferred}{w:World}
  {g:FuncId} {cap:Array Value} {W0:World} {n0:Nat} {C T:Nat->Prop} {own:Nat} {Pre:List α->α->Prop} {Full:List α->Prop} {enc:Nat->α->World->Array Value->Prop}
  (hf:ev n σ f= .func (.func g) #[] cap) (hc:zar P g=true) (hit:IterT P g cap W0 n0 C T own Pre Full enc) (hW0:Ext W0 w) (hn0:n0<=w.heap.size) (hCn:∀b,C b->b<w.heap.size) (hTn:∀b,T b->b<w.heap.size)
  (henc:∀x A args,enc (w.heap.size+2) x A args->args.size=ps.size)
  (I:List α->World->Prop) (Ix:Code->List α->World->Prop)
  (hI:∀pre A B,I pre A->Keep (fun b=>span w.heap.size (2+own) b\/T b) A B->I pre B)
  (hIx:∀c pre A B,Ix c pre A->Keep (fun b=>span w.heap.size (2+own) b\/T b) A B->Ix c pre B)
  (h0:I [] w)
  (hround:∀(l:Nat) (pre:List α) (x:α) (A:World) (args:Array Value),Pre pre x->w.heap.size+2+own<=A.heap.size->I pre A->enc (w.heap.size+2) x A args->
   W P (some l) n assign (zdH (fun σ1 ds1 A1=>ds1=[]/\KeepB (w.heap.size+2+own) C A A1/\∀A2,Keep (two w.heap.size) A1 A2->W P (some l) n body (zk2 I Ix (w.heap.size+2+own) C (pre++ [x]) A2) σ1 [] A2) (fun _ _ _ _=>False))
    (zdP σ (ps.zip args).toList) [] A)
  (hdone:∀xs w',Full xs->w.heap.size+2<=w'.heap.size->I xs w'->w'.heap[w.heap.size]? =some (.deferred (some []))->Q .normal σ ({target:= .collected w.heap.size,args:=#[]}::ds) w')
  (hstop:∀c pre x w',w.heap.size+2<=w'.heap.size->Pre pre x->Ix c (pre++ [x]) w'->w'.heap[w.heap.size]? =some (.deferred (some []))->
   W P .none n c Q σ ({target:= .collected w.heap.size,args:=#[]}::ds) w'):
  W P .none n (.rangeFunc f ps assign body) Q σ ds w:=by
 refine wpIn_rangeFunc ?_;intro fn _;generalize hrec:zeX fn (act n σ ds).tmps ps assign body w.heap.size=rec;obtain⟨W1,hW1⟩:∃W1,(w.alloc (.deferred (some []))).alloc (.loop (rec .ready .none))=W1:=⟨_,rfl⟩;have hsz1:W1.heap.size=w.heap.size+2:=by rw[←hW1];simp
 have hL1:W1.heap[w.heap.size+1]? =some (.loop (rec .ready .none)):=by
  rw[←hW1];have:=World.alloc_heap_new (w.alloc (.deferred (some []))) (.loop (rec .ready .none));rwa [World.size_alloc]at this
 have hK1:W1.heap[w.heap.size]? =some (.deferred (some [])):=by
  rw[←hW1];exact(RowKit.Below.heap_alloc _ _ _ (by simp)).trans (World.alloc_heap_new w _)
 have hE1:Ext w W1:=by rw[←hW1];exact(Ext.alloc w _).trans (Ext.alloc _ _)
 have hI1:I [] W1:=hI _ _ _ h0 (hE1.mono (fun _ _ h=>h.elim));have hl2:two w.heap.size (w.heap.size+1):= .inr rfl;have hl2':span w.heap.size (2+own) (w.heap.size+1):=by unfold span;omega
 refine⟨w.heap.size+1,[{target:= .collected w.heap.size,args:=#[]}],W1,{target:= .fn (.func g) cap,args:=#[.func (.yield (w.heap.size+1)) #[] #[]]},W1,g,
  #[.func (.yield (w.heap.size+1)) #[] #[]]++cap,W1,?_,?_,?_,?_,zdy,?_⟩
 ·rw[←hW1,←hrec];exact run_enterLoop_outer _ _ _ _ _
 ·simp only[resolve,zcy,hf];simp[Deferred.ofValue,ev]
 ·intro f' hf';trivial
 ·simp only[invoke];exact zct hc
 ·-- the iterator's contract
  have hsp:∀{n:Nat} b,b<n->(span W1.heap.size own b\/T b)->(span w.heap.size (2+own) b\/T b):=fun b _ h=>h.imp (fun h=>by unfold span at*;omega) id;have hno:∀b,two w.heap.size b->¬(span W1.heap.size own b\/T b):=fun b hb h=>by
   rcases h with h|h
   ·unfold span at h;unfold two at hb;omega
   ·have:=hTn _ h;unfold two at hb;omega
  have hCl:∀b,two w.heap.size b->¬C b:=fun b hb hcb=>by have:=hCn b hcb;rcases hb with rfl|rfl<;>omega
  refine zc2 (CallsIn.mono (hit (w.heap.size+1)
   (fun pre B=>I pre B/\w.heap.size+2<=B.heap.size/\B.heap[w.heap.size+1]? =some (.loop (rec .ready .none))/\B.heap[w.heap.size]? =some (.deferred (some [])))
   (fun pre B=>∃c,Ix c pre B/\w.heap.size+2<=B.heap.size/\B.heap[w.heap.size+1]? =some (.loop (rec .done (some c)))/\B.heap[w.heap.size]? =some (.deferred (some [])))
   W1 (hW0.trans hE1) (by omega) ?_ ?_ ?_ ⟨hI1,by omega,hL1,hK1⟩) ?_)
  ·rintro pre A B ⟨hi,hs,hl,hk⟩ hAB;exact⟨hI _ _ _ hi (hAB.mono hsp),Nat.le_trans hs hAB.size,(hAB.block _ (by omega) (hno _ hl2)).trans hl,(hAB.block _ (by omega) (hno _ (.inl rfl))).trans hk⟩
  ·rintro pre A B ⟨c,hi,hs,hl,hk⟩ hAB;exact⟨c,hIx _ _ _ _ hi (hAB.mono hsp),Nat.le_trans hs hAB.size,(hAB.block _ (by omega) (hno _ hl2)).trans hl,(hAB.block _ (by omega) (hno _ (.inl rfl))).trans hk⟩
  ·-- one round
   rintro pre x A args hxs ⟨hi,hs,hl,hk⟩ hsA _ hx;rw[hsz1]at hx;have hy:=run_yield (P:=P) (args:=args) hl (by rw[←hrec];exact henc x A args hx);unfold Yld zg5
   dsimp only
   rw[show (#[]++args:Array Value)=args from by simp];rw[hy,←hrec]
   dsimp only[zeX,opR]
   refine zcV (r:= .none) (n:=0) (roundIn_of_wpIn (F:=fw .none) (n:=0) trivial ?_);have hin:(fw .none).inRound (w.heap.size+1)=fw (some (w.heap.size+1)):=rfl;rw[hin];have hfold:(ps.zip args).foldl (fun t (x:Tmp×Value)=>t.setIfInBounds x.1 x.2) (act n σ ds).tmps=(act n (zdP σ (ps.zip args).toList) []).tmps:=by
    rw[←Array.foldl_toList];exact zcZ n ds _ σ
   have hst:({tmps:=(ps.zip args).foldl (fun t (x:Tmp×Value)=>t.setIfInBounds x.1 x.2) (act n σ ds).tmps,defers:=[]}:Act)=act n (zdP σ (ps.zip args).toList) []:=by
    rw[hfold];rfl
   have hr:=hround (w.heap.size+1) pre x A args hxs (by omega) hi hx;unfold W at hr;rw[←hst]at hr;refine wpIn_mono hr ?_;rintro e a A1 ⟨σ1,ds1,rfl,hq⟩;cases e with
   |normal=>
    obtain⟨rfl,hA1,hbody⟩:=hq;have hlA1:A1.heap[w.heap.size+1]? =some (.loop (rec .ready .none)):=(hA1.block _ (by omega) (hCl _ hl2)).trans hl;have hkA1:A1.heap[w.heap.size]? =some (.deferred (some [])):=(hA1.block _ (by omega) (hCl _ (.inl rfl))).trans hk;have hlt1:w.heap.size+1<A1.heap.size:=(Array.getElem?_eq_some_iff.1 hlA1).1;refine⟨_,run_beginRound hlA1 (by rw[←hrec];rfl),?_⟩;have hb:=hbody _ (zaH (w:=A1) (r:=w.heap.size+1) (o:= .loop {rec .ready .none with state:= .busy}) hl2);refine wpIn_mono hb ?_;have hlA2:(A1.putObj (w.heap.size+1) (.loop {rec .ready .none with state:= .busy})).heap[w.heap.size+1]? =some (.loop {rec .ready .none with state:= .busy}):=World.putObj_heap_same hlt1;have hkA2:(A1.putObj (w.heap.size+1) (.loop {rec .ready .none with state:= .busy})).heap[w.heap.size]? =some (.deferred (some [])):=(World.putObj_heap_other (by omega)).trans hkA1;have fin:∀(jump:Option Code) (B:World),KeepB (w.heap.size+2+own) C (A1.putObj (w.heap.size+1) (.loop {rec .ready .none with state:= .busy})) B->
      (Instr.endRound (w.heap.size+1) jump).run P B= .ok (.bool jump.isNone) (B.putObj (w.heap.size+1) (.loop (rec (if jump.isNone then .ready else .done) jump)))/\
      w.heap.size+2<=(B.putObj (w.heap.size+1) (.loop (rec (if jump.isNone then .ready else .done) jump))).heap.size/\
      (B.putObj (w.heap.size+1) (.loop (rec (if jump.isNone then .ready else .done) jump))).heap[w.heap.size+1]? =some (.loop (rec (if jump.isNone then .ready else .done) jump))/\
      (B.putObj (w.heap.size+1) (.loop (rec (if jump.isNone then .ready else .done) jump))).heap[w.heap.size]? =some (.deferred (some []))/\
      KeepB n0 C A (B.putObj (w.heap.size+1) (.loop (rec (if jump.isNone then .ready else .done) jump)))/\
      ∀b,span W1.heap.size own b->(B.putObj (w.heap.size+1) (.loop (rec (if jump.isNone then .ready else .done) jump))).heap[b]? =A.heap[b]?:=by
     intro jump B hB;have hlB:=(hB.block _ (by omega) (hCl _ hl2)).trans hlA2;have hkB:=(hB.block _ (by omega) (hCl _ (.inl rfl))).trans hkA2;have hltB:w.heap.size+1<B.heap.size:=(Array.getElem?_eq_some_iff.1 hlB).1;refine⟨?_,by simp;omega,World.putObj_heap_same hltB,(World.putObj_heap_other (by omega)).trans hkB,?_,?_⟩
     ·have:=run_endRound (P:=P) jump hlB;rw[←hrec]at this ⊢;exact this
     ·refine(hA1.mono (by omega) (fun _ _ h=>h)).trans (KeepB.trans ?_ ((hB.mono (by omega) (fun _ _ h=>h)).trans ?_))
      ·exact(zaH (S:=two w.heap.size) hl2).toB (by omega) (fun i hi hs=>by rcases hs with rfl|rfl<;>omega)
      ·exact(zaH (S:=two w.heap.size) hl2).toB (by omega) (fun i hi hs=>by rcases hs with rfl|rfl<;>omega)
     ·intro b hb;unfold span at hb;have hCb:¬C b:=fun h=>by have:=hCn b h;omega
      exact(World.putObj_heap_other (by omega)).trans ((hB.block b (by omega) hCb).trans ((World.putObj_heap_other (by omega)).trans (hA1.block b (by omega) hCb)))
    rintro e a B ⟨σ2,ds2,rfl,hq⟩;cases e with
    |normal=>
     obtain⟨hi',hB⟩:=hq;obtain⟨h1,h2,h3,h4,h5,h6⟩:=fin .none B hB;exact⟨_,_,h1,_,rfl,.inl ⟨rfl,⟨hI _ _ _ hi' (zaH (.inl hl2')),h2,h3.trans (by rw[←hrec];rfl),h4⟩,h5,h6⟩⟩
    |ret=>
     obtain⟨hi',hB⟩:=hq;obtain⟨h1,h2,h3,h4,h5,_⟩:=fin (some .ret) B hB;exact⟨_,_,h1,_,rfl,.inr ⟨rfl,_,hIx _ _ _ _ hi' (zaH (.inl hl2')),h2,h3.trans (by rw[←hrec];rfl),h4⟩⟩
    |exit id=>
     obtain⟨hi',hB⟩:=hq;obtain⟨h1,h2,h3,h4,h5,_⟩:=fin (some (.exit id)) B hB;exact⟨_,_,h1,_,rfl,.inr ⟨rfl,_,hIx _ _ _ _ hi' (zaH (.inl hl2')),h2,h3.trans (by rw[←hrec];rfl),h4⟩⟩
    |goto t=>
     obtain⟨hi',hB⟩:=hq;obtain⟨h1,h2,h3,h4,h5,_⟩:=fin (some (.goto t)) B hB;exact⟨_,_,h1,_,rfl,.inr ⟨rfl,_,hIx _ _ _ _ hi' (zaH (.inl hl2')),h2,h3.trans (by rw[←hrec];rfl),h4⟩⟩
    |panic c=>exact hq.elim
    |outgrown=>exact hq.elim
   |ret=>exact hq.elim
   |exit id=>exact hq.elim
   |goto t=>exact hq.elim
   |panic c=>exact hq.elim
   |outgrown=>exact hq.elim
  ·rintro e B ⟨v,rfl,h⟩;rcases h with ⟨xs,hfull,hi,hs,hl,hk⟩| ⟨pre,x,hxs,c,hi,hs,hl,hk⟩
   ·have hend:=run_endLoop (P:=P) hl (by rw[←hrec];simp[zeX]);have hp:(rec LoopState.ready .none).pending= .none:=by rw[←hrec];rfl
    rw[hp]at hend;refine⟨.none,_,hend,?_⟩;exact⟨σ,_,rfl,hdone xs _ hfull (by simp;omega) (hI _ _ _ hi (zaH (.inl hl2'))) ((World.putObj_heap_other (by omega)).trans hk)⟩
   ·have hend:=run_endLoop (P:=P) hl (by rw[←hrec];simp[zeX]);have hp:(rec LoopState.done (some c)).pending=some c:=by rw[←hrec];rfl
    rw[hp]at hend;refine⟨some c,_,hend,?_⟩;exact hstop c pre x _ (by simp;omega) hxs (hIx _ _ _ _ hi (zaH (.inl hl2'))) ((World.putObj_heap_other (by omega)).trans hk)
end Go.Proofs.YtahbdamijngmmaaGreat
namespace Go.Proofs.YtahbdamijngmmaaGreat.P_cd
open Go Go.Proofs.YtahbdamijngmmaaGreat
set_option maxRecDepth 10000
theorem Clip_ok{w:World}{a:Option Addr}{n c:Nat}(hc:n<=c):Fn Tryz.prog 283 #[.slice a n c] w (fun u w'=>u= .slice a n n/\w'=w):=by
 refine enter Tryz.func283 Tryz.ntmps283 rfl rfl ?_;refine gz0 ?_;refine rq ?_;intro gd K hgd hK;try simp only[go_sem]
 have hcl:slD Tryz.prog (some (TypeDesc.slice 197)) (Value.slice a n c) .none (some (Value.int IntKind.i64 ↑n)) (some (Value.int IntKind.i64 ↑n))=some (.slice a n n):=zfm hc (by rfl);rw[hcl];try simp only[go_sem]
 refine en hK ?_;refine rt0 Tryz.ntmps283 ?_;exact⟨rfl,rfl⟩
end Go.Proofs.YtahbdamijngmmaaGreat.P_cd
namespace Go.Proofs.YtahbdamijngmmaaGreat
open Go
set_option maxRecDepth 10000
theorem is_ok(w:World)(ow tl dv:Value)(o:Nm)(t:Int)(cr:List Value)(r:RecL)(ho:Row w ow (o.map vs))(hr:RecAt w cr r)(hlo:LB o)(hlen:o.length<=1000000000000000)(hok:zbr r):
  Fn Tryz.prog 280 #[.agg #[ow,vi t,tl,dv],.agg cr.toArray] w (fun v w'=>v= .bool (isL o t r)/\Ext w w'):=by
 obtain⟨ow2,ds,rfl,a1,a2⟩:=hr.ex;obtain⟨nm,nu,tx,rw',rfl,_⟩:=a2.ex;refine enter Tryz.func280 Tryz.ntmps280 rfl rfl ?_;refine gz0 ?_;rw[zai];refine zaF ?_;intro w1 hE1 hs1 hA hB;have p0:zad w1 (some ⟨w.heap.size,0,.none⟩)=some ow:=zab hA rfl;have p1:zad w1 (some ⟨w.heap.size,1,.none⟩)=some (vi t):=zab hA rfl;have q0:zad w1 (some ⟨w.heap.size+1,0,.none⟩)=some ow2:=zab hB rfl;have q2:zad w1 (some ⟨w.heap.size+1,2,.none⟩)=some (vi r.dat.ty):=zab hB rfl;by_cases ht:t=r.dat.ty
 ·refine rq ?_;intro gd K hgd hK;have hg6:=gk 6 11 hgd rfl;try simp (disch:=first|omega|assumption|rfl) only[go_sem,p0,p1,q0,q2,Nat.add_zero,yet ht,↓hg6]
  refine Fn.mono (zeF _ _ _ _ _ (ho.ext hE1) (a1.ext hE1) hlo hok.lb (by omega) (by have:=hok.len;omega)) ?_;rintro _ w2 ⟨rfl,hE2⟩;try simp only[go_sem]
  refine en hK ?_;refine rt0 Tryz.ntmps280 ?_;refine⟨?_,hE1.trans hE2⟩;unfold isL;rw[yet ht,Bool.true_and]
 ·refine rq ?_;intro gd K hgd hK;have hg6:=gk 6 11 hgd rfl;try simp (disch:=first|omega|assumption|rfl) only[go_sem,p0,p1,q0,q2,Nat.add_zero,yef ht,↓hg6]
  refine en hK ?_;refine rt0 Tryz.ntmps280 ?_;refine⟨?_,hE1⟩;unfold isL;rw[yef ht,Bool.false_and]
structure SetAt(w0:World)(B:Nat)(w:World)(cs:List Value)(s:SetL):Prop where
 ex:∃ow dv,cs=[ow,vi s.ty,v32 s.ttl,dv]/\Row w0 ow (s.owner.map vs)/\Rows 5 (DatAt w0) w dv s.data/\BlkB B w dv
def encS(w0:World)(B:Nat)(s:SetL)(A:World)(args:Array Value):Prop:=∃cs,args=#[.agg cs.toArray]/\SetAt w0 B A cs s
theorem zaP(w:World):zeD 5 (DatAt w):=by
 refine⟨fun h=>?_,fun h=>?_⟩
 ·obtain⟨nm,nu,tx,rw',rfl,_⟩:=h.ex;rfl
 ·obtain⟨nm,nu,tx,rw',rfl,⟨_,⟨o3,o4,rfl,_⟩,_⟩,⟨o5,o6,rfl,_⟩,⟨o7,o8,rfl,_⟩,⟨o9,o10,rfl,_⟩⟩:=h.ex;intro q hq;simp at hq;rcases hq with rfl|rfl|rfl|rfl|rfl<;>rfl
theorem RecAt.cells{w0:World}{cs:List Value}{r:RecL}(h:RecAt w0 cs r):∃ow ds,cs=[ow,v32 r.ttl]++ds/\Row w0 ow (r.owner.map vs)/\DatAt w0 ds r.dat/\cs[0]? =some ow/\cs[1]? =some (v32 r.ttl)/\cs[2]? =some (vi r.dat.ty)/\cs.drop 2=ds:=by
 obtain⟨ow,ds,rfl,h1,h2⟩:=h.ex;obtain⟨nm,nu,tx,rw',rfl,_⟩:=h2.ex;exact⟨ow,_,rfl,h1,h2,rfl,rfl,rfl,rfl⟩
theorem setsIt{w0 W0:World}{C:Nat->Prop}{bl:Nat}{lv:Value}{R:List RecL}(hE0:Ext w0 W0)(hb:W0.heap[bl]? =some (.cells #[lv] 120 (0,0)))(hl:Rows 7 (RecAt w0) W0 lv R)(hbC:¬C bl)
  (hC0:∀b,(C b\/b=bl)->w0.heap.size<=b) (hlC:∀a n c,lv= .slice (some a) n c->¬C a.block/\a.block≠bl/\a.block<W0.heap.size) (hok:∀r∈R,zbr r) (hlen:R.length<=1000000000):
  IterT Tryz.prog 298 #[.pointer (some ⟨bl,0,.none⟩)] W0 W0.heap.size C (fun b=>b=bl) 0 (fun pre x=>∃suf,grp R=pre++x::suf) (fun l=>l=grp R) (encS w0):=by
 intro lp J Jx W hW hnW hJ hJx hY h0;have hbn:bl<W0.heap.size:=(Array.getElem?_eq_some_iff.1 hb).1;refine enter Tryz.func298 Tryz.ntmps298 rfl rfl ?_;repeat refine c_r ?_
 refine zao (fun m σ ds v=>ds=[]/\∃(pre:List SetL) (p:Nat) (lv':Value),p+m=R.length/\grp R=pre++grp (R.drop p)/\σ 0= .func (.yield lp) #[] #[]/\σ 1= .pointer (some ⟨bl,0,.none⟩)/\
  v.heap[bl]? =some (.cells #[lv'] 120 (0,0))/\Rows 7 (RecAt w0) v lv' (R.drop p)/\(∀a n c,lv'= .slice (some a) n c->¬C a.block/\a.block≠bl/\a.block<W0.heap.size)/\J pre v/\KeepB W0.heap.size (fun b=>C b\/b=bl) W v/\Ext w0 v) R.length ?_ ?_
 ·exact⟨rfl,[],0,lv,by omega,rfl,vr0,vq0,hW.at hb,hl.ext hW,hlC,h0,KeepB.refl _ _ _,hE0.trans hW⟩
 rintro m σ ds v ⟨rfl,pre,p,lv',hpm,hgr,hs0,hs1,hbx,hrow,hlC',hj,hKB,hEv⟩;obtain⟨aL,cL,rfl,hcL,hgL⟩:=hrow.open;obtain⟨D,hD⟩:∃D,R.drop p=D:=⟨_,rfl⟩;have hDl:D.length=R.length - p:=by rw[←hD];simp
 have hDok:∀r∈D,zbr r:=fun r hr=>hok r (List.drop_subset p R (hD▸hr));rw[hD]at hgr hbx hrow hlC' hcL;simp only[hD]at hgL;have hbc:zad v (some ⟨bl,0,.none⟩)=some (.slice aL D.length cL):=zab hbx rfl;refine gz (az3 hs0 hs1 hbc) ?_;refine wc0 ?_ ?_
 ·intro hlt;simp only[ydT]at hlt;have hD0:0<D.length:=by omega
  obtain⟨r,hr⟩:∃r,D[0]=r:=⟨_,rfl⟩;obtain⟨c0,hc0,hR0⟩:=hgL 0 hD0;rw[hr]at hR0;obtain⟨ow0,ds0,hcs0,o1,o2,g0,g1,g2,_⟩:=hR0.cells;obtain⟨xL,rfl⟩:=yxs (zak hc0);rw[Nat.zero_mul,zaj]at hc0;obtain⟨xd,hxd⟩:∃xd,adr (some xL) 2=some xd:=⟨_,rfl⟩;have cell:∀{j:Nat} {u:Value} (_:c0[j]? =some u) {x:World} (_:Ext v x),zad x (adr (some xL) j)=some u:=fun {j u} hj {x} hx=>by
   obtain⟨hj1,hj2⟩:=List.getElem?_eq_some_iff.1 hj;have:=zch (zac hx hc0) hj1;rw[hj2]at this;exact this
  have hz:=cj 0;repeat refine c_r ?_
  refine zaJ (fun i=>i==15) [(0,true),(1,true),(2,true),(3,true),(4,true),(5,true),(6,true),(7,true),(8,true),(9,true),(10,true),(11,true),(12,true),(13,true),(14,false),(15,false)] NoS mixed (by kernel_rfl) ?_;intro gd K x hgd hx hxe hK;clear hxe;have hbc1:=zaa hx hbc;have e0:=cell g0 hx;have e1:=cell g1 hx;have e2:=cell g2 hx;rw[zaj]at e0;rw[hxd]at e2;refine sgz (az2 (az7 hs0 hs1 hbc1 hlt hz hxd e0) (az5 e1 e2 Int.toNat_zero Nat.zero_mul zaj)) ?_;obtain⟨ao,no,co,rfl⟩:∃ao no co,ow0= .slice ao no co:=by
   obtain⟨a,c,h,_⟩:=o1;exact⟨_,_,_,h⟩
  refine⟨by kernel_rfl,?_⟩;rw[show bdV Tryz.prog 340 [(0,.slice ao no co),(1,vi r.dat.ty),(2,v32 r.ttl)]=some (.agg #[.slice ao no co,vi r.dat.ty,v32 r.ttl,.slice .none 0 0]) from by kernel_rfl];refine sg0 ?_;refine⟨.inr (Ext.alloc x _),?_⟩;have hB3:=zau x (.cells #[.slice .none 0 0,vi 0,v32 0,.slice .none 0 0] 340 (0,0));have hE3:=Ext.alloc x (.cells #[.slice .none 0 0,vi 0,v32 0,.slice .none 0 0] 340 (0,0));have hs3:=zai x (.cells #[.slice .none 0 0,vi 0,v32 0,.slice .none 0 0] 340 (0,0));revert hB3 hE3 hs3;generalize x.alloc (.cells #[.slice .none 0 0,vi 0,v32 0,.slice .none 0 0] 340 (0,0))=x1;intro hB3 hE3 hs3;refine zaD (P:=Tryz.prog) (t:=340) (l:=[.slice ao no co,vi r.dat.ty,v32 r.ttl,.slice .none 0 0]) hB3 rfl (fun v h=>by simp at h;rcases h with rfl|rfl|rfl|rfl<;>rfl) rfl rfl ?_;intro x2 hs4 hB4 hk4;refine⟨.inl rfl,?_⟩;refine sg0 ?_;apply hK;have hE2:Ext v x2:=Keep.to_ext (hx.trans hE3) rfl (fun b hb=>by have:=hx.size;omega) hk4;have hsx:=hx.size;have hx2:x2.heap.size=x.heap.size+1:=by omega
  obtain⟨b3,hb3⟩:∃b3,x.heap.size=b3:=⟨_,rfl⟩;rw[hb3]at hB4 hsx hx2 ⊢;clear hk4 hs4 hB3 hE3 hs3;clear e0 e1 e2 hbc1 hx hb3;clear x1 x;refine gz0 ?_;refine zao (fun m2 σ ds v3=>ds=[]/\∃(n:Nat) (tl:Int) (dv:Value),n+m2=D.length/\σ 4=vi n/\σ 0= .func (.yield lp) #[] #[]/\σ 1= .pointer (some ⟨bl,0,.none⟩)/\σ 3= .pointer (some ⟨b3,0,.none⟩)/\
   v3.heap[b3]? =some (.cells [.slice ao no co,vi r.dat.ty,v32 tl,dv].toArray 340 (0,0))/\tl=(D.take n).foldl (fun t x=>min t x.ttl) r.ttl/\Owns 5 (DatAt w0) x2.heap.size v3 197 dv ((D.take n).map RecL.dat)/\Ext v v3/\x2.heap.size<=v3.heap.size/\
   ∀j (h:j<D.length),j<n->isL r.owner r.dat.ty D[j]=true) D.length ?_ ?_
  ·exact⟨rfl,0,r.ttl,.slice .none 0 0,by omega,vr0,vq1 hs0,vq1 hs1,vq0,hB4,rfl,Owns.nil _ _ _ _ _,hE2,ynl _,fun j h hj=>absurd hj (by omega)⟩
  rintro m2 σ ds v3 ⟨rfl,n,tl,dv,hnm,t4,t0,t1,t3,hB,htl,hdv,hE3,hs3,hlow⟩;repeat refine c_r ?_
  have hcur:∀{x:World},Ext v x->zad x (some ⟨bl,0,.none⟩)=some (.slice (some xL) D.length cL):=fun hx=>zaa hx hbc;have hb3v:v.heap.size<=b3:=hsx;have hEw3:=hEv.trans hE3;refine zaw (Q:=fun e σ' ds' v'=>e= .normal/\ds'=[]/\σ' 4=vi n/\σ' 0= .func (.yield lp) #[] #[]/\σ' 1= .pointer (some ⟨bl,0,.none⟩)/\σ' 3= .pointer (some ⟨b3,0,.none⟩)/\Ext v3 v'/\σ' 33= .bool (tst D n (isL r.owner r.dat.ty))) ?_ ?_
  ·by_cases hk:n<D.length
   ·rw[zdZ hk];obtain⟨cn,hcn,hRn⟩:=hgL n hk;have hkd:decide ((n:Int)<(D.length:Int))=true:=yet (by omega);have hk0:=cj n;have hk1:(n:Int)<(D.length:Int):=by omega
    refine zaJ (fun _=>false) [(0,true),(1,true),(2,true),(3,true),(4,true),(5,true),(6,true),(7,true),(8,true),(9,true),(10,false),(11,true)] NoS mixed (by kernel_rfl) ?_;intro gd K x hgd hx hxe hK;clear hxe;have hg4:=gk 4 26 hgd rfl;have d1:=zac (hE3.trans hx) hcn;have d2:=hcur (hE3.trans hx);have d3:=zae (n:=4) (Ext.at hx hB) rfl;simp (disch:=first|omega|assumption|rfl) only[go_sem,t4,t0,t1,t3,hkd,decide_true,hk0,hk1,d1,d2,d3,↓hg4];refine Fn.mono (is_ok x _ _ _ r.owner r.dat.ty cn D[n] (o1.ext (hEw3.trans hx)) (hRn.ext (hEw3.trans hx)) (hr▸(hDok _ (List.getElem_mem hD0)).lb) (hr▸(hDok _ (List.getElem_mem hD0)).len) (hDok _ (List.getElem_mem hk))) ?_;rintro _ y ⟨rfl,hy⟩;refine⟨.inr hy,?_⟩;simp (disch:=first|omega|assumption|rfl) only[go_sem,↓hg4];apply hK;exact⟨rfl,rfl,vq1 t4,vq1 t0,by simp only[go_sem,t1],vq1 t3,hx.trans hy,vq0⟩
   ·rw[zen hk];have hkd:decide ((n:Int)<(D.length:Int))=false:=yef (by omega);refine zaJ (fun _=>false) [(0,true),(1,true),(2,true),(3,true),(4,true),(5,true),(6,true),(7,true),(8,true),(9,true),(10,false),(11,true)] NoS mixed (by kernel_rfl) ?_;intro gd K x hgd hx hxe hK;clear hxe;have hg4:=gk 4 26 hgd rfl;have d2:=hcur (hE3.trans hx);simp (disch:=first|omega|assumption|rfl) only[go_sem,t4,t0,t1,t3,hkd,d2,↓hg4];apply hK;exact⟨rfl,rfl,vq1 t4,vq1 t0,by simp only[go_sem,t1],vq1 t3,hx,vq0⟩
  clear t4 t0 t1 t3;rintro _ σ1 _ v4 ⟨rfl,rfl,t4,t0,t1,t3,hE4,t33⟩;have hB4':=hE4.at hB;have hdv4:=hdv.ext hE4;have hE34:=hE3.trans hE4;have hs34:x2.heap.size<=v4.heap.size:=Nat.le_trans hs3 hE4.size;clear hB hdv hEw3;repeat refine c_r ?_
  refine zay (t:=tst D n (isL r.owner r.dat.ty)) ((vq1 t33)) ?_ ?_
  ·intro ht;have hk:n<D.length:=Classical.byContradiction fun h=>by rw[zen h]at ht;cases ht
   rw[zdZ hk]at ht;have hk0:=cj n;have hk1:(n:Int)<(D.length:Int):=by omega
   have hk1':=ci n;obtain⟨cn,hcn,hRn⟩:=hgL n hk;obtain⟨_,dsn,_,_,n2,_,gn1,_,gnd⟩:=hRn.cells;obtain⟨xn,hxn⟩:∃xn,adr (some xL) (n*7)=some xn:=⟨_,rfl⟩;rw[hxn]at hcn;have f1:zad v (adr (some xn) 1)=some (v32 D[n].ttl):=by
    obtain⟨hj1,hj2⟩:=List.getElem?_eq_some_iff.1 gn1;have:=zch hcn hj1;rw[hj2]at this;exact this
   have f2:zan v (adr (some xn) 2) 5=some dsn:=by
    have:=za9 (m:=2) (k:=5) hcn
    rwa [gnd]at this
   repeat refine c_r ?_
   refine zaJ (fun i=>i==9) [(0,true),(1,true),(2,true),(3,true),(4,true),(5,true),(6,true),(7,false),(8,true),(9,false)] NoS mixed (by kernel_rfl) ?_;intro gd K x hgd hx hxe hK;clear hxe;have d1:=zaa (hE34.trans hx) f1;have d2:=hcur (hE34.trans hx);have d3:zad x (some ⟨b3,2,.none⟩)=some (v32 tl):=zcr (Ext.at hx hB4') rfl;refine sgz (az2 (az7 t4 t0 t1 t3 hk0 hk1 hxn) (az4 d1 d2 d3 yn0)) ?_;refine zlh vr0 vr0 ?_;refine⟨.inr (Keep.refl _ _),?_⟩;refine sgz (az2 t3 yn0) ?_;refine zaU (P:=Tryz.prog) (t:=199) (j:=2) (Ext.at hx hB4') (by simp) rfl rfl rfl ?_;intro v5 hs5 hB5 hk5;refine⟨.inl rfl,?_⟩;refine sg0 ?_;apply hK;have hE5:Ext v v5:=Keep.to_ext (hE34.trans hx) rfl (fun i hi=>by omega) hk5;have hdv5:=(hdv4.ext hx).keep hk5 (fun b hb hb2=>by have:=(hdv4.ge hb).1;omega);have hs5':x2.heap.size<=v5.heap.size:=by have:=hx.size;omega
   clear hk5 hs5 d1 d2 d3 hx x hdv4 hB4' hE4 hE34;repeat refine c_r ?_
   have hb3x:b3<x2.heap.size:=by omega
   have hxb:xn.block<x2.heap.size:=by
    have h1:=zfa f2 (by decide) (a:=xn.add 2) rfl;rw[zbq]at h1;omega
   have hbl2:bl<x2.heap.size:=by have:=(Array.getElem?_eq_some_iff.1 hbx).1;omega
   refine zaJ (fun i=>i==10) [(0,true),(1,true),(2,true),(3,true),(4,true),(5,true),(6,true),(7,false),(8,false),(9,true),(10,false)] (zbE x2.heap.size) mixed (by kernel_rfl) ?_;intro gd K x hgd hx hxe hK;have hx0:=zez hxe;clear hxe;have d1:=zac (hE5.trans hx0) f2;have d2:=hcur (hE5.trans hx0);have d3:zad x (some ⟨b3,3,.none⟩)=some dv:=zcr (Ext.at hx0 hB5) rfl;refine sgz (az2 (az7 t4 t0 t1 t3 hk0 hk1 hxn) (az4 d1 d2 d3 yn0)) ?_;refine⟨zcw hb3x,zcw hbl2,zll hxb,?_⟩;refine zaR (zaP w0) (by rfl) (by rfl) (by rfl) (by rfl) n2 (by decide) ?_;intro y1 hy1 hys1 hyo;refine⟨.inr hy1.keep,?_⟩;refine sg0 ?_;have hsx1:=hx.size;refine zaG (zaP w0) ((hdv5.ext hx0).ext hy1) hyo.rows (by rfl) (by rfl) (by rfl) (by rfl) (by rfl) (by rfl) (by decide) vr0 vr0 (by simp;omega) (by decide) (by omega) ?_;intro dv' y2 hdv6 hy2 hky2 _;refine⟨.inr (hky2.mono fun b _ hb=>by have:=(hdv5.ge hb).1;show _<=_;omega),?_⟩;have hE6:=hy2 v ((hE5.trans hx0).trans hy1) (by omega);have hB6:=(hky2.block b3 (by omega) (fun hb=>by have:=(hdv5.ge hb).1;omega)).trans (Ext.at (hx0.trans hy1) hB5);refine sgz (az2 t3 yn0) ?_;refine zaU (P:=Tryz.prog) (t:=181) (j:=3) hB6 (by simp) (by
    obtain⟨a9,c9,h9,_⟩:=hdv6.rows.open;rw[h9];rfl) rfl rfl ?_
   intro v6 hs6 hB7 hk6;refine⟨.inl rfl,?_⟩;refine sg0 ?_;apply hK;refine gz (az2 t4 hk1') ?_;have hE7:Ext v v6:=Keep.to_ext hE6 rfl (fun i hi=>by omega) hk6;have hsy:=hky2.size;have htk:=zal hk;refine⟨m2 - 1,by omega,rfl,n+1,min tl D[n].ttl,dv',by omega,vq0,vq1 t0,by simp only[go_sem,t1],vq1 t3,by simpa using hB7,by rw[htk,List.foldl_append,htl];rfl,?_,hE7,by omega,fun j hj hjn=>?_⟩
   ·rw[htk,List.map_append];exact hdv6.keep hk6 (fun b hb hb2=>by have:=(hdv6.ge hb).1;omega)
   ·by_cases hjn2:j=n
    ·subst hjn2;exact ht
    ·exact hlow j hj (by omega)
  ·intro ht;have hstop:∀h:n<D.length,isL r.owner r.dat.ty D[n]=false:=fun h=>by rw[zdZ h]at ht;exact ht
   obtain⟨etw,edw⟩:=zge (p:=isL r.owner r.dat.ty) (l:=D) (n:=n) (by omega) hlow hstop;have hn0:0<n:=by
    rcases Nat.eq_zero_or_pos n with h|h
    ·subst h;have:=hstop hD0;rw[hr,zgS]at this;cases this
    ·exact h
   have hDr:grp D=mkS r (D.take n)::grp (D.drop n):=by
    have hc:D=r::D.tail:=by
     cases D with
     |nil=>simp at hD0
     |cons y l=>rw[←hr];rfl
    rw[hc,zgW,←hc,etw,edw]
   obtain⟨aD,cD,hdvE,hcD,_⟩:=hdv4.rows.open;have hDn:((D.take n).map RecL.dat).length=n:=by simp;omega
   rw[hDn]at hdvE hcD;rw[hdvE]at hB4' hdv4;have d3:zad v4 (some ⟨b3,3,.none⟩)=some (.slice aD n cD):=zcr hB4' rfl;refine rqz ?_;intro gd K hgd hK;refine sgz (az3 t3 d3 yn0) ?_;refine Fn.mono (P_cd.Clip_ok hcD) ?_;rintro _ y0 ⟨rfl,hy0⟩;refine sgz (az2 t3 yn0) ?_;rw[hy0];clear hy0 y0;refine zaU (P:=Tryz.prog) (t:=181) (j:=3) hB4' (by simp) rfl rfl rfl ?_;intro v5 hs5 hB5 hk5;try simp only[go_sem]
   apply hK;have hE5:Ext v v5:=Keep.to_ext hE34 rfl (fun i hi=>by omega) hk5;have hdv5:=hdv4.keep hk5 (fun b hb hb2=>by have:=(hdv4.ge hb).1;omega);have hrow5:=hdv5.rows.take (m:=n) (c2:=n) (ynl _) (ynl _);rw[List.take_of_length_le (by omega)]at hrow5;have hblk5:BlkB W.heap.size v5 (.slice aD n n):=(hdv5.blk.same).mono (by have:=hKB.size;omega);have hP:=hlC' xL _ _ rfl;have hj5:=hJ pre v v5 hj (hE5.mono (fun _ _ h=>h.elim));have hK5:KeepB W0.heap.size (fun b=>C b\/b=bl) W v5:=hKB.trans (hE5.toB (by have:=hKB.size;omega) (fun _ _ h=>h.elim));have hsuf:∃suf,grp R=pre++mkS r (D.take n)::suf:=⟨_,by rw[hgr,hDr]⟩;have hrow4:=hrow.ext hE5;have hbx5:=Ext.at hE5 hbx;have hEv5:=hEv.trans hE5;clear hk5 hs5 d3 hE34 hE4 hE3 hdv4 hdv5 hB4' hlow t33;refine rqz ?_;intro gd K hgd hK;have d4:=zae (n:=4) hB5 rfl;refine sgz (az5 t4 t0 t1 t3 d4) ?_;refine Yld.mono (hY pre (mkS r (D.take n)) v5 _ hsuf hj5 (by have:=hK5.size;omega) hK5 ⟨_,rfl,⟨_,_,by rw[htl];rfl,o1,hrow5,hblk5⟩⟩) ?_;have hbC2:¬(C bl):=hbC;rintro u x ((⟨rfl,hj',hk',_⟩)| ⟨rfl,hjx⟩)
   ·try simp only[go_sem]
    apply hK;refine wcz ?_ ?_
    ·intro h;simp at h
    intro _;have hx1:x.heap[bl]? =some (.cells #[.slice (some xL) D.length cL] 120 (0,0)):=(hk'.block bl hbn hbC).trans hbx5;have hx2:zad x (some ⟨bl,0,.none⟩)=some (.slice (some xL) D.length cL):=zab hx1 rfl;have hn1:=cj n;have hn2:(n:Int)<=(D.length:Int):=by omega
    refine rqz ?_;intro gd K hgd hK;refine sgz (az5 t4 t1 hx2 hn1 hn2) ?_;refine zaU (P:=Tryz.prog) (t:=120) (j:=0) (l:=[.slice (some xL) D.length cL]) hx1 (by simp) rfl rfl rfl ?_;intro x3 hs7 hB7 hk7;try simp only[go_sem]
    refine en hK ?_;have hKx:KeepB W0.heap.size (fun b=>C b\/b=bl) W x3:=(hK5.trans (hk'.mono (ynl _) (fun _ _ h=> .inl h))).trans (hk7.toB (by have:=hK5.size;have:=hk'.size;omega) (fun i _ h=> .inr h));refine⟨m - n,by omega,rfl,pre++ [mkS r (D.take n)],p+n,.slice (if cL=n then some xL else adr (some xL) (n*7)) (D.length - n) (cL - n),by omega,?_,vq1 t0,by simp only[go_sem,t1],by simpa using hB7,?_,fun a n' c' hv=>?_,hJ _ _ _ hj' (hk7.mono (fun _ _ h=> .inr h)),hKx,?_⟩
    ·rw[hgr,hDr,←hD,List.drop_drop];simp
    ·rw[←List.drop_drop,hD];have h1:Rows 7 (RecAt w0) x3 (.slice (some xL) D.length cL) D:=hrow4.blocks fun a n' c' hv=>by
      injection hv with e1
      injection e1 with e1
      subst e1;exact(hk7.block _ (by have:=hk'.size;have:=hK5.size;omega) hP.2.1).trans (hk'.block _ hP.2.2 hP.1)
     exact h1.drop (by omega)
    ·injection hv with e1
     rw[zkK e1];exact hP
    ·exact⟨(hKx.os.trans hKB.os.symm).trans hEv.os,(hKx.tape.trans hKB.tape.symm).trans hEv.tape,(hKx.output.trans hKB.output.symm).trans hEv.output,by have:=hKx.size;have:=hE0.size;omega,fun b hb h=>by
      have:=(hC0 b);rw[hKx.block b (by have:=hE0.size;omega) (fun h=>by have:=hC0 b h;omega)];exact(hE0.trans hW).block b hb (fun h=>h),by have h1:=(hE0.trans hW).drawn;have h2:=hKx.drawn;exact Nat.le_trans h1 h2⟩
   ·try simp only[go_sem]
    apply hK;refine wcz ?_ ?_
    ·intro _;repeat refine c_r ?_
     refine zaC (by simp) rfl (.inr ⟨_,_,hsuf,hjx⟩)
    ·intro h;simp at h
 ·intro hge;simp only[ydF]at hge;have hDe:D=[]:=List.length_eq_zero_iff.1 (by omega);rw[hDe,zlN,List.append_nil]at hgr;repeat refine c_r ?_
  refine zaC (by simp) rfl (.inl ⟨_,rfl,hgr▸hj⟩)
theorem sets_ok{w0 w:World}(hE0:Ext w0 w){lv:Value}{R:List RecL}(hl:Rows 7 (RecAt w0) w lv R):
  Fn Tryz.prog 281 #[lv] w (fun v w'=>v= .func (.func 298) #[] #[.pointer (some ⟨w.heap.size,0,.none⟩)]/\Ext w w'/\w'.heap.size=w.heap.size+1/\w'.heap[w.heap.size]? =some (.cells #[lv] 120 (0,0))):=by
 refine enter Tryz.func281 Tryz.ntmps281 rfl rfl ?_;repeat refine c_r ?_
 obtain⟨a,n,c,rfl⟩:∃a n c,lv= .slice a n c:=by
  obtain⟨a,c,h,_⟩:=hl.open;exact⟨a,_,c,h⟩
 refine gz0 ?_;refine rt0 Tryz.ntmps281 ?_;exact⟨rfl,Ext.alloc _ _,zai _ _,zau _ _⟩
theorem zdf{w0 w x:World}{n0:Nat}{C:Nat->Prop}(hE:Ext w0 w)(hk:KeepB n0 C w x)(hn:w0.heap.size<=n0)(hC:∀b,C b->w0.heap.size<=b):Ext w0 x:=
 ⟨hk.os.trans hE.os,hk.tape.trans hE.tape,hk.output.trans hE.output,Nat.le_trans hE.size hk.size,fun b hb h=>by
  rw[hk.block b (by omega) (fun h=>by have:=hC b h;omega)];exact hE.block b hb (fun h=>h),Nat.le_trans hE.drawn hk.drawn⟩
theorem Of_ok{w0 w:World}(hE0:Ext w0 w){lv ov:Value}{R:List RecL}{o:Nm}{t:Int}(hl:Rows 7 (RecAt w0) w lv R)(ho:Row w ov (o.map vs))(hlo:LB o)(hol:o.length<=1000000000000000)(hok:∀r∈R,zbr r)(hlen:R.length<=1000000000):
  Fn Tryz.prog 245 #[lv,ov,vi t] w (fun v w'=>Ext w w'/\∃ow ty tl dv,v= .tuple #[.agg #[ow,vi ty,v32 tl,dv],.bool (decide (ofC R o t≠ []))]/\one ow=true/\(ofC R o t≠ []->ty=t)/\Rows 5 (DatAt w0) w' dv ((ofC R o t).map RecL.dat)/\BlkB w.heap.size w' dv):=by
 obtain⟨aR,cR,rfl,hcR,hgR⟩:=hl.open;refine enter Tryz.func245 Tryz.ntmps245 rfl rfl ?_;refine gz0 ?_;rw[zai];refine zaF ?_;intro w1 hE1 hs1 hA hB;refine gz0 ?_;refine zao (fun m σ ds A=>ds=[]/\∃(i:Nat) (mv:Value),i+m=R.length/\σ 14=vi i/\σ 12= .slice aR R.length cR/\σ 13=vi R.length/\σ 8=mv/\σ 1=ov/\σ 2=vi t/\σ 6= .pointer (some ⟨w.heap.size,0,.none⟩)/\σ 7= .pointer (some ⟨w.heap.size+1,0,.none⟩)/\
  Owns 7 (RecAt w0) w1.heap.size A 201 mv ((R.take i).filter (isL o t))/\Ext w1 A) R.length ?_ ?_
 ·exact⟨rfl,0,.slice .none 0 0,by omega,vr0,vq0,vq0,vq0,vq0,vq0,vq0,vq0,Owns.nil _ _ _ _ _,Keep.refl _ _⟩
 rintro m σ ds A ⟨rfl,i,mv,him,h14,h12,h13,h8,h1,h2,h6,h7,hmv,hEA⟩;have hEwA:=hE1.trans hEA;refine gz (az2 h14 h13) ?_;refine wc0 ?_ ?_
 ·intro hlt;simp only[ydT]at hlt;have hiR:i<R.length:=by omega
  have hi0:=cj i;have hi1:(i:Int)<(R.length:Int):=by omega
  have hi1':=ci i;obtain⟨cr,hcr,hRr⟩:=hgR i hiR;obtain⟨r,hr⟩:∃r,R[i]=r:=⟨_,rfl⟩;rw[hr]at hRr;have hrok:zbr r:=hr▸hok _ (List.getElem_mem hiR);obtain⟨xR,rfl⟩:=yxs (zak hcr);have hcrA:=zac hEwA hcr;have hfl:(R.take (i+1)).filter (isL o t)=(R.take i).filter (isL o t)++(if isL o t r then [r] else []):=by
   rw[zal hiR,hr,List.filter_append]
   congr 1
   by_cases h:isL o t r=true<;>simp[h]
  refine rqz ?_;intro gd K hgd hK;refine sgz (az5 h12 h14 hi0 hi1 hcrA) ?_;refine SD.set (P:=Tryz.prog) (t:=201) (zkX A) (j:=0) (by simp) hRr.len hRr.ones rfl rfl ?_;intro A1 hs2 hL1 hk1;have hX1:=Ext.alloc A (.cells #[.slice .none 0 0,v32 0,vi 0,.slice .none 0 0,.slice .none 0 0,.slice .none 0 0,.slice .none 0 0] 201 (0,0));have hEA1:Ext A A1:=Keep.to_ext hX1 rfl (fun i hi=>by omega) hk1;clear hk1 hX1 hs2;try simp only[go_sem]
  apply hK;have hg10:=hL1.get (j:=0) (by simp);have hE1':=hEwA.trans hEA1;obtain⟨ao,no,co,hov⟩:∃a n c,ov= .slice a n c:=by
   obtain⟨a,c,h,_⟩:=ho;exact⟨_,_,_,h⟩
  refine rqz ?_;intro gd K hgd hK;refine sgz (az3 h1 h2 hg10) ?_;rw[hov];refine⟨by kernel_rfl,?_⟩;rw[show bdV Tryz.prog 340 [(0,.slice ao no co),(1,vi t)]=some (.agg #[.slice ao no co,vi t,v32 0,.slice .none 0 0]) from by kernel_rfl];rw[←hov];refine sgz hg10 ?_;refine Fn.mono (is_ok A1 ov _ _ o t cr r (ho.ext hE1') (hRr.ext (hE0.trans hE1')) hlo hol hrok) ?_;rintro _ A2 ⟨rfl,hEA2⟩;try simp only[go_sem]
  apply hK;have hEA':=hEA.trans (hEA1.trans hEA2);have hmv2:=(hmv.ext hEA1).ext hEA2;have hg10':=zac hEA2 hg10;refine wcz ?_ ?_
  ·intro ht;refine rqz ?_;intro gd K hgd hK;refine sgz (az2 h8 hg10') ?_;refine zaR (zbn w0) (by rfl) (by rfl) (by rfl) (by rfl) hRr (by decide) ?_;intro A3 hE3 hs3 ho3;try simp only[go_sem]
   refine zaG (zbn w0) (hmv2.ext hE3) ho3.rows (by rfl) (by rfl) (by rfl) (by rfl) (by rfl) (by rfl) (by decide) (by rfl) (by rfl) (by have:=List.length_filter_le (isL o t) (R.take i);simp at this ⊢;omega) (by decide) (by have:=hEA'.size;omega) ?_;intro mv' A4 hmv4 hE4 _ _;try simp only[go_sem]
   apply hK;refine gz (az2 h14 hi1') ?_;exact⟨m - 1,by omega,rfl,i+1,mv',by omega,vq0,vq1 h12,vq1 h13,vq0,vq1 h1,vq1 h2,vq1 h6,vq1 h7,by rw[hfl,if_pos ht];exact hmv4,hE4 w1 (hEA'.trans hE3) (ynl _)⟩
  ·intro ht;refine gz (az2 h14 hi1') ?_;exact⟨m - 1,by omega,rfl,i+1,mv,by omega,vq0,vq1 h12,vq1 h13,vq1 h8,vq1 h1,vq1 h2,vq1 h6,vq1 h7,by rw[hfl,if_neg (by rw[ht];exact Bool.false_ne_true),List.append_nil];exact hmv2,hEA'⟩
 ·intro hge;simp only[ydF]at hge;rw[List.take_of_length_le (by omega)]at hmv;have hcl:(R.filter (isL o t)).length<=R.length:=List.length_filter_le _ _;refine rqz ?_;intro gd K hgd hK;refine sgz h8 ?_;refine Fn.mono (zjP w0 A (hE0.trans hEwA) hmv.rows (fun r hr=>hok r (List.mem_filter.1 hr).1) (by omega)) ?_;rintro cv A1 ⟨hcv,hEA1,hcb⟩;try simp only[go_sem]
  refine Fn.mono (sets_ok (hE0.trans (hEwA.trans hEA1)) hcv) ?_;rintro _ A2 ⟨rfl,hEA2,hsz2,hbx⟩;try simp only[go_sem]
  apply hK;have hOC:zaN (R.filter (isL o t))=ofC R o t:=rfl;rw[hOC]at hcv;have hE02:=(hE0.trans (hEwA.trans hEA1)).trans hEA2;have hEw2:=(hEwA.trans hEA1).trans hEA2;have hC6:=Ext.at ((hEA.trans hEA1).trans hEA2) hA;have hC7:=Ext.at ((hEA.trans hEA1).trans hEA2) hB;have s1:=hE1.size;have s2:=hEA.size;have s3:=hEA1.size;have s4:=hE0.size;have hit:=setsIt (C:=fun b=>b=w.heap.size\/b=w.heap.size+1) hE02 hbx (hcv.ext hEA2) (by omega) (fun b hb=>by omega) (fun a n c hv=>by
   have:=hcb a n c hv;exact⟨by omega,by omega,by omega⟩) (fun r hr=>by
    have:=zbI (Q:=zbr) (fun a b h=>⟨h.lb,h.len,h.dat⟩) (l:=R.filter (isL o t)) (fun x hx=>hok x (List.mem_filter.1 hx).1);exact this r hr) (by have:=zci (R.filter (isL o t));unfold ofC;omega)
  repeat refine c_r ?_
  refine W_rangeT (g:=298) (cap:=#[.pointer (some ⟨A1.heap.size,0,.none⟩)]) vq0 rfl hit (Keep.refl _ _) (ynl _) (fun b hb=>by omega) (fun b hb=>by omega)
   (fun x B args h=>by obtain⟨cs,h,_⟩:=h;rw[h];rfl)
   (fun pre B=>pre=[]/\Ext w B/\B.heap[w.heap.size]? =some (.cells #[.slice .none 0 0,vi 0,v32 0,.slice .none 0 0] 340 (0,0))/\B.heap[w.heap.size+1]? =some (.cells #[.bool false] 4 (0,0)))
   (fun c pre B=>c= .ret/\∃s cs,pre=[s]/\Ext w B/\SetAt w0 (A2.heap.size+2) B cs s/\B.heap[w.heap.size]? =some (.cells cs.toArray 340 (0,0))/\B.heap[w.heap.size+1]? =some (.cells #[.bool true] 4 (0,0))) ?_ ?_ ?_ ?_ ?_ ?_
  ·rintro pre B B' ⟨rfl,hEB,h6',h7'⟩ hk;exact⟨rfl,Keep.to_ext hEB rfl (fun b hb=>by unfold span at hb;omega) hk,(hk.block _ (Array.getElem?_eq_some_iff.1 h6').1 (by unfold span;omega)).trans h6',(hk.block _ (Array.getElem?_eq_some_iff.1 h7').1 (by unfold span;omega)).trans h7'⟩
  ·rintro c pre B B' ⟨rfl,s,cs,rfl,hEB,⟨ow,dv,hcs,k1,k2,k3⟩,h6',h7'⟩ hk;exact⟨rfl,s,cs,rfl,Keep.to_ext hEB rfl (fun b hb=>by unfold span at hb;omega) hk,⟨ow,dv,hcs,k1,k2.keep hk k3 (fun b hb hb2=>by unfold span;omega),k3.ext hk.size⟩,(hk.block _ (Array.getElem?_eq_some_iff.1 h6').1 (by unfold span;omega)).trans h6',(hk.block _ (Array.getElem?_eq_some_iff.1 h7').1 (by unfold span;omega)).trans h7'⟩
  ·exact⟨rfl,hEw2,hC6,hC7⟩
  ·rintro lp pre s B args ⟨suf,hgr⟩ hszB ⟨rfl,hEB,hb6,hb7⟩ ⟨cs,rfl,ow,dv,hcs,k1,k2,k3⟩;obtain⟨ao,co,rfl,_⟩:=k1;obtain⟨ad,cd,rfl,_⟩:=k2.open;have hc1:∀v∈cs,one v=true:=fun v hv=>by
    rw[hcs]at hv;simp at hv;rcases hv with rfl|rfl|rfl|rfl<;>rfl
   have hcl:cs.length=4:=by rw[hcs];rfl
   refine rq ?_;intro gd K hgd hK;try simp only[go_sem]
   have hB3:=zau B (.cells #[.slice .none 0 0,vi 0,v32 0,.slice .none 0 0] 340 (0,0));have hE3:=Ext.alloc B (.cells #[.slice .none 0 0,vi 0,v32 0,.slice .none 0 0] 340 (0,0));revert hB3 hE3;generalize B.alloc (.cells #[.slice .none 0 0,vi 0,v32 0,.slice .none 0 0] 340 (0,0))=x1;intro hB3 hE3;refine zaD (P:=Tryz.prog) (t:=340) (l:=cs) hB3 hcl hc1 (by rw[hcl];rfl) rfl ?_;intro x2 hs4 hB4 hk4;try simp only[go_sem]
   apply hK;have hEx:Ext B x2:=Keep.to_ext hE3 rfl (fun b hb=>by omega) hk4;refine zas ?_;refine⟨rfl,hEx.toB (by omega) (fun _ _ h=>h.elim),fun Y hY=>?_⟩;have hxs:=hEx.size;have hB5:=(hY.block B.heap.size (Array.getElem?_eq_some_iff.1 hB4).1 (by unfold two;omega)).trans hB4;have hb6':=(hY.block w.heap.size (by omega) (by unfold two;omega)).trans (Ext.at hEx hb6);have hb7':=(hY.block (w.heap.size+1) (by omega) (by unfold two;omega)).trans (Ext.at hEx hb7);have k2':=(k2.ext hEx).keep hY (k3.ext hxs) (fun b hb hb2=>by unfold two;omega);have hEY:Ext w Y:=Keep.to_ext (hEB.trans hEx) rfl (fun b hb=>by unfold two at hb;omega) hY;have d1:=zae (n:=4) hB5 hcl.symm;have hYs:=hY.size;refine rqz ?_;intro gd K hgd hK;refine sgz (az3 h6 h7 d1) ?_;refine zaD (P:=Tryz.prog) (t:=340) (l:=cs) hb6' hcl hc1 (by rw[hcl];rfl) rfl ?_;intro z1 hz1 hbz1 hkz1;refine sgz (az2 h6 h7) ?_;have hb7z:=(hkz1.block (w.heap.size+1) (by omega) (by omega)).trans hb7';refine zaU (P:=Tryz.prog) (t:=4) (j:=0) (l:=[.bool false]) hb7z (by simp) rfl rfl rfl ?_;intro z2 hz2 hbz2 hkz2;try simp only[go_sem]
   refine en hK ?_;have hkz:Keep (fun b=>b=w.heap.size\/b=w.heap.size+1) Y z2:=(hkz1.mono (fun b _ h=> .inl h)).trans (hkz2.mono (fun b _ h=> .inr h));refine⟨⟨rfl,s,cs,rfl,Keep.to_ext hEY rfl (fun b hb=>by omega) hkz,⟨_,_,hcs,⟨ao,co,rfl,‹_›⟩,k2'.keep hkz (k3.ext (by omega)) (fun b hb hb2=>by omega),k3.ext (by omega)⟩,(hkz2.block w.heap.size (by omega) (by omega)).trans hbz1,by simpa using hbz2⟩,hkz.toB (by omega) (fun i _ h=>h)⟩
  ·rintro xs B rfl hszB ⟨hxs,hEB,hb6,hb7⟩ hD;have hnil:ofC R o t=[]:=by
    cases hq:ofC R o t with
    |nil=>rfl
    |cons r l=>rw[hq,zgW]at hxs;cases hxs
   refine rqz ?_;intro gd K hgd hK;refine sgz (az2 h6 h7) ?_;refine⟨by kernel_rfl,?_⟩;rw[show bdV Tryz.prog 340 []=some (.agg #[.slice .none 0 0,vi 0,v32 0,.slice .none 0 0]) from by kernel_rfl];refine sgz (az2 h6 h7) ?_;refine zaD (P:=Tryz.prog) (t:=340) (l:=[.slice .none 0 0,vi 0,v32 0,.slice .none 0 0]) hb6 rfl (fun v h=>by simp at h;rcases h with rfl|rfl|rfl|rfl<;>rfl) rfl rfl ?_;intro z1 hz1 hbz1 hkz1;refine sgz (az2 h6 h7) ?_;have hb7z:=(hkz1.block (w.heap.size+1) (by omega) (by omega)).trans hb7;refine zaU (P:=Tryz.prog) (t:=4) (j:=0) (l:=[.bool false]) hb7z (by simp) rfl rfl rfl ?_;intro z2 hz2 hbz2 hkz2;try simp only[go_sem]
   refine en hK ?_;have hkz:Keep (fun b=>b=w.heap.size\/b=w.heap.size+1) B z2:=(hkz1.mono (fun b _ h=> .inl h)).trans (hkz2.mono (fun b _ h=> .inr h));have hEz:Ext w z2:=Keep.to_ext hEB rfl (fun b hb=>by omega) hkz;have hD2:=(hkz.block _ (by omega) (by omega)).trans hD;have c6:=(hkz2.block w.heap.size (by omega) (by omega)).trans hbz1;refine zbz (.inr rfl) Tryz.ntmps245 rfl hD2 ?_;intro Z hkZ hsZ;refine⟨_,zaI (x:=⟨w.heap.size,0,.none⟩) (k:=4) ((vq1 h6)) rfl rfl (zae (l:=[.slice .none 0 0,vi 0,v32 0,.slice .none 0 0]) ((hkZ.block w.heap.size (by omega) (by omega)).trans c6) rfl) (zgE (x:=⟨w.heap.size+1,0,.none⟩) ((vq1 h7)) rfl rfl (zcr (j:=0) (l:=[.bool false]) ((hkZ.block (w.heap.size+1) (by omega) (by omega)).trans (by simpa using hbz2)) rfl) zap),Keep.to_ext hEz rfl (fun b hb=>by omega) hkZ,_,_,_,_,by rw[hnil];rfl,rfl,fun h=>absurd hnil h,by rw[hnil];exact Rows.nil _ _ _,BlkB.nil⟩
  ·rintro c pre s B hszB ⟨suf,hgr⟩ ⟨rfl,s',cs,hpre,hEB,⟨ow,dv,hcs,k1,k2,k3⟩,hb6,hb7⟩ hD;have hp0:pre=[]:=by
    have:=congrArg List.length hpre;simp at this;exact this
   subst hp0;have hss:s=s':=by simpa using hpre
   subst hss;have hne:ofC R o t≠ []:=fun h=>by rw[h,zlN]at hgr;cases hgr
   obtain⟨r,l,hrl⟩:∃r l,ofC R o t=r::l:=by
    cases hq:ofC R o t with
    |nil=>exact absurd hq hne
    |cons r l=>exact⟨r,l,rfl⟩
   have hall:=ofC_is (R:=R) (o:=o) (t:=t);rw[hrl]at hall;rw[hrl,grp_one hall]at hgr;have hs:s=mkS r (r::l):=by
    injection hgr with h1 _
    exact h1.symm
   have hty:=hall r (List.mem_cons_self ..);simp only[isL,Bool.and_eq_true,ydT]at hty;have hcl:cs.length=4:=by rw[hcs];rfl
   repeat refine c_r ?_
   refine zbz (.inr rfl) Tryz.ntmps245 rfl hD ?_;intro Z hkZ hsZ;refine⟨_,zaI (x:=⟨w.heap.size,0,.none⟩) (k:=4) ((vq1 h6)) rfl rfl (zae ((hkZ.block w.heap.size (by omega) (by omega)).trans hb6) hcl.symm) (zgE (x:=⟨w.heap.size+1,0,.none⟩) ((vq1 h7)) rfl rfl (zcr (j:=0) (l:=[.bool true]) ((hkZ.block (w.heap.size+1) (by omega) (by omega)).trans (by simpa using hb7)) rfl) zap),Keep.to_ext hEB rfl (fun b hb=>by omega) hkZ,ow,s.ty,s.ttl,dv,by rw[hcs,show decide (ofC R o t≠ [])=true from yet hne];rfl,?_,fun _=>by rw[hs];exact hty.1.symm,?_,?_⟩
   ·obtain⟨_,_,e,_⟩:=k1;rw[e];rfl
   ·have:=k2.keep hkZ k3 (fun b hb hb2=>by omega);rw[hs]at this;rw[hrl];exact this
   ·exact(k3.ext (by omega)).mono (by omega)
structure Tell(w0 w:World)(g:FuncId)(cap:List Value)(p:RecL->Bool)(R:List RecL):Prop where
 call:zar Tryz.prog g=true
 tell:∀(A:World) (cs:List Value) (r:RecL),Ext w A->r∈R->RecAt w0 cs r->Fn Tryz.prog g (.agg cs.toArray::cap).toArray A (fun v A'=>v= .bool (p r)/\Ext A A')
theorem zih{w0 w:World}{lv:Value}{R:List RecL}{g:FuncId}{cap:List Value}{p:RecL->Bool}(hl:Rows 7 (RecAt w0) w lv R)(ht:Tell w0 w g cap p R)(hlen:R.length<=1000000000):
  Fn Tryz.prog 279 #[lv,.func (.func g) #[] cap.toArray] w (fun v w'=>Ext w w'/\∃i:Int,v=vi i/\decide (i>=0)=R.any p):=by
 obtain⟨hcal,htell⟩:=ht;obtain⟨aR,cR,rfl,hcR,hgR⟩:=hl.open;refine enter Tryz.func279 Tryz.ntmps279 rfl rfl ?_;refine gz0 ?_;refine zao (fun m σ ds A=>ds=[]/\∃(i:Nat),i+m=R.length/\σ 8=vi i/\σ 7=vi R.length/\σ 0= .slice aR R.length cR/\σ 1= .func (.func g) #[] cap.toArray/\Ext w A/\∀j (h:j<R.length),j<i->p R[j]=false) R.length ?_ ?_
 ·exact⟨rfl,0,by omega,vr0,vq0,vq0,vq0,Keep.refl _ _,fun j h hj=>absurd hj (by omega)⟩
 rintro m σ ds A ⟨rfl,i,him,h8,h7,h0,h1,hEA,hlow⟩;refine gz (az2 h8 h7) ?_;refine wc0 ?_ ?_
 ·intro hlt;simp only[ydT]at hlt;have hiR:i<R.length:=by omega
  have hi0:=cj i;have hi1:(i:Int)<(R.length:Int):=by omega
  have hi1':=ci i;obtain⟨cr,hcr,hRr⟩:=hgR i hiR;obtain⟨xR,rfl⟩:=yxs (zak hcr);have hcrA:=zac hEA hcr;refine gz h8 ?_;refine rq ?_;intro gd K hgd hK;refine sgz (az5 h0 h1 hi0 hi1 hcrA) ?_;refine zcC hcal (Fn.mono (htell A cr R[i] hEA (List.getElem_mem hiR) hRr) ?_);rintro _ A1 ⟨rfl,hE1⟩;try simp only[go_sem]
  apply hK;refine wcz ?_ ?_
  ·intro ht;refine gz0 ?_;refine rt0 Tryz.ntmps279 ?_;refine⟨hEA.trans hE1,_,rfl,?_⟩;rw[show R.any p=true from List.any_eq_true.2 ⟨_,List.getElem_mem hiR,ht⟩];exact yet (by omega)
  ·intro ht;refine gz (az2 h8 hi1') ?_;refine⟨m - 1,by omega,rfl,i+1,by omega,vq0,vq1 h7,vq1 h0,vq1 h1,hEA.trans hE1,fun j hj hji=>?_⟩;by_cases hj2:j=i
   ·subst hj2;exact ht
   ·exact hlow j hj (by omega)
 ·intro hge;simp only[ydF]at hge;refine gz0 ?_;refine rt0 Tryz.ntmps279 ?_;refine⟨hEA,_,rfl,?_⟩;have:R.any p=false:=by
   rw[List.any_eq_false];intro x hx;obtain⟨j,hj,rfl⟩:=List.getElem_of_mem hx;rw[hlow j hj (by omega)];exact Bool.false_ne_true
  rw[this];rfl
theorem zdY{w0 w:World}{lv:Value}{R:List RecL}{g:FuncId}{cap:List Value}{p:RecL->Bool}(hl:Rows 7 (RecAt w0) w lv R)(ht:Tell w0 w g cap p R)(hlen:R.length<=1000000000):
  Fn Tryz.prog 243 #[lv,.func (.func g) #[] cap.toArray] w (fun v w'=>v= .bool (R.any p)/\Ext w w'):=by
 refine enter Tryz.func243 Tryz.ntmps243 rfl rfl ?_;refine gz0 ?_;refine rq ?_;intro gd K hgd hK;try simp only[go_sem]
 refine Fn.mono (zih hl ht hlen) ?_;rintro _ w1 ⟨hE1,i,rfl,hi⟩;try simp only[go_sem]
 refine en hK ?_;refine rt0 Tryz.ntmps243 ?_;exact⟨by rw[hi],hE1⟩
theorem tell_Has{w0 w:World}{bt bn:Nat}{nv:Value}{n:Nm}{t:Int}{R:List RecL}(hE0:Ext w0 w)(ht:w.heap[bt]? =some (.cells #[vi t] 3 (0,0)))(hn:w.heap[bn]? =some (.cells #[nv] 27 (0,0)))(hrn:Row w nv (n.map vs))(hnb:LB n)(hnl:n.length<=1000000000000000)(hok:∀r∈R,zbr r):
  Tell w0 w 244 [.pointer (some ⟨bt,0,.none⟩),.pointer (some ⟨bn,0,.none⟩)] (isL n t) R:=by
 refine⟨rfl,fun A cs r hE hr hcs=>?_⟩;have hcs':=hcs;obtain⟨ow,ds,rfl,a1,a2⟩:=hcs.ex;obtain⟨nm,nu,tx,rw',rfl,_⟩:=a2.ex;refine enter Tryz.func244 Tryz.ntmps244 rfl rfl ?_;refine gz0 ?_;refine zax ?_;intro A1 hE1 hs1 hA;have p0:zad A1 (some ⟨A.heap.size,0,.none⟩)=some ow:=zab hA rfl;have p2:zad A1 (some ⟨A.heap.size,2,.none⟩)=some (vi r.dat.ty):=zab hA rfl;have q0:zad A1 (some ⟨bt,0,.none⟩)=some (vi t):=zaa (hE.trans hE1) (zab ht rfl);have q1:zad A1 (some ⟨bn,0,.none⟩)=some nv:=zaa (hE.trans hE1) (zab hn rfl);by_cases hty:r.dat.ty=t
 ·refine rq ?_;intro gd K hgd hK;have hg5:=gk 5 10 hgd rfl;try simp (disch:=first|omega|assumption|rfl) only[go_sem,p0,p2,q0,q1,Nat.add_zero,yet hty,↓hg5]
  refine Fn.mono (zeF _ _ _ _ _ (a1.ext (hE0.trans (hE.trans hE1))) (hrn.ext (hE.trans hE1)) (hok r hr).lb hnb (by have:=(hok r hr).len;omega) (by omega)) ?_;rintro _ A2 ⟨rfl,hE2⟩;try simp only[go_sem]
  refine en hK ?_;refine rt0 Tryz.ntmps244 ?_;refine⟨?_,hE1.trans hE2⟩;unfold isL;rw[yet hty.symm,Bool.true_and];exact congrArg _ (decide_eq_decide.2 ⟨fun h=>h.symm,fun h=>h.symm⟩)
 ·refine rq ?_;intro gd K hgd hK;have hg5:=gk 5 10 hgd rfl;try simp (disch:=first|omega|assumption|rfl) only[go_sem,p0,p2,q0,q1,Nat.add_zero,yef hty,↓hg5]
  refine en hK ?_;refine rt0 Tryz.ntmps244 ?_;refine⟨?_,hE1⟩;unfold isL;rw[yef (fun h=>hty h.symm),Bool.false_and]
structure ZnAt(w0 w:World)(ov lv:Value)(o:Nm)(R:List RecL):Prop where
 e0:Ext w0 w
 org:Row w ov (o.map vs)
 recs:Rows 7 (RecAt w0) w lv R
 lb:LB o
 ol:o.length<=1000000000000
 ok:∀r∈R,zbr r
 rl:R.length<=1000000000
theorem ZnAt.ext{w0 w x:World}{ov lv:Value}{o:Nm}{R:List RecL}(h:ZnAt w0 w ov lv o R)(hE:Ext w x):ZnAt w0 x ov lv o R:=
 ⟨h.e0.trans hE,h.org.ext hE,h.recs.ext hE,h.lb,h.ol,h.ok,h.rl⟩
structure NmS(n:Nm):Prop where
 lb:LB n
 len:n.length<=1000000000000
theorem NmS.drop{n:Nm}(h:NmS n)(k:Nat):NmS (n.drop k):=⟨h.lb.drop k,by have:=h.len;simp;omega⟩
theorem Has_ok{w0 w:World}{ov lv nv:Value}{o n:Nm}{R:List RecL}{t:Int}(hz:ZnAt w0 w ov lv o R)(hn:Row w nv (n.map vs))(hok:NmS n):
  Fn Tryz.prog 197 #[.agg #[ov,lv],nv,vi t] w (fun v w'=>v= .bool (R.any (isL n t))/\Ext w w'):=by
 obtain⟨ao,co,hov,_⟩:=hz.org;obtain⟨al,cl,hlv,_⟩:=hz.recs.open;obtain⟨an,cn,hnv,_⟩:=id hn;rw[hov,hlv,hnv];refine enter Tryz.func197 Tryz.ntmps197 rfl rfl ?_;refine gz0 ?_;rw[←hov,←hlv,←hnv];simp only[zai];refine zcz ?_;intro w1 hE1 hs1 hA hB hC;have p1:zad w1 (some ⟨w.heap.size,1,.none⟩)=some lv:=zab hA rfl;refine rq ?_;intro gd K hgd hK;refine sgz (az2 p1 yn0) ?_;have hz1:=hz.ext hE1;refine Fn.mono (zdY (cap:=[.pointer (some ⟨w.heap.size+1+1,0,.none⟩),.pointer (some ⟨w.heap.size+1,0,.none⟩)]) hz1.recs (tell_Has hz1.e0 hC hB (hn.ext hE1) hok.lb (by have:=hok.len;omega) hz.ok) hz.rl) ?_;rintro _ w2 ⟨rfl,hE2⟩;try simp only[go_sem]
 refine en hK ?_;refine rt0 Tryz.ntmps197 ?_;exact⟨rfl,hE1.trans hE2⟩
def zbp(n:Nm):Nat->List Nm
 |0=>[n.drop 0]
 |i+1=>n.drop (i+1)::zbp n i
def za8(o n:Nm):List Nm:=if o.length<=n.length then zbp n (n.length - o.length) else []
def hasL(R:List RecL)(n:Nm)(t:Int):Bool:=R.any (isL n t)
def cutP(o:Nm)(R:List RecL)(x:Nm):Bool:=decide (o.length<x.length) && hasL R x 2
def cutL(o:Nm)(R:List RecL)(n:Nm):Option Nm:=if zaV n o then(za8 o n).find? (cutP o R) else .none
def zfe(o:Nm)(R:List RecL)(n:Nm):Int:=if zaV n o then(match cutL o R n with
 | .none=>1
 |some c=>if c.length=n.length then 2 else 3) else 0
def zaK(o:Nm)(R:List RecL)(n:Nm):Bool:=zaV n o && (decide (n.length=o.length)||R.any fun r=>zaV r.owner n)
def zbQ(o:Nm)(R:List RecL)(n:Nm):Nm:=if zaV n o then((za8 o n).takeWhile (zaK o R)).getLast?.getD [] else []
def starL:Lab:=[42]
def ownsL(R:List RecL)(n:Nm):Bool:=R.any fun r=>decide (zaq r.owner=zaq n)
def zbt(o:Nm)(R:List RecL)(n:Nm):Nm:=starL::zbQ o R n
def zaW(o:Nm)(R:List RecL)(n:Nm):Option Nm:=if ownsL R (zbt o R n) then some (zbt o R n) else .none
def datC(R:List RecL)(n:Nm)(t:Int):List DatL:=(ofC R n t).map RecL.dat
def zbe(R:List RecL)(h:Nm):List DatL:=datC R h 1++datC R h 28
theorem zb3{n o:Nm}(h:zaV n o=true):o.length<=n.length:=by
 unfold zaV at h;simp only[Bool.and_eq_true,ydT]at h;exact h.1
theorem zbM{n:Nm}:∀{k:Nat} {x:Nm},x∈zbp n k↔∃i,i<=k/\x=n.drop i
 |0,x=>by
  simp only[zbp,List.mem_singleton];constructor
  ·intro h;exact⟨0,ynl _,h⟩
  ·rintro⟨i,hi,h⟩;have:i=0:=by omega
   subst this;exact h
 |k+1,x=>by
  simp only[zbp,List.mem_cons];rw[zbM];constructor
  ·rintro(h| ⟨i,hi,h⟩)
   ·exact⟨k+1,ynl _,h⟩
   ·exact⟨i,by omega,h⟩
  ·rintro⟨i,hi,h⟩;by_cases hk:i=k+1
   ·subst hk;exact .inl h
   ·exact .inr ⟨i,by omega,h⟩
def encD(W0:World)(x:Nm)(_:World)(args:Array Value):Prop:=∃v,args=#[v]/\Row W0 v (x.map vs)
theorem zl6{wb W0:World}{C:Nat->Prop}{bn bz:Nat}{nv ov lv:Value}{o n:Nm}(hbn:W0.heap[bn]? =some (.cells #[nv] 27 (0,0)))(hbz:W0.heap[bz]? =some (.cells #[ov,lv] 122 (0,0)))(hn:Row wb nv (n.map vs))(ho:Row W0 ov (o.map vs))(hC1:¬C bn)(hC2:¬C bz)
  (hol:o.length<=1000000000000) (hnl:n.length<=1000000000000):
  Iter Tryz.prog 242 #[.pointer (some ⟨bn,0,.none⟩),.pointer (some ⟨bz,0,.none⟩)] W0 W0.heap.size C (za8 o n) (encD wb):=by
 intro lp J Jx W hW hnW hJ hJx hY h0;obtain⟨an,cn,rfl,hcn,hgn⟩:=hn;obtain⟨ao,co,rfl,hco,hgo⟩:=ho;simp only[ylm]at hcn hgn hco hgo hbn hbz;have hln:=(Array.getElem?_eq_some_iff.1 hbn).1;have hlz:=(Array.getElem?_eq_some_iff.1 hbz).1;have p0:zad W (some ⟨bn,0,.none⟩)=some (.slice an n.length cn):=zaa hW (zab hbn rfl);have q0:zad W (some ⟨bz,0,.none⟩)=some (.slice ao o.length co):=zaa hW (zab hbz rfl);refine enter Tryz.func242 Tryz.ntmps242 rfl rfl ?_;repeat refine c_r ?_
 refine rg3 p0 q0 Nat.add_zero ?_;repeat refine c_r ?_
 refine zao (fun m σ ds v=>ds=[]/\∃(pre rest:List Nm) (i:Int),za8 o n=pre++rest/\i+1<=(m:Int)/\σ 4=vi i/\((i<0/\rest=[])\/∃k:Nat,i=k/\k<=n.length/\rest=zbp n k)/\σ 0= .func (.yield lp) #[] #[]/\σ 1= .pointer (some ⟨bn,0,.none⟩)/\σ 2= .pointer (some ⟨bz,0,.none⟩)/\J pre v/\KeepB W0.heap.size C W v) (n.length+1) ?_ ?_
 ·refine⟨rfl,[],za8 o n,(n.length:Int) - o.length,rfl,by omega,vq0,?_,vq0,vq0,vq0,h0,KeepB.refl _ _ _⟩;unfold za8;by_cases hle:o.length<=n.length
  ·rw[if_pos hle];exact .inr ⟨n.length - o.length,by omega,by omega,rfl⟩
  ·rw[if_neg hle];exact .inl ⟨by omega,rfl⟩
 rintro m σ ds v ⟨rfl,pre,rest,i,hd,him,h4,hir,hs0,hs1,hs2,hj,hKB⟩;have p1:zad v (some ⟨bn,0,.none⟩)=some (.slice an n.length cn):=zdC hKB hln hC1 p0;repeat refine c_r ?_
 refine rg1 h4 ?_;repeat refine c_r ?_
 refine wc0 ?_ ?_
 ·intro hge;simp only[ydT,ge_iff_le]at hge;rcases hir with ⟨h,_⟩| ⟨k,rfl,hkn,hrest⟩
  ·omega
  have hk1:(k:Int)<=(n.length:Int):=by omega
  obtain⟨suf,hsuf⟩:∃suf,rest=n.drop k::suf/\((k=0/\suf=[])\/∃j,k=j+1/\suf=zbp n j):=by
   cases k with
   |zero=>exact⟨[],by rw[hrest];rfl,.inl ⟨rfl,rfl⟩⟩
   |succ j=>exact⟨zbp n j,by rw[hrest];rfl,.inr ⟨j,rfl,rfl⟩⟩
  have hrow:Row wb (.slice (if cn=k then an else adr an k) (n.length - k) (cn - k)) ((n.drop k).map vs):=by
   have:=Row.tail (l:=n.map vs) (by simp) hcn (by simpa using hgn) (lo:=k) (by simpa using hkn);rw[←List.map_drop]at this;simpa using this
  have hxs:za8 o n=pre++n.drop k::suf:=by rw[hd,hsuf.1]
  repeat refine c_r ?_
  refine rq ?_;intro gd K hgd hK;try simp (disch:=first|omega|assumption|rfl) only[go_sem,h4,hs0,hs1,p1,hge,hk1]
  refine Yld.mono (hY pre (n.drop k) suf v _ hxs hj hKB ⟨_,rfl,hrow⟩) ?_;rintro u x (⟨rfl,hj',hk'⟩| ⟨rfl,hjx⟩)
  ·try simp only[go_sem]
   refine hK _ _ ?_;clear hK hgd;clear K;try clear gd
   repeat refine c_r ?_
   refine wc0 ?_ ?_
   ·intro h;simp at h
   ·intro _;repeat refine c_r ?_
    refine rg1 h4 ?_;refine zas ?_;refine⟨m - 1,by omega,rfl,pre++ [n.drop k],suf,(k:Int) - 1,by rw[hxs];simp,by omega,vq0,?_,vq1 hs0,vq1 hs1,vq1 hs2,hj',hKB.trans hk'⟩;rcases hsuf.2 with ⟨h1,h2⟩| ⟨j,h1,h2⟩
    ·exact .inl ⟨by omega,h2⟩
    ·exact .inr ⟨j,by omega,by omega,h2⟩
  ·try simp only[go_sem]
   refine hK _ _ ?_;clear hK hgd;clear K;try clear gd
   repeat refine c_r ?_
   refine wc0 ?_ ?_
   ·intro _;repeat refine c_r ?_
    refine zaC (by simp) rfl (.inr ⟨_,_,_,hxs,hjx⟩)
   ·intro h;simp at h
 ·intro hge;simp only[ydF,ge_iff_le]at hge;repeat refine c_r ?_
  refine zaC (by simp) rfl (.inl ?_);rcases hir with ⟨_,h⟩| ⟨k,rfl,_⟩
  ·rw[hd,h,List.append_nil];exact hj
  ·omega
theorem zi0{w:World}{nv ov lv:Value}(hn:∃a n c,nv= .slice a n c):
  Fn Tryz.prog 196 #[.agg #[ov,lv],nv] w (fun v w'=>v= .func (.func 242) #[] #[.pointer (some ⟨w.heap.size+1,0,.none⟩),.pointer (some ⟨w.heap.size,0,.none⟩)]/\Ext w w'/\w'.heap.size=w.heap.size+2/\
   w'.heap[w.heap.size]? =some (.cells #[ov,lv] 122 (0,0))/\w'.heap[w.heap.size+1]? =some (.cells #[nv] 27 (0,0))):=by
 obtain⟨an,nn,cn,rfl⟩:=hn;refine enter Tryz.func196 Tryz.ntmps196 rfl rfl ?_;repeat refine c_r ?_
 refine rg0 ?_;repeat refine c_r ?_
 rw[zai];refine zaF ?_;intro w1 hE1 hs1 hA hB;refine rg0 ?_;repeat refine c_r ?_
 refine rt0 Tryz.ntmps196 ?_;exact⟨rfl,hE1,hs1,hA,hB⟩
theorem zio{w0 w:World}{bn:Nat}{nv:Value}{n:Nm}{R:List RecL}(hE0:Ext w0 w)(hn:w.heap[bn]? =some (.cells #[nv] 27 (0,0)))(hrn:Row w nv (n.map vs))(hok:NmS n)(hoks:∀r∈R,zbr r):
  Tell w0 w 249 [.pointer (some ⟨bn,0,.none⟩)] (fun r=>zaV r.owner n) R:=by
 refine⟨rfl,fun A cs r hE hr hcs=>?_⟩;obtain⟨ow,ds,rfl,a1,a2⟩:=hcs.ex;obtain⟨nm,nu,tx,rw',rfl,_⟩:=a2.ex;refine enter Tryz.func249 Tryz.ntmps249 rfl rfl ?_;refine gz0 ?_;refine zax ?_;intro A1 hE1 hs1 hA;have p0:zad A1 (some ⟨A.heap.size,0,.none⟩)=some ow:=zab hA rfl;have q1:zad A1 (some ⟨bn,0,.none⟩)=some nv:=zaa (hE.trans hE1) (zab hn rfl);refine rq ?_;intro gd K hgd hK;refine sgz (az3 p0 q1 Nat.add_zero) ?_;refine Fn.mono (zc3 _ _ _ _ _ (a1.ext (hE0.trans (hE.trans hE1))) (hrn.ext (hE.trans hE1)) (hoks r hr).lb hok.lb (by have:=(hoks r hr).len;omega) (by have:=hok.len;omega)) ?_;rintro _ A2 ⟨rfl,hE2⟩;try simp only[go_sem]
 refine en hK ?_;refine rt0 Tryz.ntmps249 ?_;exact⟨rfl,hE1.trans hE2⟩
theorem zin{w0 w:World}{bn:Nat}{nv:Value}{n:Nm}{R:List RecL}(hE0:Ext w0 w)(hn:w.heap[bn]? =some (.cells #[nv] 27 (0,0)))(hrn:Row w nv (n.map vs))(hok:NmS n)(hoks:∀r∈R,zbr r):
  Tell w0 w 251 [.pointer (some ⟨bn,0,.none⟩)] (fun r=>decide (zaq r.owner=zaq n)) R:=by
 refine⟨rfl,fun A cs r hE hr hcs=>?_⟩;obtain⟨ow,ds,rfl,a1,a2⟩:=hcs.ex;obtain⟨nm,nu,tx,rw',rfl,_⟩:=a2.ex;refine enter Tryz.func251 Tryz.ntmps251 rfl rfl ?_;refine gz0 ?_;refine zax ?_;intro A1 hE1 hs1 hA;have p0:zad A1 (some ⟨A.heap.size,0,.none⟩)=some ow:=zab hA rfl;have q1:zad A1 (some ⟨bn,0,.none⟩)=some nv:=zaa (hE.trans hE1) (zab hn rfl);refine rq ?_;intro gd K hgd hK;refine sgz (az3 p0 q1 Nat.add_zero) ?_;refine Fn.mono (zeF _ _ _ _ _ (a1.ext (hE0.trans (hE.trans hE1))) (hrn.ext (hE.trans hE1)) (hoks r hr).lb hok.lb (by have:=(hoks r hr).len;omega) (by have:=hok.len;omega)) ?_;rintro _ A2 ⟨rfl,hE2⟩;try simp only[go_sem]
 refine en hK ?_;refine rt0 Tryz.ntmps251 ?_;exact⟨rfl,hE1.trans hE2⟩
theorem zij{w0 w:World}{ov lv nv:Value}{o n:Nm}{R:List RecL}(hz:ZnAt w0 w ov lv o R)(hn:Row w nv (n.map vs))(hok:NmS n):
  Fn Tryz.prog 200 #[.agg #[ov,lv],nv] w (fun v w'=>v= .bool (zaK o R n)/\Ext w w'):=by
 obtain⟨ao,co,hov,hrest⟩:=id hz.org;obtain⟨al,cl,hlv,_⟩:=hz.recs.open;obtain⟨an,cn,hnv,_⟩:=id hn;rw[ylm]at hov hnv;rw[hov,hlv,hnv];refine enter Tryz.func200 Tryz.ntmps200 rfl rfl ?_;refine gz0 ?_;rw[←hov,←hlv,←hnv];simp only[zai];refine zaF ?_;intro w1 hE1 hs1 hA hB;have p0:zad w1 (some ⟨w.heap.size,0,.none⟩)=some ov:=zab hA rfl;have q0:zad w1 (some ⟨w.heap.size+1,0,.none⟩)=some nv:=zab hB rfl;have hz1:=hz.ext hE1;refine rq ?_;intro gd K hgd hK;refine sgz (az3 p0 q0 Nat.add_zero) ?_;refine Fn.mono (zc3 _ _ _ _ _ (hn.ext hE1) hz1.org hok.lb hz.lb (by have:=hok.len;omega) (by have:=hz.ol;omega)) ?_;rintro _ w2 ⟨rfl,hE2⟩;try simp only[go_sem]
 apply hK;refine wcz ?_ ?_
 ·intro hu;simp only[Bool.not_eq_true']at hu;refine gz0 ?_;refine rt0 Tryz.ntmps200 ?_;exact⟨by unfold zaK;rw[hu,Bool.false_and],hE1.trans hE2⟩
 ·intro hu;simp only[Bool.not_eq_false']at hu;have p0':=zaa hE2 p0;have p1':zad w2 (some ⟨w.heap.size,1,.none⟩)=some lv:=zaa hE2 (zab hA rfl);have q0':=zaa hE2 q0;rw[hov]at p0';rw[hnv]at q0';have hz2:=hz1.ext hE2;repeat refine c_r ?_
  by_cases hlen:(n.length:Int)=(o.length:Int)
  ·refine rq ?_;intro gd K hgd hK;have hg6:=gk 6 16 hgd rfl;try simp (disch:=first|omega|assumption|rfl) only[go_sem,p0',q0',Nat.add_zero,yet hlen,↓hg6]
   refine en hK ?_;refine rt0 Tryz.ntmps200 ?_;refine⟨?_,hE1.trans hE2⟩;unfold zaK;rw[hu,show decide (n.length=o.length)=true from yet (by omega)];rfl
  ·refine rq ?_;intro gd K hgd hK;have hg6:=gk 6 16 hgd rfl;try simp (disch:=first|omega|assumption|rfl) only[go_sem,p0',p1',q0',Nat.add_zero,yn0,yef hlen,↓hg6]
   refine Fn.mono (zdY (cap:=[.pointer (some ⟨w.heap.size+1,0,.none⟩)]) hz2.recs (zio hz2.e0 (hE2.at hB) (hn.ext (hE1.trans hE2)) hok hz.ok) hz.rl) ?_;rintro _ w3 ⟨rfl,hE3⟩;try simp only[go_sem]
   refine en hK ?_;refine rt0 Tryz.ntmps200 ?_;refine⟨?_,(hE1.trans hE2).trans hE3⟩;unfold zaK;rw[hu,show decide (n.length=o.length)=false from yef (by omega)];rfl
end Go.Proofs.YtahbdamijngmmaaGreat
namespace Go.Proofs.YtahbdamijngmmaaGreat.P_cs
open Go Go.Proofs.YtahbdamijngmmaaGreat
set_option maxRecDepth 10000
theorem Clip_ok{w:World}{a:Option Addr}{n c:Nat}(hc:n<=c):Fn Tryz.prog 73 #[.slice a n c] w (fun u w'=>u= .slice a n n/\w'=w):=by
 refine enter Tryz.func73 Tryz.ntmps73 rfl rfl ?_;refine gz0 ?_;refine rq ?_;intro gd K hgd hK;try simp only[go_sem]
 have hcl:slD Tryz.prog (some (TypeDesc.slice 9)) (Value.slice a n c) .none (some (Value.int IntKind.i64 ↑n)) (some (Value.int IntKind.i64 ↑n))=some (.slice a n n):=zfm hc (by rfl);rw[hcl];try simp only[go_sem]
 refine en hK ?_;refine rt0 Tryz.ntmps73 ?_;exact⟨rfl,rfl⟩
end Go.Proofs.YtahbdamijngmmaaGreat.P_cs
namespace Go.Proofs.YtahbdamijngmmaaGreat
open Go
set_option maxRecDepth 10000
theorem Row.keepB{w x:World}{v:Value}{l:List Value}{S:Nat->Prop}{B:Nat}(h:Row w v l)(hk:Keep S w x)(hB:BlkB B w v)(hS:∀b,B<=b->b<w.heap.size->¬S b):Row x v l:=
 h.blocks fun a n c hv=>hk.block _ (hB a n c hv).2 (hS _ (hB a n c hv).1 (hB a n c hv).2)
theorem Own.blk{B:Nat}{w:World}{e:TypeId}{v:Value}{l:List Value}(h:Own B w e v l):BlkB B w v:=fun a n c hv=>(h.rowB).2 a n c hv
theorem zdq{w:World}{v:Value}{n:Nm}(hr:Row w v (n.map vs))(hlen:n.length<=1000000000000):
  Fn Tryz.prog 178 #[v] w (fun u w'=>Own w.heap.size w' 9 u (n.map vs)/\Ext w w'):=by
 have hr':=hr;obtain⟨a,c,rfl,hc,hl⟩:=hr;refine enter Tryz.func178 Tryz.ntmps178 rfl rfl ?_;refine gz0 ?_;refine rq ?_;intro gd K hgd hK;try simp only[go_sem]
 refine zlX (by rfl) (by rfl) (by rfl) ?_;try simp only[go_sem]
 refine en hK ?_;cases a with
 |none=>
  have:n=[]:=by
   cases n with
   |nil=>rfl
   |cons x L=>have:=hl 0 (by simp);simp[zad,adr]at this
  subst this;refine wc0 ?_ ?_
  ·intro _;refine gz0 ?_;refine rt0 Tryz.ntmps178 ?_;exact⟨Own.nil _ _ _,Keep.refl _ _⟩
  ·intro h;cases h
 |some a=>
  refine wc0 ?_ ?_
  ·intro h;cases h
  intro _;refine rqz ?_;intro gd K hgd hK;try simp only[go_sem]
  refine zmd (z:=vs []) (by rfl) (by rfl) (by rfl) (by rfl) ?_;intro w1 hE1 hs1 ho1;try simp only[go_sem]
  refine zcv (B:=w.heap.size) ho1 (hr'.ext hE1) (by rfl) (by rfl) (by rfl) (by rfl) (by rfl) (by rfl) (by rfl) (by rfl) (zfz _) (by simp;omega) (by decide) (by omega) ?_;intro v' w2 ho2 hE2 _ _;try simp only[go_sem]
  refine en hK ?_;refine rt0 Tryz.ntmps178 ?_;exact⟨by simpa using ho2,hE2 w hE1 (ynl _)⟩
theorem zju{α:Type}{p:α->Bool}{l pre suf:List α}{x:α}(h:l=pre++x::suf)(hp:∀y∈pre,p y=false)(hx:p x=true):l.find? p=some x:=by
 rw[h,List.find?_append];have:pre.find? p= .none:=by
  rw[List.find?_eq_none];intro y hy;rw[hp y hy];exact Bool.false_ne_true
 rw[this];simp[hx]
theorem zgo{α:Type}{p:α->Bool}{l:List α}(hp:∀y∈l,p y=false):l.find? p= .none:=by
 rw[List.find?_eq_none];intro y hy;rw[hp y hy];exact Bool.false_ne_true
theorem CutOf_ok{w0 w:World}{ov lv nv:Value}{o n:Nm}{R:List RecL}(hz:ZnAt w0 w ov lv o R)(hn:Row w nv (n.map vs))(hok:NmS n):
  Fn Tryz.prog 241 #[.agg #[ov,lv],nv] w (fun v w'=>Ext w w'/\∃cv,v= .tuple #[cv,.bool (cutL o R n).isSome]/\Row w' cv (((cutL o R n).getD []).map vs)):=by
 obtain⟨ao,co,hov,_⟩:=id hz.org;obtain⟨al,cl,hlv,_⟩:=hz.recs.open;obtain⟨an,cn,hnv,_⟩:=id hn;rw[ylm]at hov hnv;rw[hov,hlv,hnv];refine enter Tryz.func241 Tryz.ntmps241 rfl rfl ?_;refine gz0 ?_;rw[←hov,←hlv,←hnv];simp only[zai];refine zcz ?_;intro w1 hE1 hs1 hA hB hC;have p0:zad w1 (some ⟨w.heap.size,0,.none⟩)=some ov:=zab hA rfl;have hz1:=hz.ext hE1;refine rq ?_;intro gd K hgd hK;refine sgz (az2 p0 Nat.add_zero) ?_;refine Fn.mono (zc3 _ _ _ _ _ (hn.ext hE1) hz1.org hok.lb hz.lb (by have:=hok.len;omega) (by have:=hz.ol;omega)) ?_;rintro _ w2 ⟨rfl,hE2⟩;try simp only[go_sem]
 apply hK;have hB2:=hE2.at hB;have hC2:=hE2.at hC;have hEw2:=hE1.trans hE2;have fin:∀{σ':Sto} {Z:World} {cv:Value} {b:Bool},σ' 4= .pointer (some ⟨w.heap.size+1,0,.none⟩)->σ' 5= .pointer (some ⟨w.heap.size+1+1,0,.none⟩)->Z.heap[w.heap.size+1]? =some (.cells #[cv] 27 (0,0))->Z.heap[w.heap.size+1+1]? =some (.cells #[.bool b] 4 (0,0))->
   resV Tryz.prog 30 σ' Z [.cell 4 27,.cell 5 4]=some [cv,.bool b]:=fun h4 h5 c4 c5=>
  zgE (x:=⟨w.heap.size+1,0,.none⟩) ((vq1 h4)) rfl rfl (zab c4 rfl) (zgE (x:=⟨w.heap.size+1+1,0,.none⟩) ((vq1 h5)) rfl rfl (zab c5 rfl) zap)
 refine wcz ?_ ?_
 ·intro hu;simp only[Bool.not_eq_true']at hu;have hcut:cutL o R n= .none:=by unfold cutL;rw[hu];rfl
  refine rqz ?_;intro gd K hgd hK;try simp only[go_sem]
  refine zaU (P:=Tryz.prog) (t:=27) (j:=0) (l:=[.slice .none 0 0]) hB2 (by simp) rfl rfl rfl ?_;intro z1 hz1' hbz1 hkz1;try simp only[go_sem]
  refine zaU (P:=Tryz.prog) (t:=4) (j:=0) (l:=[.bool false]) ((hkz1.block _ (by have:=hE2.size;omega) (by omega)).trans hC2) (by simp) rfl rfl rfl ?_;intro z2 hz2' hbz2 hkz2;try simp only[go_sem]
  apply hK;have hkz:Keep (fun b=>b=w.heap.size+1\/b=w.heap.size+1+1) w2 z2:=(hkz1.mono (fun b _ h=> .inl h)).trans (hkz2.mono (fun b _ h=> .inr h));have c4:=(hkz2.block (w.heap.size+1) (by have:=hE2.size;omega) (by omega)).trans hbz1;repeat refine c_r ?_
  refine zat (.inr rfl) Tryz.ntmps241 rfl (fin vq0 vq0 (by simpa using c4) (by simpa using hbz2)) ?_;exact⟨Keep.to_ext hEw2 rfl (fun b hb=>by omega) hkz,_,by rw[hcut];rfl,by rw[hcut];exact⟨.none,0,rfl,ynl _,fun j h=>absurd h (by simp)⟩⟩
 intro hu;simp only[Bool.not_eq_false']at hu;have hA2:=hE2.at hA;have d2:=zae (n:=2) (l:=[ov,lv]) hA2 rfl;refine rqz ?_;intro gd K hgd hK;refine sgz d2 ?_;refine Fn.mono (zi0 ⟨_,_,_,hnv⟩) ?_;rintro _ w3 ⟨rfl,hE3,hs3,hbz,hbn⟩;try simp only[go_sem]
 apply hK;have hEw3:=hEw2.trans hE3;have hz3:=hz.ext hEw3;have hn3:=hn.ext hEw3;have s1:=hE1.size;have s2:=hE2.size;have hA3:=hE3.at hA2;have hB3:=hE3.at hB2;have hC3:=hE3.at hC2;repeat refine c_r ?_
 refine zdW (g:=242) (cap:=#[.pointer (some ⟨w2.heap.size+1,0,.none⟩),.pointer (some ⟨w2.heap.size,0,.none⟩)]) vq0 rfl (zl6 (C:=fun b=>b=w.heap.size+1\/b=w.heap.size+1+1) hbn hbz hn3 hz3.org (by omega) (by omega) hz.ol hok.len) (Keep.refl _ _) (ynl _) (fun b hb=>by omega)
  (fun x B args h=>by obtain⟨v,h,_⟩:=h;rw[h];rfl)
  (fun pre B=>Ext w3 B/\∀x∈pre,cutP o R x=false)
  (fun c pre B=>c= .ret/\∃pre' x cv,pre=pre'++ [x]/\cutP o R x=true/\(∀y∈pre',cutP o R y=false)/\Ext w B/\B.heap[w.heap.size+1]? =some (.cells #[cv] 27 (0,0))/\B.heap[w.heap.size+1+1]? =some (.cells #[.bool true] 4 (0,0))/\Row B cv (x.map vs)/\BlkB (w3.heap.size+2) B cv) ?_ ?_ ?_ ?_ ?_ ?_
 ·rintro pre B B' ⟨hEB,hp⟩ hk;exact⟨Keep.to_ext hEB rfl (fun b hb=>by unfold two at hb;omega) hk,hp⟩
 ·rintro c pre B B' ⟨rfl,pre',x,cv,rfl,h1,h2,hEB,c4,c5,hr,hb⟩ hk;exact⟨rfl,pre',x,cv,rfl,h1,h2,Keep.to_ext hEB rfl (fun b hb=>by unfold two at hb;omega) hk,(hk.block _ (Array.getElem?_eq_some_iff.1 c4).1 (by unfold two;omega)).trans c4,(hk.block _ (Array.getElem?_eq_some_iff.1 c5).1 (by unfold two;omega)).trans c5,hr.keepB hk hb (fun b hb _=>by unfold two;omega),hb.ext hk.size⟩
 ·exact⟨Keep.refl _ _,fun x h=>absurd h (by simp)⟩
 ·rintro lp pre x suf B args hxs hszB ⟨hEB,hp⟩ ⟨xv,rfl,hxr⟩;have hxn:∃k,k<=n.length/\x=n.drop k:=by
   have:x∈za8 o n:=by rw[hxs];simp
   unfold za8 at this
   split at this
   ·obtain⟨i,hi,h⟩:=zbM.1 this;exact⟨i,by omega,h⟩
   ·cases this
  obtain⟨kx,hkx,rfl⟩:=hxn;obtain⟨x,hx⟩:∃x,n.drop kx=x:=⟨_,rfl⟩;have hxok:NmS x:=hx▸hok.drop kx;rw[hx]at hxr hxs ⊢;obtain⟨ax,cx,hxv,_⟩:=id hxr;rw[ylm]at hxv;have hol:=hz.ol;have hxl:=hxok.len;refine rq ?_;intro gd K hgd hK;try simp only[go_sem]
  apply hK;refine zas ?_;refine⟨rfl,KeepB.refl _ _ _,fun Y hY=>?_⟩;have hEY:Ext w3 Y:=Keep.to_ext hEB rfl (fun b hb=>by unfold two at hb;omega) hY;have hzY:=hz3.ext hEY;have p0:zad Y (some ⟨w.heap.size,0,.none⟩)=some ov:=zab (hEY.at hA3) rfl;have d2:=zae (n:=2) (l:=[ov,lv]) (hEY.at hA3) rfl;have hYs:=hY.size;rw[hov]at p0;repeat refine c_r ?_
  refine zaw (Q:=fun e σ' ds' v'=>e= .normal/\ds'=[]/\σ' 6=xv/\σ' 4= .pointer (some ⟨w.heap.size+1,0,.none⟩)/\σ' 5= .pointer (some ⟨w.heap.size+1+1,0,.none⟩)/\Ext Y v'/\σ' 26= .bool (cutP o R x)) ?_ ?_
  ·by_cases hl:(o.length:Int)<(x.length:Int)
   ·refine rq ?_;intro gd K hgd hK;have hg6:=gk 6 22 hgd rfl;try simp (disch:=first|omega|assumption|rfl) only[go_sem,hxv,p0,d2,yet hl,Nat.add_zero,↓hg6]
    rw[←hxv];refine Fn.mono (Has_ok hzY (hxr.ext hEY) hxok) ?_;rintro _ Y2 ⟨rfl,hY2⟩;try simp only[go_sem]
    apply hK;refine⟨rfl,rfl,vq0,vq0,vq0,hY2,?_⟩;unfold cutP hasL;rw[show decide (o.length<x.length)=true from yet (by omega),Bool.true_and];simp only[go_sem]
   ·refine rq ?_;intro gd K hgd hK;have hg6:=gk 6 22 hgd rfl;try simp (disch:=first|omega|assumption|rfl) only[go_sem,hxv,p0,yef hl,Nat.add_zero,↓hg6]
    rw[←hxv];apply hK;refine⟨rfl,rfl,vq0,vq0,vq0,Keep.refl _ _,?_⟩;unfold cutP hasL;rw[show decide (o.length<x.length)=false from yef (by omega),Bool.false_and];simp only[go_sem]
  rintro _ σ1 _ Y1 ⟨rfl,rfl,h6,h4,h5,hY1,h26⟩;repeat refine c_r ?_
  refine zay (t:=cutP o R x) ((vq1 h26)) ?_ ?_
  ·intro ht;refine rqz ?_;intro gd K hgd hK;refine sgz (az3 h6 h4 h5) ?_;refine Fn.mono (zdq (hxr.ext (hEY.trans hY1)) hxok.len) ?_;rintro u Y2 ⟨hou,hY2⟩;try simp only[go_sem]
   obtain⟨au,cu,hu'⟩:=hou.slice;have hur:=hou.row;have hub:=hou.blk;rw[hu']at hur hub;rw[ylm]at hu' hur hub;rw[hu'];obtain⟨_,_,he,hcc,hgg⟩:=id hur;injection he with e1 e2 e3
   subst e1 e3;rw[ylm]at hcc;refine Fn.mono (P_cs.Clip_ok hcc) ?_;rintro _ y0 ⟨rfl,hy0⟩;refine sgz (az2 h4 h5) ?_;rw[hy0];clear hy0 y0;have hYY:=(hEY.trans hY1).trans hY2;have s5:=hY1.size;have s6:=hY2.size;refine zaU (P:=Tryz.prog) (t:=27) (j:=0) (l:=[.slice .none 0 0]) (Ext.at hYY hB3) (by simp) rfl rfl rfl ?_;intro z1 hz1' hbz1 hkz1;refine sgz h5 ?_;refine zaU (P:=Tryz.prog) (t:=4) (j:=0) (l:=[.bool false]) ((hkz1.block _ (by omega) (by omega)).trans (Ext.at hYY hC3)) (by simp) rfl rfl rfl ?_;intro z2 hz2' hbz2 hkz2;try simp only[go_sem]
   apply hK;have hkz:Keep (fun b=>b=w.heap.size+1\/b=w.heap.size+1+1) Y2 z2:=(hkz1.mono (fun b _ h=> .inl h)).trans (hkz2.mono (fun b _ h=> .inr h));have c4:=(hkz2.block (w.heap.size+1) (by omega) (by omega)).trans hbz1;have hrc:Row Y2 (.slice au x.length x.length) (x.map vs):=⟨au,x.length,by rw[ylm],by rw[ylm];exact ynl _,hgg⟩;have hbc:BlkB (w3.heap.size+2) Y2 (.slice au x.length x.length):=hub.same.mono (by omega);repeat refine c_r ?_
   refine⟨⟨rfl,pre,x,_,rfl,ht,hp,Keep.to_ext (hEw3.trans hYY) rfl (fun b hb=>by omega) hkz,by simpa using c4,by simpa using hbz2,hrc.keepB hkz hbc (fun b hb _=>by omega),hbc.ext hkz.size⟩,KeepB.trans ((hY1.trans hY2).toB (by omega) (fun _ _ h=>h.elim)) (hkz.toB (by omega) (fun i _ h=>h))⟩
  ·intro ht;repeat refine c_r ?_
   refine⟨⟨hEY.trans hY1,fun y hy=>?_⟩,hY1.toB (by omega) (fun _ _ h=>h.elim)⟩;rcases List.mem_append.1 hy with hy|hy
   ·exact hp y hy
   ·rw[List.mem_singleton.1 hy];exact ht
 ·intro B hszB ⟨hEB,hp⟩ hD;have hcut:cutL o R n= .none:=by unfold cutL;rw[hu];exact zgo hp
  refine rqz ?_;intro gd K hgd hK;try simp only[go_sem]
  refine zaU (P:=Tryz.prog) (t:=27) (j:=0) (l:=[.slice .none 0 0]) (hEB.at hB3) (by simp) rfl rfl rfl ?_;intro z1 hz1' hbz1 hkz1;try simp only[go_sem]
  refine zaU (P:=Tryz.prog) (t:=4) (j:=0) (l:=[.bool false]) ((hkz1.block _ (by omega) (by omega)).trans (hEB.at hC3)) (by simp) rfl rfl rfl ?_;intro z2 hz2' hbz2 hkz2;try simp only[go_sem]
  apply hK;have hkz:Keep (fun b=>b=w.heap.size+1\/b=w.heap.size+1+1) B z2:=(hkz1.mono (fun b _ h=> .inl h)).trans (hkz2.mono (fun b _ h=> .inr h));have c4:=(hkz2.block (w.heap.size+1) (by omega) (by omega)).trans hbz1;repeat refine c_r ?_
  refine zbz (.inr rfl) Tryz.ntmps241 rfl ((hkz.block _ (by omega) (by omega)).trans hD) ?_;intro Z hkZ hsZ;refine⟨_,fin vq0 vq0 ((hkZ.block _ (by omega) (by omega)).trans (by simpa using c4)) ((hkZ.block _ (by omega) (by omega)).trans (by simpa using hbz2)),Keep.to_ext (Keep.to_ext (hEw3.trans hEB) rfl (fun b hb=>by omega) hkz) rfl (fun b hb=>by omega) hkZ,_,by rw[hcut];rfl,by rw[hcut];exact⟨.none,0,rfl,ynl _,fun j h=>absurd h (by simp)⟩⟩
 ·rintro c pre x0 suf B hszB hxs ⟨rfl,pre',x,cv,hpre,h1,h2,hEB,c4,c5,hr,hb⟩ hD;obtain⟨rfl,h3⟩:=List.append_inj' hpre rfl;have hx0:x0=x:=by simpa using h3
  subst hx0;have hcut:cutL o R n=some x0:=by unfold cutL;rw[hu];exact zju hxs h2 h1
  repeat refine c_r ?_
  refine zbz (.inr rfl) Tryz.ntmps241 rfl hD ?_;intro Z hkZ hsZ;refine⟨_,fin vq0 vq0 ((hkZ.block _ (by omega) (by omega)).trans c4) ((hkZ.block _ (by omega) (by omega)).trans c5),Keep.to_ext hEB rfl (fun b hb=>by omega) hkZ,cv,by rw[hcut];rfl,by rw[hcut];exact hr.keepB hkZ hb (fun b hb _=>by omega)⟩
theorem zej{id:Nat}{Q:Post}{e:Exit}{σ:Sto}{ds:List Deferred}{w:World}(he:e= .normal\/e= .exit id)(h:Q .normal σ ds w):zc6 id Q e σ ds w:=by
 rcases he with rfl|rfl
 ·exact zbO h
 ·exact zbZ h
theorem Where_ok{w0 w:World}{ov lv nv:Value}{o n:Nm}{R:List RecL}(hz:ZnAt w0 w ov lv o R)(hn:Row w nv (n.map vs))(hok:NmS n):
  Fn Tryz.prog 195 #[.agg #[ov,lv],nv] w (fun v w'=>v=vi (zfe o R n)/\Ext w w'):=by
 obtain⟨ao,co,hov,_⟩:=id hz.org;obtain⟨al,cl,hlv,_⟩:=hz.recs.open;obtain⟨an,cn,hnv,_⟩:=id hn;rw[ylm]at hov hnv;rw[hov,hlv,hnv];refine enter Tryz.func195 Tryz.ntmps195 rfl rfl ?_;refine gz0 ?_;rw[←hov,←hlv,←hnv];refine zax ?_;intro w1 hE1 hs1 hA;have p0:zad w1 (some ⟨w.heap.size,0,.none⟩)=some ov:=zab hA rfl;have hz1:=hz.ext hE1;refine rq ?_;intro gd K hgd hK;refine sgz (az2 p0 Nat.add_zero) ?_;refine Fn.mono (zc3 _ _ _ _ _ (hn.ext hE1) hz1.org hok.lb hz.lb (by have:=hok.len;omega) (by have:=hz.ol;omega)) ?_;rintro _ w2 ⟨rfl,hE2⟩;try simp only[go_sem]
 apply hK;refine wcz ?_ ?_
 ·intro hu;simp only[Bool.not_eq_true']at hu;refine gz0 ?_;refine rt0 Tryz.ntmps195 ?_;exact⟨by unfold zfe;rw[hu];rfl,hE1.trans hE2⟩
 intro hu;simp only[Bool.not_eq_false']at hu;have d2:=zae (n:=2) (l:=[ov,lv]) (hE2.at hA) rfl;refine rqz ?_;intro gd K hgd hK;refine sgz d2 ?_;refine Fn.mono (CutOf_ok (hz1.ext hE2) (hn.ext (hE1.trans hE2)) hok) ?_;rintro _ w3 ⟨hE3,cv,rfl,hcv⟩;try simp only[go_sem]
 apply hK;obtain⟨ac,cc,hcv',_⟩:=id hcv;rw[ylm]at hcv';have hE:=(hE1.trans hE2).trans hE3;cases hc:cutL o R n with
 |none=>
  rw[hc]at hcv' hcv;refine gz0 ?_;refine wc0 ?_ ?_
  ·intro _;refine gz0 ?_;refine rt0 Tryz.ntmps195 ?_;exact⟨by unfold zfe;rw[hu,hc];rfl,hE⟩
  ·intro h;simp at h
 |some c=>
  rw[hc]at hcv' hcv;simp only[Option.getD_some]at hcv';refine gz0 ?_;refine wc0 ?_ ?_
  ·intro h;simp at h
  intro _;refine gz (az2 hcv' hnv) ?_;refine wc0 ?_ ?_
  ·intro hl;simp only[ydT]at hl;refine gz0 ?_;refine rt0 Tryz.ntmps195 ?_;refine⟨?_,hE⟩;unfold zfe;rw[hu,hc];simp only[if_true];rw[if_pos (by omega)]
  ·intro hl;simp only[ydF]at hl;refine gz0 ?_;refine rt0 Tryz.ntmps195 ?_;refine⟨?_,hE⟩;unfold zfe;rw[hu,hc];simp only[if_true];rw[if_neg (by omega)]
theorem zhk{α:Type}{p:α->Bool}{l pre suf:List α}{x:α}(h:l=pre++x::suf)(hp:∀y∈pre,p y=true)(hx:p x=false):l.takeWhile p=pre:=by
 rw[h,List.takeWhile_append_of_pos hp,List.takeWhile_cons_of_neg (by rw[hx];exact Bool.false_ne_true),List.append_nil]
theorem zgC{α:Type}{p:α->Bool}{l:List α}(hp:∀y∈l,p y=true):l.takeWhile p=l:=by
 have:=List.takeWhile_append_of_pos (l₂:=[]) hp;simpa using this
theorem ziZ{w0 w:World}{ov lv nv:Value}{o n:Nm}{R:List RecL}(hz:ZnAt w0 w ov lv o R)(hn:Row w nv (n.map vs))(hok:NmS n):
  Fn Tryz.prog 250 #[.agg #[ov,lv],nv] w (fun v w'=>Row w' v ((zbQ o R n).map vs)/\Ext w w'):=by
 obtain⟨ao,co,hov,_⟩:=id hz.org;obtain⟨al,cl,hlv,_⟩:=hz.recs.open;obtain⟨an,cn,hnv,_⟩:=id hn;rw[ylm]at hov hnv;rw[hov,hlv,hnv];refine enter Tryz.func250 Tryz.ntmps250 rfl rfl ?_;repeat refine c_r ?_
 refine rg0 ?_;repeat refine c_r ?_
 rw[←hov,←hlv,←hnv];refine zax ?_;intro w1 hE1 hs1 hA;refine rq ?_;intro gd K hgd hK;try simp only[go_sem]
 refine zmd (z:=vs []) (by rfl) (by rfl) (by rfl) (by rfl) ?_;intro w2 hE2 hs2 ho2;try simp only[go_sem]
 have hB3:=zau w2 (.cells #[.slice .none 0 0] 27 (0,0));have hE3:=Ext.alloc w2 (.cells #[.slice .none 0 0] 27 (0,0));have hs3:=zai w2 (.cells #[.slice .none 0 0] 27 (0,0));revert hB3 hE3 hs3;generalize w2.alloc (.cells #[.slice .none 0 0] 27 (0,0))=w3;intro hB3 hE3 hs3;refine zaU (P:=Tryz.prog) (t:=27) (j:=0) (l:=[.slice .none 0 0]) hB3 (by simp) rfl rfl rfl ?_;intro w4 hs4 hB4 hk4;try simp only[go_sem]
 refine hK _ _ ?_;clear hK hgd;clear K;try clear gd
 obtain⟨b5,hb5⟩:∃b5,w2.heap.size=b5:=⟨_,rfl⟩;rw[hb5]at hB4 hk4 hs3 ⊢;have hE14:Ext w1 w4:=Keep.to_ext (hE2.trans hE3) rfl (fun b hb=>by have:=hE2.size;omega) hk4;have hE4:=hE1.trans hE14;have hA4:=hE14.at hA;have hro4:Row w4 (.slice (some ⟨w1.heap.size,0,.none⟩) 0 0) (([]:Nm).map vs):=⟨_,_,rfl,ynl _,fun j h=>absurd h (by simp)⟩;simp only[List.set_cons_zero]at hB4;have hbw:w.heap.size<b5:=by have:=hE2.size;omega
 have hb4:b5<w4.heap.size:=by omega
 have p0:zad w4 (some ⟨w.heap.size,0,.none⟩)=some ov:=zab hA4 rfl;have hz4:=hz.ext hE4;have hn4:=hn.ext hE4;clear hk4 hs4 hB3 hE3 hs3 ho2 hs2;repeat refine c_r ?_
 refine rq ?_;intro gd K hgd hK;try simp (disch:=first|omega|assumption|rfl) only[go_sem,p0,Nat.add_zero]
 refine Fn.mono (zc3 _ _ _ _ _ hn4 hz4.org hok.lb hz.lb (by have:=hok.len;omega) (by have:=hz.ol;omega)) ?_;rintro _ w5 ⟨rfl,hE5⟩;try simp only[go_sem]
 refine hK _ _ ?_;clear hK hgd;clear K;try clear gd
 repeat refine c_r ?_
 refine wc0 ?_ ?_
 ·intro hu;simp only[Bool.not_eq_true']at hu;have q5:zad w5 (some ⟨b5,0,.none⟩)=some (.slice (some ⟨w1.heap.size,0,.none⟩) 0 0):=zaa hE5 (zab hB4 rfl);repeat (first|refine c_r ?_| (refine zb7 (by rfl) ?_;intro gd K hgd hK;simp (disch:=first|omega|assumption|rfl) only[go_sem,q5];refine hK _ _ ?_;clear hK hgd;clear K gd))
  refine rt0 Tryz.ntmps250 ?_;refine⟨?_,hE4.trans hE5⟩;have:zbQ o R n=[]:=by unfold zbQ;rw[hu];rfl
  rw[this];exact hro4.ext hE5
 intro hu;simp only[Bool.not_eq_false']at hu;have d2:=zae (n:=2) (l:=[ov,lv]) (hE5.at hA4) rfl;have hz5:=hz4.ext hE5;repeat refine c_r ?_
 refine rq ?_;intro gd K hgd hK;try simp (disch:=first|omega|assumption|rfl) only[go_sem,d2]
 refine Fn.mono (zi0 ⟨_,_,_,hnv⟩) ?_;rintro _ w6 ⟨rfl,hE6,hs6,hbz,hbn⟩;try simp only[go_sem]
 refine hK _ _ ?_;clear hK hgd;clear K;try clear gd
 have hE46:=hE5.trans hE6;have hz6:=hz5.ext hE6;have hn6:=hn4.ext hE46;have hA6:=Ext.at hE46 hA4;have hB6:=Ext.at hE46 hB4;have s5:=hE5.size;have s6:=hE4.size;have hdm:∀{x},x∈za8 o n->NmS x:=fun {x} hx=>by
  unfold za8 at hx
  split at hx
  ·obtain⟨i,hi,h⟩:=zbM.1 hx;rw[h];exact hok.drop i
  ·cases hx
 repeat refine c_r ?_
 refine zaw (Q:=fun e σ' ds' v'=>(e= .normal\/e= .exit 0)/\ds'=[{target:= .collected w6.heap.size,args:=#[]}]/\v'.heap[w6.heap.size]? =some (.deferred (some []))/\σ' 5= .pointer (some ⟨b5,0,.none⟩)/\∃xv,v'.heap[b5]? =some (.cells #[xv] 27 (0,0))/\Row w xv ((zbQ o R n).map vs)/\KeepB w6.heap.size (fun b=>b=b5) w6 v') ?_ ?_
 ·refine zdW (g:=242) (cap:=#[.pointer (some ⟨w5.heap.size+1,0,.none⟩),.pointer (some ⟨w5.heap.size,0,.none⟩)]) vq0 rfl (zl6 (C:=fun b=>b=b5) hbn hbz hn hz6.org (by omega) (by omega) hz.ol hok.len) (Keep.refl _ _) (ynl _) (fun b hb=>by omega)
   (fun x B args h=>by obtain⟨v,h,_⟩:=h;rw[h];rfl)
   (fun pre B=>KeepB w6.heap.size (fun b=>b=b5) w6 B/\(∀x∈pre,zaK o R x=true)/\∃xv,B.heap[b5]? =some (.cells #[xv] 27 (0,0))/\Row w xv ((pre.getLast?.getD []).map vs))
   (fun c pre B=>c= .exit 0/\KeepB w6.heap.size (fun b=>b=b5) w6 B/\∃pre' x,pre=pre'++ [x]/\zaK o R x=false/\(∀y∈pre',zaK o R y=true)/\∃xv,B.heap[b5]? =some (.cells #[xv] 27 (0,0))/\Row w xv ((pre'.getLast?.getD []).map vs)) ?_ ?_ ?_ ?_ ?_ ?_
  ·rintro pre B B' ⟨hK,hp,xv,hb,hr⟩ hk;exact⟨hK.trans (hk.toB (by have:=hK.size;omega) (fun i hi h=>by unfold two at h;omega)),hp,xv,(hk.block _ (Array.getElem?_eq_some_iff.1 hb).1 (by unfold two;omega)).trans hb,hr⟩
  ·rintro c pre B B' ⟨rfl,hK,pre',x,rfl,h1,h2,xv,hb,hr⟩ hk;exact⟨rfl,hK.trans (hk.toB (by have:=hK.size;omega) (fun i hi h=>by unfold two at h;omega)),pre',x,rfl,h1,h2,xv,(hk.block _ (Array.getElem?_eq_some_iff.1 hb).1 (by unfold two;omega)).trans hb,hr⟩
  ·exact⟨KeepB.refl _ _ _,fun x h=>absurd h (by simp),_,hB6,by
    obtain⟨a,c,e,h1,h2⟩:=hro4;exact⟨a,c,e,h1,fun j h=>absurd h (by simp)⟩⟩
  ·rintro lp pre x suf B args hxs hszB ⟨hK,hp,xv0,hb,hr⟩ ⟨xv,rfl,hxr⟩;have hxok:NmS x:=hdm (by rw[hxs];simp);refine rq ?_;intro gd K hgd hK;try simp only[go_sem]
   refine hK _ _ ?_;clear hK hgd;clear K;try clear gd
   refine zas ?_;refine⟨rfl,KeepB.refl _ _ _,fun Y hY=>?_⟩;have hKY:KeepB w6.heap.size (fun b=>b=b5) w6 Y:=hK.trans (hY.toB (by have:=hK.size;omega) (fun i hi h=>by unfold two at h;omega));have hEY:Ext w4 w6:=hE46;have hbY:=(hY.block _ (Array.getElem?_eq_some_iff.1 hb).1 (by unfold two;omega)).trans hb;have hAY:Y.heap[w.heap.size]? =some (.cells #[ov,lv] 122 (0,0)):=(hKY.block _ (by omega) (by omega)).trans hA6;have hwY:Ext w Y:=zdf (hE4.trans hE46) hKY (by omega) (fun b hb=>by omega);have d2:=zae (n:=2) (l:=[ov,lv]) hAY rfl;have hYs:=hKY.size;have hYB:=hY.size;have hzY:=hz.ext hwY;have hxY:Row Y xv (x.map vs):=hxr.ext hwY;repeat refine c_r ?_
   refine rq ?_;intro gd K hgd hK;try simp (disch:=first|omega|assumption|rfl) only[go_sem,d2]
   refine Fn.mono (zij hzY hxY hxok) ?_;rintro _ Y2 ⟨rfl,hY2⟩;try simp only[go_sem]
   refine hK _ _ ?_;clear hK hgd;clear K;try clear gd
   have hKY2:=hKY.trans (hY2.toB (n0:=w6.heap.size) (C:=fun b=>b=b5) (by omega) (fun _ _ h=>h.elim));have hbY2:=Ext.at hY2 hbY;repeat refine c_r ?_
   refine wc0 ?_ ?_
   ·intro hne;simp only[Bool.not_eq_true']at hne;repeat refine c_r ?_
    exact⟨⟨rfl,hKY2,pre,x,rfl,hne,hp,xv0,hbY2,hr⟩,hY2.toB (by omega) (fun _ _ h=>h.elim)⟩
   ·intro hex;simp only[Bool.not_eq_false']at hex;obtain⟨ax,nx,cx,hxv⟩:∃a n c,xv= .slice a n c:=by
     obtain⟨a,c,h,_⟩:=hxr;exact⟨_,_,_,h⟩
    repeat refine c_r ?_
    refine rq ?_;intro gd K hgd hK;try simp only[go_sem]
    refine zaU (P:=Tryz.prog) (t:=27) (j:=0) (l:=[xv0]) hbY2 (by simp) (by rw[hxv];rfl) rfl rfl ?_;intro z1 hz1' hbz1 hkz1;try simp only[go_sem]
    refine hK _ _ ?_;clear hK hgd;clear K;try clear gd
    repeat refine c_r ?_
    have hkz:=hkz1.toB (n0:=w6.heap.size) (C:=fun b=>b=b5) (by have:=hY2.size;omega) (fun i _ h=>h);refine⟨⟨hKY2.trans hkz,fun y hy=>?_,xv,by simpa using hbz1,by simpa using hxr⟩,(hY2.toB (by omega) (fun _ _ h=>h.elim)).trans (hkz1.toB (by have:=hY2.size;omega) (fun i _ h=>h))⟩;rcases List.mem_append.1 hy with hy|hy
    ·exact hp y hy
    ·rw[List.mem_singleton.1 hy];exact hex
  ·intro B hszB ⟨hK,hp,xv,hb,hr⟩ hD;refine⟨.inl rfl,rfl,hD,vq0,xv,hb,?_,hK⟩;have:zbQ o R n=(za8 o n).getLast?.getD []:=by unfold zbQ;rw[hu,zgC hp];rfl
   rw[this];exact hr
  ·rintro c pre x0 suf B hszB hxs ⟨rfl,hK,pre',x,hpre,h1,h2,xv,hb,hr⟩ hD;obtain⟨rfl,h3⟩:=List.append_inj' hpre rfl;have hx0:x0=x:=by simpa using h3
   subst hx0;refine zfY ?_;refine⟨.inr rfl,rfl,hD,vq0,xv,hb,?_,hK⟩;have:zbQ o R n=pre.getLast?.getD []:=by unfold zbQ;rw[hu,zhk hxs h2 h1];rfl
   rw[this];exact hr
 ·rintro e σ' _ v' ⟨he,rfl,hD,h5,xv,hb,hr,hK⟩;refine zej he ?_;have hwv:Ext w v':=zdf (hE4.trans hE46) hK (by omega) (fun b hb=>by omega);have q5:zad v' (some ⟨b5,0,.none⟩)=some xv:=zab hb rfl;have hel:(zbQ o R n).length<=1000000000000:=by
   unfold zbQ;rw[hu];simp only[if_true];cases hq:((za8 o n).takeWhile (zaK o R)).getLast? with
   |none=>simp
   |some x=>
    have h1:=List.mem_of_getLast? hq;exact(hdm ((List.takeWhile_sublist _).subset h1)).len
  repeat refine c_r ?_
  refine rq ?_;intro gd K hgd hK;try simp (disch:=first|omega|assumption|rfl) only[go_sem,h5,q5]
  refine Fn.mono (zdq (hr.ext hwv) hel) ?_;rintro u Y2 ⟨hou,hY2⟩;try simp only[go_sem]
  obtain⟨au,cu,hu'⟩:=hou.slice;have hur:=hou.row;have hub:=hou.blk;rw[hu']at hur hub;rw[ylm]at hu' hur hub;rw[hu'];obtain⟨_,_,he,hcc,hgg⟩:=id hur;injection he with e1 e2 e3
  subst e1 e3;rw[ylm]at hcc;refine Fn.mono (P_cs.Clip_ok hcc) ?_;rintro _ y0 ⟨rfl,hy0⟩;try simp only[go_sem]
  rw[hy0];clear hy0 y0;refine hK _ _ ?_;clear hK hgd;clear K;try clear gd
  repeat refine c_r ?_
  have hrc:Row Y2 (.slice au (zbQ o R n).length (zbQ o R n).length) ((zbQ o R n).map vs):=⟨au,(zbQ o R n).length,by rw[ylm],by rw[ylm];exact ynl _,hgg⟩;have s7:=hK.size;refine zd6 (v:= .slice au (zbQ o R n).length (zbQ o R n).length) (.inr rfl) (by rfl) Tryz.ntmps250 vq0 (Ext.at hY2 hD) ?_;intro Z hkZ hsZ;have hlt:w6.heap.size<v'.heap.size:=(Array.getElem?_eq_some_iff.1 hD).1;exact⟨hrc.keepB hkZ (hub.same.mono (B':=w6.heap.size+1) (by omega)) (fun b hb _=>by omega),Keep.to_ext (hwv.trans hY2) rfl (fun b hb=>by omega) hkZ⟩
theorem ze8{o n:Nm}{R:List RecL}:(zbQ o R n).length<=n.length:=by
 unfold zbQ
 split
 ·cases hq:((za8 o n).takeWhile (zaK o R)).getLast? with
  |none=>simp
  |some x=>
   have h1:=(List.takeWhile_sublist _).subset (List.mem_of_getLast? hq);unfold za8 at h1
   split at h1
   ·obtain⟨i,hi,h⟩:=zbM.1 h1;simp only[Option.getD_some];rw[h];simp
   ·cases h1
 ·simp
theorem zl0{o n:Nm}{R:List RecL}(hn:LB n):LB (zbQ o R n):=by
 unfold zbQ
 split
 ·cases hq:((za8 o n).takeWhile (zaK o R)).getLast? with
  |none=>intro l hl;cases hl
  |some x=>
   have h1:=(List.takeWhile_sublist _).subset (List.mem_of_getLast? hq);unfold za8 at h1
   split at h1
   ·obtain⟨i,hi,h⟩:=zbM.1 h1;simp only[Option.getD_some];rw[h];exact hn.drop i
   ·cases h1
 ·intro l hl;cases hl
theorem zir{o n:Nm}{R:List RecL}(h:NmS n)(hl:n.length<=1000000):NmS (zbt o R n):=by
 refine⟨fun l hl=>?_,?_⟩
 ·rcases List.mem_cons.1 hl with rfl|hl
  ·decide
  ·exact zl0 h.lb l hl
 ·have:=ze8 (o:=o) (R:=R) (n:=n);unfold zbt;rw[List.length_cons];omega
theorem zmm{w0 w:World}{ov lv nv:Value}{o n:Nm}{R:List RecL}(hz:ZnAt w0 w ov lv o R)(hn:Row w nv (n.map vs))(hok:NmS n)(hnl:n.length<=1000000):
  Fn Tryz.prog 202 #[.agg #[ov,lv],nv] w (fun v w'=>Ext w w'/\∃sv,v= .tuple #[sv,.bool (zaW o R n).isSome]/\Row w' sv (((zaW o R n).getD []).map vs)):=by
 obtain⟨ao,co,hov,_⟩:=id hz.org;obtain⟨al,cl,hlv,_⟩:=hz.recs.open;have hst:=zir (o:=o) (R:=R) hok hnl;rw[hov,hlv];refine enter Tryz.func202 Tryz.ntmps202 rfl rfl ?_;refine gz0 ?_;rw[←hov,←hlv];refine zax ?_;intro w1 hE1 hs1 hA;have d2:=zae (n:=2) (l:=[ov,lv]) hA rfl;have hz1:=hz.ext hE1;refine rq ?_;intro gd K hgd hK;refine sgz d2 ?_;refine Fn.mono (ziZ hz1 (hn.ext hE1) hok) ?_;rintro ev w2 ⟨hev,hE2⟩;try simp only[go_sem]
 refine Fn.mono (Child_ok w2 ev starL (zbQ o R n) hev (by have:=ze8 (o:=o) (R:=R) (n:=n);omega)) ?_;rintro sv w3 ⟨hsv,hE3⟩;try simp only[go_sem]
 have hsr:Row w3 sv ((zbt o R n).map vs):=hsv.1;obtain⟨as1,cs1,hsv',_⟩:=id hsr;have hB3:=zau w3 (.cells #[.slice .none 0 0] 27 (0,0));have hE4:=Ext.alloc w3 (.cells #[.slice .none 0 0] 27 (0,0));have hs4:=zai w3 (.cells #[.slice .none 0 0] 27 (0,0));revert hB3 hE4 hs4;generalize w3.alloc (.cells #[.slice .none 0 0] 27 (0,0))=w4;intro hB3 hE4 hs4;refine zaU (P:=Tryz.prog) (t:=27) (j:=0) (l:=[.slice .none 0 0]) hB3 (by simp) (by rw[hsv'];rfl) rfl rfl ?_;intro w5 hs5 hB5 hk5;try simp only[go_sem]
 apply hK;simp only[List.set_cons_zero]at hB5;have hE35:Ext w3 w5:=Keep.to_ext hE4 rfl (fun b hb=>by omega) hk5;have hE15:=(hE2.trans hE3).trans hE35;have hz5:=hz1.ext hE15;have p1:zad w5 (some ⟨w.heap.size,1,.none⟩)=some lv:=zab (Ext.at hE15 hA) rfl;have q1:zad w5 (some ⟨w3.heap.size,0,.none⟩)=some sv:=zab hB5 rfl;refine rqz ?_;intro gd K hgd hK;refine sgz (az2 p1 yn0) ?_;refine Fn.mono (zdY (cap:=[.pointer (some ⟨w3.heap.size,0,.none⟩)]) hz5.recs (zin hz5.e0 hB5 (hsr.ext hE35) hst hz.ok) hz.rl) ?_;rintro _ w6 ⟨rfl,hE6⟩;try simp only[go_sem]
 apply hK;have hE:=(hE1.trans hE15).trans hE6;have q1':=zaa hE6 q1;have hany:(R.any fun r=>decide (zaq r.owner=zaq (zbt o R n)))=ownsL R (zbt o R n):=rfl;rw[hany];refine wcz ?_ ?_
 ·intro h;simp only[Bool.not_eq_true']at h;refine gz0 ?_;have hso:zaW o R n= .none:=by unfold zaW;rw[h];rfl
  refine zat (.inr rfl) Tryz.ntmps202 rfl (zam (v:= .slice .none 0 0) vr0 (zam (v:= .bool false) vr0 zap)) ?_;exact⟨hE,_,by rw[hso];rfl,by rw[hso];exact⟨.none,0,rfl,ynl _,fun j h=>absurd h (by simp)⟩⟩
 ·intro h;simp only[Bool.not_eq_false']at h;refine gz q1' ?_;have hso:zaW o R n=some (zbt o R n):=by unfold zaW;rw[h];rfl
  refine zat (.inr rfl) Tryz.ntmps202 rfl (zam (v:=sv) vr0 (zam (v:= .bool true) vr0 zap)) ?_;exact⟨hE,_,by rw[hso];rfl,by rw[hso];exact hsr.ext (hE35.trans hE6)⟩
theorem Glue_ok{w0 w:World}{ov lv hv:Value}{o h:Nm}{R:List RecL}(hz:ZnAt w0 w ov lv o R)(hn:Row w hv (h.map vs))(hok:NmS h):
  Fn Tryz.prog 247 #[.agg #[ov,lv],hv] w (fun v w'=>Ext w w'/\Rows 5 (DatAt w0) w' v (zbe R h)/\BlkB w.heap.size w' v):=by
 obtain⟨ao,co,hov,_⟩:=id hz.org;obtain⟨al,cl,hlv,_⟩:=hz.recs.open;rw[hov,hlv];refine enter Tryz.func247 Tryz.ntmps247 rfl rfl ?_;refine gz0 ?_;rw[←hov,←hlv];refine zax ?_;intro w1 hE1 hs1 hA;refine gz0 ?_;refine rq ?_;intro gd K hgd hK;try simp only[go_sem]
 refine bs_two (z:=vi 0) (by rfl) (by rfl) (by rfl) (by rfl) (by rfl) (by rfl) ?_;intro w2 hE2 hs2 ho2;try simp only[go_sem]
 apply hK;have hro:=ho2.row;have hE12:=hE1.trans hE2;repeat refine c_r ?_
 refine zao (fun m σ ds A=>ds=[]/\∃(i:Nat) (gv:Value),i+m=2/\σ 12=vi i/\σ 11=vi (2:Nat)/\σ 10= .slice (some ⟨w1.heap.size,0,.none⟩) 2 2/\σ 1=hv/\σ 2= .pointer (some ⟨w.heap.size,0,.none⟩)/\σ 5=gv/\Ext w2 A/\Owns 5 (DatAt w0) w2.heap.size A 197 gv ((([1,28]:List Int).take i).flatMap (datC R h))) 2 ?_ ?_
 ·exact⟨rfl,0,.slice .none 0 0,by omega,vr0,vr0,vq0,vq0,vq0,vq0,Keep.refl _ _,Owns.nil _ _ _ _ _⟩
 rintro m σ ds A ⟨rfl,i,gv,him,h12,h11,h10,h1,h2,h5,hEA,hgv⟩;have hE2A:=hE12.trans hEA;have hzA:=hz.ext hE2A;refine rqz ?_;intro gd K hgd hK;simp (disch:=first|omega|assumption|rfl) only[go_sem,h12,h11];refine hK _ _ ?_;clear hK hgd;clear K gd;refine wcz ?_ ?_
 ·intro hlt;simp only[ydT]at hlt;have hi2:i<2:=by omega
  have hi0:=cj i;have hi1:(i:Int)<((2:Nat):Int):=by omega
  have hi1':=ci i;obtain⟨t,ht⟩:∃t,([1,28]:List Int)[i]'(by simpa using hi2)=t:=⟨_,rfl⟩;have hcell:zad A (some ⟨w1.heap.size,i,.none⟩)=some (vi t):=by
   obtain⟨a,c,e,hc,hg⟩:=hro.ext hEA;injection e with e1 e2 e3
   have:=hg i (by simpa using hi2);rw[←e1,za6,yn0]at this;rw[this,←ht];have hcase:i=0\/i=1:=by omega
   rcases hcase with rfl|rfl<;>rfl
  have hfl:(([1,28]:List Int).take (i+1)).flatMap (datC R h)=(([1,28]:List Int).take i).flatMap (datC R h)++datC R h t:=by
   rw[zal (by simpa using hi2),List.flatMap_append,ht];simp
  have p1:zad A (some ⟨w.heap.size,1,.none⟩)=some lv:=zab (Ext.at (hE2.trans hEA) hA) rfl;refine rqz ?_;intro gd K hgd hK;refine sgz (az6 h10 h12 hi0 hi1 hcell yn0) ?_;apply hK;refine rqz ?_;intro gd K hgd hK;refine sgz (az4 h1 h2 p1 yn0) ?_;refine Fn.mono (Of_ok hzA.e0 hzA.recs (hn.ext hE2A) hok.lb (by have:=hok.len;omega) hz.ok hz.rl) ?_;rintro _ A1 ⟨hE3,ow,ty,tl,dv,rfl,how,_,hdv,hdb⟩;try simp only[go_sem]
  have hB3:=zau A1 (.cells #[.slice .none 0 0,vi 0,v32 0,.slice .none 0 0] 340 (0,0));have hE4:=Ext.alloc A1 (.cells #[.slice .none 0 0,vi 0,v32 0,.slice .none 0 0] 340 (0,0));have hs4:=zai A1 (.cells #[.slice .none 0 0,vi 0,v32 0,.slice .none 0 0] 340 (0,0));revert hB3 hE4 hs4;generalize A1.alloc (.cells #[.slice .none 0 0,vi 0,v32 0,.slice .none 0 0] 340 (0,0))=A2;intro hB3 hE4 hs4;obtain⟨ad,cd,hdv',_⟩:=hdv.open;refine zaD (P:=Tryz.prog) (t:=340) (l:=[ow,vi ty,v32 tl,dv]) hB3 rfl (fun v h=>by
   simp at h;rcases h with rfl|rfl|rfl|rfl
   ·exact how
   ·rfl
   ·rfl
   ·rw[hdv'];rfl) rfl rfl ?_
  intro A3 hs5 hB5 hk5;try simp only[go_sem]
  apply hK;have hE5:Ext A1 A3:=Keep.to_ext hE4 rfl (fun b hb=>by omega) hk5;have hEAA:=(hEA.trans hE3).trans hE5;have q3:zad A3 (some ⟨A1.heap.size,3,.none⟩)=some dv:=zcr hB5 rfl;refine rqz ?_;intro gd K hgd hK;refine sgz (az3 h5 q3 yn0) ?_;have hlen1:∀u:Int,(datC R h u).length<=1000000000:=fun u=>by
   have h1:=zci (R.filter (isL h u));have h2:=List.length_filter_le (isL h u) R;have h3:=hz.rl;unfold datC ofC;rw[ylm];omega
  have hlen2:((([1,28]:List Int).take i).flatMap (datC R h)).length<=2000000000:=by
   have a1:=hlen1 1;have a2:=hlen1 28;have hcase:i=0\/i=1:=by omega
   rcases hcase with rfl|rfl
   ·simp
   ·simp;omega
  refine zaG (zaP w0) (((hgv.ext hE3).ext hE5)) (hdv.ext hE5) (by rfl) (by rfl) (by rfl) (by rfl) (by rfl) (by rfl) (by decide) (by rfl) (by rfl) (by have:=hlen1 t;unfold datC at this hlen2 ⊢;omega) (by decide) hEAA.size ?_;intro gv' A4 hgv' hE6 _ _;try simp only[go_sem]
  apply hK;refine gz (az2 h12 hi1') ?_;exact⟨m - 1,by omega,rfl,i+1,gv',by omega,vq0,by simp only[go_sem,h11],vq1 h10,vq1 h1,vq1 h2,vq0,hE6 w2 hEAA (ynl _),by rw[hfl];exact hgv'⟩
 ·intro hge;simp only[ydF]at hge;have hi:i=2:=by omega
  subst hi;have hgl:(([1,28]:List Int).take 2).flatMap (datC R h)=zbe R h:=by simp[zbe]
  rw[hgl]at hgv;obtain⟨ag,cg,hgv',hcg,_⟩:=hgv.rows.open;rw[hgv']at hgv;refine rqz ?_;intro gd K hgd hK;refine sgz h5 ?_;rw[hgv'];refine Fn.mono (P_cd.Clip_ok hcg) ?_;rintro _ y0 ⟨rfl,hy0⟩;try simp only[go_sem]
  rw[hy0];clear hy0 y0;refine en hK ?_;refine rt0 Tryz.ntmps247 ?_;have h3:=hgv.rows.take (m:=(zbe R h).length) (c2:=(zbe R h).length) (ynl _) (ynl _);rw[List.take_length]at h3;exact⟨hE2A,h3,hgv.blk.same.mono hE12.size⟩
def errL(l:Lab):Int:=if l=[] then 8 else if 63<l.length then 3 else 0
def lenN(n:Nm):Nat:=1+(n.map fun l=>1+l.length).sum
def zaA(n:Nm):Int:=match n.find? (fun l=>decide (errL l≠0)) with
 |some l=>errL l
 | .none=>if 255<lenN n then 3 else 0
theorem zmy(w:World)(l:Lab)(hl:l.length<=9000000000000000000):Fn Tryz.prog 124 #[vs l] w (fun v w'=>v=vi (errL l)/\Ext w w'):=by
 refine enter Tryz.func124 Tryz.ntmps124 rfl rfl ?_;refine gz0 ?_;refine wc0 ?_ ?_
 ·intro h;simp only[ydT]at h;refine gz0 ?_;refine rt0 Tryz.ntmps124 ?_;exact⟨by unfold errL;rw[if_pos h],Keep.refl _ _⟩
 intro h;simp only[ydF]at h;refine gz0 ?_;refine wc0 ?_ ?_
 ·intro h2;simp only[ydT]at h2;refine gz0 ?_;refine rt0 Tryz.ntmps124 ?_;exact⟨by unfold errL;rw[if_neg h,if_pos (by omega)],Keep.refl _ _⟩
 ·intro h2;simp only[ydF]at h2;refine gz0 ?_;refine rt0 Tryz.ntmps124 ?_;exact⟨by unfold errL;rw[if_neg h,if_neg (by omega)],Keep.refl _ _⟩
theorem zga(w:World)(l:Lab)(hl:l.length<=9000000000000000000):Fn Tryz.prog 98 #[vs l] w (fun v w'=>v=vi (errL l)/\Ext w w'):=by
 refine enter Tryz.func98 Tryz.ntmps98 rfl rfl ?_;refine gz0 ?_;refine wc0 ?_ ?_
 ·intro h;simp only[ydT]at h;refine gz0 ?_;refine rt0 Tryz.ntmps98 ?_;exact⟨by unfold errL;rw[if_pos h],Keep.refl _ _⟩
 intro h;simp only[ydF]at h;refine gz0 ?_;refine wc0 ?_ ?_
 ·intro h2;simp only[ydT]at h2;refine gz0 ?_;refine rt0 Tryz.ntmps98 ?_;exact⟨by unfold errL;rw[if_neg h,if_pos (by omega)],Keep.refl _ _⟩
 ·intro h2;simp only[ydF]at h2;refine gz0 ?_;refine rt0 Tryz.ntmps98 ?_;exact⟨by unfold errL;rw[if_neg h,if_neg (by omega)],Keep.refl _ _⟩
theorem sum_take{n:Nm}{i:Nat}(hi:i<n.length)(f:Lab->Nat):((n.take (i+1)).map f).sum=((n.take i).map f).sum+f n[i]:=by
 rw[zal hi,List.map_append,List.sum_append,List.map_cons,List.map_nil,List.sum_cons,List.sum_nil,Nat.add_zero]
theorem zfj:∀(k:Nm),(∀l∈k,l.length<=1000000000)->(k.map fun l=>1+l.length).sum<=1000000001*k.length
 | [],_=>by simp
 |x::k,h=>by
  have h3:=zfj k (fun l hl=>h l (List.mem_cons_of_mem _ hl));have h4:=h x (List.mem_cons_self ..);rw[List.map_cons,List.sum_cons,List.length_cons];omega
theorem RLen_ok(w:World)(nv:Value)(n:Nm)(hn:Row w nv (n.map vs))(hl:∀l∈n,l.length<=1000000000)(hnl:n.length<=1000000000):
  Fn Tryz.prog 99 #[nv] w (fun v w'=>v=vi (lenN n)/\Ext w w'):=by
 obtain⟨an,cn,rfl,hcn,hgn⟩:=hn;simp only[ylm]at hcn hgn;rw[ylm];refine enter Tryz.func99 Tryz.ntmps99 rfl rfl ?_;refine gz0 ?_;refine zao (fun m σ ds A=>ds=[]/\∃(i:Nat),i+m=n.length/\σ 4=vi i/\σ 0= .slice an n.length cn/\σ 3=vi (lenN (n.take i))/\Ext w A) n.length ?_ ?_
 ·exact⟨rfl,0,by omega,vr0,vq0,vr0,Keep.refl _ _⟩
 rintro m σ ds A ⟨rfl,i,him,h4,h0,h3,hEA⟩;refine gz (az2 h4 h0) ?_;refine wc0 ?_ ?_
 ·intro hlt;simp only[ydT]at hlt;have hi:i<n.length:=by omega
  have hi0:=cj i;have hi1:(i:Int)<(n.length:Int):=by omega
  have hi1':=ci i;have hg:=zaa hEA (hgn i (by simpa using hi));rw[List.getElem_map]at hg;obtain⟨xn,rfl⟩:=yxs (zag hg);have hb:=zfj (n.take i) (fun l hl'=>hl l (List.mem_of_mem_take hl'));rw[List.length_take]at hb;have hb2:=hl n[i] (List.getElem_mem hi);have hs:((n.take (i+1)).map fun l=>1+l.length).sum=((n.take i).map fun l=>1+l.length).sum+(1+n[i].length):=sum_take hi _;have hlen:((lenN (n.take i):Nat):Int)+1+((n[i]).length:Int)=((lenN (n.take (i+1)):Nat):Int):=by unfold lenN;rw[hs];omega
  have hln:lenN (n.take i)<=2000000000000000000:=by
   unfold lenN;have:min i n.length<=1000000000:=by omega
   omega
  refine gz (az2 (az7 h0 h3 h4 hi0 hi1 hg hlen) hi1') ?_;exact⟨m - 1,by omega,rfl,i+1,by omega,vq0,vq1 h0,vq0,hEA⟩
 ·intro hge;simp only[ydF]at hge;rw[List.take_of_length_le (by omega)]at h3;refine gz h3 ?_;refine rt1 h3 Tryz.ntmps99 ?_;exact⟨rfl,hEA⟩
def encL(x:Lab)(_:World)(args:Array Value):Prop:=args=#[vs x]
theorem revDrop{n:Nm}{k:Nat}(hk:k<n.length):(n.take (k+1)).reverse=n[k]::(n.take k).reverse:=by
 rw[zal hk];simp
theorem labelsIt{W0:World}{C:Nat->Prop}{bn:Nat}{nv:Value}{n:Nm}(hbn:W0.heap[bn]? =some (.cells #[nv] 27 (0,0)))(hn:Row W0 nv (n.map vs))(hC1:¬C bn)(hCw:n≠ []->∀b,C b->b<W0.heap.size->∀a m c,nv= .slice (some a) m c->a.block≠b)(hnl:n.length<=1000000000000)
  (hnb:n≠ []->∀a m c,nv= .slice (some a) m c->a.block<W0.heap.size):
  Iter Tryz.prog 221 #[.pointer (some ⟨bn,0,.none⟩)] W0 W0.heap.size C n.reverse encL:=by
 intro lp J Jx W hW hnW hJ hJx hY h0;obtain⟨an,cn,rfl,hcn,hgn⟩:=hn;simp only[ylm]at hcn hgn hbn hCw hnb;have hln:=(Array.getElem?_eq_some_iff.1 hbn).1;have p0:zad W (some ⟨bn,0,.none⟩)=some (.slice an n.length cn):=zaa hW (zab hbn rfl);refine enter Tryz.func221 Tryz.ntmps221 rfl rfl ?_;repeat refine c_r ?_
 refine rg2 p0 Nat.add_zero ?_;repeat refine c_r ?_
 refine zao (fun m σ ds v=>ds=[]/\∃(pre:List Lab) (k:Nat),n.reverse=pre++(n.take k).reverse/\k<=m/\k<=n.length/\σ 3=vi ((k:Int) - 1)/\σ 0= .func (.yield lp) #[] #[]/\σ 1= .pointer (some ⟨bn,0,.none⟩)/\J pre v/\KeepB W0.heap.size C W v) n.length ?_ ?_
 ·exact⟨rfl,[],n.length,by simp,ynl _,ynl _,vq0,vq0,vq0,h0,KeepB.refl _ _ _⟩
 rintro m σ ds v ⟨rfl,pre,k,hd,hkm,hkn,h3,hs0,hs1,hjj,hKB⟩;have p1:zad v (some ⟨bn,0,.none⟩)=some (.slice an n.length cn):=zdC hKB hln hC1 p0;repeat refine c_r ?_
 refine rg1 h3 ?_;repeat refine c_r ?_
 refine wc0 ?_ ?_
 ·intro hge;simp only[ydT,ge_iff_le]at hge;obtain⟨j,rfl⟩:∃j,k=j+1:=⟨k - 1,by omega⟩;have hj:j<n.length:=by omega
  have ej:((j+1:Nat):Int) - 1=(j:Int):=by omega
  rw[ej]at h3;have hj0:=cj j;have hj1:(j:Int)<(n.length:Int):=by omega
  have hg:=hgn j (by simpa using hj);rw[List.getElem_map]at hg;obtain⟨xn,rfl⟩:=yxs (zag hg);have hnn:n≠ []:=List.length_pos_iff.1 (by omega);have hgv:zad v (adr (some xn) j)=some (vs n[j]):=by
   have hb:=hnb hnn xn _ _ rfl;have h1:=zaa hW hg;refine zdC hKB (by rw[zbq];exact hb) (fun hc=>?_) h1;rw[zbq]at hc;exact hCw hnn _ hc hb xn _ _ rfl rfl
  have hxs:n.reverse=pre++n[j]::(n.take j).reverse:=by rw[hd,revDrop hj]
  repeat refine c_r ?_
  refine rq ?_;intro gd K hgd hK;try simp (disch:=first|omega|assumption|rfl) only[go_sem,h3,hs0,hs1,p1,hj0,hj1,hgv]
  refine Yld.mono (hY pre n[j] (n.take j).reverse v _ hxs hjj hKB rfl) ?_;rintro u x (⟨rfl,hj',hk'⟩| ⟨rfl,hjx⟩)
  ·try simp only[go_sem]
   refine hK _ _ ?_;clear hK hgd;clear K;try clear gd
   repeat refine c_r ?_
   refine wc0 ?_ ?_
   ·intro h;simp at h
   ·intro _;repeat refine c_r ?_
    refine rg1 h3 ?_;refine zas ?_;exact⟨m - 1,by omega,rfl,pre++ [n[j]],j,by rw[hxs];simp,by omega,by omega,vq0,vq1 hs0,vq1 hs1,hj',hKB.trans hk'⟩
  ·try simp only[go_sem]
   refine hK _ _ ?_;clear hK hgd;clear K;try clear gd
   repeat refine c_r ?_
   refine wc0 ?_ ?_
   ·intro _;repeat refine c_r ?_
    refine zaC (by simp) rfl (.inr ⟨_,_,_,hxs,hjx⟩)
   ·intro h;simp at h
 ·intro hge;simp only[ydF,ge_iff_le]at hge;have hk0:k=0:=by omega
  subst hk0;repeat refine c_r ?_
  refine zaC (by simp) rfl (.inl ?_);rw[hd];simpa using hjj
theorem zlE{w:World}{nv:Value}(hn:∃a n c,nv= .slice a n c):
  Fn Tryz.prog 170 #[nv] w (fun v w'=>v= .func (.func 221) #[] #[.pointer (some ⟨w.heap.size,0,.none⟩)]/\Ext w w'/\w'.heap.size=w.heap.size+1/\w'.heap[w.heap.size]? =some (.cells #[nv] 27 (0,0))):=by
 obtain⟨an,nn,cn,rfl⟩:=hn;refine enter Tryz.func170 Tryz.ntmps170 rfl rfl ?_;repeat refine c_r ?_
 refine rg0 ?_;repeat refine c_r ?_
 refine zax ?_;intro w1 hE1 hs1 hA;refine rg0 ?_;repeat refine c_r ?_
 refine rt0 Tryz.ntmps170 ?_;exact⟨rfl,hE1,hs1,hA⟩
theorem row_lt{w:World}{nv:Value}{l:List Value}(h:Row w nv l)(h0:l≠ []):∀a m c,nv= .slice (some a) m c->a.block<w.heap.size:=by
 intro a m c hv;obtain⟨a',c',e,hc,hg⟩:=h;rw[hv]at e;injection e with e1
 have h1:=hg 0 (List.length_pos_iff.2 h0);rw[←e1]at h1;have:=zcB (show w.cell? (a.add 0)=some _ from h1)
 rwa [zbq]at this
theorem NLen_ok(w:World)(nv:Value)(n:Nm)(hn:Row w nv (n.map vs))(hl:∀l∈n,l.length<=1000000000)(hnl:n.length<=1000000000):
  Fn Tryz.prog 125 #[nv] w (fun v w'=>v=vi (lenN n)/\Ext w w'):=by
 have hn0:=hn;obtain⟨an,cn,hnv,_⟩:=id hn;rw[hnv];refine enter Tryz.func125 Tryz.ntmps125 rfl rfl ?_;refine gz0 ?_;rw[←hnv];refine rq ?_;intro gd K hgd hK;try simp only[go_sem]
 have hB3:=zau w (.cells #[vi 0] 3 (0,0));have hE4:=Ext.alloc w (.cells #[vi 0] 3 (0,0));have hs4:=zai w (.cells #[vi 0] 3 (0,0));revert hB3 hE4 hs4;generalize w.alloc (.cells #[vi 0] 3 (0,0))=w1;intro hB3 hE4 hs4;refine zaU (P:=Tryz.prog) (t:=3) (j:=0) (l:=[vi 0]) hB3 (by simp) rfl rfl rfl ?_;intro w2 hs2 hB2 hk2;try simp only[go_sem]
 apply hK;simp only[List.set_cons_zero]at hB2;have hE2:Ext w w2:=Keep.to_ext hE4 rfl (fun b hb=>by omega) hk2;refine rqz ?_;intro gd K hgd hK;try simp only[go_sem]
 refine Fn.mono (zlE ⟨_,_,_,hnv⟩) ?_;rintro _ w3 ⟨rfl,hE3,hs3,hbn⟩;try simp only[go_sem]
 apply hK;have hE23:=hE2.trans hE3;have hB2':=hE3.at hB2;have hn3:=hn.ext hE23;have hlt:n≠ []->∀a m c,nv= .slice (some a) m c->a.block<w.heap.size:=fun hnn=>row_lt hn (by simpa using hnn);repeat refine c_r ?_
 refine zdW (g:=221) (cap:=#[.pointer (some ⟨w2.heap.size,0,.none⟩)]) vq0 rfl (labelsIt (C:=fun b=>b=w.heap.size) hbn hn3 (by omega) (fun h0 b hb _ a m c hv=>by have:=hlt h0 a m c hv;omega) (by omega) (fun h0 a m c hv=>by have:=hlt h0 a m c hv;omega)) (Keep.refl _ _) (ynl _) (fun b hb=>by omega)
  (fun x A args h=>by rw[h];rfl)
  (fun pre A=>Ext w A/\A.heap[w.heap.size]? =some (.cells #[vi (1+(pre.map fun l=>1+l.length).sum:Nat)] 3 (0,0)))
  (fun _ _ _=>False) ?_ (fun _ _ _ _ h _=>h.elim) ?_ ?_ ?_ (fun _ _ _ _ _ _ _ h _=>h.elim)
 ·rintro pre A B ⟨h1,h2⟩ hk;exact⟨Keep.to_ext h1 rfl (fun b hb=>by unfold two at hb;omega) hk,(hk.block _ (Array.getElem?_eq_some_iff.1 h2).1 (by unfold two;omega)).trans h2⟩
 ·exact⟨hE23,hB2'⟩
 ·rintro lp pre x suf A args hxs hszA ⟨hEA,hb⟩ rfl;have hpl:pre.length+1<=n.length:=by
   have:=congrArg List.length hxs;simp at this;omega
  have hpm:∀l∈pre,l.length<=1000000000:=fun l hl'=>hl l (List.mem_reverse.1 (by rw[hxs];simp[hl']));have hxm:x.length<=1000000000:=hl x (List.mem_reverse.1 (by rw[hxs];simp));have hsb:=zfj pre hpm;have hsum:(((1+(pre.map fun l=>1+l.length).sum:Nat):Int))+(1+(x.length:Int))=((1+((pre++ [x]).map fun l=>1+l.length).sum:Nat):Int):=by
   rw[List.map_append,List.sum_append,List.map_cons,List.map_nil,List.sum_cons,List.sum_nil];omega
  have hs2':((1+(pre.map fun l=>1+l.length).sum:Nat):Int)<=2000000000000000000:=by omega
  refine rq ?_;intro gd K hgd hK;try simp only[go_sem]
  apply hK;refine zas ?_;refine⟨rfl,KeepB.refl _ _ _,fun Y hY=>?_⟩;have hbY:=(hY.block _ (by omega) (by unfold two;omega)).trans hb;have hEY:Ext w Y:=Keep.to_ext hEA rfl (fun b hb=>by unfold two at hb;omega) hY;have hsY:=hY.size;have q0:zad Y (some ⟨w.heap.size,0,.none⟩)=some (vi (1+(pre.map fun l=>1+l.length).sum:Nat)):=zab hbY rfl;refine rqz ?_;intro gd K hgd hK;refine sgz (az2 q0 hsum) ?_;refine zaU (P:=Tryz.prog) (t:=3) (j:=0) (l:=[vi (1+(pre.map fun l=>1+l.length).sum:Nat)]) hbY (by simp) rfl rfl rfl ?_;intro z hz hbz hkz;try simp only[go_sem]
  apply hK;simp only[List.set_cons_zero]at hbz;repeat refine c_r ?_
  exact⟨⟨Keep.to_ext hEY rfl (fun b hb=>by omega) hkz,hbz⟩,hkz.toB (by omega) (fun i _ h=>h)⟩
 ·intro A hszA ⟨hEA,hb⟩ hD;have q0:zad A (some ⟨w.heap.size,0,.none⟩)=some (vi (1+(n.reverse.map fun l=>1+l.length).sum:Nat)):=zab hb rfl;have hrev:(n.reverse.map fun l=>1+l.length).sum=(n.map fun l=>1+l.length).sum:=by rw[List.map_reverse,List.sum_reverse]
  rw[hrev]at q0;refine gz q0 ?_;refine zd6 (v:=vi (lenN n)) (.inr rfl) (by rfl) Tryz.ntmps125 vr0 hD ?_;intro Z hkZ hsZ;exact⟨rfl,Keep.to_ext hEA rfl (fun b hb=>by omega) hkZ⟩
theorem zgu{n:Nm}{i:Nat}(hi:i<n.length)(h:∀j (h:j<n.length),j<i->errL n[j]=0)(he:errL n[i]≠0):zaA n=errL n[i]:=by
 unfold zaA;have:n.find? (fun l=>decide (errL l≠0))=some n[i]:=by
  refine zju (pre:=n.take i) (suf:=n.drop (i+1)) (zd4 hi) (fun y hy=>?_) (by simpa using he);obtain⟨j,hj,rfl⟩:=List.getElem_of_mem hy;rw[List.getElem_take];simp at hj;simpa using h j (by omega) (by omega)
 rw[this]
theorem zfN{n:Nm}(h:∀j (h:j<n.length),errL n[j]=0):zaA n=if 255<lenN n then 3 else 0:=by
 unfold zaA;have:n.find? (fun l=>decide (errL l≠0))= .none:=zgo (fun y hy=>by
  obtain⟨j,hj,rfl⟩:=List.getElem_of_mem hy;simpa using h j hj)
 rw[this]
theorem zbc(w:World)(nv:Value)(n:Nm)(hn:Row w nv (n.map vs))(hl:∀l∈n,l.length<=1000000000)(hnl:n.length<=1000000000):
  Fn Tryz.prog 49 #[nv] w (fun v w'=>v=vi (zaA n)/\Ext w w'):=by
 have hn0:=hn;obtain⟨an,cn,rfl,hcn,hgn⟩:=hn;simp only[ylm]at hcn hgn hn0;rw[ylm];refine enter Tryz.func49 Tryz.ntmps49 rfl rfl ?_;refine gz0 ?_;refine zao (fun m σ ds A=>ds=[]/\∃(i:Nat),i+m=n.length/\σ 3=vi i/\σ 0= .slice an n.length cn/\Ext w A/\∀j (h:j<n.length),j<i->errL n[j]=0) n.length ?_ ?_
 ·exact⟨rfl,0,by omega,vr0,vq0,Keep.refl _ _,fun j h hj=>absurd hj (by omega)⟩
 rintro m σ ds A ⟨rfl,i,him,h3,h0,hEA,hlow⟩;refine gz (az2 h3 h0) ?_;refine wc0 ?_ ?_
 ·intro hlt;simp only[ydT]at hlt;have hi:i<n.length:=by omega
  have hi0:=cj i;have hi1:(i:Int)<(n.length:Int):=by omega
  have hi1':=ci i;have hg:=zaa hEA (hgn i (by simpa using hi));rw[List.getElem_map]at hg;obtain⟨xn,rfl⟩:=yxs (zag hg);refine rqz ?_;intro gd K hgd hK;refine sgz (az5 h0 h3 hi0 hi1 hg) ?_;refine Fn.mono (zga A n[i] (by have:=hl n[i] (List.getElem_mem hi);omega)) ?_;rintro _ A1 ⟨rfl,hE1⟩;try simp only[go_sem]
  apply hK;refine gz0 ?_;refine wc0 ?_ ?_
  ·intro hne;simp only[Bool.not_eq_true',ydF]at hne;refine gz0 ?_;refine rt0 Tryz.ntmps49 ?_;exact⟨by rw[zgu hi hlow hne],hEA.trans hE1⟩
  ·intro heq;simp only[Bool.not_eq_false',ydT]at heq;refine gz (az2 h3 hi1') ?_;refine⟨m - 1,by omega,rfl,i+1,by omega,vq0,vq1 h0,hEA.trans hE1,fun j hj hji=>?_⟩;by_cases hj2:j=i
   ·subst hj2;exact heq
   ·exact hlow j hj (by omega)
 ·intro hge;simp only[ydF]at hge;have hgood:=zfN (n:=n) (fun j hj=>hlow j hj (by omega));refine rqz ?_;intro gd K hgd hK;refine sgz h0 ?_;refine Fn.mono (RLen_ok A _ n (hn0.ext hEA) hl hnl) ?_;rintro _ A1 ⟨rfl,hE1⟩;try simp only[go_sem]
  apply hK;refine wcz ?_ ?_
  ·intro hb;simp only[ydT]at hb;refine gz0 ?_;refine rt0 Tryz.ntmps49 ?_;exact⟨by rw[hgood,if_pos (by omega)],hEA.trans hE1⟩
  ·intro hb;simp only[ydF]at hb;refine gz0 ?_;refine rt0 Tryz.ntmps49 ?_;exact⟨by rw[hgood,if_neg (by omega)],hEA.trans hE1⟩
theorem zig(w:World)(nv:Value)(n:Nm)(hn:Row w nv (n.map vs))(hl:∀l∈n,l.length<=1000000000)(hnl:n.length<=1000000000):
  Fn Tryz.prog 72 #[nv] w (fun v w'=>v=vi (zaA n)/\Ext w w'):=by
 have hn0:=hn;obtain⟨an,cn,rfl,hcn,hgn⟩:=hn;simp only[ylm]at hcn hgn hn0;rw[ylm];refine enter Tryz.func72 Tryz.ntmps72 rfl rfl ?_;refine gz0 ?_;refine zao (fun m σ ds A=>ds=[]/\∃(i:Nat),i+m=n.length/\σ 8=vi i/\σ 7=vi n.length/\σ 6= .slice an n.length cn/\σ 0= .slice an n.length cn/\Ext w A/\∀j (h:j<n.length),j<i->errL n[j]=0) n.length ?_ ?_
 ·exact⟨rfl,0,by omega,vr0,vq0,vq0,vq0,Keep.refl _ _,fun j h hj=>absurd hj (by omega)⟩
 rintro m σ ds A ⟨rfl,i,him,h8,h7,h6,h0,hEA,hlow⟩;refine gz (az2 h8 h7) ?_;refine wc0 ?_ ?_
 ·intro hlt;simp only[ydT]at hlt;have hi:i<n.length:=by omega
  have hi0:=cj i;have hi1:(i:Int)<(n.length:Int):=by omega
  have hi1':=ci i;have hg:=zaa hEA (hgn i (by simpa using hi));rw[List.getElem_map]at hg;obtain⟨xn,rfl⟩:=yxs (zag hg);refine gz (az5 h6 h8 hi0 hi1 hg) ?_;refine rq ?_;intro gd K hgd hK;try simp only[go_sem]
  refine Fn.mono (zmy A n[i] (by have:=hl n[i] (List.getElem_mem hi);omega)) ?_;rintro _ A1 ⟨rfl,hE1⟩;try simp only[go_sem]
  apply hK;refine gz0 ?_;refine wc0 ?_ ?_
  ·intro hne;simp only[Bool.not_eq_true',ydF]at hne;refine gz0 ?_;refine rt0 Tryz.ntmps72 ?_;exact⟨by rw[zgu hi hlow hne],hEA.trans hE1⟩
  ·intro heq;simp only[Bool.not_eq_false',ydT]at heq;refine gz (az2 h8 hi1') ?_;refine⟨m - 1,by omega,rfl,i+1,by omega,vq0,vq1 h7,vq1 h6,vq1 h0,hEA.trans hE1,fun j hj hji=>?_⟩;by_cases hj2:j=i
   ·subst hj2;exact heq
   ·exact hlow j hj (by omega)
 ·intro hge;simp only[ydF]at hge;have hgood:=zfN (n:=n) (fun j hj=>hlow j hj (by omega));refine rqz ?_;intro gd K hgd hK;refine sgz h0 ?_;refine Fn.mono (NLen_ok A _ n (hn0.ext hEA) hl hnl) ?_;rintro _ A1 ⟨rfl,hE1⟩;try simp only[go_sem]
  apply hK;refine wcz ?_ ?_
  ·intro hb;simp only[ydT]at hb;refine gz0 ?_;refine rt0 Tryz.ntmps72 ?_;exact⟨by rw[hgood,if_pos (by omega)],hEA.trans hE1⟩
  ·intro hb;simp only[ydF]at hb;refine gz0 ?_;refine rt0 Tryz.ntmps72 ?_;exact⟨by rw[hgood,if_neg (by omega)],hEA.trans hE1⟩
def zbU(q f t:Nm):Nm:=q.take (q.length - f.length)++t
structure NmM(n:Nm):Prop where
 lb:∀l∈n,l.length<=1000000
 len:n.length<=1000000
theorem NmM.LB{n:Nm}(h:NmM n):LB n:=fun l hl=>by have:=h.lb l hl;omega
theorem NmM.s{n:Nm}(h:NmM n):NmS n:=⟨h.LB,by have:=h.len;omega⟩
theorem zkI{q f t:Nm}(hq:NmM q)(ht:NmM t):(∀l∈zbU q f t,l.length<=1000000000)/\(zbU q f t).length<=2000000:=by
 refine⟨fun l hl=>?_,?_⟩
 ·rcases List.mem_append.1 hl with h|h
  ·have:=hq.lb l (List.mem_of_mem_take h);omega
  ·have:=ht.lb l h;omega
 ·unfold zbU;rw[List.length_append,List.length_take];have:=hq.len;have:=ht.len;omega
theorem NSwap_ok(w:World)(qv fv tv:Value)(q f t:Nm)(hq:Row w qv (q.map vs))(hf:Row w fv (f.map vs))(ht:Row w tv (t.map vs))(mq:NmM q)(mf:NmM f)(mt:NmM t)(hu:zaV q f=true):
  Fn Tryz.prog 134 #[qv,fv,tv] w (fun v w'=>Ext w w'/\(zaA (zbU q f t)=0->∃sv,v= .tuple #[sv,vi 0]/\Row w' sv ((zbU q f t).map vs)/\BlkB w.heap.size w' sv)/\(zaA (zbU q f t)≠0->v= .tuple #[.slice .none 0 0,vi 7])):=by
 have hul:=zb3 hu;obtain⟨aq,cq,hqv,hcq,hgq⟩:=id hq;obtain⟨af,cf,hfv,_⟩:=id hf;rw[ylm]at hqv hcq hfv;have hfr:Row w (.slice aq (q.length - f.length) cq) ((q.take (q.length - f.length)).map vs):=by
  have hl:((q.take (q.length - f.length)).map vs).length=q.length - f.length:=by rw[ylm,List.length_take];omega
  refine⟨aq,cq,by rw[hl],by omega,fun j hj=>?_⟩;have:=hgq j (by rw[ylm];omega);rw[this];simp
 have hm:=zkI (f:=f) mq mt;have bq:=mq.len;have bf:=mf.len;have bt:=mt.len;refine enter Tryz.func134 Tryz.ntmps134 rfl rfl ?_;repeat refine c_r ?_
 refine rg0 ?_;repeat refine c_r ?_
 refine rq ?_;intro gd K hgd hK;try simp only[go_sem]
 refine Fn.mono (zc3 _ _ _ _ _ hq hf mq.LB mf.LB (by have:=mq.len;omega) (by have:=mf.len;omega)) ?_;rintro _ w1 ⟨rfl,hE1⟩;try simp only[go_sem]
 refine hK _ _ ?_;clear hK hgd;clear K;try clear gd
 rw[hu];repeat refine c_r ?_
 refine wc0 ?_ ?_
 ·intro h;cases h
 intro _;have e1:(q.length:Int) - (f.length:Int)=((q.length - f.length:Nat):Int):=by omega
 have e2:(0:Int)<=((q.length - f.length:Nat):Int):=by omega
 have e3:((q.length - f.length:Nat):Int)<=(cq:Int):=by omega
 repeat refine c_r ?_
 refine rq ?_;intro gd K hgd hK;try simp (disch:=first|omega|assumption|rfl) only[go_sem,hqv,hfv,e1,e2,e3,Nat.sub_zero,zaj,ite_self]
 refine Fn.mono (zdq (hfr.ext hE1) (by rw[List.length_take];have:=mq.len;omega)) ?_;rintro u w2 ⟨hou,hE2⟩;try simp only[go_sem]
 have hl2:((q.take (q.length - f.length)).map vs).length+(t.map vs).length<=1000000000000:=by
  rw[ylm,ylm,List.length_take];have:=mq.len;have:=mt.len;omega
 refine zcv hou (ht.ext (hE1.trans hE2)) (by rfl) (by rfl) (by rfl) (by rfl) (by rfl) (by rfl) (by rfl) (by rfl) (zfz _) hl2 (by decide) hE2.size ?_;intro sv w3 hs hE3 _ _;try simp only[go_sem]
 refine hK _ _ ?_;clear hK hgd;clear K;try clear gd
 have hE13:=hE3 w (hE1.trans hE2) hE1.size;rw[←List.map_append]at hs;have hsr:Row w3 sv ((zbU q f t).map vs):=hs.row;obtain⟨as1,cs1,hsv,hcs,hgs⟩:=id hsr;rw[ylm]at hsv hcs;repeat refine c_r ?_
 refine rq ?_;intro gd K hgd hK;try simp only[go_sem]
 refine Fn.mono (zig w3 _ (zbU q f t) hsr hm.1 (by have:=hm.2;omega)) ?_;rintro _ w4 ⟨rfl,hE4⟩;try simp only[go_sem]
 refine hK _ _ ?_;clear hK hgd;clear K;try clear gd
 repeat refine c_r ?_
 refine wc0 ?_ ?_
 ·intro hne;simp only[Bool.not_eq_true',ydF]at hne;repeat (first|refine c_r ?_|refine rg0 ?_)
  refine zat (.inr rfl) Tryz.ntmps134 rfl (zam (v:= .slice .none 0 0) vr0 (zam (v:=vi 7) vr0 zap)) ?_;exact⟨hE13.trans hE4,fun h=>absurd h hne,fun _=>rfl⟩
 ·intro heq;simp only[Bool.not_eq_false',ydT]at heq;repeat refine c_r ?_
  refine rq ?_;intro gd K hgd hK;try simp only[go_sem]
  rw[hsv];refine Fn.mono (P_cs.Clip_ok hcs) ?_;rintro _ y0 ⟨rfl,hy0⟩;try simp only[go_sem]
  rw[hy0];clear hy0 y0;refine hK _ _ ?_;clear hK hgd;clear K;try clear gd
  repeat refine c_r ?_
  refine zat (.inr rfl) Tryz.ntmps134 rfl (zam (v:= .slice as1 (zbU q f t).length (zbU q f t).length) vr0 (zam (v:=vi 0) vr0 zap)) ?_;have hbs:=hs.blk;rw[hsv]at hbs;refine⟨hE13.trans hE4,fun _=>⟨_,rfl,?_,(hbs.same.ext hE4.size).mono hE1.size⟩,fun h=>absurd heq h⟩;exact Row.ext (w:=w3) ⟨as1,(zbU q f t).length,by rw[ylm],by rw[ylm];exact ynl _,hgs⟩ hE4
theorem RSwap_ok(w:World)(qv fv tv:Value)(q f t:Nm)(hq:Row w qv (q.map vs))(hf:Row w fv (f.map vs))(ht:Row w tv (t.map vs))(mq:NmM q)(mf:NmM f)(mt:NmM t)(hu:zaV q f=true):
  Fn Tryz.prog 122 #[qv,fv,tv] w (fun v w'=>Ext w w'/\(zaA (zbU q f t)=0->∃sv,v= .tuple #[sv,vi 0]/\Row w' sv ((zbU q f t).map vs)/\BlkB w.heap.size w' sv)/\(zaA (zbU q f t)≠0->v= .tuple #[.slice .none 0 0,vi 7])):=by
 have hul:=zb3 hu;obtain⟨aq,cq,hqv,hcq,hgq⟩:=id hq;obtain⟨af,cf,hfv,_⟩:=id hf;rw[ylm]at hqv hcq hfv;have hfr:Row w (.slice aq (q.length - f.length) cq) ((q.take (q.length - f.length)).map vs):=by
  have hl:((q.take (q.length - f.length)).map vs).length=q.length - f.length:=by rw[ylm,List.length_take];omega
  refine⟨aq,cq,by rw[hl],by omega,fun j hj=>?_⟩;have:=hgq j (by rw[ylm];omega);rw[this];simp
 have hm:=zkI (f:=f) mq mt;have bq:=mq.len;have bf:=mf.len;have bt:=mt.len;refine enter Tryz.func122 Tryz.ntmps122 rfl rfl ?_;repeat refine c_r ?_
 refine rg0 ?_;repeat refine c_r ?_
 refine rq ?_;intro gd K hgd hK;try simp only[go_sem]
 refine Fn.mono (zcS _ _ _ _ _ hq hf mq.LB mf.LB (by have:=mq.len;omega) (by have:=mf.len;omega)) ?_;rintro _ w1 ⟨rfl,hE1⟩;try simp only[go_sem]
 refine hK _ _ ?_;clear hK hgd;clear K;try clear gd
 rw[hu];repeat refine c_r ?_
 refine wc0 ?_ ?_
 ·intro h;cases h
 intro _;have e1:(q.length:Int) - (f.length:Int)=((q.length - f.length:Nat):Int):=by omega
 have e2:(0:Int)<=((q.length - f.length:Nat):Int):=by omega
 have e3:((q.length - f.length:Nat):Int)<=(cq:Int):=by omega
 repeat refine c_r ?_
 refine rq ?_;intro gd K hgd hK;try simp (disch:=first|omega|assumption|rfl) only[go_sem,hqv,hfv,e1,e2,e3,Nat.sub_zero,zaj,ite_self]
 refine zmd (z:=vs []) (by rfl) (by rfl) (by rfl) (by rfl) ?_;intro w2 hE2 hs2 ho2;try simp (disch:=first|omega|assumption|rfl) only[go_sem,hqv,hfv,e1,e2,e3,Nat.sub_zero,zaj,ite_self]
 have hE12:=hE1.trans hE2;refine zcv ho2 (hfr.ext hE12) (by rfl) (by rfl) (by rfl) (by rfl) (by rfl) (by rfl) vr0 vr0 (zfz _) (by rw[ylm,List.length_take,List.length_nil];omega) (by decide) hE2.size ?_;intro uv w3 hou hE3 _ _;try simp only[go_sem]
 have hE13:=hE3 w1 hE2 (ynl _);rw[List.nil_append]at hou;have hl2:((q.take (q.length - f.length)).map vs).length+(t.map vs).length<=1000000000000:=by
  rw[ylm,ylm,List.length_take];have:=mq.len;have:=mt.len;omega
 refine zcv hou (ht.ext (hE1.trans hE13)) (by rfl) (by rfl) (by rfl) (by rfl) (by rfl) (by rfl) (by rfl) (by rfl) (zfz _) hl2 (by decide) hE13.size ?_;intro sv w4 hs hE4 _ _;try simp only[go_sem]
 refine hK _ _ ?_;clear hK hgd;clear K;try clear gd
 have hE14:=hE1.trans (hE4 w1 hE13 (ynl _));rw[←List.map_append]at hs;have hsr:Row w4 sv ((zbU q f t).map vs):=hs.row;repeat refine c_r ?_
 refine rq ?_;intro gd K hgd hK;try simp only[go_sem]
 refine Fn.mono (zbc w4 _ (zbU q f t) hsr hm.1 (by have:=hm.2;omega)) ?_;rintro _ w5 ⟨rfl,hE5⟩;try simp only[go_sem]
 refine hK _ _ ?_;clear hK hgd;clear K;try clear gd
 repeat refine c_r ?_
 refine wc0 ?_ ?_
 ·intro hne;simp only[Bool.not_eq_true',ydF]at hne;repeat (first|refine c_r ?_|refine rg0 ?_)
  refine zat (.inr rfl) Tryz.ntmps122 rfl (zam (v:= .slice .none 0 0) vr0 (zam (v:=vi 7) vr0 zap)) ?_;exact⟨hE14.trans hE5,fun h=>absurd h hne,fun _=>rfl⟩
 ·intro heq;simp only[Bool.not_eq_false',ydT]at heq;repeat (first|refine c_r ?_|refine rg0 ?_)
  refine zat (.inr rfl) Tryz.ntmps122 rfl (zam (v:=sv) vr0 (zam (v:=vi 0) vr0 zap)) ?_;exact⟨hE14.trans hE5,fun _=>⟨_,rfl,hsr.ext hE5,(hs.blk.ext hE5.size).mono hE1.size⟩,fun h=>absurd heq h⟩
end Go.Proofs.YtahbdamijngmmaaGreat
namespace Go.Proofs.YtahbdamijngmmaaGreat.P_cm
open Go Go.Proofs.YtahbdamijngmmaaGreat
set_option maxRecDepth 10000
theorem Clip_ok{w:World}{a:Option Addr}{n c:Nat}(hc:n<=c):Fn Tryz.prog 137 #[.slice a n c] w (fun u w'=>u= .slice a n n/\w'=w):=by
 refine enter Tryz.func137 Tryz.ntmps137 rfl rfl ?_;refine gz0 ?_;refine rq ?_;intro gd K hgd hK;try simp only[go_sem]
 have hcl:slD Tryz.prog (some (TypeDesc.slice 27)) (Value.slice a n c) .none (some (Value.int IntKind.i64 ↑n)) (some (Value.int IntKind.i64 ↑n))=some (.slice a n n):=zfm hc (by rfl);rw[hcl];try simp only[go_sem]
 refine en hK ?_;refine rt0 Tryz.ntmps137 ?_;exact⟨rfl,rfl⟩
end Go.Proofs.YtahbdamijngmmaaGreat.P_cm
namespace Go.Proofs.YtahbdamijngmmaaGreat
open Go
set_option maxRecDepth 10000
def NmC(w0:World)(cs:List Value)(n:Nm):Prop:=∃v,cs=[v]/\Row w0 v (n.map vs)
theorem nm_shape(w:World):zeD 1 (NmC w):=by
 refine⟨fun h=>?_,fun h=>?_⟩
 ·obtain⟨v,rfl,_⟩:=h;rfl
 ·obtain⟨v,rfl,a,c,rfl,_⟩:=h;intro q hq;rw[List.mem_singleton.1 hq];rfl
theorem Own.k1{B:Nat}{w:World}{e:TypeId}{v:Value}{l:List Value}(h:Own B w e v l)(h1:∀q∈l,one q=true):OwnK 1 B w e v (l.map fun q=>[q]):=by
 have hf:∀l:List Value,(l.map fun q=>[q]).flatten=l:=fun l=>by
  induction l with
  |nil=>rfl
  |cons x l ih=>rw[List.map_cons,List.flatten_cons,ih];rfl
 refine⟨by rw[hf,ylm];exact h,fun x hx=>?_,fun x hx q hq=>?_⟩
 ·obtain⟨q,_,rfl⟩:=List.mem_map.1 hx;rfl
 ·obtain⟨q',hq',rfl⟩:=List.mem_map.1 hx;rw[List.mem_singleton.1 hq];exact h1 _ hq'
def zev(t:Int):Bool:=decide (t=2)|| (decide (t=5)|| (decide (t=12)|| (decide (t=39)||decide (t=15))))
def zaz(t:Int)(ds:List DatL):List Nm:=if zev t then ds.filterMap fun d=>d.names.head? else []
theorem DatAt.cells{w0:World}{cs:List Value}{d:DatL}(h:DatAt w0 cs d):∃nm,cs[0]? =some (vi d.ty)/\cs[1]? =some nm/\NamesAt w0 nm d.names:=by
 obtain⟨nm,nu,tx,rw',rfl,h1,_⟩:=h.ex;exact⟨nm,rfl,rfl,h1⟩
theorem zah{w:World}{p:Option Addr}{k j:Nat}{cs:List Value}{u:Value}(h:zan w p k=some cs)(hj:cs[j]? =some u):zad w (adr p j)=some u:=by
 obtain⟨hj1,hj2⟩:=List.getElem?_eq_some_iff.1 hj;have:=zch h hj1;rw[hj2]at this;exact this
theorem zgy{w0 w:World}(hE0:Ext w0 w){ow tl dv:Value}{t:Int}{ds:List DatL}(how:one ow=true)(htl:one tl=true)(hd:Rows 5 (DatAt w0) w dv ds)(hlen:ds.length<=1000000000):
  Fn Tryz.prog 204 #[.agg #[ow,vi t,tl,dv]] w (fun v w'=>Ext w w'/\Rows 1 (NmC w0) w' v (zaz t ds)/\BlkB w.heap.size w' v):=by
 obtain⟨aD,cD,hdv,hcD,hgD⟩:=hd.open;refine enter Tryz.func204 Tryz.ntmps204 rfl rfl ?_;repeat refine c_r ?_
 refine rg0 ?_;repeat refine c_r ?_
 refine zax ?_;intro w1 hE1 hs1 hA;have p1:zad w1 (some ⟨w.heap.size,1,.none⟩)=some (vi t):=zab hA rfl;have p3:zad w1 (some ⟨w.heap.size,3,.none⟩)=some dv:=zab hA rfl;rw[hdv]at p3;refine rg0 ?_;repeat refine c_r ?_
 refine rg2 p1 yn0 ?_;refine zas ?_;refine zaw (Q:=fun e σ' ds' v'=>e= .normal/\ds'=[]/\Ext w1 v'/\∃ov,σ' 3=ov/\Owns 1 (NmC w0) w1.heap.size v' 27 ov (zaz t ds)) ?_ ?_
 ·refine zmk ?_;refine zf8 ?_;refine zaw (Q:=fun e σ' ds' v'=>e= .normal/\ds'=[]/\v'=w1/\σ' 1= .pointer (some ⟨w.heap.size,0,.none⟩)/\σ' 3= .slice .none 0 0/\σ' 8= .bool (zev t)) ?_ ?_
  ·have lead:∀{σ':Sto} {b:Bool},b=zev t->σ' 8= .bool b->σ' 8= .bool (zev t):=fun h h2=>h▸h2;refine zf8 ?_;refine rg0 ?_;refine zas ?_;refine wc0 ?_ ?_
   ·intro h;repeat refine c_r ?_
    refine⟨rfl,rfl,rfl,vq0,vq0,lead (b:=true) ?_ (by simp only[go_sem];rw[h])⟩;unfold zev;rw[h];rfl
   intro h1;repeat refine c_r ?_
   refine rg0 ?_;refine zas ?_;refine wc0 ?_ ?_
   ·intro h;repeat refine c_r ?_
    refine⟨rfl,rfl,rfl,vq0,vq0,lead (b:=true) ?_ (by simp only[go_sem];rw[h])⟩;unfold zev;rw[h1,h];rfl
   intro h2;repeat refine c_r ?_
   refine rg0 ?_;refine zas ?_;refine wc0 ?_ ?_
   ·intro h;repeat refine c_r ?_
    refine⟨rfl,rfl,rfl,vq0,vq0,lead (b:=true) ?_ (by simp only[go_sem];rw[h])⟩;unfold zev;rw[h1,h2,h];rfl
   intro h3;repeat refine c_r ?_
   refine rg0 ?_;refine zas ?_;refine wc0 ?_ ?_
   ·intro h;repeat refine c_r ?_
    refine⟨rfl,rfl,rfl,vq0,vq0,lead (b:=true) ?_ (by simp only[go_sem];rw[h])⟩;unfold zev;rw[h1,h2,h3,h];rfl
   intro h4;repeat refine c_r ?_
   refine rg0 ?_;refine⟨rfl,rfl,rfl,vq0,vq0,?_⟩;rw[show zev t=decide (t=15) from by unfold zev;rw[h1,h2,h3,h4];rfl];simp only[go_sem]
  rintro _ σ1 _ v1 ⟨rfl,rfl,hv1,h1,h3,h8⟩;rw[hv1];clear hv1 v1;refine zas ?_;refine zay (t:=zev t) ((vq1 h8)) ?_ ?_
  ·intro hl;have htg:∀ds:List DatL,zaz t ds=ds.filterMap fun d=>d.names.head?:=fun ds=>by unfold zaz;rw[if_pos hl]
   repeat refine c_r ?_
   refine rg3 h1 p3 yn0 ?_;repeat refine c_r ?_
   refine zao (fun m σ ds' A=>ds'=[]/\∃(i:Nat) (ov:Value),i+m=ds.length/\σ 17=vi i/\σ 16=vi ds.length/\σ 15= .slice aD ds.length cD/\σ 3=ov/\Ext w1 A/\Owns 1 (NmC w0) w1.heap.size A 27 ov (zaz t (ds.take i))) ds.length ?_ ?_
   ·exact⟨rfl,0,.slice .none 0 0,by omega,vr0,vr0,vq0,vq1 h3,Keep.refl _ _,by rw[htg];exact Owns.nil _ _ _ _ _⟩
   rintro m σ ds' A ⟨rfl,i,ov,him,h17,h16,h15,h3,hEA,hov⟩;repeat refine c_r ?_
   refine rg2 h17 h16 ?_;repeat refine c_r ?_
   refine wc0 ?_ ?_
   ·intro hlt;simp only[ydT]at hlt;have hi:i<ds.length:=by omega
    have hi0:=cj i;have hi1:(i:Int)<(ds.length:Int):=by omega
    have hi1':=ci i;obtain⟨cd,hcd,hDd⟩:=hgD i hi;obtain⟨xD,rfl⟩:=yxs (zak hcd);have hcdA:=zac (hE1.trans hEA) hcd;obtain⟨nm,nu,tx,rw',hcs,n1,_⟩:=hDd.ex;obtain⟨vals,⟨an,cn,rfl,hcn,hgn⟩,hvl,hvr⟩:=n1;have hcd1:=(zaP w0).ones hDd;have hcdl:=(zaP w0).len hDd;have htk:zaz t (ds.take (i+1))=zaz t (ds.take i)++(ds[i].names.head?).toList:=by
     rw[htg,htg,zal hi,List.filterMap_append]
     congr 1
    repeat refine c_r ?_
    refine rq ?_;intro gd K hgd hK;try simp (disch:=first|omega|assumption|rfl) only[go_sem,h15,h17,hi0,hi1,hcdA]
    have hB3:=zau A (.cells #[vi 0,.slice .none 0 0,.slice .none 0 0,.slice .none 0 0,.slice .none 0 0] 197 (0,0));have hE4:=Ext.alloc A (.cells #[vi 0,.slice .none 0 0,.slice .none 0 0,.slice .none 0 0,.slice .none 0 0] 197 (0,0));have hs4:=zai A (.cells #[vi 0,.slice .none 0 0,.slice .none 0 0,.slice .none 0 0,.slice .none 0 0] 197 (0,0));revert hB3 hE4 hs4;generalize A.alloc (.cells #[vi 0,.slice .none 0 0,.slice .none 0 0,.slice .none 0 0,.slice .none 0 0] 197 (0,0))=A2;intro hB3 hE4 hs4;refine zaD (P:=Tryz.prog) (t:=197) (l:=cd) hB3 hcdl hcd1 (by rw[hcdl];rfl) rfl ?_;intro A3 hs5 hB5 hk5;try simp only[go_sem]
    refine hK _ _ ?_;clear hK hgd;clear K;try clear gd
    have hE5:Ext A A3:=Keep.to_ext hE4 rfl (fun b hb=>by omega) hk5;have q1:zad A3 (some ⟨A.heap.size,1,.none⟩)=some (.slice an vals.length cn):=zcr hB5 (by rw[hcs];rfl);have hEA3:=hEA.trans hE5;repeat refine c_r ?_
    refine rg2 q1 yn0 ?_;repeat refine c_r ?_
    refine wc0 ?_ ?_
    ·intro hgt;simp only[ydT]at hgt;have hv0:0<vals.length:=by omega
     have hg0:=hgn 0 hv0;obtain⟨xN,rfl⟩:=yxs (zag hg0);have hw03:Ext w0 A3:=hE0.trans (hE1.trans hEA3);have hg0':=zaa hw03 hg0;rw[zaj]at hg0';obtain⟨n0,hn0⟩:∃n0,ds[i].names.head? =some n0/\Row w0 (vals[0]) (n0.map vs):=by
      have h1:=hvr 0 hv0 (by omega);refine⟨ds[i].names[0]'(by omega),?_,h1⟩;rw[List.head?_eq_getElem?,List.getElem?_eq_getElem (by omega)]
     obtain⟨a0,c0,hv0e,_⟩:=id hn0.2;have hz:(0:Int)<=0:=by omega
     repeat refine c_r ?_
     refine rq ?_;intro gd K hgd hK;try simp (disch:=first|omega|assumption|rfl) only[go_sem,h3,q1,yn0,hgt,hz,hg0',Int.toNat_zero,zaj]
     refine zdk (z:= .slice .none 0 0) (v:=vals[0]) (by rfl) (by rfl) (by rfl) (by rfl) (by rw[hv0e];rfl) ?_;intro A4 hE6 hs6 ho6;try simp only[go_sem]
     have hrow:Rows 1 (NmC w0) A4 (.slice (some ⟨A3.heap.size,0,.none⟩) 1 1) [n0]:=by
      have h1:=ho6.k1 (fun q hq=>by rw[List.mem_singleton.1 hq,hv0e];rfl);exact⟨_,h1.rowK,rfl,fun j h h'=>by
       have:j=0:=by simp at h;omega
       subst this;exact⟨_,rfl,hn0.2⟩⟩
     have htl2:(zaz t (ds.take i)).length<=ds.length:=by
      rw[htg];have:=List.length_filterMap_le (fun d:DatL=>d.names.head?) (ds.take i);rw[List.length_take]at this;omega
     refine zaG (nm_shape w0) ((hov.ext hE5).ext hE6) hrow (by rfl) (by rfl) (by rfl) (by rfl) (by rfl) (by rfl) (by decide) vr0 vr0 (by simp;omega) (by decide) (by have:=hEA3.size;have:=hE6.size;omega) ?_;intro ov' A5 hov' hE7 _ _;try simp only[go_sem]
     refine hK _ _ ?_;clear hK hgd;clear K;try clear gd
     repeat refine c_r ?_
     refine rg2 h17 hi1' ?_;repeat refine c_r ?_
     exact⟨m - 1,by omega,rfl,i+1,ov',by omega,vq0,vq1 h16,vq1 h15,vq0,hE7 w1 (hEA3.trans hE6) (ynl _),by rw[htk,hn0.1];exact hov'⟩
    ·intro hgt;simp only[ydF]at hgt;have hnil:ds[i].names=[]:=List.length_eq_zero_iff.1 (by omega);repeat refine c_r ?_
     refine rg2 h17 hi1' ?_;repeat refine c_r ?_
     exact⟨m - 1,by omega,rfl,i+1,ov,by omega,vq0,vq1 h16,vq1 h15,vq1 h3,hEA3,by rw[htk,hnil];simpa using hov.ext hE5⟩
   ·intro hge;simp only[ydF]at hge;rw[List.take_of_length_le (by omega)]at hov;repeat refine c_r ?_
    exact⟨rfl,rfl,hEA,ov,h3,hov⟩
  ·intro hl;have htg:zaz t ds=[]:=by unfold zaz;rw[hl];rfl
   repeat refine c_r ?_
   exact⟨rfl,rfl,Keep.refl _ _,_,h3,by rw[htg];exact Owns.nil _ _ _ _ _⟩
 ·rintro _ σ1 _ v1 ⟨rfl,rfl,hE2,ov,h3,hov⟩;obtain⟨ag,cg,hov',hcg,_⟩:=hov.rows.open;rw[hov']at hov;repeat refine c_r ?_
  refine rq ?_;intro gd K hgd hK;try simp (disch:=first|omega|assumption|rfl) only[go_sem,h3]
  rw[hov'];refine Fn.mono (P_cm.Clip_ok hcg) ?_;rintro _ y0 ⟨rfl,hy0⟩;try simp only[go_sem]
  rw[hy0];clear hy0 y0;refine hK _ _ ?_;clear hK hgd;clear K;try clear gd
  repeat refine c_r ?_
  refine rt0 Tryz.ntmps204 ?_;have h4:=hov.rows.take (m:=(zaz t ds).length) (c2:=(zaz t ds).length) (ynl _) (ynl _);rw[List.take_length]at h4;exact⟨hE1.trans hE2,h4,hov.blk.same.mono (by omega)⟩
end Go.Proofs.YtahbdamijngmmaaGreat
