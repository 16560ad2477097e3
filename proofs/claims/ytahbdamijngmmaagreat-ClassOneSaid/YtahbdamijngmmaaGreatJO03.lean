/-
  Texts of a proof, joined: K13, N1, N2, R3, Q1, Q2, QCcn, QCcu, QCct, Q0uint32, Q3, K15, K16, D0, D1, D2, K17, D3, SS0, SO, CQ, CQ2.
  Conditions: none.
-/
import Derived.Test.YtahbdamijngmmaaGreatJO02
import Derived.Laws.Externs
set_option linter.unusedVariables false
set_option linter.unusedSimpArgs false
set_option linter.defProp false
set_option linter.unnecessarySimpa false
set_option maxHeartbeats 8000000
namespace Go.Proofs.YtahbdamijngmmaaGreat
open Go
theorem zbx(w:World)(r:Nat)(o:Obj):(w.putObj r o).heap.size=w.heap.size:=by simp
structure KeepR(n0 n1:Nat)(X:Nat→Prop)(A B:World):Prop where
 os:B.os=A.os
 tape:B.tape=A.tape
 output:B.output=A.output
 size:A.heap.size≤B.heap.size
 block:∀b,b<A.heap.size→(b<n0∨n1≤b)→¬X b→B.heap[b]? =A.heap[b]?
 drawn:A.drawn≤B.drawn
def IterU{α:Type}(P:Program)(g:FuncId)(cap:Array Value)(W0:World)(n0:Nat)(C:Nat→Prop)(own:Nat)(Pre:List α→α→Prop)(Full:List α→Prop)(enc:Nat→α→(Nat→Prop)→World→Array Value→Prop):Prop:=
 ∀(l:Nat) (J:List α→(Nat→Prop)→World→Prop) (Jx:List α→World→Prop) (W:World),Ext W0 W→n0≤W.heap.size→
  (∀pre U A B,J pre U A→Keep (span W.heap.size own) A B→J pre U B)→(∀pre A B,Jx pre A→Keep (span W.heap.size own) A B→Jx pre B)→
  (∀pre U x A args,Pre pre x→J pre U A→W.heap.size+own≤A.heap.size→KeepB n0 C W A→enc W.heap.size x U A args→Yld P l args A (fun v B=>
   (v= .bool true∧∃U',J (pre++ [x]) U' B∧(∀b,U' b→U b∨(A.heap.size≤b∧b<B.heap.size))∧KeepR n0 W.heap.size (fun b=>C b∨U b) A B)∨(v= .bool false∧Jx (pre++ [x]) B)))→
  J [] NoS W→Fn P g (#[.func (.yield l) #[] #[]]++cap) W (fun _ B=>(∃xs U,Full xs∧J xs U B)∨∃pre x,Pre pre x∧Jx (pre++ [x]) B)
def roundU{α:Type}(I:List α→(Nat→Prop)→World→Prop)(Ix:Code→List α→World→Prop)(C U:Nat→Prop)(pre':List α)(A:World):Post
 | .normal,_,_,B=>∃U',I pre' U' B∧(∀b,U' b→U b∨(A.heap.size≤b∧b<B.heap.size))∧Keep (fun b=>C b∨U b) A B
 | .ret,_,_,B=>Ix .ret pre' B∧Keep (fun b=>C b∨U b) A B
 | .exit id,_,_,B=>Ix (.exit id) pre' B∧Keep (fun b=>C b∨U b) A B
 | .goto t,_,_,B=>Ix (.goto t) pre' B∧Keep (fun b=>C b∨U b) A B
 |_,_,_,_=>False
theorem zid{α:Type}{P:Program}{n:Nat}{f:Operand}{ps:Array Tmp}{assign body:Code}{Q:Post}{σ:Sto}{ds:List Deferred}{w:World}
  {g:FuncId} {cap:Array Value} {W0:World} {n0:Nat} {C:Nat→Prop} {own:Nat} {Pre:List α→α→Prop} {Full:List α→Prop} {enc:Nat→α→(Nat→Prop)→World→Array Value→Prop}
  (hf:ev n σ f= .func (.func g) #[] cap) (hc:zao P g=true) (hit:IterU P g cap W0 n0 C own Pre Full enc) (hW0:Ext W0 w) (hn0:n0≤w.heap.size) (hCn:∀b,C b→b<w.heap.size)
  (henc:∀x U A args,enc (w.heap.size+2) x U A args→args.size=ps.size)
  (I:List α→(Nat→Prop)→World→Prop) (Ix:Code→List α→World→Prop)
  (hI:∀pre U A B,I pre U A→(∀b,U b→w.heap.size+2+own≤b)→Keep (span w.heap.size (2+own)) A B→I pre U B)
  (hIx:∀c pre A B,Ix c pre A→Keep (span w.heap.size (2+own)) A B→Ix c pre B)
  (h0:I [] NoS w)
  (hround:∀(l:Nat) (pre:List α) (U:Nat→Prop) (x:α) (A:World) (args:Array Value),Pre pre x→w.heap.size+2+own≤A.heap.size→I pre U A→(∀b,U b→w.heap.size+2+own≤b∧b<A.heap.size)→enc (w.heap.size+2) x U A args→
   W P (some l) n assign (zdm (fun σ1 ds1 A1=>ds1=[]∧Keep (fun b=>C b∨U b) A A1∧∀A2,Keep (two w.heap.size) A1 A2→W P (some l) n body (roundU I Ix C U (pre++ [x]) A2) σ1 [] A2) (fun _ _ _ _=>False))
    (zdu σ (ps.zip args).toList) [] A)
  (hdone:∀xs U w',Full xs→w.heap.size+2≤w'.heap.size→(∀b,U b→w.heap.size+2+own≤b∧b<w'.heap.size)→I xs U w'→w'.heap[w.heap.size]? =some (.deferred (some []))→Q .normal σ ({target:= .collected w.heap.size,args:=#[]}::ds) w')
  (hstop:∀c pre x w',w.heap.size+2≤w'.heap.size→Pre pre x→Ix c (pre++ [x]) w'→w'.heap[w.heap.size]? =some (.deferred (some []))→
   W P Option.none n c Q σ ({target:= .collected w.heap.size,args:=#[]}::ds) w'):
  W P Option.none n (.rangeFunc f ps assign body) Q σ ds w:=by
 refine wpIn_rangeFunc ?_
 intro fn _
 generalize hrec:zen fn (act n σ ds).tmps ps assign body w.heap.size=rec
 obtain⟨W1,hW1⟩:∃W1,(w.alloc (.deferred (some []))).alloc (.loop (rec .ready Option.none))=W1:=⟨_,rfl⟩
 have hsz1:W1.heap.size=w.heap.size+2:=by rw[←hW1];simp
 have hL1:W1.heap[w.heap.size+1]? =some (.loop (rec .ready Option.none)):=by
  rw[←hW1];have:=World.alloc_heap_new (w.alloc (.deferred (some []))) (.loop (rec .ready Option.none));rwa [World.size_alloc]at this
 have hK1:W1.heap[w.heap.size]? =some (.deferred (some [])):=by
  rw[←hW1];exact(RowKit.Below.heap_alloc _ _ _ (by simp)).trans (World.alloc_heap_new w _)
 have hE1:Ext w W1:=by rw[←hW1];exact(Ext.alloc w _).trans (Ext.alloc _ _)
 have hI1:I [] NoS W1:=hI _ _ _ _ h0 (fun _ h=>h.elim) (hE1.mono (fun _ _ h=>h.elim))
 have hl2:two w.heap.size (w.heap.size+1):= .inr rfl
 have hl2':span w.heap.size (2+own) (w.heap.size+1):=by unfold span;omega
 refine⟨w.heap.size+1,[{target:= .collected w.heap.size,args:=#[]}],W1,{target:= .fn (.func g) cap,args:=#[.func (.yield (w.heap.size+1)) #[] #[]]},W1,g,
  #[.func (.yield (w.heap.size+1)) #[] #[]]++cap,W1,?_,?_,?_,?_,zdb,?_⟩
 ·rw[←hW1,←hrec];exact run_enterLoop_outer _ _ _ _ _
 ·simp only[resolve,zcf,hf]
  simp[Deferred.ofValue,ev]
 ·intro f' hf';trivial
 ·simp only[invoke];exact zbR hc
 ·-- the iterator's contract
  have hsp:∀{n:Nat} b,b<n→span W1.heap.size own b→span w.heap.size (2+own) b:=fun b _ h=>by unfold span at*;omega
  have hCl:∀b,two w.heap.size b→¬C b:=fun b hb hcb=>by have:=hCn b hcb;rcases hb with rfl|rfl<;>omega
  refine zcI (CallsIn.mono (hit (w.heap.size+1)
   (fun pre U B=>(I pre U B∧∀b,U b→w.heap.size+2+own≤b∧b<B.heap.size)∧w.heap.size+2≤B.heap.size∧B.heap[w.heap.size+1]? =some (.loop (rec .ready Option.none))∧B.heap[w.heap.size]? =some (.deferred (some [])))
   (fun pre B=>∃c,Ix c pre B∧w.heap.size+2≤B.heap.size∧B.heap[w.heap.size+1]? =some (.loop (rec .done (some c)))∧B.heap[w.heap.size]? =some (.deferred (some [])))
   W1 (hW0.trans hE1) (by omega) ?_ ?_ ?_ ⟨⟨hI1,fun _ h=>h.elim⟩,by omega,hL1,hK1⟩) ?_)
  ·rintro pre U A B ⟨⟨hi,hu⟩,hs,hl,hk⟩ hAB
   exact⟨⟨hI _ _ _ _ hi (fun b hb=>(hu b hb).1) (hAB.mono hsp),fun b hb=>⟨(hu b hb).1,Nat.lt_of_lt_of_le (hu b hb).2 hAB.size⟩⟩,Nat.le_trans hs hAB.size,(hAB.block _ (by omega) (by unfold span;omega)).trans hl,(hAB.block _ (by omega) (by unfold span;omega)).trans hk⟩
  ·rintro pre A B ⟨c,hi,hs,hl,hk⟩ hAB
   exact⟨c,hIx _ _ _ _ hi (hAB.mono hsp),Nat.le_trans hs hAB.size,(hAB.block _ (by omega) (by unfold span;omega)).trans hl,(hAB.block _ (by omega) (by unfold span;omega)).trans hk⟩
  ·-- one round
   rintro pre U x A args hxs ⟨⟨hi,hu⟩,hs,hl,hk⟩ hsA _ hx
   have hy:=run_yield (P:=P) (args:=args) hl (by rw[←hrec];exact henc x U A args (by rw[←hsz1];exact hx))
   unfold Yld zfZ
   dsimp only
   rw[show (#[]++args:Array Value)=args from by simp]
   rw[hy,←hrec]
   dsimp only[zen,opR]
   refine zcA (r:=Option.none) (n:=0) (roundIn_of_wpIn (F:=fw Option.none) (n:=0) trivial ?_)
   have hin:(fw Option.none).inRound (w.heap.size+1)=fw (some (w.heap.size+1)):=rfl
   rw[hin]
   have hfold:(ps.zip args).foldl (fun t (x:Tmp×Value)=>t.setIfInBounds x.1 x.2) (act n σ ds).tmps=(act n (zdu σ (ps.zip args).toList) []).tmps:=by
    rw[←Array.foldl_toList]
    exact zcG n ds _ σ
   have hst:({tmps:=(ps.zip args).foldl (fun t (x:Tmp×Value)=>t.setIfInBounds x.1 x.2) (act n σ ds).tmps,defers:=[]}:Act)=act n (zdu σ (ps.zip args).toList) []:=by
    rw[hfold];rfl
   have hD1:=(Array.getElem?_eq_some_iff.1 hl).1
   have hno:∀b,two w.heap.size b→¬(C b∨U b):=fun b hb h=>by
    rcases h with h|h
    ·exact hCl b hb h
    ·have:=(hu b h).1;rcases hb with rfl|rfl<;>omega
   have hr:=hround (w.heap.size+1) pre U x A args hxs (by omega) hi hu (by rw[←hsz1];exact hx)
   unfold W at hr
   rw[←hst]at hr
   refine wpIn_mono hr ?_
   rintro e a A1 ⟨σ1,ds1,rfl,hq⟩
   cases e with
   |normal=>
    obtain⟨rfl,hA1,hbody⟩:=hq
    have hlA1:A1.heap[w.heap.size+1]? =some (.loop (rec .ready Option.none)):=(hA1.block _ (by omega) (hno _ hl2)).trans hl
    have hkA1:A1.heap[w.heap.size]? =some (.deferred (some [])):=(hA1.block _ (by omega) (hno _ (.inl rfl))).trans hk
    have hlt1:w.heap.size+1<A1.heap.size:=(Array.getElem?_eq_some_iff.1 hlA1).1
    refine⟨_,run_beginRound hlA1 (by rw[←hrec];rfl),?_⟩
    have hb:=hbody _ (zaD (w:=A1) (r:=w.heap.size+1) (o:= .loop {rec .ready Option.none with state:= .busy}) hl2)
    refine wpIn_mono hb ?_
    have hlA2:(A1.putObj (w.heap.size+1) (.loop {rec .ready Option.none with state:= .busy})).heap[w.heap.size+1]? =some (.loop {rec .ready Option.none with state:= .busy}):=World.putObj_heap_same hlt1
    have hkA2:(A1.putObj (w.heap.size+1) (.loop {rec .ready Option.none with state:= .busy})).heap[w.heap.size]? =some (.deferred (some [])):=(World.putObj_heap_other (by omega)).trans hkA1
    have fin:∀(jump:Option Code) (B:World),Keep (fun b=>C b∨U b) (A1.putObj (w.heap.size+1) (.loop {rec .ready Option.none with state:= .busy})) B→
      (Instr.endRound (w.heap.size+1) jump).run P B= .ok (.bool jump.isNone) (B.putObj (w.heap.size+1) (.loop (rec (if jump.isNone then .ready else .done) jump)))∧
      w.heap.size+2≤(B.putObj (w.heap.size+1) (.loop (rec (if jump.isNone then .ready else .done) jump))).heap.size∧
      (B.putObj (w.heap.size+1) (.loop (rec (if jump.isNone then .ready else .done) jump))).heap[w.heap.size+1]? =some (.loop (rec (if jump.isNone then .ready else .done) jump))∧
      (B.putObj (w.heap.size+1) (.loop (rec (if jump.isNone then .ready else .done) jump))).heap[w.heap.size]? =some (.deferred (some []))∧
      KeepR n0 W1.heap.size (fun b=>C b∨U b) A (B.putObj (w.heap.size+1) (.loop (rec (if jump.isNone then .ready else .done) jump))):=by
     intro jump B hB
     have hlB:=(hB.block _ (by simp;omega) (hno _ hl2)).trans hlA2
     have hkB:=(hB.block _ (by simp;omega) (hno _ (.inl rfl))).trans hkA2
     have hltB:w.heap.size+1<B.heap.size:=(Array.getElem?_eq_some_iff.1 hlB).1
     have hsB:=hB.size
     simp only[zbx]at hsB
     refine⟨?_,by simp;omega,World.putObj_heap_same hltB,(World.putObj_heap_other (by omega)).trans hkB,?_⟩
     ·have:=run_endRound (P:=P) jump hlB
      rw[←hrec]at this ⊢
      exact this
     ·refine⟨hB.os.trans hA1.os,hB.tape.trans hA1.tape,hB.output.trans hA1.output,?_,fun b hb hor hn=>?_,Nat.le_trans hA1.drawn hB.drawn⟩
      ·have:=hA1.size;simp;omega
      ·have h1:=hA1.size
       have hne:b≠w.heap.size+1:=by omega
       exact(World.putObj_heap_other hne).trans ((hB.block b (by simp;omega) hn).trans ((World.putObj_heap_other hne).trans (hA1.block b hb hn)))
    rintro e a B ⟨σ2,ds2,rfl,hq⟩
    cases e with
    |normal=>
     obtain⟨U',hi',hU',hB⟩:=hq
     obtain⟨h1,h2,h3,h4,h5⟩:=fin Option.none B hB
     have hsA1:=hA1.size
     have hsB:=hB.size
     simp only[zbx]at hsB
     have hU2:∀b,U' b→U b∨(A.heap.size≤b∧b<B.heap.size):=fun b hb=>by
      rcases hU' b hb with h| ⟨h,h'⟩
      ·exact .inl h
      ·simp only[zbx]at h;exact .inr ⟨by omega,h'⟩
     have hu':∀b,U' b→w.heap.size+2+own≤b∧b<B.heap.size:=fun b hb=>by
      rcases hU2 b hb with h| ⟨h,h'⟩
      ·have:=hu b h;omega
      ·omega
     exact⟨_,_,h1,_,rfl,.inl ⟨rfl,U',⟨⟨hI _ _ _ _ hi' (fun b hb=>(hu' b hb).1) (zaD hl2'),fun b hb=>by rw[zbx];exact hu' b hb⟩,h2,h3.trans (by rw[←hrec];rfl),h4⟩,fun b hb=>by rw[zbx];exact hU2 b hb,h5⟩⟩
    |ret=>
     obtain⟨hi',hB⟩:=hq
     obtain⟨h1,h2,h3,h4,_⟩:=fin (some .ret) B hB
     exact⟨_,_,h1,_,rfl,.inr ⟨rfl,_,hIx _ _ _ _ hi' (zaD hl2'),h2,h3.trans (by rw[←hrec];rfl),h4⟩⟩
    |exit id=>
     obtain⟨hi',hB⟩:=hq
     obtain⟨h1,h2,h3,h4,_⟩:=fin (some (.exit id)) B hB
     exact⟨_,_,h1,_,rfl,.inr ⟨rfl,_,hIx _ _ _ _ hi' (zaD hl2'),h2,h3.trans (by rw[←hrec];rfl),h4⟩⟩
    |goto t=>
     obtain⟨hi',hB⟩:=hq
     obtain⟨h1,h2,h3,h4,_⟩:=fin (some (.goto t)) B hB
     exact⟨_,_,h1,_,rfl,.inr ⟨rfl,_,hIx _ _ _ _ hi' (zaD hl2'),h2,h3.trans (by rw[←hrec];rfl),h4⟩⟩
    |panic c=>exact hq.elim
    |outgrown=>exact hq.elim
   |ret=>exact hq.elim
   |exit id=>exact hq.elim
   |goto t=>exact hq.elim
   |panic c=>exact hq.elim
   |outgrown=>exact hq.elim
  ·rintro e B ⟨v,rfl,h⟩
   rcases h with ⟨xs,U,hfull,⟨hi,hu⟩,hs,hl,hk⟩| ⟨pre,x,hxs,c,hi,hs,hl,hk⟩
   ·have hend:=run_endLoop (P:=P) hl (by rw[←hrec];simp[zen])
    have hp:(rec LoopState.ready Option.none).pending=Option.none:=by rw[←hrec];rfl
    rw[hp]at hend
    refine⟨Option.none,_,hend,?_⟩
    exact⟨σ,_,rfl,hdone xs U _ hfull (by simp;omega) (fun b hb=>by rw[zbx];exact hu b hb) (hI _ _ _ _ hi (fun b hb=>(hu b hb).1) (zaD hl2')) ((World.putObj_heap_other (by omega)).trans hk)⟩
   ·have hend:=run_endLoop (P:=P) hl (by rw[←hrec];simp[zen])
    have hp:(rec LoopState.done (some c)).pending=some c:=by rw[←hrec];rfl
    rw[hp]at hend
    refine⟨some c,_,hend,?_⟩
    exact hstop c pre x _ (by simp;omega) hxs (hIx _ _ _ _ hi (zaD hl2')) ((World.putObj_heap_other (by omega)).trans hk)
def allN(names:List Nm):Nat→Nm→List Nm
 |0,f=>[f]
 |k+1,f=>f::((zdn (zaS names f)).map fun l=>allN names k (l::f)).flatten
def RowZ(n1:Nat)(U:Nat→Prop)(w:World)(v:Value)(l:List Value):Prop:=
 Row w v l∧∀a n c,v= .slice (some a) n c→n1≤a.block∧a.block<w.heap.size∧¬U a.block
def encN(B:Nat)(x:Nm)(U:Nat→Prop)(A:World)(args:Array Value):Prop:=∃nv,args=#[nv]∧RowZ B U A nv (x.map vs)
theorem RowZ.low{n1 n2:Nat}{U:Nat→Prop}{w:World}{v:Value}{l:List Value}(h:RowZ n1 U w v l)(hn:n2≤n1):RowZ n2 U w v l:=⟨h.1,fun a n c hv=>⟨Nat.le_trans hn (h.2 a n c hv).1,(h.2 a n c hv).2⟩⟩
theorem KeepR.of_ext{n0 n1:Nat}{X:Nat→Prop}{A B:World}(h:Ext A B):KeepR n0 n1 X A B:=⟨h.os,h.tape,h.output,h.size,fun b hb _ _=>h.block b hb (fun h=>h),h.drawn⟩
theorem KeepR.next{n0 n1:Nat}{C U U':Nat→Prop}{A B D:World}(h:KeepR n0 n1 (fun b=>C b∨U b) A B)(hU:∀b,U' b→U b∨(A.heap.size≤b∧b<B.heap.size))(k:KeepR n0 n1 (fun b=>C b∨U' b) B D):KeepR n0 n1 (fun b=>C b∨U b) A D:=
 ⟨k.os.trans h.os,k.tape.trans h.tape,k.output.trans h.output,Nat.le_trans h.size k.size,fun b hb hor hn=>by
  refine(k.block b (Nat.lt_of_lt_of_le hb h.size) hor (fun hc=>?_)).trans (h.block b hb hor hn)
  rcases hc with hc|hc
  ·exact hn (.inl hc)
  ·rcases hU b hc with h'|h'
   ·exact hn (.inr h')
   ·omega,Nat.le_trans h.drawn k.drawn⟩
theorem RowZ.keep{n0 n1:Nat}{C U U':Nat→Prop}{A B:World}{v:Value}{l:List Value}(h:RowZ n1 U A v l)(hk:KeepR n0 n1 (fun b=>C b∨U b) A B)(hC:∀b,C b→b<n1)(hU:∀b,U' b→U b∨(A.heap.size≤b∧b<B.heap.size)):RowZ n1 U' B v l:=by
 refine⟨h.1.blocks (fun a n c hv=>?_),fun a n c hv=>?_⟩
 ·obtain⟨h1,h2,h3⟩:=h.2 a n c hv
  exact hk.block _ h2 (.inr h1) (fun hc=>by
   rcases hc with hc|hc
   ·have:=hC _ hc;omega
   ·exact h3 hc)
 ·obtain⟨h1,h2,h3⟩:=h.2 a n c hv
  have:=hk.size
  refine⟨h1,by omega,fun hc=>?_⟩
  rcases hU _ hc with h'|h'
  ·exact h3 h'
  ·omega
theorem RowZ.of_base{n1 B:Nat}{U:Nat→Prop}{w:World}{v:Value}{l:List Value}(h:RowB B w v l)(hn:n1≤B)(hU:∀b,U b→b<B):RowZ n1 U w v l:=
 ⟨h.1,fun a n c hv=>by obtain⟨h1,h2⟩:=h.2 a n c hv;exact⟨by omega,h2,fun h=>by have:=hU _ h;omega⟩⟩
theorem RowZ.ext{n1:Nat}{U:Nat→Prop}{w x:World}{v:Value}{l:List Value}(h:RowZ n1 U w v l)(hE:Ext w x):RowZ n1 U x v l:=
 ⟨h.1.ext hE,fun a n c hv=>by obtain⟨h1,h2,h3⟩:=h.2 a n c hv;exact⟨h1,Nat.lt_of_lt_of_le h2 hE.size,h3⟩⟩
theorem KeepR.toB{n0 n1:Nat}{C U:Nat→Prop}{W A B:World}(h:KeepR n0 n1 (fun b=>C b∨U b) A B)(hW:KeepB n0 C W A)(hn:n0≤A.heap.size)(hU:∀b,U b→n0≤b):KeepB n0 C W B:=
 hW.trans ⟨h.os,h.tape,h.output,h.size,fun b hb hc=>h.block b (by omega) (.inl hb) (fun hx=>by
  rcases hx with hx|hx
  ·exact hc hx
  ·have:=hU b hx;omega),h.drawn⟩
set_option maxRecDepth 10000
theorem Row.shut{w x:World}{v:Value}{l:List Value}{D:Nat}{c:Option (List Deferred)}(h:Row w v l)(hD:w.heap[D]? =some (.deferred c))(hk:Keep (fun b=>b=D) w x):Row x v l:=by
 obtain⟨a,cp,rfl,hc,hl⟩:=h
 refine⟨a,cp,rfl,hc,fun j hj=>zfD hk (fun p hp hpD=>?_) (hl j hj)⟩
 have h1:=hl j hj
 rw[hp]at h1
 have h2:w.cell? p=some l[j]:=h1
 unfold World.cell? at h2
 rw[hpD,hD]at h2
 cases h2
theorem ClipN_ok{w:World}{v:Value}{l:List Value}(hr:Row w v l):Fn Tryz.prog 137 #[v] w (fun u w'=>(Row w' u l∧Ext w w')∧∀x n k,u= .slice x n k→∃n' k',v= .slice x n' k'):=by
 obtain⟨a,c,rfl,hc,hl⟩:=hr
 refine enter Tryz.func137 Tryz.ntmps137 rfl rfl ?_
 repeat refine c_r ?_
 refine rg0 ?_
 repeat refine c_r ?_
 refine rq ?_;intro gd K hgd hK
 try simp only[go_sem]
 have hcl:slD Tryz.prog (some (TypeDesc.slice 27)) (Value.slice a l.length c) Option.none (some (Value.int IntKind.i64 ↑l.length)) (some (Value.int IntKind.i64 ↑l.length))=some (.slice a l.length l.length):=zds hc (by rfl)
 rw[hcl]
 try simp only[go_sem]
 refine hK _ _ ?_;clear hK hgd;clear K;try clear gd
 repeat refine c_r ?_
 refine rt0 Tryz.ntmps137 ?_
 exact⟨⟨⟨a,l.length,rfl,Nat.le_refl _,hl⟩,Keep.refl _ _⟩,fun x n k h=>by cases h;exact⟨_,_,rfl⟩⟩
def NamesAt(w:World)(v:Value)(ns:List Nm):Prop:=∃vals,Row w v vals∧vals.length=ns.length∧∀i (h:i<vals.length) (h':i<ns.length),Row w vals[i] (ns[i].map vs)
theorem zgG:∀a:Nm,cmpR a a=0
 | []=>rfl
 |a::l=>by simp[cmpR,zcW,zgG l]
theorem zh6:∀a b:Nm,cmpR b a= - cmpR a b
 | [],[]=>rfl
 | [],_::_=>rfl
 |_::_,[]=>rfl
 |a::l,b::m=>by
  simp only[cmpR]
  rw[zbp a b]
  by_cases h:cmpL a b=0
  ·simp[h,zh6 l m]
  ·have:¬ -cmpL a b=0:=by omega
   simp[h,this]
theorem zgE:∀{a b:Nm},cmpR a b=0→a=b
 | [],[],_=>rfl
 | [],_::_,h=>by cases h
 |_::_,[],h=>by cases h
 |a::l,b::m,h=>by
  simp only[cmpR]at h
  split at h
  ·rename_i h';rw[zbz h',zgE h]
  ·rename_i h';exact absurd h h'
theorem zfy:∀{a b c:Nm},cmpR a b<0→cmpR b c<0→cmpR a c<0
 | [],[],_,h,_=>by simp[cmpR]at h
 | [],_::_,[],_,h=>by simp[cmpR]at h
 | [],_::_,_::_,_,_=>by simp[cmpR]
 |_::_,[],_,h,_=>by simp[cmpR]at h
 |_::_,_::_,[],_,h=>by simp[cmpR]at h
 |a::l,b::m,c::n,h1,h2=>by
  simp only[cmpR]at*
  by_cases e1:cmpL a b=0
  ·rw[if_pos e1]at h1
   have:=zbz e1
   subst this
   by_cases e2:cmpL a c=0
   ·rw[if_pos e2]at h2 ⊢;exact zfy h1 h2
   ·rw[if_neg e2]at h2 ⊢;exact h2
  ·rw[if_neg e1]at h1
   have h2':cmpL b c≤0:=by
    by_cases e2:cmpL b c=0
    ·omega
    ·rw[if_neg e2]at h2;omega
   have:=zcH h1 h2'
   rw[if_neg (by omega)];exact this
theorem zdQ(a:Nm):cmpN a a=0:=zgG _
theorem zex(a b:Nm):cmpN b a= - cmpN a b:=zh6 _ _
theorem ze5{a b:Nm}(h:cmpN a b=0):a=b:=by
 have:=zgE h
 simpa using congrArg List.reverse this
theorem zdf{a b c:Nm}(h1:cmpN a b<0)(h2:cmpN b c<0):cmpN a c<0:=zfy h1 h2
def Rise(L:List Nm):Prop:=L.Pairwise fun a b=>cmpN a b<0
theorem Rise.get{L:List Nm}(h:Rise L){i j:Nat}(hij:i<j)(hj:j<L.length):cmpN (L[i]'(by omega)) L[j]<0:=
 (List.pairwise_iff_getElem.1 h) i j (by omega) hj hij
theorem Rise.eq{L M:List Nm}(h1:Rise L)(h2:Rise M)(hm:∀g,g∈L↔g∈M):L=M:=by
 have n1:L.Nodup:=List.Pairwise.imp (fun {a b} h e=>by subst e;rw[zdQ]at h;omega) h1
 have n2:M.Nodup:=List.Pairwise.imp (fun {a b} h e=>by subst e;rw[zdQ]at h;omega) h2
 have hp:L.Perm M:=(List.perm_ext_iff_of_nodup n1 n2).2 hm
 exact List.Perm.eq_of_pairwise (le:=fun a b=>cmpN a b<0) (fun a b _ _ h1 h2=>by have:=zex a b;omega) h1 h2 hp
theorem NamesAt.ext{w x:World}{v:Value}{L:List Nm}(h:NamesAt w v L)(hE:Ext w x):NamesAt x v L:=by
 obtain⟨vals,h1,h2,h3⟩:=h
 exact⟨vals,h1.ext hE,h2,fun i a b=>(h3 i a b).ext hE⟩
theorem mid_i64(a b:Nat):IntKind.i64.wrap (((a:Int)+b).tdiv 2)=((a+b) / 2:Nat)∨¬a+b≤1000000000000000000:=by
 by_cases h:a+b≤1000000000000000000
 ·left
  have e:((a:Int)+b).tdiv 2=((a+b) / 2:Nat):=by
   rw[show ((a:Int)+b)=((a+b:Nat):Int) from by push_cast;rfl,Int.tdiv_eq_ediv_of_nonneg (by omega)]
   omega
  rw[e,zhG (by omega) (by omega)]
 ·exact .inr h
theorem zkA(w:World)(lv nv:Value)(L:List Nm)(g:Nm)(hl:NamesAt w lv L)(hn:Row w nv (g.map vs))(hfold:∀x∈L,zag x=x)(hg:zag g=g)(hLB:∀x∈L,LB x∧x.length≤100000000000)(hgl:LB g∧g.length≤100000000000)
  (hlen:L.length≤1000000000000) (hs:Rise L):
  Fn Tryz.prog 169 #[lv,nv] w (fun v w'=>Ext w w'∧∃(k:Nat) (ok:Bool),v= .tuple #[vi k,.bool ok]∧k≤L.length∧(ok=true→∃h:k<L.length,L[k]=g)∧
   (ok=false→(∀x∈L.take k,cmpN x g<0)∧∀x∈L.drop k,cmpN g x<0)):=by
 obtain⟨vals,⟨a,ca,rfl,hca,hla⟩,hvl,hrows⟩:=hl
 refine enter Tryz.func169 Tryz.ntmps169 rfl rfl ?_
 repeat (first|refine c_r ?_|refine rg0 ?_)
 refine zai (fun m σ ds A=>ds=[]∧∃x y:Nat,x+m=y∧y≤L.length∧σ 6=vi x∧σ 7=vi y∧σ 0= .slice a vals.length ca∧σ 1=nv∧Ext w A∧(∀z∈L.take x,cmpN z g<0)∧∀z∈L.drop y,cmpN g z<0) L.length ?_ ?_
 ·refine⟨rfl,0,L.length,by omega,Nat.le_refl _,?_,?_,?_,?_,Keep.refl _ _,by simp,by simp⟩
  ·simp only[go_sem];rfl
  ·simp only[go_sem,hvl]
  ·simp only[go_sem]
  ·simp only[go_sem]
 ·rintro m σ ds A ⟨rfl,x,y,hxm,hy,h6,h7,h0,h1,hE,hlo,hhi⟩
  repeat refine c_r ?_
  refine rg2 h6 h7 ?_
  repeat refine c_r ?_
  refine wc0 ?_ ?_
  ·intro hlt
   simp only[decide_eq_true_eq]at hlt
   have hmid:=(mid_i64 x y).resolve_right (by omega)
   obtain⟨k,hk⟩:∃k,(x+y) / 2=k:=⟨_,rfl⟩
   rw[hk]at hmid
   have hkx:x≤k:=by omega
   have hky:k<y:=by omega
   have hsa:a.isSome=true:=zad (hla k (by omega))
   have hla':=fun j h=>zaa hE (hla j h)
   repeat refine c_r ?_
   refine rq ?_;intro gd K hgd hK
   try simp (disch:=first|omega|assumption|rfl) only[go_sem,h6,h7]
   rw[hmid]
   try simp only[go_sem]
   refine hK _ _ ?_;clear hK hgd;clear K;try clear gd
   repeat refine c_r ?_
   refine rq ?_;intro gd K hgd hK
   try simp (disch:=first|omega|assumption|rfl) only[go_sem,h0,h1,hla']
   refine Fn.mono (zca A _ _ L[k] g ((hrows k (by omega) (by omega)).ext hE) (hn.ext hE) (hLB _ (List.getElem_mem _)).1 hgl.1 (by have:=(hLB _ (List.getElem_mem (by omega:k<L.length))).2;omega) (by omega)) ?_
   rintro _ w1 ⟨rfl,hE1⟩
   rw[hfold _ (List.getElem_mem _),hg]
   try simp only[go_sem]
   refine hK _ _ ?_;clear hK hgd;clear K;try clear gd
   repeat refine c_r ?_
   refine rg0 ?_
   repeat refine c_r ?_
   refine wc0 ?_ ?_
   ·intro hz
    simp only[decide_eq_true_eq]at hz
    repeat (first|refine c_r ?_|refine rg0 ?_)
    refine zjq (by simp) rfl Tryz.ntmps169 (by simp only[go_sem];rfl) (by simp only[go_sem];rfl) ?_
    exact⟨hE.trans hE1,k,true,rfl,by omega,fun _=>⟨by omega,ze5 hz⟩,fun h=>by cases h⟩
   ·intro hz
    simp only[decide_eq_false_iff_not]at hz
    repeat (first|refine c_r ?_|refine rg0 ?_)
    refine wc0 ?_ ?_
    ·intro hlt0
     simp only[decide_eq_true_eq]at hlt0
     repeat (first|refine c_r ?_|refine rg0 ?_)
     refine⟨m - (k+1 - x),by omega,rfl,k+1,y,by omega,hy,by simp only[go_sem];push_cast;rfl,(vq1 h7),(vq1 h0),(vq1 h1),hE.trans hE1,?_,hhi⟩
     intro z hz'
     rw[zak (by omega)]at hz'
     rcases List.mem_append.1 hz' with hz'|hz'
     ·obtain⟨i,hi,rfl⟩:=List.getElem_of_mem hz'
      simp at hi
      rw[List.getElem_take]
      exact zdf (hs.get (by omega) (by omega)) hlt0
     ·rw[List.mem_singleton.1 hz'];exact hlt0
    ·intro hge0
     simp only[decide_eq_false_iff_not]at hge0
     repeat (first|refine c_r ?_|refine rg0 ?_)
     refine⟨k - x,by omega,rfl,x,k,by omega,by omega,(vq1 h6),vq0,(vq1 h0),(vq1 h1),hE.trans hE1,hlo,?_⟩
     have hgk:cmpN g L[k]<0:=by have:=zex L[k] g;omega
     intro z hz'
     rw[List.drop_eq_getElem_cons (by omega)]at hz'
     rcases List.mem_cons.1 hz' with hz'|hz'
     ·rw[hz'];exact hgk
     ·obtain⟨i,hi,rfl⟩:=List.getElem_of_mem hz'
      simp at hi
      rw[List.getElem_drop]
      exact zdf hgk (hs.get (by omega) (by omega))
  ·intro hge
   simp only[decide_eq_false_iff_not]at hge
   repeat (first|refine c_r ?_| (refine zcv (by rfl) ?_;intro gd K hgd hK;simp (disch:=first|omega|assumption|rfl) only[go_sem,h6];refine hK _ _ ?_;clear hK hgd;clear K gd))
   refine zjq (by simp) rfl Tryz.ntmps169 (by simp only[go_sem];rfl) (by simp only[go_sem];rfl) ?_
   have hxy:x=y:=by omega
   exact⟨hE,x,false,rfl,by omega,(fun h=>by cases h),fun _=>⟨hlo,by rw[hxy];exact hhi⟩⟩
theorem Or_ok(w:World)(a:Value)(l:List Int)(ha:Row w a (l.map vi))(hl:l.length≤1000000000000):Fn Tryz.prog 132 #[a] w (fun v w'=>v=vi (orI l)∧w'=w):=by
 obtain⟨a,ca,rfl,hca,hla⟩:=ha
 simp only[List.length_map]at*
 refine enter Tryz.func132 Tryz.ntmps132 rfl rfl ?_
 repeat (first|refine c_r ?_|refine rg0 ?_)
 refine zai (fun m σ ds v=>ds=[]∧v=w∧∃i:Nat,i+m=l.length∧σ 8=vi i∧σ 7=vi l.length∧σ 6= .slice a l.length ca∧σ 3=vi 0∧orI l=orI (l.drop i)) l.length ?_ ?_
 ·refine⟨rfl,rfl,0,by omega,?_,?_,?_,?_,by simp⟩
  ·simp only[go_sem];rfl
  ·simp only[go_sem]
  ·simp only[go_sem]
  ·simp only[go_sem]
 ·rintro m σ ds v ⟨rfl,hv,i,him,h8,h7,h6,h3,hinv⟩
  rw[hv]
  repeat refine c_r ?_
  refine rg2 h8 h7 ?_
  repeat refine c_r ?_
  refine wc0 ?_ ?_
  ·intro hlt
   simp only[decide_eq_true_eq]at hlt
   have hsa:a.isSome=true:=zad (hla i (by omega))
   have hd:=orI_drop (l:=l) (i:=i) (by omega)
   repeat refine c_r ?_
   refine rq ?_;intro gd K hgd hK;simp (disch:=first|omega|assumption|rfl) only[go_sem,h8,h6,hla,List.getElem_map];refine hK _ _ ?_;clear hK hgd;clear K gd
   repeat refine c_r ?_
   refine rg1 h3 ?_
   repeat refine c_r ?_
   refine wc0 ?_ ?_
   ·intro h
    simp only[Bool.not_eq_true',decide_eq_false_iff_not]at h
    repeat (first|refine c_r ?_|refine rg0 ?_)
    refine rt0 Tryz.ntmps132 ?_
    exact⟨by rw[hinv,hd,if_neg h],rfl⟩
   ·intro h
    simp only[Bool.not_eq_false',decide_eq_true_eq]at h
    repeat refine c_r ?_
    refine rg1 h8 ?_
    repeat refine c_r ?_
    exact⟨m - 1,by omega,rfl,rfl,i+1,by omega,by simp only[go_sem];push_cast;rfl,(vq1 h7),(vq1 h6),(vq1 h3),by rw[hinv,hd,if_pos h]⟩
  ·intro hge
   simp only[decide_eq_false_iff_not]at hge
   repeat (first|refine c_r ?_| (refine zcv (by rfl) ?_;intro gd K hgd hK;simp (disch:=first|omega|assumption|rfl) only[go_sem,h3];refine hK _ _ ?_;clear hK hgd;clear K gd))
   refine rt0 Tryz.ntmps132 ?_
   refine⟨?_,rfl⟩
   rw[hinv,List.drop_of_length_le (by omega)];rfl
theorem zkh(a b:Nm)(h:a=[]∨b=[]):cmpR a b=cmpI a.length b.length:=by
 rw[zh5 a b h];unfold sgn cmpI
 by_cases h1:(a.length:Int)<b.length
 ·rw[if_pos (by omega),if_pos h1]
 ·by_cases h2:(b.length:Int)<a.length
  ·rw[if_neg (by omega),if_pos (by omega),if_neg h1,if_pos h2]
  ·rw[if_neg (by omega),if_neg (by omega),if_neg h1,if_neg h2]
theorem zcL(w:World)(a b:Value)(xs ys:Nm)(ha:Row w a (xs.map vs))(hb:Row w b (ys.map vs))(hx:LB xs)(hy:LB ys)(hxl:xs.length≤9000000000000000000)(hyl:ys.length≤9000000000000000000):
  Fn Tryz.prog 133 #[a,b] w (fun v w'=>v=vi (cmpN (zag xs) (zag ys))∧Ext w w'):=by
 obtain⟨a,ca,rfl,hca,hla⟩:=ha
 obtain⟨b,cb,rfl,hcb,hlb⟩:=hb
 simp only[List.length_map]at*
 obtain⟨k,hk⟩:∃k,min xs.length ys.length=k:=⟨_,rfl⟩
 have hmin:min (xs.length:Int) (ys.length:Int)=(k:Int):=by omega
 refine enter Tryz.func133 Tryz.ntmps133 rfl rfl ?_
 repeat refine c_r ?_
 refine rg0 ?_
 repeat refine c_r ?_
 refine rq ?_;intro gd K hgd hK
 try simp only[go_sem]
 refine op_min (k:= .i64) (a:=xs.length) (b:=ys.length) (vq0) (vq0) ?_
 rw[hmin]
 try simp only[go_sem]
 refine hK _ _ ?_;clear hK hgd;clear K;try clear gd
 repeat refine c_r ?_
 refine zai (fun m σ ds v=>ds=[]∧∃i:Nat,i+m=k∧σ 12=vi i∧σ 11=vi k∧σ 0= .slice a xs.length ca∧σ 1= .slice b ys.length cb∧Ext w v∧cmpN (zag xs) (zag ys)=cmpR ((zag xs).reverse.drop i) ((zag ys).reverse.drop i)) k ?_ ?_
 ·refine⟨rfl,0,by omega,?_,?_,?_,?_,Keep.refl _ _,by simp[cmpN]⟩
  ·simp only[go_sem];rfl
  ·simp only[go_sem]
  ·simp only[go_sem]
  ·simp only[go_sem]
 ·rintro m σ ds v ⟨rfl,i,him,h12,h11,h0,h1,hE,hinv⟩
  repeat refine c_r ?_
  refine rq ?_;intro gd K hgd hK;simp (disch:=first|omega|assumption|rfl) only[go_sem,h12,h11];refine hK _ _ ?_;clear hK hgd;clear K gd
  repeat refine c_r ?_
  refine wc0 ?_ ?_
  ·intro hlt
   simp only[decide_eq_true_eq]at hlt
   have hsa:a.isSome=true:=zad (hla (xs.length - 1 - i) (by omega))
   have hsb:b.isSome=true:=zad (hlb (ys.length - 1 - i) (by omega))
   have e1:((xs.length:Int) - 1 - i).toNat=xs.length - 1 - i:=by omega
   have e2:((ys.length:Int) - 1 - i).toNat=ys.length - 1 - i:=by omega
   repeat refine c_r ?_
   refine rg1 h12 ?_
   repeat refine c_r ?_
   refine zaL (fun _=>false) [(0,true),(1,true),(2,true),(3,true),(4,true),(5,true),(6,true),(7,true),(8,true),(9,true),(10,true),(11,true),(12,true),(13,true),(14,true),(15,true),(16,false),(17,true)] NoS mixed (by kernel_rfl) ?_;intro gd K x hgd hx hxe hK;clear hxe
   have hla':=fun j h=>zaa (hE.trans ‹Keep NoS v x›) (hla j h)
   have hlb':=fun j h=>zaa (hE.trans ‹Keep NoS v x›) (hlb j h)
   simp (disch:=first|omega|assumption|rfl) only[go_sem,h12,h0,h1,e1,e2,hla',hlb',List.getElem_map]
   refine Fn.mono (zfl _ _ _ (LB.get ‹LB xs› _) (LB.get ‹LB ys› _)) ?_
   rintro _ x1 ⟨rfl,hx1⟩
   refine⟨.inr hx1,?_⟩
   simp (disch:=first|omega|assumption|rfl) only[go_sem]
   refine hK _ _ ?_;clear hK hgd;clear K;try clear gd
   have hst:=zgF (a:=(zag xs).reverse) (b:=(zag ys).reverse) (i:=i) (by simp[zau];omega) (by simp[zau];omega)
   have g1:(zag xs).reverse[i]'(by simp[zau];omega)=zaF (xs[xs.length - 1 - i]'(by omega)):=by
    rw[List.getElem_reverse];simp[zag]
   have g2:(zag ys).reverse[i]'(by simp[zau];omega)=zaF (ys[ys.length - 1 - i]'(by omega)):=by
    rw[List.getElem_reverse];simp[zag]
   rw[g1,g2]at hst
   repeat refine c_r ?_
   refine rg0 ?_
   repeat refine c_r ?_
   refine wc0 ?_ ?_
   ·intro hne
    simp only[Bool.not_eq_true',decide_eq_false_iff_not]at hne
    repeat (first|refine c_r ?_|refine rg0 ?_)
    refine rt0 Tryz.ntmps133 ?_
    refine⟨by rw[hinv,hst,if_neg hne],(hE.trans ‹Keep NoS v x›).trans hx1⟩
   ·intro heq
    simp only[Bool.not_eq_false',decide_eq_true_eq]at heq
    repeat refine c_r ?_
    refine rg1 h12 ?_
    repeat refine c_r ?_
    exact⟨m - 1,by omega,rfl,i+1,by omega,by simp only[go_sem];push_cast;rfl,by simp only[go_sem,h11],(vq1 h0),(vq1 h1),(hE.trans ‹Keep NoS v x›).trans hx1,by rw[hinv,hst,if_pos heq]⟩
  ·intro hge
   simp only[decide_eq_false_iff_not]at hge
   repeat refine c_r ?_
   refine rq ?_;intro gd K hgd hK
   try simp (disch:=first|omega|assumption|rfl) only[go_sem,h0,h1]
   refine Fn.mono (N_int.Compare_ok _ _ _) ?_
   rintro _ w2 ⟨rfl,rfl⟩
   try simp only[go_sem]
   refine hK _ _ ?_;clear hK hgd;clear K;try clear gd
   repeat refine c_r ?_
   refine rt0 Tryz.ntmps133 ?_
   refine⟨?_,hE⟩
   have l1:((zag xs).reverse.drop i).length=xs.length - i:=by simp[zau]
   have l2:((zag ys).reverse.drop i).length=ys.length - i:=by simp[zau]
   rw[hinv,zkh _ _ (by
    rcases Nat.lt_or_ge i xs.length with h|h
    ·exact .inr (List.length_eq_zero_iff.1 (by omega))
    ·exact .inl (List.length_eq_zero_iff.1 (by omega))),l1,l2]
   unfold cmpI
   by_cases h1':(xs.length:Int)<ys.length
   ·rw[if_pos h1',if_pos (by omega)]
   ·by_cases h2':(ys.length:Int)<xs.length
    ·rw[if_neg h1',if_pos h2',if_neg (by omega),if_pos (by omega)]
    ·rw[if_neg h1',if_neg h2',if_neg (by omega),if_neg (by omega)]
end Go.Proofs.YtahbdamijngmmaaGreat
namespace Go.Proofs.YtahbdamijngmmaaGreat.C_cn
open Go Go.Proofs.YtahbdamijngmmaaGreat
set_option maxRecDepth 10000
def RowR{α:Type}(Rl:World→α→Value→Prop)(w:World)(v:Value)(xs:List α):Prop:=∃us,Row w v us∧us.length=xs.length∧∀i (h:i<us.length) (h':i<xs.length),Rl w xs[i] us[i]
theorem CompareFunc_ok{α:Type}{Rl:World→α→Value→Prop}(hR:∀w x a v,Ext w x→Rl w a v→Rl x a v){cf:α→α→Int}{U:α→Prop}{g:FuncId}(hcal:zao Tryz.prog g=true){w:World}
  (hcall:∀A x y u v,Ext w A→U x→U y→Rl A x u→Rl A y v→Fn Tryz.prog g #[u,v] A (fun r B=>r=vi (cf x y)∧Ext A B)) {a b:Value} {xs ys:List α} (ha:RowR Rl w a xs) (hb:RowR Rl w b ys) (hUx:∀x∈xs,U x) (hUy:∀y∈ys,U y) (hxl:xs.length≤1000000000000000) (hyl:ys.length≤1000000000000000):
  Fn Tryz.prog 301 #[a,b,.func (.func g) #[] #[]] w (fun v w'=>v=vi (lexC cf xs ys)∧Ext w w'):=by
 obtain⟨us,⟨a,ca,rfl,hca,hla⟩,hul,hu⟩:=ha
 obtain⟨vs',⟨b,cb,rfl,hcb,hlb⟩,hvl,hv⟩:=hb
 refine enter Tryz.func301 Tryz.ntmps301 rfl rfl ?_
 repeat refine c_r ?_
 refine rg0 ?_
 repeat refine c_r ?_
 refine rg0 ?_
 repeat refine c_r ?_
 refine zai (fun m σ ds v=>ds=[]∧∃i:Nat,i+m=us.length∧i≤vs'.length∧σ 13=vi i∧σ 12=vi us.length∧σ 11= .slice a us.length ca∧σ 0= .slice a us.length ca∧σ 1= .slice b vs'.length cb∧σ 2= .func (.func g) #[] #[]∧Ext w v∧lexC cf xs ys=lexC cf (xs.drop i) (ys.drop i)) us.length ?_ ?_
 ·refine⟨rfl,0,by omega,by omega,?_,?_,?_,?_,?_,?_,Keep.refl _ _,by simp⟩
  ·simp only[go_sem];rfl
  ·simp only[go_sem]
  ·simp only[go_sem]
  ·simp only[go_sem]
  ·simp only[go_sem]
  ·simp only[go_sem]
 ·rintro m σ ds v ⟨rfl,i,him,hiv,h13,h12,h11,h0,h1,h2,hE,hinv⟩
  repeat refine c_r ?_
  refine rg2 h13 h12 ?_
  repeat refine c_r ?_
  refine wc0 ?_ ?_
  ·intro hlt
   simp only[decide_eq_true_eq]at hlt
   have hsa:a.isSome=true:=zad (hla i (by omega))
   have hla':=fun j h=>zaa hE (hla j h)
   have hlb':=fun j h=>zaa hE (hlb j h)
   repeat refine c_r ?_
   refine rq ?_;intro gd K hgd hK;simp (disch:=first|omega|assumption|rfl) only[go_sem,h13,h11,hla'];refine hK _ _ ?_;clear hK hgd;clear K gd
   repeat refine c_r ?_
   refine rg1 h1 ?_
   repeat refine c_r ?_
   refine wc0 ?_ ?_
   ·intro hge
    simp only[decide_eq_true_eq]at hge
    repeat (first|refine c_r ?_|refine rg0 ?_)
    refine rt0 Tryz.ntmps301 ?_
    refine⟨?_,hE⟩
    have e:ys.drop i=[]:=List.drop_of_length_le (by omega)
    rw[hinv,zcF (.inr e),e]
    have l1:(xs.drop i).length=xs.length - i:=by simp
    unfold cmpI
    rw[l1,List.length_nil,if_neg (by omega),if_pos (by omega)]
   ·intro hlt2
    simp only[decide_eq_false_iff_not]at hlt2
    have hsb:b.isSome=true:=zad (hlb i (by omega))
    have hst:=zcp (cf:=cf) (a:=xs) (b:=ys) (i:=i) (by omega) (by omega)
    repeat refine c_r ?_
    refine rg2 h1 hlb' ?_
    repeat refine c_r ?_
    refine rq ?_;intro gd K hgd hK
    try simp (disch:=first|omega|assumption|rfl) only[go_sem,h2]
    refine zb8 hcal (Fn.mono (hcall v xs[i] ys[i] _ _ hE (hUx _ (List.getElem_mem _)) (hUy _ (List.getElem_mem _)) (hR _ _ _ _ hE (hu i (by omega) (by omega))) (hR _ _ _ _ hE (hv i (by omega) (by omega)))) ?_)
    rintro _ w1 ⟨rfl,hE1⟩
    try simp only[go_sem]
    refine hK _ _ ?_;clear hK hgd;clear K;try clear gd
    repeat refine c_r ?_
    refine rg0 ?_
    repeat refine c_r ?_
    refine wc0 ?_ ?_
    ·intro hne
     simp only[Bool.not_eq_true',decide_eq_false_iff_not]at hne
     repeat (first|refine c_r ?_|refine rg0 ?_)
     refine rt0 Tryz.ntmps301 ?_
     exact⟨by rw[hinv,hst,if_neg hne],hE.trans hE1⟩
    ·intro heq
     simp only[Bool.not_eq_false',decide_eq_true_eq]at heq
     repeat refine c_r ?_
     refine rg1 h13 ?_
     repeat refine c_r ?_
     exact⟨m - 1,by omega,rfl,i+1,by omega,by omega,by simp only[go_sem];push_cast;rfl,(vq1 h12),by simp only[go_sem,h11],(vq1 h0),(vq1 h1),(vq1 h2),hE.trans hE1,by rw[hinv,hst,if_pos heq]⟩
  ·intro hge
   simp only[decide_eq_false_iff_not]at hge
   have e:xs.drop i=[]:=List.drop_of_length_le (by omega)
   have l2:(ys.drop i).length=ys.length - i:=by simp
   have hval:lexC cf xs ys=cmpI 0 (ys.length - i:Nat):=by rw[hinv,zcF (.inl e),e,l2];rfl
   repeat refine c_r ?_
   refine rg2 h0 h1 ?_
   repeat refine c_r ?_
   refine wc0 ?_ ?_
   ·intro h
    simp only[decide_eq_true_eq]at h
    repeat (first|refine c_r ?_|refine rg0 ?_)
    refine rt0 Tryz.ntmps301 ?_
    exact⟨by rw[hval,cmpI,if_pos (by omega)],hE⟩
   ·intro h
    simp only[decide_eq_false_iff_not]at h
    repeat (first|refine c_r ?_|refine rg0 ?_)
    refine rt0 Tryz.ntmps301 ?_
    exact⟨by rw[hval,cmpI,if_neg (by omega),if_neg (by omega)],hE⟩
end Go.Proofs.YtahbdamijngmmaaGreat.C_cn
namespace Go.Proofs.YtahbdamijngmmaaGreat.C_cu
open Go Go.Proofs.YtahbdamijngmmaaGreat
set_option maxRecDepth 10000
def RowR{α:Type}(Rl:World→α→Value→Prop)(w:World)(v:Value)(xs:List α):Prop:=∃us,Row w v us∧us.length=xs.length∧∀i (h:i<us.length) (h':i<xs.length),Rl w xs[i] us[i]
theorem CompareFunc_ok{α:Type}{Rl:World→α→Value→Prop}(hR:∀w x a v,Ext w x→Rl w a v→Rl x a v){cf:α→α→Int}{U:α→Prop}{g:FuncId}(hcal:zao Tryz.prog g=true){w:World}
  (hcall:∀A x y u v,Ext w A→U x→U y→Rl A x u→Rl A y v→Fn Tryz.prog g #[u,v] A (fun r B=>r=vi (cf x y)∧Ext A B)) {a b:Value} {xs ys:List α} (ha:RowR Rl w a xs) (hb:RowR Rl w b ys) (hUx:∀x∈xs,U x) (hUy:∀y∈ys,U y) (hxl:xs.length≤1000000000000000) (hyl:ys.length≤1000000000000000):
  Fn Tryz.prog 302 #[a,b,.func (.func g) #[] #[]] w (fun v w'=>v=vi (lexC cf xs ys)∧Ext w w'):=by
 obtain⟨us,⟨a,ca,rfl,hca,hla⟩,hul,hu⟩:=ha
 obtain⟨vs',⟨b,cb,rfl,hcb,hlb⟩,hvl,hv⟩:=hb
 refine enter Tryz.func302 Tryz.ntmps302 rfl rfl ?_
 repeat refine c_r ?_
 refine rg0 ?_
 repeat refine c_r ?_
 refine rg0 ?_
 repeat refine c_r ?_
 refine zai (fun m σ ds v=>ds=[]∧∃i:Nat,i+m=us.length∧i≤vs'.length∧σ 13=vi i∧σ 12=vi us.length∧σ 11= .slice a us.length ca∧σ 0= .slice a us.length ca∧σ 1= .slice b vs'.length cb∧σ 2= .func (.func g) #[] #[]∧Ext w v∧lexC cf xs ys=lexC cf (xs.drop i) (ys.drop i)) us.length ?_ ?_
 ·refine⟨rfl,0,by omega,by omega,?_,?_,?_,?_,?_,?_,Keep.refl _ _,by simp⟩
  ·simp only[go_sem];rfl
  ·simp only[go_sem]
  ·simp only[go_sem]
  ·simp only[go_sem]
  ·simp only[go_sem]
  ·simp only[go_sem]
 ·rintro m σ ds v ⟨rfl,i,him,hiv,h13,h12,h11,h0,h1,h2,hE,hinv⟩
  repeat refine c_r ?_
  refine rg2 h13 h12 ?_
  repeat refine c_r ?_
  refine wc0 ?_ ?_
  ·intro hlt
   simp only[decide_eq_true_eq]at hlt
   have hsa:a.isSome=true:=zad (hla i (by omega))
   have hla':=fun j h=>zaa hE (hla j h)
   have hlb':=fun j h=>zaa hE (hlb j h)
   repeat refine c_r ?_
   refine rq ?_;intro gd K hgd hK;simp (disch:=first|omega|assumption|rfl) only[go_sem,h13,h11,hla'];refine hK _ _ ?_;clear hK hgd;clear K gd
   repeat refine c_r ?_
   refine rg1 h1 ?_
   repeat refine c_r ?_
   refine wc0 ?_ ?_
   ·intro hge
    simp only[decide_eq_true_eq]at hge
    repeat (first|refine c_r ?_|refine rg0 ?_)
    refine rt0 Tryz.ntmps302 ?_
    refine⟨?_,hE⟩
    have e:ys.drop i=[]:=List.drop_of_length_le (by omega)
    rw[hinv,zcF (.inr e),e]
    have l1:(xs.drop i).length=xs.length - i:=by simp
    unfold cmpI
    rw[l1,List.length_nil,if_neg (by omega),if_pos (by omega)]
   ·intro hlt2
    simp only[decide_eq_false_iff_not]at hlt2
    have hsb:b.isSome=true:=zad (hlb i (by omega))
    have hst:=zcp (cf:=cf) (a:=xs) (b:=ys) (i:=i) (by omega) (by omega)
    repeat refine c_r ?_
    refine rg2 h1 hlb' ?_
    repeat refine c_r ?_
    refine rq ?_;intro gd K hgd hK
    try simp (disch:=first|omega|assumption|rfl) only[go_sem,h2]
    refine zb8 hcal (Fn.mono (hcall v xs[i] ys[i] _ _ hE (hUx _ (List.getElem_mem _)) (hUy _ (List.getElem_mem _)) (hR _ _ _ _ hE (hu i (by omega) (by omega))) (hR _ _ _ _ hE (hv i (by omega) (by omega)))) ?_)
    rintro _ w1 ⟨rfl,hE1⟩
    try simp only[go_sem]
    refine hK _ _ ?_;clear hK hgd;clear K;try clear gd
    repeat refine c_r ?_
    refine rg0 ?_
    repeat refine c_r ?_
    refine wc0 ?_ ?_
    ·intro hne
     simp only[Bool.not_eq_true',decide_eq_false_iff_not]at hne
     repeat (first|refine c_r ?_|refine rg0 ?_)
     refine rt0 Tryz.ntmps302 ?_
     exact⟨by rw[hinv,hst,if_neg hne],hE.trans hE1⟩
    ·intro heq
     simp only[Bool.not_eq_false',decide_eq_true_eq]at heq
     repeat refine c_r ?_
     refine rg1 h13 ?_
     repeat refine c_r ?_
     exact⟨m - 1,by omega,rfl,i+1,by omega,by omega,by simp only[go_sem];push_cast;rfl,(vq1 h12),by simp only[go_sem,h11],(vq1 h0),(vq1 h1),(vq1 h2),hE.trans hE1,by rw[hinv,hst,if_pos heq]⟩
  ·intro hge
   simp only[decide_eq_false_iff_not]at hge
   have e:xs.drop i=[]:=List.drop_of_length_le (by omega)
   have l2:(ys.drop i).length=ys.length - i:=by simp
   have hval:lexC cf xs ys=cmpI 0 (ys.length - i:Nat):=by rw[hinv,zcF (.inl e),e,l2];rfl
   repeat refine c_r ?_
   refine rg2 h0 h1 ?_
   repeat refine c_r ?_
   refine wc0 ?_ ?_
   ·intro h
    simp only[decide_eq_true_eq]at h
    repeat (first|refine c_r ?_|refine rg0 ?_)
    refine rt0 Tryz.ntmps302 ?_
    exact⟨by rw[hval,cmpI,if_pos (by omega)],hE⟩
   ·intro h
    simp only[decide_eq_false_iff_not]at h
    repeat (first|refine c_r ?_|refine rg0 ?_)
    refine rt0 Tryz.ntmps302 ?_
    exact⟨by rw[hval,cmpI,if_neg (by omega),if_neg (by omega)],hE⟩
end Go.Proofs.YtahbdamijngmmaaGreat.C_cu
namespace Go.Proofs.YtahbdamijngmmaaGreat.C_ct
open Go Go.Proofs.YtahbdamijngmmaaGreat
set_option maxRecDepth 10000
def RowR{α:Type}(Rl:World→α→Value→Prop)(w:World)(v:Value)(xs:List α):Prop:=∃us,Row w v us∧us.length=xs.length∧∀i (h:i<us.length) (h':i<xs.length),Rl w xs[i] us[i]
theorem CompareFunc_ok{α:Type}{Rl:World→α→Value→Prop}(hR:∀w x a v,Ext w x→Rl w a v→Rl x a v){cf:α→α→Int}{U:α→Prop}{g:FuncId}(hcal:zao Tryz.prog g=true){w:World}
  (hcall:∀A x y u v,Ext w A→U x→U y→Rl A x u→Rl A y v→Fn Tryz.prog g #[u,v] A (fun r B=>r=vi (cf x y)∧Ext A B)) {a b:Value} {xs ys:List α} (ha:RowR Rl w a xs) (hb:RowR Rl w b ys) (hUx:∀x∈xs,U x) (hUy:∀y∈ys,U y) (hxl:xs.length≤1000000000000000) (hyl:ys.length≤1000000000000000):
  Fn Tryz.prog 304 #[a,b,.func (.func g) #[] #[]] w (fun v w'=>v=vi (lexC cf xs ys)∧Ext w w'):=by
 obtain⟨us,⟨a,ca,rfl,hca,hla⟩,hul,hu⟩:=ha
 obtain⟨vs',⟨b,cb,rfl,hcb,hlb⟩,hvl,hv⟩:=hb
 refine enter Tryz.func304 Tryz.ntmps304 rfl rfl ?_
 repeat refine c_r ?_
 refine rg0 ?_
 repeat refine c_r ?_
 refine rg0 ?_
 repeat refine c_r ?_
 refine zai (fun m σ ds v=>ds=[]∧∃i:Nat,i+m=us.length∧i≤vs'.length∧σ 13=vi i∧σ 12=vi us.length∧σ 11= .slice a us.length ca∧σ 0= .slice a us.length ca∧σ 1= .slice b vs'.length cb∧σ 2= .func (.func g) #[] #[]∧Ext w v∧lexC cf xs ys=lexC cf (xs.drop i) (ys.drop i)) us.length ?_ ?_
 ·refine⟨rfl,0,by omega,by omega,?_,?_,?_,?_,?_,?_,Keep.refl _ _,by simp⟩
  ·simp only[go_sem];rfl
  ·simp only[go_sem]
  ·simp only[go_sem]
  ·simp only[go_sem]
  ·simp only[go_sem]
  ·simp only[go_sem]
 ·rintro m σ ds v ⟨rfl,i,him,hiv,h13,h12,h11,h0,h1,h2,hE,hinv⟩
  repeat refine c_r ?_
  refine rg2 h13 h12 ?_
  repeat refine c_r ?_
  refine wc0 ?_ ?_
  ·intro hlt
   simp only[decide_eq_true_eq]at hlt
   have hsa:a.isSome=true:=zad (hla i (by omega))
   have hla':=fun j h=>zaa hE (hla j h)
   have hlb':=fun j h=>zaa hE (hlb j h)
   repeat refine c_r ?_
   refine rq ?_;intro gd K hgd hK;simp (disch:=first|omega|assumption|rfl) only[go_sem,h13,h11,hla'];refine hK _ _ ?_;clear hK hgd;clear K gd
   repeat refine c_r ?_
   refine rg1 h1 ?_
   repeat refine c_r ?_
   refine wc0 ?_ ?_
   ·intro hge
    simp only[decide_eq_true_eq]at hge
    repeat (first|refine c_r ?_|refine rg0 ?_)
    refine rt0 Tryz.ntmps304 ?_
    refine⟨?_,hE⟩
    have e:ys.drop i=[]:=List.drop_of_length_le (by omega)
    rw[hinv,zcF (.inr e),e]
    have l1:(xs.drop i).length=xs.length - i:=by simp
    unfold cmpI
    rw[l1,List.length_nil,if_neg (by omega),if_pos (by omega)]
   ·intro hlt2
    simp only[decide_eq_false_iff_not]at hlt2
    have hsb:b.isSome=true:=zad (hlb i (by omega))
    have hst:=zcp (cf:=cf) (a:=xs) (b:=ys) (i:=i) (by omega) (by omega)
    repeat refine c_r ?_
    refine rg2 h1 hlb' ?_
    repeat refine c_r ?_
    refine rq ?_;intro gd K hgd hK
    try simp (disch:=first|omega|assumption|rfl) only[go_sem,h2]
    refine zb8 hcal (Fn.mono (hcall v xs[i] ys[i] _ _ hE (hUx _ (List.getElem_mem _)) (hUy _ (List.getElem_mem _)) (hR _ _ _ _ hE (hu i (by omega) (by omega))) (hR _ _ _ _ hE (hv i (by omega) (by omega)))) ?_)
    rintro _ w1 ⟨rfl,hE1⟩
    try simp only[go_sem]
    refine hK _ _ ?_;clear hK hgd;clear K;try clear gd
    repeat refine c_r ?_
    refine rg0 ?_
    repeat refine c_r ?_
    refine wc0 ?_ ?_
    ·intro hne
     simp only[Bool.not_eq_true',decide_eq_false_iff_not]at hne
     repeat (first|refine c_r ?_|refine rg0 ?_)
     refine rt0 Tryz.ntmps304 ?_
     exact⟨by rw[hinv,hst,if_neg hne],hE.trans hE1⟩
    ·intro heq
     simp only[Bool.not_eq_false',decide_eq_true_eq]at heq
     repeat refine c_r ?_
     refine rg1 h13 ?_
     repeat refine c_r ?_
     exact⟨m - 1,by omega,rfl,i+1,by omega,by omega,by simp only[go_sem];push_cast;rfl,(vq1 h12),by simp only[go_sem,h11],(vq1 h0),(vq1 h1),(vq1 h2),hE.trans hE1,by rw[hinv,hst,if_pos heq]⟩
  ·intro hge
   simp only[decide_eq_false_iff_not]at hge
   have e:xs.drop i=[]:=List.drop_of_length_le (by omega)
   have l2:(ys.drop i).length=ys.length - i:=by simp
   have hval:lexC cf xs ys=cmpI 0 (ys.length - i:Nat):=by rw[hinv,zcF (.inl e),e,l2];rfl
   repeat refine c_r ?_
   refine rg2 h0 h1 ?_
   repeat refine c_r ?_
   refine wc0 ?_ ?_
   ·intro h
    simp only[decide_eq_true_eq]at h
    repeat (first|refine c_r ?_|refine rg0 ?_)
    refine rt0 Tryz.ntmps304 ?_
    exact⟨by rw[hval,cmpI,if_pos (by omega)],hE⟩
   ·intro h
    simp only[decide_eq_false_iff_not]at h
    repeat (first|refine c_r ?_|refine rg0 ?_)
    refine rt0 Tryz.ntmps304 ?_
    exact⟨by rw[hval,cmpI,if_neg (by omega),if_neg (by omega)],hE⟩
end Go.Proofs.YtahbdamijngmmaaGreat.C_ct
namespace Go.Proofs.YtahbdamijngmmaaGreat.N_uint32
open Go Go.Proofs.YtahbdamijngmmaaGreat
set_option maxRecDepth 10000
theorem zdN(w:World)(a:Int):Fn Tryz.prog 303 #[.int .u32 a] w (fun v w'=>v= .bool false∧w'=w):=by
 refine enter Tryz.func303 Tryz.ntmps303 rfl rfl ?_
 repeat (first|refine c_r ?_| (refine zcv (by rfl) ?_;intro gd K hgd hK;simp (disch:=first|omega|assumption|rfl) only[go_sem,decide_true];refine hK _ _ ?_;clear hK hgd;clear K gd))
 refine rt0 Tryz.ntmps303 ?_
 exact⟨rfl,rfl⟩
theorem Compare_ok(w:World)(a b:Int):Fn Tryz.prog 289 #[.int .u32 a,.int .u32 b] w (fun v w'=>v=vi (cmpI a b)∧w'=w):=by
 refine enter Tryz.func289 Tryz.ntmps289 rfl rfl ?_
 repeat refine c_r ?_
 refine rg0 ?_
 repeat refine c_r ?_
 refine rq ?_;intro gd K hgd hK
 try simp only[go_sem]
 refine Fn.mono (zdN _ _) ?_
 rintro _ _ ⟨rfl,rfl⟩
 try simp only[go_sem]
 refine hK _ _ ?_;clear hK hgd;clear K;try clear gd
 repeat refine c_r ?_
 refine rq ?_;intro gd K hgd hK
 try simp only[go_sem]
 refine Fn.mono (zdN _ _) ?_
 rintro _ _ ⟨rfl,rfl⟩
 try simp only[go_sem]
 refine hK _ _ ?_;clear hK hgd;clear K;try clear gd
 repeat refine c_r ?_
 refine rg0 ?_
 repeat refine c_r ?_
 refine wc0 ?_ ?_
 ·intro h;cases h
 intro _
 repeat refine c_r ?_
 refine rg0 ?_
 repeat refine c_r ?_
 refine wc0 ?_ ?_
 ·intro h;cases h
 intro _
 repeat refine c_r ?_
 refine rg0 ?_
 repeat refine c_r ?_
 refine wc0 ?_ ?_
 ·intro h
  simp only[decide_eq_true_eq]at h
  repeat (first|refine c_r ?_|refine rg0 ?_)
  refine rt0 Tryz.ntmps289 ?_
  exact⟨by rw[cmpI,if_pos h],rfl⟩
 intro h
 simp only[decide_eq_false_iff_not]at h
 repeat (first|refine c_r ?_|refine rg0 ?_)
 refine wc0 ?_ ?_
 ·intro h2
  simp only[decide_eq_true_eq]at h2
  repeat (first|refine c_r ?_|refine rg0 ?_)
  refine rt0 Tryz.ntmps289 ?_
  exact⟨by rw[cmpI,if_neg h,if_pos h2],rfl⟩
 intro h2
 simp only[decide_eq_false_iff_not]at h2
 repeat (first|refine c_r ?_|refine rg0 ?_)
 refine rt0 Tryz.ntmps289 ?_
 exact⟨by rw[cmpI,if_neg h,if_neg h2],rfl⟩
end Go.Proofs.YtahbdamijngmmaaGreat.N_uint32
namespace Go.Proofs.YtahbdamijngmmaaGreat
open Go
set_option maxRecDepth 10000
theorem zdL{P:Program}{w:World}:∀(l:List UInt8) (a:Addr) (acc:ByteArray),(∀j (h:j<l.length),w.cell? (a.add j)=some (zae l[j]))→(Extern.Bytes.loadBytes a l.length acc).run P w= .ok ⟨acc.data++l.toArray⟩ w
 | [],a,acc,_=>by simp[Extern.Bytes.loadBytes,Sem.run]
 |c::l,a,acc,h=>by
  have h0:=h 0 (by simp)
  have ha0:a.add 0=a:=by simp[Addr.add]
  rw[ha0]at h0
  have ih:=zdL (P:=P) l (a.add 1) (acc.push c) (fun j hj=>by
   have:=h (j+1) (by simp;omega)
   rw[zc4,Nat.add_comm 1 j]
   simpa using this)
  have e:(load a).run P w= .ok (zae c) w:=by simp[load,Sem.run,h0]
  simp only[List.length_cons,Extern.Bytes.loadBytes,Sem.run_bind,e,Result.andThen_ok]
  show(Extern.Bytes.loadBytes (a.add 1) l.length (acc.push (((c.toNat:Nat):Int).toNat.toUInt8))).run P w=_
  have e2:((c.toNat:Nat):Int).toNat.toUInt8=c:=by simp
  rw[e2,ih]
  simp[ByteArray.push]
theorem zfb{P:Program}{w:World}{v:Value}{l:List UInt8}(h:Row w v (l.map zae)):(Extern.Bytes.bytesOf v).run P w= .ok ⟨l.toArray⟩ w:=by
 obtain⟨a,c,rfl,_,hl⟩:=h
 simp only[List.length_map]at hl ⊢
 cases a with
 |none=>
  cases l with
  |nil=>rfl
  |cons c l=>have:=hl 0 (by simp);simp[zah,adr]at this
 |some a=>
  have:=zdL (P:=P) (w:=w) l a .empty (fun j hj=>by
   have:=hl j hj
   simpa [zah,adr] using this)
  simpa [Extern.Bytes.bytesOf] using this
theorem zhE(w:World)(a b:Value)(xs ys:List UInt8)(ha:Row w a (xs.map zae))(hb:Row w b (ys.map zae)):Fn Tryz.prog 291 #[a,b] w (fun v w'=>v=vi (cmpL xs ys)∧w'=w):=by
 have h1:=zfb (P:=Tryz.prog) ha
 have h2:=zfb (P:=Tryz.prog) hb
 refine enter Tryz.func291 Tryz.ntmps291 rfl rfl ?_
 repeat refine c_r ?_
 refine rg0 ?_
 repeat refine c_r ?_
 refine rq ?_;intro gd K hgd hK
 try simp only[go_sem]
 refine⟨vi (cmpL xs ys),w,?_,?_⟩
 ·rw[run_callFunc_extern Tryz.func305 (by kernel_rfl) (by kernel_rfl) (by kernel_rfl) (e:=Extern.BytealgCompare.compare) (by kernel_rfl)]
  have:(Extern.BytealgCompare.compare #[a,b]).run Tryz.prog w= .ok (vi (cmpL xs ys)) w:=by
   show(do pure (goInt (Extern.BytealgCompare.cmp (←Extern.Bytes.bytesOf a) (←Extern.Bytes.bytesOf b))):Sem Value).run Tryz.prog w=_
   simp only[Sem.run_bind,h1,h2,Result.andThen_ok,Sem.run_pure]
   rw[Lib.cmp_eq]
   rfl
  rw[this];rfl
 try simp only[go_sem]
 refine hK _ _ ?_;clear hK hgd;clear K;try clear gd
 repeat refine c_r ?_
 refine rt0 Tryz.ntmps291 ?_
 exact⟨rfl,rfl⟩
def zaw(w:World)(p:Option Addr)(k:Nat):Option (List Value):=p.bind fun a=>zaN w a 0 k
theorem zjT{P:Program}{w:World}{t:TypeId}{p:Option Addr}(hA:tyA P t=true):ldA P w t p=(zaw w p (tyS P t)).map fun l=> .agg l.toArray:=by
 cases p with
 |none=>rfl
 |some a=>simp[ldA,ldP,ldV,hA,zaw]
theorem zei{w:World}{b o:Nat}{cur:Array Value}{e:TypeId}{fr:Nat×Nat}(h:w.heap[b]? =some (.cells cur e fr)):∀(k i:Nat),o+i+k≤cur.size→
  zaN w ⟨b,o,Option.none⟩ i k=some ((cur.toList.drop (o+i)).take k)
 |0,_,_=>by simp[zaN]
 |k+1,i,hk=>by
  unfold zaN
  rw[zey,zaG h,zei h k (i+1) (by omega)]
  have hlt:o+i<cur.size:=by omega
  have hd:=List.drop_eq_getElem_cons (l:=cur.toList) (i:=o+i) (by simpa using hlt)
  rw[Array.getElem?_eq_getElem hlt,hd,List.take_succ_cons]
  rfl
theorem zaE{w:World}{b o k:Nat}{cur:Array Value}{e:TypeId}{fr:Nat×Nat}(h:w.heap[b]? =some (.cells cur e fr))(hk:o+k≤cur.size):
  zaw w (some ⟨b,o,Option.none⟩) k=some ((cur.toList.drop o).take k):=by
 have:=zei (o:=o) h k 0 (by omega)
 simpa [zaw] using this
theorem zhr{S:Nat→Prop}{w x:World}(hk:Keep S w x){p:Option Addr}(hS:offS S p){k:Nat}{l:List Value}(h:zaw w p k=some l):zaw x p k=some l:=by
 cases p with
 |none=>cases h
 |some a=>exact zdy hk (hS a rfl) k 0 l h
theorem zaf{w x:World}(hk:Ext w x){p:Option Addr}{k:Nat}{l:List Value}(h:zaw w p k=some l):zaw x p k=some l:=
 zhr hk (by simp[offS,NoS]) h
theorem zan{w:World}{a:Option Addr}{j k:Nat}{l:List Value}(h:zaw w (adr a j) k=some l):a.isSome=true:=by
 cases a with
 |none=>simp[zaw,adr]at h
 |some a=>rfl
theorem zfC{w:World}{a:Addr}:∀{k i:Nat} {l:List Value},zaN w a i k=some l→l.length=k
 |0,_,l,h=>by simp[zaN]at h;subst h;rfl
 |k+1,i,l,h=>by
  unfold zaN at h
  split at h
  ·rename_i v l' h1 h2
   cases h
   simp[zfC h2]
  ·cases h
theorem ziT{w:World}{p:Option Addr}{k:Nat}{l:List Value}(h:zaw w p k=some l):l.length=k:=by
 cases p with
 |none=>cases h
 |some a=>exact zfC h
theorem zea{w:World}{a:Addr}:∀{k i:Nat} {l:List Value},zaN w a i k=some l→∀(j:Nat) (h:j<l.length),w.cell? (a.add (i+j))=some l[j]
 |0,_,l,h,j,hj=>by simp[zaN]at h;subst h;simp at hj
 |k+1,i,l,h,j,hj=>by
  unfold zaN at h
  split at h
  ·rename_i v l' h1 h2
   cases h
   cases j with
   |zero=>exact h1
   |succ j=>
    have:=zea h2 j (by simpa using hj)
    rw[show i+(j+1)=i+1+j from by omega]
    exact this
  ·cases h
theorem zdh{w:World}{p:Option Addr}{k:Nat}{l:List Value}(h:zaw w p k=some l){j:Nat}(hj:j<l.length):zah w (adr p j)=some l[j]:=by
 cases p with
 |none=>cases h
 |some a=>
  have:=zea (i:=0) h j hj
  rw[Nat.zero_add]at this
  exact this
def RowK(k:Nat)(w:World)(v:Value)(L:List (List Value)):Prop:=
 ∃a c,v= .slice a L.length c∧L.length≤c∧∀j (h:j<L.length),zaw w (adr a (j*k)) k=some L[j]
theorem RowK.ext{k:Nat}{w x:World}{v:Value}{L:List (List Value)}(h:RowK k w v L)(hE:Ext w x):RowK k x v L:=by
 obtain⟨a,c,rfl,hc,hl⟩:=h
 exact⟨a,c,rfl,hc,fun j hj=>zaf hE (hl j hj)⟩
/-! ### a block of elements -/
structure SD(k:Nat)(w:World)(b:Nat)(e:TypeId)(cap:Nat)(D:List (List Value)):Prop where
 lies:∃cur:Array Value,∃R:List Value,w.heap[b]? =some (.cells cur e (0,0))∧cur.toList=D.flatten++R∧cur.size=cap*k
 len:∀x∈D,x.length=k
 ones:∀x∈D,∀v∈x,one v=true
theorem zbt{k:Nat}:∀{D:List (List Value)},(∀x∈D,x.length=k)→D.flatten.length=D.length*k
 | [],_=>by simp
 |x::D,h=>by
  have h1:=h x (List.mem_cons_self ..)
  have h2:=zbt (D:=D) (fun y hy=>h y (List.mem_cons_of_mem _ hy))
  rw[List.flatten_cons,List.length_append,h1,h2,List.length_cons,Nat.succ_mul];omega
theorem zfU{k:Nat}{D:List (List Value)}(h:∀x∈D,x.length=k){j:Nat}(hj:j<D.length):D.flatten=(D.take j).flatten++D[j]++(D.drop (j+1)).flatten∧(D.take j).flatten.length=j*k:=by
 constructor
 ·refine(congrArg List.flatten (zcc hj)).trans ?_
  rw[List.flatten_append,List.flatten_cons,List.append_assoc]
 ·rw[zbt (fun x hx=>h x (List.mem_of_mem_take hx)),List.length_take,Nat.min_eq_left (by omega)]
theorem SD.get{k:Nat}{w:World}{b:Nat}{e:TypeId}{cap:Nat}{D:List (List Value)}(h:SD k w b e cap D){j:Nat}(hj:j<D.length):zaw w (some ⟨b,j*k,Option.none⟩) k=some D[j]:=by
 obtain⟨cur,R,hb,hc,hs⟩:=h.lies
 obtain⟨e1,e2⟩:=zfU h.len hj
 have hk:=h.len D[j] (List.getElem_mem hj)
 have hlen:cur.toList.length=D.flatten.length+R.length:=by rw[hc];simp
 have e3:=congrArg List.length e1
 simp only[List.length_append]at e3
 have hsz:cur.toList.length=cur.size:=by simp
 rw[zaE hb (by omega),hc,e1,List.append_assoc,List.append_assoc,List.drop_left' e2,List.take_left' hk]
theorem zeE{b o:Nat}{e:TypeId}:∀(l:List Value) (i:Nat) (w:World) (A V B:List Value) (cur:Array Value),w.heap[b]? =some (.cells cur e (0,0))→cur.toList=A++V++B→A.length=o+i→V.length=l.length→(∀v∈l,one v=true)→
  ∃w',stC w ⟨b,o,Option.none⟩ i l=some w'∧w'.heap.size=w.heap.size∧Keep (fun x=>x=b) w w'∧∃cur':Array Value,w'.heap[b]? =some (.cells cur' e (0,0))∧cur'.toList=A++l++B
 | [],i,w,A,V,B,cur,hb,hc,hA,hV,_=>by
  have:V=[]:=List.length_eq_zero_iff.1 hV
  subst this
  exact⟨w,rfl,rfl,Keep.refl _ _,cur,hb,by simpa using hc⟩
 |v::l,i,w,A,V,B,cur,hb,hc,hA,hV,h1=>by
  cases V with
  |nil=>simp at hV
  |cons u V=>
   have hcl:=congrArg List.length hc
   simp only[List.length_append,List.length_cons,Array.length_toList]at hcl
   have hlt:o+i<cur.size:=by omega
   have hset:(cur.setIfInBounds (o+i) v).toList=(A++ [v])++V++B:=by
    rw[Array.toList_setIfInBounds,hc,←hA,List.append_assoc,List.set_append_right _ _ (Nat.le_refl _),Nat.sub_self]
    simp
   obtain⟨w',k1,k2,k3,cur',k4,k5⟩:=zeE l (i+1) (w.setCell ⟨b,o+i,Option.none⟩ v) (A++ [v]) V B _ (zge hb) hset (by rw[List.length_append,hA];rfl) (by simpa using hV) (fun x hx=>h1 x (List.mem_cons_of_mem _ hx))
   refine⟨w',?_,by rw[k2];simp,(zhL w b (o+i) v).trans k3,cur',k4,by simpa using k5⟩
   unfold stC
   rw[zey,zaG hb,zeX hb,Array.getElem?_eq_getElem hlt,h1 v (List.mem_cons_self ..)]
   simpa using k1
theorem SD.set{k:Nat}{w:World}{b:Nat}{e:TypeId}{cap:Nat}{D:List (List Value)}(h:SD k w b e cap D){P:Program}{t:TypeId}{K:Value→World→Prop}{j:Nat}(hj:j<D.length){x:List Value}(hx:x.length=k)(h1:∀v∈x,one v=true)
  (hs:tyS P t=k) (hi:(P.info? t).isSome=true) (hK:∀w',w'.heap.size=w.heap.size→SD k w' b e cap (D.set j x)→Keep (fun i=>i=b) w w'→K undef w'):
  stK P t (.pointer (some ⟨b,j*k,Option.none⟩)) (.agg x.toArray) w K:=by
 obtain⟨cur,R,hb,hc,hsz⟩:=h.lies
 obtain⟨e1,e2⟩:=zfU h.len hj
 have hk:=h.len D[j] (List.getElem_mem hj)
 rw[e1,List.append_assoc,List.append_assoc]at hc
 obtain⟨w',k1,k2,k3,cur',k4,k5⟩:=zeE (o:=j*k) x 0 w (D.take j).flatten D[j] ((D.drop (j+1)).flatten++R) cur hb (by rw[hc];simp) (by simpa using e2) (by rw[hk,hx]) h1
 refine⟨by simp[Value.cells,hx,hs],hi,w',by simpa [Value.cells] using k1,hK w' k2 ⟨⟨cur',R,k4,?_,?_⟩,?_,?_⟩ k3⟩
 ·have e3:(D.set j x).flatten=(D.take j).flatten++x++(D.drop (j+1)).flatten:=by
   rw[List.set_eq_take_append_cons_drop,if_pos hj];simp
  rw[k5,e3];simp
 ·have l1:=congrArg List.length k5
  have l2:=congrArg List.length hc
  simp only[List.length_append,Array.length_toList]at l1 l2
  omega
 ·intro y hy
  rcases List.mem_or_eq_of_mem_set hy with hy|rfl
  ·exact h.len y hy
  ·exact hx
 ·intro y hy
  rcases List.mem_or_eq_of_mem_set hy with hy|rfl
  ·exact h.ones y hy
  ·exact h1
theorem SD.keep{k:Nat}{w x:World}{b:Nat}{e:TypeId}{cap:Nat}{D:List (List Value)}{S:Nat→Prop}(h:SD k w b e cap D)(hk:Keep S w x)(hS:¬S b):SD k x b e cap D:=by
 obtain⟨⟨cur,R,hb,hr⟩,h1,h2⟩:=h
 exact⟨⟨cur,R,(hk.block _ (Array.getElem?_eq_some_iff.1 hb).1 hS).trans hb,hr⟩,h1,h2⟩
theorem SD.ext{k:Nat}{w x:World}{b:Nat}{e:TypeId}{cap:Nat}{D:List (List Value)}(h:SD k w b e cap D)(hE:Ext w x):SD k x b e cap D:=h.keep hE (fun h=>h)
theorem SD.lt{k:Nat}{w:World}{b:Nat}{e:TypeId}{cap:Nat}{D:List (List Value)}(h:SD k w b e cap D):b<w.heap.size:=by
 obtain⟨cur,R,hb,_⟩:=h.lies
 exact(Array.getElem?_eq_some_iff.1 hb).1
def ldAX(P:Program)(w:World)(t:TypeId)(p:Option Addr):Bool→Nat→Option Value
 |true,k=>(zaw w p k).map fun l=> .agg l.toArray
 |false,_=>ldP P w t p
theorem ldA_X{P:Program}{w:World}{t:TypeId}(p:Option Addr):ldA P w t p=ldAX P w t p (tyA P t) (tyS P t):=by
 cases hA:tyA P t with
 |true=>exact zjT hA
 |false=>rfl
theorem zjU{P:Program}{w:World}{t:TypeId}(p:Option Addr)(k:Nat):ldAX P w t p true k=(zaw w p k).map fun l=> .agg l.toArray:=nr rfl
attribute [go_sem] ldA_X zjU
def zeO(k:Nat):List Value→List (Nat×Value)
 | []=>[]
 |v::l=>(k,v)::zeO (k+1) l
theorem zgA:∀(l:List Value) (k:Nat) (cells:Array Value),(∀v∈l,v.cells=#[v])→k+l.length≤cells.size→
  ∃r,Instr.fill (fun i=>some (i*1,1)) cells (zeO k l)=some r∧r.toList=cells.toList.take k++l++cells.toList.drop (k+l.length)
 | [],k,cells,_,_=>⟨cells,rfl,by simp⟩
 |v::l,k,cells,h,hk=>by
  simp only[List.length_cons]at hk
  have hv:=h v (List.mem_cons_self ..)
  obtain⟨r,h1,h2⟩:=zgA l (k+1) (cells.setIfInBounds k v) (fun u hu=>h u (List.mem_cons_of_mem _ hu)) (by simp;omega)
  refine⟨r,?_,?_⟩
  ·unfold zeO Instr.fill
   simp only[hv,Nat.mul_one]
   have:¬((#[v]:Array Value).size≠1∨k+(#[v]:Array Value).size>cells.size):=by simp;omega
   rw[if_neg (by simpa using this)]
   simpa using h1
  ·rw[h2,Array.toList_setIfInBounds,List.take_set,List.drop_set_of_lt (by omega)]
   have hlt:k<cells.toList.length:=by simp;omega
   rw[zak hlt]
   have e1:(cells.toList.take k).length=k:=by rw[List.length_take];omega
   rw[List.set_append_right _ _ (by omega),e1,Nat.sub_self,List.set_cons_zero]
   simp[Nat.add_assoc,Nat.add_comm 1]
section
variable {P : Program} {w : World} {K : Value → World → Prop}
theorem zbT{t e:TypeId}{z:Value}{l:List Value}{n:Nat}{parts:List (Nat×Value)}(hn:n=l.length)(hp:parts=zeO 0 l)(hu:tyU P t=some (.slice e))(hz:tyZ P e=some z)(hs:tyS P e=1)(hz1:z.cells=#[z])(hv:∀v∈l,v.cells=#[v])(hl:l.length≤1000000)
  (h:∀w1,Ext w w1→w1.heap.size=w.heap.size+1→Own w.heap.size w1 e (.slice (some ⟨w.heap.size,0,Option.none⟩) n n) l→K (.slice (some ⟨w.heap.size,0,Option.none⟩) n n) w1):bsL P t n parts w K .mk:=by
 subst hn hp
 unfold bsL bsK
 have hsz:((Array.range (l.length*1)).map fun x=>z.cells[x % z.cells.size]!).size=l.length:=by simp
 obtain⟨r,h1,h2⟩:=zgA l 0 ((Array.range (l.length*1)).map fun x=>z.cells[x % z.cells.size]!) hv (by rw[hsz];omega)
 have hr:r.toList=l:=by
  rw[h2,List.take_zero,List.nil_append,Nat.zero_add,List.drop_of_length_le (by rw[Array.length_toList,hsz];exact Nat.le_refl _),List.append_nil]
 have:bsC P t l.length (zeO 0 l)=some (e,r):=by
  unfold bsC
  rw[hu]
  simp only[hz,hs]
  have c1:(decide (l.length*1≤2 ^ 24) && decide (z.cells.size=1))=true:=by rw[hz1];simp;omega
  rw[c1,cond_true,h1];rfl
 rw[this]
 have hrs:r.size=l.length:=by rw[←hr];simp
 exact h _ (Ext.alloc w _) (zap w _) ⟨by simp,.inr ⟨w.heap.size,l.length,r,rfl,Nat.le_refl _,zam w _,Nat.le_refl _,by simp[maxLen];omega,by simpa using hrs,by rw[hr];simp⟩⟩
end
abbrev v32(n:Int):Value:= .int .u32 n
structure DatL where
 ty:Int
 names:List Nm
 nums:List Int
 texts:List Lab
 raw:List UInt8
structure RecL where
 owner:Nm
 ttl:Int
 dat:DatL
def zci(a b:Nm):Int:=cmpN (zag a) (zag b)
def cmpD(a b:DatL):Int:=orI [cmpI a.ty b.ty,lexC zci a.names b.names,lexC cmpI a.nums b.nums,lexC cmpL a.texts b.texts,cmpL a.raw b.raw]
def zaJ(a b:RecL):Int:=orI [zci a.owner b.owner,cmpI a.dat.ty b.dat.ty,cmpD a.dat b.dat]
structure DatAt(w:World)(cs:List Value)(d:DatL):Prop where
 ex:∃nm nu tx rw,cs=[vi d.ty,nm,nu,tx,rw]∧NamesAt w nm d.names∧Row w nu (d.nums.map v32)∧Row w tx (d.texts.map vs)∧Row w rw (d.raw.map zae)
structure RecAt(w:World)(cs:List Value)(r:RecL):Prop where
 ex:∃ow ds,cs=ow::v32 r.ttl::ds∧Row w ow (r.owner.map vs)∧DatAt w ds r.dat
theorem DatAt.ext{w x:World}{cs:List Value}{d:DatL}(h:DatAt w cs d)(hE:Ext w x):DatAt x cs d:=by
 obtain⟨nm,nu,tx,rw,e,h1,h2,h3,h4⟩:=h.ex
 exact⟨nm,nu,tx,rw,e,h1.ext hE,h2.ext hE,h3.ext hE,h4.ext hE⟩
theorem RecAt.ext{w x:World}{cs:List Value}{r:RecL}(h:RecAt w cs r)(hE:Ext w x):RecAt x cs r:=by
 obtain⟨ow,ds,e,h1,h2⟩:=h.ex
 exact⟨ow,ds,e,h1.ext hE,h2.ext hE⟩
structure DatOk(d:DatL):Prop where
 names:∀n∈d.names,LB n∧n.length≤1000000000000000
 nn:d.names.length≤1000000000000000
 nu:d.nums.length≤1000000000000000
 nt:d.texts.length≤1000000000000000
 nv:∀n∈d.nums,0≤n∧n≤4294967295
 nr:d.raw.length≤1000000000000000
structure zcw(r:RecL):Prop where
 lb:LB r.owner
 len:r.owner.length≤1000000000000000
 dat:DatOk r.dat
theorem zac{w:World}{b i:Nat}{cur:Array Value}{e:TypeId}{fr:Nat×Nat}{v:Value}(h:w.heap[b]? =some (.cells cur e fr))(hv:cur[i]? =some v):zah w (some ⟨b,i,Option.none⟩)=some v:=by
 show w.cell? _=_
 rw[zaG h];exact hv
theorem rowN_ok(w:World)(a b:Value)(xs ys:List Nm)(ha:NamesAt w a xs)(hb:NamesAt w b ys)(hx:∀n∈xs,LB n∧n.length≤1000000000000000)(hy:∀n∈ys,LB n∧n.length≤1000000000000000)(hxl:xs.length≤1000000000000000)(hyl:ys.length≤1000000000000000):
  Fn Tryz.prog 287 #[a,b,.func (.func 133) #[] #[]] w (fun v w'=>v=vi (lexC zci xs ys)∧Ext w w'):=by
 refine enter Tryz.func287 Tryz.ntmps287 rfl rfl ?_
 repeat refine c_r ?_
 refine rg0 ?_
 repeat refine c_r ?_
 refine rq ?_;intro gd K hgd hK
 try simp only[go_sem]
 refine Fn.mono (C_cn.CompareFunc_ok (Rl:=fun w (n:Nm) v=>Row w v (n.map vs)) (U:=fun n=>LB n∧n.length≤1000000000000000) (cf:=zci) (fun w x a v hE h=>h.ext hE) rfl (fun A x y u v hE hx hy hu hv=>zcL A u v x y hu hv hx.1 hy.1 (by have:=hx.2;omega) (by have:=hy.2;omega)) (xs:=xs) (ys:=ys) ha hb hx hy hxl hyl) ?_
 rintro _ w1 ⟨rfl,hE⟩
 try simp only[go_sem]
 refine hK _ _ ?_;clear hK hgd;clear K;try clear gd
 repeat refine c_r ?_
 refine rt0 Tryz.ntmps287 ?_
 exact⟨rfl,hE⟩
theorem zig{α:Type}{f:α→Value}{w:World}{v:Value}{xs:List α}(h:Row w v (xs.map f)):C_cu.RowR (fun _ a u=>u=f a) w v xs:=⟨_,h,by simp,fun i h1 h2=>by simp⟩
theorem rowU_ok(w:World)(a b:Value)(xs ys:List Int)(ha:Row w a (xs.map v32))(hb:Row w b (ys.map v32))(hxl:xs.length≤1000000000000000)(hyl:ys.length≤1000000000000000):
  Fn Tryz.prog 288 #[a,b,.func (.func 289) #[] #[]] w (fun v w'=>v=vi (lexC cmpI xs ys)∧Ext w w'):=by
 refine enter Tryz.func288 Tryz.ntmps288 rfl rfl ?_
 repeat refine c_r ?_
 refine rg0 ?_
 repeat refine c_r ?_
 refine rq ?_;intro gd K hgd hK
 try simp only[go_sem]
 refine Fn.mono (C_cu.CompareFunc_ok (Rl:=fun _ (n:Int) v=>v=v32 n) (U:=fun _=>True) (cf:=cmpI) (fun w x a v hE h=>h) rfl (fun A x y u v hE hx hy hu hv=>by subst hu hv;exact Fn.mono (N_uint32.Compare_ok A x y) (fun _ _ ⟨h1,h2⟩=>⟨h1,h2▸Keep.refl _ _⟩)) (xs:=xs) (ys:=ys) (zig ha) (zig hb) (fun _ _=>trivial) (fun _ _=>trivial) hxl hyl) ?_
 rintro _ w1 ⟨rfl,hE⟩
 try simp only[go_sem]
 refine hK _ _ ?_;clear hK hgd;clear K;try clear gd
 repeat refine c_r ?_
 refine rt0 Tryz.ntmps288 ?_
 exact⟨rfl,hE⟩
theorem rowT_ok(w:World)(a b:Value)(xs ys:List Lab)(ha:Row w a (xs.map vs))(hb:Row w b (ys.map vs))(hxl:xs.length≤1000000000000000)(hyl:ys.length≤1000000000000000):
  Fn Tryz.prog 290 #[a,b,.func (.func 225) #[] #[]] w (fun v w'=>v=vi (lexC cmpL xs ys)∧Ext w w'):=by
 refine enter Tryz.func290 Tryz.ntmps290 rfl rfl ?_
 repeat refine c_r ?_
 refine rg0 ?_
 repeat refine c_r ?_
 refine rq ?_;intro gd K hgd hK
 try simp only[go_sem]
 refine Fn.mono (C_ct.CompareFunc_ok (Rl:=fun _ (n:Lab) v=>v=vs n) (U:=fun _=>True) (cf:=cmpL) (fun w x a v hE h=>h) rfl (fun A x y u v hE hx hy hu hv=>by subst hu hv;exact Fn.mono (zfh A x y) (fun _ _ ⟨h1,h2⟩=>⟨h1,h2▸Keep.refl _ _⟩)) (xs:=xs) (ys:=ys) ⟨_,ha,by simp,fun i h1 h2=>by simp⟩ ⟨_,hb,by simp,fun i h1 h2=>by simp⟩ (fun _ _=>trivial) (fun _ _=>trivial) hxl hyl) ?_
 rintro _ w1 ⟨rfl,hE⟩
 try simp only[go_sem]
 refine hK _ _ ?_;clear hK hgd;clear K;try clear gd
 repeat refine c_r ?_
 refine rt0 Tryz.ntmps290 ?_
 exact⟨rfl,hE⟩
theorem zhC(w:World)(ca cb:List Value)(a b:DatL)(ha:DatAt w ca a)(hb:DatAt w cb b)(hoa:DatOk a)(hob:DatOk b):
  Fn Tryz.prog 263 #[.agg ca.toArray,.agg cb.toArray] w (fun v w'=>v=vi (cmpD a b)∧Ext w w'):=by
 obtain⟨nm,nu,tx,rw',rfl,a1,a2,a3,a4⟩:=ha.ex
 obtain⟨nm2,nu2,tx2,rw2,rfl,b1,b2,b3,b4⟩:=hb.ex
 refine enter Tryz.func263 Tryz.ntmps263 rfl rfl ?_
 repeat refine c_r ?_
 refine rg0 ?_
 repeat refine c_r ?_
 have k1:=zam w (.cells #[vi a.ty,nm,nu,tx,rw'] 197 (0,0))
 have kE:=(Ext.alloc w (.cells #[vi a.ty,nm,nu,tx,rw'] 197 (0,0))).trans (Ext.alloc _ (.cells #[vi b.ty,nm2,nu2,tx2,rw2] 197 (0,0)))
 have k2:=zam (w.alloc (.cells #[vi a.ty,nm,nu,tx,rw'] 197 (0,0))) (.cells #[vi b.ty,nm2,nu2,tx2,rw2] 197 (0,0))
 have k1':=(RowKit.Below.heap_alloc _ (.cells #[vi b.ty,nm2,nu2,tx2,rw2] 197 (0,0)) _ (by simp)).trans k1
 rw[zap]at k2 ⊢
 clear k1
 revert k1' kE k2
 generalize (w.alloc (.cells #[vi a.ty,nm,nu,tx,rw'] 197 (0,0))).alloc (.cells #[vi b.ty,nm2,nu2,tx2,rw2] 197 (0,0))=w1
 intro kE k2 k1
 refine zaL (fun _=>false) [(0,true),(1,true),(2,true),(3,true),(5,true),(6,true),(7,true),(8,true),(10,true),(11,true),(12,true),(13,true),(15,true),(16,true),(17,true),(18,true),(20,true),(21,true),(22,true),(23,true),(4,false),(9,false),(14,false),(19,false),(24,false),(25,false),(26,false),(27,true)] NoS mixed (by kernel_rfl) ?_;intro gd K x hgd hx hxe hK;clear hxe
 have hE1:=kE.trans hx
 have K1:=(hx.block _ (Array.getElem?_eq_some_iff.1 k1).1 (fun h=>h)).trans k1
 have K2:=(hx.block _ (Array.getElem?_eq_some_iff.1 k2).1 (fun h=>h)).trans k2
 have p0:zah x (some ⟨w.heap.size,0,Option.none⟩)=some (vi a.ty):=zac K1 rfl
 have p1:zah x (some ⟨w.heap.size,1,Option.none⟩)=some (nm):=zac K1 rfl
 have p2:zah x (some ⟨w.heap.size,2,Option.none⟩)=some (nu):=zac K1 rfl
 have p3:zah x (some ⟨w.heap.size,3,Option.none⟩)=some (tx):=zac K1 rfl
 have p4:zah x (some ⟨w.heap.size,4,Option.none⟩)=some (rw'):=zac K1 rfl
 have q0:zah x (some ⟨w.heap.size+1,0,Option.none⟩)=some (vi b.ty):=zac K2 rfl
 have q1:zah x (some ⟨w.heap.size+1,1,Option.none⟩)=some (nm2):=zac K2 rfl
 have q2:zah x (some ⟨w.heap.size+1,2,Option.none⟩)=some (nu2):=zac K2 rfl
 have q3:zah x (some ⟨w.heap.size+1,3,Option.none⟩)=some (tx2):=zac K2 rfl
 have q4:zah x (some ⟨w.heap.size+1,4,Option.none⟩)=some (rw2):=zac K2 rfl
 simp (disch:=first|omega|assumption|rfl) only[go_sem,p0,p1,p2,p3,p4,q0,q1,q2,q3,q4]
 refine Fn.mono (N_int.Compare_ok x _ _) ?_
 rintro _ x0 ⟨rfl,h0⟩
 replace h0:=h0.symm
 subst h0
 refine⟨.inr (Keep.refl _ _),?_⟩
 simp (disch:=first|omega|assumption|rfl) only[go_sem]
 refine Fn.mono (rowN_ok x _ _ _ _ (a1.ext hE1) (b1.ext hE1) hoa.names hob.names hoa.nn hob.nn) ?_
 rintro _ x1 ⟨rfl,h1⟩
 refine⟨.inr h1,?_⟩
 simp (disch:=first|omega|assumption|rfl) only[go_sem]
 refine Fn.mono (rowU_ok x1 _ _ _ _ (a2.ext (hE1.trans h1)) (b2.ext (hE1.trans h1)) hoa.nu hob.nu) ?_
 rintro _ x2 ⟨rfl,h2⟩
 refine⟨.inr h2,?_⟩
 simp (disch:=first|omega|assumption|rfl) only[go_sem]
 refine Fn.mono (rowT_ok x2 _ _ _ _ (a3.ext ((hE1.trans h1).trans h2)) (b3.ext ((hE1.trans h1).trans h2)) hoa.nt hob.nt) ?_
 rintro _ x3 ⟨rfl,h3⟩
 refine⟨.inr h3,?_⟩
 have hE3:=((hE1.trans h1).trans h2).trans h3
 simp (disch:=first|omega|assumption|rfl) only[go_sem]
 refine Fn.mono (zhE x3 _ _ _ _ (a4.ext hE3) (b4.ext hE3)) ?_
 rintro _ x0 ⟨rfl,h0⟩
 replace h0:=h0.symm
 subst h0
 refine⟨.inr (Keep.refl _ _),?_⟩
 simp (disch:=first|omega|assumption|rfl) only[go_sem]
 refine zbT (z:=vi 0) (l:=[vi (cmpI a.ty b.ty),vi (lexC zci a.names b.names),vi (lexC cmpI a.nums b.nums),vi (lexC cmpL a.texts b.texts),vi (cmpL a.raw b.raw)]) rfl rfl rfl rfl rfl rfl (fun v hv=>by simp at hv;rcases hv with rfl|rfl|rfl|rfl|rfl<;>rfl) (by simp) ?_
 intro x4 h4 hs4 ho4
 refine⟨.inr h4,?_⟩
 simp (disch:=first|omega|assumption|rfl) only[go_sem]
 refine Fn.mono (Or_ok x4 _ [cmpI a.ty b.ty,lexC zci a.names b.names,lexC cmpI a.nums b.nums,lexC cmpL a.texts b.texts,cmpL a.raw b.raw] ho4.row (by simp)) ?_
 rintro _ x0 ⟨rfl,h0⟩
 replace h0:=h0.symm
 subst h0
 refine⟨.inr (Keep.refl _ _),?_⟩
 simp (disch:=first|omega|assumption|rfl) only[go_sem]
 refine hK _ _ ?_;clear hK hgd;clear K;try clear gd
 repeat refine c_r ?_
 refine rt0 Tryz.ntmps263 ?_
 exact⟨rfl,hE3.trans h4⟩
theorem zdU(w:World)(ca cb:List Value)(a b:RecL)(ha:RecAt w ca a)(hb:RecAt w cb b)(hoa:zcw a)(hob:zcw b):
  Fn Tryz.prog 215 #[.agg ca.toArray,.agg cb.toArray] w (fun v w'=>v=vi (zaJ a b)∧Ext w w'):=by
 obtain⟨ow,ds,rfl,a1,a2⟩:=ha.ex
 obtain⟨ow2,ds2,rfl,b1,b2⟩:=hb.ex
 have a2':=a2
 have b2':=b2
 obtain⟨nm,nu,tx,rw',rfl,_⟩:=a2.ex
 obtain⟨nm2,nu2,tx2,rw2,rfl,_⟩:=b2.ex
 refine enter Tryz.func215 Tryz.ntmps215 rfl rfl ?_
 repeat refine c_r ?_
 refine rg0 ?_
 repeat refine c_r ?_
 have k1:=zam w (.cells #[ow,v32 a.ttl,vi a.dat.ty,nm,nu,tx,rw'] 201 (0,0))
 have kE:=(Ext.alloc w (.cells #[ow,v32 a.ttl,vi a.dat.ty,nm,nu,tx,rw'] 201 (0,0))).trans (Ext.alloc _ (.cells #[ow2,v32 b.ttl,vi b.dat.ty,nm2,nu2,tx2,rw2] 201 (0,0)))
 have k2:=zam (w.alloc (.cells #[ow,v32 a.ttl,vi a.dat.ty,nm,nu,tx,rw'] 201 (0,0))) (.cells #[ow2,v32 b.ttl,vi b.dat.ty,nm2,nu2,tx2,rw2] 201 (0,0))
 have k1':=(RowKit.Below.heap_alloc _ (.cells #[ow2,v32 b.ttl,vi b.dat.ty,nm2,nu2,tx2,rw2] 201 (0,0)) _ (by simp)).trans k1
 rw[zap]at k2 ⊢
 clear k1
 revert k1' kE k2
 generalize (w.alloc (.cells #[ow,v32 a.ttl,vi a.dat.ty,nm,nu,tx,rw'] 201 (0,0))).alloc (.cells #[ow2,v32 b.ttl,vi b.dat.ty,nm2,nu2,tx2,rw2] 201 (0,0))=w1
 intro kE k2 k1
 refine zaL (fun _=>false) [(0,true),(1,true),(2,true),(3,true),(5,true),(6,true),(7,true),(8,true),(9,true),(10,true),(12,true),(13,true),(14,true),(15,true),(4,false),(11,false),(16,false),(17,false),(18,false),(19,true)] NoS mixed (by kernel_rfl) ?_;intro gd K x hgd hx hxe hK;clear hxe
 have hE1:=kE.trans hx
 have K1:=(hx.block _ (Array.getElem?_eq_some_iff.1 k1).1 (fun h=>h)).trans k1
 have K2:=(hx.block _ (Array.getElem?_eq_some_iff.1 k2).1 (fun h=>h)).trans k2
 have p0:zah x (some ⟨w.heap.size,0,Option.none⟩)=some ow:=zac K1 rfl
 have p2:zah x (some ⟨w.heap.size,2,Option.none⟩)=some (vi a.dat.ty):=zac K1 rfl
 have p5:zaw x (some ⟨w.heap.size,2,Option.none⟩) 5=some [vi a.dat.ty,nm,nu,tx,rw']:=zaE K1 (Nat.le_refl 7)
 have q0:zah x (some ⟨w.heap.size+1,0,Option.none⟩)=some ow2:=zac K2 rfl
 have q2:zah x (some ⟨w.heap.size+1,2,Option.none⟩)=some (vi b.dat.ty):=zac K2 rfl
 have q5:zaw x (some ⟨w.heap.size+1,2,Option.none⟩) 5=some [vi b.dat.ty,nm2,nu2,tx2,rw2]:=zaE K2 (Nat.le_refl 7)
 simp (disch:=first|omega|assumption|rfl) only[go_sem,p0,p2,p5,q0,q2,q5,Nat.add_zero]
 refine Fn.mono (zcL x _ _ _ _ (a1.ext hE1) (b1.ext hE1) hoa.lb hob.lb (by have:=hoa.len;omega) (by have:=hob.len;omega)) ?_
 rintro _ x1 ⟨rfl,h1⟩
 refine⟨.inr h1,?_⟩
 simp (disch:=first|omega|assumption|rfl) only[go_sem]
 refine Fn.mono (N_int.Compare_ok x1 _ _) ?_
 rintro _ x0 ⟨rfl,h0⟩
 replace h0:=h0.symm
 subst h0
 refine⟨.inr (Keep.refl _ _),?_⟩
 simp (disch:=first|omega|assumption|rfl) only[go_sem]
 refine Fn.mono (zhC x1 _ _ a.dat b.dat (a2'.ext (hE1.trans h1)) (b2'.ext (hE1.trans h1)) hoa.dat hob.dat) ?_
 rintro _ x2 ⟨rfl,h2⟩
 refine⟨.inr h2,?_⟩
 simp (disch:=first|omega|assumption|rfl) only[go_sem]
 refine zbT (z:=vi 0) (l:=[vi (cmpN (zag a.owner) (zag b.owner)),vi (cmpI a.dat.ty b.dat.ty),vi (cmpD a.dat b.dat)]) rfl rfl rfl rfl rfl rfl (fun v hv=>by simp at hv;rcases hv with rfl|rfl|rfl<;>rfl) (by simp) ?_
 intro x4 h4 hs4 ho4
 refine⟨.inr h4,?_⟩
 simp (disch:=first|omega|assumption|rfl) only[go_sem]
 refine Fn.mono (Or_ok x4 _ [cmpN (zag a.owner) (zag b.owner),cmpI a.dat.ty b.dat.ty,cmpD a.dat b.dat] ho4.row (by simp)) ?_
 rintro _ x0 ⟨rfl,h0⟩
 replace h0:=h0.symm
 subst h0
 refine⟨.inr (Keep.refl _ _),?_⟩
 simp (disch:=first|omega|assumption|rfl) only[go_sem]
 refine hK _ _ ?_;clear hK hgd;clear K;try clear gd
 repeat refine c_r ?_
 refine rt0 Tryz.ntmps215 ?_
 exact⟨rfl,((hE1.trans h1).trans h2).trans h4⟩
structure OwnK(k B:Nat)(w:World)(e:TypeId)(v:Value)(L:List (List Value)):Prop where
 own:w.ownsRow B e k v L.length L.flatten
 len:∀x∈L,x.length=k
 ones:∀x∈L,∀v∈x,one v=true
section
variable {P : Program} {d : Option Tmp} {ty : TypeId} {ps : String} {af : Array Edge} {g : Option (Nat × Bool)} {ρ : Operand → Value} {w : World} {K : Value → World → Prop}
theorem OwnK.nil(k B:Nat)(w:World)(e:TypeId):OwnK k B w e (.slice Option.none 0 0) []:=⟨⟨by simp,.inl ⟨rfl,rfl⟩⟩,fun x h=>(by cases h),fun x h=>(by cases h)⟩
theorem OwnK.ge{k B:Nat}{e:TypeId}{v:Value}{L:List (List Value)}(h:OwnK k B w e v L){b:Nat}(hb:some b=v.ownBlock):B≤b∧b<w.heap.size:=by
 rcases h.own.2 with ⟨rfl,_⟩| ⟨g,cap,cur,rfl,hg,hc,_⟩
 ·cases hb
 ·cases hb;exact⟨hg,(Array.getElem?_eq_some_iff.1 hc).1⟩
theorem OwnK.keep{k B:Nat}{e:TypeId}{v:Value}{L:List (List Value)}{x:World}{S:Nat→Prop}(h:OwnK k B w e v L)(hk:Keep S w x)(hS:∀b,some b=v.ownBlock→¬S b):OwnK k B x e v L:=by
 obtain⟨⟨h1,h2⟩,h3,h4⟩:=h
 refine⟨⟨h1,?_⟩,h3,h4⟩
 rcases h2 with h2| ⟨g,cap,cur,hv,hb,hg,rest⟩
 ·exact .inl h2
 ·exact .inr ⟨g,cap,cur,hv,hb,(hk.block _ (Array.getElem?_eq_some_iff.1 hg).1 (hS _ (by rw[hv];rfl))).trans hg,rest⟩
theorem OwnK.ext{k B:Nat}{e:TypeId}{v:Value}{L:List (List Value)}{x:World}(h:OwnK k B w e v L)(hk:Ext w x):OwnK k B x e v L:=h.keep hk (fun _ _ h=>h)
theorem OwnK.mono{k B B':Nat}{e:TypeId}{v:Value}{L:List (List Value)}(h:OwnK k B w e v L)(hB:B'≤B):OwnK k B' w e v L:=by
 obtain⟨⟨h1,h2⟩,h3,h4⟩:=h
 refine⟨⟨h1,?_⟩,h3,h4⟩
 rcases h2 with h2| ⟨g,cap,cur,hv,hb,rest⟩
 ·exact .inl h2
 ·exact .inr ⟨g,cap,cur,hv,by omega,rest⟩
theorem OwnK.cases{k B:Nat}{e:TypeId}{v:Value}{L:List (List Value)}(h:OwnK k B w e v L):
  (v= .slice Option.none 0 0∧L=[])∨∃b cap,v= .slice (some ⟨b,0,Option.none⟩) L.length cap∧B≤b∧L.length≤cap∧cap≤maxLen∧SD k w b e cap L:=by
 obtain⟨⟨h1,h2⟩,h3,h4⟩:=h
 rcases h2 with ⟨rfl,h0⟩| ⟨g,cap,cur,rfl,hg,hb,hn,hm,hcs,hx⟩
 ·exact .inl ⟨rfl,List.length_eq_zero_iff.1 h0⟩
 ·refine .inr ⟨g,cap,rfl,hg,hn,hm,⟨cur,cur.toList.drop (L.length*k),hb,?_,hcs⟩,h3,h4⟩
  rw[←hx,List.take_append_drop]
theorem OwnK.of_sd{k B b cap:Nat}{e:TypeId}{L:List (List Value)}(h:SD k w b e cap L)(hB:B≤b)(hc:L.length≤cap)(hm:cap≤maxLen):OwnK k B w e (.slice (some ⟨b,0,Option.none⟩) L.length cap) L:=by
 obtain⟨cur,R,hb,e1,e2⟩:=h.lies
 refine⟨⟨zbt h.len,.inr ⟨b,cap,cur,rfl,hB,hb,hc,hm,e2,?_⟩⟩,h.len,h.ones⟩
 rw[e1,List.take_left' (zbt h.len)]
theorem OwnK.rowK{k B:Nat}{e:TypeId}{v:Value}{L:List (List Value)}(h:OwnK k B w e v L):RowK k w v L:=by
 rcases h.cases with ⟨rfl,rfl⟩| ⟨b,cap,rfl,_,hc,_,hD⟩
 ·exact⟨Option.none,0,rfl,Nat.le_refl _,fun j h=>by simp at h⟩
 ·exact⟨_,cap,rfl,hc,fun j hj=>by rw[zaU,Nat.zero_add];exact hD.get hj⟩
theorem Src1.of_rowK{k:Nat}{u:Value}{L:List (List Value)}(h:RowK k w u L)(hk:∀x∈L,x.length=k):Src1 w u L.length k L.flatten:=by
 obtain⟨a,c,rfl,hc,hl⟩:=h
 refine⟨a,c,rfl,zbt hk,fun j hj=>?_⟩
 rw[zbt hk]at hj
 have hk0:0<k:=Nat.pos_of_ne_zero (fun h=>by subst h;simp at hj)
 have hq:j / k<L.length:=Nat.div_lt_of_lt_mul (by rw[Nat.mul_comm];exact hj)
 obtain⟨e1,e2⟩:=zfU hk hq
 have hlen:=hk L[j / k] (List.getElem_mem hq)
 have hr:j % k<L[j / k].length:=by rw[hlen];exact Nat.mod_lt _ hk0
 have hg:=zdh (hl (j / k) hq) hr
 have hj2:j / k*k+j % k=j:=by rw[Nat.mul_comm];exact Nat.div_add_mod j k
 rw[zf3,hj2]at hg
 rw[hg]
 have:L.flatten[j]? =some L[j / k][j % k]:=by
  rw[e1,List.append_assoc,List.getElem?_append_right (by rw[e2];omega),List.getElem?_append_left (by rw[e2];omega),e2]
  rw[show j - j / k*k=j % k from by omega]
  exact List.getElem?_eq_getElem hr
 rw[List.getElem?_eq_getElem (by rw[zbt hk];exact hj)]at this
 exact this.symm
theorem zeQ{k B:Nat}{s x:Operand}{t e:TypeId}{inf:TypeInfo}{z:Value}{bytes:Nat}{v u:Value}{L N:List (List Value)}(hown:OwnK k B w e v L)(hrow:RowK k w u N)
  (ht:tyU P t=some (.slice e)) (hi:P.info? e=some inf) (hz:inf.zero=some z)
  (hsize:inf.size=k) (hby:inf.bytes=bytes) (hzs:z.cells.size=k) (hk0:0<k) (hv:ρ s=v) (hu:ρ x=u)
  (hl:∀x∈N,x.length=k) (h1:∀x∈N,∀q∈x,one q=true) (hlen:L.length+N.length≤100000000000) (hbytes:bytes≤1000) (hB:B≤w.heap.size)
  (h:∀v' w',OwnK k B w' e v' (L++N)→(∀w0,Ext w0 w→w0.heap.size≤B→Ext w0 w')→Keep (fun b=>some b=v.ownBlock) w w'→(∀b,some b=v'.ownBlock→some b=v.ownBlock∨w.heap.size≤b)→(v'= .slice Option.none 0 0→v= .slice Option.none 0 0)→K v' w'):
  opW P ⟨d,.call ⟨.builtin .append,#[s,x],#[t,t]⟩,ty,ps,af,g⟩ ρ w K:=by
 refine zcS (B:=B) (m:=N.length) (xs:=L.flatten) (news:=N.flatten) (n:=L.length) ht hi hz hsize hby hzs hk0 hv hu hown.own (Src1.of_rowK hrow hl) ?_ (by simp[maxLen];omega) ?_ hB ?_
 ·intro q hq
  obtain⟨y,hy,hq⟩:=List.mem_flatten.1 hq
  exact h1 y hy q hq
 ·have:(L.length+N.length)*bytes≤100000000000*1000:=Nat.mul_le_mul hlen hbytes
  omega
 ·intro v' w' ho hk hw
  refine h v' w' ⟨by simpa using ho,?_,?_⟩ (fun w0 hE hB0=>?_) hk hw.2 (fun hv'=>(hw.1.1 hv').1)
  ·intro y hy
   rcases List.mem_append.1 hy with hy|hy
   ·exact hown.len y hy
   ·exact hl y hy
  ·intro y hy
   rcases List.mem_append.1 hy with hy|hy
   ·exact hown.ones y hy
   ·exact h1 y hy
  ·exact Keep.to_ext hE rfl (fun b hb=>by have:=(hown.ge hb).1;omega) hk
theorem zhv{k:Nat}{t e:TypeId}{z:Value}(hu:tyU P t=some (.slice e))(hz:tyZ P e=some z)(hs:tyS P e=k)(hz1:z.cells.size=k)
  (h:∀w1,Ext w w1→w1.heap.size=w.heap.size+1→OwnK k w.heap.size w1 e (.slice (some ⟨w.heap.size,0,Option.none⟩) 0 0) []→K (.slice (some ⟨w.heap.size,0,Option.none⟩) 0 0) w1):bsL P t 0 [] w K .mk:=by
 unfold bsL bsK
 have:bsC P t 0 []=some (e,#[]):=by simp[bsC,hu,hz,hs,hz1,Instr.fill]
 rw[this]
 exact h _ (Ext.alloc w _) (zap w _) ⟨⟨by simp,.inr ⟨w.heap.size,0,#[],rfl,Nat.le_refl _,zam w _,Nat.le_refl _,by decide,by simp,by simp⟩⟩,fun x h=>(by cases h),fun x h=>(by cases h)⟩
theorem zgd:∀(l:List Value) (n:Nat) (cells:Array Value),n+l.length≤cells.size→((l.zipIdx n).foldl (fun cs (x:Value×Nat)=>cs.setIfInBounds (0+x.2) x.1) cells).toList=cells.toList.take n++l++cells.toList.drop (n+l.length)
 | [],n,cells,_=>by simp
 |v::l,n,cells,h=>by
  simp only[List.length_cons]at h
  rw[List.zipIdx_cons,List.foldl_cons,zgd l (n+1) _ (by simp;omega)]
  rw[Nat.zero_add,Array.toList_setIfInBounds,List.take_set,List.drop_set_of_lt (by omega)]
  have hlt:n<cells.toList.length:=by simp;omega
  rw[zak hlt]
  have e1:(cells.toList.take n).length=n:=by rw[List.length_take];omega
  rw[List.set_append_right _ _ (by omega),e1,Nat.sub_self,List.set_cons_zero]
  simp[Nat.add_assoc,Nat.add_comm 1]
theorem fill_agg{l:List Value}{k:Nat}{cells:Array Value}(hl:l.length=k)(hc:cells.size=k):
  ∃r,Instr.fill (fun i=>some (i*k,k)) cells [(0,.agg l.toArray)]=some r∧r.toList=l:=by
 refine⟨(l.zipIdx 0).foldl (fun cs (x:Value×Nat)=>cs.setIfInBounds (0+x.2) x.1) cells,?_,?_⟩
 ·unfold Instr.fill
  have hcl:(Value.agg l.toArray).cells=l.toArray:=rfl
  have c1:(decide (l.toArray.size≠k)||decide (0*k+l.toArray.size>cells.size))=false:=by simp[hl,hc]
  simp only[hcl]
  rw[if_neg (by rw[c1];exact Bool.false_ne_true)]
  show some _=some _
  congr 1
  rw[Nat.zero_mul]
  simp[Array.foldl_toList,←Array.foldl_toList]
 ·rw[zgd l 0 cells (by omega)]
  simp[hl,hc]
theorem zhu{k:Nat}{t e:TypeId}{z:Value}{l:List Value}(hu:tyU P t=some (.slice e))(hz:tyZ P e=some z)(hs:tyS P e=k)(hz1:z.cells.size=k)(hl:l.length=k)(hk:k≤1000)(h1:∀q∈l,one q=true)
  (h:∀w1,Ext w w1→w1.heap.size=w.heap.size+1→OwnK k w.heap.size w1 e (.slice (some ⟨w.heap.size,0,Option.none⟩) 1 1) [l]→K (.slice (some ⟨w.heap.size,0,Option.none⟩) 1 1) w1):bsL P t 1 [(0,.agg l.toArray)] w K .mk:=by
 unfold bsL bsK
 obtain⟨r,hr1,hr2⟩:=fill_agg (cells:=(Array.range (1*k)).map (z.cells[· % z.cells.size]!)) hl (by simp)
 have:bsC P t 1 [(0,.agg l.toArray)]=some (e,r):=by
  unfold bsC
  rw[hu]
  simp only[hz,hs]
  have c1:(decide (1*k≤2 ^ 24) && decide (z.cells.size=k))=true:=by rw[hz1];simp;omega
  rw[c1,cond_true,hr1];rfl
 rw[this]
 have hsz:r.size=k:=by rw[←hl,←hr2];simp
 exact h _ (Ext.alloc w _) (zap w _) ⟨⟨by simp[hl],.inr ⟨w.heap.size,1,r,rfl,Nat.le_refl _,zam w _,Nat.le_refl _,by decide,by simpa using hsz,by rw[hr2];simp[←hl]⟩⟩,fun x h=>(by rw[List.mem_singleton.1 h];exact hl),fun x h=>(by rw[List.mem_singleton.1 h];exact h1)⟩
theorem zhM{fn:Func}{n:Nat}{σ:Sto}{R:Value→World→Prop}{e:Exit}(he:e= .normal∨e= .ret){t:Tmp}{tt:TypeId}{x:Addr}{l:List Value}(hl:fn.results.toList=[.cell t tt])(hm:fn.ntmps=n)(hv:ev n σ (.tmp t)= .pointer (some x))
  (hA:tyA P tt=true) {k:Nat} (hk:tyS P tt=k) (hc:zaw w (some x) k=some l) (h:R (.agg l.toArray) w):retQ P fn R e σ [] w:=by
 subst hm hk
 refine zdE he hl (rs:=[.agg l.toArray]) ?_ h
 unfold resV
 rw[show (if t<fn.ntmps then σ t else undef)= .pointer (some x) from hv]
 have:ldV P w tt x=some (.agg l.toArray):=by
  unfold ldV
  rw[hA,cond_true,show zaN w x 0 (tyS P tt)=some l from hc];rfl
 simp only[this,resV]
theorem zc2(w:World)(A B:Obj):Ext w ((w.alloc A).alloc B)∧((w.alloc A).alloc B).heap.size=w.heap.size+2∧((w.alloc A).alloc B).heap[w.heap.size]? =some A∧((w.alloc A).alloc B).heap[w.heap.size+1]? =some B:=by
 have s1:=zap w A
 have s2:=zap (w.alloc A) B
 have b1:=zam w A
 have b2:=zam (w.alloc A) B
 rw[s1]at s2 b2
 exact⟨(Ext.alloc w A).trans (Ext.alloc _ B),s2,(RowKit.Below.heap_alloc _ B _ (by rw[s1];omega)).trans b1,b2⟩
theorem zff(w:World)(A B C:Obj):Ext w (((w.alloc A).alloc B).alloc C)∧(((w.alloc A).alloc B).alloc C).heap.size=w.heap.size+3∧(((w.alloc A).alloc B).alloc C).heap[w.heap.size]? =some A∧(((w.alloc A).alloc B).alloc C).heap[w.heap.size+1]? =some B∧(((w.alloc A).alloc B).alloc C).heap[w.heap.size+2]? =some C:=by
 obtain⟨h1,h2,h3,h4⟩:=zc2 w A B
 have s3:=zap ((w.alloc A).alloc B) C
 have b3:=zam ((w.alloc A).alloc B) C
 rw[h2]at s3 b3
 exact⟨h1.trans (Ext.alloc _ C),s3,(RowKit.Below.heap_alloc _ C _ (by rw[h2];omega)).trans h3,(RowKit.Below.heap_alloc _ C _ (by rw[h2];omega)).trans h4,b3⟩
theorem eqIn_sl{t e:TypeId}(h:P.underlying t=some (.slice e))(n:Nat)(a:Option Addr)(l c:Nat):
  (Op.equalIn (n+1) t (.slice a l c) (.slice Option.none 0 0)).run P w= .ok a.isNone w:=by
 cases a<;>simp[Op.equalIn,underlying,program,Sem.run,h]
theorem zhk{t e yt:TypeId}{x y:Operand}{a:Option Addr}{n c:Nat}(ht:tyU P t=some (.slice e))(hx:ρ x= .slice a n c)(hy:ρ y= .slice Option.none 0 0)(h:K (.bool a.isNone) w):
  opW P ⟨d,.binOp .eql t x y yt,ty,ps,af,g⟩ ρ w K:=by
 have h2:(Op.equal t (.slice a n c) (.slice Option.none 0 0)).run P w= .ok a.isNone w:=eqIn_sl (show P.underlying t=_ from ht) 9999 a n c
 have hr:(do eqGuard .eql t x y (.slice a n c) (.slice Option.none 0 0);binOp .eql t (.slice a n c) (.slice Option.none 0 0):Sem Value).run P w= .ok (.bool a.isNone) w:=by
  simp[eqGuard,binOp,h2]
 have:=zaK (P:=P) (K:=K) hr h
 rw[←hx,←hy]at this
 exact this
end
def minT(a b:RecL):RecL:={a with ttl:=min a.ttl b.ttl}
theorem zhA(w:World)(ca cb:List Value)(a b:RecL)(ha:RecAt w ca a)(hb:RecAt w cb b):
  Fn Tryz.prog 216 #[.agg ca.toArray,.agg cb.toArray] w (fun v w'=>v= .agg (ca.set 1 (v32 (min a.ttl b.ttl))).toArray∧Ext w w'):=by
 obtain⟨ow,ds,rfl,a1,a2⟩:=ha.ex
 obtain⟨ow2,ds2,rfl,b1,b2⟩:=hb.ex
 have a2':=a2
 obtain⟨nm,nu,tx,rw',rfl,n1,n2,n3,n4⟩:=a2.ex
 obtain⟨nm2,nu2,tx2,rw2,rfl,_⟩:=b2.ex
 refine enter Tryz.func216 Tryz.ntmps216 rfl rfl ?_
 repeat refine c_r ?_
 refine rg0 ?_
 repeat refine c_r ?_
 have hal:=zff w (.cells #[ow,v32 a.ttl,vi a.dat.ty,nm,nu,tx,rw'] 201 (0,0)) (.cells #[ow2,v32 b.ttl,vi b.dat.ty,nm2,nu2,tx2,rw2] 201 (0,0)) (.cells #[.slice Option.none 0 0,v32 0,vi 0,.slice Option.none 0 0,.slice Option.none 0 0,.slice Option.none 0 0,.slice Option.none 0 0] 201 (0,0))
 rw[show (w.alloc (.cells #[ow,v32 a.ttl,vi a.dat.ty,nm,nu,tx,rw'] 201 (0,0))).heap.size=w.heap.size+1 from zap _ _,show((w.alloc (.cells #[ow,v32 a.ttl,vi a.dat.ty,nm,nu,tx,rw'] 201 (0,0))).alloc (.cells #[ow2,v32 b.ttl,vi b.dat.ty,nm2,nu2,tx2,rw2] 201 (0,0))).heap.size=w.heap.size+2 from(zc2 w _ _).2.1]
 revert hal
 generalize ((w.alloc (.cells #[ow,v32 a.ttl,vi a.dat.ty,nm,nu,tx,rw'] 201 (0,0))).alloc (.cells #[ow2,v32 b.ttl,vi b.dat.ty,nm2,nu2,tx2,rw2] 201 (0,0))).alloc (.cells #[.slice Option.none 0 0,v32 0,vi 0,.slice Option.none 0 0,.slice Option.none 0 0,.slice Option.none 0 0,.slice Option.none 0 0] 201 (0,0))=w1
 rintro⟨hE,hs,hA,hB,hC⟩
 have p1:zah w1 (some ⟨w.heap.size,1,Option.none⟩)=some (v32 a.ttl):=zac hA rfl
 have q1:zah w1 (some ⟨w.heap.size+1,1,Option.none⟩)=some (v32 b.ttl):=zac hB rfl
 refine rq ?_;intro gd K hgd hK
 try simp (disch:=first|omega|assumption|rfl) only[go_sem,p1,q1,Nat.add_zero]
 refine op_min (by rfl) (by rfl) ?_
 try simp only[go_sem]
 refine zbj rfl rfl rfl hA (by simp) (by simp) ?_
 intro w2 hs2 hb2 hk2
 try simp only[go_sem]
 refine hK _ _ ?_;clear hK hgd;clear K;try clear gd
 repeat refine c_r ?_
 have hE2:Ext w w2:=Keep.to_ext hE rfl (fun i hi=>by omega) hk2
 have r7:zaw w2 (some ⟨w.heap.size,0,Option.none⟩) 7=some [ow,v32 (min a.ttl b.ttl),vi a.dat.ty,nm,nu,tx,rw']:=zaE hb2 (Nat.le_refl 7)
 have hC2:=(hk2.block _ (Array.getElem?_eq_some_iff.1 hC).1 (by omega)).trans hC
 refine rq ?_;intro gd K hgd hK
 try simp (disch:=first|omega|assumption|rfl) only[go_sem,r7]
 have hSD:SD 7 w2 (w.heap.size+2) 201 1 [[.slice Option.none 0 0,v32 0,vi 0,.slice Option.none 0 0,.slice Option.none 0 0,.slice Option.none 0 0,.slice Option.none 0 0]]:=
  ⟨⟨_,[],hC2,rfl,rfl⟩,fun x h=>(by rw[List.mem_singleton.1 h];rfl),fun x h v hv=>(by rw[List.mem_singleton.1 h]at hv;simp at hv;rcases hv with rfl|rfl|rfl|rfl<;>rfl)⟩
 have hone:∀q∈ [ow,v32 (min a.ttl b.ttl),vi a.dat.ty,nm,nu,tx,rw'],one q=true:=by
  obtain⟨o1,o2,rfl,_⟩:=a1
  obtain⟨_,⟨o3,o4,rfl,_⟩,_⟩:=n1
  obtain⟨o5,o6,rfl,_⟩:=n2
  obtain⟨o7,o8,rfl,_⟩:=n3
  obtain⟨o9,o10,rfl,_⟩:=n4
  intro q hq
  simp at hq
  rcases hq with rfl|rfl|rfl|rfl|rfl|rfl|rfl<;>rfl
 refine SD.set (P:=Tryz.prog) (t:=201) hSD (j:=0) (by simp) (x:=[ow,v32 (min a.ttl b.ttl),vi a.dat.ty,nm,nu,tx,rw']) rfl hone rfl rfl ?_
 intro w3 hs3 hL3 hk3
 try simp only[go_sem]
 refine hK _ _ ?_;clear hK hgd;clear K;try clear gd
 repeat refine c_r ?_
 have hE3:Ext w w3:=Keep.to_ext hE2 rfl (fun i hi=>by omega) hk3
 have r9:=hL3.get (j:=0) (by simp)
 refine zhM (by simp) rfl Tryz.ntmps216 (vq0) rfl rfl r9 ?_
 exact⟨rfl,hE3⟩
theorem RecAt.minT{w:World}{ca:List Value}{a b:RecL}(h:RecAt w ca a):RecAt w (ca.set 1 (v32 (min a.ttl b.ttl))) (minT a b):=by
 obtain⟨ow,ds,rfl,h1,h2⟩:=h.ex
 exact⟨ow,ds,rfl,h1,h2⟩
section
variable {α : Type}
theorem zji(A B:List α)(x y:α):(A++x::B).set A.length y=A++y::B:=by
 rw[List.set_append_right _ _ (Nat.le_refl _),Nat.sub_self,List.set_cons_zero]
theorem zba(A B:List α)(x:α):(A++x::B)[A.length]? =some x:=by simp
theorem zcz(A M B:List α)(x y:α){i j:Nat}(hi:i=A.length)(hj:j=A.length+1+M.length):((A++x::M++y::B).set i y).set j x=A++y::M++x::B:=by
 subst hi hj
 have e1:(A++x::M++y::B).set A.length y=A++y::M++y::B:=by
  have:=zji A (M++y::B) x y
  simpa using this
 rw[e1]
 have:=zji (A++y::M) B y x
 rwa [show (A++y::M).length=A.length+1+M.length from by simp;omega]at this
def zbw(A X M Y B:List α)(i:Nat):List α:=A++(Y.take i++X.drop i)++M++(X.take i++Y.drop i)++B
theorem zeB{A X M Y B:List α}{i:Nat}(hX:i<X.length)(hY:i<Y.length):
  ((zbw A X M Y B i).set (A.length+i) Y[i]).set (A.length+X.length+M.length+i) X[i]=zbw A X M Y B (i+1)∧
  (zbw A X M Y B i)[A.length+i]? =some X[i]∧(zbw A X M Y B i)[A.length+X.length+M.length+i]? =some Y[i]:=by
 have e0:zbw A X M Y B i=(A++Y.take i)++X[i]::(X.drop (i+1)++M++X.take i)++Y[i]::(Y.drop (i+1)++B):=by
  unfold zbw
  rw[List.drop_eq_getElem_cons hX,List.drop_eq_getElem_cons hY]
  simp only[List.append_assoc,List.cons_append]
 have l1:(A++Y.take i).length=A.length+i:=by simp;omega
 have l2:(X.drop (i+1)++M++X.take i).length=X.length - (i+1)+M.length+i:=by simp;omega
 refine⟨?_,?_,?_⟩
 ·rw[e0,zcz (A++Y.take i) _ _ X[i] Y[i] (by omega) (by omega)]
  unfold zbw
  rw[zak hX,zak hY]
  simp only[List.append_assoc,List.cons_append,List.nil_append]
 ·rw[e0,←l1,List.append_assoc]
  have:=zba (A++Y.take i) (X.drop (i+1)++M++X.take i++Y[i]::(Y.drop (i+1)++B)) X[i]
  simpa using this
 ·rw[e0]
  have:=zba (A++Y.take i++X[i]::(X.drop (i+1)++M++X.take i)) (Y.drop (i+1)++B) Y[i]
  rw[show (A++Y.take i++X[i]::(X.drop (i+1)++M++X.take i)).length=A.length+X.length+M.length+i from by rw[List.length_append,List.length_cons,l1,l2];omega]at this
  exact this
theorem zft{A X M Y B:List α}{n:Nat}(hX:X.length=n)(hY:Y.length=n):zbw A X M Y B n=A++Y++M++X++B:=by
 unfold zbw
 rw[List.take_of_length_le (by omega),List.take_of_length_le (by omega),List.drop_of_length_le (by omega),List.drop_of_length_le (by omega)]
 simp
theorem zeb(A X M Y B:List α):zbw A X M Y B 0=A++X++M++Y++B:=by simp[zbw]
theorem zfs{A X M Y B:List α}{i:Nat}(hi:i≤X.length)(h:X.length=Y.length):(zbw A X M Y B i).length=(A++X++M++Y++B).length:=by
 simp[zbw];omega
end
structure zdp{α:Type}(cf:α→α→Int)(lt older:α→α→Prop):Prop where
 trans:∀{a b c},lt a b→lt b c→lt a c
 less:∀{x y},older x y→cf y x<0→lt y x
 more:∀{x y},older x y→¬cf y x<0→lt x y
section
variable {α : Type} {lt : α → α → Prop}
theorem zhQ{l:List α}(h:l.Pairwise lt){i j:Nat}{x y:α}(hx:l[i]? =some x)(hy:l[j]? =some y)(hij:i<j):lt x y:=by
 obtain⟨h1,rfl⟩:=List.getElem?_eq_some_iff.1 hx
 obtain⟨h2,rfl⟩:=List.getElem?_eq_some_iff.1 hy
 exact List.pairwise_iff_getElem.1 h i j h1 h2 hij
structure Cut(lt:α→α→Prop)(x:α)(Y:List α)(s e:Nat):Prop where
 lo:∀i y,i<s→Y[i]? =some y→lt y x
 hi:∀i y,e≤i→Y[i]? =some y→lt x y
theorem Cut.start(x:α)(Y:List α):Cut lt x Y 0 Y.length:=
 ⟨fun i y h=>absurd h (Nat.not_lt_zero _),fun i y h hy=>by rw[List.getElem?_eq_none h]at hy;cases hy⟩
theorem Cut.up{x:α}{Y:List α}{s e h:Nat}{y:α}(ht:∀{a b c},lt a b→lt b c→lt a c)(hY:Y.Pairwise lt)(hc:Cut lt x Y s e)(hy:Y[h]? =some y)(hl:lt y x):Cut lt x Y (h+1) e:=
 ⟨fun i z hi hz=>by
  by_cases hih:i=h
  ·subst hih;rw[hy]at hz;cases hz;exact hl
  ·exact ht (zhQ hY hz hy (by omega)) hl,hc.hi⟩
theorem Cut.down{x:α}{Y:List α}{s e h:Nat}{y:α}(ht:∀{a b c},lt a b→lt b c→lt a c)(hY:Y.Pairwise lt)(hc:Cut lt x Y s e)(hy:Y[h]? =some y)(hl:lt x y):Cut lt x Y s h:=
 ⟨hc.lo,fun i z hi hz=>by
  by_cases hih:i=h
  ·subst hih;rw[hy]at hz;cases hz;exact hl
  ·exact ht hl (zhQ hY hy hz (by omega))⟩
theorem Cut.sorted{x:α}{Y:List α}{s:Nat}(ht:∀{a b c},lt a b→lt b c→lt a c)(hY:Y.Pairwise lt)(hc:Cut lt x Y s s):(Y.take s++x::Y.drop s).Pairwise lt:=by
 rw[List.pairwise_append]
 have h1:∀y∈Y.take s,lt y x:=fun y hy=>by
  obtain⟨i,hi,rfl⟩:=List.getElem_of_mem hy
  have hi':=hi
  rw[List.length_take]at hi'
  refine hc.lo i _ (by omega) ?_
  rw[List.getElem_take,List.getElem?_eq_getElem]
 have h2:∀y∈Y.drop s,lt x y:=fun y hy=>by
  obtain⟨i,hi,rfl⟩:=List.getElem_of_mem hy
  have hi':=hi
  rw[List.length_drop]at hi'
  refine hc.hi (s+i) _ (by omega) ?_
  rw[List.getElem_drop,List.getElem?_eq_getElem]
 refine⟨hY.sublist (List.take_sublist _ _),List.pairwise_cons.2 ⟨h2,hY.sublist (List.drop_sublist _ _)⟩,fun y hy z hz=>?_⟩
 rcases List.mem_cons.1 hz with rfl|hz
 ·exact h1 y hy
 ·exact ht (h1 y hy) (h2 z hz)
theorem cross{X Y:List α}{s t:Nat}(ht:∀{a b c},lt a b→lt b c→lt a c)(hX:X.Pairwise lt)(hY:Y.Pairwise lt)
  (h:s=0∨t=Y.length∨∃x y,X[s - 1]? =some x∧Y[t]? =some y∧lt x y):∀x∈X.take s,∀y∈Y.drop t,lt x y:=by
 intro x hx y hy
 obtain⟨i,hi,rfl⟩:=List.getElem_of_mem hx
 obtain⟨j,hj,rfl⟩:=List.getElem_of_mem hy
 rw[List.length_take]at hi
 rw[List.length_drop]at hj
 rcases h with h|h| ⟨u,v,hu,hv,huv⟩
 ·omega
 ·omega
 ·rw[List.getElem_take,List.getElem_drop]
  have gx:X[i]? =some X[i]:=List.getElem?_eq_getElem (by omega)
  have gy:Y[t+j]? =some Y[t+j]:=List.getElem?_eq_getElem (by omega)
  have h1:lt X[i] v:=by
   by_cases hi1:i=s - 1
   ·subst hi1;rw[hu]at gx;cases gx;exact huv
   ·exact ht (zhQ hX gx hu (by omega)) huv
  rcases Nat.eq_zero_or_pos j with hj0|hj0
  ·have gv:Y[t+j]? =some v:=by rw[hj0];exact hv
   rw[gy]at gv
   rw[Option.some.inj gv];exact h1
  ·exact ht h1 (zhQ hY hv gy (by omega))
theorem zeF{X1 X2 Y1 Y2 Z1 Z2:List α}(hX:(X1++X2).Pairwise lt)(hY:(Y1++Y2).Pairwise lt)(c1:∀x∈X1,∀y∈Y2,lt x y)(c2:∀y∈Y1,∀x∈X2,lt y x)
  (p1:Z1.Perm (X1++Y1)) (p2:Z2.Perm (X2++Y2)) (s1:Z1.Pairwise lt) (s2:Z2.Pairwise lt):(Z1++Z2).Pairwise lt∧(Z1++Z2).Perm ((X1++X2)++(Y1++Y2)):=by
 rw[List.pairwise_append]at hX hY
 constructor
 ·rw[List.pairwise_append]
  refine⟨s1,s2,fun a ha b hb=>?_⟩
  rcases List.mem_append.1 (p1.mem_iff.1 ha) with ha|ha
  ·rcases List.mem_append.1 (p2.mem_iff.1 hb) with hb|hb
   ·exact hX.2.2 a ha b hb
   ·exact c1 a ha b hb
  ·rcases List.mem_append.1 (p2.mem_iff.1 hb) with hb|hb
   ·exact c2 a ha b hb
   ·exact hY.2.2 a ha b hb
 ·refine(p1.append p2).trans ?_
  rw[List.append_assoc,List.append_assoc]
  refine List.Perm.append_left X1 ?_
  rw[←List.append_assoc,←List.append_assoc]
  exact List.Perm.append_right Y2 List.perm_append_comm
end
structure Cpr{α:Type}(cf:α→α→Int):Prop where
 neg:∀a b,cf b a= - cf a b
 trans:∀{a b c},cf a b<0→cf b c<0→cf a c<0
 eql:∀{a b c},cf a b=0→cf a c=cf b c
section
variable {α β : Type}
theorem Cpr.eqr{cf:α→α→Int}(h:Cpr cf){a b c:α}(e:cf a b=0):cf c a=cf c b:=by
 have h1:=h.neg a c
 have h2:=h.neg b c
 have h3:=h.eql (c:=c) e
 omega
theorem Cpr.map{cf:β→β→Int}(h:Cpr cf)(f:α→β):Cpr (fun a b=>cf (f a) (f b)):=⟨fun a b=>h.neg _ _,fun h1 h2=>h.trans h1 h2,fun e=>h.eql e⟩
theorem Cpr.const:Cpr (fun _ _:α=>0):=⟨fun _ _=>rfl,fun h _=>absurd h (by decide),fun _=>rfl⟩
theorem Cpr.or{c1 c2:α→α→Int}(h1:Cpr c1)(h2:Cpr c2):Cpr (fun a b=>if c1 a b=0 then c2 a b else c1 a b):=by
 refine⟨fun a b=>?_,fun {a b c} g1 g2=>?_,fun {a b c} e=>?_⟩
 ·have n1:=h1.neg a b
  have n2:=h2.neg a b
  (repeat' split)<;>omega
 ·by_cases e1:c1 a b=0
  ·rw[if_pos e1]at g1
   have e3:=h1.eql (c:=c) e1
   by_cases e2:c1 b c=0
   ·rw[if_pos e2]at g2
    rw[if_pos (by omega)]
    exact h2.trans g1 g2
   ·rw[if_neg e2]at g2
    rw[if_neg (by omega)];omega
  ·rw[if_neg e1]at g1
   by_cases e2:c1 b c=0
   ·have e3:=h1.eqr (c:=a) e2
    rw[if_neg (by omega)];omega
   ·rw[if_neg e2]at g2
    have:=h1.trans g1 g2
    rw[if_neg (by omega)];exact this
 ·by_cases e1:c1 a b=0
  ·rw[if_pos e1]at e
   rw[h1.eql (c:=c) e1,h2.eql (c:=c) e]
  ·rw[if_neg e1]at e;exact absurd e e1
theorem zjN{cf:α→α→Int}(h:Cpr cf):∀a b:List α,lexC cf b a= - lexC cf a b
 | [],[]=>rfl
 | [],_::_=>rfl
 |_::_,[]=>rfl
 |x::l,y::m=>by
  simp only[lexC]
  have n1:=h.neg x y
  have n2:=zjN h l m
  split<;>split<;>omega
theorem zgt{cf:α→α→Int}(h:Cpr cf):∀{a b c:List α},lexC cf a b<0→lexC cf b c<0→lexC cf a c<0
 | [],[],_,h1,_=>absurd h1 (by simp[lexC])
 |_,[],[],_,h2=>absurd h2 (by simp[lexC])
 |_,_::_,[],_,h2=>absurd h2 (by simp[lexC])
 |_::_,[],_::_,h1,_=>absurd h1 (by simp[lexC])
 | [],_::_,_::_,_,_=>by simp[lexC]
 |x::l,y::m,z::n,g1,g2=>by
  simp only[lexC]at g1 g2 ⊢
  by_cases e1:cf x y=0
  ·rw[if_pos e1]at g1
   have e3:=h.eql (c:=z) e1
   by_cases e2:cf y z=0
   ·rw[if_pos e2]at g2
    rw[if_pos (by omega)]
    exact zgt h g1 g2
   ·rw[if_neg e2]at g2
    rw[if_neg (by omega)];omega
  ·rw[if_neg e1]at g1
   by_cases e2:cf y z=0
   ·have e3:=h.eqr (c:=x) e2
    rw[if_neg (by omega)];omega
   ·rw[if_neg e2]at g2
    have:=h.trans g1 g2
    rw[if_neg (by omega)];exact this
theorem zjO{cf:α→α→Int}(h:Cpr cf):∀{a b:List α} (c:List α),lexC cf a b=0→lexC cf a c=lexC cf b c
 | [],[],_,_=>rfl
 | [],_::_,_,h1=>absurd h1 (by simp[lexC])
 |_::_,[],_,h1=>absurd h1 (by simp[lexC])
 |_::_,_::_,[],_=>rfl
 |x::l,y::m,z::n,e=>by
  simp only[lexC]at e ⊢
  by_cases e1:cf x y=0
  ·rw[if_pos e1]at e
   rw[h.eql (c:=z) e1,zjO h n e]
  ·rw[if_neg e1]at e;exact absurd e e1
theorem Cpr.lex{cf:α→α→Int}(h:Cpr cf):Cpr (lexC cf):=⟨zjN h,zgt h,fun e=>zjO h _ e⟩
theorem cpr_I:Cpr cmpI:=by
 refine⟨fun a b=>?_,fun {a b c} h1 h2=>?_,fun {a b c} e=>?_⟩
 ·simp only[cmpI];(repeat' split)<;>omega
 ·simp only[cmpI]at*;(repeat' split at h1)<;>(repeat' split at h2)<;>(repeat' split)<;>omega
 ·have:a=b:=by simp only[cmpI]at e;(repeat' split at e)<;>omega
  rw[this]
theorem cpr_N:Cpr cmpN:=⟨fun a b=>zex a b,fun h1 h2=>zdf h1 h2,fun e=>by rw[ze5 e]⟩
theorem cpr_F2:Cpr zci:=cpr_N.map zag
theorem cpr_L:Cpr cmpL:=⟨fun a b=>zbp a b,fun h1 h2=>zcH h1 (by omega),fun e=>by rw[zbz e]⟩
theorem cpr_D:Cpr cmpD:=by
 have h:=(cpr_I.map DatL.ty).or ((cpr_F2.lex.map DatL.names).or ((cpr_I.lex.map DatL.nums).or ((cpr_L.lex.map DatL.texts).or ((cpr_L.map DatL.raw).or Cpr.const))))
 exact h
theorem cpr_R:Cpr zaJ:=by
 have h:=(cpr_F2.map RecL.owner).or ((cpr_I.map fun r:RecL=>r.dat.ty).or ((cpr_D.map RecL.dat).or Cpr.const))
 exact h
end
section
variable {α : Type} (cf : α → α → Int) (jn : α → α → α)
def putC(r:α):List α→List α
 | []=>[r]
 |x::l=>if cf x r<0 then x::putC r l else if cf x r=0 then jn x r::l else r::x::l
variable {cf jn}
structure Join(cf:α→α→Int)(jn:α→α→α):Prop where
 same:∀a b c,cf a b=0→cf (jn a b) c=cf a c
theorem zcC{Q:α→Prop}{r:α}{l:List α}(hj:∀x,Q x→cf x r=0→Q (jn x r))(hr:Q r)(hl:∀x∈l,Q x):∀x∈putC cf jn r l,Q x:=by
 induction l with
 |nil=>intro x hx;rw[List.mem_singleton.1 hx];exact hr
 |cons y l ih=>
  intro x hx
  unfold putC at hx
  split at hx
  ·rcases List.mem_cons.1 hx with rfl|hx
   ·exact hl _ (List.mem_cons_self ..)
   ·exact ih (fun z hz=>hl z (List.mem_cons_of_mem _ hz)) x hx
  ·split at hx
   ·rename_i h0
    rcases List.mem_cons.1 hx with rfl|hx
    ·exact hj y (hl y (List.mem_cons_self ..)) h0
    ·exact hl x (List.mem_cons_of_mem _ hx)
   ·rcases List.mem_cons.1 hx with rfl|hx
    ·exact hr
    ·exact hl x hx
theorem zb4(hc:Cpr cf)(hj:Join cf jn){r:α}:∀{l:List α},l.Pairwise (fun a b=>cf a b<0)→(putC cf jn r l).Pairwise (fun a b=>cf a b<0)
 | [],_=>List.pairwise_singleton _ _
 |y::l,h=>by
  obtain⟨h1,h2⟩:=List.pairwise_cons.1 h
  unfold putC
  split
  ·rename_i hy
   refine List.pairwise_cons.2 ⟨?_,zb4 hc hj h2⟩
   refine zcC (Q:=fun x=>cf y x<0) (fun x hx h0=>?_) hy h1
   have:=hj.same x r y h0
   have n1:=hc.neg y (jn x r)
   have n2:=hc.neg y x
   omega
  ·split
   ·rename_i h0
    refine List.pairwise_cons.2 ⟨fun x hx=>?_,h2⟩
    rw[hj.same y r x h0];exact h1 x hx
   ·rename_i g1 g2
    refine List.pairwise_cons.2 ⟨fun x hx=>?_,h⟩
    have n1:=hc.neg y r
    have hry:cf r y<0:=by omega
    rcases List.mem_cons.1 hx with rfl|hx
    ·exact hry
    ·exact hc.trans hry (h1 x hx)
theorem zgk(hc:Cpr cf)(hj:Join cf jn){a b:α}(hab:cf a b<0):∀(l:List α),l.Pairwise (fun a b=>cf a b<0)→putC cf jn a (putC cf jn b l)=putC cf jn b (putC cf jn a l)
 | [],_=>by
  have n1:=hc.neg a b
  simp only[putC]
  rw[if_neg (by omega),if_neg (by omega),if_pos hab]
 |x::l,h=>by
  obtain⟨h1,h2⟩:=List.pairwise_cons.1 h
  have n1:=hc.neg a b
  have n2:=hc.neg x a
  have n3:=hc.neg x b
  by_cases ea:cf x a<0
  ·have eb:cf x b<0:=hc.trans ea hab
   simp only[putC,if_pos ea,if_pos eb]
   rw[zgk hc hj hab l h2]
  ·by_cases ea0:cf x a=0
   ·have eb:cf x b<0:=by rw[hc.eql (c:=b) ea0];exact hab
    have e2:=hj.same x a b ea0
    have e3:=hj.same x a a ea0
    simp only[putC]
    rw[if_pos eb,if_neg ea,if_pos ea0]
    simp only[putC]
    rw[if_neg ea,if_pos ea0,if_pos (by omega)]
   ·by_cases eb:cf x b<0
    ·simp only[putC]
     rw[if_pos eb,if_neg ea,if_neg ea0]
     simp only[putC]
     rw[if_neg ea,if_neg ea0,if_pos hab,if_pos eb]
    ·by_cases eb0:cf x b=0
     ·have e2:=hj.same x b a eb0
      simp only[putC]
      rw[if_neg eb,if_pos eb0,if_neg ea,if_neg ea0]
      simp only[putC]
      rw[if_neg (by omega),if_neg (by omega),if_pos hab,if_neg eb,if_pos eb0]
     ·simp only[putC]
      rw[if_neg eb,if_neg eb0,if_neg ea,if_neg ea0]
      simp only[putC]
      rw[if_neg (by omega),if_neg (by omega),if_pos hab,if_neg eb,if_neg eb0]
end
section
variable {α β : Type} {cf : α → α → Int} {jn : α → α → α}
def zcb(cf:α→α→Int)(jn:α→α→α)(p:β→α)(l:List β)(acc:List α):List α:=l.foldl (fun acc r=>putC cf jn (p r) acc) acc
theorem zfx(hc:Cpr cf)(hj:Join cf jn){p:β→α}{r:β}{Z2:List β}:∀(Z1:List β) (acc:List α),(∀z∈Z1,cf (p z) (p r)<0)→acc.Pairwise (fun a b=>cf a b<0)→
  zcb cf jn p (Z1++r::Z2) acc=zcb cf jn p (Z1++Z2) (putC cf jn (p r) acc)
 | [],_,_,_=>rfl
 |z::Z1,acc,h,hs=>by
  have ih:=zfx hc hj (p:=p) (r:=r) (Z2:=Z2) Z1 (putC cf jn (p z) acc) (fun y hy=>h y (List.mem_cons_of_mem _ hy)) (zb4 hc hj hs)
  have hcm:=zgk hc hj (h z (List.mem_cons_self ..)) acc hs
  show zcb cf jn p (Z1++r::Z2) (putC cf jn (p z) acc)=zcb cf jn p (Z1++Z2) (putC cf jn (p z) (putC cf jn (p r) acc))
  rw[ih,hcm]
theorem zcU(hc:Cpr cf)(hj:Join cf jn){p:β→α}{lt older:β→β→Prop}(hlt:∀{a b},lt a b→cf (p a) (p b)<0∨older a b)(has:∀{a b},older a b→¬older b a):
  ∀(D Z:List β) (acc:List α),D.Pairwise older→Z.Pairwise lt→Z.Perm D→acc.Pairwise (fun a b=>cf a b<0)→zcb cf jn p Z acc=zcb cf jn p D acc
 | [],Z,acc,_,_,hp,_=>by rw[hp.eq_nil]
 |r::D,Z,acc,hD,hZ,hp,hs=>by
  obtain⟨d1,d2⟩:=List.pairwise_cons.1 hD
  obtain⟨Z1,Z2,rfl⟩:=List.append_of_mem (hp.mem_iff.2 (List.mem_cons_self ..))
  have hp2:(Z1++Z2).Perm D:=(List.perm_middle.symm.trans hp).cons_inv
  obtain⟨z1,z2,z3⟩:=List.pairwise_append.1 hZ
  have hb:∀z∈Z1,cf (p z) (p r)<0:=fun z hz=>by
   rcases hlt (z3 z hz r (List.mem_cons_self ..)) with h|h
   ·exact h
   ·exact absurd h (has (d1 z (hp2.mem_iff.1 (List.mem_append_left _ hz))))
  rw[zfx hc hj Z1 acc hb hs]
  refine zcU (lt:=lt) (older:=older) hc hj hlt has D (Z1++Z2) (putC cf jn (p r) acc) d2 ?_ hp2 (zb4 hc hj hs)
  exact List.pairwise_append.2 ⟨z1,(List.pairwise_cons.1 z2).2,fun a ha b hb=>z3 a ha b (List.mem_cons_of_mem _ hb)⟩
theorem zgj{r x:α}:∀{O:List α},(∀y∈O,cf y r<0)→¬0<cf x r→putC cf jn r (O++ [x])=if cf x r=0 then O++ [jn x r] else O++ [x,r]
 | [],_,h=>by
  simp only[List.nil_append,putC]
  by_cases h0:cf x r=0
  ·rw[if_neg (by omega),if_pos h0,if_pos h0]
  ·rw[if_pos (by omega),if_neg h0]
 |y::O,hO,h=>by
  have hy:=hO y (List.mem_cons_self ..)
  have ih:=zgj (r:=r) (x:=x) (O:=O) (fun z hz=>hO z (List.mem_cons_of_mem _ hz)) h
  simp only[List.cons_append,putC]
  rw[if_pos hy,ih]
  split<;>rfl
end
/-! ### records -/
def zbB(l:List RecL):List RecL:=zcb zaJ (fun a b=>{a with ttl:=min a.ttl b.ttl}) (fun r=>r) l []
theorem join_R:Join zaJ (fun a b=>{a with ttl:=min a.ttl b.ttl}):=⟨fun _ _ _ _=>rfl⟩
end Go.Proofs.YtahbdamijngmmaaGreat
