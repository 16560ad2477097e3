/-
  Texts of a proof, joined.
  Conditions: none.
-/
import Derived.Test.YtfacfpcopcgbdaaGreatPBR03
import Derived.Shelf.Strings.Builder1
set_option linter.all false
set_option maxRecDepth 20000
set_option maxHeartbeats 8000000
namespace Go.Proofs.YtfacfpcopcgbdaaGreat
open Go Tryz
variable {w w0 w1 W0 x A:World}{v u lv nv:Value}{cs l:List Value}{B k b i j c m cap:Nat}{t e:TypeId}{a:Option Addr}{S C:Nat->Prop}{q n o:Nm}
def IterT{α:Type}(P:Program)(g:FuncId)(cap:Array Value)(W0:World)(n0:Nat)(C T:Nat->Prop)(own:Nat)(Pre:List α->α->Prop)(Full:List α->Prop)(enc:Nat->α->World->Array Value->Prop):Prop:=
 ∀(l:Nat) (J Jx:List α->World->Prop) (W:World),Ext W0 W->n0<=W.heap.size->
  (∀pre A B,J pre A->Keep (λ b=>span W.heap.size own b\/T b) A B->J pre B)->(∀pre A B,Jx pre A->Keep (λ b=>span W.heap.size own b\/T b) A B->Jx pre B)->
  (∀pre x A args,Pre pre x->J pre A->W.heap.size+own<=A.heap.size->KeepB n0 (λ b=>C b\/T b) W A->enc W.heap.size x A args->Yld P l args A (λ v B=>
   (v= .bool true/\J (pre++ [x]) B/\KeepB n0 C A B/\∀b,span W.heap.size own b->B.heap[b]? =A.heap[b]?)\/(v= .bool false/\Jx (pre++ [x]) B)))->
  J [] W->Fn P g (#[.func (.yield l) #[] #[]]++cap) W (λ _ B=>(∃xs,Full xs/\J xs B)\/∃pre x,Pre pre x/\Jx (pre++ [x]) B)
theorem W_rangeT{α:Type}{P:Program}{n:Nat}{f:Operand}{ps:Array Tmp}{assign body:Code}{Q:Post}{σ:Sto}{ds:List Deferred}
  {g:FuncId} {cap:Array Value} {n0:Nat} {T:Nat->Prop} {own:Nat} {Pre:List α->α->Prop} {Full:List α->Prop} {enc:Nat->α->World->Array Value->Prop}
  (hf:ev n σ f= .func (.func g) #[] cap) (hc:zaD P g=true) (hit:IterT P g cap W0 n0 C T own Pre Full enc) (hW0:Ext W0 w) (hn0:n0<=w.heap.size) (hCn:∀b,C b->b<w.heap.size) (hTn:∀b,T b->b<w.heap.size)
  (henc:∀x A args,enc (w.heap.size+2) x A args->args.size=ps.size)
  (I:List α->World->Prop) (Ix:Code->List α->World->Prop)
  (hI:∀pre A B,I pre A->Keep (λ b=>span w.heap.size (2+own) b\/T b) A B->I pre B)
  (hIx:∀c pre A B,Ix c pre A->Keep (λ b=>span w.heap.size (2+own) b\/T b) A B->Ix c pre B)
  (h0:I [] w)
  (hround:∀(l:Nat) (pre:List α) (x:α) (A:World) (args:Array Value),Pre pre x->w.heap.size+2+own<=A.heap.size->I pre A->enc (w.heap.size+2) x A args->
   W P (some l) n assign (zdF (λ σ1 ds1 A1=>ds1=[]/\KeepB (w.heap.size+2+own) C A A1/\∀A2,Keep (two w.heap.size) A1 A2->W P (some l) n body (zmE I Ix (w.heap.size+2+own) C (pre++ [x]) A2) σ1 [] A2) (λ _ _ _ _=>False))
    (zdC σ (ps.zip args).toList) [] A)
  (hdone:∀xs w',Full xs->w.heap.size+2<=w'.heap.size->I xs w'->w'.heap[w.heap.size]? =some (.deferred (some []))->Q .normal σ ({target:= .collected w.heap.size,args:=#[]}::ds) w')
  (hstop:∀c pre x w',w.heap.size+2<=w'.heap.size->Pre pre x->Ix c (pre++ [x]) w'->w'.heap[w.heap.size]? =some (.deferred (some []))->
   W P .none n c Q σ ({target:= .collected w.heap.size,args:=#[]}::ds) w'):
  W P .none n (.rangeFunc f ps assign body) Q σ ds w:=by
 refine wpIn_rangeFunc ?_;intro fn _;generalize hrec:zeo fn (act n σ ds).tmps ps assign body w.heap.size=rec;obtain⟨W1,hW1⟩:∃W1,(w.alloc (.deferred (some []))).alloc (.loop (rec .ready .none))=W1:=⟨_,rfl⟩;have hsz1:W1.heap.size=w.heap.size+2:=by rw[←hW1];simp
 have hL1:W1.heap[w.heap.size+1]? =some (.loop (rec .ready .none)):=by
  rw[←hW1];have:=ybd (w.alloc (.deferred (some []))) (.loop (rec .ready .none));rwa [ybT]at this
 have hK1:W1.heap[w.heap.size]? =some (.deferred (some [])):=by
  rw[←hW1];exact(yaE _ _ _ sM).trans (ybd w _)
 have hE1:Ext w W1:=by rw[←hW1];exact(yea w _).trans (yea _ _)
 have hI1:I [] W1:=hI _ _ _ h0 (hE1.mono (λ _ _ h=>h.elim));have hl2:two w.heap.size (w.heap.size+1):= .inr rfl;have hl2':span w.heap.size (2+own) (w.heap.size+1):=by unfold span;omega
 refine⟨w.heap.size+1,[{target:= .collected w.heap.size,args:=#[]}],W1,{target:= .fn (.func g) cap,args:=#[.func (.yield (w.heap.size+1)) #[] #[]]},W1,g,
  #[.func (.yield (w.heap.size+1)) #[] #[]]++cap,W1,?_,?_,?_,?_,zdt,?_⟩
 ·rw[←hW1,←hrec];exact run_enterLoop_outer _ _ _ _ _
 ·simp only[resolve,zcw,hf];simp[Deferred.ofValue,ev]
 ·intro f' hf';trivial
 ·simp only[invoke];exact zbM hc
 ·-- the iterator's contract
  have hsp:∀{n:Nat} b,b<n->(span W1.heap.size own b\/T b)->(span w.heap.size (2+own) b\/T b):=λ b _ h=>h.imp (λ h=>by unfold span at*;omega) id;have hno:∀b,two w.heap.size b->¬(span W1.heap.size own b\/T b):=λ b hb h=>by
   rcases h with h|h
   ·unfold span at h;unfold two at hb;omega
   ·have:=hTn _ h;unfold two at hb;omega
  have hCl:∀b,two w.heap.size b->¬C b:=λ b hb hcb=>by have:=hCn b hcb;rcases hb with rfl|rfl<;>omega
  refine zcQ (CallsIn.mono (hit (w.heap.size+1)
   (λ pre B=>I pre B/\w.heap.size+2<=B.heap.size/\B.heap[w.heap.size+1]? =some (.loop (rec .ready .none))/\B.heap[w.heap.size]? =some (.deferred (some [])))
   (λ pre B=>∃c,Ix c pre B/\w.heap.size+2<=B.heap.size/\B.heap[w.heap.size+1]? =some (.loop (rec .done (some c)))/\B.heap[w.heap.size]? =some (.deferred (some [])))
   W1 (hW0.trans hE1) oM ?_ ?_ ?_ ⟨hI1,oM,hL1,hK1⟩) ?_)
  ·rintro pre A B ⟨hi,hs,hl,hk⟩ hAB;exact⟨hI _ _ _ hi (hAB.mono hsp),yaD hs hAB.size,(hAB.block _ oM (hno _ hl2)).trans hl,(hAB.block _ oM (hno _ (.inl rfl))).trans hk⟩
  ·rintro pre A B ⟨c,hi,hs,hl,hk⟩ hAB;exact⟨c,hIx _ _ _ _ hi (hAB.mono hsp),yaD hs hAB.size,(hAB.block _ oM (hno _ hl2)).trans hl,(hAB.block _ oM (hno _ (.inl rfl))).trans hk⟩
  ·-- one round
   rintro pre x A args hxs ⟨hi,hs,hl,hk⟩ hsA _ hx;rw[hsz1]at hx;have hy:=run_yield (P:=P) (args:=args) hl (by rw[←hrec];exact henc x A args hx);unfold Yld zg6
   dsimp only
   rw[show (#[]++args:Array Value)=args from by simp];rw[hy,←hrec]
   dsimp only[zeo,opR]
   refine zcK (r:= .none) (n:=0) (roundIn_of_wpIn (F:=fw .none) (n:=0) trivial ?_);have hin:(fw .none).inRound (w.heap.size+1)=fw (some (w.heap.size+1)):=rfl;rw[hin];have hfold:(ps.zip args).foldl (λ t (x:Tmp×Value)=>t.setIfInBounds x.1 x.2) (act n σ ds).tmps=(act n (zdC σ (ps.zip args).toList) []).tmps:=by
    rw[←ybW];exact zcN n ds _ σ
   have hst:({tmps:=(ps.zip args).foldl (λ t (x:Tmp×Value)=>t.setIfInBounds x.1 x.2) (act n σ ds).tmps,defers:=[]}:Act)=act n (zdC σ (ps.zip args).toList) []:=by
    rw[hfold];rfl
   have hr:=hround (w.heap.size+1) pre x A args hxs oM hi hx;unfold W at hr;rw[←hst]at hr;refine wpIn_mono hr ?_;rintro e a A1 ⟨σ1,ds1,rfl,hq⟩;cases e with
   |normal=>
    obtain⟨rfl,hA1,hbody⟩:=hq;have hlA1:A1.heap[w.heap.size+1]? =some (.loop (rec .ready .none)):=(hA1.block _ oM (hCl _ hl2)).trans hl;have hkA1:A1.heap[w.heap.size]? =some (.deferred (some [])):=(hA1.block _ oM (hCl _ (.inl rfl))).trans hk;have hlt1:w.heap.size+1<A1.heap.size:=(yaa.1 hlA1).1;refine⟨_,run_beginRound hlA1 (by rw[←hrec];rfl),?_⟩;have hb:=hbody _ (zaB (w:=A1) (r:=w.heap.size+1) (o:= .loop {rec .ready .none with state:= .busy}) hl2);refine wpIn_mono hb ?_;have hlA2:(A1.putObj (w.heap.size+1) (.loop {rec .ready .none with state:= .busy})).heap[w.heap.size+1]? =some (.loop {rec .ready .none with state:= .busy}):=yaX hlt1;have hkA2:(A1.putObj (w.heap.size+1) (.loop {rec .ready .none with state:= .busy})).heap[w.heap.size]? =some (.deferred (some [])):=(yax oM).trans hkA1;have fin:∀(jump:Option Code) (B:World),KeepB (w.heap.size+2+own) C (A1.putObj (w.heap.size+1) (.loop {rec .ready .none with state:= .busy})) B->
      (Instr.endRound (w.heap.size+1) jump).run P B= .ok (.bool jump.isNone) (B.putObj (w.heap.size+1) (.loop (rec (if jump.isNone then .ready else .done) jump)))/\
      w.heap.size+2<=(B.putObj (w.heap.size+1) (.loop (rec (if jump.isNone then .ready else .done) jump))).heap.size/\
      (B.putObj (w.heap.size+1) (.loop (rec (if jump.isNone then .ready else .done) jump))).heap[w.heap.size+1]? =some (.loop (rec (if jump.isNone then .ready else .done) jump))/\
      (B.putObj (w.heap.size+1) (.loop (rec (if jump.isNone then .ready else .done) jump))).heap[w.heap.size]? =some (.deferred (some []))/\
      KeepB n0 C A (B.putObj (w.heap.size+1) (.loop (rec (if jump.isNone then .ready else .done) jump)))/\
      ∀b,span W1.heap.size own b->(B.putObj (w.heap.size+1) (.loop (rec (if jump.isNone then .ready else .done) jump))).heap[b]? =A.heap[b]?:=by
     intro jump B hB;have hlB:=(hB.block _ oM (hCl _ hl2)).trans hlA2;have hkB:=(hB.block _ oM (hCl _ (.inl rfl))).trans hkA2;have hltB:w.heap.size+1<B.heap.size:=(yaa.1 hlB).1;refine⟨?_,by simp;omega,yaX hltB,(yax oM).trans hkB,?_,?_⟩
     ·have:=run_endRound (P:=P) jump hlB;rw[←hrec]at this ⊢;exact this
     ·refine(hA1.mono oM (λ _ _ h=>h)).trans (KeepB.trans ?_ ((hB.mono oM (λ _ _ h=>h)).trans ?_))
      ·exact(zaB (S:=two w.heap.size) hl2).toB oM (λ i hi hs=>by rcases hs with rfl|rfl<;>omega)
      ·exact(zaB (S:=two w.heap.size) hl2).toB oM (λ i hi hs=>by rcases hs with rfl|rfl<;>omega)
     ·intro b hb;unfold span at hb;have hCb:¬C b:=λ h=>by have:=hCn b h;omega
      exact(yax oM).trans ((hB.block b oM hCb).trans ((yax oM).trans (hA1.block b oM hCb)))
    rintro e a B ⟨σ2,ds2,rfl,hq⟩;cases e with
    |normal=>
     obtain⟨hi',hB⟩:=hq;obtain⟨h1,h2,h3,h4,h5,h6⟩:=fin .none B hB;exact⟨_,_,h1,_,rfl,.inl ⟨rfl,⟨hI _ _ _ hi' (zaB (.inl hl2')),h2,h3.trans (by rw[←hrec];rfl),h4⟩,h5,h6⟩⟩
    |ret=>
     obtain⟨hi',hB⟩:=hq;obtain⟨h1,h2,h3,h4,h5,_⟩:=fin (some .ret) B hB;exact⟨_,_,h1,_,rfl,.inr ⟨rfl,_,hIx _ _ _ _ hi' (zaB (.inl hl2')),h2,h3.trans (by rw[←hrec];rfl),h4⟩⟩
    |exit id=>
     obtain⟨hi',hB⟩:=hq;obtain⟨h1,h2,h3,h4,h5,_⟩:=fin (some (.exit id)) B hB;exact⟨_,_,h1,_,rfl,.inr ⟨rfl,_,hIx _ _ _ _ hi' (zaB (.inl hl2')),h2,h3.trans (by rw[←hrec];rfl),h4⟩⟩
    |goto t=>
     obtain⟨hi',hB⟩:=hq;obtain⟨h1,h2,h3,h4,h5,_⟩:=fin (some (.goto t)) B hB;exact⟨_,_,h1,_,rfl,.inr ⟨rfl,_,hIx _ _ _ _ hi' (zaB (.inl hl2')),h2,h3.trans (by rw[←hrec];rfl),h4⟩⟩
    |panic c=>exact hq.elim
    |outgrown=>exact hq.elim
   |ret=>exact hq.elim
   |exit id=>exact hq.elim
   |goto t=>exact hq.elim
   |panic c=>exact hq.elim
   |outgrown=>exact hq.elim
  ·rintro e B ⟨v,rfl,h⟩;rcases h with ⟨xs,hfull,hi,hs,hl,hk⟩| ⟨pre,x,hxs,c,hi,hs,hl,hk⟩
   ·have hend:=run_endLoop (P:=P) hl (by rw[←hrec];simp[zeo]);have hp:(rec LoopState.ready .none).pending= .none:=by rw[←hrec];rfl
    rw[hp]at hend;refine⟨.none,_,hend,?_⟩;exact⟨σ,_,rfl,hdone xs _ hfull (by simp;omega) (hI _ _ _ hi (zaB (.inl hl2'))) ((yax oM).trans hk)⟩
   ·have hend:=run_endLoop (P:=P) hl (by rw[←hrec];simp[zeo]);have hp:(rec LoopState.done (some c)).pending=some c:=by rw[←hrec];rfl
    rw[hp]at hend;refine⟨some c,_,hend,?_⟩;exact hstop c pre x _ (by simp;omega) hxs (hIx _ _ _ _ hi (zaB (.inl hl2'))) ((yax oM).trans hk)
namespace P_cd
theorem Clip_ok{n:Nat}(hc:n<=c):Fn prog 233 #[.slice a n c] w (λ u w'=>u= .slice a n n/\w'=w):=by
 refine enx func233 ntmps233 ?_;refine gz0 ?_;refine rq ?_;intro gd K hgd hK;refine sg0 ?_;have hcl:slD prog (some (TypeDesc.slice 97)) (Value.slice a n c) .none (some (Value.int IntKind.i64 ↑n)) (some (Value.int IntKind.i64 ↑n))=some (.slice a n n):=zfy hc (by rfl);rw[hcl];refine sg0 ?_;refine en hK ?_;refine rt0 ntmps233 ?_;exact⟨rfl,rfl⟩
end P_cd
theorem is_ok(w:World)(ow tl dv:Value)(o:Nm)(t:Int)(cr:List Value)(r:RecL)(ho:Row w ow (o.map vs))(hr:RecAt w cr r)(hlo:LB o)(hlen:o.length<=1000000000000000)(hok:zbL r):
  Fn prog 230 #[.agg #[ow,vi t,tl,dv],.agg cr.toArray] w (λ v w'=>v= .bool (isL o t r)/\Ext w w'):=by
 obtain⟨ow2,ds,rfl,a1,a2⟩:=hr.ex;obtain⟨nm,nu,tx,rw',rfl,_⟩:=a2.ex;refine enx func230 ntmps230 ?_;refine gz0 ?_;rw[zai];refine zaQ ?_;intro w1 hE1 hs1 hA hB;have p0:zad w1 (some ⟨w.heap.size,0,.none⟩)=some ow:=zab hA rfl;have p1:zad w1 (some ⟨w.heap.size,1,.none⟩)=some (vi t):=zab hA rfl;have q0:zad w1 (some ⟨w.heap.size+1,0,.none⟩)=some ow2:=zab hB rfl;have q2:zad w1 (some ⟨w.heap.size+1,2,.none⟩)=some (vi r.dat.ty):=zab hB rfl;by_cases ht:t=r.dat.ty
 ·refine rq ?_;intro gd K hgd hK;have hg6:=gk 6 11 hgd rfl;try simp (disch:=first|omega|assumption|rfl) only[go_sem,p0,p1,q0,q2,yad,yet ht,↓hg6]
  refine yfm (zdx _ _ _ _ _ (ho.ext hE1) (a1.ext hE1) hlo hok.lb oM (by have:=hok.len;omega)) ?_;rintro _ w2 ⟨rfl,hE2⟩;refine sg0 ?_;refine en hK ?_;refine rt0 ntmps230 ?_;refine⟨?_,hE1.trans hE2⟩;unfold isL;rw[yet ht,ybN]
 ·refine rq ?_;intro gd K hgd hK;have hg6:=gk 6 11 hgd rfl;try simp (disch:=first|omega|assumption|rfl) only[go_sem,p0,p1,q0,q2,yad,yef ht,↓hg6]
  refine en hK ?_;refine rt0 ntmps230 ?_;refine⟨?_,hE1⟩;unfold isL;rw[yef ht,ycc]
structure SetAt(w0:World)(B:Nat)(w:World)(cs:List Value)(s:SetL):Prop where
 ex:∃ow dv,cs=[ow,vi s.ty,v32 s.ttl,dv]/\Row w0 ow (s.owner.map vs)/\Rows 5 (DatAt w0) w dv s.data/\BlkB B w dv
def encS(w0:World)(B:Nat)(s:SetL)(A:World)(args:Array Value):Prop:=∃cs,args=#[.agg cs.toArray]/\SetAt w0 B A cs s
theorem zdU(w:World):zdD 5 (DatAt w):=by
 refine⟨λ h=>?_,λ h=>?_⟩
 ·obtain⟨nm,nu,tx,rw',rfl,_⟩:=h.ex;rfl
 ·obtain⟨nm,nu,tx,rw',rfl,⟨_,⟨o3,o4,rfl,_⟩,_⟩,⟨o5,o6,rfl,_⟩,⟨o7,o8,rfl,_⟩,⟨o9,o10,rfl,_⟩⟩:=h.ex;intro q hq;simp at hq;rcases hq with rfl|rfl|rfl|rfl|rfl<;>rfl
theorem RecAt.cells{r:RecL}(h:RecAt w0 cs r):∃ow ds,cs=[ow,v32 r.ttl]++ds/\Row w0 ow (r.owner.map vs)/\DatAt w0 ds r.dat/\cs[0]? =some ow/\cs[1]? =some (v32 r.ttl)/\cs[2]? =some (vi r.dat.ty)/\cs.drop 2=ds:=by
 obtain⟨ow,ds,rfl,h1,h2⟩:=h.ex;obtain⟨nm,nu,tx,rw',rfl,_⟩:=h2.ex;exact⟨ow,_,rfl,h1,h2,rfl,rfl,rfl,rfl⟩
theorem setsIt{bl:Nat}{R:List RecL}(hE0:Ext w0 W0)(hb:W0.heap[bl]? =some (.cells #[lv] 58 (0,0)))(hl:Rows 7 (RecAt w0) W0 lv R)(hbC:¬C bl)
  (hC0:∀b,(C b\/b=bl)->w0.heap.size<=b) (hlC:∀a n c,lv= .slice (some a) n c->¬C a.block/\a.block≠bl/\a.block<W0.heap.size) (hok:∀r∈R,zbL r) (hlen:R.length<=1000000000):
  IterT prog 242 #[.pointer (some ⟨bl,0,.none⟩)] W0 W0.heap.size C (λ b=>b=bl) 0 (λ pre x=>∃suf,grp R=pre++x::suf) (λ l=>l=grp R) (encS w0):=by
 intro lp J Jx W hW hnW hJ hJx hY h0;have hbn:bl<W0.heap.size:=(yaa.1 hb).1;refine enx func242 ntmps242 ?_;repeat refine c_r ?_
 refine zan (λ m σ ds v=>ds=[]/\∃(pre:List SetL) (p:Nat) (lv':Value),p+m=R.length/\grp R=pre++grp (R.drop p)/\σ 0= .func (.yield lp) #[] #[]/\σ 1= .pointer (some ⟨bl,0,.none⟩)/\
  v.heap[bl]? =some (.cells #[lv'] 58 (0,0))/\Rows 7 (RecAt w0) v lv' (R.drop p)/\(∀a n c,lv'= .slice (some a) n c->¬C a.block/\a.block≠bl/\a.block<W0.heap.size)/\J pre v/\KeepB W0.heap.size (λ b=>C b\/b=bl) W v/\Ext w0 v) R.length ?_ ?_
 ·exact⟨rfl,[],0,lv,oM,rfl,vr0,vq0,hW.at hb,hl.ext hW,hlC,h0,KeepB.refl _ _ _,hE0.trans hW⟩
 rintro m σ ds v ⟨rfl,pre,p,lv',hpm,hgr,hs0,hs1,hbx,hrow,hlC',hj,hKB,hEv⟩;obtain⟨aL,cL,rfl,hcL,hgL⟩:=hrow.open;obtain⟨D,hD⟩:∃D,R.drop p=D:=⟨_,rfl⟩;have hDl:D.length=R.length - p:=by rw[←hD];simp
 have hDok:∀r∈D,zbL r:=λ r hr=>hok r (yds p R (hD▸hr));rw[hD]at hgr hbx hrow hlC' hcL;simp only[hD]at hgL;have hbc:zad v (some ⟨bl,0,.none⟩)=some (.slice aL D.length cL):=zab hbx rfl;refine gz (az3 hs0 hs1 hbc) ?_;refine wc0 ?_ ?_
 ·intro hlt;simp only[ydT]at hlt;have hD0:0<D.length:=oM;obtain⟨r,hr⟩:∃r,D[0]=r:=⟨_,rfl⟩;obtain⟨c0,hc0,hR0⟩:=hgL 0 hD0;rw[hr]at hR0;obtain⟨ow0,ds0,hcs0,o1,o2,g0,g1,g2,_⟩:=hR0.cells;obtain⟨xL,rfl⟩:=yxs (zak hc0);rw[ybj,zar]at hc0;obtain⟨xd,hxd⟩:∃xd,adr (some xL) 2=some xd:=⟨_,rfl⟩;have cell:∀{j:Nat} {u:Value} (_:c0[j]? =some u) {x:World} (_:Ext v x),zad x (adr (some xL) j)=some u:=fun {j u} hj {x} hx=>by
   obtain⟨hj1,hj2⟩:=yaj.1 hj;have:=zcC (zac hx hc0) hj1;rw[hj2]at this;exact this
  have hz:=cj 0;repeat refine c_r ?_
  refine zaF (λ i=>i==15) [(0,true),(1,true),(2,true),(3,true),(4,true),(5,true),(6,true),(7,true),(8,true),(9,true),(10,true),(11,true),(12,true),(13,true),(14,false),(15,false)] NoS mixed kR ?_;intro gd K x hgd hx hxe hK;clear hxe;have hbc1:=zaa hx hbc;have e0:=cell g0 hx;have e1:=cell g1 hx;have e2:=cell g2 hx;rw[zar]at e0;rw[hxd]at e2;refine sgz (az2 (az7 hs0 hs1 hbc1 hlt hz hxd e0) (az5 e1 e2 ybc ybj zar)) ?_;obtain⟨ao,no,co,rfl⟩:∃ao no co,ow0= .slice ao no co:=by
   obtain⟨a,c,h,_⟩:=o1;exact⟨_,_,_,h⟩
  refine⟨by kernel_rfl,?_⟩;rw[show bdV prog 297 [(0,.slice ao no co),(1,vi r.dat.ty),(2,v32 r.ttl)]=some (.agg #[.slice ao no co,vi r.dat.ty,v32 r.ttl,.slice .none 0 0]) from by kernel_rfl];refine sg0 ?_;refine⟨.inr (yea x _),?_⟩;have hB3:=zam x (.cells #[.slice .none 0 0,vi 0,v32 0,.slice .none 0 0] 297 (0,0));have hE3:=yea x (.cells #[.slice .none 0 0,vi 0,v32 0,.slice .none 0 0] 297 (0,0));have hs3:=zai x (.cells #[.slice .none 0 0,vi 0,v32 0,.slice .none 0 0] 297 (0,0));revert hB3 hE3 hs3;generalize x.alloc (.cells #[.slice .none 0 0,vi 0,v32 0,.slice .none 0 0] 297 (0,0))=x1;intro hB3 hE3 hs3;refine zaL (P:=prog) (t:=297) (l:=[.slice ao no co,vi r.dat.ty,v32 r.ttl,.slice .none 0 0]) hB3 rfl (λ v h=>by simp at h;rcases h with rfl|rfl|rfl|rfl<;>rfl) rfl rfl ?_;intro x2 hs4 hB4 hk4;refine⟨.inl rfl,?_⟩;refine sg0 ?_;apply hK;have hE2:Ext v x2:=ykt (hx.trans hE3) rfl (λ b hb=>by have:=hx.size;omega) hk4;have hsx:=hx.size;have hx2:x2.heap.size=x.heap.size+1:=oM;obtain⟨b3,hb3⟩:∃b3,x.heap.size=b3:=⟨_,rfl⟩;rw[hb3]at hB4 hsx hx2 ⊢;clear hk4 hs4 hB3 hE3 hs3;clear e0 e1 e2 hbc1 hx hb3;clear x1 x;refine gz0 ?_;refine zan (λ m2 σ ds v3=>ds=[]/\∃(n:Nat) (tl:Int) (dv:Value),n+m2=D.length/\σ 4=vi n/\σ 0= .func (.yield lp) #[] #[]/\σ 1= .pointer (some ⟨bl,0,.none⟩)/\σ 3= .pointer (some ⟨b3,0,.none⟩)/\
   v3.heap[b3]? =some (.cells [.slice ao no co,vi r.dat.ty,v32 tl,dv].toArray 297 (0,0))/\tl=(D.take n).foldl (λ t x=>min t x.ttl) r.ttl/\Owns 5 (DatAt w0) x2.heap.size v3 97 dv ((D.take n).map RecL.dat)/\Ext v v3/\x2.heap.size<=v3.heap.size/\
   ∀j (h:j<D.length),j<n->isL r.owner r.dat.ty D[j]=true) D.length ?_ ?_
  ·exact⟨rfl,0,r.ttl,.slice .none 0 0,oM,vr0,vq1 hs0,vq1 hs1,vq0,hB4,rfl,Owns.nil _ _ _ _ _,hE2,ynl _,λ j h hj=>absurd hj oM⟩
  rintro m2 σ ds v3 ⟨rfl,n,tl,dv,hnm,t4,t0,t1,t3,hB,htl,hdv,hE3,hs3,hlow⟩;repeat refine c_r ?_
  have hcur:∀{x:World},Ext v x->zad x (some ⟨bl,0,.none⟩)=some (.slice (some xL) D.length cL):=λ hx=>zaa hx hbc;have hb3v:v.heap.size<=b3:=hsx;have hEw3:=hEv.trans hE3;refine zaw (Q:=λ e σ' ds' v'=>e= .normal/\ds'=[]/\σ' 4=vi n/\σ' 0= .func (.yield lp) #[] #[]/\σ' 1= .pointer (some ⟨bl,0,.none⟩)/\σ' 3= .pointer (some ⟨b3,0,.none⟩)/\Ext v3 v'/\σ' 33= .bool (tst D n (isL r.owner r.dat.ty))) ?_ ?_
  ·by_cases hk:n<D.length
   ·rw[zcF hk];obtain⟨cn,hcn,hRn⟩:=hgL n hk;have hkd:decide ((n:Int)<(D.length:Int))=true:=yet oM;have hk0:=cj n;have hk1:(n:Int)<(D.length:Int):=oM;refine zaF (λ _=>false) [(0,true),(1,true),(2,true),(3,true),(4,true),(5,true),(6,true),(7,true),(8,true),(9,true),(10,false),(11,true)] NoS mixed kR ?_;intro gd K x hgd hx hxe hK;clear hxe;have hg4:=gk 4 26 hgd rfl;have d1:=zac (hE3.trans hx) hcn;have d2:=hcur (hE3.trans hx);have d3:=zah (n:=4) (Ext.at hx hB) rfl;simp (disch:=first|omega|assumption|rfl) only[go_sem,t4,t0,t1,t3,hkd,decide_true,hk0,hk1,d1,d2,d3,↓hg4];refine yfm (is_ok x _ _ _ r.owner r.dat.ty cn D[n] (o1.ext (hEw3.trans hx)) (hRn.ext (hEw3.trans hx)) (hr▸(hDok _ (yac hD0)).lb) (hr▸(hDok _ (yac hD0)).len) (hDok _ (yac hk))) ?_;rintro _ y ⟨rfl,hy⟩;refine⟨.inr hy,?_⟩;simp (disch:=first|omega|assumption|rfl) only[go_sem,↓hg4];apply hK;exact⟨rfl,rfl,vq1 t4,vq1 t0,by simp only[go_sem,t1],vq1 t3,hx.trans hy,vq0⟩
   ·rw[zc5 hk];have hkd:decide ((n:Int)<(D.length:Int))=false:=yef oM;refine zaF (λ _=>false) [(0,true),(1,true),(2,true),(3,true),(4,true),(5,true),(6,true),(7,true),(8,true),(9,true),(10,false),(11,true)] NoS mixed kR ?_;intro gd K x hgd hx hxe hK;clear hxe;have hg4:=gk 4 26 hgd rfl;have d2:=hcur (hE3.trans hx);simp (disch:=first|omega|assumption|rfl) only[go_sem,t4,t0,t1,t3,hkd,d2,↓hg4];apply hK;exact⟨rfl,rfl,vq1 t4,vq1 t0,by simp only[go_sem,t1],vq1 t3,hx,vq0⟩
  clear t4 t0 t1 t3;rintro _ σ1 _ v4 ⟨rfl,rfl,t4,t0,t1,t3,hE4,t33⟩;have hB4':=hE4.at hB;have hdv4:=hdv.ext hE4;have hE34:=hE3.trans hE4;have hs34:x2.heap.size<=v4.heap.size:=yaD hs3 hE4.size;clear hB hdv hEw3;repeat refine c_r ?_
  refine zaG (t:=tst D n (isL r.owner r.dat.ty)) ((vq1 t33)) ?_ ?_
  ·intro ht;have hk:n<D.length:=Classical.byContradiction λ h=>by rw[zc5 h]at ht;cases ht
   rw[zcF hk]at ht;have hk0:=cj n;have hk1:(n:Int)<(D.length:Int):=oM;have hk1':=ci n;obtain⟨cn,hcn,hRn⟩:=hgL n hk;obtain⟨_,dsn,_,_,n2,_,gn1,_,gnd⟩:=hRn.cells;obtain⟨xn,hxn⟩:∃xn,adr (some xL) (n*7)=some xn:=⟨_,rfl⟩;rw[hxn]at hcn;have f1:zad v (adr (some xn) 1)=some (v32 D[n].ttl):=by
    obtain⟨hj1,hj2⟩:=yaj.1 gn1;have:=zcC hcn hj1;rw[hj2]at this;exact this
   have f2:zat v (adr (some xn) 2) 5=some dsn:=by
    have:=zaZ (m:=2) (k:=5) hcn
    rwa [gnd]at this
   repeat refine c_r ?_
   refine zaF (λ i=>i==9) [(0,true),(1,true),(2,true),(3,true),(4,true),(5,true),(6,true),(7,false),(8,true),(9,false)] NoS mixed kR ?_;intro gd K x hgd hx hxe hK;clear hxe;have d1:=zaa (hE34.trans hx) f1;have d2:=hcur (hE34.trans hx);have d3:zad x (some ⟨b3,2,.none⟩)=some (v32 tl):=zdc (Ext.at hx hB4') rfl;refine sgz (az2 (az7 t4 t0 t1 t3 hk0 hk1 hxn) (az4 d1 d2 d3 yn0)) ?_;refine zmZ vr0 vr0 ?_;refine⟨.inr ykr,?_⟩;refine sgz (az2 t3 yn0) ?_;refine za6 (P:=prog) (t:=99) (j:=2) (Ext.at hx hB4') (by simp) rfl rfl rfl ?_;intro v5 hs5 hB5 hk5;refine⟨.inl rfl,?_⟩;refine sg0 ?_;apply hK;have hE5:Ext v v5:=ykt (hE34.trans hx) rfl (λ i hi=>oM) hk5;have hdv5:=(hdv4.ext hx).keep hk5 (λ b hb hb2=>by have:=(hdv4.ge hb).1;omega);have hs5':x2.heap.size<=v5.heap.size:=by have:=hx.size;omega
   clear hk5 hs5 d1 d2 d3 hx x hdv4 hB4' hE4 hE34;repeat refine c_r ?_
   have hb3x:b3<x2.heap.size:=oM;have hxb:xn.block<x2.heap.size:=by
    have h1:=zk2 f2 (by decide) (a:=xn.add 2) rfl;rw[zbA]at h1;omega
   have hbl2:bl<x2.heap.size:=by have:=(yaa.1 hbx).1;omega
   refine zaF (λ i=>i==10) [(0,true),(1,true),(2,true),(3,true),(4,true),(5,true),(6,true),(7,false),(8,false),(9,true),(10,false)] (zda x2.heap.size) mixed kR ?_;intro gd K x hgd hx hxe hK;have hx0:=zgH hxe;clear hxe;have d1:=zac (hE5.trans hx0) f2;have d2:=hcur (hE5.trans hx0);have d3:zad x (some ⟨b3,3,.none⟩)=some dv:=zdc (Ext.at hx0 hB5) rfl;refine sgz (az2 (az7 t4 t0 t1 t3 hk0 hk1 hxn) (az4 d1 d2 d3 yn0)) ?_;refine⟨zdA hb3x,zdA hbl2,off_adr hxb,?_⟩;refine za4 (zdU w0) (by rfl) (by rfl) (by rfl) (by rfl) n2 (by decide) ?_;intro y1 hy1 hys1 hyo;refine⟨.inr hy1.keep,?_⟩;refine sg0 ?_;have hsx1:=hx.size;refine zaR (zdU w0) ((hdv5.ext hx0).ext hy1) hyo.rows (by rfl) (by rfl) (by rfl) (by rfl) (by rfl) (by rfl) (by decide) vr0 vr0 (by simp;omega) (by decide) oM ?_;intro dv' y2 hdv6 hy2 hky2 _;refine⟨.inr (hky2.mono λ b _ hb=>by have:=(hdv5.ge hb).1;show _<=_;omega),?_⟩;have hE6:=hy2 v ((hE5.trans hx0).trans hy1) oM;have hB6:=(hky2.block b3 oM (λ hb=>by have:=(hdv5.ge hb).1;omega)).trans (Ext.at (hx0.trans hy1) hB5);refine sgz (az2 t3 yn0) ?_;refine za6 (P:=prog) (t:=189) (j:=3) hB6 (by simp) (by
    obtain⟨a9,c9,h9,_⟩:=hdv6.rows.open;rw[h9];rfl) rfl rfl ?_
   intro v6 hs6 hB7 hk6;refine⟨.inl rfl,?_⟩;refine sg0 ?_;apply hK;refine gz (az2 t4 hk1') ?_;have hE7:Ext v v6:=ykt hE6 rfl (λ i hi=>oM) hk6;have hsy:=hky2.size;have htk:=zal hk;refine⟨m2 - 1,oM,rfl,n+1,min tl D[n].ttl,dv',oM,vq0,vq1 t0,by simp only[go_sem,t1],vq1 t3,by simpa using hB7,by rw[htk,ybI,htl];rfl,?_,hE7,oM,λ j hj hjn=>?_⟩
   ·rw[htk,yaC];exact hdv6.keep hk6 (λ b hb hb2=>by have:=(hdv6.ge hb).1;omega)
   ·by_cases hjn2:j=n
    ·subst hjn2;exact ht
    ·exact hlow j hj oM
  ·intro ht;have hstop:∀h:n<D.length,isL r.owner r.dat.ty D[n]=false:=λ h=>by rw[zcF h]at ht;exact ht
   obtain⟨etw,edw⟩:=zg9 (p:=isL r.owner r.dat.ty) (l:=D) (n:=n) oM hlow hstop;have hn0:0<n:=by
    rcases Nat.eq_zero_or_pos n with h|h
    ·subst h;have:=hstop hD0;rw[hr,zhW]at this;cases this
    ·exact h
   have hDr:grp D=mkS r (D.take n)::grp (D.drop n):=by
    have hc:D=r::D.tail:=by
     cases D with
     |nil=>simp at hD0
     |cons y l=>rw[←hr];rfl
    rw[hc,zhY,←hc,etw,edw]
   obtain⟨aD,cD,hdvE,hcD,_⟩:=hdv4.rows.open;have hDn:((D.take n).map RecL.dat).length=n:=by simp;omega
   rw[hDn]at hdvE hcD;rw[hdvE]at hB4' hdv4;have d3:zad v4 (some ⟨b3,3,.none⟩)=some (.slice aD n cD):=zdc hB4' rfl;refine rqz ?_;intro gd K hgd hK;refine sgz (az3 t3 d3 yn0) ?_;refine yfm (P_cd.Clip_ok hcD) ?_;rintro _ y0 ⟨rfl,hy0⟩;refine sgz (az2 t3 yn0) ?_;rw[hy0];clear hy0 y0;refine za6 (P:=prog) (t:=189) (j:=3) hB4' (by simp) rfl rfl rfl ?_;intro v5 hs5 hB5 hk5;try simp only[go_sem]
   apply hK;have hE5:Ext v v5:=ykt hE34 rfl (λ i hi=>oM) hk5;have hdv5:=hdv4.keep hk5 (λ b hb hb2=>by have:=(hdv4.ge hb).1;omega);have hrow5:=hdv5.rows.take (m:=n) (c2:=n) (ynl _) (ynl _);rw[yaf oM]at hrow5;have hblk5:BlkB W.heap.size v5 (.slice aD n n):=(hdv5.blk.same).mono (by have:=hKB.size;omega);have hP:=hlC' xL _ _ rfl;have hj5:=hJ pre v v5 hj (hE5.mono (λ _ _ h=>h.elim));have hK5:KeepB W0.heap.size (λ b=>C b\/b=bl) W v5:=hKB.trans (hE5.toB (by have:=hKB.size;omega) (λ _ _ h=>h.elim));have hsuf:∃suf,grp R=pre++mkS r (D.take n)::suf:=⟨_,by rw[hgr,hDr]⟩;have hrow4:=hrow.ext hE5;have hbx5:=Ext.at hE5 hbx;have hEv5:=hEv.trans hE5;clear hk5 hs5 d3 hE34 hE4 hE3 hdv4 hdv5 hB4' hlow t33;refine rqz ?_;intro gd K hgd hK;have d4:=zah (n:=4) hB5 rfl;refine sgz (az5 t4 t0 t1 t3 d4) ?_;refine Yld.mono (hY pre (mkS r (D.take n)) v5 _ hsuf hj5 (by have:=hK5.size;omega) hK5 ⟨_,rfl,⟨_,_,by rw[htl];rfl,o1,hrow5,hblk5⟩⟩) ?_;have hbC2:¬(C bl):=hbC;rintro u x ((⟨rfl,hj',hk',_⟩)| ⟨rfl,hjx⟩)
   ·try simp only[go_sem]
    apply hK;refine wcz ?_ ?_
    ·intro h;simp at h
    intro _;have hx1:x.heap[bl]? =some (.cells #[.slice (some xL) D.length cL] 58 (0,0)):=(hk'.block bl hbn hbC).trans hbx5;have hx2:zad x (some ⟨bl,0,.none⟩)=some (.slice (some xL) D.length cL):=zab hx1 rfl;have hn1:=cj n;have hn2:(n:Int)<=(D.length:Int):=oM;refine rqz ?_;intro gd K hgd hK;refine sgz (az5 t4 t1 hx2 hn1 hn2) ?_;refine za6 (P:=prog) (t:=58) (j:=0) (l:=[.slice (some xL) D.length cL]) hx1 (by simp) rfl rfl rfl ?_;intro x3 hs7 hB7 hk7;try simp only[go_sem]
    refine en hK ?_;have hKx:KeepB W0.heap.size (λ b=>C b\/b=bl) W x3:=(hK5.trans (hk'.mono (ynl _) (λ _ _ h=> .inl h))).trans (hk7.toB (by have:=hK5.size;have:=hk'.size;omega) (λ i _ h=> .inr h));refine⟨m - n,oM,rfl,pre++ [mkS r (D.take n)],p+n,.slice (if cL=n then some xL else adr (some xL) (n*7)) (D.length - n) (cL - n),oM,?_,vq1 t0,by simp only[go_sem,t1],by simpa using hB7,?_,λ a n' c' hv=>?_,hJ _ _ _ hj' (hk7.mono (λ _ _ h=> .inr h)),hKx,?_⟩
    ·rw[hgr,hDr,←hD,ycA];simp
    ·rw[←ycA,hD];have h1:Rows 7 (RecAt w0) x3 (.slice (some xL) D.length cL) D:=hrow4.blocks λ a n' c' hv=>by
      injection hv with e1
      injection e1 with e1
      subst e1;exact(hk7.block _ (by have:=hk'.size;have:=hK5.size;omega) hP.2.1).trans (hk'.block _ hP.2.2 hP.1)
     exact h1.drop oM
    ·injection hv with e1
     rw[zml e1];exact hP
    ·exact⟨(hKx.os.trans hKB.os.symm).trans hEv.os,(hKx.tape.trans hKB.tape.symm).trans hEv.tape,(hKx.output.trans hKB.output.symm).trans hEv.output,by have:=hKx.size;have:=hE0.size;omega,λ b hb h=>by
      have:=(hC0 b);rw[hKx.block b (by have:=hE0.size;omega) (λ h=>by have:=hC0 b h;omega)];exact(hE0.trans hW).block b hb (λ h=>h),by have h1:=(hE0.trans hW).drawn;have h2:=hKx.drawn;exact yaD h1 h2⟩
   ·try simp only[go_sem]
    apply hK;refine wcz ?_ ?_
    ·intro _;repeat refine c_r ?_
     refine zap (by simp) rfl (.inr ⟨_,_,hsuf,hjx⟩)
    ·intro h;simp at h
 ·intro hge;simp only[ydF]at hge;have hDe:D=[]:=yan.1 oM;rw[hDe,znw,yaF]at hgr;repeat refine c_r ?_
  refine zap (by simp) rfl (.inl ⟨_,rfl,hgr▸hj⟩)
theorem sets_ok(hE0:Ext w0 w){R:List RecL}(hl:Rows 7 (RecAt w0) w lv R):
  Fn prog 231 #[lv] w (λ v w'=>v= .func (.func 242) #[] #[.pointer (some ⟨w.heap.size,0,.none⟩)]/\Ext w w'/\w'.heap.size=w.heap.size+1/\w'.heap[w.heap.size]? =some (.cells #[lv] 58 (0,0))):=by
 refine enx func231 ntmps231 ?_;refine cZ ?_;obtain⟨a,n,c,rfl⟩:∃a n c,lv= .slice a n c:=by
  obtain⟨a,c,h,_⟩:=hl.open;exact⟨a,_,c,h⟩
 refine gz0 ?_;refine rt0 ntmps231 ?_;exact⟨rfl,yea _ _,zai _ _,zam _ _⟩
theorem zdi{n0:Nat}(hE:Ext w0 w)(hk:KeepB n0 C w x)(hn:w0.heap.size<=n0)(hC:∀b,C b->w0.heap.size<=b):Ext w0 x:=
 ⟨hk.os.trans hE.os,hk.tape.trans hE.tape,hk.output.trans hE.output,yaD hE.size hk.size,λ b hb h=>by
  rw[hk.block b oM (λ h=>by have:=hC b h;omega)];exact hE.block b hb (λ h=>h),yaD hE.drawn hk.drawn⟩
theorem Of_ok(hE0:Ext w0 w){ov:Value}{R:List RecL}{t:Int}(hl:Rows 7 (RecAt w0) w lv R)(ho:Row w ov (o.map vs))(hlo:LB o)(hol:o.length<=1000000000000000)(hok:∀r∈R,zbL r)(hlen:R.length<=1000000000):
  Fn prog 200 #[lv,ov,vi t] w (λ v w'=>Ext w w'/\∃ow ty tl dv,v= .tuple #[.agg #[ow,vi ty,v32 tl,dv],.bool (decide (ofC R o t≠ []))]/\one ow=true/\(ofC R o t≠ []->ty=t)/\Rows 5 (DatAt w0) w' dv ((ofC R o t).map RecL.dat)/\BlkB w.heap.size w' dv):=by
 obtain⟨aR,cR,rfl,hcR,hgR⟩:=hl.open;refine enx func200 ntmps200 ?_;refine gz0 ?_;rw[zai];refine zaQ ?_;intro w1 hE1 hs1 hA hB;refine gz0 ?_;refine zan (λ m σ ds A=>ds=[]/\∃(i:Nat) (mv:Value),i+m=R.length/\σ 14=vi i/\σ 12= .slice aR R.length cR/\σ 13=vi R.length/\σ 8=mv/\σ 1=ov/\σ 2=vi t/\σ 6= .pointer (some ⟨w.heap.size,0,.none⟩)/\σ 7= .pointer (some ⟨w.heap.size+1,0,.none⟩)/\
  Owns 7 (RecAt w0) w1.heap.size A 101 mv ((R.take i).filter (isL o t))/\Ext w1 A) R.length ?_ ?_
 ·exact⟨rfl,0,.slice .none 0 0,oM,vr0,vq0,vq0,vq0,vq0,vq0,vq0,vq0,Owns.nil _ _ _ _ _,Keep.refl _ _⟩
 rintro m σ ds A ⟨rfl,i,mv,him,h14,h12,h13,h8,h1,h2,h6,h7,hmv,hEA⟩;have hEwA:=hE1.trans hEA;refine gz (az2 h14 h13) ?_;refine wc0 ?_ ?_
 ·intro hlt;simp only[ydT]at hlt;have hiR:i<R.length:=oM;have hi0:=cj i;have hi1:(i:Int)<(R.length:Int):=oM;have hi1':=ci i;obtain⟨cr,hcr,hRr⟩:=hgR i hiR;obtain⟨r,hr⟩:∃r,R[i]=r:=⟨_,rfl⟩;rw[hr]at hRr;have hrok:zbL r:=hr▸hok _ (yac hiR);obtain⟨xR,rfl⟩:=yxs (zak hcr);have hcrA:=zac hEwA hcr;have hfl:(R.take (i+1)).filter (isL o t)=(R.take i).filter (isL o t)++(if isL o t r then [r] else []):=by
   rw[zal hiR,hr,List.filter_append]
   congr 1
   by_cases h:isL o t r=true<;>simp[h]
  refine rqz ?_;intro gd K hgd hK;refine sgz (az5 h12 h14 hi0 hi1 hcrA) ?_;refine SD.set (P:=prog) (t:=101) (zmy A) (j:=0) sM hRr.len hRr.ones rfl rfl ?_;intro A1 hs2 hL1 hk1;have hX1:=yea A (.cells #[.slice .none 0 0,v32 0,vi 0,.slice .none 0 0,.slice .none 0 0,.slice .none 0 0,.slice .none 0 0] 101 (0,0));have hEA1:Ext A A1:=ykt hX1 rfl (λ i hi=>oM) hk1;clear hk1 hX1 hs2;refine sg0 ?_;apply hK;have hg10:=hL1.get (j:=0) sM;have hE1':=hEwA.trans hEA1;obtain⟨ao,no,co,hov⟩:∃a n c,ov= .slice a n c:=by
   obtain⟨a,c,h,_⟩:=ho;exact⟨_,_,_,h⟩
  refine rqz ?_;intro gd K hgd hK;refine sgz (az3 h1 h2 hg10) ?_;rw[hov];refine⟨by kernel_rfl,?_⟩;rw[show bdV prog 297 [(0,.slice ao no co),(1,vi t)]=some (.agg #[.slice ao no co,vi t,v32 0,.slice .none 0 0]) from by kernel_rfl];rw[←hov];refine sgz hg10 ?_;refine yfm (is_ok A1 ov _ _ o t cr r (ho.ext hE1') (hRr.ext (hE0.trans hE1')) hlo hol hrok) ?_;rintro _ A2 ⟨rfl,hEA2⟩;refine sg0 ?_;apply hK;have hEA':=hEA.trans (hEA1.trans hEA2);have hmv2:=(hmv.ext hEA1).ext hEA2;have hg10':=zac hEA2 hg10;refine wcz ?_ ?_
  ·intro ht;refine rqz ?_;intro gd K hgd hK;refine sgz (az2 h8 hg10') ?_;refine za4 (zbl w0) (by rfl) (by rfl) (by rfl) (by rfl) hRr (by decide) ?_;intro A3 hE3 hs3 ho3;refine sg0 ?_;refine zaR (zbl w0) (hmv2.ext hE3) ho3.rows (by rfl) (by rfl) (by rfl) (by rfl) (by rfl) (by rfl) (by decide) (by rfl) (by rfl) (by have:=ycs (isL o t) (R.take i);simp at this ⊢;omega) (by decide) (by have:=hEA'.size;omega) ?_;intro mv' A4 hmv4 hE4 _ _;refine sg0 ?_;apply hK;refine gz (az2 h14 hi1') ?_;exact⟨m - 1,oM,rfl,i+1,mv',oM,vq0,vq1 h12,vq1 h13,vq0,vq1 h1,vq1 h2,vq1 h6,vq1 h7,by rw[hfl,if_pos ht];exact hmv4,hE4 w1 (hEA'.trans hE3) (ynl _)⟩
  ·intro ht;refine gz (az2 h14 hi1') ?_;exact⟨m - 1,oM,rfl,i+1,mv,oM,vq0,vq1 h12,vq1 h13,vq1 h8,vq1 h1,vq1 h2,vq1 h6,vq1 h7,by rw[hfl,if_neg (by rw[ht];exact yaV),yaF];exact hmv2,hEA'⟩
 ·intro hge;simp only[ydF]at hge;rw[yaf oM]at hmv;have hcl:(R.filter (isL o t)).length<=R.length:=ycs _ _;refine rqz ?_;intro gd K hgd hK;refine sgz h8 ?_;refine yfm (zld w0 A (hE0.trans hEwA) hmv.rows (λ r hr=>hok r (ycf.1 hr).1) oM) ?_;rintro cv A1 ⟨hcv,hEA1,hcb⟩;refine sg0 ?_;refine yfm (sets_ok (hE0.trans (hEwA.trans hEA1)) hcv) ?_;rintro _ A2 ⟨rfl,hEA2,hsz2,hbx⟩;refine sg0 ?_;apply hK;have hOC:zbd (R.filter (isL o t))=ofC R o t:=rfl;rw[hOC]at hcv;have hE02:=(hE0.trans (hEwA.trans hEA1)).trans hEA2;have hEw2:=(hEwA.trans hEA1).trans hEA2;have hC6:=Ext.at ((hEA.trans hEA1).trans hEA2) hA;have hC7:=Ext.at ((hEA.trans hEA1).trans hEA2) hB;have s1:=hE1.size;have s2:=hEA.size;have s3:=hEA1.size;have s4:=hE0.size;have hit:=setsIt (C:=λ b=>b=w.heap.size\/b=w.heap.size+1) hE02 hbx (hcv.ext hEA2) oM (λ b hb=>oM) (λ a n c hv=>by
   have:=hcb a n c hv;exact⟨oM,oM,oM⟩) (λ r hr=>by
    have:=zci (Q:=zbL) (λ a b h=>⟨h.lb,h.len,h.dat⟩) (l:=R.filter (isL o t)) (λ x hx=>hok x (ycf.1 hx).1);exact this r hr) (by have:=zeh (R.filter (isL o t));unfold ofC;omega)
  refine cZ ?_;refine W_rangeT (g:=242) (cap:=#[.pointer (some ⟨A1.heap.size,0,.none⟩)]) vq0 rfl hit ykr (ynl _) (λ b hb=>oM) (λ b hb=>oM)
   (λ x B args h=>by obtain⟨cs,h,_⟩:=h;rw[h];rfl)
   (λ pre B=>pre=[]/\Ext w B/\B.heap[w.heap.size]? =some (.cells #[.slice .none 0 0,vi 0,v32 0,.slice .none 0 0] 297 (0,0))/\B.heap[w.heap.size+1]? =some (.cells #[.bool false] 4 (0,0)))
   (λ c pre B=>c= .ret/\∃s cs,pre=[s]/\Ext w B/\SetAt w0 (A2.heap.size+2) B cs s/\B.heap[w.heap.size]? =some (.cells cs.toArray 297 (0,0))/\B.heap[w.heap.size+1]? =some (.cells #[.bool true] 4 (0,0))) ?_ ?_ ?_ ?_ ?_ ?_
  ·rintro pre B B' ⟨rfl,hEB,h6',h7'⟩ hk;exact⟨rfl,ykt hEB rfl (λ b hb=>by unfold span at hb;omega) hk,(hk.block _ (yaa.1 h6').1 (by unfold span;omega)).trans h6',(hk.block _ (yaa.1 h7').1 (by unfold span;omega)).trans h7'⟩
  ·rintro c pre B B' ⟨rfl,s,cs,rfl,hEB,⟨ow,dv,hcs,k1,k2,k3⟩,h6',h7'⟩ hk;exact⟨rfl,s,cs,rfl,ykt hEB rfl (λ b hb=>by unfold span at hb;omega) hk,⟨ow,dv,hcs,k1,k2.keep hk k3 (λ b hb hb2=>by unfold span;omega),k3.ext hk.size⟩,(hk.block _ (yaa.1 h6').1 (by unfold span;omega)).trans h6',(hk.block _ (yaa.1 h7').1 (by unfold span;omega)).trans h7'⟩
  ·exact⟨rfl,hEw2,hC6,hC7⟩
  ·rintro lp pre s B args ⟨suf,hgr⟩ hszB ⟨rfl,hEB,hb6,hb7⟩ ⟨cs,rfl,ow,dv,hcs,k1,k2,k3⟩;obtain⟨ao,co,rfl,_⟩:=k1;obtain⟨ad,cd,rfl,_⟩:=k2.open;have hc1:∀v∈cs,one v=true:=λ v hv=>by
    rw[hcs]at hv;simp at hv;rcases hv with rfl|rfl|rfl|rfl<;>rfl
   have hcl:cs.length=4:=by rw[hcs];rfl
   refine rq ?_;intro gd K hgd hK;refine sg0 ?_;have hB3:=zam B (.cells #[.slice .none 0 0,vi 0,v32 0,.slice .none 0 0] 297 (0,0));have hE3:=yea B (.cells #[.slice .none 0 0,vi 0,v32 0,.slice .none 0 0] 297 (0,0));revert hB3 hE3;generalize B.alloc (.cells #[.slice .none 0 0,vi 0,v32 0,.slice .none 0 0] 297 (0,0))=x1;intro hB3 hE3;refine zaL (P:=prog) (t:=297) (l:=cs) hB3 hcl hc1 (by rw[hcl];rfl) rfl ?_;intro x2 hs4 hB4 hk4;refine sg0 ?_;apply hK;have hEx:Ext B x2:=ykt hE3 rfl (λ b hb=>oM) hk4;refine zao ?_;refine⟨rfl,hEx.toB oM (λ _ _ h=>h.elim),λ Y hY=>?_⟩;have hxs:=hEx.size;have hB5:=(hY.block B.heap.size (yaa.1 hB4).1 (by unfold two;omega)).trans hB4;have hb6':=(hY.block w.heap.size oM (by unfold two;omega)).trans (Ext.at hEx hb6);have hb7':=(hY.block (w.heap.size+1) oM (by unfold two;omega)).trans (Ext.at hEx hb7);have k2':=(k2.ext hEx).keep hY (k3.ext hxs) (λ b hb hb2=>by unfold two;omega);have hEY:Ext w Y:=ykt (hEB.trans hEx) rfl (λ b hb=>by unfold two at hb;omega) hY;have d1:=zah (n:=4) hB5 hcl.symm;have hYs:=hY.size;refine rqz ?_;intro gd K hgd hK;refine sgz (az3 h6 h7 d1) ?_;refine zaL (P:=prog) (t:=297) (l:=cs) hb6' hcl hc1 (by rw[hcl];rfl) rfl ?_;intro z1 hz1 hbz1 hkz1;refine sgz (az2 h6 h7) ?_;have hb7z:=(hkz1.block (w.heap.size+1) oM oM).trans hb7';refine za6 (P:=prog) (t:=4) (j:=0) (l:=[.bool false]) hb7z sM rfl rfl rfl ?_;intro z2 hz2 hbz2 hkz2;refine sg0 ?_;refine en hK ?_
   have hkz:Keep (λ b=>b=w.heap.size\/b=w.heap.size+1) Y z2:=(hkz1.mono (λ b _ h=> .inl h)).trans (hkz2.mono (λ b _ h=> .inr h));refine⟨⟨rfl,s,cs,rfl,ykt hEY rfl (λ b hb=>oM) hkz,⟨_,_,hcs,⟨ao,co,rfl,‹_›⟩,k2'.keep hkz (k3.ext oM) (λ b hb hb2=>oM),k3.ext oM⟩,(hkz2.block w.heap.size oM oM).trans hbz1,by simpa using hbz2⟩,hkz.toB oM (λ i _ h=>h)⟩
  ·rintro xs B rfl hszB ⟨hxs,hEB,hb6,hb7⟩ hD;have hnil:ofC R o t=[]:=by
    cases hq:ofC R o t with
    |nil=>rfl
    |cons r l=>rw[hq,zhY]at hxs;cases hxs
   refine rqz ?_;intro gd K hgd hK;refine sgz (az2 h6 h7) ?_;refine⟨by kernel_rfl,?_⟩;rw[show bdV prog 297 []=some (.agg #[.slice .none 0 0,vi 0,v32 0,.slice .none 0 0]) from by kernel_rfl];refine sgz (az2 h6 h7) ?_;refine zaL (P:=prog) (t:=297) (l:=[.slice .none 0 0,vi 0,v32 0,.slice .none 0 0]) hb6 rfl (λ v h=>by simp at h;rcases h with rfl|rfl|rfl|rfl<;>rfl) rfl rfl ?_;intro z1 hz1 hbz1 hkz1;refine sgz (az2 h6 h7) ?_;have hb7z:=(hkz1.block (w.heap.size+1) oM oM).trans hb7;refine za6 (P:=prog) (t:=4) (j:=0) (l:=[.bool false]) hb7z sM rfl rfl rfl ?_;intro z2 hz2 hbz2 hkz2;refine sg0 ?_;refine en hK ?_;have hkz:Keep (λ b=>b=w.heap.size\/b=w.heap.size+1) B z2:=(hkz1.mono (λ b _ h=> .inl h)).trans (hkz2.mono (λ b _ h=> .inr h));have hEz:Ext w z2:=ykt hEB rfl (λ b hb=>oM) hkz;have hD2:=(hkz.block _ oM oM).trans hD;have c6:=(hkz2.block w.heap.size oM oM).trans hbz1;refine zbC (.inr rfl) ntmps200 rfl hD2 ?_;intro Z hkZ hsZ;refine⟨_,za0 (x:=⟨w.heap.size,0,.none⟩) (k:=4) ((vq1 h6)) rfl rfl (zah (l:=[.slice .none 0 0,vi 0,v32 0,.slice .none 0 0]) ((hkZ.block w.heap.size oM oM).trans c6) rfl) (zff (x:=⟨w.heap.size+1,0,.none⟩) ((vq1 h7)) rfl rfl (zdc (j:=0) (l:=[.bool false]) ((hkZ.block (w.heap.size+1) oM oM).trans (sU hbz2)) rfl) zas),ykt hEz rfl (λ b hb=>oM) hkZ,_,_,_,_,by rw[hnil];rfl,rfl,λ h=>absurd hnil h,by rw[hnil];exact Rows.nil _ _ _,BlkB.nil⟩
  ·rintro c pre s B hszB ⟨suf,hgr⟩ ⟨rfl,s',cs,hpre,hEB,⟨ow,dv,hcs,k1,k2,k3⟩,hb6,hb7⟩ hD;have hp0:pre=[]:=by
    have:=congrArg List.length hpre;simp at this;exact this
   subst hp0;have hss:s=s':=sU hpre;subst hss;have hne:ofC R o t≠ []:=λ h=>by rw[h,znw]at hgr;cases hgr
   obtain⟨r,l,hrl⟩:∃r l,ofC R o t=r::l:=by
    cases hq:ofC R o t with
    |nil=>exact absurd hq hne
    |cons r l=>exact⟨r,l,rfl⟩
   have hall:=ofC_is (R:=R) (o:=o) (t:=t);rw[hrl]at hall;rw[hrl,grp_one hall]at hgr;have hs:s=mkS r (r::l):=by
    injection hgr with h1 _
    exact h1.symm
   have hty:=hall r (yal ..);simp only[isL,yaB,ydT]at hty;have hcl:cs.length=4:=by rw[hcs];rfl
   refine cZ ?_;refine zbC (.inr rfl) ntmps200 rfl hD ?_;intro Z hkZ hsZ;refine⟨_,za0 (x:=⟨w.heap.size,0,.none⟩) (k:=4) ((vq1 h6)) rfl rfl (zah ((hkZ.block w.heap.size oM oM).trans hb6) hcl.symm) (zff (x:=⟨w.heap.size+1,0,.none⟩) ((vq1 h7)) rfl rfl (zdc (j:=0) (l:=[.bool true]) ((hkZ.block (w.heap.size+1) oM oM).trans (sU hb7)) rfl) zas),ykt hEB rfl (λ b hb=>oM) hkZ,ow,s.ty,s.ttl,dv,by rw[hcs,show decide (ofC R o t≠ [])=true from yet hne];rfl,?_,λ _=>by rw[hs];exact hty.1.symm,?_,?_⟩
   ·obtain⟨_,_,e,_⟩:=k1;rw[e];rfl
   ·have:=k2.keep hkZ k3 (λ b hb hb2=>oM);rw[hs]at this;rw[hrl];exact this
   ·exact(k3.ext oM).mono oM
structure Tell(w0 w:World)(g:FuncId)(cap:List Value)(p:RecL->Bool)(R:List RecL):Prop where
 call:zaD prog g=true
 tell:∀(A:World) (cs:List Value) (r:RecL),Ext w A->r∈R->RecAt w0 cs r->Fn prog g (.agg cs.toArray::cap).toArray A (λ v A'=>v= .bool (p r)/\Ext A A')
theorem zjs{R:List RecL}{g:FuncId}{cap:List Value}{p:RecL->Bool}(hl:Rows 7 (RecAt w0) w lv R)(ht:Tell w0 w g cap p R)(hlen:R.length<=1000000000):
  Fn prog 229 #[lv,.func (.func g) #[] cap.toArray] w (λ v w'=>Ext w w'/\∃i:Int,v=vi i/\decide (i>=0)=R.any p):=by
 obtain⟨hcal,htell⟩:=ht;obtain⟨aR,cR,rfl,hcR,hgR⟩:=hl.open;refine enx func229 ntmps229 ?_;refine gz0 ?_;refine zan (λ m σ ds A=>ds=[]/\∃(i:Nat),i+m=R.length/\σ 8=vi i/\σ 7=vi R.length/\σ 0= .slice aR R.length cR/\σ 1= .func (.func g) #[] cap.toArray/\Ext w A/\∀j (h:j<R.length),j<i->p R[j]=false) R.length ?_ ?_
 ·exact⟨rfl,0,oM,vr0,vq0,vq0,vq0,Keep.refl _ _,λ j h hj=>absurd hj oM⟩
 rintro m σ ds A ⟨rfl,i,him,h8,h7,h0,h1,hEA,hlow⟩;refine gz (az2 h8 h7) ?_;refine wc0 ?_ ?_
 ·intro hlt;simp only[ydT]at hlt;have hiR:i<R.length:=oM;have hi0:=cj i;have hi1:(i:Int)<(R.length:Int):=oM;have hi1':=ci i;obtain⟨cr,hcr,hRr⟩:=hgR i hiR;obtain⟨xR,rfl⟩:=yxs (zak hcr);have hcrA:=zac hEA hcr;refine gz h8 ?_;refine rq ?_;intro gd K hgd hK;refine sgz (az5 h0 h1 hi0 hi1 hcrA) ?_;refine zbJ hcal (yfm (htell A cr R[i] hEA (yac hiR) hRr) ?_);rintro _ A1 ⟨rfl,hE1⟩;refine sg0 ?_;apply hK;refine wcz ?_ ?_
  ·intro ht;refine gz0 ?_;refine rt0 ntmps229 ?_;refine⟨hEA.trans hE1,_,rfl,?_⟩;rw[show R.any p=true from ycD.2 ⟨_,yac hiR,ht⟩];exact yet oM
  ·intro ht;refine gz (az2 h8 hi1') ?_;refine⟨m - 1,oM,rfl,i+1,oM,vq0,vq1 h7,vq1 h0,vq1 h1,hEA.trans hE1,λ j hj hji=>?_⟩;by_cases hj2:j=i
   ·subst hj2;exact ht
   ·exact hlow j hj oM
 ·intro hge;simp only[ydF]at hge;refine gz0 ?_;refine rt0 ntmps229 ?_;refine⟨hEA,_,rfl,?_⟩;have:R.any p=false:=by
   rw[ycv];intro x hx;obtain⟨j,hj,rfl⟩:=yaG hx;rw[hlow j hj oM];exact yaV
  rw[this];rfl
theorem zeG{R:List RecL}{g:FuncId}{cap:List Value}{p:RecL->Bool}(hl:Rows 7 (RecAt w0) w lv R)(ht:Tell w0 w g cap p R)(hlen:R.length<=1000000000):
  Fn prog 198 #[lv,.func (.func g) #[] cap.toArray] w (λ v w'=>v= .bool (R.any p)/\Ext w w'):=by
 refine enx func198 ntmps198 ?_;refine gz0 ?_;refine rq ?_;intro gd K hgd hK;refine sg0 ?_;refine yfm (zjs hl ht hlen) ?_;rintro _ w1 ⟨hE1,i,rfl,hi⟩;refine sg0 ?_;refine en hK ?_;refine rt0 ntmps198 ?_;exact⟨by rw[hi],hE1⟩
theorem tell_Has{bt bn:Nat}{t:Int}{R:List RecL}(hE0:Ext w0 w)(ht:w.heap[bt]? =some (.cells #[vi t] 3 (0,0)))(hn:w.heap[bn]? =some (.cells #[nv] 27 (0,0)))(hrn:Row w nv (n.map vs))(hnb:LB n)(hnl:n.length<=1000000000000000)(hok:∀r∈R,zbL r):
  Tell w0 w 199 [.pointer (some ⟨bt,0,.none⟩),.pointer (some ⟨bn,0,.none⟩)] (isL n t) R:=by
 refine⟨rfl,λ A cs r hE hr hcs=>?_⟩;have hcs':=hcs;obtain⟨ow,ds,rfl,a1,a2⟩:=hcs.ex;obtain⟨nm,nu,tx,rw',rfl,_⟩:=a2.ex;refine enx func199 ntmps199 ?_;refine gz0 ?_;refine zav ?_;intro A1 hE1 hs1 hA;have p0:zad A1 (some ⟨A.heap.size,0,.none⟩)=some ow:=zab hA rfl;have p2:zad A1 (some ⟨A.heap.size,2,.none⟩)=some (vi r.dat.ty):=zab hA rfl;have q0:zad A1 (some ⟨bt,0,.none⟩)=some (vi t):=zaa (hE.trans hE1) (zab ht rfl);have q1:zad A1 (some ⟨bn,0,.none⟩)=some nv:=zaa (hE.trans hE1) (zab hn rfl);by_cases hty:r.dat.ty=t
 ·refine rq ?_;intro gd K hgd hK;have hg5:=gk 5 10 hgd rfl;try simp (disch:=first|omega|assumption|rfl) only[go_sem,p0,p2,q0,q1,yad,yet hty,↓hg5]
  refine yfm (zdx _ _ _ _ _ (a1.ext (hE0.trans (hE.trans hE1))) (hrn.ext (hE.trans hE1)) (hok r hr).lb hnb (by have:=(hok r hr).len;omega) oM) ?_;rintro _ A2 ⟨rfl,hE2⟩;refine sg0 ?_;refine en hK ?_;refine rt0 ntmps199 ?_;refine⟨?_,hE1.trans hE2⟩;unfold isL;rw[yet hty.symm,ybN];exact congrArg _ (decide_eq_decide.2 ⟨λ h=>h.symm,λ h=>h.symm⟩)
 ·refine rq ?_;intro gd K hgd hK;have hg5:=gk 5 10 hgd rfl;try simp (disch:=first|omega|assumption|rfl) only[go_sem,p0,p2,q0,q1,yad,yef hty,↓hg5]
  refine en hK ?_;refine rt0 ntmps199 ?_;refine⟨?_,hE1⟩;unfold isL;rw[yef (λ h=>hty h.symm),ycc]
structure ZnAt(w0 w:World)(ov lv:Value)(o:Nm)(R:List RecL):Prop where
 e0:Ext w0 w
 org:Row w ov (o.map vs)
 recs:Rows 7 (RecAt w0) w lv R
 lb:LB o
 ol:o.length<=1000000000000
 ok:∀r∈R,zbL r
 rl:R.length<=1000000000
theorem ZnAt.ext{ov:Value}{R:List RecL}(h:ZnAt w0 w ov lv o R)(hE:Ext w x):ZnAt w0 x ov lv o R:=
 ⟨h.e0.trans hE,h.org.ext hE,h.recs.ext hE,h.lb,h.ol,h.ok,h.rl⟩
structure NmS(n:Nm):Prop where
 lb:LB n
 len:n.length<=1000000000000
theorem NmS.drop(h:NmS n)(k:Nat):NmS (n.drop k):=⟨h.lb.drop k,by have:=h.len;simp;omega⟩
theorem Has_ok{ov:Value}{R:List RecL}{t:Int}(hz:ZnAt w0 w ov lv o R)(hn:Row w nv (n.map vs))(hok:NmS n):
  Fn prog 159 #[.agg #[ov,lv],nv,vi t] w (λ v w'=>v= .bool (R.any (isL n t))/\Ext w w'):=by
 obtain⟨ao,co,hov,_⟩:=hz.org;obtain⟨al,cl,hlv,_⟩:=hz.recs.open;obtain⟨an,cn,hnv,_⟩:=id hn;rw[hov,hlv,hnv];refine enx func159 ntmps159 ?_;refine gz0 ?_;rw[←hov,←hlv,←hnv];simp only[zai];refine zek ?_;intro w1 hE1 hs1 hA hB hC;have p1:zad w1 (some ⟨w.heap.size,1,.none⟩)=some lv:=zab hA rfl;refine rq ?_;intro gd K hgd hK;refine sgz (az2 p1 yn0) ?_;have hz1:=hz.ext hE1;refine yfm (zeG (cap:=[.pointer (some ⟨w.heap.size+1+1,0,.none⟩),.pointer (some ⟨w.heap.size+1,0,.none⟩)]) hz1.recs (tell_Has hz1.e0 hC hB (hn.ext hE1) hok.lb (by have:=hok.len;omega) hz.ok) hz.rl) ?_;rintro _ w2 ⟨rfl,hE2⟩;refine sg0 ?_;refine en hK ?_;refine rt0 ntmps159 ?_;exact⟨rfl,hE1.trans hE2⟩
def zch(n:Nm):Nat->List Nm
 |0=>[n.drop 0]
 |i+1=>n.drop (i+1)::zch n i
def zbS(o n:Nm):List Nm:=if o.length<=n.length then zch n (n.length - o.length) else []
def hasL(R:List RecL)(n:Nm)(t:Int):Bool:=R.any (isL n t)
def cutP(o:Nm)(R:List RecL)(x:Nm):Bool:=decide (o.length<x.length) && hasL R x 2
def cutL(o:Nm)(R:List RecL)(n:Nm):Option Nm:=if zaN n o then(zbS o n).find? (cutP o R) else .none
def zf5(o:Nm)(R:List RecL)(n:Nm):Int:=if zaN n o then(match cutL o R n with
 | .none=>1
 |some c=>if c.length=n.length then 2 else 3) else 0
def zbH(o:Nm)(R:List RecL)(n:Nm):Bool:=zaN n o && (decide (n.length=o.length)||R.any λ r=>zaN r.owner n)
def zcU(o:Nm)(R:List RecL)(n:Nm):Nm:=if zaN n o then((zbS o n).takeWhile (zbH o R)).getLast?.getD [] else []
def starL:Lab:=[42]
def ownsL(R:List RecL)(n:Nm):Bool:=R.any λ r=>decide (zag r.owner=zag n)
def zdp(o:Nm)(R:List RecL)(n:Nm):Nm:=starL::zcU o R n
def zcp(o:Nm)(R:List RecL)(n:Nm):Option Nm:=if ownsL R (zdp o R n) then some (zdp o R n) else .none
def datC(R:List RecL)(n:Nm)(t:Int):List DatL:=(ofC R n t).map RecL.dat
def zds(R:List RecL)(h:Nm):List DatL:=datC R h 1++datC R h 28
theorem zbU(h:zaN n o=true):o.length<=n.length:=by
 unfold zaN at h;simp only[yaB,ydT]at h;exact h.1
theorem zb3:∀{k:Nat} {x:Nm},x∈zch n k↔∃i,i<=k/\x=n.drop i
 |0,x=>by
  simp only[zch,yae];constructor
  ·intro h;exact⟨0,ynl _,h⟩
  ·rintro⟨i,hi,h⟩;have:i=0:=oM;subst this;exact h
 |k+1,x=>by
  simp only[zch,yay];rw[zb3];constructor
  ·rintro(h| ⟨i,hi,h⟩)
   ·exact⟨k+1,ynl _,h⟩
   ·exact⟨i,oM,h⟩
  ·rintro⟨i,hi,h⟩;by_cases hk:i=k+1
   ·subst hk;exact .inl h
   ·exact .inr ⟨i,oM,h⟩
def encD(W0:World)(x:Nm)(_:World)(args:Array Value):Prop:=∃v,args=#[v]/\Row W0 v (x.map vs)
theorem znO{wb:World}{bn bz:Nat}{ov:Value}(hbn:W0.heap[bn]? =some (.cells #[nv] 27 (0,0)))(hbz:W0.heap[bz]? =some (.cells #[ov,lv] 60 (0,0)))(hn:Row wb nv (n.map vs))(ho:Row W0 ov (o.map vs))(hC1:¬C bn)(hC2:¬C bz)
  (hol:o.length<=1000000000000) (hnl:n.length<=1000000000000):
  Iter prog 197 #[.pointer (some ⟨bn,0,.none⟩),.pointer (some ⟨bz,0,.none⟩)] W0 W0.heap.size C (zbS o n) (encD wb):=by
 intro lp J Jx W hW hnW hJ hJx hY h0;obtain⟨an,cn,rfl,hcn,hgn⟩:=hn;obtain⟨ao,co,rfl,hco,hgo⟩:=ho;simp only[ylm]at hcn hgn hco hgo hbn hbz;have hln:=(yaa.1 hbn).1;have hlz:=(yaa.1 hbz).1;have p0:zad W (some ⟨bn,0,.none⟩)=some (.slice an n.length cn):=zaa hW (zab hbn rfl);have q0:zad W (some ⟨bz,0,.none⟩)=some (.slice ao o.length co):=zaa hW (zab hbz rfl);refine enx func197 ntmps197 ?_;repeat refine c_r ?_
 refine rg3 p0 q0 yad ?_;repeat refine c_r ?_
 refine zan (λ m σ ds v=>ds=[]/\∃(pre rest:List Nm) (i:Int),zbS o n=pre++rest/\i+1<=(m:Int)/\σ 4=vi i/\((i<0/\rest=[])\/∃k:Nat,i=k/\k<=n.length/\rest=zch n k)/\σ 0= .func (.yield lp) #[] #[]/\σ 1= .pointer (some ⟨bn,0,.none⟩)/\σ 2= .pointer (some ⟨bz,0,.none⟩)/\J pre v/\KeepB W0.heap.size C W v) (n.length+1) ?_ ?_
 ·refine⟨rfl,[],zbS o n,(n.length:Int) - o.length,rfl,oM,vq0,?_,vq0,vq0,vq0,h0,KeepB.refl _ _ _⟩;unfold zbS;by_cases hle:o.length<=n.length
  ·rw[if_pos hle];exact .inr ⟨n.length - o.length,oM,oM,rfl⟩
  ·rw[if_neg hle];exact .inl ⟨oM,rfl⟩
 rintro m σ ds v ⟨rfl,pre,rest,i,hd,him,h4,hir,hs0,hs1,hs2,hj,hKB⟩;have p1:zad v (some ⟨bn,0,.none⟩)=some (.slice an n.length cn):=zcD hKB hln hC1 p0;repeat refine c_r ?_
 refine rg1 h4 ?_;repeat refine c_r ?_
 refine wc0 ?_ ?_
 ·intro hge;simp only[ydT,ge_iff_le]at hge;rcases hir with ⟨h,_⟩| ⟨k,rfl,hkn,hrest⟩
  ·omega
  have hk1:(k:Int)<=(n.length:Int):=oM;obtain⟨suf,hsuf⟩:∃suf,rest=n.drop k::suf/\((k=0/\suf=[])\/∃j,k=j+1/\suf=zch n j):=by
   cases k with
   |zero=>exact⟨[],by rw[hrest];rfl,.inl ⟨rfl,rfl⟩⟩
   |succ j=>exact⟨zch n j,by rw[hrest];rfl,.inr ⟨j,rfl,rfl⟩⟩
  have hrow:Row wb (.slice (if cn=k then an else adr an k) (n.length - k) (cn - k)) ((n.drop k).map vs):=by
   have:=Row.tail (l:=n.map vs) (by simp) hcn (by simpa using hgn) (lo:=k) (by simpa using hkn);rw[←ycM]at this;simpa using this
  have hxs:zbS o n=pre++n.drop k::suf:=by rw[hd,hsuf.1]
  repeat refine c_r ?_
  refine rq ?_;intro gd K hgd hK;try simp (disch:=first|omega|assumption|rfl) only[go_sem,h4,hs0,hs1,p1,hge,hk1]
  refine Yld.mono (hY pre (n.drop k) suf v _ hxs hj hKB ⟨_,rfl,hrow⟩) ?_;rintro u x (⟨rfl,hj',hk'⟩| ⟨rfl,hjx⟩)
  ·try simp only[go_sem]
   refine hK _ _ ?_;clear hK hgd;clear K;try clear gd
   repeat refine c_r ?_
   refine wc0 ?_ ?_
   ·intro h;simp at h
   ·intro _;repeat refine c_r ?_
    refine rg1 h4 ?_;refine zao ?_;refine⟨m - 1,oM,rfl,pre++ [n.drop k],suf,(k:Int) - 1,by rw[hxs];simp,oM,vq0,?_,vq1 hs0,vq1 hs1,vq1 hs2,hj',hKB.trans hk'⟩;rcases hsuf.2 with ⟨h1,h2⟩| ⟨j,h1,h2⟩
    ·exact .inl ⟨oM,h2⟩
    ·exact .inr ⟨j,oM,oM,h2⟩
  ·try simp only[go_sem]
   refine hK _ _ ?_;clear hK hgd;clear K;try clear gd
   repeat refine c_r ?_
   refine wc0 ?_ ?_
   ·intro _;repeat refine c_r ?_
    refine zap (by simp) rfl (.inr ⟨_,_,_,hxs,hjx⟩)
   ·intro h;simp at h
 ·intro hge;simp only[ydF,ge_iff_le]at hge;repeat refine c_r ?_
  refine zap (by simp) rfl (.inl ?_);rcases hir with ⟨_,h⟩| ⟨k,rfl,_⟩
  ·rw[hd,h,yaF];exact hj
  ·omega
theorem zkf{ov:Value}(hn:∃a n c,nv= .slice a n c):
  Fn prog 158 #[.agg #[ov,lv],nv] w (λ v w'=>v= .func (.func 197) #[] #[.pointer (some ⟨w.heap.size+1,0,.none⟩),.pointer (some ⟨w.heap.size,0,.none⟩)]/\Ext w w'/\w'.heap.size=w.heap.size+2/\
   w'.heap[w.heap.size]? =some (.cells #[ov,lv] 60 (0,0))/\w'.heap[w.heap.size+1]? =some (.cells #[nv] 27 (0,0))):=by
 obtain⟨an,nn,cn,rfl⟩:=hn;refine enx func158 ntmps158 ?_;repeat refine c_r ?_
 refine rg0 ?_;repeat refine c_r ?_
 rw[zai];refine zaQ ?_;intro w1 hE1 hs1 hA hB;refine rg0 ?_;repeat refine c_r ?_
 refine rt0 ntmps158 ?_;exact⟨rfl,hE1,hs1,hA,hB⟩
theorem zjB{bn:Nat}{R:List RecL}(hE0:Ext w0 w)(hn:w.heap[bn]? =some (.cells #[nv] 27 (0,0)))(hrn:Row w nv (n.map vs))(hok:NmS n)(hoks:∀r∈R,zbL r):
  Tell w0 w 204 [.pointer (some ⟨bn,0,.none⟩)] (λ r=>zaN r.owner n) R:=by
 refine⟨rfl,λ A cs r hE hr hcs=>?_⟩;obtain⟨ow,ds,rfl,a1,a2⟩:=hcs.ex;obtain⟨nm,nu,tx,rw',rfl,_⟩:=a2.ex;refine enx func204 ntmps204 ?_;refine gz0 ?_;refine zav ?_;intro A1 hE1 hs1 hA;have p0:zad A1 (some ⟨A.heap.size,0,.none⟩)=some ow:=zab hA rfl;have q1:zad A1 (some ⟨bn,0,.none⟩)=some nv:=zaa (hE.trans hE1) (zab hn rfl);refine rq ?_;intro gd K hgd hK;refine sgz (az3 p0 q1 yad) ?_;refine yfm (zbF _ _ _ _ _ (a1.ext (hE0.trans (hE.trans hE1))) (hrn.ext (hE.trans hE1)) (hoks r hr).lb hok.lb (by have:=(hoks r hr).len;omega) (by have:=hok.len;omega)) ?_;rintro _ A2 ⟨rfl,hE2⟩;refine sg0 ?_;refine en hK ?_;refine rt0 ntmps204 ?_;exact⟨rfl,hE1.trans hE2⟩
theorem zjA{bn:Nat}{R:List RecL}(hE0:Ext w0 w)(hn:w.heap[bn]? =some (.cells #[nv] 27 (0,0)))(hrn:Row w nv (n.map vs))(hok:NmS n)(hoks:∀r∈R,zbL r):
  Tell w0 w 206 [.pointer (some ⟨bn,0,.none⟩)] (λ r=>decide (zag r.owner=zag n)) R:=by
 refine⟨rfl,λ A cs r hE hr hcs=>?_⟩;obtain⟨ow,ds,rfl,a1,a2⟩:=hcs.ex;obtain⟨nm,nu,tx,rw',rfl,_⟩:=a2.ex;refine enx func206 ntmps206 ?_;refine gz0 ?_;refine zav ?_;intro A1 hE1 hs1 hA;have p0:zad A1 (some ⟨A.heap.size,0,.none⟩)=some ow:=zab hA rfl;have q1:zad A1 (some ⟨bn,0,.none⟩)=some nv:=zaa (hE.trans hE1) (zab hn rfl);refine rq ?_;intro gd K hgd hK;refine sgz (az3 p0 q1 yad) ?_;refine yfm (zdx _ _ _ _ _ (a1.ext (hE0.trans (hE.trans hE1))) (hrn.ext (hE.trans hE1)) (hoks r hr).lb hok.lb (by have:=(hoks r hr).len;omega) (by have:=hok.len;omega)) ?_;rintro _ A2 ⟨rfl,hE2⟩;refine sg0 ?_;refine en hK ?_;refine rt0 ntmps206 ?_;exact⟨rfl,hE1.trans hE2⟩
theorem zjv{ov:Value}{R:List RecL}(hz:ZnAt w0 w ov lv o R)(hn:Row w nv (n.map vs))(hok:NmS n):
  Fn prog 162 #[.agg #[ov,lv],nv] w (λ v w'=>v= .bool (zbH o R n)/\Ext w w'):=by
 obtain⟨ao,co,hov,hrest⟩:=id hz.org;obtain⟨al,cl,hlv,_⟩:=hz.recs.open;obtain⟨an,cn,hnv,_⟩:=id hn;rw[ylm]at hov hnv;rw[hov,hlv,hnv];refine enx func162 ntmps162 ?_;refine gz0 ?_;rw[←hov,←hlv,←hnv];simp only[zai];refine zaQ ?_;intro w1 hE1 hs1 hA hB;have p0:zad w1 (some ⟨w.heap.size,0,.none⟩)=some ov:=zab hA rfl;have q0:zad w1 (some ⟨w.heap.size+1,0,.none⟩)=some nv:=zab hB rfl;have hz1:=hz.ext hE1;refine rq ?_;intro gd K hgd hK;refine sgz (az3 p0 q0 yad) ?_;refine yfm (zbF _ _ _ _ _ (hn.ext hE1) hz1.org hok.lb hz.lb (by have:=hok.len;omega) (by have:=hz.ol;omega)) ?_;rintro _ w2 ⟨rfl,hE2⟩;refine sg0 ?_;apply hK;refine wcz ?_ ?_
 ·intro hu;simp only[yao]at hu;refine gz0 ?_;refine rt0 ntmps162 ?_;exact⟨by unfold zbH;rw[hu,ycc],hE1.trans hE2⟩
 ·intro hu;simp only[yaw]at hu;have p0':=zaa hE2 p0;have p1':zad w2 (some ⟨w.heap.size,1,.none⟩)=some lv:=zaa hE2 (zab hA rfl);have q0':=zaa hE2 q0;rw[hov]at p0';rw[hnv]at q0';have hz2:=hz1.ext hE2;refine cZ ?_;by_cases hlen:(n.length:Int)=(o.length:Int)
  ·refine rq ?_;intro gd K hgd hK;have hg6:=gk 6 16 hgd rfl;try simp (disch:=first|omega|assumption|rfl) only[go_sem,p0',q0',yad,yet hlen,↓hg6]
   refine en hK ?_;refine rt0 ntmps162 ?_;refine⟨?_,hE1.trans hE2⟩;unfold zbH;rw[hu,show decide (n.length=o.length)=true from yet oM];rfl
  ·refine rq ?_;intro gd K hgd hK;have hg6:=gk 6 16 hgd rfl;try simp (disch:=first|omega|assumption|rfl) only[go_sem,p0',p1',q0',yad,yn0,yef hlen,↓hg6]
   refine yfm (zeG (cap:=[.pointer (some ⟨w.heap.size+1,0,.none⟩)]) hz2.recs (zjB hz2.e0 (hE2.at hB) (hn.ext (hE1.trans hE2)) hok hz.ok) hz.rl) ?_;rintro _ w3 ⟨rfl,hE3⟩;refine sg0 ?_;refine en hK ?_;refine rt0 ntmps162 ?_;refine⟨?_,(hE1.trans hE2).trans hE3⟩;unfold zbH;rw[hu,show decide (n.length=o.length)=false from yef oM];rfl
namespace P_cs
theorem Clip_ok{n:Nat}(hc:n<=c):Fn prog 62 #[.slice a n c] w (λ u w'=>u= .slice a n n/\w'=w):=by
 refine enx func62 ntmps62 ?_;refine gz0 ?_;refine rq ?_;intro gd K hgd hK;refine sg0 ?_;have hcl:slD prog (some (TypeDesc.slice 9)) (Value.slice a n c) .none (some (Value.int IntKind.i64 ↑n)) (some (Value.int IntKind.i64 ↑n))=some (.slice a n n):=zfy hc (by rfl);rw[hcl];refine sg0 ?_;refine en hK ?_;refine rt0 ntmps62 ?_;exact⟨rfl,rfl⟩
end P_cs
theorem Row.keepB(h:Row w v l)(hk:Keep S w x)(hB:BlkB B w v)(hS:∀b,B<=b->b<w.heap.size->¬S b):Row x v l:=
 h.blocks λ a n c hv=>hk.block _ (hB a n c hv).2 (hS _ (hB a n c hv).1 (hB a n c hv).2)
theorem Own.blk(h:Own B w e v l):BlkB B w v:=λ a n c hv=>(h.rowB).2 a n c hv
theorem zd6(hr:Row w v (n.map vs))(hlen:n.length<=1000000000000):
  Fn prog 177 #[v] w (λ u w'=>Own w.heap.size w' 9 u (n.map vs)/\Ext w w'):=by
 have hr':=hr;obtain⟨a,c,rfl,hc,hl⟩:=hr;refine enx func177 ntmps177 ?_;refine gz0 ?_;refine rq ?_;intro gd K hgd hK;refine sg0 ?_;refine zh5 (by rfl) (by rfl) (by rfl) ?_;refine sg0 ?_;refine en hK ?_;cases a with
 |none=>
  have:n=[]:=by
   cases n with
   |nil=>rfl
   |cons x L=>have:=hl 0 sM;simp[zad,adr]at this
  subst this;refine wc0 ?_ ?_
  ·intro _;refine gz0 ?_;refine rt0 ntmps177 ?_;exact⟨Own.nil _ _ _,Keep.refl _ _⟩
  ·intro h;cases h
 |some a=>
  refine wc0 ?_ ?_
  ·intro h;cases h
  intro _;refine rqz ?_;intro gd K hgd hK;refine sg0 ?_;refine zhA (z:=vs []) (by rfl) (by rfl) (by rfl) (by rfl) ?_;intro w1 hE1 hs1 ho1;refine sg0 ?_;refine zb0 (B:=w.heap.size) ho1 (hr'.ext hE1) (by rfl) (by rfl) (by rfl) (by rfl) (by rfl) (by rfl) (by rfl) (by rfl) (zfl _) (by simp;omega) (by decide) oM ?_;intro v' w2 ho2 hE2 _ _;refine sg0 ?_;refine en hK ?_;refine rt0 ntmps177 ?_;exact⟨by simpa using ho2,hE2 w hE1 (ynl _)⟩
theorem zkQ{α:Type}{p:α->Bool}{l pre suf:List α}{x:α}(h:l=pre++x::suf)(hp:∀y∈pre,p y=false)(hx:p x=true):l.find? p=some x:=by
 rw[h,ydn];have:pre.find? p= .none:=by
  rw[ybF];intro y hy;rw[hp y hy];exact yaV
 rw[this];simp[hx]
theorem zhq{α:Type}{p:α->Bool}{l:List α}(hp:∀y∈l,p y=false):l.find? p= .none:=by
 rw[ybF];intro y hy;rw[hp y hy];exact yaV
theorem CutOf_ok{ov:Value}{R:List RecL}(hz:ZnAt w0 w ov lv o R)(hn:Row w nv (n.map vs))(hok:NmS n):
  Fn prog 196 #[.agg #[ov,lv],nv] w (λ v w'=>Ext w w'/\∃cv,v= .tuple #[cv,.bool (cutL o R n).isSome]/\Row w' cv (((cutL o R n).getD []).map vs)):=by
 obtain⟨ao,co,hov,_⟩:=id hz.org;obtain⟨al,cl,hlv,_⟩:=hz.recs.open;obtain⟨an,cn,hnv,_⟩:=id hn;rw[ylm]at hov hnv;rw[hov,hlv,hnv];refine enx func196 ntmps196 ?_;refine gz0 ?_;rw[←hov,←hlv,←hnv];simp only[zai];refine zek ?_;intro w1 hE1 hs1 hA hB hC;have p0:zad w1 (some ⟨w.heap.size,0,.none⟩)=some ov:=zab hA rfl;have hz1:=hz.ext hE1;refine rq ?_;intro gd K hgd hK;refine sgz (az2 p0 yad) ?_;refine yfm (zbF _ _ _ _ _ (hn.ext hE1) hz1.org hok.lb hz.lb (by have:=hok.len;omega) (by have:=hz.ol;omega)) ?_;rintro _ w2 ⟨rfl,hE2⟩;refine sg0 ?_;apply hK;have hB2:=hE2.at hB;have hC2:=hE2.at hC;have hEw2:=hE1.trans hE2;have fin:∀{σ':Sto} {Z:World} {cv:Value} {b:Bool},σ' 4= .pointer (some ⟨w.heap.size+1,0,.none⟩)->σ' 5= .pointer (some ⟨w.heap.size+1+1,0,.none⟩)->Z.heap[w.heap.size+1]? =some (.cells #[cv] 27 (0,0))->Z.heap[w.heap.size+1+1]? =some (.cells #[.bool b] 4 (0,0))->
   resV prog 30 σ' Z [.cell 4 27,.cell 5 4]=some [cv,.bool b]:=λ h4 h5 c4 c5=>
  zff (x:=⟨w.heap.size+1,0,.none⟩) ((vq1 h4)) rfl rfl (zab c4 rfl) (zff (x:=⟨w.heap.size+1+1,0,.none⟩) ((vq1 h5)) rfl rfl (zab c5 rfl) zas)
 refine wcz ?_ ?_
 ·intro hu;simp only[yao]at hu;have hcut:cutL o R n= .none:=by unfold cutL;rw[hu];rfl
  refine rqz ?_;intro gd K hgd hK;refine sg0 ?_;refine za6 (P:=prog) (t:=27) (j:=0) (l:=[.slice .none 0 0]) hB2 sM rfl rfl rfl ?_;intro z1 hz1' hbz1 hkz1;refine sg0 ?_;refine za6 (P:=prog) (t:=4) (j:=0) (l:=[.bool false]) ((hkz1.block _ (by have:=hE2.size;omega) oM).trans hC2) sM rfl rfl rfl ?_;intro z2 hz2' hbz2 hkz2;refine sg0 ?_;apply hK;have hkz:Keep (λ b=>b=w.heap.size+1\/b=w.heap.size+1+1) w2 z2:=(hkz1.mono (λ b _ h=> .inl h)).trans (hkz2.mono (λ b _ h=> .inr h));have c4:=(hkz2.block (w.heap.size+1) (by have:=hE2.size;omega) oM).trans hbz1;refine cZ ?_;refine zau (.inr rfl) ntmps196 rfl (fin vq0 vq0 (sU c4) (sU hbz2)) ?_;exact⟨ykt hEw2 rfl (λ b hb=>oM) hkz,_,by rw[hcut];rfl,by rw[hcut];exact⟨.none,0,rfl,ynl _,λ j h=>absurd h sM⟩⟩
 intro hu;simp only[yaw]at hu;have hA2:=hE2.at hA;have d2:=zah (n:=2) (l:=[ov,lv]) hA2 rfl;refine rqz ?_;intro gd K hgd hK;refine sgz d2 ?_;refine yfm (zkf ⟨_,_,_,hnv⟩) ?_;rintro _ w3 ⟨rfl,hE3,hs3,hbz,hbn⟩;refine sg0 ?_;apply hK;have hEw3:=hEw2.trans hE3;have hz3:=hz.ext hEw3;have hn3:=hn.ext hEw3;have s1:=hE1.size;have s2:=hE2.size;have hA3:=hE3.at hA2;have hB3:=hE3.at hB2;have hC3:=hE3.at hC2;refine cZ ?_;refine zd4 (g:=197) (cap:=#[.pointer (some ⟨w2.heap.size+1,0,.none⟩),.pointer (some ⟨w2.heap.size,0,.none⟩)]) vq0 rfl (znO (C:=λ b=>b=w.heap.size+1\/b=w.heap.size+1+1) hbn hbz hn3 hz3.org oM oM hz.ol hok.len) ykr (ynl _) (λ b hb=>oM)
  (λ x B args h=>by obtain⟨v,h,_⟩:=h;rw[h];rfl)
  (λ pre B=>Ext w3 B/\∀x∈pre,cutP o R x=false)
  (λ c pre B=>c= .ret/\∃pre' x cv,pre=pre'++ [x]/\cutP o R x=true/\(∀y∈pre',cutP o R y=false)/\Ext w B/\B.heap[w.heap.size+1]? =some (.cells #[cv] 27 (0,0))/\B.heap[w.heap.size+1+1]? =some (.cells #[.bool true] 4 (0,0))/\Row B cv (x.map vs)/\BlkB (w3.heap.size+2) B cv) ?_ ?_ ?_ ?_ ?_ ?_
 ·rintro pre B B' ⟨hEB,hp⟩ hk;exact⟨ykt hEB rfl (λ b hb=>by unfold two at hb;omega) hk,hp⟩
 ·rintro c pre B B' ⟨rfl,pre',x,cv,rfl,h1,h2,hEB,c4,c5,hr,hb⟩ hk;exact⟨rfl,pre',x,cv,rfl,h1,h2,ykt hEB rfl (λ b hb=>by unfold two at hb;omega) hk,(hk.block _ (yaa.1 c4).1 (by unfold two;omega)).trans c4,(hk.block _ (yaa.1 c5).1 (by unfold two;omega)).trans c5,hr.keepB hk hb (λ b hb _=>by unfold two;omega),hb.ext hk.size⟩
 ·exact⟨Keep.refl _ _,λ x h=>absurd h sM⟩
 ·rintro lp pre x suf B args hxs hszB ⟨hEB,hp⟩ ⟨xv,rfl,hxr⟩;have hxn:∃k,k<=n.length/\x=n.drop k:=by
   have:x∈zbS o n:=by rw[hxs];simp
   unfold zbS at this
   split at this
   ·obtain⟨i,hi,h⟩:=zb3.1 this;exact⟨i,oM,h⟩
   ·cases this
  obtain⟨kx,hkx,rfl⟩:=hxn;obtain⟨x,hx⟩:∃x,n.drop kx=x:=⟨_,rfl⟩;have hxok:NmS x:=hx▸hok.drop kx;rw[hx]at hxr hxs ⊢;obtain⟨ax,cx,hxv,_⟩:=id hxr;rw[ylm]at hxv;have hol:=hz.ol;have hxl:=hxok.len;refine rq ?_;intro gd K hgd hK;refine sg0 ?_;apply hK;refine zao ?_;refine⟨rfl,KeepB.refl _ _ _,λ Y hY=>?_⟩;have hEY:Ext w3 Y:=ykt hEB rfl (λ b hb=>by unfold two at hb;omega) hY;have hzY:=hz3.ext hEY;have p0:zad Y (some ⟨w.heap.size,0,.none⟩)=some ov:=zab (hEY.at hA3) rfl;have d2:=zah (n:=2) (l:=[ov,lv]) (hEY.at hA3) rfl;have hYs:=hY.size;rw[hov]at p0;refine cZ ?_;refine zaw (Q:=λ e σ' ds' v'=>e= .normal/\ds'=[]/\σ' 6=xv/\σ' 4= .pointer (some ⟨w.heap.size+1,0,.none⟩)/\σ' 5= .pointer (some ⟨w.heap.size+1+1,0,.none⟩)/\Ext Y v'/\σ' 26= .bool (cutP o R x)) ?_ ?_
  ·by_cases hl:(o.length:Int)<(x.length:Int)
   ·refine rq ?_;intro gd K hgd hK;have hg6:=gk 6 22 hgd rfl;try simp (disch:=first|omega|assumption|rfl) only[go_sem,hxv,p0,d2,yet hl,yad,↓hg6]
    rw[←hxv];refine yfm (Has_ok hzY (hxr.ext hEY) hxok) ?_;rintro _ Y2 ⟨rfl,hY2⟩;refine sg0 ?_;apply hK;refine⟨rfl,rfl,vq0,vq0,vq0,hY2,?_⟩;unfold cutP hasL;rw[show decide (o.length<x.length)=true from yet oM,ybN];simp only[go_sem]
   ·refine rq ?_;intro gd K hgd hK;have hg6:=gk 6 22 hgd rfl;try simp (disch:=first|omega|assumption|rfl) only[go_sem,hxv,p0,yef hl,yad,↓hg6]
    rw[←hxv];apply hK;refine⟨rfl,rfl,vq0,vq0,vq0,Keep.refl _ _,?_⟩;unfold cutP hasL;rw[show decide (o.length<x.length)=false from yef oM,ycc];simp only[go_sem]
  rintro _ σ1 _ Y1 ⟨rfl,rfl,h6,h4,h5,hY1,h26⟩;refine cZ ?_;refine zaG (t:=cutP o R x) ((vq1 h26)) ?_ ?_
  ·intro ht;refine rqz ?_;intro gd K hgd hK;refine sgz (az3 h6 h4 h5) ?_;refine yfm (zd6 (hxr.ext (hEY.trans hY1)) hxok.len) ?_;rintro u Y2 ⟨hou,hY2⟩;refine sg0 ?_;obtain⟨au,cu,hu'⟩:=hou.slice;have hur:=hou.row;have hub:=hou.blk;rw[hu']at hur hub;rw[ylm]at hu' hur hub;rw[hu'];obtain⟨_,_,he,hcc,hgg⟩:=id hur;injection he with e1 e2 e3
   subst e1 e3;rw[ylm]at hcc;refine yfm (P_cs.Clip_ok hcc) ?_;rintro _ y0 ⟨rfl,hy0⟩;refine sgz (az2 h4 h5) ?_;rw[hy0];clear hy0 y0;have hYY:=(hEY.trans hY1).trans hY2;have s5:=hY1.size;have s6:=hY2.size;refine za6 (P:=prog) (t:=27) (j:=0) (l:=[.slice .none 0 0]) (Ext.at hYY hB3) sM rfl rfl rfl ?_;intro z1 hz1' hbz1 hkz1;refine sgz h5 ?_;refine za6 (P:=prog) (t:=4) (j:=0) (l:=[.bool false]) ((hkz1.block _ oM oM).trans (Ext.at hYY hC3)) sM rfl rfl rfl ?_;intro z2 hz2' hbz2 hkz2;refine sg0 ?_;apply hK;have hkz:Keep (λ b=>b=w.heap.size+1\/b=w.heap.size+1+1) Y2 z2:=(hkz1.mono (λ b _ h=> .inl h)).trans (hkz2.mono (λ b _ h=> .inr h));have c4:=(hkz2.block (w.heap.size+1) oM oM).trans hbz1;have hrc:Row Y2 (.slice au x.length x.length) (x.map vs):=⟨au,x.length,by rw[ylm],by rw[ylm];exact ynl _,hgg⟩;have hbc:BlkB (w3.heap.size+2) Y2 (.slice au x.length x.length):=hub.same.mono oM;refine cZ ?_;refine⟨⟨rfl,pre,x,_,rfl,ht,hp,ykt (hEw3.trans hYY) rfl (λ b hb=>oM) hkz,by simpa using c4,by simpa using hbz2,hrc.keepB hkz hbc (λ b hb _=>oM),hbc.ext hkz.size⟩,KeepB.trans ((hY1.trans hY2).toB oM (λ _ _ h=>h.elim)) (hkz.toB oM (λ i _ h=>h))⟩
  ·intro ht;refine cZ ?_;refine⟨⟨hEY.trans hY1,λ y hy=>?_⟩,hY1.toB oM (λ _ _ h=>h.elim)⟩;rcases yai.1 hy with hy|hy
   ·exact hp y hy
   ·rw[yae.1 hy];exact ht
 ·intro B hszB ⟨hEB,hp⟩ hD;have hcut:cutL o R n= .none:=by unfold cutL;rw[hu];exact zhq hp
  refine rqz ?_;intro gd K hgd hK;refine sg0 ?_;refine za6 (P:=prog) (t:=27) (j:=0) (l:=[.slice .none 0 0]) (hEB.at hB3) sM rfl rfl rfl ?_;intro z1 hz1' hbz1 hkz1;refine sg0 ?_;refine za6 (P:=prog) (t:=4) (j:=0) (l:=[.bool false]) ((hkz1.block _ oM oM).trans (hEB.at hC3)) sM rfl rfl rfl ?_;intro z2 hz2' hbz2 hkz2;refine sg0 ?_;apply hK;have hkz:Keep (λ b=>b=w.heap.size+1\/b=w.heap.size+1+1) B z2:=(hkz1.mono (λ b _ h=> .inl h)).trans (hkz2.mono (λ b _ h=> .inr h));have c4:=(hkz2.block (w.heap.size+1) oM oM).trans hbz1;refine cZ ?_;refine zbC (.inr rfl) ntmps196 rfl ((hkz.block _ oM oM).trans hD) ?_;intro Z hkZ hsZ;refine⟨_,fin vq0 vq0 ((hkZ.block _ oM oM).trans (sU c4)) ((hkZ.block _ oM oM).trans (sU hbz2)),ykt (ykt (hEw3.trans hEB) rfl (λ b hb=>oM) hkz) rfl (λ b hb=>oM) hkZ,_,by rw[hcut];rfl,by rw[hcut];exact⟨.none,0,rfl,ynl _,λ j h=>absurd h sM⟩⟩
 ·rintro c pre x0 suf B hszB hxs ⟨rfl,pre',x,cv,hpre,h1,h2,hEB,c4,c5,hr,hb⟩ hD;obtain⟨rfl,h3⟩:=yci hpre rfl;have hx0:x0=x:=sU h3;subst hx0;have hcut:cutL o R n=some x0:=by unfold cutL;rw[hu];exact zkQ hxs h2 h1
  refine cZ ?_;refine zbC (.inr rfl) ntmps196 rfl hD ?_;intro Z hkZ hsZ;refine⟨_,fin vq0 vq0 ((hkZ.block _ oM oM).trans c4) ((hkZ.block _ oM oM).trans c5),ykt hEB rfl (λ b hb=>oM) hkZ,cv,by rw[hcut];rfl,by rw[hcut];exact hr.keepB hkZ hb (λ b hb _=>oM)⟩
theorem ze5{id:Nat}{Q:Post}{e:Exit}{σ:Sto}{ds:List Deferred}(he:e= .normal\/e= .exit id)(h:Q .normal σ ds w):zdB id Q e σ ds w:=by
 rcases he with rfl|rfl
 ·exact za8 h
 ·exact zbj h
theorem Where_ok{ov:Value}{R:List RecL}(hz:ZnAt w0 w ov lv o R)(hn:Row w nv (n.map vs))(hok:NmS n):
  Fn prog 157 #[.agg #[ov,lv],nv] w (λ v w'=>v=vi (zf5 o R n)/\Ext w w'):=by
 obtain⟨ao,co,hov,_⟩:=id hz.org;obtain⟨al,cl,hlv,_⟩:=hz.recs.open;obtain⟨an,cn,hnv,_⟩:=id hn;rw[ylm]at hov hnv;rw[hov,hlv,hnv];refine enx func157 ntmps157 ?_;refine gz0 ?_;rw[←hov,←hlv,←hnv];refine zav ?_;intro w1 hE1 hs1 hA;have p0:zad w1 (some ⟨w.heap.size,0,.none⟩)=some ov:=zab hA rfl;have hz1:=hz.ext hE1;refine rq ?_;intro gd K hgd hK;refine sgz (az2 p0 yad) ?_;refine yfm (zbF _ _ _ _ _ (hn.ext hE1) hz1.org hok.lb hz.lb (by have:=hok.len;omega) (by have:=hz.ol;omega)) ?_;rintro _ w2 ⟨rfl,hE2⟩;refine sg0 ?_;apply hK;refine wcz ?_ ?_
 ·intro hu;simp only[yao]at hu;refine gz0 ?_;refine rt0 ntmps157 ?_;exact⟨by unfold zf5;rw[hu];rfl,hE1.trans hE2⟩
 intro hu;simp only[yaw]at hu;have d2:=zah (n:=2) (l:=[ov,lv]) (hE2.at hA) rfl;refine rqz ?_;intro gd K hgd hK;refine sgz d2 ?_;refine yfm (CutOf_ok (hz1.ext hE2) (hn.ext (hE1.trans hE2)) hok) ?_;rintro _ w3 ⟨hE3,cv,rfl,hcv⟩;refine sg0 ?_;apply hK;obtain⟨ac,cc,hcv',_⟩:=id hcv;rw[ylm]at hcv';have hE:=(hE1.trans hE2).trans hE3;cases hc:cutL o R n with
 |none=>
  rw[hc]at hcv' hcv;refine gz0 ?_;refine wc0 ?_ ?_
  ·intro _;refine gz0 ?_;refine rt0 ntmps157 ?_;exact⟨by unfold zf5;rw[hu,hc];rfl,hE⟩
  ·intro h;simp at h
 |some c=>
  rw[hc]at hcv' hcv;simp only[ybS]at hcv';refine gz0 ?_;refine wc0 ?_ ?_
  ·intro h;simp at h
  intro _;refine gz (az2 hcv' hnv) ?_;refine wc0 ?_ ?_
  ·intro hl;simp only[ydT]at hl;refine gz0 ?_;refine rt0 ntmps157 ?_;refine⟨?_,hE⟩;unfold zf5;rw[hu,hc];simp only[if_true];rw[if_pos oM]
  ·intro hl;simp only[ydF]at hl;refine gz0 ?_;refine rt0 ntmps157 ?_;refine⟨?_,hE⟩;unfold zf5;rw[hu,hc];simp only[if_true];rw[if_neg oM]
theorem zir{α:Type}{p:α->Bool}{l pre suf:List α}{x:α}(h:l=pre++x::suf)(hp:∀y∈pre,p y=true)(hx:p x=false):l.takeWhile p=pre:=by
 rw[h,ycm hp,List.takeWhile_cons_of_neg (by rw[hx];exact yaV),yaF]
theorem zhD{α:Type}{p:α->Bool}{l:List α}(hp:∀y∈l,p y=true):l.takeWhile p=l:=by
 have:=ycm (l₂:=[]) hp;simpa using this
theorem zke{ov:Value}{R:List RecL}(hz:ZnAt w0 w ov lv o R)(hn:Row w nv (n.map vs))(hok:NmS n):
  Fn prog 205 #[.agg #[ov,lv],nv] w (λ v w'=>Row w' v ((zcU o R n).map vs)/\Ext w w'):=by
 obtain⟨ao,co,hov,_⟩:=id hz.org;obtain⟨al,cl,hlv,_⟩:=hz.recs.open;obtain⟨an,cn,hnv,_⟩:=id hn;rw[ylm]at hov hnv;rw[hov,hlv,hnv];refine enx func205 ntmps205 ?_;repeat refine c_r ?_
 refine rg0 ?_;repeat refine c_r ?_
 rw[←hov,←hlv,←hnv];refine zav ?_;intro w1 hE1 hs1 hA;refine rq ?_;intro gd K hgd hK;try simp only[go_sem]
 refine zhA (z:=vs []) (by rfl) (by rfl) (by rfl) (by rfl) ?_;intro w2 hE2 hs2 ho2;try simp only[go_sem]
 have hB3:=zam w2 (.cells #[.slice .none 0 0] 27 (0,0));have hE3:=yea w2 (.cells #[.slice .none 0 0] 27 (0,0));have hs3:=zai w2 (.cells #[.slice .none 0 0] 27 (0,0));revert hB3 hE3 hs3;generalize w2.alloc (.cells #[.slice .none 0 0] 27 (0,0))=w3;intro hB3 hE3 hs3;refine za6 (P:=prog) (t:=27) (j:=0) (l:=[.slice .none 0 0]) hB3 (by simp) rfl rfl rfl ?_;intro w4 hs4 hB4 hk4;try simp only[go_sem]
 refine hK _ _ ?_;clear hK hgd;clear K;try clear gd
 obtain⟨b5,hb5⟩:∃b5,w2.heap.size=b5:=⟨_,rfl⟩;rw[hb5]at hB4 hk4 hs3 ⊢;have hE14:Ext w1 w4:=ykt (hE2.trans hE3) rfl (λ b hb=>by have:=hE2.size;omega) hk4;have hE4:=hE1.trans hE14;have hA4:=hE14.at hA;have hro4:Row w4 (.slice (some ⟨w1.heap.size,0,.none⟩) 0 0) (([]:Nm).map vs):=⟨_,_,rfl,ynl _,λ j h=>absurd h (by simp)⟩;simp only[ybi]at hB4;have hbw:w.heap.size<b5:=by have:=hE2.size;omega
 have hb4:b5<w4.heap.size:=oM;have p0:zad w4 (some ⟨w.heap.size,0,.none⟩)=some ov:=zab hA4 rfl;have hz4:=hz.ext hE4;have hn4:=hn.ext hE4;clear hk4 hs4 hB3 hE3 hs3 ho2 hs2;repeat refine c_r ?_
 refine rq ?_;intro gd K hgd hK;try simp (disch:=first|omega|assumption|rfl) only[go_sem,p0,yad]
 refine yfm (zbF _ _ _ _ _ hn4 hz4.org hok.lb hz.lb (by have:=hok.len;omega) (by have:=hz.ol;omega)) ?_;rintro _ w5 ⟨rfl,hE5⟩;try simp only[go_sem]
 refine hK _ _ ?_;clear hK hgd;clear K;try clear gd
 repeat refine c_r ?_
 refine wc0 ?_ ?_
 ·intro hu;simp only[yao]at hu;have q5:zad w5 (some ⟨b5,0,.none⟩)=some (.slice (some ⟨w1.heap.size,0,.none⟩) 0 0):=zaa hE5 (zab hB4 rfl);repeat (first|refine c_r ?_| (refine zcx (by rfl) ?_;intro gd K hgd hK;simp (disch:=first|omega|assumption|rfl) only[go_sem,q5];refine hK _ _ ?_;clear hK hgd;clear K gd))
  refine rt0 ntmps205 ?_;refine⟨?_,hE4.trans hE5⟩;have:zcU o R n=[]:=by unfold zcU;rw[hu];rfl
  rw[this];exact hro4.ext hE5
 intro hu;simp only[yaw]at hu;have d2:=zah (n:=2) (l:=[ov,lv]) (hE5.at hA4) rfl;have hz5:=hz4.ext hE5;repeat refine c_r ?_
 refine rq ?_;intro gd K hgd hK;try simp (disch:=first|omega|assumption|rfl) only[go_sem,d2]
 refine yfm (zkf ⟨_,_,_,hnv⟩) ?_;rintro _ w6 ⟨rfl,hE6,hs6,hbz,hbn⟩;try simp only[go_sem]
 refine hK _ _ ?_;clear hK hgd;clear K;try clear gd
 have hE46:=hE5.trans hE6;have hz6:=hz5.ext hE6;have hn6:=hn4.ext hE46;have hA6:=Ext.at hE46 hA4;have hB6:=Ext.at hE46 hB4;have s5:=hE5.size;have s6:=hE4.size;have hdm:∀{x},x∈zbS o n->NmS x:=fun {x} hx=>by
  unfold zbS at hx
  split at hx
  ·obtain⟨i,hi,h⟩:=zb3.1 hx;rw[h];exact hok.drop i
  ·cases hx
 repeat refine c_r ?_
 refine zaw (Q:=λ e σ' ds' v'=>(e= .normal\/e= .exit 0)/\ds'=[{target:= .collected w6.heap.size,args:=#[]}]/\v'.heap[w6.heap.size]? =some (.deferred (some []))/\σ' 5= .pointer (some ⟨b5,0,.none⟩)/\∃xv,v'.heap[b5]? =some (.cells #[xv] 27 (0,0))/\Row w xv ((zcU o R n).map vs)/\KeepB w6.heap.size (λ b=>b=b5) w6 v') ?_ ?_
 ·refine zd4 (g:=197) (cap:=#[.pointer (some ⟨w5.heap.size+1,0,.none⟩),.pointer (some ⟨w5.heap.size,0,.none⟩)]) vq0 rfl (znO (C:=λ b=>b=b5) hbn hbz hn hz6.org oM oM hz.ol hok.len) ykr (ynl _) (λ b hb=>oM)
   (λ x B args h=>by obtain⟨v,h,_⟩:=h;rw[h];rfl)
   (λ pre B=>KeepB w6.heap.size (λ b=>b=b5) w6 B/\(∀x∈pre,zbH o R x=true)/\∃xv,B.heap[b5]? =some (.cells #[xv] 27 (0,0))/\Row w xv ((pre.getLast?.getD []).map vs))
   (λ c pre B=>c= .exit 0/\KeepB w6.heap.size (λ b=>b=b5) w6 B/\∃pre' x,pre=pre'++ [x]/\zbH o R x=false/\(∀y∈pre',zbH o R y=true)/\∃xv,B.heap[b5]? =some (.cells #[xv] 27 (0,0))/\Row w xv ((pre'.getLast?.getD []).map vs)) ?_ ?_ ?_ ?_ ?_ ?_
  ·rintro pre B B' ⟨hK,hp,xv,hb,hr⟩ hk;exact⟨hK.trans (hk.toB (by have:=hK.size;omega) (λ i hi h=>by unfold two at h;omega)),hp,xv,(hk.block _ (yaa.1 hb).1 (by unfold two;omega)).trans hb,hr⟩
  ·rintro c pre B B' ⟨rfl,hK,pre',x,rfl,h1,h2,xv,hb,hr⟩ hk;exact⟨rfl,hK.trans (hk.toB (by have:=hK.size;omega) (λ i hi h=>by unfold two at h;omega)),pre',x,rfl,h1,h2,xv,(hk.block _ (yaa.1 hb).1 (by unfold two;omega)).trans hb,hr⟩
  ·exact⟨KeepB.refl _ _ _,λ x h=>absurd h (by simp),_,hB6,by
    obtain⟨a,c,e,h1,h2⟩:=hro4;exact⟨a,c,e,h1,λ j h=>absurd h (by simp)⟩⟩
  ·rintro lp pre x suf B args hxs hszB ⟨hK,hp,xv0,hb,hr⟩ ⟨xv,rfl,hxr⟩;have hxok:NmS x:=hdm (by rw[hxs];simp);refine rq ?_;intro gd K hgd hK;try simp only[go_sem]
   refine hK _ _ ?_;clear hK hgd;clear K;try clear gd
   refine zao ?_;refine⟨rfl,KeepB.refl _ _ _,λ Y hY=>?_⟩;have hKY:KeepB w6.heap.size (λ b=>b=b5) w6 Y:=hK.trans (hY.toB (by have:=hK.size;omega) (λ i hi h=>by unfold two at h;omega));have hEY:Ext w4 w6:=hE46;have hbY:=(hY.block _ (yaa.1 hb).1 (by unfold two;omega)).trans hb;have hAY:Y.heap[w.heap.size]? =some (.cells #[ov,lv] 60 (0,0)):=(hKY.block _ oM oM).trans hA6;have hwY:Ext w Y:=zdi (hE4.trans hE46) hKY oM (λ b hb=>oM);have d2:=zah (n:=2) (l:=[ov,lv]) hAY rfl;have hYs:=hKY.size;have hYB:=hY.size;have hzY:=hz.ext hwY;have hxY:Row Y xv (x.map vs):=hxr.ext hwY;repeat refine c_r ?_
   refine rq ?_;intro gd K hgd hK;try simp (disch:=first|omega|assumption|rfl) only[go_sem,d2]
   refine yfm (zjv hzY hxY hxok) ?_;rintro _ Y2 ⟨rfl,hY2⟩;try simp only[go_sem]
   refine hK _ _ ?_;clear hK hgd;clear K;try clear gd
   have hKY2:=hKY.trans (hY2.toB (n0:=w6.heap.size) (C:=λ b=>b=b5) oM (λ _ _ h=>h.elim));have hbY2:=Ext.at hY2 hbY;repeat refine c_r ?_
   refine wc0 ?_ ?_
   ·intro hne;simp only[yao]at hne;repeat refine c_r ?_
    exact⟨⟨rfl,hKY2,pre,x,rfl,hne,hp,xv0,hbY2,hr⟩,hY2.toB oM (λ _ _ h=>h.elim)⟩
   ·intro hex;simp only[yaw]at hex;obtain⟨ax,nx,cx,hxv⟩:∃a n c,xv= .slice a n c:=by
     obtain⟨a,c,h,_⟩:=hxr;exact⟨_,_,_,h⟩
    repeat refine c_r ?_
    refine rq ?_;intro gd K hgd hK;try simp only[go_sem]
    refine za6 (P:=prog) (t:=27) (j:=0) (l:=[xv0]) hbY2 (by simp) (by rw[hxv];rfl) rfl rfl ?_;intro z1 hz1' hbz1 hkz1;try simp only[go_sem]
    refine hK _ _ ?_;clear hK hgd;clear K;try clear gd
    repeat refine c_r ?_
    have hkz:=hkz1.toB (n0:=w6.heap.size) (C:=λ b=>b=b5) (by have:=hY2.size;omega) (λ i _ h=>h);refine⟨⟨hKY2.trans hkz,λ y hy=>?_,xv,by simpa using hbz1,by simpa using hxr⟩,(hY2.toB oM (λ _ _ h=>h.elim)).trans (hkz1.toB (by have:=hY2.size;omega) (λ i _ h=>h))⟩;rcases yai.1 hy with hy|hy
    ·exact hp y hy
    ·rw[yae.1 hy];exact hex
  ·intro B hszB ⟨hK,hp,xv,hb,hr⟩ hD;refine⟨.inl rfl,rfl,hD,vq0,xv,hb,?_,hK⟩;have:zcU o R n=(zbS o n).getLast?.getD []:=by unfold zcU;rw[hu,zhD hp];rfl
   rw[this];exact hr
  ·rintro c pre x0 suf B hszB hxs ⟨rfl,hK,pre',x,hpre,h1,h2,xv,hb,hr⟩ hD;obtain⟨rfl,h3⟩:=yci hpre rfl;have hx0:x0=x:=by simpa using h3
   subst hx0;refine zew ?_;refine⟨.inr rfl,rfl,hD,vq0,xv,hb,?_,hK⟩;have:zcU o R n=pre.getLast?.getD []:=by unfold zcU;rw[hu,zir hxs h2 h1];rfl
   rw[this];exact hr
 ·rintro e σ' _ v' ⟨he,rfl,hD,h5,xv,hb,hr,hK⟩;refine ze5 he ?_;have hwv:Ext w v':=zdi (hE4.trans hE46) hK oM (λ b hb=>oM);have q5:zad v' (some ⟨b5,0,.none⟩)=some xv:=zab hb rfl;have hel:(zcU o R n).length<=1000000000000:=by
   unfold zcU;rw[hu];simp only[if_true];cases hq:((zbS o n).takeWhile (zbH o R)).getLast? with
   |none=>simp
   |some x=>
    have h1:=List.mem_of_getLast? hq;exact(hdm ((ycP _).subset h1)).len
  repeat refine c_r ?_
  refine rq ?_;intro gd K hgd hK;try simp (disch:=first|omega|assumption|rfl) only[go_sem,h5,q5]
  refine yfm (zd6 (hr.ext hwv) hel) ?_;rintro u Y2 ⟨hou,hY2⟩;try simp only[go_sem]
  obtain⟨au,cu,hu'⟩:=hou.slice;have hur:=hou.row;have hub:=hou.blk;rw[hu']at hur hub;rw[ylm]at hu' hur hub;rw[hu'];obtain⟨_,_,he,hcc,hgg⟩:=id hur;injection he with e1 e2 e3
  subst e1 e3;rw[ylm]at hcc;refine yfm (P_cs.Clip_ok hcc) ?_;rintro _ y0 ⟨rfl,hy0⟩;try simp only[go_sem]
  rw[hy0];clear hy0 y0;refine hK _ _ ?_;clear hK hgd;clear K;try clear gd
  repeat refine c_r ?_
  have hrc:Row Y2 (.slice au (zcU o R n).length (zcU o R n).length) ((zcU o R n).map vs):=⟨au,(zcU o R n).length,by rw[ylm],by rw[ylm];exact ynl _,hgg⟩;have s7:=hK.size;refine zcY (v:= .slice au (zcU o R n).length (zcU o R n).length) (.inr rfl) (by rfl) ntmps205 vq0 (Ext.at hY2 hD) ?_;intro Z hkZ hsZ;have hlt:w6.heap.size<v'.heap.size:=(yaa.1 hD).1;exact⟨hrc.keepB hkZ (hub.same.mono (B':=w6.heap.size+1) oM) (λ b hb _=>oM),ykt (hwv.trans hY2) rfl (λ b hb=>oM) hkZ⟩
theorem zkT{R:List RecL}:(zcU o R n).length<=n.length:=by
 unfold zcU
 split
 ·cases hq:((zbS o n).takeWhile (zbH o R)).getLast? with
  |none=>simp
  |some x=>
   have h1:=(ycP _).subset (List.mem_of_getLast? hq);unfold zbS at h1
   split at h1
   ·obtain⟨i,hi,h⟩:=zb3.1 h1;simp only[ybS];rw[h];simp
   ·cases h1
 ·simp
theorem encl_lb{R:List RecL}(hn:LB n):LB (zcU o R n):=by
 unfold zcU
 split
 ·cases hq:((zbS o n).takeWhile (zbH o R)).getLast? with
  |none=>intro l hl;cases hl
  |some x=>
   have h1:=(ycP _).subset (List.mem_of_getLast? hq);unfold zbS at h1
   split at h1
   ·obtain⟨i,hi,h⟩:=zb3.1 h1;simp only[ybS];rw[h];exact hn.drop i
   ·cases h1
 ·intro l hl;cases hl
theorem zmn{R:List RecL}(h:NmS n)(hl:n.length<=1000000):NmS (zdp o R n):=by
 refine⟨λ l hl=>?_,?_⟩
 ·rcases yay.1 hl with rfl|hl
  ·decide
  ·exact encl_lb h.lb l hl
 ·have:=zkT (o:=o) (R:=R) (n:=n);unfold zdp;rw[yah];omega
theorem zn5{ov:Value}{R:List RecL}(hz:ZnAt w0 w ov lv o R)(hn:Row w nv (n.map vs))(hok:NmS n)(hnl:n.length<=1000000):
  Fn prog 164 #[.agg #[ov,lv],nv] w (λ v w'=>Ext w w'/\∃sv,v= .tuple #[sv,.bool (zcp o R n).isSome]/\Row w' sv (((zcp o R n).getD []).map vs)):=by
 obtain⟨ao,co,hov,_⟩:=id hz.org;obtain⟨al,cl,hlv,_⟩:=hz.recs.open;have hst:=zmn (o:=o) (R:=R) hok hnl;rw[hov,hlv];refine enx func164 ntmps164 ?_;refine gz0 ?_;rw[←hov,←hlv];refine zav ?_;intro w1 hE1 hs1 hA;have d2:=zah (n:=2) (l:=[ov,lv]) hA rfl;have hz1:=hz.ext hE1;refine rq ?_;intro gd K hgd hK;refine sgz d2 ?_;refine yfm (zke hz1 (hn.ext hE1) hok) ?_;rintro ev w2 ⟨hev,hE2⟩;refine sg0 ?_;refine yfm (zf4 w2 ev starL (zcU o R n) hev (by have:=zkT (o:=o) (R:=R) (n:=n);omega)) ?_;rintro sv w3 ⟨hsv,hE3⟩;refine sg0 ?_;have hsr:Row w3 sv ((zdp o R n).map vs):=hsv.1;obtain⟨as1,cs1,hsv',_⟩:=id hsr;have hB3:=zam w3 (.cells #[.slice .none 0 0] 27 (0,0));have hE4:=yea w3 (.cells #[.slice .none 0 0] 27 (0,0));have hs4:=zai w3 (.cells #[.slice .none 0 0] 27 (0,0));revert hB3 hE4 hs4;generalize w3.alloc (.cells #[.slice .none 0 0] 27 (0,0))=w4;intro hB3 hE4 hs4;refine za6 (P:=prog) (t:=27) (j:=0) (l:=[.slice .none 0 0]) hB3 sM (by rw[hsv'];rfl) rfl rfl ?_;intro w5 hs5 hB5 hk5;refine sg0 ?_;apply hK;simp only[ybi]at hB5;have hE35:Ext w3 w5:=ykt hE4 rfl (λ b hb=>oM) hk5;have hE15:=(hE2.trans hE3).trans hE35;have hz5:=hz1.ext hE15;have p1:zad w5 (some ⟨w.heap.size,1,.none⟩)=some lv:=zab (Ext.at hE15 hA) rfl;have q1:zad w5 (some ⟨w3.heap.size,0,.none⟩)=some sv:=zab hB5 rfl;refine rqz ?_;intro gd K hgd hK;refine sgz (az2 p1 yn0) ?_
 refine yfm (zeG (cap:=[.pointer (some ⟨w3.heap.size,0,.none⟩)]) hz5.recs (zjA hz5.e0 hB5 (hsr.ext hE35) hst hz.ok) hz.rl) ?_;rintro _ w6 ⟨rfl,hE6⟩;refine sg0 ?_;apply hK;have hE:=(hE1.trans hE15).trans hE6;have q1':=zaa hE6 q1;have hany:(R.any λ r=>decide (zag r.owner=zag (zdp o R n)))=ownsL R (zdp o R n):=rfl;rw[hany];refine wcz ?_ ?_
 ·intro h;simp only[yao]at h;refine gz0 ?_;have hso:zcp o R n= .none:=by unfold zcp;rw[h];rfl
  refine zau (.inr rfl) ntmps164 rfl (zaj (v:= .slice .none 0 0) vr0 (zaj (v:= .bool false) vr0 zas)) ?_;exact⟨hE,_,by rw[hso];rfl,by rw[hso];exact⟨.none,0,rfl,ynl _,λ j h=>absurd h sM⟩⟩
 ·intro h;simp only[yaw]at h;refine gz q1' ?_;have hso:zcp o R n=some (zdp o R n):=by unfold zcp;rw[h];rfl
  refine zau (.inr rfl) ntmps164 rfl (zaj (v:=sv) vr0 (zaj (v:= .bool true) vr0 zas)) ?_;exact⟨hE,_,by rw[hso];rfl,by rw[hso];exact hsr.ext (hE35.trans hE6)⟩
theorem Glue_ok{ov hv:Value}{h:Nm}{R:List RecL}(hz:ZnAt w0 w ov lv o R)(hn:Row w hv (h.map vs))(hok:NmS h):
  Fn prog 202 #[.agg #[ov,lv],hv] w (λ v w'=>Ext w w'/\Rows 5 (DatAt w0) w' v (zds R h)/\BlkB w.heap.size w' v):=by
 obtain⟨ao,co,hov,_⟩:=id hz.org;obtain⟨al,cl,hlv,_⟩:=hz.recs.open;rw[hov,hlv];refine enx func202 ntmps202 ?_;refine gz0 ?_;rw[←hov,←hlv];refine zav ?_;intro w1 hE1 hs1 hA;refine gz0 ?_;refine rq ?_;intro gd K hgd hK;refine sg0 ?_;refine bs_two (z:=vi 0) (by rfl) (by rfl) (by rfl) (by rfl) (by rfl) (by rfl) ?_;intro w2 hE2 hs2 ho2;refine sg0 ?_;apply hK;have hro:=ho2.row;have hE12:=hE1.trans hE2;refine cZ ?_;refine zan (λ m σ ds A=>ds=[]/\∃(i:Nat) (gv:Value),i+m=2/\σ 12=vi i/\σ 11=vi (2:Nat)/\σ 10= .slice (some ⟨w1.heap.size,0,.none⟩) 2 2/\σ 1=hv/\σ 2= .pointer (some ⟨w.heap.size,0,.none⟩)/\σ 5=gv/\Ext w2 A/\Owns 5 (DatAt w0) w2.heap.size A 97 gv ((([1,28]:List Int).take i).flatMap (datC R h))) 2 ?_ ?_
 ·exact⟨rfl,0,.slice .none 0 0,oM,vr0,vr0,vq0,vq0,vq0,vq0,Keep.refl _ _,Owns.nil _ _ _ _ _⟩
 rintro m σ ds A ⟨rfl,i,gv,him,h12,h11,h10,h1,h2,h5,hEA,hgv⟩;have hE2A:=hE12.trans hEA;have hzA:=hz.ext hE2A;refine rqz ?_;intro gd K hgd hK;simp (disch:=first|omega|assumption|rfl) only[go_sem,h12,h11];apply hK;refine wcz ?_ ?_
 ·intro hlt;simp only[ydT]at hlt;have hi2:i<2:=oM;have hi0:=cj i;have hi1:(i:Int)<((2:Nat):Int):=oM;have hi1':=ci i;obtain⟨t,ht⟩:∃t,([1,28]:List Int)[i]'(by simpa using hi2)=t:=⟨_,rfl⟩;have hcell:zad A (some ⟨w1.heap.size,i,.none⟩)=some (vi t):=by
   obtain⟨a,c,e,hc,hg⟩:=hro.ext hEA;injection e with e1 e2 e3
   have:=hg i (sU hi2);rw[←e1,zaY,yn0]at this;rw[this,←ht];have hcase:i=0\/i=1:=oM;rcases hcase with rfl|rfl<;>rfl
  have hfl:(([1,28]:List Int).take (i+1)).flatMap (datC R h)=(([1,28]:List Int).take i).flatMap (datC R h)++datC R h t:=by
   rw[zal (sU hi2),ybB,ht];simp
  have p1:zad A (some ⟨w.heap.size,1,.none⟩)=some lv:=zab (Ext.at (hE2.trans hEA) hA) rfl;refine rqz ?_;intro gd K hgd hK;refine sgz (az6 h10 h12 hi0 hi1 hcell yn0) ?_;apply hK;refine rqz ?_;intro gd K hgd hK;refine sgz (az4 h1 h2 p1 yn0) ?_;refine yfm (Of_ok hzA.e0 hzA.recs (hn.ext hE2A) hok.lb (by have:=hok.len;omega) hz.ok hz.rl) ?_;rintro _ A1 ⟨hE3,ow,ty,tl,dv,rfl,how,_,hdv,hdb⟩;refine sg0 ?_;have hB3:=zam A1 (.cells #[.slice .none 0 0,vi 0,v32 0,.slice .none 0 0] 297 (0,0));have hE4:=yea A1 (.cells #[.slice .none 0 0,vi 0,v32 0,.slice .none 0 0] 297 (0,0));have hs4:=zai A1 (.cells #[.slice .none 0 0,vi 0,v32 0,.slice .none 0 0] 297 (0,0));revert hB3 hE4 hs4;generalize A1.alloc (.cells #[.slice .none 0 0,vi 0,v32 0,.slice .none 0 0] 297 (0,0))=A2;intro hB3 hE4 hs4;obtain⟨ad,cd,hdv',_⟩:=hdv.open;refine zaL (P:=prog) (t:=297) (l:=[ow,vi ty,v32 tl,dv]) hB3 rfl (λ v h=>by
   simp at h;rcases h with rfl|rfl|rfl|rfl
   ·exact how
   ·rfl
   ·rfl
   ·rw[hdv'];rfl) rfl rfl ?_
  intro A3 hs5 hB5 hk5;refine sg0 ?_;apply hK;have hE5:Ext A1 A3:=ykt hE4 rfl (λ b hb=>oM) hk5;have hEAA:=(hEA.trans hE3).trans hE5;have q3:zad A3 (some ⟨A1.heap.size,3,.none⟩)=some dv:=zdc hB5 rfl;refine rqz ?_;intro gd K hgd hK;refine sgz (az3 h5 q3 yn0) ?_;have hlen1:∀u:Int,(datC R h u).length<=1000000000:=λ u=>by
   have h1:=zeh (R.filter (isL h u));have h2:=ycs (isL h u) R;have h3:=hz.rl;unfold datC ofC;rw[ylm];omega
  have hlen2:((([1,28]:List Int).take i).flatMap (datC R h)).length<=2000000000:=by
   have a1:=hlen1 1;have a2:=hlen1 28;have hcase:i=0\/i=1:=oM;rcases hcase with rfl|rfl
   ·simp
   ·simp;omega
  refine zaR (zdU w0) (((hgv.ext hE3).ext hE5)) (hdv.ext hE5) (by rfl) (by rfl) (by rfl) (by rfl) (by rfl) (by rfl) (by decide) (by rfl) (by rfl) (by have:=hlen1 t;unfold datC at this hlen2 ⊢;omega) (by decide) hEAA.size ?_;intro gv' A4 hgv' hE6 _ _;refine sg0 ?_;apply hK;refine gz (az2 h12 hi1') ?_;exact⟨m - 1,oM,rfl,i+1,gv',oM,vq0,by simp only[go_sem,h11],vq1 h10,vq1 h1,vq1 h2,vq0,hE6 w2 hEAA (ynl _),by rw[hfl];exact hgv'⟩
 ·intro hge;simp only[ydF]at hge;have hi:i=2:=oM;subst hi;have hgl:(([1,28]:List Int).take 2).flatMap (datC R h)=zds R h:=by simp[zds]
  rw[hgl]at hgv;obtain⟨ag,cg,hgv',hcg,_⟩:=hgv.rows.open;rw[hgv']at hgv;refine rqz ?_;intro gd K hgd hK;refine sgz h5 ?_;rw[hgv'];refine yfm (P_cd.Clip_ok hcg) ?_;rintro _ y0 ⟨rfl,hy0⟩;refine sg0 ?_;rw[hy0];clear hy0 y0;refine en hK ?_;refine rt0 ntmps202 ?_;have h3:=hgv.rows.take (m:=(zds R h).length) (c2:=(zds R h).length) (ynl _) (ynl _);rw[yaT]at h3;exact⟨hE2A,h3,hgv.blk.same.mono hE12.size⟩
def errL(l:Lab):Int:=if l=[] then 8 else if 63<l.length then 3 else 0
def lenN(n:Nm):Nat:=1+(n.map λ l=>1+l.length).sum
def zaC(n:Nm):Int:=match n.find? (λ l=>decide (errL l≠0)) with
 |some l=>errL l
 | .none=>if 255<lenN n then 3 else 0
theorem zom(w:World)(l:Lab)(hl:l.length<=9000000000000000000):Fn prog 96 #[vs l] w (λ v w'=>v=vi (errL l)/\Ext w w'):=by
 refine enx func96 ntmps96 ?_;refine gz0 ?_;refine wc0 ?_ ?_
 ·intro h;simp only[ydT]at h;refine gz0 ?_;refine rt0 ntmps96 ?_;exact⟨by unfold errL;rw[if_pos h],Keep.refl _ _⟩
 intro h;simp only[ydF]at h;refine gz0 ?_;refine wc0 ?_ ?_
 ·intro h2;simp only[ydT]at h2;refine gz0 ?_;refine rt0 ntmps96 ?_;exact⟨by unfold errL;rw[if_neg h,if_pos oM],Keep.refl _ _⟩
 ·intro h2;simp only[ydF]at h2;refine gz0 ?_;refine rt0 ntmps96 ?_;exact⟨by unfold errL;rw[if_neg h,if_neg oM],Keep.refl _ _⟩
theorem zg8(w:World)(l:Lab)(hl:l.length<=9000000000000000000):Fn prog 43 #[vs l] w (λ v w'=>v=vi (errL l)/\Ext w w'):=by
 refine enx func43 ntmps43 ?_;refine gz0 ?_;refine wc0 ?_ ?_
 ·intro h;simp only[ydT]at h;refine gz0 ?_;refine rt0 ntmps43 ?_;exact⟨by unfold errL;rw[if_pos h],Keep.refl _ _⟩
 intro h;simp only[ydF]at h;refine gz0 ?_;refine wc0 ?_ ?_
 ·intro h2;simp only[ydT]at h2;refine gz0 ?_;refine rt0 ntmps43 ?_;exact⟨by unfold errL;rw[if_neg h,if_pos oM],Keep.refl _ _⟩
 ·intro h2;simp only[ydF]at h2;refine gz0 ?_;refine rt0 ntmps43 ?_;exact⟨by unfold errL;rw[if_neg h,if_neg oM],Keep.refl _ _⟩
theorem sum_take(hi:i<n.length)(f:Lab->Nat):((n.take (i+1)).map f).sum=((n.take i).map f).sum+f n[i]:=by
 rw[zal hi,yaC,List.sum_append,yaU,ycp,yca,List.sum_nil,yad]
theorem zgb:∀(k:Nm),(∀l∈k,l.length<=1000000000)->(k.map λ l=>1+l.length).sum<=1000000001*k.length
 | [],_=>sM
 |x::k,h=>by
  have h3:=zgb k (λ l hl=>h l (yak _ hl));have h4:=h x (yal ..);rw[yaU,yca,yah];omega
theorem RLen_ok(w:World)(nv:Value)(n:Nm)(hn:Row w nv (n.map vs))(hl:∀l∈n,l.length<=1000000000)(hnl:n.length<=1000000000):
  Fn prog 44 #[nv] w (λ v w'=>v=vi (lenN n)/\Ext w w'):=by
 obtain⟨an,cn,rfl,hcn,hgn⟩:=hn;simp only[ylm]at hcn hgn;rw[ylm];refine enx func44 ntmps44 ?_;refine gz0 ?_;refine zan (λ m σ ds A=>ds=[]/\∃(i:Nat),i+m=n.length/\σ 4=vi i/\σ 0= .slice an n.length cn/\σ 3=vi (lenN (n.take i))/\Ext w A) n.length ?_ ?_
 ·exact⟨rfl,0,oM,vr0,vq0,vr0,Keep.refl _ _⟩
 rintro m σ ds A ⟨rfl,i,him,h4,h0,h3,hEA⟩;refine gz (az2 h4 h0) ?_;refine wc0 ?_ ?_
 ·intro hlt;simp only[ydT]at hlt;have hi:i<n.length:=oM;have hi0:=cj i;have hi1:(i:Int)<(n.length:Int):=oM;have hi1':=ci i;have hg:=zaa hEA (hgn i (sU hi));rw[yaA]at hg;obtain⟨xn,rfl⟩:=yxs (zaf hg);have hb:=zgb (n.take i) (λ l hl'=>hl l (yaO hl'));rw[yaQ]at hb;have hb2:=hl n[i] (yac hi);have hs:((n.take (i+1)).map λ l=>1+l.length).sum=((n.take i).map λ l=>1+l.length).sum+(1+n[i].length):=sum_take hi _;have hlen:((lenN (n.take i):Nat):Int)+1+((n[i]).length:Int)=((lenN (n.take (i+1)):Nat):Int):=by unfold lenN;rw[hs];omega
  have hln:lenN (n.take i)<=2000000000000000000:=by
   unfold lenN;have:min i n.length<=1000000000:=oM;omega
  refine gz (az2 (az7 h0 h3 h4 hi0 hi1 hg hlen) hi1') ?_;exact⟨m - 1,oM,rfl,i+1,oM,vq0,vq1 h0,vq0,hEA⟩
 ·intro hge;simp only[ydF]at hge;rw[yaf oM]at h3;refine gz h3 ?_;refine rt1 h3 ntmps44 ?_;exact⟨rfl,hEA⟩
def encL(x:Lab)(_:World)(args:Array Value):Prop:=args=#[vs x]
theorem revDrop(hk:k<n.length):(n.take (k+1)).reverse=n[k]::(n.take k).reverse:=by
 rw[zal hk];simp
theorem labelsIt{bn:Nat}(hbn:W0.heap[bn]? =some (.cells #[nv] 27 (0,0)))(hn:Row W0 nv (n.map vs))(hC1:¬C bn)(hCw:n≠ []->∀b,C b->b<W0.heap.size->∀a m c,nv= .slice (some a) m c->a.block≠b)(hnl:n.length<=1000000000000)
  (hnb:n≠ []->∀a m c,nv= .slice (some a) m c->a.block<W0.heap.size):
  Iter prog 179 #[.pointer (some ⟨bn,0,.none⟩)] W0 W0.heap.size C n.reverse encL:=by
 intro lp J Jx W hW hnW hJ hJx hY h0;obtain⟨an,cn,rfl,hcn,hgn⟩:=hn;simp only[ylm]at hcn hgn hbn hCw hnb;have hln:=(yaa.1 hbn).1;have p0:zad W (some ⟨bn,0,.none⟩)=some (.slice an n.length cn):=zaa hW (zab hbn rfl);refine enx func179 ntmps179 ?_;repeat refine c_r ?_
 refine rg2 p0 yad ?_;repeat refine c_r ?_
 refine zan (λ m σ ds v=>ds=[]/\∃(pre:List Lab) (k:Nat),n.reverse=pre++(n.take k).reverse/\k<=m/\k<=n.length/\σ 3=vi ((k:Int) - 1)/\σ 0= .func (.yield lp) #[] #[]/\σ 1= .pointer (some ⟨bn,0,.none⟩)/\J pre v/\KeepB W0.heap.size C W v) n.length ?_ ?_
 ·exact⟨rfl,[],n.length,by simp,ynl _,ynl _,vq0,vq0,vq0,h0,KeepB.refl _ _ _⟩
 rintro m σ ds v ⟨rfl,pre,k,hd,hkm,hkn,h3,hs0,hs1,hjj,hKB⟩;have p1:zad v (some ⟨bn,0,.none⟩)=some (.slice an n.length cn):=zcD hKB hln hC1 p0;repeat refine c_r ?_
 refine rg1 h3 ?_;repeat refine c_r ?_
 refine wc0 ?_ ?_
 ·intro hge;simp only[ydT,ge_iff_le]at hge;obtain⟨j,rfl⟩:∃j,k=j+1:=⟨k - 1,oM⟩;have hj:j<n.length:=oM;have ej:((j+1:Nat):Int) - 1=(j:Int):=oM;rw[ej]at h3;have hj0:=cj j;have hj1:(j:Int)<(n.length:Int):=oM;have hg:=hgn j (by simpa using hj);rw[yaA]at hg;obtain⟨xn,rfl⟩:=yxs (zaf hg);have hnn:n≠ []:=yau.1 oM;have hgv:zad v (adr (some xn) j)=some (vs n[j]):=by
   have hb:=hnb hnn xn _ _ rfl;have h1:=zaa hW hg;refine zcD hKB (by rw[zbA];exact hb) (λ hc=>?_) h1;rw[zbA]at hc;exact hCw hnn _ hc hb xn _ _ rfl rfl
  have hxs:n.reverse=pre++n[j]::(n.take j).reverse:=by rw[hd,revDrop hj]
  repeat refine c_r ?_
  refine rq ?_;intro gd K hgd hK;try simp (disch:=first|omega|assumption|rfl) only[go_sem,h3,hs0,hs1,p1,hj0,hj1,hgv]
  refine Yld.mono (hY pre n[j] (n.take j).reverse v _ hxs hjj hKB rfl) ?_;rintro u x (⟨rfl,hj',hk'⟩| ⟨rfl,hjx⟩)
  ·try simp only[go_sem]
   refine hK _ _ ?_;clear hK hgd;clear K;try clear gd
   repeat refine c_r ?_
   refine wc0 ?_ ?_
   ·intro h;simp at h
   ·intro _;repeat refine c_r ?_
    refine rg1 h3 ?_;refine zao ?_;exact⟨m - 1,oM,rfl,pre++ [n[j]],j,by rw[hxs];simp,oM,oM,vq0,vq1 hs0,vq1 hs1,hj',hKB.trans hk'⟩
  ·try simp only[go_sem]
   refine hK _ _ ?_;clear hK hgd;clear K;try clear gd
   repeat refine c_r ?_
   refine wc0 ?_ ?_
   ·intro _;repeat refine c_r ?_
    refine zap (by simp) rfl (.inr ⟨_,_,_,hxs,hjx⟩)
   ·intro h;simp at h
 ·intro hge;simp only[ydF,ge_iff_le]at hge;have hk0:k=0:=oM;subst hk0;repeat refine c_r ?_
  refine zap (by simp) rfl (.inl ?_);rw[hd];simpa using hjj
theorem zgx(hn:∃a n c,nv= .slice a n c):
  Fn prog 137 #[nv] w (λ v w'=>v= .func (.func 179) #[] #[.pointer (some ⟨w.heap.size,0,.none⟩)]/\Ext w w'/\w'.heap.size=w.heap.size+1/\w'.heap[w.heap.size]? =some (.cells #[nv] 27 (0,0))):=by
 obtain⟨an,nn,cn,rfl⟩:=hn;refine enx func137 ntmps137 ?_;repeat refine c_r ?_
 refine rg0 ?_;repeat refine c_r ?_
 refine zav ?_;intro w1 hE1 hs1 hA;refine rg0 ?_;repeat refine c_r ?_
 refine rt0 ntmps137 ?_;exact⟨rfl,hE1,hs1,hA⟩
theorem row_lt(h:Row w nv l)(h0:l≠ []):∀a m c,nv= .slice (some a) m c->a.block<w.heap.size:=by
 intro a m c hv;obtain⟨a',c',e,hc,hg⟩:=h;rw[hv]at e;injection e with e1
 have h1:=hg 0 (yau.2 h0);rw[←e1]at h1;have:=zc9 (show w.cell? (a.add 0)=some _ from h1)
 rwa [zbA]at this
theorem NLen_ok(w:World)(nv:Value)(n:Nm)(hn:Row w nv (n.map vs))(hl:∀l∈n,l.length<=1000000000)(hnl:n.length<=1000000000):
  Fn prog 97 #[nv] w (λ v w'=>v=vi (lenN n)/\Ext w w'):=by
 have hn0:=hn;obtain⟨an,cn,hnv,_⟩:=id hn;rw[hnv];refine enx func97 ntmps97 ?_;refine gz0 ?_;rw[←hnv];refine rq ?_;intro gd K hgd hK;refine sg0 ?_;have hB3:=zam w (.cells #[vi 0] 3 (0,0));have hE4:=yea w (.cells #[vi 0] 3 (0,0));have hs4:=zai w (.cells #[vi 0] 3 (0,0));revert hB3 hE4 hs4;generalize w.alloc (.cells #[vi 0] 3 (0,0))=w1;intro hB3 hE4 hs4;refine za6 (P:=prog) (t:=3) (j:=0) (l:=[vi 0]) hB3 sM rfl rfl rfl ?_;intro w2 hs2 hB2 hk2;refine sg0 ?_;apply hK;simp only[ybi]at hB2;have hE2:Ext w w2:=ykt hE4 rfl (λ b hb=>oM) hk2;refine rqz ?_;intro gd K hgd hK;refine sg0 ?_;refine yfm (zgx ⟨_,_,_,hnv⟩) ?_;rintro _ w3 ⟨rfl,hE3,hs3,hbn⟩;refine sg0 ?_;apply hK;have hE23:=hE2.trans hE3;have hB2':=hE3.at hB2;have hn3:=hn.ext hE23;have hlt:n≠ []->∀a m c,nv= .slice (some a) m c->a.block<w.heap.size:=λ hnn=>row_lt hn (sU hnn);refine cZ ?_;refine zd4 (g:=179) (cap:=#[.pointer (some ⟨w2.heap.size,0,.none⟩)]) vq0 rfl (labelsIt (C:=λ b=>b=w.heap.size) hbn hn3 oM (λ h0 b hb _ a m c hv=>by have:=hlt h0 a m c hv;omega) oM (λ h0 a m c hv=>by have:=hlt h0 a m c hv;omega)) ykr (ynl _) (λ b hb=>oM)
  (λ x A args h=>by rw[h];rfl)
  (λ pre A=>Ext w A/\A.heap[w.heap.size]? =some (.cells #[vi (1+(pre.map λ l=>1+l.length).sum:Nat)] 3 (0,0)))
  (λ _ _ _=>False) ?_ (λ _ _ _ _ h _=>h.elim) ?_ ?_ ?_ (λ _ _ _ _ _ _ _ h _=>h.elim)
 ·rintro pre A B ⟨h1,h2⟩ hk;exact⟨ykt h1 rfl (λ b hb=>by unfold two at hb;omega) hk,(hk.block _ (yaa.1 h2).1 (by unfold two;omega)).trans h2⟩
 ·exact⟨hE23,hB2'⟩
 ·rintro lp pre x suf A args hxs hszA ⟨hEA,hb⟩ rfl;have hpl:pre.length+1<=n.length:=by
   have:=congrArg List.length hxs;simp at this;omega
  have hpm:∀l∈pre,l.length<=1000000000:=λ l hl'=>hl l (List.mem_reverse.1 (by rw[hxs];simp[hl']));have hxm:x.length<=1000000000:=hl x (List.mem_reverse.1 (by rw[hxs];simp));have hsb:=zgb pre hpm;have hsum:(((1+(pre.map λ l=>1+l.length).sum:Nat):Int))+(1+(x.length:Int))=((1+((pre++ [x]).map λ l=>1+l.length).sum:Nat):Int):=by
   rw[yaC,List.sum_append,yaU,ycp,yca,List.sum_nil];omega
  have hs2':((1+(pre.map λ l=>1+l.length).sum:Nat):Int)<=2000000000000000000:=oM;refine rq ?_;intro gd K hgd hK;refine sg0 ?_;apply hK;refine zao ?_;refine⟨rfl,KeepB.refl _ _ _,λ Y hY=>?_⟩;have hbY:=(hY.block _ oM (by unfold two;omega)).trans hb;have hEY:Ext w Y:=ykt hEA rfl (λ b hb=>by unfold two at hb;omega) hY;have hsY:=hY.size;have q0:zad Y (some ⟨w.heap.size,0,.none⟩)=some (vi (1+(pre.map λ l=>1+l.length).sum:Nat)):=zab hbY rfl;refine rqz ?_;intro gd K hgd hK;refine sgz (az2 q0 hsum) ?_;refine za6 (P:=prog) (t:=3) (j:=0) (l:=[vi (1+(pre.map λ l=>1+l.length).sum:Nat)]) hbY sM rfl rfl rfl ?_;intro z hz hbz hkz;refine sg0 ?_;apply hK;simp only[ybi]at hbz;refine cZ ?_;exact⟨⟨ykt hEY rfl (λ b hb=>oM) hkz,hbz⟩,hkz.toB oM (λ i _ h=>h)⟩
 ·intro A hszA ⟨hEA,hb⟩ hD;have q0:zad A (some ⟨w.heap.size,0,.none⟩)=some (vi (1+(n.reverse.map λ l=>1+l.length).sum:Nat)):=zab hb rfl;have hrev:(n.reverse.map λ l=>1+l.length).sum=(n.map λ l=>1+l.length).sum:=by rw[List.map_reverse,List.sum_reverse]
  rw[hrev]at q0;refine gz q0 ?_;refine zcY (v:=vi (lenN n)) (.inr rfl) (by rfl) ntmps97 vr0 hD ?_;intro Z hkZ hsZ;exact⟨rfl,ykt hEA rfl (λ b hb=>oM) hkZ⟩
theorem zhx(hi:i<n.length)(h:∀j (h:j<n.length),j<i->errL n[j]=0)(he:errL n[i]≠0):zaC n=errL n[i]:=by
 unfold zaC;have:n.find? (λ l=>decide (errL l≠0))=some n[i]:=by
  refine zkQ (pre:=n.take i) (suf:=n.drop (i+1)) (zcW hi) (λ y hy=>?_) (sU he);obtain⟨j,hj,rfl⟩:=yaG hy;rw[ybG];simp at hj;simpa using h j oM oM
 rw[this]
theorem zgL(h:∀j (h:j<n.length),errL n[j]=0):zaC n=if 255<lenN n then 3 else 0:=by
 unfold zaC;have:n.find? (λ l=>decide (errL l≠0))= .none:=zhq (λ y hy=>by
  obtain⟨j,hj,rfl⟩:=yaG hy;simpa using h j hj)
 rw[this]
theorem zbv(w:World)(nv:Value)(n:Nm)(hn:Row w nv (n.map vs))(hl:∀l∈n,l.length<=1000000000)(hnl:n.length<=1000000000):
  Fn prog 19 #[nv] w (λ v w'=>v=vi (zaC n)/\Ext w w'):=by
 have hn0:=hn;obtain⟨an,cn,rfl,hcn,hgn⟩:=hn;simp only[ylm]at hcn hgn hn0;rw[ylm];refine enx func19 ntmps19 ?_;refine gz0 ?_;refine zan (λ m σ ds A=>ds=[]/\∃(i:Nat),i+m=n.length/\σ 3=vi i/\σ 0= .slice an n.length cn/\Ext w A/\∀j (h:j<n.length),j<i->errL n[j]=0) n.length ?_ ?_
 ·exact⟨rfl,0,oM,vr0,vq0,Keep.refl _ _,λ j h hj=>absurd hj oM⟩
 rintro m σ ds A ⟨rfl,i,him,h3,h0,hEA,hlow⟩;refine gz (az2 h3 h0) ?_;refine wc0 ?_ ?_
 ·intro hlt;simp only[ydT]at hlt;have hi:i<n.length:=oM;have hi0:=cj i;have hi1:(i:Int)<(n.length:Int):=oM;have hi1':=ci i;have hg:=zaa hEA (hgn i (sU hi));rw[yaA]at hg;obtain⟨xn,rfl⟩:=yxs (zaf hg);refine rqz ?_;intro gd K hgd hK;refine sgz (az5 h0 h3 hi0 hi1 hg) ?_;refine yfm (zg8 A n[i] (by have:=hl n[i] (yac hi);omega)) ?_;rintro _ A1 ⟨rfl,hE1⟩;refine sg0 ?_;apply hK;refine gz0 ?_;refine wc0 ?_ ?_
  ·intro hne;simp only[yao,ydF]at hne;refine gz0 ?_;refine rt0 ntmps19 ?_;exact⟨by rw[zhx hi hlow hne],hEA.trans hE1⟩
  ·intro heq;simp only[yaw,ydT]at heq;refine gz (az2 h3 hi1') ?_;refine⟨m - 1,oM,rfl,i+1,oM,vq0,vq1 h0,hEA.trans hE1,λ j hj hji=>?_⟩;by_cases hj2:j=i
   ·subst hj2;exact heq
   ·exact hlow j hj oM
 ·intro hge;simp only[ydF]at hge;have hgood:=zgL (n:=n) (λ j hj=>hlow j hj oM);refine rqz ?_;intro gd K hgd hK;refine sgz h0 ?_;refine yfm (RLen_ok A _ n (hn0.ext hEA) hl hnl) ?_;rintro _ A1 ⟨rfl,hE1⟩;refine sg0 ?_;apply hK;refine wcz ?_ ?_
  ·intro hb;simp only[ydT]at hb;refine gz0 ?_;refine rt0 ntmps19 ?_;exact⟨by rw[hgood,if_pos oM],hEA.trans hE1⟩
  ·intro hb;simp only[ydF]at hb;refine gz0 ?_;refine rt0 ntmps19 ?_;exact⟨by rw[hgood,if_neg oM],hEA.trans hE1⟩
theorem zjr(w:World)(nv:Value)(n:Nm)(hn:Row w nv (n.map vs))(hl:∀l∈n,l.length<=1000000000)(hnl:n.length<=1000000000):
  Fn prog 61 #[nv] w (λ v w'=>v=vi (zaC n)/\Ext w w'):=by
 have hn0:=hn;obtain⟨an,cn,rfl,hcn,hgn⟩:=hn;simp only[ylm]at hcn hgn hn0;rw[ylm];refine enx func61 ntmps61 ?_;refine gz0 ?_;refine zan (λ m σ ds A=>ds=[]/\∃(i:Nat),i+m=n.length/\σ 8=vi i/\σ 7=vi n.length/\σ 6= .slice an n.length cn/\σ 0= .slice an n.length cn/\Ext w A/\∀j (h:j<n.length),j<i->errL n[j]=0) n.length ?_ ?_
 ·exact⟨rfl,0,oM,vr0,vq0,vq0,vq0,Keep.refl _ _,λ j h hj=>absurd hj oM⟩
 rintro m σ ds A ⟨rfl,i,him,h8,h7,h6,h0,hEA,hlow⟩;refine gz (az2 h8 h7) ?_;refine wc0 ?_ ?_
 ·intro hlt;simp only[ydT]at hlt;have hi:i<n.length:=oM;have hi0:=cj i;have hi1:(i:Int)<(n.length:Int):=oM;have hi1':=ci i;have hg:=zaa hEA (hgn i (sU hi));rw[yaA]at hg;obtain⟨xn,rfl⟩:=yxs (zaf hg);refine gz (az5 h6 h8 hi0 hi1 hg) ?_;refine rq ?_;intro gd K hgd hK;refine sg0 ?_;refine yfm (zom A n[i] (by have:=hl n[i] (yac hi);omega)) ?_;rintro _ A1 ⟨rfl,hE1⟩;refine sg0 ?_;apply hK;refine gz0 ?_;refine wc0 ?_ ?_
  ·intro hne;simp only[yao,ydF]at hne;refine gz0 ?_;refine rt0 ntmps61 ?_;exact⟨by rw[zhx hi hlow hne],hEA.trans hE1⟩
  ·intro heq;simp only[yaw,ydT]at heq;refine gz (az2 h8 hi1') ?_;refine⟨m - 1,oM,rfl,i+1,oM,vq0,vq1 h7,vq1 h6,vq1 h0,hEA.trans hE1,λ j hj hji=>?_⟩;by_cases hj2:j=i
   ·subst hj2;exact heq
   ·exact hlow j hj oM
 ·intro hge;simp only[ydF]at hge;have hgood:=zgL (n:=n) (λ j hj=>hlow j hj oM);refine rqz ?_;intro gd K hgd hK;refine sgz h0 ?_;refine yfm (NLen_ok A _ n (hn0.ext hEA) hl hnl) ?_;rintro _ A1 ⟨rfl,hE1⟩;refine sg0 ?_;apply hK;refine wcz ?_ ?_
  ·intro hb;simp only[ydT]at hb;refine gz0 ?_;refine rt0 ntmps61 ?_;exact⟨by rw[hgood,if_pos oM],hEA.trans hE1⟩
  ·intro hb;simp only[ydF]at hb;refine gz0 ?_;refine rt0 ntmps61 ?_;exact⟨by rw[hgood,if_neg oM],hEA.trans hE1⟩
def zca(q f t:Nm):Nm:=q.take (q.length - f.length)++t
structure NmM(n:Nm):Prop where
 lb:∀l∈n,l.length<=1000000
 len:n.length<=1000000
theorem NmM.LB(h:NmM n):LB n:=λ l hl=>by have:=h.lb l hl;omega
theorem NmM.s(h:NmM n):NmS n:=⟨h.LB,by have:=h.len;omega⟩
theorem zmj{f t:Nm}(hq:NmM q)(ht:NmM t):(∀l∈zca q f t,l.length<=1000000000)/\(zca q f t).length<=2000000:=by
 refine⟨λ l hl=>?_,?_⟩
 ·rcases yai.1 hl with h|h
  ·have:=hq.lb l (yaO h);omega
  ·have:=ht.lb l h;omega
 ·unfold zca;rw[yab,yaQ];have:=hq.len;have:=ht.len;omega
theorem zlb(w:World)(qv fv tv:Value)(q f t:Nm)(hq:Row w qv (q.map vs))(hf:Row w fv (f.map vs))(ht:Row w tv (t.map vs))(mq:NmM q)(mf:NmM f)(mt:NmM t)(hu:zaN q f=true):
  Fn prog 132 #[qv,fv,tv] w (λ v w'=>Ext w w'/\(zaC (zca q f t)=0->∃sv,v= .tuple #[sv,vi 0]/\Row w' sv ((zca q f t).map vs)/\BlkB w.heap.size w' sv)/\(zaC (zca q f t)≠0->v= .tuple #[.slice .none 0 0,vi 7])):=by
 have hul:=zbU hu;obtain⟨aq,cq,hqv,hcq,hgq⟩:=id hq;obtain⟨af,cf,hfv,_⟩:=id hf;rw[ylm]at hqv hcq hfv;have hfr:Row w (.slice aq (q.length - f.length) cq) ((q.take (q.length - f.length)).map vs):=by
  have hl:((q.take (q.length - f.length)).map vs).length=q.length - f.length:=by rw[ylm,yaQ];omega
  refine⟨aq,cq,by rw[hl],oM,λ j hj=>?_⟩;have:=hgq j (by rw[ylm];omega);rw[this];simp
 have hm:=zmj (f:=f) mq mt;have bq:=mq.len;have bf:=mf.len;have bt:=mt.len;refine enx func132 ntmps132 ?_;repeat refine c_r ?_
 refine rg0 ?_;repeat refine c_r ?_
 refine rq ?_;intro gd K hgd hK;try simp only[go_sem]
 refine yfm (zbF _ _ _ _ _ hq hf mq.LB mf.LB (by have:=mq.len;omega) (by have:=mf.len;omega)) ?_;rintro _ w1 ⟨rfl,hE1⟩;try simp only[go_sem]
 refine hK _ _ ?_;clear hK hgd;clear K;try clear gd
 rw[hu];repeat refine c_r ?_
 refine wc0 ?_ ?_
 ·intro h;cases h
 intro _;have e1:(q.length:Int) - (f.length:Int)=((q.length - f.length:Nat):Int):=oM;have e2:(0:Int)<=((q.length - f.length:Nat):Int):=oM;have e3:((q.length - f.length:Nat):Int)<=(cq:Int):=oM;repeat refine c_r ?_
 refine rq ?_;intro gd K hgd hK;try simp (disch:=first|omega|assumption|rfl) only[go_sem,hqv,hfv,e1,e2,e3,ycr,zar,ite_self]
 refine yfm (zd6 (hfr.ext hE1) (by rw[yaQ];have:=mq.len;omega)) ?_;rintro u w2 ⟨hou,hE2⟩;try simp only[go_sem]
 have hl2:((q.take (q.length - f.length)).map vs).length+(t.map vs).length<=1000000000000:=by
  rw[ylm,ylm,yaQ];have:=mq.len;have:=mt.len;omega
 refine zb0 hou (ht.ext (hE1.trans hE2)) (by rfl) (by rfl) (by rfl) (by rfl) (by rfl) (by rfl) (by rfl) (by rfl) (zfl _) hl2 (by decide) hE2.size ?_;intro sv w3 hs hE3 _ _;try simp only[go_sem]
 refine hK _ _ ?_;clear hK hgd;clear K;try clear gd
 have hE13:=hE3 w (hE1.trans hE2) hE1.size;rw[←yaC]at hs;have hsr:Row w3 sv ((zca q f t).map vs):=hs.row;obtain⟨as1,cs1,hsv,hcs,hgs⟩:=id hsr;rw[ylm]at hsv hcs;repeat refine c_r ?_
 refine rq ?_;intro gd K hgd hK;try simp only[go_sem]
 refine yfm (zjr w3 _ (zca q f t) hsr hm.1 (by have:=hm.2;omega)) ?_;rintro _ w4 ⟨rfl,hE4⟩;try simp only[go_sem]
 refine hK _ _ ?_;clear hK hgd;clear K;try clear gd
 repeat refine c_r ?_
 refine wc0 ?_ ?_
 ·intro hne;simp only[yao,ydF]at hne;repeat (first|refine c_r ?_|refine rg0 ?_)
  refine zau (.inr rfl) ntmps132 rfl (zaj (v:= .slice .none 0 0) vr0 (zaj (v:=vi 7) vr0 zas)) ?_;exact⟨hE13.trans hE4,λ h=>absurd h hne,λ _=>rfl⟩
 ·intro heq;simp only[yaw,ydT]at heq;repeat refine c_r ?_
  refine rq ?_;intro gd K hgd hK;try simp only[go_sem]
  rw[hsv];refine yfm (P_cs.Clip_ok hcs) ?_;rintro _ y0 ⟨rfl,hy0⟩;try simp only[go_sem]
  rw[hy0];clear hy0 y0;refine hK _ _ ?_;clear hK hgd;clear K;try clear gd
  repeat refine c_r ?_
  refine zau (.inr rfl) ntmps132 rfl (zaj (v:= .slice as1 (zca q f t).length (zca q f t).length) vr0 (zaj (v:=vi 0) vr0 zas)) ?_;have hbs:=hs.blk;rw[hsv]at hbs;refine⟨hE13.trans hE4,λ _=>⟨_,rfl,?_,(hbs.same.ext hE4.size).mono hE1.size⟩,λ h=>absurd heq h⟩;exact Row.ext (w:=w3) ⟨as1,(zca q f t).length,by rw[ylm],by rw[ylm];exact ynl _,hgs⟩ hE4
theorem RSwap_ok(w:World)(qv fv tv:Value)(q f t:Nm)(hq:Row w qv (q.map vs))(hf:Row w fv (f.map vs))(ht:Row w tv (t.map vs))(mq:NmM q)(mf:NmM f)(mt:NmM t)(hu:zaN q f=true):
  Fn prog 56 #[qv,fv,tv] w (λ v w'=>Ext w w'/\(zaC (zca q f t)=0->∃sv,v= .tuple #[sv,vi 0]/\Row w' sv ((zca q f t).map vs)/\BlkB w.heap.size w' sv)/\(zaC (zca q f t)≠0->v= .tuple #[.slice .none 0 0,vi 7])):=by
 have hul:=zbU hu;obtain⟨aq,cq,hqv,hcq,hgq⟩:=id hq;obtain⟨af,cf,hfv,_⟩:=id hf;rw[ylm]at hqv hcq hfv;have hfr:Row w (.slice aq (q.length - f.length) cq) ((q.take (q.length - f.length)).map vs):=by
  have hl:((q.take (q.length - f.length)).map vs).length=q.length - f.length:=by rw[ylm,yaQ];omega
  refine⟨aq,cq,by rw[hl],oM,λ j hj=>?_⟩;have:=hgq j (by rw[ylm];omega);rw[this];simp
 have hm:=zmj (f:=f) mq mt;have bq:=mq.len;have bf:=mf.len;have bt:=mt.len;refine enx func56 ntmps56 ?_;repeat refine c_r ?_
 refine rg0 ?_;repeat refine c_r ?_
 refine rq ?_;intro gd K hgd hK;try simp only[go_sem]
 refine yfm (zjm _ _ _ _ _ hq hf mq.LB mf.LB (by have:=mq.len;omega) (by have:=mf.len;omega)) ?_;rintro _ w1 ⟨rfl,hE1⟩;try simp only[go_sem]
 refine hK _ _ ?_;clear hK hgd;clear K;try clear gd
 rw[hu];repeat refine c_r ?_
 refine wc0 ?_ ?_
 ·intro h;cases h
 intro _;have e1:(q.length:Int) - (f.length:Int)=((q.length - f.length:Nat):Int):=oM;have e2:(0:Int)<=((q.length - f.length:Nat):Int):=oM;have e3:((q.length - f.length:Nat):Int)<=(cq:Int):=oM;repeat refine c_r ?_
 refine rq ?_;intro gd K hgd hK;try simp (disch:=first|omega|assumption|rfl) only[go_sem,hqv,hfv,e1,e2,e3,ycr,zar,ite_self]
 refine zhA (z:=vs []) (by rfl) (by rfl) (by rfl) (by rfl) ?_;intro w2 hE2 hs2 ho2;try simp (disch:=first|omega|assumption|rfl) only[go_sem,hqv,hfv,e1,e2,e3,ycr,zar,ite_self]
 have hE12:=hE1.trans hE2;refine zb0 ho2 (hfr.ext hE12) (by rfl) (by rfl) (by rfl) (by rfl) (by rfl) (by rfl) vr0 vr0 (zfl _) (by rw[ylm,yaQ,ybe];omega) (by decide) hE2.size ?_;intro uv w3 hou hE3 _ _;try simp only[go_sem]
 have hE13:=hE3 w1 hE2 (ynl _);rw[yaI]at hou;have hl2:((q.take (q.length - f.length)).map vs).length+(t.map vs).length<=1000000000000:=by
  rw[ylm,ylm,yaQ];have:=mq.len;have:=mt.len;omega
 refine zb0 hou (ht.ext (hE1.trans hE13)) (by rfl) (by rfl) (by rfl) (by rfl) (by rfl) (by rfl) (by rfl) (by rfl) (zfl _) hl2 (by decide) hE13.size ?_;intro sv w4 hs hE4 _ _;try simp only[go_sem]
 refine hK _ _ ?_;clear hK hgd;clear K;try clear gd
 have hE14:=hE1.trans (hE4 w1 hE13 (ynl _));rw[←yaC]at hs;have hsr:Row w4 sv ((zca q f t).map vs):=hs.row;repeat refine c_r ?_
 refine rq ?_;intro gd K hgd hK;try simp only[go_sem]
 refine yfm (zbv w4 _ (zca q f t) hsr hm.1 (by have:=hm.2;omega)) ?_;rintro _ w5 ⟨rfl,hE5⟩;try simp only[go_sem]
 refine hK _ _ ?_;clear hK hgd;clear K;try clear gd
 repeat refine c_r ?_
 refine wc0 ?_ ?_
 ·intro hne;simp only[yao,ydF]at hne;repeat (first|refine c_r ?_|refine rg0 ?_)
  refine zau (.inr rfl) ntmps56 rfl (zaj (v:= .slice .none 0 0) vr0 (zaj (v:=vi 7) vr0 zas)) ?_;exact⟨hE14.trans hE5,λ h=>absurd h hne,λ _=>rfl⟩
 ·intro heq;simp only[yaw,ydT]at heq;repeat (first|refine c_r ?_|refine rg0 ?_)
  refine zau (.inr rfl) ntmps56 rfl (zaj (v:=sv) vr0 (zaj (v:=vi 0) vr0 zas)) ?_;exact⟨hE14.trans hE5,λ _=>⟨_,rfl,hsr.ext hE5,(hs.blk.ext hE5.size).mono hE1.size⟩,λ h=>absurd heq h⟩
namespace P_cm
theorem Clip_ok{n:Nat}(hc:n<=c):Fn prog 135 #[.slice a n c] w (λ u w'=>u= .slice a n n/\w'=w):=by
 refine enx func135 ntmps135 ?_;refine gz0 ?_;refine rq ?_;intro gd K hgd hK;refine sg0 ?_;have hcl:slD prog (some (TypeDesc.slice 27)) (Value.slice a n c) .none (some (Value.int IntKind.i64 ↑n)) (some (Value.int IntKind.i64 ↑n))=some (.slice a n n):=zfy hc (by rfl);rw[hcl];refine sg0 ?_;refine en hK ?_;refine rt0 ntmps135 ?_;exact⟨rfl,rfl⟩
end P_cm
def NmC(w0:World)(cs:List Value)(n:Nm):Prop:=∃v,cs=[v]/\Row w0 v (n.map vs)
theorem nm_shape(w:World):zdD 1 (NmC w):=by
 refine⟨λ h=>?_,λ h=>?_⟩
 ·obtain⟨v,rfl,_⟩:=h;rfl
 ·obtain⟨v,rfl,a,c,rfl,_⟩:=h;intro q hq;rw[yae.1 hq];rfl
theorem Own.k1(h:Own B w e v l)(h1:∀q∈l,one q=true):OwnK 1 B w e v (l.map λ q=>[q]):=by
 have hf:∀l:List Value,(l.map λ q=>[q]).flatten=l:=λ l=>by
  induction l with
  |nil=>rfl
  |cons x l ih=>rw[yaU,ybC,ih];rfl
 refine⟨by rw[hf,ylm];exact h,λ x hx=>?_,λ x hx q hq=>?_⟩
 ·obtain⟨q,_,rfl⟩:=yaq.1 hx;rfl
 ·obtain⟨q',hq',rfl⟩:=yaq.1 hx;rw[yae.1 hq];exact h1 _ hq'
def zgw(t:Int):Bool:=decide (t=2)|| (decide (t=5)|| (decide (t=12)|| (decide (t=39)||decide (t=15))))
def zaz(t:Int)(ds:List DatL):List Nm:=if zgw t then ds.filterMap λ d=>d.names.head? else []
theorem DatAt.cells{d:DatL}(h:DatAt w0 cs d):∃nm,cs[0]? =some (vi d.ty)/\cs[1]? =some nm/\NamesAt w0 nm d.names:=by
 obtain⟨nm,nu,tx,rw',rfl,h1,_⟩:=h.ex;exact⟨nm,rfl,rfl,h1⟩
theorem zaq{p:Option Addr}(h:zat w p k=some cs)(hj:cs[j]? =some u):zad w (adr p j)=some u:=by
 obtain⟨hj1,hj2⟩:=yaj.1 hj;have:=zcC h hj1;rw[hj2]at this;exact this
theorem zhC(hE0:Ext w0 w){ow tl dv:Value}{t:Int}{ds:List DatL}(how:one ow=true)(htl:one tl=true)(hd:Rows 5 (DatAt w0) w dv ds)(hlen:ds.length<=1000000000):
  Fn prog 166 #[.agg #[ow,vi t,tl,dv]] w (λ v w'=>Ext w w'/\Rows 1 (NmC w0) w' v (zaz t ds)/\BlkB w.heap.size w' v):=by
 obtain⟨aD,cD,hdv,hcD,hgD⟩:=hd.open;refine enx func166 ntmps166 ?_;repeat refine c_r ?_
 refine rg0 ?_;repeat refine c_r ?_
 refine zav ?_;intro w1 hE1 hs1 hA;have p1:zad w1 (some ⟨w.heap.size,1,.none⟩)=some (vi t):=zab hA rfl;have p3:zad w1 (some ⟨w.heap.size,3,.none⟩)=some dv:=zab hA rfl;rw[hdv]at p3;refine rg0 ?_;repeat refine c_r ?_
 refine rg2 p1 yn0 ?_;refine zao ?_;refine zaw (Q:=λ e σ' ds' v'=>e= .normal/\ds'=[]/\Ext w1 v'/\∃ov,σ' 3=ov/\Owns 1 (NmC w0) w1.heap.size v' 27 ov (zaz t ds)) ?_ ?_
 ·refine zn3 ?_;refine zg7 ?_;refine zaw (Q:=λ e σ' ds' v'=>e= .normal/\ds'=[]/\v'=w1/\σ' 1= .pointer (some ⟨w.heap.size,0,.none⟩)/\σ' 3= .slice .none 0 0/\σ' 8= .bool (zgw t)) ?_ ?_
  ·have lead:∀{σ':Sto} {b:Bool},b=zgw t->σ' 8= .bool b->σ' 8= .bool (zgw t):=λ h h2=>h▸h2;refine zg7 ?_;refine rg0 ?_;refine zao ?_;refine wc0 ?_ ?_
   ·intro h;repeat refine c_r ?_
    refine⟨rfl,rfl,rfl,vq0,vq0,lead (b:=true) ?_ (by simp only[go_sem];rw[h])⟩;unfold zgw;rw[h];rfl
   intro h1;repeat refine c_r ?_
   refine rg0 ?_;refine zao ?_;refine wc0 ?_ ?_
   ·intro h;repeat refine c_r ?_
    refine⟨rfl,rfl,rfl,vq0,vq0,lead (b:=true) ?_ (by simp only[go_sem];rw[h])⟩;unfold zgw;rw[h1,h];rfl
   intro h2;repeat refine c_r ?_
   refine rg0 ?_;refine zao ?_;refine wc0 ?_ ?_
   ·intro h;repeat refine c_r ?_
    refine⟨rfl,rfl,rfl,vq0,vq0,lead (b:=true) ?_ (by simp only[go_sem];rw[h])⟩;unfold zgw;rw[h1,h2,h];rfl
   intro h3;repeat refine c_r ?_
   refine rg0 ?_;refine zao ?_;refine wc0 ?_ ?_
   ·intro h;repeat refine c_r ?_
    refine⟨rfl,rfl,rfl,vq0,vq0,lead (b:=true) ?_ (by simp only[go_sem];rw[h])⟩;unfold zgw;rw[h1,h2,h3,h];rfl
   intro h4;repeat refine c_r ?_
   refine rg0 ?_;refine⟨rfl,rfl,rfl,vq0,vq0,?_⟩;rw[show zgw t=decide (t=15) from by unfold zgw;rw[h1,h2,h3,h4];rfl];simp only[go_sem]
  rintro _ σ1 _ v1 ⟨rfl,rfl,hv1,h1,h3,h8⟩;rw[hv1];clear hv1 v1;refine zao ?_;refine zaG (t:=zgw t) ((vq1 h8)) ?_ ?_
  ·intro hl;have htg:∀ds:List DatL,zaz t ds=ds.filterMap λ d=>d.names.head?:=λ ds=>by unfold zaz;rw[if_pos hl]
   repeat refine c_r ?_
   refine rg3 h1 p3 yn0 ?_;repeat refine c_r ?_
   refine zan (λ m σ ds' A=>ds'=[]/\∃(i:Nat) (ov:Value),i+m=ds.length/\σ 17=vi i/\σ 16=vi ds.length/\σ 15= .slice aD ds.length cD/\σ 3=ov/\Ext w1 A/\Owns 1 (NmC w0) w1.heap.size A 27 ov (zaz t (ds.take i))) ds.length ?_ ?_
   ·exact⟨rfl,0,.slice .none 0 0,oM,vr0,vr0,vq0,vq1 h3,Keep.refl _ _,by rw[htg];exact Owns.nil _ _ _ _ _⟩
   rintro m σ ds' A ⟨rfl,i,ov,him,h17,h16,h15,h3,hEA,hov⟩;repeat refine c_r ?_
   refine rg2 h17 h16 ?_;repeat refine c_r ?_
   refine wc0 ?_ ?_
   ·intro hlt;simp only[ydT]at hlt;have hi:i<ds.length:=oM;have hi0:=cj i;have hi1:(i:Int)<(ds.length:Int):=oM;have hi1':=ci i;obtain⟨cd,hcd,hDd⟩:=hgD i hi;obtain⟨xD,rfl⟩:=yxs (zak hcd);have hcdA:=zac (hE1.trans hEA) hcd;obtain⟨nm,nu,tx,rw',hcs,n1,_⟩:=hDd.ex;obtain⟨vals,⟨an,cn,rfl,hcn,hgn⟩,hvl,hvr⟩:=n1;have hcd1:=(zdU w0).ones hDd;have hcdl:=(zdU w0).len hDd;have htk:zaz t (ds.take (i+1))=zaz t (ds.take i)++(ds[i].names.head?).toList:=by
     rw[htg,htg,zal hi,ybD]
     congr 1
    repeat refine c_r ?_
    refine rq ?_;intro gd K hgd hK;try simp (disch:=first|omega|assumption|rfl) only[go_sem,h15,h17,hi0,hi1,hcdA]
    have hB3:=zam A (.cells #[vi 0,.slice .none 0 0,.slice .none 0 0,.slice .none 0 0,.slice .none 0 0] 97 (0,0));have hE4:=yea A (.cells #[vi 0,.slice .none 0 0,.slice .none 0 0,.slice .none 0 0,.slice .none 0 0] 97 (0,0));have hs4:=zai A (.cells #[vi 0,.slice .none 0 0,.slice .none 0 0,.slice .none 0 0,.slice .none 0 0] 97 (0,0));revert hB3 hE4 hs4;generalize A.alloc (.cells #[vi 0,.slice .none 0 0,.slice .none 0 0,.slice .none 0 0,.slice .none 0 0] 97 (0,0))=A2;intro hB3 hE4 hs4;refine zaL (P:=prog) (t:=97) (l:=cd) hB3 hcdl hcd1 (by rw[hcdl];rfl) rfl ?_;intro A3 hs5 hB5 hk5;try simp only[go_sem]
    refine hK _ _ ?_;clear hK hgd;clear K;try clear gd
    have hE5:Ext A A3:=ykt hE4 rfl (λ b hb=>oM) hk5;have q1:zad A3 (some ⟨A.heap.size,1,.none⟩)=some (.slice an vals.length cn):=zdc hB5 (by rw[hcs];rfl);have hEA3:=hEA.trans hE5;repeat refine c_r ?_
    refine rg2 q1 yn0 ?_;repeat refine c_r ?_
    refine wc0 ?_ ?_
    ·intro hgt;simp only[ydT]at hgt;have hv0:0<vals.length:=oM;have hg0:=hgn 0 hv0;obtain⟨xN,rfl⟩:=yxs (zaf hg0);have hw03:Ext w0 A3:=hE0.trans (hE1.trans hEA3);have hg0':=zaa hw03 hg0;rw[zar]at hg0';obtain⟨n0,hn0⟩:∃n0,ds[i].names.head? =some n0/\Row w0 (vals[0]) (n0.map vs):=by
      have h1:=hvr 0 hv0 oM;refine⟨ds[i].names[0]'(oM),?_,h1⟩;rw[List.head?_eq_getElem?,yam oM]
     obtain⟨a0,c0,hv0e,_⟩:=id hn0.2;have hz:(0:Int)<=0:=oM;repeat refine c_r ?_
     refine rq ?_;intro gd K hgd hK;try simp (disch:=first|omega|assumption|rfl) only[go_sem,h3,q1,yn0,hgt,hz,hg0',ybc,zar]
     refine zc3 (z:= .slice .none 0 0) (v:=vals[0]) (by rfl) (by rfl) (by rfl) (by rfl) (by rw[hv0e];rfl) ?_;intro A4 hE6 hs6 ho6;try simp only[go_sem]
     have hrow:Rows 1 (NmC w0) A4 (.slice (some ⟨A3.heap.size,0,.none⟩) 1 1) [n0]:=by
      have h1:=ho6.k1 (λ q hq=>by rw[yae.1 hq,hv0e];rfl);exact⟨_,h1.rowK,rfl,λ j h h'=>by
       have:j=0:=by simp at h;omega
       subst this;exact⟨_,rfl,hn0.2⟩⟩
     have htl2:(zaz t (ds.take i)).length<=ds.length:=by
      rw[htg];have:=yaW (λ d:DatL=>d.names.head?) (ds.take i);rw[yaQ]at this;omega
     refine zaR (nm_shape w0) ((hov.ext hE5).ext hE6) hrow (by rfl) (by rfl) (by rfl) (by rfl) (by rfl) (by rfl) (by decide) vr0 vr0 (by simp;omega) (by decide) (by have:=hEA3.size;have:=hE6.size;omega) ?_;intro ov' A5 hov' hE7 _ _;try simp only[go_sem]
     refine hK _ _ ?_;clear hK hgd;clear K;try clear gd
     repeat refine c_r ?_
     refine rg2 h17 hi1' ?_;repeat refine c_r ?_
     exact⟨m - 1,oM,rfl,i+1,ov',oM,vq0,vq1 h16,vq1 h15,vq0,hE7 w1 (hEA3.trans hE6) (ynl _),by rw[htk,hn0.1];exact hov'⟩
    ·intro hgt;simp only[ydF]at hgt;have hnil:ds[i].names=[]:=yan.1 oM;repeat refine c_r ?_
     refine rg2 h17 hi1' ?_;repeat refine c_r ?_
     exact⟨m - 1,oM,rfl,i+1,ov,oM,vq0,vq1 h16,vq1 h15,vq1 h3,hEA3,by rw[htk,hnil];simpa using hov.ext hE5⟩
   ·intro hge;simp only[ydF]at hge;rw[yaf oM]at hov;repeat refine c_r ?_
    exact⟨rfl,rfl,hEA,ov,h3,hov⟩
  ·intro hl;have htg:zaz t ds=[]:=by unfold zaz;rw[hl];rfl
   repeat refine c_r ?_
   exact⟨rfl,rfl,Keep.refl _ _,_,h3,by rw[htg];exact Owns.nil _ _ _ _ _⟩
 ·rintro _ σ1 _ v1 ⟨rfl,rfl,hE2,ov,h3,hov⟩;obtain⟨ag,cg,hov',hcg,_⟩:=hov.rows.open;rw[hov']at hov;repeat refine c_r ?_
  refine rq ?_;intro gd K hgd hK;try simp (disch:=first|omega|assumption|rfl) only[go_sem,h3]
  rw[hov'];refine yfm (P_cm.Clip_ok hcg) ?_;rintro _ y0 ⟨rfl,hy0⟩;try simp only[go_sem]
  rw[hy0];clear hy0 y0;refine hK _ _ ?_;clear hK hgd;clear K;try clear gd
  repeat refine c_r ?_
  refine rt0 ntmps166 ?_;have h4:=hov.rows.take (m:=(zaz t ds).length) (c2:=(zaz t ds).length) (ynl _) (ynl _);rw[yaT]at h4;exact⟨hE1.trans hE2,h4,hov.blk.same.mono oM⟩
structure Bld(B:Nat)(w:World)(b:Nat)(bs:List UInt8):Prop where
 ex:∃p v,(p= .pointer .none\/p= .pointer (some ⟨b,0,.none⟩))/\w.heap[b]? =some (.cells #[p,v] 232 (0,0))/\Own B w 5 v (bs.map zae)
theorem zhO(h:Own B w e v l)(hb:some b=v.ownBlock):∃cur fr,w.heap[b]? =some (.cells cur e fr):=by
 rcases h.2 with ⟨rfl,_⟩| ⟨g,cap,cur,rfl,_,hg,_⟩
 ·cases hb
 ·cases hb;exact⟨_,_,hg⟩
theorem bld_ne{p:Value}(h:Own B w 5 v l)(hb:w.heap[b]? =some (.cells #[p,v] 232 (0,0))):some b≠v.ownBlock:=λ he=>by
 obtain⟨cur,fr,h1⟩:=zhO h he;rw[hb]at h1;injection h1 with h1
 injection h1 with _ h2
 revert h2;decide
theorem zm1(l:List UInt8):∀q∈l.map zae,one q=true:=λ q hq=>by
 obtain⟨c,_,rfl⟩:=yaq.1 hq;rfl
theorem zfC{p:Value}(hp:p= .pointer .none\/p= .pointer (some ⟨b,0,.none⟩))(hb:w.heap[b]? =some (.cells #[p,v] 232 (0,0))):
  Fn prog 152 #[.pointer (some ⟨b,0,.none⟩)] w (λ _ w'=>w'.heap[b]? =some (.cells #[.pointer (some ⟨b,0,.none⟩),v] 232 (0,0))/\Keep (λ i=>i=b) w w'/\w'.heap.size=w.heap.size):=by
 have c0:zad w (some ⟨b,0,.none⟩)=some p:=zab hb rfl;obtain⟨j,hj,hjs⟩:∃j,prog.info? 232=some j/\j.size≠0:=by
  have:(prog.info? 232).map (·.size)=some 2:=by kernel_rfl
  obtain⟨j,h1,h2⟩:=ybm.1 this;exact⟨j,h1,by rw[h2];decide⟩
 rcases hp with rfl|rfl
 ·refine enx func152 ntmps152 ?_;refine rqz ?_;intro gd K hgd hK;refine sgz (az2 c0 yad) ?_;apply hK;refine wcz ?_ ?_
  ·intro _;have hsh:w.shape? b=some (232,2):=by simp[World.shape?,hb]
   refine rqz ?_;intro gd K hgd hK;refine sg0 ?_;refine zm0 (by rfl) (Lib.run_to_unsafe w ⟨b,0,.none⟩ (by rfl) (by rfl) hj hjs hsh (Nat.zero_lt_succ 1)) ?_;refine sg0 ?_;refine⟨.pointer (some ⟨b,0,.none⟩),w,?_,?_⟩
   ·rw[run_callFunc_extern (show prog.funcs[193]? =_ from func193) kR kR kR (e:=Extern.AbiNoEscape.same) kR];rw[Lib.run_noEscape]
    rfl
   refine sg0 ?_;refine zm0 (by rfl) (Lib.run_from_unsafe w ⟨b,0,.none⟩ (by rfl) (by rfl) hj hsh kR) ?_;refine sg0 ?_;refine za6 (P:=prog) (t:=230) (j:=0) (l:=[.pointer .none,v]) hb sM rfl rfl rfl ?_;intro w1 hs1 hb1 hk1;refine sg0 ?_;refine en hK ?_;exact zap sM rfl ⟨by simpa using hb1,hk1,hs1⟩
  ·intro h;cases h
 ·refine enx func152 ntmps152 ?_;refine rqz ?_;intro gd K hgd hK;refine sgz (az2 c0 yad) ?_;apply hK;refine wcz ?_ ?_
  ·intro h;cases h
  intro _;refine rqz ?_;intro gd K hgd hK;refine sgz (az2 c0 yad) ?_;refine ziJ (by rfl) hj (by rfl) (by rfl) ?_;refine sg0 ?_;apply hK;refine wcz ?_ ?_
  ·intro h;cases h
  intro _;refine cZ ?_;exact zap sM rfl ⟨hb,Keep.refl _ _,rfl⟩
theorem zev{bs s:List UInt8}(h:Bld B w b bs)(hB:B<=w.heap.size)(hlen:bs.length+s.length<=100000000000):
  Fn prog 115 #[.pointer (some ⟨b,0,.none⟩),vs s] w (λ _ w'=>Bld B w' b (bs++s)/\Keep (λ i=>i=b\/B<=i) w w'):=by
 obtain⟨p,v,hp,hb,hown⟩:=h.ex;have hne:=bld_ne hown hb;obtain⟨inf,hi,hz,hsz,hby⟩:=info_parts (P:=prog) (e:=5) (z:= .int .u8 0) (size:=1) (bytes:=1) kR;refine enx func115 ntmps115 ?_;refine gz0 ?_;refine rq ?_;intro gd K hgd hK;refine sg0 ?_;refine yfm (zfC hp hb) ?_;rintro _ w1 ⟨hb1,hk1,hs1⟩;refine sg0 ?_;apply hK;have hown1:=hown.keep hk1 (λ i hi he=>hne (he▸hi));have c1:zad w1 (some ⟨b,1,.none⟩)=some v:=zab hb1 rfl;refine rqz ?_;intro gd K hgd hK;refine sgz (az2 c1 yn0) ?_;refine op_appS hown1 (by rfl) (by rfl) hi hz hsz hby (by rfl) (by rfl) (sU hlen) oM ?_;intro v2 w2 hown2 hk2;refine sg0 ?_;have hb2:=(hk2.block b (yaa.1 hb1).1 hne).trans hb1;have hne2:some b≠v2.ownBlock:=λ he=>by
  obtain⟨cur,fr,h1⟩:=zhO hown2 he;rw[hb2]at h1;injection h1 with h1
  injection h1 with _ h2
  revert h2;decide
 obtain⟨a2,c2,hv2⟩:=hown2.slice;refine za6 (P:=prog) (t:=93) (j:=1) (l:=[.pointer (some ⟨b,0,.none⟩),v]) hb2 sM (by rw[hv2];rfl) rfl rfl ?_;intro w3 hs3 hb3 hk3;refine sg0 ?_;apply hK;have hown3:=hown2.keep hk3 (λ i hi he=>hne2 (he▸hi));refine gz0 ?_;refine zau (.inr rfl) ntmps115 rfl (zaj rfl (zaj rfl zas)) ?_;refine⟨⟨⟨_,v2,.inr rfl,by simpa using hb3,by rw[yaC];exact hown3⟩⟩,?_⟩;exact((hk1.mono (λ i _ h=> .inl h)).trans (hk2.mono (λ i _ h=> .inr (hown1.ge h).1))).trans (hk3.mono (λ i _ h=> .inl h))
theorem zfG{bs:List UInt8}{c:UInt8}(h:Bld B w b bs)(hB:B<=w.heap.size)(hlen:bs.length+1<=100000000000):
  Fn prog 155 #[.pointer (some ⟨b,0,.none⟩),zae c] w (λ _ w'=>Bld B w' b (bs++ [c])/\Keep (λ i=>i=b\/B<=i) w w'):=by
 obtain⟨p,v,hp,hb,hown⟩:=h.ex;have hne:=bld_ne hown hb;refine enx func155 ntmps155 ?_;refine gz0 ?_;refine rq ?_;intro gd K hgd hK;refine sg0 ?_;refine yfm (zfC hp hb) ?_;rintro _ w1 ⟨hb1,hk1,hs1⟩;refine sg0 ?_;apply hK;have hown1:=hown.keep hk1 (λ i hi he=>hne (he▸hi));have c1:zad w1 (some ⟨b,1,.none⟩)=some v:=zab hb1 rfl;refine rqz ?_;intro gd K hgd hK;refine sgz (az2 c1 yn0) ?_;refine zc3 (z:= .int .u8 0) (v:=zae c) (by rfl) (by rfl) (by rfl) (by rfl) (by rfl) ?_;intro x1 hX1 hXs hXo;refine sg0 ?_;refine zb0 (B:=B) (hown1.ext hX1) hXo.row (by rfl) (by rfl) (by rfl) (by rfl) (by rfl) (by rfl) (by rfl) (by rfl) (zm1 [c]) (by simp;omega) (by decide) (by have:=hX1.size;omega) ?_;intro v2 w2 hown2 _ hk2 hfr;refine sg0 ?_;have hb2:=(hk2.block b (by have:=(yaa.1 hb1).1;have:=hX1.size;omega) hne).trans (Ext.at hX1 hb1);have hne2:some b≠v2.ownBlock:=λ he=>by
  obtain⟨cur,fr,h1⟩:=zhO hown2 he;rw[hb2]at h1;injection h1 with h1
  injection h1 with _ h2
  revert h2;decide
 obtain⟨a2,c2,hv2⟩:=hown2.slice;refine za6 (P:=prog) (t:=93) (j:=1) (l:=[.pointer (some ⟨b,0,.none⟩),v]) hb2 sM (by rw[hv2];rfl) rfl rfl ?_;intro w3 hs3 hb3 hk3;refine sg0 ?_;apply hK;have hown3:=hown2.keep hk3 (λ i hi he=>hne2 (he▸hi));refine gz0 ?_;refine zau (.inr rfl) ntmps155 rfl (zaj rfl zas) ?_;refine⟨⟨⟨_,v2,.inr rfl,by simpa using hb3,by rw[yaC];exact hown3⟩⟩,?_⟩;exact(((hk1.mono (λ i _ h=> .inl h)).trans (hX1.mono (λ i _ h=>h.elim))).trans (hk2.mono (λ i _ h=> .inr (hown1.ge h).1))).trans (hk3.mono (λ i _ h=> .inl h))
theorem zjV(w:World)(p:Addr)(n:Nat):Keep (λ i=>i=p.block) w (w.freeze p n):=by
 unfold World.freeze
 split
 ·exact Keep.refl _ _
 ·exact⟨rfl,rfl,rfl,sM,λ k hk hne=>by
   simp only[ybX];rw[if_neg (λ h=>hne h.symm)],ynl _⟩
theorem zjk{bs:List UInt8}(h:Bld B w b bs)(hlen:bs.length<=100000000000):
  Fn prog 117 #[.pointer (some ⟨b,0,.none⟩)] w (λ v w'=>v=vs bs/\Keep (λ i=>B<=i) w w'):=by
 obtain⟨p,v,hp,hb,hown⟩:=h.ex;rcases hown.2 with ⟨rfl,hl⟩| ⟨g,cap,cur,rfl,hgB,hg,hn,hcap,hcs,hx⟩
 ·have h0:bs=[]:=sU hl;subst h0;refine enx func117 ntmps117 ?_;refine gz0 ?_;refine zaF (λ _=>false) [(0,true),(1,true),(2,true),(3,true),(5,true),(6,true),(7,true),(8,true),(9,true),(4,false),(10,false),(11,true)] NoS mixed kR ?_;intro gd K x hgd hx hxe hK;have hx0:=zgH hxe;have c1:zad x (some ⟨b,1,.none⟩)=some (.slice .none 0 0):=zab (Ext.at hx0 hb) rfl;refine sgz (az2 c1 yn0) ?_;refine zc1 (u:= .slice .none 0 0) vq0 (Lib.run_unsafeSliceData_nil _ _ _ _ _) ?_;refine⟨.inr ykr,?_⟩;refine zbZ (u:= .pointer .none) (z:=vi 0) vq0 vr0 (Lib.run_unsafeString_none (P:=prog) _ _ _ _ _) ?_;refine⟨.inr ykr,?_⟩;refine en hK ?_;refine zau (.inr rfl) ntmps117 rfl (zaj vr0 zas) ?_;exact⟨rfl,hx0.mono (λ i _ h=>h.elim)⟩
 by_cases h0:bs=[]
 ·subst h0;refine enx func117 ntmps117 ?_;refine gz0 ?_;refine zaF (λ _=>false) [(0,true),(1,true),(2,true),(3,true),(5,true),(6,true),(7,true),(8,true),(9,true),(4,false),(10,false),(11,true)] NoS mixed kR ?_;intro gd K x hgd hx hxe hK;have hx0:=zgH hxe;have c1:zad x (some ⟨b,1,.none⟩)=some (.slice (some ⟨g,0,.none⟩) 0 cap):=zab (Ext.at hx0 hb) rfl;have hgx:=Ext.at hx0 hg;refine sgz (az2 c1 yn0) ?_;by_cases hc0:cap=0
  ·subst hc0;refine zc1 (u:= .slice (some ⟨g,0,.none⟩) 0 0) vq0 (Lib.run_unsafeSliceData_zero (P:=prog) _ _ _ 5 (by rfl) _ _ _ (by simp only[World.shape?,hgx];rfl)) ?_;refine⟨.inr (yea x _),?_⟩;refine zbZ (u:= .pointer (some ⟨x.heap.size,0,.none⟩)) (z:=vi 0) vq0 vr0 (Lib.run_unsafeString_none (P:=prog) _ _ _ _ _) ?_;refine⟨.inr ykr,?_⟩;refine en hK ?_;refine zau (.inr rfl) ntmps117 rfl (zaj vr0 zas) ?_;exact⟨rfl,(hx0.trans (yea x _)).mono (λ i _ h=>h.elim)⟩
  ·refine zc1 (u:= .slice (some ⟨g,0,.none⟩) 0 cap) vq0 (Lib.run_unsafeSliceData_row _ _ _ _ _ _ hc0) ?_;refine⟨.inr ykr,?_⟩;refine zbZ (u:= .pointer (some ⟨g,0,.none⟩)) (z:=vi 0) vq0 vr0 (Lib.run_unsafeString_none (P:=prog) _ _ _ _ _) ?_;refine⟨.inr ykr,?_⟩;refine en hK ?_;refine zau (.inr rfl) ntmps117 rfl (zaj vr0 zas) ?_;exact⟨rfl,hx0.mono (λ i _ h=>h.elim)⟩
 simp only[ylm,ybt]at hn hx hb hcs;have hlen0:0<bs.length:=yau.2 h0;refine enx func117 ntmps117 ?_;refine gz0 ?_;have hbg:b≠g:=λ he=>by
  subst he;rw[hb]at hg;injection hg with hg
  injection hg with _ h2
  revert h2;decide
 have hc0:cap≠0:=oM;refine zaF (λ _=>false) [(0,true),(1,true),(2,true),(3,true),(5,true),(6,true),(7,true),(8,true),(9,true),(4,false),(10,false),(11,true)] ((λ i=>i=g)) mixed kR ?_;intro gd K x hgd hx hxe hK;have hx0:=zgH hxe;have c1:zad x (some ⟨b,1,.none⟩)=some (.slice (some ⟨g,0,.none⟩) bs.length cap):=zab (Ext.at hx0 hb) rfl;have hgx:=Ext.at hx0 hg;refine sgz (az2 c1 yn0) ?_;refine⟨λ a ha hb=>(by cases ha;exact hbg hb),λ a ha hb=>(by cases ha;exact hbg hb),?_⟩;refine zc1 (u:= .slice (some ⟨g,0,.none⟩) bs.length cap) vq0 (Lib.run_unsafeSliceData_row _ _ _ _ _ _ hc0) ?_;refine⟨.inr ykr,?_⟩;refine zbZ (u:= .pointer (some ⟨g,0,.none⟩)) (z:=vi bs.length) vq0 vq0 (Lib.run_unsafeString_row (P:=prog) _ _ _ _ 5 (by rfl) (by rfl) g (cap*1) (by simp[World.shape?,hgx,hcs]) bs h0 oM oM ?_) ?_
 ·intro j y hj;obtain⟨hj1,hj2⟩:=yaj.1 hj;have hcell:=hown.row;obtain⟨a,c,e,hc,hgt⟩:=hcell.ext hx0;injection e with e1 e2 e3
  have h2:=hgt j (sU hj1);rw[←e1,yaA,hj2]at h2;exact h2
 have hfk:Keep (λ i=>i=g) x (x.freeze ⟨g,0,.none⟩ bs.length):=zjV x ⟨g,0,.none⟩ bs.length;refine⟨.inr hfk,?_⟩;refine en hK ?_;refine zau (.inr rfl) ntmps117 rfl (zaj vr0 zas) ?_;exact⟨rfl,(hx0.mono (λ i _ h=>h.elim)).trans (hfk.mono (λ i _ h=>h▸hgB))⟩
end Go.Proofs.YtfacfpcopcgbdaaGreat
namespace Go.Proofs
open Go.Shelf
def Tryz.lays137_ren:Go.Shelf.Ren:=⟨fun|137=>154|217=>194|266=>228|n=>n,fun|9=>9|5=>5|3=>3|n=>n,fun|n=>n⟩
theorem Tryz.lays137:Go.Proofs.Lays.n137 Tryz.prog Tryz.lays137_ren:={
 mixed:=by kernel_rfl
 f137:=Tryz.func154.trans (congrArg some (by kernel_rfl))
 f217:=Tryz.func194.trans (congrArg some (by kernel_rfl))
 f266:=Tryz.func228.trans (congrArg some (by kernel_rfl))
 t3:=Tryz.underlying3
 a3:=Tryz.isAgg3
 z3:=Tryz.sizeOf3
 v3:=Tryz.zeroValue3
 t5:=Tryz.underlying5
 a5:=Tryz.isAgg5
 z5:=Tryz.sizeOf5
 v5:=Tryz.zeroValue5
 t9:=Tryz.underlying9
 a9:=Tryz.isAgg9
 z9:=Tryz.sizeOf9
 v9:=Tryz.zeroValue9}
end Go.Proofs
namespace Go.Proofs.YtfacfpcopcgbdaaGreat
open Go Tryz
variable {w w0 w1 W0 x A:World}{v u lv nv:Value}{cs l:List Value}{B k b i j c m cap:Nat}{t e:TypeId}{a:Option Addr}{S C:Nat->Prop}{q n o:Nm}
def escB(c:UInt8):List UInt8:=[92,UInt8.ofNat (48+c.toNat / 100),UInt8.ofNat (48+c.toNat / 10 % 10),UInt8.ofNat (48+c.toNat % 10)]
def marksL:List UInt8:=[46,92,34,40,41,59,64,36]
def labB(c:UInt8):List UInt8:=if c.toNat<=32\/127<=c.toNat then escB c else if marksL.contains c then [92,c] else [c]
def zcT(l:Lab):List UInt8:=l.flatMap labB
def zco(n:Nm):List UInt8:=if n=[] then [46] else n.flatMap λ l=>zcT l++ [46]
theorem ze4(h:k<256):zae (UInt8.ofNat k)= .int .u8 (k:Int):=by
 unfold zae;rw[UInt8.toNat_ofNat_of_lt' (by simpa [UInt8.size] using h)]
theorem zhX(l:List UInt8)(c:UInt8):decide (0<=Lib.indexByte l c)=l.contains c:=by
 induction l with
 |nil=>rfl
 |cons b l ih=>
  unfold Lib.indexByte;rw[List.contains_cons];by_cases h:b==c
  ·rw[if_pos h];have h':b=c:=sU h;subst h';simp
  ·rw[if_neg h];have:(c==b)=false:=by
    have h':¬b=c:=sU h;exact beq_eq_false_iff_ne.2 (λ e=>h' e.symm)
   rw[this,ycZ,←ih];have hge:=Lib.indexByte_ge l c;by_cases h2:(Lib.indexByte l c== -1)=true
   ·rw[if_pos h2];have h3:Lib.indexByte l c= -1:=sU h2;rw[h3]
   ·rw[if_neg h2];have h3:Lib.indexByte l c≠ -1:=sU h2;exact decide_eq_decide.2 ⟨λ _=>oM,λ _=>oM⟩
theorem labB_len(c:UInt8):(labB c).length<=4:=by
 unfold labB escB;by_cases h1:c.toNat<=32\/127<=c.toNat
 ·rw[if_pos h1];exact ynl _
 ·rw[if_neg h1];by_cases h2:marksL.contains c=true
  ·rw[if_pos h2];exact(by decide:2<=4)
  ·rw[if_neg h2];exact(by decide:1<=4)
theorem zeI(l:Lab):(zcT l).length<=4*l.length:=by
 induction l with
 |nil=>simp[zcT]
 |cons c l ih=>
  have:=labB_len c;unfold zcT at*;rw[ybJ,yab,yah];omega
theorem zos(w:World)(c:UInt8):Fn prog 153 #[zae c] w (λ v w'=>v=vs (escB c)/\Ext w w'):=by
 have hc:c.toNat<256:=c.toNat_lt;obtain⟨n,hn⟩:∃n,c.toNat=n:=⟨_,rfl⟩;have e0:zae c= .int .u8 (n:Int):=by unfold zae;rw[hn]
 rw[e0];rw[hn]at hc;have h100:¬(100:Int)=0:=by decide
 have h10:¬(10:Int)=0:=by decide
 have e1:((n:Nat):Int).tdiv 100=((n / 100:Nat):Int):=by rw[ycw oM];omega
 have e2:((n:Nat):Int).tdiv 10=((n / 10:Nat):Int):=by rw[ycw oM];omega
 have e3:((n / 10:Nat):Int).tmod 10=((n / 10 % 10:Nat):Int):=by rw[Int.tmod_eq_emod_of_nonneg oM];omega
 have e4:((n:Nat):Int).tmod 10=((n % 10:Nat):Int):=by rw[Int.tmod_eq_emod_of_nonneg oM];omega
 have w1:IntKind.u8.wrap ((n / 100:Nat):Int)=((n / 100:Nat):Int):=zlf oM oM;have w2:IntKind.u8.wrap ((n / 10:Nat):Int)=((n / 10:Nat):Int):=zlf oM oM;have w3:IntKind.u8.wrap (48+((n / 100:Nat):Int))=((48+n / 100:Nat):Int):=by rw[zlf oM oM];push_cast;rfl
 have w4:IntKind.u8.wrap (48+((n / 10 % 10:Nat):Int))=((48+n / 10 % 10:Nat):Int):=by rw[zlf oM oM];push_cast;rfl
 have w5:IntKind.u8.wrap (48+((n % 10:Nat):Int))=((48+n % 10:Nat):Int):=by rw[zlf oM oM];push_cast;rfl
 have hl:escB c=[92,UInt8.ofNat (48+n / 100),UInt8.ofNat (48+n / 10 % 10),UInt8.ofNat (48+n % 10)]:=by unfold escB;rw[hn]
 refine enx func153 ntmps153 ?_;refine gz0 ?_;refine rq ?_;intro gd K hgd hK;try simp (disch:=assumption) only[go_sem,b_quo,b_rem,e1,e2,e3,e4,w1,w2,↓w3,↓w4,↓w5]
 refine zbK (z:= .int .u8 0) (l:=(escB c).map zae) (by rw[hl];rfl) ?_ (by rfl) (by rfl) (by rfl) (by rfl) (λ v hv=>?_) (by rw[hl];simp) ?_
 ·rw[hl];simp only[yaU,ycp];rw[ze4 oM,ze4 oM,ze4 oM];rfl
 ·obtain⟨d,_,rfl⟩:=yaq.1 hv;rfl
 intro x1 hX1 hXs hXo;refine sg0 ?_;have hlen4:(escB c).length=4:=rfl;refine zcv (l:=escB c) rfl rfl rfl vr0 (λ j hj=>?_) ?_
 ·obtain⟨a,c2,e,hc2,hgt⟩:=hXo.row;injection e with e1
  have h2:=hgt j (sU hj);rw[←e1,yaA]at h2;exact h2
 refine sg0 ?_;refine en hK ?_;refine rt0 ntmps153 ?_;exact⟨rfl,hX1⟩
theorem zjt(w:World)(c:UInt8):Fn prog 154 #[vs marksL,zae c] w (λ v w'=>v=vi (Lib.indexByte marksL c)/\w'=w):=
 Fn.of_calls (Calls.mono (Any.strings_IndexByte Tryz.lays137 ⟨marksL.toArray⟩ (c.toNat:Int) w) λ _ _ ⟨he,hw⟩=>⟨_,he,sM,hw⟩)
theorem Bld.ext'{bs:List UInt8}(h:Bld B w b bs)(hE:Ext w x):Bld B x b bs:=by
 obtain⟨p,v,hp,hb,hown⟩:=h.ex;exact⟨p,v,hp,hE.at hb,hown.ext hE⟩
theorem LText_ok(w:World)(l:Lab)(hl:l.length<=1000000000):Fn prog 116 #[vs l] w (λ v w'=>v=vs (zcT l)/\Ext w w'):=by
 refine enx func116 ntmps116 ?_;refine gz0 ?_;refine zav ?_;intro w1 hE1 hs1 hA;refine rqz ?_;intro gd K hgd hK;refine sg0 ?_;refine yfm (ziI _ _ oM) ?_;rintro _ w3 ⟨hE3,cap,rfl,hit⟩;refine sg0 ?_;apply hK;have hA3:=hE3.at hA;have s3:=hE3.size;refine cZ ?_;refine zd4 (g:=138) (cap:=cap) vq0 rfl (hit (λ b=>b=w.heap.size) (λ b hb=>oM)) ykr (ynl _) (λ b hb=>oM)
  (λ x A args h=>by rw[h];rfl)
  (λ pre A=>Ext w A/\Bld (w3.heap.size+2) A w.heap.size (zcT (l.take pre.length)))
  (λ _ _ _=>False) ?_ (λ _ _ _ _ h _=>h.elim) ?_ ?_ ?_ (λ _ _ _ _ _ _ _ h _=>h.elim)
 ·rintro pre A B ⟨h1,p,v,hp,hb,hown⟩ hk;refine⟨ykt h1 rfl (λ b hb=>by unfold two at hb;omega) hk,p,v,hp,(hk.block _ (yaa.1 hb).1 (by unfold two;omega)).trans hb,hown.keep hk (λ b hb h=>by have:=(hown.ge hb).1;unfold two at h;omega)⟩
 ·exact⟨hE1.trans hE3,_,_,.inl rfl,hA3,Own.nil _ _ _⟩
 ·rintro lp pre x suf A args hxs hszA ⟨hEA,hB⟩ rfl;obtain⟨hk,rfl⟩:=zfw hxs
  dsimp only
  refine rq ?_;intro gd K hgd hK;refine sg0 ?_;apply hK;refine zao ?_;refine⟨rfl,KeepB.refl _ _ _,λ A2 hA2=>?_⟩;obtain⟨c,hc⟩:∃c,l[pre.length]=c:=⟨_,rfl⟩;rw[hc];have hK2:Bld (w3.heap.size+2) A2 w.heap.size (zcT (l.take pre.length)):=by
   obtain⟨p,v,hp,hb,hown⟩:=hB;exact⟨p,v,hp,(hA2.block _ (yaa.1 hb).1 (by unfold two;omega)).trans hb,hown.keep hA2 (λ b hb h=>by have:=(hown.ge hb).1;unfold two at h;omega)⟩
  have hE2:Ext w A2:=ykt hEA rfl (λ b hb=>by unfold two at hb;omega) hA2;have hsA2:=hA2.size;have htl:(zcT (l.take pre.length)).length<=4*l.length:=by
   have h1:=zeI (l.take pre.length);rw[yaQ]at h1;omega
  have htk:zcT (l.take (pre.length+1))=zcT (l.take pre.length)++labB c:=by
   rw[zal hk,hc];unfold zcT;rw[ybB];simp
  have fin:∀{z:World} {bs:List UInt8},bs=labB c->Bld (w3.heap.size+2) z w.heap.size (zcT (l.take pre.length)++bs)->Keep (λ i=>i=w.heap.size\/w3.heap.size+2<=i) A2 z->
    (Ext w z/\Bld (w3.heap.size+2) z w.heap.size (zcT (l.take (pre++ [(c,pre.length)]).length)))/\KeepB (w3.heap.size+2) (λ b=>b=w.heap.size) A2 z:=fun {z bs} hbs hBz hkz=>by
   refine⟨⟨ykt hE2 rfl (λ b hb=>oM) hkz,?_⟩,hkz.toB oM (λ i hi h=>oM)⟩;rw[yab,ybw,htk,←hbs];exact hBz
  refine cZ ?_;refine zaw (Q:=λ e σ' ds' v'=>e= .normal/\ds'=[]/\v'=A2/\σ' 5=zae c/\σ' 3= .pointer (some ⟨w.heap.size,0,.none⟩)/\σ' 10= .bool (decide (c.toNat<=32\/127<=c.toNat))) ?_ ?_
  ·refine rq ?_;intro gd K hgd hK;have hg2:=gk 2 13 hgd rfl;by_cases c1:(c.toNat:Int)<=32
   ·try simp (disch:=first|omega|assumption|rfl) only[go_sem,zae,yet c1,↓hg2]
    apply hK;refine⟨rfl,rfl,rfl,by simp only[go_sem,zae],vq0,?_⟩;rw[show decide (c.toNat<=32\/127<=c.toNat)=true from yet (.inl oM)];simp only[go_sem]
   ·try simp (disch:=first|omega|assumption|rfl) only[go_sem,zae,yef c1,↓hg2]
    apply hK;refine⟨rfl,rfl,rfl,by simp only[go_sem,zae],vq0,?_⟩;rw[show decide (c.toNat<=32\/127<=c.toNat)=decide ((127:Int)<=(c.toNat:Int)) from decide_eq_decide.2 ⟨λ h=>oM,λ h=> .inr oM⟩];simp only[go_sem]
  rintro _ σ1 _ v1 ⟨rfl,rfl,hv1,h5,h3,h10⟩;rw[hv1];clear hv1 v1;refine cZ ?_;refine zaG (t:=decide (c.toNat<=32\/127<=c.toNat)) ((vq1 h10)) ?_ ?_
  ·intro hcc;simp only[ydT]at hcc;have hlb:labB c=escB c:=by unfold labB;rw[if_pos hcc]
   refine rqz ?_;intro gd K hgd hK;refine sgz (az2 h5 h3) ?_;refine yfm (zos A2 c) ?_;rintro _ z1 ⟨rfl,hz1⟩;refine sgz h3 ?_;have hBz:=hK2.ext' hz1;refine yfm (zev hBz (by have:=hz1.size;omega) (by have:(escB c).length=4:=rfl;omega)) ?_;rintro _ z2 ⟨hBz2,hkz2⟩;refine sg0 ?_;refine en hK ?_;exact fin hlb.symm hBz2 ((hz1.mono (λ i _ h=>h.elim)).trans hkz2)
  ·intro hcc;simp only[ydF]at hcc;refine rqz ?_;intro gd K hgd hK;refine sgz h5 ?_;refine yfm (zjt A2 c) ?_;rintro _ y0 ⟨rfl,hy0⟩;refine sg0 ?_;rw[hy0];clear hy0 y0;apply hK;have hhas:=zhX marksL c;have tail:∀{z:World} {σ':Sto} {bs:List UInt8},bs++ [c]=labB c->Bld (w3.heap.size+2) z w.heap.size (zcT (l.take pre.length)++bs)->Keep (λ i=>i=w.heap.size\/w3.heap.size+2<=i) A2 z->σ' 5=zae c->σ' 3= .pointer (some ⟨w.heap.size,0,.none⟩)->bs.length<=4->
     Fn prog 155 #[.pointer (some ⟨w.heap.size,0,.none⟩),zae c] z (λ _ z'=>(Ext w z'/\Bld (w3.heap.size+2) z' w.heap.size (zcT (l.take (pre++ [(c,pre.length)]).length)))/\KeepB (w3.heap.size+2) (λ b=>b=w.heap.size) A2 z'):=fun {z σ' bs} hbs hBz hkz _ _ hb4=>by
    refine yfm (zfG hBz (by have:=hkz.size;omega) (by simp;omega)) ?_;rintro _ z' ⟨h1,h2⟩;exact fin hbs (by rw[←yla];exact h1) (hkz.trans h2)
   refine cZ ?_;refine zaG (t:=marksL.contains c) (by rw[←hhas];simp only[go_sem]) ?_ ?_
   ·intro hm;have hlb:labB c=[92,c]:=by unfold labB;rw[if_neg hcc,if_pos hm]
    refine rqz ?_;intro gd K hgd hK;refine sgz h3 ?_;refine yfm (zfG (c:=92) hK2 oM oM) ?_;rintro _ z1 ⟨hBz1,hkz1⟩;refine sg0 ?_;apply hK;refine rqz ?_;intro gd K hgd hK;refine sgz (az2 h3 h5) ?_;refine yfm (tail (σ':=σ1) (bs:=[92]) hlb.symm hBz1 hkz1 h5 h3 (by decide)) ?_;rintro _ z2 hz2;refine sg0 ?_;refine en hK ?_;exact hz2
   ·intro hm;have hlb:labB c=[c]:=by unfold labB;rw[if_neg hcc,if_neg (by rw[hm];exact yaV)]
    refine rqz ?_;intro gd K hgd hK;refine sgz (az2 h3 h5) ?_;refine yfm (tail (σ':=σ1) (bs:=[]) hlb.symm (sU hK2) ykr h5 h3 (by decide)) ?_;rintro _ z2 hz2;refine sg0 ?_;refine en hK ?_;exact hz2
 ·intro A hszA ⟨hEA,hB⟩ hD;rw[yaf sM]at hB;have hlt:=zeI l;refine rqz ?_;intro gd K hgd hK;refine sg0 ?_;refine yfm (zjk hB oM) ?_;rintro _ z ⟨rfl,hkz⟩;refine sg0 ?_;refine en hK ?_;refine zcY (v:=vs (zcT l)) (.inr rfl) (by rfl) ntmps116 vq0 ((hkz.block _ oM oM).trans hD) ?_;intro Z hkZ hsZ;exact⟨rfl,ykt (ykt hEA rfl (λ b hb=>oM) hkz) rfl (λ b hb=>oM) hkZ⟩
end Go.Proofs.YtfacfpcopcgbdaaGreat
