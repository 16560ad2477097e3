/-
  Texts of a proof, joined.
  Conditions: none.
-/
import Derived.Test.YtfacfpcopcgbdaaGreatPBR04
set_option linter.all false
set_option maxRecDepth 20000
set_option maxHeartbeats 8000000
namespace Go.Proofs.YtfacfpcopcgbdaaGreat
open Go Tryz
variable {w w0 w1 W0 x A:World}{v u lv nv:Value}{cs l:List Value}{B k b i j c cap:Nat}{t e:TypeId}{a:Option Addr}{S C:Nat->Prop}{q n o:Nm}
theorem zf8(n:Nm):(n.flatMap λ l=>zcT l++ [46]).length<=4*(n.map List.length).sum+n.length:=by
 induction n with
 |nil=>simp
 |cons l n ih=>
  have:=zeI l;rw[ybJ,yab,yaU,yca,yah];simp only[yab,ybw];omega
theorem zf2(w:World)(nv:Value)(n:Nm)(hn:Row w nv (n.map vs))(hl:∀l∈n,l.length<=1000000)(hnl:n.length<=1000):
  Fn prog 76 #[nv] w (λ v w'=>v=vs (zco n)/\Ext w w'):=by
 obtain⟨an,cn,rfl,hcn,hgn⟩:=hn;simp only[ylm]at hcn hgn;rw[ylm];refine enx func76 ntmps76 ?_;refine gz0 ?_;refine wc0 ?_ ?_
 ·intro h0;simp only[ydT]at h0;have hn0:n=[]:=yan.1 oM;refine gz0 ?_;refine rt0 ntmps76 ?_;exact⟨by unfold zco;rw[if_pos hn0],Keep.refl _ _⟩
 intro h0;simp only[ydF]at h0;have hn0:n≠ []:=λ h=>h0 (by rw[h];rfl);refine gz0 ?_;refine zav ?_;intro w1 hE1 hs1 hA;refine gz0 ?_;refine zan (λ m σ ds A=>ds=[]/\∃(i:Nat),i+m=n.length/\σ 11=vi i/\σ 10=vi n.length/\σ 9= .slice an n.length cn/\σ 3= .pointer (some ⟨w.heap.size,0,.none⟩)/\Ext w A/\w1.heap.size<=A.heap.size/\Bld w1.heap.size A w.heap.size ((n.take i).flatMap λ l=>zcT l++ [46])) n.length ?_ ?_
 ·exact⟨rfl,0,oM,vr0,vq0,vq0,vq0,hE1,ynl _,_,_,.inl rfl,hA,Own.nil _ _ _⟩
 rintro m σ ds A ⟨rfl,i,him,h11,h10,h9,h3,hEA,hsA,hB⟩;refine rqz ?_;intro gd K hgd hK;simp (disch:=first|omega|assumption|rfl) only[go_sem,h11,h10];apply hK;refine wcz ?_ ?_
 ·intro hlt;simp only[ydT]at hlt;have hi:i<n.length:=oM;have hi0:=cj i;have hi1:(i:Int)<(n.length:Int):=oM;have hi1':=ci i;have hg:=zaa hEA (hgn i (sU hi));rw[yaA]at hg;obtain⟨l,hle⟩:∃l,n[i]=l:=⟨_,rfl⟩;rw[hle]at hg;have hmem:l∈n:=hle▸yac hi;obtain⟨xn,rfl⟩:=yxs (zaf hg);have hpl:((n.take i).flatMap λ l=>zcT l++ [46]).length<=5000000000:=by
   have h1:=zf8 (n.take i);have h2:((n.take i).map List.length).sum<=1000000*n.length:=by
    have:∀(k:Nm),(∀l∈k,l.length<=1000000)->(k.map List.length).sum<=1000000*k.length:=λ k=>by
     induction k with
     |nil=>intro _;simp
     |cons x k ih=>
      intro h;have h3:=ih (λ l hl=>h l (yak _ hl));have h4:=h x (yal ..);rw[yaU,yca,yah];omega
    have h3:=this (n.take i) (λ l hl'=>hl l (yaO hl'));rw[yaQ]at h3;omega
   rw[yaQ]at h1;omega
  have htl:=zeI l;have hll:=hl l hmem;have hadd:(zcT l).length+([46]:List UInt8).length<=9223372036854775807:=by rw[ybw];omega
  refine rqz ?_;intro gd K hgd hK;simp (disch:=first|omega|assumption|rfl) only[go_sem,h9,h11,hi0,hi1,hg];apply hK;refine rqz ?_;intro gd K hgd hK;refine sg0 ?_;refine yfm (LText_ok A l oM) ?_;rintro _ A1 ⟨rfl,hE2⟩;refine sgz h3 ?_;refine yfm (zev (s:=zcT l++ [46]) (hB.ext' hE2) (by have:=hE2.size;omega) (by rw[yab,ybw];omega)) ?_;rintro _ A2 ⟨hB2,hk2⟩;refine sg0 ?_;apply hK;refine rqz ?_;intro gd K hgd hK;simp (disch:=first|omega|assumption|rfl) only[go_sem,h11,hi1'];apply hK;refine cZ ?_;refine⟨m - 1,oM,rfl,i+1,oM,vq0,vq1 h10,vq1 h9,vq1 h3,ykt (hEA.trans hE2) rfl (λ b hb=>oM) hk2,by have:=hE2.size;have:=hk2.size;omega,?_⟩;rw[zal hi,ybB,hle];simpa using hB2
 ·intro hge;simp only[ydF]at hge;rw[yaf oM]at hB;have hpl:(n.flatMap λ l=>zcT l++ [46]).length<=5000000000:=by
   have h1:=zf8 n;have:∀(k:Nm),(∀l∈k,l.length<=1000000)->(k.map List.length).sum<=1000000*k.length:=λ k=>by
    induction k with
    |nil=>intro _;simp
    |cons x k ih=>
     intro h;have h3:=ih (λ l hl=>h l (yak _ hl));have h4:=h x (yal ..);rw[yaU,yca,yah];omega
   have h3:=this n hl;omega
  refine rqz ?_;intro gd K hgd hK;refine sgz h3 ?_;refine yfm (zjk hB oM) ?_;rintro _ z ⟨rfl,hkz⟩;refine sg0 ?_;refine en hK ?_;refine rt0 ntmps76 ?_;exact⟨by unfold zco;rw[if_neg hn0],ykt hEA rfl (λ b hb=>oM) hkz⟩
def zb1(had:List (List UInt8)):List Nm->List Nm
 | []=>[]
 |h::l=>if had.contains (zco h) then zb1 had l else h::zb1 (zco h::had) l
def zb7(t:Int)(ds:List DatL):List Nm:=zb1 [] (zaz t ds)
structure NmG(n:Nm):Prop where
 ne:∀l∈n,l≠ []
 lb:∀l∈n,l.length<=1000000
 len:n.length<=1000
theorem NmG.m(h:NmG n):NmM n:=⟨h.lb,by have:=h.len;omega⟩
def encH(w0:World)(_:Nat)(x:Nm)(_:Nat->Prop)(_:World)(args:Array Value):Prop:=∃v,args=#[v]/\Row w0 v (x.map vs)
theorem zjQ{M:List (Lab×Value)}{t k:Lab}(h:M.lookup t= .none):(M++ [(t,v)]).lookup k=if k==t then some v else M.lookup k:=by
 induction M with
 |nil=>
  simp only[yaI,ybU,List.lookup_nil]
  split<;>simp_all
 |cons p M ih=>
  obtain⟨q,u⟩:=p;simp only[ybU]at h
  split at h
  ·cases h
  ·rename_i hne;simp only[yav,ybU];by_cases hk:(k==q)=true
   ·simp only[hk];have hkq:k=q:=sU hk;have:(k==t)=false:=by
     rw[hkq];exact beq_eq_false_iff_ne.2 (λ e=>by rw[e]at hne;simp at hne)
    rw[this];rfl
   ·have hk':(k==q)=false:=sU hk;simp only[hk'];exact ih h
theorem znt{bs:Nat}{ow tl dv:Value}{t:Int}{ds:List DatL}(hE0:Ext w0 W0)(hb:W0.heap[bs]? =some (.cells #[ow,vi t,tl,dv] 297 (0,0)))(how:one ow=true)(htl:one tl=true)(hd:Rows 5 (DatAt w0) W0 dv ds)
  (hC:∀b,C b->w0.heap.size<=b/\b<W0.heap.size) (hlen:ds.length<=1000000000) (hgood:∀n∈zaz t ds,NmG n):
  zon prog 232 #[.pointer (some ⟨bs,0,.none⟩)] W0 W0.heap.size C 1 (λ pre x=>∃suf,zb7 t ds=pre++x::suf) (λ xs=>xs=zb7 t ds) (encH w0):=by
 intro lp J Jx W hW hnW hJ hJx hY h0;have hs0:=hE0.size;refine enx func232 ntmps232 ?_;refine gz0 ?_;have hm0:=zjO W;have hEm:=yea W (.map #[] 0);have hsm:=zai W (.map #[] 0);revert hm0 hEm hsm;generalize W.alloc (.map #[] 0)=W1;intro hm0 hEm hsm;have hb1:=Ext.at (hW.trans hEm) hb;have d4:=zah (n:=4) (l:=[ow,vi t,tl,dv]) hb1 rfl;refine rqz ?_;intro gd K hgd hK;refine sgz d4 ?_;refine yfm (zhC (hE0.trans (hW.trans hEm)) how htl (hd.ext (hW.trans hEm)) hlen) ?_;rintro tv X ⟨hEX,htv,htb⟩;obtain⟨aT,cT,rfl,hcT,hgT⟩:=htv.open;obtain⟨L,hL⟩:∃L,zaz t ds=L:=⟨_,rfl⟩;have hH:zb7 t ds=zb1 [] L:=by unfold zb7;rw[hL]
 rw[hL]at htv htb hcT hgood ⊢;simp only[hL]at hgT;refine sg0 ?_;apply hK;have hLl:L.length<=1000000000:=by
  rw[←hL];unfold zaz
  split
  ·have:=yaW (λ d:DatL=>d.names.head?) ds;omega
  ·simp
 have hEWX:=hEm.trans hEX;have hmX:MapAt X W.heap.size []:=hm0.block (hEX.block _ oM (λ h=>h));have hsX:=hEX.size;refine cZ ?_;refine zan (λ m σ ds' v=>ds'=[]/\∃(i:Nat) (pre:List Nm) (U:Nat->Prop) (had:List (List UInt8)) (M:List (Lab×Value)),i+m=L.length/\zb1 [] L=pre++zb1 had (L.drop i)/\σ 11=vi i/\σ 10=vi L.length/\σ 9= .slice aT L.length cT/\σ 0= .func (.yield lp) #[] #[]/\σ 3= .map (some W.heap.size)/\
  J pre U v/\(∀b,U b->X.heap.size<=b)/\X.heap.size<=v.heap.size/\KeepB W0.heap.size C W v/\Ext w0 v/\MapAt v W.heap.size M/\(∀k,M.lookup k=if had.contains k then some (.bool true) else .none)/\Rows 1 (NmC w0) v (.slice aT L.length cT) L) L.length ?_ ?_
 ·refine⟨rfl,0,[],NoS,[],[],oM,rfl,vr0,vq0,vq0,vq0,vq0,hJ _ _ _ _ h0 (hEWX.mono (λ _ _ h=>h.elim)),λ b h=>h.elim,ynl _,hEWX.toB oM (λ _ _ h=>h.elim),hE0.trans (hW.trans hEWX),hmX,λ k=>sM,htv⟩
 rintro m σ ds' v ⟨rfl,i,pre,U,had,M,him,hpre,h11,h10,h9,hf0,h3,hj,hU,hsv,hKB,hEv,hM,hMl,hrow⟩;refine rqz ?_;intro gd K hgd hK;simp (disch:=first|omega|assumption|rfl) only[go_sem,h11,h10];apply hK;refine wcz ?_ ?_
 ·intro hlt;simp only[ydT]at hlt;have hi:i<L.length:=oM;have hi0:=cj i;have hi1:(i:Int)<(L.length:Int):=oM;have hi1':=ci i;obtain⟨h,hh⟩:∃h,L[i]=h:=⟨_,rfl⟩;have hgh:NmG h:=hh▸hgood _ (yac hi);obtain⟨cs,hcs,hv,rfl,hvr⟩:=hrow.get hi;rw[hh]at hvr;have hcell:zad v (adr aT i)=some hv:=by
   have:=zaq hcs (j:=0) rfl
   rwa [ybt,zar]at this
  obtain⟨xT,rfl⟩:=yxs (zaf hcell);have hdr:L.drop i=h::L.drop (i+1):=by rw[yag hi,hh]
  rw[hdr]at hpre;refine rqz ?_;intro gd K hgd hK;simp (disch:=first|omega|assumption|rfl) only[go_sem,h9,h11,hi0,hi1,hcell];apply hK;refine rqz ?_;intro gd K hgd hK;refine sg0 ?_;refine yfm (zf2 v hv h (hvr.ext hEv) hgh.lb hgh.len) ?_;rintro _ v1 ⟨rfl,hE1⟩;refine sg0 ?_;apply hK;have hs1:=hE1.size;have hj1:=hJ _ _ _ _ hj (hE1.mono (λ _ _ h=>h.elim));have hK1:KeepB W0.heap.size C W v1:=hKB.trans (hE1.toB oM (λ _ _ h=>h.elim));have hM1:MapAt v1 W.heap.size M:=hM.block (hE1.block _ oM (λ h=>h));have hrow1:=hrow.ext hE1;have hEv1:=hEv.trans hE1;have hlk:=hM1.lk (P:=prog) (t:=206) (kt:=9) (et:=4) (z:= .bool false) rfl rfl rfl (zco h);rw[hMl]at hlk
  -- the next round
  have next:∀{z:World} {σ':Sto} {pre':List Nm} {U':Nat->Prop} {had':List (List UInt8)} {M':List (Lab×Value)},zb1 [] L=pre'++zb1 had' (L.drop (i+1))->J pre' U' z->(∀b,U' b->X.heap.size<=b)->X.heap.size<=z.heap.size->KeepB W0.heap.size C W z->Ext w0 z->MapAt z W.heap.size M'->
    (∀k,M'.lookup k=if had'.contains k then some (.bool true) else .none)->Rows 1 (NmC w0) z (.slice (some xT) L.length cT) L->σ' 11=vi ((i+1:Nat):Int)->σ' 10=vi L.length->σ' 9= .slice (some xT) L.length cT->σ' 0= .func (.yield lp) #[] #[]->σ' 3= .map (some W.heap.size)->
    ∃m',m'<m/\([]:List Deferred)=[]/\∃(i:Nat) (pre:List Nm) (U:Nat->Prop) (had:List (List UInt8)) (M:List (Lab×Value)),i+m'=L.length/\zb1 [] L=pre++zb1 had (L.drop i)/\σ' 11=vi i/\σ' 10=vi L.length/\σ' 9= .slice (some xT) L.length cT/\σ' 0= .func (.yield lp) #[] #[]/\σ' 3= .map (some W.heap.size)/\
     J pre U z/\(∀b,U b->X.heap.size<=b)/\X.heap.size<=z.heap.size/\KeepB W0.heap.size C W z/\Ext w0 z/\MapAt z W.heap.size M/\(∀k,M.lookup k=if had.contains k then some (.bool true) else .none)/\Rows 1 (NmC w0) z (.slice (some xT) L.length cT) L:=
   λ a1 a2 a3 a4 a5 a6 a7 a8 a9 b1 b2 b3 b4 b5=>⟨m - 1,oM,rfl,i+1,_,_,_,_,oM,a1,b1,b2,b3,b4,b5,a2,a3,a4,a5,a6,a7,a8,a9⟩
  by_cases hcon:had.contains (zco h)=true
  ·rw[if_pos hcon]at hlk;have hskip:zb1 had (h::L.drop (i+1))=zb1 had (L.drop (i+1)):=by
    show(if had.contains (zco h) then _ else _)=_;rw[if_pos hcon]
   rw[hskip]at hpre;refine rqz ?_;intro gd K hgd hK;have hg4:=gk 4 21 hgd rfl;rw[ybS]at hlk;refine sgy hg4 h3 ?_;refine zeQ vq0 vq0 hlk ?_;refine sgy hg4 trivial ?_;apply hK;refine wcz ?_ ?_
   ·intro h;cases h
   intro _;refine rqz ?_;intro gd K hgd hK;refine sgz h3 ?_;refine zhe (v:= .bool true) (l:=M) (key:=zco h) rfl rfl vq0 vq0 vq0 hM1 (by rw[hMl,if_pos hcon]) ?_;intro z hMz hkz hsz;refine sg0 ?_;apply hK;refine rqz ?_;intro gd K hgd hK;simp (disch:=first|omega|assumption|rfl) only[go_sem,h11,hi1'];apply hK;refine cZ ?_;refine next hpre (hJ _ _ _ _ hj1 (hkz.mono (λ b _ h=>by unfold span;omega))) hU oM (hK1.trans (hkz.toB oM (λ b hb h=>oM))) (ykt hEv1 rfl (λ b hb=>oM) hkz) hMz hMl (hrow1.keep hkz (htb.ext oM) (λ b hb _=>oM)) vq0 ((vq1 h10)) ((vq1 h9)) ((vq1 hf0)) ((vq1 h3))
  ·rw[if_neg hcon,Option.getD_none]at hlk;have hno:M.lookup (zco h)= .none:=by rw[hMl,if_neg hcon]
   have hcf:had.contains (zco h)=false:=sU hcon;have hgo:zb1 had (h::L.drop (i+1))=h::zb1 (zco h::had) (L.drop (i+1)):=by
    show(if had.contains (zco h) then _ else _)=_;rw[if_neg hcon]
   rw[hgo]at hpre;have hsuf:∃suf,zb7 t ds=pre++h::suf:=⟨_,by rw[hH,hpre]⟩;refine rqz ?_;intro gd K hgd hK;have hg4:=gk 4 21 hgd rfl;refine sgy hg4 h3 ?_;refine zeQ vq0 vq0 hlk ?_;refine sgy hg4 (az2 h3 hf0) ?_;refine Yld.mono (hY pre U h v1 _ hsuf hj1 oM hK1 ⟨hv,rfl,hvr⟩) ?_;rintro u z (⟨rfl,U',hj',hU',hkr⟩| ⟨rfl,hjx⟩)
   ·refine sgy hg4 trivial ?_;apply hK;have hzs:=hkr.size;have hCb:∀b,W.heap.size<=b->b<X.heap.size->¬(C b\/U b):=λ b h1 h2 h3=>by
     rcases h3 with h3|h3
     ·have:=hC b h3;omega
     ·have:=hU b h3;omega
    have hMz:MapAt z W.heap.size M:=hM1.block (hkr.block _ oM (.inr (ynl _)) (hCb _ (ynl _) oM));have hrowz:Rows 1 (NmC w0) z (.slice (some xT) L.length cT) L:=hrow1.blocks λ a n c hv=>by
     have h1:=htb a n c hv;exact hkr.block _ oM (.inr oM) (hCb _ oM h1.2)
    have hKz:KeepB W0.heap.size C W z:=hK1.trans ⟨hkr.os,hkr.tape,hkr.output,hkr.size,λ b hb hc=>hkr.block b oM (.inl hb) (λ h=>by
     rcases h with h|h
     ·exact hc h
     ·have:=hU b h;omega),hkr.drawn⟩
    have hEz:Ext w0 z:=zdi (hE0.trans hW) hKz hs0 (λ b hb=>(hC b hb).1);refine wcz ?_ ?_
    ·intro h;cases h
    intro _;refine rqz ?_;intro gd K hgd hK;refine sgz h3 ?_;refine zdK (v:= .bool true) (l:=M) (key:=zco h) rfl rfl vq0 vq0 vq0 hMz hno ?_;intro z2 hMz2 hkz hsz;refine sg0 ?_;apply hK;refine rqz ?_;intro gd K hgd hK;simp (disch:=first|omega|assumption|rfl) only[go_sem,h11,hi1'];apply hK;refine cZ ?_;refine next (pre':=pre++ [h]) (had':=zco h::had) (by rw[hpre];simp) (hJ _ _ _ _ hj' (hkz.mono (λ b _ h=>by unfold span;omega))) (λ b hb=>by
     rcases hU' b hb with h|h
     ·exact hU b h
     ·omega) oM (hKz.trans (hkz.toB oM (λ b hb h=>oM))) (ykt hEz rfl (λ b hb=>oM) hkz) hMz2 (λ k=>?_) (hrowz.keep hkz (htb.ext oM) (λ b hb _=>oM)) vq0 ((vq1 h10)) ((vq1 h9)) ((vq1 hf0)) ((vq1 h3))
    rw[zjQ hno,hMl,List.contains_cons];by_cases hk:(k==zco h)=true
    ·rw[if_pos hk,hk];rfl
    ·rw[if_neg hk];have:(k==zco h)=false:=sU hk;rw[this,ycZ]
   ·refine sgy hg4 trivial ?_;apply hK;refine wcz ?_ ?_
    ·intro _;refine cZ ?_;refine zap sM rfl (.inr ⟨_,_,hsuf,hjx⟩)
    ·intro h;cases h
 ·intro hge;simp only[ydF]at hge;rw[ybu oM]at hpre;have hfin:pre=zb7 t ds:=by rw[hH,hpre];simp[zb1]
  refine cZ ?_;refine zap sM rfl (.inl ⟨_,U,rfl,hfin▸hj⟩)
theorem zkL{ow tl dv:Value}{t:Int}:
  Fn prog 201 #[.agg #[ow,vi t,tl,dv]] w (λ v w'=>v= .func (.func 232) #[] #[.pointer (some ⟨w.heap.size,0,.none⟩)]/\Ext w w'/\w'.heap.size=w.heap.size+1/\w'.heap[w.heap.size]? =some (.cells #[ow,vi t,tl,dv] 297 (0,0))):=by
 refine enx func201 ntmps201 ?_;repeat refine c_r ?_
 refine rg0 ?_;repeat refine c_r ?_
 refine zav ?_;intro w1 hE1 hs1 hA;refine rg0 ?_;repeat refine c_r ?_
 refine rt0 ntmps201 ?_;exact⟨rfl,hE1,hs1,hA⟩
structure ResL where
 kind:Int
 data:List DatL
 name:Nm
 wild:Bool
 glue:List (Nm×List DatL)
def GlC(w0 w:World)(cs:List Value)(x:Nm×List DatL):Prop:=∃hv dv,cs=[hv,dv]/\Row w0 hv (x.1.map vs)/\Rows 5 (DatAt w0) w dv x.2
structure ResAt(w0 w:World)(cs:List Value)(r:ResL):Prop where
 ex:∃dv nv gv,cs=[vi r.kind,dv,nv,.bool r.wild,gv]/\Rows 5 (DatAt w0) w dv r.data/\Row w nv (r.name.map vs)/\Rows 2 (GlC w0 w) w gv r.glue
theorem ResAt.ext{r:ResL}(h:ResAt w0 w cs r)(hE:Ext w x):ResAt w0 x cs r:=by
 obtain⟨dv,nv,gv,e,h1,h2,h3⟩:=h.ex;refine⟨dv,nv,gv,e,h1.ext hE,h2.ext hE,(h3.ext hE).to λ cs x hx=>?_⟩;obtain⟨hv,dv,e,g1,g2⟩:=hx;exact⟨hv,dv,e,g1,g2.ext hE⟩
def GlB(w0:World)(B:Nat)(w:World)(cs:List Value)(x:Nm×List DatL):Prop:=∃hv dv,cs=[hv,dv]/\Row w0 hv (x.1.map vs)/\Rows 5 (DatAt w0) w dv x.2/\BlkB B w dv
structure ResB(w0:World)(B:Nat)(w:World)(cs:List Value)(r:ResL):Prop where
 ex:∃dv nv gv,cs=[vi r.kind,dv,nv,.bool r.wild,gv]/\Rows 5 (DatAt w0) w dv r.data/\BlkB B w dv/\((Row w nv (r.name.map vs)/\BlkB B w nv)\/Row w0 nv (r.name.map vs))/\Rows 2 (GlB w0 B w) w gv r.glue/\BlkB B w gv
theorem ResB.keep{r:ResL}(h:ResB w0 B w cs r)(hk:Keep S w x)(hS:∀b,B<=b->b<w.heap.size->¬S b):ResB w0 B x cs r:=by
 obtain⟨dv,nv,gv,e,h1,h2,h3,h4,h5⟩:=h.ex;refine⟨dv,nv,gv,e,h1.keep hk h2 hS,h2.ext hk.size,?_,(h4.keep hk h5 hS).to λ cs y hy=>?_,h5.ext hk.size⟩
 ·rcases h3 with ⟨h3,h6⟩|h3
  ·exact .inl ⟨h3.blocks λ a n c hv=>hk.block _ (h6 a n c hv).2 (hS _ (h6 a n c hv).1 (h6 a n c hv).2),h6.ext hk.size⟩
  ·exact .inr h3
 ·obtain⟨hv,dv,e,g1,g2,g3⟩:=hy;exact⟨hv,dv,e,g1,g2.keep hk g3 hS,g3.ext hk.size⟩
theorem ResB.at{r:ResL}(h:ResB w0 B w cs r)(hE:Ext w0 w):ResAt w0 w cs r:=by
 obtain⟨dv,nv,gv,e,h1,h2,h3,h4,h5⟩:=h.ex;refine⟨dv,nv,gv,e,h1,?_,h4.to λ cs y hy=>?_⟩
 ·rcases h3 with ⟨h3,_⟩|h3
  ·exact h3
  ·exact h3.ext hE
 ·obtain⟨hv,dv,e,g1,g2,_⟩:=hy;exact⟨hv,dv,e,g1,g2⟩
theorem ResB.mono{B':Nat}{r:ResL}(h:ResB w0 B w cs r)(hB:B'<=B):ResB w0 B' w cs r:=by
 obtain⟨dv,nv,gv,e,h1,h2,h3,h4,h5⟩:=h.ex;refine⟨dv,nv,gv,e,h1,h2.mono hB,h3.imp (λ h=>⟨h.1,h.2.mono hB⟩) id,h4.to λ cs y hy=>?_,h5.mono hB⟩;obtain⟨hv,dv,e,g1,g2,g3⟩:=hy;exact⟨hv,dv,e,g1,g2,g3.mono hB⟩
theorem ResB.cells{r:ResL}(h:ResB w0 B w cs r):cs.length=5/\∀v∈cs,one v=true:=by
 obtain⟨dv,nv,gv,rfl,h1,h2,h3,h4,h5⟩:=h.ex;obtain⟨a1,c1,rfl,_⟩:=h1.open;obtain⟨a2,c2,rfl,_⟩:=h4.open;have hn:one nv=true:=by
  rcases h3 with ⟨⟨a,c,rfl,_⟩,_⟩| ⟨a,c,rfl,_⟩<;>rfl
 refine⟨rfl,λ v hv=>?_⟩;simp at hv;rcases hv with rfl|rfl|rfl|rfl|rfl
 ·rfl
 ·rfl
 ·exact hn
 ·rfl
 ·rfl
def zfv(R:List RecL):Prop:=∀r∈R,∀n∈r.dat.names,NmG n
theorem zfY{R:List RecL}{t:Int}{d:DatL}(h:d∈datC R n t):∃r∈R,r.dat=d:=by
 unfold datC at h;obtain⟨x,hx,rfl⟩:=yaq.1 h;have:∀x∈ofC R n t,∃r∈R,r.dat=x.dat:=by
  unfold ofC;exact zci (Q:=λ x=>∃r∈R,r.dat=x.dat) (λ a b h=>h) (λ x hx=>⟨x,(ycf.1 hx).1,rfl⟩)
 exact this x hx
theorem zcm{R:List RecL}(hR:zfv R){t u:Int}{ds:List DatL}(hds:∀d∈ds,d∈datC R n t):∀x∈zaz u ds,NmG x:=by
 intro x hx;unfold zaz at hx
 split at hx
 ·obtain⟨d,hd,hn⟩:=yaZ.1 hx;obtain⟨r,hr,rfl⟩:=zfY (hds d hd);exact hR r hr x (List.mem_of_mem_head? hn)
 ·cases hx
theorem zc2{R:List RecL}{t:Int}:(datC R n t).length<=R.length:=by
 unfold datC ofC;rw[ylm];exact yaD (zeh _) (ycs _ _)
theorem zjZ{R:List RecL}{t:Int}:ofC R n t≠ []↔datC R n t≠ []:=by
 unfold datC;rw[ne_eq,ne_eq,ybQ]
def toN(t:Int)(ds:List DatL):Nm:=(zb7 t ds).getLast?.getD []
theorem zlc{ov:Value}{R:List RecL}{t:Int}(hz:ZnAt w0 w ov lv o R)(hR:zfv R)(hn:Row w nv (n.map vs))(hok:NmS n):
  Fn prog 203 #[.agg #[ov,lv],nv,vi t] w (λ v w'=>Ext w w'/\∃dv tv,v= .tuple #[dv,tv,.bool (decide (datC R n t≠ []))]/\Rows 5 (DatAt w0) w' dv ((datC R n t).take 1)/\BlkB w.heap.size w' dv/\Row w0 tv ((toN t ((datC R n t).take 1)).map vs)):=by
 obtain⟨ao,co,hov,_⟩:=id hz.org;obtain⟨al,cl,hlv,_⟩:=hz.recs.open;rw[hov,hlv];refine enx func203 ntmps203 ?_;repeat refine c_r ?_
 refine rg0 ?_;repeat refine c_r ?_
 rw[←hov,←hlv];refine zav ?_;intro w1 hE1 hs1 hA;have p1:zad w1 (some ⟨w.heap.size,1,.none⟩)=some lv:=zab hA rfl;have hz1:=hz.ext hE1;refine rq ?_;intro gd K hgd hK;try simp (disch:=first|omega|assumption|rfl) only[go_sem,p1,yn0]
 refine yfm (Of_ok hz1.e0 hz1.recs (hn.ext hE1) hok.lb (by have:=hok.len;omega) hz.ok hz.rl) ?_;rintro _ w2 ⟨hE2,ow,ty,tl,dv,rfl,how,hty,hdv,hdb⟩;have hdd:(ofC R n t).map RecL.dat=datC R n t:=rfl;rw[hdd]at hdv;obtain⟨bb,hbb⟩:∃bb:Bool,decide (datC R n t≠ [])=bb:=⟨_,rfl⟩;rw[show decide (ofC R n t≠ [])=bb from by rw[←hbb];exact decide_eq_decide.2 (zjZ (R:=R) (n:=n) (t:=t))];try simp only[go_sem]
 have hB3:=zam w2 (.cells #[.slice .none 0 0,vi 0,v32 0,.slice .none 0 0] 297 (0,0));have hE4:=yea w2 (.cells #[.slice .none 0 0,vi 0,v32 0,.slice .none 0 0] 297 (0,0));have hs4:=zai w2 (.cells #[.slice .none 0 0,vi 0,v32 0,.slice .none 0 0] 297 (0,0));revert hB3 hE4 hs4;generalize w2.alloc (.cells #[.slice .none 0 0,vi 0,v32 0,.slice .none 0 0] 297 (0,0))=w3;intro hB3 hE4 hs4;obtain⟨ad,cd,hdv',hcd,_⟩:=hdv.open;refine zaL (P:=prog) (t:=297) (l:=[ow,vi ty,v32 tl,dv]) hB3 rfl (λ v h=>by
  simp at h;rcases h with rfl|rfl|rfl|rfl
  ·exact how
  ·rfl
  ·rfl
  ·rw[hdv'];rfl) rfl rfl ?_
 intro w4 hs5 hB5 hk5;try simp only[go_sem]
 refine hK _ _ ?_;clear hK hgd;clear K;try clear gd
 have hE5:Ext w2 w4:=ykt hE4 rfl (λ b hb=>oM) hk5;have hE14:=hE2.trans hE5;have hEw4:=hE1.trans hE14;have q3:zad w4 (some ⟨w2.heap.size,3,.none⟩)=some dv:=zdc hB5 rfl;have hdv4:=hdv.ext hE5;have hdb4:BlkB w.heap.size w4 dv:=(hdb.ext hE5.size).mono hE1.size;repeat refine c_r ?_
 refine rg0 ?_;repeat refine c_r ?_
 by_cases hne:datC R n t≠ []
 ·rw[yet hne]at hbb;subst hbb;refine zaG (t:=false) vq0 (λ h=>by cases h) ?_;intro _;have hpos:0<(datC R n t).length:=yau.2 hne;have htk:((datC R n t).take 1).length=1:=by rw[yaQ];omega
  rw[hdv']at hdv4 hdb4 q3;have hcd':=hdv4.len.2;have hd1:Rows 5 (DatAt w0) w4 (.slice ad 1 cd) ((datC R n t).take 1):=hdv4.take oM oM;have h01:(0:Int)<=1:=oM;have h11:(1:Int)<=(cd:Int):=oM;repeat refine c_r ?_
  refine rg0 ?_;refine zav ?_;intro w5 hE6 hs6 hA6;have q3':=zaa hE6 q3;have t1:Int.toNat 1=1:=rfl;repeat refine c_r ?_
  refine rq ?_;intro gd K hgd hK;try simp (disch:=first|omega|assumption|rfl) only[go_sem,q3',yn0,h01,h11,t1,ycr,ybj,zar,ite_self]
  refine⟨by kernel_rfl,?_⟩;rw[show bdV prog 297 [(1,vi t),(3,.slice ad 1 cd)]=some (.agg #[.slice .none 0 0,vi t,v32 0,.slice ad 1 cd]) from by kernel_rfl];try simp only[go_sem]
  refine yfm zkL ?_;rintro _ w6 ⟨rfl,hE7,hs7,hb7⟩;try simp only[go_sem]
  refine hK _ _ ?_;clear hK hgd;clear K;try clear gd
  have hE47:=hE6.trans hE7;have hEw6:=hEw4.trans hE47;have e1:=hE1.size;have e2:=hE14.size;have e3:=hz.e0.size;have hit:=znt (C:=λ b=>b=w4.heap.size) (hz.e0.trans hEw6) hb7 rfl rfl (hd1.ext hE47) (λ b hb=>oM) (by rw[htk];decide) (zcm hR (t:=t) (n:=n) (λ d hd=>yaO hd));have hA7:=hE7.at hA6;repeat refine c_r ?_
  refine ze6 (g:=232) (cap:=#[.pointer (some ⟨w5.heap.size,0,.none⟩)]) vq0 rfl hit ykr (ynl _) (λ b hb=>oM)
   (λ x U B args h=>by obtain⟨v,h,_⟩:=h;rw[h];rfl)
   (λ pre U B=>(∀b,¬U b)/\Keep (λ b=>b=w4.heap.size) w6 B/\∃tv,B.heap[w4.heap.size]? =some (.cells #[tv] 27 (0,0))/\Row w0 tv ((pre.getLast?.getD []).map vs))
   (λ _ _ _=>False) ?_ (λ _ _ _ _ h _=>h.elim) ?_ ?_ ?_ (λ _ _ _ _ _ _ h _=>h.elim)
  ·rintro pre U A B ⟨hU,hk,tv,h1,h2⟩ _ hk2;have hk3:Keep (λ b=>b=w4.heap.size) w6 B:=⟨hk2.os.trans hk.os,hk2.tape.trans hk.tape,hk2.output.trans hk.output,yaD hk.size hk2.size,λ b hb hne=>(hk2.block b (by have:=hk.size;omega) (by unfold span;omega)).trans (hk.block b hb hne),yaD hk.drawn hk2.drawn⟩;exact⟨hU,hk3,tv,(hk2.block _ (yaa.1 h1).1 (by unfold span;omega)).trans h1,h2⟩
  ·exact⟨λ b h=>h,Keep.refl _ _,_,hA7,⟨.none,0,rfl,ynl _,λ j h=>absurd h (by simp)⟩⟩
  ·rintro lp pre U x A args ⟨suf,hxs⟩ hszA ⟨hU,hk,tv,h1,h2⟩ _ ⟨xv,rfl,hxr⟩;obtain⟨ax,cx,hxv,_⟩:=id hxr;refine rq ?_;intro gd K hgd hK;try simp only[go_sem]
   refine hK _ _ ?_;clear hK hgd;clear K;try clear gd
   refine zao ?_;refine⟨rfl,Keep.refl _ _,λ Y hY=>?_⟩;have h1Y:=(hY.block _ (yaa.1 h1).1 (by unfold two;omega)).trans h1;have hkY:Keep (λ b=>b=w4.heap.size) w6 Y:=⟨hY.os.trans hk.os,hY.tape.trans hk.tape,hY.output.trans hk.output,yaD hk.size hY.size,λ b hb hne=>(hY.block b (by have:=hk.size;omega) (by unfold two;omega)).trans (hk.block b hb hne),yaD hk.drawn hY.drawn⟩;repeat refine c_r ?_
   refine rq ?_;intro gd K hgd hK;try simp only[go_sem]
   refine za6 (P:=prog) (t:=27) (j:=0) (l:=[tv]) h1Y (by simp) (by rw[hxv];rfl) rfl rfl ?_;intro z hz' hbz hkz;try simp only[go_sem]
   refine hK _ _ ?_;clear hK hgd;clear K;try clear gd
   simp only[ybi]at hbz;repeat refine c_r ?_
   exact⟨U,⟨hU,hkY.trans hkz,xv,hbz,by simpa using hxr⟩,λ b hb=> .inl hb,hkz.mono (λ b _ h=> .inl h)⟩
  ·rintro xs U B rfl hszB _ ⟨hU,hk,tv,h1,h2⟩ hD;have hdB:Rows 5 (DatAt w0) B (.slice ad 1 cd) ((datC R n t).take 1):=(hd1.ext hE47).blocks λ a m c hv=>by
    injection hv with g1
    subst g1;have:=hdb4 a _ _ rfl;exact hk.block _ (by have:=hE47.size;omega) oM
   have hB5':B.heap[w2.heap.size]? =some (.cells [ow,vi ty,v32 tl,dv].toArray 297 (0,0)):=(hk.block _ (by have:=hE5.size;have:=hE47.size;omega) oM).trans (Ext.at hE47 hB5);have q3B:zad B (some ⟨w2.heap.size,3,.none⟩)=some (.slice ad (datC R n t).length cd):=zdc hB5' (by rw[hdv'];rfl);have q4B:zad B (some ⟨w4.heap.size,0,.none⟩)=some tv:=zab h1 rfl;repeat refine c_r ?_
   refine zaF (λ _=>false) [(0,true),(1,true),(2,true),(4,true),(3,false),(5,true),(6,true),(7,true)] NoS mixed kR ?_;intro gd K x hgd hx hxe hK;clear hxe;have r1:=zaa hx q3B;have r2:=zaa hx q4B;simp (disch:=first|omega|assumption|rfl) only[go_sem,r1,r2,yn0,h01,h11,t1,ycr,ybj,zar,ite_self];refine yfm (P_cd.Clip_ok oM) ?_;rintro _ y0 ⟨rfl,hy0⟩;refine⟨.inr (by rw[hy0];exact Keep.refl _ _),?_⟩;rw[hy0];clear hy0 y0;simp (disch:=first|omega|assumption|rfl) only[go_sem,r1,r2,yn0];refine hK _ _ ?_;clear hK hgd;clear K;try clear gd
   repeat refine c_r ?_
   refine zbC (.inr rfl) ntmps203 rfl (Ext.at hx hD) ?_;intro Z hkZ hsZ;have hEwB:Ext w B:=ykt hEw6 rfl (λ b hb=>oM) hk;have hDlt:w6.heap.size<B.heap.size:=(yaa.1 hD).1;have hrx:Rows 5 (DatAt w0) x (.slice ad 1 1) ((datC R n t).take 1):=by
    have h9:=(hdB.ext hx).take (m:=1) (c2:=1) (ynl 1) (ynl 1);rw[List.take_take]at h9;exact h9
   refine⟨_,zaj (v:= .slice ad 1 1) vr0 (zaj (v:=tv) vr0 (zaj (v:= .bool true) vr0 zas)),ykt (hEwB.trans hx) rfl (λ b hb=>by have:=hE47.size;omega) hkZ,_,tv,by rw[yet hne];rfl,?_,?_,?_⟩
   ·exact hrx.blocks λ a m c hv=>by
     injection hv with g1
     subst g1;have:=hdb4 a _ _ rfl;exact hkZ.block _ (by have:=hx.size;have:=hk.size;have:=hE47.size;omega) (by have:=hE47.size;omega)
   ·exact(hdb4.same.ext (by have:=hx.size;have:=hk.size;have:=hE47.size;omega))
   ·exact h2
 ·have hnil:datC R n t=[]:=by simpa using hne
  rw[yef hne]at hbb;subst hbb;refine zaG (t:=true) vq0 ?_ (λ h=>by cases h);intro _;repeat refine c_r ?_
  refine rg0 ?_;repeat refine c_r ?_
  refine zau (.inr rfl) ntmps203 rfl (zaj (v:= .slice .none 0 0) vr0 (zaj (v:= .slice .none 0 0) vr0 (zaj (v:= .bool false) vr0 zas))) ?_;refine⟨hEw4,_,_,by rw[yef hne];rfl,by rw[hnil];exact Rows.nil _ _ _,BlkB.nil,?_⟩;have h0:toN t (List.take 1 (datC R n t))=[]:=by
   rw[hnil];unfold toN zb7 zaz
   split<;>rfl
  rw[h0];exact⟨.none,0,rfl,ynl _,λ j h=>absurd h (by simp)⟩
theorem zgs{y:Addr}{n:Nat}(h:y.block<n):offS (zda n) (some y):=λ a ha hb=>by
 cases ha;unfold zda at hb;exact absurd (show n<=y.block from hb) oM
theorem zhn(n:Nm)(k:Nat):zag (n.drop k)=(zag n).drop k:=by unfold zag;rw[ycM]
theorem zlj(hi:i<=n.length):zaN (n.drop i) o=(decide (i<=n.length - o.length) && zaN n o):=by
 unfold zaN;rw[ydv];simp only[yaB,ydT,ybb,ycA];constructor
 ·rintro⟨h1,h2⟩;refine⟨oM,oM,?_⟩;rw[show n.length - o.length=i+(n.length - i - o.length) from by omega];exact h2
 ·rintro⟨h1,h2,h3⟩;refine⟨oM,?_⟩;rw[show i+(n.length - i - o.length)=n.length - o.length from by omega];exact h3
def zhm(R:List RecL)(hs:List Nm):List (Nm×List DatL):=hs.filterMap λ h=>if zds R h=[] then .none else some (h,zds R h)
def zgj(R:List RecL)(cut:Nm):ResL:=⟨4,datC R cut 2,cut,false,zhm R (zb7 2 (datC R cut 2))⟩
theorem zhl(R:List RecL)(a:List Nm)(h:Nm):zhm R (a++ [h])=zhm R a++(if zds R h=[] then [] else [(h,zds R h)]):=by
 unfold zhm;rw[ybD]
 congr 1
 by_cases hg:zds R h=[]
 ·simp[hg]
 ·simp[hg]
abbrev GlX:=(Nm×List DatL)×(Value×Value)
def glC(cs:List Value)(x:GlX):Prop:=cs=[x.2.1,x.2.2]/\one x.2.1=true/\one x.2.2=true
theorem zkN:zdD 2 glC:=by
 refine⟨λ h=>?_,λ h=>?_⟩
 ·rw[h.1];rfl
 ·intro q hq;rw[h.1]at hq;simp at hq;rcases hq with rfl|rfl
  ·exact h.2.1
  ·exact h.2.2
theorem zf9(t:Int)(ds:List DatL):(zaz t ds).length<=ds.length:=by
 unfold zaz
 split
 ·exact yaW _ _
 ·simp
theorem zcz:∀(had:List (List UInt8)) (l:List Nm),∀x∈zb1 had l,x∈l
 |_,[],x,h=>by cases h
 |had,y::l,x,h=>by
  unfold zb1 at h
  split at h
  ·exact yak _ (zcz had l x h)
  ·rcases yay.1 h with rfl|h
   ·exact yal ..
   ·exact yak _ (zcz _ l x h)
theorem zed:∀(had:List (List UInt8)) (l:List Nm),(zb1 had l).length<=l.length
 |_,[]=>ynl _
 |had,y::l=>by
  unfold zb1
  split
  ·have:=zed had l;rw[yah];omega
  ·have:=zed (zco y::had) l;rw[yah,yah];omega
theorem zhk(R:List RecL)(hs:List Nm):(zhm R hs).length<=hs.length:=yaW _ _
theorem Rows.mapM{α β:Type}{C:List Value->α->Prop}{C':List Value->β->Prop}{xs:List α}(h:Rows k C w v xs)(f:α->β)(hC:∀cs x,x∈xs->C cs x->C' cs (f x)):Rows k C' w v (xs.map f):=by
 obtain⟨L,h1,h2,h3⟩:=h;refine⟨L,h1,by rw[ylm];exact h2,λ i h h'=>?_⟩;rw[ylm]at h';rw[yaA];exact hC _ _ (yac h') (h3 i h h')
structure RfI(w0 w:World)(D b2 b4 b7:Nat)(ov lv dv sv:Value)(cut:Nm)(R:List RecL)(ds:List DatL)(pre:List Nm)(U:Nat->Prop)(A:World):Prop where
 e:Ext w A
 sz:D<=A.heap.size
 z:A.heap[b2]? =some (.cells #[ov,lv] 60 (0,0))
 c:A.heap[b4]? =some (.cells #[vi 0,.slice .none 0 0,.slice .none 0 0,.bool false,.slice .none 0 0] 192 (0,0))
 d:Rows 5 (DatAt w0) A dv ds
 s:Row A sv (cut.map vs)
 g:∃gv,∃G:List GlX,A.heap[b7]? =some (.cells #[vi 4,dv,sv,.bool false,gv] 192 (0,0))/\G.map Prod.fst=zhm R pre/\Owns 2 glC (D+3) A 331 gv G/\(∀x∈G,Row w0 x.2.1 (x.1.1.map vs)/\Rows 5 (DatAt w0) A x.2.2 x.1.2/\BlkB (D+3) A x.2.2/\∀a n c,x.2.2= .slice (some a) n c->some a.block≠gv.ownBlock)/\∀b,U b↔some b=gv.ownBlock
theorem Refer_ok{ov:Value}{cut:Nm}{R:List RecL}(hz:ZnAt w0 w ov lv o R)(hR:zfv R)(hn:Row w nv (cut.map vs))(hok:NmS cut):
  Fn prog 160 #[.agg #[ov,lv],nv] w (λ v w'=>Ext w w'/\∃cs,v= .agg cs.toArray/\ResB w0 w.heap.size w' cs (zgj R cut)):=by
 obtain⟨ao,co,hov,_⟩:=id hz.org;obtain⟨al,cl,hlv,_⟩:=hz.recs.open;rw[hov,hlv];refine enx func160 ntmps160 ?_;refine gz0 ?_;rw[←hov,←hlv];rw[zai];refine zaQ ?_;intro w1 hE1 hs1 hA hC;have p1:zad w1 (some ⟨w.heap.size,1,.none⟩)=some lv:=zab hA rfl;have hz1:=hz.ext hE1;refine rq ?_;intro gd K hgd hK;refine sgz (az2 p1 yn0) ?_;refine yfm (Of_ok hz1.e0 hz1.recs (hn.ext hE1) hok.lb (by have:=hok.len;omega) hz.ok hz.rl) ?_;rintro _ w2 ⟨hE2,ow,ty,tl,dv,rfl,how,hty,hdv,hdb⟩;have hdd:(ofC R cut 2).map RecL.dat=datC R cut 2:=rfl;rw[hdd]at hdv;obtain⟨bb,hbb⟩:∃bb:Bool,decide (ofC R cut 2≠ [])=bb:=⟨_,rfl⟩;rw[hbb];refine sg0 ?_;have hB3:=zam w2 (.cells #[.slice .none 0 0,vi 0,v32 0,.slice .none 0 0] 297 (0,0));have hE4:=yea w2 (.cells #[.slice .none 0 0,vi 0,v32 0,.slice .none 0 0] 297 (0,0));have hs4:=zai w2 (.cells #[.slice .none 0 0,vi 0,v32 0,.slice .none 0 0] 297 (0,0));revert hB3 hE4 hs4;generalize w2.alloc (.cells #[.slice .none 0 0,vi 0,v32 0,.slice .none 0 0] 297 (0,0))=w3;intro hB3 hE4 hs4;obtain⟨ad,cd,hdv',hcd,_⟩:=hdv.open;refine zaL (P:=prog) (t:=297) (l:=[ow,vi ty,v32 tl,dv]) hB3 rfl (λ v h=>by
  simp at h;rcases h with rfl|rfl|rfl|rfl
  ·exact how
  ·rfl
  ·rfl
  ·rw[hdv'];rfl) rfl rfl ?_
 intro w4 hs5 hB5 hk5;refine sg0 ?_;apply hK;have hE5:Ext w2 w4:=ykt hE4 rfl (λ b hb=>oM) hk5;have hE14:=hE2.trans hE5;have hEw4:=hE1.trans hE14;have q3:zad w4 (some ⟨w2.heap.size,3,.none⟩)=some dv:=zdc hB5 rfl;have hdv4:=hdv.ext hE5;have hdb4:BlkB w.heap.size w4 dv:=(hdb.ext hE5.size).mono hE1.size;have e1:=hE1.size;have e2:=hE14.size;clear hB3 hE4 hs4 hk5 hs5;refine cZ ?_;refine zaw (Q:=λ e σ' ds' v'=>e= .normal/\ds'=[]/\σ' 2= .pointer (some ⟨w.heap.size,0,.none⟩)/\σ' 4= .pointer (some ⟨w.heap.size+1,0,.none⟩)/\σ' 5= .pointer (some ⟨w2.heap.size,0,.none⟩)/\Ext w4 v'/\∃b7 sv,σ' 7= .pointer (some ⟨b7,0,.none⟩)/\w4.heap.size<=b7/\v'.heap[b7]? =some (.cells #[vi 4,dv,sv,.bool false,.slice .none 0 0] 192 (0,0))/\Row v' sv (cut.map vs)/\BlkB w4.heap.size v' sv/\∀a n c,sv= .slice (some a) n c->a.block≠b7) ?_ ?_
 ·refine zfH (λ i=>i==7) (.run [(0,true),(3,true),(4,true)] (.fork 4 [1,6] (λ i=>if i=1 then(.run [] (.fork 3 [2,6] (λ i=>if i=2 then(.run [(5,true),(6,false),(7,false)] .fin) else(.run [(2,false),(5,true),(7,false)] .fin)))) else(.run [(1,false),(2,false),(5,true),(7,false)] .fin)))) NoS mixed kR ?_;intro gd K x hgd hx hxe hK;have q3x:=zaa hx q3;refine sgz (az2 q3x yn0) ?_;simp only[za5,zbk];refine⟨?_,?_⟩
  ·refine sg0 ?_;refine yfm (zd6 (hn.ext (hEw4.trans (hx))) hok.len) ?_;rintro u y1 ⟨hou,hy1⟩;refine⟨.inr hy1,?_⟩;obtain⟨au,cu,hu'⟩:=hou.slice;have hur:=hou.row;have hub:=hou.blk;rw[hu']at hur hub;rw[ylm]at hu' hur hub;rw[hu'];obtain⟨_,_,he,hcc,hgg⟩:=id hur;injection he with g1 g2 g3
   subst g1 g3;rw[ylm]at hcc;have hrc:Row y1 (.slice au cut.length cut.length) (cut.map vs):=⟨au,cut.length,by rw[ylm],by rw[ylm];exact ynl _,hgg⟩;have hrb:BlkB x.heap.size y1 (.slice au cut.length cut.length):=hub.same;have hys1:=hy1.size;refine sg0 ?_;simp only[za5,zbk];refine⟨?_,?_⟩
   ·refine sg0 ?_;refine yfm (P_cs.Clip_ok hcc) ?_;rintro _ z0 ⟨rfl,hz0⟩;refine⟨.inr (by rw[hz0];exact Keep.refl _ _),?_⟩;rw[hz0];clear hz0 z0;refine sg0 ?_;refine⟨by kernel_rfl,?_⟩;rw[hdv',show bdV prog 192 [(0,vi 4),(2,.slice au cut.length cut.length),(1,.slice ad (datC R cut 2).length cd)]=some (.agg #[vi 4,.slice ad (datC R cut 2).length cd,.slice au cut.length cut.length,.bool false,.slice .none 0 0]) from by kernel_rfl];refine sg0 ?_;refine⟨.inr (yea y1 _),?_⟩;have hB7:=zam y1 (.cells #[vi 0,.slice .none 0 0,.slice .none 0 0,.bool false,.slice .none 0 0] 192 (0,0));have hy3:=yea y1 (.cells #[vi 0,.slice .none 0 0,.slice .none 0 0,.bool false,.slice .none 0 0] 192 (0,0));have hs7:=zai y1 (.cells #[vi 0,.slice .none 0 0,.slice .none 0 0,.bool false,.slice .none 0 0] 192 (0,0));revert hB7 hy3 hs7;generalize y1.alloc (.cells #[vi 0,.slice .none 0 0,.slice .none 0 0,.bool false,.slice .none 0 0] 192 (0,0))=y3;intro hB7 hy3 hs7;have hys3:=hy3.size;refine sg0 ?_;refine zaL (P:=prog) (t:=192) (l:=[vi 4,.slice ad (datC R cut 2).length cd,.slice au cut.length cut.length,.bool false,.slice .none 0 0]) hB7 rfl (λ v h=>by simp at h;rcases h with rfl|rfl|rfl|rfl|rfl<;>rfl) rfl rfl ?_;intro z hz' hbz hkz;refine⟨.inl rfl,?_⟩;refine sg0 ?_;have hxs:=hx.size;have hav:∀a n c,Value.slice au cut.length cut.length= .slice (some a) n c->a.block≠y1.heap.size:=λ a n c hv=>by have h1:=hrb a n c hv;omega
    exact hK _ _ ⟨rfl,rfl,vq0,vq0,vq0,ykt (((hx).trans hy1).trans hy3) rfl (λ b hb=>oM) hkz,y1.heap.size,.slice au cut.length cut.length,vq0,oM,by rw[hdv'];exact hbz,(hrc.ext hy3).blocks (λ a n c hv=>hkz.block _ (by have h1:=(hrb.ext (hy3).size) a n c hv;omega) (hav a n c hv)),(((hrb.ext (hy3).size)).ext oM).mono oM,hav⟩
   ·refine sg0 ?_;refine⟨.inr (yea y1 _),?_⟩;have hB7:=zam y1 (.cells #[vi 0,.slice .none 0 0,.slice .none 0 0,.bool false,.slice .none 0 0] 192 (0,0));have hy2:=yea y1 (.cells #[vi 0,.slice .none 0 0,.slice .none 0 0,.bool false,.slice .none 0 0] 192 (0,0));have hs7:=zai y1 (.cells #[vi 0,.slice .none 0 0,.slice .none 0 0,.bool false,.slice .none 0 0] 192 (0,0));revert hB7 hy2 hs7;generalize y1.alloc (.cells #[vi 0,.slice .none 0 0,.slice .none 0 0,.bool false,.slice .none 0 0] 192 (0,0))=y2;intro hB7 hy2 hs7;have hys2:=hy2.size;refine sg0 ?_;refine yfm (P_cs.Clip_ok hcc) ?_;rintro _ z0 ⟨rfl,hz0⟩;refine⟨.inr (by rw[hz0];exact Keep.refl _ _),?_⟩;rw[hz0];clear hz0 z0;refine sg0 ?_;refine⟨by kernel_rfl,?_⟩;rw[hdv',show bdV prog 192 [(0,vi 4),(2,.slice au cut.length cut.length),(1,.slice ad (datC R cut 2).length cd)]=some (.agg #[vi 4,.slice ad (datC R cut 2).length cd,.slice au cut.length cut.length,.bool false,.slice .none 0 0]) from by kernel_rfl];refine sg0 ?_;refine zaL (P:=prog) (t:=192) (l:=[vi 4,.slice ad (datC R cut 2).length cd,.slice au cut.length cut.length,.bool false,.slice .none 0 0]) hB7 rfl (λ v h=>by simp at h;rcases h with rfl|rfl|rfl|rfl|rfl<;>rfl) rfl rfl ?_;intro z hz' hbz hkz;refine⟨.inl rfl,?_⟩;refine sg0 ?_;have hxs:=hx.size;have hav:∀a n c,Value.slice au cut.length cut.length= .slice (some a) n c->a.block≠y1.heap.size:=λ a n c hv=>by have h1:=hrb a n c hv;omega
    exact hK _ _ ⟨rfl,rfl,vq0,vq0,vq0,ykt (((hx).trans hy1).trans hy2) rfl (λ b hb=>oM) hkz,y1.heap.size,.slice au cut.length cut.length,vq0,oM,by rw[hdv'];exact hbz,(hrc.ext hy2).blocks (λ a n c hv=>hkz.block _ (by have h1:=(hrb.ext (hy2).size) a n c hv;omega) (hav a n c hv)),(((hrb.ext (hy2).size)).ext oM).mono oM,hav⟩
  ·refine sg0 ?_;refine⟨.inr (yea x _),?_⟩;have hB7:=zam x (.cells #[vi 0,.slice .none 0 0,.slice .none 0 0,.bool false,.slice .none 0 0] 192 (0,0));have hy1:=yea x (.cells #[vi 0,.slice .none 0 0,.slice .none 0 0,.bool false,.slice .none 0 0] 192 (0,0));have hs7:=zai x (.cells #[vi 0,.slice .none 0 0,.slice .none 0 0,.bool false,.slice .none 0 0] 192 (0,0));revert hB7 hy1 hs7;generalize x.alloc (.cells #[vi 0,.slice .none 0 0,.slice .none 0 0,.bool false,.slice .none 0 0] 192 (0,0))=y1;intro hB7 hy1 hs7;have hys1:=hy1.size;refine sg0 ?_;refine yfm (zd6 (hn.ext (hEw4.trans ((hx).trans hy1))) hok.len) ?_;rintro u y2 ⟨hou,hy2⟩;refine⟨.inr hy2,?_⟩;obtain⟨au,cu,hu'⟩:=hou.slice;have hur:=hou.row;have hub:=hou.blk;rw[hu']at hur hub;rw[ylm]at hu' hur hub;rw[hu'];obtain⟨_,_,he,hcc,hgg⟩:=id hur;injection he with g1 g2 g3
   subst g1 g3;rw[ylm]at hcc;have hrc:Row y2 (.slice au cut.length cut.length) (cut.map vs):=⟨au,cut.length,by rw[ylm],by rw[ylm];exact ynl _,hgg⟩;have hrb:BlkB y1.heap.size y2 (.slice au cut.length cut.length):=hub.same;have hys2:=hy2.size;refine sg0 ?_;refine yfm (P_cs.Clip_ok hcc) ?_;rintro _ z0 ⟨rfl,hz0⟩;refine⟨.inr (by rw[hz0];exact Keep.refl _ _),?_⟩;rw[hz0];clear hz0 z0;refine sg0 ?_;refine⟨by kernel_rfl,?_⟩;rw[hdv',show bdV prog 192 [(0,vi 4),(2,.slice au cut.length cut.length),(1,.slice ad (datC R cut 2).length cd)]=some (.agg #[vi 4,.slice ad (datC R cut 2).length cd,.slice au cut.length cut.length,.bool false,.slice .none 0 0]) from by kernel_rfl];refine sg0 ?_;refine zaL (P:=prog) (t:=192) (l:=[vi 4,.slice ad (datC R cut 2).length cd,.slice au cut.length cut.length,.bool false,.slice .none 0 0]) (Ext.at hy2 hB7) rfl (λ v h=>by simp at h;rcases h with rfl|rfl|rfl|rfl|rfl<;>rfl) rfl rfl ?_;intro z hz' hbz hkz;refine⟨.inl rfl,?_⟩;refine sg0 ?_;have hxs:=hx.size;have hav:∀a n c,Value.slice au cut.length cut.length= .slice (some a) n c->a.block≠x.heap.size:=λ a n c hv=>by have h1:=hrb a n c hv;omega
   exact hK _ _ ⟨rfl,rfl,vq0,vq0,vq0,ykt (((hx).trans hy1).trans hy2) rfl (λ b hb=>oM) hkz,x.heap.size,.slice au cut.length cut.length,vq0,oM,by rw[hdv'];exact hbz,hrc.blocks (λ a n c hv=>hkz.block _ (by have h1:=hrb a n c hv;omega) (hav a n c hv)),((hrb).ext oM).mono oM,hav⟩
 rintro _ σ1 _ w5 ⟨rfl,rfl,h2,h4,h5,hE6,b7,sv,h7,hb7,hB7,hsv,hsb,hsne⟩;have hEw5:=hEw4.trans hE6;have d5:=zah (n:=4) (Ext.at hE6 hB5) rfl;have hdv5:=hdv4.ext hE6;have hb7l:b7<w5.heap.size:=(yaa.1 hB7).1;have hsA5:=Ext.at (hE14.trans hE6) hA;have hsC5:=Ext.at (hE14.trans hE6) hC;have e3:=hz.e0.size;have e6:=hE6.size;have hdlow:∀a n c,dv= .slice (some a) n c->a.block<w4.heap.size:=λ a n c hv=>(hdb4 a n c hv).2;refine rqz ?_;intro gd K hgd hK;refine sgz (az2 h5 d5) ?_;refine yfm zkL ?_;rintro _ w6 ⟨rfl,hE7,hs7,hb8⟩;refine sg0 ?_;apply hK;have hEw6:=hEw5.trans hE7;have tyEq:datC R cut 2≠ []->ty=2:=λ h=>hty (zjZ.2 h)
 -- the hosts,whatever the type says of no records
 have hH:zb7 ty (datC R cut 2)=zb7 2 (datC R cut 2):=by
  by_cases hne:datC R cut 2=[]
  ·rw[hne];unfold zb7 zaz;split<;>split<;>rfl
  ·rw[tyEq hne]
 have hit:=znt (C:=λ b=>b=b7) (hz.e0.trans hEw6) hb8 how rfl (hdv5.ext hE7) (λ b hb=>oM) (by have:=zc2 (R:=R) (n:=cut) (t:=2);have:=hz.rl;omega) (zcm hR (t:=2) (n:=cut) (λ d hd=>hd));rw[hH]at hit;obtain⟨D,hD⟩:∃D,w6.heap.size=D:=⟨_,rfl⟩;have hHl:(zb7 2 (datC R cut 2)).length<=1000000000:=by
  have h1:=zed [] (zaz 2 (datC R cut 2));have h2:=zf9 2 (datC R cut 2);have h3:=zc2 (R:=R) (n:=cut) (t:=2);have h4:=hz.rl;unfold zb7;omega
 have hHg:∀x∈zb7 2 (datC R cut 2),NmG x:=λ x hx=>zcm hR (t:=2) (n:=cut) (λ d hd=>hd) x (zcz _ _ x hx);have hslow:∀a n c,sv= .slice (some a) n c->a.block<w5.heap.size:=λ a n c hv=>(hsb a n c hv).2;refine cZ ?_;refine ze6 (g:=232) (cap:=#[.pointer (some ⟨w5.heap.size,0,.none⟩)]) vq0 rfl hit ykr (ynl _) (λ b hb=>oM)
  (λ x U B args h=>by obtain⟨v,h,_⟩:=h;rw[h];rfl)
  (RfI w0 w D w.heap.size (w.heap.size+1) b7 ov lv dv sv cut R (datC R cut 2))
  (λ _ _ _=>False) ?_ (λ _ _ _ _ h _=>h.elim) ?_ ?_ ?_ (λ _ _ _ _ _ _ h _=>h.elim)
 ·rintro pre U A B ⟨i1,isz,i2,i3,i4,i5,gv,G,i6,i7,i8,i9,i10⟩ hU hk;have hsA:=(yaa.1 i6).1;have hks:=hk.size;have hlow:∀b,b<D->¬span w6.heap.size (2+1) b:=λ b hb=>by unfold span;omega
  refine⟨ykt i1 rfl (λ b hb=>by unfold span at hb;omega) hk,oM,(hk.block _ (yaa.1 i2).1 (hlow _ oM)).trans i2,(hk.block _ (yaa.1 i3).1 (hlow _ oM)).trans i3,?_,?_,gv,G,(hk.block _ hsA (hlow _ oM)).trans i6,i7,i8.keep hk (λ b hb h=>by have:=(i8.ge hb).1;unfold span at h;omega),λ x hx=>?_,i10⟩
  ·exact i4.blocks λ a n c hv=>by
    have h1:=hdlow a n c hv;exact hk.block _ (by have:=i1.size;omega) (hlow _ oM)
  ·exact i5.blocks λ a n c hv=>by
    have h1:=hslow a n c hv;exact hk.block _ oM (hlow _ oM)
  ·obtain⟨j1,j2,j3,j4⟩:=i9 x hx;exact⟨j1,j2.keep hk j3 (λ b hb _=>by unfold span;omega),j3.ext hk.size,j4⟩
 ·exact⟨hEw6,oM,Ext.at hE7 hsA5,Ext.at hE7 hsC5,hdv5.ext hE7,hsv.ext hE7,.slice .none 0 0,[],Ext.at hE7 hB7,rfl,Owns.nil _ _ _ _ _,λ x h=>absurd h sM,λ b=>⟨λ h=>h.elim,λ h=>by cases h⟩⟩
 ·rintro lp pre U x A args ⟨suf,hxs⟩ hszA ⟨i1,isz,i2,i3,i4,i5,gv,G,i6,i7,i8,i9,i10⟩ hUb ⟨xv,rfl,hxr⟩;obtain⟨ax,cx,hxv,_⟩:=id hxr;have hxg:NmG x:=hHg x (by rw[hxs];simp);have hpl:pre.length+1<=(zb7 2 (datC R cut 2)).length:=by rw[hxs];simp
  refine rq ?_;intro gd K hgd hK;refine sg0 ?_;apply hK;refine zao ?_;refine⟨rfl,Keep.refl _ _,λ Y hY=>?_⟩;have hlow:∀b,b<D->¬two w6.heap.size b:=λ b hb=>by unfold two;omega
  have hhigh:∀b,D+2<=b->¬two w6.heap.size b:=λ b hb=>by unfold two;omega
  have hYs:=hY.size;have k2:=(hY.block _ (yaa.1 i2).1 (hlow _ oM)).trans i2;have k3:=(hY.block _ (yaa.1 i3).1 (hlow _ oM)).trans i3;have k6:=(hY.block _ (yaa.1 i6).1 (hlow _ oM)).trans i6;have k4:Rows 5 (DatAt w0) Y dv (datC R cut 2):=i4.blocks λ a n c hv=>hY.block _ (by have:=hdlow a n c hv;omega) (hlow _ (by have:=hdlow a n c hv;omega));have k5:Row Y sv (cut.map vs):=i5.blocks λ a n c hv=>hY.block _ (by have:=hslow a n c hv;omega) (hlow _ (by have:=hslow a n c hv;omega));have k8:=i8.keep hY (λ b hb=>hhigh b (by have:=(i8.ge hb).1;omega));have k9:∀x∈G,Row w0 x.2.1 (x.1.1.map vs)/\Rows 5 (DatAt w0) Y x.2.2 x.1.2/\BlkB (D+3) Y x.2.2/\∀a n c,x.2.2= .slice (some a) n c->some a.block≠gv.ownBlock:=λ x hx=>by
   obtain⟨j1,j2,j3,j4⟩:=i9 x hx;exact⟨j1,j2.keep hY j3 (λ b hb _=>hhigh b oM),j3.ext hYs,j4⟩
  have hwY:Ext w Y:=ykt i1 rfl (λ b hb=>by unfold two at hb;omega) hY;have hw0Y:=hz.e0.trans hwY;have d2:=zah (n:=2) (l:=[ov,lv]) k2 rfl;have hzY:=hz.ext hwY;clear i1 i2 i3 i4 i5 i6 i8 i9;refine rqz ?_;intro gd K hgd hK;refine sgz (az2 h2 d2) ?_;refine yfm (Glue_ok hzY (hxr.ext hw0Y) hxg.m.s) ?_;rintro gl Y1 ⟨hY1,hgr,hgb⟩;obtain⟨ag,cg,hgv,hcg,_⟩:=hgr.open;refine sg0 ?_;apply hK;have hY1s:=hY1.size;refine gz hgv ?_;refine wc0 ?_ ?_
  ·intro hlt;simp only[ydT]at hlt;have hgne:zds R x≠ []:=yau.1 oM;have k61:=Ext.at hY1 k6;have g4:zad Y1 (some ⟨b7,4,.none⟩)=some gv:=zdc (l:=[vi 4,dv,sv,.bool false,gv]) k61 rfl;have hgx:one xv=true:=by rw[hxv];rfl
   have hgo:one gl=true:=by rw[hgv];rfl
   refine rqz ?_;intro gd K hgd hK;refine sgz (az3 h7 g4 yn0) ?_;rw[hxv];refine⟨by kernel_rfl,?_⟩;rw[show bdV prog 331 [(0,.slice ax (x.map vs).length cx),(1,.slice ag (zds R x).length cg)]=some (.agg #[.slice ax (x.map vs).length cx,.slice ag (zds R x).length cg]) from by kernel_rfl];rw[←hxv,←hgv];refine sgz (az3 h7 g4 yn0) ?_;refine za4 (a:=((x,zds R x),(xv,gl))) (l:=[xv,gl]) zkN (by rfl) (by rfl) (by rfl) (by rfl) ⟨rfl,hgx,hgo⟩ (by decide) ?_;intro Y2 hY2 hsY2 hoY2;refine sgz (az3 h7 g4 yn0) ?_;have hGl:G.length<=pre.length:=by
    have h1:=congrArg List.length i7;rw[ylm]at h1;have h2:=zhk R pre;omega
   refine zaR zkN ((k8.ext hY1).ext hY2) hoY2.rows (by rfl) (by rfl) (by rfl) (by rfl) (by rfl) (by rfl) (by decide) vr0 vr0 (by rw[ybw];omega) (by decide) oM ?_;intro gv' Y3 hgv' _ hkY3 hfr;refine sgz (az2 h7 yn0) ?_;have hown:∀b,some b=gv.ownBlock->D+3<=b/\b<Y.heap.size:=λ b hb=>k8.ge hb;have hb7o:¬some b7=gv.ownBlock:=λ h=>by have:=hown b7 h;omega
   have k63:=(hkY3.block b7 oM hb7o).trans (Ext.at hY2 k61);obtain⟨ag',cg',hgv'',_⟩:=hgv'.rows.open;refine za6 (P:=prog) (t:=190) (j:=4) (l:=[vi 4,dv,sv,.bool false,gv]) k63 sM (by rw[hgv''];rfl) rfl rfl ?_;intro Y4 hsY4 hbY4 hkY4;refine sg0 ?_;apply hK;have hY2s:=hY2.size;have hY3s:=hkY3.size;have hown':∀b,some b=gv'.ownBlock->D+3<=b/\b<Y3.heap.size:=λ b hb=>hgv'.ge hb;have hb7o':¬some b7=gv'.ownBlock:=λ h=>by have:=hown' b7 h;omega
   -- from Y2 on:the row of one's own and b7 alone
   have hk24:Keep (λ b=>b=b7\/some b=gv.ownBlock) Y2 Y4:=(hkY3.mono (λ b _ h=> .inr h)).trans (hkY4.mono (λ b _ h=> .inl h));have hYY2:=hY1.trans hY2;have hYY4:Keep (λ b=>b=b7\/some b=gv.ownBlock) Y Y4:=(hYY2.mono (λ b _ h=>h.elim)).trans hk24;have hlow2:∀b,b<D->b≠b7->¬(b=b7\/some b=gv.ownBlock):=λ b hb hne h=>by
    rcases h with h|h
    ·exact hne h
    ·have:=hown b h;omega
   have hlowd:∀{v:Value} {L:Nat},L<=D->(∀a n c,v= .slice (some a) n c->a.block<L/\a.block≠b7)->∀a n c,v= .slice (some a) n c->Y4.heap[a.block]? =Y.heap[a.block]?:=fun {v L} hL h a n c hv=>by
    have h1:=h a n c hv;exact hYY4.block _ oM (hlow2 _ oM h1.2)
   have dq:∀(q:Value) (yw:World),(∀a n c,q= .slice (some a) n c->a.block<Y2.heap.size/\a.block≠b7/\some a.block≠gv.ownBlock)->∀a n c,q= .slice (some a) n c->Y4.heap[a.block]? =Y2.heap[a.block]?:=λ q yw h a n c hv=>by
    obtain⟨h1,h2,h3⟩:=h a n c hv;exact hk24.block _ h1 (λ h=>by
     rcases h with h|h
     ·exact h2 h
     ·exact h3 h)
   refine cZ ?_;refine⟨λ b=>some b=gv'.ownBlock,⟨ykt hwY rfl (λ b hb=>by
     rcases hb with hb|hb
     ·omega
     ·have:=hown b hb;omega) hYY4,by have:=hYY4.size;omega,(hYY4.block _ oM (hlow2 _ oM oM)).trans k2,(hYY4.block _ oM (hlow2 _ oM oM)).trans k3,?_,?_,gv',G++ [((x,zds R x),(xv,gl))],by simpa using hbY4,?_,hgv'.keep hkY4 (λ b hb h=>hb7o' (h▸hb)),λ y hy=>?_,λ b=>Iff.rfl⟩,λ b hb=>?_,?_⟩
   ·exact k4.blocks (hlowd (L:=w4.heap.size) oM λ a n c hv=>⟨hdlow a n c hv,by have:=hdlow a n c hv;omega⟩)
   ·exact k5.blocks (hlowd (L:=w5.heap.size) oM λ a n c hv=>⟨hslow a n c hv,hsne a n c hv⟩)
   ·rw[yaC,i7,zhl,if_neg hgne];rfl
   ·rcases yai.1 hy with hy|hy
    ·obtain⟨j1,j2,j3,j4⟩:=k9 y hy;have j3':BlkB (D+3) Y2 y.2.2:=(j3.ext hY1s).ext hY2s;refine⟨j1,((j2.ext hY1).ext hY2).blocks (dq _ Y (λ a n c hv=>⟨(j3' a n c hv).2,by have:=j3' a n c hv;omega,j4 a n c hv⟩)),j3'.ext oM,λ a n c hv hb=>?_⟩;rcases hfr _ hb with h|h
     ·exact j4 a n c hv h
     ·have:=(j3' a n c hv).2;omega
    ·rw[yae.1 hy];have hgb2:BlkB Y.heap.size Y2 gl:=hgb.ext hY2s;refine⟨hxr,(hgr.ext hY2).blocks (dq _ Y (λ a n c hv=>⟨(hgb2 a n c hv).2,by have:=hgb2 a n c hv;omega,λ h=>by have:=hgb2 a n c hv;have:=hown _ h;omega⟩)),(hgb2.ext oM).mono oM,λ a n c hv hb=>?_⟩;have h1:=hgb2 a n c hv;rcases hfr _ hb with h|h
     ·have:=hown _ h;omega
     ·omega
   ·rcases hfr b hb with h|h
    ·exact .inl ((i10 b).2 h)
    ·exact .inr ⟨oM,by have:=(hown' b hb).2;omega⟩
   ·exact hYY4.mono (λ b _ h=>h.imp id (λ h=>(i10 b).2 h))
  ·intro hge;simp only[ydF]at hge;have hgnil:zds R x=[]:=yan.1 oM;refine cZ ?_;refine⟨U,⟨hwY.trans hY1,oM,Ext.at hY1 k2,Ext.at hY1 k3,k4.ext hY1,k5.ext hY1,gv,G,Ext.at hY1 k6,by rw[zhl,if_pos hgnil,yaF];exact i7,k8.ext hY1,λ y hy=>?_,i10⟩,λ b hb=> .inl hb,hY1.mono (λ _ _ h=>h.elim)⟩;obtain⟨j1,j2,j3,j4⟩:=k9 y hy;exact⟨j1,j2.ext hY1,j3.ext hY1s,j4⟩
 ·rintro xs U B rfl hszB hUb ⟨i1,isz,i2,i3,i4,i5,gv,G,i6,i7,i8,i9,i10⟩ hDB;have d5':=zah (n:=5) (l:=[vi 4,dv,sv,.bool false,gv]) i6 rfl;obtain⟨agl,cgl,hgle,_⟩:=i8.rows.open;obtain⟨asv,csv,hsve,_⟩:=id i5;have hDlt:w6.heap.size<B.heap.size:=(yaa.1 hDB).1;refine rqz ?_;intro gd K hgd hK;refine sgz (az3 h7 h4 d5') ?_;refine zaL (P:=prog) (t:=192) (l:=[vi 4,dv,sv,.bool false,gv]) i3 rfl (λ v h=>by
   simp at h;rcases h with rfl|rfl|rfl|rfl|rfl
   ·rfl
   ·rw[hdv'];rfl
   ·rw[hsve];rfl
   ·rfl
   ·rw[hgle];rfl) rfl rfl ?_
  intro z hz' hbz hkz;refine sg0 ?_;refine en hK ?_;refine zbC (.inr rfl) ntmps160 rfl ((hkz.block _ oM oM).trans hDB) ?_;intro Z hkZ hsZ;have hBZ:Keep (λ b=>b=w.heap.size+1\/b=w6.heap.size) B Z:=(hkz.mono (λ b _ h=> .inl h)).trans (hkZ.mono (λ b _ h=> .inr h));refine⟨_,za0 (x:=⟨w.heap.size+1,0,.none⟩) (k:=5) ((vq1 h4)) rfl rfl (zah (l:=[vi 4,dv,sv,.bool false,gv]) ((hkZ.block _ oM oM).trans hbz) rfl) zas,ykt i1 rfl (λ b hb=>oM) hBZ,_,rfl,dv,sv,gv,rfl,?_,?_,?_,?_,?_⟩
  ·exact i4.blocks λ a n c hv=>hBZ.block _ (by have:=hdlow a n c hv;omega) (by have h1:=hdb4 a n c hv;have:=hdlow a n c hv;have h3:=hdb a n c hv;omega)
  ·exact hdb4.ext (by have:=hBZ.size;omega)
  ·refine .inl ⟨i5.blocks λ a n c hv=>hBZ.block _ (by have:=hslow a n c hv;omega) (by have h1:=hsb a n c hv;omega),(hsb.ext (by have:=hBZ.size;omega)).mono oM⟩
  ·have hgZ:Rows 2 glC Z gv G:=i8.rows.blocks λ a n c hv=>hBZ.block _ (i8.blk a n c hv).2 (by have:=i8.blk a n c hv;omega);have hgl:=hgZ.mapM (C':=GlB w0 w.heap.size Z) Prod.fst (λ cs x hx hc=>by
    obtain⟨j1,j2,j3,j4⟩:=i9 x hx;exact⟨x.2.1,x.2.2,hc.1,j1,j2.blocks λ a n c hv=>hBZ.block _ (j3 a n c hv).2 (by have:=j3 a n c hv;omega),(j3.ext hBZ.size).mono oM⟩)
   rw[i7]at hgl;exact hgl
  ·exact(i8.blk.ext hBZ.size).mono oM
def zeroRes:ResL:=⟨0,[],[],false,[]⟩
def zaT(R:List RecL)(q n:Nm):Option ResL:=
 if datC R n 39=[] then .none
 else if zaC (zca q n (toN 39 ((datC R n 39).take 1)))=0 then some ⟨5,(datC R n 39).take 1,zca q n (toN 39 ((datC R n 39).take 1)),false,[]⟩
 else some ⟨6,[],[],false,[]⟩
def atL(R:List RecL)(n:Nm)(t:Int)(wild:Bool):ResL:=
 if datC R n t≠ [] then⟨1,datC R n t,[],wild,[]⟩
 else if datC R n 5≠ [] then⟨5,(datC R n 5).take 1,toN 5 ((datC R n 5).take 1),wild,[]⟩
 else⟨2,[],[],wild,[]⟩
theorem toN_m{R:List RecL}(hR:zfv R){t u:Int}:NmM (toN u ((datC R n t).take 1)):=by
 unfold toN;cases hq:(zb7 u ((datC R n t).take 1)).getLast? with
 |none=>exact⟨λ l h=>(by cases h),sM⟩
 |some x=>
  have h1:=List.mem_of_getLast? hq;exact(zcm hR (t:=t) (n:=n) (λ d hd=>yaO hd) x (zcz _ _ x h1)).m
theorem zbb(w:World):Row w (.slice .none 0 0) (([]:Nm).map vs):=⟨.none,0,rfl,ynl _,λ j h=>absurd h sM⟩
abbrev zR:List Value:=[vi 0,.slice .none 0 0,.slice .none 0 0,.bool false,.slice .none 0 0]
theorem zl6{ov qv:Value}{R:List RecL}(hz:ZnAt w0 w ov lv o R)(hR:zfv R)(hq:Row w qv (q.map vs))(hn:Row w nv (n.map vs))(mq:NmM q)(mn:NmM n)(hu:zaN q n=true):
  Fn prog 161 #[.agg #[ov,lv],qv,nv] w (λ v w'=>Ext w w'/\∃cs,v= .tuple #[.agg cs.toArray,.bool (zaT R q n).isSome]/\ResB w0 w.heap.size w' cs ((zaT R q n).getD zeroRes)):=by
 obtain⟨ao,co,hov,_⟩:=id hz.org;obtain⟨al,cl,hlv,_⟩:=hz.recs.open;rw[hov,hlv];refine enx func161 ntmps161 ?_;refine gz0 ?_;rw[←hov,←hlv];rw[zai];refine zaQ ?_;intro w1 hE1 hs1 hA hC;have d2:=zah (n:=2) (l:=[ov,lv]) hA rfl;have hz1:=hz.ext hE1;refine rq ?_;intro gd K hgd hK;refine sgz d2 ?_;refine yfm (zlc hz1 hR (hn.ext hE1) mn.s) ?_;rintro _ w2 ⟨hE2,dv,tv,rfl,hdv,hdb,htv⟩;obtain⟨bb,hbb⟩:∃bb:Bool,decide (datC R n 39≠ [])=bb:=⟨_,rfl⟩;rw[hbb];refine sg0 ?_;apply hK;have hC2:=hE2.at hC;have s2:=hE2.size;have hEw2:=hE1.trans hE2;refine gz0 ?_;by_cases hne:datC R n 39≠ []
 ·rw[yet hne]at hbb;subst hbb;refine zaG (t:=false) vq0 (λ h=>by cases h) ?_;intro _;refine rqz ?_;intro gd K hgd hK;refine sg0 ?_;refine yfm (zlb w2 qv nv tv q n (toN 39 ((datC R n 39).take 1)) (hq.ext hEw2) (hn.ext hEw2) (htv.ext (hz.e0.trans hEw2)) mq mn (toN_m hR) hu) ?_;rintro v w3 ⟨hE3,hgood,hbad⟩;have hC3:=hE3.at hC2;have s3:=hE3.size;by_cases hck:zaC (zca q n (toN 39 ((datC R n 39).take 1)))=0
  ·obtain⟨sv,rfl,hsv,hsvb⟩:=hgood hck;obtain⟨as1,cs1,hsv',_⟩:=id hsv;obtain⟨ad,cd,hdv',_⟩:=hdv.open;have hren:zaT R q n=some ⟨5,(datC R n 39).take 1,zca q n (toN 39 ((datC R n 39).take 1)),false,[]⟩:=by unfold zaT;rw[if_neg hne,if_pos hck]
   refine sg0 ?_;apply hK;refine gz0 ?_;refine wc0 ?_ ?_
   ·intro h;simp at h
   intro _;refine rqz ?_;intro gd K hgd hK;refine sg0 ?_;rw[hsv',hdv'];refine⟨by kernel_rfl,?_⟩;rw[show bdV prog 192 [(0,vi 5),(2,.slice as1 ((zca q n (toN 39 ((datC R n 39).take 1))).map vs).length cs1),(1,.slice ad ((datC R n 39).take 1).length cd)]=some (.agg #[vi 5,.slice ad ((datC R n 39).take 1).length cd,.slice as1 ((zca q n (toN 39 ((datC R n 39).take 1))).map vs).length cs1,.bool false,.slice .none 0 0]) from by kernel_rfl];refine sg0 ?_;refine zaL (P:=prog) (t:=192) (l:=[vi 5,.slice ad ((datC R n 39).take 1).length cd,.slice as1 ((zca q n (toN 39 ((datC R n 39).take 1))).map vs).length cs1,.bool false,.slice .none 0 0]) hC3 rfl (λ v h=>by simp at h;rcases h with rfl|rfl|rfl|rfl|rfl<;>rfl) rfl rfl ?_;intro z hz' hbz hkz;refine sg0 ?_;refine en hK ?_;refine zau (.inr rfl) ntmps161 rfl (za0 (x:=⟨w.heap.size+1,0,.none⟩) (k:=5) vq0 rfl rfl (zah hbz rfl) (zaj (v:= .bool true) vr0 zas)) ?_;refine⟨ykt (hEw2.trans hE3) rfl (λ b hb=>oM) hkz,_,by rw[hren];rfl,?_⟩;rw[hren];refine⟨_,_,_,rfl,?_,?_,.inl ⟨?_,?_⟩,Rows.nil _ _ _,BlkB.nil⟩
   ·rw[←hdv'];exact(hdv.ext hE3).keep hkz (hdb.ext hE3.size) (λ b hb _=>oM)
   ·rw[←hdv'];exact(hdb.ext oM).mono oM
   ·rw[←hsv'];exact hsv.keepB hkz hsvb (λ b hb _=>oM)
   ·rw[←hsv'];exact(hsvb.ext oM).mono oM
  ·have hv:=hbad hck;subst hv;have hren:zaT R q n=some ⟨6,[],[],false,[]⟩:=by unfold zaT;rw[if_neg hne,if_neg hck]
   refine sg0 ?_;apply hK;refine gz0 ?_;refine wc0 ?_ ?_
   ·intro _;refine rqz ?_;intro gd K hgd hK;refine sg0 ?_;refine⟨by kernel_rfl,?_⟩;rw[show bdV prog 192 [(0,vi 6)]=some (.agg #[vi 6,.slice .none 0 0,.slice .none 0 0,.bool false,.slice .none 0 0]) from by kernel_rfl];refine sg0 ?_;refine zaL (P:=prog) (t:=192) (l:=[vi 6,.slice .none 0 0,.slice .none 0 0,.bool false,.slice .none 0 0]) hC3 rfl (λ v h=>by simp at h;rcases h with rfl|rfl|rfl|rfl|rfl<;>rfl) rfl rfl ?_;intro z hz' hbz hkz;refine sg0 ?_;refine en hK ?_;refine zau (.inr rfl) ntmps161 rfl (za0 (x:=⟨w.heap.size+1,0,.none⟩) (k:=5) vq0 rfl rfl (zah hbz rfl) (zaj (v:= .bool true) vr0 zas)) ?_;exact⟨ykt (hEw2.trans hE3) rfl (λ b hb=>oM) hkz,_,by rw[hren];rfl,by rw[hren];exact⟨_,_,_,rfl,Rows.nil _ _ _,BlkB.nil,.inr (zbb _),Rows.nil _ _ _,BlkB.nil⟩⟩
   ·intro h;simp at h
 ·have hnil:datC R n 39=[]:=sU hne;have hren:zaT R q n= .none:=by unfold zaT;rw[if_pos hnil]
  rw[yef hne]at hbb;subst hbb;refine zaG (t:=true) vq0 ?_ (λ h=>by cases h);intro _;refine rqz ?_;intro gd K hgd hK;refine sg0 ?_;refine⟨by kernel_rfl,?_⟩;rw[show bdV prog 192 []=some (.agg #[vi 0,.slice .none 0 0,.slice .none 0 0,.bool false,.slice .none 0 0]) from by kernel_rfl];refine sg0 ?_;refine zaL (P:=prog) (t:=192) (l:=zR) hC2 rfl (λ v h=>by simp at h;rcases h with rfl|rfl|rfl|rfl|rfl<;>rfl) rfl rfl ?_;intro z hz' hbz hkz;refine sg0 ?_;refine en hK ?_;refine zau (.inr rfl) ntmps161 rfl (za0 (x:=⟨w.heap.size+1,0,.none⟩) (k:=5) vq0 rfl rfl (zah hbz rfl) (zaj (v:= .bool false) vr0 zas)) ?_;exact⟨ykt hEw2 rfl (λ b hb=>oM) hkz,_,by rw[hren];rfl,by rw[hren];exact⟨_,_,_,rfl,Rows.nil _ _ _,BlkB.nil,.inr (zbb _),Rows.nil _ _ _,BlkB.nil⟩⟩
theorem At_ok{ov:Value}{R:List RecL}{t:Int}{wild:Bool}(hz:ZnAt w0 w ov lv o R)(hR:zfv R)(hn:Row w nv (n.map vs))(mn:NmS n):
  Fn prog 163 #[.agg #[ov,lv],nv,vi t,.bool wild] w (λ v w'=>Ext w w'/\∃cs,v= .agg cs.toArray/\ResB w0 w.heap.size w' cs (atL R n t wild)):=by
 obtain⟨ao,co,hov,_⟩:=id hz.org;obtain⟨al,cl,hlv,_⟩:=hz.recs.open;rw[hov,hlv];refine enx func163 ntmps163 ?_;refine gz0 ?_;rw[←hov,←hlv];rw[zai];refine zaQ ?_;intro w1 hE1 hs1 hA hC;have p1:zad w1 (some ⟨w.heap.size,1,.none⟩)=some lv:=zab hA rfl;have hz1:=hz.ext hE1;refine rq ?_;intro gd K hgd hK;refine sgz (az2 p1 yn0) ?_;refine yfm (Of_ok hz1.e0 hz1.recs (hn.ext hE1) mn.lb (by have:=mn.len;omega) hz.ok hz.rl) ?_;rintro _ w2 ⟨hE2,ow,ty,tl,dv,rfl,how,hty,hdv,hdb⟩;have hdd:(ofC R n t).map RecL.dat=datC R n t:=rfl;rw[hdd]at hdv;obtain⟨bb,hbb⟩:∃bb:Bool,decide (datC R n t≠ [])=bb:=⟨_,rfl⟩;rw[show decide (ofC R n t≠ [])=bb from by rw[←hbb];exact decide_eq_decide.2 (zjZ (R:=R) (n:=n) (t:=t))];refine sg0 ?_;have hB3:=zam w2 (.cells #[.slice .none 0 0,vi 0,v32 0,.slice .none 0 0] 297 (0,0));have hE4:=yea w2 (.cells #[.slice .none 0 0,vi 0,v32 0,.slice .none 0 0] 297 (0,0));have hs4:=zai w2 (.cells #[.slice .none 0 0,vi 0,v32 0,.slice .none 0 0] 297 (0,0));revert hB3 hE4 hs4;generalize w2.alloc (.cells #[.slice .none 0 0,vi 0,v32 0,.slice .none 0 0] 297 (0,0))=w3;intro hB3 hE4 hs4;obtain⟨ad,cd,hdv',hcd,_⟩:=hdv.open;refine zaL (P:=prog) (t:=297) (l:=[ow,vi ty,v32 tl,dv]) hB3 rfl (λ v h=>by
  simp at h;rcases h with rfl|rfl|rfl|rfl
  ·exact how
  ·rfl
  ·rfl
  ·rw[hdv'];rfl) rfl rfl ?_
 intro w4 hs5 hB5 hk5;refine sg0 ?_;apply hK;have hE5:Ext w2 w4:=ykt hE4 rfl (λ b hb=>oM) hk5;have hE14:=hE2.trans hE5;have hEw4:=hE1.trans hE14;have q3:zad w4 (some ⟨w2.heap.size,3,.none⟩)=some dv:=zdc hB5 rfl;have hdv4:=hdv.ext hE5;have hdb4:BlkB w1.heap.size w4 dv:=hdb.ext hE5.size;have hA4:=Ext.at hE14 hA;have hC4:=Ext.at hE14 hC;have e2:=hE14.size;clear hB3 hE4 hs4 hk5 hs5;refine gz0 ?_;by_cases hne:datC R n t≠ []
 ·rw[yet hne]at hbb;subst hbb;have hat:atL R n t wild=⟨1,datC R n t,[],wild,[]⟩:=by unfold atL;rw[if_pos hne]
  refine zaG (t:=true) vq0 ?_ (λ h=>by cases h);intro _;refine rqz ?_;intro gd K hgd hK;refine sgz (az2 q3 yn0) ?_;rw[hdv'];refine⟨by kernel_rfl,?_⟩;rw[show bdV prog 192 [(0,vi 1),(1,.slice ad (datC R n t).length cd),(3,.bool wild)]=some (.agg #[vi 1,.slice ad (datC R n t).length cd,.slice .none 0 0,.bool wild,.slice .none 0 0]) from by kernel_rfl];refine sg0 ?_;refine zaL (P:=prog) (t:=192) (l:=[vi 1,.slice ad (datC R n t).length cd,.slice .none 0 0,.bool wild,.slice .none 0 0]) hC4 rfl (λ v h=>by simp at h;rcases h with rfl|rfl|rfl|rfl|rfl<;>rfl) rfl rfl ?_;intro z hz' hbz hkz;refine sg0 ?_;refine en hK ?_;refine zau (.inr rfl) ntmps163 rfl (za0 (x:=⟨w.heap.size+1,0,.none⟩) (k:=5) vq0 rfl rfl (zah hbz rfl) zas) ?_;refine⟨ykt hEw4 rfl (λ b hb=>oM) hkz,_,rfl,?_⟩;rw[hat];refine⟨_,_,_,rfl,?_,?_,.inr (zbb _),Rows.nil _ _ _,BlkB.nil⟩
  ·rw[←hdv'];exact hdv4.keep hkz hdb4 (λ b hb _=>oM)
  ·rw[←hdv'];exact(hdb4.ext oM).mono oM
 ·have hnil:datC R n t=[]:=sU hne;rw[yef hne]at hbb;subst hbb;refine zaG (t:=false) vq0 (λ h=>by cases h) ?_;intro _;have d2:=zah (n:=2) (l:=[ov,lv]) hA4 rfl;have hz4:=hz.ext hEw4;refine rqz ?_;intro gd K hgd hK;refine sgz d2 ?_;refine yfm (zlc hz4 hR (hn.ext hEw4) mn) ?_;rintro _ w5 ⟨hE6,fv,tv,rfl,hfv,hfb,htv⟩;obtain⟨b5,hb5⟩:∃bb:Bool,decide (datC R n 5≠ [])=bb:=⟨_,rfl⟩;rw[hb5];refine sg0 ?_;apply hK;have hC5:=Ext.at hE6 hC4;have e6:=hE6.size;have hEw5:=hEw4.trans hE6;refine gz0 ?_;by_cases hne5:datC R n 5≠ []
  ·rw[yet hne5]at hb5;subst hb5;obtain⟨af,cf,hfv',_⟩:=hfv.open;obtain⟨at1,ct1,htv',_⟩:=id htv;have hat:atL R n t wild=⟨5,(datC R n 5).take 1,toN 5 ((datC R n 5).take 1),wild,[]⟩:=by unfold atL;rw[if_neg hne,if_pos hne5]
   refine zaG (t:=true) vq0 ?_ (λ h=>by cases h);intro _;refine rqz ?_;intro gd K hgd hK;refine sg0 ?_;rw[hfv',htv'];refine⟨by kernel_rfl,?_⟩;rw[show bdV prog 192 [(0,vi 5),(2,.slice at1 ((toN 5 ((datC R n 5).take 1)).map vs).length ct1),(1,.slice af ((datC R n 5).take 1).length cf),(3,.bool wild)]=some (.agg #[vi 5,.slice af ((datC R n 5).take 1).length cf,.slice at1 ((toN 5 ((datC R n 5).take 1)).map vs).length ct1,.bool wild,.slice .none 0 0]) from by kernel_rfl];refine sg0 ?_;refine zaL (P:=prog) (t:=192) (l:=[vi 5,.slice af ((datC R n 5).take 1).length cf,.slice at1 ((toN 5 ((datC R n 5).take 1)).map vs).length ct1,.bool wild,.slice .none 0 0]) hC5 rfl (λ v h=>by simp at h;rcases h with rfl|rfl|rfl|rfl|rfl<;>rfl) rfl rfl ?_;intro z hz' hbz hkz;refine sg0 ?_;refine en hK ?_;refine zau (.inr rfl) ntmps163 rfl (za0 (x:=⟨w.heap.size+1,0,.none⟩) (k:=5) vq0 rfl rfl (zah hbz rfl) zas) ?_;have hEz:Ext w z:=ykt hEw5 rfl (λ b hb=>oM) hkz;refine⟨hEz,_,rfl,?_⟩;rw[hat];refine⟨_,_,_,rfl,?_,?_,.inr ?_,Rows.nil _ _ _,BlkB.nil⟩
   ·rw[←hfv'];exact hfv.keep hkz hfb (λ b hb _=>oM)
   ·rw[←hfv'];exact(hfb.ext oM).mono oM
   ·rw[←htv'];exact htv
  ·rw[yef hne5]at hb5;subst hb5;have hat:atL R n t wild=⟨2,[],[],wild,[]⟩:=by unfold atL;rw[if_neg hne,if_neg hne5]
   refine zaG (t:=false) vq0 (λ h=>by cases h) ?_;intro _;refine rqz ?_;intro gd K hgd hK;refine sg0 ?_;refine⟨by kernel_rfl,?_⟩;rw[show bdV prog 192 [(0,vi 2),(3,.bool wild)]=some (.agg #[vi 2,.slice .none 0 0,.slice .none 0 0,.bool wild,.slice .none 0 0]) from by kernel_rfl];refine sg0 ?_;refine zaL (P:=prog) (t:=192) (l:=[vi 2,.slice .none 0 0,.slice .none 0 0,.bool wild,.slice .none 0 0]) hC5 rfl (λ v h=>by simp at h;rcases h with rfl|rfl|rfl|rfl|rfl<;>rfl) rfl rfl ?_;intro z hz' hbz hkz;refine sg0 ?_;refine en hK ?_;refine zau (.inr rfl) ntmps163 rfl (za0 (x:=⟨w.heap.size+1,0,.none⟩) (k:=5) vq0 rfl rfl (zah hbz rfl) zas) ?_;refine⟨ykt hEw5 rfl (λ b hb=>oM) hkz,_,rfl,?_⟩;rw[hat];exact⟨_,_,_,rfl,Rows.nil _ _ _,BlkB.nil,.inr (zbb _),Rows.nil _ _ _,BlkB.nil⟩
def goL(o:Nm)(R:List RecL)(q:Nm):List Nm->Option ResL
 | []=> .none
 |n::l=>if cutP o R n=true then some (zgj R n) else if n.length=q.length then .none else match zaT R q n with
  |some r=>some r
  | .none=>goL o R q l
def zbP(o:Nm)(R:List RecL)(q:Nm)(t:Int):ResL:=
 if zaN q o=false then⟨7,[],[],false,[]⟩ else match goL o R q (zbS o q) with
 |some r=>r
 | .none=>if zbH o R q=true then atL R q t false else match zcp o R q with
  |some s=>atL R s t true
  | .none=>⟨3,[],[],false,[]⟩
def passL(o:Nm)(R:List RecL)(q n:Nm):Prop:=cutP o R n=false/\n.length≠q.length/\zaT R q n= .none
theorem zfV{R:List RecL}:∀{pre l:List Nm},(∀n∈pre,passL o R q n)->goL o R q (pre++l)=goL o R q l
 | [],_,_=>rfl
 |n::pre,l,h=>by
  obtain⟨h1,h2,h3⟩:=h n (yal ..);rw[yav];simp only[goL];rw[h1,if_neg yaV,if_neg h2,h3];exact zfV (λ m hm=>h m (yak _ hm))
theorem zim{R:List RecL}:zf5 o R n=0↔zaN n o=false:=by
 unfold zf5;by_cases h:zaN n o=true
 ·rw[if_pos h,h];constructor
  ·intro h2
   split at h2
   ·cases h2
   ·split at h2<;>cases h2
  ·intro h2;cases h2
 ·rw[if_neg h];simp at h;simp[h]
theorem zli(hk:k<=q.length):zaN q (q.drop k)=true:=by
 unfold zaN;rw[yaB,ydT,ydT];refine⟨sM,?_⟩;rw[ybb,show q.length - (q.length - k)=k from by omega]
theorem NmM.drop(h:NmM n)(k:Nat):NmM (n.drop k):=⟨λ l hl=>h.lb l (yds _ _ hl),by have:=h.len;simp;omega⟩
theorem Zone_ok{ov qv:Value}{R:List RecL}{t:Int}(hz:ZnAt w0 w ov lv o R)(hR:zfv R)(hq:Row w qv (q.map vs))(mq:NmM q):
  Fn prog 120 #[.agg #[ov,lv],qv,vi t] w (λ v w'=>Ext w w'/\∃cs,v= .agg cs.toArray/\ResB w0 w.heap.size w' cs (zbP o R q t)):=by
 obtain⟨ao,co,hov,_⟩:=id hz.org;obtain⟨al,cl,hlv,_⟩:=hz.recs.open;obtain⟨aq,cq,hqv,_⟩:=id hq;rw[ylm]at hov hqv;rw[hov,hlv,hqv];refine enx func120 ntmps120 ?_;refine gz0 ?_;rw[←hov,←hlv,←hqv];simp only[zai];refine zek ?_;intro w1 hE1 hs1 hA hB hC;have d2:=zah (n:=2) (l:=[ov,lv]) hA rfl;have dq:zad w1 (some ⟨w.heap.size+1,0,.none⟩)=some qv:=zab hB rfl;have hz1:=hz.ext hE1;have ql:=mq.len;have hqo:(q.map vs).length=q.length:=ylm ..;refine rq ?_;intro gd K hgd hK;refine sgz (az2 d2 dq) ?_;refine yfm (Where_ok hz1 (hq.ext hE1) mq.s) ?_;rintro _ w2 ⟨rfl,hE2⟩;refine sg0 ?_;apply hK;have hEw2:=hE1.trans hE2;have hA2:=hE2.at hA;have hB2:=hE2.at hB;have hC2:=hE2.at hC;have s2:=hE2.size
 -- a result into its variable,and the end
 refine wcz ?_ ?_
 ·intro hw;simp only[ydT]at hw;have hu:=zim.1 hw;have hlk:zbP o R q t=⟨7,[],[],false,[]⟩:=by unfold zbP;rw[if_pos hu]
  refine rqz ?_;intro gd K hgd hK;refine sg0 ?_;refine⟨by kernel_rfl,?_⟩;rw[show bdV prog 192 [(0,vi 7)]=some (.agg #[vi 7,.slice .none 0 0,.slice .none 0 0,.bool false,.slice .none 0 0]) from by kernel_rfl];refine sg0 ?_;refine zaL (P:=prog) (t:=192) (l:=[vi 7,.slice .none 0 0,.slice .none 0 0,.bool false,.slice .none 0 0]) hC2 rfl (λ v h=>by simp at h;rcases h with rfl|rfl|rfl|rfl|rfl<;>rfl) rfl rfl ?_;intro z hz' hbz hkz;refine sg0 ?_;refine en hK ?_;refine zau (.inr rfl) ntmps120 rfl (za0 (x:=⟨w.heap.size+1+1,0,.none⟩) (k:=5) vq0 rfl rfl (zah hbz rfl) zas) ?_;exact⟨ykt hEw2 rfl (λ b hb=>oM) hkz,_,rfl,by rw[hlk];exact⟨_,_,_,rfl,Rows.nil _ _ _,BlkB.nil,.inr (zbb _),Rows.nil _ _ _,BlkB.nil⟩⟩
 intro hw;simp only[ydF]at hw;have hu:zaN q o=true:=by
  cases h:zaN q o with
  |true=>rfl
  |false=>exact absurd (zim.2 h) hw
 have d2':=zah (n:=2) (l:=[ov,lv]) hA2 rfl;have dq':zad w2 (some ⟨w.heap.size+1,0,.none⟩)=some qv:=zab hB2 rfl;refine rqz ?_;intro gd K hgd hK;refine sgz (az2 d2' dq') ?_;refine yfm (zkf ⟨_,_,_,hqv⟩) ?_;rintro _ w3 ⟨rfl,hE3,hs3,hbz,hbn⟩;refine sg0 ?_;apply hK;have hEw3:=hEw2.trans hE3;have hz3:=hz.ext hEw3;have hq3:=hq.ext hEw3;have hA3:=hE3.at hA2;have hB3:=hE3.at hB2;have hC3:=hE3.at hC2;obtain⟨D,hD⟩:∃D,w3.heap.size=D:=⟨_,rfl⟩;have hdm:∀{x},x∈zbS o q->∃k,k<=q.length/\x=q.drop k:=fun {x} hx=>by
  unfold zbS at hx
  split at hx
  ·obtain⟨i,hi,h⟩:=zb3.1 hx;exact⟨i,oM,h⟩
  ·cases hx
 refine cZ ?_;refine zaw (Q:=λ e σ' ds' v'=>((e= .normal\/e= .exit 0)/\ds'=[{target:= .collected w3.heap.size,args:=#[]}]/\v'.heap[w3.heap.size]? =some (.deferred (some []))/\σ' 3= .pointer (some ⟨w.heap.size,0,.none⟩)/\σ' 4= .pointer (some ⟨w.heap.size+1,0,.none⟩)/\σ' 6= .pointer (some ⟨w.heap.size+1+1,0,.none⟩)/\σ' 2=vi t/\Ext w3 v'/\goL o R q (zbS o q)= .none)\/
   (e= .ret/\ds'=[{target:= .collected w3.heap.size,args:=#[]}]/\v'.heap[w3.heap.size]? =some (.deferred (some []))/\σ' 6= .pointer (some ⟨w.heap.size+1+1,0,.none⟩)/\Ext w v'/\∃r cs,goL o R q (zbS o q)=some r/\v'.heap[w.heap.size+1+1]? =some (.cells cs.toArray 192 (0,0))/\ResB w0 (w3.heap.size+2) v' cs r)) ?_ ?_
 ·refine zd4 (g:=197) (cap:=#[.pointer (some ⟨w2.heap.size+1,0,.none⟩),.pointer (some ⟨w2.heap.size,0,.none⟩)]) vq0 rfl (znO (C:=λ b=>b=w.heap.size+1+1) hbn hbz hq hz3.org oM oM hz.ol oM) ykr (ynl _) (λ b hb=>oM)
   (λ x B args h=>by obtain⟨v,h,_⟩:=h;rw[h];rfl)
   (λ pre B=>Ext w3 B/\∀x∈pre,passL o R q x)
   (λ c pre B=>(c= .exit 0/\Ext w3 B/\∃pre' x,pre=pre'++ [x]/\(∀y∈pre',passL o R q y)/\cutP o R x=false/\x.length=q.length)\/
    (c= .ret/\Ext w B/\∃pre' x r cs,pre=pre'++ [x]/\(∀y∈pre',passL o R q y)/\(∀l,goL o R q (x::l)=some r)/\B.heap[w.heap.size+1+1]? =some (.cells cs.toArray 192 (0,0))/\ResB w0 (w3.heap.size+2) B cs r)) ?_ ?_ ?_ ?_ ?_ ?_
  ·rintro pre B B' ⟨hEB,hp⟩ hk;exact⟨ykt hEB rfl (λ b hb=>by unfold two at hb;omega) hk,hp⟩
  ·rintro c pre B B' h hk;rcases h with ⟨rfl,hEB,h⟩| ⟨rfl,hEB,pre',x,r,cs,h1,h2,h3,h4,h5⟩
   ·exact .inl ⟨rfl,ykt hEB rfl (λ b hb=>by unfold two at hb;omega) hk,h⟩
   ·exact .inr ⟨rfl,ykt hEB rfl (λ b hb=>by unfold two at hb;omega) hk,pre',x,r,cs,h1,h2,h3,(hk.block _ (yaa.1 h4).1 (by unfold two;omega)).trans h4,h5.keep hk (λ b hb _=>by unfold two;omega)⟩
  ·exact⟨Keep.refl _ _,λ x h=>absurd h sM⟩
  ·rintro lp pre x suf B args hxs hszB ⟨hEB,hp⟩ ⟨xv,rfl,hxr⟩;obtain⟨kx,hkx,hxk⟩:=hdm (x:=x) (by rw[hxs];simp);have mx:NmM x:=hxk▸mq.drop kx;have hux:zaN q x=true:=by rw[hxk];exact zli hkx
   have hxl:=mx.len;obtain⟨ax,cx,hxv,_⟩:=id hxr;rw[ylm]at hxv;have hol:=hz.ol;refine rq ?_;intro gd K hgd hK;refine sg0 ?_;apply hK;refine zao ?_;refine⟨rfl,KeepB.refl _ _ _,λ Y hY=>?_⟩;have hEY:Ext w3 Y:=ykt hEB rfl (λ b hb=>by unfold two at hb;omega) hY;have hzY:=hz3.ext hEY;have p0:zad Y (some ⟨w.heap.size,0,.none⟩)=some ov:=zab (hEY.at hA3) rfl;have d2:=zah (n:=2) (l:=[ov,lv]) (hEY.at hA3) rfl;have dq:zad Y (some ⟨w.heap.size+1,0,.none⟩)=some qv:=zab (hEY.at hB3) rfl;have hYs:=hY.size;have hxY:Row Y xv (x.map vs):=hxr.ext (hEw3.trans hEY);have hqY:=hq3.ext hEY;have hCY:=hEY.at hC3;rw[hov]at p0;refine cZ ?_;refine zaw (Q:=λ e σ' ds' v'=>e= .normal/\ds'=[]/\σ' 7=xv/\σ' 3= .pointer (some ⟨w.heap.size,0,.none⟩)/\σ' 4= .pointer (some ⟨w.heap.size+1,0,.none⟩)/\σ' 6= .pointer (some ⟨w.heap.size+1+1,0,.none⟩)/\Ext Y v'/\σ' 31= .bool (cutP o R x)) ?_ ?_
   ·by_cases hl:(o.length:Int)<(x.length:Int)
    ·refine rq ?_;intro gd K hgd hK;have hg6:=gk 6 27 hgd rfl;try simp (disch:=first|omega|assumption|rfl) only[go_sem,hxv,p0,d2,yet hl,yad,↓hg6]
     rw[←hxv];refine yfm (Has_ok hzY hxY mx.s) ?_;rintro _ Y2 ⟨rfl,hY2⟩;refine sg0 ?_;apply hK;refine⟨rfl,rfl,vq0,vq0,vq0,vq0,hY2,?_⟩;unfold cutP hasL;rw[show decide (o.length<x.length)=true from yet oM,ybN];simp only[go_sem]
    ·refine rq ?_;intro gd K hgd hK;have hg6:=gk 6 27 hgd rfl;try simp (disch:=first|omega|assumption|rfl) only[go_sem,hxv,p0,yef hl,yad,↓hg6]
     rw[←hxv];apply hK;refine⟨rfl,rfl,vq0,vq0,vq0,vq0,Keep.refl _ _,?_⟩;unfold cutP hasL;rw[show decide (o.length<x.length)=false from yef oM,ycc];simp only[go_sem]
   rintro _ σ1 _ Y1 ⟨rfl,rfl,h7,h3,h4,h6,hY1,h31⟩;have hEY1:=hEY.trans hY1;have hY1s:=hY1.size;refine cZ ?_;refine zaG (t:=cutP o R x) ((vq1 h31)) ?_ ?_
   ·intro ht;have d2':=zac hY1 d2;refine rqz ?_;intro gd K hgd hK;refine sgz (az3 h3 h7 d2') ?_;refine yfm (Refer_ok (hzY.ext hY1) hR (hxY.ext hY1) mx.s) ?_;rintro _ Y2 ⟨hY2,cs,rfl,hres⟩;refine sgz h6 ?_;have hY2s:=hY2.size;refine zaL (P:=prog) (t:=192) (l:=cs) (Ext.at (hY1.trans hY2) hCY) hres.cells.1 hres.cells.2 (by rw[hres.cells.1];rfl) rfl ?_;intro z hz' hbz2 hkz;refine sg0 ?_;refine en hK ?_;exact⟨.inr ⟨rfl,ykt (hEw3.trans (hEY1.trans hY2)) rfl (λ b hb=>oM) hkz,pre,x,zgj R x,cs,rfl,hp,λ l=>by simp only[goL];rw[if_pos ht],hbz2,(hres.keep hkz (λ b hb _=>oM)).mono oM⟩,((hY1.trans hY2).toB oM (λ _ _ h=>h.elim)).trans (hkz.toB oM (λ i _ h=>h))⟩
   intro ht;have dq':=zaa hY1 dq;rw[hqv]at dq';refine gz (az4 h7 h4 hxv dq') ?_;refine wc0 ?_ ?_
   ·intro hl;simp only[ydT]at hl;refine cZ ?_;exact⟨.inl ⟨rfl,hEY1,pre,x,rfl,hp,ht,oM⟩,hY1.toB oM (λ _ _ h=>h.elim)⟩
   intro hl;simp only[ydF]at hl;have d2':=zac hY1 d2;have dq'':=zaa hY1 dq;refine rqz ?_;intro gd K hgd hK;refine sgz (az5 h3 h4 h7 d2' dq'') ?_;refine yfm (zl6 (hzY.ext hY1) hR (hqY.ext hY1) (hxY.ext hY1) mq mx hux) ?_;rintro _ Y2 ⟨hY2,cs,rfl,hres⟩;refine sg0 ?_;have hB8:=zam Y2 (.cells #[vi 0,.slice .none 0 0,.slice .none 0 0,.bool false,.slice .none 0 0] 192 (0,0));have hE8:=yea Y2 (.cells #[vi 0,.slice .none 0 0,.slice .none 0 0,.bool false,.slice .none 0 0] 192 (0,0));have hs8:=zai Y2 (.cells #[vi 0,.slice .none 0 0,.slice .none 0 0,.bool false,.slice .none 0 0] 192 (0,0));revert hB8 hE8 hs8;generalize Y2.alloc (.cells #[vi 0,.slice .none 0 0,.slice .none 0 0,.bool false,.slice .none 0 0] 192 (0,0))=Y3;intro hB8 hE8 hs8;refine zaL (P:=prog) (t:=192) (l:=cs) hB8 hres.cells.1 hres.cells.2 (by rw[hres.cells.1];rfl) rfl ?_;intro Y4 hs9 hB9 hk9;refine sg0 ?_;apply hK;have hE24:Ext Y2 Y4:=ykt hE8 rfl (λ b hb=>oM) hk9;have hY4:=hY2.trans hE24;have hY4s:=hY4.size;have hres4:=hres.keep hE24 (λ b hb _ h=>h);have d9:=zah (n:=5) hB9 hres.cells.1.symm;refine gz0 ?_;refine zaG (t:=(zaT R q x).isSome) vq0 ?_ ?_
   ·intro hs;obtain⟨r,hr⟩:=yxs hs;rw[hr]at hres4;refine rqz ?_;intro gd K hgd hK;refine sgz (az2 d9 h6) ?_;refine zaL (P:=prog) (t:=192) (l:=cs) (Ext.at (hY1.trans hY4) hCY) hres.cells.1 hres.cells.2 (by rw[hres.cells.1];rfl) rfl ?_;intro z hz' hbz2 hkz;refine sg0 ?_;refine en hK ?_;exact⟨.inr ⟨rfl,ykt (hEw3.trans (hEY1.trans hY4)) rfl (λ b hb=>oM) hkz,pre,x,r,cs,rfl,hp,λ l=>by simp only[goL];rw[ht,if_neg yaV,if_neg oM,hr],hbz2,(hres4.keep hkz (λ b hb _=>oM)).mono oM⟩,((hY1.trans hY4).toB oM (λ _ _ h=>h.elim)).trans (hkz.toB oM (λ i _ h=>h))⟩
   ·intro hs;have hnone:zaT R q x= .none:=sU hs;refine cZ ?_;refine⟨⟨hEY1.trans hY4,λ y hy=>?_⟩,(hY1.trans hY4).toB oM (λ _ _ h=>h.elim)⟩;rcases yai.1 hy with hy|hy
    ·exact hp y hy
    ·rw[yae.1 hy];exact⟨ht,oM,hnone⟩
  ·intro B hszB ⟨hEB,hp⟩ hDB;refine .inl ⟨.inl rfl,rfl,hDB,vq0,vq0,vq0,vq0,hEB,?_⟩;have:=zfV (l:=[]) hp;rw[yaF]at this;rw[this];rfl
  ·rintro c pre x0 suf B hszB hxs h hDB;rcases h with ⟨rfl,hEB,pre',x,hpre,h1,h2,h3⟩| ⟨rfl,hEB,pre',x,r,cs,hpre,h1,h2,h3,h4⟩
   ·obtain⟨rfl,h5⟩:=yci hpre rfl;have hx0:x0=x:=sU h5;subst hx0;refine zew ?_;refine .inl ⟨.inr rfl,rfl,hDB,vq0,vq0,vq0,vq0,hEB,?_⟩;rw[hxs,zfV h1];simp only[goL];rw[h2,if_neg yaV,if_pos h3]
   ·obtain⟨rfl,h5⟩:=yci hpre rfl;have hx0:x0=x:=sU h5;subst hx0;refine zig ?_;refine .inr ⟨rfl,rfl,hDB,vq0,hEB,r,cs,?_,h3,h4⟩;rw[hxs,zfV h1,h2]
 ·intro e σ1 ds1 v1 hcase;rcases hcase with ⟨he,rfl,hDv,h3,h4,h6,h2,hEv,hgo⟩| ⟨rfl,rfl,hDv,h6,hEv,r,cs,hgo,hbv,hres⟩
  ·refine ze5 he ?_;have hlk:zbP o R q t=if zbH o R q=true then atL R q t false else match zcp o R q with
     |some s=>atL R s t true
     | .none=>⟨3,[],[],false,[]⟩:=by
    unfold zbP;rw[if_neg (by rw[hu];decide),hgo]
   have hEwv:=hEw3.trans hEv;have hzv:=hz3.ext hEv;have hqv':=hq3.ext hEv;have hCv:=Ext.at hEv hC3;have d2v:=zah (n:=2) (l:=[ov,lv]) (Ext.at hEv hA3) rfl;have dqv:zad v1 (some ⟨w.heap.size+1,0,.none⟩)=some qv:=zab (Ext.at hEv hB3) rfl;have hvs:=hEv.size;have hDlt:w3.heap.size<v1.heap.size:=(yaa.1 hDv).1
   -- a result laid into its variable,and the end
   have fin:∀{Y z:World} {cs:List Value} {r:ResL} {σ':Sto},Ext v1 Y->ResB w0 v1.heap.size Y cs r->r=zbP o R q t->z.heap.size=Y.heap.size->z.heap[w.heap.size+1+1]? =some (.cells cs.toArray 192 (0,0))->Keep (λ i=>i=w.heap.size+1+1) Y z->σ' 6= .pointer (some ⟨w.heap.size+1+1,0,.none⟩)->
     z.heap[w3.heap.size]? =some (.deferred (some []))/\∀Z,Keep (λ b=>b=w3.heap.size) z Z->Z.heap.size=z.heap.size->∃rs,resV prog 68 σ' Z [.cell 6 192]=some rs/\(Ext w Z/\∃cs,resT rs= .agg cs.toArray/\ResB w0 w.heap.size Z cs (zbP o R q t)):=fun {Y z cs r σ'} hY hres hr hzs hbz hkz h6'=>by
    have hYs:=hY.size;refine⟨(hkz.block _ oM oM).trans (Ext.at hY hDv),λ Z hkZ hsZ=>⟨_,za0 (x:=⟨w.heap.size+1+1,0,.none⟩) (k:=5) ((vq1 h6')) rfl rfl (zah ((hkZ.block _ oM oM).trans hbz) hres.cells.1.symm) zas,?_,_,rfl,?_⟩⟩
    ·exact ykt (ykt (hEwv.trans hY) rfl (λ b hb=>oM) hkz) rfl (λ b hb=>oM) hkZ
    ·rw[←hr];exact(((hres.keep hkz (λ b hb _=>oM)).keep hkZ (λ b hb _=>oM))).mono oM
   refine rqz ?_;intro gd K hgd hK;refine sgz (az4 h3 h4 d2v dqv) ?_;refine yfm (zjv hzv hqv' mq.s) ?_;rintro _ Y1 ⟨rfl,hY1⟩;refine sg0 ?_;apply hK;have hzY1:=hzv.ext hY1;have d2y:=zac hY1 d2v;have dqy:=zaa hY1 dqv;have hY1s:=hY1.size;refine cZ ?_;refine zaG (t:=zbH o R q) vq0 ?_ ?_
   ·intro hex;rw[hex,if_pos rfl]at hlk;refine rqz ?_;intro gd K hgd hK;refine sgz (az5 h3 h4 h2 d2y dqy) ?_;refine yfm (At_ok hzY1 hR (hqv'.ext hY1) mq.s) ?_;rintro _ Y2 ⟨hY2,cs,rfl,hres⟩;refine sgz h6 ?_;have hY2s:=hY2.size;refine zaL (P:=prog) (t:=192) (l:=cs) (Ext.at (hY1.trans hY2) hCv) hres.cells.1 hres.cells.2 (by rw[hres.cells.1];rfl) rfl ?_;intro z hz' hbz2 hkz;refine sg0 ?_;refine en hK ?_;obtain⟨f1,f2⟩:=fin (hY1.trans hY2) (hres.mono hY1s) hlk.symm hz' hbz2 hkz h6;refine zbC (.inr rfl) ntmps120 rfl f1 ?_;intro Z hkZ hsZ;exact f2 Z hkZ hsZ
   intro hex;rw[hex,if_neg yaV]at hlk;refine rqz ?_;intro gd K hgd hK;refine sgz (az4 h3 h4 d2y dqy) ?_;refine yfm (zn5 hzY1 (hqv'.ext hY1) mq.s ql) ?_;rintro _ Y2 ⟨hY2,sv,rfl,hsv⟩;refine sg0 ?_;apply hK;have hY2s:=hY2.size;have hzY2:=hzY1.ext hY2;have d2z:=zac hY2 d2y;have dqz:=zaa hY2 dqy;refine gz0 ?_;refine zaG (t:=(zcp o R q).isSome) vq0 ?_ ?_
   ·intro hs;obtain⟨s0,hs0⟩:=yxs hs;rw[hs0]at hlk hsv;have hsn:s0=zdp o R q:=by
     unfold zcp at hs0
     split at hs0
     ·exact(Option.some.inj hs0).symm
     ·cases hs0
    have hss:NmS s0:=by rw[hsn];exact zmn mq.s ql
    refine rqz ?_;intro gd K hgd hK;refine sgz (az3 h3 h2 d2z) ?_;refine yfm (At_ok hzY2 hR hsv hss) ?_;rintro _ Y3 ⟨hY3,cs,rfl,hres⟩;refine sgz h6 ?_;have hY3s:=hY3.size;refine zaL (P:=prog) (t:=192) (l:=cs) (Ext.at ((hY1.trans hY2).trans hY3) hCv) hres.cells.1 hres.cells.2 (by rw[hres.cells.1];rfl) rfl ?_;intro z hz' hbz2 hkz;refine sg0 ?_;refine en hK ?_;obtain⟨f1,f2⟩:=fin ((hY1.trans hY2).trans hY3) (hres.mono oM) hlk.symm hz' hbz2 hkz h6;refine zbC (.inr rfl) ntmps120 rfl f1 ?_;intro Z hkZ hsZ;exact f2 Z hkZ hsZ
   ·intro hs;have hs0:zcp o R q= .none:=sU hs;rw[hs0]at hlk;refine rqz ?_;intro gd K hgd hK;refine sgz h6 ?_;refine⟨by kernel_rfl,?_⟩;rw[show bdV prog 192 [(0,vi 3)]=some (.agg #[vi 3,.slice .none 0 0,.slice .none 0 0,.bool false,.slice .none 0 0]) from by kernel_rfl];refine sgz h6 ?_;refine zaL (P:=prog) (t:=192) (l:=[vi 3,.slice .none 0 0,.slice .none 0 0,.bool false,.slice .none 0 0]) (Ext.at (hY1.trans hY2) hCv) rfl (λ v h=>by simp at h;rcases h with rfl|rfl|rfl|rfl|rfl<;>rfl) rfl rfl ?_;intro z hz' hbz2 hkz;refine sg0 ?_;refine en hK ?_;obtain⟨f1,f2⟩:=fin (r:=⟨3,[],[],false,[]⟩) (hY1.trans hY2) ⟨_,_,_,rfl,Rows.nil _ _ _,BlkB.nil,.inr (zbb _),Rows.nil _ _ _,BlkB.nil⟩ hlk.symm hz' hbz2 hkz h6;refine zbC (.inr rfl) ntmps120 rfl f1 ?_;intro Z hkZ hsZ;exact f2 Z hkZ hsZ
  ·have hlk:zbP o R q t=r:=by
    unfold zbP;rw[if_neg (by rw[hu];decide),hgo]
   have hDlt:w3.heap.size<v1.heap.size:=(yaa.1 hDv).1;refine cZ ?_;refine zbC (.inr rfl) ntmps120 rfl hDv ?_;intro Z hkZ hsZ;refine⟨_,za0 (x:=⟨w.heap.size+1+1,0,.none⟩) (k:=5) ((vq1 h6)) rfl rfl (zah ((hkZ.block _ (by have:=hE3.size;omega) oM).trans hbv) hres.cells.1.symm) zas,ykt hEv rfl (λ b hb=>oM) hkZ,_,rfl,?_⟩;rw[hlk];exact(hres.keep hkZ (λ b hb _=>oM)).mono oM
def LeadR(R:List RecL):Prop:=∀r∈R,(r.dat.ty=2\/r.dat.ty=5\/r.dat.ty=39)->r.dat.names≠ []
theorem zh8{R:List RecL}{t:Int}{d:DatL}(h:d∈datC R n t):d.ty=t:=by
 unfold datC at h;obtain⟨x,hx,rfl⟩:=yaq.1 h;have:=ofC_is x hx;unfold isL at this;simp only[yaB,ydT]at this;exact this.1.symm
theorem zn2(hE0:Ext w0 w){ov:Value}{R:List RecL}(ho:Row w ov (o.map vs))(hl:Rows 7 (RecAt w0) w lv R)(hok:∀r∈R,zbL r)(hlen:R.length<=1000000000):
  Fn prog 35 #[ov,lv] w (λ v w'=>Ext w w'/\∃cv,v= .agg #[ov,cv]/\Rows 7 (RecAt w0) w' cv (zbd R)):=by
 obtain⟨ao,co,hov,_⟩:=id ho;obtain⟨no,hno⟩:∃no,(o.map vs).length=no:=⟨_,rfl⟩;rw[hno]at hov;refine enx func35 ntmps35 ?_;refine gz0 ?_;refine zav ?_;intro w1 hE1 hs1 hA;refine rq ?_;intro gd K hgd hK;refine sg0 ?_;refine yfm (zld w0 w1 (hE0.trans hE1) (hl.ext hE1) hok hlen) ?_;rintro cv w2 ⟨hcv,hE2,hcb⟩;obtain⟨ac,cc,hcve,_⟩:=hcv.open;refine sg0 ?_;refine⟨by kernel_rfl,?_⟩;rw[hov,hcve,show bdV prog 60 [(0,.slice ao no co),(1,.slice ac (zbd R).length cc)]=some (.agg #[.slice ao no co,.slice ac (zbd R).length cc]) from by kernel_rfl];refine sg0 ?_;refine zaL (P:=prog) (t:=60) (l:=[.slice ao no co,.slice ac (zbd R).length cc]) (Ext.at hE2 hA) rfl (λ v h=>by simp at h;rcases h with rfl|rfl<;>rfl) rfl rfl ?_;intro z hz' hbz hkz;refine sg0 ?_;refine en hK ?_;refine zau (.inr rfl) ntmps35 rfl (za0 (x:=⟨w.heap.size,0,.none⟩) (k:=2) vq0 rfl rfl (zah hbz rfl) zas) ?_;refine⟨ykt (hE1.trans hE2) rfl (λ b hb=>oM) hkz,.slice ac (zbd R).length cc,by rw[hov];rfl,?_⟩;rw[←hcve];exact hcv.keep hkz hcb (λ b hb _=>oM)
theorem RZNew_ok(hE0:Ext w0 w){ov:Value}{R:List RecL}(ho:Row w ov (o.map vs))(hl:Rows 7 (RecAt w0) w lv R)(hok:∀r∈R,zbL r)(hlen:R.length<=1000000000):
  Fn prog 39 #[ov,lv] w (λ v w'=>Ext w w'/\∃cv,v= .agg #[ov,cv]/\Rows 7 (RecAt w0) w' cv (zbd R)):=by
 obtain⟨ao,co,hov,_⟩:=id ho;obtain⟨no,hno⟩:∃no,(o.map vs).length=no:=⟨_,rfl⟩;rw[hno]at hov;refine enx func39 ntmps39 ?_;refine gz0 ?_;refine zav ?_;intro w1 hE1 hs1 hA;refine rq ?_;intro gd K hgd hK;refine sg0 ?_;refine yfm (zog w0 w1 (hE0.trans hE1) (hl.ext hE1) hok hlen) ?_;rintro cv w2 ⟨hcv,hE2⟩;obtain⟨ac,cc,hcve,_⟩:=hcv.rows.open;refine sg0 ?_;refine⟨by kernel_rfl,?_⟩;rw[hov,hcve,show bdV prog 56 [(0,.slice ao no co),(1,.slice ac (zbd R).length cc)]=some (.agg #[.slice ao no co,.slice ac (zbd R).length cc]) from by kernel_rfl];refine sg0 ?_;refine zaL (P:=prog) (t:=56) (l:=[.slice ao no co,.slice ac (zbd R).length cc]) (Ext.at hE2 hA) rfl (λ v h=>by simp at h;rcases h with rfl|rfl<;>rfl) rfl rfl ?_;intro z hz' hbz hkz;refine sg0 ?_;refine en hK ?_;refine zau (.inr rfl) ntmps39 rfl (za0 (x:=⟨w.heap.size,0,.none⟩) (k:=2) vq0 rfl rfl (zah hbz rfl) zas) ?_;refine⟨ykt (hE1.trans hE2) rfl (λ b hb=>oM) hkz,.slice ac (zbd R).length cc,by rw[hov];rfl,?_⟩;rw[←hcve];exact hcv.rows.keep hkz hcv.blk (λ b hb _=>oM)
def zbQ(n:Nm):Bool:=few n && decide (zaC n=0)
theorem zbi(h:zaC n=0):∀l∈n,l≠ []/\l.length<=63:=by
 intro l hl;unfold zaC at h;cases hf:n.find? (λ l=>decide (errL l≠0)) with
 |some x=>
  rw[hf]at h;have:=ycN hf;simp only[ydT]at this;exact absurd h this
 |none=>
  have:=ybF.1 hf l hl;simp only[ydT,Decidable.not_not]at this;unfold errL at this
  split at this
  ·cases this
  ·rename_i h0;refine⟨h0,?_⟩
   split at this
   ·cases this
   ·omega
theorem sum_ge:∀n:Nm,n.length<=(n.map λ l=>1+l.length).sum
 | []=>yba _
 |a::n=>by
  have ih:=sum_ge n;rw[yaU,yca];have e:(a::n).length=n.length+1:=rfl;omega
theorem zft(h:zaC n=0):n.length<=255:=by
 have hl:=zbi h;unfold zaC at h
 split at h
 ·rename_i x hf;have:=ycN hf;simp only[ydT]at this;exact absurd h this
 ·split at h
  ·cases h
  ·rename_i h2;unfold lenN at h2;have:=sum_ge n;omega
theorem zf0(h:zaC n=0):NmG n:=
 ⟨λ l hl=>(zbi h l hl).1,λ l hl=>by have:=(zbi h l hl).2;omega,by have:=zft h;omega⟩
theorem zb2(h:zbQ n=true):NmG n:=by
 unfold zbQ at h;simp only[yaB,ydT]at h;exact zf0 h.2
theorem zf3(w:World)(a:Value)(xs:Nm)(ha:Row w a (xs.map vs)):
  Fn prog 7 #[a] w (λ v w'=>v= .bool (zbQ xs)/\Ext w w'):=by
 refine enx func7 ntmps7 ?_;refine gz0 ?_;cases hf:few xs with
 |true=>
  refine rq ?_;intro gd K hgd hK;have hg2:=gk 2 5 hgd rfl;refine sg0 ?_;refine yfm (zju w a xs ha) ?_;rintro _ w1 ⟨rfl,hE1⟩;rw[hf];refine sgy hg2 trivial ?_;refine yfm (zbv w1 a xs (ha.ext hE1) (λ l hl=>by
   have:=few_lb hf l hl;simp only[few,yaB,ybg,ydT]at hf;have:=hf.2 l hl;omega) (by have:=few_len hf;omega)) ?_
  rintro _ w2 ⟨rfl,hE2⟩;refine sgy hg2 trivial ?_;refine en hK ?_;refine rt0 ntmps7 ?_;refine⟨?_,hE1.trans hE2⟩;unfold zbQ;rw[hf,ybN]
 |false=>
  refine rq ?_;intro gd K hgd hK;have hg2:=gk 2 5 hgd rfl;refine sg0 ?_;refine yfm (zju w a xs ha) ?_;rintro _ w1 ⟨rfl,hE1⟩;rw[hf];refine sgy hg2 trivial ?_;refine en hK ?_;refine rt0 ntmps7 ?_;refine⟨?_,hE1⟩;unfold zbQ;rw[hf,ycc]
theorem zou(w:World)(t:Int):
  Fn prog 188 #[vi t] w (λ v w'=>w'=w/\∃a b c:Int,v= .tuple #[vi a,vi b,vi c]/\((t=2\/t=5\/t=39)->a=1)/\(t=15->b=1)):=by
 refine enx func188 ntmps188 ?_;refine gz0 ?_;refine wc0 ?_ ?_
 ·intro h1;simp only[ydT]at h1;refine gz0 ?_;refine zau (.inr rfl) ntmps188 rfl (zaj vr0 (zaj vr0 (zaj vr0 zas))) ?_;exact⟨rfl,0,0,4,rfl,oM,oM⟩
 intro h1;simp only[ydF]at h1;refine gz0 ?_;refine wc0 ?_ ?_
 ·intro h2;simp only[ydT]at h2;refine gz0 ?_;refine zau (.inr rfl) ntmps188 rfl (zaj vr0 (zaj vr0 (zaj vr0 zas))) ?_;exact⟨rfl,0,0,16,rfl,oM,oM⟩
 intro h2;simp only[ydF]at h2;refine zg7 ?_;refine zaw (Q:=λ e σ' ds' v'=>e= .normal/\ds'=[]/\v'=w/\σ' 5=vi t/\∃bb,σ' 10= .bool bb/\bb=(decide (t=2)|| (decide (t=5)|| (decide (t=12)||decide (t=39))))) ?_ ?_
 ·refine zg7 ?_;refine rg0 ?_;refine zao ?_;refine wc0 ?_ ?_
  ·intro h;refine cZ ?_;exact⟨rfl,rfl,rfl,vq0,true,by simp only[go_sem];rw[h],by rw[h];rfl⟩
  intro e1;refine zg7 ?_;refine rg0 ?_;refine zao ?_;refine wc0 ?_ ?_
  ·intro h;refine cZ ?_;exact⟨rfl,rfl,rfl,vq0,true,by simp only[go_sem];rw[h],by rw[e1,h];rfl⟩
  intro e2;refine zg7 ?_;refine rg0 ?_;refine zao ?_;refine wc0 ?_ ?_
  ·intro h;refine cZ ?_;exact⟨rfl,rfl,rfl,vq0,true,by simp only[go_sem];rw[h],by rw[e1,e2,h];rfl⟩
  intro e3;refine rg0 ?_;exact⟨rfl,rfl,rfl,vq0,decide (t=39),vr0,by rw[e1,e2,e3];rfl⟩
 rintro _ σ1 _ v1 ⟨rfl,rfl,hv1,h5,bb,h10,hbb⟩;rw[hv1];clear hv1 v1;refine cZ ?_;refine zaG (t:=bb) ((vq1 h10)) ?_ ?_
 ·intro ht;rw[ht]at hbb;refine gz0 ?_;refine zau (.inr rfl) ntmps188 rfl (zaj vr0 (zaj vr0 (zaj vr0 zas))) ?_;refine⟨rfl,1,0,0,rfl,λ _=>rfl,λ h=>?_⟩;subst h;cases hbb
 intro ht;rw[ht]at hbb;have hno:¬(t=2\/t=5\/t=39):=by
  rintro(rfl|rfl|rfl)<;>cases hbb
 refine gz h5 ?_;refine wc0 ?_ ?_
 ·intro h3;refine gz0 ?_;refine zau (.inr rfl) ntmps188 rfl (zaj vr0 (zaj vr0 (zaj vr0 zas))) ?_;exact⟨rfl,1,1,0,rfl,λ _=>rfl,λ _=>rfl⟩
 intro h3;simp only[ydF]at h3;refine gz h5 ?_;refine wc0 ?_ ?_
 ·intro h4;refine gz0 ?_;refine zau (.inr rfl) ntmps188 rfl (zaj vr0 (zaj vr0 (zaj vr0 zas))) ?_;exact⟨rfl,2,5,0,rfl,λ h=>absurd h hno,λ h=>absurd h h3⟩
 intro h4;refine gz h5 ?_;refine wc0 ?_ ?_
 ·intro h6;refine gz0 ?_;refine zau (.inr rfl) ntmps188 rfl (zaj vr0 (zaj vr0 (zaj vr0 zas))) ?_;exact⟨rfl,0,0,0,rfl,λ h=>absurd h hno,λ h=>absurd h h3⟩
 intro h6;refine gz0 ?_;refine zau (.inr rfl) ntmps188 rfl (zaj vr0 (zaj vr0 (zaj vr0 zas))) ?_;exact⟨rfl,0,0, -1,rfl,λ h=>absurd h hno,λ h=>absurd h h3⟩
theorem zcl(b:Bool):zdY undef b=false:=nr rfl
structure DatF(d:DatL):Prop where
 names:∀n∈d.names,(∀l∈n,l.length<=1000000000)/\n.length<=1000000000
 nn:d.names.length<=1000000000
 nu:d.nums.length<=1000000000
 nt:d.texts.length<=1000000000
 tl:∀l∈d.texts,l.length<=1000000000
 nr:d.raw.length<=1000000000
 n8:d.names.length<=8
def zhU(t:Int):Prop:=t=2\/t=5\/t=39
theorem zij(hE0:Ext w0 w){d:DatL}(hd:DatAt w0 cs d)(hf:DatF d):
  Fn prog 145 #[.agg cs.toArray] w (λ v w'=>Ext w w'/\∃e:Int,v=vi e/\(e=0->(∀n∈d.names,zaC n=0)/\(zhU d.ty->d.names.length=1))):=by
 obtain⟨nm,nu,tx,rw',rfl,⟨vals,⟨an,cn,rfl,hcn,hgn⟩,hvl,hvr⟩,⟨au,cu,rfl,hcu,hgu⟩,⟨at1,ct,rfl,hct,hgt⟩,⟨ar,cr,rfl,hcr,hgr⟩⟩:=hd.ex;simp only[ylm]at hcu hgu hct hgt hcr hgr;simp only[ylm];obtain⟨L,hL⟩:∃L:List Value,[vi d.ty,.slice an vals.length cn,.slice au d.nums.length cu,.slice at1 d.texts.length ct,.slice ar d.raw.length cr]=L:=⟨_,rfl⟩;refine enx func145 ntmps145 ?_;refine gz0 ?_;refine zav ?_;intro w1 hE1 hs1 hA;have p0:zad w1 (some ⟨w.heap.size,0,.none⟩)=some (vi d.ty):=zab hA rfl;have p1:zad w1 (some ⟨w.heap.size,1,.none⟩)=some (.slice an vals.length cn):=zab hA rfl;have p2:zad w1 (some ⟨w.heap.size,2,.none⟩)=some (.slice au d.nums.length cu):=zab hA rfl;have p3:zad w1 (some ⟨w.heap.size,3,.none⟩)=some (.slice at1 d.texts.length ct):=zab hA rfl;have p4:zad w1 (some ⟨w.heap.size,4,.none⟩)=some (.slice ar d.raw.length cr):=zab hA rfl;have nn:=hf.nn;have nu:=hf.nu;have nt:=hf.nt;have nr:=hf.nr;have rd:∀{x},Ext w1 x->zad x (some ⟨w.heap.size,1,.none⟩)=some (.slice an vals.length cn)/\zad x (some ⟨w.heap.size,3,.none⟩)=some (.slice at1 d.texts.length ct)/\zad x (some ⟨w.heap.size,0,.none⟩)=some (vi d.ty)/\zad x (some ⟨w.heap.size,2,.none⟩)=some (.slice au d.nums.length cu)/\zad x (some ⟨w.heap.size,4,.none⟩)=some (.slice ar d.raw.length cr):=
  λ hx=>⟨zaa hx p1,zaa hx p3,zaa hx p0,zaa hx p2,zaa hx p4⟩
 refine zaw (Q:=λ e σ' ds' v'=>e= .normal/\ds'=[]/\σ' 1= .pointer (some ⟨w.heap.size,0,.none⟩)/\v'=w1/\∃bb,σ' 17= .bool bb) ?_ ?_
 ·by_cases h1:d.ty<1
  ·refine rq ?_;intro gd K hgd hK;have hg3:=gk 3 13 hgd rfl;try simp (disch:=first|omega|assumption|rfl) only[go_sem,p0,yad,yet h1,↓hg3]
   apply hK;exact⟨rfl,rfl,vq0,rfl,_,vr0⟩
  ·refine rq ?_;intro gd K hgd hK;have hg3:=gk 3 13 hgd rfl;try simp (disch:=first|omega|assumption|rfl) only[go_sem,p0,yad,yef h1,↓hg3]
   apply hK;exact⟨rfl,rfl,vq0,rfl,_,vr0⟩
 rintro _ σ1 _ v1 ⟨rfl,rfl,h1,hv1,bb,h17⟩;rw[hv1];clear hv1 v1;refine cZ ?_;refine zaG (t:=bb) ((vq1 h17)) ?_ ?_
 ·intro _;refine gz0 ?_;refine rt0 ntmps145 ?_;exact⟨hE1,6,rfl,λ h=>by cases h⟩
 intro _;refine rqz ?_;intro gd K hgd hK;refine sgz (az3 h1 p0 yad) ?_;refine yfm (zou w1 d.ty) ?_;rintro _ w2 ⟨hw2,a,b,c,rfl,hca,hcb⟩;rw[hw2];clear hw2 w2;refine sg0 ?_;apply hK;refine gz (az5 h1 p3 yn0 p0 yad) ?_;refine zaw (Q:=λ e σ' ds' v'=>e= .normal/\ds'=[]/\σ' 1= .pointer (some ⟨w.heap.size,0,.none⟩)/\σ' 3=vi a/\σ' 4=vi b/\σ' 5=vi c/\v'=w1/\∃bb,σ' 6= .bool bb) ?_ ?_
 ·refine wc0 ?_ ?_
  ·intro h16;refine cZ ?_;by_cases h2:(d.texts.length:Int)>=1
   ·refine rq ?_;intro gd K hgd hK;have hg4:=gk 4 36 hgd rfl;try simp (disch:=first|omega|assumption|rfl) only[go_sem,h1,p3,yn0,yet h2,↓hg4]
    apply hK;exact⟨rfl,rfl,vq1 h1,vq0,vq0,vq0,rfl,_,vr0⟩
   ·refine rq ?_;intro gd K hgd hK;have hg4:=gk 4 36 hgd rfl;try simp (disch:=first|omega|assumption|rfl) only[go_sem,h1,p3,yn0,yef h2,↓hg4]
    apply hK;exact⟨rfl,rfl,vq1 h1,vq0,vq0,vq0,rfl,_,vr0⟩
  ·intro h16;refine cZ ?_;exact⟨rfl,rfl,vq1 h1,vq0,vq0,vq0,rfl,_,vr0⟩
 clear h1;rintro _ σ2 _ v1 ⟨rfl,rfl,h1,h3,h4,h5,hv1,b6,h6⟩;rw[hv1];clear hv1 v1;refine cZ ?_;refine zaw (Q:=λ e σ' ds' v'=>e= .normal/\ds'=[]/\σ' 1= .pointer (some ⟨w.heap.size,0,.none⟩)/\v'=w1/\∃bb,σ' 68= .bool bb/\(bb=false->(vals.length:Int)=a/\(d.nums.length:Int)=b)) ?_ ?_
 ·by_cases hA:(vals.length:Int)=a
  rotate_left
  ·refine rq ?_;intro gd K hgd hK;have hg5:=gk 5 47 hgd rfl;have hg12:=gk 12 54 hgd rfl;have hg15:=gk 15 57 hgd rfl;have hg23:=gk 23 65 hgd rfl;try simp (disch:=first|omega|assumption|rfl) only[go_sem,h1,h3,h4,h5,h6,p1,p2,p4,yn0,yef hA,yaN,yaS,zcl,↓hg5,↓hg12,↓hg15,↓hg23]
   apply hK;exact⟨rfl,rfl,vq1 h1,rfl,_,vr0,λ h=>by cases h⟩
  by_cases hB:(d.nums.length:Int)=b
  rotate_left
  ·refine rq ?_;intro gd K hgd hK;have hg5:=gk 5 47 hgd rfl;have hg12:=gk 12 54 hgd rfl;have hg15:=gk 15 57 hgd rfl;have hg23:=gk 23 65 hgd rfl;try simp (disch:=first|omega|assumption|rfl) only[go_sem,h1,h3,h4,h5,h6,p1,p2,p4,yn0,yet hA,yef hB,yaN,yaS,zcl,↓hg5,↓hg12,↓hg15,↓hg23]
   apply hK;exact⟨rfl,rfl,vq1 h1,rfl,_,vr0,λ h=>by cases h⟩
  by_cases hC:c>=0
  ·by_cases hD:(d.raw.length:Int)=c
   ·refine rq ?_;intro gd K hgd hK;have hg5:=gk 5 47 hgd rfl;have hg12:=gk 12 54 hgd rfl;have hg15:=gk 15 57 hgd rfl;have hg23:=gk 23 65 hgd rfl;try simp (disch:=first|omega|assumption|rfl) only[go_sem,h1,h3,h4,h5,h6,p1,p2,p4,yn0,yet hA,yet hB,yet hC,yet hD,yaN,yaS,zcl,↓hg5,↓hg12,↓hg15,↓hg23]
    apply hK;exact⟨rfl,rfl,vq1 h1,rfl,_,vr0,λ _=>⟨hA,hB⟩⟩
   ·refine rq ?_;intro gd K hgd hK;have hg5:=gk 5 47 hgd rfl;have hg12:=gk 12 54 hgd rfl;have hg15:=gk 15 57 hgd rfl;have hg23:=gk 23 65 hgd rfl;try simp (disch:=first|omega|assumption|rfl) only[go_sem,h1,h3,h4,h5,h6,p1,p2,p4,yn0,yet hA,yet hB,yet hC,yef hD,yaN,yaS,zcl,↓hg5,↓hg12,↓hg15,↓hg23]
    apply hK;exact⟨rfl,rfl,vq1 h1,rfl,_,vr0,λ h=>by cases h⟩
  ·refine rq ?_;intro gd K hgd hK;have hg5:=gk 5 47 hgd rfl;have hg12:=gk 12 54 hgd rfl;have hg15:=gk 15 57 hgd rfl;have hg23:=gk 23 65 hgd rfl;try simp (disch:=first|omega|assumption|rfl) only[go_sem,h1,h3,h4,h5,h6,p1,p2,p4,yn0,yet hA,yet hB,yef hC,yaN,yaS,zcl,↓hg5,↓hg12,↓hg15,↓hg23]
   apply hK;exact⟨rfl,rfl,vq1 h1,rfl,_,vr0,λ _=>⟨hA,hB⟩⟩
 clear h1 h3 h4 h5 h6;rintro _ σ3 _ v1 ⟨rfl,rfl,h1,hv1,b7,h68,hb7⟩;rw[hv1];clear hv1 v1;refine cZ ?_;refine zaG (t:=b7) ((vq1 h68)) ?_ ?_
 ·intro _;refine gz0 ?_;refine rt0 ntmps145 ?_;exact⟨hE1,2,rfl,λ h=>by cases h⟩
 intro hb;obtain⟨hA,hB⟩:=hb7 hb;have hlead:zhU d.ty->d.names.length=1:=λ h=>by have:=hca h;omega
 refine gz0 ?_;refine zaw (Q:=λ e σ' ds' v'=>ds'=[]/\Ext w1 v'/\((e= .exit 0/\σ' 1= .pointer (some ⟨w.heap.size,0,.none⟩)/\∀n∈d.names,zaC n=0)\/(e= .ret/\∃e2:Int,e2≠0/\σ' 2=vi e2))) ?_ ?_
 ·refine zan (λ m σ ds A=>ds=[]/\∃(i:Nat),i+m=vals.length/\σ 7=vi i/\σ 1= .pointer (some ⟨w.heap.size,0,.none⟩)/\Ext w1 A/\∀j (h:j<d.names.length),j<i->zaC d.names[j]=0) vals.length ?_ ?_
  ·exact⟨rfl,0,oM,vr0,vq1 h1,Keep.refl _ _,λ j h hj=>absurd hj oM⟩
  clear h1;rintro m σ ds A ⟨rfl,i,him,h7,h1,hEA,hlow⟩;obtain⟨q1,q3,q0,q2,q4⟩:=rd hEA;refine gz (az4 h7 h1 q1 yn0) ?_;refine wc0 ?_ ?_
  ·intro hlt;simp only[ydT]at hlt;have hi:i<vals.length:=oM;have hi0:=cj i;have hi1:(i:Int)<(vals.length:Int):=oM;have hi1':=ci i;have hgi:=hgn i hi;obtain⟨xN,rfl⟩:=yxs (zaf hgi);have hgi':=zaa (hE0.trans (hE1.trans hEA)) hgi;have hrow:=hvr i hi oM;obtain⟨n,hn⟩:∃n,d.names[i]'(oM)=n:=⟨_,rfl⟩;rw[hn]at hrow;have hnf:=hf.names n (hn▸yac _);obtain⟨hv,hhv⟩:∃hv,vals[i]=hv:=⟨_,rfl⟩;rw[hhv]at hgi' hrow;refine rqz ?_;intro gd K hgd hK;refine sgz (az7 h7 h1 q1 yn0 hi0 hi1 hgi') ?_;refine yfm (zbv A hv n (hrow.ext (hE0.trans (hE1.trans hEA))) hnf.1 hnf.2) ?_;rintro _ A2 ⟨rfl,hA2⟩;refine sg0 ?_;apply hK;refine gz0 ?_;by_cases h0:zaC n=0
   ·rw[h0];refine zaG (t:=false) vr0 (λ h=>by cases h) ?_;intro _;refine gz (az2 h7 hi1') ?_;refine⟨m - 1,oM,rfl,i+1,oM,vq0,vq1 h1,hEA.trans hA2,λ j hj hji=>?_⟩;by_cases hj2:j=i
    ·subst hj2;rw[hn];exact h0
    ·exact hlow j hj oM
   ·refine zaG (t:=!decide (zaC n=0)) vr0 ?_ (λ h=>by rw[yef h0]at h;cases h);intro _;refine gz0 ?_;exact⟨rfl,hEA.trans hA2,.inr ⟨rfl,zaC n,h0,vq0⟩⟩
  ·intro hge;simp only[ydF]at hge;refine cZ ?_;refine⟨rfl,hEA,.inl ⟨rfl,vq1 h1,λ n hn=>?_⟩⟩;obtain⟨j,hj,rfl⟩:=yaG hn;exact hlow j hj oM
 clear h1;rintro e σ4 _ A ⟨rfl,hEA,⟨rfl,h1,hall⟩| ⟨rfl,e2,he2,h2⟩⟩
 rotate_left
 ·refine cZ ?_;refine rt1 h2 ntmps145 ?_;exact⟨hE1.trans hEA,e2,rfl,λ h=>absurd h he2⟩
 have fin:∀e:Int,e=0->(∀n∈d.names,zaC n=0)/\(zhU d.ty->d.names.length=1):=λ e _=>⟨hall,hlead⟩;obtain⟨q1,q3,q0,q2,q4⟩:=rd hEA;refine cZ ?_;have hvl0:(d.names.length:Int)=a:=oM;refine zaw (Q:=λ e σ' ds' v'=>e= .normal/\ds'=[]/\σ' 1= .pointer (some ⟨w.heap.size,0,.none⟩)/\v'=A/\∃bb,σ' 94= .bool bb) ?_ ?_
 ·by_cases h15:d.ty=15
  ·have hb1:=hcb h15;have hnu1:(0:Int)<(d.nums.length:Int):=oM;have hz0:(0:Int)<=0:=oM;have hg0:=hgu 0 oM;obtain⟨xU,rfl⟩:=yxs (zaf hg0);rw[zar]at hg0;have hg0':=zaa (hE0.trans (hE1.trans hEA)) hg0;rw[yaA]at hg0';refine rq ?_;intro gd K hgd hK;have hg3:=gk 3 88 hgd rfl;try simp (disch:=first|omega|assumption|rfl) only[go_sem,h1,q0,q2,yad,yn0,yet h15,hnu1,hz0,hg0',ybj,zar,ybc,↓hg3]
   apply hK;exact⟨rfl,rfl,vq1 h1,rfl,_,vr0⟩
  ·refine rq ?_;intro gd K hgd hK;have hg3:=gk 3 88 hgd rfl;try simp (disch:=first|omega|assumption|rfl) only[go_sem,h1,q0,yad,yef h15,↓hg3]
   apply hK;exact⟨rfl,rfl,vq1 h1,rfl,_,vr0⟩
 clear h1;rintro _ σ5 _ v1 ⟨rfl,rfl,h1,hv1,b94,h94⟩;rw[hv1];clear hv1 v1;refine cZ ?_;refine zaG (t:=b94) ((vq1 h94)) ?_ ?_
 ·intro _;refine gz0 ?_;refine rt0 ntmps145 ?_;exact⟨hE1.trans hEA,7,rfl,λ h=>by cases h⟩
 intro _;refine gz0 ?_;refine zaw (Q:=λ e σ' ds' v'=>ds'=[]/\v'=A/\((e= .exit 2/\σ' 1= .pointer (some ⟨w.heap.size,0,.none⟩))\/(e= .ret/\σ' 2=vi 3))) ?_ ?_
 ·refine zan (λ m σ ds B=>ds=[]/\∃(i:Nat),i+m=d.texts.length/\σ 9=vi i/\σ 1= .pointer (some ⟨w.heap.size,0,.none⟩)/\B=A) d.texts.length ?_ ?_
  ·exact⟨rfl,0,oM,vr0,vq1 h1,rfl⟩
  clear h1;rintro m σ ds B ⟨rfl,i,him,h9,h1,hB2⟩;rw[hB2];clear hB2 B;refine gz (az4 h9 h1 q3 yn0) ?_;refine wc0 ?_ ?_
  ·intro hlt;simp only[ydT]at hlt;have hi:i<d.texts.length:=oM;have hi0:=cj i;have hi1:(i:Int)<(d.texts.length:Int):=oM;have hi1':=ci i;have hgi:=hgt i hi;obtain⟨xT,rfl⟩:=yxs (zaf hgi);have hgi':=zaa (hE0.trans (hE1.trans hEA)) hgi;rw[yaA]at hgi';have htl:=hf.tl _ (yac hi);refine gz (az7 h9 h1 q3 yn0 hi0 hi1 hgi') ?_;refine wc0 ?_ ?_
   ·intro hgt2;refine gz0 ?_;exact⟨rfl,rfl,.inr ⟨rfl,vq0⟩⟩
   ·intro hgt2;refine gz (az2 h9 hi1') ?_;exact⟨m - 1,oM,rfl,i+1,oM,vq0,vq1 h1,rfl⟩
  ·intro hge;refine cZ ?_;exact⟨rfl,rfl,.inl ⟨rfl,vq1 h1⟩⟩
 clear h1;rintro e σ6 _ v1 ⟨rfl,hv1,⟨rfl,h1⟩| ⟨rfl,h2⟩⟩
 rotate_left
 ·rw[hv1];refine cZ ?_;refine rt1 h2 ntmps145 ?_;exact⟨hE1.trans hEA,3,rfl,λ h=>by cases h⟩
 rw[hv1];clear hv1 v1;refine gz (az3 h1 q4 yn0) ?_;refine wc0 ?_ ?_
 ·intro _;refine gz0 ?_;refine rt0 ntmps145 ?_;exact⟨hE1.trans hEA,3,rfl,λ h=>by cases h⟩
 intro _;refine gz0 ?_;refine rt0 ntmps145 ?_;exact⟨hE1.trans hEA,0,rfl,fin 0⟩
structure DatX(w0:World)(B:Nat)(A:World)(nm:Value)(cs:List Value)(d:DatL):Prop where
 ex:∃nu tx rw vals,cs=[vi d.ty,nm,nu,tx,rw]/\Row A nm vals/\vals.length=d.names.length/\(∀i (h:i<vals.length) (h':i<d.names.length),Row w0 vals[i] (d.names[i].map vs))/\Row w0 nu (d.nums.map v32)/\Row w0 tx (d.texts.map vs)/\Row w0 rw (d.raw.map zae)
 blk:BlkB B A nm
theorem DatX.at{nm:Value}{d:DatL}(h:DatX w0 B A nm cs d)(hE:Ext w0 A):DatAt A cs d:=by
 obtain⟨nu,tx,rw,vals,e,h1,h2,h3,h4,h5,h6⟩:=h.ex;exact⟨nm,nu,tx,rw,e,⟨vals,h1,h2,λ i a b=>(h3 i a b).ext hE⟩,h4.ext hE,h5.ext hE,h6.ext hE⟩
theorem DatX.keep{nm:Value}{d:DatL}(h:DatX w0 B A nm cs d)(hk:Keep S A x)(hS:∀a n c,nm= .slice (some a) n c->¬S a.block):DatX w0 B x nm cs d:=by
 obtain⟨nu,tx,rw,vals,e,h1,h2,h3,h4,h5,h6⟩:=h.ex;exact⟨⟨nu,tx,rw,vals,e,h1.blocks λ a n c hv=>hk.block _ (h.blk a n c hv).2 (hS a n c hv),h2,h3,h4,h5,h6⟩,h.blk.ext hk.size⟩
theorem DatX.mono{B':Nat}{nm:Value}{d:DatL}(h:DatX w0 B A nm cs d)(hB:B'<=B):DatX w0 B' A nm cs d:=⟨h.ex,h.blk.mono hB⟩
theorem DOf_ok(hE0:Ext w0 w){d:DatL}(hd:DatAt w0 cs d)(hnn:d.names.length<=1000000000):
  Fn prog 104 #[.agg cs.toArray] w (λ v w'=>Ext w w'/\∃cs' nm,v= .agg cs'.toArray/\DatX w0 w.heap.size w' nm cs' d):=by
 obtain⟨nm,nu,tx,rw',rfl,⟨vals,⟨an,cn,rfl,hcn,hgn⟩,hvl,hvr⟩,hnu,htx,hrw⟩:=hd.ex;obtain⟨au,cu,rfl,_⟩:=id hnu;obtain⟨at1,ct,rfl,_⟩:=id htx;obtain⟨ar,cr,rfl,_⟩:=id hrw;refine enx func104 ntmps104 ?_;refine gz0 ?_;rw[zai];refine zaQ ?_;intro w1 hE1 hs1 hA hC;have p0:zad w1 (some ⟨w.heap.size,0,.none⟩)=some (vi d.ty):=zab hA rfl;have p1:zad w1 (some ⟨w.heap.size,1,.none⟩)=some (.slice an vals.length cn):=zab hA rfl;have p2:zad w1 (some ⟨w.heap.size,2,.none⟩)=some (.slice au (d.nums.map v32).length cu):=zab hA rfl;have p3:zad w1 (some ⟨w.heap.size,3,.none⟩)=some (.slice at1 (d.texts.map vs).length ct):=zab hA rfl;have p4:zad w1 (some ⟨w.heap.size,4,.none⟩)=some (.slice ar (d.raw.map zae).length cr):=zab hA rfl;refine rq ?_;intro gd K hgd hK;refine sgz (az6 p0 p2 p3 p4 yad yn0) ?_;refine⟨by kernel_rfl,?_⟩;rw[show bdV prog 164 [(0,vi d.ty),(2,.slice au (d.nums.map v32).length cu),(3,.slice at1 (d.texts.map vs).length ct),(4,.slice ar (d.raw.map zae).length cr)]=some (.agg #[vi d.ty,.slice .none 0 0,.slice au (d.nums.map v32).length cu,.slice at1 (d.texts.map vs).length ct,.slice ar (d.raw.map zae).length cr]) from by kernel_rfl];try simp only[go_sem]
 have hB3:=zam w1 (.cells #[vi 0,.slice .none 0 0,.slice .none 0 0,.slice .none 0 0,.slice .none 0 0] 164 (0,0));have hE4:=yea w1 (.cells #[vi 0,.slice .none 0 0,.slice .none 0 0,.slice .none 0 0,.slice .none 0 0] 164 (0,0));have hs4:=zai w1 (.cells #[vi 0,.slice .none 0 0,.slice .none 0 0,.slice .none 0 0,.slice .none 0 0] 164 (0,0));revert hB3 hE4 hs4;generalize w1.alloc (.cells #[vi 0,.slice .none 0 0,.slice .none 0 0,.slice .none 0 0,.slice .none 0 0] 164 (0,0))=w2;intro hB3 hE4 hs4;refine zaL (P:=prog) (t:=164) (l:=[vi d.ty,.slice .none 0 0,.slice au (d.nums.map v32).length cu,.slice at1 (d.texts.map vs).length ct,.slice ar (d.raw.map zae).length cr]) hB3 rfl (λ v h=>by simp at h;rcases h with rfl|rfl|rfl|rfl|rfl<;>rfl) rfl rfl ?_;intro w3 hs5 hB5 hk5;try simp only[go_sem]
 apply hK;have hE13:Ext w1 w3:=ykt hE4 rfl (λ b hb=>oM) hk5;obtain⟨b3,hb3⟩:∃b3,w1.heap.size=b3:=⟨_,rfl⟩;rw[hb3]at hB5;have hs3:w3.heap.size=b3+1:=oM;refine gz0 ?_;rw[hb3];refine zan (λ m σ ds A=>ds=[]/\∃(i:Nat) (nv:Value),i+m=vals.length/\σ 4=vi i/\σ 1= .pointer (some ⟨w.heap.size,0,.none⟩)/\σ 2= .pointer (some ⟨w.heap.size+1,0,.none⟩)/\σ 3= .pointer (some ⟨b3,0,.none⟩)/\A.heap[b3]? =some (.cells [vi d.ty,nv,.slice au (d.nums.map v32).length cu,.slice at1 (d.texts.map vs).length ct,.slice ar (d.raw.map zae).length cr].toArray 164 (0,0))/\Own w3.heap.size A 26 nv (vals.take i)/\Ext w1 A/\w3.heap.size<=A.heap.size) vals.length ?_ ?_
 ·exact⟨rfl,0,.slice .none 0 0,oM,vr0,vq0,vq0,vq0,hB5,Own.nil _ _ _,hE13,ynl _⟩
 rintro m σ ds A ⟨rfl,i,nv,him,h4,h1,h2,h3,hb,hown,hEA,hsA⟩;have q1:=zaa hEA p1;have s1:=hE1.size;refine gz (az4 h4 h1 q1 yn0) ?_;refine wc0 ?_ ?_
 ·intro hlt;simp only[ydT]at hlt;have hi:i<vals.length:=oM;have hi0:=cj i;have hi1:(i:Int)<(vals.length:Int):=oM;have hi1':=ci i;have hgi:=hgn i hi;obtain⟨xN,rfl⟩:=yxs (zaf hgi);obtain⟨xi,hxi⟩:∃xi,adr (some xN) i=some xi:=⟨_,rfl⟩;rw[hxi]at hgi;have hgA:=zaa (hE0.trans (hE1.trans hEA)) hgi;have hxb:xi.block<w3.heap.size:=by
   have:=zc9 (show w0.cell? xi=some _ from hgi);have:=(hE0.trans (hE1.trans hE13)).size;omega
  have hrow:=hvr i hi oM;obtain⟨hv,hhv⟩:∃hv,vals[i]=hv:=⟨_,rfl⟩;rw[hhv]at hgA hrow;obtain⟨ha,hc,hve,_⟩:=id hrow;have hone:one hv=true:=by rw[hve];rfl
  have htk:vals.take (i+1)=vals.take i++ [hv]:=by rw[zal hi,hhv]
  have hnv:zad A (some ⟨b3,1,.none⟩)=some nv:=zdc hb rfl;have hvals:(vals.take i).length<=1000000000:=by rw[yaQ];omega
  repeat refine c_r ?_
  refine zaF (λ i=>i==10) [(0,true),(1,true),(2,true),(3,true),(4,true),(5,true),(6,true),(7,false),(8,false),(9,true),(10,false)] (zda w3.heap.size) mixed kR ?_;intro gd K x hgd hx hxe hK;have hx0:=zgH hxe;clear hxe;have hgx:=zaa hx0 hgA;have hnx:=zaa hx0 hnv;have q1x:=zaa hx0 q1;have hxs:=hx.size;refine sgz (az2 (az7 h4 h1 h3 q1x hgx hnx hi0) (az4 hi1 hxi yn0 ybt)) ?_;refine⟨zdA oM,zdA oM,zgs hxb,?_⟩;refine zc3 (z:= .slice .none 0 0) (v:=hv) (by rfl) (by rfl) (by rfl) (by rfl) (by rw[hve];rfl) ?_;intro w5 hE5 hs5 ho5;refine⟨.inr hE5.keep,?_⟩;refine sg0 ?_;have hx5:=hx0.trans hE5;have hx5s:=hx5.size;refine zb0 (hown.ext hx5) ho5.row rfl rfl rfl rfl rfl rfl vr0 vr0 (λ q hq=>by rw[yae.1 hq];exact hone) (by rw[ybw];omega) (by decide) oM ?_;intro v7 w7 ho7 hE7 hk7 hb7;refine⟨.inr (hk7.mono λ b _ hb=>by have:=(hown.ge hb).1;show _<=_;omega),?_⟩;refine sgz h3 ?_;have hk7s:=hk7.size;obtain⟨a7,c7,hv7⟩:=ho7.slice;have hb3w:w7.heap[b3]? =some (.cells [vi d.ty,nv,.slice au (d.nums.map v32).length cu,.slice at1 (d.texts.map vs).length ct,.slice ar (d.raw.map zae).length cr].toArray 164 (0,0)):=(hk7.block b3 oM (λ h=>by have:=(hown.ge h).1;omega)).trans (Ext.at hx5 hb);refine za6 (P:=prog) (t:=80) (j:=1) (l:=[vi d.ty,nv,.slice au (d.nums.map v32).length cu,.slice at1 (d.texts.map vs).length ct,.slice ar (d.raw.map zae).length cr]) hb3w (by simp) (by rw[hv7];rfl) rfl rfl ?_;intro z hz' hbz hkz
  refine⟨.inl rfl,?_⟩;refine sg0 ?_;apply hK;have hEz:Ext w1 z:=ykt (hE7 w1 (hEA.trans hx5) oM) rfl (λ b hb=>oM) hkz;refine gz (az2 h4 hi1') ?_;exact⟨m - 1,oM,rfl,i+1,v7,oM,vq0,vq1 h1,vq1 h2,vq1 h3,hbz,by rw[htk];exact ho7.keep hkz (λ b hb h=>by have:=(ho7.ge hb).1;omega),hEz,oM⟩
 ·intro hge;simp only[ydF]at hge;have hi:i=vals.length:=oM;rw[hi,yaT]at hown;obtain⟨na,nc,hnv⟩:=hown.slice;refine rqz ?_;intro gd K hgd hK;have d5:=zah (n:=5) hb rfl;refine sgz (az3 h3 h2 d5) ?_;refine zaL (P:=prog) (t:=164) (l:=[vi d.ty,nv,.slice au (d.nums.map v32).length cu,.slice at1 (d.texts.map vs).length ct,.slice ar (d.raw.map zae).length cr]) (Ext.at hEA hC) rfl (λ v h=>by
   simp at h;rcases h with rfl|rfl|rfl|rfl|rfl
   ·rfl
   ·rw[hnv];rfl
   ·rfl
   ·rfl
   ·rfl) rfl rfl ?_
  intro z hz' hbz hkz;try simp only[go_sem]
  refine en hK ?_;refine zau (.inr rfl) ntmps104 rfl (za0 (x:=⟨w.heap.size+1,0,.none⟩) (k:=5) ((vq1 h2)) rfl rfl (zah hbz rfl) zas) ?_;have hEz:Ext w z:=ykt (hE1.trans hEA) rfl (λ b hb=>oM) hkz;have hownz:=hown.keep hkz (λ b hb h=>by have:=(hown.ge hb).1;omega);refine⟨hEz,_,nv,rfl,⟨⟨_,_,_,vals,rfl,hownz.row,hvl,hvr,hnu,htx,hrw⟩,λ a n c hv=>?_⟩⟩;have:=hownz.ge (b:=a.block) (by rw[hv];rfl);omega
theorem DatAt.open{w:World}{cs:List Value}{d:DatL}(h:DatAt w cs d):∃a1 n1 c1 a2 n2 c2 a3 n3 c3 a4 n4 c4,cs=[vi d.ty,.slice a1 n1 c1,.slice a2 n2 c2,.slice a3 n3 c3,.slice a4 n4 c4]:=by
 obtain⟨nm,nu,tx,rw',rfl,⟨vals,⟨an,cn,rfl,_⟩,_⟩,⟨au,cu,rfl,_⟩,⟨at1,ct,rfl,_⟩,⟨ar,cr,rfl,_⟩⟩:=h.ex;exact⟨_,_,_,_,_,_,_,_,_,_,_,_,rfl⟩
theorem DatX.open{nm:Value}{d:DatL}(h:DatX w0 B A nm cs d):∃a1 n1 c1 a2 n2 c2 a3 n3 c3 a4 n4 c4,cs=[vi d.ty,.slice a1 n1 c1,.slice a2 n2 c2,.slice a3 n3 c3,.slice a4 n4 c4]:=by
 obtain⟨nu,tx,rw,vals,e,⟨a1,c1,rfl,_⟩,h2,h3,⟨a4,c4,rfl,_⟩,⟨a5,c5,rfl,_⟩,⟨a6,c6,rfl,_⟩⟩:=h.ex;exact⟨_,_,_,_,_,_,_,_,_,_,_,_,e⟩
structure RecX(w0:World)(B:Nat)(A:World)(nm:Value)(cs:List Value)(r:RecL):Prop where
 ex:∃ow ds,cs=ow::v32 r.ttl::ds/\Row w0 ow (r.owner.map vs)/\DatX w0 B A nm ds r.dat
theorem RecX.at{nm:Value}{r:RecL}(h:RecX w0 B A nm cs r)(hE:Ext w0 A):RecAt A cs r:=by
 obtain⟨ow,ds,e,h1,h2⟩:=h.ex;exact⟨ow,ds,e,h1.ext hE,h2.at hE⟩
theorem RecX.keep{nm:Value}{r:RecL}(h:RecX w0 B A nm cs r)(hk:Keep S A x)(hS:∀a n c,nm= .slice (some a) n c->¬S a.block):RecX w0 B x nm cs r:=by
 obtain⟨ow,ds,e,h1,h2⟩:=h.ex;exact⟨ow,ds,e,h1,h2.keep hk hS⟩
theorem RecX.mono{B':Nat}{nm:Value}{r:RecL}(h:RecX w0 B A nm cs r)(hB:B'<=B):RecX w0 B' A nm cs r:=by
 obtain⟨ow,ds,e,h1,h2⟩:=h.ex;exact⟨ow,ds,e,h1,h2.mono hB⟩
theorem RecX.blk{nm:Value}{r:RecL}(h:RecX w0 B A nm cs r):BlkB B A nm:=by
 obtain⟨ow,ds,e,h1,h2⟩:=h.ex;exact h2.blk
theorem RecX.cells{nm:Value}{r:RecL}(h:RecX w0 B A nm cs r):cs.length=7/\∀q∈cs,one q=true:=by
 obtain⟨ow,ds,e,⟨a,c,rfl,_⟩,h2⟩:=h.ex;obtain⟨b1,m1,e1,b2,m2,e2,b3,m3,e3,b4,m4,e4,hds⟩:=h2.open;rw[e,hds];refine⟨rfl,λ q hq=>?_⟩;simp at hq;rcases hq with rfl|rfl|rfl|rfl|rfl|rfl|rfl<;>rfl
theorem zob(hE0:Ext w0 w){r:RecL}(hr:RecAt w0 cs r)(hnn:r.dat.names.length<=1000000000):
  Fn prog 68 #[.agg cs.toArray] w (λ v w'=>Ext w w'/\∃cs' nm,v= .agg cs'.toArray/\RecX w0 w.heap.size w' nm cs' r):=by
 obtain⟨ow,ds,rfl,h1,h2⟩:=hr.ex;obtain⟨oa,oc,how,_⟩:=id h1;obtain⟨on,hon⟩:∃on,(r.owner.map vs).length=on:=⟨_,rfl⟩;rw[hon]at how;obtain⟨b1,m1,e1,b2,m2,e2,b3,m3,e3,b4,m4,e4,hds⟩:=h2.open;rw[hds,how];refine enx func68 ntmps68 ?_;refine gz0 ?_;rw[zai];refine zaQ ?_;intro w1 hE1 hs1 hA hC;have p0:zad w1 (some ⟨w.heap.size,0,.none⟩)=some (.slice oa on oc):=zab hA rfl;have p1:zad w1 (some ⟨w.heap.size,1,.none⟩)=some (v32 r.ttl):=zab hA rfl;have p2:zat w1 (some ⟨w.heap.size,2,.none⟩) 5=some [vi r.dat.ty,.slice b1 m1 e1,.slice b2 m2 e2,.slice b3 m3 e3,.slice b4 m4 e4]:=by
  have h7:=zah (n:=7) (l:=[.slice oa on oc,v32 r.ttl,vi r.dat.ty,.slice b1 m1 e1,.slice b2 m2 e2,.slice b3 m3 e3,.slice b4 m4 e4]) hA rfl;have:=zaZ (m:=2) (k:=5) h7
  rwa [zaY]at this
 refine zaF (λ i=>i==8) [(0,true),(1,true),(2,true),(3,true),(4,true),(5,true),(6,false),(7,true),(8,false)] NoS mixed kR ?_;intro gd K x hgd hx hxe hK;clear hxe;have p0x:=zaa hx p0;have p1x:=zaa hx p1;have p2x:=zac hx p2;have hxs:=hx.size;refine sgz (az5 p0x p1x p2x yad yn0) ?_;rw[←hds];refine yfm (DOf_ok (hE0.trans (hE1.trans hx)) h2 hnn) ?_;rintro _ w2 ⟨hE2,cs',nm',rfl,hd'⟩;refine⟨.inr hE2,?_⟩;obtain⟨b1',m1',e1',b2',m2',e2',b3',m3',e3',b4',m4',e4',hds'⟩:=hd'.open;rw[hds'];refine sgz (az5 p0x p1x p2x yad yn0) ?_;refine⟨by kernel_rfl,?_⟩;rw[show bdV prog 166 [(0,.slice oa on oc),(1,v32 r.ttl),(2,.agg [vi r.dat.ty,.slice b1' m1' e1',.slice b2' m2' e2',.slice b3' m3' e3',.slice b4' m4' e4'].toArray)]=some (.agg #[.slice oa on oc,v32 r.ttl,vi r.dat.ty,.slice b1' m1' e1',.slice b2' m2' e2',.slice b3' m3' e3',.slice b4' m4' e4']) from by kernel_rfl];refine sg0 ?_;refine zaL (P:=prog) (t:=166) (l:=[.slice oa on oc,v32 r.ttl,vi r.dat.ty,.slice b1' m1' e1',.slice b2' m2' e2',.slice b3' m3' e3',.slice b4' m4' e4']) (Ext.at (hx.trans hE2) hC) rfl (λ v h=>by simp at h;rcases h with rfl|rfl|rfl|rfl|rfl|rfl|rfl<;>rfl) rfl rfl ?_;intro z hz' hbz hkz;refine⟨.inl rfl,?_⟩;refine sg0 ?_;refine en hK ?_;refine zau (.inr rfl) ntmps68 rfl (za0 (x:=⟨w.heap.size+1,0,.none⟩) (k:=7) vq0 rfl rfl (zah hbz rfl) zas) ?_;have hEz:Ext w z:=ykt (hE1.trans (hx.trans hE2)) rfl (λ b hb=>oM) hkz;refine⟨hEz,_,nm',rfl,⟨ow,cs',?_,h1,?_⟩⟩
 ·rw[how,hds']
 ·exact(hd'.keep hkz (λ a n c hv=>by have:=hd'.blk a n c hv;omega)).mono oM
abbrev OX:=RecL×(Value×List Value)
def oxC(cs:List Value)(x:OX):Prop:=cs=x.2.2/\cs.length=7/\∀q∈cs,one q=true
theorem zky:zdD 7 oxC:=⟨λ h=>h.2.1,λ h=>h.2.2⟩
structure OI(w0:World)(B:Nat)(A:World)(ov:Value)(G:List OX):Prop where
 own:Owns 7 oxC B A 166 ov G
 row:∀x∈G,RecX w0 B A x.2.1 x.2.2 x.1/\∀a n c,x.2.1= .slice (some a) n c->some a.block≠ov.ownBlock
theorem OI.ext{A':World}{ov:Value}{G:List OX}(h:OI w0 B A ov G)(hE:Ext A A'):OI w0 B A' ov G:=
 ⟨h.own.ext hE,λ x hx=>by
  obtain⟨h1,h2⟩:=h.row x hx;exact⟨h1.keep hE (λ a n c hv h=>h),h2⟩⟩
theorem OI.app{A':World}{ov v':Value}{G:List OX}{s:OX}(h:OI w0 B A ov G)(hs:RecX w0 B A s.2.1 s.2.2 s.1/\∀a n c,s.2.1= .slice (some a) n c->some a.block≠ov.ownBlock)
  (ho:Owns 7 oxC B A' 166 v' (G++ [s])) (hk:Keep (λ b=>some b=ov.ownBlock) A A') (hb:∀b,some b=v'.ownBlock->some b=ov.ownBlock\/A.heap.size<=b):OI w0 B A' v' (G++ [s]):=by
 refine⟨ho,λ y hy=>?_⟩;have hy2:RecX w0 B A y.2.1 y.2.2 y.1/\∀a n c,y.2.1= .slice (some a) n c->some a.block≠ov.ownBlock:=by
  rcases yai.1 hy with hy|hy
  ·exact h.row y hy
  ·rw[yae.1 hy];exact hs
 obtain⟨h1,h2⟩:=hy2;refine⟨h1.keep hk h2,λ a n c hv e=>?_⟩;rcases hb _ e with e|e
 ·exact h2 a n c hv e
 ·have:=(h1.blk a n c hv).2;omega
theorem zjp(hE0:Ext w0 w){R:List RecL}(hl:Rows 7 (RecAt w0) w lv R)(hnn:∀r∈R,r.dat.names.length<=1000000000)(hlen:R.length<=1000000000):
  Fn prog 38 #[lv] w (λ v w'=>Ext w w'/\∃G:List OX,OI w0 w.heap.size w' v G/\G.map Prod.fst=R):=by
 obtain⟨aR,cR,rfl,hcR,hgR⟩:=hl.open;refine enx func38 ntmps38 ?_;refine gz0 ?_;refine zan (λ m σ ds A=>ds=[]/\∃(i:Nat) (ov:Value) (G:List OX),i+m=R.length/\σ 4=vi i/\σ 3=ov/\σ 0= .slice aR R.length cR/\Ext w A/\OI w0 w.heap.size A ov G/\G.map Prod.fst=R.take i) R.length ?_ ?_
 ·exact⟨rfl,0,.slice .none 0 0,[],oM,vr0,vq0,vq0,Keep.refl _ _,⟨Owns.nil _ _ _ _ _,λ x h=>absurd h sM⟩,rfl⟩
 rintro m σ ds A ⟨rfl,i,ov,G,him,h4,h3,h0,hEA,hOI,hG⟩;refine gz (az2 h4 h0) ?_;refine wc0 ?_ ?_
 ·intro hlt;simp only[ydT]at hlt;have hi:i<R.length:=oM;have hi0:=cj i;have hi1:(i:Int)<(R.length:Int):=oM;have hi1':=ci i;have hGl:G.length=i:=by
   have:=congrArg List.length hG;simp at this;omega
  obtain⟨cr,hcr,hRr⟩:=hgR i hi;obtain⟨r,hr⟩:∃r,R[i]=r:=⟨_,rfl⟩;rw[hr]at hRr;have hrn:=hnn r (hr▸yac hi);obtain⟨xR,rfl⟩:=yxs (zak hcr);obtain⟨xi,hxi⟩:∃xi,adr (some xR) (i*7)=some xi:=⟨_,rfl⟩;rw[hxi]at hcr;have hcA:=zac hEA hcr;refine rqz ?_;intro gd K hgd hK;refine sgz (az7 h3 h0 h4 hi0 hi1 hxi hcA) ?_;refine yfm (zob (hE0.trans hEA) hRr hrn) ?_;rintro _ A2 ⟨hA2,cs',nm',rfl,hx⟩;have hA2s:=hA2.size;have hEAs:=hEA.size;refine sg0 ?_;refine za4 (l:=cs') (a:=((r,(nm',cs')):OX)) zky rfl rfl rfl rfl ⟨rfl,hx.cells.1,hx.cells.2⟩ (by decide) ?_;intro A3 hA3 hs3 ho3;refine sgz h3 ?_;refine zaR zky ((hOI.ext hA2).ext hA3).own ho3.rows rfl rfl rfl rfl rfl rfl (by decide) vr0 vr0 (by simp;omega) (by decide) oM ?_;intro v7 A4 ho7 hE7 hk7 hb7;refine sg0 ?_;apply hK;have hnew:=((hOI.ext hA2).ext hA3).app (s:=((r,(nm',cs')):OX)) ⟨(hx.keep hA3 (λ a n c hv h=>h)).mono hEAs,λ a n c hv e=>by
   have h8:=(hx.blk a n c hv).1;have h9:=(hOI.own.ge e).2;omega⟩ ho7 hk7 hb7
  refine gz (az2 h4 hi1') ?_;exact⟨m - 1,oM,rfl,i+1,v7,_,oM,vq0,vq0,vq1 h0,hE7 w ((hEA.trans hA2).trans hA3) (ynl _),hnew,by rw[yaC,hG,zal hi,hr];rfl⟩
 ·intro hge;simp only[ydF]at hge;have hi:i=R.length:=oM;rw[hi,yaT]at hG;refine gz h3 ?_;refine rt0 ntmps38 ?_;exact⟨hEA,G,hOI,hG⟩
theorem OI.rows{ov:Value}{G:List OX}(h:OI w0 B A ov G)(hE:Ext w0 A):Rows 7 (RecAt A) A ov (G.map Prod.fst):=
 h.own.rows.mapM (C':=RecAt A) Prod.fst λ cs x hx hc=>by
  rw[hc.1];exact(h.row x hx).1.at hE
theorem zla(hE0:Ext w0 w){R:List RecL}(hl:Rows 7 (RecAt w0) w lv R)(hnn:∀r∈R,r.dat.names.length<=1000000000)(hlen:R.length<=1000000000):
  Fn prog 38 #[lv] w (λ v w'=>Ext w w'/\Rows 7 (RecAt w') w' v R):=by
 refine yfm (zjp hE0 hl hnn hlen) ?_;rintro v w' ⟨hE,G,hOI,rfl⟩;exact⟨hE,hOI.rows (hE0.trans hE)⟩
theorem zjo(hE0:Ext w0 w){r:RecL}(hr:RecAt w0 cs r)(hf:DatF r.dat)(ho:(∀l∈r.owner,l.length<=1000000000)/\r.owner.length<=1000000000):
  Fn prog 103 #[.agg cs.toArray] w (λ v w'=>Ext w w'/\∃e:Int,v=vi e/\(e=0->zaC r.owner=0/\(∀n∈r.dat.names,zaC n=0)/\(zhU r.dat.ty->r.dat.names.length=1))):=by
 obtain⟨ow,ds,rfl,h1,h2⟩:=hr.ex;obtain⟨b1,m1,e1,b2,m2,e2,b3,m3,e3,b4,m4,e4,hds⟩:=h2.open;rw[hds];refine enx func103 ntmps103 ?_;refine gz0 ?_;refine zav ?_;intro w1 hE1 hs1 hA;have p0:zad w1 (some ⟨w.heap.size,0,.none⟩)=some ow:=zab hA rfl;have p1:zad w1 (some ⟨w.heap.size,1,.none⟩)=some (v32 r.ttl):=zab hA rfl;have p2:zat w1 (some ⟨w.heap.size,2,.none⟩) 5=some ds:=by
  have h7:=zah (n:=7) (l:=[ow,v32 r.ttl,vi r.dat.ty,.slice b1 m1 e1,.slice b2 m2 e2,.slice b3 m3 e3,.slice b4 m4 e4]) hA rfl;have:=zaZ (m:=2) (k:=5) h7;rw[zaY]at this;rw[hds];exact this
 refine rq ?_;intro gd K hgd hK;refine sgz (az2 p0 yad) ?_;refine yfm (zbv w1 ow r.owner (h1.ext (hE0.trans hE1)) ho.1 ho.2) ?_;rintro _ w2 ⟨rfl,hE2⟩;refine sg0 ?_;apply hK;have hE12:=hE1.trans hE2;have p1':=zaa hE2 p1;have p2':=zac hE2 p2;refine gz0 ?_;by_cases h0:zaC r.owner=0
 rotate_left
 ·refine zaG (t:=!decide (zaC r.owner=0)) vr0 ?_ (λ h=>by rw[yef h0]at h;cases h);intro _;refine gz0 ?_;refine rt0 ntmps103 ?_;exact⟨hE12,_,rfl,λ h=>absurd h h0⟩
 refine zaG (t:=!decide (zaC r.owner=0)) vr0 (λ h=>by rw[yet h0]at h;cases h) ?_;intro _;refine gz (az2 p1' yn0) ?_;refine wc0 ?_ ?_
 ·intro _;refine gz0 ?_;refine rt0 ntmps103 ?_;exact⟨hE12,7,rfl,λ h=>by cases h⟩
 intro _;refine rqz ?_;intro gd K hgd hK;refine sgz (az2 p2' yn0) ?_;refine yfm (zij (hE0.trans hE12) h2 hf) ?_;rintro _ w3 ⟨hE3,e,rfl,he⟩;refine sg0 ?_;refine en hK ?_;refine rt0 ntmps103 ?_;exact⟨hE12.trans hE3,e,rfl,λ h=>⟨h0,he h⟩⟩
theorem few_f(h:few n=true):(∀l∈n,l.length<=1000000000)/\n.length<=1000000000:=by
 simp only[few,yaB,ybg,ydT]at h;exact⟨λ l hl=>by have:=h.2 l hl;omega,oM⟩
theorem DFew_ok(hE0:Ext w0 w){d:DatL}(hd:DatAt w0 cs d):
  Fn prog 144 #[.agg cs.toArray] w (λ v w'=>Ext w w'/\∃b:Bool,v= .bool b/\(b=true->DatF d)):=by
 obtain⟨nm,nu,tx,rw',rfl,⟨vals,⟨an,cn,rfl,hcn,hgn⟩,hvl,hvr⟩,⟨au,cu,rfl,hcu,hgu⟩,⟨at1,ct,rfl,hct,hgt⟩,⟨ar,cr,rfl,hcr,hgr⟩⟩:=hd.ex;simp only[ylm]at hcu hgu hct hgt hcr hgr;simp only[ylm];refine enx func144 ntmps144 ?_;refine gz0 ?_;refine zav ?_;intro w1 hE1 hs1 hA;have p1:zad w1 (some ⟨w.heap.size,1,.none⟩)=some (.slice an vals.length cn):=zab hA rfl;have p2:zad w1 (some ⟨w.heap.size,2,.none⟩)=some (.slice au d.nums.length cu):=zab hA rfl;have p3:zad w1 (some ⟨w.heap.size,3,.none⟩)=some (.slice at1 d.texts.length ct):=zab hA rfl;have p4:zad w1 (some ⟨w.heap.size,4,.none⟩)=some (.slice ar d.raw.length cr):=zab hA rfl;refine zaw (Q:=λ e σ' ds' v'=>e= .normal/\ds'=[]/\σ' 1= .pointer (some ⟨w.heap.size,0,.none⟩)/\v'=w1/\∃bb,σ' 26= .bool bb/\(bb=false->vals.length<=8/\d.nums.length<=12/\d.texts.length<=40/\d.raw.length<=1100)) ?_ ?_
 ·by_cases hA1:(vals.length:Int)>8
  ·refine rq ?_;intro gd K hgd hK;have hg4:=gk 4 9 hgd rfl;have hg10:=gk 10 15 hgd rfl;have hg16:=gk 16 21 hgd rfl;try simp (disch:=first|omega|assumption|rfl) only[go_sem,p1,yn0,yet hA1,zcl,↓hg4,↓hg10,↓hg16]
   apply hK;exact⟨rfl,rfl,vq0,rfl,_,vr0,λ h=>by cases h⟩
  by_cases hA2:(d.nums.length:Int)>12
  ·refine rq ?_;intro gd K hgd hK;have hg4:=gk 4 9 hgd rfl;have hg10:=gk 10 15 hgd rfl;have hg16:=gk 16 21 hgd rfl;try simp (disch:=first|omega|assumption|rfl) only[go_sem,p1,p2,yn0,yef hA1,yet hA2,zcl,↓hg4,↓hg10,↓hg16]
   apply hK;exact⟨rfl,rfl,vq0,rfl,_,vr0,λ h=>by cases h⟩
  by_cases hA3:(d.texts.length:Int)>40
  ·refine rq ?_;intro gd K hgd hK;have hg4:=gk 4 9 hgd rfl;have hg10:=gk 10 15 hgd rfl;have hg16:=gk 16 21 hgd rfl;try simp (disch:=first|omega|assumption|rfl) only[go_sem,p1,p2,p3,yn0,yef hA1,yef hA2,yet hA3,zcl,↓hg4,↓hg10,↓hg16]
   apply hK;exact⟨rfl,rfl,vq0,rfl,_,vr0,λ h=>by cases h⟩
  by_cases hA4:(d.raw.length:Int)>1100
  ·refine rq ?_;intro gd K hgd hK;have hg4:=gk 4 9 hgd rfl;have hg10:=gk 10 15 hgd rfl;have hg16:=gk 16 21 hgd rfl;try simp (disch:=first|omega|assumption|rfl) only[go_sem,p1,p2,p3,p4,yn0,yef hA1,yef hA2,yef hA3,yet hA4,zcl,↓hg4,↓hg10,↓hg16]
   apply hK;exact⟨rfl,rfl,vq0,rfl,_,vr0,λ h=>by cases h⟩
  ·refine rq ?_;intro gd K hgd hK;have hg4:=gk 4 9 hgd rfl;have hg10:=gk 10 15 hgd rfl;have hg16:=gk 16 21 hgd rfl;try simp (disch:=first|omega|assumption|rfl) only[go_sem,p1,p2,p3,p4,yn0,yef hA1,yef hA2,yef hA3,yef hA4,zcl,↓hg4,↓hg10,↓hg16]
   apply hK;exact⟨rfl,rfl,vq0,rfl,_,vr0,λ _=>⟨oM,oM,oM,oM⟩⟩
 rintro _ σ1 _ v1 ⟨rfl,rfl,h1,hv1,bb,h26,hbb⟩;rw[hv1];clear hv1 v1;refine cZ ?_;refine zaG (t:=bb) ((vq1 h26)) ?_ ?_
 ·intro _;refine gz0 ?_;refine rt0 ntmps144 ?_;exact⟨hE1,false,rfl,λ h=>by cases h⟩
 intro hb;obtain⟨ln,lu,lt,lr⟩:=hbb hb;refine gz0 ?_;refine zaw (Q:=λ e σ' ds' v'=>ds'=[]/\Ext w1 v'/\((e= .exit 0/\σ' 1= .pointer (some ⟨w.heap.size,0,.none⟩)/\∀n∈d.names,few n=true)\/(e= .ret/\σ' 2= .bool false))) ?_ ?_
 ·refine zan (λ m σ ds A=>ds=[]/\∃(i:Nat),i+m=vals.length/\σ 3=vi i/\σ 1= .pointer (some ⟨w.heap.size,0,.none⟩)/\Ext w1 A/\∀j (h:j<d.names.length),j<i->few d.names[j]=true) vals.length ?_ ?_
  ·exact⟨rfl,0,oM,vr0,vq1 h1,Keep.refl _ _,λ j h hj=>absurd hj oM⟩
  clear h1;rintro m σ ds A ⟨rfl,i,him,h3,h1,hEA,hlow⟩;have q1:=zaa hEA p1;refine gz (az4 h3 h1 q1 yn0) ?_;refine wc0 ?_ ?_
  ·intro hlt;simp only[ydT]at hlt;have hi:i<vals.length:=oM;have hi0:=cj i;have hi1:(i:Int)<(vals.length:Int):=oM;have hi1':=ci i;have hgi:=hgn i hi;obtain⟨xN,rfl⟩:=yxs (zaf hgi);have hgi':=zaa (hE0.trans (hE1.trans hEA)) hgi;have hrow:=hvr i hi oM;obtain⟨n,hn⟩:∃n,d.names[i]'(oM)=n:=⟨_,rfl⟩;rw[hn]at hrow;obtain⟨hv,hhv⟩:∃hv,vals[i]=hv:=⟨_,rfl⟩;rw[hhv]at hgi' hrow;refine rqz ?_;intro gd K hgd hK;refine sgz (az7 h3 h1 q1 yn0 hi0 hi1 hgi') ?_;refine yfm (zju A hv n (hrow.ext (hE0.trans (hE1.trans hEA)))) ?_;rintro _ A2 ⟨rfl,hA2⟩;refine sg0 ?_;refine en hK ?_;refine zaG (t:=!few n) vr0 ?_ ?_
   ·intro _;refine gz0 ?_;exact⟨rfl,hEA.trans hA2,.inr ⟨rfl,vq0⟩⟩
   ·intro hfn;refine gz (az2 h3 hi1') ?_;refine⟨m - 1,oM,rfl,i+1,oM,vq0,vq1 h1,hEA.trans hA2,λ j hj hji=>?_⟩;by_cases hj2:j=i
    ·subst hj2;rw[hn];simpa using hfn
    ·exact hlow j hj oM
  ·intro hge;simp only[ydF]at hge;refine cZ ?_;refine⟨rfl,hEA,.inl ⟨rfl,vq1 h1,λ n hn=>?_⟩⟩;obtain⟨j,hj,rfl⟩:=yaG hn;exact hlow j hj oM
 clear h1;rintro e σ4 _ A ⟨rfl,hEA,⟨rfl,h1,hall⟩| ⟨rfl,h2⟩⟩
 rotate_left
 ·refine cZ ?_;refine rt1 h2 ntmps144 ?_;exact⟨hE1.trans hEA,false,rfl,λ h=>by cases h⟩
 have q3:=zaa hEA p3;refine gz0 ?_;refine zaw (Q:=λ e σ' ds' v'=>ds'=[]/\v'=A/\((e= .exit 2/\σ' 1= .pointer (some ⟨w.heap.size,0,.none⟩)/\∀l∈d.texts,l.length<=300)\/(e= .ret/\σ' 2= .bool false))) ?_ ?_
 ·refine zan (λ m σ ds B=>ds=[]/\∃(i:Nat),i+m=d.texts.length/\σ 4=vi i/\σ 1= .pointer (some ⟨w.heap.size,0,.none⟩)/\B=A/\∀j (h:j<d.texts.length),j<i->d.texts[j].length<=300) d.texts.length ?_ ?_
  ·exact⟨rfl,0,oM,vr0,vq1 h1,rfl,λ j h hj=>absurd hj oM⟩
  clear h1;rintro m σ ds B ⟨rfl,i,him,h4,h1,hB2,hlow⟩;rw[hB2];clear hB2 B;refine gz (az4 h4 h1 q3 yn0) ?_;refine wc0 ?_ ?_
  ·intro hlt;simp only[ydT]at hlt;have hi:i<d.texts.length:=oM;have hi0:=cj i;have hi1:(i:Int)<(d.texts.length:Int):=oM;have hi1':=ci i;have hgi:=hgt i hi;obtain⟨xT,rfl⟩:=yxs (zaf hgi);have hgi':=zaa (hE0.trans (hE1.trans hEA)) hgi;rw[yaA]at hgi';refine gz (az7 h4 h1 q3 yn0 hi0 hi1 hgi') ?_;refine wc0 ?_ ?_
   ·intro hgt2;refine gz0 ?_;exact⟨rfl,rfl,.inr ⟨rfl,vq0⟩⟩
   ·intro hgt2;simp only[ydF]at hgt2;refine gz (az2 h4 hi1') ?_;refine⟨m - 1,oM,rfl,i+1,oM,vq0,vq1 h1,rfl,λ j hj hji=>?_⟩;by_cases hj2:j=i
    ·subst hj2;omega
    ·exact hlow j hj oM
  ·intro hge;simp only[ydF]at hge;refine cZ ?_;refine⟨rfl,rfl,.inl ⟨rfl,vq1 h1,λ l hl=>?_⟩⟩;obtain⟨j,hj,rfl⟩:=yaG hl;exact hlow j hj oM
 clear h1;rintro e σ6 _ v1 ⟨rfl,hv1,⟨rfl,h1,htl⟩| ⟨rfl,h2⟩⟩
 rotate_left
 ·rw[hv1];refine cZ ?_;refine rt1 h2 ntmps144 ?_;exact⟨hE1.trans hEA,false,rfl,λ h=>by cases h⟩
 rw[hv1];clear hv1 v1;refine gz0 ?_;refine rt0 ntmps144 ?_;exact⟨hE1.trans hEA,true,rfl,λ _=>⟨λ n hn=>few_f (hall n hn),oM,oM,oM,λ l hl=>by have:=htl l hl;omega,oM,oM⟩⟩
theorem RsFew_ok(hE0:Ext w0 w){R:List RecL}(hl:Rows 7 (RecAt w0) w lv R):
  Fn prog 102 #[lv] w (λ v w'=>Ext w w'/\∃b:Bool,v= .bool b/\(b=true->R.length<=60/\∀r∈R,few r.owner=true/\DatF r.dat)):=by
 obtain⟨aR,cR,rfl,hcR,hgR⟩:=hl.open;refine enx func102 ntmps102 ?_;refine gz0 ?_;refine wc0 ?_ ?_
 ·intro _;refine gz0 ?_;refine rt0 ntmps102 ?_;exact⟨Keep.refl _ _,false,rfl,λ h=>by cases h⟩
 intro h60;simp only[ydF]at h60;refine gz0 ?_;refine zan (λ m σ ds A=>ds=[]/\∃(i:Nat),i+m=R.length/\σ 3=vi i/\σ 0= .slice aR R.length cR/\Ext w A/\∀j (h:j<R.length),j<i->few R[j].owner=true/\DatF R[j].dat) R.length ?_ ?_
 ·exact⟨rfl,0,oM,vr0,vq0,Keep.refl _ _,λ j h hj=>absurd hj oM⟩
 rintro m σ ds A ⟨rfl,i,him,h3,h0,hEA,hlow⟩;refine gz (az2 h3 h0) ?_;refine wc0 ?_ ?_
 ·intro hlt;simp only[ydT]at hlt;have hi:i<R.length:=oM;have hi0:=cj i;have hi1:(i:Int)<(R.length:Int):=oM;have hi1':=ci i;obtain⟨cr,hcr,hRr⟩:=hgR i hi;obtain⟨r,hr⟩:∃r,R[i]=r:=⟨_,rfl⟩;rw[hr]at hRr;obtain⟨ow,dsc,hcrE,o1,o2,g0,g1,g2,gd⟩:=hRr.cells;obtain⟨xR,rfl⟩:=yxs (zak hcr);obtain⟨xi,hxi⟩:∃xi,adr (some xR) (i*7)=some xi:=⟨_,rfl⟩;rw[hxi]at hcr;obtain⟨xd,hxd⟩:∃xd,adr (some xi) 2=some xd:=⟨_,rfl⟩;have rc:∀{x},Ext w x->zad x (some xi)=some ow/\zat x (some xd) 5=some dsc:=fun {x} hx=>by
   have hcx:=zac hx hcr;have e0:=zaq hcx g0;have e5:=zaZ (m:=2) (k:=5) hcx;rw[zar]at e0;rw[hxd,gd]at e5;exact⟨e0,e5⟩
  obtain⟨c0,_⟩:=rc hEA;have hwA:=hE0.trans hEA;refine cZ ?_;refine zaw (Q:=λ e σ' ds' v'=>e= .normal/\ds'=[]/\σ' 3=vi i/\σ' 0= .slice (some xR) R.length cR/\Ext A v'/\∃bb,σ' 28= .bool bb/\(bb=false->few r.owner=true/\DatF r.dat)) ?_ ?_
  ·cases hf:few r.owner with
   |false=>
    refine rq ?_;intro gd K hgd hK;have hg7:=gk 7 20 hgd rfl;refine sgz (az7 h0 h3 hi0 hi1 hxi c0 zar) ?_;refine yfm (zju A ow r.owner (o1.ext hwA)) ?_;rintro _ A2 ⟨rfl,hA2⟩;rw[hf];refine sgy hg7 yaS ?_;apply hK;exact⟨rfl,rfl,vq1 h3,vq1 h0,hA2,_,vr0,λ h=>by cases h⟩
   |true=>
    refine rq ?_;intro gd K hgd hK;have hg7:=gk 7 20 hgd rfl;refine sgz (az7 h0 h3 hi0 hi1 hxi c0 zar) ?_;refine yfm (zju A ow r.owner (o1.ext hwA)) ?_;rintro _ A2 ⟨rfl,hA2⟩;rw[hf];obtain⟨_,c5⟩:=rc (hEA.trans hA2);refine sgy hg7 (az2 (az7 h0 h3 hi0 hi1 hxi hxd c5) yaN) ?_;refine yfm (DFew_ok (hwA.trans hA2) o2) ?_;rintro _ A3 ⟨hA3,b,rfl,hb⟩;refine sgy hg7 trivial ?_;apply hK;exact⟨rfl,rfl,vq1 h3,vq1 h0,hA2.trans hA3,_,vr0,λ h=>⟨rfl,hb (sU h)⟩⟩
  clear h3 h0;rintro _ σ1 _ A1 ⟨rfl,rfl,h3,h0,hA1,bb,h28,hbb⟩;refine cZ ?_;refine zaG (t:=bb) ((vq1 h28)) ?_ ?_
  ·intro _;refine gz0 ?_;refine rt0 ntmps102 ?_;exact⟨hEA.trans hA1,false,rfl,λ h=>by cases h⟩
  ·intro ht;refine gz (az2 h3 hi1') ?_;refine⟨m - 1,oM,rfl,i+1,oM,vq0,vq1 h0,hEA.trans hA1,λ j hj hji=>?_⟩;by_cases hj2:j=i
   ·subst hj2;rw[hr];exact hbb ht
   ·exact hlow j hj oM
 ·intro hge;simp only[ydF]at hge;refine gz0 ?_;refine rt0 ntmps102 ?_;refine⟨hEA,true,rfl,λ _=>⟨oM,λ r hr=>?_⟩⟩;obtain⟨j,hj,rfl⟩:=yaG hr;exact hlow j hj oM
structure zfK(R:List RecL):Prop where
 len:R.length<=60
 few:∀r∈R,few r.owner=true/\DatF r.dat
 own:∀r∈R,zaC r.owner=0
 names:∀r∈R,∀n∈r.dat.names,zaC n=0
 lead:∀r∈R,zhU r.dat.ty->r.dat.names.length=1
theorem zn8(hE0:Ext w0 w){R:List RecL}(hl:Rows 7 (RecAt w0) w lv R):
  Fn prog 65 #[lv] w (λ v w'=>Ext w w'/\∃b:Bool,v= .bool b/\(b=true->zfK R)):=by
 obtain⟨aR,cR,rfl,hcR,hgR⟩:=hl.open;refine enx func65 ntmps65 ?_;refine gz0 ?_;refine rq ?_;intro gd K hgd hK;refine sg0 ?_;refine yfm (RsFew_ok hE0 hl) ?_;rintro _ w1 ⟨hE1,b,rfl,hb⟩;refine sg0 ?_;refine en hK ?_;refine zaG (t:=!b) vr0 ?_ ?_
 ·intro _;refine gz0 ?_;refine rt0 ntmps65 ?_;exact⟨hE1,false,rfl,λ h=>by cases h⟩
 intro hb2;obtain⟨hRl,hRf⟩:=hb (sU hb2);refine gz0 ?_;refine zan (λ m σ ds A=>ds=[]/\∃(i:Nat),i+m=R.length/\σ 3=vi i/\σ 0= .slice aR R.length cR/\Ext w A/\∀j (h:j<R.length),j<i->zaC R[j].owner=0/\(∀n∈R[j].dat.names,zaC n=0)/\(zhU R[j].dat.ty->R[j].dat.names.length=1)) R.length ?_ ?_
 ·exact⟨rfl,0,oM,vr0,vq0,hE1,λ j h hj=>absurd hj oM⟩
 rintro m σ ds A ⟨rfl,i,him,h3,h0,hEA,hlow⟩;refine gz (az2 h3 h0) ?_;refine wc0 ?_ ?_
 ·intro hlt;simp only[ydT]at hlt;have hi:i<R.length:=oM;have hi0:=cj i;have hi1:(i:Int)<(R.length:Int):=oM;have hi1':=ci i;obtain⟨cr,hcr,hRr⟩:=hgR i hi;obtain⟨r,hr⟩:∃r,R[i]=r:=⟨_,rfl⟩;rw[hr]at hRr;obtain⟨f1,f2⟩:=hRf r (hr▸yac hi);obtain⟨xR,rfl⟩:=yxs (zak hcr);obtain⟨xi,hxi⟩:∃xi,adr (some xR) (i*7)=some xi:=⟨_,rfl⟩;rw[hxi]at hcr;have hcA:=zac hEA hcr;have hwA:=hE0.trans hEA;refine rqz ?_;intro gd K hgd hK;refine sgz (az6 h0 h3 hi0 hi1 hxi hcA) ?_;refine yfm (zob hwA hRr f2.nn) ?_;rintro _ A2 ⟨hA2,cs',nm',rfl,hx⟩;refine sg0 ?_;refine yfm (zjo (Keep.refl _ A2) (hx.at (hwA.trans hA2)) f2 (few_f f1)) ?_;rintro _ A3 ⟨hA3,e,rfl,he⟩;refine sg0 ?_;refine en hK ?_;by_cases h0e:e=0
  ·refine zaG (t:=!decide (e=0)) vr0 (λ h=>by rw[yet h0e]at h;cases h) ?_;intro _;refine gz (az2 h3 hi1') ?_;refine⟨m - 1,oM,rfl,i+1,oM,vq0,vq1 h0,hEA.trans (hA2.trans hA3),λ j hj hji=>?_⟩;by_cases hj2:j=i
   ·subst hj2;rw[hr];exact he h0e
   ·exact hlow j hj oM
  ·refine zaG (t:=!decide (e=0)) vr0 ?_ (λ h=>by rw[yef h0e]at h;cases h);intro _;refine gz0 ?_;refine rt0 ntmps65 ?_;exact⟨hEA.trans (hA2.trans hA3),false,rfl,λ h=>by cases h⟩
 ·intro hge;simp only[ydF]at hge;refine gz0 ?_;refine rt0 ntmps65 ?_;have hall:∀r∈R,zaC r.owner=0/\(∀n∈r.dat.names,zaC n=0)/\(zhU r.dat.ty->r.dat.names.length=1):=λ r hr=>by
   obtain⟨j,hj,rfl⟩:=yaG hr;exact hlow j hj oM
  exact⟨hEA,true,rfl,λ _=>⟨hRl,hRf,λ r hr=>(hall r hr).1,λ r hr=>(hall r hr).2.1,λ r hr=>(hall r hr).2.2⟩⟩
theorem ZGood_ok(hE0:Ext w0 w){ov:Value}{R:List RecL}(ho:Row w ov (o.map vs))(hl:Rows 7 (RecAt w0) w lv R):
  Fn prog 36 #[ov,lv] w (λ v w'=>Ext w w'/\∃b:Bool,v= .bool b/\(b=true->zbQ o=true/\zfK R)):=by
 refine enx func36 ntmps36 ?_;refine gz0 ?_;cases hg:zbQ o with
 |false=>
  refine rq ?_;intro gd K hgd hK;have hg2:=gk 2 7 hgd rfl;refine sg0 ?_;refine yfm (zf3 w ov o ho) ?_;rintro _ w1 ⟨rfl,hE1⟩;rw[hg];refine sgy hg2 trivial ?_;refine en hK ?_;refine rt0 ntmps36 ?_;exact⟨hE1,false,rfl,λ h=>by cases h⟩
 |true=>
  refine rq ?_;intro gd K hgd hK;have hg2:=gk 2 7 hgd rfl;refine sg0 ?_;refine yfm (zf3 w ov o ho) ?_;rintro _ w1 ⟨rfl,hE1⟩;rw[hg];refine sgy hg2 trivial ?_;refine yfm (zn8 (hE0.trans hE1) (hl.ext hE1)) ?_;rintro _ w2 ⟨hE2,b,rfl,hb⟩;refine sgy hg2 trivial ?_;refine en hK ?_;refine rt0 ntmps36 ?_;exact⟨hE1.trans hE2,b,rfl,λ h=>⟨rfl,hb h⟩⟩
def zg5{α:Type}(p:α->α->Bool):List α->List α->Bool
 | [],[]=>true
 |x::l,y::m=>p x y && zg5 p l m
 |_,_=>false
theorem zi1{α:Type}{p:α->α->Bool}:∀{l m:List α},l.length≠m.length->zg5 p l m=false
 | [],[],h=>absurd rfl h
 | [],_::_,_=>rfl
 |_::_,[],_=>rfl
 |x::l,y::m,h=>by
  simp only[zg5];rw[zi1 (λ e=>h (by rw[yah,yah,e])),Bool.and_false]
theorem zlP{α:Type}{p:α->α->Bool}{l m:List α}(hl:i<l.length)(hm:i<m.length):zg5 p (l.drop i) (m.drop i)=(p l[i] m[i] && zg5 p (l.drop (i+1)) (m.drop (i+1))):=by
 rw[yag hl,yag hm];rfl
structure zoa(r:ResL):Prop where
 nm:NmS r.name
 dat:∀d∈r.data,DatOk d
 dl:r.data.length<=1000000000
 gl:r.glue.length<=1000000000
 g:∀x∈r.glue,NmS x.1/\(∀d∈x.2,DatOk d)/\x.2.length<=1000000000
theorem DatX.cells{nm:Value}{d:DatL}(h:DatX w0 B A nm cs d):cs.length=5/\∀q∈cs,one q=true:=by
 obtain⟨b1,m1,e1,b2,m2,e2,b3,m3,e3,b4,m4,e4,hds⟩:=h.open;rw[hds];refine⟨rfl,λ q hq=>?_⟩;simp at hq;rcases hq with rfl|rfl|rfl|rfl|rfl<;>rfl
end Go.Proofs.YtfacfpcopcgbdaaGreat
