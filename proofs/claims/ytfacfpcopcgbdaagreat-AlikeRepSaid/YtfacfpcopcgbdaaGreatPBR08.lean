/-
  Texts of a proof, joined.
  Conditions: none.
-/
import Derived.Test.YtfacfpcopcgbdaaGreatPBR07
import Derived.Ground.SlsfProg
import Derived.Shelf.SlSortCmp.NoneTotal
set_option linter.all false
set_option maxRecDepth 20000
set_option maxHeartbeats 8000000
namespace Go.Proofs.YtfacfpcopcgbdaaGreat
open Go Tryz
variable {w w0 w1 W0 x A:World}{v u lv nv:Value}{cs l:List Value}{B b i j c cap:Nat}{t e:TypeId}{a:Option Addr}{S C:Nat->Prop}{q n o:Nm}{N:NetL}
def Pl(N:NetL)(t:Int):List Int->List zay->zay->Prop
 | [],_,_=>False
 |c::cs,L,s=>∃k:Nat,c=(k:Int)/\∃x,L[k]? =some x/\((cs=[]/\s=x)\/Pl N t cs (zcq N x t) s)
theorem Pl.snoc{t:Int}{s s':zay}{k:Nat}(hk:(zcq N s t)[k]? =some s'):∀{ch:List Int} {L:List zay},Pl N t ch L s->Pl N t (ch++ [(k:Int)]) L s'
 | [],_,h=>h.elim
 |c::cs,L,⟨j,hc,x,hx,h⟩=>by
  refine⟨j,hc,x,hx,.inr ?_⟩;rcases h with ⟨rfl,rfl⟩|h
  ·exact⟨k,rfl,s',hk,.inl ⟨rfl,rfl⟩⟩
  ·exact Pl.snoc hk h
theorem Pl.play{t:Int}{s:zay}:∀{ch:List Int} {L:List zay} {d:zay×Bool},Pl N t ch L s->(zhd N t ch L).getLastD d=(s,true)
 | [],_,_,h=>h.elim
 |c::cs,L,d,⟨j,hc,x,hx,h⟩=>by
  subst hc;obtain⟨hj,rfl⟩:=yaj.1 hx;rw[zmR hj,List.getLastD_cons];rcases h with ⟨rfl,rfl⟩|h
  ·rfl
  ·exact Pl.play h
theorem Pl.ne{t:Int}{s:zay}{ch:List Int}{L:List zay}(h:Pl N t ch L s):ch≠ []:=λ e=>by subst e;exact h
theorem zhc(row:List MetL)(x:MetL):(putL row x=row/\∃y∈row,keyS y.1=keyS x.1)\/putL row x=row++ [x]:=by
 unfold putL
 split
 ·rename_i h;obtain⟨y,hy,e⟩:=ycD.1 h;exact .inl ⟨rfl,y,hy,of_decide_eq_true e⟩
 ·exact .inr rfl
theorem zeU{p:List Int}:∀(L:List zay) (k:Nat) (row:List MetL),∃E,zbu p k row L=row++E/\∀y∈E,∃j:Nat,L[j]? =some y.1/\y.2=p++ [((k+j:Nat):Int)]
 | [],k,row=>⟨[],by simp[zbu],λ y h=>by cases h⟩
 |s::L,k,row=>by
  obtain⟨E,h1,h2⟩:=zeU (p:=p) L (k+1) (putL row (s,p++ [(k:Int)]));have h3:∀y∈E,∃j:Nat,(s::L)[j]? =some y.1/\y.2=p++ [((k+j:Nat):Int)]:=λ y hy=>by
   obtain⟨j,e1,e2⟩:=h2 y hy;exact⟨j+1,e1,by rw[e2,yct,ydf 1 j]⟩
  rcases zhc row (s,p++ [(k:Int)]) with ⟨e,_⟩|e
  ·rw[e]at h1;refine⟨E,?_,h3⟩;show zbu p (k+1) (putL row (s,p++ [(k:Int)])) L=_;rw[e];exact h1
  ·refine⟨(s,p++ [(k:Int)])::E,?_,λ y hy=>?_⟩
   ·show zbu p (k+1) (putL row (s,p++ [(k:Int)])) L=_;rw[h1,e,yla];rfl
   ·rcases yay.1 hy with rfl|hy
    ·exact⟨0,rfl,rfl⟩
    ·exact h3 y hy
theorem zgv{p:List Int}:∀{L:List zay} {k:Nat} {row:List MetL} {s:zay},s∈L->∃y∈zbu p k row L,keyS y.1=keyS s
 |a::L,k,row,s,h=>by
  rcases yay.1 h with rfl|h
  ·obtain⟨E,h1,_⟩:=zeU (p:=p) L (k+1) (putL row (s,p++ [(k:Int)]));show∃y∈zbu p (k+1) (putL row (s,p++ [(k:Int)])) L,_;rw[h1];rcases zhc row (s,p++ [(k:Int)]) with ⟨e,y,hy,hk⟩|e
   ·exact⟨y,by rw[e];exact yas _ hy,hk⟩
   ·exact⟨(s,p++ [(k:Int)]),by rw[e];simp,rfl⟩
  ·exact zgv (L:=L) h
structure Bfs(N:NetL)(t:Int)(q:Nm)(i:Nat)(row:List MetL):Prop where
 mono:∀{a b:Nat} {x y:MetL},a<=b->row[a]? =some x->row[b]? =some y->x.2.length<=y.2.length
 near:∀{x:MetL},row[i]? =some x->∀y∈row,y.2.length<=x.2.length+1
 shut:∀{j:Nat} {x:MetL},j<i->row[j]? =some x->∀s∈zcq N x.1 t,∃y∈row,keyS y.1=keyS s/\y.2.length<=x.2.length+1
 start:∀s∈zbW N q,∃y∈row,keyS y.1=keyS s/\y.2.length<=1
 pl:∀y∈row,Pl N t y.2 (zbW N q) y.1
theorem bfs_zero{t:Int}:Bfs N t q 0 (zbu [] 0 [] (zbW N q)):=by
 obtain⟨E,h1,h2⟩:=zeU (p:=[]) (zbW N q) 0 [];have hs:∀s∈zbW N q,∃y∈zbu [] 0 [] (zbW N q),keyS y.1=keyS s:=λ s hs=>zgv hs;rw[h1,yaI]at hs ⊢;have hl:∀y∈E,y.2.length=1:=λ y hy=>by obtain⟨j,_,e⟩:=h2 y hy;rw[e];rfl
 refine⟨fun {a b x y} hab hx hy=>?_,fun {x} hx y hy=>?_,fun {j x} hj=>absurd hj oM,λ s h=>?_,λ y hy=>?_⟩
 ·rw[hl x (List.mem_of_getElem? hx),hl y (List.mem_of_getElem? hy)];omega
 ·rw[hl y hy];omega
 ·obtain⟨y,hy,hk⟩:=hs s h;exact⟨y,hy,hk,by rw[hl y hy];omega⟩
 ·obtain⟨j,e1,e2⟩:=h2 y hy;rw[e2];exact⟨j,by rw[yn0],y.1,e1,.inl ⟨rfl,rfl⟩⟩
theorem Bfs.step{t:Int}{row:List MetL}{x:MetL}(h:Bfs N t q i row)(hx:row[i]? =some x):Bfs N t q (i+1) (zbu x.2 0 row (zcq N x.1 t)):=by
 obtain⟨E,h1,h2⟩:=zeU (p:=x.2) (zcq N x.1 t) 0 row;have hs:∀s∈zcq N x.1 t,∃y∈zbu x.2 0 row (zcq N x.1 t),keyS y.1=keyS s:=λ s hs=>zgv hs;rw[h1]at hs ⊢;have hl:∀y∈E,y.2.length=x.2.length+1:=λ y hy=>by obtain⟨j,_,e⟩:=h2 y hy;rw[e];simp
 have hi:=(yaj.1 hx).1;have hm:=List.mem_of_getElem? hx;have hn:=h.near hx;have all:∀y∈row++E,y.2.length<=x.2.length+1:=λ y hy=>by
  rcases yai.1 hy with hy|hy
  ·exact hn y hy
  ·rw[hl y hy];omega
 have right:∀{b:Nat} {y:MetL},row.length<=b->(row++E)[b]? =some y->y∈E:=fun {b y} hb hy=>by
  rw[yaH hb]at hy;exact List.mem_of_getElem? hy
 refine⟨fun {a b u v} hab hu hv=>?_,fun {z} hz y hy=>?_,fun {j u} hj hu s h0=>?_,λ s h0=>?_,λ y hy=>?_⟩
 ·by_cases hb:b<row.length
  ·rw[yaL oM]at hu;rw[yaL hb]at hv;exact h.mono hab hu hv
  ·rw[hl v (right oM hv)];exact all u (List.mem_of_getElem? hu)
 ·have:=all y hy;by_cases hb:i+1<row.length
  ·rw[yaL hb]at hz;have:=h.mono oM hx hz;omega
  ·have:=hl z (right oM hz);omega
 ·by_cases hb:j<i
  ·rw[yaL oM]at hu;obtain⟨y,hy,hk⟩:=h.shut hb hu s h0;exact⟨y,yas _ hy,hk⟩
  ·have e:j=i:=oM;subst e;rw[yaL hi,hx]at hu;obtain rfl:=Option.some.inj hu;obtain⟨y,hy,hk⟩:=hs s h0;exact⟨y,hy,hk,all y hy⟩
 ·obtain⟨y,hy,hk⟩:=h.start s h0;exact⟨y,yas _ hy,hk⟩
 ·rcases yai.1 hy with hy|hy
  ·exact h.pl y hy
  ·obtain⟨j,e1,e2⟩:=h2 y hy;rw[e2,yn0];exact(h.pl x hm).snoc e1
theorem zkR{t:Int}:∀{f i:Nat} {row:List MetL},Bfs N t q i row->(zeB N t f i row).length<=4096->4097<=f+i->∃j,(zeB N t f i row).length<=j/\Bfs N t q j (zeB N t f i row)
 |0,i,row,h,hl,hf=>⟨i,by have:zeB N t 0 i row=row:=rfl;rw[this]at hl ⊢;omega,h⟩
 |f+1,i,row,h,hl,hf=>by
  unfold zeB at hl ⊢;cases hx:row[i]? with
  |none=>
   rw[hx]at hl;exact⟨i,List.getElem?_eq_none_iff.1 hx,h⟩
  |some x=>
   rw[hx]at hl
   dsimp only at hl ⊢
   by_cases hc:row.length<=4096
   ·rw[if_pos hc]at hl ⊢;exact zkR (h.step hx) hl oM
   ·rw[if_neg hc]at hl;exact absurd hl hc
structure Shut(N:NetL)(t:Int)(q:Nm)(row:List MetL):Prop where
 mono:∀{a b:Nat} {x y:MetL},a<=b->row[a]? =some x->row[b]? =some y->x.2.length<=y.2.length
 shut:∀x∈row,∀s∈zcq N x.1 t,∃y∈row,keyS y.1=keyS s/\y.2.length<=x.2.length+1
 start:∀s∈zbW N q,∃y∈row,keyS y.1=keyS s/\y.2.length<=1
 pl:∀y∈row,Pl N t y.2 (zbW N q) y.1
 g:∀y∈row,GoodSt N y.1
 p:∀y∈row,y.2.length<=4098
theorem znE{t:Int}(hN:zaO N)(hq:zbQ q=true)(h:(zeq N q t).length<=4096):Shut N t q (zeq N q t):=by
 obtain⟨j,hj,hb⟩:=zkR bfs_zero h oM;have hg:RowG N 1 (zbu [] 0 [] (zbW N q)):=RowG.meet (i:=1) ⟨λ y hy=>(by cases hy),λ y hy=>(by cases hy)⟩ sM (zjD hN hq);have hg2:RowG N (0+4097+1) (zeB N t 4097 0 (zbu [] 0 [] (zbW N q))):=expl_g (f:=4097) hN hg;refine⟨hb.mono,λ x hx=>?_,hb.start,hb.pl,hg2.g,hg2.p⟩;obtain⟨k,hk,rfl⟩:=ybh.1 hx;exact hb.shut (by have:k<(zeq N q t).length:=hk;have:(zeq N q t).length<=j:=hj;omega) (yam hk)
theorem key_fin{a b:zay}(h:keyS a=keyS b):a.fin=b.fin:=congrArg KeyL.d h
theorem in_ends{row:List MetL}{k:Int}{p:List Int}(h:(k,p)∈zi5 row):∃x∈row,zdS row k=some x/\x.1.fin=k/\x.2=p/\k≠0:=by
 unfold zi5 zi7 at h;obtain⟨j,_,h⟩:=yaZ.1 h;obtain⟨x,hx,e⟩:=ybm.1 h;simp only[Prod.mk.injEq]at e;obtain⟨rfl,rfl⟩:=e;have h1:=ycN hx;exact⟨x,ycC hx,hx,of_decide_eq_true h1,rfl,oM⟩
theorem Shut.played{N:NetL}{t:Int}{q:Nm}{row:List MetL}(h:Shut N t q row){e:Int×List Int}(he:e∈zi5 row):∃s,playL N q t e.2=(s,true)/\s.fin=e.1/\e.1≠0/\e.2≠ []/\GoodSt N s/\e.2.length<=4098:=by
 obtain⟨k,p⟩:=e;obtain⟨x,hx,_,h1,rfl,h0⟩:=in_ends he;exact⟨x.1,(h.pl x hx).play,h1,h0,(h.pl x hx).ne,h.g x hx,h.p x hx⟩
theorem Shut.fin{t:Int}{row:List MetL}(h:Shut N t q row)(hN:zaO N):∀(m:Nat) {y:MetL},y∈row->N.rw+N.rf - y.1.rw - y.1.rf<=(m:Int)->∃z∈row,z.1.fin≠0
 |m,y,hy,hm=>by
  have hg:=h.g y hy;by_cases h0:y.1.fin=0
  ·obtain⟨x,hx⟩:=ycB _ (next_ne (t:=t) hN hg h0);obtain⟨z,hz,hk,_⟩:=h.shut y hy x hx;by_cases h2:z.1.fin=0
   ·have hF:=(zkB hN hg hx).2.go ((key_fin hk).symm.trans h2);have e1:z.1.rw=x.rw:=congrArg KeyL.b hk;have e2:z.1.rf=x.rf:=congrArg KeyL.c hk;have hz':=h.g z hz;have:=hz'.w1;have:=hz'.f1;cases m with
    |zero=>exact absurd hm (by simp;omega)
    |succ m=>exact Shut.fin h hN m hz (by push_cast at hm;omega)
   ·exact⟨z,hz,h2⟩
  ·exact⟨y,hy,h0⟩
theorem znH(row:List MetL):(zi5 row).length<=9:=zi6 row 9
theorem zl7(w:World)(hN:NetAt w cs N)(hv:NumN N):
  Fn prog 6 #[.agg cs.toArray] w (λ v w'=>Ext w w'/\∃t,v= .bool t/\(t=true->zaO N)):=by
 have hN0:=hN;obtain⟨hsv,rv,rfl,hh,hr⟩:=hN.ex;obtain⟨ah,ch,hhv,_⟩:=hh.open;obtain⟨ar0,cr0,hrv,_⟩:=id hr;refine enx func6 ntmps6 ?_;rw[hhv,hrv];refine go trivial ?_;rw[←hhv,←hrv];refine zav ?_;intro w1 hE1 hs1 hA;have dA:=zah (n:=4) (l:=[hsv,rv,vi N.rw,vi N.rf]) hA rfl;have n0:zad w1 (some ⟨w.heap.size,0,.none⟩)=some (.slice ah N.hosts.length ch):=by rw[←hhv];exact zab hA rfl
 have n2:zad w1 (some ⟨w.heap.size,2,.none⟩)=some (vi N.rw):=zab hA rfl;have n3:zad w1 (some ⟨w.heap.size,3,.none⟩)=some (vi N.rf):=zab hA rfl;obtain⟨x1,k1⟩:∃x,decide ((N.hosts.length:Int)<=5)=x:=⟨_,rfl⟩;obtain⟨x2,k2⟩:∃x,decide (N.rw<=3)=x:=⟨_,rfl⟩;obtain⟨x3,k3⟩:∃x,decide (N.rf<=4)=x:=⟨_,rfl⟩;refine rcg [(2,5),(8,11),(13,16)] dA (zoq w1 (hN0.ext hE1) hv) ?_;rintro _ w2 ⟨hE2,t,rfl,hg⟩;have m0:=zaa hE2 n0;have m2:=zaa hE2 n2;have m3:=zaa hE2 n3;cases t
 ·refine reg [(2,5),(8,11),(13,16)] trivial ?_;refine go trivial ?_;refine rt0 ntmps6 ?_;exact⟨hE1.trans hE2,false,rfl,hg⟩
 cases x1
 ·refine reg [(2,5),(8,11),(13,16)] (an3 m0 k1 yad) ?_;refine go trivial ?_;refine rt0 ntmps6 ?_;exact⟨hE1.trans hE2,false,rfl,λ h=>by cases h⟩
 cases x2
 ·refine reg [(2,5),(8,11),(13,16)] (an6 m0 k1 yad m2 k2 yn0) ?_;refine go trivial ?_;refine rt0 ntmps6 ?_;exact⟨hE1.trans hE2,false,rfl,λ h=>by cases h⟩
 cases x3
 ·refine reg [(2,5),(8,11),(13,16)] (an8 m0 k1 yad m2 k2 yn0 m3 k3) ?_;refine go trivial ?_;refine rt0 ntmps6 ?_;exact⟨hE1.trans hE2,false,rfl,λ h=>by cases h⟩
 ·refine reg [(2,5),(8,11),(13,16)] (an8 m0 k1 yad m2 k2 yn0 m3 k3) ?_;refine go trivial ?_;refine rt0 ntmps6 ?_;exact⟨hE1.trans hE2,true,rfl,hg⟩
theorem zkY(r a b:Nm):cmpR (r++a) (r++b)=cmpR a b:=by
 induction r with
 |nil=>rfl
 |cons x r ih=>simp only[yav,cmpR,zdV,if_true];exact ih
theorem zlW{f p:Nm}(h:p≠ []):cmpN f (p++f)<0:=by
 unfold cmpN;rw[List.reverse_append];have:=zkY f.reverse [] p.reverse;rw[yaF]at this;rw[this];rcases hp:p.reverse with _| ⟨x,q⟩
 ·exact absurd (sU hp) h
 ·simp[cmpR]
theorem zj0{f p:Nm}{l m:Lab}(h:cmpL l m<0):cmpN (p++l::f) (q++m::f)<0:=by
 unfold cmpN;simp only[List.reverse_append,List.reverse_cons,yla];rw[zkY];simp only[yav,yaI,cmpR];rw[if_neg oM];exact h
theorem znk{names:List Nm}(h:names.Nodup)(f:Nm):(za2 names f).Nodup:=by
 unfold za2;rw[ycx]at h ⊢;rw[List.pairwise_filterMap];refine h.imp (fun {a b} hab x hx y hy e=>?_);subst e;apply hab;cases a with
 |nil=>cases hx
 |cons p t=>
  cases b with
  |nil=>cases hy
  |cons q t'=>
   simp only at hx hy
   split at hx
   ·split at hy
    ·cases hx;cases hy;rename_i h1 h2;rw[h1,h2]
    ·cases hy
   ·cases hx
theorem sortK_lt{l:List Lab}(h:l.Nodup):(zen l).Pairwise (λ a b=>cmpL a b<0):=by
 have h1:=zcX l;have h2:(zen l).Nodup:=(zcb l).nodup_iff.2 h;rw[ycx]at h2;refine(h1.and h2).imp (fun {a b} ⟨h3,h4⟩=>?_);simp only[leL,ydT]at h3;have:cmpL a b≠0:=λ e=>h4 (zb4 e);omega
theorem zdM{l:List Lab}{x:Lab}:x∈zen l↔x∈l:=(zcb l).mem_iff
section
variable {names : List Nm} (hcl : ∀ l f, l :: f ∈ names -> f ∈ names) (hnd : names.Nodup)
include hcl
theorem zis{f:Nm}:∀{p:Nm},p++f∈names->f∈names
 | [],h=>h
 |_::p,h=>zis (p:=p) (hcl _ _ h)
theorem zeb:∀(k:Nat) (f g:Nm),f∈names->(∀g∈names,g.length<f.length+k)->(g∈allN names k f↔g∈names/\∃p,g=p++f)
 |0,f,g,hf,hk=>by have:=hk f hf;omega
 |k+1,f,g,hf,hk=>by
  simp only[allN,yay,ych,yaq];constructor
  ·rintro(rfl| ⟨_,⟨l,hl,rfl⟩,hg⟩)
   ·exact⟨hf,[],rfl⟩
   ·rw[zdM,zbc]at hl;obtain⟨h1,p,h2⟩:=(zeb k (l::f) g hl (λ g hg=>by have:=hk g hg;simp;omega)).1 hg;exact⟨h1,p++ [l],by rw[h2];simp⟩
  ·rintro⟨hg,p,hp⟩;rcases ybk p with rfl| ⟨q,l,rfl⟩
   ·exact .inl (sU hp)
   ·right
    have hp':g=q++l::f:=by rw[hp];simp
    have hl:l::f∈names:=by rw[hp']at hg;exact zis hcl hg
    exact⟨_,⟨l,zdM.2 (zbc.2 hl),rfl⟩,(zeb k (l::f) g hl (λ g hg=>by have:=hk g hg;simp;omega)).2 ⟨hg,q,hp'⟩⟩
include hnd
theorem zix:∀(k:Nat) (f:Nm),f∈names->(∀g∈names,g.length<f.length+k)->Rise (allN names k f)
 |0,f,hf,hk=>by have:=hk f hf;omega
 |k+1,f,hf,hk=>by
  have hk':∀l,∀g∈names,g.length<(l::f).length+k:=λ l g hg=>by have:=hk g hg;simp;omega
  simp only[allN];refine yaM.2 ⟨λ g hg=>?_,?_⟩
  ·simp only[ych,yaq]at hg;obtain⟨_,⟨l,hl,rfl⟩,hg⟩:=hg;rw[zdM,zbc]at hl;obtain⟨_,p,rfl⟩:=(zeb hcl k (l::f) g hl (hk' l)).1 hg;rw[show p++l::f=(p++ [l])++f from by simp];exact zlW sM
  ·rw[List.pairwise_flatten];refine⟨λ x hx=>?_,?_⟩
   ·simp only[yaq]at hx;obtain⟨l,hl,rfl⟩:=hx;rw[zdM,zbc]at hl;exact zix k (l::f) hl (hk' l)
   ·rw[ycu];refine List.Pairwise.imp_of_mem ?_ (sortK_lt (znk hnd f));intro l m hl hm hlm x hx y hy;rw[zdM,zbc]at hl hm;obtain⟨_,p,rfl⟩:=(zeb hcl k (l::f) x hl (hk' l)).1 hx;obtain⟨_,q,rfl⟩:=(zeb hcl k (m::f) y hm (hk' m)).1 hy;exact zj0 hlm
theorem zn0{k:Nat}(h0:[]∈names)(hk:∀g∈names,g.length<k):Rise (allN names k [])/\(∀g,g∈allN names k []↔g∈names)/\(allN names k []).length=names.length:=by
 have hk':∀g∈names,g.length<([]:Nm).length+k:=λ g hg=>by have:=hk g hg;simp;omega
 have h1:=zix hcl hnd k [] h0 hk';have h2:∀g,g∈allN names k []↔g∈names:=λ g=>by
  rw[zeb hcl k [] g h0 hk'];exact⟨λ h=>h.1,λ h=>⟨h,g,sM⟩⟩
 refine⟨h1,h2,?_⟩;have n1:(allN names k []).Nodup:=List.Pairwise.imp (fun {a b} h e=>by subst e;rw[ze2]at h;omega) h1;exact((ybR n1 hnd).2 h2).length_eq
end
theorem zcM{α:Type}[DecidableEq α]:∀{l m:List α},l.Nodup->(∀a∈l,a∈m)->l.length<=m.length
 | [],_,_,_=>yba _
 |a::l,m,h,hs=>by
  have h1:=List.nodup_cons.1 h;have ha:=hs a (yal ..);have:=zcM (l:=l) (m:=m.erase a) h1.2 (λ b hb=>(List.mem_erase_of_ne (λ (e:b=a)=>h1.1 (e▸hb))).2 (hs b (yak _ hb)));rw[List.length_erase_of_mem ha]at this;have:=List.length_pos_of_mem ha;simp;omega
def ziP(ps:List (Nm×Value))(g:Nm):Option Value:=ps.foldl (λ acc p=>if zag p.1=g then some p.2 else acc) .none
theorem zhi(ps:List (Nm×Value))(p:Nm×Value)(g:Nm):ziP (ps++ [p]) g=if zag p.1=g then some p.2 else ziP ps g:=by
 simp[ziP,ybI]
structure Hist(z:Value)(s:TS)(ps:List (Nm×Value)):Prop where
 names:∀g,g∈s.names↔g=[]\/∃p∈ps,g<:+zag p.1
 val:∀g,s.val g=(ziP ps g).getD z
 has:∀g,s.has g=(ziP ps g).isSome
def zms(k:Nat)(ps:List (Nm×Value)):Prop:=∀p∈ps,LB p.1/\p.1.length<=k
theorem Hist.deep{z:Value}{s:TS}{ps:List (Nm×Value)}(h:Hist z s ps){k:Nat}(hk:zms k ps):∀g∈s.names,g.length<=k/\LB g/\zag g=g:=by
 intro g hg;rcases(h.names g).1 hg with rfl| ⟨p,hp,q,hq⟩
 ·exact⟨yba _,(λ l hl=>by cases hl),rfl⟩
 ·have h1:=(hk p hp).2;have h2:g=(zag p.1).drop q.length:=by rw[←hq];simp
  refine⟨?_,?_,?_⟩
  ·rw[h2,ybb,zax];omega
  ·rw[h2];exact(hk p hp).1.fold.drop _
  ·rw[h2,←zcf,zfq]
def recN(r:RecL):List Nm:=r.owner::r.dat.names
def zfa(z:zcr):List Nm:=z.o::z.recs.flatMap recN
def zgy(h:zd5):List Nm:=h.name::h.zones.flatMap zfa
def zbe(N:NetL):List Nm:=N.hosts.flatMap zgy
def insN(g:Nm):List Nm->List Nm
 | []=>[g]
 |x::l=>if cmpN g x<0 then g::x::l else if cmpN g x=0 then x::l else x::insN g l
def zdz:Nm->List Nm
 | []=>[[]]
 |l::f=>(l::f)::zdz f
def canN(ps:List Nm):List Nm:=([]::ps.flatMap λ p=>zdz (zag p)).foldr insN []
theorem zhS{g x:Nm}:∀{l:List Nm},x∈insN g l↔x=g\/x∈l
 | []=>by simp[insN]
 |y::l=>by
  unfold insN
  split
  ·simp
  ·split
   ·rename_i h;have:=zgK h;subst this;simp
   ·simp only[yay,zhS (l:=l)];constructor
    ·rintro(h|h|h)<;>simp[h]
    ·rintro(h|h|h)<;>simp[h]
theorem ziR{g:Nm}:∀{l:List Nm},Rise l->Rise (insN g l)
 | [],_=>by simp[insN,Rise]
 |y::l,h=>by
  have h1:=yaM.1 h;unfold insN
  split
  ·rename_i hlt;refine yaM.2 ⟨λ z hz=>?_,h⟩;rcases yay.1 hz with rfl|hz
   ·exact hlt
   ·exact zef hlt (h1.1 z hz)
  ·split
   ·exact h
   ·rename_i h2 h3;refine yaM.2 ⟨λ z hz=>?_,ziR h1.2⟩;rcases zhS.1 hz with rfl|hz
    ·have:=zfZ z y;omega
    ·exact h1.1 z hz
theorem zfp:∀(l:List Nm),Rise (l.foldr insN [])/\∀g,g∈l.foldr insN []↔g∈l
 | []=>⟨List.Pairwise.nil,λ g=>sM⟩
 |a::l=>by
  obtain⟨h1,h2⟩:=zfp l;rw[List.foldr_cons];exact⟨ziR h1,λ g=>by rw[zhS,h2];simp⟩
theorem zfm{g:Nm}:∀{f:Nm},g∈zdz f↔g<:+f
 | []=>by simp[zdz]
 |l::f=>by simp only[zdz,yay,zfm (f:=f),List.suffix_cons_iff]
theorem zdj(ps:List Nm):Rise (canN ps):=(zfp _).1
def inS(ps:List Nm)(g:Nm):Prop:=g=[]\/∃p∈ps,g<:+zag p
theorem mem_canN{ps:List Nm}{g:Nm}:g∈canN ps↔inS ps g:=by
 unfold canN inS;rw[(zfp _).2];simp only[yay,yaY,zfm]
theorem zj6{ps:List Nm}{L:List Nm}(h:Rise L)(hm:∀g,g∈L↔inS ps g):L=canN ps:=h.eq (zdj ps) λ g=>(hm g).trans mem_canN.symm
theorem Rise.nodup{L:List Nm}(h:Rise L):L.Nodup:=List.Pairwise.imp (fun {a b} h e=>by subst e;rw[ze2]at h;omega) h
theorem canN_len{ps:List Nm}{M:List Nm}(hn:M.Nodup)(hm:∀g,g∈M↔inS ps g):M.length=(canN ps).length:=
 ((ybR hn (zdj ps).nodup).2 λ g=>(hm g).trans mem_canN.symm).length_eq
theorem zia{ps qs:List Nm}(h:∀g,inS ps g->inS qs g):(canN ps).length<=(canN qs).length:=
 zcM (zdj ps).nodup λ g hg=>mem_canN.2 (h g (mem_canN.1 hg))
theorem znr{ps qs:List Nm}{g:Nm}:inS (ps++qs) g↔inS ps g\/inS qs g:=by
 unfold inS;constructor
 ·rintro(h| ⟨p,hp,h⟩)
  ·exact .inl (.inl h)
  ·rcases yai.1 hp with hp|hp
   ·exact .inl (.inr ⟨p,hp,h⟩)
   ·exact .inr (.inr ⟨p,hp,h⟩)
 ·rintro((h| ⟨p,hp,h⟩)| (h| ⟨p,hp,h⟩))
  ·exact .inl h
  ·exact .inr ⟨p,yas _ hp,h⟩
  ·exact .inl h
  ·exact .inr ⟨p,yaP _ hp,h⟩
theorem zkI{ps:List Nm}{g:Nm}(h:inS ps g):zag g=g:=by
 rcases h with rfl| ⟨p,_,q,hq⟩
 ·rfl
 ·have h2:g=(zag p).drop q.length:=by rw[←hq];simp
  rw[h2,←zcf,zfq]
theorem zkH{ps:List Nm}{l:Lab}{g:Nm}(h:inS ps (l::g)):inS ps g:=by
 rcases h with h| ⟨p,hp,h⟩
 ·cases h
 ·exact .inr ⟨p,hp,(ydt l g).trans h⟩
def zbn(x:Nm)(r:Nm×Nm):Option Nm:=if zaN x r.2=true then if zaC (zca x r.2 r.1)=0 then some (zca x r.2 r.1) else .none else .none
def zaH(ren:List (Nm×Nm))(L:List Nm):List Nm:=L.flatMap λ x=>ren.filterMap (zbn x)
def zbw(ren:List (Nm×Nm)):Nat->List Nm->List Nm
 |0,ps=>ps
 |k+1,ps=>if (canN (ps++zaH ren (canN ps))).length=(canN ps).length then ps++zaH ren (canN ps) else zbw ren k (ps++zaH ren (canN ps))
theorem zfs{ren:List (Nm×Nm)}:∀{k:Nat} {ps:List Nm} {p:Nm},p∈ps->p∈zbw ren k ps
 |0,_,_,h=>h
 |k+1,ps,p,h=>by
  unfold zbw
  split
  ·exact yas _ h
  ·exact zfs (yas _ h)
theorem zeY{ps qs:List Nm}(h:∀p∈ps,p∈qs){g:Nm}(hg:inS ps g):inS qs g:=by
 rcases hg with hg| ⟨p,hp,hs⟩
 ·exact .inl hg
 ·exact .inr ⟨p,h p hp,hs⟩
theorem zfP{x y:Nm}{r:Nm×Nm}(h:zbn x r=some y):zaC y=0:=by
 unfold zbn at h
 split at h
 ·split at h
  ·rename_i h2;cases h;exact h2
  ·cases h
 ·cases h
theorem zhG{ren:List (Nm×Nm)}{L:List Nm}{y:Nm}(h:y∈zaH ren L):zaC y=0:=by
 unfold zaH at h;obtain⟨x,_,hx⟩:=yaY.1 h;obtain⟨r,_,hr⟩:=yaZ.1 hx;exact zfP hr
structure NmK(n:Nm):Prop where
 lb:∀l∈n,l.length<=100
 len:n.length<=255
theorem NmK.m(h:NmK n):NmM n:=⟨λ l hl=>by have:=h.lb l hl;omega,by have:=h.len;omega⟩
theorem NmK.LB(h:NmK n):LB n:=h.m.LB
theorem NmK.fold(h:NmK n):NmK (zag n):=⟨λ l hl=>by
 unfold zag at hl;obtain⟨x,hx,rfl⟩:=yaq.1 hl;rw[zdQ];exact h.lb x hx,by rw[zax];exact h.len⟩
theorem za9(h:zaC n=0):NmK n:=⟨λ l hl=>by have:=(zbi h l hl).2;omega,zft h⟩
theorem Sh.k(h:Sh n):NmK n:=⟨h.lb,by have:=h.len;omega⟩
theorem zj1{ren:List (Nm×Nm)}:∀{k:Nat} {ps:List Nm},(∀p∈ps,NmK p)->∀p∈zbw ren k ps,NmK p
 |0,_,h=>h
 |k+1,ps,h=>by
  have h2:∀p∈ps++zaH ren (canN ps),NmK p:=λ p hp=>by
   rcases yai.1 hp with hp|hp
   ·exact h p hp
   ·exact za9 (zhG hp)
  unfold zbw
  split
  ·exact h2
  ·exact zj1 h2
theorem inS_k{ps:List Nm}(h:∀p∈ps,NmK p){g:Nm}(hg:inS ps g):NmK g:=by
 rcases hg with rfl| ⟨p,hp,q,hq⟩
 ·exact⟨λ l hl=>absurd hl sM,sM⟩
 ·have h1:=(h p hp).fold;have h2:=h1.len;have h3:g=(zag p).drop q.length:=by rw[←hq];simp
  rw[h3];exact⟨λ l hl=>h1.lb l (List.mem_of_mem_drop hl),by rw[ybb];omega⟩
theorem zjj(h:zaO N):∀p∈zbe N,NmK p:=by
 intro p hp;unfold zbe zgy zfa recN at hp;obtain⟨x,hx,hp⟩:=yaY.1 hp;rcases yay.1 hp with rfl|hp
 ·exact(h.sh x hx).k
 obtain⟨z,hz,hp⟩:=yaY.1 hp;have gz:=h.z.z x hx z hz;rcases yay.1 hp with rfl|hp
 ·have hg:=gz.o;unfold zbQ at hg;simp only[yaB,ydT]at hg;exact za9 hg.2
 obtain⟨r,hr,hp⟩:=yaY.1 hp;rcases yay.1 hp with rfl|hp
 ·exact za9 (gz.gd.own r hr)
 ·exact za9 (gz.gd.names r hr p hp)
theorem ziX{α β:Type}{f:α->List β}{k:Nat}:∀{l:List α},(∀a∈l,(f a).length<=k)->(l.flatMap f).length<=l.length*k
 | [],_=>sM
 |a::l,h=>by
  have h1:=h a (yal ..);have h2:=ziX (l:=l) (λ b hb=>h b (yak _ hb));rw[ybJ,yab,yah,ydw];omega
theorem zkv(h:zaO N){x:zd5}(hx:x∈N.hosts){z:zcr}(hz:z∈x.zones){r:RecL}(hr:r∈z.recs):(recN r).length<=9:=by
 have:=((h.z.z x hx z hz).gd.few r hr).2.n8;unfold recN;rw[yah];omega
theorem zk3(h:zaO N):(zbe N).length<=20000:=by
 have h3:∀x∈N.hosts,∀z∈x.zones,(zfa z).length<=541:=λ x hx z hz=>by
  have gz:=(h.z.z x hx z hz).gd;have h1:=ziX (l:=z.recs) (f:=recN) (k:=9) (λ r hr=>zkv h hx hz hr);have:=gz.len;unfold zfa;rw[yah];omega
 have h4:∀x∈N.hosts,(zgy x).length<=2165:=λ x hx=>by
  have h1:=ziX (l:=x.zones) (f:=zfa) (k:=541) (h3 x hx);have:=h.zl x hx;unfold zgy;rw[yah];omega
 have h5:=ziX (l:=N.hosts) (f:=zgy) (k:=2165) h4;have:=h.h1.2;unfold zbe;omega
theorem zeJ:∀f:Nm,(zdz f).length=f.length+1
 | []=>rfl
 |_::f=>by simp only[zdz,yah,zeJ f]
theorem zkG{g:Nm}:∀{l:List Nm},(insN g l).length<=l.length+1
 | []=>by simp[insN]
 |x::l=>by
  unfold insN
  split
  ·simp
  ·split
   ·simp
   ·have:=zkG (g:=g) (l:=l);simp only[yah];omega
theorem zgB:∀l:List Nm,(l.foldr insN []).length<=l.length
 | []=>sM
 |a::l=>by
  have h1:=zgB l;have h2:=zkG (g:=a) (l:=l.foldr insN []);rw[List.foldr_cons,yah];omega
theorem canN_add{ps:List Nm}{y:Nm}(hy:NmK y):(canN (ps++ [y])).length<=(canN ps).length+256:=by
 have h:=zcM (m:=canN ps++zdz (zag y)) (zdj (ps++ [y])).nodup λ g hg=>by
  rcases znr.1 (mem_canN.1 hg) with h|h
  ·exact yas _ (mem_canN.2 h)
  ·rcases h with rfl| ⟨p,hp,hs⟩
   ·exact yas _ (mem_canN.2 (.inl rfl))
   ·rw[yae.1 hp]at hs;exact yaP _ (zfm.2 hs)
 have hl:=hy.len;rw[yab,zeJ,zax]at h;omega
theorem znV{ps:List Nm}(hk:∀p∈ps,NmK p)(hl:ps.length<=20000):(canN ps).length<=900000000:=by
 have h1:=zgB ([]::ps.flatMap λ p=>zdz (zag p));have h2:=ziX (l:=ps) (f:=λ p=>zdz (zag p)) (k:=256) (λ p hp=>by rw[zeJ,zax];have:=(hk p hp).len;omega);unfold canN;rw[yah]at h1;omega
namespace T_bool
theorem zfW(w:World):Fn prog 171 #[] w (λ v w'=>v=zaA (w.heap.size+1)/\w'=(w.alloc (.map #[] 0)).alloc (.cells #[.map (some w.heap.size),(.bool false),.bool false] 306)):=by
 refine enx func171 ntmps171 ?_;refine gz0 ?_;refine rq ?_;intro gd K hgd hK;refine sg0 ?_;refine⟨by kernel_rfl,?_⟩;rw[show bdV prog 306 [(0,.map (some w.heap.size))]=some (.agg #[.map (some w.heap.size),(.bool false),.bool false]) from by kernel_rfl];refine sg0 ?_;refine en hK ?_;refine rt0 ntmps171 ?_;simp[zaA]
abbrev TAt:=TreeAt 253 306
abbrev TOk:=TSok (.bool false)
def ts0(B:Nat):TS:={names:=[[]],val:=λ _=>(.bool false),has:=λ _=>false,nb:=λ _=>B+1,mb:=λ _=>B}
theorem New_ok(w:World):Fn prog 124 #[] w (λ v w'=>v=zaA (w.heap.size+2)/\Ext w w'/\TOk (ts0 w.heap.size)/\TAt w' (w.heap.size+2) (ts0 w.heap.size)):=by
 refine enx func124 ntmps124 ?_;refine gz0 ?_;refine rq ?_;intro gd K hgd hK;refine sg0 ?_;refine yfm (zfW w) ?_;rintro _ w1 ⟨rfl,rfl⟩;refine sg0 ?_;refine⟨by kernel_rfl,?_⟩;rw[show bdV prog 253 [(0,zaA (w.heap.size+1)),(1,.int .i64 1)]=some (.agg #[zaA (w.heap.size+1),.int .i64 1]) from by kernel_rfl];refine sg0 ?_;refine en hK ?_;refine rt0 ntmps124 ?_;have hE:=((yea w (.map #[] 0)).trans (yea _ (.cells #[.map (some w.heap.size),(.bool false),.bool false] 306))).trans (yea _ (.cells #[zaA (w.heap.size+1),.int .i64 1] 253));refine⟨by simp[zaA],hE,⟨by simp[ts0],by simp[ts0],by simp[ts0],by simp[ts0],by simp[ts0],λ _=>rfl,λ _ _=>⟨rfl,rfl⟩⟩,?_,?_,?_⟩
 ·have:=zam ((w.alloc (.map #[] 0)).alloc (.cells #[.map (some w.heap.size),(.bool false),.bool false] 306)) (.cells #[zaA (w.heap.size+1),.int .i64 1] 253);simp only[ybT]at this;exact this
 ·intro f hf;have:=zam (w.alloc (.map #[] 0)) (.cells #[.map (some w.heap.size),(.bool false),.bool false] 306);simp only[ybT]at this;exact(yaE _ _ _ (by simp[ts0])).trans this
 ·intro f hf;simp only[ts0,yae]at hf;subst hf;exact(zjO w).block ((yaE _ _ _ (by simp;omega)).trans (yaE _ _ _ sM))
def encD(s:TS)(f:Nm)(k:Nat)(_:World)(args:Array Value):Prop:=args=#[vi k,zaA (s.nb (sfx f k))]
theorem zjK{m:Nat}(h:i<m):∃suf,List.range m=List.range i++i::suf:=by
 refine⟨(List.range m).drop (i+1),?_⟩;have:=zcW (l:=List.range m) (i:=i) (sU h);rw[List.take_range,ydx oM]at this;simpa using this
theorem down1_ok{W00:World}{n0:Nat}{b1 b2 tb:Nat}{s:TS}(hT:TAt W00 tb s)(hs:TOk s)(hr:Row W00 nv (n.map vs))(hn:LB n)(hlen:n.length<=9000000000000000000)
  (hE:Ext W00 W0) (hC:∀b,C b->W00.heap.size<=b) (hn0:W00.heap.size<=n0)
  (h1:W0.cell? ⟨b1,0,.none⟩=some (zaA tb)) (h1n:b1<n0) (h1C:¬C b1) (h2:W0.cell? ⟨b2,0,.none⟩=some nv) (h2n:b2<n0) (h2C:¬C b2):
  Iter prog 235 #[zaA b1,zaA b2] W0 n0 C (List.range (dep s.names (zag n)+1)) (encD s (zag n)):=by
 intro lp J Jx W hW hnW hJ hJx hY h0;have hfl:(zag n).length=n.length:=zax n;have hdl:=zi8 s.names (zag n);generalize hd:dep s.names (zag n)=d at*;have fact:∀A,KeepB n0 C W A->TAt A tb s/\Row A nv (n.map vs)/\A.cell? ⟨b1,0,.none⟩=some (zaA tb)/\A.cell? ⟨b2,0,.none⟩=some nv:=λ A hA=>by
  have hEA:=KeepB.to_ext (hE.trans hW) hA hn0 hC;exact⟨hT.ext hEA,hr.ext hEA,zcD hA h1n h1C (ze3 hW h1),zcD hA h2n h2C (ze3 hW h2)⟩
 obtain⟨hT1,hr1,hc1,hc2⟩:=fact W (KeepB.refl _ _ _);have hroot:zad W (some ⟨tb,0,.none⟩)=some (zaA (s.nb [])):=by
  show W.cell? _=_;rw[zaM hT1.root];rfl
 have hc1':zad W (some ⟨b1,0,.none⟩)=some (zaA tb):=hc1;unfold zaA at hc1' hroot;refine enx func235 ntmps235 ?_;refine rqz ?_;intro gd K hgd hK;simp (disch:=first|omega|assumption|rfl) only[go_sem,zaA,hc1',hroot];refine hK _ _ ?_;clear hK hgd;clear K gd;refine gz0 ?_;refine zan (λ m σ ds v=>ds=[]/\∃i,i+m=d+1/\σ 5=vi i/\σ 0= .func (.yield lp) #[] #[]/\σ 1=zaA b1/\σ 2=zaA b2/\J (List.range i) v/\KeepB n0 C W v/\
  ((i<=d/\σ 4=zaA (s.nb (sfx (zag n) i)))\/(i=d+1/\σ 4= .pointer .none))) (d+1) ?_ ?_
 ·refine⟨rfl,0,oM,?_,?_,?_,?_,h0,KeepB.refl _ _ _,.inl ⟨oM,?_⟩⟩
  ·simp only[go_sem];rfl
  ·simp only[go_sem]
  ·simp only[go_sem]
  ·simp only[go_sem]
  ·rw[zko];simp only[go_sem]
 ·rintro m σ ds v ⟨rfl,i,him,h5,hf0,hf1,hf2,hj,hK0,hat⟩;obtain⟨hTv,hrv,hcv1,hcv2⟩:=fact v hK0;refine rqz ?_;intro gd K hgd hK;have hg2:=gk 2 12 hgd rfl;have hg8:=gk 8 18 hgd rfl;rcases hat with ⟨hid,h4⟩| ⟨hid,h4⟩
  ·have h4p:=h4;unfold zaA at h4p;simp (disch:=first|omega|assumption|rfl) only[go_sem,h5,hf0,h4p,↓hg2,↓hg8];obtain⟨suf,hsuf⟩:=zjK (m:=d+1) (i:=i) oM;have hrs:List.range i++ [i]=List.range (i+1):=(List.range_succ).symm;refine Yld.mono (hY (List.range i) i suf v _ hsuf hj hK0 rfl) ?_;rintro u z (⟨rfl,hj',hk'⟩| ⟨rfl,hjx⟩)
   ·have hK1:=hK0.trans hk';obtain⟨hTz,hrz,hcz1,hcz2⟩:=fact z hK1;rw[hrs]at hj';obtain⟨a,ca,hnv,hca,hla⟩:=hrz;simp only[ylm]at hnv hca hla;have hcz2':zad z (some ⟨b2,0,.none⟩)=some (.slice a n.length ca):=by rw[←hnv];exact hcz2
    try simp (disch:=first|omega|assumption|rfl) only[go_sem,h5,hf0,hf2,zaA,hcz2',↓hg2,↓hg8]
    apply hK;refine wcz ?_ ?_
    ·intro hlt;simp only[ydT]at hlt;repeat refine c_r ?_
     refine zaF (λ _=>false) [(0,true),(1,true),(2,true),(3,true),(4,true),(5,true),(6,true),(7,true),(8,true),(9,true),(10,true),(11,true),(12,false),(13,true),(14,true)] NoS mixed kR ?_;intro gd K x hgd hx hxe hK;clear hxe;have hKy:=hK1.trans (hx.toB (yaD hnW hK1.size) (λ _ _ h=>h.elim));have hsy:=yaD hnW hKy.size;obtain⟨hTx,hrx,hcx1,hcx2⟩:=fact _ hKy;have hla':=λ j h=>zaa hx (hla j h);have hsa:a.isSome=true:=zaf (hla 0 oM);have hcx2':zad x (some ⟨b2,0,.none⟩)=some (.slice a n.length ca):=by rw[←hnv];exact hcx2
     have hin:sfx (zag n) i∈s.names:=zmu hs oM;have hkids:zad x (some ⟨s.nb (sfx (zag n) i),0,.none⟩)=some (.map (some (s.mb (sfx (zag n) i)))):=by
      show x.cell? _=_;rw[zaM (hTx.node _ hin)];rfl
     have hix:((n.length:Int) - 1 - i).toNat=n.length - 1 - i:=oM;simp (disch:=first|omega|assumption|rfl) only[go_sem,h4p,h5,hf0,hf2,zaA,hcx2',hkids,hix,hla',yaA];refine yfm (zc4 _ _ (LB.get hn _)) ?_;rintro _ y ⟨rfl,hy⟩;refine⟨.inr hy,?_⟩;have hKy:=hKy.trans (hy.toB hsy (λ _ _ h=>h.elim));have hTy:=(fact y hKy).1;have hlk:=(hTy.map _ hin).lk (P:=prog) (t:=304) (kt:=9) (et:=251) (z:= .pointer .none) rfl rfl rfl (zaJ n[n.length - 1 - i]);have hlab:zaJ n[n.length - 1 - i]::sfx (zag n) i=sfx (zag n) (i+1):=by
      rw[zkp oM];simp[zag]
     rw[zfn,hlab]at hlk;refine sgz hlk ?_;refine⟨λ _ _ h=>h,?_⟩;apply hK;refine gz h5 ?_;refine⟨m - 1,oM,rfl,i+1,oM,by simp only[go_sem];rfl,vq1 hf0,vq1 hf1,vq1 hf2,hJ _ _ _ hj' (hx.trans hy),hKy,?_⟩;by_cases hup:i+1<=d
     ·rw[if_pos (zmu hs oM)];exact .inl ⟨hup,by simp only[go_sem];rfl⟩
     ·rw[if_neg (zjG hs oM oM)];exact .inr ⟨oM,by simp only[go_sem];rfl⟩
    ·intro hge;simp only[ydF]at hge;repeat refine c_r ?_
     have hi:i=d:=oM;subst hi;exact zap (by simp) rfl (.inl hj')
   ·try simp (disch:=first|omega|assumption|rfl) only[go_sem,h5,hf0,hf2,↓hg2,↓hg8]
    apply hK;refine wcz ?_ ?_
    ·intro h;simp at h
    ·intro _;repeat refine c_r ?_
     exact zap (by simp) rfl (.inr ⟨_,_,_,hsuf,hjx⟩)
  ·try simp (disch:=first|omega|assumption|rfl) only[go_sem,h5,hf0,h4,↓hg2,↓hg8]
   apply hK;refine wcz ?_ ?_
   ·intro h;simp at h
   ·intro _;repeat refine c_r ?_
    subst hid;exact zap (by simp) rfl (.inl hj)
theorem down_ok{W00:World}{tb:Nat}{s:TS}(hT:TAt W00 tb s)(hs:TOk s)(hr:Row W00 nv (n.map vs))(hn:LB n)(hlen:n.length<=9000000000000000000)(hE:Ext W00 w):
  Fn prog 213 #[zaA tb,nv] w (λ v w'=>Ext w w'/\∃cap,v= .func (.func 235) #[] cap/\
   ∀C:Nat->Prop,(∀b,C b->W00.heap.size<=b/\b<w.heap.size)->Iter prog 235 cap w' w'.heap.size C (List.range (dep s.names (zag n)+1)) (encD s (zag n))):=by
 obtain⟨a,ca,rfl,hca,hla⟩:=id hr;simp only[ylm]at*;refine enx func213 ntmps213 ?_;refine gz0 ?_;refine rt0 ntmps213 ?_;have hE1:=(yea w (.cells #[zaA tb] 199)).trans (yea _ (.cells #[.slice a n.length ca] 27));refine⟨hE1,_,rfl,λ C hC=>?_⟩;have e1:(w.alloc (.cells #[zaA tb] 199)).heap.size=w.heap.size+1:=sM;rw[e1];refine down1_ok hT hs hr hn hlen (hE.trans hE1) (λ b hb=>(hC b hb).1) (yaD hE.size hE1.size) ?_ (by simp;omega) (λ h=>by have:=(hC _ h).2;omega) ?_ sM (λ h=>by have:=(hC _ h).2;omega)
 ·rw[zaM ((yaE _ _ _ sM).trans (zam w _))];rfl
 ·have:=zam (w.alloc (.cells #[zaA tb] 199)) (.cells #[.slice a n.length ca] 27);rw[e1]at this;rw[zaM this];rfl
theorem zlV{tb:Nat}{s:TS}(hT:TAt w tb s)(hs:TOk s)(hr:Row w nv (n.map vs))(hn:LB n)(hlen:n.length<=9000000000000000000):
  Fn prog 173 #[zaA tb,nv] w (λ v w'=>v= .tuple #[vi (dep s.names (zag n)),zaA (s.nb (sfx (zag n) (dep s.names (zag n))))]/\Ext w w'):=by
 obtain⟨a,ca,rfl,hca,hla⟩:=id hr;simp only[ylm]at*;refine enx func173 ntmps173 ?_;repeat refine c_r ?_
 refine rg0 ?_;repeat (with_reducible first|refine zfI ?_|refine zig ?_|refine zew ?_|refine zao ?_|refine zb9 ?_|refine zcG ?_|refine za8 ?_|refine zcj ?_|refine zbj ?_|refine zbg rfl ?_)
 refine W_mid (λ σ ds A=>ds=[]/\σ 0=zaA tb/\σ 1= .slice a n.length ca/\∃b6 b7,σ 6=zaA b6/\σ 7=zaA b7/\b6≠b7/\w.heap.size<=b6/\w.heap.size<=b7/\Ext w A/\
  A.heap[b6]? =some (.cells #[vi 0] 3 (0,0))/\A.heap[b7]? =some (.cells #[zaA (s.nb [])] 251 (0,0))) ?_ ?_
 ·refine zfH (λ i=>i==7) (.run [(0,true),(1,true),(2,true),(3,true)] (.fork 3 [4,5] (λ i=>if i=4 then(.run [(5,false),(6,false),(7,false)] .fin) else(.run [(4,false),(6,false),(7,false)] .fin)))) (zda w.heap.size) mixed kR ?_;intro gd K x hgd hx hxe hK;clear hxe;have hEx:Ext w x:=ykt ykr rfl (λ b hb=>hb) hx;have hroot:zad x (some ⟨tb,0,.none⟩)=some (zaA (s.nb [])):=by
   show x.cell? _=_;rw[zaM (hT.ext hEx).root];rfl
  have htb:tb<w.heap.size:=(yaa.1 hT.root).1;have hsx:=hEx.size;unfold zaA at hroot;simp (disch:=first|omega|assumption|rfl) only[go_sem,zaA,hroot,zlu htb];simp only[za5,zbk];refine⟨?_,?_⟩
  ·simp (disch:=first|omega|assumption|rfl) only[go_sem];refine⟨.inr (yea _ _).keep,.inr (yea _ _).keep,?_⟩;have hb1:=zam x (.cells #[.int .i64 0] 3 (0,0));have hE2:=(yea x (.cells #[.int .i64 0] 3 (0,0))).trans (yea _ (.cells #[.pointer .none] 251 (0,0)));have hb1':=(yaE _ (.cells #[.pointer .none] 251 (0,0)) _ (by simp)).trans hb1;have hb2:=zam (x.alloc (.cells #[.int .i64 0] 3 (0,0))) (.cells #[.pointer .none] 251 (0,0));rw[zai]at hb2 ⊢;refine zbx rfl rfl rfl hb1' (by simp) (by simp) ?_;intro x1 hs1 hx1 hk1;refine⟨.inr (hk1.mono (λ b _ hb=>by show _<=b;omega)),?_⟩;simp (disch:=first|omega|assumption|rfl) only[go_sem];refine zbx rfl rfl rfl ((hk1.block _ (by simp) oM).trans hb2) (by simp) (by simp) ?_;intro x2 hs2 hx2 hk2;refine⟨.inl rfl,?_⟩;simp (disch:=first|omega|assumption|rfl) only[go_sem];refine hK _ _ ?_;clear hK hgd;clear K;try clear gd
   repeat (with_reducible first|refine zfI ?_|refine zig ?_|refine zew ?_|refine zao ?_|refine zb9 ?_|refine zcG ?_|refine za8 ?_|refine zcj ?_|refine zbj ?_|refine zbg rfl ?_)
   refine⟨rfl,vq0,vq0,x.heap.size,x.heap.size+1,vq0,vq0,oM,hsx,oM,?_,(hk2.block _ (by rw[hs1];simp;omega) oM).trans hx1,hx2⟩;exact ykt (ykt (hEx.trans hE2) rfl (λ b hb=>oM) hk1) rfl (λ b hb=>oM) hk2
  ·simp (disch:=first|omega|assumption|rfl) only[go_sem];refine⟨.inr (yea _ _).keep,.inr (yea _ _).keep,?_⟩;have hb1:=zam x (.cells #[.pointer .none] 251 (0,0));have hE2:=(yea x (.cells #[.pointer .none] 251 (0,0))).trans (yea _ (.cells #[.int .i64 0] 3 (0,0)));have hb1':=(yaE _ (.cells #[.int .i64 0] 3 (0,0)) _ (by simp)).trans hb1;have hb2:=zam (x.alloc (.cells #[.pointer .none] 251 (0,0))) (.cells #[.int .i64 0] 3 (0,0));rw[zai]at hb2 ⊢;refine zbx rfl rfl rfl hb2 (by simp) (by simp) ?_;intro x1 hs1 hx1 hk1;refine⟨.inr (hk1.mono (λ b _ hb=>by show _<=b;omega)),?_⟩;simp (disch:=first|omega|assumption|rfl) only[go_sem];refine zbx rfl rfl rfl ((hk1.block _ (by simp;omega) oM).trans hb1') (by simp) (by simp) ?_;intro x2 hs2 hx2 hk2;refine⟨.inl rfl,?_⟩;simp (disch:=first|omega|assumption|rfl) only[go_sem];refine hK _ _ ?_;clear hK hgd;clear K;try clear gd
   repeat (with_reducible first|refine zfI ?_|refine zig ?_|refine zew ?_|refine zao ?_|refine zb9 ?_|refine zcG ?_|refine za8 ?_|refine zcj ?_|refine zbj ?_|refine zbg rfl ?_)
   refine⟨rfl,vq0,vq0,x.heap.size+1,x.heap.size,vq0,vq0,oM,oM,hsx,?_,(hk2.block _ (by rw[hs1];simp) oM).trans hx1,hx2⟩;exact ykt (ykt (hEx.trans hE2) rfl (λ b hb=>oM) hk1) rfl (λ b hb=>oM) hk2
 ·rintro σ ds A ⟨rfl,hs0,hs1,b6,b7,hs6,hs7,hne,hb6,hb7,hE,hc6,hc7⟩;have hl6:=(yaa.1 hc6).1;have hl7:=(yaa.1 hc7).1;repeat refine c_r ?_
  refine rq ?_;intro gd K hgd hK;try simp (disch:=first|omega|assumption|rfl) only[go_sem,hs0,hs1]
  refine yfm (down_ok hT hs hr hn hlen hE) ?_;rintro _ w3 ⟨hE3,cap,rfl,hit⟩;try simp only[go_sem]
  refine hK _ _ ?_;clear hK hgd;clear K;try clear gd
  repeat refine c_r ?_
  generalize hd:dep s.names (zag n)=d at*;have hs3:=hE3.size;refine zd4 (g:=235) (cap:=cap) vq0 rfl (hit (λ b=>b=b6\/b=b7) (λ b hb=>oM)) ykr (ynl _) (λ b hb=>oM)
   (λ x A args h=>by rw[h];rfl)
   (λ pre A=>Ext w A/\A.heap[b6]? =some (.cells #[vi ((pre.length - 1:Nat))] 3 (0,0))/\A.heap[b7]? =some (.cells #[zaA (s.nb (sfx (zag n) (pre.length - 1)))] 251 (0,0)))
   (λ _ _ _=>False) ?_ (λ _ _ _ _ h _=>h.elim) ?_ ?_ ?_ (λ _ _ _ _ _ _ _ h _=>h.elim)
  ·rintro pre A B ⟨h1,h2,h3⟩ hk;have ne1:¬two w3.heap.size b6:=by unfold two;omega
   have ne2:¬two w3.heap.size b7:=by unfold two;omega
   exact⟨ykt h1 rfl (λ b hb=>by unfold two at hb;have:=hE.size;omega) hk,(hk.block _ (yaa.1 h2).1 ne1).trans h2,(hk.block _ (yaa.1 h3).1 ne2).trans h3⟩
  ·exact⟨hE.trans hE3,(hE3.block _ hl6 (λ h=>h)).trans hc6,by rw[ybe,zko];exact(hE3.block _ hl7 (λ h=>h)).trans hc7⟩
  ·rintro lp pre x suf A1 args hxs hszA ⟨hEA,hc6',hc7'⟩ rfl;obtain rfl:=zmN hxs;repeat (first|refine c_r ?_| (refine zcx (by rfl) ?_;intro gd K hgd hK;simp (disch:=first|omega|assumption|rfl) only[go_sem,zaA];refine hK _ _ ?_;clear hK hgd;clear K gd))
   refine⟨rfl,KeepB.refl _ _ _,λ A2 hA2=>?_⟩;have ne1:¬two w3.heap.size b6:=by unfold two;omega
   have ne2:¬two w3.heap.size b7:=by unfold two;omega
   have hc6:=(hA2.block _ (yaa.1 hc6').1 ne1).trans hc6';have hc7:=(hA2.block _ (yaa.1 hc7').1 ne2).trans hc7';have hE2':Ext w A2:=ykt hEA rfl (λ b hb=>by unfold two at hb;have:=hE.size;omega) hA2;have hl62:=(yaa.1 hc6).1;have hl72:=(yaa.1 hc7).1;repeat refine c_r ?_
   refine rq ?_;intro gd K hgd hK;try simp (disch:=first|omega|assumption|rfl) only[go_sem,hs6,hs7,zaA]
   refine zbx rfl rfl rfl hc6 (by simp) (by simp) ?_;intro x1 hz1 hx1 hk1;try simp (disch:=first|omega|assumption|rfl) only[go_sem,hs6,hs7,zaA]
   refine zbx rfl rfl rfl ((hk1.block _ hl72 oM).trans hc7) (by simp) (by simp) ?_;intro x2 hz2 hx2 hk2;refine hK _ _ ?_;clear hK hgd;clear K;try clear gd
   repeat refine c_r ?_
   have e:(pre++ [pre.length]).length - 1=pre.length:=by simp
   refine⟨⟨ykt (ykt hE2' rfl (λ b hb=>oM) hk1) rfl (λ b hb=>oM) hk2,?_,?_⟩,(hk1.toB (by have:=hA2.size;omega) (λ i _ h=> .inl h)).trans (hk2.toB (by have:=hA2.size;omega) (λ i _ h=> .inr h))⟩
   ·rw[e];exact(hk2.block _ oM oM).trans hx1
   ·rw[e];exact hx2
  ·rintro w4 hsz4 ⟨hE4,hc6,hc7⟩ hD;rw[List.length_range,Nat.add_sub_cancel]at hc6 hc7;repeat refine c_r ?_
   refine zaF (λ _=>false) [(0,true),(1,true),(2,true),(3,true)] NoS mixed kR ?_;intro gd K x hgd hx hxe hK;clear hxe;have hc6':zad x (some ⟨b6,0,.none⟩)=some (vi d):=by
    show x.cell? _=_;rw[zaM ((hx.block _ (yaa.1 hc6).1 (λ h=>h)).trans hc6)];rfl
   have hc7':zad x (some ⟨b7,0,.none⟩)=some (zaA (s.nb (sfx (zag n) d))):=by
    show x.cell? _=_;rw[zaM ((hx.block _ (yaa.1 hc7).1 (λ h=>h)).trans hc7)];rfl
   simp (disch:=first|omega|assumption|rfl) only[go_sem,hs6,hs7,zaA]at hc6' hc7' ⊢;simp (disch:=first|omega|assumption|rfl) only[go_sem,hs6,hs7,hc6',hc7'];refine hK _ _ ?_;clear hK hgd;clear K;try clear gd
   repeat refine c_r ?_
   refine ziy (by simp) rfl ntmps173 (by simp only[go_sem];rfl) (by simp only[go_sem];rfl) ((hx.block _ (yaa.1 hD).1 (λ h=>h)).trans hD) ?_;intro w5 hk5 _;exact⟨rfl,ykt (hE4.trans hx) rfl (λ b hb=>by have:=hE.size;omega) hk5⟩
end T_bool
namespace T_bool
theorem Len_ok{tb:Nat}{s:TS}(hT:TAt w tb s):
  Fn prog 91 #[zaA tb] w (λ v w'=>v= .int .i64 (IntKind.i64.wrap s.names.length)/\Ext w w'):=by
 have hc:zad w (some ⟨tb,1,.none⟩)=some (.int .i64 (IntKind.i64.wrap s.names.length)):=by
  show w.cell? _=_;rw[zaM hT.root];rfl
 refine enx func91 ntmps91 ?_;refine gz0 ?_;refine rq ?_;intro gd K hgd hK;simp (disch:=first|omega|assumption|rfl) only[go_sem,zaA,hc];apply hK;refine cZ ?_;refine rt0 ntmps91 ?_;exact⟨rfl,Keep.refl _ _⟩
end T_bool
namespace T_bool
structure Puts(s:TS)(f:Nm)(v:Value)(s':TS):Prop where
 names:∀g,g∈s'.names↔g∈s.names\/g<:+f
 val:∀g,s'.val g=if g=f then v else s.val g
 has:∀g,s'.has g=if g=f then true else s.has g
structure Grown(s:TS)(f:Nm)(k:Nat)(s':TS):Prop where
 names:∀g,g∈s'.names↔g∈s.names\/∃j,j<=k/\g=sfx f j
 val:∀g,s'.val g=s.val g
 has:∀g,s'.has g=s.has g
theorem zmd(a:Int):IntKind.i64.wrap (IntKind.i64.wrap a+1)=IntKind.i64.wrap (a+1):=by
 simp only[IntKind.wrap_i64];omega
theorem zll(f:Nm)(k:Nat):sfx f k<:+f:=ycX _ _
theorem zlk{f g:Nm}(h:g<:+f):∃j,j<=f.length/\g=sfx f j:=by
 obtain⟨p,rfl⟩:=h;refine⟨g.length,sM,?_⟩;simp[sfx]
theorem Put_ok{tb:Nat}{s:TS}(hT:TAt w tb s)(hs:TOk s)(hr:∀A,Keep (tblk tb s) w A->Row A nv (n.map vs))(hn:LB n)(hlen:n.length<=9000000000000000000)
  (hv:one v=true):
  Fn prog 126 #[zaA tb,nv,v] w (λ _ w'=>∃s',TOk s'/\TAt w' tb s'/\Puts s (zag n) v s'/\Keep (tblk tb s) w w'/\(∀b,tblk tb s' b->tblk tb s b\/w.heap.size<=b)):=by
 have hr0:=hr w ykr;obtain⟨a,ca,rfl,hca,hla⟩:=id hr0;have hrA:∀{A},Keep (tblk tb s) w A->∀j (h:j<(n.map vs).length),zad A (adr a j)=some (n.map vs)[j]:=fun {A} hA=>by
  obtain⟨a',c',e,_,h⟩:=hr A hA;simp only[Value.slice.injEq,true_and]at e;obtain⟨rfl,rfl⟩:=e;exact h
 simp only[ylm]at*;have hdl:=zi8 s.names (zag n);have hfl:=zax n;rw[zax]at hdl;refine enx func126 ntmps126 ?_;refine rqz ?_;intro gd K hgd hK;refine sg0 ?_;refine yfm (zlV hT hs hr0 hn oM) ?_;rintro _ w1 ⟨rfl,hE1⟩;refine sg0 ?_;apply hK;have hdin:=znP hs (zag n);have hdout:=λ j=>@zjG _ _ hs (zag n) j;have hdnb:∀j,j<=dep s.names (zag n)->sfx (zag n) j∈s.names:=λ j hj=>zmu hs hj;generalize hd:dep s.names (zag n)=d at*;refine cZ ?_;refine zan (λ m σ ds A=>ds=[]/\∃k s',k+m=n.length/\σ 6=vi k/\σ 7=zaA (s'.nb (sfx (zag n) k))/\σ 0=zaA tb/\σ 1= .slice a n.length ca/\σ 2=v/\
  TOk s'/\TAt A tb s'/\Grown s (zag n) k s'/\Keep (tblk tb s) w A/\(∀b,tblk tb s' b->tblk tb s b\/w.heap.size<=b)/\sfx (zag n) k∈s'.names/\(∀j,k<j->j<=n.length->sfx (zag n) j∉s'.names)) (n.length - d) ?_ ?_
 ·refine⟨rfl,d,s,oM,vq0,vq0,vq0,vq0,vq0,hs,hT.ext hE1,⟨λ g=>⟨.inl,?_⟩,λ _=>rfl,λ _=>rfl⟩,hE1.keep,λ b hb=> .inl hb,hdin,λ j h1 h2=>hdout j h1 oM⟩;rintro(h| ⟨j,hj,rfl⟩)
  ·exact h
  ·exact hdnb j hj
 ·rintro m σ ds A ⟨rfl,k,s',hkm,h6,h7,h0,h1,h2,hs',hTA,hG,hKA,hblk,hin,hout⟩;refine gz (az2 h6 h1) ?_;refine wc0 ?_ ?_
  ·intro hlt;simp only[ydT]at hlt;refine rqz ?_;intro gd K hgd hK;refine sg0 ?_;refine yfm (zfW A) ?_;rintro _ A1 ⟨rfl,rfl⟩;refine sg0 ?_;apply hK;have hEA:=(yea A (.map #[] 0)).trans (yea _ (.cells #[.map (some A.heap.size),(.bool false),.bool false] 306));have hnm:MapAt ((A.alloc (.map #[] 0)).alloc (.cells #[.map (some A.heap.size),(.bool false),.bool false] 306)) A.heap.size []:=(zjO A).block (yaE _ _ _ sM);have hnn:=zam (A.alloc (.map #[] 0)) (.cells #[.map (some A.heap.size),(.bool false),.bool false] 306);rw[zai]at hnn;revert hEA hnm hnn;generalize (A.alloc (.map #[] 0)).alloc (.cells #[.map (some A.heap.size),(.bool false),.bool false] 306)=A1;intro hEA hnm hnn;refine cZ ?_;refine zaF (λ i=>i==14) [(0,true),(1,true),(2,true),(3,true),(4,true),(5,true),(6,true),(7,true),(8,true),(9,true),(10,true),(11,true),(13,true),(12,false),(14,false)] NoS mixed kR ?_;intro gd K x hgd hx hxe hK;have hEx:Ext A x:=hEA.trans hx;have hTx:=hTA.ext hEx;have hKx:Keep (tblk tb s) w x:=hKA.trans hEx.keep;have hmb:zad x (some ⟨s'.nb (sfx (zag n) k),0,.none⟩)=some (.map (some (s'.mb (sfx (zag n) k)))):=by
    show x.cell? _=_;rw[zaM (hTx.node _ hin)];rfl
   have hla':=hrA hKx;have hsa:a.isSome=true:=zaf (hla 0 oM);have hix:((n.length:Int) - 1 - k).toNat=n.length - 1 - k:=oM;simp (disch:=first|omega|assumption|rfl) only[go_sem,h0,h1,h2,h6,h7,zaA,hmb,hix,hla',yaA];refine yfm (zc4 _ _ (LB.get hn _)) ?_;rintro _ y ⟨rfl,hy⟩;refine⟨.inr hy,?_⟩;have hTy:=hTx.ext hy;have hlab:zaJ n[n.length - 1 - k]::sfx (zag n) k=sfx (zag n) (k+1):=by
    rw[zkp oM];simp[zag]
   have hnin:zaJ n[n.length - 1 - k]::sfx (zag n) k∉s'.names:=by rw[hlab];exact hout _ oM oM
   refine sg0 ?_;refine zdK (r:=s'.mb (sfx (zag n) k)) (l:=zbh s' (sfx (zag n) k)) (key:=zaJ n[n.length - 1 - k]) (v:=zaA (A.heap.size+1)) rfl rfl vq0 vq0 vq0 (hTy.map _ hin) (by rw[zfn,if_neg hnin]) ?_;intro A2 hm2 hk2 hsz2;refine⟨.inl rfl,?_⟩;refine sg0 ?_;apply hK;have hEy:=hEx.trans hy;have htbm:tb≠s'.mb (sfx (zag n) k):=λ e=>by
    obtain⟨es,clk,h2,_⟩:=hTA.map _ hin;rw[←e,hTA.root]at h2;cases h2
   have hroot2:A2.heap[tb]? =some (.cells #[zaA (s'.nb []),.int .i64 (IntKind.i64.wrap s'.names.length)] 253 (0,0)):=
    (hk2.block _ (by have:=hTy.lt (.inl rfl);omega) htbm).trans hTy.root
   have hcn:zad A2 (some ⟨tb,1,.none⟩)=some (.int .i64 (IntKind.i64.wrap s'.names.length)):=by
    show A2.cell? _=_;rw[zaM hroot2];rfl
   refine gz0 ?_;refine rq ?_;intro gd K hgd hK;try simp (disch:=first|omega|assumption|rfl) only[go_sem,h0,zaA,hcn]
   rw[zmd];refine zbx rfl rfl rfl hroot2 sM sM ?_;intro A3 hsz3 hb3 hk3;apply hK;have hz3:A.heap.size+2<=A1.heap.size:=by have:=(yaa.1 hnn).1;omega
   have hzx:=hx.size;have hzy:=hy.size;have htbA:=hTA.lt (.inl rfl);have hmbA:=hTA.lt (.inr ⟨_,hin,.inr rfl⟩);have hb23:∀b,b<y.heap.size->b≠tb->b≠s'.mb (sfx (zag n) k)->A3.heap[b]? =y.heap[b]?:=λ b hb h1 h2=>
    (hk3.block b oM h1).trans (hk2.block b hb h2)
   have hTA3:TAt A3 tb (s'.add (sfx (zag n) (k+1)) A.heap.size (.bool false)):=by
    rw[←hlab];refine hTA.add hs' hin hnin (ynl _) ?_ ?_ ?_ ?_ ?_
    ·rw[hb3];rfl
    ·exact(hb23 _ oM oM oM).trans ((hy.block _ oM (λ h=>h)).trans ((hx.block _ oM (λ h=>h)).trans hnn))
    ·exact hnm.block ((hb23 _ oM oM oM).trans ((hy.block _ oM (λ h=>h)).trans (hx.block _ oM (λ h=>h))))
    ·exact hm2.block (hk3.block _ oM (λ e=>htbm e.symm))
    ·intro b hb h1 h2;have hbA:=hTA.lt hb;exact(hb23 b oM h1 h2).trans (hEy.block b hbA (λ h=>h))
   have hKA3:Keep (tblk tb s) w A3:=by
    have hb1:∀b,tblk tb s' b->b<w.heap.size->tblk tb s b:=λ b hb hlt=>(hblk b hb).resolve_right oM;refine⟨?_,?_,?_,?_,λ b hb hnb=>?_,yaD hKA.drawn (yaD hEy.drawn (yaD hk2.drawn hk3.drawn))⟩
    ·rw[hk3.os,hk2.os,hEy.os,hKA.os]
    ·rw[hk3.tape,hk2.tape,hEy.tape,hKA.tape]
    ·rw[hk3.output,hk2.output,hEy.output,hKA.output]
    ·have:=hKA.size;omega
    ·have hsA:=hKA.size;refine(hb23 b oM (λ e=>hnb (.inl e)) (λ e=>hnb (hb1 b (.inr ⟨_,hin,.inr e⟩) hb))).trans ((hEy.block b oM (λ h=>h)).trans (hKA.block b hb hnb))
   have hmem:∀f,f∈(s'.add (sfx (zag n) (k+1)) A.heap.size (.bool false)).names↔f∈s'.names\/f=sfx (zag n) (k+1):=λ f=>by simp[TS.add]
   refine gz h6 ?_;refine⟨m - 1,oM,rfl,k+1,s'.add (sfx (zag n) (k+1)) A.heap.size (.bool false),oM,by simp only[go_sem];rfl,?_,vq1 h0,vq1 h1,vq1 h2,?_,hTA3,?_,hKA3,?_,by rw[hmem];exact .inr rfl,?_⟩
   ·have:(s'.add (sfx (zag n) (k+1)) A.heap.size (.bool false)).nb (sfx (zag n) (k+1))=A.heap.size+1:=by simp[TS.add]
    rw[this];simp only[go_sem]
   ·rw[←hlab];exact hs'.add rfl hin hnin (λ f hf=>hTA.lt (.inr ⟨f,hf,.inl rfl⟩)) (λ f hf=>hTA.lt (.inr ⟨f,hf,.inr rfl⟩))
   ·refine⟨λ g=>?_,λ g=>?_,λ g=>?_⟩
    ·rw[hmem,hG.names];constructor
     ·rintro((h| ⟨j,hj,rfl⟩)|rfl)
      ·exact .inl h
      ·exact .inr ⟨j,oM,rfl⟩
      ·exact .inr ⟨k+1,ynl _,rfl⟩
     ·rintro(h| ⟨j,hj,rfl⟩)
      ·exact .inl (.inl h)
      ·by_cases e:j=k+1
       ·subst e;exact .inr rfl
       ·exact .inl (.inr ⟨j,oM,rfl⟩)
    ·simp only[TS.add]
     split
     ·rename_i e;subst e;rw[hlab]at hnin;rw[←hG.val,(hs'.out _ hnin).1]
     ·exact hG.val g
    ·simp only[TS.add]
     split
     ·rename_i e;subst e;rw[hlab]at hnin;rw[←hG.has,(hs'.out _ hnin).2]
     ·exact hG.has g
   ·rintro b (rfl| ⟨g,hg,hgb⟩)
    ·exact .inl (.inl rfl)
    ·rw[hmem]at hg;have hKs:=hKA.size;simp only[TS.add]at hgb
     split at hgb
     ·right;omega
     ·rename_i hne;exact hblk b (.inr ⟨g,hg.resolve_right hne,hgb⟩)
   ·intro j hj1 hj2;rw[hmem];rintro(h|h)
    ·exact hout j oM hj2 h
    ·have:=congrArg List.length h;rw[zmt oM,zmt oM]at this;omega
  ·intro hge;simp only[ydF]at hge;have hkn:k=n.length:=oM;subst hkn;have hsf:sfx (zag n) n.length=zag n:=by rw[←zax n];exact zhF _
   rw[hsf]at h7 hin;have hnode:=hTA.node _ hin;refine rqz ?_;intro gd K hgd hK;try simp (disch:=first|omega|assumption|rfl) only[go_sem,h7,h2,zaA]
   refine zbx rfl rfl hv hnode sM sM ?_;intro A3 hsz3 hb3 hk3;try simp (disch:=first|omega|assumption|rfl) only[go_sem,h7,h2,zaA]
   refine zbx rfl rfl rfl hb3 sM sM ?_;intro A4 hsz4 hb4 hk4;refine en hK ?_;refine zap sM rfl ⟨s'.set (zag n) v,hs'.set hin hv,?_,?_,?_,?_⟩
   ·refine hTA.set hs' hin (by rw[hb4];rfl) (λ b hb hne=>?_);have:=hTA.lt hb;exact(hk4.block b oM hne).trans (hk3.block b this hne)
   ·refine⟨λ g=>?_,λ g=>?_,λ g=>?_⟩
    ·show g∈s'.names↔_;rw[hG.names];constructor
     ·rintro(h| ⟨j,hj,rfl⟩)
      ·exact .inl h
      ·exact .inr (zll _ _)
     ·rintro(h|h)
      ·exact .inl h
      ·obtain⟨j,hj,rfl⟩:=zlk h;exact .inr ⟨j,oM,rfl⟩
    ·simp only[TS.set]
     split
     ·rfl
     ·exact hG.val g
    ·simp only[TS.set]
     split
     ·rfl
     ·exact hG.has g
   ·have hb1:∀b,tblk tb s' b->b<w.heap.size->tblk tb s b:=λ b hb hlt=>(hblk b hb).resolve_right oM;have hKs:=hKA.size;refine⟨by rw[hk4.os,hk3.os,hKA.os],by rw[hk4.tape,hk3.tape,hKA.tape],by rw[hk4.output,hk3.output,hKA.output],oM,λ b hb hnb=>?_,yaD hKA.drawn (yaD hk3.drawn hk4.drawn)⟩;have hne:b≠s'.nb (zag n):=λ e=>hnb (hb1 b (.inr ⟨_,hin,.inl e⟩) hb);exact(hk4.block b oM hne).trans ((hk3.block b oM hne).trans (hKA.block b hb hnb))
   ·exact hblk
end T_bool
namespace T_bool
def encK(k:Lab)(_:World)(args:Array Value):Prop:=args=#[vs k]
def preK(l:List (Lab×Value))(pre:List Lab)(k:Lab):Prop:=k∈l.map (·.1)/\k∉pre/\pre.Nodup/\∀j∈pre,j∈l.map (·.1)
def fullK(l:List (Lab×Value))(xs:List Lab):Prop:=xs.Perm (l.map (·.1))
theorem zcM{α:Type}[DecidableEq α]:∀{l m:List α},l.Nodup->(∀a∈l,a∈m)->l.length<=m.length
 | [],_,_,_=>yba _
 |a::l,m,h,hs=>by
  have h1:=List.nodup_cons.1 h;have ha:=hs a (yal ..);have:=zcM (l:=l) (m:=m.erase a) h1.2 (λ b hb=>(List.mem_erase_of_ne (λ (e:b=a)=>h1.1 (e▸hb))).2 (hs b (yak _ hb)));rw[List.length_erase_of_mem ha]at this;have:=List.length_pos_of_mem ha;simp;omega
theorem keys1_ok{n0:Nat}{m:Nat}{l:List (Lab×Value)}(hb:W0.cell? ⟨b,0,.none⟩=some (.map (some m)))(hm:MapAt W0 m l)(hn:(l.map (·.1)).Nodup)
  (hbn:b<n0) (hbC:¬C b) (hmn:m<n0) (hmC:¬C m):
  zkd prog 239 #[.pointer (some ⟨b,0,.none⟩)] W0 n0 C 1 (preK l) (fullK l) encK:=by
 intro lp J Jx W hW hnW hJ hJx hY h0;have hmW:MapAt W m l:=hm.block (hW.block _ (by obtain⟨es,clk,h1,_⟩:=hm;exact(yaa.1 h1).1) (λ h=>h));have hcell:zad W (some ⟨b,0,.none⟩)=some (.map (some m)):=ze3 hW hb;refine enx func239 ntmps239 ?_;refine rqz ?_;intro gd K hgd hK;refine sgz hcell ?_;refine op_range rfl vq0 hmW ?_;intro W1 hit1 hE1 hs1;refine sg0 ?_;refine en hK ?_;refine zan (λ k σ ds v=>ds=[]/\σ 5= .pointer (some ⟨W.heap.size,0,.none⟩)/\σ 0= .func (.yield lp) #[] #[]/\∃pre,MapIt v W.heap.size m l pre/\J pre v/\KeepB n0 C W v/\W.heap.size+1<=v.heap.size/\
  pre.Nodup/\(∀j∈pre,j∈l.map (·.1))/\k+pre.length=(l.map (·.1)).length) (l.map (·.1)).length ?_ ?_
 ·refine⟨rfl,vq0,vq0,[],hit1,?_,hE1.toB hnW (λ _ _ h=>h.elim),oM,sM,sM,sM⟩;exact hJ _ _ _ h0 (hE1.mono (λ _ _ h=>h.elim))
 ·rintro k σ ds v ⟨rfl,h5,hf0,pre,hit,hj,hKB,hsz,hnd,hsub,hlen⟩;refine rqz ?_;intro gd K hgd hK;refine sgz h5 ?_;have hkr:∀x,Keep (λ b=>b=W.heap.size) v x->KeepB n0 C W x:=λ x hx=>hKB.trans (hx.toB (by have:=hKB.size;omega) (λ i hi h=>oM));refine op_next ((vq1 h5)) hit hn ?_ ?_
  ·intro hall;refine sg0 ?_;apply hK;refine wcz ?_ ?_
   ·intro h;simp at h
   ·intro _;refine cZ ?_;refine zap sM rfl (.inl ⟨pre,?_,hj⟩);exact(ybR hnd hn).2 λ a=>⟨hsub a,hall a⟩
  ·intro key u w2 hkv hnk hit2 hk2 hs2;have hkm:key∈l.map (·.1):=yaq.2 ⟨_,hkv,rfl⟩;refine sg0 ?_;apply hK;refine wcz ?_ ?_
   ·intro _;refine rqz ?_;intro gd K hgd hK;refine sgz h5 ?_;refine op_entry ((vq1 h5)) hit2 (λ u'=>?_);refine sg0 ?_;apply hK;have hj2:J pre w2:=hJ _ _ _ hj (hk2.mono (λ i _ h=>by unfold span;omega));refine rqz ?_;intro gd K hgd hK;refine sgz hf0 ?_;refine Yld.mono (hY pre key w2 _ ⟨hkm,hnk,hnd,hsub⟩ hj2 oM (hkr _ hk2) rfl) ?_;rintro u z (⟨rfl,hj',hk',ho'⟩| ⟨rfl,hjx⟩)
    ·refine sg0 ?_;apply hK;refine wcz ?_ ?_
     ·intro h;simp at h
     ·intro _;refine cZ ?_;have hnd':(pre++ [key]).Nodup:=by
       rw[List.nodup_append];exact⟨hnd,sM,λ a ha b hb=>by simp at hb;subst hb;rintro rfl;exact hnk ha⟩
      have hsub':∀j∈pre++ [key],j∈l.map (·.1):=λ j hj=>by
       rcases yai.1 hj with h|h
       ·exact hsub j h
       ·rw[yae.1 h];exact hkm
      have hlt:(pre++ [key]).length<=(l.map (·.1)).length:=zcM hnd' hsub';refine⟨k - 1,?_,rfl,vq1 h5,vq1 hf0,pre++ [key],?_,hj',(hkr _ hk2).trans hk',?_,hnd',hsub',?_⟩
      ·simp at hlt hlen;omega
      ·refine hit2.block ?_ (ho' _ (by unfold span;omega));exact hk'.block _ hmn hmC
      ·have:=hk'.size;omega
      ·simp at hlt hlen ⊢;omega
    ·refine sg0 ?_;apply hK;refine wcz ?_ ?_
     ·intro _;refine cZ ?_;exact zap sM rfl (.inr ⟨pre,key,⟨hkm,hnk,hnd,hsub⟩,hjx⟩)
     ·intro h;simp at h
   ·intro h;simp at h
theorem Keys_ok{m:Nat}{l:List (Lab×Value)}(hm:MapAt w m l)(hn:(l.map (·.1)).Nodup):
  Fn prog 217 #[.map (some m)] w (λ v w'=>Ext w w'/\∃cap,v= .func (.func 239) #[] cap/\
   ∀n0 C,w'.heap.size<=n0->(∀b,C b->w'.heap.size<=b)->zkd prog 239 cap w' n0 C 1 (preK l) (fullK l) encK):=by
 refine enx func217 ntmps217 ?_;refine gz0 ?_;refine rt0 ntmps217 ?_;have hmlt:m<w.heap.size:=by obtain⟨es,clk,h1,_⟩:=hm;exact(yaa.1 h1).1
 refine⟨yea _ _,_,rfl,λ n0 C hn0 hC=>?_⟩;rw[zai]at hn0 hC;refine keys1_ok ?_ (hm.block (yaE _ _ _ hmlt)) hn oM (λ h=>by have:=hC _ h;omega) oM (λ h=>by have:=hC _ h;omega);rw[zaM (zam _ _)];rfl
end T_bool
theorem zbY{base:Nat}{size:Nat}{n:Nat}{xs:List Value}(h:w.ownsRow base e size v n xs)(hk:Keep S w x)(hS:∀b,base<=b->¬S b):x.ownsRow base e size v n xs:=by
 obtain⟨h1,h2⟩:=h;refine⟨h1,?_⟩;rcases h2 with h2| ⟨g,cap,cur,hv,hb,hg,rest⟩
 ·exact .inl h2
 ·exact .inr ⟨g,cap,cur,hv,hb,(hk.block _ (yaa.1 hg).1 (hS _ hb)).trans hg,rest⟩
theorem zkz{base:Nat}{size:Nat}{n:Nat}{xs:List Value}(h:w.ownsRow base e size v n xs)(hb:some b=v.ownBlock):base<=b:=by
 rcases h.2 with ⟨rfl,_⟩| ⟨g,cap,cur,rfl,hg,_⟩
 ·cases hb
 ·cases hb;exact hg
def encT(k:Lab)(_:World)(args:Array Value):Prop:=args=#[vs k]
theorem zjy{g:FuncId}{cap:Array Value}{own:Nat}{Pre:List Lab->Lab->Prop}{Full:List Lab->Prop}(hc:zaD prog g=true)
  (hit:∀n0 C,w.heap.size<=n0->(∀b,C b->w.heap.size<=b)->zkd prog g cap w n0 C own Pre Full encT) (hlen:∀pre x,Pre pre x->pre.length<1000000000000):
  Fn prog 245 #[.slice .none 0 0,.func (.func g) #[] cap] w (λ v w'=>Ext w w'/\∃xs,Full xs/\w'.ownsRow w.heap.size 9 1 v xs.length (xs.map vs)):=by
 refine enx func245 ntmps245 ?_;refine gz0 ?_;have hbox:=zam w (.cells #[.slice .none 0 0] 26 (0,0));have hE0:=yea w (.cells #[.slice .none 0 0] 26 (0,0));have hs0:=zai w (.cells #[.slice .none 0 0] 26 (0,0));revert hbox hE0 hs0;generalize w.alloc (.cells #[.slice .none 0 0] 26 (0,0))=w1;intro hbox hE0 hs0;refine zk7 (g:=g) (cap:=cap) vq0 hc (hit w1.heap.size (λ b=>b=w.heap.size) hE0.size (λ b hb=>oM)) hE0 (ynl _) (λ b hb=>oM)
  (λ x A args h=>by rw[h];rfl)
  (λ pre A=>Ext w A/\∃v,A.heap[w.heap.size]? =some (.cells #[v] 26 (0,0))/\A.ownsRow (w1.heap.size+2+own) 9 1 v pre.length (pre.map vs))
  (λ _ _ _=>False) ?_ (λ _ _ _ _ h _=>h.elim) ?_ ?_ ?_ (λ _ _ _ _ _ _ h _=>h.elim)
 ·rintro pre A B ⟨h1,v,h2,h3⟩ hk;exact⟨ykt h1 rfl (λ b hb=>by unfold span at hb;omega) hk,v,(hk.block _ (yaa.1 h2).1 (by unfold span;omega)).trans h2,zbY h3 hk (λ b hb=>by unfold span;omega)⟩
 ·exact⟨hE0,_,hbox,rfl,.inl ⟨rfl,rfl⟩⟩
 ·rintro lp pre x A args hpx hszA ⟨hEA,v,hbx,hown⟩ rfl;refine gz0 ?_;refine⟨rfl,KeepB.refl _ _ _,λ A2 hA2=>?_⟩;have hEA2:Ext w A2:=ykt hEA rfl (λ b hb=>by unfold two at hb;omega) hA2;have hb2:=(hA2.block _ (yaa.1 hbx).1 (by unfold two;omega)).trans hbx;have hown2:=zbY hown hA2 (λ b hb=>by unfold two;omega);have hs2:=hA2.size;have hcell:zad A2 (some ⟨w.heap.size,0,.none⟩)=some v:=by
   show A2.cell? _=_;rw[zaM hb2];rfl
  have hpl:=hlen _ _ hpx;have hvs:∃a n c,v= .slice a n c:=by
   rcases hown2.2 with ⟨rfl,_⟩| ⟨g,cap,cur,rfl,_⟩
   ·exact⟨_,_,_,rfl⟩
   ·exact⟨_,_,_,rfl⟩
  obtain⟨sa,sn,sc,rfl⟩:=hvs;refine rqz ?_;intro gd K hgd hK;refine sgz hcell ?_;have hbs:bsC prog 26 1 [(0,vs x)]=some (9,#[vs x]):=zic (z:=vs []) rfl rfl rfl rfl rfl;unfold bsL bsK;rw[hbs];simp only[];have hbn:=zam A2 (.cells #[vs x] 9 (0,0));have hE3:=yea A2 (.cells #[vs x] 9 (0,0));have hs3:=zai A2 (.cells #[vs x] 9 (0,0));revert hbn hE3 hs3;generalize A2.alloc (.cells #[vs x] 9 (0,0))=A3;intro hbn hE3 hs3;refine sg0 ?_;refine zdL (P:=prog) (e:=9) (size:=1) (bytes:=16) (m:=1) (news:=[vs x]) rfl rfl rfl rfl rfl rfl (by decide) vr0 vr0 (zbY hown2 hE3 (λ _ _ h=>h)) ?_ ?_ ?_ ?_ oM ?_
  ·refine⟨_,_,rfl,rfl,λ j hj=>?_⟩;have:j=0:=sU hj;subst this;rw[zaY];show A3.cell? _=_;rw[zaM hbn];rfl
  ·intro q hq;rw[yae.1 hq];rfl
  ·simp[maxLen];omega
  ·omega
  intro v' A4 hown4 hk4 _;have hge:∀b,some b=(Value.slice sa sn sc).ownBlock->w1.heap.size+2+own<=b:=λ b hb=>zkz hown2 hb;have hb4:=(hk4.block _ (by have:=(yaa.1 hb2).1;omega) (λ h=>by have:=hge _ h;omega)).trans ((hE3.block _ (yaa.1 hb2).1 (λ h=>h)).trans hb2);have hov:one v'=true:=by
   rcases hown4.2 with ⟨rfl,_⟩| ⟨g,cap,cur,rfl,_⟩<;>rfl
  refine sg0 ?_;refine zbx rfl rfl hov hb4 sM sM ?_;intro A5 hs5 hb5 hk5;refine en hK ?_;have hs4:=hk4.size;refine⟨⟨?_,v',hb5,?_⟩,((hE3.toB oM (λ _ _ h=>h.elim)).trans (hk4.toB oM (λ b hb h=>by have:=hge _ h;omega))).trans (hk5.toB oM (λ b _ h=>h))⟩
  ·exact ykt (ykt (hEA2.trans hE3) rfl (λ b hb=>by have:=hge _ hb;omega) hk4) rfl (λ b hb=>oM) hk5
  ·have:=zbY hown4 hk5 (λ b hb=>oM);simpa using this
 ·rintro xs w4 hfull hsz4 ⟨hE4,v,hb4,hown4⟩ hD;have hcell:zad w4 (some ⟨w.heap.size,0,.none⟩)=some v:=by
   show w4.cell? _=_;rw[zaM hb4];rfl
  refine gz hcell ?_;refine zcY sM rfl ntmps245 (by simp only[go_sem];rfl) hD ?_;intro w5 hk5 _;have h5:=zbY hown4 hk5 (λ b hb=>oM);refine⟨ykt hE4 rfl (λ b hb=>oM) hk5,xs,hfull,h5.1,?_⟩;rcases h5.2 with h| ⟨g,c,cur,h1,h2,h3⟩
  ·exact .inl h
  ·exact .inr ⟨g,c,cur,h1,oM,h3⟩
theorem zmb{g:FuncId}{cap:Array Value}{own:Nat}{Pre:List Lab->Lab->Prop}{Full:List Lab->Prop}(hc:zaD prog g=true)
  (hit:∀n0 C,w.heap.size<=n0->(∀b,C b->w.heap.size<=b)->zkd prog g cap w n0 C own Pre Full encT) (hlen:∀pre x,Pre pre x->pre.length<1000000000000):
  Fn prog 237 #[.func (.func g) #[] cap] w (λ v w'=>Ext w w'/\∃xs,Full xs/\w'.ownsRow w.heap.size 9 1 v xs.length (xs.map vs)):=by
 refine enx func237 ntmps237 ?_;refine gz0 ?_;refine rq ?_;intro gd K hgd hK;refine sg0 ?_;refine yfm (zjy hc hit hlen) ?_;rintro v w1 ⟨hE,xs,hf,ho⟩;refine sg0 ?_;refine en hK ?_;refine rt0 ntmps237 ?_;exact⟨hE,xs,hf,ho⟩
end Go.Proofs.YtfacfpcopcgbdaaGreat
namespace Go.Proofs
open Go.Shelf
def Tryz.sortL_ren:Go.Shelf.Ren:=⟨fun|6=>238|15=>247|14=>246|28=>258|29=>259|20=>250|21=>251|22=>252|23=>253|24=>254|25=>255|26=>256|27=>257|46=>261|47=>262|48=>263|49=>264|50=>265|57=>266|n=>n,fun|22=>26|24=>9|25=>300|3=>3|39=>358|0=>0|53=>99|55=>374|4=>4|46=>367|45=>366|50=>176|5=>5|9=>9|66=>375|70=>379|76=>381|77=>115|n=>n,fun|n=>n⟩
theorem Tryz.sortL:Go.Proofs.SlLaysF.n6 Tryz.prog Tryz.sortL_ren:={
 mixed:=by kernel_rfl
 f6:=⟨Tryz.f238.name,by decide,Tryz.func238.trans (congrArg some (by kernel_rfl))⟩
 f14:=⟨Tryz.f246.name,by decide,Tryz.func246.trans (congrArg some (by kernel_rfl))⟩
 f15:=Tryz.func247.trans (congrArg some (by kernel_rfl))
 f20:=⟨Tryz.f250.name,by decide,Tryz.func250.trans (congrArg some (by kernel_rfl))⟩
 f21:=⟨Tryz.f251.name,by decide,Tryz.func251.trans (congrArg some (by kernel_rfl))⟩
 f22:=⟨Tryz.f252.name,by decide,Tryz.func252.trans (congrArg some (by kernel_rfl))⟩
 f23:=⟨Tryz.f253.name,by decide,Tryz.func253.trans (congrArg some (by kernel_rfl))⟩
 f24:=⟨Tryz.f254.name,by decide,Tryz.func254.trans (congrArg some (by kernel_rfl))⟩
 f25:=⟨Tryz.f255.name,by decide,Tryz.func255.trans (congrArg some (by kernel_rfl))⟩
 f26:=⟨Tryz.f256.name,by decide,Tryz.func256.trans (congrArg some (by kernel_rfl))⟩
 f27:=⟨Tryz.f257.name,by decide,Tryz.func257.trans (congrArg some (by kernel_rfl))⟩
 f28:=Tryz.func258.trans (congrArg some (by kernel_rfl))
 f29:=Tryz.func259.trans (congrArg some (by kernel_rfl))
 f46:=⟨Tryz.f261.name,by decide,Tryz.func261.trans (congrArg some (by kernel_rfl))⟩
 f47:=Tryz.func262.trans (congrArg some (by kernel_rfl))
 f48:=Tryz.func263.trans (congrArg some (by kernel_rfl))
 f49:=⟨Tryz.f264.name,by decide,Tryz.func264.trans (congrArg some (by kernel_rfl))⟩
 f50:=⟨Tryz.f265.name,by decide,Tryz.func265.trans (congrArg some (by kernel_rfl))⟩
 f57:=⟨Tryz.f266.name,by decide,Tryz.func266.trans (congrArg some (by kernel_rfl))⟩
 t0:=Tryz.underlying0
 a0:=Tryz.isAgg0
 z0:=Tryz.sizeOf0
 v0:=Tryz.zeroValue0
 t3:=Tryz.underlying3
 a3:=Tryz.isAgg3
 z3:=Tryz.sizeOf3
 v3:=Tryz.zeroValue3
 t4:=Tryz.underlying4
 a4:=Tryz.isAgg4
 z4:=Tryz.sizeOf4
 v4:=Tryz.zeroValue4
 t5:=Tryz.underlying5
 a5:=Tryz.isAgg5
 z5:=Tryz.sizeOf5
 v5:=Tryz.zeroValue5
 t9:=Tryz.underlying9
 a9:=Tryz.isAgg9
 z9:=Tryz.sizeOf9
 v9:=Tryz.zeroValue9
 t22:=Tryz.underlying26
 a22:=Tryz.isAgg26
 z22:=Tryz.sizeOf26
 v22:=Tryz.zeroValue26
 a24:=Tryz.isAgg9
 z24:=Tryz.sizeOf9
 t25:=Tryz.underlying300
 a25:=Tryz.isAgg300
 z25:=Tryz.sizeOf300
 v25:=Tryz.zeroValue300
 t39:=Tryz.underlying358
 a39:=Tryz.isAgg358
 z39:=Tryz.sizeOf358
 v39:=Tryz.zeroValue358
 t45:=Tryz.underlying366
 a45:=Tryz.isAgg366
 z45:=Tryz.sizeOf366
 v45:=Tryz.zeroValue366
 t46:=Tryz.underlying367
 a46:=Tryz.isAgg367
 z46:=Tryz.sizeOf367
 v46:=Tryz.zeroValue367
 t50:=Tryz.underlying176
 a50:=Tryz.isAgg176
 z50:=Tryz.sizeOf176
 v50:=Tryz.zeroValue176
 t53:=Tryz.underlying99
 a53:=Tryz.isAgg99
 z53:=Tryz.sizeOf99
 v53:=Tryz.zeroValue99
 t55:=Tryz.underlying374
 a55:=Tryz.isAgg374
 z55:=Tryz.sizeOf374
 v55:=Tryz.zeroValue374
 t66:=Tryz.underlying375
 a66:=Tryz.isAgg375
 z66:=Tryz.sizeOf375
 v66:=Tryz.zeroValue375
 t70:=Tryz.underlying379
 a70:=Tryz.isAgg379
 z70:=Tryz.sizeOf379
 v70:=Tryz.zeroValue379
 t76:=Tryz.underlying381
 a76:=Tryz.isAgg381
 z76:=Tryz.sizeOf381
 v76:=Tryz.zeroValue381
 t77:=Tryz.underlying115
 a77:=Tryz.isAgg115
 z77:=Tryz.sizeOf115
 v77:=Tryz.zeroValue115}
end Go.Proofs
namespace Go.Proofs.YtfacfpcopcgbdaaGreat
open Go Tryz
variable {w w0 w1 W0 x A:World}{v u lv nv:Value}{cs l:List Value}{B b i j c cap:Nat}{t e:TypeId}{a:Option Addr}{S C:Nat->Prop}{q n o:Nm}{N:NetL}
theorem zjT{w':World}(h:Ext w w'):w'=Go.Sort.grow (w.drewN (w'.drawn - w.drawn)) (w'.heap.extract w.heap.size w'.heap.size):=by
 have h1:=h.drawn;have h2:=h.size;cases w;cases w';obtain⟨e1,e2,e3,_,hb,_⟩:=h;simp only at e1 e2 e3 hb h1 h2;subst e1 e2 e3;simp only[Go.Sort.grow,World.drewN,World.mk.injEq,true_and,and_true];refine⟨?_,oM⟩;apply Array.ext_getElem?;intro i;rw[Array.getElem?_append]
 split
 ·rename_i hi;exact hb i hi (λ h=>h)
 ·rename_i hi;rw[Array.getElem?_extract]
  split
  ·congr 1;omega
  ·rw[yck oM]
structure FLab where
 val:Lab
 fold:zaJ val=val
 len:val.length<=9000000000000000000
instance:Inhabited FLab:=⟨⟨[],rfl,by decide⟩⟩
def encF(x:FLab):Value:=vs x.val
def cmpF(x y:FLab):Int:=cmpL x.val y.val
theorem FLab.eq{x y:FLab}(h:x.val=y.val):x=y:=by cases x;cases y;cases h;rfl
theorem ltF_t{x y:FLab}:Go.Proofs.ltOf cmpF x y=true↔cmpL x.val y.val<0:=by unfold Go.Proofs.ltOf;exact decide_eq_true_iff
theorem zlz{x y:FLab}:Go.Proofs.ltOf cmpF x y=false↔¬cmpL x.val y.val<0:=by unfold Go.Proofs.ltOf;exact ydF
theorem swoF:Go.Sort.SWO (Go.Proofs.ltOf cmpF):=by
 refine⟨λ x=>?_,λ x y z h1 h2=>?_,λ x y z h1 h2=>?_⟩
 ·rw[zlz,zdV];omega
 ·rw[ltF_t]at*;exact zdv h1 oM
 ·rw[zlz]at*;have b1:=zbE x.val y.val;have b2:=zbE y.val z.val;have b3:=zbE x.val z.val;have:=zeg (a:=z.val) (b:=y.val) (c:=x.val) oM oM;omega
theorem sortWorld_keep{α:Type}[Inhabited α]{enc:α->Value}{blk off n:Nat}{d:Array α}{os:Array Obj}:Keep (λ b=>b=blk) w (sortWorld enc w blk off n d os):=by
 refine⟨rfl,rfl,rfl,?_,λ b hb hne=>?_,?_⟩
 ·show w.heap.size<=((w.heap.modify blk _)++os).size;simp
 ·show((w.heap.modify blk _)++os)[b]? =_;rw[Array.getElem?_append_left (sU hb),ybX,if_neg (Ne.symm hne)]
 ·show w.drawn<=w.drawn+n;omega
theorem zgf{α:Type}[Inhabited α]{enc:α->Value}{blk off n:Nat}{d:Array α}{os:Array Obj}{cur:Array Value}{fr:Nat×Nat}(h:w.heap[blk]? =some (.cells cur e fr)):
  (sortWorld enc w blk off n d os).heap[blk]? =some (.cells (Go.Sort.putCells enc off d cur) e fr):=by
 show((w.heap.modify blk _)++os)[blk]? =_;have hlt:=(yaa.1 h).1;rw[Array.getElem?_append_left (sU hlt),ybX,if_pos rfl,h]
 rfl
theorem zj9{xs:List Lab}(hown:w.ownsRow B 9 1 v xs.length (xs.map vs))(hfold:∀x∈xs,zaJ x=x)(hlab:∀x∈xs,x.length<=9000000000000000000)(hlen:xs.length<=1000000000000):
  Fn prog 238 #[v,.func (.func 176) #[] #[]] w (λ _ w'=>w'.ownsRow B 9 1 v xs.length ((zen xs).map vs)/\Keep (λ b=>some b=v.ownBlock) w w'):=by
 obtain⟨hl,hcase⟩:=hown;rcases hcase with ⟨rfl,h0⟩| ⟨g,cap,cur,rfl,hB,hg,hn,hcap,hcs,htake⟩
 ·refine Fn.of_calls (Calls.mono (AnyF.slices_SortFunc_none {Tryz.sortL with} .none 0 _ w) ?_);rintro _ _ ⟨rfl,rfl⟩;have:xs=[]:=yan.1 h0;subst this;exact⟨_,rfl,⟨by simp[zen],.inl ⟨rfl,rfl⟩⟩,Keep.refl _ _⟩
 ·obtain⟨ds,hds⟩:∃ds:List FLab,ds.map (·.val)=xs:=by
   refine⟨xs.pmap (λ x (h:zaJ x=x/\x.length<=9000000000000000000)=>FLab.mk x h.1 h.2) (λ x hx=>⟨hfold x hx,hlab x hx⟩),?_⟩;rw[List.map_pmap];simp
  have hdl:ds.length=xs.length:=by rw[←hds];simp
  have hto:∀x y:FLab,Go.Proofs.ltOf cmpF x y=false->Go.Proofs.ltOf cmpF y x=false->x=y:=λ x y h1 h2=>by
   rw[zlz]at h1 h2;have:=zbE x.val y.val;exact FLab.eq (zb4 oM)
  have hcell:∀j (hj:j<ds.length),cur[j]? =some (encF ds[j]):=λ j hj=>by
   have h1:(xs.map vs)[j]? =some (vs (xs[j]'(oM))):=by rw[ybP,yam oM];rfl
   rw[←htake,ybM,if_pos oM]at h1;have h2:xs[j]'(oM)=ds[j].val:=by simp[←hds]
   rw[h2]at h1;simpa [encF] using h1
  have key:=Any.slices_SortFunc_total Tryz.sortL encF (λ x=>rfl) cmpF swoF 176 #[] g 0 cap ds.toArray w
   (λ args w=>zbM rfl)
   (λ m os dk hdk x y=>by
    refine Calls.mono (Fn.calls (zg2 _ x.val y.val x.len y.len)) ?_;rintro _ w' ⟨_,rfl,rfl,hE⟩;rw[x.fold,y.fold];exact⟨rfl,_,_,zjT hE⟩)
   (λ j hj=>by
    have hj':j<ds.length:=sU hj;rw[zaM hg,zgz hg,yn0,hcell j hj',getElem!_pos _ j hj];simp)
   (yaa.1 hg).1 (by simp;omega) hto
  rw[show ds.toArray.size=xs.length from by simpa using hdl]at key;refine Fn.of_calls (Calls.mono key ?_);rintro _ _ ⟨rfl,n,os,rfl⟩;refine⟨_,rfl,?_,sortWorld_keep.mono (λ b _ hb=>by rw[hb];rfl)⟩;have hsort:(ds.mergeSort λ x y=>!Go.Proofs.ltOf cmpF y x).map (·.val)=zen xs:=by
   refine zit ?_ (zcX _) ?_
   ·rw[ycu];have:=List.pairwise_mergeSort (le:=λ x y:FLab=>!Go.Proofs.ltOf cmpF y x) (λ a b c h1 h2=>by
     rw[yao]at*;exact swoF.ntrans c b a h2 h1) (λ a b=>by
     rw[yda,yao,yao,zlz,zlz];have:=zbE a.val b.val;omega) ds
    refine this.imp (fun {a b} h=>?_);rw[yao,zlz]at h;simp only[leL,ydT];have:=zbE a.val b.val;omega
   ·have h1:=(List.mergeSort_perm ds (λ x y=>!Go.Proofs.ltOf cmpF y x)).map (·.val);rw[hds]at h1;exact h1.trans (zcb xs).symm
  obtain⟨es,hes⟩:∃es,(ds.mergeSort λ x y=>!Go.Proofs.ltOf cmpF y x)=es:=⟨_,rfl⟩;have hesl:es.length=xs.length:=by rw[←hes,List.length_mergeSort,hdl]
  show World.ownsRow (sortWorld encF w g 0 n (ds.mergeSort λ x y=>!Go.Proofs.ltOf cmpF y x).toArray os) B _ _ _ _ _;rw[hes]at hsort ⊢;rw[←hsort];refine⟨by simp[hesl],.inr ⟨g,cap,_,rfl,hB,zgf hg,hn,hcap,by simpa [Go.Sort.putCells] using hcs,?_⟩⟩;apply List.ext_getElem?;intro j;rw[ybM]
  split
  ·rename_i hj;simp only[ybt]at hj;rw[ybV];unfold Go.Sort.putCells;rw[Array.getElem?_mapIdx];have hj2:j<cur.size:=by rw[hcs];omega
   rw[ycz hj2];simp only[ycn,yba,true_and,yn0,ycr];have hj3:j<es.toArray.size:=by simp[hesl];exact hj
   rw[if_pos hj3,getElem!_pos _ j hj3];simp[encF,hesl,hj]
  ·rename_i hj;rw[ybY (by simp[hesl];omega)]
theorem zih{g:FuncId}{cap:Array Value}{own:Nat}{Pre:List Lab->Lab->Prop}{Full:List Lab->Prop}(hc:zaD prog g=true)
  (hit:∀n0 C,w.heap.size<=n0->(∀b,C b->w.heap.size<=b)->zkd prog g cap w n0 C own Pre Full encT) (hlen:∀pre x,Pre pre x->pre.length<1000000000000)
  (hfull:∀xs,Full xs->xs.length<=1000000000000/\∀x∈xs,zaJ x=x/\x.length<=9000000000000000000):
  Fn prog 216 #[.func (.func g) #[] cap,.func (.func 176) #[] #[]] w (λ v w'=>Ext w w'/\∃xs,Full xs/\RowB w.heap.size w' v ((zen xs).map vs)):=by
 refine enx func216 ntmps216 ?_;refine gz0 ?_;refine rq ?_;intro gd K hgd hK;refine sg0 ?_;refine yfm (zmb hc hit hlen) ?_;rintro v w1 ⟨hE,xs,hf,ho⟩;have hvs:∃a n c,v= .slice a n c:=by
  rcases ho.2 with ⟨rfl,_⟩| ⟨g,cap,cur,rfl,_⟩
  ·exact⟨_,_,_,rfl⟩
  ·exact⟨_,_,_,rfl⟩
 obtain⟨sa,sn,sc,rfl⟩:=hvs;refine sg0 ?_;apply hK;refine rqz ?_;intro gd K hgd hK;refine sg0 ?_;refine yfm (zj9 ho (λ x hx=>((hfull xs hf).2 x hx).1) (λ x hx=>((hfull xs hf).2 x hx).2) (hfull xs hf).1) ?_;rintro u w2 ⟨ho2,hk2⟩;refine sg0 ?_;apply hK;refine gz0 ?_;refine rt0 ntmps216 ?_;exact⟨ykt hE rfl (λ b hb=>zkz ho hb) hk2,xs,hf,RowB.of_owns ho2⟩
--??end
namespace T_bool
structure Small(s:TS):Prop where
 fold:∀g∈s.names,zag g=g
 lb:∀g∈s.names,LB g
 many:s.names.length<=1000000000
theorem ziQ{names:List Nm}(h:names.Nodup)(f:Nm):(za2 names f).Nodup:=by
 unfold za2;rw[ycx]at h ⊢;rw[List.pairwise_filterMap];refine h.imp (fun {a b} hab x hx y hy e=>?_);subst e;apply hab;cases a with
 |nil=>cases hx
 |cons p t=>
  cases b with
  |nil=>cases hy
  |cons q t'=>
   simp only at hx hy
   split at hx
   ·split at hy
    ·cases hx;cases hy;rename_i h1 h2;rw[h1,h2]
    ·cases hy
   ·cases hx
theorem zct(s:TS)(f:Nm):(zbh s f).map (·.1)=za2 s.names f:=by
 unfold zbh;rw[ycq];simp[Function.comp_def]
theorem zgx{tb:Nat}{s:TS}{f:Nm}(hT:TAt w tb s)(hs:TOk s)(hS:Small s)(hf:f∈s.names):
  Fn prog 178 #[zaA (s.nb f)] w (λ v w'=>RowB w.heap.size w' v ((zen (za2 s.names f)).map vs)/\Ext w w'):=by
 have hc:zad w (some ⟨s.nb f,0,.none⟩)=some (.map (some (s.mb f))):=by
  show w.cell? _=_;rw[zaM (hT.node _ hf)];rfl
 have hnd:=ziQ hs.nd f;have hkl:(za2 s.names f).length<=s.names.length:=by unfold za2;exact yaW _ _
 have hmany:=hS.many;refine enx func178 ntmps178 ?_;refine gz0 ?_;refine rq ?_;intro gd K hgd hK;try simp (disch:=first|omega|assumption|rfl) only[go_sem,zaA,hc]
 refine yfm (Keys_ok (hT.map f hf) (by rw[zct];exact hnd)) ?_;rintro _ w1 ⟨hE1,cap,rfl,hit⟩;refine sg0 ?_;refine yfm (zih (own:=1) (by rfl) (λ n0 C h1 h2=>hit n0 C h1 h2) ?_ ?_) ?_
 ·rintro pre x ⟨h1,h2,h3,h4⟩;rw[zct]at h4;have:=zcM h3 h4;omega
 ·intro xs hp;unfold fullK at hp;rw[zct]at hp;refine⟨by rw[hp.length_eq];omega,λ x hx=>?_⟩;have hx':=zbc.1 (hp.mem_iff.1 hx);refine⟨?_,hS.lb _ hx' _ (yal ..)⟩;have:=hS.fold _ hx';simp only[zag,yaU,List.cons.injEq]at this;exact this.1
 rintro v w2 ⟨hE2,xs,hp,hrow⟩;refine sg0 ?_;refine en hK ?_;refine rt0 ntmps178 ?_;unfold fullK at hp;rw[zct]at hp;refine⟨?_,hE1.trans hE2⟩;rw[←zjE hp];exact hrow.mono hE1.size
end T_bool
namespace T_bool
theorem all_ok{W00 W:World}{n0:Nat}{tb B0:Nat}{s:TS}{lp:Nat}{full:List Nm}{J:List Nm->(Nat->Prop)->World->Prop}{Jx:List Nm->World->Prop}
  (hT:TAt W00 tb s) (hs:TOk s) (hS:Small s) (hdeep:∀g∈s.names,g.length<=100000000000) (hE:Ext W00 W) (hC:∀b,C b->W00.heap.size<=b/\b<W.heap.size) (hn0:W00.heap.size<=n0) (hnW:n0<=W.heap.size) (hB0:B0<=W.heap.size)
  (hJ:∀pre U A B,J pre U A->Ext A B->J pre U B)
  (hY:∀pre U x suf A args,full=pre++x::suf->J pre U A->W.heap.size<=A.heap.size->KeepB n0 C W A->encN B0 x U A args->Yld prog lp args A (λ v B=>
   (v= .bool true/\∃U',J (pre++ [x]) U' B/\(∀b,U' b->U b\/(A.heap.size<=b/\b<B.heap.size))/\KeepR n0 W.heap.size (λ b=>C b\/U b) A B)\/(v= .bool false/\Jx (pre++ [x]) B))):
  ∀(fuel:Nat) (f:Nm) (A:World) (U:Nat->Prop) (pre suf:List Nm) (nv:Value),f∈s.names->(∀g∈s.names,g.length<f.length+fuel)->full=pre++allN s.names fuel f++suf->J pre U A->
   (∀b,U b->W.heap.size<=b/\b<A.heap.size)->W.heap.size<=A.heap.size->KeepB n0 C W A->RowZ W.heap.size U A nv (f.map vs)->
   Fn prog 134 #[zaA (s.nb f),nv,.func (.yield lp) #[] #[]] A (λ v B=>
    (v= .bool true/\∃U',J (pre++allN s.names fuel f) U' B/\(∀b,U' b->U b\/(A.heap.size<=b/\b<B.heap.size))/\KeepR n0 W.heap.size (λ b=>C b\/U b) A B)\/(v= .bool false/\∃p x q,full=p++x::q/\Jx (p++ [x]) B)):=by
 have fact:∀X,KeepB n0 C W X->TAt X tb s:=λ X hX=>hT.ext (KeepB.to_ext hE hX hn0 (λ b hb=>(hC b hb).1));have hCW:∀b,C b->b<W.heap.size:=λ b hb=>(hC b hb).2;intro fuel
 induction fuel with
 |zero=>
  intro f A U pre suf nv hf hlen;have:=hlen f hf;omega
 |succ fuel ih=>
  intro f A U pre suf nv hf hlen hfull hj hU hWA hKB hrow;have hhead:full=pre++f::(((zen (za2 s.names f)).map λ l=>allN s.names fuel (l::f)).flatten++suf):=by rw[hfull];simp[allN]
  have hnvs:∃na nn nc,nv= .slice na nn nc:=by obtain⟨a,c,h,_⟩:=hrow.1;exact⟨_,_,_,h⟩
  obtain⟨na,nn,nc,rfl⟩:=hnvs;refine enx func134 ntmps134 ?_;refine gz0 ?_;refine rq ?_;intro gd K hgd hK;refine sg0 ?_;refine Yld.mono (hY pre U f _ A _ hhead hj hWA hKB ⟨_,rfl,hrow.low hB0⟩) ?_;rintro v B (⟨rfl,U1,hj1,hU1,hk1⟩| ⟨rfl,hjx⟩)
  ·refine sg0 ?_;apply hK;have hs1:=hk1.size;have hU1':∀b,U1 b->W.heap.size<=b/\b<B.heap.size:=λ b hb=>by
    rcases hU1 b hb with h|h
    ·have:=hU b h;omega
    ·omega
   have hKB1:=hk1.toB hKB oM (λ b hb=>by have:=(hU b hb).1;omega);have hrow1:=hrow.keep hk1 hCW hU1;refine wcz ?_ ?_
   ·intro h;simp at h
   ·intro _;refine rqz ?_;intro gd K hgd hK;refine sg0 ?_;refine yfm (zgx (fact B hKB1) hs hS hf) ?_;rintro lv B2 ⟨hlv,hE2⟩;have hlz:=RowZ.of_base (n1:=W.heap.size) hlv oM (λ b hb=>(hU1' b hb).2);have hlen2:(zen (za2 s.names f)).length<=1000000000:=by
     rw[(zcb _).length_eq];exact yaD (yaW _ _) hS.many
    generalize hks:zen (za2 s.names f)=ks at*;obtain⟨la,lc,rfl,hlc,hll⟩:=id hlz.1;rw[ylm]at*;refine sg0 ?_;refine en hK ?_;refine zan (λ m σ ds v=>ds=[]/\∃i U',i+m=ks.length/\σ 16=vi i/\σ 15=vi ks.length/\σ 14= .slice la ks.length lc/\σ 0=zaA (s.nb f)/\σ 1= .slice na nn nc/\σ 2= .func (.yield lp) #[] #[]/\
     J (pre++f::((ks.take i).map λ l=>allN s.names fuel (l::f)).flatten) U' v/\(∀b,U' b->U b\/(A.heap.size<=b/\b<v.heap.size))/\KeepR n0 W.heap.size (λ b=>C b\/U b) A v/\
     RowZ W.heap.size U' v (.slice na nn nc) (f.map vs)/\RowZ W.heap.size U' v (.slice la ks.length lc) (ks.map vs)) ks.length ?_ ?_
    ·refine⟨rfl,0,U1,oM,by simp only[go_sem];rfl,vq0,vq0,vq0,vq0,vq0,?_,?_,?_,hrow1.ext hE2,hlz⟩
     ·simpa using hJ _ _ _ _ hj1 hE2
     ·intro b hb;have:=hE2.size;rcases hU1 b hb with h|h
      ·exact .inl h
      ·exact .inr ⟨h.1,oM⟩
     ·exact hk1.next hU1 (KeepR.of_ext hE2)
    ·rintro m σ ds v ⟨rfl,i,U',him,h16,h15,h14,h0,h1,h2,hji,hUi,hki,hni,hli⟩;have hKBv:=hki.toB hKB oM (λ b hb=>by have:=(hU b hb).1;omega);have hsv:=hki.size;have hUv:∀b,U' b->W.heap.size<=b/\b<v.heap.size:=λ b hb=>by
      rcases hUi b hb with h|h
      ·have:=hU b h;omega
      ·omega
     refine gz (az2 h16 h15) ?_;refine wc0 ?_ ?_
     ·intro hlt;simp only[ydT]at hlt;have hi:i<ks.length:=oM;obtain⟨la',lc',hle,_,hll'⟩:=id hli.1;simp only[ylm]at hle hll';cases hle;have hsa:la.isSome=true:=zaf (hll' i hi);have hkid:ks[i]::f∈s.names:=zbc.1 ((zcb _).mem_iff.1 (by rw[hks];exact yac hi));refine rqz ?_;intro gd K hgd hK;simp (disch:=first|omega|assumption|rfl) only[go_sem,h16,h14,hll',yaA];apply hK;refine cZ ?_;refine zaF (λ i=>i==10||i==11) [(0,true),(1,true),(2,true),(3,true),(4,true),(5,true),(6,true),(7,true),(9,true),(8,false),(10,false),(11,false)] NoS mixed kR ?_;intro gd K x hgd hx hxe hK;have hTx:=(fact v hKBv).ext hx;have hmb:zad x (some ⟨s.nb f,0,.none⟩)=some (.map (some (s.mb f))):=by
       show x.cell? _=_;rw[zaM (hTx.node _ hf)];rfl
      have hlk:=(hTx.map _ hf).lk (P:=prog) (t:=304) (kt:=9) (et:=251) (z:= .pointer .none) rfl rfl rfl ks[i];rw[zfn,if_pos hkid,ybS]at hlk;unfold zaA at h0;refine sgz (az5 h0 h1 h2 hmb hlk) ?_;refine⟨λ _ _ h=>h,?_⟩;refine yfm (zf4 x _ _ f (hni.1.ext hx) (by have:=hdeep f hf;omega)) ?_;rintro cv y ⟨hcv,hy⟩;refine⟨.inr hy,?_⟩;refine sgz (az3 h0 h1 h2) ?_;have hxs:=hx.size;have hys:=hy.size;have hEy:=hx.trans hy;have hki2:=hki.next hUi (KeepR.of_ext hEy);have hsplit:((ks.take (i+1)).map λ l=>allN s.names fuel (l::f)).flatten=((ks.take i).map λ l=>allN s.names fuel (l::f)).flatten++allN s.names fuel (ks[i]::f):=by
       rw[zal hi,yaC,ybl];simp only[yaU,ycp,ybC,List.flatten_nil,yaF]
      have hall:(ks.map λ l=>allN s.names fuel (l::f)).flatten=((ks.take i).map λ l=>allN s.names fuel (l::f)).flatten++allN s.names fuel (ks[i]::f)++((ks.drop (i+1)).map λ l=>allN s.names fuel (l::f)).flatten:=by
       conv=>lhs;rw[zcW hi]
       rw[yaC,yaU,ybl,ybC,yla]
      have hfull2:full=(pre++f::((ks.take i).map λ l=>allN s.names fuel (l::f)).flatten)++allN s.names fuel (ks[i]::f)++(((ks.drop (i+1)).map λ l=>allN s.names fuel (l::f)).flatten++suf):=by
       rw[hhead,hall];simp
      refine yfm (ih (ks[i]::f) y U' _ _ cv hkid (λ g hg=>by have:=hlen g hg;simp;omega) hfull2 (hJ _ _ _ _ hji hEy) (λ b hb=>by have:=hUv b hb;omega) oM (hki2.toB hKB oM (λ b hb=>by have:=(hU b hb).1;omega))
       (RowZ.of_base hcv oM (λ b hb=>by have:=(hUv b hb).2;omega))) ?_
      rintro r D hres;refine⟨.inl rfl,?_⟩;rcases hres with ⟨rfl,U2,hj2,hU2,hk2⟩| ⟨rfl,hbad⟩
      ·refine sg0 ?_;refine⟨.inl rfl,?_⟩;apply hK;have hDs:=hk2.size;have hUD:∀b,U2 b->U' b\/(v.heap.size<=b/\b<D.heap.size):=λ b hb=>by
        rcases hU2 b hb with h|h
        ·exact .inl h
        ·exact .inr oM
       have hU2':∀b,U2 b->U b\/(A.heap.size<=b/\b<D.heap.size):=λ b hb=>by
        rcases hUD b hb with h|h
        ·rcases hUi b h with h'|h'
         ·exact .inl h'
         ·exact .inr oM
        ·exact .inr oM
       have hkv:KeepR n0 W.heap.size (λ b=>C b\/U' b) v D:=(KeepR.of_ext hEy).next (U':=U') (λ b hb=> .inl hb) hk2;refine wcz ?_ ?_
       ·intro h;simp at h
       ·intro _;refine gz h16 ?_;refine⟨m - 1,oM,rfl,i+1,U2,oM,by simp only[go_sem];rfl,vq1 h15,vq1 h14,vq1 h0,vq1 h1,vq1 h2,?_,hU2',hki.next hUi hkv,hni.keep hkv hCW hUD,hli.keep hkv hCW hUD⟩;rw[hsplit,←yav,←yla];exact hj2
      ·refine sg0 ?_;refine⟨.inl rfl,?_⟩;apply hK;refine wcz ?_ ?_
       ·intro _;refine gz0 ?_;refine rt0 ntmps134 ?_;exact .inr ⟨rfl,hbad⟩
       ·intro h;simp at h
     ·intro hge;simp only[ydF]at hge;refine gz0 ?_;refine rt0 ntmps134 ?_;rw[yaf oM]at hji;refine .inl ⟨rfl,U',?_,hUi,hki⟩;rw[allN,hks];exact hji
  ·refine sg0 ?_;apply hK;refine wcz ?_ ?_
   ·intro _;refine gz0 ?_;refine rt0 ntmps134 ?_;exact .inr ⟨rfl,_,_,_,hhead,hjx⟩
   ·intro h;simp at h
end T_bool
namespace T_bool
theorem bsC_nil{P:Program}{z:Value}(hu:tyU P t=some (.slice e))(hz:tyZ P e=some z)(hs:z.cells.size=tyS P e):bsC P t 0 []=some (e,#[]):=by
 simp[bsC,hu,hz,hs,Instr.fill]
theorem zm7{W00:World}{n0:Nat}{b1 tb:Nat}{s:TS}{fuel:Nat}(hT:TAt W00 tb s)(hs:TOk s)(hS:Small s)(hdeep:∀g∈s.names,g.length<=100000000000)(hfuel:∀g∈s.names,g.length<fuel)
  (hE:Ext W00 W0) (hC:∀b,C b->W00.heap.size<=b/\b<W0.heap.size) (hn0:W00.heap.size<=n0) (h1:W0.cell? ⟨b1,0,.none⟩=some (zaA tb)):
  zon prog 133 #[zaA b1] W0 n0 C 0 (λ pre x=>∃suf,allN s.names fuel []=pre++x::suf) (λ l=>l=allN s.names fuel []) encN:=by
 intro lp J Jx W hW hnW hJ hJx hY h0;have hEW:=hE.trans hW;have hc1:zad W (some ⟨b1,0,.none⟩)=some (zaA tb):=ze3 hW h1;have hroot:zad W (some ⟨tb,0,.none⟩)=some (zaA (s.nb [])):=by
  show W.cell? _=_;rw[zaM (hT.ext hEW).root];rfl
 unfold zaA at hc1 hroot;have hJ':∀pre U A B,J pre U A->Ext A B->J pre U B:=λ pre U A B hj hk=>hJ pre U A B hj (hk.mono (λ _ _ h=>h.elim));refine enx func133 ntmps133 ?_;refine rqz ?_;intro gd K hgd hK;try simp (disch:=first|omega|assumption|rfl) only[go_sem,zaA,hc1,hroot]
 have hbs:bsC prog 27 0 []=some (9,#[]):=bsC_nil (z:=vs []) rfl rfl rfl;unfold bsL bsK;rw[hbs];simp only[];have hbn:=zam W (.cells #[] 9 (0,0));have hEn:=yea W (.cells #[] 9 (0,0));have hsn:=zai W (.cells #[] 9 (0,0));revert hbn hEn hsn;generalize W.alloc (.cells #[] 9 (0,0))=W1;intro hbn hEn hsn;refine sg0 ?_;refine yfm (all_ok (J:=J) (Jx:=Jx) (full:=allN s.names fuel []) (B0:=W.heap.size) hT hs hS hdeep hEW (λ b hb=>⟨(hC b hb).1,by have:=(hC b hb).2;have:=hW.size;omega⟩) hn0 hnW (ynl _) hJ'
  (λ pre U x suf A args e hj hsz hkb hen=>hY pre U x A args ⟨suf,e⟩ hj oM hkb hen) fuel [] W1 NoS [] [] _ hs.nil (λ g hg=>by have:=hfuel g hg;simpa using this) sM (hJ' _ _ _ _ h0 hEn) (λ _ h=>h.elim) oM
  (hEn.toB hnW (λ _ _ h=>h.elim)) ⟨⟨some ⟨W.heap.size,0,.none⟩,0,rfl,ynl _,λ j h=>by simp at h⟩,λ a n c hv=>by cases hv;exact⟨ynl _,by show W.heap.size<_;omega,λ h=>h⟩⟩) ?_
 intro v B hres;refine sg0 ?_;refine en hK ?_;refine zap sM rfl ?_;rcases hres with ⟨_,U',hj,_⟩| ⟨_,p,x,q,e,hjx⟩
 ·exact .inl ⟨_,U',rfl,by simpa using hj⟩
 ·exact .inr ⟨p,x,⟨q,e⟩,hjx⟩
def NRows(B:Nat)(U:Nat->Prop)(A:World)(vals:List Value)(ns:List Nm):Prop:=vals.length=ns.length/\∀i (h:i<vals.length) (h':i<ns.length),RowZ B U A vals[i] (ns[i].map vs)
theorem NRows.keep{U U' X:Nat->Prop}{D:World}{vals:List Value}{ns:List Nm}(h:NRows B U A vals ns)(hk:Keep X A D)(hX:∀b,X b->B<=b->b<A.heap.size->U b)(hU:∀b,U' b->U b\/A.heap.size<=b):NRows B U' D vals ns:=by
 refine⟨h.1,λ i h1 h2=>?_⟩;obtain⟨hr,hz⟩:=h.2 i h1 h2;refine⟨hr.blocks (λ a n c hv=>?_),λ a n c hv=>?_⟩
 ·obtain⟨k1,k2,k3⟩:=hz a n c hv;exact hk.block _ k2 (λ hx=>k3 (hX _ hx k1 k2))
 ·obtain⟨k1,k2,k3⟩:=hz a n c hv;have:=hk.size;refine⟨k1,oM,λ hu=>?_⟩;rcases hU _ hu with h'|h'
  ·exact k3 h'
  ·omega
theorem zok{tb:Nat}{s:TS}{fuel:Nat}(hT:TAt w tb s)(hs:TOk s)(hS:Small s)(hdeep:∀g∈s.names,g.length<=100000000000)(hfuel:∀g∈s.names,g.length<fuel)(hlen:(allN s.names fuel []).length<=1000000000):
  Fn prog 94 #[zaA tb] w (λ v w'=>Ext w w'/\∀S:Nat->Prop,(∀b,S b->b<w.heap.size)->NamesZ S w' v (allN s.names fuel [])):=by
 refine enx func94 ntmps94 ?_;refine gz0 ?_;have hb1:=zam w (.cells #[zaA tb] 199 (0,0));have hE1:=(yea w (.cells #[zaA tb] 199 (0,0))).trans (yea _ (.cells #[.slice .none 0 0] 94 (0,0)));have hb1':=(yaE _ (.cells #[.slice .none 0 0] 94 (0,0)) _ sM).trans hb1;have hb3:=zam (w.alloc (.cells #[zaA tb] 199 (0,0))) (.cells #[.slice .none 0 0] 94 (0,0));have hs1:((w.alloc (.cells #[zaA tb] 199 (0,0))).alloc (.cells #[.slice .none 0 0] 94 (0,0))).heap.size=w.heap.size+2:=sM;rw[zai]at hb3;rw[zai];unfold zaA at hb1' hE1 hb3 hs1;revert hb1' hE1 hb3 hs1;generalize (w.alloc (.cells #[.pointer (some ⟨tb,0,.none⟩)] 199 (0,0))).alloc (.cells #[.slice .none 0 0] 94 (0,0))=w1;intro hE1 hb1' hb3 hs1;refine ze6 (own:=0) (n0:=w1.heap.size) (C:=λ b=>b=w.heap.size+1) vq0 (by rfl) (zm7 (b1:=w.heap.size) hT hs hS hdeep hfuel hE1 (λ b hb=>oM) hE1.size (by rw[zaM hb1'];rfl)) ykr (ynl _) (λ b hb=>oM)
  (λ x U A args h=>by obtain⟨nv,rfl,_⟩:=h;rfl)
  (λ pre U A=>Ext w A/\∃v vals,A.heap[w.heap.size+1]? =some (.cells #[v] 94 (0,0))/\A.ownsRow (w1.heap.size+2) 27 1 v pre.length vals/\NRows (w1.heap.size+2) U A vals pre/\(∀b,some b=v.ownBlock->U b))
  (λ _ _ _=>False) ?_ (λ _ _ _ _ h _=>h.elim) ?_ ?_ ?_ (λ _ _ _ _ _ _ h _=>h.elim)
 ·rintro pre U A B ⟨h1,v,vals,h2,h3,h4,h5⟩ hU hk;refine⟨ykt h1 rfl (λ b hb=>by unfold span at hb;omega) hk,v,vals,(hk.block _ (yaa.1 h2).1 (by unfold span;omega)).trans h2,zbY h3 hk (λ b hb=>by unfold span;omega),h4.keep hk (λ b hb h1 _=>by unfold span at hb;omega) (λ b hb=> .inl hb),h5⟩
 ·exact⟨hE1,_,[],hb3,⟨rfl,.inl ⟨rfl,rfl⟩⟩,⟨rfl,λ i h=>by simp at h⟩,λ b hb=>by cases hb⟩
 ·rintro lp pre U x A args hpx hszA ⟨hEA,v,vals,hbx,hown,hrows,hUv⟩ hU ⟨nv,rfl,hnv⟩;have hnvs:∃xa xn xc,nv= .slice xa xn xc:=by obtain⟨a,c,h,_⟩:=hnv.1;exact⟨_,_,_,h⟩
  obtain⟨xa,xn,xc,rfl⟩:=hnvs;refine gz0 ?_;refine⟨rfl,Keep.refl _ _,λ A2 hA2=>?_⟩;have hEA2:Ext w A2:=ykt hEA rfl (λ b hb=>by unfold two at hb;omega) hA2;have hb2:=(hA2.block _ (yaa.1 hbx).1 (by unfold two;omega)).trans hbx;have hown2:=zbY hown hA2 (λ b hb=>by unfold two;omega);have hrows2:NRows (w1.heap.size+2) U A2 vals pre:=hrows.keep hA2 (λ b hb h1 _=>by unfold two at hb;omega) (λ b hb=> .inl hb);have hs2:=hA2.size;have hcell:zad A2 (some ⟨w.heap.size+1,0,.none⟩)=some v:=by
   show A2.cell? _=_;rw[zaM hb2];rfl
  have hpl:pre.length<=1000000000:=by obtain⟨q,e⟩:=hpx;have:=congrArg List.length e;simp at this;omega
  have hvs:∃a n c,v= .slice a n c:=by
   rcases hown2.2 with ⟨rfl,_⟩| ⟨g,cap,cur,rfl,_⟩
   ·exact⟨_,_,_,rfl⟩
   ·exact⟨_,_,_,rfl⟩
  obtain⟨sa,sn,sc,rfl⟩:=hvs;refine rqz ?_;intro gd K hgd hK;refine sgz hcell ?_;have hbs:bsC prog 94 1 [(0,Value.slice xa xn xc)]=some (27,#[Value.slice xa xn xc]):=zic (z:= .slice .none 0 0) rfl rfl rfl rfl rfl;unfold bsL bsK;rw[hbs];simp only[];have hbn:=zam A2 (.cells #[Value.slice xa xn xc] 27 (0,0));have hE3:=yea A2 (.cells #[Value.slice xa xn xc] 27 (0,0));have hs3:=zai A2 (.cells #[Value.slice xa xn xc] 27 (0,0));revert hbn hE3 hs3;generalize A2.alloc (.cells #[Value.slice xa xn xc] 27 (0,0))=A3;intro hbn hE3 hs3;refine sg0 ?_;refine zdL (P:=prog) (e:=27) (size:=1) (bytes:=24) (m:=1) (news:=[Value.slice xa xn xc]) rfl rfl rfl rfl rfl rfl (by decide) vr0 vr0 (zbY hown2 hE3 (λ _ _ h=>h)) ?_ ?_ ?_ ?_ oM ?_
  ·refine⟨_,_,rfl,rfl,λ j hj=>?_⟩;have:j=0:=sU hj;subst this;rw[zaY];show A3.cell? _=_;rw[zaM hbn];rfl
  ·intro q hq;rw[yae.1 hq];rfl
  ·simp[maxLen];omega
  ·omega
  intro v' A4 hown4 hk4 ⟨_,hwhere⟩;have hge:∀b,some b=(Value.slice sa sn sc).ownBlock->w1.heap.size+2<=b:=λ b hb=>zkz hown2 hb;have hb4:=(hk4.block _ (by have:=(yaa.1 hb2).1;omega) (λ h=>by have:=hge _ h;omega)).trans ((hE3.block _ (yaa.1 hb2).1 (λ h=>h)).trans hb2);have hov:one v'=true:=by
   rcases hown4.2 with ⟨rfl,_⟩| ⟨g,cap,cur,rfl,_⟩<;>rfl
  refine sg0 ?_;refine zbx rfl rfl hov hb4 sM sM ?_;intro A5 hs5 hb5 hk5;refine en hK ?_;have hs4:=hk4.size;have hrows4:NRows (w1.heap.size+2) (λ b=>U b\/some b=v'.ownBlock) A5 (vals++ [Value.slice xa xn xc]) (pre++ [x]):=by
   have hA4:Keep (λ b=>b=w.heap.size+1\/some b=(Value.slice sa sn sc).ownBlock) A2 A5:=((hE3.keep).trans (hk4.mono (λ b _ hb=> .inr hb))).trans (hk5.mono (λ b _ hb=> .inl hb));have hnv2:RowZ (w1.heap.size+2) U A2 (.slice xa xn xc) (x.map vs):=by
    refine⟨hnv.1.blocks (λ a n c hv=>?_),λ a n c hv=>?_⟩
    ·obtain⟨k1,k2,k3⟩:=hnv.2 a n c hv;exact hA2.block _ k2 (by unfold two;omega)
    ·obtain⟨k1,k2,k3⟩:=hnv.2 a n c hv;exact⟨k1,oM,k3⟩
   have hall:NRows (w1.heap.size+2) U A2 (vals++ [Value.slice xa xn xc]) (pre++ [x]):=by
    refine⟨by simp[hrows2.1],λ i h1 h2=>?_⟩;by_cases hi:i<vals.length
    ·have hi':i<pre.length:=by rw[←hrows2.1];exact hi
     rw[yaK hi,yaK hi'];exact hrows2.2 i hi hi'
    ·have e1:i=vals.length:=by simp at h1;omega
     have e2:i=pre.length:=by rw[e1,hrows2.1]
     have g1:(vals++ [Value.slice xa xn xc])[i]= .slice xa xn xc:=by subst e1;simp
     have g2:(pre++ [x])[i]=x:=by subst e2;simp
     rw[g1,g2];exact hnv2
   refine hall.keep hA4 (λ b hb h1 _=>?_) (λ b hb=>?_)
   ·rcases hb with hb|hb
    ·omega
    ·exact hUv b hb
   ·rcases hb with hb|hb
    ·exact .inl hb
    ·rcases hwhere b hb with h|h
     ·exact .inl (hUv b h)
     ·exact .inr oM
  refine⟨λ b=>U b\/some b=v'.ownBlock,⟨?_,v',_,hb5,?_,hrows4,λ b hb=> .inr hb⟩,?_,?_⟩
  ·exact ykt (ykt (hEA2.trans hE3) rfl (λ b hb=>by have:=hge _ hb;omega) hk4) rfl (λ b hb=>oM) hk5
  ·have:=zbY hown4 hk5 (λ b hb=>oM);simpa using this
  ·intro b hb;rcases hb with hb|hb
   ·exact .inl hb
   ·rcases hwhere b hb with h|h
    ·exact .inl (hUv b h)
    ·refine .inr ⟨oM,?_⟩;rcases hown4.2 with ⟨rfl,_⟩| ⟨g,cap,cur,rfl,_,hg,_⟩
     ·cases hb
     ·cases hb;have:=(yaa.1 hg).1;show g<_;omega
  ·exact((hE3.keep).trans (hk4.mono (λ b _ hb=> .inr (hUv b hb)))).trans (hk5.mono (λ b _ hb=> .inl hb))
 ·rintro xs U w4 rfl hsz4 hU ⟨hE4,v,vals,hb4,hown4,hrows,hUv⟩ hD;have hcell:zad w4 (some ⟨w.heap.size+1,0,.none⟩)=some v:=by
   show w4.cell? _=_;rw[zaM hb4];rfl
  refine rqz ?_;intro gd K hgd hK;refine sgz hcell ?_;refine yfm (ClipN_ok (Row.of_owns hown4)) ?_;rintro u w5 ⟨⟨hu,hE5⟩,huv⟩;have hv4:∀a n c,v= .slice (some a) n c->w1.heap.size+2<=a.block/\a.block<w4.heap.size:=by
   have hge:∀b,some b=v.ownBlock->w1.heap.size+2<=b:=λ b hb=>zkz hown4 hb;intro a n c hv;rcases hown4.2 with ⟨h,_⟩| ⟨g,cap,cur,h,_,hg,_⟩
   ·rw[h]at hv;cases hv
   ·rw[h]at hv hge;cases hv;exact⟨hge _ rfl,(yaa.1 hg).1⟩
  refine sg0 ?_;refine en hK ?_;refine zcY sM rfl ntmps94 (by simp only[go_sem];rfl) ((hE5.block _ (yaa.1 hD).1 (λ h=>h)).trans hD) ?_;intro w6 hk6 _;have hD5:=(hE5.block _ (yaa.1 hD).1 (λ h=>h)).trans hD;have hs5:=hE5.size;have hs6':=hk6.size;refine⟨ykt (hE4.trans hE5) rfl (λ b hb=>oM) hk6,λ S hS=>⟨vals,⟨hu.shut hD5 hk6,λ a n c h=>?_⟩,hrows.1,λ i h1 h2=>⟨((hrows.2 i h1 h2).1.ext hE5).shut hD5 hk6,λ a n c h=>?_⟩⟩⟩
  ·obtain⟨n',c',h'⟩:=huv _ _ _ h;obtain⟨k1,k2⟩:=hv4 _ _ _ h';exact⟨yba _,oM,λ h=>by have:=hS _ h;omega⟩
  ·obtain⟨k1,k2,k3⟩:=(hrows.2 i h1 h2).2 _ _ _ h;exact⟨yba _,oM,λ h=>by have:=hS _ h;omega⟩
end T_bool
namespace T_bool
structure TI(w0 w:World)(tb:Nat)(s:TS)(ps:List (Nm×Value)):Prop where
 lies:TAt w tb s
 ok:TOk s
 hist:Hist (.bool false) s ps
 new:∀b,tblk tb s b->w0.heap.size<=b
 ext:Ext w0 w
theorem TI.on{tb:Nat}{s:TS}{ps:List (Nm×Value)}(h:TI w0 w tb s ps)(hE:Ext w x):TI w0 x tb s ps:=
 ⟨h.lies.ext hE,h.ok,h.hist,h.new,h.ext.trans hE⟩
theorem TI.lt{tb:Nat}{s:TS}{ps:List (Nm×Value)}(h:TI w0 w tb s ps):∀b,tblk tb s b->b<w.heap.size:=λ _ hb=>h.lies.lt hb
theorem New_ti(w0 w:World)(hE:Ext w0 w):Fn prog 124 #[] w (λ v w'=>Ext w w'/\∃tb s,v=zaA tb/\TI w0 w' tb s []/\∀b,tblk tb s b->w.heap.size<=b):=by
 refine yfm (New_ok w) ?_;rintro _ w' ⟨rfl,hE',hok,hat⟩;refine⟨hE',_,_,rfl,⟨hat,hok,⟨λ g=>?_,λ g=>rfl,λ g=>rfl⟩,λ b hb=>?_,hE.trans hE'⟩,λ b hb=>?_⟩
 ·simp[ts0]
 ·have:=hE.size;rcases hb with rfl| ⟨g,_,rfl|rfl⟩<;>(try simp only[ts0])<;>omega
 ·rcases hb with rfl| ⟨g,_,rfl|rfl⟩<;>(try simp only[ts0])<;>omega
def Still(tb:Nat)(s:TS)(w:World)(nv:Value)(l:List Value):Prop:=∀A,Keep (tblk tb s) w A->Row A nv l
theorem TI.still{tb:Nat}{s:TS}{ps:List (Nm×Value)}(h:TI w0 w tb s ps)(hr:Row w0 nv l):Still tb s w nv l:=λ _ hA=>hr.ext (ykt h.ext rfl h.new hA)
theorem Still.of_row{tb:Nat}{s:TS}(h:RowZ 0 (tblk tb s) w nv l):Still tb s w nv l:=λ _ hA=>(h.turn hA (λ _ h=> .inl h)).1
theorem Put_ti{tb:Nat}{s:TS}{ps:List (Nm×Value)}(h:TI w0 w tb s ps)(hr:Still tb s w nv (n.map vs))(hn:LB n)(hlen:n.length<=9000000000000000000)(hv:one v=true):
  Fn prog 126 #[zaA tb,nv,v] w (λ _ w'=>∃s',TI w0 w' tb s' (ps++ [(n,v)])/\Keep (tblk tb s) w w'/\(∀b,tblk tb s' b->tblk tb s b\/w.heap.size<=b)):=by
 refine yfm (Put_ok h.lies h.ok hr hn hlen hv) ?_;rintro _ w' ⟨s',hok,hat,hput,hk,hb⟩;refine⟨s',⟨hat,hok,⟨λ g=>?_,λ g=>?_,λ g=>?_⟩,λ b hb'=>?_,ykt h.ext rfl h.new hk⟩,hk,hb⟩
 ·rw[hput.names,h.hist.names];constructor
  ·rintro((rfl| ⟨p,hp,hs⟩)|hs)
   ·exact .inl rfl
   ·exact .inr ⟨p,yas _ hp,hs⟩
   ·exact .inr ⟨(n,v),sM,hs⟩
  ·rintro(rfl| ⟨p,hp,hs⟩)
   ·exact .inl (.inl rfl)
   ·rcases yai.1 hp with hp|hp
    ·exact .inl (.inr ⟨p,hp,hs⟩)
    ·rw[yae.1 hp]at hs;exact .inr hs
 ·rw[hput.val,zhi];by_cases e:zag n=g
  ·rw[if_pos e.symm,if_pos e];rfl
  ·rw[if_neg (λ x=>e x.symm),if_neg e];exact h.hist.val g
 ·rw[hput.has,zhi];by_cases e:zag n=g
  ·rw[if_pos e.symm,if_pos e];rfl
  ·rw[if_neg (λ x=>e x.symm),if_neg e];exact h.hist.has g
 ·rcases hb b hb' with h'|h'
  ·exact h.new b h'
  ·have:=h.ext.size;omega
theorem TI.other{w':World}{tb:Nat}{s:TS}{ps:List (Nm×Value)}(h:TI w0 w tb s ps)(hk:Keep S w w')(hS:∀b,tblk tb s b->¬S b)(hE:Ext w0 w'):TI w0 w' tb s ps:=
 ⟨h.lies.keep (λ b hb=>hk.block b (h.lt b hb) (hS b hb)),h.ok,h.hist,h.new,hE⟩
theorem Names_tiZ{tb:Nat}{s:TS}{ps:List (Nm×Value)}(h:TI w0 w tb s ps){k:Nat}(hk:zms k ps)(hk1:k<=1000)(hl:s.names.length<=900000000):
  Fn prog 94 #[zaA tb] w (λ v w'=>Ext w w'/\∃L,(∀S:Nat->Prop,(∀b,S b->b<w.heap.size)->NamesZ S w' v L)/\Rise L/\(∀g,g∈L↔g∈s.names)/\L.length=s.names.length):=by
 have hd:=h.hist.deep hk;obtain⟨h1,h2,h3⟩:=zn0 h.ok.tail h.ok.nd (k:=k+1) h.ok.nil (λ g hg=>by have:=(hd g hg).1;omega);refine yfm (zok (fuel:=k+1) h.lies h.ok ⟨λ g hg=>(hd g hg).2.2,λ g hg=>(hd g hg).2.1,oM⟩ (λ g hg=>by have:=(hd g hg).1;omega) (λ g hg=>by have:=(hd g hg).1;omega) oM) ?_;rintro v w' ⟨hE,hN⟩;exact⟨hE,_,hN,h1,h2,h3⟩
end T_bool
def putB(ps:List Nm):List (Nm×Value):=ps.map λ p=>(p,.bool true)
theorem putB_app{ps:List Nm}:putB ps++ [(n,.bool true)]=putB (ps++ [n]):=by simp[putB]
theorem putB_k{ps:List Nm}(h:∀p∈ps,NmK p):zms 255 (putB ps):=λ p hp=>by
 unfold putB at hp;obtain⟨q,hq,rfl⟩:=yaq.1 hp;exact⟨(h q hq).LB,(h q hq).len⟩
theorem tb_mem{tb:Nat}{s:TS}{ps:List Nm}(h:T_bool.TI w0 w tb s (putB ps))(g:Nm):g∈s.names↔inS ps g:=by
 rw[h.hist.names];unfold putB inS;constructor
 ·rintro(h| ⟨p,hp,hs⟩)
  ·exact .inl h
  ·obtain⟨q,hq,rfl⟩:=yaq.1 hp;exact .inr ⟨q,hq,hs⟩
 ·rintro(h| ⟨p,hp,hs⟩)
  ·exact .inl h
  ·exact .inr ⟨_,ybH hp,hs⟩
theorem tb_len{tb:Nat}{s:TS}{ps:List Nm}(h:T_bool.TI w0 w tb s (putB ps)):s.names.length=(canN ps).length:=canN_len h.ok.nd (tb_mem h)
theorem zoi{tb:Nat}{s:TS}{ps:List Nm}(h:T_bool.TI w0 w tb s (putB ps))(hr:T_bool.Still tb s w nv (n.map vs))(hn:NmK n):
  Fn prog 126 #[zaA tb,nv,.bool true] w (λ _ w'=>∃s',T_bool.TI w0 w' tb s' (putB (ps++ [n]))/\Keep (tblk tb s) w w'/\∀b,tblk tb s' b->tblk tb s b\/w.heap.size<=b):=by
 have hl:=hn.len;refine yfm (T_bool.Put_ti h hr hn.LB oM rfl) ?_;rintro _ w' ⟨s',h1,h2,h3⟩;rw[putB_app]at h1;exact⟨s',h1,h2,h3⟩
theorem zeF{tb:Nat}{s:TS}{ps:List Nm}(h:T_bool.TI w0 w tb s (putB ps))(hl:(canN ps).length<=1000000000000):
  Fn prog 91 #[zaA tb] w (λ v w'=>v=vi (canN ps).length/\Ext w w'):=by
 refine yfm (T_bool.Len_ok h.lies) ?_;rintro _ w' ⟨rfl,hE⟩;rw[tb_len h];refine⟨?_,hE⟩;rw[show IntKind.i64.wrap ((canN ps).length:Int)=((canN ps).length:Int) from wrap_i64 oM oM]
theorem zjq{tb:Nat}{s:TS}{ps:List Nm}(h:T_bool.TI w0 w tb s (putB ps))(hk:∀p∈ps,NmK p)(hl:(canN ps).length<=900000000):
  Fn prog 94 #[zaA tb] w (λ v w'=>Ext w w'/\∀S:Nat->Prop,(∀b,S b->b<w.heap.size)->NamesZ S w' v (canN ps)):=by
 refine yfm (T_bool.Names_tiZ h (putB_k hk) (by decide) (by rw[tb_len h];exact hl)) ?_;rintro v w' ⟨hE,L,h1,h2,h3,h4⟩;have:=zj6 h2 λ g=>(h3 g).trans (tb_mem h g);subst this;exact⟨hE,h1⟩
theorem zby{α β:Type}{f:α->List β}{l:List α}(h:i<l.length):(l.drop i).flatMap f=f l[i]++(l.drop (i+1)).flatMap f:=by
 rw[yag h,ybJ]
def encB(w0:World)(_:Nat)(x:Nm)(_:Nat->Prop)(_:World)(args:Array Value):Prop:=∃v,args=#[v]/\Row w0 v (x.map vs)
theorem names_ok(w:World){a b c d:Value}:
  Fn prog 125 #[.agg #[a,b,c,d]] w (λ v w'=>v= .func (.func 172) #[] #[.pointer (some ⟨w.heap.size,0,.none⟩)]/\Ext w w'/\w'.heap.size=w.heap.size+1/\
   w'.heap[w.heap.size]? =some (.cells #[a,b,c,d] 25 (0,0))):=by
 refine enx func125 ntmps125 ?_;repeat refine c_r ?_
 refine rg0 ?_;repeat refine c_r ?_
 refine zav ?_;intro w1 hE1 hs1 hA;refine rg0 ?_;repeat refine c_r ?_
 refine rt0 ntmps125 ?_;exact⟨rfl,hE1,hs1,hA⟩
structure NI(w0 W0 W:World)(C:Nat->Prop)(J:List Nm->(Nat->Prop)->World->Prop)(pre:List Nm)(U:Nat->Prop)(v:World):Prop where
 j:J pre U v
 u:∀b,U b->W.heap.size<=b/\b<v.heap.size
 kb:KeepB W0.heap.size C W v
 e:Ext w0 v
 s:W.heap.size<=v.heap.size
theorem namesIt{bn:Nat}(hE0:Ext w0 W0)(hb:W0.heap[bn]? =some (.cells cs.toArray 25 (0,0)))
  (hC:∀b,C b->w0.heap.size<=b/\b<W0.heap.size) (hN:NetAt w0 cs N) (hG:zaO N):
  zon prog 172 #[.pointer (some ⟨bn,0,.none⟩)] W0 W0.heap.size C 0 (λ pre x=>∃suf,zbe N=pre++x::suf) (λ xs=>xs=zbe N) (encB w0):=by
 intro lp J Jx W hW hnW hJ hJx hY h0;obtain⟨hv,rv,rfl,hh,hr⟩:=hN.ex;obtain⟨ah,ch,rfl,hch,hgh⟩:=hh.open;have hEW:=hE0.trans hW;have hl6:=hG.h1.2;have pn:zad W (some ⟨bn,0,.none⟩)=some (.slice ah N.hosts.length ch):=zab (Ext.at hW hb) rfl;have hnotC:∀{b},W.heap.size<=b->¬C b:=fun {b} h hc=>by have:=(hC b hc).2;omega
 have up:∀{pre:List Nm} {U:Nat->Prop} {v x:World},NI w0 W0 W C J pre U v->Ext v x->NI w0 W0 W C J pre U x:=fun {pre U v x} h hE=>by
  have h1:=hE.size;have h2:=h.s;exact⟨hJ _ _ _ _ h.j (hE.mono (λ _ _ h=>h.elim)),λ b hb=>by have:=h.u b hb;omega,h.kb.trans (zc7 hE oM),h.e.trans hE,oM⟩
 have yl:∀{pre:List Nm} {U:Nat->Prop} {v:World} {x:Nm} {nv:Value} {suf:List Nm},NI w0 W0 W C J pre U v->zbe N=pre++x::suf->Row w0 nv (x.map vs)->Yld prog lp #[nv] v (λ r B=>
   (r= .bool true/\∃U',NI w0 W0 W C J (pre++ [x]) U' B/\(∀b,U' b->U b\/(v.heap.size<=b/\b<B.heap.size))/\KeepR W0.heap.size W.heap.size (λ b=>C b\/U b) v B)\/(r= .bool false/\Jx (pre++ [x]) B)):=fun {pre U v x nv suf} h he hr=>by
  have h2:=h.s;refine Yld.mono (hY pre U x v _ ⟨suf,he⟩ h.j oM h.kb ⟨nv,rfl,hr⟩) ?_;rintro r B (⟨rfl,U',hj',hU',hk⟩| ⟨rfl,hjx⟩)
  ·have h3:=hk.size;have h4:=hk.toB h.kb oM (λ b hb=>by have:=(h.u b hb).1;omega);exact .inl ⟨rfl,U',⟨hj',λ b hb=>by
    rcases hU' b hb with h'|h'
    ·have:=h.u b h';omega
    ·omega,h4,zdi hEW h4 (by have:=hE0.size;omega) (λ b hb=>(hC b hb).1),oM⟩,hU',hk⟩
  ·exact .inr ⟨rfl,hjx⟩
 have own:∀{U:Nat->Prop} {v B:World} {b:Nat} {o:Obj},KeepR W0.heap.size W.heap.size (λ b=>C b\/U b) v B->v.heap[b]? =some o->W.heap.size<=b->¬U b->B.heap[b]? =some o:=fun {U v B b o} hk h h1 h2=>
  (hk.block b (yaa.1 h).1 (.inr h1) (λ hc=>hc.elim (hnotC h1) h2)).trans h
 refine enx func172 ntmps172 ?_;refine gz (az2 pn yad) ?_;refine zan (λ m σ ds v=>ds=[]/\∃(i:Nat) (pre:List Nm) (U:Nat->Prop),i+m=N.hosts.length/\σ 14=vi i/\σ 13=vi N.hosts.length/\σ 12= .slice ah N.hosts.length ch/\σ 0= .func (.yield lp) #[] #[]/\NI w0 W0 W C J pre U v/\zbe N=pre++(N.hosts.drop i).flatMap zgy) N.hosts.length ?_ ?_
 ·exact⟨rfl,0,[],NoS,oM,vr0,vq0,vq0,vq0,⟨h0,λ b h=>h.elim,KeepB.refl _ _ _,hEW,ynl _⟩,rfl⟩
 rintro m σ ds v ⟨rfl,i,pre,U,him,s14,s13,s12,s0,hI,hbe⟩;refine gz (az2 s14 s13) ?_;refine wc0 ?_ ?_
 ·intro hlt;simp only[ydT]at hlt;have hi:i<N.hosts.length:=oM;have hi0:=cj i;have hi1':=ci i;obtain⟨hcs,hce,hH⟩:=hgh i hi;have hmem:=yac hi;rw[zby hi]at hbe;obtain⟨h,hhe⟩:∃x,N.hosts[i]=x:=⟨_,rfl⟩;rw[hhe]at hH hmem hbe;obtain⟨nv,b1,b2,b3,b4,zv,rfl,_,hnv,hz⟩:=hH.ex;obtain⟨az,cz,rfl,hcz,hgz⟩:=hz.open;have hzl:=hG.zl h hmem;obtain⟨xa,rfl⟩:=yxs (zak hce);obtain⟨xi,hxi⟩:∃xi,adr (some xa) (i*6)=some xi:=⟨_,rfl⟩;rw[hxi]at hce;have d:=zac hI.e hce;have n1:=hnv.isOne;refine rqz ?_;intro gd K hgd hK;refine sgz (az6 s14 s12 hi0 hlt hxi d) ?_;refine zaV (P:=prog) (l:=[nv,zae b1,zae b2,zae b3,zae b4,.slice az h.zones.length cz]) rfl (λ q hq=>by simp at hq;rcases hq with rfl|rfl|rfl|rfl|rfl|rfl<;>first|exact n1|rfl) rfl rfl ?_;intro v1 hE1 hs1 hB4;refine sg0 ?_;apply hK;have hI1:=up hI hE1;have hvs:=hI.s;obtain⟨c4,hc4⟩:∃b,v.heap.size=b:=⟨_,rfl⟩;rw[hc4]at hB4 hs1 ⊢;have q0:zad v1 (some ⟨c4,0,.none⟩)=some nv:=zab hB4 rfl;have hbe1:zbe N=pre++h.name::(h.zones.flatMap zfa++(N.hosts.drop (i+1)).flatMap zgy):=hbe;refine rqz ?_;intro gd K hgd hK;refine sgz (az3 q0 yad s0) ?_;refine Yld.mono (yl hI1 hbe1 hnv) ?_;rintro r B (⟨rfl,U1,hI2,hU1,hk1⟩| ⟨rfl,hjx⟩)
  ·refine sg0 ?_;apply hK;have hB42:=own hk1 hB4 oM (λ hu=>by have:=hI.u _ hu;omega);have q5:zad B (some ⟨c4,5,.none⟩)=some (.slice az h.zones.length cz):=zab hB42 rfl;obtain⟨R1,hR1⟩:∃R,(N.hosts.drop (i+1)).flatMap zgy=R:=⟨_,rfl⟩;have hbe2:zbe N=(pre++ [h.name])++(h.zones.flatMap zfa++R1):=by rw[hbe1,hR1];simp
   clear hbe hbe1;refine cZ ?_;refine wf trivial ?_;refine gz (az2 q5 yn0) ?_;refine zan (λ m σ ds v=>ds=[]/\∃(k:Nat) (pre:List Nm) (U:Nat->Prop),k+m=h.zones.length/\σ 26=vi k/\σ 25=vi h.zones.length/\σ 24= .slice az h.zones.length cz/\σ 14=vi i/\σ 13=vi N.hosts.length/\σ 12= .slice (some xa) N.hosts.length ch/\σ 0= .func (.yield lp) #[] #[]/\NI w0 W0 W C J pre U v/\zbe N=pre++((h.zones.drop k).flatMap zfa++R1)) h.zones.length ?_ ?_
   ·exact⟨rfl,0,_,U1,oM,vr0,vq0,vq0,vq1 s14,vq1 s13,vq1 s12,vq1 s0,hI2,hbe2⟩
   clear hI hI1 hI2 d hce q0 q5 hB4 hB42 hk1 hU1 s14 s13 s12 s0 hbe2;rintro m2 σ2 ds2 v2 ⟨rfl,k,pre2,U2,hkm,s26,s25,s24,s14,s13,s12,s0,hI,hbe⟩;refine gz (az2 s26 s25) ?_;refine wc0 ?_ ?_
   ·intro hlt2;simp only[ydT]at hlt2;have hk:k<h.zones.length:=oM;have hk0:=cj k;have hk1':=ci k;obtain⟨zcs,hze,hZ⟩:=hgz k hk;have hzmem:=yac hk;rw[zby hk,yla]at hbe;obtain⟨z,hzz⟩:∃x,h.zones[k]=x:=⟨_,rfl⟩;rw[hzz]at hZ hzmem hbe;obtain⟨ov,lv,rfl,hov,hlv⟩:=hZ.ex;obtain⟨al,cl,rfl,hcl,hgl⟩:=hlv.open;have hrl:=(hG.z.z h hmem z hzmem).gd.len;obtain⟨xz,rfl⟩:=yxs (zak hze);obtain⟨xk,hxk⟩:∃xi,adr (some xz) (k*2)=some xi:=⟨_,rfl⟩;rw[hxk]at hze;have d:=zac hI.e hze;have o1:=hov.isOne;refine rqz ?_;intro gd K hgd hK;refine sgz (az6 s26 s24 hk0 hlt2 hxk d) ?_;refine zaV (P:=prog) (l:=[ov,.slice al z.recs.length cl]) rfl (za7 o1 rfl) rfl rfl ?_;intro v3 hE3 hs3 hB6;refine sg0 ?_;apply hK;have hI1:=up hI hE3;have hvs2:=hI.s;obtain⟨c6,hc6⟩:∃b,v2.heap.size=b:=⟨_,rfl⟩;rw[hc6]at hB6 hs3 ⊢;have q0:zad v3 (some ⟨c6,0,.none⟩)=some ov:=zab hB6 rfl;obtain⟨R2,hR2⟩:∃R,(h.zones.drop (k+1)).flatMap zfa++R1=R:=⟨_,rfl⟩;have hbe1:zbe N=pre2++z.o::(z.recs.flatMap recN++R2):=by rw[hbe,hR2];rfl
    refine rqz ?_;intro gd K hgd hK;refine sgz (az3 q0 yad s0) ?_;refine Yld.mono (yl hI1 hbe1 hov) ?_;rintro r B2 (⟨rfl,U3,hI2,hU3,hk3⟩| ⟨rfl,hjx⟩)
    ·refine sg0 ?_;apply hK;have hB62:=own hk3 hB6 oM (λ hu=>by have:=hI.u _ hu;omega);have q1:zad B2 (some ⟨c6,1,.none⟩)=some (.slice al z.recs.length cl):=zab hB62 rfl;have hbe2:zbe N=(pre2++ [z.o])++(z.recs.flatMap recN++R2):=by rw[hbe1];simp
     clear hbe hbe1;refine cZ ?_;refine wf trivial ?_;refine gz (az2 q1 yn0) ?_;refine zan (λ m σ ds v=>ds=[]/\∃(j:Nat) (pre:List Nm) (U:Nat->Prop),j+m=z.recs.length/\σ 38=vi j/\σ 37=vi z.recs.length/\σ 36= .slice al z.recs.length cl/\σ 26=vi k/\σ 25=vi h.zones.length/\σ 24= .slice (some xz) h.zones.length cz/\σ 14=vi i/\σ 13=vi N.hosts.length/\σ 12= .slice (some xa) N.hosts.length ch/\σ 0= .func (.yield lp) #[] #[]/\NI w0 W0 W C J pre U v/\zbe N=pre++((z.recs.drop j).flatMap recN++R2)) z.recs.length ?_ ?_
     ·exact⟨rfl,0,_,U3,oM,vr0,vq0,vq0,vq1 s26,vq1 s25,vq1 s24,vq1 s14,vq1 s13,vq1 s12,vq1 s0,hI2,hbe2⟩
     clear hI hI1 hI2 d hze q0 q1 hB6 hB62 hk3 hU3 s26 s25 s24 s14 s13 s12 s0 hbe2;rintro m3 σ3 ds3 v4 ⟨rfl,j,pre3,U4,hjm,s38,s37,s36,s26,s25,s24,s14,s13,s12,s0,hI,hbe⟩;refine gz (az2 s38 s37) ?_;refine wc0 ?_ ?_
     ·intro hlt3;simp only[ydT]at hlt3;have hj:j<z.recs.length:=oM;have hj0:=cj j;have hj1':=ci j;obtain⟨rcs,hre,hR⟩:=hgl j hj;have hrmem:=yac hj;rw[zby hj,yla]at hbe;obtain⟨r,hrr⟩:∃x,z.recs[j]=x:=⟨_,rfl⟩;rw[hrr]at hR hrmem hbe;have hrone:=hR.ones;obtain⟨ow,ds,rfl,how,hD⟩:=hR.ex;obtain⟨nm,nu,tx,rw',rfl,⟨vals,hvr,hvl,hvn⟩,_,_,_⟩:=hD.ex;have hrn:=zkv hG hmem hzmem hrmem;obtain⟨xr,rfl⟩:=yxs (zak hre);obtain⟨xj,hxj⟩:∃xi,adr (some xr) (j*7)=some xi:=⟨_,rfl⟩;rw[hxj]at hre;have d:=zac hI.e hre;have w1o:=how.isOne;refine rqz ?_;intro gd K hgd hK;refine sgz (az6 s38 s36 hj0 hlt3 hxj d) ?_;refine zaV (P:=prog) rfl hrone rfl rfl ?_;intro v5 hE5 hs5 hB8;refine sg0 ?_;apply hK;have hI1:=up hI hE5;have hvs4:=hI.s;obtain⟨c8,hc8⟩:∃b,v4.heap.size=b:=⟨_,rfl⟩;rw[hc8]at hB8 hs5 ⊢;have q0:zad v5 (some ⟨c8,0,.none⟩)=some ow:=zab hB8 rfl;have q3:zad v5 (some ⟨c8,3,.none⟩)=some nm:=zab hB8 rfl;obtain⟨R3,hR3⟩:∃R,(z.recs.drop (j+1)).flatMap recN++R2=R:=⟨_,rfl⟩;have hbe1:zbe N=pre3++(recN r++R3):=by rw[hbe,hR3]
      obtain⟨an,cn,hnm,hcn,hgn⟩:=id hvr;have hvl8:vals.length<=8:=by have:=hrn;unfold recN at this;rw[yah]at this;omega
      refine rqz ?_;intro gd K hgd hK;refine sgz (az4 q0 q3 yad yn0) ?_;refine zc3 (z:= .slice .none 0 0) rfl rfl rfl rfl (by obtain⟨a,c,rfl,_⟩:=how;rfl) ?_;intro v6 hE6 hs6 hO6;have q36:=zaa hE6 q3;refine sgz (az3 q36 yad yn0) ?_;refine zb0 hO6 (hvr.ext ((hI.e.trans hE5).trans hE6)) (by rfl) (by rfl) (by rfl) (by rfl) (by rfl) (by rfl) (by rfl) (by rfl) (λ q hq=>?_) (by simp;omega) (by decide) oM ?_
      ·obtain⟨i9,hi9,rfl⟩:=ybh.1 hq;exact(hvn i9 hi9 oM).isOne
      intro sv v7 hO7 hE7 hk7 hb7;obtain⟨a8,c8',hsv,hc8',hg8⟩:=id hO7.row;refine sgz hsv ?_;apply hK;have hv57:Ext v5 v7:=ykt hE6 rfl (λ b hb=>by have:=hO6.ge hb;omega) hk7;have hI3:=up hI1 hv57;have hz7:=hv57.size;have hsz:RowZ W.heap.size U4 v7 sv ([ow]++vals):=⟨hO7.row,λ a n c hv=>by
       obtain⟨k1,k2⟩:=hO7.blk a n c hv;exact⟨oM,k2,λ hu=>by have:=hI.u _ hu;omega⟩⟩
      have hvl9:([ow]++vals).length=(recN r).length:=by unfold recN;simp[hvl]
      have hrow9:∀q (h:q<([ow]++vals).length) (h':q<(recN r).length),Row w0 ([ow]++vals)[q] ((recN r)[q].map vs):=λ q h h'=>by
       cases q with
       |zero=>exact how
       |succ q=>exact hvn q (sU h) (by simpa [recN] using h')
      obtain⟨Vs,hVs⟩:∃V,[ow]++vals=V:=⟨_,rfl⟩;rw[hVs]at hsz hvl9 hsv hc8' hg8;simp only[hVs]at hrow9;obtain⟨L,hL⟩:∃L,recN r=L:=⟨_,rfl⟩;rw[hL]at hvl9 hbe1 hrn;simp only[hL]at hrow9;rw[hvl9]at hsv;rw[hsv]at hsz;have hl9:(ow::vals).length=L.length:=by rw[←hvl9,←hVs];rfl
      clear hg8 hO7 hO6 hB8 q0 q3 d;refine cZ ?_;refine zan (λ m σ ds v=>ds=[]/\∃(q:Nat) (pre:List Nm) (U:Nat->Prop),q+m=L.length/\σ 50=vi q/\σ 49=vi L.length/\σ 48= .slice a8 L.length c8'/\σ 38=vi j/\σ 37=vi z.recs.length/\σ 36= .slice (some xr) z.recs.length cl/\σ 26=vi k/\σ 25=vi h.zones.length/\σ 24= .slice (some xz) h.zones.length cz/\σ 14=vi i/\σ 13=vi N.hosts.length/\σ 12= .slice (some xa) N.hosts.length ch/\σ 0= .func (.yield lp) #[] #[]/\NI w0 W0 W C J pre U v/\RowZ W.heap.size U v (.slice a8 L.length c8') Vs/\zbe N=pre++(L.drop q++R3)) L.length ?_ ?_
      ·exact⟨rfl,0,_,U4,oM,vr0,vq1 hl9,vq1 hl9,vq1 s38,vq1 s37,vq1 s36,vq1 s26,vq1 s25,vq1 s24,vq1 s14,vq1 s13,vq1 s12,vq1 s0,hI3,hsz,hbe1⟩
      clear hI hI1 hI3 hsz hbe hbe1 s38 s37 s36 s26 s25 s24 s14 s13 s12 s0;rintro m4 σ4 ds4 v8 ⟨rfl,q,pre4,U5,hqm,s50,s49,s48,s38,s37,s36,s26,s25,s24,s14,s13,s12,s0,hI,hsz,hbe⟩;refine gz (az2 s50 s49) ?_;refine wc0 ?_ ?_
      ·intro hlt4;simp only[ydT]at hlt4;have hq:q<L.length:=oM;have hq0:=cj q;have hq1':=ci q;obtain⟨a9,c9,e9,_,hg9⟩:=id hsz.1;have ea:a8=a9:=by injection e9
       subst ea;have hcell:=hg9 q oM;obtain⟨xs9,rfl⟩:=yxs (zaf hcell);have hrq:=hrow9 q oM hq;obtain⟨yv,hyv⟩:∃y,Vs[q]'(oM)=y:=⟨_,rfl⟩;obtain⟨y,hye⟩:∃y,L[q]=y:=⟨_,rfl⟩;rw[hyv,hye]at hrq;rw[hyv]at hcell;have hbe1:zbe N=pre4++y::(L.drop (q+1)++R3):=by rw[hbe,yag hq,hye];rfl
       refine gz (az5 s50 s48 hq0 hlt4 hcell) ?_;refine rq ?_;intro gd K hgd hK;refine sgz s0 ?_;refine Yld.mono (yl hI hbe1 hrq) ?_;rintro rr B4 (⟨rfl,U6,hI2,hU6,hk6⟩| ⟨rfl,hjx⟩)
       ·refine sg0 ?_;apply hK;have hsz2:=hsz.keep hk6 (λ b hb=>by have:=(hC b hb).2;omega) hU6;refine cZ ?_;refine wf trivial ?_;refine gz (az2 s50 hq1') ?_;exact⟨m4 - 1,oM,rfl,q+1,_,U6,oM,vq0,vq1 s49,vq1 s48,vq1 s38,vq1 s37,vq1 s36,vq1 s26,vq1 s25,vq1 s24,vq1 s14,vq1 s13,vq1 s12,vq1 s0,hI2,hsz2,by rw[hbe1];simp⟩
       ·refine sg0 ?_;refine en hK ?_;refine wt trivial ?_;refine cZ ?_;exact zap sM rfl (.inr ⟨_,_,⟨_,hbe1⟩,hjx⟩)
      ·intro hge4;simp only[ydF]at hge4;rw[yat oM,yaI,←hR3]at hbe;refine gz (az2 s38 hj1') ?_;exact⟨m3 - 1,oM,rfl,j+1,_,U5,oM,vq0,vq1 s37,vq1 s36,vq1 s26,vq1 s25,vq1 s24,vq1 s14,vq1 s13,vq1 s12,vq1 s0,hI,hbe⟩
     ·intro hge3;simp only[ydF]at hge3;rw[yat oM,ybx,yaI,←hR2]at hbe;refine gz (az2 s26 hk1') ?_;exact⟨m2 - 1,oM,rfl,k+1,_,U4,oM,vq0,vq1 s25,vq1 s24,vq1 s14,vq1 s13,vq1 s12,vq1 s0,hI,hbe⟩
    ·refine sg0 ?_;refine en hK ?_;refine wt trivial ?_;refine cZ ?_;exact zap sM rfl (.inr ⟨_,_,⟨_,hbe1⟩,hjx⟩)
   ·intro hge2;simp only[ydF]at hge2;rw[yat oM,ybx,yaI,←hR1]at hbe;refine gz (az2 s14 hi1') ?_;exact⟨m - 1,oM,rfl,i+1,_,U2,oM,vq0,vq1 s13,vq1 s12,vq1 s0,hI,hbe⟩
  ·refine sg0 ?_;refine en hK ?_;refine wt trivial ?_;refine cZ ?_;exact zap sM rfl (.inr ⟨_,_,⟨_,hbe1⟩,hjx⟩)
 ·intro hge;simp only[ydF]at hge;rw[yat oM,ybx,yaF]at hbe;refine cZ ?_;refine zap sM rfl (.inl ⟨_,U,rfl,?_⟩);rw[hbe];exact hI.j
theorem base_ok(hE0:Ext w0 w)(hN:NetAt w0 cs N)(hG:zaO N):
  Fn prog 90 #[.agg cs.toArray] w (λ v w'=>∃tb s,v=zaA tb/\T_bool.TI w w' tb s (putB (zbe N))):=by
 have hN0:=hN;obtain⟨hv,rv,rfl,hh,hr⟩:=hN.ex;obtain⟨ah,ch,hhv,_⟩:=hh.open;obtain⟨ar,cr,hrv,_⟩:=id hr;have bk:=zjj hG;have h1:=hh.isOne;have r1:=hr.isOne;refine enx func90 ntmps90 ?_;refine cZ ?_;rw[hhv,hrv];refine rg0 ?_;rw[←hhv,←hrv];refine cZ ?_;refine zav ?_;intro w1 hE1 hs1 hA;refine rq ?_;intro gd K hgd hK;refine sg0 ?_;refine yfm (T_bool.New_ti w w1 hE1) ?_;rintro _ w2 ⟨hE2,tb,s0,rfl,hT,hT0⟩;refine sg0 ?_;refine zmo ?_;intro w3 hE3 hs3 hC;refine za6 (P:=prog) (t:=199) (j:=0) (u:=zaA tb) (l:=[_]) hC sM rfl rfl rfl ?_;intro w4 hs4 hC4 hk4;refine sg0 ?_;apply hK;simp only[ybi]at hC4;obtain⟨b3,hb3⟩:∃b,w2.heap.size=b:=⟨_,rfl⟩;rw[hb3]at hC4 hk4 hs3 ⊢;have hE14:Ext w1 w4:=ykt (hE2.trans hE3) rfl (λ b hb=>by have:=hE2.size;omega) hk4;have hE24:Ext w2 w4:=ykt hE3 rfl (λ b hb=>oM) hk4;have hT4:=hT.on hE24;have dA:=zah (n:=4) (l:=[hv,rv,vi N.rw,vi N.rf]) (Ext.at hE14 hA) rfl;have hsz2:=hE2.size;have htl:∀b,tblk tb s0 b->w.heap.size<b/\b<b3:=λ b hb=>by
  have h1:=hT0 b hb;have h2:=hT.lt b hb;omega
 refine cZ ?_;refine rc dA (names_ok w4) ?_;rintro _ w5 ⟨rfl,hE5,hs5,hB5⟩;refine re trivial ?_;refine cZ ?_;have hE45:=hE24.trans hE5;have hT5:=hT.on hE45;have hC5:w5.heap[b3]? =some (.cells #[zaA tb] 199 (0,0)):=Ext.at hE5 hC4;have hsz5:=hE5.size;have hE05:Ext w w5:=hE1.trans (hE14.trans hE5);refine ze6 (own:=0) (n0:=w5.heap.size) (C:=tblk tb s0) (W0:=w5) vq0 (by rfl) (namesIt (w0:=w0) (hE0.trans hE05) hB5 (λ b hb=>by have:=htl b hb;have:=hE0.size;omega) hN0 hG) ykr (ynl _) (λ b hb=>by have:=htl b hb;omega)
  (λ x U A args h=>by obtain⟨nv,rfl,_⟩:=h;rfl)
  (λ pre U A=>∃s,T_bool.TI w A tb s (putB pre)/\(∀b,tblk tb s b->tblk tb s0 b\/U b)/\A.heap[b3]? =some (.cells #[zaA tb] 199 (0,0)))
  (λ _ _ _=>False) ?_ (λ _ _ _ _ h _=>h.elim) ?_ ?_ ?_ (λ _ _ _ _ _ _ h _=>h.elim)
 ·rintro pre U A B ⟨s,h1,h2,h3⟩ hU hk;refine⟨s,h1.other hk (λ b hb=>?_) (ykt h1.ext rfl (λ b hb=>by unfold span at hb;omega) hk),h2,(hk.block _ (yaa.1 h3).1 (by unfold span;omega)).trans h3⟩;unfold span;rcases h2 b hb with h|h
  ·have:=htl b h;omega
  ·have:=hU b h;omega
 ·exact⟨s0,hT5,λ b hb=> .inl hb,hC5⟩
 ·rintro lp pre U x A args hpx hszA ⟨s,hTA,hsU,hbA⟩ hU ⟨nv,rfl,hnv⟩;obtain⟨xa,xc,hnve,_⟩:=id hnv;have hxk:NmK x:=by
   obtain⟨q,e⟩:=hpx;exact bk x (by rw[e];simp)
  rw[hnve];refine gz0 ?_;refine⟨rfl,Keep.refl _ _,λ A2 hA2=>?_⟩;rw[←hnve];have hb2:=(hA2.block _ (yaa.1 hbA).1 (by unfold two;omega)).trans hbA;have hs2:=hA2.size;have hT2:T_bool.TI w A2 tb s (putB pre):=hTA.other hA2 (λ b hb=>by
   unfold two;rcases hsU b hb with h|h
   ·have:=htl b h;omega
   ·have:=hU b h;omega) (ykt hTA.ext rfl (λ b hb=>by unfold two at hb;omega) hA2)
  have q0:zad A2 (some ⟨b3,0,.none⟩)=some (zaA tb):=zab hb2 rfl;unfold zaA at q0;refine rqz ?_;intro gd K hgd hK;refine sgz q0 ?_;refine yfm (zoi hT2 (hT2.still (hnv.ext hE0)) hxk) ?_;rintro _ A3 ⟨s',hT3,hk3,hs'⟩;refine sg0 ?_;refine en hK ?_;have hs3:=hk3.size;refine⟨λ b=>U b\/(A2.heap.size<=b/\b<A3.heap.size),⟨s',hT3,λ b hb=>?_,?_⟩,λ b hb=>hb,hk3.mono (λ b _ hb=>hsU b hb)⟩
  ·have h3:=hT3.lt b hb;rcases hs' b hb with h|h
   ·rcases hsU b h with h|h
    ·exact .inl h
    ·exact .inr (.inl h)
   ·exact .inr (.inr ⟨h,h3⟩)
  ·refine(hk3.block _ (yaa.1 hb2).1 (λ hb=>?_)).trans hb2;rcases hsU _ hb with h|h
   ·have:=htl _ h;omega
   ·have:=hU _ h;omega
 ·rintro xs U w6 rfl hsz6 hU ⟨s,hT6,hsU,hb6⟩ hD;have q0:zad w6 (some ⟨b3,0,.none⟩)=some (zaA tb):=zab hb6 rfl;unfold zaA at q0;refine gz q0 ?_;refine zcY sM rfl ntmps90 (by simp only[go_sem];rfl) hD ?_;intro w7 hk7 _;refine⟨tb,s,rfl,hT6.other hk7 (λ b hb e=>?_) (ykt hT6.ext rfl (λ b hb=>by have:=hE05.size;omega) hk7)⟩;subst e;rcases hsU _ hb with h|h
  ·have:=htl _ h;omega
  ·have:=hU _ h;omega
namespace P_pp
theorem Clip_ok{n:Nat}(hc:n<=c):Fn prog 127 #[.slice a n c] w (λ u w'=>u= .slice a n n/\w'=w):=by
 refine enx func127 ntmps127 ?_;refine gz0 ?_;refine rq ?_;intro gd K hgd hK;refine sg0 ?_;have hcl:slD prog (some (TypeDesc.slice 254)) (Value.slice a n c) .none (some (Value.int IntKind.i64 ↑n)) (some (Value.int IntKind.i64 ↑n))=some (.slice a n n):=zfy hc (by rfl);rw[hcl];refine sg0 ?_;refine en hK ?_;refine rt0 ntmps127 ?_;exact⟨rfl,rfl⟩
end P_pp
namespace S_pair
section
variable {α : Type} {enc : α -> List Value}
abbrev Lies(enc:α->List Value)(w:World)(b cap:Nat)(D:List α):Prop:=SD 2 w b 254 cap (D.map enc)
def zbt(b n cap:Nat):Value:= .slice (some ⟨b,0,.none⟩) n cap
theorem Lies.get{D:List α}(h:Lies enc w b cap D){x:α}(hx:D[j]? =some x):zat w (some ⟨b,j*2,.none⟩) 2=some (enc x):=by
 obtain⟨hj,e⟩:=yaj.1 hx;have:=SD.get h (j:=j) (sU hj);rw[this,yaA,e]
theorem Lies.enc_len{D:List α}(h:Lies enc w b cap D){x:α}(hx:x∈D):(enc x).length=2:=h.len _ (ybH hx)
theorem Lies.enc_one{D:List α}(h:Lies enc w b cap D){x:α}(hx:x∈D):∀v∈enc x,one v=true:=h.ones _ (ybH hx)
theorem zdH{A X M Y B:List α}{n:Nat}(hX:X.length=n)(hY:Y.length=n)(hD:Lies enc w b cap (A++X++M++Y++B))(hlen:(A++X++M++Y++B).length<=1000000000000){cmp:Value}:
  Fn prog 260 #[zbt b (A++X++M++Y++B).length cap,vi A.length,vi (A.length+X.length+M.length:Nat),vi n,cmp] w (λ _ w'=>Lies enc w' b cap (A++Y++M++X++B)/\Keep (λ i=>i=b) w w'):=by
 obtain⟨N,hN⟩:∃N,(A++X++M++Y++B).length=N:=⟨_,rfl⟩;have hN':=hN;simp only[yab]at hN';rw[hN]at hlen ⊢;obtain⟨q,hq⟩:∃q,A.length+X.length+M.length=q:=⟨_,rfl⟩;rw[hq];unfold zbt;refine enx func260 ntmps260 ?_;repeat (first|refine c_r ?_|refine rg0 ?_)
 refine zan (λ m σ ds v=>ds=[]/\∃i:Nat,i+m=n/\σ 10=vi i/\σ 0= .slice (some ⟨b,0,.none⟩) N cap/\σ 1=vi A.length/\σ 2=vi q/\σ 3=vi n/\Lies enc v b cap (zbV A X M Y B i)/\Keep (λ i=>i=b) w v) n ?_ ?_
 ·refine⟨rfl,0,oM,?_,?_,?_,?_,?_,by rw[zfx];exact hD,Keep.refl _ _⟩
  ·simp only[go_sem];rfl
  ·simp only[go_sem]
  ·simp only[go_sem]
  ·simp only[go_sem]
  ·simp only[go_sem]
 ·rintro m σ ds v ⟨rfl,i,him,h10,h0,h1,h2,h3,hL,hK⟩;repeat refine c_r ?_
  refine rg2 h10 h3 ?_;repeat refine c_r ?_
  refine wc0 ?_ ?_
  ·intro hlt;simp only[ydT]at hlt;have hiX:i<X.length:=oM;have hiY:i<Y.length:=oM;obtain⟨hst,hg1,hg2⟩:=zga (A:=A) (M:=M) (B:=B) hiX hiY;have hLl:(zbV A X M Y B i).length=N:=by rw[zha oM oM,hN]
   rw[hq]at hg2;have c1:=hL.get hg1;have c2:=hL.get hg2;have m1:=List.mem_of_getElem? hg1;have m2:=List.mem_of_getElem? hg2;have x1:((A.length:Int)+i).toNat=A.length+i:=oM;have x2:((q:Int)+i).toNat=q+i:=oM;repeat refine c_r ?_
   refine zaF (λ i=>i==21||i==23) [(0,true),(1,true),(2,true),(3,true),(4,true),(5,true),(6,true),(7,true),(8,true),(9,true),(10,true),(11,true),(12,true),(13,true),(14,true),(15,true),(16,true),(17,true),(18,true),(19,true),(20,true),(21,false),(22,true),(23,false)] NoS mixed kR ?_;intro gd K x hgd hx hxe hK;clear hxe;have hLx:Lies enc x b cap (zbV A X M Y B i):=SD.ext hL hx;have d1:=hLx.get hg1;have d2:=hLx.get hg2;simp (disch:=first|omega|assumption|rfl) only[go_sem,h10,h0,h1,h2,x1,x2,d1,d2];refine SD.set (P:=prog) (t:=254) hLx (j:=A.length+i) (by simpa using by omega) (hL.enc_len m2) (hL.enc_one m2) rfl rfl ?_;intro w1 hs1 hL1 hk1;refine⟨.inl rfl,?_⟩;simp (disch:=first|omega|assumption|rfl) only[go_sem,x2];refine SD.set (P:=prog) (t:=254) hL1 (j:=q+i) (by simpa using by omega) (hL.enc_len m1) (hL.enc_one m1) rfl rfl ?_;intro w2 hs2 hL2 hk2;refine⟨.inl rfl,?_⟩;simp (disch:=first|omega|assumption|rfl) only[go_sem];refine hK _ _ ?_;clear hK hgd;clear K;try clear gd
   repeat refine c_r ?_
   refine rg1 h10 ?_;repeat refine c_r ?_
   refine⟨m - 1,oM,rfl,i+1,oM,by simp only[go_sem];push_cast;rfl,vq1 h0,vq1 h1,vq1 h2,vq1 h3,?_,((hK.trans (Ext.keep hx)).trans hk1).trans hk2⟩;rw[←hst,hq];unfold Lies;rw[ybp,ybp];exact hL2
  ·intro hge;simp only[ydF]at hge;repeat refine c_r ?_
   refine zap (by simp) rfl ?_;have:i=n:=oM;subst this;rw[zhb hX hY]at hL;exact⟨hL,hK⟩
theorem zbq{D A X M Y B:List α}{p q n N:Nat}(hDe:D=A++X++M++Y++B)(hN:D.length=N)(hp:A.length=p)(hq:A.length+X.length+M.length=q)(hX:X.length=n)(hY:Y.length=n)(hD:Lies enc w b cap D)(hlen:N<=1000000000000){cmp:Value}:
  Fn prog 260 #[zbt b N cap,vi p,vi q,vi n,cmp] w (λ _ w'=>Lies enc w' b cap (A++Y++M++X++B)/\Keep (λ i=>i=b) w w'):=by
 subst hDe hN hp hq;exact zdH hX hY hD hlen
theorem zgh{D A X Y B:List α}{p q r N:Nat}(hDe:D=A++X++Y++B)(hN:D.length=N)(hp:A.length=p)(hq:A.length+X.length=q)(hr:A.length+X.length+Y.length=r)(hX:X≠ [])(hY:Y≠ [])(hD:Lies enc w b cap D)(hlen:N<=1000000000000){cmp:Value}:
  Fn prog 249 #[zbt b N cap,vi p,vi q,vi r,cmp] w (λ _ w'=>Lies enc w' b cap (A++Y++X++B)/\Keep (λ i=>i=b) w w'):=by
 have hDl:=congrArg List.length hDe;simp only[yab]at hDl;have hXp:0<X.length:=yau.2 hX;have hYp:0<Y.length:=yau.2 hY;unfold zbt;refine enx func249 ntmps249 ?_;repeat (first|refine c_r ?_|refine rg0 ?_)
 refine zan (λ m σ ds v=>ds=[]/\∃(P X' Y' Q:List α),X'.length+Y'.length=m/\0<X'.length/\0<Y'.length/\P.length+X'.length=q/\P.length+X'.length+Y'.length+Q.length=N/\P++Y'++X'++Q=A++Y++X++B/\σ 10=vi X'.length/\σ 11=vi Y'.length/\σ 0= .slice (some ⟨b,0,.none⟩) N cap/\σ 2=vi q/\σ 4=cmp/\
  Lies enc v b cap (P++X'++Y'++Q)/\Keep (λ i=>i=b) w v) (X.length+Y.length) ?_ ?_
 ·refine⟨rfl,A,X,Y,B,rfl,hXp,hYp,hq,oM,rfl,?_,?_,?_,?_,?_,by rw[←hDe];exact hD,Keep.refl _ _⟩
  ·have:(q:Int) - p=X.length:=oM;simp only[go_sem,this]
  ·have:(r:Int) - q=Y.length:=oM;simp only[go_sem,this]
  ·simp only[go_sem]
  ·simp only[go_sem]
  ·simp only[go_sem]
 ·rintro m σ ds v ⟨rfl,P,X',Y',Q,hm,hx0,hy0,hPq,hPN,hT,h10,h11,h0,h2,h4,hL,hK⟩;have hDl':(P++X'++Y'++Q).length=N:=by simp only[yab];omega
  have hqi:(q:Int) - X'.length=P.length:=oM;repeat refine c_r ?_
  refine rq ?_;intro gd K hgd hK;simp (disch:=first|omega|assumption|rfl) only[go_sem,h10,h11];refine hK _ _ ?_;clear hK hgd;clear K gd;repeat refine c_r ?_
  refine wc0 ?_ ?_
  ·intro hne;simp only[yao,ydF]at hne;repeat refine c_r ?_
   refine rq ?_;intro gd K hgd hK;simp (disch:=first|omega|assumption|rfl) only[go_sem,h10,h11];refine hK _ _ ?_;clear hK hgd;clear K gd;repeat refine c_r ?_
   refine wc0 ?_ ?_
   ·intro hgt;simp only[ydT]at hgt;have e1:P++X'++Y'++Q=P++X'.take Y'.length++X'.drop Y'.length++Y'++Q:=by
     rw[yla P (X'.take Y'.length),yar]
    have l1:(X'.take Y'.length).length=Y'.length:=by simp;omega
    have l2:(X'.drop Y'.length).length=X'.length - Y'.length:=by simp
    repeat refine c_r ?_
    refine rq ?_;intro gd K hgd hK;try simp (disch:=first|omega|assumption|rfl) only[go_sem,h0,h2,h10,h11,h4,hqi]
    refine yfm (zbq (p:=P.length) (q:=q) e1 hDl' rfl (by rw[l1,l2];omega) l1 rfl hL hlen) ?_;rintro _ w1 ⟨hL1,hK1⟩;try simp only[go_sem]
    refine hK _ _ ?_;clear hK hgd;clear K;try clear gd
    repeat refine c_r ?_
    have hsub:(X'.length:Int) - Y'.length=(X'.drop Y'.length).length:=by rw[l2];omega
    refine rq ?_;intro gd K hgd hK;simp (disch:=first|omega|assumption|rfl) only[go_sem,h10,h11,hsub];refine hK _ _ ?_;clear hK hgd;clear K gd;repeat refine c_r ?_
    refine⟨X'.length,oM,rfl,P++Y',X'.drop Y'.length,X'.take Y'.length,Q,by rw[l1,l2];omega,by rw[l2];omega,by rw[l1];omega,by rw[l2,yab];omega,by rw[l1,l2,yab];omega,?_,vq1 hsub,by simp only[go_sem,h11,l1],vq1 h0,vq1 h2,vq1 h4,?_,hK.trans hK1⟩
    ·rw[←hT,yla (P++Y'),yar]
    ·exact hL1
   ·intro hle;simp only[ydF]at hle;have hlt:X'.length<Y'.length:=oM;obtain⟨d,hd⟩:∃d,Y'.length - X'.length=d:=⟨_,rfl⟩;have e1:P++X'++Y'++Q=P++X'++Y'.take d++Y'.drop d++Q:=by
     rw[yla (P++X') (Y'.take d),yar]
    have l1:(Y'.take d).length=d:=by simp;omega
    have l2:(Y'.drop d).length=X'.length:=by simp;omega
    have hqj:(q:Int)+Y'.length - X'.length=((q+d:Nat):Int):=oM;repeat refine c_r ?_
    refine rq ?_;intro gd K hgd hK;try simp (disch:=first|omega|assumption|rfl) only[go_sem,h0,h2,h10,h11,h4,hqi,hqj]
    refine yfm (zbq (p:=P.length) (q:=q+d) e1 hDl' rfl (by rw[l1];omega) rfl l2 hL hlen) ?_;rintro _ w1 ⟨hL1,hK1⟩;try simp only[go_sem]
    refine hK _ _ ?_;clear hK hgd;clear K;try clear gd
    repeat refine c_r ?_
    have hsub:(Y'.length:Int) - X'.length=(Y'.take d).length:=by rw[l1];omega
    refine rq ?_;intro gd K hgd hK;simp (disch:=first|omega|assumption|rfl) only[go_sem,h10,h11,hsub];refine hK _ _ ?_;clear hK hgd;clear K gd;repeat refine c_r ?_
    refine⟨Y'.length,oM,rfl,P,Y'.drop d,Y'.take d,X'++Q,by rw[l1,l2];omega,by rw[l2];omega,by rw[l1];omega,by rw[l2];omega,by rw[l1,l2,yab];omega,?_,vq2 h10 l2,vq1 hsub,vq1 h0,vq1 h2,vq1 h4,?_,hK.trans hK1⟩
    ·rw[←hT,yla P (Y'.take d),yar];simp only[yla]
    ·have:P++Y'.drop d++Y'.take d++X'++Q=P++Y'.drop d++Y'.take d++(X'++Q):=by simp only[yla]
     rw[←this];exact hL1
  ·intro heq;simp only[yaw,ydT]at heq;have e1:P++X'++Y'++Q=P++X'++ []++Y'++Q:=by simp
   repeat refine c_r ?_
   refine rq ?_;intro gd K hgd hK;try simp (disch:=first|omega|assumption|rfl) only[go_sem,h0,h2,h10,h4,hqi]
   refine yfm (zbq (p:=P.length) (q:=q) (n:=X'.length) e1 hDl' rfl (by simpa using hPq) rfl oM hL hlen) ?_;rintro _ w1 ⟨hL1,hK1⟩;try simp only[go_sem]
   refine hK _ _ ?_;clear hK hgd;clear K;try clear gd
   repeat refine c_r ?_
   refine zap (by simp) rfl ⟨?_,hK.trans hK1⟩;rw[←hT];simpa using hL1
end
end S_pair
namespace S_pair
section
variable {α : Type} {enc : α -> List Value}
structure Cmp(w0:World)(enc:α->List Value)(U:α->Prop)(cf:α->α->Int)(g:FuncId)(cb:List Value):Prop where
 cal:zaD prog g=true
 call:∀(A:World) (x y:α),Ext w0 A->U x->U y->Fn prog g (.agg (enc x).toArray:: .agg (enc y).toArray::cb).toArray A (λ v B=>v=vi (cf x y)/\Ext A B)
def cmpV(g:FuncId)(cb:List Value):Value:= .func (.func g) #[] cb.toArray
theorem zbm{U:α->Prop}{cf:α->α->Int}{lt older:α->α->Prop}{g:FuncId}{cb:List Value}(hc:Cmp w0 enc U cf g cb)(ho:zes cf lt older)
  {D A X B:List α} {p q N:Nat} (hDe:D=A++X++B) (hN:D.length=N) (hp:A.length=p) (hq:A.length+X.length=q) (hU:∀x∈X,U x) (hX:X.Pairwise older) (hD:Lies enc w b cap D) (hlen:N<=1000000000000)
  (hE:Ext w0 w) (hb:w0.heap.size<=b):
  Fn prog 243 #[zbt b N cap,vi p,vi q,cmpV g cb] w (λ _ w'=>(∃Z,Z.Perm X/\Z.Pairwise lt/\Lies enc w' b cap (A++Z++B))/\Keep (λ i=>i=b) w w'):=by
 have hDl:=congrArg List.length hDe;simp only[yab]at hDl;unfold zbt cmpV;refine enx func243 ntmps243 ?_;repeat (first|refine c_r ?_|refine rg0 ?_)
 refine zan (λ m σ ds v=>ds=[]/\∃(k:Nat) (S:List α),1<=k/\k+m=X.length+1/\S.Perm (X.take k)/\S.Pairwise lt/\σ 8=vi (p+k:Nat)/\σ 0= .slice (some ⟨b,0,.none⟩) N cap/\σ 1=vi p/\σ 2=vi q/\σ 3= .func (.func g) #[] cb.toArray/\
  Lies enc v b cap (A++S++X.drop k++B)/\Keep (λ i=>i=b) w v) X.length ?_ ?_
 ·refine⟨rfl,1,X.take 1,oM,oM,List.Perm.refl _,?_,?_,?_,?_,?_,?_,?_,Keep.refl _ _⟩
  ·match X with
   | []=>exact List.Pairwise.nil
   |x::_=>exact yby _ _
  ·simp only[go_sem];push_cast;rfl
  ·simp only[go_sem]
  ·simp only[go_sem]
  ·simp only[go_sem]
  ·simp only[go_sem]
  ·rw[yla A,yar,←hDe];exact hD
 ·rintro m σ ds v ⟨rfl,k,S,hk1,hkm,hSp,hSs,h8,h0,h1,h2,h3,hL,hK⟩;have hSl:=hSp.length_eq;repeat refine c_r ?_
  refine rg2 h8 h2 ?_;repeat refine c_r ?_
  refine wc0 ?_ ?_
  ·intro hlt;simp only[ydT]at hlt;have hkX:k<X.length:=oM;have hSk:S.length=k:=by rw[hSl];simp;omega
   obtain⟨u,hu⟩:∃u,X[k]=u:=⟨_,rfl⟩;have hUu:U u:=hU u (by rw[←hu];exact yac _);have hUS:∀y∈S,U y:=λ y hy=>hU y (yaO (hSp.mem_iff.1 hy));have hOS:∀y∈S,older y u:=λ y hy=>by
    have h1:=hX;rw[zcW hkX,yap]at h1;exact h1.2.2 y (hSp.mem_iff.1 hy) u (by rw[hu];exact yal ..)
   have hdk:X.drop k=u::X.drop (k+1):=by rw[yag hkX,hu]
   rw[hdk]at hL;repeat refine c_r ?_
   refine rg1 h8 ?_;repeat refine c_r ?_
   refine zan (λ m σ ds v=>ds=[]/\∃(S1 S2:List α),S1.length=m/\S1++S2=S/\(∀y∈S2,lt u y)/\σ 9=vi (p+S1.length:Nat)/\σ 8=vi (p+k:Nat)/\σ 0= .slice (some ⟨b,0,.none⟩) N cap/\σ 1=vi p/\σ 2=vi q/\σ 3= .func (.func g) #[] cb.toArray/\
    Lies enc v b cap (A++S1++u::S2++X.drop (k+1)++B)/\Keep (λ i=>i=b) w v) S.length ?_ ?_
   ·refine⟨rfl,S,[],rfl,by simp,λ y hy=>(by cases hy),?_,?_,?_,?_,?_,?_,by simpa using hL,hK⟩
    ·simp only[go_sem,hSk]
    ·simp only[go_sem,h8]
    ·simp only[go_sem,h0]
    ·simp only[go_sem,h1]
    ·simp only[go_sem,h2]
    ·simp only[go_sem,h3]
   clear h8 h0 h1 h2 h3 hL hK;rintro m2 σ ds v ⟨rfl,S1,S2,hm2,hS12,hS2,h9,h8,h0,h1,h2,h3,hL,hK⟩;have hE0:Ext w0 v:=ykt hE rfl (λ i hi=>oM) hK;have hl12:S1.length+S2.length=k:=by rw[←hSk,←hS12,yab]
   -- the round's end:where u stays
   have hstay:∀(v':World),(∀y∈S1,lt y u)->Ext v v'->(S1++u::S2).Perm (X.take (k+1))/\(S1++u::S2).Pairwise lt/\Lies enc v' b cap (A++(S1++u::S2)++X.drop (k+1)++B):=λ v' hy0 hEv=>by
    refine⟨?_,?_,?_⟩
    ·rw[zal hkX,hu];refine List.Perm.trans ?_ (ybz [u] hSp);rw[←hS12,yla];exact ybf S1 (by
      have:=(ybZ (l₁:=[u]) (l₂:=S2));simpa using this)
    ·rw[←hS12,yap]at hSs;rw[yap];refine⟨hSs.1,yaM.2 ⟨hS2,hSs.2.1⟩,λ y hy z hz=>?_⟩;rcases yay.1 hz with rfl|hz
     ·exact hy0 y hy
     ·exact hSs.2.2 y hy z hz
    ·have:A++(S1++u::S2)++X.drop (k+1)++B=A++S1++u::S2++X.drop (k+1)++B:=by simp only[yla,yav]
     rw[this];exact SD.ext hL hEv
   rcases ybk S1 with rfl| ⟨S1',y,hS1⟩
   ·simp only[ybe,yad]at h9;have hd:=yef (Int.lt_irrefl (p:Int));repeat refine c_r ?_
    refine zaF (λ _=>false) [(0,true),(1,true),(2,true),(3,true),(4,true),(5,true),(6,true),(7,true),(8,true),(9,true),(10,true),(11,true),(12,true),(13,true),(14,false),(15,true),(16,true)] NoS mixed kR ?_;intro gd K x hgd hx hxe hK;clear hxe;have hg3:=gk 3 21 hgd rfl;simp (disch:=first|omega|assumption|rfl) only[go_sem,h9,h1,hd,↓hg3];refine hK _ _ ?_;clear hK hgd;clear K;try clear gd
    obtain⟨r1,r2,r3⟩:=hstay x (λ y hy=>(by cases hy)) hx;repeat refine c_r ?_
    refine wc0 ?_ ?_
    ·intro h;simp at h
    intro _;repeat refine c_r ?_
    refine rg1 h8 ?_;repeat refine c_r ?_
    exact⟨m - 1,oM,rfl,k+1,_,oM,oM,r1,r2,by simp only[go_sem];push_cast;rfl,vq1 h0,vq1 h1,vq1 h2,vq1 h3,r3,hK.trans (Ext.keep hx)⟩
   ·rw[ybq]at hS1;subst hS1;rw[yab,yah,ybe]at hm2 hl12;obtain⟨j,hj⟩:∃j,p+S1'.length=j:=⟨_,rfl⟩;rw[yab,yah,ybe,←yct,yn0,hj]at h9;have hd:decide ((p:Int)<((j+1:Nat):Int))=true:=yet oM;have hs:((j+1:Nat):Int) - 1=(j:Int):=oM;have hAl:(A++S1').length=j:=by rw[yab];omega
    have e1:A++(S1'++ [y])++u::S2++X.drop (k+1)++B=(A++S1')++y::[]++u::(S2++X.drop (k+1)++B):=by simp only[yla,yav,yaI]
    have e2:(A++S1')++u::[]++y::(S2++X.drop (k+1)++B)=A++S1'++u::(y::S2)++X.drop (k+1)++B:=by simp only[yla,yav,yaI]
    rw[e1]at hL;have g1:((A++S1')++y::[]++u::(S2++X.drop (k+1)++B))[j]? =some y:=by
     rw[yla,yav,←hAl];exact zbo _ _ _
    have g2:((A++S1')++y::[]++u::(S2++X.drop (k+1)++B))[j+1]? =some u:=by
     have:=zbo ((A++S1')++ [y]) (S2++X.drop (k+1)++B) u
     rwa [yab,hAl]at this
    have hjN:j+1<N:=oM;have hyS:y∈S:=by rw[←hS12];simp
    repeat refine c_r ?_
    refine zaF (λ _=>false) [(0,true),(1,true),(2,true),(3,true),(4,true),(5,true),(6,true),(7,true),(8,true),(9,true),(10,true),(11,true),(12,true),(13,true),(14,false),(15,true),(16,true)] NoS mixed kR ?_;intro gd K x hgd hx hxe hK;clear hxe;have hg3:=gk 3 21 hgd rfl;have hLx:Lies enc x b cap ((A++S1')++y::[]++u::(S2++X.drop (k+1)++B)):=SD.ext hL hx;have d1:=hLx.get g1;have d2:=hLx.get g2;simp (disch:=first|omega|assumption|rfl) only[go_sem,h9,h1,h0,h3,hd,hs,d1,d2,↓hg3];refine zbJ hc.cal (yfm (hc.call x u y (hE0.trans hx) hUu (hUS y hyS)) ?_);rintro _ w1 ⟨rfl,hE1⟩;refine⟨.inr (Ext.keep hE1),?_⟩;simp (disch:=first|omega|assumption|rfl) only[go_sem,↓hg3];refine hK _ _ ?_;clear hK hgd;clear K;try clear gd
    have hx1:=hx.trans hE1;repeat refine c_r ?_
    refine wc0 ?_ ?_
    ·intro hlt2;simp only[ydT]at hlt2;have hLy:Lies enc w1 b cap ((A++S1')++y::[]++u::(S2++X.drop (k+1)++B)):=SD.ext hLx hE1;have m1:=List.mem_of_getElem? g1;have m2':=List.mem_of_getElem? g2;repeat refine c_r ?_
     refine zaF (λ i=>i==15||i==17) [(0,true),(1,true),(2,true),(3,true),(4,true),(5,true),(6,true),(7,true),(8,true),(9,true),(10,true),(11,true),(12,true),(13,true),(14,true),(15,false),(16,true),(17,false)] NoS mixed kR ?_;intro gd K x hgd hx hxe hK;clear hxe;rename_i x0 _;have hLz:Lies enc x b cap ((A++S1')++y::[]++u::(S2++X.drop (k+1)++B)):=SD.ext hLy ‹Keep NoS w1 x›;have d3:=hLz.get g1;have d4:=hLz.get g2;simp (disch:=first|omega|assumption|rfl) only[go_sem,h9,h0,hs,d3,d4];refine SD.set (P:=prog) (t:=254) hLz (j:=j+1) (by rw[ylm];exact(yaj.1 g2).1) (hL.enc_len m1) (hL.enc_one m1) rfl rfl ?_;intro w2 hs2 hL2 hk2;refine⟨.inl rfl,?_⟩;simp (disch:=first|omega|assumption|rfl) only[go_sem,h9,hs];refine SD.set (P:=prog) (t:=254) hL2 (j:=j) (by rw[ybA,ylm];exact(yaj.1 g1).1) (hL.enc_len m2') (hL.enc_one m2') rfl rfl ?_;intro w3 hs3 hL3 hk3;refine⟨.inl rfl,?_⟩;simp (disch:=first|omega|assumption|rfl) only[go_sem];refine hK _ _ ?_;clear hK hgd;clear K;try clear gd
     repeat refine c_r ?_
     refine rg2 h9 hs ?_;repeat refine c_r ?_
     refine⟨m2 - 1,oM,rfl,S1',y::S2,oM,by rw[←hS12];simp,λ z hz=>?_,vq2 hs hj,vq1 h8,vq1 h0,vq1 h1,vq1 h2,vq1 h3,?_,(((hK.trans (Ext.keep hx1)).trans (Ext.keep ‹Keep NoS w1 x›)).trans hk2).trans hk3⟩
     ·rcases yay.1 hz with rfl|hz
      ·exact ho.less (hOS _ hyS) hlt2
      ·exact hS2 z hz
     ·rw[←e2];have:=zdn (A++S1') [] (S2++X.drop (k+1)++B) y u (i:=j) (j:=j+1) hAl.symm (by rw[hAl];simp);rw[ydr _ _ oM]at this;unfold Lies;rw[←this,ybp,ybp];exact hL3
    ·intro hge2;simp only[ydF]at hge2;have hly:=ho.more (hOS y hyS) hge2;obtain⟨r1,r2,r3⟩:=hstay w1 (λ z hz=>by
      rcases yai.1 hz with hz|hz
      ·have h1:=hSs;rw[←hS12,yla,yap]at h1;exact ho.trans (h1.2.2 z hz y (by simp)) hly
      ·rw[yae.1 hz];exact hly) hx1
     repeat refine c_r ?_
     refine rg1 h8 ?_;repeat refine c_r ?_
     exact⟨m - 1,oM,rfl,k+1,_,oM,oM,r1,r2,by simp only[go_sem];push_cast;rfl,vq1 h0,vq1 h1,vq1 h2,vq1 h3,r3,hK.trans (Ext.keep hx1)⟩
  ·intro hge;simp only[ydF]at hge;repeat refine c_r ?_
   refine zap (by simp) rfl ⟨⟨S,?_,hSs,?_⟩,hK⟩
   ·rwa [yaf oM]at hSp
   ·rw[yat oM,yaF]at hL;exact hL
end
end S_pair
end Go.Proofs.YtfacfpcopcgbdaaGreat
