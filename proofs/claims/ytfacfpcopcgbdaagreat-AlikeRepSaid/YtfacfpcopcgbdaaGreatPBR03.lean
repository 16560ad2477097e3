/-
  Texts of a proof, joined.
  Conditions: none.
-/
import Derived.Test.YtfacfpcopcgbdaaGreatPBR02
set_option linter.all false
set_option maxRecDepth 20000
set_option maxHeartbeats 8000000
namespace Go.Proofs.YtfacfpcopcgbdaaGreat
open Go Tryz
variable {w w0 w1 W0 x A:World}{v u lv nv:Value}{cs l:List Value}{B k b i j c m cap:Nat}{t e:TypeId}{a:Option Addr}{S C:Nat->Prop}{q n o:Nm}
structure zes{α:Type}(cf:α->α->Int)(lt older:α->α->Prop):Prop where
 trans:∀{a b c},lt a b->lt b c->lt a c
 less:∀{x y},older x y->cf y x<0->lt y x
 more:∀{x y},older x y->¬cf y x<0->lt x y
section
variable {α : Type} {lt : α -> α -> Prop}
theorem zkw{l:List α}(h:l.Pairwise lt){x y:α}(hx:l[i]? =some x)(hy:l[j]? =some y)(hij:i<j):lt x y:=by
 obtain⟨h1,rfl⟩:=yaj.1 hx;obtain⟨h2,rfl⟩:=yaj.1 hy;exact ycb.1 h i j h1 h2 hij
structure Cut(lt:α->α->Prop)(x:α)(Y:List α)(s e:Nat):Prop where
 lo:∀i y,i<s->Y[i]? =some y->lt y x
 hi:∀i y,e<=i->Y[i]? =some y->lt x y
theorem Cut.start(x:α)(Y:List α):Cut lt x Y 0 Y.length:=
 ⟨λ i y h=>absurd h (Nat.not_lt_zero _),λ i y h hy=>by rw[ybY h]at hy;cases hy⟩
theorem Cut.up{x:α}{Y:List α}{s e h:Nat}{y:α}(ht:∀{a b c},lt a b->lt b c->lt a c)(hY:Y.Pairwise lt)(hc:Cut lt x Y s e)(hy:Y[h]? =some y)(hl:lt y x):Cut lt x Y (h+1) e:=
 ⟨λ i z hi hz=>by
  by_cases hih:i=h
  ·subst hih;rw[hy]at hz;cases hz;exact hl
  ·exact ht (zkw hY hz hy oM) hl,hc.hi⟩
theorem Cut.down{x:α}{Y:List α}{s e h:Nat}{y:α}(ht:∀{a b c},lt a b->lt b c->lt a c)(hY:Y.Pairwise lt)(hc:Cut lt x Y s e)(hy:Y[h]? =some y)(hl:lt x y):Cut lt x Y s h:=
 ⟨hc.lo,λ i z hi hz=>by
  by_cases hih:i=h
  ·subst hih;rw[hy]at hz;cases hz;exact hl
  ·exact ht hl (zkw hY hy hz oM)⟩
theorem Cut.sorted{x:α}{Y:List α}{s:Nat}(ht:∀{a b c},lt a b->lt b c->lt a c)(hY:Y.Pairwise lt)(hc:Cut lt x Y s s):(Y.take s++x::Y.drop s).Pairwise lt:=by
 rw[yap];have h1:∀y∈Y.take s,lt y x:=λ y hy=>by
  obtain⟨i,hi,rfl⟩:=yaG hy;have hi':=hi;rw[yaQ]at hi';refine hc.lo i _ oM ?_;rw[ybG,yam]
 have h2:∀y∈Y.drop s,lt x y:=λ y hy=>by
  obtain⟨i,hi,rfl⟩:=yaG hy;have hi':=hi;rw[ybb]at hi';refine hc.hi (s+i) _ oM ?_;rw[ycR,yam]
 refine⟨hY.sublist (List.take_sublist _ _),yaM.2 ⟨h2,hY.sublist (ydm _ _)⟩,λ y hy z hz=>?_⟩;rcases yay.1 hz with rfl|hz
 ·exact h1 y hy
 ·exact ht (h1 y hy) (h2 z hz)
theorem cross{X Y:List α}{s t:Nat}(ht:∀{a b c},lt a b->lt b c->lt a c)(hX:X.Pairwise lt)(hY:Y.Pairwise lt)
  (h:s=0\/t=Y.length\/∃x y,X[s - 1]? =some x/\Y[t]? =some y/\lt x y):∀x∈X.take s,∀y∈Y.drop t,lt x y:=by
 intro x hx y hy;obtain⟨i,hi,rfl⟩:=yaG hx;obtain⟨j,hj,rfl⟩:=yaG hy;rw[yaQ]at hi;rw[ybb]at hj;rcases h with h|h| ⟨u,v,hu,hv,huv⟩
 ·omega
 ·omega
 ·rw[ybG,ycR];have gx:X[i]? =some X[i]:=yam oM;have gy:Y[t+j]? =some Y[t+j]:=yam oM;have h1:lt X[i] v:=by
   by_cases hi1:i=s - 1
   ·subst hi1;rw[hu]at gx;cases gx;exact huv
   ·exact ht (zkw hX gx hu oM) huv
  rcases Nat.eq_zero_or_pos j with hj0|hj0
  ·have gv:Y[t+j]? =some v:=by rw[hj0];exact hv
   rw[gy]at gv;rw[Option.some.inj gv];exact h1
  ·exact ht h1 (zkw hY hv gy oM)
theorem zge{X1 X2 Y1 Y2 Z1 Z2:List α}(hX:(X1++X2).Pairwise lt)(hY:(Y1++Y2).Pairwise lt)(c1:∀x∈X1,∀y∈Y2,lt x y)(c2:∀y∈Y1,∀x∈X2,lt y x)
  (p1:Z1.Perm (X1++Y1)) (p2:Z2.Perm (X2++Y2)) (s1:Z1.Pairwise lt) (s2:Z2.Pairwise lt):(Z1++Z2).Pairwise lt/\(Z1++Z2).Perm ((X1++X2)++(Y1++Y2)):=by
 rw[yap]at hX hY;constructor
 ·rw[yap];refine⟨s1,s2,λ a ha b hb=>?_⟩;rcases yai.1 (p1.mem_iff.1 ha) with ha|ha
  ·rcases yai.1 (p2.mem_iff.1 hb) with hb|hb
   ·exact hX.2.2 a ha b hb
   ·exact c1 a ha b hb
  ·rcases yai.1 (p2.mem_iff.1 hb) with hb|hb
   ·exact c2 a ha b hb
   ·exact hY.2.2 a ha b hb
 ·refine(p1.append p2).trans ?_;rw[yla,yla];refine ybf X1 ?_;rw[←yla,←yla];exact ybz Y2 ybZ
end
structure Cpr{α:Type}(cf:α->α->Int):Prop where
 neg:∀a b,cf b a= - cf a b
 trans:∀{a b c},cf a b<0->cf b c<0->cf a c<0
 eql:∀{a b c},cf a b=0->cf a c=cf b c
section
variable {α β : Type}
theorem Cpr.eqr{cf:α->α->Int}(h:Cpr cf){a b c:α}(e:cf a b=0):cf c a=cf c b:=by
 have h1:=h.neg a c;have h2:=h.neg b c;have h3:=h.eql (c:=c) e;omega
theorem Cpr.map{cf:β->β->Int}(h:Cpr cf)(f:α->β):Cpr (λ a b=>cf (f a) (f b)):=⟨λ a b=>h.neg _ _,λ h1 h2=>h.trans h1 h2,λ e=>h.eql e⟩
theorem Cpr.const:Cpr (λ _ _:α=>0):=⟨λ _ _=>rfl,λ h _=>absurd h (by decide),λ _=>rfl⟩
theorem Cpr.or{c1 c2:α->α->Int}(h1:Cpr c1)(h2:Cpr c2):Cpr (λ a b=>if c1 a b=0 then c2 a b else c1 a b):=by
 refine⟨λ a b=>?_,fun {a b c} g1 g2=>?_,fun {a b c} e=>?_⟩
 ·have n1:=h1.neg a b;have n2:=h2.neg a b
  (repeat' split)<;>omega
 ·by_cases e1:c1 a b=0
  ·rw[if_pos e1]at g1;have e3:=h1.eql (c:=c) e1;by_cases e2:c1 b c=0
   ·rw[if_pos e2]at g2;rw[if_pos oM];exact h2.trans g1 g2
   ·rw[if_neg e2]at g2;rw[if_neg oM];omega
  ·rw[if_neg e1]at g1;by_cases e2:c1 b c=0
   ·have e3:=h1.eqr (c:=a) e2;rw[if_neg oM];omega
   ·rw[if_neg e2]at g2;have:=h1.trans g1 g2;rw[if_neg oM];exact this
 ·by_cases e1:c1 a b=0
  ·rw[if_pos e1]at e;rw[h1.eql (c:=c) e1,h2.eql (c:=c) e]
  ·rw[if_neg e1]at e;exact absurd e e1
theorem znc{cf:α->α->Int}(h:Cpr cf):∀a b:List α,lexC cf b a= - lexC cf a b
 | [],[]=>rfl
 | [],_::_=>rfl
 |_::_,[]=>rfl
 |x::l,y::m=>by
  simp only[lexC];have n1:=h.neg x y;have n2:=znc h l m
  split<;>split<;>omega
theorem ziO{cf:α->α->Int}(h:Cpr cf):∀{a b c:List α},lexC cf a b<0->lexC cf b c<0->lexC cf a c<0
 | [],[],_,h1,_=>absurd h1 (by simp[lexC])
 |_,[],[],_,h2=>absurd h2 (by simp[lexC])
 |_,_::_,[],_,h2=>absurd h2 (by simp[lexC])
 |_::_,[],_::_,h1,_=>absurd h1 (by simp[lexC])
 | [],_::_,_::_,_,_=>by simp[lexC]
 |x::l,y::m,z::n,g1,g2=>by
  simp only[lexC]at g1 g2 ⊢;by_cases e1:cf x y=0
  ·rw[if_pos e1]at g1;have e3:=h.eql (c:=z) e1;by_cases e2:cf y z=0
   ·rw[if_pos e2]at g2;rw[if_pos oM];exact ziO h g1 g2
   ·rw[if_neg e2]at g2;rw[if_neg oM];omega
  ·rw[if_neg e1]at g1;by_cases e2:cf y z=0
   ·have e3:=h.eqr (c:=x) e2;rw[if_neg oM];omega
   ·rw[if_neg e2]at g2;have:=h.trans g1 g2;rw[if_neg oM];exact this
theorem znd{cf:α->α->Int}(h:Cpr cf):∀{a b:List α} (c:List α),lexC cf a b=0->lexC cf a c=lexC cf b c
 | [],[],_,_=>rfl
 | [],_::_,_,h1=>absurd h1 (by simp[lexC])
 |_::_,[],_,h1=>absurd h1 (by simp[lexC])
 |_::_,_::_,[],_=>rfl
 |x::l,y::m,z::n,e=>by
  simp only[lexC]at e ⊢;by_cases e1:cf x y=0
  ·rw[if_pos e1]at e;rw[h.eql (c:=z) e1,znd h n e]
  ·rw[if_neg e1]at e;exact absurd e e1
theorem Cpr.lex{cf:α->α->Int}(h:Cpr cf):Cpr (lexC cf):=⟨znc h,ziO h,λ e=>znd h _ e⟩
theorem cpr_I:Cpr cmpI:=by
 refine⟨λ a b=>?_,fun {a b c} h1 h2=>?_,fun {a b c} e=>?_⟩
 ·simp only[cmpI];(repeat' split)<;>omega
 ·simp only[cmpI]at*;(repeat' split at h1)<;>(repeat' split at h2)<;>(repeat' split)<;>omega
 ·have:a=b:=by simp only[cmpI]at e;(repeat' split at e)<;>omega
  rw[this]
theorem cpr_N:Cpr cmpN:=⟨λ a b=>zfZ a b,λ h1 h2=>zef h1 h2,λ e=>by rw[zgK e]⟩
theorem cpr_F2:Cpr zc8:=cpr_N.map zag
theorem cpr_L:Cpr cmpL:=⟨λ a b=>zbE a b,λ h1 h2=>zdv h1 oM,λ e=>by rw[zb4 e]⟩
theorem cpr_D:Cpr cmpD:=by
 have h:=(cpr_I.map DatL.ty).or ((cpr_F2.lex.map DatL.names).or ((cpr_I.lex.map DatL.nums).or ((cpr_L.lex.map DatL.texts).or ((cpr_L.map DatL.raw).or Cpr.const))));exact h
theorem cpr_R:Cpr zaE:=by
 have h:=(cpr_F2.map RecL.owner).or ((cpr_I.map λ r:RecL=>r.dat.ty).or ((cpr_D.map RecL.dat).or Cpr.const));exact h
end
section
variable {α : Type} (cf : α -> α -> Int) (jn : α -> α -> α)
def putC(r:α):List α->List α
 | []=>[r]
 |x::l=>if cf x r<0 then x::putC r l else if cf x r=0 then jn x r::l else r::x::l
variable {cf jn}
structure Join(cf:α->α->Int)(jn:α->α->α):Prop where
 same:∀a b c,cf a b=0->cf (jn a b) c=cf a c
theorem zc0{Q:α->Prop}{r:α}{l:List α}(hj:∀x,Q x->cf x r=0->Q (jn x r))(hr:Q r)(hl:∀x∈l,Q x):∀x∈putC cf jn r l,Q x:=by
 induction l with
 |nil=>intro x hx;rw[yae.1 hx];exact hr
 |cons y l ih=>
  intro x hx;unfold putC at hx
  split at hx
  ·rcases yay.1 hx with rfl|hx
   ·exact hl _ (yal ..)
   ·exact ih (λ z hz=>hl z (yak _ hz)) x hx
  ·split at hx
   ·rename_i h0;rcases yay.1 hx with rfl|hx
    ·exact hj y (hl y (yal ..)) h0
    ·exact hl x (yak _ hx)
   ·rcases yay.1 hx with rfl|hx
    ·exact hr
    ·exact hl x hx
theorem zcd(hc:Cpr cf)(hj:Join cf jn){r:α}:∀{l:List α},l.Pairwise (λ a b=>cf a b<0)->(putC cf jn r l).Pairwise (λ a b=>cf a b<0)
 | [],_=>yby _ _
 |y::l,h=>by
  obtain⟨h1,h2⟩:=yaM.1 h;unfold putC
  split
  ·rename_i hy;refine yaM.2 ⟨?_,zcd hc hj h2⟩;refine zc0 (Q:=λ x=>cf y x<0) (λ x hx h0=>?_) hy h1;have:=hj.same x r y h0;have n1:=hc.neg y (jn x r);have n2:=hc.neg y x;omega
  ·split
   ·rename_i h0;refine yaM.2 ⟨λ x hx=>?_,h2⟩;rw[hj.same y r x h0];exact h1 x hx
   ·rename_i g1 g2;refine yaM.2 ⟨λ x hx=>?_,h⟩;have n1:=hc.neg y r;have hry:cf r y<0:=oM;rcases yay.1 hx with rfl|hx
    ·exact hry
    ·exact hc.trans hry (h1 x hx)
theorem ziC(hc:Cpr cf)(hj:Join cf jn){a b:α}(hab:cf a b<0):∀(l:List α),l.Pairwise (λ a b=>cf a b<0)->putC cf jn a (putC cf jn b l)=putC cf jn b (putC cf jn a l)
 | [],_=>by
  have n1:=hc.neg a b;simp only[putC];rw[if_neg oM,if_neg oM,if_pos hab]
 |x::l,h=>by
  obtain⟨h1,h2⟩:=yaM.1 h;have n1:=hc.neg a b;have n2:=hc.neg x a;have n3:=hc.neg x b;by_cases ea:cf x a<0
  ·have eb:cf x b<0:=hc.trans ea hab;simp only[putC,if_pos ea,if_pos eb];rw[ziC hc hj hab l h2]
  ·by_cases ea0:cf x a=0
   ·have eb:cf x b<0:=by rw[hc.eql (c:=b) ea0];exact hab
    have e2:=hj.same x a b ea0;have e3:=hj.same x a a ea0;simp only[putC];rw[if_pos eb,if_neg ea,if_pos ea0];simp only[putC];rw[if_neg ea,if_pos ea0,if_pos oM]
   ·by_cases eb:cf x b<0
    ·simp only[putC];rw[if_pos eb,if_neg ea,if_neg ea0];simp only[putC];rw[if_neg ea,if_neg ea0,if_pos hab,if_pos eb]
    ·by_cases eb0:cf x b=0
     ·have e2:=hj.same x b a eb0;simp only[putC];rw[if_neg eb,if_pos eb0,if_neg ea,if_neg ea0];simp only[putC];rw[if_neg oM,if_neg oM,if_pos hab,if_neg eb,if_pos eb0]
     ·simp only[putC];rw[if_neg eb,if_neg eb0,if_neg ea,if_neg ea0];simp only[putC];rw[if_neg oM,if_neg oM,if_pos hab,if_neg eb,if_neg eb0]
end
section
variable {α β : Type} {cf : α -> α -> Int} {jn : α -> α -> α}
def zbR(cf:α->α->Int)(jn:α->α->α)(p:β->α)(l:List β)(acc:List α):List α:=l.foldl (λ acc r=>putC cf jn (p r) acc) acc
theorem zho(hc:Cpr cf)(hj:Join cf jn){p:β->α}{r:β}{Z2:List β}:∀(Z1:List β) (acc:List α),(∀z∈Z1,cf (p z) (p r)<0)->acc.Pairwise (λ a b=>cf a b<0)->
  zbR cf jn p (Z1++r::Z2) acc=zbR cf jn p (Z1++Z2) (putC cf jn (p r) acc)
 | [],_,_,_=>rfl
 |z::Z1,acc,h,hs=>by
  have ih:=zho hc hj (p:=p) (r:=r) (Z2:=Z2) Z1 (putC cf jn (p z) acc) (λ y hy=>h y (yak _ hy)) (zcd hc hj hs);have hcm:=ziC hc hj (h z (yal ..)) acc hs;show zbR cf jn p (Z1++r::Z2) (putC cf jn (p z) acc)=zbR cf jn p (Z1++Z2) (putC cf jn (p z) (putC cf jn (p r) acc));rw[ih,hcm]
theorem zdR(hc:Cpr cf)(hj:Join cf jn){p:β->α}{lt older:β->β->Prop}(hlt:∀{a b},lt a b->cf (p a) (p b)<0\/older a b)(has:∀{a b},older a b->¬older b a):
  ∀(D Z:List β) (acc:List α),D.Pairwise older->Z.Pairwise lt->Z.Perm D->acc.Pairwise (λ a b=>cf a b<0)->zbR cf jn p Z acc=zbR cf jn p D acc
 | [],Z,acc,_,_,hp,_=>by rw[hp.eq_nil]
 |r::D,Z,acc,hD,hZ,hp,hs=>by
  obtain⟨d1,d2⟩:=yaM.1 hD;obtain⟨Z1,Z2,rfl⟩:=List.append_of_mem (hp.mem_iff.2 (yal ..));have hp2:(Z1++Z2).Perm D:=(List.perm_middle.symm.trans hp).cons_inv;obtain⟨z1,z2,z3⟩:=yap.1 hZ;have hb:∀z∈Z1,cf (p z) (p r)<0:=λ z hz=>by
   rcases hlt (z3 z hz r (yal ..)) with h|h
   ·exact h
   ·exact absurd h (has (d1 z (hp2.mem_iff.1 (yas _ hz))))
  rw[zho hc hj Z1 acc hb hs];refine zdR (lt:=lt) (older:=older) hc hj hlt has D (Z1++Z2) (putC cf jn (p r) acc) d2 ?_ hp2 (zcd hc hj hs);exact yap.2 ⟨z1,(yaM.1 z2).2,λ a ha b hb=>z3 a ha b (yak _ hb)⟩
theorem ziB{r x:α}:∀{O:List α},(∀y∈O,cf y r<0)->¬0<cf x r->putC cf jn r (O++ [x])=if cf x r=0 then O++ [jn x r] else O++ [x,r]
 | [],_,h=>by
  simp only[yaI,putC];by_cases h0:cf x r=0
  ·rw[if_neg oM,if_pos h0,if_pos h0]
  ·rw[if_pos oM,if_neg h0]
 |y::O,hO,h=>by
  have hy:=hO y (yal ..);have ih:=ziB (r:=r) (x:=x) (O:=O) (λ z hz=>hO z (yak _ hz)) h;simp only[yav,putC];rw[if_pos hy,ih]
  split<;>rfl
end
/-! ### records -/
def zbd(l:List RecL):List RecL:=zbR zaE (λ a b=>{a with ttl:=min a.ttl b.ttl}) (λ r=>r) l []
theorem znp:Join zaE (λ a b=>{a with ttl:=min a.ttl b.ttl}):=⟨λ _ _ _ _=>rfl⟩
namespace P_rr
theorem Clip_ok{n:Nat}(hc:n<=c):Fn prog 141 #[.slice a n c] w (λ u w'=>u= .slice a n n/\w'=w):=by
 refine enx func141 ntmps141 ?_;refine gz0 ?_;refine rq ?_;intro gd K hgd hK;refine sg0 ?_;have hcl:slD prog (some (TypeDesc.slice 101)) (Value.slice a n c) .none (some (Value.int IntKind.i64 ↑n)) (some (Value.int IntKind.i64 ↑n))=some (.slice a n n):=zfy hc (by rfl);rw[hcl];refine sg0 ?_;refine en hK ?_;refine rt0 ntmps141 ?_;exact⟨rfl,rfl⟩
end P_rr
namespace S_rec
section
variable {α : Type} {enc : α -> List Value}
abbrev Lies(enc:α->List Value)(w:World)(b cap:Nat)(D:List α):Prop:=SD 7 w b 101 cap (D.map enc)
def zbt(b n cap:Nat):Value:= .slice (some ⟨b,0,.none⟩) n cap
theorem Lies.get{D:List α}(h:Lies enc w b cap D){x:α}(hx:D[j]? =some x):zat w (some ⟨b,j*7,.none⟩) 7=some (enc x):=by
 obtain⟨hj,e⟩:=yaj.1 hx;have:=SD.get h (j:=j) (sU hj);rw[this,yaA,e]
theorem Lies.enc_len{D:List α}(h:Lies enc w b cap D){x:α}(hx:x∈D):(enc x).length=7:=h.len _ (ybH hx)
theorem Lies.enc_one{D:List α}(h:Lies enc w b cap D){x:α}(hx:x∈D):∀v∈enc x,one v=true:=h.ones _ (ybH hx)
theorem zdH{A X M Y B:List α}{n:Nat}(hX:X.length=n)(hY:Y.length=n)(hD:Lies enc w b cap (A++X++M++Y++B))(hlen:(A++X++M++Y++B).length<=1000000000000){cmp:Value}:
  Fn prog 248 #[zbt b (A++X++M++Y++B).length cap,vi A.length,vi (A.length+X.length+M.length:Nat),vi n,cmp] w (λ _ w'=>Lies enc w' b cap (A++Y++M++X++B)/\Keep (λ i=>i=b) w w'):=by
 obtain⟨N,hN⟩:∃N,(A++X++M++Y++B).length=N:=⟨_,rfl⟩;have hN':=hN;simp only[yab]at hN';rw[hN]at hlen ⊢;obtain⟨q,hq⟩:∃q,A.length+X.length+M.length=q:=⟨_,rfl⟩;rw[hq];unfold zbt;refine enx func248 ntmps248 ?_;repeat (first|refine c_r ?_|refine rg0 ?_)
 refine zan (λ m σ ds v=>ds=[]/\∃i:Nat,i+m=n/\σ 10=vi i/\σ 0= .slice (some ⟨b,0,.none⟩) N cap/\σ 1=vi A.length/\σ 2=vi q/\σ 3=vi n/\Lies enc v b cap (zbV A X M Y B i)/\Keep (λ i=>i=b) w v) n ?_ ?_
 ·refine⟨rfl,0,oM,?_,?_,?_,?_,?_,by rw[zfx];exact hD,Keep.refl _ _⟩
  ·simp only[go_sem];rfl
  ·simp only[go_sem]
  ·simp only[go_sem]
  ·simp only[go_sem]
  ·simp only[go_sem]
 ·rintro m σ ds v ⟨rfl,i,him,h10,h0,h1,h2,h3,hL,hK⟩;repeat refine c_r ?_
  refine rg2 h10 h3 ?_;repeat refine c_r ?_
  refine wc0 ?_ ?_
  ·intro hlt;simp only[ydT]at hlt;have hiX:i<X.length:=oM;have hiY:i<Y.length:=oM;obtain⟨hst,hg1,hg2⟩:=zga (A:=A) (M:=M) (B:=B) hiX hiY;have hLl:(zbV A X M Y B i).length=N:=by rw[zha oM oM,hN]
   rw[hq]at hg2;have c1:=hL.get hg1;have c2:=hL.get hg2;have m1:=List.mem_of_getElem? hg1;have m2:=List.mem_of_getElem? hg2;have x1:((A.length:Int)+i).toNat=A.length+i:=oM;have x2:((q:Int)+i).toNat=q+i:=oM;repeat refine c_r ?_
   refine zaF (λ i=>i==21||i==23) [(0,true),(1,true),(2,true),(3,true),(4,true),(5,true),(6,true),(7,true),(8,true),(9,true),(10,true),(11,true),(12,true),(13,true),(14,true),(15,true),(16,true),(17,true),(18,true),(19,true),(20,true),(21,false),(22,true),(23,false)] NoS mixed kR ?_;intro gd K x hgd hx hxe hK;clear hxe;have hLx:Lies enc x b cap (zbV A X M Y B i):=SD.ext hL hx;have d1:=hLx.get hg1;have d2:=hLx.get hg2;simp (disch:=first|omega|assumption|rfl) only[go_sem,h10,h0,h1,h2,x1,x2,d1,d2];refine SD.set (P:=prog) (t:=101) hLx (j:=A.length+i) (by simpa using by omega) (hL.enc_len m2) (hL.enc_one m2) rfl rfl ?_;intro w1 hs1 hL1 hk1;refine⟨.inl rfl,?_⟩;simp (disch:=first|omega|assumption|rfl) only[go_sem,x2];refine SD.set (P:=prog) (t:=101) hL1 (j:=q+i) (by simpa using by omega) (hL.enc_len m1) (hL.enc_one m1) rfl rfl ?_;intro w2 hs2 hL2 hk2;refine⟨.inl rfl,?_⟩;simp (disch:=first|omega|assumption|rfl) only[go_sem];refine hK _ _ ?_;clear hK hgd;clear K;try clear gd
   repeat refine c_r ?_
   refine rg1 h10 ?_;repeat refine c_r ?_
   refine⟨m - 1,oM,rfl,i+1,oM,by simp only[go_sem];push_cast;rfl,vq1 h0,vq1 h1,vq1 h2,vq1 h3,?_,((hK.trans (Ext.keep hx)).trans hk1).trans hk2⟩;rw[←hst,hq];unfold Lies;rw[ybp,ybp];exact hL2
  ·intro hge;simp only[ydF]at hge;repeat refine c_r ?_
   refine zap (by simp) rfl ?_;have:i=n:=oM;subst this;rw[zhb hX hY]at hL;exact⟨hL,hK⟩
theorem zbq{D A X M Y B:List α}{p q n N:Nat}(hDe:D=A++X++M++Y++B)(hN:D.length=N)(hp:A.length=p)(hq:A.length+X.length+M.length=q)(hX:X.length=n)(hY:Y.length=n)(hD:Lies enc w b cap D)(hlen:N<=1000000000000){cmp:Value}:
  Fn prog 248 #[zbt b N cap,vi p,vi q,vi n,cmp] w (λ _ w'=>Lies enc w' b cap (A++Y++M++X++B)/\Keep (λ i=>i=b) w w'):=by
 subst hDe hN hp hq;exact zdH hX hY hD hlen
theorem zgh{D A X Y B:List α}{p q r N:Nat}(hDe:D=A++X++Y++B)(hN:D.length=N)(hp:A.length=p)(hq:A.length+X.length=q)(hr:A.length+X.length+Y.length=r)(hX:X≠ [])(hY:Y≠ [])(hD:Lies enc w b cap D)(hlen:N<=1000000000000){cmp:Value}:
  Fn prog 240 #[zbt b N cap,vi p,vi q,vi r,cmp] w (λ _ w'=>Lies enc w' b cap (A++Y++X++B)/\Keep (λ i=>i=b) w w'):=by
 have hDl:=congrArg List.length hDe;simp only[yab]at hDl;have hXp:0<X.length:=yau.2 hX;have hYp:0<Y.length:=yau.2 hY;unfold zbt;refine enx func240 ntmps240 ?_;repeat (first|refine c_r ?_|refine rg0 ?_)
 refine zan (λ m σ ds v=>ds=[]/\∃(P X' Y' Q:List α),X'.length+Y'.length=m/\0<X'.length/\0<Y'.length/\P.length+X'.length=q/\P.length+X'.length+Y'.length+Q.length=N/\P++Y'++X'++Q=A++Y++X++B/\σ 10=vi X'.length/\σ 11=vi Y'.length/\σ 0= .slice (some ⟨b,0,.none⟩) N cap/\σ 2=vi q/\σ 4=cmp/\
  Lies enc v b cap (P++X'++Y'++Q)/\Keep (λ i=>i=b) w v) (X.length+Y.length) ?_ ?_
 ·refine⟨rfl,A,X,Y,B,rfl,hXp,hYp,hq,oM,rfl,?_,?_,?_,?_,?_,by rw[←hDe];exact hD,Keep.refl _ _⟩
  ·have:(q:Int) - p=X.length:=oM;simp only[go_sem,this]
  ·have:(r:Int) - q=Y.length:=oM;simp only[go_sem,this]
  ·simp only[go_sem]
  ·simp only[go_sem]
  ·simp only[go_sem]
 ·rintro m σ ds v ⟨rfl,P,X',Y',Q,hm,hx0,hy0,hPq,hPN,hT,h10,h11,h0,h2,h4,hL,hK⟩;have hDl':(P++X'++Y'++Q).length=N:=by simp only[yab];omega
  have hqi:(q:Int) - X'.length=P.length:=oM;repeat refine c_r ?_
  refine rq ?_;intro gd K hgd hK;simp (disch:=first|omega|assumption|rfl) only[go_sem,h10,h11];refine hK _ _ ?_;clear hK hgd;clear K gd;repeat refine c_r ?_
  refine wc0 ?_ ?_
  ·intro hne;simp only[yao,ydF]at hne;repeat refine c_r ?_
   refine rq ?_;intro gd K hgd hK;simp (disch:=first|omega|assumption|rfl) only[go_sem,h10,h11];refine hK _ _ ?_;clear hK hgd;clear K gd;repeat refine c_r ?_
   refine wc0 ?_ ?_
   ·intro hgt;simp only[ydT]at hgt;have e1:P++X'++Y'++Q=P++X'.take Y'.length++X'.drop Y'.length++Y'++Q:=by
     rw[yla P (X'.take Y'.length),yar]
    have l1:(X'.take Y'.length).length=Y'.length:=by simp;omega
    have l2:(X'.drop Y'.length).length=X'.length - Y'.length:=by simp
    repeat refine c_r ?_
    refine rq ?_;intro gd K hgd hK;try simp (disch:=first|omega|assumption|rfl) only[go_sem,h0,h2,h10,h11,h4,hqi]
    refine yfm (zbq (p:=P.length) (q:=q) e1 hDl' rfl (by rw[l1,l2];omega) l1 rfl hL hlen) ?_;rintro _ w1 ⟨hL1,hK1⟩;try simp only[go_sem]
    refine hK _ _ ?_;clear hK hgd;clear K;try clear gd
    repeat refine c_r ?_
    have hsub:(X'.length:Int) - Y'.length=(X'.drop Y'.length).length:=by rw[l2];omega
    refine rq ?_;intro gd K hgd hK;simp (disch:=first|omega|assumption|rfl) only[go_sem,h10,h11,hsub];refine hK _ _ ?_;clear hK hgd;clear K gd;repeat refine c_r ?_
    refine⟨X'.length,oM,rfl,P++Y',X'.drop Y'.length,X'.take Y'.length,Q,by rw[l1,l2];omega,by rw[l2];omega,by rw[l1];omega,by rw[l2,yab];omega,by rw[l1,l2,yab];omega,?_,vq1 hsub,by simp only[go_sem,h11,l1],vq1 h0,vq1 h2,vq1 h4,?_,hK.trans hK1⟩
    ·rw[←hT,yla (P++Y'),yar]
    ·exact hL1
   ·intro hle;simp only[ydF]at hle;have hlt:X'.length<Y'.length:=oM;obtain⟨d,hd⟩:∃d,Y'.length - X'.length=d:=⟨_,rfl⟩;have e1:P++X'++Y'++Q=P++X'++Y'.take d++Y'.drop d++Q:=by
     rw[yla (P++X') (Y'.take d),yar]
    have l1:(Y'.take d).length=d:=by simp;omega
    have l2:(Y'.drop d).length=X'.length:=by simp;omega
    have hqj:(q:Int)+Y'.length - X'.length=((q+d:Nat):Int):=oM;repeat refine c_r ?_
    refine rq ?_;intro gd K hgd hK;try simp (disch:=first|omega|assumption|rfl) only[go_sem,h0,h2,h10,h11,h4,hqi,hqj]
    refine yfm (zbq (p:=P.length) (q:=q+d) e1 hDl' rfl (by rw[l1];omega) rfl l2 hL hlen) ?_;rintro _ w1 ⟨hL1,hK1⟩;try simp only[go_sem]
    refine hK _ _ ?_;clear hK hgd;clear K;try clear gd
    repeat refine c_r ?_
    have hsub:(Y'.length:Int) - X'.length=(Y'.take d).length:=by rw[l1];omega
    refine rq ?_;intro gd K hgd hK;simp (disch:=first|omega|assumption|rfl) only[go_sem,h10,h11,hsub];refine hK _ _ ?_;clear hK hgd;clear K gd;repeat refine c_r ?_
    refine⟨Y'.length,oM,rfl,P,Y'.drop d,Y'.take d,X'++Q,by rw[l1,l2];omega,by rw[l2];omega,by rw[l1];omega,by rw[l2];omega,by rw[l1,l2,yab];omega,?_,vq2 h10 l2,vq1 hsub,vq1 h0,vq1 h2,vq1 h4,?_,hK.trans hK1⟩
    ·rw[←hT,yla P (Y'.take d),yar];simp only[yla]
    ·have:P++Y'.drop d++Y'.take d++X'++Q=P++Y'.drop d++Y'.take d++(X'++Q):=by simp only[yla]
     rw[←this];exact hL1
  ·intro heq;simp only[yaw,ydT]at heq;have e1:P++X'++Y'++Q=P++X'++ []++Y'++Q:=by simp
   repeat refine c_r ?_
   refine rq ?_;intro gd K hgd hK;try simp (disch:=first|omega|assumption|rfl) only[go_sem,h0,h2,h10,h4,hqi]
   refine yfm (zbq (p:=P.length) (q:=q) (n:=X'.length) e1 hDl' rfl (by simpa using hPq) rfl oM hL hlen) ?_;rintro _ w1 ⟨hL1,hK1⟩;try simp only[go_sem]
   refine hK _ _ ?_;clear hK hgd;clear K;try clear gd
   repeat refine c_r ?_
   refine zap (by simp) rfl ⟨?_,hK.trans hK1⟩;rw[←hT];simpa using hL1
end
end S_rec
namespace S_rec
section
variable {α : Type} {enc : α -> List Value}
structure Cmp(w0:World)(enc:α->List Value)(U:α->Prop)(cf:α->α->Int)(g:FuncId)(cb:List Value):Prop where
 cal:zaD prog g=true
 call:∀(A:World) (x y:α),Ext w0 A->U x->U y->Fn prog g (.agg (enc x).toArray:: .agg (enc y).toArray::cb).toArray A (λ v B=>v=vi (cf x y)/\Ext A B)
def cmpV(g:FuncId)(cb:List Value):Value:= .func (.func g) #[] cb.toArray
theorem zbm{U:α->Prop}{cf:α->α->Int}{lt older:α->α->Prop}{g:FuncId}{cb:List Value}(hc:Cmp w0 enc U cf g cb)(ho:zes cf lt older)
  {D A X B:List α} {p q N:Nat} (hDe:D=A++X++B) (hN:D.length=N) (hp:A.length=p) (hq:A.length+X.length=q) (hU:∀x∈X,U x) (hX:X.Pairwise older) (hD:Lies enc w b cap D) (hlen:N<=1000000000000)
  (hE:Ext w0 w) (hb:w0.heap.size<=b):
  Fn prog 218 #[zbt b N cap,vi p,vi q,cmpV g cb] w (λ _ w'=>(∃Z,Z.Perm X/\Z.Pairwise lt/\Lies enc w' b cap (A++Z++B))/\Keep (λ i=>i=b) w w'):=by
 have hDl:=congrArg List.length hDe;simp only[yab]at hDl;unfold zbt cmpV;refine enx func218 ntmps218 ?_;repeat (first|refine c_r ?_|refine rg0 ?_)
 refine zan (λ m σ ds v=>ds=[]/\∃(k:Nat) (S:List α),1<=k/\k+m=X.length+1/\S.Perm (X.take k)/\S.Pairwise lt/\σ 8=vi (p+k:Nat)/\σ 0= .slice (some ⟨b,0,.none⟩) N cap/\σ 1=vi p/\σ 2=vi q/\σ 3= .func (.func g) #[] cb.toArray/\
  Lies enc v b cap (A++S++X.drop k++B)/\Keep (λ i=>i=b) w v) X.length ?_ ?_
 ·refine⟨rfl,1,X.take 1,oM,oM,List.Perm.refl _,?_,?_,?_,?_,?_,?_,?_,Keep.refl _ _⟩
  ·match X with
   | []=>exact List.Pairwise.nil
   |x::_=>exact yby _ _
  ·simp only[go_sem];push_cast;rfl
  ·simp only[go_sem]
  ·simp only[go_sem]
  ·simp only[go_sem]
  ·simp only[go_sem]
  ·rw[yla A,yar,←hDe];exact hD
 ·rintro m σ ds v ⟨rfl,k,S,hk1,hkm,hSp,hSs,h8,h0,h1,h2,h3,hL,hK⟩;have hSl:=hSp.length_eq;repeat refine c_r ?_
  refine rg2 h8 h2 ?_;repeat refine c_r ?_
  refine wc0 ?_ ?_
  ·intro hlt;simp only[ydT]at hlt;have hkX:k<X.length:=oM;have hSk:S.length=k:=by rw[hSl];simp;omega
   obtain⟨u,hu⟩:∃u,X[k]=u:=⟨_,rfl⟩;have hUu:U u:=hU u (by rw[←hu];exact yac _);have hUS:∀y∈S,U y:=λ y hy=>hU y (yaO (hSp.mem_iff.1 hy));have hOS:∀y∈S,older y u:=λ y hy=>by
    have h1:=hX;rw[zcW hkX,yap]at h1;exact h1.2.2 y (hSp.mem_iff.1 hy) u (by rw[hu];exact yal ..)
   have hdk:X.drop k=u::X.drop (k+1):=by rw[yag hkX,hu]
   rw[hdk]at hL;repeat refine c_r ?_
   refine rg1 h8 ?_;repeat refine c_r ?_
   refine zan (λ m σ ds v=>ds=[]/\∃(S1 S2:List α),S1.length=m/\S1++S2=S/\(∀y∈S2,lt u y)/\σ 9=vi (p+S1.length:Nat)/\σ 8=vi (p+k:Nat)/\σ 0= .slice (some ⟨b,0,.none⟩) N cap/\σ 1=vi p/\σ 2=vi q/\σ 3= .func (.func g) #[] cb.toArray/\
    Lies enc v b cap (A++S1++u::S2++X.drop (k+1)++B)/\Keep (λ i=>i=b) w v) S.length ?_ ?_
   ·refine⟨rfl,S,[],rfl,by simp,λ y hy=>(by cases hy),?_,?_,?_,?_,?_,?_,by simpa using hL,hK⟩
    ·simp only[go_sem,hSk]
    ·simp only[go_sem,h8]
    ·simp only[go_sem,h0]
    ·simp only[go_sem,h1]
    ·simp only[go_sem,h2]
    ·simp only[go_sem,h3]
   clear h8 h0 h1 h2 h3 hL hK;rintro m2 σ ds v ⟨rfl,S1,S2,hm2,hS12,hS2,h9,h8,h0,h1,h2,h3,hL,hK⟩;have hE0:Ext w0 v:=ykt hE rfl (λ i hi=>oM) hK;have hl12:S1.length+S2.length=k:=by rw[←hSk,←hS12,yab]
   -- the round's end:where u stays
   have hstay:∀(v':World),(∀y∈S1,lt y u)->Ext v v'->(S1++u::S2).Perm (X.take (k+1))/\(S1++u::S2).Pairwise lt/\Lies enc v' b cap (A++(S1++u::S2)++X.drop (k+1)++B):=λ v' hy0 hEv=>by
    refine⟨?_,?_,?_⟩
    ·rw[zal hkX,hu];refine List.Perm.trans ?_ (ybz [u] hSp);rw[←hS12,yla];exact ybf S1 (by
      have:=(ybZ (l₁:=[u]) (l₂:=S2));simpa using this)
    ·rw[←hS12,yap]at hSs;rw[yap];refine⟨hSs.1,yaM.2 ⟨hS2,hSs.2.1⟩,λ y hy z hz=>?_⟩;rcases yay.1 hz with rfl|hz
     ·exact hy0 y hy
     ·exact hSs.2.2 y hy z hz
    ·have:A++(S1++u::S2)++X.drop (k+1)++B=A++S1++u::S2++X.drop (k+1)++B:=by simp only[yla,yav]
     rw[this];exact SD.ext hL hEv
   rcases ybk S1 with rfl| ⟨S1',y,hS1⟩
   ·simp only[ybe,yad]at h9;have hd:=yef (Int.lt_irrefl (p:Int));repeat refine c_r ?_
    refine zaF (λ _=>false) [(0,true),(1,true),(2,true),(3,true),(4,true),(5,true),(6,true),(7,true),(8,true),(9,true),(10,true),(11,true),(12,true),(13,true),(14,false),(15,true),(16,true)] NoS mixed kR ?_;intro gd K x hgd hx hxe hK;clear hxe;have hg3:=gk 3 21 hgd rfl;simp (disch:=first|omega|assumption|rfl) only[go_sem,h9,h1,hd,↓hg3];refine hK _ _ ?_;clear hK hgd;clear K;try clear gd
    obtain⟨r1,r2,r3⟩:=hstay x (λ y hy=>(by cases hy)) hx;repeat refine c_r ?_
    refine wc0 ?_ ?_
    ·intro h;simp at h
    intro _;repeat refine c_r ?_
    refine rg1 h8 ?_;repeat refine c_r ?_
    exact⟨m - 1,oM,rfl,k+1,_,oM,oM,r1,r2,by simp only[go_sem];push_cast;rfl,vq1 h0,vq1 h1,vq1 h2,vq1 h3,r3,hK.trans (Ext.keep hx)⟩
   ·rw[ybq]at hS1;subst hS1;rw[yab,yah,ybe]at hm2 hl12;obtain⟨j,hj⟩:∃j,p+S1'.length=j:=⟨_,rfl⟩;rw[yab,yah,ybe,←yct,yn0,hj]at h9;have hd:decide ((p:Int)<((j+1:Nat):Int))=true:=yet oM;have hs:((j+1:Nat):Int) - 1=(j:Int):=oM;have hAl:(A++S1').length=j:=by rw[yab];omega
    have e1:A++(S1'++ [y])++u::S2++X.drop (k+1)++B=(A++S1')++y::[]++u::(S2++X.drop (k+1)++B):=by simp only[yla,yav,yaI]
    have e2:(A++S1')++u::[]++y::(S2++X.drop (k+1)++B)=A++S1'++u::(y::S2)++X.drop (k+1)++B:=by simp only[yla,yav,yaI]
    rw[e1]at hL;have g1:((A++S1')++y::[]++u::(S2++X.drop (k+1)++B))[j]? =some y:=by
     rw[yla,yav,←hAl];exact zbo _ _ _
    have g2:((A++S1')++y::[]++u::(S2++X.drop (k+1)++B))[j+1]? =some u:=by
     have:=zbo ((A++S1')++ [y]) (S2++X.drop (k+1)++B) u
     rwa [yab,hAl]at this
    have hjN:j+1<N:=oM;have hyS:y∈S:=by rw[←hS12];simp
    repeat refine c_r ?_
    refine zaF (λ _=>false) [(0,true),(1,true),(2,true),(3,true),(4,true),(5,true),(6,true),(7,true),(8,true),(9,true),(10,true),(11,true),(12,true),(13,true),(14,false),(15,true),(16,true)] NoS mixed kR ?_;intro gd K x hgd hx hxe hK;clear hxe;have hg3:=gk 3 21 hgd rfl;have hLx:Lies enc x b cap ((A++S1')++y::[]++u::(S2++X.drop (k+1)++B)):=SD.ext hL hx;have d1:=hLx.get g1;have d2:=hLx.get g2;simp (disch:=first|omega|assumption|rfl) only[go_sem,h9,h1,h0,h3,hd,hs,d1,d2,↓hg3];refine zbJ hc.cal (yfm (hc.call x u y (hE0.trans hx) hUu (hUS y hyS)) ?_);rintro _ w1 ⟨rfl,hE1⟩;refine⟨.inr (Ext.keep hE1),?_⟩;simp (disch:=first|omega|assumption|rfl) only[go_sem,↓hg3];refine hK _ _ ?_;clear hK hgd;clear K;try clear gd
    have hx1:=hx.trans hE1;repeat refine c_r ?_
    refine wc0 ?_ ?_
    ·intro hlt2;simp only[ydT]at hlt2;have hLy:Lies enc w1 b cap ((A++S1')++y::[]++u::(S2++X.drop (k+1)++B)):=SD.ext hLx hE1;have m1:=List.mem_of_getElem? g1;have m2':=List.mem_of_getElem? g2;repeat refine c_r ?_
     refine zaF (λ i=>i==15||i==17) [(0,true),(1,true),(2,true),(3,true),(4,true),(5,true),(6,true),(7,true),(8,true),(9,true),(10,true),(11,true),(12,true),(13,true),(14,true),(15,false),(16,true),(17,false)] NoS mixed kR ?_;intro gd K x hgd hx hxe hK;clear hxe;rename_i x0 _;have hLz:Lies enc x b cap ((A++S1')++y::[]++u::(S2++X.drop (k+1)++B)):=SD.ext hLy ‹Keep NoS w1 x›;have d3:=hLz.get g1;have d4:=hLz.get g2;simp (disch:=first|omega|assumption|rfl) only[go_sem,h9,h0,hs,d3,d4];refine SD.set (P:=prog) (t:=101) hLz (j:=j+1) (by rw[ylm];exact(yaj.1 g2).1) (hL.enc_len m1) (hL.enc_one m1) rfl rfl ?_;intro w2 hs2 hL2 hk2;refine⟨.inl rfl,?_⟩;simp (disch:=first|omega|assumption|rfl) only[go_sem,h9,hs];refine SD.set (P:=prog) (t:=101) hL2 (j:=j) (by rw[ybA,ylm];exact(yaj.1 g1).1) (hL.enc_len m2') (hL.enc_one m2') rfl rfl ?_;intro w3 hs3 hL3 hk3;refine⟨.inl rfl,?_⟩;simp (disch:=first|omega|assumption|rfl) only[go_sem];refine hK _ _ ?_;clear hK hgd;clear K;try clear gd
     repeat refine c_r ?_
     refine rg2 h9 hs ?_;repeat refine c_r ?_
     refine⟨m2 - 1,oM,rfl,S1',y::S2,oM,by rw[←hS12];simp,λ z hz=>?_,vq2 hs hj,vq1 h8,vq1 h0,vq1 h1,vq1 h2,vq1 h3,?_,(((hK.trans (Ext.keep hx1)).trans (Ext.keep ‹Keep NoS w1 x›)).trans hk2).trans hk3⟩
     ·rcases yay.1 hz with rfl|hz
      ·exact ho.less (hOS _ hyS) hlt2
      ·exact hS2 z hz
     ·rw[←e2];have:=zdn (A++S1') [] (S2++X.drop (k+1)++B) y u (i:=j) (j:=j+1) hAl.symm (by rw[hAl];simp);rw[ydr _ _ oM]at this;unfold Lies;rw[←this,ybp,ybp];exact hL3
    ·intro hge2;simp only[ydF]at hge2;have hly:=ho.more (hOS y hyS) hge2;obtain⟨r1,r2,r3⟩:=hstay w1 (λ z hz=>by
      rcases yai.1 hz with hz|hz
      ·have h1:=hSs;rw[←hS12,yla,yap]at h1;exact ho.trans (h1.2.2 z hz y (by simp)) hly
      ·rw[yae.1 hz];exact hly) hx1
     repeat refine c_r ?_
     refine rg1 h8 ?_;repeat refine c_r ?_
     exact⟨m - 1,oM,rfl,k+1,_,oM,oM,r1,r2,by simp only[go_sem];push_cast;rfl,vq1 h0,vq1 h1,vq1 h2,vq1 h3,r3,hK.trans (Ext.keep hx1)⟩
  ·intro hge;simp only[ydF]at hge;repeat refine c_r ?_
   refine zap (by simp) rfl ⟨⟨S,?_,hSs,?_⟩,hK⟩
   ·rwa [yaf oM]at hSp
   ·rw[yat oM,yaF]at hL;exact hL
end
end S_rec
namespace S_rec
section
variable {α : Type} {enc : α -> List Value}
theorem zc6{U:α->Prop}{cf:α->α->Int}{lt older:α->α->Prop}{g:FuncId}{cb:List Value}(hc:Cmp w0 enc U cf g cb)(ho:zes cf lt older)
  {D A Y B:List α} {u:α} {p q r N:Nat} (hDe:D=A++u::Y++B) (hN:D.length=N) (hp:A.length=p) (hq:p+1=q) (hr:q+Y.length=r) (hUu:U u) (hU:∀y∈Y,U y) (hY:Y.Pairwise lt) (hold:∀y∈Y,older u y)
  (hD:Lies enc w b cap D) (hlen:N<=1000000000000) (hE:Ext w0 w) (hb:w0.heap.size<=b):
  Fn prog 219 #[zbt b N cap,vi p,vi q,vi r,cmpV g cb] w (λ _ w'=>(∃Z,Z.Perm (u::Y)/\Z.Pairwise lt/\Lies enc w' b cap (A++Z++B))/\Keep (λ i=>i=b) w w'):=by
 have hDl:=congrArg List.length hDe;simp only[yab,yah]at hDl;have hqp:(q:Int) - p=1:=oM;unfold zbt cmpV;refine enx func219 ntmps219 ?_;refine gz (az2 hqp decide_true) ?_;refine wc0 ?_ ?_
 rotate_left
 ·intro h;simp at h
 intro _;refine gz0 ?_;refine zan (λ m σ ds v=>ds=[]/\∃(s e:Nat),s+m=e/\e<=Y.length/\Cut lt u Y s e/\σ 10=vi (q+s:Nat)/\σ 11=vi (q+e:Nat)/\σ 0= .slice (some ⟨b,0,.none⟩) N cap/\σ 1=vi p/\σ 4= .func (.func g) #[] cb.toArray/\Ext w v) Y.length ?_ ?_
 ·refine⟨rfl,0,Y.length,oM,ynl _,Cut.start u Y,?_,?_,?_,?_,?_,Keep.refl _ _⟩
  ·simp only[go_sem];rfl
  ·simp only[go_sem,hr]
  ·simp only[go_sem]
  ·simp only[go_sem]
  ·simp only[go_sem]
 rintro m σ ds v ⟨rfl,s,e,hse,he,hcut,h10,h11,h0,h1,h4,hEv⟩;have hLv:Lies enc v b cap D:=SD.ext hD hEv;refine rqz ?_;intro gd K hgd hK;simp (disch:=first|omega|assumption|rfl) only[go_sem,h10,h11];refine hK _ _ ?_;clear hK hgd;clear K gd;refine wcz ?_ ?_
 ·intro hlt;simp only[ydT]at hlt;have hsum:((q+s:Nat):Int)+((q+e:Nat):Int)=((q+s+(q+e):Nat):Int):=by push_cast;rfl
  obtain⟨k,hk⟩:∃k,(s+e) / 2=k:=⟨_,rfl⟩;have hdiv:(q+s+(q+e)) / 2=q+k:=oM;have hkY:k<Y.length:=oM;obtain⟨y,hy⟩:∃y,Y[k]=y:=⟨_,rfl⟩;have hyk:Y[k]? =some y:=by rw[yam hkY,hy]
  have hyY:y∈Y:=by rw[←hy];exact yac _
  have g1:D[p]? =some u:=by rw[hDe,yla,yav,←hp];exact zbo _ _ _
  have g2:D[q+k]? =some y:=by
   have e1:D=A++ [u]++Y++B:=by rw[hDe];simp
   have hl:(A++ [u]).length=q:=by simp;omega
   rw[e1,yla (A++ [u]),yaH oM,hl,ybs,yaL hkY];exact hyk
  refine rqz ?_;intro gd K hgd hK;simp (disch:=first|omega|assumption|rfl) only[go_sem,h10,h11,hsum,hdiv];refine hK _ _ ?_;clear hK hgd;clear K gd;repeat refine c_r ?_
  refine zaF (λ _=>false) [(0,true),(1,true),(2,true),(3,true),(4,true),(5,true),(6,true),(7,true),(8,true),(9,false),(10,true)] NoS mixed kR ?_;intro gd K x hgd hx hxe hK;clear hxe;have hLx:Lies enc x b cap D:=SD.ext hLv hx;have d1:=hLx.get g1;have d2:=hLx.get g2;refine sgz (az5 h0 h1 h4 d1 d2) ?_;refine zbJ hc.cal (yfm (hc.call x y u ((hE.trans hEv).trans hx) (hU y hyY) hUu) ?_);rintro _ w1 ⟨rfl,hE1⟩;refine⟨.inr (Ext.keep hE1),?_⟩;refine sg0 ?_;apply hK;have hEv1:=(hEv.trans hx).trans hE1;refine wcz ?_ ?_
  ·intro hl;simp only[ydT]at hl;refine gz0 ?_;refine⟨m - (k+1 - s),oM,rfl,k+1,e,oM,he,hcut.up ho.trans hY hyk (ho.less (hold y hyY) hl),by simp only[go_sem];push_cast;rfl,by simp only[go_sem,h11],vq1 h0,vq1 h1,vq1 h4,hEv1⟩
  ·intro hl;simp only[ydF]at hl;refine gz0 ?_;refine⟨k - s,oM,rfl,s,k,oM,oM,hcut.down ho.trans hY hyk (ho.more (hold y hyY) hl),vq1 h10,vq0,vq1 h0,vq1 h1,vq1 h4,hEv1⟩
 intro hge;simp only[ydF]at hge;have hes:e=s:=oM;subst hes;obtain⟨Y1,hY1⟩:∃Y1,Y.take e=Y1:=⟨_,rfl⟩;obtain⟨Y2,hY2⟩:∃Y2,Y.drop e=Y2:=⟨_,rfl⟩;have hY12:Y1++Y2=Y:=by rw[←hY1,←hY2];exact yar _ _
 have hY1l:Y1.length=e:=by rw[←hY1];simp;omega
 have hsorted:=Cut.sorted (lt:=lt) ho.trans hY hcut;rw[hY1,hY2]at hsorted;have hqe:((q+e:Nat):Int) - 1=((p+e:Nat):Int):=oM
 refine gz h1 ?_;refine zan (λ m σ ds v'=>ds=[]/\∃(i:Nat),i+m=e/\σ 13=vi (p+i:Nat)/\σ 10=vi (q+e:Nat)/\σ 0= .slice (some ⟨b,0,.none⟩) N cap/\Lies enc v' b cap (A++Y1.take i++u::Y1.drop i++Y2++B)/\Keep (λ i=>i=b) w v') e ?_ ?_
 ·refine⟨rfl,0,oM,?_,?_,?_,?_,Ext.keep hEv⟩
  ·simp only[go_sem];rfl
  ·simp only[go_sem,h10]
  ·simp only[go_sem,h0]
  ·have:A++Y1.take 0++u::Y1.drop 0++Y2++B=D:=by rw[hDe,←hY12];simp
   rw[this];exact hLv
 clear h10 h11 h0 h1 h4;rintro m2 σ ds v2 ⟨rfl,i,him,h13,h10,h0,hL2,hK2⟩;refine gz (az3 h13 h10 hqe) ?_;refine wc0 ?_ ?_
 ·intro hlt;simp only[ydT]at hlt;have hiY:i<Y1.length:=oM;obtain⟨z,hz⟩:∃z,Y1[i]=z:=⟨_,rfl⟩;have hl1:(A++Y1.take i).length=p+i:=by simp;omega
  have e1:A++Y1.take i++u::Y1.drop i++Y2++B=(A++Y1.take i)++u::[]++z::(Y1.drop (i+1)++Y2++B):=by
   rw[yag hiY,hz];simp only[yla,yav,yaI]
  have e2:(A++Y1.take i)++z::[]++u::(Y1.drop (i+1)++Y2++B)=A++Y1.take (i+1)++u::Y1.drop (i+1)++Y2++B:=by
   rw[zal hiY,hz];simp only[yla,yav,yaI]
  rw[e1]at hL2;have g1:((A++Y1.take i)++u::[]++z::(Y1.drop (i+1)++Y2++B))[p+i]? =some u:=by
   rw[yla,yav,←hl1];exact zbo _ _ _
  have g2:((A++Y1.take i)++u::[]++z::(Y1.drop (i+1)++Y2++B))[p+i+1]? =some z:=by
   have:=zbo ((A++Y1.take i)++ [u]) (Y1.drop (i+1)++Y2++B) z
   rwa [yab,hl1]at this
  have hs:((p+i:Nat):Int)+1=((p+i+1:Nat):Int):=by push_cast;rfl
  have hY12l:Y1.length+Y2.length=Y.length:=by rw[←hY12,yab]
  have m1:=List.mem_of_getElem? g1;have m2':=List.mem_of_getElem? g2
  repeat refine c_r ?_
  refine zaF (λ i=>i==15||i==17) [(0,true),(1,true),(2,true),(3,true),(4,true),(5,true),(6,true),(7,true),(8,true),(9,true),(10,true),(11,true),(12,true),(13,true),(14,true),(15,false),(16,true),(17,false)] NoS mixed kR ?_;intro gd K x hgd hx hxe hK;clear hxe;have hLz:Lies enc x b cap ((A++Y1.take i)++u::[]++z::(Y1.drop (i+1)++Y2++B)):=SD.ext hL2 hx;have d3:=hLz.get g1;have d4:=hLz.get g2;refine sgz (az5 h13 h0 hs d3 d4) ?_;refine SD.set (P:=prog) (t:=101) hLz (j:=p+i) (by rw[ylm];exact(yaj.1 g1).1) (hL2.enc_len m2') (hL2.enc_one m2') rfl rfl ?_;intro w2 hs2 hL3 hk2;refine⟨.inl rfl,?_⟩;refine sgz (az2 h13 hs) ?_;refine SD.set (P:=prog) (t:=101) hL3 (j:=p+i+1) (by rw[ybA,ylm];exact(yaj.1 g2).1) (hL2.enc_len m1) (hL2.enc_one m1) rfl rfl ?_;intro w3 hs3 hL4 hk3;refine⟨.inl rfl,?_⟩;refine sg0 ?_;apply hK;refine gz (az2 h13 hs) ?_;refine⟨m2 - 1,oM,rfl,i+1,oM,by simp only[go_sem];rfl,vq1 h10,vq1 h0,?_,((hK2.trans (Ext.keep hx)).trans hk2).trans hk3⟩;rw[←e2];have:=zdn (A++Y1.take i) [] (Y1.drop (i+1)++Y2++B) u z (i:=p+i) (j:=p+i+1) hl1.symm (by rw[hl1];simp);unfold Lies;rw[←this,ybp,ybp];exact hL4
 intro hge2;simp only[ydF]at hge2;have hie:i=e:=oM;subst hie;repeat refine c_r ?_
 refine zap (by simp) rfl ⟨⟨Y1++u::Y2,?_,hsorted,?_⟩,hK2⟩
 ·rw[←hY12];have:=(ycV (l₁:=Y1) (l₂:=Y2) (a:=u));exact this
 ·rw[yaf oM,yat oM]at hL2;have:A++(Y1++u::Y2)++B=A++Y1++ [u]++Y2++B:=by simp
  rw[this];exact hL2
theorem zdm{U:α->Prop}{cf:α->α->Int}{lt older:α->α->Prop}{g:FuncId}{cb:List Value}(hc:Cmp w0 enc U cf g cb)(ho:zes cf lt older)
  {D A X B:List α} {u:α} {p q r N:Nat} (hDe:D=A++X++u::B) (hN:D.length=N) (hp:A.length=p) (hq:p+X.length=q) (hr:q+1=r) (hX1:X.length≠1) (hUu:U u) (hU:∀y∈X,U y) (hX:X.Pairwise lt) (hold:∀x∈X,older x u)
  (hD:Lies enc w b cap D) (hlen:N<=1000000000000) (hE:Ext w0 w) (hb:w0.heap.size<=b):
  Fn prog 219 #[zbt b N cap,vi p,vi q,vi r,cmpV g cb] w (λ _ w'=>(∃Z,Z.Perm (X++ [u])/\Z.Pairwise lt/\Lies enc w' b cap (A++Z++B))/\Keep (λ i=>i=b) w w'):=by
 have hDl:=congrArg List.length hDe;simp only[yab,yah]at hDl;have hqp:¬((q:Int) - p=1):=oM;have hrq:(r:Int) - q=1:=oM;unfold zbt cmpV;refine enx func219 ntmps219 ?_;refine gz (yef hqp) ?_;refine wc0 ?_ ?_
 ·intro h;simp at h
 intro _;refine gz (az2 hrq decide_true) ?_;refine wc0 ?_ ?_
 rotate_left
 ·intro h;simp at h
 intro _;refine gz0 ?_;refine zan (λ m σ ds v=>ds=[]/\∃(s e:Nat),s+m=e/\e<=X.length/\Cut lt u X s e/\σ 14=vi (p+s:Nat)/\σ 15=vi (p+e:Nat)/\σ 0= .slice (some ⟨b,0,.none⟩) N cap/\σ 2=vi q/\σ 4= .func (.func g) #[] cb.toArray/\Ext w v) X.length ?_ ?_
 ·refine⟨rfl,0,X.length,oM,ynl _,Cut.start u X,?_,?_,?_,?_,?_,Keep.refl _ _⟩
  ·simp only[go_sem];rfl
  ·simp only[go_sem,hq]
  ·simp only[go_sem]
  ·simp only[go_sem]
  ·simp only[go_sem]
 rintro m σ ds v ⟨rfl,s,e,hse,he,hcut,h14,h15,h0,h2,h4,hEv⟩;have hLv:Lies enc v b cap D:=SD.ext hD hEv;refine gz (az2 h14 h15) ?_;refine wc0 ?_ ?_
 ·intro hlt;simp only[ydT]at hlt;have hsum:((p+s:Nat):Int)+((p+e:Nat):Int)=((p+s+(p+e):Nat):Int):=by push_cast;rfl
  obtain⟨k,hk⟩:∃k,(s+e) / 2=k:=⟨_,rfl⟩;have hdiv:(p+s+(p+e)) / 2=p+k:=oM;have hkX:k<X.length:=oM;obtain⟨y,hy⟩:∃y,X[k]=y:=⟨_,rfl⟩;have hyk:X[k]? =some y:=by rw[yam hkX,hy]
  have hyX:y∈X:=by rw[←hy];exact yac _
  have g1:D[q]? =some u:=by
   have:=zbo (A++X) B u;rw[yab,hp,hq]at this;rw[hDe];exact this
  have g2:D[p+k]? =some y:=by
   rw[hDe,yla,yaH oM,hp,ybs,yaL hkX];exact hyk
  refine gz (az4 h14 h15 hsum hdiv) ?_;refine zaF (λ _=>false) [(0,true),(1,true),(2,true),(3,true),(4,true),(5,true),(6,true),(7,true),(8,true),(9,false),(10,true),(11,true)] NoS mixed kR ?_;intro gd K x hgd hx hxe hK;clear hxe;have hLx:Lies enc x b cap D:=SD.ext hLv hx;have d1:=hLx.get g1;have d2:=hLx.get g2;refine sgz (az5 h0 h2 h4 d1 d2) ?_;refine zbJ hc.cal (yfm (hc.call x u y ((hE.trans hEv).trans hx) hUu (hU y hyX)) ?_);rintro _ w1 ⟨rfl,hE1⟩;refine⟨.inr (Ext.keep hE1),?_⟩;refine sg0 ?_;apply hK;have hEv1:=(hEv.trans hx).trans hE1;refine wcz ?_ ?_
  ·intro hl;simp only[yao,ydF]at hl;refine gz0 ?_;refine⟨m - (k+1 - s),oM,rfl,k+1,e,oM,he,hcut.up ho.trans hX hyk (ho.more (hold y hyX) hl),by simp only[go_sem];push_cast;rfl,vq1 h15,vq1 h0,vq1 h2,vq1 h4,hEv1⟩
  ·intro hl;simp only[yaw,ydT]at hl;refine gz0 ?_;refine⟨k - s,oM,rfl,s,k,oM,oM,hcut.down ho.trans hX hyk (ho.less (hold y hyX) hl),vq1 h14,vq0,vq1 h0,vq1 h2,vq1 h4,hEv1⟩
 intro hge;simp only[ydF]at hge;have hes:e=s:=oM;subst hes;obtain⟨X1,hX1'⟩:∃X1,X.take e=X1:=⟨_,rfl⟩;obtain⟨X2,hX2⟩:∃X2,X.drop e=X2:=⟨_,rfl⟩;have hX12:X1++X2=X:=by rw[←hX1',←hX2];exact yar _ _
 have hX1l:X1.length=e:=by rw[←hX1'];simp;omega
 have hX12l:X1.length+X2.length=X.length:=by rw[←hX12,yab]
 have hsorted:=Cut.sorted (lt:=lt) ho.trans hX hcut;rw[hX1',hX2]at hsorted;refine gz h2 ?_;refine zan (λ m σ ds v'=>ds=[]/\∃(i:Nat),i=m/\i<=X2.length/\σ 17=vi (p+e+i:Nat)/\σ 14=vi (p+e:Nat)/\σ 0= .slice (some ⟨b,0,.none⟩) N cap/\Lies enc v' b cap (A++X1++X2.take i++u::X2.drop i++B)/\Keep (λ i=>i=b) w v') X2.length ?_ ?_
 ·refine⟨rfl,X2.length,rfl,ynl _,?_,?_,?_,?_,Ext.keep hEv⟩
  ·have:p+e+X2.length=q:=oM;simp only[go_sem,this]
  ·simp only[go_sem,h14]
  ·simp only[go_sem,h0]
  ·have:A++X1++X2.take X2.length++u::X2.drop X2.length++B=D:=by rw[hDe,←hX12];simp
   rw[this];exact hLv
 clear h14 h15 h0 h2 h4;rintro m2 σ ds v2 ⟨rfl,i,him,hi2,h17,h14,h0,hL2,hK2⟩;refine gz (az2 h17 h14) ?_;refine wc0 ?_ ?_
 ·intro hlt;simp only[ydT]at hlt;obtain⟨j,hj⟩:∃j,i=j+1:=⟨i - 1,oM⟩;subst hj;have hjX:j<X2.length:=oM;obtain⟨z,hz⟩:∃z,X2[j]=z:=⟨_,rfl⟩;obtain⟨c,hcq⟩:∃c,p+e+j=c:=⟨_,rfl⟩;have hl1:(A++X1++X2.take j).length=c:=by simp;omega
  have e1:A++X1++X2.take (j+1)++u::X2.drop (j+1)++B=(A++X1++X2.take j)++z::[]++u::(X2.drop (j+1)++B):=by
   rw[zal hjX,hz];simp only[yla,yav,yaI]
  have e2:(A++X1++X2.take j)++u::[]++z::(X2.drop (j+1)++B)=A++X1++X2.take j++u::X2.drop j++B:=by
   rw[yag hjX,hz];simp only[yla,yav,yaI]
  rw[e1]at hL2;have g1:((A++X1++X2.take j)++z::[]++u::(X2.drop (j+1)++B))[c]? =some z:=by
   rw[yla,yav,←hl1];exact zbo _ _ _
  have g2:((A++X1++X2.take j)++z::[]++u::(X2.drop (j+1)++B))[c+1]? =some u:=by
   have:=zbo ((A++X1++X2.take j)++ [z]) (X2.drop (j+1)++B) u
   rwa [yab,hl1]at this
  have hc1:p+e+(j+1)=c+1:=oM;rw[hc1]at h17;have hs:((c+1:Nat):Int) - 1=(c:Int):=oM;have m1:=List.mem_of_getElem? g1;have m2':=List.mem_of_getElem? g2;repeat refine c_r ?_
  refine zaF (λ i=>i==15||i==17) [(0,true),(1,true),(2,true),(3,true),(4,true),(5,true),(6,true),(7,true),(8,true),(9,true),(10,true),(11,true),(12,true),(13,true),(14,true),(15,false),(16,true),(17,false)] NoS mixed kR ?_;intro gd K x hgd hx hxe hK;clear hxe;have hLz:Lies enc x b cap ((A++X1++X2.take j)++z::[]++u::(X2.drop (j+1)++B)):=SD.ext hL2 hx;have d3:=hLz.get g1;have d4:=hLz.get g2;refine sgz (az5 h17 h0 hs d3 d4) ?_;refine SD.set (P:=prog) (t:=101) hLz (j:=c+1) (by rw[ylm];exact(yaj.1 g2).1) (hL2.enc_len m1) (hL2.enc_one m1) rfl rfl ?_;intro w2 hs2 hL3 hk2;refine⟨.inl rfl,?_⟩;refine sgz (az2 h17 hs) ?_;refine SD.set (P:=prog) (t:=101) hL3 (j:=c) (by rw[ybA,ylm];exact(yaj.1 g1).1) (hL2.enc_len m2') (hL2.enc_one m2') rfl rfl ?_;intro w3 hs3 hL4 hk3;refine⟨.inl rfl,?_⟩;refine sg0 ?_;apply hK;refine gz (az2 h17 hs) ?_;refine⟨m2 - 1,oM,rfl,j,oM,oM,vq2 hs hcq,vq1 h14,vq1 h0,?_,((hK2.trans (Ext.keep hx)).trans hk2).trans hk3⟩;rw[←e2];have:=zdn (A++X1++X2.take j) [] (X2.drop (j+1)++B) z u (i:=c) (j:=c+1) hl1.symm (by rw[hl1];simp);rw[ydr _ _ oM]at this;unfold Lies;rw[←this,ybp,ybp];exact hL4
 intro hge2;simp only[ydF]at hge2;have hie:i=0:=oM;subst hie;repeat refine c_r ?_
 refine zap (by simp) rfl ⟨⟨X1++u::X2,?_,hsorted,?_⟩,hK2⟩
 ·rw[←hX12];refine(ycV (l₁:=X1) (l₂:=X2) (a:=u)).trans ?_;exact(ybZ (l₁:=[u]) (l₂:=X1++X2))
 ·rw[ydk,ycT,yaF]at hL2;have:A++(X1++u::X2)++B=A++X1++u::X2++B:=by simp
  rw[this];exact hL2
end
end S_rec
namespace S_rec
section
variable {α : Type} {enc : α -> List Value}
theorem zcH{U:α->Prop}{cf:α->α->Int}{lt older:α->α->Prop}{g:FuncId}{cb:List Value}(hc:Cmp w0 enc U cf g cb)(ho:zes cf lt older)(hb:w0.heap.size<=b):
  ∀(fuel:Nat) (w:World) (D A X Y B:List α) (p q r N:Nat),X.length+Y.length<=fuel->D=A++X++Y++B->D.length=N->A.length=p->p+X.length=q->q+Y.length=r->X≠ []->Y≠ []->(∀x∈X,U x)->(∀y∈Y,U y)->
   X.Pairwise lt->Y.Pairwise lt->(∀x∈X,∀y∈Y,older x y)->Lies enc w b cap D->N<=1000000000000->Ext w0 w->
   Fn prog 219 #[zbt b N cap,vi p,vi q,vi r,cmpV g cb] w (λ _ w'=>(∃Z,Z.Perm (X++Y)/\Z.Pairwise lt/\Lies enc w' b cap (A++Z++B))/\Keep (λ i=>i=b) w w'):=by
 intro fuel
 induction fuel with
 |zero=>
  intro w D A X Y B p q r N hf _ _ _ _ _ hX _;exact absurd (yan.1 oM) hX
 |succ fuel ih=>
  intro w D A X Y B p q r N hf hDe hN hp hq hr hXn hYn hUX hUY hX hY hold hD hlen hE;have hXp:=yau.2 hXn;have hYp:=yau.2 hYn;by_cases hX1:X.length=1
  ·obtain⟨u,rfl⟩:=ycl.1 hX1;exact zc6 hc ho (by rw[hDe];simp) hN hp (by simpa using hq) hr (hUX u (by simp)) hUY hY (λ y hy=>hold u (by simp) y hy) hD hlen hE hb
  by_cases hY1:Y.length=1
  ·obtain⟨u,rfl⟩:=ycl.1 hY1;exact zdm hc ho (by rw[hDe];simp) hN hp hq (by simpa using hr) hX1 (hUY u (by simp)) hUX hX (λ x hx=>hold x hx u (by simp)) hD hlen hE hb
  have hDl:=congrArg List.length hDe;simp only[yab]at hDl;obtain⟨h,hh⟩:∃h,(X.length+Y.length) / 2=h:=⟨_,rfl⟩;have hqp:¬((q:Int) - p=1):=oM;have hrq:¬((r:Int) - q=1):=oM;have hsum:(p:Int)+r=((p+r:Nat):Int):=by push_cast;rfl
  have hdiv:(p+r) / 2=p+h:=oM;have hn:((p+h:Nat):Int)+q=((p+h+q:Nat):Int):=by push_cast;rfl
  unfold zbt cmpV;refine enx func219 ntmps219 ?_;refine gz (yef hqp) ?_;refine wc0 ?_ ?_
  ·intro h;simp at h
  intro _;refine gz (yef hrq) ?_;refine wc0 ?_ ?_
  ·intro h;simp at h
  intro _;refine gz (az3 hsum hdiv hn) ?_;refine zaw (Q:=λ e σ' ds' v'=>e= .normal/\ds'=[]/\v'=w/\σ' 0= .slice (some ⟨b,0,.none⟩) N cap/\σ' 1=vi p/\σ' 2=vi q/\σ' 3=vi r/\σ' 4= .func (.func g) #[] cb.toArray/\σ' 18=vi (p+h:Nat)/\σ' 19=vi (p+h+q:Nat)/\
   ∃lo hi:Nat,σ' 20=vi (p+lo:Nat)/\σ' 21=vi (p+hi:Nat)/\lo<=hi/\hi<=X.length/\hi<=h/\h<=lo+Y.length/\(lo=0\/h=lo+Y.length)/\(hi=X.length\/hi=h)) ?_ ?_
  ·refine wc0 ?_ ?_
   ·intro hgt;simp only[ydT]at hgt;have hs:((p+h+q:Nat):Int) - r=((p+(h - Y.length):Nat):Int):=oM;refine gz hs ?_;refine⟨rfl,rfl,rfl,vq0,vq0,vq0,vq0,vq0,vq0,vq0,h - Y.length,h,vq0,vq0,oM,oM,oM,oM,.inr oM,.inr rfl⟩
   ·intro hle;simp only[ydF]at hle;refine gz0 ?_;refine⟨rfl,rfl,rfl,vq0,vq0,vq0,vq0,vq0,vq0,vq0,0,X.length,by simp only[go_sem];rfl,vq1 hq,oM,oM,oM,oM,.inl rfl,.inl rfl⟩
  rintro _ σ1 _ v1 ⟨rfl,rfl,hv1,f0,f1,f2,f3,f4,f18,f19,lo,hi,f20,f21,hlh,hhX,hhh,hloY,hlo,hhi⟩;rw[hv1];clear hv1 v1;have hp1:((p+h+q:Nat):Int) - 1=((p+h+q - 1:Nat):Int):=oM;refine gz (az2 f19 hp1) ?_;refine zan (λ m σ ds v=>ds=[]/\∃s e:Nat,s+m=e/\lo<=s/\e<=hi/\(s=lo\/∃x y,X[s - 1]? =some x/\Y[h - s]? =some y/\lt x y)/\(e=hi\/∃x y,X[e]? =some x/\Y[h - 1 - e]? =some y/\lt y x)/\
   σ 20=vi (p+s:Nat)/\σ 21=vi (p+e:Nat)/\σ 22=vi (p+h+q - 1:Nat)/\σ 0= .slice (some ⟨b,0,.none⟩) N cap/\σ 1=vi p/\σ 2=vi q/\σ 3=vi r/\σ 4= .func (.func g) #[] cb.toArray/\σ 18=vi (p+h:Nat)/\σ 19=vi (p+h+q:Nat)/\Ext w v) (hi - lo) ?_ ?_
  ·refine⟨rfl,lo,hi,oM,ynl _,ynl _,.inl rfl,.inl rfl,vq1 f20,vq1 f21,vq0,vq1 f0,vq1 f1,vq1 f2,vq1 f3,vq1 f4,vq1 f18,vq1 f19,Keep.refl _ _⟩
  clear f0 f1 f2 f3 f4 f18 f19 f20 f21;rintro m σ ds v ⟨rfl,s,e,hse,hsl,heh,hF1,hF2,h20,h21,h22,h0,h1,h2,h3,h4,h18,h19,hEv⟩;have hLv:Lies enc v b cap D:=SD.ext hD hEv;refine gz (az2 h20 h21) ?_;refine wc0 ?_ ?_
  ·intro hlt;simp only[ydT]at hlt;have hsum2:((p+s:Nat):Int)+((p+e:Nat):Int)=((p+s+(p+e):Nat):Int):=by push_cast;rfl
   obtain⟨k,hk⟩:∃k,(s+e) / 2=k:=⟨_,rfl⟩;have hdiv2:(p+s+(p+e)) / 2=p+k:=oM;have hkX:k<X.length:=oM;have hkY:h - 1 - k<Y.length:=oM;have hpk:((p+h+q - 1:Nat):Int) - ((p+k:Nat):Int)=((q+(h - 1 - k):Nat):Int):=oM;obtain⟨x',hx'⟩:∃x,X[k]=x:=⟨_,rfl⟩;obtain⟨y,hy⟩:∃y,Y[h - 1 - k]=y:=⟨_,rfl⟩;have gx:X[k]? =some x':=by rw[yam hkX,hx']
   have gy:Y[h - 1 - k]? =some y:=by rw[yam hkY,hy]
   have hxX:x'∈X:=by rw[←hx'];exact yac _
   have hyY:y∈Y:=by rw[←hy];exact yac _
   have g1:D[p+k]? =some x':=by
    rw[hDe,yla,yla,yaH oM,hp,ybs,yaL hkX];exact gx
   have g2:D[q+(h - 1 - k)]? =some y:=by
    have hl:(A++X).length=q:=by rw[yab];omega
    rw[hDe,yla (A++X),yaH oM,hl,ybs,yaL hkY];exact gy
   refine gz (az4 h20 h21 hsum2 hdiv2) ?_;refine zaF (λ _=>false) [(0,true),(1,true),(2,true),(3,true),(4,true),(5,true),(6,true),(7,true),(8,true),(9,true),(10,true),(11,false),(12,true),(13,true)] NoS mixed kR ?_;intro gd K x hgd hx hxe hK;clear hxe;have hLx:Lies enc x b cap D:=SD.ext hLv hx;have d1:=hLx.get g1;have d2:=hLx.get g2;refine sgz (az6 h0 h4 h22 hpk d1 d2) ?_;refine zbJ hc.cal (yfm (hc.call x y x' ((hE.trans hEv).trans hx) (hUY y hyY) (hUX x' hxX)) ?_);rintro _ w1 ⟨rfl,hE1⟩;refine⟨.inr (Ext.keep hE1),?_⟩;refine sg0 ?_;apply hK;have hEv1:=(hEv.trans hx).trans hE1;refine wcz ?_ ?_
   ·intro hl;simp only[yao,ydF]at hl;refine gz0 ?_;refine⟨m - (k+1 - s),oM,rfl,k+1,e,oM,oM,heh,.inr ⟨x',y,by simpa using gx,by rw[show h - (k+1)=h - 1 - k from by omega];exact gy,ho.more (hold x' hxX y hyY) hl⟩,hF2,by simp only[go_sem];push_cast;rfl,vq1 h21,vq1 h22,vq1 h0,vq1 h1,vq1 h2,vq1 h3,vq1 h4,vq1 h18,vq1 h19,hEv1⟩
   ·intro hl;simp only[yaw,ydT]at hl;refine gz0 ?_;refine⟨k - s,oM,rfl,s,k,oM,hsl,oM,hF1,.inr ⟨x',y,gx,gy,ho.less (hold x' hxX y hyY) hl⟩,vq1 h20,vq0,vq1 h22,vq1 h0,vq1 h1,vq1 h2,vq1 h3,vq1 h4,vq1 h18,vq1 h19,hEv1⟩
  intro hge;simp only[ydF]at hge;have hes:e=s:=oM;rw[hes]at hF2 heh;clear hge hse h21 hes;obtain⟨t,ht⟩:∃t,h - s=t:=⟨_,rfl⟩;have hst:s+t=h:=oM;obtain⟨X1,hX1'⟩:∃X1,X.take s=X1:=⟨_,rfl⟩;obtain⟨X2,hX2'⟩:∃X2,X.drop s=X2:=⟨_,rfl⟩;obtain⟨Y1,hY1'⟩:∃Y1,Y.take t=Y1:=⟨_,rfl⟩;obtain⟨Y2,hY2'⟩:∃Y2,Y.drop t=Y2:=⟨_,rfl⟩;have c1:∀x∈X1,∀y∈Y2,lt x y:=by
   rw[←hX1',←hY2'];refine cross ho.trans hX hY ?_;rcases hF1 with hF1| ⟨x,y,a1,a2,a3⟩
   ·rcases hlo with hlo|hlo
    ·exact .inl oM
    ·exact .inr (.inl oM)
   ·exact .inr (.inr ⟨x,y,a1,by rw[←ht];exact a2,a3⟩)
  have c2:∀y∈Y1,∀x∈X2,lt y x:=by
   rw[←hY1',←hX2'];refine cross ho.trans hY hX ?_;rcases hF2 with hF2| ⟨x,y,a1,a2,a3⟩
   ·rcases hhi with hhi|hhi
    ·exact .inr (.inl oM)
    ·exact .inl oM
   ·exact .inr (.inr ⟨y,x,by rw[show t - 1=h - 1 - s from by omega];exact a2,a1,a3⟩)
  have hX12:X1++X2=X:=by rw[←hX1',←hX2'];exact yar _ _
  have hY12:Y1++Y2=Y:=by rw[←hY1',←hY2'];exact yar _ _
  have lX1:X1.length=s:=by rw[←hX1'];simp;omega
  have lY1:Y1.length=t:=by rw[←hY1'];simp;omega
  have lX2:X2.length=X.length - s:=by rw[←hX2'];simp
  have lY2:Y2.length=Y.length - t:=by rw[←hY2'];simp
  rw[←hX12,yap]at hX;rw[←hY12,yap]at hY;have hUX1:∀x∈X1,U x:=λ x hx=>hUX x (by rw[←hX12];exact yas _ hx);have hUX2:∀x∈X2,U x:=λ x hx=>hUX x (by rw[←hX12];exact yaP _ hx);have hUY1:∀x∈Y1,U x:=λ x hx=>hUY x (by rw[←hY12];exact yas _ hx);have hUY2:∀x∈Y2,U x:=λ x hx=>hUY x (by rw[←hY12];exact yaP _ hx);have ho1:∀x∈X1,∀y∈Y1,older x y:=λ x hx y hy=>hold x (by rw[←hX12];exact yas _ hx) y (by rw[←hY12];exact yas _ hy);have ho2:∀x∈X2,∀y∈Y2,older x y:=λ x hx y hy=>hold x (by rw[←hX12];exact yaP _ hx) y (by rw[←hY12];exact yaP _ hy);clear hX1' hX2' hY1' hY2' hF1 hF2;have hend:((p+h+q:Nat):Int) - ((p+s:Nat):Int)=((q+t:Nat):Int):=oM;refine gz (az3 h19 h20 hend) ?_;refine zaw (Q:=λ e σ' ds' v'=>e= .normal/\ds'=[]/\v'=v/\σ' 0= .slice (some ⟨b,0,.none⟩) N cap/\σ' 1=vi p/\σ' 2=vi q/\σ' 3=vi r/\σ' 4= .func (.func g) #[] cb.toArray/\σ' 18=vi (p+h:Nat)/\σ' 20=vi (p+s:Nat)/\σ' 24=vi (q+t:Nat)/\σ' 185= .bool (decide (X2≠ []/\Y1≠ []))) ?_ ?_
  ·refine rq ?_;intro gd K hgd hK;have hg3:=gk 3 181 hgd rfl;by_cases b1:((p+s:Nat):Int)<(q:Int)
   ·have hX2n:X2≠ []:=yau.1 oM;by_cases b2:(q:Int)<((q+t:Nat):Int)
    ·have hY1n:Y1≠ []:=yau.1 oM;try simp (disch:=first|omega|assumption|rfl) only[go_sem,h20,h2,yet b1,yet b2,↓hg3]
     apply hK;refine⟨rfl,rfl,rfl,vq1 h0,vq1 h1,vq1 h2,vq1 h3,vq1 h4,vq1 h18,vq1 h20,vq0,?_⟩;rw[show decide (X2≠ []/\Y1≠ [])=true from yet ⟨hX2n,hY1n⟩];simp only[go_sem]
    ·have hY1n:Y1=[]:=yan.1 oM;try simp (disch:=first|omega|assumption|rfl) only[go_sem,h20,h2,yet b1,yef b2,↓hg3]
     apply hK;refine⟨rfl,rfl,rfl,vq1 h0,vq1 h1,vq1 h2,vq1 h3,vq1 h4,vq1 h18,vq1 h20,vq0,?_⟩;rw[show decide (X2≠ []/\Y1≠ [])=false from yef (λ hx=>hx.2 hY1n)];simp only[go_sem]
   ·have hX2n:X2=[]:=yan.1 oM;try simp (disch:=first|omega|assumption|rfl) only[go_sem,h20,h2,yef b1,↓hg3]
    apply hK;refine⟨rfl,rfl,rfl,vq1 h0,vq1 h1,vq1 h2,vq1 h3,vq1 h4,vq1 h18,vq1 h20,vq0,?_⟩;rw[show decide (X2≠ []/\Y1≠ [])=false from yef (λ hx=>hx.1 hX2n)];simp only[go_sem]
  clear h0 h1 h2 h3 h4 h18 h19 h20 h22;rintro _ σ2 _ v2 ⟨rfl,rfl,hv2,h0,h1,h2,h3,h4,h18,h20,h24,h185⟩;rw[hv2];clear hv2 v2;repeat refine c_r ?_
  refine zaw (Q:=λ e σ' ds' v'=>e= .normal/\ds'=[]/\σ' 0= .slice (some ⟨b,0,.none⟩) N cap/\σ' 1=vi p/\σ' 3=vi r/\σ' 4= .func (.func g) #[] cb.toArray/\σ' 18=vi (p+h:Nat)/\σ' 20=vi (p+s:Nat)/\σ' 24=vi (q+t:Nat)/\
   Lies enc v' b cap (A++X1++Y1++X2++Y2++B)/\Keep (λ i=>i=b) w v') ?_ ?_
  ·refine zaG (by simp only[go_sem,h185];rfl) ?_ ?_
   ·intro hcc;simp only[ydT]at hcc;refine rqz ?_;intro gd K hgd hK;refine sgz (az5 h0 h2 h4 h20 h24) ?_;refine yfm (zgh (p:=p+s) (q:=q) (r:=q+t) (N:=N) (A:=A++X1) (X:=X2) (Y:=Y1) (B:=Y2++B) (D:=D) (by rw[hDe,←hX12,←hY12];simp only[yla]) hN (by rw[yab];omega) (by rw[yab];omega) (by rw[yab];omega) hcc.1 hcc.2 hLv hlen) ?_;rintro _ w1 ⟨hL1,hK1⟩;try simp only[go_sem]
    apply hK;refine⟨rfl,rfl,vq1 h0,vq1 h1,vq1 h3,vq1 h4,vq1 h18,vq1 h20,vq1 h24,?_,(Ext.keep hEv).trans hK1⟩;simpa only[yla] using hL1
   ·intro hcc;simp only[ydF]at hcc;repeat refine c_r ?_
    refine⟨rfl,rfl,h0,h1,h3,h4,h18,h20,h24,?_,Ext.keep hEv⟩;have:D=A++X1++Y1++X2++Y2++B:=by
     rw[hDe,←hX12,←hY12];by_cases hz:X2=[]
     ·rw[hz];simp
     ·have:Y1=[]:=Classical.byContradiction λ hy=>hcc ⟨hz,hy⟩;rw[this];simp
    rw[←this];exact hLv
  clear h0 h1 h2 h3 h4 h18 h20 h24 h185 hLv hEv;rintro _ σ3 _ v3 ⟨rfl,rfl,h0,h1,h3,h4,h18,h20,h24,hL3,hK3⟩;have hE3:Ext w0 v3:=ykt hE rfl (λ i hi=>oM) hK3;have hL3l:(A++X1++Y1++X2++Y2++B).length=N:=by
   have e1:=congrArg List.length hX12;have e2:=congrArg List.length hY12;simp only[yab]at e1 e2 ⊢;omega
  -- the front half
  repeat refine c_r ?_
  refine zaw (Q:=λ e σ' ds' v'=>e= .normal/\ds'=[]/\v'=v3/\σ' 0= .slice (some ⟨b,0,.none⟩) N cap/\σ' 1=vi p/\σ' 3=vi r/\σ' 4= .func (.func g) #[] cb.toArray/\σ' 18=vi (p+h:Nat)/\σ' 20=vi (p+s:Nat)/\σ' 24=vi (q+t:Nat)/\σ' 199= .bool (decide (X1≠ []/\Y1≠ []))) ?_ ?_
  ·refine rq ?_;intro gd K hgd hK;have hg3:=gk 3 195 hgd rfl;by_cases b1:(p:Int)<((p+s:Nat):Int)
   ·have n1:X1≠ []:=yau.1 oM;by_cases b2:((p+s:Nat):Int)<((p+h:Nat):Int)
    ·have n2:Y1≠ []:=yau.1 oM;try simp (disch:=first|omega|assumption|rfl) only[go_sem,h1,h20,h18,yet b1,yet b2,↓hg3]
     apply hK;refine⟨rfl,rfl,rfl,vq1 h0,vq1 h1,vq1 h3,vq1 h4,vq1 h18,vq1 h20,vq1 h24,?_⟩;rw[show decide (X1≠ []/\Y1≠ [])=true from yet ⟨n1,n2⟩];simp only[go_sem]
    ·have n2:Y1=[]:=yan.1 oM;try simp (disch:=first|omega|assumption|rfl) only[go_sem,h1,h20,h18,yet b1,yef b2,↓hg3]
     apply hK;refine⟨rfl,rfl,rfl,vq1 h0,vq1 h1,vq1 h3,vq1 h4,vq1 h18,vq1 h20,vq1 h24,?_⟩;rw[show decide (X1≠ []/\Y1≠ [])=false from yef (λ hx=>hx.2 n2)];simp only[go_sem]
   ·have n1:X1=[]:=yan.1 oM;try simp (disch:=first|omega|assumption|rfl) only[go_sem,h1,h20,h18,yef b1,↓hg3]
    apply hK;refine⟨rfl,rfl,rfl,vq1 h0,vq1 h1,vq1 h3,vq1 h4,vq1 h18,vq1 h20,vq1 h24,?_⟩;rw[show decide (X1≠ []/\Y1≠ [])=false from yef (λ hx=>hx.1 n1)];simp only[go_sem]
  clear h0 h1 h3 h4 h18 h20 h24;rintro _ σ4 _ v4 ⟨rfl,rfl,hv4,h0,h1,h3,h4,h18,h20,h24,h199⟩;rw[hv4];clear hv4 v4;repeat refine c_r ?_
  refine zaw (Q:=λ e σ' ds' v'=>e= .normal/\ds'=[]/\σ' 0= .slice (some ⟨b,0,.none⟩) N cap/\σ' 3=vi r/\σ' 4= .func (.func g) #[] cb.toArray/\σ' 18=vi (p+h:Nat)/\σ' 24=vi (q+t:Nat)/\
   ∃Z1,Z1.Perm (X1++Y1)/\Z1.Pairwise lt/\Lies enc v' b cap (A++Z1++X2++Y2++B)/\Keep (λ i=>i=b) v3 v') ?_ ?_
  ·refine zaG (by simp only[go_sem,h199];rfl) ?_ ?_
   ·intro hcc;simp only[ydT]at hcc;refine rqz ?_;intro gd K hgd hK;refine sgz (az5 h0 h1 h18 h4 h20) ?_;refine yfm (ih v3 _ A X1 Y1 (X2++Y2++B) p (p+s) (p+h) N oM (by simp only[yla]) hL3l hp oM oM hcc.1 hcc.2 hUX1 hUY1 hX.1 hY.1 ho1 hL3 hlen hE3) ?_;rintro _ w1 ⟨⟨Z1,z1,z2,z3⟩,hK1⟩;try simp only[go_sem]
    apply hK;refine⟨rfl,rfl,vq1 h0,vq1 h3,vq1 h4,vq1 h18,vq1 h24,Z1,z1,z2,?_,hK1⟩;simpa only[yla] using z3
   ·intro hcc;simp only[ydF]at hcc;repeat refine c_r ?_
    refine⟨rfl,rfl,h0,h3,h4,h18,h24,X1++Y1,List.Perm.refl _,?_,by simpa only[yla] using hL3,Keep.refl _ _⟩;by_cases hz:X1=[]
    ·rw[hz];exact hY.1
    ·have:Y1=[]:=Classical.byContradiction λ hy=>hcc ⟨hz,hy⟩;rw[this,yaF];exact hX.1
  clear h0 h1 h3 h4 h18 h20 h24 h199 hL3;rintro _ σ5 _ v5 ⟨rfl,rfl,h0,h3,h4,h18,h24,Z1,zp1,zs1,hL5,hK5⟩;have hE5:Ext w0 v5:=ykt hE3 rfl (λ i hi=>oM) hK5;have lZ1:Z1.length=h:=by rw[zp1.length_eq,yab];omega
  have hL5l:(A++Z1++X2++Y2++B).length=N:=by
   have e1:=congrArg List.length hX12;have e2:=congrArg List.length hY12;simp only[yab]at e1 e2 ⊢;omega
  have hXY:∀Z2:List α,Z2.Perm (X2++Y2)->Z2.Pairwise lt->(Z1++Z2).Perm (X++Y)/\(Z1++Z2).Pairwise lt:=λ Z2 zp2 zs2=>by
   have:=zge (by rw[yap];exact hX) (by rw[yap];exact hY) c1 c2 zp1 zp2 zs1 zs2;rw[hX12,hY12]at this;exact⟨this.2,this.1⟩
  -- the back half
  repeat refine c_r ?_
  refine zaw (Q:=λ e σ' ds' v'=>e= .normal/\ds'=[]/\v'=v5/\σ' 0= .slice (some ⟨b,0,.none⟩) N cap/\σ' 3=vi r/\σ' 4= .func (.func g) #[] cb.toArray/\σ' 18=vi (p+h:Nat)/\σ' 24=vi (q+t:Nat)/\σ' 213= .bool (decide (X2≠ []/\Y2≠ []))) ?_ ?_
  ·refine rq ?_;intro gd K hgd hK;have hg3:=gk 3 209 hgd rfl;by_cases b1:((p+h:Nat):Int)<((q+t:Nat):Int)
   ·have n1:X2≠ []:=yau.1 oM;by_cases b2:((q+t:Nat):Int)<(r:Int)
    ·have n2:Y2≠ []:=yau.1 oM;try simp (disch:=first|omega|assumption|rfl) only[go_sem,h18,h24,h3,yet b1,yet b2,↓hg3]
     apply hK;refine⟨rfl,rfl,rfl,vq1 h0,vq1 h3,vq1 h4,vq1 h18,vq1 h24,?_⟩;rw[show decide (X2≠ []/\Y2≠ [])=true from yet ⟨n1,n2⟩];simp only[go_sem]
    ·have n2:Y2=[]:=yan.1 oM;try simp (disch:=first|omega|assumption|rfl) only[go_sem,h18,h24,h3,yet b1,yef b2,↓hg3]
     apply hK;refine⟨rfl,rfl,rfl,vq1 h0,vq1 h3,vq1 h4,vq1 h18,vq1 h24,?_⟩;rw[show decide (X2≠ []/\Y2≠ [])=false from yef (λ hx=>hx.2 n2)];simp only[go_sem]
   ·have n1:X2=[]:=yan.1 oM;try simp (disch:=first|omega|assumption|rfl) only[go_sem,h18,h24,h3,yef b1,↓hg3]
    apply hK;refine⟨rfl,rfl,rfl,vq1 h0,vq1 h3,vq1 h4,vq1 h18,vq1 h24,?_⟩;rw[show decide (X2≠ []/\Y2≠ [])=false from yef (λ hx=>hx.1 n1)];simp only[go_sem]
  clear h0 h3 h4 h18 h24;rintro _ σ6 _ v6 ⟨rfl,rfl,hv6,h0,h3,h4,h18,h24,h213⟩;rw[hv6];clear hv6 v6;repeat refine c_r ?_
  refine zaG (by simp only[go_sem,h213];rfl) ?_ ?_
  ·intro hcc;simp only[ydT]at hcc;refine rqz ?_;intro gd K hgd hK;refine sgz (az5 h0 h3 h18 h4 h24) ?_;refine yfm (ih v5 _ (A++Z1) X2 Y2 B (p+h) (q+t) r N oM rfl hL5l (by rw[yab];omega) oM oM hcc.1 hcc.2 hUX2 hUY2 hX.2.1 hY.2.1 ho2 hL5 hlen hE5) ?_;rintro _ w1 ⟨⟨Z2,z1,z2,z3⟩,hK1⟩;try simp only[go_sem]
   refine en hK ?_;refine zap (by simp) rfl ⟨⟨Z1++Z2,(hXY Z2 z1 z2).1,(hXY Z2 z1 z2).2,?_⟩,(hK3.trans hK5).trans hK1⟩;simpa only[yla] using z3
  ·intro hcc;simp only[ydF]at hcc;repeat refine c_r ?_
   have hs2:(X2++Y2).Pairwise lt:=by
    by_cases hz:X2=[]
    ·rw[hz];exact hY.2.1
    ·have:Y2=[]:=Classical.byContradiction λ hy=>hcc ⟨hz,hy⟩;rw[this,yaF];exact hX.2.1
   obtain⟨z1,z2⟩:=hXY (X2++Y2) (List.Perm.refl _) hs2;refine zap (by simp) rfl ⟨⟨Z1++(X2++Y2),z1,z2,?_⟩,hK3.trans hK5⟩;simpa only[yla] using hL5
end
end S_rec
section
variable {α : Type} {lt older : α -> α -> Prop}
def Rem(s:Nat):List (List α)->Prop
 | []=>True
 | [Z]=>Z.length<=s
 |L::M::Rs=>L.length=s/\Rem s (M::Rs)
theorem zeO{s:Nat}:∀{Ls:List (List α)},Rem s Ls->(∀L∈Ls,L.Pairwise lt)->Ls.flatten.length<=s->Ls.flatten.Pairwise lt
 | [],_,_,_=>List.Pairwise.nil
 | [Z],_,h,_=>by simpa using h Z sM
 |L::M::Rs,hr,h,hl=>by
  have h1:=hr.1;rw[ybC,yab]at hl;have:(M::Rs).flatten=[]:=yan.1 oM;rw[ybC,this,yaF];exact h L sM
theorem zmJ{s:Nat}(hs:0<s):∀{Ls:List (List α)},Rem s Ls->2*s<=Ls.flatten.length->∃L1 L2 Rs,Ls=L1::L2::Rs/\L1.length=s/\L2.length=s/\Rem s Rs
 | [],_,h=>by simp at h;omega
 | [Z],hr,h=>by
  have:Z.length<=s:=hr;simp at h;omega
 | [L,M],hr,h=>by
  have h1:L.length=s:=hr.1;have h2:M.length<=s:=hr.2;simp at h;exact⟨L,M,[],rfl,h1,oM,trivial⟩
 |L::M::K::Rs,hr,h=>⟨L,M,K::Rs,rfl,hr.1,hr.2.1,hr.2.2⟩
theorem zmK{s:Nat}:∀{Ls:List (List α)},Rem s Ls->s<Ls.flatten.length->Ls.flatten.length<2*s->∃L1 L2,Ls=[L1,L2]/\L1.length=s/\L2≠ []
 | [],_,h,_=>by simp at h
 | [Z],hr,h,_=>by
  have:Z.length<=s:=hr;simp at h;omega
 | [L,M],hr,h,_=>by
  have h1:L.length=s:=hr.1;refine⟨L,M,rfl,h1,λ e=>?_⟩;subst e;simp at h;omega
 |L::M::K::Rs,hr,_,h=>by
  have h1:=hr.1;have h2:=hr.2.1;simp at h;omega
theorem zeN{s:Nat}{Z:List α}(hZ:Z.length<=s):∀{Q:List (List α)},(∀L∈Q,L.length=s)->Rem s (Q++ [Z])
 | [],_=>hZ
 | [L],h=>⟨h L sM,hZ⟩
 |L::M::Q,h=>⟨h L sM,zeN hZ (Q:=M::Q) (λ K hK=>h K (yak _ hK))⟩
def OldC(older:α->α->Prop)(Ls:List (List α)):Prop:=Ls.Pairwise λ L M=>∀x∈L,∀y∈M,older x y
theorem OldC.merge{Q Rs:List (List α)}{L1 L2 Z:List α}(h:OldC older (Q++L1::L2::Rs))(hp:Z.Perm (L1++L2)):OldC older (Q++Z::Rs)/\∀x∈L1,∀y∈L2,older x y:=by
 unfold OldC at*;rw[yap,yaM,yaM]at h;obtain⟨h1,⟨h2,h3,h4⟩,h5⟩:=h;refine⟨?_,h2 L2 sM⟩;rw[yap,yaM];refine⟨h1,⟨λ M hM x hx y hy=>?_,h4⟩,λ L hL M hM x hx y hy=>?_⟩
 ·rcases yai.1 (hp.mem_iff.1 hx) with hx|hx
  ·exact h2 M (yak _ hM) x hx y hy
  ·exact h3 M hM x hx y hy
 ·rcases yay.1 hM with rfl|hM
  ·rcases yai.1 (hp.mem_iff.1 hy) with hy|hy
   ·exact h5 L hL L1 sM x hx y hy
   ·exact h5 L hL L2 sM x hx y hy
  ·exact h5 L hL M (by simp[hM]) x hx y hy
theorem OldC.perm{Q Rs:List (List α)}{X Z:List α}(h:OldC older (Q++X::Rs))(hp:Z.Perm X):OldC older (Q++Z::Rs):=by
 unfold OldC at*;rw[yap,yaM]at h ⊢;obtain⟨h1,⟨h2,h4⟩,h5⟩:=h;refine⟨h1,⟨λ M hM x hx y hy=>h2 M hM x (hp.mem_iff.1 hx) y hy,h4⟩,λ L hL M hM x hx y hy=>?_⟩;rcases yay.1 hM with rfl|hM
 ·exact h5 L hL X sM x hx y (hp.mem_iff.1 hy)
 ·exact h5 L hL M (by simp[hM]) x hx y hy
theorem OldC.split{Q:List (List α)}{X R:List α}(h:OldC older (Q++ [X++R]))(hx:(X++R).Pairwise older):OldC older (Q++ [X,R]):=by
 unfold OldC at*;rw[yap]at h hx ⊢;refine⟨h.1,yaM.2 ⟨λ M hM x hx' y hy=>?_,yby _ _⟩,λ L hL M hM x hx' y hy=>?_⟩
 ·rw[yae.1 hM]at hy;exact hx.2.2 x hx' y hy
 ·rcases yay.1 hM with rfl|hM
  ·exact h.2.2 L hL _ (yae.2 rfl) x hx' y (yas _ hy)
  ·rw[yae.1 hM]at hy;exact h.2.2 L hL _ (yae.2 rfl) x hx' y (yaP _ hy)
theorem OldC.join{Q Rs:List (List α)}(h:OldC older (Q++Rs)):OldC older (Q++ [Rs.flatten]):=by
 unfold OldC at*;rw[yap]at h ⊢;refine⟨h.1,yby _ _,λ L hL M hM x hx y hy=>?_⟩;rw[yae.1 hM]at hy;obtain⟨K,hK,hy⟩:=ych.1 hy;exact h.2.2 L hL K hK x hx y hy
end
namespace S_rec
section
variable {α : Type} {enc : α -> List Value}
theorem zgc{U:α->Prop}{cf:α->α->Int}{lt older:α->α->Prop}{g:FuncId}{cb:List Value}(hc:Cmp w0 enc U cf g cb)(ho:zes cf lt older)(hb:w0.heap.size<=b)
  {D:List α} {N:Nat} (hN:D.length=N) (hU:∀x∈D,U x) (hOD:D.Pairwise older) (hD:Lies enc w b cap D) (hlen:N<=100000000000) (hE:Ext w0 w):
  Fn prog 180 #[zbt b N cap,vi N,cmpV g cb] w (λ _ w'=>(∃Z,Z.Perm D/\Z.Pairwise lt/\Lies enc w' b cap Z)/\Keep (λ i=>i=b) w w'):=by
 unfold zbt cmpV;refine enx func180 ntmps180 ?_;repeat refine c_r ?_
 refine rg0 ?_;repeat refine c_r ?_
 refine rg0 ?_;repeat refine c_r ?_
 refine zan (λ m σ ds v=>ds=[]/\∃(P:List (List α)) (R:List α),R.length=m/\(∀L∈P,L.length=20)/\(∀L∈P,L.Pairwise lt)/\OldC older (P++ [R])/\R.Pairwise older/\(P.flatten++R).Perm D/\σ 6=vi 20/\σ 7=vi P.flatten.length/\σ 8=vi (P.flatten.length+20:Nat)/\σ 0= .slice (some ⟨b,0,.none⟩) N cap/\σ 1=vi N/\σ 2= .func (.func g) #[] cb.toArray/\
  Lies enc v b cap (P.flatten++R)/\Keep (λ i=>i=b) w v) D.length ?_ ?_
 ·refine⟨rfl,[],D,rfl,λ L h=>(by cases h),λ L h=>(by cases h),yby _ _,hOD,List.Perm.refl _,vq0,?_,?_,vq0,vq0,vq0,hD,Keep.refl _ _⟩
  ·simp only[go_sem];rfl
  ·simp only[go_sem];rfl
 rintro m σ ds v ⟨rfl,P,R,hm,hP20,hPs,hOC,hRo,hperm,h6,h7,h8,h0,h1,h2,hL,hK⟩;have hE0:Ext w0 v:=ykt hE rfl (λ i hi=>oM) hK;have hl:=hperm.length_eq;rw[yab,hN]at hl;have hUR:∀x∈R,U x:=λ x hx=>hU x (hperm.mem_iff.1 (yaP _ hx));repeat refine c_r ?_
 refine rg2 h8 h1 ?_;repeat refine c_r ?_
 refine wc0 ?_ ?_
 ·intro hle;simp only[ydT]at hle;have hR20:20<=R.length:=oM;obtain⟨X,hX⟩:∃X,R.take 20=X:=⟨_,rfl⟩;obtain⟨R',hR'⟩:∃R',R.drop 20=R':=⟨_,rfl⟩;have hXR:X++R'=R:=by rw[←hX,←hR'];exact yar _ _
  have hXl:X.length=20:=by rw[←hX];simp;omega
  rw[←hXR]at hRo hOC;have hOC2:=hOC.split hRo;rw[yap]at hRo;repeat refine c_r ?_
  refine rq ?_;intro gd K hgd hK;try simp (disch:=first|omega|assumption|rfl) only[go_sem,h0,h7,h8,h2]
  refine yfm (zbm hc ho (D:=P.flatten++R) (A:=P.flatten) (X:=X) (B:=R') (p:=P.flatten.length) (q:=P.flatten.length+20) (N:=N) (by rw[←hXR,yla]) (by rw[yab];omega) rfl oM (λ x hx=>hUR x (by rw[←hXR];exact yas _ hx)) hRo.1 hL oM hE0 hb) ?_;rintro _ w1 ⟨⟨Z,z1,z2,z3⟩,hK1⟩;try simp only[go_sem]
  refine hK _ _ ?_;clear hK hgd;clear K;try clear gd
  have hzl:=z1.length_eq;have hfl:(P++ [Z]).flatten.length=P.flatten.length+20:=by simp;omega
  repeat refine c_r ?_
  refine rg1 h8 ?_;repeat refine c_r ?_
  refine rg2 h8 h6 ?_;repeat refine c_r ?_
  refine⟨R'.length,by rw[←hR'];simp;omega,rfl,P++ [Z],R',rfl,λ L hL=>?_,λ L hL=>?_,?_,hRo.2.1,?_,vq1 h6,vq1 hfl,by simp only[go_sem,hfl];push_cast;rfl,vq1 h0,vq1 h1,vq1 h2,?_,hK.trans hK1⟩
  ·rcases yai.1 hL with hL|hL
   ·exact hP20 L hL
   ·rw[yae.1 hL];omega
  ·rcases yai.1 hL with hL|hL
   ·exact hPs L hL
   ·rw[yae.1 hL];exact z2
  ·have:=hOC2.perm z1;rw[yla];exact this
  ·refine List.Perm.trans ?_ hperm;rw[←hXR];have:(P++ [Z]).flatten++R'=P.flatten++(Z++R'):=by simp
   rw[this];exact ybf _ (ybz _ z1)
  ·have:(P++ [Z]).flatten++R'=P.flatten++Z++R':=by simp
   rw[this];exact z3
 intro hgt;simp only[ydF]at hgt;have hR20:R.length<20:=oM;repeat refine c_r ?_
 refine rq ?_;intro gd K hgd hK;try simp (disch:=first|omega|assumption|rfl) only[go_sem,h0,h7,h1,h2]
 refine yfm (zbm hc ho (D:=P.flatten++R) (A:=P.flatten) (X:=R) (B:=[]) (p:=P.flatten.length) (q:=N) (N:=N) (by simp) (by rw[yab];omega) rfl oM hUR hRo hL oM hE0 hb) ?_;rintro _ w1 ⟨⟨Z,z1,z2,z3⟩,hK1⟩;try simp only[go_sem]
 refine hK _ _ ?_;clear hK hgd;clear K;try clear gd
 have hE1:Ext w0 w1:=ykt hE0 rfl (λ i hi=>oM) hK1;have hzl:=z1.length_eq;repeat refine c_r ?_
 refine zan (λ m σ ds v=>ds=[]/\∃(s:Nat) (Ls:List (List α)),N - s=m/\0<s/\Rem s Ls/\(∀L∈Ls,L.Pairwise lt)/\OldC older Ls/\Ls.flatten.Perm D/\σ 6=vi s/\σ 0= .slice (some ⟨b,0,.none⟩) N cap/\σ 1=vi N/\σ 2= .func (.func g) #[] cb.toArray/\
  Lies enc v b cap Ls.flatten/\Keep (λ i=>i=b) w v) (N - 20) ?_ ?_
 ·refine⟨rfl,20,P++ [Z],rfl,oM,zeN oM hP20,λ L hL=>?_,hOC.perm z1,?_,by simp only[go_sem,h6];rfl,vq1 h0,vq1 h1,vq1 h2,?_,hK.trans hK1⟩
  ·rcases yai.1 hL with hL|hL
   ·exact hPs L hL
   ·rw[yae.1 hL];exact z2
  ·refine List.Perm.trans ?_ hperm;have:(P++ [Z]).flatten=P.flatten++Z:=by simp
   rw[this];exact ybf _ z1
  ·have:(P++ [Z]).flatten=P.flatten++Z++ []:=by simp
   rw[this];exact z3
 clear h6 h7 h8 h0 h1 h2 hL hOC hperm hl z3;rintro m1 σ ds v1 ⟨rfl,s,Ls,hms,hs0,hrem,hsorted,hOC,hperm,h6,h0,h1,h2,hL,hK2⟩;have hE2:Ext w0 v1:=ykt hE rfl (λ i hi=>oM) hK2;have hl:=hperm.length_eq;rw[hN]at hl;repeat refine c_r ?_
 refine rg2 h6 h1 ?_;repeat refine c_r ?_
 refine wc0 ?_ ?_
 ·intro hlt;simp only[ydT]at hlt;have h2s:(2:Int)*s=((2*s:Nat):Int):=by push_cast;rfl
  repeat refine c_r ?_
  refine rg2 h6 h2s ?_;repeat refine c_r ?_
  refine zan (λ m σ ds v=>ds=[]/\∃(Q Rs:List (List α)),Rs.flatten.length=m/\(∀L∈Q,L.length=2*s)/\Rem s Rs/\(∀L∈Q++Rs,L.Pairwise lt)/\OldC older (Q++Rs)/\(Q++Rs).flatten.Perm D/\σ 6=vi s/\σ 7=vi Q.flatten.length/\σ 8=vi (Q.flatten.length+2*s:Nat)/\σ 0= .slice (some ⟨b,0,.none⟩) N cap/\σ 1=vi N/\σ 2= .func (.func g) #[] cb.toArray/\
   Lies enc v b cap (Q++Rs).flatten/\Keep (λ i=>i=b) w v) N ?_ ?_
  ·refine⟨rfl,[],Ls,hl,λ L h=>(by cases h),hrem,hsorted,hOC,hperm,vq1 h6,?_,?_,vq1 h0,vq1 h1,vq1 h2,hL,hK2⟩
   ·simp only[go_sem];rfl
   ·simp only[go_sem];push_cast;simp
  clear h6 h0 h1 h2 hL hrem hsorted hOC hperm;rintro m2 σ ds v2 ⟨rfl,Q,Rs,hm2,hQl,hrem,hsorted,hOC,hperm,h6,h7,h8,h0,h1,h2,hL,hK3⟩;have hE3:Ext w0 v2:=ykt hE rfl (λ i hi=>oM) hK3;have hl3:=hperm.length_eq;rw[hN,ybl,yab]at hl3;have hUQ:∀L∈Q++Rs,∀x∈L,U x:=λ L hL x hx=>hU x (hperm.mem_iff.1 (ych.2 ⟨L,hL,hx⟩));repeat refine c_r ?_
  refine rg2 h8 h1 ?_;repeat refine c_r ?_
  refine wc0 ?_ ?_
  ·intro hle;simp only[ydT]at hle;obtain⟨L1,L2,Rs',rfl,l1,l2,hrem'⟩:=zmJ hs0 hrem oM;have has:(Q.flatten.length:Int)+s=((Q.flatten.length+s:Nat):Int):=by push_cast;rfl
   have n1:L1≠ []:=yau.1 oM;have n2:L2≠ []:=yau.1 oM;have hold12:=(hOC.merge (List.Perm.refl (L1++L2))).2;repeat refine c_r ?_
   refine rq ?_;intro gd K hgd hK;try simp (disch:=first|omega|assumption|rfl) only[go_sem,h0,h7,h6,h8,h2,has]
   refine yfm (zcH hc ho hb (L1.length+L2.length) v2 (Q++L1::L2::Rs').flatten Q.flatten L1 L2 Rs'.flatten Q.flatten.length (Q.flatten.length+s) (Q.flatten.length+2*s) N (ynl _) (by simp) (by rw[ybl,yab];exact hl3) rfl oM oM n1 n2
    (hUQ L1 (by simp)) (hUQ L2 (by simp)) (hsorted L1 (by simp)) (hsorted L2 (by simp)) hold12 hL oM hE3) ?_
   rintro _ w2 ⟨⟨Z,z1,z2,z3⟩,hK4⟩;try simp only[go_sem]
   refine hK _ _ ?_;clear hK hgd;clear K;try clear gd
   have hzl2:=z1.length_eq;rw[yab]at hzl2;have hfl:(Q++ [Z]).flatten.length=Q.flatten.length+2*s:=by simp;omega
   repeat refine c_r ?_
   refine rg1 h8 ?_;repeat refine c_r ?_
   refine rg3 h8 h6 h2s ?_;repeat refine c_r ?_
   have hfr:(L1::L2::Rs').flatten.length=s+(s+Rs'.flatten.length):=by simp only[ybC,yab];omega
   refine⟨Rs'.flatten.length,oM,rfl,Q++ [Z],Rs',rfl,λ L hL=>?_,hrem',λ L hL=>?_,?_,?_,vq1 h6,vq1 hfl,by simp only[go_sem,hfl];push_cast;rfl,vq1 h0,vq1 h1,vq1 h2,?_,hK3.trans hK4⟩
   ·rcases yai.1 hL with hL|hL
    ·exact hQl L hL
    ·rw[yae.1 hL];omega
   ·rcases yai.1 hL with hL|hL
    ·rcases yai.1 hL with hL|hL
     ·exact hsorted L (by simp[hL])
     ·rw[yae.1 hL];exact z2
    ·exact hsorted L (by simp[hL])
   ·have:=(hOC.merge z1).1;rw[yla];exact this
   ·refine List.Perm.trans ?_ hperm;have e1:(Q++ [Z]++Rs').flatten=Q.flatten++(Z++Rs'.flatten):=by simp
    have e2:(Q++L1::L2::Rs').flatten=Q.flatten++((L1++L2)++Rs'.flatten):=by simp
    rw[e1,e2];exact ybf _ (ybz _ z1)
   ·have e1:(Q++ [Z]++Rs').flatten=Q.flatten++Z++Rs'.flatten:=by simp
    rw[e1];exact z3
  intro hgt2;simp only[ydF]at hgt2;have has:(Q.flatten.length:Int)+s=((Q.flatten.length+s:Nat):Int):=by push_cast;rfl
  repeat refine c_r ?_
  refine rg3 h7 h6 has ?_;repeat refine c_r ?_
  refine rg1 h1 ?_;repeat refine c_r ?_
  refine zaw (Q:=λ e σ' ds' v'=>e= .normal/\ds'=[]/\σ' 6=vi s/\σ' 0= .slice (some ⟨b,0,.none⟩) N cap/\σ' 1=vi N/\σ' 2= .func (.func g) #[] cb.toArray/\
   ∃Z,Z.Perm Rs.flatten/\Z.Pairwise lt/\Lies enc v' b cap (Q++ [Z]).flatten/\Keep (λ i=>i=b) w v') ?_ ?_
  ·refine wc0 ?_ ?_
   ·intro hlt2;simp only[ydT]at hlt2;obtain⟨L1,L2,rfl,l1,n2⟩:=zmK hrem oM oM;have n1:L1≠ []:=yau.1 oM;have hold12:=(hOC.merge (List.Perm.refl (L1++L2))).2;have hfr:[L1,L2].flatten.length=s+L2.length:=by simp;omega
    repeat refine c_r ?_
    refine rq ?_;intro gd K hgd hK;try simp (disch:=first|omega|assumption|rfl) only[go_sem,h0,h7,h1,h2]
    refine yfm (zcH hc ho hb (L1.length+L2.length) v2 (Q++ [L1,L2]).flatten Q.flatten L1 L2 [] Q.flatten.length (Q.flatten.length+s) N N (ynl _) (by simp) (by rw[ybl,yab];exact hl3) rfl oM oM n1 n2
     (hUQ L1 (by simp)) (hUQ L2 (by simp)) (hsorted L1 (by simp)) (hsorted L2 (by simp)) hold12 hL oM hE3) ?_
    rintro _ w2 ⟨⟨Z,z1,z2,z3⟩,hK4⟩;try simp only[go_sem]
    refine hK _ _ ?_;clear hK hgd;clear K;try clear gd
    refine⟨rfl,rfl,vq1 h6,vq1 h0,vq1 h1,vq1 h2,Z,by simpa using z1,z2,?_,hK3.trans hK4⟩;have e1:(Q++ [Z]).flatten=Q.flatten++Z++ []:=by simp
    rw[e1];exact z3
   ·intro hge2;simp only[ydF]at hge2;repeat refine c_r ?_
    refine⟨rfl,rfl,vq1 h6,vq1 h0,vq1 h1,vq1 h2,Rs.flatten,List.Perm.refl _,zeO hrem (λ L hL=>hsorted L (by simp[hL])) oM,?_,hK3⟩;have e1:(Q++ [Rs.flatten]).flatten=(Q++Rs).flatten:=by simp
    rw[e1];exact hL
  clear h6 h7 h8 h0 h1 h2 hL;rintro _ σ3 _ v3 ⟨rfl,rfl,h6,h0,h1,h2,Z,zp,zs,hL,hK5⟩;have hzl3:=zp.length_eq;have hs2:(s:Int)*2=((2*s:Nat):Int):=by push_cast;omega
  repeat refine c_r ?_
  refine rg2 h6 hs2 ?_;repeat refine c_r ?_
  refine⟨N - 2*s,oM,rfl,2*s,Q++ [Z],rfl,oM,zeN oM hQl,λ L hL=>?_,hOC.join.perm zp,?_,vq0,vq1 h0,vq1 h1,vq1 h2,hL,hK5⟩
  ·rcases yai.1 hL with hL|hL
   ·exact hsorted L (by simp[hL])
   ·rw[yae.1 hL];exact zs
  ·refine List.Perm.trans ?_ hperm;have e1:(Q++ [Z]).flatten=Q.flatten++Z:=by simp
   rw[e1,ybl];exact ybf _ zp
 intro hge;simp only[ydF]at hge;repeat refine c_r ?_
 exact zap (by simp) rfl ⟨⟨Ls.flatten,hperm,zeO hrem hsorted oM,hL⟩,hK2⟩
theorem zdw{U:α->Prop}{cf:α->α->Int}{lt older:α->α->Prop}{g:FuncId}{cb:List Value}(hc:Cmp w0 enc U cf g cb)(ho:zes cf lt older)(hb:w0.heap.size<=b)
  {D:List α} {N:Nat} (hN:D.length=N) (hU:∀x∈D,U x) (hOD:D.Pairwise older) (hD:Lies enc w b cap D) (hlen:N<=100000000000) (hE:Ext w0 w):
  Fn prog 140 #[zbt b N cap,cmpV g cb] w (λ _ w'=>(∃Z,Z.Perm D/\Z.Pairwise lt/\Lies enc w' b cap Z)/\Keep (λ i=>i=b) w w'):=by
 have h:=zgc (w:=w) hc ho hb hN hU hOD hD hlen hE;unfold zbt at h ⊢;refine enx func140 ntmps140 ?_;refine rqz ?_;intro gd K hgd hK;refine sg0 ?_;refine yfm h ?_;rintro _ w1 hr;refine sg0 ?_;refine en hK ?_;exact zap sM rfl hr
end
end S_rec
namespace S_rec
theorem Clone_ok{L:List (List Value)}(hr:RowK 7 w v L)(hk:∀x∈L,x.length=7)(h1:∀x∈L,∀q∈x,one q=true)(hlen:L.length<=10000000000):
  Fn prog 139 #[v] w (λ u w'=>OwnK 7 w.heap.size w' 101 u L/\Ext w w'):=by
 have hr':=hr;obtain⟨a,c,rfl,hc,hl⟩:=hr;refine enx func139 ntmps139 ?_;refine gz0 ?_;refine rq ?_;intro gd K hgd hK;refine sg0 ?_;refine zh5 (by rfl) (by rfl) (by rfl) ?_;refine sg0 ?_;refine en hK ?_;cases a with
 |none=>
  have:L=[]:=by
   cases L with
   |nil=>rfl
   |cons x L=>have:=hl 0 sM;simp[zat,adr]at this
  subst this;refine wc0 ?_ ?_
  ·intro _;refine gz0 ?_;refine rt0 ntmps139 ?_;exact⟨OwnK.nil _ _ _ _,Keep.refl _ _⟩
  ·intro h;cases h
 |some a=>
  refine wc0 ?_ ?_
  ·intro h;cases h
  intro _;refine rqz ?_;intro gd K hgd hK;refine sg0 ?_;refine zj8 (k:=7) (by rfl) (by rfl) (by rfl) (by rfl) ?_;intro w1 hE1 hs1 ho1;refine sg0 ?_;refine zgq (k:=7) (B:=w.heap.size) ho1 (hr'.ext hE1) (by rfl) (by rfl) (by rfl) (by rfl) (by rfl) (by rfl) (by decide) (by rfl) (by rfl) hk h1 (by simpa using by omega) (by decide) oM ?_;intro v' w2 ho2 hE2 _ _ _;refine sg0 ?_;refine en hK ?_;refine rt0 ntmps139 ?_;exact⟨by simpa using ho2,hE2 w hE1 (ynl _)⟩
end S_rec
namespace S_rec
theorem zce(w:World)(cmp:Value):Fn prog 218 #[.slice .none 0 0,vi 0,vi 0,cmp] w (λ _ w'=>w'=w):=by
 refine enx func218 ntmps218 ?_;refine gz0 ?_;refine zan (λ m σ ds v=>ds=[]/\v=w/\σ 8=vi 1/\σ 2=vi 0) 0 ?_ ?_
 ·exact⟨rfl,rfl,by simp only[go_sem];rfl,vq0⟩
 ·rintro m σ ds v ⟨rfl,rfl,h8,h2⟩;refine gz (az2 h8 h2) ?_;refine wc0 ?_ ?_
  ·intro h;exact absurd h (by decide)
  ·intro _;refine cZ ?_;exact zap sM rfl rfl
theorem zfd(w:World)(cmp:Value):Fn prog 180 #[.slice .none 0 0,vi 0,cmp] w (λ _ w'=>w'=w):=by
 refine enx func180 ntmps180 ?_;refine gz0 ?_;refine zan (λ m σ ds v=>ds=[]/\v=w/\σ 6=vi 20/\σ 7=vi 0/\σ 8=vi 20/\σ 0= .slice .none 0 0/\σ 1=vi 0/\σ 2=cmp) 0 ?_ ?_
 ·exact⟨rfl,rfl,vq0,vq0,vq0,vq0,vq0,vq0⟩
 ·rintro m σ ds v ⟨rfl,rfl,h6,h7,h8,h0,h1,h2⟩;refine gz (az2 h8 h1) ?_;refine wc0 ?_ ?_
  ·intro h;exact absurd h (by decide)
  intro _;refine rqz ?_;intro gd K hgd hK;refine sgz (az4 h0 h7 h1 h2) ?_;refine yfm (zce v cmp) ?_;rintro _ w1 hw1;subst hw1;refine sg0 ?_;refine en hK ?_;refine zan (λ m σ ds v=>ds=[]/\v=w1/\σ 6=vi 20/\σ 1=vi 0) 0 ?_ ?_
  ·exact⟨rfl,rfl,vq1 h6,vq1 h1⟩
  ·rintro m3 σ3 ds3 v3 ⟨rfl,rfl,g6,g1⟩;refine gz (az2 g6 g1) ?_;refine wc0 ?_ ?_
   ·intro h;exact absurd h (by decide)
   ·intro _;refine cZ ?_;exact zap sM rfl rfl
theorem zdb(w:World)(cmp:Value):Fn prog 140 #[.slice .none 0 0,cmp] w (λ _ w'=>w'=w):=by
 refine enx func140 ntmps140 ?_;refine rqz ?_;intro gd K hgd hK;refine sg0 ?_;refine yfm (zfd w cmp) ?_;rintro _ w1 hr;refine sg0 ?_;refine en hK ?_;exact zap sM rfl hr
section
variable {α : Type} {enc : α -> List Value}
theorem SortOwn_ok{U:α->Prop}{cf:α->α->Int}{lt older:α->α->Prop}{g:FuncId}{cb:List Value}(hc:Cmp w0 enc U cf g cb)(ho:zes cf lt older)(hB:w0.heap.size<=B)
  {D:List α} (hU:∀x∈D,U x) (hOD:D.Pairwise older) (hD:OwnK 7 B w 101 v (D.map enc)) (hlen:D.length<=100000000000) (hE:Ext w0 w):
  Fn prog 140 #[v,cmpV g cb] w (λ _ w'=>∃Z:List α,Z.Perm D/\Z.Pairwise lt/\OwnK 7 B w' 101 v (Z.map enc)/\Keep (λ i=>some i=v.ownBlock) w w'):=by
 rcases hD.cases with ⟨rfl,h0⟩| ⟨b,cap,rfl,hb,hc2,hm,hSD⟩
 ·have:D=[]:=ybQ.1 h0;subst this;refine yfm (zdb w _) ?_;rintro _ w1 rfl;exact⟨[],List.Perm.refl _,List.Pairwise.nil,OwnK.nil _ _ _ _,Keep.refl _ _⟩
 ·rw[ylm]at hc2 ⊢;refine yfm (zdw (b:=b) (cap:=cap) (lt:=lt) hc ho oM rfl hU hOD hSD hlen hE) ?_;rintro _ w1 ⟨⟨Z,hp,hs,hL⟩,hK⟩;refine⟨Z,hp,hs,?_,?_⟩
  ·have:=OwnK.of_sd (B:=B) hL hb (by rw[ylm,hp.length_eq];exact hc2) hm;rw[ylm,hp.length_eq]at this;exact this
  ·have:(λ i=>some i=(Value.slice (some ⟨b,0,.none⟩) D.length cap).ownBlock)=(λ i=>i=b):=by
    funext i;simp[Value.ownBlock]
   rw[this];exact hK
end
end S_rec
theorem RecAt.len{r:RecL}(h:RecAt w cs r):cs.length=7:=by
 obtain⟨ow,ds,rfl,_,⟨nm,nu,tx,rw',rfl,_⟩⟩:=h.ex
 rfl
theorem RecAt.ones{r:RecL}(h:RecAt w cs r):∀q∈cs,one q=true:=by
 obtain⟨ow,ds,rfl,⟨o1,o2,rfl,_⟩,⟨nm,nu,tx,rw',rfl,⟨_,⟨o3,o4,rfl,_⟩,_⟩,⟨o5,o6,rfl,_⟩,⟨o7,o8,rfl,_⟩,⟨o9,o10,rfl,_⟩⟩⟩:=h.ex;intro q hq;simp at hq;rcases hq with rfl|rfl|rfl|rfl|rfl|rfl|rfl<;>rfl
abbrev RI:=(List Value×RecL)×Nat
def encR(x:RI):List Value:=x.1.1
def ziH(a b:RI):Prop:=a.2<b.2
def ltR(a b:RI):Prop:=zaE a.1.2 b.1.2<0\/(zaE a.1.2 b.1.2=0/\a.2<b.2)
def cfR(a b:RI):Int:=zaE a.1.2 b.1.2
def UR(w:World)(x:RI):Prop:=RecAt w x.1.1 x.1.2/\zbL x.1.2
theorem cmp_R(hE0:Ext w0 w):S_rec.Cmp w encR (UR w0) cfR 100 []:=
 ⟨by decide,λ A x y hE hx hy=>ze7 A _ _ _ _ (hx.1.ext (hE0.trans hE)) (hy.1.ext (hE0.trans hE)) hx.2 hy.2⟩
theorem older_R:zes cfR ltR ziH:=by
 refine⟨fun {a b c} h1 h2=>?_,fun {x y} ho h=> .inl h,fun {x y} ho h=>?_⟩
 ·rcases h1 with h1| ⟨h1,g1⟩<;>rcases h2 with h2| ⟨h2,g2⟩
  ·exact .inl (cpr_R.trans h1 h2)
  ·exact .inl (by rw[←cpr_R.eqr h2];exact h1)
  ·exact .inl (by rw[cpr_R.eql h1];exact h2)
  ·exact .inr ⟨by rw[cpr_R.eql h1];exact h2,oM⟩
 ·have:=cpr_R.neg x.1.2 y.1.2;have h':¬zaE y.1.2 x.1.2<0:=h;by_cases h0:zaE x.1.2 y.1.2=0
  ·exact .inr ⟨h0,ho⟩
  ·exact .inl oM
def zeroR:List Value:=[.slice .none 0 0,v32 0,vi 0,.slice .none 0 0,.slice .none 0 0,.slice .none 0 0,.slice .none 0 0]
theorem zmy(w:World):SD 7 (w.alloc (.cells #[.slice .none 0 0,v32 0,vi 0,.slice .none 0 0,.slice .none 0 0,.slice .none 0 0,.slice .none 0 0] 101 (0,0))) w.heap.size 101 1 [zeroR]:=
 ⟨⟨_,[],zam _ _,rfl,rfl⟩,λ x h=>(by rw[yae.1 h];rfl),λ x h v hv=>(by rw[yae.1 h]at hv;simp[zeroR]at hv;rcases hv with rfl|rfl|rfl|rfl<;>rfl)⟩
def zfF(O:List RecL)(r:RecL):Bool:=match O.getLast? with
 |some x=>decide (zaE x r=0)
 | .none=>false
theorem zfR{α:Type}{cf:α->α->Int}{jn:α->α->α}(hc:Cpr cf){O':List α}{z r:α}(hs:(O'++ [z]).Pairwise (λ a b=>cf a b<0))(hle:¬0<cf z r):
  putC cf jn r (O'++ [z])=if cf z r=0 then O'++ [jn z r] else O'++ [z,r]:=by
 refine ziB (λ y hy=>?_) hle;have h1:=(yap.1 hs).2.2 y hy z sM;by_cases h0:cf z r=0
 ·rw[←hc.eqr h0];exact h1
 ·exact hc.trans h1 oM
theorem recs_set{LO:List (List Value)}{O':List RecL}{z m:RecL}{X:List Value}(hj:O'.length=j)(hl:LO.length=j+1)
  (h:∀q (h:q<LO.length) (h':q<(O'++ [z]).length),RecAt w LO[q] (O'++ [z])[q]) (hX:RecAt w X m):
  ∀q (h:q<(LO.set j X).length) (h':q<(O'++ [m]).length),RecAt w (LO.set j X)[q] (O'++ [m])[q]:=by
 intro q h1 h2;by_cases hq:q=j
 ·subst hq;have e1:(LO.set q X)[q]=X:=sM;have e2:(O'++ [m])[q]=m:=by simp[←hj]
  rw[e1,e2];exact hX
 ·have hq2:q<O'.length:=by simp at h2;omega
  have e1:(LO.set j X)[q]=LO[q]'(oM):=ycE oM _;have e2:(O'++ [m])[q]=O'[q]:=yaK hq2;have e3:(O'++ [z])[q]'(by simp;omega)=O'[q]:=yaK hq2;rw[e1,e2,←e3];exact h q oM (by simp;omega)
theorem zmL{LO:List (List Value)}{O:List RecL}{m:RecL}{X:List Value}(hl:LO.length=O.length)
  (h:∀q (h:q<LO.length) (h':q<O.length),RecAt w LO[q] O[q]) (hX:RecAt w X m):
  ∀q (h:q<(LO++ [X]).length) (h':q<(O++ [m]).length),RecAt w (LO++ [X])[q] (O++ [m])[q]:=by
 intro q h1 h2;by_cases hq:q<LO.length
 ·rw[yaK hq,yaK oM];exact h q hq oM
 ·have hq1:q=LO.length:=by simp at h1;omega
  have e1:(LO++ [X])[q]=X:=by simp[hq1]
  have e2:(O++ [m])[q]=m:=by simp[hq1,hl]
  rw[e1,e2];exact hX
theorem few_ok(w0 w:World)(hE0:Ext w0 w){R:List RecL}(hR:Rows 7 (RecAt w0) w v R)(hok:∀r∈R,zbL r)(hlen:R.length<=1000000000):
  Fn prog 99 #[v,.func (.func 100) #[] #[],.func (.func 101) #[] #[]] w (λ u w'=>Rows 7 (RecAt w0) w' u (zbd R)/\Ext w w'/\BlkB w.heap.size w' u):=by
 obtain⟨L,hrow,hl,hat⟩:=hR;have hk:∀x∈L,x.length=7:=λ x hx=>by
  obtain⟨i,hi,rfl⟩:=yaG hx;exact(hat i hi oM).len
 have h1:∀x∈L,∀q∈x,one q=true:=λ x hx=>by
  obtain⟨i,hi,rfl⟩:=yaG hx;exact(hat i hi oM).ones
 obtain⟨D,hD⟩:∃D:List RI,D=(L.zip R).zipIdx:=⟨_,rfl⟩;have hDe:D.map encR=L:=by
  rw[hD];show(List.zipIdx (L.zip R)).map (Prod.fst∘Prod.fst)=L;rw[←ycq,ycG,List.map_fst_zip oM]
 have hDr:D.map (λ x=>x.1.2)=R:=by
  rw[hD];show(List.zipIdx (L.zip R)).map (Prod.snd∘Prod.fst)=R;rw[←ycq,ycG,List.map_snd_zip oM]
 have hDl:D.length=R.length:=by rw[←hDr,ylm]
 have hDo:D.Pairwise ziH:=by
  rw[hD,ycb];intro i j hi hj hij;simp[ziH,hij]
 have hDU:∀x∈D,UR w0 x:=λ x hx=>by
  rw[hD]at hx;obtain⟨i,hi,rfl⟩:=yaG hx;have hi':i<R.length:=by simp at hi;omega
  have hi2:i<L.length:=oM;simp only[List.getElem_zipIdx,List.getElem_zip,UR];exact⟨hat i hi2 hi',hok _ (yac hi')⟩
 refine enx func99 ntmps99 ?_;refine gz0 ?_;refine rq ?_;intro gd K hgd hK;try simp only[go_sem]
 refine yfm (S_rec.Clone_ok hrow hk h1 oM) ?_;rintro vs1 w1 ⟨ho1,hE1⟩;try simp only[go_sem]
 apply hK;refine rqz ?_;intro gd K hgd hK;try simp only[go_sem]
 rw[←hDe]at ho1;refine yfm (S_rec.SortOwn_ok (w0:=w) (cb:=[]) (cmp_R hE0) older_R (ynl _) hDU hDo ho1 oM hE1) ?_;rintro _ w2 ⟨Z,hp,hs,ho2,hK2⟩;try simp only[go_sem]
 refine en hK ?_;have hE2:Ext w w2:=ykt hE1 rfl (λ i hi=>by have:=(ho1.ge hi).1;omega) hK2;have hE02:=hE0.trans hE2;have hUZ:∀x∈Z,UR w0 x:=λ x hx=>hDU x (hp.mem_iff.1 hx);have hZl:=hp.length_eq;obtain⟨aS,cS,rfl,hcs,hget⟩:=ho2.rowK;refine gz0 ?_;rw[ylm]at hcs;simp only[ylm];refine zan (λ m σ ds v=>ds=[]/\∃(i:Nat) (vO:Value) (LO:List (List Value)) (O:List RecL),i+m=Z.length/\σ 18=vi i/\σ 17=vi Z.length/\σ 16= .slice aS Z.length cS/\σ 7=vO/\σ 1= .func (.func 100) #[] #[]/\σ 2= .func (.func 101) #[] #[]/\
  OwnK 7 w2.heap.size v 101 vO LO/\LO.length=O.length/\(∀j (h:j<LO.length) (h':j<O.length),RecAt w0 LO[j] O[j])/\(∀r∈O,zbL r)/\O.length<=i/\O=zbR zaE minT (λ x:RI=>x.1.2) (Z.take i) []/\Ext w2 v/\O.Pairwise (λ a b=>zaE a b<0)/\(∀o∈O,∀z∈Z.drop i,¬0<zaE o z.1.2)) Z.length ?_ ?_
 ·refine⟨rfl,0,.slice .none 0 0,[],[],oM,vr0,vq0,vq0,vq0,vq0,vq0,OwnK.nil _ _ _ _,rfl,λ j h=>absurd h (by simp),λ r h=>absurd h (by simp),by simp,rfl,Keep.refl _ _,List.Pairwise.nil,λ o h=>absurd h (by simp)⟩
 rintro m σ ds v ⟨rfl,i,vO,LO,O,him,h18,h17,h16,h7,hs1,hs2,hO,hOl,hOat,hOok,hOi,hOf,hE3,hOs,hOle⟩;refine gz (az2 h18 h17) ?_;refine wc0 ?_ ?_
 ·intro hlt;simp only[ydT]at hlt;have hiZ:i<Z.length:=oM;have hgi:=zac hE3 (hget i (by simpa using hiZ));have hi0:=cj i;have hi1:(i:Int)<(Z.length:Int):=oM;obtain⟨xS,rfl⟩:=yxs (zak hgi);obtain⟨r,hr⟩:∃r,Z[i]=r:=⟨_,rfl⟩;have hUr:UR w0 r:=hr▸hUZ _ (yac hiZ);have hgr:zat v (adr (some xS) (i*7)) 7=some r.1.1:=by rw[hgi,yaA,hr];rfl
  refine rqz ?_;intro gd K hgd hK;refine sgz (az5 h18 h16 hi0 hi1 hgr) ?_;refine SD.set (P:=prog) (t:=101) (zmy v) (j:=0) (by simp) hUr.1.len hUr.1.ones rfl rfl ?_;intro v1 hvs1 hL1 hk1;have hX1:=yea v (.cells #[.slice .none 0 0,v32 0,vi 0,.slice .none 0 0,.slice .none 0 0,.slice .none 0 0,.slice .none 0 0] 101 (0,0));have hEv:Ext v v1:=ykt hX1 rfl (λ i hi=>oM) hk1;have hvsz:v1.heap.size=v.heap.size+1:=by rw[hvs1];exact zai _ _
  clear hk1 hX1 hvs1;try simp only[go_sem]
  apply hK;have hE4:=hE3.trans hEv;have hO1:=hO.ext hEv;have hg9:=hL1.get (j:=0) (by simp);have hsO:=hO.rowK;obtain⟨aO,cO,hvO,hcO,hgO⟩:=hO1.rowK;rw[hOl]at hvO;refine gz (az2 h7 hvO) ?_;refine zaw (Q:=λ e σ' ds' v'=>e= .normal/\ds'=[]/\σ' 36= .bool (zfF O r.1.2)/\σ' 18=vi i/\σ' 17=vi Z.length/\σ' 16= .slice (some xS) Z.length cS/\σ' 7= .slice aO O.length cO/\σ' 1= .func (.func 100) #[] #[]/\σ' 2= .func (.func 101) #[] #[]/\
   σ' 9= .pointer (some ⟨v.heap.size,0,.none⟩)/\σ' 10=vi O.length/\Ext v1 v') ?_ ?_
  ·rcases ybk O with hO0| ⟨O',z,hO0⟩
   ·have hn:¬((0:Int)<(O.length:Int)):=by rw[hO0];simp
    have hal:zfF O r.1.2=false:=by rw[hO0];rfl
    refine zaF (λ _=>false) [(0,true),(1,true),(2,true),(3,true),(4,true),(5,true),(6,true),(7,true),(8,true),(9,true),(10,false),(11,true),(12,true)] NoS mixed kR ?_;intro gd K x hgd hx hxe hK;clear hxe;have hg2:=gk 2 26 hgd rfl;simp (disch:=first|omega|assumption|rfl) only[go_sem,h18,h17,h16,h7,hvO,hs1,hs2,yef hn,↓hg2];apply hK;exact⟨rfl,rfl,by rw[hal];simp only[go_sem],vq1 h18,vq1 h17,vq1 h16,vq2 h7 hvO,vq1 hs1,vq1 hs2,vq0,vq0,hx⟩
   ·rw[ybq]at hO0;obtain⟨j,hj⟩:∃j,O'.length=j:=⟨_,rfl⟩;have hOj:O.length=j+1:=by rw[hO0];simp[hj]
    have hn:decide ((0:Int)<((j+1:Nat):Int))=true:=yet oM;have hs:((j+1:Nat):Int) - 1=(j:Int):=oM;have hj0:=cj j;have hj1:(j:Int)<((j+1:Nat):Int):=oM;have hal:zfF O r.1.2=decide (zaE z r.1.2=0):=by unfold zfF;rw[hO0];simp
    have hgj:=hgO j oM;have hRj:=hOat j oM oM;have hxj:O[j]'(oM)=z:=by simp only[hO0,←hj];simp
    rw[hxj]at hRj;have hokx:zbL z:=hOok z (by rw[hO0];simp);obtain⟨xO,rfl⟩:=yxs (zak hgj);obtain⟨cx,hcx⟩:∃cx,LO[j]'(oM)=cx:=⟨_,rfl⟩;rw[hcx]at hgj hRj;rw[hOj]at hvO ⊢;refine zaF (λ _=>false) [(0,true),(1,true),(2,true),(3,true),(4,true),(5,true),(6,true),(7,true),(8,true),(9,true),(10,false),(11,true),(12,true)] NoS mixed kR ?_;intro gd K x hgd hx hxe hK;clear hxe;have hg2:=gk 2 26 hgd rfl;have d1:=zac hx hgj;have d2:=zac hx hg9;simp (disch:=first|omega|assumption|rfl) only[go_sem,h18,h17,h16,h7,hvO,hs1,hs2,hn,hs,hj0,hj1,d1,d2,hOj,↓hg2];refine yfm (ze7 x cx r.1.1 z r.1.2 (hRj.ext ((hE02.trans hE4).trans hx)) (hUr.1.ext ((hE02.trans hE4).trans hx)) hokx hUr.2) ?_;rintro _ x2 ⟨rfl,hx2⟩;refine⟨.inr hx2,?_⟩;simp (disch:=first|omega|assumption|rfl) only[go_sem,↓hg2];apply hK;exact⟨rfl,rfl,by rw[hal];simp only[go_sem],vq1 h18,vq1 h17,vq1 h16,vq2 h7 hvO,vq1 hs1,vq1 hs2,vq0,vq0,hx.trans hx2⟩
  rintro _ σ2 _ v2 ⟨rfl,rfl,g36,g18,g17,g16,g7,gs1,gs2,g9,g10,hE5⟩;have hE6:=hE4.trans hE5;have hO2:=hO1.ext hE5;have hg92:=zac hE5 hg9;have hi1':=ci i;have htk:Z.take (i+1)=Z.take i++ [r]:=by rw[zal hiZ,hr]
  have hf1:zbR zaE minT (λ x:RI=>x.1.2) (Z.take (i+1)) []=putC zaE minT r.1.2 O:=by
   rw[htk,hOf];unfold zbR;rw[ybI];rfl
  have hdr:Z.drop i=r::Z.drop (i+1):=by rw[yag hiZ,hr]
  have hn1:(putC zaE minT r.1.2 O).Pairwise (λ a b=>zaE a b<0):=zcd cpr_R znp hOs;have hn2:∀o∈putC zaE minT r.1.2 O,∀z∈Z.drop (i+1),¬0<zaE o z.1.2:=by
   refine zc0 (Q:=λ o=>∀z∈Z.drop (i+1),¬0<zaE o z.1.2) (λ x hx h0 z hz=>?_) (λ z hz=>?_) (λ o ho z hz=>hOle o ho z (by rw[hdr];exact yak _ hz))
   ·have e1:zaE (minT x r.1.2) z.1.2=zaE x z.1.2:=rfl;rw[e1];exact hx z hz
   ·have h3:=List.Pairwise.sublist (ydm i Z) hs;rw[hdr]at h3;have h4:=(yaM.1 h3).1 z hz;rcases h4 with h4|h4
    ·omega
    ·omega
  have hn3:∀o∈putC zaE minT r.1.2 O,zbL o:=zc0 (λ x hx _=>⟨hx.lb,hx.len,hx.dat⟩) hUr.2 hOok;repeat refine c_r ?_
  refine zaG (t:=zfF O r.1.2) (by simp only[go_sem,g36]) ?_ ?_
  ·intro hal;rcases ybk O with hO0| ⟨O',z,hO0⟩
   ·rw[hO0]at hal;simp[zfF]at hal
   rw[ybq]at hO0;have hz0:zaE z r.1.2=0:=by unfold zfF at hal;rw[hO0]at hal;simpa using hal
   obtain⟨j,hj⟩:∃j,O'.length=j:=⟨_,rfl⟩;have hOj:O.length=j+1:=by rw[hO0];simp[hj]
   have hs:((j+1:Nat):Int) - 1=(j:Int):=oM;have hj0:=cj j;have hj1:(j:Int)<((j+1:Nat):Int):=oM;have hRj:=hOat j oM oM;have hxj:O[j]'(oM)=z:=by simp only[hO0,←hj];simp
   rw[hxj]at hRj;have hokz:zbL z:=hOok z (by rw[hO0];simp);obtain⟨cx,hcx⟩:∃cx,LO[j]'(oM)=cx:=⟨_,rfl⟩;rw[hcx]at hRj;rw[hOj]at hvO g10 g7;rcases hO2.cases with ⟨hv0,h0⟩| ⟨b,cap,hvb,hbB,hbc,hbm,hSD⟩
   ·rw[h0]at hOl;simp at hOl;omega
   rw[hvO,hOl,hOj]at hvb;have hao:aO=some ⟨b,0,.none⟩:=by injection hvb
   have hcap:cO=cap:=by injection hvb
   subst hao hcap;have hdj:=hSD.get (j:=j) oM;rw[hcx]at hdj;repeat refine c_r ?_
   refine zaF (λ i=>i==12) [(0,true),(1,true),(2,true),(3,true),(4,true),(5,true),(6,true),(7,true),(8,true),(9,true),(10,false),(11,true),(12,false)] NoS mixed kR ?_;intro gd K x hgd hx hxe hK;clear hxe;have d1:=zac hx hdj;have d2:=zac hx hg92;refine sgz (az2 (az7 g7 g10 gs2 g9 hs hj0 hj1) (az2 d1 d2)) ?_;refine yfm (zkc x cx r.1.1 z r.1.2 (hRj.ext ((hE02.trans hE6).trans hx)) (hUr.1.ext ((hE02.trans hE6).trans hx))) ?_;rintro _ v3 ⟨rfl,hE7⟩;refine⟨.inr hE7,?_⟩;refine sgz (az5 g7 g10 hs hj0 hj1) ?_;have hSD3:=(hSD.ext hx).ext hE7;have hRm:=hRj.minT (b:=r.1.2);refine SD.set (P:=prog) (t:=101) hSD3 (j:=j) oM hRm.len hRm.ones rfl rfl ?_;intro v4 hv4 hL4 hk4;refine⟨.inl rfl,?_⟩;refine sg0 ?_;apply hK;have hE8:Ext w2 v4:=ykt ((hE6.trans hx).trans hE7) rfl (λ i hi=>oM) hk4;refine gz (az2 g18 hi1') ?_;have hO4:=OwnK.of_sd (B:=w2.heap.size) hL4 hbB (by rw[ybA];exact hbc) hbm;have hLl:LO.length=j+1:=oM;rw[ybA,hLl]at hO4;have hput:putC zaE minT r.1.2 O=O'++ [minT z r.1.2]:=by
    rw[hO0]at hOs hOle ⊢;rw[zfR cpr_R hOs oM,if_pos hz0]
   rw[hput]at hn1 hn2 hn3;subst hO0;refine⟨m - 1,oM,rfl,i+1,.slice (some ⟨b,0,.none⟩) (j+1) cO,_,O'++ [minT z r.1.2],oM,vq0,vq1 g17,vq1 g16,vq1 g7,by simp only[go_sem,gs1],by simp only[go_sem,gs2],hO4,by simp[hLl,hj],recs_set hj hLl hOat hRm,hn3,by simp at hOi ⊢;omega,by rw[hf1,hput],hE8,hn1,hn2⟩
  ·intro hal;have hput:putC zaE minT r.1.2 O=O++ [r.1.2]:=by
    rcases ybk O with hO0| ⟨O',z,hO0⟩
    ·rw[hO0];rfl
    ·rw[ybq]at hO0;have hz0:¬zaE z r.1.2=0:=by unfold zfF at hal;rw[hO0]at hal;simpa using hal
     have hle:=hOle z (by rw[hO0];simp) r (by rw[hdr];simp);rw[hO0]at hOs ⊢;rw[zfR cpr_R hOs hle,if_neg hz0];simp
   rw[hput]at hn1 hn2 hn3;rw[hvO]at hO2;refine rqz ?_;intro gd K hgd hK;refine sgz (az3 g7 g9 hg92) ?_;refine zj7 (k:=7) (by rfl) (by rfl) (by rfl) (by rfl) hUr.1.len (by decide) hUr.1.ones ?_;intro x1 hX1 hXs hXo;try simp only[go_sem]
   refine zgq (k:=7) (B:=w2.heap.size) (hO2.ext hX1) hXo.rowK (by rfl) (by rfl) (by rfl) (by rfl) (by rfl) (by rfl) (by decide) (by rfl) (by rfl) hXo.len hXo.ones (by simp;omega) (by decide) (hE6.trans hX1).size ?_;intro vO' x2 hO3 hE7 _ _ _;try simp only[go_sem]
   apply hK;refine gz (az2 g18 hi1') ?_;refine⟨m - 1,oM,rfl,i+1,vO',_,O++ [r.1.2],oM,vq0,vq1 g17,vq1 g16,vq0,by simp only[go_sem,gs1],by simp only[go_sem,gs2],hO3,by simp[hOl],zmL hOl hOat hUr.1,hn3,by simp;omega,by rw[hf1,hput],hE7 w2 (hE6.trans hX1) (ynl _),hn1,hn2⟩
 ·intro hlt;simp only[ydF]at hlt;have hiZ:i=Z.length:=oM;refine rqz ?_;intro gd K hgd hK;refine sgz h7 ?_;obtain⟨aO,cO,hvO,hcO,hgO⟩:=hO.rowK;have hblk:BlkB w2.heap.size v vO:=Owns.blk (C:=RecAt w0) (xs:=O) ⟨LO,hO,hOl,hOat⟩;rw[hvO]at hblk;rw[hvO];refine yfm (P_rr.Clip_ok hcO) ?_;rintro _ v1 ⟨rfl,hv1⟩;try simp only[go_sem]
  refine en hK ?_;have hfin:O=zbd R:=by
   rw[hOf,hiZ,yaT,zdR (jn:=minT) cpr_R znp (lt:=ltR) (older:=ziH) (λ h=>h.imp id (λ h=>h.2)) (fun {a b} h h'=>by unfold ziH at h h';omega) D Z [] hDo hs hp List.Pairwise.nil];unfold zbd zbR;rw[←hDr,List.foldl_map];rfl
  refine rt0 ntmps99 ?_;rw[hv1];rw[←hfin];exact⟨⟨LO,⟨aO,LO.length,rfl,ynl _,hgO⟩,hOl,hOat⟩,hE2.trans hE3,hblk.same.mono hE2.size⟩
theorem zld(w0 w:World)(hE0:Ext w0 w){R:List RecL}(hR:Rows 7 (RecAt w0) w v R)(hok:∀r∈R,zbL r)(hlen:R.length<=1000000000):
  Fn prog 64 #[v] w (λ u w'=>Rows 7 (RecAt w0) w' u (zbd R)/\Ext w w'/\BlkB w.heap.size w' u):=by
 refine enx func64 ntmps64 ?_;refine gz0 ?_;refine rq ?_;intro gd K hgd hK;refine sg0 ?_;refine yfm (few_ok w0 w hE0 hR hok hlen) ?_;rintro u w1 ⟨h1,hE1,hb⟩;refine sg0 ?_;refine en hK ?_;refine rt0 ntmps64 ?_;exact⟨h1,hE1,hb⟩
theorem zfQ(a b:Int):sgn (a - b)=cmpI a b:=by unfold sgn cmpI;(repeat' split)<;>omega
theorem zbz{a b:Int}:cmpI a b=0↔a=b:=by unfold cmpI;(repeat' split)<;>omega
theorem zhT{α:Type}{cf:α->α->Int}{a b:List α}(ha:i<=a.length)(hb:i<=b.length)(h:¬(i<a.length/\i<b.length)):lexC cf (a.drop i) (b.drop i)=cmpI a.length b.length:=by
 rw[zdr (by
  rcases ydh i a.length with h1|h1
  ·exact .inr (ybu oM)
  ·exact .inl (ybu h1))]
 rw[ybb,ybb];unfold cmpI
 (repeat' split)<;>omega
theorem zoh(w:World)(a b:Int):Fn prog 189 #[vi a,vi b] w (λ v w'=>v=vi (cmpI a b)/\Ext w w'):=by
 refine enx func189 ntmps189 ?_;refine gz0 ?_;refine wc0 ?_ ?_
 ·intro ht;simp only[ydT]at ht;refine gz0 ?_;refine rt0 ntmps189 ?_;exact⟨by rw[cmpI,if_pos ht],Keep.refl _ _⟩
 ·intro hf;simp only[ydF]at hf;refine gz0 ?_;refine wc0 ?_ ?_
  ·intro ht;simp only[ydT]at ht;refine gz0 ?_;refine rt0 ntmps189 ?_;exact⟨by rw[cmpI,if_neg hf,if_pos ht],Keep.refl _ _⟩
  ·intro hf2;simp only[ydF]at hf2;refine gz0 ?_;refine rt0 ntmps189 ?_;exact⟨by rw[cmpI,if_neg hf,if_neg hf2],Keep.refl _ _⟩
theorem zg0(w:World)(ca cb:List Value)(a b:DatL)(ha:DatAt w ca a)(hb:DatAt w cb b)(hoa:DatOk a)(hob:DatOk b):
  Fn prog 146 #[.agg ca.toArray,.agg cb.toArray] w (λ v w'=>v=vi (cmpD a b)/\Ext w w'):=by
 obtain⟨nm,nu,tx,rw',rfl,a1,a2,a3,a4⟩:=ha.ex;obtain⟨nm2,nu2,tx2,rw2,rfl,b1,b2,b3,b4⟩:=hb.ex;obtain⟨vn,⟨sn,cn,rfl,hcn,hgn⟩,hvn,hrn⟩:=a1;obtain⟨vn2,⟨sn2,cn2,rfl,hcn2,hgn2⟩,hvn2,hrn2⟩:=b1;obtain⟨su,cu,rfl,hcu,hgu⟩:=a2;obtain⟨su2,cu2,rfl,hcu2,hgu2⟩:=b2;obtain⟨st,ct,rfl,hct,hgt⟩:=a3;obtain⟨st2,ct2,rfl,hct2,hgt2⟩:=b3;obtain⟨sr,cr,rfl,hcr,hgr⟩:=a4;obtain⟨sr2,cr2,rfl,hcr2,hgr2⟩:=b4;have hnn:=hoa.nn;have hnn2:=hob.nn;have hnu:=hoa.nu;have hnu2:=hob.nu;have hnt:=hoa.nt;have hnt2:=hob.nt;rw[hvn]at hcn ⊢;rw[hvn2]at hcn2 ⊢;simp only[ylm]at hcu hgu hcu2 hgu2 hct hgt hct2 hgt2 hcr hgr hcr2 hgr2 ⊢;refine enx func146 ntmps146 ?_;refine gz0 ?_;obtain⟨OA,hOA⟩:∃OA:Obj,(.cells #[vi a.ty,.slice sn a.names.length cn,.slice su a.nums.length cu,.slice st a.texts.length ct,.slice sr a.raw.length cr] 164 (0,0))=OA:=⟨_,rfl⟩;obtain⟨OB,hOB⟩:∃OB:Obj,(.cells #[vi b.ty,.slice sn2 b.names.length cn2,.slice su2 b.nums.length cu2,.slice st2 b.texts.length ct2,.slice sr2 b.raw.length cr2] 164 (0,0))=OB:=⟨_,rfl⟩;simp only[hOA,hOB];have hal:=zd1 w OA OB;rw[show (w.alloc OA).heap.size=w.heap.size+1 from zai _ _];revert hal;generalize (w.alloc OA).alloc OB=w1;rintro⟨hE1,hs1,hA,hB⟩;subst hOA hOB
 have rd:∀x,Ext w1 x->zad x (some ⟨w.heap.size,0,.none⟩)=some (vi a.ty)/\zad x (some ⟨w.heap.size,1,.none⟩)=some (.slice sn a.names.length cn)/\zad x (some ⟨w.heap.size,2,.none⟩)=some (.slice su a.nums.length cu)/\zad x (some ⟨w.heap.size,3,.none⟩)=some (.slice st a.texts.length ct)/\zad x (some ⟨w.heap.size,4,.none⟩)=some (.slice sr a.raw.length cr):=
  λ x hx=>⟨zaa hx (zab hA rfl),zaa hx (zab hA rfl),zaa hx (zab hA rfl),zaa hx (zab hA rfl),zaa hx (zab hA rfl)⟩
 have rd2:∀x,Ext w1 x->zad x (some ⟨w.heap.size+1,0,.none⟩)=some (vi b.ty)/\zad x (some ⟨w.heap.size+1,1,.none⟩)=some (.slice sn2 b.names.length cn2)/\zad x (some ⟨w.heap.size+1,2,.none⟩)=some (.slice su2 b.nums.length cu2)/\zad x (some ⟨w.heap.size+1,3,.none⟩)=some (.slice st2 b.texts.length ct2)/\zad x (some ⟨w.heap.size+1,4,.none⟩)=some (.slice sr2 b.raw.length cr2):=
  λ x hx=>⟨zaa hx (zab hB rfl),zaa hx (zab hB rfl),zaa hx (zab hB rfl),zaa hx (zab hB rfl),zaa hx (zab hB rfl)⟩
 clear hA hB;obtain⟨p0,p1,p2,p3,p4⟩:=rd w1 ykr;obtain⟨q0,q1,q2,q3,q4⟩:=rd2 w1 ykr;refine rq ?_;intro gd K hgd hK;refine sgz (az3 p0 q0 yad) ?_;apply hK;refine wcz ?_ ?_
 ·intro hne;simp only[yao,ydF]at hne;refine rqz ?_;intro gd K hgd hK;refine sgz (az3 p0 q0 yad) ?_;refine yfm (zoh _ _ _) ?_;rintro _ w2 ⟨rfl,hE2⟩;try simp only[go_sem]
  refine en hK ?_;refine rt0 ntmps146 ?_;exact⟨by simp only[cmpD,orI];rw[if_neg (λ h=>hne (zbz.1 h))],hE1.trans hE2⟩
 intro heq;simp only[yaw,ydT]at heq;have hz0:=zbz.2 heq;refine gz0 ?_;refine zan (λ m σ ds v=>ds=[]/\∃i:Nat,i+m=a.names.length/\i<=b.names.length/\σ 5=vi i/\σ 2= .pointer (some ⟨w.heap.size,0,.none⟩)/\σ 3= .pointer (some ⟨w.heap.size+1,0,.none⟩)/\Ext w1 v/\lexC zc8 a.names b.names=lexC zc8 (a.names.drop i) (b.names.drop i)) a.names.length ?_ ?_
 ·exact⟨rfl,0,oM,oM,vr0,vq0,vq0,Keep.refl _ _,rfl⟩
 rintro m σ ds v ⟨rfl,i,him,hib,h5,h2,h3,hEv,hinv⟩;obtain⟨p0,p1,p2,p3,p4⟩:=rd v hEv;obtain⟨q0,q1,q2,q3,q4⟩:=rd2 v hEv;repeat refine c_r ?_
 refine zaw (Q:=λ e σ' ds' v'=>e= .normal/\ds'=[]/\v'=v/\σ' 5=vi i/\σ' 2= .pointer (some ⟨w.heap.size,0,.none⟩)/\σ' 3= .pointer (some ⟨w.heap.size+1,0,.none⟩)/\σ' 31= .bool (decide (i<a.names.length/\i<b.names.length))) ?_ ?_
 ·refine rq ?_;intro gd K hgd hK;have hg5:=gk 5 25 hgd rfl;by_cases c1:(i:Int)<(a.names.length:Int)
  ·try simp (disch:=first|omega|assumption|rfl) only[go_sem,h5,h2,h3,p1,p2,p3,q1,q2,q3,yn0,yet c1,↓hg5]
   apply hK;refine⟨rfl,rfl,rfl,vq1 h5,vq1 h2,vq1 h3,?_⟩;rw[show decide (i<a.names.length/\i<b.names.length)=decide ((i:Int)<(b.names.length:Int)) from decide_eq_decide.2 ⟨λ h=>oM,λ h=>⟨oM,oM⟩⟩];simp only[go_sem]
  ·try simp (disch:=first|omega|assumption|rfl) only[go_sem,h5,h2,h3,p1,p2,p3,q1,q2,q3,yn0,yef c1,↓hg5]
   apply hK;refine⟨rfl,rfl,rfl,vq1 h5,vq1 h2,vq1 h3,?_⟩;rw[show decide (i<a.names.length/\i<b.names.length)=false from yef (λ h=>c1 oM)];simp only[go_sem]
 clear h5 h2 h3;rintro _ σ1 _ v1 ⟨rfl,rfl,hv1,h5,h2,h3,hsc⟩;rw[hv1];clear hv1 v1;repeat refine c_r ?_
 refine zaG (t:=decide (i<a.names.length/\i<b.names.length)) ((vq1 hsc)) ?_ ?_
 ·intro hlt;simp only[ydT]at hlt;have hi0:=cj i;have hia:(i:Int)<(a.names.length:Int):=oM;have hib2:(i:Int)<(b.names.length:Int):=oM;have hi1':=ci i;have hstep:=zdh (cf:=zc8) hlt.1 hlt.2;repeat refine c_r ?_
  have d1:=hgn i oM;have d2:=hgn2 i oM;obtain⟨xa,rfl⟩:=yxs (zaf d1);obtain⟨xb,rfl⟩:=yxs (zaf d2);refine zaF (λ _=>false) [(0,true),(1,true),(2,true),(3,true),(4,true),(5,true),(6,true),(7,true),(8,true),(9,true),(10,false),(11,true)] NoS mixed kR ?_;intro gd K x hgd hx hxe hK;clear hxe;obtain⟨p0',p1',p2',p3',p4'⟩:=rd x (hEv.trans hx);obtain⟨q0',q1',q2',q3',q4'⟩:=rd2 x (hEv.trans hx);have d1':=zaa ((hE1.trans hEv).trans hx) d1;have d2':=zaa ((hE1.trans hEv).trans hx) d2;refine sgz (az2 (az7 h5 h2 h3 p1' p3' q1' q3') (az6 yn0 hi0 hia hib2 d1' d2')) ?_;refine yfm (zcS _ _ _ _ _ ((hrn i oM hlt.1).ext ((hE1.trans hEv).trans hx)) ((hrn2 i oM hlt.2).ext ((hE1.trans hEv).trans hx)) (hoa.names _ (yac hlt.1)).1 (hob.names _ (yac hlt.2)).1 (by have:=(hoa.names _ (yac hlt.1)).2;omega) (by have:=(hob.names _ (yac hlt.2)).2;omega)) ?_;rintro _ x1 ⟨rfl,hx1⟩;refine⟨.inr hx1,?_⟩;refine sg0 ?_;apply hK;refine gz0 ?_;refine wc0 ?_ ?_
  ·intro hne;simp only[yao,ydF]at hne;refine gz0 ?_;refine rt0 ntmps146 ?_;refine⟨?_,((hE1.trans hEv).trans hx).trans hx1⟩;have hc:zc8 a.names[i] b.names[i]≠0:=hne;simp only[cmpD,orI];rw[if_pos hz0,hinv,hstep,if_neg hc,if_neg hc]
   rfl
  ·intro heq;simp only[yaw,ydT]at heq;have hc:zc8 a.names[i] b.names[i]=0:=heq;refine gz (az2 h5 hi1') ?_;exact⟨m - 1,oM,rfl,i+1,oM,oM,vq0,vq1 h2,vq1 h3,(hEv.trans hx).trans hx1,by rw[hinv,hstep,if_pos hc]⟩
 intro hge;simp only[ydF]at hge;have hend:=zhT (cf:=zc8) (by omega:i<=a.names.length) hib hge;refine rqz ?_;intro gd K hgd hK;refine sgz (az2 (az7 h2 h3 p1 p2 p3 q1 q2) (az2 q3 yn0)) ?_;apply hK;refine wcz ?_ ?_
 ·intro hne;simp only[yao,ydF]at hne;have hne2:¬((a.names.length:Int)=(b.names.length:Int)):=λ h=>hne oM;refine rqz ?_;intro gd K hgd hK;refine sgz (az2 (az7 h2 h3 p1 p2 p3 q1 q2) (az2 q3 yn0)) ?_;refine yfm (zel _ _) ?_;rintro _ x1 ⟨rfl,hx1⟩;try simp only[go_sem]
  refine en hK ?_;refine rt0 ntmps146 ?_;refine⟨?_,(hE1.trans hEv).trans hx1⟩;have hc:lexC zc8 a.names b.names≠0:=by rw[hinv,hend];exact λ h=>hne2 (zbz.1 h)
  rw[zfQ];simp only[cmpD,orI];rw[if_pos hz0,if_neg hc,hinv,hend]
 intro heql;simp only[yaw,ydT]at heql;have heql2:(a.names.length:Int)=(b.names.length:Int):=oM;have hz1:lexC zc8 a.names b.names=0:=by rw[hinv,hend];exact zbz.2 heql2
 have g2:=h2;have g3:=h3;have hEL0:=hEv;clear hsc hinv hend hge him hib;refine gz0 ?_;refine zan (λ m σ ds v=>ds=[]/\∃i:Nat,i+m=a.nums.length/\i<=b.nums.length/\σ 7=vi i/\σ 2= .pointer (some ⟨w.heap.size,0,.none⟩)/\σ 3= .pointer (some ⟨w.heap.size+1,0,.none⟩)/\Ext w1 v/\lexC cmpI a.nums b.nums=lexC cmpI (a.nums.drop i) (b.nums.drop i)) a.nums.length ?_ ?_
 ·exact⟨rfl,0,oM,oM,vr0,vq1 g2,vq1 g3,hEL0,rfl⟩
 rintro m σ ds v ⟨rfl,i,him,hib,h5,h2,h3,hEv,hinv⟩;obtain⟨p0,p1,p2,p3,p4⟩:=rd v hEv;obtain⟨q0,q1,q2,q3,q4⟩:=rd2 v hEv;repeat refine c_r ?_
 refine zaw (Q:=λ e σ' ds' v'=>e= .normal/\ds'=[]/\v'=v/\σ' 7=vi i/\σ' 2= .pointer (some ⟨w.heap.size,0,.none⟩)/\σ' 3= .pointer (some ⟨w.heap.size+1,0,.none⟩)/\σ' 74= .bool (decide (i<a.nums.length/\i<b.nums.length))) ?_ ?_
 ·refine rq ?_;intro gd K hgd hK;have hg5:=gk 5 68 hgd rfl;by_cases c1:(i:Int)<(a.nums.length:Int)
  ·try simp (disch:=first|omega|assumption|rfl) only[go_sem,h5,h2,h3,p1,p2,p3,q1,q2,q3,yn0,yet c1,↓hg5]
   apply hK;refine⟨rfl,rfl,rfl,vq1 h5,vq1 h2,vq1 h3,?_⟩;rw[show decide (i<a.nums.length/\i<b.nums.length)=decide ((i:Int)<(b.nums.length:Int)) from decide_eq_decide.2 ⟨λ h=>oM,λ h=>⟨oM,oM⟩⟩];simp only[go_sem]
  ·try simp (disch:=first|omega|assumption|rfl) only[go_sem,h5,h2,h3,p1,p2,p3,q1,q2,q3,yn0,yef c1,↓hg5]
   apply hK;refine⟨rfl,rfl,rfl,vq1 h5,vq1 h2,vq1 h3,?_⟩;rw[show decide (i<a.nums.length/\i<b.nums.length)=false from yef (λ h=>c1 oM)];simp only[go_sem]
 clear h5 h2 h3;rintro _ σ1 _ v1 ⟨rfl,rfl,hv1,h5,h2,h3,hsc⟩;rw[hv1];clear hv1 v1;repeat refine c_r ?_
 refine zaG (t:=decide (i<a.nums.length/\i<b.nums.length)) ((vq1 hsc)) ?_ ?_
 ·intro hlt;simp only[ydT]at hlt;have hi0:=cj i;have hia:(i:Int)<(a.nums.length:Int):=oM;have hib2:(i:Int)<(b.nums.length:Int):=oM;have hi1':=ci i;have hstep:=zdh (cf:=cmpI) hlt.1 hlt.2;repeat refine c_r ?_
  have d1:=hgu i (by simpa using hlt.1);have d2:=hgu2 i (by simpa using hlt.2);rw[yaA]at d1 d2;obtain⟨xa,rfl⟩:=yxs (zaf d1);obtain⟨xb,rfl⟩:=yxs (zaf d2);have hva:=hoa.nv _ (yac hlt.1);have hvb:=hob.nv _ (yac hlt.2);have ec1:IntKind.i64.wrap a.nums[i]=a.nums[i]:=zkk oM oM;have ec2:IntKind.i64.wrap b.nums[i]=b.nums[i]:=zkk oM oM;refine zaF (λ _=>false) [(0,true),(1,true),(2,true),(3,true),(4,true),(5,true),(6,true),(7,true),(8,true),(9,true),(10,true)] NoS mixed kR ?_;intro gd K x hgd hx hxe hK;clear hxe;obtain⟨p0',p1',p2',p3',p4'⟩:=rd x (hEv.trans hx);obtain⟨q0',q1',q2',q3',q4'⟩:=rd2 x (hEv.trans hx);have d1':=zaa ((hE1.trans hEv).trans hx) d1;have d2':=zaa ((hE1.trans hEv).trans hx) d2;refine sgz (az2 (az7 h5 h2 h3 p2' q2' yn0 hi0) (az4 hia hib2 d1' d2')) ?_;apply hK;refine wcz ?_ ?_
  ·intro hne;simp only[yao,ydF]at hne;have hEx:=hEv.trans hx;clear p0' p1' p2' p3' p4' q0' q1' q2' q3' q4';generalize x=y at*;repeat refine c_r ?_
   refine zaF (λ _=>false) [(0,true),(1,true),(2,true),(3,true),(4,true),(5,true),(6,true),(7,true),(8,true),(9,true),(10,true),(11,true),(12,true),(13,false),(14,true)] NoS mixed kR ?_;intro gd K x hgd hx hxe hK;clear hxe;obtain⟨p0',p1',p2',p3',p4'⟩:=rd x (hEx.trans hx);obtain⟨q0',q1',q2',q3',q4'⟩:=rd2 x (hEx.trans hx);have d1':=zaa ((hE1.trans hEx).trans hx) d1;have d2':=zaa ((hE1.trans hEx).trans hx) d2;refine sgz (az2 (az7 h5 h2 h3 p2' q2' yn0 hi0) (az6 hia hib2 d1' d2' ec1 ec2)) ?_;refine yfm (zel _ _) ?_;rintro _ x1 ⟨rfl,hx1⟩;refine⟨.inr hx1,?_⟩;refine sg0 ?_;refine en hK ?_;refine rt0 ntmps146 ?_;refine⟨?_,((hE1.trans hEx).trans hx).trans hx1⟩;have hc:cmpI a.nums[i] b.nums[i]≠0:=λ h=>hne (zbz.1 h);rw[zfQ];simp only[cmpD,orI];rw[if_pos hz0,if_pos hz1,hinv,hstep,if_neg hc,if_neg hc]
  ·intro heq;simp only[yaw,ydT]at heq;have hc:cmpI a.nums[i] b.nums[i]=0:=zbz.2 heq;refine gz (az2 h5 hi1') ?_;exact⟨m - 1,oM,rfl,i+1,oM,oM,vq0,vq1 h2,vq1 h3,hEv.trans hx,by rw[hinv,hstep,if_pos hc]⟩
 intro hge;simp only[ydF]at hge;have hend:=zhT (cf:=cmpI) (by omega:i<=a.nums.length) hib hge;refine rqz ?_;intro gd K hgd hK;refine sgz (az2 (az7 h2 h3 p1 p2 p3 q1 q2) (az2 q3 yn0)) ?_;apply hK;refine wcz ?_ ?_
 ·intro hne;simp only[yao,ydF]at hne;have hne2:¬((a.nums.length:Int)=(b.nums.length:Int)):=λ h=>hne oM;refine rqz ?_;intro gd K hgd hK;refine sgz (az2 (az7 h2 h3 p1 p2 p3 q1 q2) (az2 q3 yn0)) ?_;refine yfm (zel _ _) ?_;rintro _ x1 ⟨rfl,hx1⟩;try simp only[go_sem]
  refine en hK ?_;refine rt0 ntmps146 ?_;refine⟨?_,(hE1.trans hEv).trans hx1⟩;have hc:lexC cmpI a.nums b.nums≠0:=by rw[hinv,hend];exact λ h=>hne2 (zbz.1 h)
  rw[zfQ];simp only[cmpD,orI];rw[if_pos hz0,if_pos hz1,if_neg hc,hinv,hend]
 intro heql;simp only[yaw,ydT]at heql;have heql2:(a.nums.length:Int)=(b.nums.length:Int):=oM;have hz2:lexC cmpI a.nums b.nums=0:=by rw[hinv,hend];exact zbz.2 heql2
 have g2:=h2;have g3:=h3;have hEL1:=hEv;clear hsc hinv hend hge him hib;refine gz0 ?_;refine zan (λ m σ ds v=>ds=[]/\∃i:Nat,i+m=a.texts.length/\i<=b.texts.length/\σ 8=vi i/\σ 2= .pointer (some ⟨w.heap.size,0,.none⟩)/\σ 3= .pointer (some ⟨w.heap.size+1,0,.none⟩)/\Ext w1 v/\lexC cmpL a.texts b.texts=lexC cmpL (a.texts.drop i) (b.texts.drop i)) a.texts.length ?_ ?_
 ·exact⟨rfl,0,oM,oM,vr0,vq1 g2,vq1 g3,hEL1,rfl⟩
 rintro m σ ds v ⟨rfl,i,him,hib,h5,h2,h3,hEv,hinv⟩;obtain⟨p0,p1,p2,p3,p4⟩:=rd v hEv;obtain⟨q0,q1,q2,q3,q4⟩:=rd2 v hEv;repeat refine c_r ?_
 refine zaw (Q:=λ e σ' ds' v'=>e= .normal/\ds'=[]/\v'=v/\σ' 8=vi i/\σ' 2= .pointer (some ⟨w.heap.size,0,.none⟩)/\σ' 3= .pointer (some ⟨w.heap.size+1,0,.none⟩)/\σ' 128= .bool (decide (i<a.texts.length/\i<b.texts.length))) ?_ ?_
 ·refine rq ?_;intro gd K hgd hK;have hg5:=gk 5 122 hgd rfl;by_cases c1:(i:Int)<(a.texts.length:Int)
  ·try simp (disch:=first|omega|assumption|rfl) only[go_sem,h5,h2,h3,p1,p2,p3,q1,q2,q3,yn0,yet c1,↓hg5]
   apply hK;refine⟨rfl,rfl,rfl,vq1 h5,vq1 h2,vq1 h3,?_⟩;rw[show decide (i<a.texts.length/\i<b.texts.length)=decide ((i:Int)<(b.texts.length:Int)) from decide_eq_decide.2 ⟨λ h=>oM,λ h=>⟨oM,oM⟩⟩];simp only[go_sem]
  ·try simp (disch:=first|omega|assumption|rfl) only[go_sem,h5,h2,h3,p1,p2,p3,q1,q2,q3,yn0,yef c1,↓hg5]
   apply hK;refine⟨rfl,rfl,rfl,vq1 h5,vq1 h2,vq1 h3,?_⟩;rw[show decide (i<a.texts.length/\i<b.texts.length)=false from yef (λ h=>c1 oM)];simp only[go_sem]
 clear h5 h2 h3;rintro _ σ1 _ v1 ⟨rfl,rfl,hv1,h5,h2,h3,hsc⟩;rw[hv1];clear hv1 v1;repeat refine c_r ?_
 refine zaG (t:=decide (i<a.texts.length/\i<b.texts.length)) ((vq1 hsc)) ?_ ?_
 ·intro hlt;simp only[ydT]at hlt;have hi0:=cj i;have hia:(i:Int)<(a.texts.length:Int):=oM;have hib2:(i:Int)<(b.texts.length:Int):=oM;have hi1':=ci i;have hstep:=zdh (cf:=cmpL) hlt.1 hlt.2;repeat refine c_r ?_
  have d1:=hgt i (by simpa using hlt.1);have d2:=hgt2 i (by simpa using hlt.2);rw[yaA]at d1 d2;obtain⟨xa,rfl⟩:=yxs (zaf d1);obtain⟨xb,rfl⟩:=yxs (zaf d2);refine zaF (λ _=>false) [(0,true),(1,true),(2,true),(3,true),(4,true),(5,true),(6,true),(7,true),(8,true),(9,true),(10,false),(11,true)] NoS mixed kR ?_;intro gd K x hgd hx hxe hK;clear hxe;obtain⟨p0',p1',p2',p3',p4'⟩:=rd x (hEv.trans hx);obtain⟨q0',q1',q2',q3',q4'⟩:=rd2 x (hEv.trans hx);have d1':=zaa ((hE1.trans hEv).trans hx) d1;have d2':=zaa ((hE1.trans hEv).trans hx) d2;refine sgz (az2 (az7 h5 h2 h3 p1' p3' q1' q3') (az6 yn0 hi0 hia hib2 d1' d2')) ?_;refine yfm (zgZ _ _ _) ?_;rintro _ x1 ⟨rfl,hx1⟩;refine⟨.inr hx1,?_⟩;refine sg0 ?_;apply hK;refine gz0 ?_;refine wc0 ?_ ?_
  ·intro hne;simp only[yao,ydF]at hne;refine gz0 ?_;refine rt0 ntmps146 ?_;refine⟨?_,((hE1.trans hEv).trans hx).trans hx1⟩;have hc:cmpL a.texts[i] b.texts[i]≠0:=hne;simp only[cmpD,orI];rw[if_pos hz0,if_pos hz1,if_pos hz2,hinv,hstep,if_neg hc,if_neg hc]
  ·intro heq;simp only[yaw,ydT]at heq;have hc:cmpL a.texts[i] b.texts[i]=0:=heq;refine gz (az2 h5 hi1') ?_;exact⟨m - 1,oM,rfl,i+1,oM,oM,vq0,vq1 h2,vq1 h3,(hEv.trans hx).trans hx1,by rw[hinv,hstep,if_pos hc]⟩
 intro hge;simp only[ydF]at hge;have hend:=zhT (cf:=cmpL) (by omega:i<=a.texts.length) hib hge;refine rqz ?_;intro gd K hgd hK;refine sgz (az2 (az7 h2 h3 p1 p2 p3 q1 q2) (az2 q3 yn0)) ?_;apply hK;refine wcz ?_ ?_
 ·intro hne;simp only[yao,ydF]at hne;have hne2:¬((a.texts.length:Int)=(b.texts.length:Int)):=λ h=>hne oM;refine rqz ?_;intro gd K hgd hK;refine sgz (az2 (az7 h2 h3 p1 p2 p3 q1 q2) (az2 q3 yn0)) ?_;refine yfm (zel _ _) ?_;rintro _ x1 ⟨rfl,hx1⟩;try simp only[go_sem]
  refine en hK ?_;refine rt0 ntmps146 ?_;refine⟨?_,(hE1.trans hEv).trans hx1⟩;have hc:lexC cmpL a.texts b.texts≠0:=by rw[hinv,hend];exact λ h=>hne2 (zbz.1 h)
  rw[zfQ];simp only[cmpD,orI];rw[if_pos hz0,if_pos hz1,if_pos hz2,if_neg hc,hinv,hend]
 intro heql;simp only[yaw,ydT]at heql;have heql2:(a.texts.length:Int)=(b.texts.length:Int):=oM;have hz3:lexC cmpL a.texts b.texts=0:=by rw[hinv,hend];exact zbz.2 heql2
 have g2:=h2;have g3:=h3;have hEL2:=hEv;refine rqz ?_;intro gd K hgd hK;refine sgz (az5 h2 h3 p4 q4 yn0) ?_;refine zcv (l:=a.raw) rfl rfl rfl vq0 (λ j hj=>?_) ?_
 ·have:=zaa (hE1.trans hEv) (hgr j (by simpa using hj));rw[yaA]at this;exact this
 refine sgz (az5 h2 h3 p4 q4 yn0) ?_;refine zcv (l:=b.raw) rfl rfl rfl vq0 (λ j hj=>?_) ?_
 ·have:=zaa (hE1.trans hEv) (hgr2 j (by simpa using hj));rw[yaA]at this;exact this
 try simp only[go_sem]
 refine yfm (zgZ _ _ _) ?_;rintro _ x1 ⟨rfl,hx1⟩;try simp only[go_sem]
 refine en hK ?_;refine rt0 ntmps146 ?_;refine⟨?_,(hE1.trans hEv).trans hx1⟩;simp only[cmpD,orI];rw[if_pos hz0,if_pos hz1,if_pos hz2,if_pos hz3];by_cases hr:cmpL a.raw b.raw=0
 ·rw[if_pos hr,hr]
 ·rw[if_neg hr]
theorem zja(a b:RecL):zaE a b=if zc8 a.owner b.owner=0 then cmpD a.dat b.dat else zc8 a.owner b.owner:=by
 simp only[zaE,cmpD,orI]
 (repeat' split)<;>simp_all
theorem zex(w:World)(ca cb:List Value)(a b:RecL)(ha:RecAt w ca a)(hb:RecAt w cb b)(hoa:zbL a)(hob:zbL b):
  Fn prog 105 #[.agg ca.toArray,.agg cb.toArray] w (λ v w'=>v=vi (zaE a b)/\Ext w w'):=by
 obtain⟨ow,ds,rfl,a1,a2⟩:=ha.ex;obtain⟨ow2,ds2,rfl,b1,b2⟩:=hb.ex;have a2':=a2;have b2':=b2;obtain⟨nm,nu,tx,rw',rfl,_⟩:=a2.ex;obtain⟨nm2,nu2,tx2,rw2,rfl,_⟩:=b2.ex;refine enx func105 ntmps105 ?_;refine gz0 ?_;rw[zai];refine zaQ ?_;intro w1 hE1 hs1 hA hB;have p0:zad w1 (some ⟨w.heap.size,0,.none⟩)=some ow:=zab hA rfl;have q0:zad w1 (some ⟨w.heap.size+1,0,.none⟩)=some ow2:=zab hB rfl;refine rq ?_;intro gd K hgd hK;refine sgz (az3 p0 q0 yad) ?_;refine yfm (zcS _ _ _ _ _ (a1.ext hE1) (b1.ext hE1) hoa.lb hob.lb (by have:=hoa.len;omega) (by have:=hob.len;omega)) ?_;rintro _ w2 ⟨rfl,hE2⟩;refine sg0 ?_;apply hK;refine gz0 ?_;refine wc0 ?_ ?_
 ·intro hne;simp only[yao,ydF]at hne;have hne':¬zc8 a.owner b.owner=0:=hne;refine gz0 ?_;refine rt0 ntmps105 ?_;exact⟨by rw[zja,if_neg hne'];rfl,hE1.trans hE2⟩
 ·intro heq;simp only[yaw,ydT]at heq;have heq':zc8 a.owner b.owner=0:=heq;have p5:zat w2 (some ⟨w.heap.size,2,.none⟩) 5=some [vi a.dat.ty,nm,nu,tx,rw']:=zaK (hE2.at hA) (ynl 7);have q5:zat w2 (some ⟨w.heap.size+1,2,.none⟩) 5=some [vi b.dat.ty,nm2,nu2,tx2,rw2]:=zaK (hE2.at hB) (ynl 7);refine rqz ?_;intro gd K hgd hK;refine sgz (az3 p5 q5 yad) ?_;refine yfm (zg0 _ _ _ a.dat b.dat (a2'.ext (hE1.trans hE2)) (b2'.ext (hE1.trans hE2)) hoa.dat hob.dat) ?_;rintro _ w3 ⟨rfl,hE3⟩;refine sg0 ?_;refine en hK ?_;refine rt0 ntmps105 ?_;exact⟨by rw[zja,if_pos heq'],(hE1.trans hE2).trans hE3⟩
theorem zka(w:World)(ca cb:List Value)(a b:RecL)(ha:RecAt w ca a)(hb:RecAt w cb b)(hoa:zbL a)(hob:zbL b):
  Fn prog 106 #[.agg ca.toArray,.agg cb.toArray] w (λ v w'=>v= .bool (decide (zaE a b=0))/\Ext w w'):=by
 have ha':=ha;have hb':=hb;obtain⟨ow,ds,rfl,a1,a2⟩:=ha.ex;obtain⟨ow2,ds2,rfl,b1,b2⟩:=hb.ex;obtain⟨nm,nu,tx,rw',rfl,_⟩:=a2.ex;obtain⟨nm2,nu2,tx2,rw2,rfl,_⟩:=b2.ex;refine enx func106 ntmps106 ?_;refine gz0 ?_;rw[zai];refine zaQ ?_;intro w1 hE1 hs1 hA hB;have p:=zgM (n:=7) hA rfl;have q:=zgM (n:=7) hB rfl;refine rq ?_;intro gd K hgd hK;refine sgz (az2 p q) ?_;refine yfm (zex _ _ _ a b (ha'.ext hE1) (hb'.ext hE1) hoa hob) ?_;rintro _ w2 ⟨rfl,hE2⟩;refine sg0 ?_;refine en hK ?_;refine rt0 ntmps106 ?_;exact⟨rfl,hE1.trans hE2⟩
section
variable {α : Type} {cf : α -> α -> Int} {jn : α -> α -> α}
def tst(O:List α)(k:Nat)(p:α->Bool):Bool:=match O[k]? with
 |some x=>p x
 | .none=>false
theorem zcF{O:List α}(h:k<O.length)(p:α->Bool):tst O k p=p O[k]:=by unfold tst;rw[yam h]
theorem zc5{O:List α}(h:¬k<O.length)(p:α->Bool):tst O k p=false:=by unfold tst;rw[ybY oM]
theorem zhN{r:α}:∀{O:List α} {k:Nat} (hk:k<O.length),(∀j (h:j<O.length),j<k->cf O[j] r<0)->cf O[k] r=0->putC cf jn r O=O.set k (jn O[k] r)
 | [],_,h,_,_=>absurd h sM
 |x::O,0,_,_,h0=>by
  have h0':cf x r=0:=h0;simp only[putC];rw[if_neg oM,if_pos h0'];rfl
 |x::O,k+1,hk,h,h0=>by
  have hx:cf x r<0:=h 0 sM oM;have ih:=zhN (r:=r) (O:=O) (k:=k) (sU hk) (λ j hj hjk=>h (j+1) (sU hj) oM) h0;simp only[putC];rw[if_pos hx,ih];rfl
theorem zgl{r:α}:∀{O:List α} {k:Nat},k<=O.length->(∀j (h:j<O.length),j<k->cf O[j] r<0)->(∀h:k<O.length,¬cf O[k] r<0/\¬cf O[k] r=0)->putC cf jn r O=O.take k++ [r]++O.drop k
 | [],k,h,_,_=>by
  have:k=0:=sU h;subst this;rfl
 |x::O,0,_,_,hn=>by
  obtain⟨h1,h2⟩:=hn sM;have h1':¬cf x r<0:=h1;have h2':¬cf x r=0:=h2;simp only[putC];rw[if_neg h1',if_neg h2'];rfl
 |x::O,k+1,hk,h,hn=>by
  have hx:cf x r<0:=h 0 sM oM;have ih:=zgl (r:=r) (O:=O) (k:=k) (sU hk) (λ j hj hjk=>h (j+1) (sU hj) oM) (λ h=>hn (sU h));simp only[putC];rw[if_pos hx,ih];rfl
end
theorem zbl(w:World):zdD 7 (RecAt w):=⟨λ h=>h.len,λ h=>h.ones⟩
theorem RecAt.ttl{r:RecL}(h:RecAt w cs r):cs[1]? =some (v32 r.ttl):=by
 obtain⟨ow,ds,rfl,_⟩:=h.ex
 rfl
theorem zog(w0 w:World)(hE0:Ext w0 w){R:List RecL}(hR:Rows 7 (RecAt w0) w v R)(hok:∀r∈R,zbL r)(hlen:R.length<=1000000000):
  Fn prog 69 #[v] w (λ u w'=>Owns 7 (RecAt w0) w.heap.size w' 166 u (zbd R)/\Ext w w'):=by
 obtain⟨aR,cR,rfl,hcR,hgR⟩:=hR.open;refine enx func69 ntmps69 ?_;refine gz0 ?_;refine zan (λ m σ ds A=>ds=[]/\∃(i:Nat) (vO:Value) (O:List RecL),i+m=R.length/\σ 4=vi i/\σ 0= .slice aR R.length cR/\σ 3=vO/\Owns 7 (RecAt w0) w.heap.size A 166 vO O/\O=zbR zaE minT (λ x:RecL=>x) (R.take i) []/\Ext w A/\(∀o∈O,zbL o)/\O.length<=i) R.length ?_ ?_
 ·exact⟨rfl,0,_,[],oM,vr0,vq0,vq0,Owns.nil _ _ _ _ _,rfl,Keep.refl _ _,λ o h=>absurd h (by simp),by simp⟩
 rintro m σ ds A ⟨rfl,i,vO,O,him,h4,h0,h3,hO,hOf,hEA,hOok,hOi⟩;refine gz (az2 h4 h0) ?_;refine wc0 ?_ ?_
 ·intro hlt;simp only[ydT]at hlt;have hiR:i<R.length:=oM;have hi0:=cj i;have hi1:(i:Int)<(R.length:Int):=oM;have hi1':=ci i;obtain⟨cr,hcr,hRr⟩:=hgR i hiR;obtain⟨r,hr⟩:∃r,R[i]=r:=⟨_,rfl⟩;rw[hr]at hRr;have hrok:zbL r:=hr▸hok _ (yac hiR);obtain⟨xR,rfl⟩:=yxs (zak hcr);have hf1:zbR zaE minT (λ x:RecL=>x) (R.take (i+1)) []=putC zaE minT r O:=by
   rw[zal hiR,hr,hOf];unfold zbR;rw[ybI];rfl
  have hn3:∀o∈putC zaE minT r O,zbL o:=zc0 (λ x hx _=>⟨hx.lb,hx.len,hx.dat⟩) hrok hOok;obtain⟨aO,cO,hvO,hcO,hgO⟩:=hO.rows.open;rw[hvO]at h3 hO;clear hvO;refine gz0 ?_;refine zan (λ m2 σ2 ds2 A2=>ds2=[]/\∃(k:Nat),k+m2=O.length/\σ2 5=vi k/\σ2 4=vi i/\σ2 0= .slice (some xR) R.length cR/\σ2 3= .slice aO O.length cO/\Ext A A2/\∀j (h:j<O.length),j<k->zaE O[j] r<0) O.length ?_ ?_
  ·exact⟨rfl,0,oM,vr0,vq1 h4,vq1 h0,vq1 h3,Keep.refl _ _,λ j h hj=>absurd hj oM⟩
  clear h3 h4 h0;rintro m2 σ ds A2 ⟨rfl,k,hkm,h5,h4,h0,h3,hE2,hlow⟩;repeat refine c_r ?_
  refine zaw (Q:=λ e σ' ds' v'=>e= .normal/\ds'=[]/\σ' 5=vi k/\σ' 4=vi i/\σ' 0= .slice (some xR) R.length cR/\σ' 3= .slice aO O.length cO/\Ext A2 v'/\σ' 28= .bool (tst O k λ x=>decide (zaE x r<0))) ?_ ?_
  ·by_cases hk:k<O.length
   ·rw[zcF hk];obtain⟨ck,hck,hRk⟩:=hgO k hk;obtain⟨xO,rfl⟩:=yxs (zak hck);have hkd:decide ((k:Int)<(O.length:Int))=true:=yet oM;have hk0:=cj k;have hk1:(k:Int)<(O.length:Int):=oM;refine zaF (λ _=>false) [(0,true),(1,true),(2,true),(3,true),(4,true),(5,true),(6,true),(7,true),(8,true),(9,true),(10,true),(11,true),(12,true),(13,false),(14,true),(15,true)] NoS mixed kR ?_;intro gd K x hgd hx hxe hK;clear hxe;have hg4:=gk 4 17 hgd rfl;have d1:=zac (hE2.trans hx) hck;have d2:=zac ((hEA.trans hE2).trans hx) hcr;simp (disch:=first|omega|assumption|rfl) only[go_sem,h5,h4,h0,h3,hkd,decide_true,hk0,hk1,hi0,hi1,d1,d2,↓hg4];refine yfm (zex x _ _ O[k] r (hRk.ext (((hE0.trans hEA).trans hE2).trans hx)) (hRr.ext (((hE0.trans hEA).trans hE2).trans hx)) (hOok _ (yac hk)) hrok) ?_;rintro _ x2 ⟨rfl,hx2⟩;refine⟨.inr hx2,?_⟩;simp (disch:=first|omega|assumption|rfl) only[go_sem,↓hg4];apply hK;exact⟨rfl,rfl,vq1 h5,vq1 h4,vq1 h0,vq1 h3,hx.trans hx2,vq0⟩
   ·rw[zc5 hk];have hkd:decide ((k:Int)<(O.length:Int))=false:=yef oM;refine zaF (λ _=>false) [(0,true),(1,true),(2,true),(3,true),(4,true),(5,true),(6,true),(7,true),(8,true),(9,true),(10,true),(11,true),(12,true),(13,false),(14,true),(15,true)] NoS mixed kR ?_;intro gd K x hgd hx hxe hK;clear hxe;have hg4:=gk 4 17 hgd rfl;simp (disch:=first|omega|assumption|rfl) only[go_sem,h5,h4,h0,h3,hkd,↓hg4];apply hK;exact⟨rfl,rfl,vq1 h5,vq1 h4,vq1 h0,vq1 h3,hx,vq0⟩
  clear h5 h4 h0 h3;rintro _ σ1 _ A3 ⟨rfl,rfl,h5,h4,h0,h3,hE3,h28⟩;repeat refine c_r ?_
  refine zaG (t:=tst O k λ x=>decide (zaE x r<0)) ((vq1 h28)) ?_ ?_
  ·intro ht;have hk:k<O.length:=Classical.byContradiction λ h=>by rw[zc5 h]at ht;cases ht
   rw[zcF hk,ydT]at ht;have hk1':=ci k;refine gz (az2 h5 hk1') ?_;refine⟨m2 - 1,oM,rfl,k+1,oM,vq0,vq1 h4,vq1 h0,vq1 h3,hE2.trans hE3,λ j hj hjk=>?_⟩;by_cases hj2:j=k
   ·subst hj2;exact ht
   ·exact hlow j hj oM
  intro ht;have hstop:∀h:k<O.length,¬zaE O[k] r<0:=λ h h2=>by
   rw[zcF h]at ht;exact of_decide_eq_false ht h2
  have hkO:k<=O.length:=oM;have hE23:=hE2.trans hE3;clear h28 ht hE3 hE2;repeat refine c_r ?_
  have hEA3:=hEA.trans hE23;have hO3:=hO.ext hE23;refine zaw (Q:=λ e σ' ds' v'=>e= .normal/\ds'=[]/\σ' 5=vi k/\σ' 4=vi i/\σ' 0= .slice (some xR) R.length cR/\σ' 3= .slice aO O.length cO/\Ext A3 v'/\σ' 45= .bool (tst O k λ x=>decide (zaE x r=0))) ?_ ?_
  ·by_cases hk:k<O.length
   ·rw[zcF hk];obtain⟨ck,hck,hRk⟩:=hgO k hk;obtain⟨xO,rfl⟩:=yxs (zak hck);have hkd:decide ((k:Int)<(O.length:Int))=true:=yet oM;have hk0:=cj k;have hk1:(k:Int)<(O.length:Int):=oM;refine zaF (λ _=>false) [(0,true),(1,true),(2,true),(3,true),(4,true),(5,true),(6,true),(7,true),(8,true),(9,true),(10,true),(11,true),(12,true),(13,false),(14,true)] NoS mixed kR ?_;intro gd K x hgd hx hxe hK;clear hxe;have hg4:=gk 4 35 hgd rfl;have d1:=zac (hE23.trans hx) hck;have d2:=zac (hEA3.trans hx) hcr;simp (disch:=first|omega|assumption|rfl) only[go_sem,h5,h4,h0,h3,hkd,decide_true,hk0,hk1,hi0,hi1,d1,d2,↓hg4];refine yfm (zka x _ _ O[k] r (hRk.ext ((hE0.trans hEA3).trans hx)) (hRr.ext ((hE0.trans hEA3).trans hx)) (hOok _ (yac hk)) hrok) ?_;rintro _ x2 ⟨rfl,hx2⟩;refine⟨.inr hx2,?_⟩;simp (disch:=first|omega|assumption|rfl) only[go_sem,↓hg4];apply hK;exact⟨rfl,rfl,vq1 h5,vq1 h4,vq1 h0,vq1 h3,hx.trans hx2,vq0⟩
   ·rw[zc5 hk];have hkd:decide ((k:Int)<(O.length:Int))=false:=yef oM;refine zaF (λ _=>false) [(0,true),(1,true),(2,true),(3,true),(4,true),(5,true),(6,true),(7,true),(8,true),(9,true),(10,true),(11,true),(12,true),(13,false),(14,true)] NoS mixed kR ?_;intro gd K x hgd hx hxe hK;clear hxe;have hg4:=gk 4 35 hgd rfl;simp (disch:=first|omega|assumption|rfl) only[go_sem,h5,h4,h0,h3,hkd,↓hg4];apply hK;exact⟨rfl,rfl,vq1 h5,vq1 h4,vq1 h0,vq1 h3,hx,vq0⟩
  clear h5 h4 h0 h3;rintro _ σ1 _ A4 ⟨rfl,rfl,h5,h4,h0,h3,hE4,h45⟩;have hEA4:=hEA3.trans hE4;have hO4:=hO3.ext hE4;repeat refine c_r ?_
  refine zaG (t:=tst O k λ x=>decide (zaE x r=0)) ((vq1 h45)) ?_ ?_
  ·intro ht;have hk:k<O.length:=Classical.byContradiction λ h=>by rw[zc5 h]at ht;cases ht
   rw[zcF hk,ydT]at ht;have hput:=zhN (jn:=minT) hk hlow ht;obtain⟨ck,hck,hRk⟩:=hgO k hk;obtain⟨xO,rfl⟩:=yxs (zak hck);have hk0:=cj k;have hk1:(k:Int)<(O.length:Int):=oM;rcases hO4.cases with ⟨hv0,_⟩| ⟨b,cap,LO,hvb,hbB,hbc,hbm,hSD,hLl,hLat⟩
   ·cases hv0
   have hxb:xO=⟨b,0,.none⟩:=by injection hvb with e;injection e
   have hcap:cO=cap:=by injection hvb
   subst hxb hcap;have hgk:=hSD.get (j:=k) oM;have hRk:=hLat k oM hk;have f1:zad A4 (some ⟨b,k*7+1,.none⟩)=some (v32 (O[k]).ttl):=by
    have h1:=zcC hgk (j:=1) (by rw[hRk.len];omega);have h2:=hRk.ttl;rw[yam (by rw[hRk.len];omega)]at h2;rw[Option.some.inj h2]at h1;exact h1
   have f2:zad A4 (adr (adr (some xR) (i*7)) 1)=some (v32 r.ttl):=by
    have h1:=zcC (zac hEA4 hcr) (j:=1) (by rw[hRr.len];omega);have h2:=hRr.ttl;rw[yam (by rw[hRr.len];omega)]at h2;rw[Option.some.inj h2]at h1;exact h1
   obtain⟨xi,hxi⟩:∃xi,adr (some xR) (i*7)=some xi:=⟨_,rfl⟩;rw[hxi]at f2;repeat refine c_r ?_
   refine zaF (λ _=>false) [(0,true),(1,true),(2,true),(3,true),(4,true),(5,true),(6,true),(7,true),(8,true),(9,true),(10,true)] NoS mixed kR ?_;intro gd K x hgd hx hxe hK;clear hxe;have f1':=zaa hx f1;have f2':=zaa hx f2;refine sgz (az2 (az7 h5 h4 h0 h3 hk0 hk1 hi0) (az5 hi1 f1' f2' hxi yn0)) ?_;refine en hK ?_;have hnext:∀{v'},Ext w v'->SD 7 v' b 166 cO (LO.set k (LO[k].set 1 (v32 (min O[k].ttl r.ttl))))->Owns 7 (RecAt w0) w.heap.size v' 166 (.slice (some ⟨b,0,.none⟩) O.length cO) (putC zaE minT r O):=fun {v'} _ hD=>by
    rw[hput];have:=Owns.of_sd (C:=RecAt w0) (xs:=O.set k (minT O[k] r)) hD hbB (by simpa using hbc) hbm (by simp[hLl]) (all_set hLl hLat hRk.minT);simpa using this
   refine wc0 ?_ ?_
   ·intro hlt2;simp only[ydT]at hlt2;have hmin:min O[k].ttl r.ttl=r.ttl:=Int.min_eq_right oM;rw[hmin]at hnext;refine rqz ?_;intro gd K hgd hK;have g2:=zaa hx f2;refine sgz (az2 (az7 h5 h4 h0 h3 hk0 hk1 hi0) (az4 hi1 g2 hxi yn0)) ?_;refine SD.setAt (P:=prog) (t:=99) (hSD.ext hx) (j:=k) (i:=1) oM (by decide) rfl rfl rfl ?_;intro v4 hv4 hL4 hk4;try simp only[go_sem]
    apply hK;have hE5:Ext w v4:=ykt (hEA4.trans hx) rfl (λ i hi=>oM) hk4;refine gz (az2 h4 hi1') ?_;exact⟨m - 1,oM,rfl,i+1,_,_,oM,vq0,vq1 h0,vq1 h3,hnext hE5 hL4,hf1.symm,hE5,hn3,by rw[hput];simp;omega⟩
   ·intro hlt2;simp only[ydF]at hlt2;have hmin:min O[k].ttl r.ttl=O[k].ttl:=Int.min_eq_left oM;rw[hmin]at hnext;have hsame:LO[k].set 1 (v32 O[k].ttl)=LO[k]:=by
     have h2:=hRk.ttl;apply List.ext_getElem?;intro j;rw[List.getElem?_set]
     split
     ·rename_i hj;subst hj;rw[if_pos (by rw[hRk.len];omega),h2]
     ·rfl
    rw[hsame,List.set_getElem_self]at hnext;refine gz (az2 h4 hi1') ?_;exact⟨m - 1,oM,rfl,i+1,_,_,oM,vq0,vq1 h0,vq1 h3,hnext (hEA4.trans hx) (hSD.ext hx),hf1.symm,hEA4.trans hx,hn3,by rw[hput];simp;omega⟩
  ·intro ht;have hmiss:∀h:k<O.length,¬zaE O[k] r<0/\¬zaE O[k] r=0:=λ h=>by
    rw[zcF h,ydF]at ht;exact⟨hstop h,ht⟩
   have hput:=zgl (jn:=minT) hkO hlow hmiss;have hk0:=cj k;have hk1:(k:Int)<=(O.length:Int):=oM;have hcutlo:=hO4.rows.cut (lo:=0) (hi:=k) oM hkO;have hcuthi:=hO4.rows.cut (lo:=k) (hi:=O.length) hkO (ynl _);rw[ycT,ycr]at hcutlo;rw[yaf (by simp)]at hcuthi;repeat refine c_r ?_
   refine zaw (Q:=λ e σ' ds' v'=>e= .normal/\ds'=[]/\σ' 5=vi k/\σ' 4=vi i/\σ' 0= .slice (some xR) R.length cR/\σ' 3= .slice aO O.length cO/\Ext A4 v'/\∃xv,σ' 6=xv/\Owns 7 (RecAt w0) A4.heap.size v' 166 xv (O.take k++ [r])) ?_ ?_
   ·refine zfH (λ _=>false) (.run [(1,true),(2,true),(3,true),(5,true),(6,true),(7,true),(8,true)] (.fork 4 [0,9] (λ i=>if i=0 then(.run [] (.fork 3 [4,9] (λ i=>if i=4 then(.run [(9,false),(10,false),(11,true)] .fin) else(.run [(4,false),(10,false),(11,true)] .fin)))) else(.run [(0,false),(4,false),(10,false),(11,true)] .fin)))) (zda A4.heap.size) mixed kR ?_;intro gd K x hgd hx hxe hK;clear hxe;have hx0:Ext A4 x:=⟨hx.os,hx.tape,hx.output,hx.size,λ b hb _=>hx.block b hb (by unfold zda;omega),hx.drawn⟩;have hxs:=hx.size;have d2:=zac (hEA4.trans hx0) hcr;refine sgz (az2 (az7 h5 h4 h0 h3 hk0 hk1 hi0) (az2 hi1 d2)) ?_;refine⟨λ a ha hb=>by have:=zk2 hcr (by decide) ha;have:=hEA4.size;unfold zda at hb;omega,?_⟩;simp only[za5,zbk];refine⟨?_,?_⟩
    ·refine sg0 ?_;refine zib (k:=7) (C:=RecAt w0) rfl rfl rfl rfl ?_;intro w3 hE3 hs3 ho3;refine⟨.inr hE3.keep,?_⟩;refine sg0 ?_;simp only[za5,zbk];refine⟨?_,?_⟩
     ·refine sg0 ?_;refine zaR (zbl w0) ho3 (hcutlo.ext (hx0.trans hE3)) rfl rfl rfl rfl rfl rfl (by decide) vr0 vr0 (by simp;omega) (by decide) oM ?_;intro v4 w4 ho4 hE4' hk4 _;refine⟨.inr (hk4.mono λ b _ hb=>by have:=(ho3.ge hb).1;show _<=_;omega),?_⟩;have hE4'':=hE4' _ hE3 (ynl _);have hs4:=hk4.size;refine sg0 ?_;refine za4 (zbl w0) rfl rfl rfl rfl hRr (by decide) ?_;intro w5 hE5 hs5 ho5;refine⟨.inr hE5.keep,?_⟩;refine sg0 ?_;refine zaR (zbl w0) (ho4.ext hE5) ho5.rows rfl rfl rfl rfl rfl rfl (by decide) vr0 vr0 (by simp;omega) (by decide) oM ?_;intro v6 w6 ho6 hE6 hk6 _;refine⟨.inr (hk6.mono λ b _ hb=>by have:=(ho4.ge hb).1;show _<=_;omega),?_⟩;refine sg0 ?_;refine hK _ _ ⟨rfl,rfl,vq1 h5,vq1 h4,vq1 h0,vq1 h3,hx0.trans (hE6 _ (hE4''.trans hE5) (ynl _)),_,by simp only[go_sem];rfl,?_⟩;exact ho6.mono hxs
     ·refine sg0 ?_;refine za4 (zbl w0) rfl rfl rfl rfl hRr (by decide) ?_;intro w5 hE5 hs5 ho5;refine⟨.inr hE5.keep,?_⟩;refine sg0 ?_;refine zaR (zbl w0) (ho3.ext hE5) (hcutlo.ext ((hx0.trans hE3).trans hE5)) rfl rfl rfl rfl rfl rfl (by decide) vr0 vr0 (by simp;omega) (by decide) oM ?_;intro v4 w4 ho4 hE4' hk4 _;have hs4:=hk4.size;refine⟨.inr (hk4.mono λ b _ hb=>by have:=(ho3.ge hb).1;show _<=_;omega),?_⟩;have ho5':=ho5.keep hk4 (λ b hb hb2=>by have:=(ho5.ge hb).1;have:=(ho3.ge hb2).2;omega);refine sg0 ?_;refine zaR (zbl w0) ho4 ho5'.rows rfl rfl rfl rfl rfl rfl (by decide) vr0 vr0 (by simp;omega) (by decide) oM ?_;intro v6 w6 ho6 hE6 hk6 _;refine⟨.inr (hk6.mono λ b _ hb=>by have:=(ho4.ge hb).1;show _<=_;omega),?_⟩;refine sg0 ?_;refine hK _ _ ⟨rfl,rfl,vq1 h5,vq1 h4,vq1 h0,vq1 h3,hx0.trans (hE6 _ (hE4' _ (hE3.trans hE5) (ynl _)) (ynl _)),_,by simp only[go_sem];rfl,?_⟩;exact ho6.mono hxs
    ·refine sg0 ?_;refine za4 (zbl w0) rfl rfl rfl rfl hRr (by decide) ?_;intro w5 hE5 hs5 ho5;refine⟨.inr hE5.keep,?_⟩;refine sg0 ?_;refine zib (k:=7) (C:=RecAt w0) rfl rfl rfl rfl ?_;intro w3 hE3 hs3 ho3;refine⟨.inr hE3.keep,?_⟩;refine sg0 ?_;refine zaR (zbl w0) ho3 (hcutlo.ext ((hx0.trans hE5).trans hE3)) rfl rfl rfl rfl rfl rfl (by decide) vr0 vr0 (by simp;omega) (by decide) oM ?_;intro v4 w4 ho4 hE4' hk4 _;refine⟨.inr (hk4.mono λ b _ hb=>by have:=(ho3.ge hb).1;show _<=_;omega),?_⟩;have hE4'':=hE4' _ hE3 (ynl _);have hs4:=hk4.size;refine sg0 ?_;refine zaR (zbl w0) ho4 (ho5.ext hE4'').rows rfl rfl rfl rfl rfl rfl (by decide) vr0 vr0 (by simp;omega) (by decide) oM ?_;intro v6 w6 ho6 hE6 hk6 _;refine⟨.inr (hk6.mono λ b _ hb=>by have:=(ho4.ge hb).1;show _<=_;omega),?_⟩;refine sg0 ?_;refine hK _ _ ⟨rfl,rfl,vq1 h5,vq1 h4,vq1 h0,vq1 h3,hx0.trans (hE6 _ (hE5.trans hE4'') oM),_,by simp only[go_sem];rfl,?_⟩;exact ho6.mono oM
   clear h5 h4 h0 h3;rintro _ σ6 _ v6 ⟨rfl,rfl,h5,h4,h0,h3,hE6,xv,h6,hox⟩;refine rqz ?_;intro gd K hgd hK;refine sgz (az7 h5 h4 h0 h3 h6 hk0 hk1) ?_;refine zaR (zbl w0) hox (hcuthi.ext hE6) rfl rfl rfl rfl rfl rfl (by decide) ((vq1 h6)) vr0 (by simp;omega) (by decide) hE6.size ?_;intro v7 w7 ho7 hE7 _ _;have hE7':=hE7 _ hE6 (ynl _);try simp only[go_sem]
   apply hK;refine gz (az2 h4 hi1') ?_;exact⟨m - 1,oM,rfl,i+1,v7,putC zaE minT r O,oM,vq0,vq1 h0,vq0,by rw[hput];exact ho7.mono hEA4.size,hf1.symm,hEA4.trans hE7',hn3,by rw[hput];simp;omega⟩
 ·intro hge;simp only[ydF]at hge;have hiR:i=R.length:=oM;rw[hiR,yaT]at hOf;refine gz h3 ?_;refine rt1 h3 ntmps69 ?_;have hfin:O=zbd R:=hOf;rw[←hfin];exact⟨hO,hEA⟩
def isL(o:Nm)(t:Int)(r:RecL):Bool:=decide (t=r.dat.ty) && decide (zag o=zag r.owner)
structure SetL where
 owner:Nm
 ty:Int
 ttl:Int
 data:List DatL
def mkS(r:RecL)(l:List RecL):SetL:=⟨r.owner,r.dat.ty,l.foldl (λ t x=>min t x.ttl) r.ttl,l.map RecL.dat⟩
def grpF:Nat->List RecL->List SetL
 |0,_=>[]
 |_,[]=>[]
 |n+1,r::l=>mkS r ((r::l).takeWhile (isL r.owner r.dat.ty))::grpF n ((r::l).dropWhile (isL r.owner r.dat.ty))
def grp(l:List RecL):List SetL:=grpF l.length l
theorem zhW(r:RecL):isL r.owner r.dat.ty r=true:=by simp[isL]
theorem ziU:∀(n m:Nat) (l:List RecL),l.length<=n->l.length<=m->grpF n l=grpF m l
 |0,0,_,_,_=>rfl
 |0,m+1,l,h,_=>by
  have:l=[]:=yan.1 oM;subst this;rfl
 |n+1,0,l,_,h=>by
  have:l=[]:=yan.1 oM;subst this;rfl
 |n+1,m+1,[],_,_=>rfl
 |n+1,m+1,r::l,h1,h2=>by
  simp only[yah]at h1 h2;have hd:((r::l).dropWhile (isL r.owner r.dat.ty)).length<=l.length:=by
   rw[List.dropWhile_cons_of_pos (zhW r)];exact(List.dropWhile_sublist _).length_le
  simp only[grpF];rw[ziU n m _ oM oM]
theorem zhY(r:RecL)(l:List RecL):grp (r::l)=mkS r ((r::l).takeWhile (isL r.owner r.dat.ty))::grp ((r::l).dropWhile (isL r.owner r.dat.ty)):=by
 have hd:((r::l).dropWhile (isL r.owner r.dat.ty)).length<=l.length:=by
  rw[List.dropWhile_cons_of_pos (zhW r)];exact(List.dropWhile_sublist _).length_le
 unfold grp;show grpF (l.length+1) (r::l)=_;simp only[grpF];rw[ziU l.length ((r::l).dropWhile (isL r.owner r.dat.ty)).length _ hd (ynl _)]
theorem znw:grp []=[]:=rfl
theorem zg9{α:Type}{p:α->Bool}{l:List α}{n:Nat}(hn:n<=l.length)(h:∀j (hj:j<l.length),j<n->p l[j]=true)(hs:∀h:n<l.length,p l[n]=false):l.takeWhile p=l.take n/\l.dropWhile p=l.drop n:=by
 have h1:∀x∈l.take n,p x=true:=λ x hx=>by
  obtain⟨j,hj,rfl⟩:=yaG hx;rw[ybG];simp at hj;exact h j oM oM
 constructor
 ·conv=>lhs;rw[←yar n l]
  rw[ycm h1];by_cases hlt:n<l.length
  ·rw[yag hlt,List.takeWhile_cons_of_neg (by rw[hs hlt];exact yaV),yaF]
  ·rw[ybu oM];simp
 ·conv=>lhs;rw[←yar n l]
  rw[List.dropWhile_append_of_pos h1];by_cases hlt:n<l.length
  ·rw[yag hlt,List.dropWhile_cons_of_neg (by rw[hs hlt];exact yaV)]
  ·rw[ybu oM];simp
def ofC(R:List RecL)(o:Nm)(t:Int):List RecL:=zbd (R.filter (isL o t))
theorem ziW{β:Type}{cf:RecL->RecL->Int}{jn:RecL->RecL->RecL}{p:β->RecL}{Q:RecL->Prop}(hj:∀x r,Q x->Q r->cf x r=0->Q (jn x r)):∀(l:List β) (acc:List RecL),(∀x∈l,Q (p x))->(∀x∈acc,Q x)->∀x∈zbR cf jn p l acc,Q x
 | [],_,_,h=>h
 |r::l,acc,hl,ha=>ziW hj l _ (λ x hx=>hl x (yak _ hx)) (zc0 (λ x hx h0=>hj x (p r) hx (hl r (yal ..)) h0) (hl r (yal ..)) ha)
theorem zci{Q:RecL->Prop}(hQ:∀a b,Q a->Q (minT a b)){l:List RecL}(h:∀x∈l,Q x):∀x∈zbd l,Q x:=
 ziW (λ x r hx _ _=>hQ x r hx) l [] h (λ x hx=>absurd hx sM)
theorem zeh:∀(l:List RecL),(zbd l).length<=l.length:=by
 have h1:∀(r:RecL) (O:List RecL),(putC zaE minT r O).length<=O.length+1:=λ r O=>by
  induction O with
  |nil=>simp[putC]
  |cons x O ih=>
   simp only[putC]
   split
   ·simp;omega
   ·split<;>simp
 have h2:∀(l acc:List RecL),(zbR zaE minT (λ r=>r) l acc).length<=acc.length+l.length:=λ l=>by
  induction l with
  |nil=>intro acc;simp[zbR]
  |cons r l ih=>
   intro acc;have:=ih (putC zaE minT r acc);have:=h1 r acc;show(zbR zaE minT (λ r=>r) l (putC zaE minT r acc)).length<=_;simp only[yah];omega
 intro l;have h3:(zbd l).length<=([]:List RecL).length+l.length:=h2 l [];simpa using h3
theorem ofC_is{R:List RecL}{t:Int}:∀x∈ofC R o t,isL o t x=true:=by
 unfold ofC;exact zci (λ a b h=>h) (λ x hx=>(ycf.1 hx).2)
theorem ziV{l:List RecL}:∀(acc:List RecL),acc.Pairwise (λ a b=>zaE a b<0)->(zbR zaE minT (λ r=>r) l acc).Pairwise (λ a b=>zaE a b<0):=by
 induction l with
 |nil=>exact λ acc h=>h
 |cons r l ih=>exact λ acc h=>ih _ (zcd cpr_R znp h)
abbrev zl4(R:List RecL):Prop:=R.Pairwise (λ a b=>zaE a b<0)
theorem zh9(l:List RecL):zl4 (zbd l):=ziV [] List.Pairwise.nil
theorem putC_app{r:RecL}{O:List RecL}(h:∀x∈O,zaE x r<0):putC zaE minT r O=O++ [r]:=by
 induction O with
 |nil=>rfl
 |cons x O ih=>
  simp only[putC];rw[if_pos (h x (yal ..)),ih (λ y hy=>h y (yak _ hy))];rfl
theorem znU{R:List RecL}(h:zl4 R):zbd R=R:=by
 have:∀(l acc:List RecL),zl4 (acc++l)->zbR zaE minT (λ r=>r) l acc=acc++l:=λ l=>by
  induction l with
  |nil=>intro acc _;simp[zbR]
  |cons r l ih=>
   intro acc hs;show zbR zaE minT (λ r=>r) l (putC zaE minT r acc)=_;have h1:=(yap.1 hs).2.2;rw[putC_app (λ x hx=>h1 x hx r (yal ..)),ih (acc++ [r]) (sU hs)];simp
 exact this R [] h
theorem zlv{R:List RecL}(h:zl4 R)(o:Nm)(t:Int):ofC R o t=R.filter (isL o t):=znU (h.filter _)
theorem grp_one{o:Nm}{t:Int}{r:RecL}{l:List RecL}(h:∀x∈r::l,isL o t x=true):grp (r::l)=[mkS r (r::l)]:=by
 have hr:=h r (yal ..);simp only[isL,yaB,ydT]at hr;have h2:∀x∈r::l,isL r.owner r.dat.ty x=true:=λ x hx=>by
  have:=h x hx;simp only[isL,yaB,ydT]at this ⊢;exact⟨hr.1.symm.trans this.1,hr.2.symm.trans this.2⟩
 obtain⟨e1,e2⟩:=zg9 (p:=isL r.owner r.dat.ty) (l:=r::l) (n:=(r::l).length) (ynl _) (λ j hj _=>h2 _ (yac hj)) (λ h=>absurd h oM);rw[zhY,e1,e2];rw[yaT,List.drop_length];rfl
end Go.Proofs.YtfacfpcopcgbdaaGreat
