/-
  Texts of a proof, joined.
  Conditions: none.
-/
import Derived.Test.YtfacfpcopcgbdaaGreatPBR06
set_option linter.all false
set_option maxRecDepth 20000
set_option maxHeartbeats 8000000
namespace Go.Proofs.YtfacfpcopcgbdaaGreat
open Go Tryz
variable {w w0 w1 W0 x A:World}{v u lv nv:Value}{cs l:List Value}{B k i j c cap:Nat}{t e:TypeId}{a:Option Addr}{S C:Nat->Prop}{q n o:Nm}{N:NetL}
def ofR(N:NetL)(r:ResL)(x:Nm):List Int:=zna N x (zdO x r.glue)
def encM(N:NetL)(r:ResL)(n0:Nat)(x:Nm)(U:Nat->Prop)(A:World)(args:Array Value):Prop:=∃v B,args=#[v]/\Row A v ((ofR N r x).map vi)/\BlkB B A v/\(∀b,U b->b<B)/\n0<=B
theorem meant_ok(w:World){a b c d e f g h k:Value}:
  Fn prog 122 #[.agg #[a,b,c,d],.agg #[e,f,g,h,k]] w (λ v w'=>v= .func (.func 165) #[] #[.pointer (some ⟨w.heap.size+1,0,.none⟩),.pointer (some ⟨w.heap.size,0,.none⟩)]/\Ext w w'/\w'.heap.size=w.heap.size+2/\
   w'.heap[w.heap.size]? =some (.cells #[a,b,c,d] 25 (0,0))/\w'.heap[w.heap.size+1]? =some (.cells #[e,f,g,h,k] 192 (0,0))):=by
 refine enx func122 ntmps122 ?_;repeat refine c_r ?_
 refine rg0 ?_;repeat refine c_r ?_
 rw[zai];refine zaQ ?_;intro w1 hE1 hs1 hA hC;refine rg0 ?_;repeat refine c_r ?_
 refine rt0 ntmps122 ?_;exact⟨rfl,hE1,hs1,hA,hC⟩
theorem meantIt{br bn:Nat}{cr:List Value}{r:ResL}(hE01:Ext w0 w1)(hE1:Ext w1 W0)(hb:W0.heap[br]? =some (.cells cr.toArray 192 (0,0)))(hn:W0.heap[bn]? =some (.cells cs.toArray 25 (0,0)))
  (hC:∀b,C b->w1.heap.size<=b/\b<W0.heap.size) (hCb:¬C br) (hCn:¬C bn) (hN:NetAt w0 cs N) (hG:NetZ N) (hr:ResAt w0 w1 cr r) (kr:zoa r) (hgood:∀n∈zaz 2 r.data,NmM n):
  zon prog 165 #[.pointer (some ⟨br,0,.none⟩),.pointer (some ⟨bn,0,.none⟩)] W0 W0.heap.size C 0 (λ pre x=>∃suf,zaz 2 r.data=pre++x::suf) (λ xs=>xs=zaz 2 r.data) (encM N r):=by
 intro lp J Jx W hW hnW hJ hJx hY h0;have hr0:=hr;have hN0:=hN;have hn4:=hN.one;obtain⟨dv,nv,gv,rfl,h1,h2,h3⟩:=hr.ex;have dl:=kr.dl;obtain⟨a1,c1,hdv,_⟩:=h1.open;have hs1:=hE1.size;have hbl:=(yaa.1 hb).1;have hnl:=(yaa.1 hn).1;have hE1W:=hE1.trans hW;have pd:zad W (some ⟨br,1,.none⟩)=some dv:=zab (Ext.at hW hb) rfl;refine enx func165 ntmps165 ?_;refine rqz ?_;intro gd K hgd hK;refine sgz pd ?_;refine⟨by kernel_rfl,?_⟩;rw[hdv,show bdV prog 297 [(1,vi 2),(3,.slice a1 r.data.length c1)]=some (.agg #[.slice .none 0 0,vi 2,v32 0,.slice a1 r.data.length c1]) from by kernel_rfl,←hdv];try simp only[go_sem]
 refine yfm (zhC (t:=2) (ow:= .slice .none 0 0) (tl:=v32 0) (hE01.trans hE1W) rfl rfl (h1.ext hE1W) dl) ?_;rintro tv X ⟨hEX,htv,htb⟩;obtain⟨aT,cT,rfl,hcT,hgT⟩:=htv.open;obtain⟨L,hL⟩:∃L,zaz 2 r.data=L:=⟨_,rfl⟩;rw[hL]at htv htb hcT hgood hY ⊢;simp only[hL]at hgT;try simp only[go_sem]
 apply hK;have hLl:L.length<=1000000000:=by
  rw[←hL];unfold zaz
  split
  ·have:=yaW (λ d:DatL=>d.names.head?) r.data;omega
  ·simp
 have hsX:=hEX.size;repeat refine c_r ?_
 refine zan (λ m σ ds' v=>ds'=[]/\∃(i:Nat) (U:Nat->Prop),i+m=L.length/\σ 11=vi i/\σ 10=vi L.length/\σ 9= .slice aT L.length cT/\σ 0= .func (.yield lp) #[] #[]/\σ 1= .pointer (some ⟨br,0,.none⟩)/\σ 2= .pointer (some ⟨bn,0,.none⟩)/\
  J (L.take i) U v/\(∀b,U b->X.heap.size<=b/\b<v.heap.size)/\X.heap.size<=v.heap.size/\KeepB W0.heap.size C W v/\Ext w1 v/\Rows 1 (NmC w0) v (.slice aT L.length cT) L) L.length ?_ ?_
 ·exact⟨rfl,0,NoS,oM,vr0,vq0,vq0,vq0,vq0,vq0,hJ _ _ _ _ h0 (hEX.mono (λ _ _ h=>h.elim)),λ b h=>h.elim,ynl _,zc7 hEX oM,hE1W.trans hEX,htv⟩
 rintro m σ ds' v ⟨rfl,i,U,him,s11,s10,s9,s0,s1,s2,hj,hU,hsv,hKB,hEv,hrow⟩;refine gz (az2 s11 s10) ?_;refine wc0 ?_ ?_
 ·intro hlt;simp only[ydT]at hlt;have hi:i<L.length:=oM;have hi0:=cj i;have hi1':=ci i;obtain⟨h,hh⟩:∃h,L[i]=h:=⟨_,rfl⟩;have hgh:NmM h:=hh▸hgood _ (yac hi);obtain⟨cs',hcs,hv,rfl,hvr⟩:=hrow.get hi;rw[hh]at hvr;have hcell:zad v (adr aT i)=some hv:=by
   have:=zaq hcs (j:=0) rfl
   rwa [ybt,zar]at this
  obtain⟨xT,rfl⟩:=yxs (zaf hcell);have hbv:v.heap[br]? =some (.cells #[vi r.kind,dv,nv,.bool r.wild,gv] 192 (0,0)):=(hKB.block _ oM hCb).trans (Ext.at hW hb);have hnv:v.heap[bn]? =some (.cells cs.toArray 25 (0,0)):=(hKB.block _ oM hCn).trans (Ext.at hW hn);have db:=zah (n:=5) (l:=[vi r.kind,dv,nv,.bool r.wild,gv]) hbv rfl;have dn:=zah (n:=4) hnv hn4.1.symm;have hE0v:=hE01.trans hEv;refine gz (az5 s9 s11 hi0 hlt hcell) ?_;refine zaF (λ i=>i==7) [(0,true),(1,true),(2,true),(3,true),(4,true),(5,false),(6,false),(7,false),(8,true)] NoS mixed kR ?_;intro gd K x hgd hx hxe hK;clear hxe;have dbx:=zac hx db;have dnx:=zac hx dn;refine sgz (az5 s0 s1 s2 dbx dnx) ?_;have hE0x:=hE0v.trans hx;refine yfm (Hints_ok hE0x ((hr0.ext hEv).ext hx) kr (hvr.ext hE0x) hgh.s) ?_;rintro gv' y1 ⟨hy1,hg1⟩;refine⟨.inr hy1,?_⟩;have dny:=zac hy1 dnx;have hgl:(zdO h r.glue).length<=1000000000:=by
   rcases ziT (to:=h) (l:=r.glue) with e| ⟨g,hg,e⟩
   ·rw[e];simp
   ·rw[e];exact(kr.g g hg).2.2
  refine sg0 ?_;refine yfm (Meant_ok (hE0x.trans hy1) hN0 hG hvr hgh hg1 hgl) ?_;rintro mv y2 ⟨hy2,hm2,hB2⟩;refine⟨.inr hy2,?_⟩;have hvy:=(hx.trans hy1).trans hy2;have hsy:=hvy.size;have hsy1:=(hx.trans hy1).size;refine sgz s0 ?_;refine Yld.mono (hY (L.take i) U h y2 _ ⟨L.drop (i+1),by rw[←hh,←yag,yar]⟩ (hJ _ _ _ _ hj (hvy.mono (λ _ _ h=>h.elim))) oM (hKB.trans (zc7 hvy (by have:=hKB.size;omega))) ⟨mv,_,rfl,hm2,hB2,λ b hb=>by have:=(hU b hb).2;omega,oM⟩) ?_;rintro u z (⟨rfl,U',hj',hU',hkr⟩| ⟨rfl,hjx⟩)
  ·refine⟨.inl rfl,?_⟩;refine sg0 ?_;apply hK;have hzs:=hkr.size;have hCb:∀b,W.heap.size<=b->b<X.heap.size->¬(C b\/U b):=λ b h1 h2 h3=>by
    rcases h3 with h3|h3
    ·have:=hC b h3;omega
    ·have:=hU b h3;omega
   have hrowz:Rows 1 (NmC w0) z (.slice (some xT) L.length cT) L:=(hrow.ext hvy).blocks λ a n c hv=>by
    have h1:=htb a n c hv;exact hkr.block _ oM (.inr oM) (hCb _ oM h1.2)
   have hKz:KeepB W0.heap.size C W z:=(hKB.trans (zc7 hvy (by have:=hKB.size;omega))).trans ⟨hkr.os,hkr.tape,hkr.output,hkr.size,λ b hb hc=>hkr.block b oM (.inl hb) (λ h=>by
    rcases h with h|h
    ·exact hc h
    ·have:=hU b h;omega),hkr.drawn⟩
   have htk:L.take (i+1)=L.take i++ [h]:=by rw[zal hi,hh]
   repeat refine c_r ?_
   refine wf trivial ?_;refine gz (az2 s11 hi1') ?_;refine⟨m - 1,oM,rfl,i+1,U',oM,vq0,vq1 s10,vq1 s9,vq1 s0,vq1 s1,vq1 s2,by rw[htk];exact hj',λ b hb=>?_,oM,hKz,zdi hE1W hKz oM (λ b hb=>(hC b hb).1),hrowz⟩;rcases hU' b hb with h|h
   ·have:=hU b h;omega
   ·omega
  ·refine⟨.inl rfl,?_⟩;refine sg0 ?_;refine en hK ?_;refine wt trivial ?_;repeat refine c_r ?_
   refine zap (by simp) rfl (.inr ⟨_,_,⟨L.drop (i+1),by rw[←hh,←yag,yar,hL]⟩,hjx⟩)
 ·intro hge;simp only[ydF]at hge;repeat refine c_r ?_
  refine zap (by simp) rfl (.inl ⟨_,U,rfl,?_⟩);rw[yaf oM]at hj;rw[hL];exact hj
def zgV(N:NetL)(s:zay)(to:Nm):List zay:=if s.rw>=N.rw then endS s 7 else if (zer N s.sv to).2=true then [{s with rw:=s.rw+1,name:=to,ref:=false}] else zdI N {s with rw:=s.rw+1,name:=to,ref:=false}
def ze0(N:NetL)(r:ResL)(s:zay)(h:Nm):List zay:=(if ((ofR N r h).length:Int)=0 then endS s 9 else [])++(ofR N r h).map λ k=>{s with sv:=k,ref:=true}
def zgi(N:NetL)(s:zay)(r:ResL):List zay:=if s.rf>=N.rf then endS s 8 else(zaz 2 r.data).flatMap (ze0 N r {s with rf:=s.rf+1})
theorem alias_ok(hE0:Ext w0 w)(hN:NetAt w0 cs N)(hG:NetZ N){tv:Value}{s:zay}{to:Nm}(hr:Row w nv (s.name.map vs))(ht:Row w tv (to.map vs))(mt:NmM to)(b0:0<=s.rw)(b1:s.rw<=1000000):
  Fn prog 84 #[.agg (stV nv s).toArray,.agg cs.toArray,tv] w (λ v w'=>Ext w w'/\StF w.heap.size (λ u=>u=nv\/u=tv) w' v (zgV N s to)):=by
 have hN0:=hN;obtain⟨hv,rv,rfl,hh,hro⟩:=hN.ex;obtain⟨ah,ch,hhv,_⟩:=hh.open;obtain⟨ar,cr,hrv,_⟩:=id hro;obtain⟨an,cn,hnv,_⟩:=id hr;have t1:=ht.isOne;obtain⟨at1,ct,htv,_⟩:=id ht;unfold stV;refine enx func84 ntmps84 ?_;refine cZ ?_;rw[hhv,hrv,hnv];refine rg0 ?_;rw[←hhv,←hrv,←hnv];refine cZ ?_;rw[zai];refine zaQ ?_;intro w1 hE1 hs1 hA hB;have p2:zad w1 (some ⟨w.heap.size,2,.none⟩)=some (vi s.rw):=zab hA rfl;have q2:zad w1 (some ⟨w.heap.size+1,2,.none⟩)=some (vi N.rw):=zab hB rfl;have dA:zat w1 (some ⟨w.heap.size,0,.none⟩) 6=some (stV nv s):=zah hA rfl;refine cZ ?_;unfold zgV;by_cases hge:s.rw>=N.rw
 ·rw[if_pos hge];refine gz (az4 p2 q2 yn0 (yet hge)) ?_;refine wt trivial ?_;refine cZ ?_;refine rc dA (zdu w1 (hr.ext hE1) s 7) ?_;rintro v w2 ⟨hE2,hv2⟩;refine re trivial ?_;refine cZ ?_;refine rt0 ntmps84 ?_;exact⟨hE1.trans hE2,(zcV hv2 (hr.ext (hE1.trans hE2))).mono hE1.size λ u h=> .inl h⟩
 rw[if_neg hge];refine gz (az4 p2 q2 yn0 (yef hge)) ?_;refine wf trivial ?_;refine rqz ?_;intro gd K hgd hK;refine sgz (az2 p2 yn0) ?_;refine za6 (P:=prog) (t:=3) (j:=2) (u:=vi (s.rw+1)) (l:=stV nv s) hA (by show 2<6;decide) rfl rfl rfl ?_;intro w2 hs2 hA2 hk2;refine sg0 ?_;apply hK;refine rqz ?_;intro gd K hgd hK;refine sg0 ?_;refine za6 (P:=prog) (t:=27) (j:=1) (u:=tv) hA2 (by show 1<6;decide) t1 rfl rfl ?_;intro w3 hs3 hA3 hk3;refine sg0 ?_;refine za6 (P:=prog) (t:=4) (j:=4) (u:= .bool false) hA3 (by show 4<6;decide) rfl rfl rfl ?_;intro w4 hs4 hA4 hk4;refine sg0 ?_;apply hK;obtain⟨s2,hs2e⟩:∃s2:zay,{s with rw:=s.rw+1,name:=to,ref:=false}=s2:=⟨_,rfl⟩;have hA4':w4.heap[w.heap.size]? =some (.cells (stV tv s2).toArray 140 (0,0)):=by rw[←hs2e];exact hA4
 have hE4:Ext w w4:=ykt (ykt (ykt hE1 rfl (λ b hb=>oM) hk2) rfl (λ b hb=>oM) hk3) rfl (λ b hb=>oM) hk4;have hB4:=(hk4.block _ oM oM).trans ((hk3.block _ oM oM).trans ((hk2.block _ oM oM).trans hB));have dN:zat w4 (some ⟨w.heap.size+1,0,.none⟩) 4=some [hv,rv,vi N.rw,vi N.rf]:=zah hB4 rfl;have r0:zad w4 (some ⟨w.heap.size,0,.none⟩)=some (vi s.sv):=by rw[←hs2e]at hA4';exact zab hA4' rfl
 have hE04:=hE0.trans hE4;have mn:s2.name=to:=by rw[←hs2e]
 rw[hs2e];refine cZ ?_;refine rc (an3 dN r0 yad) (zn6 (s:=s.sv) hE04 hN0 hG (ht.ext hE4) mt) ?_;rintro _ w5 ⟨rfl,hE5⟩;refine re trivial ?_;have hE45:=hE4.trans hE5;have dS:zat w5 (some ⟨w.heap.size,0,.none⟩) 6=some (stV tv s2):=zac hE5 (zah hA4' rfl);have dN5:=zac hE5 dN;refine cZ ?_;cases hb:(zer N s.sv to).2 with
 |true=>
  rw[if_pos rfl];refine wt trivial ?_;refine rqz ?_;intro gd K hgd hK;refine sgz dS ?_;refine za4 (C:=StN tv) (zdo tv) (l:=stV tv s2) (a:=s2) (by rfl) (by rfl) (by rfl) (by rfl) ⟨rfl,t1⟩ (by decide) ?_;intro w6 hE6 hs6 ho6;refine sg0 ?_;refine en hK ?_;refine rt0 ntmps84 ?_;exact⟨hE45.trans hE6,ho6.blk.mono hE45.size,tv,.inr rfl,ho6.rows,λ x hx=>by rw[yae.1 hx,mn];exact ht.ext (hE45.trans hE6)⟩
 |false=>
  rw[if_neg yaV];refine wf trivial ?_;refine cZ ?_;refine rc (an2 dS dN5) (zks (hE0.trans hE45) hN0 hG.rl (ht.ext hE45) s2) ?_;rintro v w6 ⟨hE6,hv6⟩;refine re trivial ?_;refine cZ ?_;refine rt0 ntmps84 ?_;exact⟨hE45.trans hE6,hv6.2.mono hE45.size,tv,.inr rfl,hv6.1,λ x hx=>by
   obtain⟨k,_,rfl⟩:=yaq.1 hx;show Row _ _ (s2.name.map vs);rw[mn];exact ht.ext (hE45.trans hE6)⟩
theorem zm8{r:ResL}{s x:zay}{h:Nm}(hx:x∈ze0 N r s h):x.name=s.name:=by
 unfold ze0 at hx;rcases yai.1 hx with hx|hx
 ·split at hx
  ·exact zkC hx
  ·cases hx
 ·obtain⟨k,_,rfl⟩:=yaq.1 hx;rfl
theorem zm2{r:ResL}{h:Nm}:(ofR N r h).length<=N.hosts.length:=zgn
theorem ziS{r:ResL}{s:zay}{h:Nm}:(ze0 N r s h).length<=N.hosts.length+1:=by
 have:=zm2 (N:=N) (r:=r) (h:=h);unfold ze0 endS
 split<;>simp<;>omega
theorem zh3{α β:Type}{f:α->List β}(hf:∀a,(f a).length<=k):∀l:List α,(l.flatMap f).length<=l.length*k
 | []=>sM
 |a::l=>by
  have h1:=hf a;have h2:=zh3 hf l;rw[ybJ,yab,yah,ydw];omega
structure SRf(w Y:World)(b7 b3 n0:Nat)(nv iv:Value)(U U':Nat->Prop)(s2:zay)(L:List Int)(ov:Value)(G:List zay)(v:World):Prop where
 h7:v.heap[b7]? =some (.cells #[ov] 137 (0,0))
 own:Owns 6 (StN nv) n0 v 140 ov G
 u1:∀b,some b=ov.ownBlock->U' b
 u2:∀b,U' b->U b\/(Y.heap.size<=b/\b<v.heap.size)
 kb:KeepB Y.heap.size (λ b=>b=b7\/U b) Y v
 e:Ext w v
 h3:v.heap[b3]? =some (.cells (stV nv s2).toArray 140 (0,0))
 riv:Row v iv (L.map vi)
 blk:∃B,BlkB B Y iv/\(∀b,U b->b<B)/\n0<=B
 lo:w.heap.size<=b3/\w.heap.size<=b7/\b3≠b7/\b3<n0/\b7<n0/\n0<=Y.heap.size/\∀b,U b->n0<=b/\b<Y.heap.size
theorem SRf.app{Y v v1 v2 v3:World}{b7 b3 n0:Nat}{iv ov ov':Value}{U U':Nat->Prop}{s2:zay}{L:List Int}{G news:List zay}(h:SRf w Y b7 b3 n0 nv iv U U' s2 L ov G v)(hE:Ext v v1)
  (ho:Owns 6 (StN nv) n0 v2 140 ov' (G++news)) (hk:Keep (λ b=>some b=ov.ownBlock) v1 v2) (hb:∀b,some b=ov'.ownBlock->some b=ov.ownBlock\/v1.heap.size<=b)
  (h7:v3.heap[b7]? =some (.cells #[ov'] 137 (0,0))) (hk3:Keep (λ b=>b=b7) v2 v3):SRf w Y b7 b3 n0 nv iv U (λ b=>U' b\/(v1.heap.size<=b/\b<v3.heap.size)) s2 L ov' (G++news) v3:=by
 obtain⟨B,hB1,hB2,hB3⟩:=h.blk;obtain⟨l1,l2,l3,l4,l5,l6,l7⟩:=h.lo;have z0:=h.kb.size;have z1:=hE.size;have z2:=hk.size;have z3:=hk3.size;have ow:∀b,some b=ov.ownBlock->n0<=b/\b<v.heap.size:=λ b hb=>h.own.ge hb;have low:∀b,some b=ov.ownBlock->b<Y.heap.size->U b:=λ b hb hY=>(h.u2 b (h.u1 b hb)).resolve_right oM;have k2:KeepB Y.heap.size (λ b=>b=b7\/U b) v1 v2:=hk.toB oM (λ b hY hb=> .inr (low b hb hY));have k3:KeepB Y.heap.size (λ b=>b=b7\/U b) v2 v3:=hk3.toB oM (λ b hY hb=> .inl hb);have e2:Ext w v2:=ykt (h.e.trans hE) rfl (λ b hb=>by have:=ow b hb;omega) hk;refine⟨h7,ho.keep hk3 (λ b hb hb2=>by have:=ho.ge hb;omega),λ b hb'=>?_,λ b hb'=>?_,(h.kb.trans (zc7 hE oM)).trans (k2.trans k3),ykt e2 rfl (λ b hb=>oM) hk3,?_,?_,h.blk,h.lo⟩
 ·rcases hb b hb' with e|e
  ·exact .inl (h.u1 b e)
  ·have:=ho.ge hb';exact .inr oM
 ·rcases hb' with e|e
  ·rcases h.u2 b e with e|e
   ·exact .inl e
   ·exact .inr oM
  ·exact .inr oM
 ·exact(hk3.block _ (by have:=(yaa.1 h.h3).1;omega) oM).trans ((hk.block _ (by have:=(yaa.1 h.h3).1;omega) (λ hb=>by have:=ow _ hb;omega)).trans (Ext.at hE h.h3))
 ·have hivb:BlkB B v1 iv:=hB1.ext oM;refine(((h.riv.ext hE).blocks λ a n c hv=>hk.block _ (by have:=(hB1 a n c hv).2;omega) (λ hb=>?_))).blocks λ a n c hv=>hk3.block _ (by have:=(hB1 a n c hv).2;omega) (by have:=(hB1 a n c hv).1;omega);have h1:=(hB1 a n c hv);have:=hB2 _ (low _ hb h1.2);omega
theorem refer_ok{w0 w:World}(hE0:Ext w0 w){cs cr:List Value}{N:NetL}{r:ResL}(hN:NetAt w0 cs N)(hG:NetZ N){nv:Value}{s:zay}(hr:Row w nv (s.name.map vs))(hres:ResAt w0 w cr r)(kr:zoa r)(kl:r.data.length<=1000)(hgood:∀n∈zaz 2 r.data,NmM n)(b0:0<=s.rf)(b1:s.rf<=1000000):
  Fn prog 85 #[.agg (stV nv s).toArray,.agg cs.toArray,.agg cr.toArray] w (fun v w'=>Ext w w'/\StF w.heap.size (fun u=>u=nv) w' v (zgi N s r)):=by
 have hN0:=hN
 have hres0:=hres
 obtain⟨hv,rv,rfl,hh,hro⟩:=hN.ex
 obtain⟨dv,mv,gv,rfl,g1,g2,g3⟩:=hres.ex
 obtain⟨ah,ch,hhv,_⟩:=hh.open
 obtain⟨ar,cr,hrv,_⟩:=id hro
 obtain⟨an,cn,hnv,_⟩:=id hr
 obtain⟨ad,cd,hdv,_⟩:=g1.open
 obtain⟨am,cm,hmv,_⟩:=id g2
 obtain⟨ag,cg,hgv,_⟩:=g3.open
 have n1:=hr.isOne
 unfold stV
 refine enter func85 ntmps85 rfl rfl ?_
 repeat refine c_r ?_
 rw[hhv,hrv,hnv,hdv,hmv,hgv]
 refine rg0 ?_
 rw[←hhv,←hrv,←hnv,←hdv,←hmv,←hgv]
 repeat refine c_r ?_
 rw[zai,zai,zai]
 refine zek ?_
 intro w1 hE1 hs1 hA hB hC
 have p3:zad w1 (some ⟨w.heap.size,3,Option.none⟩)=some (vi s.rf):=zab hA rfl
 have q3:zad w1 (some ⟨w.heap.size+1,3,Option.none⟩)=some (vi N.rf):=zab hB rfl
 have dA:zat w1 (some ⟨w.heap.size,0,Option.none⟩) 6=some (stV nv s):=zah hA rfl
 repeat refine c_r ?_
 unfold zgi
 by_cases hge:s.rf>=N.rf
 ·rw[if_pos hge]
  refine rg4 p3 q3 ydu (decide_eq_true hge) ?_
  repeat refine c_r ?_
  refine wt trivial ?_
  repeat refine c_r ?_
  refine rc dA (zdu w1 (hr.ext hE1) s 8) ?_
  rintro v w2 ⟨hE2,hv2⟩
  refine re trivial ?_
  repeat refine c_r ?_
  refine rt0 ntmps85 ?_
  exact⟨hE1.trans hE2,(zcV hv2 (hr.ext (hE1.trans hE2))).mono hE1.size fun u h=>h⟩
 rw[if_neg hge]
 refine rg4 p3 q3 ydu (decide_eq_false hge) ?_
 repeat refine c_r ?_
 refine wf trivial ?_
 repeat refine c_r ?_
 refine rq ?_;intro gd K hgd hK
 try simp (disch:=first|omega|assumption|rfl) only[go_sem,p3,ydu]
 refine za6 (P:=prog) (t:=3) (j:=3) (u:=vi (s.rf+1)) (l:=stV nv s) hA (by show 3<6;decide) rfl rfl rfl ?_
 intro w2 hs2 hA2 hk2
 try simp only[go_sem]
 refine hK _ _ ?_;clear hK hgd;clear K;try clear gd
 obtain⟨s2,hs2e⟩:∃s2:zay,{s with rf:=s.rf+1}=s2:=⟨_,rfl⟩
 have hA2':w2.heap[w.heap.size]? =some (.cells (stV nv s2).toArray 140 (0,0)):=by rw[←hs2e];exact hA2
 have mn:s2.name=s.name:=by rw[←hs2e]
 rw[hs2e]
 have hE2:Ext w w2:=Keep.to_ext hE1 rfl (fun b hb=>by omega) hk2
 have hB2:=(hk2.block _ (by omega) (by omega)).trans hB
 have hC2:=(hk2.block _ (by omega) (by omega)).trans hC
 repeat refine c_r ?_
 refine rg0 ?_
 refine zav ?_
 intro w3 hE3 hs3 hD
 obtain⟨b7,hb7⟩:∃b,w2.heap.size=b:=⟨_,rfl⟩
 rw[hb7]at hD hs3 ⊢
 have hE03:=hE2.trans hE3
 have dN:zat w3 (some ⟨w.heap.size+1,0,Option.none⟩) 4=some [hv,rv,vi N.rw,vi N.rf]:=zah (Ext.at hE3 hB2) rfl
 have dR:zat w3 (some ⟨w.heap.size+1+1,0,Option.none⟩) 5=some [vi r.kind,dv,mv,.bool r.wild,gv]:=zah (Ext.at hE3 hC2) rfl
 repeat refine c_r ?_
 refine rc (an2 dN dR) (meant_ok w3) ?_
 rintro _ w4 ⟨rfl,hE4,hs4,hbn,hbr⟩
 refine re trivial ?_
 have hE04:=hE03.trans hE4
 have hA4:=Ext.at (hE3.trans hE4) hA2'
 have hD4:=Ext.at hE4 hD
 repeat refine c_r ?_
 refine ze6 (g:=165) (cap:=#[.pointer (some ⟨w3.heap.size+1,0,Option.none⟩),.pointer (some ⟨w3.heap.size,0,Option.none⟩)]) (vq0) rfl (meantIt (C:=fun b=>b=b7) hE0 hE04 hbr hbn (fun b hb=>by omega) (by omega) (by omega) hN0 hG hres0 kr hgood) (Keep.refl _ _) (ydo _) (fun b hb=>by omega) (fun x U A args h=>by obtain⟨_,_,e,_⟩:=h;rw[e];rfl)
  (fun pre U A=>Ext w A/\∃ov,A.heap[b7]? =some (.cells #[ov] 137 (0,0))/\Owns 6 (StN nv) (w4.heap.size+2) A 140 ov (pre.flatMap (ze0 N r s2))/\(∀b,some b=ov.ownBlock->U b)/\A.heap[w.heap.size]? =some (.cells (stV nv s2).toArray 140 (0,0)))
  (fun _ _ _=>False) ?_ (fun _ _ _ _ h _=>h.elim) ?_ ?_ ?_ (fun _ _ _ _ _ _ h _=>h.elim)
 ·rintro pre U A B ⟨h1,ov,h2,h3,h4,h5⟩ hU hk
  have f:∀{b:Nat} {O:Obj},A.heap[b]? =some O->b<w4.heap.size->B.heap[b]? =some O:=fun h hb=>(hk.block _ (yaa.1 h).1 (by unfold span;omega)).trans h
  exact⟨Keep.to_ext h1 rfl (fun b hb=>by unfold span at hb;omega) hk,ov,f h2 (by omega),h3.keep hk (fun b hb hb2=>by have:=hU b (h4 b hb);unfold span at hb2;omega),h4,f h5 (by omega)⟩
 ·exact⟨hE04,.slice Option.none 0 0,hD4,Owns.nil _ _ _ _ _,fun b hb=>by simp[Value.ownBlock]at hb,hA4⟩
 ·rintro lp pre U y A args ⟨suf,hxs⟩ hszA ⟨hEA,ov,k7,hown,hU,k3⟩ hUb ⟨iv,B,rfl,hmv,hmb,hmB,hmn⟩
  refine rg0 ?_
  refine zao ?_
  refine⟨rfl,Keep.refl _ _,fun Y hY=>?_⟩
  have hsY:=hY.size
  have f:∀{b:Nat} {O:Obj},A.heap[b]? =some O->¬two w4.heap.size b->Y.heap[b]? =some O:=fun h hb=>(hY.block _ (yaa.1 h).1 hb).trans h
  have hEY:Ext w Y:=Keep.to_ext hEA rfl (fun b hb=>by unfold two at hb;omega) hY
  have hRI:SRf w Y b7 w.heap.size (w4.heap.size+2) nv iv U U s2 (ofR N r y) ov (pre.flatMap (ze0 N r s2)) Y:=⟨f k7 (by unfold two;omega),hown.keep hY (fun b hb hb2=>by have:=(hown.ge hb).1;unfold two at hb2;omega),hU,fun b hb=> .inl hb,KeepB.refl _ _ _,hEY,f k3 (by unfold two;omega),hmv.keepB hY hmb (fun b h1 _ h2=>by unfold two at h2;omega),⟨B,hmb.ext hsY,hmB,hmn⟩,by omega,by omega,by omega,by omega,by omega,by omega,fun b hb=>by have:=hUb b hb;omega⟩
  clear hmv hmb hmB hmn hown hU k7 k3
  obtain⟨L,hL⟩:∃L,ofR N r y=L:=⟨_,rfl⟩
  have hLl:L.length<=1000:=by
   have:=zm2 (N:=N) (r:=r) (h:=y)
   have:=hG.hl
   rw[←hL];omega
  have hho:ze0 N r s2 y=(if (L.length:Int)=0 then endS s2 9 else [])++L.map fun k=>{s2 with sv:=k,ref:=true}:=by unfold ze0;rw[hL]
  have hpl:pre.length<=1000:=by
   have h1:=congrArg List.length hxs
   have h2:(zaz 2 r.data).length<=r.data.length:=by
    unfold zaz
    split
    ·exact yaW _ _
    ·simp
   simp at h1;omega
  have hGl:(pre.flatMap (ze0 N r s2)).length<=2000000:=by
   have h1:=zh3 (fun a=>ziS (N:=N) (r:=r) (s:=s2) (h:=a)) pre
   have h2:=hG.hl
   have h3:pre.length*(N.hosts.length+1)<=1000*1001:=ycj hpl (by omega)
   omega
  rw[hL]at hRI
  obtain⟨ai,ci,rfl,hci,_⟩:=id hRI.riv
  simp only[List.length_map]at hRI hci ⊢
  obtain⟨G,hGe⟩:∃G,pre.flatMap (ze0 N r s2)=G:=⟨_,rfl⟩
  rw[hGe]at hRI hGl
  have hb7n:b7<w4.heap.size+2:=by omega
  have hb3n:w.heap.size<w4.heap.size+2:=by omega
  repeat refine c_r ?_
  refine rg0 ?_
  repeat refine c_r ?_
  refine zaw (Q:=fun e σ' ds' v'=>e= .normal/\ds'=[]/\σ' 8= .slice ai L.length ci/\σ' 3= .pointer (some ⟨w.heap.size,0,Option.none⟩)/\σ' 7= .pointer (some ⟨b7,0,Option.none⟩)/\∃ov' U',SRf w Y b7 w.heap.size (w4.heap.size+2) nv (.slice ai L.length ci) U U' s2 L ov' (G++if (L.length:Int)=0 then endS s2 9 else []) v') ?_ ?_
  ·by_cases h0:(L.length:Int)=0
   ·rw[if_pos h0]
    refine wt (decide_eq_true h0) ?_
    repeat refine c_r ?_
    refine zaF (fun i=>i==4) [(0,true),(1,true),(2,false),(3,false),(4,false)] (zda (w4.heap.size+2)) mixed (by kernel_rfl) ?_;intro gd K x hgd hx hxe hK;have hx0:=zgH hxe;clear hxe
    have q7:zad x (some ⟨b7,0,Option.none⟩)=some ov:=zab (Ext.at hx0 hRI.h7) rfl
    have q3:zat x (some ⟨w.heap.size,0,Option.none⟩) 6=some (stV nv s2):=zah (Ext.at hx0 hRI.h3) rfl
    simp (disch:=first|omega|assumption|rfl) only[go_sem,q7,q3]
    refine⟨zdA hb7n,zdA hb3n,?_⟩
    refine Fn.mono (zdu x (hr.ext (hRI.e.trans hx0)) s2 9) ?_
    rintro ev y1 ⟨hy1,hev,_⟩
    refine⟨.inr hy1.keep,?_⟩
    have sx:=hx0.size
    have sy:=hy1.size
    have sY:=hRI.lo.2.2.2.2.2.1
    simp (disch:=first|omega|assumption|rfl) only[go_sem]
    refine zaR (zdo nv) (hRI.own.ext (hx0.trans hy1)) hev (by rfl) (by rfl) (by rfl) (by rfl) (by rfl) (by rfl) (by decide) (vr0) (vr0) (by unfold endS;simp;omega) (by decide) (by omega) ?_
    intro ov' y2 ho2 hE2 hk2 hb2
    refine⟨.inr (hk2.mono fun b _ hb=>(hRI.own.ge hb).1),?_⟩
    obtain⟨ao,co,hov,_⟩:=ho2.rows.open
    simp (disch:=first|omega|assumption|rfl) only[go_sem]
    refine za6 (P:=prog) (t:=137) (j:=0) (u:=ov') (l:=[ov]) ((hk2.block _ (by omega) (fun hb=>by have:=(hRI.own.ge hb).1;omega)).trans (Ext.at (hx0.trans hy1) hRI.h7)) (by simp) (by rw[hov];rfl) rfl rfl ?_
    intro y3 hs3 h73 hk3
    refine⟨.inl rfl,?_⟩
    simp (disch:=first|omega|assumption|rfl) only[go_sem]
    refine hK _ _ ?_;clear hK hgd;clear K;try clear gd
    exact⟨rfl,rfl,vq0,vq0,vq0,ov',_,hRI.app (hx0.trans hy1) ho2 hk2 hb2 h73 hk3⟩
   ·rw[if_neg h0,yaF]
    refine wf (decide_eq_false h0) ?_
    repeat refine c_r ?_
    exact⟨rfl,rfl,vq0,vq0,vq0,ov,U,hRI⟩
  rintro _ σ1 _ Y1 ⟨rfl,rfl,s8,s3,s7,ov1,U1,hR1⟩
  obtain⟨G1,hG1⟩:∃G1,(G++if (L.length:Int)=0 then endS s2 9 else [])=G1:=⟨_,rfl⟩
  have hG1l:G1.length<=2000001:=by
   rw[←hG1];unfold endS
   split<;>simp<;>omega
  rw[hG1]at hR1
  repeat refine c_r ?_
  refine rg1 s8 ?_
  repeat refine c_r ?_
  refine zan (fun m σ ds v=>ds=[]/\∃(i:Nat) (ov:Value) (U':Nat->Prop),i+m=L.length/\σ 36=vi i/\σ 35=vi L.length/\σ 34= .slice ai L.length ci/\σ 3= .pointer (some ⟨w.heap.size,0,Option.none⟩)/\σ 7= .pointer (some ⟨b7,0,Option.none⟩)/\
   SRf w Y b7 w.heap.size (w4.heap.size+2) nv (.slice ai L.length ci) U U' s2 L ov (G1++(L.take i).map fun k=>{s2 with sv:=k,ref:=true}) v) L.length ?_ ?_
  ·exact⟨rfl,0,ov1,U1,by omega,vr0,vq0,vq0,(vq1 s3),(vq1 s7),by simpa using hR1⟩
  clear s8 s3 s7
  rintro m σ ds v ⟨rfl,i,ov,U',him,s36,s35,s34,s3,s7,hR⟩
  repeat refine c_r ?_
  refine rg2 s36 s35 ?_
  repeat refine c_r ?_
  refine wc0 ?_ ?_
  ·intro hlt
   simp only[decide_eq_true_eq]at hlt
   have hi:i<L.length:=by omega
   have hi0:(0:Int)<=(i:Int):=by omega
   have hi1':(i:Int)+1=((i+1:Nat):Int):=by push_cast;rfl
   have hcell:zad v (adr ai i)=some (vi L[i]):=by
    obtain⟨a',c',e,_,hg⟩:=hR.riv
    injection e with e1 _ _
    subst e1
    have:=hg i (by simpa using hi)
    simpa using this
   obtain⟨xz,rfl⟩:=ycd.1 (zaf hcell)
   have sY:=hR.lo.2.2.2.2.2.1
   have sv0:=hR.kb.size
   have d3:zat v (some ⟨w.heap.size,0,Option.none⟩) 6=some (stV nv s2):=zah hR.h3 rfl
   repeat refine c_r ?_
   refine rq ?_;intro gd K hgd hK;simp (disch:=first|omega|assumption|rfl) only[go_sem,s36,s34,hi0,hlt,hcell,ybt];refine hK _ _ ?_;clear hK hgd;clear K gd
   repeat refine c_r ?_
   refine rq ?_;intro gd K hgd hK
   try simp (disch:=first|omega|assumption|rfl) only[go_sem,s3,d3]
   refine zaV (P:=prog) (l:=stV nv s2) rfl (zhE n1) rfl rfl ?_
   intro v1 hE1 hs1 hB1
   try simp only[go_sem]
   refine hK _ _ ?_;clear hK hgd;clear K;try clear gd
   obtain⟨bx,hbx⟩:∃b,v.heap.size=b:=⟨_,rfl⟩
   rw[hbx]at hB1 hs1 ⊢
   repeat refine c_r ?_
   refine rq ?_;intro gd K hgd hK
   try simp only[go_sem]
   refine za6 (P:=prog) (t:=3) (j:=0) (u:=vi L[i]) (l:=stV nv s2) hB1 (by show 0<6;decide) rfl rfl rfl ?_
   intro v2 hs2' hB2' hk2'
   try simp only[go_sem]
   refine za6 (P:=prog) (t:=4) (j:=4) (u:= .bool true) hB2' (by show 4<6;decide) rfl rfl rfl ?_
   intro v3 hs3' hB3' hk3'
   try simp only[go_sem]
   refine hK _ _ ?_;clear hK hgd;clear K;try clear gd
   obtain⟨sk,hsk⟩:∃sk:zay,{s2 with sv:=L[i],ref:=true}=sk:=⟨_,rfl⟩
   have hB3:v3.heap[bx]? =some (.cells (stV nv sk).toArray 140 (0,0)):=by rw[←hsk];exact hB3'
   have hEv:Ext v v3:=Keep.to_ext (Keep.to_ext hE1 rfl (fun b hb=>by omega) hk2') rfl (fun b hb=>by omega) hk3'
   have q7:zad v3 (some ⟨b7,0,Option.none⟩)=some ov:=zab (Ext.at hEv hR.h7) rfl
   have dx:zat v3 (some ⟨bx,0,Option.none⟩) 6=some (stV nv sk):=zah hB3 rfl
   repeat refine c_r ?_
   refine rq ?_;intro gd K hgd hK
   try simp (disch:=first|omega|assumption|rfl) only[go_sem,s7,q7,dx]
   refine za4 (C:=StN nv) (zdo nv) (l:=stV nv sk) (a:=sk) (by rfl) (by rfl) (by rfl) (by rfl) ⟨rfl,n1⟩ (by decide) ?_
   intro v4 hE4' hs4' ho4
   try simp only[go_sem]
   refine zaR (zdo nv) (hR.own.ext (hEv.trans hE4')) ho4.rows (by rfl) (by rfl) (by rfl) (by rfl) (by rfl) (by rfl) (by decide) (vr0) (vr0) (by simp;omega) (by decide) (by omega) ?_
   intro ov' v5 ho5 hE5 hk5 hb5
   obtain⟨ao,co,hov,_⟩:=ho5.rows.open
   try simp (disch:=first|omega|assumption|rfl) only[go_sem,s7]
   refine za6 (P:=prog) (t:=137) (j:=0) (u:=ov') (l:=[ov]) ((hk5.block _ (by omega) (fun hb=>by have:=(hR.own.ge hb).1;omega)).trans (Ext.at (hEv.trans hE4') hR.h7)) (by simp) (by rw[hov];rfl) rfl rfl ?_
   intro v6 hs6 h76 hk6
   try simp only[go_sem]
   refine hK _ _ ?_;clear hK hgd;clear K;try clear gd
   have hRn:=hR.app (hEv.trans hE4') ho5 hk5 hb5 h76 hk6
   obtain⟨U2,hU2⟩:∃U2,(fun b=>U' b\/(v4.heap.size<=b/\b<v6.heap.size))=U2:=⟨_,rfl⟩
   rw[hU2]at hRn
   repeat refine c_r ?_
   refine rg2 s36 hi1' ?_
   repeat refine c_r ?_
   refine⟨m - 1,by omega,rfl,i+1,ov',U2,by omega,vq0,(vq1 s35),(vq1 s34),(vq1 s3),(vq1 s7),?_⟩
   rw[zal hi,yaC,←ydl,yaU,ycp,hsk]
   exact hRn
  ·intro hge
   simp only[decide_eq_false_iff_not]at hge
   have hfin:G1++(L.take i).map (fun k=>({s2 with sv:=k,ref:=true}:zay))=(pre++ [y]).flatMap (ze0 N r s2):=by
    rw[yaf (by omega),ybB,hGe,ybJ,ybx,yaF,hho,←hG1,ydl]
   rw[hfin]at hR
   repeat refine c_r ?_
   exact⟨U',⟨hR.e,ov,hR.h7,hR.own,hR.u1,hR.h3⟩,hR.u2,hR.kb.keep⟩
 ·rintro xs U A rfl hszA hUb ⟨hEA,ov,k7,hown,hU,k3⟩ hD
  obtain⟨ao,co,rfl,hco,_⟩:=hown.rows.open
  have q7:zad A (some ⟨b7,0,Option.none⟩)=some (.slice ao _ co):=zab k7 rfl
  repeat refine c_r ?_
  refine rc q7 (P_st.Clip_ok hco) ?_
  rintro _ A1 ⟨rfl,rfl⟩
  refine re trivial ?_
  repeat refine c_r ?_
  refine zcY (.inr rfl) (by rfl) ntmps85 (vr0) hD ?_
  intro Z hkZ hsZ
  have hrows:=hown.rows.take (m:=_) (c2:=_) (ydo _) (ydo _)
  rw[yaT]at hrows
  have hEZ:Ext w Z:=Keep.to_ext hEA rfl (fun b hb=>by omega) hkZ
  refine⟨hEZ,(hown.blk.same.ext hkZ.size).mono (by omega),nv,rfl,hrows.keep hkZ hown.blk.same (fun b h1 _ h2=>by omega),fun x hx=>?_⟩
  obtain⟨h,_,hx⟩:=yaY.1 hx
  rw[zm8 hx,mn]
  exact hr.ext hEZ
theorem znD(c:UInt8):zez (zez c)=zez c:=by
 by_cases h:65<=c/\c<=90
 ·rw[zh2 h];refine zfX (λ h2=>?_);have a:=ybo.1 h.1;have b:=ybo.1 h.2;have d:=ybo.1 h2.2;simp at a b d;have:(c+32).toNat=c.toNat+32:=by rw[ydb];simp;omega
  omega
 ·rw[zfX h,zfX h]
theorem znC(l:List UInt8):zaJ (zaJ l)=zaJ l:=by
 unfold zaJ;rw[ycq];exact ycF λ c _=>znD c
theorem znB(n:Nm):zag (zag n)=zag n:=by
 unfold zag;rw[ycq];exact ycF λ c _=>znC c
section
variable {R : List RecL} {o q n : Nm} {t : Int}
theorem zio:zaN q (zag o)=zaN q o:=by
 unfold zaN;rw[zax,znB]
theorem zlU(n:Nm):∀k,zch (zag n) k=(zch n k).map zag
 |0=>by simp only[zch,yaU,ycp];rw[zhn]
 |k+1=>by simp only[zch,yaU];rw[zlU n k,zhn]
end
/-! types -/
section
variable {R : List RecL} {o q n : Nm} {t u : Int}
theorem zfz{r:ResL}(h:zaT R q n=some r):(r.kind=5\/r.kind=6)/\(r.kind=5->∀d∈r.data,d.ty=39):=by
 unfold zaT at h
 split at h
 ·cases h
 ·split at h
  ·cases h;exact⟨.inl rfl,λ _ d hd=>zh8 (yaO hd)⟩
  ·cases h;exact⟨.inr rfl,λ h=>by cases h⟩
theorem at_kind{b:Bool}:((atL R n t b).kind=1\/(atL R n t b).kind=2\/(atL R n t b).kind=5)/\((atL R n t b).kind=1->∀d∈(atL R n t b).data,d.ty=t)/\((atL R n t b).kind=5->∀d∈(atL R n t b).data,d.ty=5):=by
 unfold atL
 split
 ·exact⟨.inl rfl,(λ _ d hd=>zh8 hd),λ h=>by cases h⟩
 ·split
  ·exact⟨.inr (.inr rfl),(λ h=>by cases h),λ _ d hd=>zh8 (yaO hd)⟩
  ·exact⟨.inr (.inl rfl),(λ h=>by cases h),λ h=>by cases h⟩
end
/-! cuts -/
section
variable {R : List RecL} {o q : Nm} {t u : Int}
theorem zgJ{n:Nm}{i:Nat}:∀{K:Nat},i<=K->∃suf,zch n K=zch (n.drop i) (K - i)++suf
 |0,h=>by
  have:i=0:=by omega
  subst this
  exact⟨[],by simp[zch]⟩
 |K+1,h=>by
  by_cases hi:i=K+1
  ·subst hi
   refine⟨zch n K,?_⟩
   rw[show K+1 - (K+1)=0 from by omega]
   simp[zch]
  ·obtain⟨suf,hs⟩:=zgJ (n:=n) (i:=i) (K:=K) (by omega)
   refine⟨suf,?_⟩
   rw[show K+1 - i=(K - i)+1 from by omega]
   simp only[zch,yav]
   rw[hs,ycA,show i+(K - i+1)=K+1 from by omega]
theorem zht{n:Nm}:∀{K:Nat},∃pre,zch n K=pre++ [n]/\∀x∈pre,∃i,0<i/\i<=K/\x=n.drop i
 |0=>⟨[],by simp[zch],fun x h=>by cases h⟩
 |K+1=>by
  obtain⟨pre,h1,h2⟩:=zht (n:=n) (K:=K)
  refine⟨n.drop (K+1)::pre,by simp only[zch,h1,yav],fun x hx=>?_⟩
  rcases yay.1 hx with rfl|hx
  ·exact⟨K+1,by omega,ydo _,rfl⟩
  ·obtain⟨i,a,b,c⟩:=h2 x hx
   exact⟨i,a,by omega,c⟩
theorem zh1{x:Nm}:∀{pre:List Nm} {suf:List Nm},(∀n∈pre,cutP o R n=false/\n.length≠x.length)->(∀n∈pre,n.length≠q.length)->
  ((∀n∈pre,datC R n 39=[])/\goL o R q (pre++suf)=goL o R q suf)\/((∃n∈pre,datC R n 39≠ [])/\∃r,goL o R q (pre++suf)=some r/\(r.kind=5\/r.kind=6))
 | [],suf,_,_=> .inl ⟨λ n h=>(by cases h),rfl⟩
 |n::pre,suf,h1,h2=>by
  obtain⟨a,b⟩:=h1 n (yal ..);have c:=h2 n (yal ..);simp only[yav,goL];rw[a,if_neg yaV,if_neg c];by_cases hd:datC R n 39=[]
  ·have:zaT R q n= .none:=by unfold zaT;rw[if_pos hd]
   rw[this];rcases zh1 (suf:=suf) (λ m hm=>h1 m (yak _ hm)) (λ m hm=>h2 m (yak _ hm)) with ⟨g1,g2⟩| ⟨⟨m,hm,hm2⟩,g2⟩
   ·refine .inl ⟨λ m hm=>?_,g2⟩;rcases yay.1 hm with rfl|hm
    ·exact hd
    ·exact g1 m hm
   ·exact .inr ⟨⟨m,yak _ hm,hm2⟩,g2⟩
  ·right
   refine⟨⟨n,yal ..,hd⟩,?_⟩;cases hr:zaT R q n with
   |none=>
    unfold zaT at hr;rw[if_neg hd]at hr
    split at hr<;>cases hr
   |some r=>exact⟨r,rfl,(zfz hr).1⟩
theorem zhp{α:Type}{p:α->Bool}{x:α}:∀{l:List α},l.find? p=some x->∃pre suf,l=pre++x::suf/\p x=true/\∀y∈pre,p y=false
 | [],h=>by cases h
 |a::l,h=>by
  rw[List.find?_cons]at h
  split at h
  ·rename_i ha;cases h;exact⟨[],l,rfl,ha,λ y h=>by cases h⟩
  ·rename_i ha;obtain⟨pre,suf,h1,h2,h3⟩:=zhp h;refine⟨a::pre,suf,by rw[h1];rfl,h2,λ y hy=>?_⟩;rcases yay.1 hy with rfl|hy
   ·simpa using ha
   ·exact h3 y hy
theorem zlh(q:Nm):zaN q q=true:=by unfold zaN;simp
theorem zlB(hu:zaN q o=true)(hc:cutL o R q= .none):(zbP o R q t).kind≠4/\(zbP o R q t).kind≠7:=by
 unfold cutL at hc;rw[if_pos hu]at hc;have hno:∀x∈zbS o q,cutP o R x=false:=λ x hx=>by simpa using (ybF.1 hc) x hx
 have h4:∀{l:List Nm} {r:ResL},(∀x∈l,cutP o R x=false)->goL o R q l=some r->r.kind=5\/r.kind=6:=by
  intro l
  induction l with
  |nil=>intro r _ h;cases h
  |cons n l ih=>
   intro r hl h;simp only[goL]at h;rw[hl n (yal ..),if_neg yaV]at h
   split at h
   ·cases h
   ·split at h
    ·rename_i r' hr;cases h;exact(zfz hr).1
    ·exact ih (λ x hx=>hl x (yak _ hx)) h
 unfold zbP;rw[if_neg (by rw[hu];simp)];cases hg:goL o R q (zbS o q) with
 |some r=>
  have:=h4 hno hg;show r.kind≠4/\r.kind≠7;omega
 |none=>
  have key:∀{n:Nm} {b:Bool},(atL R n t b).kind≠4/\(atL R n t b).kind≠7:=fun {n b}=>by
   have:=(at_kind (R:=R) (n:=n) (t:=t) (b:=b)).1;omega
  by_cases he:zbH o R q=true
  ·simp only[if_pos he];exact key
  ·simp only[if_neg he];cases zcp o R q with
   |none=>exact⟨(by decide:(3:Int)≠4),(by decide:(3:Int)≠7)⟩
   |some s=>exact key
theorem look_cut(hs:zl4 R){c:Nm}(hu:zaN q o=true)(hc:cutL o R q=some c):
    (∃k,k<=q.length/\c=q.drop k)/\
    ((∀t,zbP o R c t=zgj R c)/\(∀t,zbP o R q t=zgj R c)/\datC R c 2≠ []\/
     (∀t,(zbP o R c t).kind=5\/(zbP o R c t).kind=6)/\∀t,(zbP o R q t).kind=5\/(zbP o R q t).kind=6):=by
  unfold cutL at hc;rw[if_pos hu]at hc;have hol:=zbU hu;have hdn:zbS o q=zch q (q.length - o.length):=if_pos hol;rw[hdn]at hc;obtain⟨pre,suf,hsp,hcp,hpre⟩:=zhp hc;obtain⟨k,hk,hck⟩:=zb3.1 (show c∈zch q (q.length - o.length) from by rw[hsp];simp);have hkl:k<=q.length:=oM;refine⟨⟨k,hkl,hck⟩,?_⟩;have hcl:c.length=q.length - k:=by rw[hck,ybb]
  have hol2:o.length<c.length:=by
    unfold cutP at hcp;simp only[yaB,ydT]at hcp;exact hcp.1
  have huc:zaN c o=true:=by rw[hck,zlj hkl,hu,Bool.and_true];exact yet hk
  -- what is ahead of the cut is the same from the cut and from the name
  obtain⟨suf2,hsf⟩:=zgJ (n:=q) hk;obtain⟨pre2,hp2,hp3⟩:=zht (n:=q.drop k) (K:=q.length - o.length - k);have hdc:zbS o c=pre2++ [c]:=by
    unfold zbS;rw[if_pos oM,hck,ybb,show q.length - k - o.length=q.length - o.length - k from by omega];exact hp2
  have hlen:∀x∈pre2,x.length<c.length:=λ x hx=>by
    obtain⟨i,a,b,rfl⟩:=hp3 x hx;rw[ybb,ybb];omega
  have hall:zch q (q.length - o.length)=pre2++c::suf2:=by
    rw[hsf,hp2,yla,hck];rfl
  have hpp:pre=pre2:=by
    have h1:pre++c::suf=pre2++c::suf2:=by rw[←hsp,hall]
    -- the first that is a cut
    have hx:∀x∈pre2,cutP o R x=false:=by
      intro x hx
      -- lengths rise along the row
      have hrise:∀(K:Nat),(zch q K).Pairwise (λ a b=>a.length<=b.length):=λ K=>by
        induction K with
        |zero=>simp[zch]
        |succ K ih=>
          simp only[zch];refine yaM.2 ⟨λ y hy=>?_,ih⟩;obtain⟨i,hi,rfl⟩:=zb3.1 hy;rw[ybb,ybb];omega
      have hr:=hrise (q.length - o.length);have hx1:x∈pre++c::suf:=by rw[h1];exact yas _ hx
      rw[hsp]at hr;rcases yai.1 hx1 with h|h
      · exact hpre x h
      · exfalso
        have hlx:=hlen x hx;rcases yay.1 h with rfl|h
        · omega
        · have:=(yap.1 hr).2.1
          have:=(yaM.1 this).1 x h;omega
    have key:∀{a b s1 s2:List Nm},a++c::s1=b++c::s2->(∀x∈a,cutP o R x=false)->(∀x∈b,cutP o R x=false)->a=b:=by
      intro a
      induction a with
      |nil=>
        intro b s1 s2 h _ hb;cases b with
        |nil=>rfl
        |cons y b=>
          simp only[yaI,yav,List.cons.injEq]at h;have:=hb y (yal ..);rw[←h.1,hcp]at this;cases this
      |cons x a ih=>
        intro b s1 s2 h ha hb;cases b with
        |nil=>
          simp only[yaI,yav,List.cons.injEq]at h;have:=ha x (yal ..);rw[h.1,hcp]at this;cases this
        |cons y b=>
          simp only[yav,List.cons.injEq]at h;rw[h.1,ih h.2 (λ z hz=>ha z (yak _ hz)) (λ z hz=>hb z (yak _ hz))]
    exact key h1 hpre hx
  subst hpp;have g1:=zh1 (q:=c) (x:=c) (suf:=[c]) (λ n hn=>⟨hpre n hn,by have:=hlen n hn;omega⟩) (λ n hn=>by have:=hlen n hn;omega);have g2:=zh1 (q:=q) (x:=c) (suf:=c::suf2) (λ n hn=>⟨hpre n hn,by have:=hlen n hn;omega⟩) (λ n hn=>by have:=hlen n hn;omega);have hdq:zbS o q=pre++c::suf2:=by rw[hdn,hall]
  have lk:∀{y:Nm} {r:ResL} (t:Int),zaN y o=true->goL o R y (zbS o y)=some r->zbP o R y t=r:=fun {y r} t hy hr=>by
    unfold zbP;rw[if_neg (by rw[hy];simp),hr]
  have hcc:∀y l,goL o R y (c::l)=some (zgj R c):=λ y l=>by
    simp only[goL];rw[if_pos hcp]
  rcases g1 with ⟨a1,a2⟩| ⟨⟨m,hm,hm2⟩,r,hr,hk1⟩
  · rcases g2 with ⟨_,b2⟩| ⟨⟨m,hm,hm2⟩,_⟩
    · left
      refine⟨λ t=>lk t huc (by rw[hdc,a2,hcc]),λ t=>lk t hu (by rw[hdq,b2,hcc]),?_⟩;unfold cutP hasL at hcp;simp only[yaB]at hcp;obtain⟨r,hr,hr2⟩:=ycD.1 hcp.2;have:r∈ofC R c 2:=by rw[zlv hs];exact ycf.2 ⟨hr,hr2⟩
      intro e;unfold datC at e;rw[ybQ]at e;rw[e]at this;cases this
    · exact absurd (a1 m hm) hm2
  · right
    rcases g2 with ⟨b1,_⟩| ⟨_,r2,hr2,hk2⟩
    · exact absurd (b1 m hm) hm2
    · refine⟨λ t=>?_,λ t=>?_⟩
      · rw[lk t huc (by rw[hdc];exact hr)];exact hk1
      · rw[lk t hu (by rw[hdq];exact hr2)];exact hk2
end
section
variable {R : List RecL} {o q n : Nm} {t u : Int}
theorem zdG{ds:List DatL}{x:Nm}(h:x∈zaz u ds):∃d∈ds,x∈d.names:=by
 unfold zaz at h
 split at h
 ·obtain⟨d,hd,h2⟩:=yaZ.1 h;exact⟨d,hd,List.mem_of_head? h2⟩
 ·cases h
theorem zlX:zaC []=0:=by decide
theorem zmg(hck:∀r∈R,∀n∈r.dat.names,zaC n=0):zaC (toN u ((datC R n t).take 1))=0:=by
 unfold toN;cases hq:(zb7 u ((datC R n t).take 1)).getLast? with
 |none=>exact zlX
 |some x=>
  have h1:=List.mem_of_getLast? hq;obtain⟨d,hd,h2⟩:=zdG (zcz _ _ x h1);obtain⟨r,hr,rfl⟩:=zfY (yaO hd);exact hck r hr x h2
theorem zhI{r:ResL}(h:zaT R q n=some r)(h5:r.kind=5):zaC r.name=0:=by
 unfold zaT at h
 split at h
 ·cases h
 ·split at h
  ·rename_i hc;cases h;exact hc
  ·cases h;cases h5
theorem zkM:∀{l:List Nm} {r:ResL},goL o R q l=some r->r.kind=5->zaC r.name=0
 | [],_,h,_=>by cases h
 |n::l,r,h,h5=>by
  simp only[goL]at h
  split at h
  ·cases h;cases h5
  ·split at h
   ·cases h
   ·split at h
    ·rename_i r' hr;cases h;exact zhI hr h5
    ·exact zkM h h5
theorem zk4(hck:∀r∈R,∀n∈r.dat.names,zaC n=0){b:Bool}(h5:(atL R n t b).kind=5):zaC (atL R n t b).name=0:=by
 unfold atL at h5 ⊢
 split at h5
 ·cases h5
 ·rename_i h1;rw[if_neg h1]
  split at h5
  ·rename_i h2;rw[if_pos h2];exact zmg hck
  ·cases h5
theorem zlC(hck:∀r∈R,∀n∈r.dat.names,zaC n=0)(h5:(zbP o R q t).kind=5):zaC (zbP o R q t).name=0:=by
 unfold zbP at h5 ⊢
 split at h5
 ·cases h5
 rename_i h1;rw[if_neg h1]
 split at h5
 ·rename_i r hr;exact zkM hr h5
 ·rename_i hr
  split at h5
  ·rename_i h2;rw[if_pos h2];exact zk4 hck h5
  ·rename_i h2;rw[if_neg h2]
   split at h5
   ·rename_i s hs;exact zk4 hck h5
   ·cases h5
end
structure AskF(r:ResL):Prop where
 ok:zoa r
 dl:r.data.length<=1000
 nm:r.kind=5->zaC r.name=0
 tg:∀n∈zaz 2 r.data,NmM n
 tc:∀d∈r.data,∀n∈d.names,zaC n=0
 ld:r.kind=4->zaz 2 r.data≠ []
theorem ask_F(hG:NetZ N){s:Int}{t:Int}(mq:NmM q):AskF (askN N s q t):=by
 have hno:AskF ⟨7,[],[],false,[]⟩:=⟨⟨zlx,λ d h=>(by cases h),yba _,yba _,λ x h=>(by cases h)⟩,yba _,λ h=>(by cases h),λ n hn=>(by
  obtain⟨d,hd,_⟩:=zdG hn;cases hd),λ d h=>(by cases h),λ h=>(by cases h)⟩
 unfold askN
 split
 ·cases hz:(N.zones s)[(zer N s q).1.toNat]? with
  |none=>exact hno
  |some z=>
   have gz:=(ze9 hG).1 z (List.mem_of_getElem? hz);have gc:=gz.c;have hf:=look_F (o:=z.o) (P:=λ d=>∀n∈d.names,zaC n=0) gz.gd.names gc.gd (t:=t) mq;have hk:=look_ok (o:=z.o) gc (t:=t) mq;refine⟨hk,?_,zlC gz.gd.names,λ n hn=>?_,hf.dat,?_⟩
   ·have:=hf.dl;have:=gc.len;show(zbP z.o z.recs q t).data.length<=1000;omega
   ·obtain⟨d,hd,h2⟩:=zdG hn;exact(zf0 (hf.dat d hd n h2)).m
   ·intro h4
    dsimp only at h4 ⊢
    have hu:zaN q z.o=true:=by
     cases hu:zaN q z.o with
     |true=>rfl
     |false=>
      unfold zbP at h4;rw[if_pos hu]at h4;cases h4
    cases hcut:cutL z.o z.recs q with
    |none=>exact absurd h4 (zlB (t:=t) hu hcut).1
    |some c=>
     obtain⟨_,hcase⟩:=look_cut gc.srt hu hcut;rcases hcase with ⟨_,c2,hne⟩| ⟨_,c2⟩
     ·rw[c2 t];show zaz 2 (datC z.recs c 2)≠ [];obtain⟨d,hd⟩:=ycB _ hne;obtain⟨r,hr,rfl⟩:=zfY hd;have hl:=gz.gd.lead r hr (by rw[zh8 hd];exact .inl rfl);obtain⟨x,hx⟩:∃x,r.dat.names.head? =some x:=by
       cases hn:r.dat.names with
       |nil=>rw[hn]at hl;cases hl
       |cons x l=>exact⟨x,rfl⟩
      intro he;have:x∈zaz 2 (datC z.recs c 2):=by
       unfold zaz;rw[if_pos (by decide)];exact yaZ.2 ⟨_,hd,hx⟩
      rw[he]at this;cases this
     ·have:=c2 t;omega
 ·exact hno
def zcq(N:NetL)(s:zay)(t:Int):List zay:=
 if s.fin=0 then
  (if (askN N s.sv s.name t).kind=1 then endS s 1 else if (askN N s.sv s.name t).kind=2 then endS s 2 else if (askN N s.sv s.name t).kind=3 then endS s 3 else if (askN N s.sv s.name t).kind=6 then endS s 4 else if (askN N s.sv s.name t).kind=5 then zgV N s (askN N s.sv s.name t).name
  else if (askN N s.sv s.name t).kind=4 then zgi N s (askN N s.sv s.name t) else if s.ref=true then endS s 6 else endS s 5)
 else []
structure StB(s:zay):Prop where
 nm:NmM s.name
 rw0:0<=s.rw
 rw1:s.rw<=1000000
 rf0:0<=s.rf
 rf1:s.rf<=1000000
theorem NextF_ok(hE0:Ext w0 w){s:zay}{t:Int}(hN:NetAt w0 cs N)(hG:NetZ N)(hr:Row w nv (s.name.map vs))(bs:StB s):
  Fn prog 52 #[.agg cs.toArray,.agg (stV nv s).toArray,vi t] w (λ v w'=>Ext w w'/\StF w.heap.size (λ u=>u=nv\/BlkB w.heap.size w' u\/∃l,Row w0 u l) w' v (zcq N s t)):=by
 have hN0:=hN;obtain⟨hv,rv,rfl,hh,hro⟩:=hN.ex;obtain⟨ah,ch,hhv,_⟩:=hh.open;obtain⟨ar,cr,hrv,_⟩:=id hro;obtain⟨an,cn,hnv,_⟩:=id hr;unfold stV;refine enx func52 ntmps52 ?_;repeat refine c_r ?_
 rw[hhv,hrv,hnv];refine rg0 ?_;rw[←hhv,←hrv,←hnv];repeat refine c_r ?_
 rw[zai];refine zaQ ?_;intro w1 hE1 hs1 hA hB;have p5:zad w1 (some ⟨w.heap.size+1,5,.none⟩)=some (vi s.fin):=zab hB rfl;have p0:zad w1 (some ⟨w.heap.size+1,0,.none⟩)=some (vi s.sv):=zab hB rfl;have p1:zad w1 (some ⟨w.heap.size+1,1,.none⟩)=some nv:=zab hB rfl;have p4:zad w1 (some ⟨w.heap.size+1,4,.none⟩)=some (.bool s.ref):=zab hB rfl;have dN:zat w1 (some ⟨w.heap.size,0,.none⟩) 4=some [hv,rv,vi N.rw,vi N.rf]:=zah hA rfl;have dS:zat w1 (some ⟨w.heap.size+1,0,.none⟩) 6=some (stV nv s):=zah hB rfl;repeat refine c_r ?_
 unfold zcq;by_cases hf:s.fin=0
 rotate_left
 ·rw[if_neg hf];refine rg3 p5 yn0 (yef hf) ?_;repeat refine c_r ?_
  refine wt yaS ?_;repeat (first|refine c_r ?_|refine rg0 ?_)
  refine rt0 ntmps52 ?_;exact⟨hE1,BlkB.nil,nv,.inl rfl,Rows.nil _ _ _,λ x hx=>by cases hx⟩
 rw[if_pos hf];refine rg3 p5 yn0 (yet hf) ?_;repeat refine c_r ?_
 refine wf yaN ?_;repeat refine c_r ?_
 refine rq ?_;intro gd K hgd hK;try simp (disch:=first|omega|assumption|rfl) only[go_sem,dN,p0,p1,yad,yn0]
 refine yfm (Ask_ok (s:=s.sv) (t:=t) (hE0.trans hE1) hN0 hG (hr.ext hE1) bs.nm) ?_;rintro _ w2 ⟨hE2,cs,rfl,hres⟩;have hra:=hres.at ((hE0.trans hE1).trans hE2);have hmvB:∀u,cs[2]? =some u->BlkB w.heap.size w2 u\/∃l,Row w0 u l:=λ u hu=>by
  obtain⟨dv,mv,gv,e,_,_,h3,_⟩:=hres.ex;rw[e]at hu;obtain rfl:mv=u:=by simpa using hu
  exact h3.imp (λ h=>h.2.mono hE1.size) λ h=>⟨_,h⟩
 have hF:=ask_F (s:=s.sv) (t:=t) hG bs.nm;try simp only[go_sem]
 refine zaV (P:=prog) (l:=cs) (by rw[hres.cells.1];rfl) hres.cells.2 (by rw[hres.cells.1];rfl) rfl ?_;intro w3 hE3 hs3 hB3;try simp only[go_sem]
 refine hK _ _ ?_;clear hK hgd;clear K;try clear gd
 obtain⟨r,hre⟩:∃r,askN N s.sv s.name t=r:=⟨_,rfl⟩;rw[hre]at hra hF hres ⊢;have hra3:=hra.ext hE3;have d3:=zah (n:=5) hB3 hres.cells.1.symm;obtain⟨b,hb⟩:∃b,w2.heap.size=b:=⟨_,rfl⟩;rw[hb]at hB3 d3 ⊢;have hE23:=hE2.trans hE3;have hE13:=hE1.trans hE23;have hE03:=hE0.trans hE13;have dN3:=zac hE23 dN;have dS3:=zac hE23 dS;have p43:=zaa hE23 p4;clear hres hra p5 p0 p1 p4 dN dS;have k0:zad w3 (some ⟨b,0,.none⟩)=some (vi r.kind):=by
  obtain⟨dv,mv,gv,e,_⟩:=hra3.ex;rw[e]at hB3;exact zab hB3 rfl
 have hrn:=hr.ext hE13;repeat refine c_r ?_
 refine rg2 k0 yad ?_;repeat refine c_r ?_
 by_cases k1:r.kind=1
 ·rw[if_pos k1];refine rg1 (yet k1) ?_;repeat refine c_r ?_
  refine wt trivial ?_;repeat refine c_r ?_
  refine rc dS3 (zdu w3 hrn s 1) ?_;rintro v w4 ⟨hE4,hv⟩;refine re trivial ?_;repeat refine c_r ?_
  refine rt0 ntmps52 ?_;exact⟨hE13.trans hE4,(zcV hv (hrn.ext hE4)).mono hE13.size λ u h=> .inl h⟩
 rw[if_neg k1];refine rg1 (yef k1) ?_;repeat refine c_r ?_
 refine wf trivial ?_;repeat refine c_r ?_
 by_cases k2:r.kind=2
 ·rw[if_pos k2];refine rg1 (yet k2) ?_;repeat refine c_r ?_
  refine wt trivial ?_;repeat refine c_r ?_
  refine rc dS3 (zdu w3 hrn s 2) ?_;rintro v w4 ⟨hE4,hv⟩;refine re trivial ?_;repeat refine c_r ?_
  refine rt0 ntmps52 ?_;exact⟨hE13.trans hE4,(zcV hv (hrn.ext hE4)).mono hE13.size λ u h=> .inl h⟩
 rw[if_neg k2];refine rg1 (yef k2) ?_;repeat refine c_r ?_
 refine wf trivial ?_;repeat refine c_r ?_
 by_cases k3:r.kind=3
 ·rw[if_pos k3];refine rg1 (yet k3) ?_;repeat refine c_r ?_
  refine wt trivial ?_;repeat refine c_r ?_
  refine rc dS3 (zdu w3 hrn s 3) ?_;rintro v w4 ⟨hE4,hv⟩;refine re trivial ?_;repeat refine c_r ?_
  refine rt0 ntmps52 ?_;exact⟨hE13.trans hE4,(zcV hv (hrn.ext hE4)).mono hE13.size λ u h=> .inl h⟩
 rw[if_neg k3];refine rg1 (yef k3) ?_;repeat refine c_r ?_
 refine wf trivial ?_;repeat refine c_r ?_
 by_cases k6:r.kind=6
 ·rw[if_pos k6];refine rg1 (yet k6) ?_;repeat refine c_r ?_
  refine wt trivial ?_;repeat refine c_r ?_
  refine rc dS3 (zdu w3 hrn s 4) ?_;rintro v w4 ⟨hE4,hv⟩;refine re trivial ?_;repeat refine c_r ?_
  refine rt0 ntmps52 ?_;exact⟨hE13.trans hE4,(zcV hv (hrn.ext hE4)).mono hE13.size λ u h=> .inl h⟩
 rw[if_neg k6];refine rg1 (yef k6) ?_;repeat refine c_r ?_
 refine wf trivial ?_;repeat refine c_r ?_
 by_cases k5:r.kind=5
 ·rw[if_pos k5];refine rg1 (yet k5) ?_;repeat refine c_r ?_
  refine wt trivial ?_;obtain⟨dv,mv,gv,e,_,hnm,_⟩:=hra3.ex;rw[e]at hB3;have k2:zad w3 (some ⟨b,2,.none⟩)=some mv:=zab hB3 rfl;repeat refine c_r ?_
  refine rc (an4 dS3 dN3 k2 yn0) (alias_ok hE03 hN0 hG hrn hnm (zf0 (hF.nm k5)).m bs.rw0 bs.rw1) ?_;rintro v w4 ⟨hE4,hv⟩;refine re trivial ?_;repeat refine c_r ?_
  refine rt0 ntmps52 ?_;exact⟨hE13.trans hE4,hv.mono hE13.size λ u h=>by
   rcases h with h|h
   ·exact .inl h
   ·rw[h];exact .inr ((hmvB mv (by rw[e];rfl)).imp (λ h=>h.ext (by have:=hE3.size;have:=hE4.size;omega)) id)⟩
 rw[if_neg k5];refine rg1 (yef k5) ?_;repeat refine c_r ?_
 refine wf trivial ?_;repeat refine c_r ?_
 by_cases k4:r.kind=4
 ·rw[if_pos k4];refine rg1 (yet k4) ?_;repeat refine c_r ?_
  refine wt trivial ?_;repeat refine c_r ?_
  refine rc (an3 dS3 dN3 d3) (refer_ok hE03 hN0 hG hrn hra3 hF.ok hF.dl hF.tg bs.rf0 bs.rf1) ?_;rintro v w4 ⟨hE4,hv⟩;refine re trivial ?_;repeat refine c_r ?_
  refine rt0 ntmps52 ?_;exact⟨hE13.trans hE4,hv.mono hE13.size λ u h=> .inl h⟩
 rw[if_neg k4];refine rg1 (yef k4) ?_;repeat refine c_r ?_
 refine wf trivial ?_;repeat refine c_r ?_
 refine rg2 p43 yad ?_;repeat refine c_r ?_
 cases hrf:s.ref with
 |true=>
  rw[if_pos rfl];refine wt hrf ?_;repeat refine c_r ?_
  refine rc dS3 (zdu w3 hrn s 6) ?_;rintro v w4 ⟨hE4,hv⟩;refine re trivial ?_;repeat refine c_r ?_
  refine rt0 ntmps52 ?_;exact⟨hE13.trans hE4,(zcV hv (hrn.ext hE4)).mono hE13.size λ u h=> .inl h⟩
 |false=>
  rw[if_neg yaV];refine wf hrf ?_;repeat refine c_r ?_
  refine rc dS3 (zdu w3 hrn s 5) ?_;rintro v w4 ⟨hE4,hv⟩;refine re trivial ?_;repeat refine c_r ?_
  refine rt0 ntmps52 ?_;exact⟨hE13.trans hE4,(zcV hv (hrn.ext hE4)).mono hE13.size λ u h=> .inl h⟩
structure zg1 where
 o:Nm
 path:Lab
structure SrvL where
 host:Nm
 addr:List UInt8
 places:List zg1
structure zil where
 servers:List SrvL
 roots:List Int
 rw:Int
 rf:Int
structure PlaceC(w:World)(cs:List Value)(p:zg1):Prop where
 ex:∃ov,cs=[ov,vs p.path]/\Row w ov (p.o.map vs)
structure SrvC(w:World)(cs:List Value)(s:SrvL):Prop where
 ex:∃nv a b c d pv,cs=[nv,zae a,zae b,zae c,zae d,pv]/\s.addr=[a,b,c,d]/\Row w nv (s.host.map vs)/\Rows 2 (PlaceC w) w pv s.places
structure ConfAt(w:World)(cs:List Value)(c:zil):Prop where
 ex:∃sv rv,cs=[sv,rv,vi c.rw,vi c.rf]/\Rows 6 (SrvC w) w sv c.servers/\Row w rv (c.roots.map vi)
theorem PlaceC.ext{p:zg1}(h:PlaceC w cs p)(hE:Ext w x):PlaceC x cs p:=by
 obtain⟨ov,e,h1⟩:=h.ex;exact⟨ov,e,h1.ext hE⟩
theorem SrvC.ext{z:SrvL}(h:SrvC w cs z)(hE:Ext w x):SrvC x cs z:=by
 obtain⟨nv,a,b,c,d,zv,e,ha,h1,h2⟩:=h.ex;exact⟨nv,a,b,c,d,zv,e,ha,h1.ext hE,Rows.extC (λ _ _ h=>PlaceC.ext h hE) h2 hE⟩
theorem ConfAt.ext{z:zil}(h:ConfAt w cs z)(hE:Ext w x):ConfAt x cs z:=by
 obtain⟨hv,rv,e,h1,h2⟩:=h.ex;exact⟨hv,rv,e,Rows.extC (λ _ _ h=>SrvC.ext h hE) h1 hE,h2.ext hE⟩
structure Sh(n:Nm):Prop where
 len:n.length<=130
 lb:∀l∈n,l.length<=100
theorem Sh.m(h:Sh n):NmM n:=⟨λ l hl=>by have:=h.lb l hl;omega,by have:=h.len;omega⟩
structure FewC(c:zil):Prop where
 sl:c.servers.length<=20
 rl:c.roots.length<=20
 s:∀s∈c.servers,Sh s.host/\s.places.length<=20/\∀p∈s.places,Sh p.o/\p.path.length<=50
theorem zk8(w:World){a:Value}(ha:Row w a (n.map vs)):
  Fn prog 70 #[a] w (λ v w'=>Ext w w'/\∃t,v= .bool t/\(t=true->Sh n)):=by
 obtain⟨a1,c1,rfl,_,h1⟩:=ha;simp only[ylm,yaA]at h1 ⊢;refine enx func70 ntmps70 ?_;repeat refine c_r ?_
 refine rg0 ?_;repeat refine c_r ?_
 by_cases hn:(n.length:Int)>130
 ·refine rg1 (yet hn) ?_;repeat refine c_r ?_
  refine wt trivial ?_;repeat (first|refine c_r ?_|refine rg0 ?_)
  refine rt0 ntmps70 ?_;exact⟨Keep.refl _ _,_,rfl,λ h=>by cases h⟩
 refine rg1 (yef hn) ?_;repeat refine c_r ?_
 refine wf trivial ?_;repeat refine c_r ?_
 refine rg0 ?_;repeat refine c_r ?_
 refine zan (λ m σ ds A=>ds=[]/\∃(i:Nat),i+m=n.length/\σ 3=vi i/\σ 0= .slice a1 n.length c1/\Ext w A/\∀j (h:j<n.length),j<i->n[j].length<=100) n.length ?_ ?_
 ·exact⟨rfl,0,oM,vr0,vq0,Keep.refl _ _,λ j h h2=>absurd h2 oM⟩
 rintro m σ ds A ⟨rfl,i,him,s3,s0,hEA,ht⟩;repeat refine c_r ?_
 refine rg2 s3 s0 ?_;repeat refine c_r ?_
 refine wc0 ?_ ?_
 ·intro hlt;simp only[ydT]at hlt;have hi:i<n.length:=oM;have hi0:=cj i;have hi1':=ci i;have g1:=zaa hEA (h1 i hi);obtain⟨x1,rfl⟩:=yxs (zaf (h1 i hi));repeat refine c_r ?_
  refine rq ?_;intro gd K hgd hK;simp (disch:=first|omega|assumption|rfl) only[go_sem,s3,s0,hi0,hlt,g1,ybt];refine hK _ _ ?_;clear hK hgd;clear K gd;repeat refine c_r ?_
  by_cases hl:(n[i].length:Int)>100
  ·refine wt (yet hl) ?_;repeat (first|refine c_r ?_|refine rg0 ?_)
   refine rt0 ntmps70 ?_;exact⟨hEA,_,rfl,λ h=>by cases h⟩
  ·refine wf (yef hl) ?_;repeat refine c_r ?_
   refine rg2 s3 hi1' ?_;repeat refine c_r ?_
   refine⟨m - 1,oM,rfl,i+1,oM,vq0,vq1 s0,hEA,λ j hj hji=>?_⟩;by_cases hj2:j=i
   ·subst hj2;omega
   ·exact ht j hj oM
 ·intro hge;simp only[ydF]at hge;repeat (first|refine c_r ?_|refine rg0 ?_)
  refine rt0 ntmps70 ?_;refine⟨hEA,_,rfl,λ _=>⟨oM,λ l hl=>?_⟩⟩;obtain⟨j,hj,rfl⟩:=ybh.1 hl;exact ht j hj oM
theorem RPath_ok(w:World){l:Lab}(hl:l.length<=1000000):
  Fn prog 107 #[vs l] w (λ v w'=>Ext w w'/\∃t,v= .bool t):=by
 refine enx func107 ntmps107 ?_;refine gz0 ?_;refine zan (λ m σ ds A=>ds=[]/\∃(i:Nat),i+m=l.length/\σ 3=vi i/\σ 0=vs l/\Ext w A) l.length ?_ ?_
 ·exact⟨rfl,0,oM,vr0,vq0,Keep.refl _ _⟩
 rintro m σ ds A ⟨rfl,i,him,s3,s0,hEA⟩;refine gz (az2 s3 s0) ?_;refine wc0 ?_ ?_
 ·intro hlt;simp only[ydT]at hlt;have hi:i<l.length:=oM;have hi0:=cj i;have hi2:((i:Int)).toNat<l.length:=oM;have hi1':=ci i;refine gz (az2 s3 s0) ?_;refine wc0 ?_ ?_
  ·intro _;refine gz0 ?_;refine rt0 ntmps107 ?_;exact⟨hEA,_,rfl⟩
  ·intro _;refine gz (az2 s3 hi1') ?_;exact⟨m - 1,oM,rfl,i+1,oM,vq0,vq1 s0,hEA⟩
 ·intro hge;refine gz s0 ?_;refine rt0 ntmps107 ?_;exact⟨hEA,_,rfl⟩
theorem zkn{w:World}{sv:Value}{l:List SrvL}(hs:Rows 6 (SrvC w) w sv l):∃a c,sv= .slice a l.length c/\∀i (h:i<l.length),∃xa xi x5 nv ap cp,a=some xa/\adr (some xa) (i*6)=some xi/\adr (some xi) 5=some x5/\zad w (some xi)=some nv/\Row w nv (l[i].host.map vs)/\
  zad w (some x5)=some (.slice ap l[i].places.length cp)/\(∃b1 b2 b3 b4,l[i].addr=[b1,b2,b3,b4]/\zat w (some xi) 6=some [nv,zae b1,zae b2,zae b3,zae b4,.slice ap l[i].places.length cp])/\Rows 2 (PlaceC w) w (.slice ap l[i].places.length cp) l[i].places/\
  ∀k (h:k<l[i].places.length),∃xp xk xk1 ov,ap=some xp/\adr (some xp) (k*2)=some xk/\adr (some xk) 1=some xk1/\zad w (some xk)=some ov/\Row w ov (l[i].places[k].o.map vs)/\zad w (some xk1)=some (vs l[i].places[k].path):=by
 obtain⟨a,c,rfl,_,hg⟩:=hs.open;refine⟨a,c,rfl,λ i hi=>?_⟩;obtain⟨cs,hcs,hS⟩:=hg i hi;obtain⟨nv,b1,b2,b3,b4,pv,rfl,ha,hn,hp⟩:=hS.ex;have hp0:=hp;obtain⟨ap,cp,rfl,_,hgp⟩:=hp.open;obtain⟨xa,rfl⟩:=yxs (zak hcs);obtain⟨xi,hxi⟩:∃xi,adr (some xa) (i*6)=some xi:=⟨_,rfl⟩;obtain⟨x5,hx5⟩:∃x,adr (some xi) 5=some x:=⟨_,rfl⟩;rw[hxi]at hcs;have h0:=zaq (j:=0) hcs rfl;rw[zar]at h0;have h5:=zaq (j:=5) hcs rfl;rw[hx5]at h5;refine⟨xa,xi,x5,nv,ap,cp,rfl,hxi,hx5,h0,hn,h5,⟨b1,b2,b3,b4,ha,hcs⟩,hp0,λ k hk=>?_⟩;obtain⟨c2,hc2,hP⟩:=hgp k hk;obtain⟨ov,rfl,ho⟩:=hP.ex;obtain⟨xp,rfl⟩:=yxs (zak hc2);obtain⟨xk,hxk⟩:∃xi,adr (some xp) (k*2)=some xi:=⟨_,rfl⟩;obtain⟨xk1,hxk1⟩:∃x,adr (some xk) 1=some x:=⟨_,rfl⟩;rw[hxk]at hc2;have g0:=zaq (j:=0) hc2 rfl;rw[zar]at g0;have g1:=zaq (j:=1) hc2 rfl;rw[hxk1]at g1;exact⟨xp,xk,xk1,ov,rfl,hxk,hxk1,g0,ho,g1⟩
theorem Few15_ok(w:World){c:zil}(hc:ConfAt w cs c):
  Fn prog 40 #[.agg cs.toArray] w (λ v w'=>Ext w w'/\∃t,v= .bool t/\(t=true->FewC c)):=by
 obtain⟨sv,rv,rfl,hs,hr⟩:=hc.ex;obtain⟨aS,cS,rfl,hat⟩:=zkn hs;obtain⟨ar,cr,rfl,_⟩:=hr;simp only[ylm];refine enx func40 ntmps40 ?_;refine gz0 ?_;refine zav ?_;intro w1 hE1 hs1 hA;have p0:zad w1 (some ⟨w.heap.size,0,.none⟩)=some (.slice aS c.servers.length cS):=zab hA rfl;have p1:zad w1 (some ⟨w.heap.size,1,.none⟩)=some (.slice ar c.roots.length cr):=zab hA rfl;refine cZ ?_;by_cases h1:(c.servers.length:Int)>20
 ·refine rgg [(4,9)] (an3 p0 yad (yet h1)) ?_;refine cZ ?_;refine wt trivial ?_;refine gz0 ?_;refine rt0 ntmps40 ?_;exact⟨hE1,_,rfl,λ h=>by cases h⟩
 by_cases h2:(c.roots.length:Int)>20
 ·refine rgg [(4,9)] (an6 p0 yad (yef h1) p1 yn0 (yet h2)) ?_;refine cZ ?_;refine wt trivial ?_;refine gz0 ?_;refine rt0 ntmps40 ?_;exact⟨hE1,_,rfl,λ h=>by cases h⟩
 refine rgg [(4,9)] (an6 p0 yad (yef h1) p1 yn0 (yef h2)) ?_;refine cZ ?_;refine wf trivial ?_;refine gz0 ?_;refine zan (λ m σ ds A=>ds=[]/\∃(i:Nat),i+m=c.servers.length/\σ 3=vi i/\σ 1= .pointer (some ⟨w.heap.size,0,.none⟩)/\Ext w1 A/\∀j (h:j<c.servers.length),j<i->Sh c.servers[j].host/\c.servers[j].places.length<=20/\∀p∈c.servers[j].places,Sh p.o/\p.path.length<=50) c.servers.length ?_ ?_
 ·exact⟨rfl,0,oM,vr0,vq0,Keep.refl _ _,λ j h h2=>absurd h2 oM⟩
 rintro m σ ds A ⟨rfl,i,him,s3,s1,hEA,ht⟩;have p0A:=zaa hEA p0;refine gz (az4 s3 s1 p0A yad) ?_;refine wc0 ?_ ?_
 ·intro hlt;simp only[ydT]at hlt;have hi:i<c.servers.length:=oM;have hi0:=cj i;have hi1':=ci i;obtain⟨xa,xi,x5,nv,ap,cp,rfl,hxi,hx5,g0,hn,g5,_,_,hpl⟩:=hat i hi;obtain⟨s,hse⟩:∃s,c.servers[i]=s:=⟨_,rfl⟩;rw[hse]at hn g5;simp only[hse]at hpl;have hz0:adr (some xi) 0=some xi:=zar _;have g0A:=zaa (hE1.trans hEA) g0;refine cZ ?_;refine rcg [(8,30)] (an9 s3 s1 p0A yad hi0 hlt hxi hz0 g0A) (zk8 A (hn.ext (hE1.trans hEA))) ?_;rintro _ A1 ⟨hE2,t,rfl,hsh⟩;have hEA1:=hEA.trans hE2;have p0B:=zaa hEA1 p0;have g5B:=zaa (hE1.trans hEA1) g5;cases t with
  |false=>
   refine reg [(8,30)] yaS ?_;refine cZ ?_;refine wt trivial ?_;refine gz0 ?_;refine rt0 ntmps40 ?_;exact⟨hE1.trans hEA1,_,rfl,λ h=>by cases h⟩
  |true=>
  by_cases h3:(s.places.length:Int)>20
  ·refine reg [(8,30)] (an2 (an9 s3 s1 p0B yad hi0 hlt hxi hx5 g5B) (an2 yaN (yet h3))) ?_;refine cZ ?_;refine wt trivial ?_;refine gz0 ?_;refine rt0 ntmps40 ?_;exact⟨hE1.trans hEA1,_,rfl,λ h=>by cases h⟩
  refine reg [(8,30)] (an2 (an9 s3 s1 p0B yad hi0 hlt hxi hx5 g5B) (an2 yaN (yef h3))) ?_;refine cZ ?_;refine wf trivial ?_;refine gz0 ?_;refine zan (λ m σ ds B=>ds=[]/\∃(k:Nat),k+m=s.places.length/\σ 4=vi k/\σ 3=vi i/\σ 1= .pointer (some ⟨w.heap.size,0,.none⟩)/\Ext w1 B/\∀j (h:j<s.places.length),j<k->Sh s.places[j].o/\s.places[j].path.length<=50) s.places.length ?_ ?_
  ·exact⟨rfl,0,oM,vr0,vq1 s3,vq1 s1,hEA1,λ j h h2=>absurd h2 oM⟩
  clear s3 s1;rintro m2 σ2 ds2 B ⟨rfl,k,hkm,s4,s3,s1,hEB,ht2⟩;have p0C:=zaa hEB p0;have g5C:=zaa (hE1.trans hEB) g5;refine gz (az2 (az7 s4 s3 s1 (an3 p0C yad g5C) hi0 hlt hxi) (az2 hx5 trivial)) ?_;refine wc0 ?_ ?_
  ·intro hlt2;simp only[ydT]at hlt2;have hk:k<s.places.length:=oM;have hk0:=cj k;have hk1':=ci k;obtain⟨xp,xk,xk1,ov,rfl,hxk,hxk1,f0,ho,f1⟩:=hpl k hk;have hz1:adr (some xk) 0=some xk:=zar _;have f0C:=zaa (hE1.trans hEB) f0;refine cZ ?_;refine rcg [(12,63)] (an2 (an9 s4 s3 s1 p0C yad g5C hi0 hlt hxi) (an7 hx5 hk0 hlt2 hxk hz1 f0C trivial)) (zk8 B (ho.ext (hE1.trans hEB))) ?_;rintro _ B1 ⟨hE3,t,rfl,hsh2⟩;have hEB1:=hEB.trans hE3;cases t with
   |false=>
    refine reg [(12,63)] yaS ?_;refine cZ ?_;refine wt trivial ?_;refine gz0 ?_;refine rt0 ntmps40 ?_;exact⟨hE1.trans hEB1,_,rfl,λ h=>by cases h⟩
   |true=>
   have p0D:=zaa hEB1 p0;have g5D:=zaa (hE1.trans hEB1) g5;have f1D:=zaa (hE1.trans hEB1) f1;by_cases h4:((s.places[k].path).length:Int)>50
   ·refine reg [(12,63)] (an3 (an9 s4 s3 s1 p0D yad g5D hi0 hlt hxi) (an6 hx5 hk0 hlt2 hxk hxk1 f1D) (an2 yaN (yet h4))) ?_;refine cZ ?_;refine wt trivial ?_;refine gz0 ?_;refine rt0 ntmps40 ?_;exact⟨hE1.trans hEB1,_,rfl,λ h=>by cases h⟩
   refine reg [(12,63)] (an3 (an9 s4 s3 s1 p0D yad g5D hi0 hlt hxi) (an6 hx5 hk0 hlt2 hxk hxk1 f1D) (an2 yaN (yef h4))) ?_;refine cZ ?_;refine wf trivial ?_;refine gz (az2 s4 hk1') ?_;refine⟨m2 - 1,oM,rfl,k+1,oM,vq0,vq1 s3,vq1 s1,hEB1,λ j hj hjk=>?_⟩;by_cases hj2:j=k
   ·subst hj2;exact⟨hsh2 rfl,oM⟩
   ·exact ht2 j hj oM
  ·intro hge2;simp only[ydF]at hge2;refine gz (az2 s3 hi1') ?_;refine⟨m - 1,oM,rfl,i+1,oM,vq0,vq1 s1,hEB,λ j hj hji=>?_⟩;by_cases hj2:j=i
   ·subst hj2;rw[hse];refine⟨hsh rfl,oM,λ p hp=>?_⟩;obtain⟨k2,hk2,rfl⟩:=ybh.1 hp;exact ht2 k2 hk2 oM
   ·exact ht j hj oM
 ·intro hge;simp only[ydF]at hge;refine gz0 ?_;refine rt0 ntmps40 ?_;refine⟨hE1.trans hEA,_,rfl,λ _=>⟨oM,oM,λ s hs=>?_⟩⟩;obtain⟨j,hj,rfl⟩:=ybh.1 hs;exact ht j hj oM
section
variable {P : Program} {d : Option Tmp} {ty : TypeId} {ps : String} {af : Array Edge} {g : Option (Nat × Bool)} {ρ : Operand -> Value} {w : World} {K : Value -> World -> Prop}
theorem zfS{cs:Array Value}(he:P.underlying e=some (.int .u8))(hv:cs[i]? =some v):(part e cs i).run P w= .ok v w:=by
 have hi:(isAgg e).run P w= .ok false w:=by simp[isAgg,underlying,program,Sem.run,he]
 unfold part;simp only[yaJ,hi,yaz,ydg,if_false,hv,yaR]
theorem zdT(he:P.underlying e=some (.int .u8))(n:Nat)(a b:UInt8):(Op.equalIn (n+1) e (zae a) (zae b)).run P w= .ok (decide (a=b)) w:=by
 have:((a.toNat:Int)==(b.toNat:Int))=decide (a=b):=by
  by_cases h:a=b
  ·subst h;simp
  ·rw[yef h];have:a.toNat≠b.toNat:=λ h2=>h (ydd.1 h2);simp;omega
 simp[Op.equalIn,underlying,program,Sem.run,he,zae,this]
theorem eqIn_arr{inf:TypeInfo}(ht:P.underlying t=some (.array 4 e))(he:P.underlying e=some (.int .u8))(hi:P.info? e=some inf)(hs:inf.size=1)(n:Nat)(a b c d a' b' c' d':UInt8):
  (Op.equalIn (n+2) t (.agg #[zae a,zae b,zae c,zae d]) (.agg #[zae a',zae b',zae c',zae d'])).run P w= .ok (decide ([a,b,c,d]=[a',b',c',d'])) w:=by
 rw[Op.equalIn];have hsz:(sizeOf e).run P w= .ok 1 w:=by simp[sizeOf,typeInfo,program,Sem.run,hi,hs]
 have hu:(underlying t).run P w= .ok (.array 4 e) w:=by simp[underlying,program,Sem.run,ht]
 simp only[yaJ,hu,yaz,hsz,Std.Legacy.Range.forIn_eq_forIn_range',Std.Legacy.Range.size,List.range'];have p0:∀x0 x1 x2 x3:Value,(part e #[x0,x1,x2,x3] 0).run P w= .ok x0 w:=λ _ _ _ _=>zfS he rfl;have p1:∀x0 x1 x2 x3:Value,(part e #[x0,x1,x2,x3] 1).run P w= .ok x1 w:=λ _ _ _ _=>zfS he rfl;have p2:∀x0 x1 x2 x3:Value,(part e #[x0,x1,x2,x3] 2).run P w= .ok x2 w:=λ _ _ _ _=>zfS he rfl;have p3:∀x0 x1 x2 x3:Value,(part e #[x0,x1,x2,x3] 3).run P w= .ok x3 w:=λ _ _ _ _=>zfS he rfl;by_cases h1:a=a'
 ·by_cases h2:b=b'
  ·by_cases h3:c=c'
   ·by_cases h4:d=d'
    ·simp[ycO,yaJ,p0,p1,p2,p3,zdT he,h1,h2,h3,h4]
    ·simp[ycO,yaJ,p0,p1,p2,p3,zdT he,h1,h2,h3,h4]
   ·simp[ycO,yaJ,p0,p1,p2,p3,zdT he,h1,h2,h3]
  ·simp[ycO,yaJ,p0,p1,p2,p3,zdT he,h1,h2]
 ·simp[ycO,yaJ,p0,p1,p2,p3,zdT he,h1]
theorem op_eqA{yt:TypeId}{x y:Operand}{inf:TypeInfo}{a b c d1 a' b' c' d':UInt8}(ht:P.underlying t=some (.array 4 e))(he:P.underlying e=some (.int .u8))(hi:P.info? e=some inf)(hs:inf.size=1)(hg:P.eqGuardType P.depth t=false)
  (hx:ρ x= .agg #[zae a,zae b,zae c,zae d1]) (hy:ρ y= .agg #[zae a',zae b',zae c',zae d']) (h:K (.bool (decide ([a,b,c,d1]=[a',b',c',d']))) w):
  opW P ⟨d,.binOp .eql t x y yt,ty,ps,af,g⟩ ρ w K:=by
 have h2:(Op.equal t (.agg #[zae a,zae b,zae c,zae d1]) (.agg #[zae a',zae b',zae c',zae d'])).run P w= .ok (decide ([a,b,c,d1]=[a',b',c',d'])) w:=eqIn_arr ht he hi hs 9998 a b c d1 a' b' c' d';have hr:(do eqGuard .eql t x y (.agg #[zae a,zae b,zae c,zae d1]) (.agg #[zae a',zae b',zae c',zae d']);binOp .eql t (.agg #[zae a,zae b,zae c,zae d1]) (.agg #[zae a',zae b',zae c',zae d']):Sem Value).run P w= .ok (.bool (decide ([a,b,c,d1]=[a',b',c',d']))) w:=by
  simp[eqGuard,binOp,h2,program,Sem.run,hg]
 have:=zaI (P:=P) (K:=K) hr h;rw[←hx,←hy]at this;exact this
end
theorem Sh.lb9(h:Sh n):(∀l∈n,l.length<=1000000000)/\n.length<=1000000000:=⟨λ l hl=>by have:=h.lb l hl;omega,by have:=h.len;omega⟩
theorem zn7(w:World){c:zil}(hc:ConfAt w cs c)(hf:FewC c)(hi:i<c.servers.length):
  Fn prog 71 #[.agg cs.toArray,vi i] w (λ v w'=>Ext w w'/\∃e,v=vi e):=by
 obtain⟨sv,rv,rfl,hs,hr⟩:=hc.ex;obtain⟨aS,cS,rfl,hat⟩:=zkn hs;obtain⟨ar,cr,rfl,_⟩:=hr;simp only[ylm];have hsl:=hf.sl;refine enx func71 ntmps71 ?_;refine gz0 ?_;refine zav ?_;intro w1 hE1 hs1 hA;have p0:zad w1 (some ⟨w.heap.size,0,.none⟩)=some (.slice aS c.servers.length cS):=zab hA rfl;obtain⟨xa,xi,x5,nv,ap,cp,rfl,hxi,hx5,g0,hn,g5,⟨b1,b2,b3,b4,hadr,hcs⟩,hpr,hpl⟩:=hat i hi;obtain⟨s,hse⟩:∃s,c.servers[i]=s:=⟨_,rfl⟩;obtain⟨fs1,fs2,fs3⟩:=hf.s s (hse▸yac hi);rw[hse]at hn g5 hadr hcs hpr;simp only[hse]at hpl;have n1:=hn.isOne;have i0:=cj i;have i1:(i:Int)<(c.servers.length:Int):=oM;have d:=zac hE1 hcs;refine rqz ?_;intro gd K hgd hK;refine sgz (az6 p0 yad i0 i1 hxi d) ?_;refine zaV (P:=prog) (l:=[nv,zae b1,zae b2,zae b3,zae b4,.slice ap s.places.length cp]) rfl (λ v hv=>by simp at hv;rcases hv with rfl|rfl|rfl|rfl|rfl|rfl<;>first|exact n1|rfl) rfl rfl ?_;intro w2 hE2 hs2 hB;try simp only[go_sem]
 apply hK;obtain⟨b5,hb5⟩:∃b,w1.heap.size=b:=⟨_,rfl⟩;rw[hb5]at hB ⊢;have hE12:=hE1.trans hE2;have p02:=zaa hE2 p0;have q0:zad w2 (some ⟨b5,0,.none⟩)=some nv:=zab hB rfl;have q1:zat w2 (some ⟨b5,1,.none⟩) 4=some [zae b1,zae b2,zae b3,zae b4]:=by
  have h6:=zah (n:=6) (l:=[nv,zae b1,zae b2,zae b3,zae b4,.slice ap s.places.length cp]) hB rfl;have h5:=zaZ (m:=1) (k:=5) h6;rw[zaY]at h5;exact zcB (m:=4) (k:=1) h5
 have q5:zad w2 (some ⟨b5,5,.none⟩)=some (.slice ap s.places.length cp):=zab hB rfl;repeat refine c_r ?_
 refine rc (an2 q0 yad) (zbv w2 nv s.host (hn.ext hE12) fs1.lb9.1 fs1.lb9.2) ?_;rintro _ w3 ⟨rfl,hE3⟩;refine re trivial ?_;have hE23:=hE12.trans hE3;repeat refine c_r ?_
 by_cases hck:zaC s.host=0
 rotate_left
 ·refine rg1 (yef hck) ?_;repeat refine c_r ?_
  refine wt yaS ?_;refine gz0 ?_;refine rt0 ntmps71 ?_;exact⟨hE23,_,rfl⟩
 refine gz (yet hck) ?_;refine wf yaN ?_;have p03:=zaa hE3 p02;have q03:=zaa hE3 q0;have q13:=zac hE3 q1;have q53:=zaa hE3 q5;refine gz0 ?_;refine zan (λ m σ ds A=>ds=[]/\∃(k:Nat),k+m=i/\σ 7=vi k/\σ 1=vi i/\σ 2= .pointer (some ⟨w.heap.size,0,.none⟩)/\σ 5= .pointer (some ⟨b5,0,.none⟩)/\Ext w3 A) i ?_ ?_
 ·exact⟨rfl,0,oM,vr0,vq0,vq0,vq0,Keep.refl _ _⟩
 rintro m σ ds A ⟨rfl,k,hkm,s7,s1,s2,s5,hEA⟩;have hEwA:=hE23.trans hEA;refine gz (az2 s7 s1) ?_;refine wc0 ?_ ?_
 ·intro hlt;simp only[ydT]at hlt;have hk:k<c.servers.length:=oM;have hk0:=cj k;have hk1:(k:Int)<(c.servers.length:Int):=oM;have hk1':=ci k;obtain⟨xa',xk,_,nv',_,_,hae,hxk,_,f0,hn',_,⟨d1,d2,d3,d4,_,fcs⟩,_,_⟩:=hat k hk;injection hae with hae
  subst hae;obtain⟨fsk,_,_⟩:=hf.s _ (yac hk);obtain⟨y1,hy1⟩:∃y,adr (some xk) 1=some y:=⟨_,rfl⟩;have hz0:adr (some xk) 0=some xk:=zar _;have fby:zat w (some y1) 4=some [zae d1,zae d2,zae d3,zae d4]:=by
   have h5:=zaZ (m:=1) (k:=5) fcs;rw[hy1]at h5;exact zcB (m:=4) (k:=1) h5
  repeat refine c_r ?_
  refine zaF (λ _=>false) [(0,true),(1,true),(2,true),(3,true),(4,true),(5,true),(6,true),(7,true),(8,false),(9,true),(10,true),(11,true),(12,true),(13,true),(14,true),(15,true),(16,true),(17,true),(18,false),(19,true)] NoS mixed kR ?_;intro gd K x hgd hx hxe hK;clear hxe;have hg9:=gk 9 35 hgd rfl;have hW:=hEwA.trans hx;have p0x:=zaa (hEA.trans hx) p03;have q0x:=zaa (hEA.trans hx) q03;have q1x:=zac (hEA.trans hx) q13;have f0x:=zaa hW f0;have fbx:=zac hW fby;refine sgz (az2 (az7 s7 s2 s5 p0x q0x yad hk0) (az4 hk1 hxk hz0 f0x)) ?_;refine yfm (zii x nv' nv _ s.host (hn'.ext hW) (hn.ext hW) fsk.m.LB fs1.m.LB (by have:=fsk.len;omega) (by have:=fs1.len;omega)) ?_;rintro _ y ⟨rfl,hy⟩;refine⟨.inr hy,?_⟩;obtain⟨sm,hsm⟩:∃b,decide (zag c.servers[k].host=zag s.host)=b:=⟨_,rfl⟩;rw[hsm];cases sm with
  |true=>
   simp (disch:=first|omega|assumption|rfl) only[go_sem,↓hg9];refine en hK ?_;refine wt trivial ?_;refine gz0 ?_;refine rt0 ntmps71 ?_;exact⟨hW.trans hy,_,rfl⟩
  |false=>
  have p0y:=zaa hy p0x;have q1y:=zac hy q1x;have fby':=zac hy fbx;simp (disch:=first|omega|assumption|rfl) only[go_sem,s7,s2,s5,p0y,yad,hk0,hk1,hxk,hy1,fby',q1y,↓hg9];refine op_eqA (a:=d1) (b:=d2) (c:=d3) (d1:=d4) (a':=b1) (b':=b2) (c':=b3) (d':=b4) rfl rfl rfl rfl kR vr0 vr0 ?_;refine⟨.inr ykr,?_⟩;simp (disch:=first|omega|assumption|rfl) only[go_sem,↓hg9];apply hK;have hWy:=hW.trans hy;have hAy:=(hEA.trans hx).trans hy;refine wcz ?_ ?_
  ·intro _;refine gz0 ?_;refine rt0 ntmps71 ?_;exact⟨hWy,_,rfl⟩
  ·intro _;refine gz (az2 s7 hk1') ?_;exact⟨m - 1,oM,rfl,k+1,oM,vq0,vq1 s1,vq1 s2,vq1 s5,hAy⟩
 intro hge;clear hkm hge s7;have q5A:=zaa hEA q53;repeat refine c_r ?_
 by_cases h16:(s.places.length:Int)>16
 ·refine rg4 s5 q5A yn0 (yet h16) ?_;repeat refine c_r ?_
  refine wt trivial ?_;refine gz0 ?_;refine rt0 ntmps71 ?_;exact⟨hEwA,_,rfl⟩
 refine gz (az4 s5 q5A yn0 (yef h16)) ?_;refine wf trivial ?_;refine gz0 ?_;refine zan (λ m σ ds B=>ds=[]/\∃(k:Nat),k+m=s.places.length/\σ 8=vi k/\σ 5= .pointer (some ⟨b5,0,.none⟩)/\Ext w3 B) s.places.length ?_ ?_
 ·exact⟨rfl,0,oM,vr0,vq1 s5,hEA⟩
 clear s1 s2 s5 q5A hEwA hEA;rintro m2 σ2 ds2 B ⟨rfl,k,hkm,s8,s5,hEB⟩;have hEwB:=hE23.trans hEB;have q5B:=zaa hEB q53;refine gz (az4 s8 s5 q5B yn0) ?_;refine wc0 ?_ ?_
 rotate_left
 ·intro _;refine gz0 ?_;refine rt0 ntmps71 ?_;exact⟨hEwB,_,rfl⟩
 intro hlt;simp only[ydT]at hlt;have hk:k<s.places.length:=oM;have hk0:=cj k;have hk1':=ci k;obtain⟨xp,xk,xk1,ov,rfl,hxk,hxk1,f0,ho,f1⟩:=hpl k hk;obtain⟨fo,fp⟩:=fs3 _ (yac hk);have hz1:adr (some xk) 0=some xk:=zar _;have f0B:=zaa hEwB f0;repeat refine c_r ?_
 refine rc (an9 s8 s5 q5B yn0 hk0 hlt hxk hz1 f0B) (zbv B ov _ (ho.ext hEwB) fo.lb9.1 fo.lb9.2) ?_;rintro _ B1 ⟨rfl,hE4⟩;refine re trivial ?_;have hEB1:=hEB.trans hE4;have hEwB1:=hE23.trans hEB1;have q5B1:=zaa hEB1 q53;have f1B1:=zaa hEwB1 f1;repeat refine c_r ?_
 by_cases hck2:zaC s.places[k].o=0
 rotate_left
 ·refine rg1 (yef hck2) ?_;repeat refine c_r ?_
  refine wt yaS ?_;refine gz0 ?_;refine rt0 ntmps71 ?_;exact⟨hEwB1,_,rfl⟩
 refine gz (yet hck2) ?_;refine wf yaN ?_;repeat refine c_r ?_
 refine rc (an9 s8 s5 q5B1 yn0 hk0 hlt hxk hxk1 f1B1) (RPath_ok B1 (l:=s.places[k].path) oM) ?_;rintro _ B2 ⟨hE5,t,rfl⟩;refine re trivial ?_;have hEB2:=hEB1.trans hE5;repeat refine c_r ?_
 cases t with
 |false=>
  refine wt yaS ?_;refine gz0 ?_;refine rt0 ntmps71 ?_;exact⟨hE23.trans hEB2,_,rfl⟩
 |true=>
 refine wf yaN ?_;refine gz0 ?_;refine zan (λ m σ ds C=>ds=[]/\∃(j:Nat),j+m=k/\σ 9=vi j/\σ 8=vi k/\σ 5= .pointer (some ⟨b5,0,.none⟩)/\Ext w3 C) k ?_ ?_
 ·exact⟨rfl,0,oM,vr0,vq1 s8,vq1 s5,hEB2⟩
 clear s8 s5;rintro m3 σ3 ds3 C ⟨rfl,j,hjm,s9,s8,s5,hEC⟩;have hEwC:=hE23.trans hEC;refine gz (az2 s9 s8) ?_;refine wc0 ?_ ?_
 rotate_left
 ·intro _;refine gz (az2 s8 hk1') ?_;exact⟨m2 - 1,oM,rfl,k+1,oM,vq0,vq1 s5,hEC⟩
 intro hlt2;simp only[ydT]at hlt2;have hj:j<s.places.length:=oM;have hj0:=cj j;have hj1:(j:Int)<(s.places.length:Int):=oM;have hj1':=ci j;obtain⟨xp',xj,_,ov',hpe,hxj,_,e0,ho',_⟩:=hpl j hj;injection hpe with hpe
 subst hpe;obtain⟨fo',_⟩:=fs3 _ (yac hj);have hz2:adr (some xj) 0=some xj:=zar _;repeat refine c_r ?_
 refine zaF (λ _=>false) [(0,true),(1,true),(2,true),(3,true),(4,true),(5,true),(6,true),(7,true),(8,true),(9,true),(10,true),(11,true),(12,false)] NoS mixed kR ?_;intro gd K x hgd hx hxe hK;clear hxe;have hW:=hEwC.trans hx;have q5x:=zaa (hEC.trans hx) q53;have f0x:=zaa hW f0;have e0x:=zaa hW e0;refine sgz (az2 (az7 s9 s8 s5 q5x yn0 hk0 hlt) (az2 (az7 hj0 hj1 hxk hxj hz1 hz2 f0x) e0x)) ?_;refine yfm (zii x ov' ov _ _ (ho'.ext hW) (ho.ext hW) fo'.m.LB fo.m.LB (by have:=fo'.len;omega) (by have:=fo.len;omega)) ?_;rintro _ y ⟨rfl,hy⟩;refine⟨.inr hy,?_⟩;refine sg0 ?_;apply hK;refine wcz ?_ ?_
 ·intro _;refine gz0 ?_;refine rt0 ntmps71 ?_;exact⟨hW.trans hy,_,rfl⟩
 ·intro _;refine gz (az2 s9 hj1') ?_;exact⟨m3 - 1,oM,rfl,j+1,oM,vq0,vq1 s8,vq1 s5,(hEC.trans hx).trans hy⟩
structure zn9(c:zil):Prop where
 ne:c.roots≠ []
 inn:∀r∈c.roots,0<=r/\r<(c.servers.length:Int)
theorem zjx(w:World){c:zil}(hc:ConfAt w cs c)(hf:FewC c):
  Fn prog 41 #[.agg cs.toArray] w (λ v w'=>Ext w w'/\∃a e,v= .tuple #[vi a,vi e]/\(e=0->zn9 c)):=by
 have hc0:=hc;obtain⟨sv,rv,rfl,hs,hr⟩:=hc.ex;obtain⟨aS,cS,rfl,hat⟩:=zkn hs;obtain⟨ar,cr,rfl,_,hgr⟩:=hr;simp only[ylm,yaA]at hgr hc0 ⊢;have hsl:=hf.sl;have hrl:=hf.rl;refine enx func41 ntmps41 ?_;refine gz0 ?_;refine zav ?_;intro w1 hE1 hs1 hA;have p0:zad w1 (some ⟨w.heap.size,0,.none⟩)=some (.slice aS c.servers.length cS):=zab hA rfl;have p1:zad w1 (some ⟨w.heap.size,1,.none⟩)=some (.slice ar c.roots.length cr):=zab hA rfl;have p2:zad w1 (some ⟨w.heap.size,2,.none⟩)=some (vi c.rw):=zab hA rfl;have p3:zad w1 (some ⟨w.heap.size,3,.none⟩)=some (vi c.rf):=zab hA rfl;have dC:zat w1 (some ⟨w.heap.size,0,.none⟩) 4=some [.slice aS c.servers.length cS,.slice ar c.roots.length cr,vi c.rw,vi c.rf]:=zah hA rfl;repeat refine c_r ?_
 by_cases h1:(c.servers.length:Int)=0
 ·refine rgg [(4,14)] (an3 p0 yad (yet h1)) ?_;repeat refine c_r ?_
  refine wt trivial ?_;refine gz0 ?_;refine zau (by simp) ntmps41 rfl (zaj vr0 (zaj vr0 zas)) ?_;exact⟨hE1,_,_,rfl,λ h=>by cases h⟩
 by_cases h2:(c.roots.length:Int)=0
 ·refine rgg [(4,14)] (an6 p0 yad (yef h1) p1 yn0 (yet h2)) ?_;repeat refine c_r ?_
  refine wt trivial ?_;refine gz0 ?_;refine zau (by simp) ntmps41 rfl (zaj vr0 (zaj vr0 zas)) ?_;exact⟨hE1,_,_,rfl,λ h=>by cases h⟩
 refine rgg [(4,14)] (an6 p0 yad (yef h1) p1 yn0 (yef h2)) ?_;repeat refine c_r ?_
 refine wf trivial ?_;refine gz (az2 p0 yad) ?_;refine wc0 ?_ ?_
 ·intro _;refine gz0 ?_;refine zau (by simp) ntmps41 rfl (zaj vr0 (zaj vr0 zas)) ?_;exact⟨hE1,_,_,rfl,λ h=>by cases h⟩
 intro _;repeat refine c_r ?_
 refine zaw (Q:=λ e σ' ds' v'=>e= .normal/\ds'=[]/\v'=w1/\σ' 1= .pointer (some ⟨w.heap.size,0,.none⟩)/\∃t,σ' 25= .bool t) ?_ ?_
 ·by_cases e0:c.rw<0
  ·refine rgg [(3,29),(8,34),(13,39)] (an3 p2 yn0 (yet e0)) ?_;exact⟨rfl,rfl,rfl,vq0,_,vr0⟩
  by_cases e1:c.rw>8
  ·refine rgg [(3,29),(8,34),(13,39)] (an4 p2 yn0 (yef e0) (yet e1)) ?_;exact⟨rfl,rfl,rfl,vq0,_,vr0⟩
  by_cases e2:c.rf<0
  ·refine rgg [(3,29),(8,34),(13,39)] (an6 p2 yn0 (yef e0) (yef e1) p3 (yet e2)) ?_;exact⟨rfl,rfl,rfl,vq0,_,vr0⟩
  refine rgg [(3,29),(8,34),(13,39)] (an6 p2 yn0 (yef e0) (yef e1) p3 (yef e2)) ?_;exact⟨rfl,rfl,rfl,vq0,_,vr0⟩
 rintro _ σ1 _ w2 ⟨rfl,rfl,rfl,s1,t,s25⟩;repeat refine c_r ?_
 cases t with
 |true=>
  refine wt s25 ?_;refine gz0 ?_;refine zau (by simp) ntmps41 rfl (zaj vr0 (zaj vr0 zas)) ?_;exact⟨hE1,_,_,rfl,λ h=>by cases h⟩
 |false=>
 refine wf s25 ?_;clear s25;refine gz0 ?_;refine zan (λ m σ ds A=>ds=[]/\∃(i:Nat),i+m=c.roots.length/\σ 4=vi i/\σ 1= .pointer (some ⟨w.heap.size,0,.none⟩)/\Ext w2 A/\∀j (h:j<c.roots.length),j<i->0<=c.roots[j]/\c.roots[j]<(c.servers.length:Int)) c.roots.length ?_ ?_
 ·exact⟨rfl,0,oM,vr0,vq1 s1,Keep.refl _ _,λ j h h2=>absurd h2 oM⟩
 clear s1;rintro m σ ds A ⟨rfl,i,him,s4,s1,hEA,ht⟩;have p1A:=zaa hEA p1;refine gz (az4 s4 s1 p1A yn0) ?_;refine wc0 ?_ ?_
 ·intro hlt;simp only[ydT]at hlt;have hi:i<c.roots.length:=oM;have hi0:=cj i;have hi1':=ci i;have g:=hgr i hi;obtain⟨x1,rfl⟩:=yxs (zaf g);repeat refine c_r ?_
  refine zaF (λ _=>false) [(0,true),(1,true),(2,true),(3,true),(4,true),(5,true),(6,true),(7,true),(8,true),(9,true),(10,true),(11,true),(12,true),(13,true),(14,true),(15,true),(16,true)] NoS mixed kR ?_;intro gd K x hgd hx hxe hK;clear hxe;have hg6:=gk 6 57 hgd rfl;have p1x:=zaa hx p1A;have p0x:=zaa (hEA.trans hx) p0;have gx:=zaa (hE1.trans (hEA.trans hx)) g;by_cases hneg:c.roots[i]<0
  ·simp (disch:=first|omega|assumption|rfl) only[go_sem,s4,s1,p1x,yn0,ybt,hi0,hlt,gx,yet hneg,zcR,↓hg6];refine en hK ?_;refine wt trivial ?_;refine gz0 ?_;refine zau (by simp) ntmps41 rfl (zaj vr0 (zaj vr0 zas)) ?_;exact⟨hE1.trans (hEA.trans hx),_,_,rfl,λ h=>by cases h⟩
  by_cases hbig:c.roots[i]>=(c.servers.length:Int)
  ·simp (disch:=first|omega|assumption|rfl) only[go_sem,s4,s1,p1x,p0x,yn0,yad,ybt,hi0,hlt,gx,yef hneg,yet hbig,zcR,↓hg6];refine en hK ?_;refine wt trivial ?_;refine gz0 ?_;refine zau (by simp) ntmps41 rfl (zaj vr0 (zaj vr0 zas)) ?_;exact⟨hE1.trans (hEA.trans hx),_,_,rfl,λ h=>by cases h⟩
  simp (disch:=first|omega|assumption|rfl) only[go_sem,s4,s1,p1x,p0x,yn0,yad,ybt,hi0,hlt,gx,yef hneg,yef hbig,zcR,↓hg6];refine en hK ?_;refine wf trivial ?_;refine gz (az2 s4 hi1') ?_;refine⟨m - 1,oM,rfl,i+1,oM,vq0,vq1 s1,hEA.trans hx,λ j hj hji=>?_⟩;by_cases hj2:j=i
  ·subst hj2;omega
  ·exact ht j hj oM
 intro hge;simp only[ydF]at hge;have hro:zn9 c:=⟨λ h=>by rw[h]at h2;exact h2 rfl,λ r hr=>by
  obtain⟨j,hj,rfl⟩:=ybh.1 hr;exact ht j hj oM⟩
 clear him hge s4 ht p1A;refine gz0 ?_;refine zan (λ m σ ds B=>ds=[]/\∃(i:Nat),i+m=c.roots.length/\σ 5=vi i/\σ 1= .pointer (some ⟨w.heap.size,0,.none⟩)/\Ext w2 B) c.roots.length ?_ ?_
 ·exact⟨rfl,0,oM,vr0,vq1 s1,hEA⟩
 clear s1 hEA;rintro m2 σ2 ds2 B ⟨rfl,i,him,s5,s1,hEB⟩;have p1B:=zaa hEB p1;refine gz (az4 s5 s1 p1B yn0) ?_;refine wc0 ?_ ?_
 ·intro hlt;simp only[ydT]at hlt;have hi:i<c.roots.length:=oM;have hi0:=cj i;have hi1':=ci i;have g:=hgr i hi;obtain⟨x1,rfl⟩:=yxs (zaf g);refine gz0 ?_;refine zan (λ m σ ds C=>ds=[]/\∃(j:Nat),j+m=i/\σ 6=vi j/\σ 5=vi i/\σ 1= .pointer (some ⟨w.heap.size,0,.none⟩)/\Ext w2 C) i ?_ ?_
  ·exact⟨rfl,0,oM,vr0,vq1 s5,vq1 s1,hEB⟩
  clear s5 s1;rintro m3 σ3 ds3 C ⟨rfl,j,hjm,s6,s5,s1,hEC⟩;have p1C:=zaa hEC p1;refine gz (az2 s6 s5) ?_;refine wc0 ?_ ?_
  ·intro hlt2;simp only[ydT]at hlt2;have hj:j<c.roots.length:=oM;have hj0:=cj j;have hj1:(j:Int)<(c.roots.length:Int):=oM;have hj1':=ci j;have gj:=hgr j hj;repeat refine c_r ?_
   refine zaF (λ _=>false) [(0,true),(1,true),(2,true),(3,true),(4,true),(5,true),(6,true),(7,true),(8,true),(9,true),(10,true)] NoS mixed kR ?_;intro gd K x hgd hx hxe hK;clear hxe;have p1x:=zaa hx p1C;have gx:=zaa (hE1.trans (hEC.trans hx)) g;have gjx:=zaa (hE1.trans (hEC.trans hx)) gj;refine sgz (az2 (az7 s6 s5 s1 p1x yn0 ybt hi0) (az5 hlt hj0 hj1 gx gjx)) ?_;apply hK;refine wcz ?_ ?_
   ·intro _;refine gz0 ?_;refine zau (by simp) ntmps41 rfl (zaj vr0 (zaj vr0 zas)) ?_;exact⟨hE1.trans (hEC.trans hx),_,_,rfl,λ h=>by cases h⟩
   ·intro _;refine gz (az2 s6 hj1') ?_;exact⟨m3 - 1,oM,rfl,j+1,oM,vq0,vq1 s5,vq1 s1,hEC.trans hx⟩
  ·intro _;refine gz (az2 s5 hi1') ?_;exact⟨m2 - 1,oM,rfl,i+1,oM,vq0,vq1 s1,hEC⟩
 intro hge;clear him hge s5 p1B;refine gz0 ?_;refine zan (λ m σ ds B=>ds=[]/\∃(i:Nat),i+m=c.servers.length/\σ 7=vi i/\σ 1= .pointer (some ⟨w.heap.size,0,.none⟩)/\Ext w2 B) c.servers.length ?_ ?_
 ·exact⟨rfl,0,oM,vr0,vq1 s1,hEB⟩
 clear s1 hEB;rintro m3 σ3 ds3 C ⟨rfl,i,him,s7,s1,hEC⟩;have p0C:=zaa hEC p0;have dCC:=zac hEC dC;refine gz (az4 s7 s1 p0C yad) ?_;refine wc0 ?_ ?_
 ·intro hlt;simp only[ydT]at hlt;have hi:i<c.servers.length:=oM;have hi1':=ci i;repeat refine c_r ?_
  refine rc (an3 s7 s1 dCC) (zn7 C (hc0.ext (hE1.trans hEC)) hf hi) ?_;rintro _ C1 ⟨hE2,e,rfl⟩;refine re trivial ?_;repeat refine c_r ?_
  by_cases he:e=0
  ·refine rg1 (yet he) ?_;repeat refine c_r ?_
   refine wf yaN ?_;refine gz (az2 s7 hi1') ?_;exact⟨m3 - 1,oM,rfl,i+1,oM,vq0,vq1 s1,hEC.trans hE2⟩
  ·refine rg1 (yef he) ?_;repeat refine c_r ?_
   refine wt yaS ?_;refine gz s7 ?_;refine zau (by simp) ntmps41 rfl (zaj vr0 (zaj vr0 zas)) ?_;exact⟨hE1.trans (hEC.trans hE2),_,_,rfl,λ h=>absurd h he⟩
 ·intro _;refine gz0 ?_;refine zau (by simp) ntmps41 rfl (zaj vr0 (zaj vr0 zas)) ?_;exact⟨hE1.trans hEC,_,_,rfl,λ _=>hro⟩
theorem zdq(w:World):zdD 2 (PlaceC w):=by
 refine⟨λ h=>?_,λ h=>?_⟩
 ·obtain⟨ov,rfl,_⟩:=h.ex;rfl
 ·obtain⟨ov,rfl,h1⟩:=h.ex;intro q hq;simp at hq;rcases hq with rfl|rfl
  ·exact h1.isOne
  ·rfl
def gxC(cs:List Value)(x:SrvL×(Value×List Value)):Prop:=cs=x.2.2/\cs.length=6/\∀q∈cs,one q=true
theorem zfU:zdD 6 gxC:=⟨λ h=>h.2.1,λ h=>h.2.2⟩
structure SrvX(w0 A:World)(pv:Value)(cs:List Value)(s:SrvL):Prop where
 ex:∃nv a b c d,cs=[nv,zae a,zae b,zae c,zae d,pv]/\s.addr=[a,b,c,d]/\Row w0 nv (s.host.map vs)/\Rows 2 (PlaceC w0) A pv s.places
theorem SrvX.keep{A':World}{pv:Value}{s:SrvL}(h:SrvX w0 A pv cs s)(hk:Keep S A A')(hS:∀a n c,pv= .slice (some a) n c->a.block<A.heap.size/\¬S a.block):SrvX w0 A' pv cs s:=by
 obtain⟨nv,a,b,c,d,e,ha,h1,h2⟩:=h.ex;exact⟨nv,a,b,c,d,e,ha,h1,h2.blocks λ a n c hv=>hk.block _ (hS a n c hv).1 (hS a n c hv).2⟩
structure GS(w0:World)(e:TypeId)(B:Nat)(A:World)(ov:Value)(G:List (SrvL×(Value×List Value))):Prop where
 own:Owns 6 gxC B A e ov G
 row:∀x∈G,SrvX w0 A x.2.1 x.2.2 x.1/\BlkB B A x.2.1/\∀a n c,x.2.1= .slice (some a) n c->some a.block≠ov.ownBlock
theorem GS.keep{A':World}{ov:Value}{G:List (SrvL×(Value×List Value))}(h:GS w0 e B A ov G)(hk:Keep S A A')(hS:∀b,B<=b->b<A.heap.size->¬S b):GS w0 e B A' ov G:=
 ⟨h.own.keep hk (λ b hb=>hS b (h.own.ge hb).1 (h.own.ge hb).2),λ x hx=>by
  obtain⟨h1,h2,h3⟩:=h.row x hx;exact⟨h1.keep hk (λ a n c hv=>⟨(h2 a n c hv).2,hS _ (h2 a n c hv).1 (h2 a n c hv).2⟩),h2.ext hk.size,h3⟩⟩
theorem GS.ext{A':World}{ov:Value}{G:List (SrvL×(Value×List Value))}(h:GS w0 e B A ov G)(hE:Ext A A'):GS w0 e B A' ov G:=h.keep hE (λ _ _ _ h=>h)
theorem GS.app{A1 A2:World}{ov ov':Value}{G:List (SrvL×(Value×List Value))}{x:SrvL×(Value×List Value)}(h:GS w0 e B A ov G)(hE:Ext A A1)(hB:B<=A.heap.size)
  (hx:SrvX w0 A1 x.2.1 x.2.2 x.1) (hxb:BlkB A.heap.size A1 x.2.1) (ho:Owns 6 gxC B A2 e ov' (G++ [x])) (hk:Keep (λ b=>some b=ov.ownBlock) A1 A2) (hb:∀b,some b=ov'.ownBlock->some b=ov.ownBlock\/A1.heap.size<=b):GS w0 e B A2 ov' (G++ [x]):=by
 refine⟨ho,λ y hy=>?_⟩;have h1:=h.ext hE;have hge:∀b,some b=ov.ownBlock->b<A.heap.size:=λ b hb=>(h.own.ge hb).2;have hy2:SrvX w0 A1 y.2.1 y.2.2 y.1/\BlkB B A1 y.2.1/\∀a n c,y.2.1= .slice (some a) n c->some a.block≠ov.ownBlock:=by
  rcases yai.1 hy with hy|hy
  ·exact h1.row y hy
  ·rw[yae.1 hy];exact⟨hx,hxb.mono hB,λ a n c hv hbb=>by have:=hge _ hbb;have:=(hxb a n c hv).1;omega⟩
 obtain⟨g1,g2,g3⟩:=hy2;refine⟨g1.keep hk (λ a n c hv=>⟨(g2 a n c hv).2,g3 a n c hv⟩),g2.ext hk.size,λ a n c hv hbb=>?_⟩;rcases hb _ hbb with e|e
 ·exact g3 a n c hv e
 ·have:=(g2 a n c hv).2;omega
theorem GS.rows{ov:Value}{G:List (SrvL×(Value×List Value))}(h:GS w0 e B A ov G)(hE:Ext w0 A):Rows 6 (SrvC A) A ov (G.map Prod.fst):=by
 obtain⟨L,h1,h2,h3⟩:=h.own.rows;refine⟨L,h1,by rw[h2,ylm],λ i hi hi'=>?_⟩;have hi2:i<G.length:=oM;obtain⟨e1,_⟩:=h3 i hi hi2;obtain⟨g1,_⟩:=h.row _ (yac hi2);obtain⟨nv,a,b,c,d,e2,ha,g2,g3⟩:=g1.ex;rw[e1,e2,yaA];exact⟨nv,a,b,c,d,_,rfl,ha,g2.ext hE,g3.to λ _ _ h=>h.ext hE⟩
structure IP(w0:World)(es ep:TypeId)(b5:Nat)(nv:Value)(a b c d:UInt8)(A0 v:World)(pv:Value)(ps:List zg1):Prop where
 h:v.heap[b5]? =some (.cells #[nv,zae a,zae b,zae c,zae d,pv] es (0,0))
 own:Owns 2 (PlaceC w0) (b5+1) v ep pv ps
 e:Ext A0 v
 lo:A0.heap.size<=b5
theorem IP.app{A0 v v1 v2 v3:World}{es ep:TypeId}{b5:Nat}{pv pv':Value}{a b c d:UInt8}{ps:List zg1}{p:zg1}(h:IP w0 es ep b5 nv a b c d A0 v pv ps)(hE:Ext v v1)
  (ho:Owns 2 (PlaceC w0) (b5+1) v2 ep pv' (ps++ [p])) (hk:Keep (λ b=>some b=pv.ownBlock) v1 v2) (h3:v3.heap[b5]? =some (.cells #[nv,zae a,zae b,zae c,zae d,pv'] es (0,0))) (hk3:Keep (λ b=>b=b5) v2 v3):IP w0 es ep b5 nv a b c d A0 v3 pv' (ps++ [p]):=by
 have lo:=h.lo;have e2:Ext A0 v2:=ykt (h.e.trans hE) rfl (λ b hb=>by have:=(h.own.ge hb).1;omega) hk;exact⟨h3,ho.keep hk3 (λ b hb hb2=>by have:=(ho.ge hb).1;omega),ykt e2 rfl (λ b hb=>oM) hk3,lo⟩
theorem Of15_ok(w:World){c:zil}(hc:ConfAt w cs c)(hf:FewC c):
  Fn prog 42 #[.agg cs.toArray] w (λ v w'=>Ext w w'/\∃cs',v= .agg cs'.toArray/\ConfAt w' cs' c):=by
 obtain⟨sv,rv,rfl,hs,hr⟩:=hc.ex;obtain⟨aS,cS,rfl,hat⟩:=zkn hs;have hr0:=hr;have r1:=hr.isOne;obtain⟨ar,cr,hrv,_,hgr⟩:=hr;have hsl:=hf.sl;refine enx func42 ntmps42 ?_;repeat refine c_r ?_
 rw[hrv];refine rg0 ?_;rw[←hrv];repeat refine c_r ?_
 rw[zai];refine zaQ ?_;intro w1 hE1 hs1 hA hC;have p0:zad w1 (some ⟨w.heap.size,0,.none⟩)=some (.slice aS c.servers.length cS):=zab hA rfl;have p1:zad w1 (some ⟨w.heap.size,1,.none⟩)=some rv:=zab hA rfl;have p2:zad w1 (some ⟨w.heap.size,2,.none⟩)=some (vi c.rw):=zab hA rfl;have p3:zad w1 (some ⟨w.heap.size,3,.none⟩)=some (vi c.rf):=zab hA rfl;refine rqz ?_;intro gd K hgd hK;refine sgz (az4 p1 p2 p3 yn0) ?_;refine⟨by kernel_rfl,?_⟩;rw[hrv,show bdV prog 119 [(1,.slice ar (c.roots.map vi).length cr),(2,vi c.rw),(3,vi c.rf)]=some (.agg #[.slice .none 0 0,.slice ar (c.roots.map vi).length cr,vi c.rw,vi c.rf]) from by kernel_rfl,←hrv];try simp only[go_sem]
 refine zaV (P:=prog) (l:=[.slice .none 0 0,rv,vi c.rw,vi c.rf]) rfl (λ v hv=>by simp at hv;rcases hv with rfl|rfl|rfl|rfl<;>first|exact r1|rfl) rfl rfl ?_;intro w2 hE2 hs2 hD;try simp only[go_sem]
 apply hK;obtain⟨c3,hc3⟩:∃b,w1.heap.size=b:=⟨_,rfl⟩;rw[hc3]at hD hs2 ⊢;have hE12:=hE1.trans hE2;have p0w:=zaa hE2 p0;refine gz0 ?_;refine zan (λ m σ ds A=>ds=[]/\∃(i:Nat) (ov:Value) (G:List (SrvL×(Value×List Value))),i+m=c.servers.length/\σ 4=vi i/\σ 1= .pointer (some ⟨w.heap.size,0,.none⟩)/\σ 2= .pointer (some ⟨w.heap.size+1,0,.none⟩)/\σ 3= .pointer (some ⟨c3,0,.none⟩)/\Ext w1 A/\c3+1<=A.heap.size/\
  A.heap[c3]? =some (.cells #[ov,rv,vi c.rw,vi c.rf] 119 (0,0))/\GS w 173 (c3+1) A ov G/\G.map Prod.fst=c.servers.take i) c.servers.length ?_ ?_
 ·exact⟨rfl,0,.slice .none 0 0,[],oM,vr0,vq0,vq0,vq0,hE2,oM,hD,⟨Owns.nil _ _ _ _ _,λ x h=>by cases h⟩,rfl⟩
 rintro m σ ds A ⟨rfl,i,ov,G,him,s4,s1,s2,s3,hEA,hAs,hB3,hGS,hGf⟩;have p0A:=zaa hEA p0;refine gz (az4 s4 s1 p0A yad) ?_;refine wc0 ?_ ?_
 ·intro hlt;simp only[ydT]at hlt;have hi:i<c.servers.length:=oM;have hi0:=cj i;have hi1':=ci i;obtain⟨xa,xi,x5,nv,ap,cp,rfl,hxi,hx5,g0,hn,g5,⟨b1,b2,b3,b4,hadr,hcs⟩,hpr,hpl⟩:=hat i hi;obtain⟨s,hse⟩:∃s,c.servers[i]=s:=⟨_,rfl⟩;obtain⟨fs1,fs2,fs3⟩:=hf.s s (hse▸yac hi);rw[hse]at hn g5 hadr hcs hpr;simp only[hse]at hpl;have n1:=hn.isOne;have hz0:adr (some xi) 0=some xi:=zar _;obtain⟨y1,hy1⟩:∃y,adr (some xi) 1=some y:=⟨_,rfl⟩;have gby:zat w (some y1) 4=some [zae b1,zae b2,zae b3,zae b4]:=by
   have h5:=zaZ (m:=1) (k:=5) hcs;rw[hy1]at h5;exact zcB (m:=4) (k:=1) h5
  obtain⟨an,cn,hnv,_⟩:=id hn;repeat refine c_r ?_
  refine zaF (λ i=>i==14) [(0,true),(1,true),(2,true),(3,true),(4,true),(5,true),(6,true),(7,true),(8,true),(9,true),(10,true),(11,true),(12,true),(13,false),(14,false)] NoS mixed kR ?_;intro gd K x hgd hx hxe hK;clear hxe;have hwx:=hE1.trans (hEA.trans hx);have p0x:=zaa hx p0A;have g0x:=zaa hwx g0;have gbx:=zac hwx gby;refine sgz (az2 (az7 s4 s1 p0x yad hi0 hlt hxi) (az4 hz0 hy1 g0x gbx)) ?_;refine⟨by kernel_rfl,?_⟩;rw[hnv,show bdV prog 173 [(0,.slice an (s.host.map vs).length cn),(1,.agg #[zae b1,zae b2,zae b3,zae b4])]=some (.agg #[.slice an (s.host.map vs).length cn,zae b1,zae b2,zae b3,zae b4,.slice .none 0 0]) from by kernel_rfl,←hnv];refine sg0 ?_;refine⟨.inr (yea x _),?_⟩;refine zaV (P:=prog) (l:=[nv,zae b1,zae b2,zae b3,zae b4,.slice .none 0 0]) rfl (λ v hv=>by simp at hv;rcases hv with rfl|rfl|rfl|rfl|rfl|rfl<;>first|exact n1|rfl) rfl rfl ?_;intro A1 hE3 hs3 hB5;refine⟨.inl rfl,?_⟩;refine sg0 ?_;apply hK;have hx3:=hx.trans hE3;obtain⟨b5,hb5⟩:∃b,x.heap.size=b:=⟨_,rfl⟩;have hsx:=hx.size;rw[hb5]at hB5 hs3 hsx ⊢;have hIP:IP w 173 175 b5 nv b1 b2 b3 b4 A A1 (.slice .none 0 0) []:=⟨hB5,Owns.nil _ _ _ _ _,hx3,hsx⟩;clear p0x g0x gbx hx hx3 hwx hE3 hB5;refine gz0 ?_;refine zan (λ m σ ds v=>ds=[]/\∃(k:Nat) (pv:Value),k+m=s.places.length/\σ 6=vi k/\σ 4=vi i/\σ 1= .pointer (some ⟨w.heap.size,0,.none⟩)/\σ 2= .pointer (some ⟨w.heap.size+1,0,.none⟩)/\σ 3= .pointer (some ⟨c3,0,.none⟩)/\σ 5= .pointer (some ⟨b5,0,.none⟩)/\
   IP w 173 175 b5 nv b1 b2 b3 b4 A v pv (s.places.take k)/\b5+1<=v.heap.size) s.places.length ?_ ?_
  ·exact⟨rfl,0,_,oM,vr0,vq1 s4,vq1 s1,vq1 s2,vq1 s3,vq0,hIP,oM⟩
  clear s4 s1 s2 s3 hIP;rintro m2 σ2 ds2 v ⟨rfl,k,pv,hkm,s6,s4,s1,s2,s3,s5,hIP,hvs⟩;have hEv:=hEA.trans hIP.e;have hwv:=hE1.trans hEv;have p0v:=zaa hEv p0;have g5v:=zaa hwv g5;refine gz (az2 (az7 s6 s4 s1 (an3 p0v yad g5v) hi0 hlt hxi) (az2 hx5 trivial)) ?_;refine wc0 ?_ ?_
  ·intro hlt2;simp only[ydT]at hlt2;have hk:k<s.places.length:=oM;have hk0:=cj k;have hk1':=ci k;obtain⟨xp,xk,xk1,ow,rfl,hxk,hxk1,f0,ho,f1⟩:=hpl k hk;have hz1:adr (some xk) 0=some xk:=zar _;obtain⟨ao,co,how,_⟩:=id ho;have q5:zad v (some ⟨b5,5,.none⟩)=some pv:=zab hIP.h rfl;have lo:=hIP.lo;repeat refine c_r ?_
   refine zaF (λ i=>i==26) [(0,true),(1,true),(2,true),(3,true),(4,true),(5,true),(6,true),(7,true),(8,true),(9,true),(10,true),(11,true),(12,true),(13,true),(14,true),(15,true),(16,true),(17,true),(18,true),(19,true),(20,true),(21,true),(22,true),(23,false),(24,false),(25,true),(26,false)] (zda (b5+1)) mixed kR ?_;intro gd K x hgd hx hxe hK;have hx0:=zgH hxe;clear hxe;have hwx:=hwv.trans hx0;have p0x:=zaa hx0 p0v;have g5x:=zaa hwx g5;have f0x:=zaa hwx f0;have f1x:=zaa hwx f1;have q5x:=zaa hx0 q5;refine sgz (az2 (az7 s6 s4 s1 s5 p0x yad yn0) (az2 (az7 hi0 hlt hk0 hlt2 hxi hx5 hxk) (az6 hz1 hxk1 g5x f0x f1x q5x))) ?_;have l5:x5.block<b5+1:=by have:=zc9 (show w.cell? x5=some _ from g5);have:=hwv.size;have:=hE1.size;have:=hEA.size;omega
   have lk:xk.block<b5+1:=by have:=zc9 (show w.cell? xk=some _ from f0);have:=hE1.size;have:=hEA.size;omega
   have lk1:xk1.block<b5+1:=by have:=zc9 (show w.cell? xk1=some _ from f1);have:=hE1.size;have:=hEA.size;omega
   have lw:w.heap.size<b5+1:=by have:=hE1.size;have:=hEA.size;omega
   refine⟨zdA oM,zdA lw,zgs l5,zgs lk,zdA lw,zgs l5,zgs lk1,by kernel_rfl,?_⟩;rw[how,show bdV prog 175 [(0,.slice ao (s.places[k].o.map vs).length co),(1,vs s.places[k].path)]=some (.agg #[.slice ao (s.places[k].o.map vs).length co,vs s.places[k].path]) from by kernel_rfl,←how];refine sg0 ?_;refine za4 (zdq w) (l:=[ow,vs s.places[k].path]) (a:=s.places[k]) (by rfl) (by rfl) (by rfl) (by rfl) ⟨ow,rfl,ho⟩ (by decide) ?_;intro v1 hE4 hs4' ho4;refine⟨.inr hE4.keep,?_⟩;refine sg0 ?_;have hx04:=hx0.trans hE4;have hsz4:=hx04.size;refine zaR (zdq w) (hIP.own.ext hx04) ho4.rows (by rfl) (by rfl) (by rfl) (by rfl) (by rfl) (by rfl) (by decide) vr0 vr0 (by simp;omega) (by decide) oM ?_;intro pv' v2 ho5 hE5 hk5 hb5';refine⟨.inr (hk5.mono λ b _ hb=>(hIP.own.ge hb).1),?_⟩;obtain⟨ap',cp',hpv',_⟩:=ho5.rows.open;refine sgz (az2 s5 yn0) ?_;refine za6 (P:=prog) (t:=171) (j:=5) (u:=pv') (l:=[nv,zae b1,zae b2,zae b3,zae b4,pv]) ((hk5.block _ oM (λ hb=>by have:=(hIP.own.ge hb).1;omega)).trans (Ext.at hx04 hIP.h)) (by simp) (by rw[hpv'];rfl) rfl rfl ?_;intro v3 hs3' hB3' hk3';refine⟨.inl rfl,?_⟩;refine sg0 ?_;apply hK;have hIPn:=hIP.app hx04 ho5 hk5 hB3' hk3';have hs5:=hk5.size;refine gz (az2 s6 hk1') ?_;refine⟨m2 - 1,oM,rfl,k+1,pv',oM,vq0,vq1 s4,vq1 s1,vq1 s2,vq1 s3,vq1 s5,?_,oM⟩;rw[zal hk];exact hIPn
  ·intro hge2;simp only[ydF]at hge2;have hfull:s.places.take k=s.places:=yaf oM;rw[hfull]at hIP;obtain⟨ap',cp',hpv',_⟩:=hIP.own.rows.open;have lo:=hIP.lo;have dB:zat v (some ⟨b5,0,.none⟩) 6=some [nv,zae b1,zae b2,zae b3,zae b4,pv]:=zah hIP.h rfl;have q3:zad v (some ⟨c3,0,.none⟩)=some ov:=zab (Ext.at hIP.e hB3) rfl;have ones6:∀q∈ [nv,zae b1,zae b2,zae b3,zae b4,pv],one q=true:=λ q hq=>by
    simp at hq;rcases hq with rfl|rfl|rfl|rfl|rfl|rfl<;>first|exact n1|rfl| (rw[hpv'];rfl)
   have hGl:G.length=i:=by
    have:=congrArg List.length hGf;simp at this;omega
   refine rqz ?_;intro gd K hgd hK;refine sgz (az5 s3 s5 q3 dB yad) ?_;refine za4 (C:=gxC) zfU (l:=[nv,zae b1,zae b2,zae b3,zae b4,pv]) (a:=(s,(pv,[nv,zae b1,zae b2,zae b3,zae b4,pv]))) (by rfl) (by rfl) (by rfl) (by rfl) ⟨rfl,rfl,ones6⟩ (by decide) ?_;intro v1 hE4 hs4' ho4;try simp only[go_sem]
   have hAv1:=hIP.e.trans hE4;have hsA1:=hAv1.size;refine zaR zfU ((hGS.ext hAv1).own) ho4.rows (by rfl) (by rfl) (by rfl) (by rfl) (by rfl) (by rfl) (by decide) vr0 vr0 (by simp;omega) (by decide) oM ?_;intro ov' v2 ho5 hE5 hk5 hb5';obtain⟨ao',co',hov',_⟩:=ho5.rows.open;refine sgz (az2 s3 yad) ?_;refine za6 (P:=prog) (t:=117) (j:=0) (u:=ov') (l:=[ov,rv,vi c.rw,vi c.rf]) ((hk5.block _ oM (λ hb=>by have:=(hGS.own.ge hb).1;omega)).trans (Ext.at hAv1 hB3)) (by simp) (by rw[hov'];rfl) rfl rfl ?_;intro v3 hs3' hB3' hk3';try simp only[go_sem]
   apply hK;have hGS2:=hGS.app hAv1 hAs (x:=(s,(pv,[nv,zae b1,zae b2,zae b3,zae b4,pv]))) ⟨nv,b1,b2,b3,b4,rfl,hadr,hn,hIP.own.rows.ext hE4⟩ ((hIP.own.blk.mono oM).ext hE4.size) ho5 hk5 hb5';have hGS3:=hGS2.keep hk3' (λ b h1 _ h2=>oM);have hs5:=hk5.size;refine gz (az2 s4 hi1') ?_;refine⟨m - 1,oM,rfl,i+1,ov',_,oM,vq0,vq1 s1,vq1 s2,vq1 s3,ykt (hE5 w1 (hEA.trans hAv1) oM) rfl (λ b hb=>oM) hk3',oM,hB3',hGS3,?_⟩;rw[zal hi,yaC,hGf,hse];rfl
 ·intro hge;simp only[ydF]at hge;rw[yaf oM]at hGf;have hEw:=hE1.trans hEA;have hrows:=hGS.rows hEw;rw[hGf]at hrows;have o1:=hrows.isOne;have dx:=zah (n:=4) (l:=[ov,rv,vi c.rw,vi c.rf]) hB3 rfl;refine rqz ?_;intro gd K hgd hK;refine sgz (az3 s3 s2 dx) ?_;refine zaL (P:=prog) (t:=119) (l:=[ov,rv,vi c.rw,vi c.rf]) (Ext.at hEA hC) rfl (λ v hv=>by simp at hv;rcases hv with rfl|rfl|rfl|rfl<;>first|exact r1|exact o1|rfl) rfl rfl ?_;intro z hsz hBz hkz;try simp only[go_sem]
  refine en hK ?_;refine zau (.inr rfl) ntmps42 rfl (za0 (x:=⟨w.heap.size+1,0,.none⟩) (k:=4) ((vq1 s2)) rfl rfl (zah hBz rfl) zas) ?_;have hEz:Ext w z:=ykt hEw rfl (λ b hb=>oM) hkz;have hGz:=(hGS.keep hkz (λ b h1 _ h2=>oM)).rows hEz;rw[hGf]at hGz;exact⟨hEz,_,rfl,ov,rv,rfl,hGz,hr0.ext hEz⟩
section
variable {P : Program} {d : Option Tmp} {ty : TypeId} {ps : String} {af : Array Edge} {g : Option (Nat × Bool)} {ρ : Operand -> Value} {w : World} {K : Value -> World -> Prop}
theorem op_field{s:TypeId}{x:Operand}{f:Nat}{fs:Array Field}{fd:Field}{cs:Array Value}(hs:P.underlying s=some (.struct fs))(hf:fs[f]? =some fd)(ha:tyA P fd.type=false)(hu:(P.underlying fd.type).isSome=true)
  (hx:ρ x= .agg cs) (hv:cs[fd.offset]? =some v) (h:K v w):opV P ⟨d,.field s x f,ty,ps,af,g⟩ ρ w K:=by
 show opW P _ ρ w K;refine zaI (s:=Instr.field s (ρ x) f) (w':=w) (v:=v) ?_ h;obtain⟨u,hu⟩:=yxs hu;have hi:(isAgg fd.type).run P w= .ok false w:=by
  unfold tyA at ha;rw[hu]at ha;cases u<;>first| (cases ha;done)|simp[isAgg,underlying,program,Sem.run,hu]
 have hp:(part fd.type cs fd.offset).run P w= .ok v w:=by
  unfold part;simp only[yaJ,hi,yaz,ydg,if_false,hv,yaR]
 unfold Instr.field;simp[underlying,program,Sem.run,hs,hf,hx,asAgg];exact hp
end
theorem znu{w:World}{hv:Value}{l:List zd5}(hs:Rows 6 (HostC w) w hv l):∃a c,hv= .slice a l.length c/\∀i (h:i<l.length),∃xa xi x5 nv az cz,a=some xa/\adr (some xa) (i*6)=some xi/\adr (some xi) 5=some x5/\zad w (some xi)=some nv/\Row w nv (l[i].name.map vs)/\
  zad w (some x5)=some (.slice az l[i].zones.length cz)/\(∃b1 b2 b3 b4,l[i].addr=[b1,b2,b3,b4]/\zat w (some xi) 6=some [nv,zae b1,zae b2,zae b3,zae b4,.slice az l[i].zones.length cz])/\
  ∀k (h:k<l[i].zones.length),∃xz xk ov lv,az=some xz/\adr (some xz) (k*2)=some xk/\zat w (some xk) 2=some [ov,lv]/\Row w ov (l[i].zones[k].o.map vs)/\Rows 7 (RecAt w) w lv l[i].zones[k].recs:=by
 obtain⟨a,c,rfl,_,hg⟩:=hs.open;refine⟨a,c,rfl,λ i hi=>?_⟩;obtain⟨cs,hcs,hS⟩:=hg i hi;obtain⟨nv,b1,b2,b3,b4,pv,rfl,ha,hn,hp⟩:=hS.ex;obtain⟨ap,cp,rfl,_,hgp⟩:=hp.open;obtain⟨xa,rfl⟩:=yxs (zak hcs);obtain⟨xi,hxi⟩:∃xi,adr (some xa) (i*6)=some xi:=⟨_,rfl⟩;obtain⟨x5,hx5⟩:∃x,adr (some xi) 5=some x:=⟨_,rfl⟩;rw[hxi]at hcs;have h0:=zaq (j:=0) hcs rfl;rw[zar]at h0;have h5:=zaq (j:=5) hcs rfl;rw[hx5]at h5;refine⟨xa,xi,x5,nv,ap,cp,rfl,hxi,hx5,h0,hn,h5,⟨b1,b2,b3,b4,ha,hcs⟩,λ k hk=>?_⟩;obtain⟨c2,hc2,hP⟩:=hgp k hk;obtain⟨ov,lv,rfl,ho,hl⟩:=hP.ex;obtain⟨xp,rfl⟩:=yxs (zak hc2);obtain⟨xk,hxk⟩:∃xi,adr (some xp) (k*2)=some xi:=⟨_,rfl⟩;rw[hxk]at hc2;exact⟨xp,xk,ov,lv,rfl,hxk,hc2,ho,hl⟩
def ziD(z:zcr):zg1:=⟨z.o,[120]⟩
def srvH(h:zd5):SrvL:=⟨h.name,h.addr,h.zones.map ziD⟩
def confN(N:NetL):zil:=⟨N.hosts.map srvH,N.roots,N.rw,N.rf⟩
def NumN(N:NetL):Prop:=∀h∈N.hosts,∀z∈h.zones,NumR z.recs
structure zaO(N:NetL):Prop where
 z:NetZ N
 h1:1<=N.hosts.length/\N.hosts.length<=6
 r1:1<=N.roots.length/\N.roots.length<=4
 rin:∀r∈N.roots,0<=r/\r<(N.hosts.length:Int)
 w:0<=N.rw/\N.rw<=4
 f:0<=N.rf/\N.rf<=6
 zl:∀h∈N.hosts,h.zones.length<=4
 sh:∀h∈N.hosts,Sh h.name
theorem RecAt.up{R:List RecL}(h:Rows 7 (RecAt w) x v R)(hE:Ext w x):Rows 7 (RecAt x) x v R:=h.to λ _ _ h=>h.ext hE
theorem zoq(w:World)(hN:NetAt w cs N)(hv:NumN N):
  Fn prog 17 #[.agg cs.toArray] w (λ v w'=>Ext w w'/\∃t,v= .bool t/\(t=true->zaO N)):=by
 obtain⟨hsv,rv,rfl,hs,hr⟩:=hN.ex;obtain⟨aS,cS,rfl,hat⟩:=znu hs;have hr0:=hr;have r1:=hr.isOne;obtain⟨ar,cr,hrv,_,hgr⟩:=hr;rw[ylm]at hrv;refine enx func17 ntmps17 ?_;repeat refine c_r ?_
 rw[hrv];refine rg0 ?_;rw[←hrv];repeat refine c_r ?_
 refine zav ?_;intro w1 hE1 hs1 hA;have p0:zad w1 (some ⟨w.heap.size,0,.none⟩)=some (.slice aS N.hosts.length cS):=zab hA rfl;have p1:zad w1 (some ⟨w.heap.size,1,.none⟩)=some rv:=zab hA rfl;have p2:zad w1 (some ⟨w.heap.size,2,.none⟩)=some (vi N.rw):=zab hA rfl;have p3:zad w1 (some ⟨w.heap.size,3,.none⟩)=some (vi N.rf):=zab hA rfl;rw[hrv]at p1;repeat refine c_r ?_
 refine zaw (Q:=λ e σ' ds' v'=>e= .normal/\ds'=[]/\v'=w1/\σ' 1= .pointer (some ⟨w.heap.size,0,.none⟩)/\∃t,σ' 51= .bool t/\(t=false->(1<=N.hosts.length/\N.hosts.length<=6)/\(1<=N.roots.length/\N.roots.length<=4)/\(0<=N.rw/\N.rw<=4)/\0<=N.rf/\N.rf<=6)) ?_ ?_
 ·by_cases e0:(N.hosts.length:Int)<1
  ·refine rgg [(4,14),(10,20),(16,26),(22,32),(27,37),(32,42),(37,47)] (an3 p0 yad (yet e0)) ?_;exact⟨rfl,rfl,rfl,vq0,_,vr0,λ h=>by cases h⟩
  by_cases e1:(N.hosts.length:Int)>6
  ·refine rgg [(4,14),(10,20),(16,26),(22,32),(27,37),(32,42),(37,47)] (an4 p0 yad (yef e0) (yet e1)) ?_;exact⟨rfl,rfl,rfl,vq0,_,vr0,λ h=>by cases h⟩
  by_cases e2:(N.roots.length:Int)<1
  ·refine rgg [(4,14),(10,20),(16,26),(22,32),(27,37),(32,42),(37,47)] (an7 p0 yad (yef e0) (yef e1) p1 yn0 (yet e2)) ?_;exact⟨rfl,rfl,rfl,vq0,_,vr0,λ h=>by cases h⟩
  by_cases e3:(N.roots.length:Int)>4
  ·refine rgg [(4,14),(10,20),(16,26),(22,32),(27,37),(32,42),(37,47)] (an8 p0 yad (yef e0) (yef e1) p1 yn0 (yef e2) (yet e3)) ?_;exact⟨rfl,rfl,rfl,vq0,_,vr0,λ h=>by cases h⟩
  by_cases e4:N.rw<0
  ·refine rgg [(4,14),(10,20),(16,26),(22,32),(27,37),(32,42),(37,47)] (an3 (an8 p0 yad (yef e0) (yef e1) p1 yn0 (yef e2) (yef e3)) p2 (yet e4)) ?_;exact⟨rfl,rfl,rfl,vq0,_,vr0,λ h=>by cases h⟩
  by_cases e5:N.rw>4
  ·refine rgg [(4,14),(10,20),(16,26),(22,32),(27,37),(32,42),(37,47)] (an4 (an8 p0 yad (yef e0) (yef e1) p1 yn0 (yef e2) (yef e3)) p2 (yef e4) (yet e5)) ?_;exact⟨rfl,rfl,rfl,vq0,_,vr0,λ h=>by cases h⟩
  by_cases e6:N.rf<0
  ·refine rgg [(4,14),(10,20),(16,26),(22,32),(27,37),(32,42),(37,47)] (an6 (an8 p0 yad (yef e0) (yef e1) p1 yn0 (yef e2) (yef e3)) p2 (yef e4) (yef e5) p3 (yet e6)) ?_;exact⟨rfl,rfl,rfl,vq0,_,vr0,λ h=>by cases h⟩
  refine rgg [(4,14),(10,20),(16,26),(22,32),(27,37),(32,42),(37,47)] (an6 (an8 p0 yad (yef e0) (yef e1) p1 yn0 (yef e2) (yef e3)) p2 (yef e4) (yef e5) p3 (yef e6)) ?_;refine⟨rfl,rfl,rfl,vq0,_,vr0,λ h=>?_⟩;simp only[ydF]at h;omega
 rintro _ σ1 _ w2 ⟨rfl,rfl,rfl,s1,t,s51,ht⟩;repeat refine c_r ?_
 cases t with
 |true=>
  refine wt s51 ?_;refine gz0 ?_;refine rt0 ntmps17 ?_;exact⟨hE1,_,rfl,λ h=>by cases h⟩
 |false=>
 refine wf s51 ?_;obtain⟨k1,k2,k3,k4⟩:=ht rfl;clear ht s51;refine rqz ?_;intro gd K hgd hK;refine sgz (az5 s1 p1 p2 p3 yn0) ?_;refine⟨by kernel_rfl,?_⟩;rw[show bdV prog 104 [(1,.slice ar N.roots.length cr),(2,vi N.rw),(3,vi N.rf)]=some (.agg #[.slice .none 0 0,.slice ar N.roots.length cr,vi N.rw,vi N.rf]) from by kernel_rfl,←hrv];try simp only[go_sem]
 refine zaV (P:=prog) (l:=[.slice .none 0 0,rv,vi N.rw,vi N.rf]) rfl (λ v hv=>by simp at hv;rcases hv with rfl|rfl|rfl|rfl<;>first|exact r1|rfl) rfl rfl ?_;intro w3 hE2 hs2 hD;try simp only[go_sem]
 apply hK;obtain⟨c3,hc3⟩:∃b,w2.heap.size=b:=⟨_,rfl⟩;rw[hc3]at hD hs2 ⊢;refine gz0 ?_;refine zan (λ m σ ds A=>ds=[]/\∃(i:Nat) (ov:Value) (G:List (SrvL×(Value×List Value))),i+m=N.hosts.length/\σ 4=vi i/\σ 1= .pointer (some ⟨w.heap.size,0,.none⟩)/\σ 3= .pointer (some ⟨c3,0,.none⟩)/\Ext w2 A/\c3+1<=A.heap.size/\
  A.heap[c3]? =some (.cells #[ov,rv,vi N.rw,vi N.rf] 104 (0,0))/\GS w 107 (c3+1) A ov G/\G.map Prod.fst=(N.hosts.take i).map srvH/\∀j (h:j<N.hosts.length),j<i->N.hosts[j].zones.length<=4/\∀z∈N.hosts[j].zones,GoodZ z) N.hosts.length ?_ ?_
 ·exact⟨rfl,0,.slice .none 0 0,[],oM,vr0,vq1 s1,vq0,hE2,oM,hD,⟨Owns.nil _ _ _ _ _,λ x h=>by cases h⟩,rfl,λ j h h2=>absurd h2 oM⟩
 clear s1;rintro m σ ds A ⟨rfl,i,ov,G,him,s4,s1,s3,hEA,hAs,hB3,hGS,hGf,hgood⟩;have p0A:=zaa hEA p0;refine gz (az4 s4 s1 p0A yad) ?_;refine wc0 ?_ ?_
 ·intro hlt;simp only[ydT]at hlt;have hi:i<N.hosts.length:=oM;have hi0:=cj i;have hi1':=ci i;obtain⟨xa,xi,x5,nv,az,cz,rfl,hxi,hx5,g0,hn,g5,⟨b1,b2,b3,b4,hadr,hcs⟩,hpl⟩:=hat i hi;have hvi:=hv _ (yac hi);obtain⟨s,hse⟩:∃s,N.hosts[i]=s:=⟨_,rfl⟩;rw[hse]at hn g5 hadr hcs hvi;simp only[hse]at hpl;have n1:=hn.isOne;have hz0:adr (some xi) 0=some xi:=zar _;obtain⟨y1,hy1⟩:∃y,adr (some xi) 1=some y:=⟨_,rfl⟩;have gby:zat w (some y1) 4=some [zae b1,zae b2,zae b3,zae b4]:=by
   have h5:=zaZ (m:=1) (k:=5) hcs;rw[hy1]at h5;exact zcB (m:=4) (k:=1) h5
  obtain⟨an,cn,hnv,_⟩:=id hn;repeat refine c_r ?_
  refine zaF (λ i=>i==14) [(0,true),(1,true),(2,true),(3,true),(4,true),(5,true),(6,true),(7,true),(8,true),(9,true),(10,true),(11,true),(12,true),(13,false),(14,false)] NoS mixed kR ?_;intro gd K x hgd hx hxe hK;clear hxe;have hwx:=hE1.trans (hEA.trans hx);have p0x:=zaa hx p0A;have g0x:=zaa hwx g0;have gbx:=zac hwx gby;refine sgz (az2 (az7 s4 s1 p0x yad hi0 hlt hxi) (az4 hz0 hy1 g0x gbx)) ?_;refine⟨by kernel_rfl,?_⟩;rw[hnv,show bdV prog 107 [(0,.slice an (s.name.map vs).length cn),(1,.agg #[zae b1,zae b2,zae b3,zae b4])]=some (.agg #[.slice an (s.name.map vs).length cn,zae b1,zae b2,zae b3,zae b4,.slice .none 0 0]) from by kernel_rfl,←hnv];refine sg0 ?_;refine⟨.inr (yea x _),?_⟩;refine zaV (P:=prog) (l:=[nv,zae b1,zae b2,zae b3,zae b4,.slice .none 0 0]) rfl (λ v hv=>by simp at hv;rcases hv with rfl|rfl|rfl|rfl|rfl|rfl<;>first|exact n1|rfl) rfl rfl ?_;intro A1 hE3 hs3 hB5;refine⟨.inl rfl,?_⟩;refine sg0 ?_;apply hK;have hx3:=hx.trans hE3;obtain⟨b5,hb5⟩:∃b,x.heap.size=b:=⟨_,rfl⟩;have hsx:=hx.size;rw[hb5]at hB5 hs3 hsx ⊢;have hIP:IP w 107 113 b5 nv b1 b2 b3 b4 A A1 (.slice .none 0 0) []:=⟨hB5,Owns.nil _ _ _ _ _,hx3,hsx⟩;have p01:=zaa hx3 p0A;have g51:=zaa (hE1.trans (hEA.trans hx3)) g5;clear p0x g0x gbx hx hwx hE3 hB5;repeat refine c_r ?_
  by_cases h4:(s.zones.length:Int)>4
  ·refine rg9 s4 s1 p01 yad hi0 hlt hxi hx5 (an2 g51 (yet h4)) ?_;repeat refine c_r ?_
   refine wt trivial ?_;refine gz0 ?_;refine rt0 ntmps17 ?_;exact⟨hE1.trans (hEA.trans hx3),_,rfl,λ h=>by cases h⟩
  refine gz (az2 (az7 s4 s1 p01 yad hi0 hlt hxi) (az2 hx5 (an2 g51 (yef h4)))) ?_;refine wf trivial ?_;clear p01 g51 hx3;refine gz0 ?_;refine zan (λ m σ ds v=>ds=[]/\∃(k:Nat) (pv:Value),k+m=s.zones.length/\σ 6=vi k/\σ 4=vi i/\σ 1= .pointer (some ⟨w.heap.size,0,.none⟩)/\σ 3= .pointer (some ⟨c3,0,.none⟩)/\σ 5= .pointer (some ⟨b5,0,.none⟩)/\
   IP w 107 113 b5 nv b1 b2 b3 b4 A v pv ((s.zones.take k).map ziD)/\b5+1<=v.heap.size/\∀j (h:j<s.zones.length),j<k->GoodZ s.zones[j]) s.zones.length ?_ ?_
  ·exact⟨rfl,0,_,oM,vr0,vq1 s4,vq1 s1,vq1 s3,vq0,hIP,oM,λ j h h2=>absurd h2 oM⟩
  clear s4 s1 s3 hIP;rintro m2 σ2 ds2 v ⟨rfl,k,pv,hkm,s6,s4,s1,s3,s5,hIP,hvs,hgz⟩;have hEv:=hEA.trans hIP.e;have hwv:=hE1.trans hEv;have p0v:=zaa hEv p0;have g5v:=zaa hwv g5;refine gz (az2 (az7 s6 s4 s1 (an3 p0v yad g5v) hi0 hlt hxi) (az2 hx5 trivial)) ?_;refine wc0 ?_ ?_
  ·intro hlt2;simp only[ydT]at hlt2;have hk:k<s.zones.length:=oM;have hk0:=cj k;have hk1':=ci k;obtain⟨xp,xk,ow,lv,rfl,hxk,dz,ho,hl⟩:=hpl k hk;obtain⟨z,hze⟩:∃z,s.zones[k]=z:=⟨_,rfl⟩;have hnz:=hvi _ (yac hk);rw[hze]at ho hl hnz;have o1:=ho.isOne;have l1:=hl.isOne;have dzv:=zac hwv dz;refine rqz ?_;intro gd K hgd hK;refine sgz (az2 (az7 s6 s4 s1 p0v yad g5v hi0) (az7 hlt hxi hx5 hk0 hlt2 hxk dzv)) ?_;refine zaV (P:=prog) (l:=[ow,lv]) rfl (za7 o1 l1) rfl rfl ?_;intro v1 hE4 hs4' hB7;try simp only[go_sem]
   apply hK;obtain⟨b7,hb7⟩:∃b,v.heap.size=b:=⟨_,rfl⟩;rw[hb7]at hB7 hs4' ⊢;have hwv1:=hwv.trans hE4;have e0:zad v1 (some ⟨b7,0,.none⟩)=some ow:=zab hB7 rfl;have e1:zad v1 (some ⟨b7,1,.none⟩)=some lv:=zab hB7 rfl;obtain⟨al,cl,hlv,_⟩:=hl.open;repeat refine c_r ?_
   refine zaw (Q:=λ e σ' ds' v'=>e= .normal/\ds'=[]/\σ' 6=vi k/\σ' 4=vi i/\σ' 1= .pointer (some ⟨w.heap.size,0,.none⟩)/\σ' 3= .pointer (some ⟨c3,0,.none⟩)/\σ' 5= .pointer (some ⟨b5,0,.none⟩)/\σ' 7= .pointer (some ⟨b7,0,.none⟩)/\Ext v1 v'/\∃t,σ' 132= .bool t/\(t=false->GoodZ z)) ?_ ?_
   ·refine zaF (λ _=>false) [(0,true),(1,true),(2,true),(3,true),(4,false),(5,true),(6,true),(7,true),(8,true),(9,true),(10,true),(11,true),(12,true),(13,true),(14,true),(16,true),(17,true),(18,true),(19,true),(15,false),(20,false),(21,false),(22,false),(23,false),(24,true),(25,true)] NoS mixed kR ?_;intro gd K x hgd hx hxe hK;clear hxe;have hg6:=gk 6 113 hgd rfl;have hg12:=gk 12 119 hgd rfl;have e0x:=zaa hx e0;have e1x:=zaa hx e1;have hwx:=hwv1.trans hx;refine sgz (az4 e0x e1x yad yn0) ?_;refine yfm (ZGood_ok hwx (ho.ext hwx) (hl.ext hwx)) ?_;rintro _ y1 ⟨hy1,b,rfl,hb⟩;refine⟨.inr hy1,?_⟩;cases b with
    |false=>
     simp (disch:=first|omega|assumption|rfl) only[go_sem,yaS,zcR,↓hg6,↓hg12];apply hK;exact⟨rfl,rfl,vq1 s6,vq1 s4,vq1 s1,vq1 s3,vq1 s5,vq0,hx.trans hy1,_,vr0,λ h=>by cases h⟩
    |true=>
    obtain⟨go,gR⟩:=hb rfl;have hrok:=zhZ gR hnz;have hRl:=gR.len;have e1y:=zaa hy1 e1x;rw[hlv]at e1y;by_cases h20:(z.recs.length:Int)>20
    ·simp (disch:=first|omega|assumption|rfl) only[go_sem,yaN,zcR,e1y,yn0,yet h20,↓hg6,↓hg12];apply hK;exact⟨rfl,rfl,vq1 s6,vq1 s4,vq1 s1,vq1 s3,vq1 s5,vq0,hx.trans hy1,_,vr0,λ h=>by cases h⟩
    have e0y1:=zaa hy1 e0x;simp (disch:=first|omega|assumption|rfl) only[go_sem,yaN,zcR,e1y,e0y1,yn0,yad,yef h20,↓hg6,↓hg12];rw[←hlv];have hwy1:=hwx.trans hy1;refine yfm (zla hwy1 (hl.ext hwy1) (λ r hr=>(gR.few r hr).2.nn) oM) ?_;rintro l1v y2 ⟨hy2,hl2⟩;refine⟨.inr hy2,?_⟩;have hwy2:=hwy1.trans hy2;have e0y:=zaa (hy1.trans hy2) e0x;have e1y2:=zaa (hy1.trans hy2) e1x;simp (disch:=first|omega|assumption|rfl) only[go_sem,e0y,e1y2,yad,yn0,zcR,↓hg6,↓hg12];refine yfm (zla hwy2 (hl.ext hwy2) (λ r hr=>(gR.few r hr).2.nn) oM) ?_;rintro l2v y3 ⟨hy3,hl3⟩;refine⟨.inr hy3,?_⟩;have hwy3:=hwy2.trans hy3;simp (disch:=first|omega|assumption|rfl) only[go_sem,zcR,↓hg6,↓hg12];refine yfm (RZNew_ok (Keep.refl _ y3) (ho.ext hwy3) hl3 hrok oM) ?_;rintro _ y4 ⟨hy4,cv,rfl,hcv⟩;refine⟨.inr hy4,?_⟩;have hl4:Rows 7 (RecAt y4) y4 l1v z.recs:=Rows.extC (λ _ _ h=>RecAt.ext h (hy3.trans hy4)) hl2 (hy3.trans hy4);have hcv4:=RecAt.up hcv hy4;simp (disch:=first|omega|assumption|rfl) only[go_sem,zcR,↓hg6,↓hg12];refine op_field (P:=prog) (v:=cv) rfl rfl rfl rfl vr0 rfl ?_;refine⟨.inr ykr,?_⟩;refine yfm (Is5_ok y4 hl4 hcv4 (λ r hr=>⟨(hrok r hr).len,(hrok r hr).dat.n⟩) oM) ?_;rintro _ y5 ⟨hy5,t,rfl,ht⟩;refine⟨.inr hy5,?_⟩;simp (disch:=first|omega|assumption|rfl) only[go_sem,zcR,↓hg6,↓hg12];apply hK
    refine⟨rfl,rfl,vq1 s6,vq1 s4,vq1 s1,vq1 s3,vq1 s5,vq0,((((hx.trans hy1).trans hy2).trans hy3).trans hy4).trans hy5,_,vr0,λ h=>⟨go,gR,hnz,(ht ?_).symm⟩⟩;simpa using h
   clear s6 s4 s1 s3 s5;rintro _ σ3 _ v2 ⟨rfl,rfl,s6,s4,s1,s3,s5,s7,hE5,t,s132,hzt⟩;repeat refine c_r ?_
   cases t with
   |true=>
    refine wt s132 ?_;refine gz0 ?_;refine rt0 ntmps17 ?_;exact⟨hwv1.trans hE5,_,rfl,λ h=>by cases h⟩
   |false=>
   refine wf s132 ?_;have hgzk:=hzt rfl;clear s132 hzt;have hE45:=hE4.trans hE5;have hIP2:=hIP.h;have hB52:=Ext.at hE45 hIP.h;have q5:zad v2 (some ⟨b5,5,.none⟩)=some pv:=zab hB52 rfl;have e02:=zaa hE5 e0;have lo:=hIP.lo;have hsz2:=hE45.size;obtain⟨ao,co,how,_⟩:=id ho;refine rqz ?_;intro gd K hgd hK;refine sgz (az6 s5 s7 q5 e02 yad yn0) ?_;refine⟨by kernel_rfl,?_⟩;rw[how,show bdV prog 113 [(0,.slice ao (z.o.map vs).length co),(1,vs [120])]=some (.agg #[.slice ao (z.o.map vs).length co,vs [120]]) from by kernel_rfl,←how];try simp only[go_sem]
   refine za4 (zdq w) (l:=[ow,vs [120]]) (a:=ziD z) (by rfl) (by rfl) (by rfl) (by rfl) ⟨ow,rfl,ho⟩ (by decide) ?_;intro v3 hE6 hs6' ho6;try simp only[go_sem]
   have hx04:=hE45.trans hE6;have hsz4:=hx04.size;refine zaR (zdq w) (hIP.own.ext hx04) ho6.rows (by rfl) (by rfl) (by rfl) (by rfl) (by rfl) (by rfl) (by decide) vr0 vr0 (by simp;omega) (by decide) oM ?_;intro pv' v4 ho7 hE7 hk7 hb7';obtain⟨ap',cp',hpv',_⟩:=ho7.rows.open;refine sgz (az2 s5 yn0) ?_;refine za6 (P:=prog) (t:=105) (j:=5) (u:=pv') (l:=[nv,zae b1,zae b2,zae b3,zae b4,pv]) ((hk7.block _ oM (λ hb=>by have:=(hIP.own.ge hb).1;omega)).trans (Ext.at hx04 hIP.h)) (by simp) (by rw[hpv'];rfl) rfl rfl ?_;intro v5 hs5' hB5' hk5';try simp only[go_sem]
   apply hK;have hIPn:=hIP.app hx04 ho7 hk7 hB5' hk5';have hs7:=hk7.size;refine gz (az2 s6 hk1') ?_;refine⟨m2 - 1,oM,rfl,k+1,pv',oM,vq0,vq1 s4,vq1 s1,vq1 s3,vq1 s5,?_,oM,λ j hj hjk=>?_⟩
   ·rw[zal hk,yaC,hze];exact hIPn
   ·by_cases hj2:j=k
    ·subst hj2;rw[hze];exact hgzk
    ·exact hgz j hj oM
  ·intro hge2;simp only[ydF]at hge2;have hfull:(s.zones.take k).map ziD=s.zones.map ziD:=by rw[yaf oM]
   rw[hfull]at hIP;obtain⟨ap',cp',hpv',_⟩:=hIP.own.rows.open;have lo:=hIP.lo;have dB:zat v (some ⟨b5,0,.none⟩) 6=some [nv,zae b1,zae b2,zae b3,zae b4,pv]:=zah hIP.h rfl;have q3:zad v (some ⟨c3,0,.none⟩)=some ov:=zab (Ext.at hIP.e hB3) rfl;have ones6:∀q∈ [nv,zae b1,zae b2,zae b3,zae b4,pv],one q=true:=λ q hq=>by
    simp at hq;rcases hq with rfl|rfl|rfl|rfl|rfl|rfl<;>first|exact n1|rfl| (rw[hpv'];rfl)
   have hGl:G.length=i:=by
    have:=congrArg List.length hGf;simp at this;omega
   refine rqz ?_;intro gd K hgd hK;refine sgz (az5 s3 s5 q3 dB yad) ?_;refine za4 (C:=gxC) zfU (l:=[nv,zae b1,zae b2,zae b3,zae b4,pv]) (a:=(srvH s,(pv,[nv,zae b1,zae b2,zae b3,zae b4,pv]))) (by rfl) (by rfl) (by rfl) (by rfl) ⟨rfl,rfl,ones6⟩ (by decide) ?_;intro v1 hE4 hs4' ho4;try simp only[go_sem]
   have hAv1:=hIP.e.trans hE4;have hsA1:=hAv1.size;refine zaR zfU ((hGS.ext hAv1).own) ho4.rows (by rfl) (by rfl) (by rfl) (by rfl) (by rfl) (by rfl) (by decide) vr0 vr0 (by simp;omega) (by decide) oM ?_;intro ov' v2 ho5 hE5 hk5 hb5';obtain⟨ao',co',hov',_⟩:=ho5.rows.open;refine sgz (az2 s3 yad) ?_;refine za6 (P:=prog) (t:=102) (j:=0) (u:=ov') (l:=[ov,rv,vi N.rw,vi N.rf]) ((hk5.block _ oM (λ hb=>by have:=(hGS.own.ge hb).1;omega)).trans (Ext.at hAv1 hB3)) (by simp) (by rw[hov'];rfl) rfl rfl ?_;intro v3 hs3' hB3' hk3';try simp only[go_sem]
   apply hK;have hGS2:=hGS.app hAv1 hAs (x:=(srvH s,(pv,[nv,zae b1,zae b2,zae b3,zae b4,pv]))) ⟨nv,b1,b2,b3,b4,rfl,hadr,hn,hIP.own.rows.ext hE4⟩ ((hIP.own.blk.mono oM).ext hE4.size) ho5 hk5 hb5';have hGS3:=hGS2.keep hk3' (λ b h1 _ h2=>oM);have hs5:=hk5.size;refine gz (az2 s4 hi1') ?_;refine⟨m - 1,oM,rfl,i+1,ov',_,oM,vq0,vq1 s1,vq1 s3,ykt (hE5 w2 (hEA.trans hAv1) oM) rfl (λ b hb=>oM) hk3',oM,hB3',hGS3,?_,λ j hj hji=>?_⟩
   ·rw[zal hi,yaC,yaC,hGf,hse];rfl
   ·by_cases hj2:j=i
    ·subst hj2;rw[hse];refine⟨oM,λ z hz=>?_⟩;obtain⟨k2,hk2,rfl⟩:=ybh.1 hz;exact hgz k2 hk2 oM
    ·exact hgood j hj oM
 ·intro hge;simp only[ydF]at hge;rw[yaf oM]at hGf;have hEw:=hE1.trans hEA;have hrows:=hGS.rows hEw;rw[hGf]at hrows;have o1:=hrows.isOne;have dx:=zah (n:=4) (l:=[ov,rv,vi N.rw,vi N.rf]) hB3 rfl;have hcf:ConfAt A [ov,rv,vi N.rw,vi N.rf] (confN N):=⟨ov,rv,rfl,hrows,hr0.ext hEw⟩;repeat refine c_r ?_
  refine rc (an2 s3 dx) (Few15_ok A hcf) ?_;rintro _ A1 ⟨hE3,t,rfl,hfew⟩;refine re trivial ?_;repeat refine c_r ?_
  cases t with
  |false=>
   refine wt yaS ?_;refine gz0 ?_;refine rt0 ntmps17 ?_;exact⟨hEw.trans hE3,_,rfl,λ h=>by cases h⟩
  |true=>
  refine wf yaN ?_;have hf:=hfew rfl;have dx1:=zac hE3 dx;repeat refine c_r ?_
  refine rc (an2 s3 dx1) (Of15_ok A1 (hcf.ext hE3) hf) ?_;rintro _ A2 ⟨hE4,cs',rfl,hcf2⟩;refine rd trivial (zjx A2 hcf2 hf) ?_;rintro _ A3 ⟨hE5,a,e,rfl,he⟩;refine re trivial ?_;refine gz0 ?_;refine rt0 ntmps17 ?_;refine⟨hEw.trans (hE3.trans (hE4.trans hE5)),_,rfl,λ h=>?_⟩;have hro:=he (by simpa using h);have hgj:∀h∈N.hosts,h.zones.length<=4/\∀z∈h.zones,GoodZ z:=λ h hh=>by
   obtain⟨j,hj,rfl⟩:=ybh.1 hh;exact hgood j hj oM
  refine⟨⟨oM,λ h hh=>(hf.s (srvH h) (ybH hh)).1.m,λ h hh=>by have:=(hgj h hh).1;omega,λ h hh=>(hgj h hh).2,oM⟩,k1,k2,λ r hr=>?_,k3,k4,λ h hh=>(hgj h hh).1,λ h hh=>(hf.s (srvH h) (ybH hh)).1⟩;have:=hro.inn r hr;rw[show (confN N).servers.length=N.hosts.length from ylm _]at this;exact this
structure GoodSt(N:NetL)(s:zay):Prop where
 s0:0<=s.sv
 s1:s.sv<(N.hosts.length:Int)
 nm:zbQ s.name=true
 w0:0<=s.rw
 w1:s.rw<=N.rw
 f0:0<=s.rf
 f1:s.rf<=N.rf
 e0:0<=s.fin
 e1:s.fin<=9
theorem zmk:∀{n:Nm},(∀l∈n,l≠ [])->2*n.length<=(n.map λ l=>1+l.length).sum
 | [],_=>sM
 |l::n,h=>by
  have h1:=yau.2 (h l (yal ..));have h2:=zmk (n:=n) λ m hm=>h m (yak _ hm);rw[yaU,yca,yah];omega
theorem zj2(h:zaC n=0):n.length<=127:=by
 have hl:=zbi h;have h2:=zmk λ l hm=>(hl l hm).1;unfold zaC at h;cases hf:n.find? (λ l=>decide (errL l≠0)) with
 |some x=>
  rw[hf]at h;have h1:=ycN hf;simp at h1;exact absurd h h1
 |none=>
  rw[hf]at h
  dsimp only at h
  split at h
  ·cases h
  ·rename_i h3;unfold lenN at h3;omega
theorem zlH(h:zaC n=0):zbQ n=true:=by
 unfold zbQ;rw[yaB,ydT];refine⟨?_,h⟩;have h1:=zbi h;have h2:=zj2 h;unfold few;simp only[yaB,ydT,ybg];refine⟨oM,λ l hl=>by have:=(h1 l hl).2;omega⟩
theorem GoodSt.b{s:zay}(h:GoodSt N s)(hN:zaO N):StB s:=⟨(zb2 h.nm).m,h.w0,by have:=h.w1;have:=hN.w.2;omega,h.f0,by have:=h.f1;have:=hN.f.2;omega⟩
structure zoj(N:NetL)(s x:zay):Prop where
 g:GoodSt N x
 w:s.rw<=x.rw
 f:s.rf<=x.rf
 m1:x.rw - s.rw+x.rf - s.rf<=1
 go:x.fin=0->x.rw - s.rw+x.rf - s.rf=1
theorem zi3{s s0 x:zay}{k:Int}(hs:GoodSt N s)(hk:1<=k/\k<=9)(hw:s0.rw=s.rw)(hf:s0.rf<=s.rf/\s.rf<=s0.rf+1)(hx:x∈endS s k):zoj N s0 x:=by
 rw[yae.1 hx];exact⟨⟨hs.s0,hs.s1,hs.nm,hs.w0,hs.w1,hs.f0,hs.f1,by dsimp only;omega,hk.2⟩,by dsimp only;omega,by dsimp only;omega,by dsimp only;omega,λ h=>by dsimp only at h;omega⟩
theorem zkx{α:Type}{p:α->Bool}:∀{l:List α} {i:Nat} {k:Int},k∈zdJ p i l->(i:Int)<=k/\k<(i:Int)+(l.length:Int)
 | [],i,k,h=>by cases h
 |a::l,i,k,h=>by
  unfold zdJ at h;rcases yai.1 h with h|h
  ·split at h
   ·rw[yae.1 h,yah];omega
   ·cases h
  ·have:=zkx h;rw[yah];omega
theorem aliasS_F{s x:zay}{to:Nm}(hN:zaO N)(hs:GoodSt N s)(h0:s.fin=0)(ht:zaC to=0)(hx:x∈zgV N s to):zoj N s x:=by
 unfold zgV at hx
 split at hx
 ·exact zi3 hs oM rfl oM hx
 rename_i hw;have hw':s.rw<N.rw:=oM;have g:∀k:Int,0<=k->k<(N.hosts.length:Int)->zoj N s {s with rw:=s.rw+1,name:=to,ref:=false,sv:=k}:=λ k h1 h2=>
  ⟨⟨h1,h2,zlH ht,by have:=hs.w0;dsimp only;omega,by dsimp only;omega,hs.f0,hs.f1,hs.e0,hs.e1⟩,by dsimp only;omega,by dsimp only;omega,by dsimp only;omega,λ _=>by dsimp only;omega⟩
 split at hx
 ·rw[yae.1 hx];exact g s.sv hs.s0 hs.s1
 ·unfold zdI at hx;obtain⟨k,hk,rfl⟩:=yaq.1 hx;have:=hN.rin k hk;exact g k this.1 this.2
theorem referS_F{s x:zay}{r:ResL}(hs:GoodSt N s)(h0:s.fin=0)(hx:x∈zgi N s r):zoj N s x:=by
 unfold zgi at hx
 split at hx
 ·exact zi3 hs oM rfl oM hx
 rename_i hw;have hf0:=hs.f0;have hs2:GoodSt N {s with rf:=s.rf+1}:=⟨hs.s0,hs.s1,hs.nm,hs.w0,hs.w1,by dsimp only;omega,by dsimp only;omega,hs.e0,hs.e1⟩;obtain⟨h,_,hx⟩:=yaY.1 hx;unfold ze0 at hx;rcases yai.1 hx with hx|hx
 ·split at hx
  ·exact zi3 hs2 oM rfl (by dsimp only;omega) hx
  ·cases hx
 ·obtain⟨k,hk,rfl⟩:=yaq.1 hx;unfold ofR zna at hk;have:=zkx hk;exact⟨⟨by dsimp only;omega,by dsimp only;omega,hs.nm,hs.w0,hs.w1,by dsimp only;omega,by dsimp only;omega,hs.e0,hs.e1⟩,by dsimp only;omega,by dsimp only;omega,by dsimp only;omega,λ _=>by dsimp only;omega⟩
theorem zkB{s x:zay}{t:Int}(hN:zaO N)(hs:GoodSt N s)(hx:x∈zcq N s t):s.fin=0/\zoj N s x:=by
 have hF:=ask_F (s:=s.sv) (t:=t) hN.z (zb2 hs.nm).m;unfold zcq at hx
 split at hx
 ·rename_i h0;refine⟨h0,?_⟩;repeat first| (split at hx;(first|exact zi3 hs oM rfl oM hx|exact aliasS_F hN hs h0 (hF.nm (by assumption)) hx|exact referS_F hs h0 hx))|exact zi3 hs oM rfl oM hx
 ·cases hx
theorem next_ne{s:zay}{t:Int}(hN:zaO N)(hs:GoodSt N s)(h0:s.fin=0):zcq N s t≠ []:=by
 have hF:=ask_F (s:=s.sv) (t:=t) hN.z (zb2 hs.nm).m;have he:∀k:Int,endS s k≠ []:=λ k h=>by cases h
 unfold zcq;rw[if_pos h0]
 split
 ·exact he _
 split
 ·exact he _
 split
 ·exact he _
 split
 ·exact he _
 split
 ·unfold zgV
  split
  ·exact he _
  split
  ·intro h;cases h
  ·intro h;unfold zdI at h;have:=ybQ.1 h;have:=hN.r1.1
   simp_all
 split
 ·rename_i h4;unfold zgi
  split
  ·exact he _
  ·intro h;have hn:=hF.ld h4;obtain⟨x,hx⟩:=ycB _ hn;have h2:=List.flatMap_eq_nil_iff.1 h x hx;unfold ze0 at h2;obtain⟨h3,h5⟩:=List.append_eq_nil_iff.1 h2;have h6:=ybQ.1 h5;rw[h6]at h3;cases h3
 split<;>exact he _
theorem ziq{u:Int}{ds:List DatL}:(zaz u ds).length<=ds.length:=by
 unfold zaz
 split
 ·exact yaW _ _
 ·simp
theorem next_len{s:zay}{t:Int}(hN:NetZ N)(ms:NmM s.name):(zcq N s t).length<=2000000:=by
 have hF:=ask_F (s:=s.sv) (t:=t) hN ms;have he:∀k:Int,(endS s k).length<=2000000:=λ k=>by unfold endS;simp
 have h1:=hN.rl;have h2:=hN.hl;unfold zcq
 split
 ·repeat (split;· exact he _)
  split
  ·unfold zgV
   split
   ·exact he _
   split
   ·simp
   ·unfold zdI;rw[ylm];omega
  split
  ·unfold zgi
   split
   ·exact he _
   ·have h3:=zh3 (λ a=>ziS (N:=N) (r:=askN N s.sv s.name t) (s:={s with rf:=s.rf+1}) (h:=a)) (zaz 2 (askN N s.sv s.name t).data);have h4:=ziq (u:=2) (ds:=(askN N s.sv s.name t).data);have h5:=hF.dl;have h6:(zaz 2 (askN N s.sv s.name t).data).length*(N.hosts.length+1)<=1000*1001:=ycj oM oM;omega
  split<;>exact he _
 ·simp
def zeB(N:NetL)(t:Int):Nat->Nat->List MetL->List MetL
 |0,_,row=>row
 |f+1,i,row=>match row[i]? with
  |some x=>if row.length<=4096 then zeB N t f (i+1) (zbu x.2 0 row (zcq N x.1 t)) else row
  | .none=>row
def zbW(N:NetL)(q:Nm):List zay:=zdI N ⟨0,q,0,0,false,0⟩
def zeq(N:NetL)(q:Nm)(t:Int):List MetL:=zeB N t 4097 0 (zbu [] 0 [] (zbW N q))
def zdS(row:List MetL)(k:Int):Option MetL:=row.find? λ x=>decide (x.1.fin=k)
def zi7(row:List MetL)(n:Nat):List (Int×List Int):=(List.range n).filterMap λ j=>(zdS row ((j+1:Nat):Int)).map λ x=>(((j+1:Nat):Int),x.2)
def zi5(row:List MetL):List (Int×List Int):=zi7 row 9
theorem zhs{row:List MetL}{n:Nat}:zi7 row (n+1)=zi7 row n++((zdS row ((n+1:Nat):Int)).map λ x=>(((n+1:Nat):Int),x.2)).toList:=by
 unfold zi7;rw[List.range_succ,ybD]
 congr 1
theorem zi6(row:List MetL)(n:Nat):(zi7 row n).length<=n:=by
 unfold zi7;have:=yaW (λ j=>(zdS row ((j+1:Nat):Int)).map λ x=>(((j+1:Nat):Int),x.2)) (List.range n);rw[List.length_range]at this;exact this
structure EndI(w:World)(P:List MetL)(E:List (Value×MetL)):Prop where
 a:∀e∈E,zdS P e.2.1.fin=some e.2/\e.2.1.fin≠0/\Row w e.1 (e.2.2.map vi)
 b:∀x∈P,x.1.fin≠0->∃e∈E,e.2.1.fin=x.1.fin
theorem EndI.ext{P:List MetL}{E:List (Value×MetL)}(h:EndI w P E)(hE:Ext w x):EndI x P E:=
 ⟨λ e he=>by obtain⟨h1,h2,h3⟩:=h.a e he;exact⟨h1,h2,h3.ext hE⟩,h.b⟩
theorem zeA{P:List MetL}{X:MetL}{k:Int}:zdS (P++ [X]) k=(zdS P k).or (if X.1.fin=k then some X else .none):=by
 unfold zdS;rw[ydn]
 congr 1
 by_cases h:X.1.fin=k<;>simp[h]
theorem EndI.keep{P:List MetL}{E:List (Value×MetL)}{X:MetL}(h:EndI w P E)(hx:X.1.fin=0\/∃e∈E,e.2.1.fin=X.1.fin):EndI w (P++ [X]) E:=by
 refine⟨λ e he=>?_,λ x hx' h0=>?_⟩
 ·obtain⟨h1,h2,h3⟩:=h.a e he;exact⟨by rw[zeA,h1];rfl,h2,h3⟩
 ·rcases yai.1 hx' with hx'|hx'
  ·exact h.b x hx' h0
  ·rw[yae.1 hx']at h0 ⊢;exact hx.resolve_left h0
theorem EndI.add{P:List MetL}{E:List (Value×MetL)}{X:MetL}{pv:Value}(h:EndI w P E)(h0:X.1.fin≠0)(hn:∀e∈E,e.2.1.fin≠X.1.fin)(hr:Row w pv (X.2.map vi)):EndI w (P++ [X]) (E++ [(pv,X)]):=by
 have hnone:zdS P X.1.fin= .none:=ybF.2 λ x hx e=>by
  have e:=of_decide_eq_true e;obtain⟨y,hy,he⟩:=h.b x hx (by rw[e];exact h0);exact hn y hy (he.trans e)
 refine⟨λ e he=>?_,λ x hx' hx0=>?_⟩
 ·rcases yai.1 he with he|he
  ·obtain⟨h1,h2,h3⟩:=h.a e he;exact⟨by rw[zeA,h1];rfl,h2,h3⟩
  ·rw[yae.1 he];exact⟨by rw[zeA,hnone,if_pos rfl];rfl,h0,hr⟩
 ·rcases yai.1 hx' with hx'|hx'
  ·obtain⟨e,he,h1⟩:=h.b x hx' hx0;exact⟨e,yas _ he,h1⟩
  ·exact⟨(pv,X),sM,by rw[yae.1 hx']⟩
theorem EndI.no{P:List MetL}{E:List (Value×MetL)}{k:Int}(h:EndI w P E)(hk:k≠0)(hn:∀e∈E,e.2.1.fin≠k):zdS P k= .none:=ybF.2 λ x hx e=>by
 have e:=of_decide_eq_true e;obtain⟨y,hy,he⟩:=h.b x hx (by rw[e];exact hk);exact hn y hy (he.trans e)
def entE(e:Value×MetL):Value×Value:=(vi e.2.1.fin,.agg #[vi e.2.1.fin,e.1])
structure RowG(N:NetL)(i:Nat)(row:List MetL):Prop where
 g:∀y∈row,GoodSt N y.1
 p:∀y∈row,y.2.length<=i
theorem RowG.meet{row:List MetL}{p:List Int}{L:List zay}(h:RowG N i row)(hp:p.length<i)(hL:∀s∈L,GoodSt N s):RowG N i (zbu p k row L):=by
 refine⟨λ y hy=>?_,λ y hy=>?_⟩
 ·rcases zeS hy with hy| ⟨hy,_⟩
  ·exact h.g y hy
  ·exact hL _ hy
 ·rcases zeS hy with hy| ⟨_,j,e⟩
  ·exact h.p y hy
  ·rw[e,yab,ybw];omega
theorem RowG.mono{row:List MetL}(h:RowG N i row)(hij:i<=j):RowG N j row:=⟨h.g,λ y hy=>yaD (h.p y hy) hij⟩
theorem zfN{x:Int}(h0:0<=x)(h1:x<=1000000):(Lit.int .i64 x).wf=true:=by
 have e1:IntKind.i64.min= -9223372036854775808:=by decide
 have e2:IntKind.i64.max=9223372036854775807:=by decide
 show(decide (IntKind.i64.min<=x) && decide (x<=IntKind.i64.max))=true;rw[e1,e2,yet oM,yet oM];rfl
theorem zkm:∀{l:List Nat},(∀x∈l,x<=k)->l.sum<=k*l.length
 | [],_=>sM
 |a::l,h=>by
  have h1:=h a sM;have h2:=zkm (l:=l) λ x hx=>h x (by simp[hx]);rw[yca,yah,Nat.mul_succ];omega
theorem zh0{s:zay}(hN:zaO N)(h:GoodSt N s):StG s:=by
 have hg:=zb2 h.nm;have hf:=hg.fold;have hfew:few s.name=true:=by have:=h.nm;unfold zbQ at this;exact(Bool.and_eq_true_iff.1 this).1
 have hl:∀l∈zag s.name,l.length<=100:=λ l hl=>by
  obtain⟨x,hx,rfl⟩:=yaq.1 hl;simp only[few,yaB,ybg,ydT]at hfew;rw[zdQ];exact hfew.2 x hx
 have h1:=hN.h1.2;have h2:=hN.w.2;have h3:=hN.f.2;have:=h.s0;have:=h.s1;have:=h.w0;have:=h.w1;have:=h.f0;have:=h.f1;have:=h.e0;have:=h.e1;refine⟨hg,?_,zfN (by show 0<=s.sv;omega) (by show s.sv<=_;omega),zfN (by show 0<=s.rw;omega) (by show s.rw<=_;omega),zfN (by show 0<=s.rf;omega) (by show s.rf<=_;omega),zfN (by show 0<=s.fin;omega) (by show s.fin<=_;omega)⟩;show(zco (zag s.name)).length<=_;have h4:=zf8 (zag s.name);have h5:=zkm (k:=100) (l:=(zag s.name).map List.length) (λ x hx=>by obtain⟨l,hl',rfl⟩:=yaq.1 hx;exact hl l hl');rw[ylm]at h5;have h6:=hf.len;unfold zco
 split
 ·simp
 ·omega
theorem zjD(hN:zaO N)(hq:zbQ q=true):∀s∈zbW N q,GoodSt N s:=λ s hs=>by
 obtain⟨r,hr,rfl⟩:=yaq.1 hs;obtain⟨h1,h2⟩:=hN.rin r hr;exact⟨h1,h2,hq,ydp _,hN.w.1,ydp _,hN.f.1,ydp _,by show(0:Int)<=9;decide⟩
theorem expl_g{t:Int}(hN:zaO N):∀{f i:Nat} {row:List MetL},RowG N (i+1) row->RowG N (i+f+1) (zeB N t f i row)
 |0,i,row,h=>h
 |f+1,i,row,h=>by
  unfold zeB
  split
  ·rename_i x hx
   split
   ·have hm:=List.mem_of_getElem? hx;have h1:=h.p x hm;have:=expl_g (f:=f) (i:=i+1) (t:=t) hN ((h.mono (j:=i+1+1) oM).meet (k:=0) (p:=x.2) (L:=zcq N x.1 t) oM (λ s hs=>(zkB hN (h.g x hm) hs).2.g));rw[show i+(f+1)+1=i+1+f+1 by omega];exact this
   ·exact h.mono oM
  ·exact h.mono oM
structure EndAt(w:World)(cs:List Value)(x:Int×List Int):Prop where
 ex:∃pv,cs=[vi x.1,pv]/\Row w pv (x.2.map vi)
theorem EndAt.ext{e:Int×List Int}(h:EndAt w cs e)(hE:Ext w x):EndAt x cs e:=by
 obtain⟨pv,e1,h1⟩:=h.ex;exact⟨pv,e1,h1.ext hE⟩
theorem ze1(w:World):zdD 2 (EndAt w):=⟨λ h=>by obtain⟨pv,rfl,_⟩:=h.ex;rfl,λ h=>by obtain⟨pv,rfl,h1⟩:=h.ex;exact za7 rfl h1.isOne⟩
theorem zm5{s:zay}{t:Int}(hN:zaO N)(hs:GoodSt N s):(zcq N s t).length<=2000000:=next_len hN.z (zb2 hs.nm).m
theorem zma(hE0:Ext w0 w){qv:Value}{t:Int}(hN:NetAt w0 cs N)(hG:zaO N)(hq:Row w qv (q.map vs))(hgq:zbQ q=true):
  Fn prog 25 #[.agg cs.toArray,qv,vi t] w (λ v w'=>Ext w w'/\((4096<(zeq N q t).length/\v= .tuple #[.slice .none 0 0,vi 0,vi 11])\/
   ((zeq N q t).length<=4096/\∃ev,v= .tuple #[ev,vi (zeq N q t).length,vi 0]/\Rows 2 (EndAt w') w' ev (zi5 (zeq N q t))))):=by
 have hN0:=hN;obtain⟨hsv,rv,rfl,hh,hr⟩:=hN.ex;obtain⟨ah,ch,hhv,_⟩:=hh.open;obtain⟨ar0,cr0,hrv,_⟩:=id hr;refine enx func25 ntmps25 ?_;repeat refine c_r ?_
 rw[hhv,hrv];refine go trivial ?_;rw[←hhv,←hrv];refine zav ?_;intro w1 hE1 hs1 hA;refine rq ?_;intro gd K hgd hK;try simp only[go_sem]
 refine⟨by kernel_rfl,?_⟩;rw[show bdV prog 135 [(0,.map (some w1.heap.size))]=some (.agg #[.map (some w1.heap.size),.slice .none 0 0]) from by kernel_rfl];try simp only[go_sem]
 apply hK;rw[zai];refine go trivial ?_;refine zaQ ?_;intro w2 hE2 hs2 hM hB;have dN:zat w2 (some ⟨w.heap.size,0,.none⟩) 4=some [hsv,rv,vi N.rw,vi N.rf]:=zah (Ext.at hE2 hA) rfl;obtain⟨m,hm⟩:∃m,w1.heap.size=m:=⟨_,rfl⟩;rw[hm]at hM hB hs2 ⊢;have hI2:SetI w1 w2 (m+1) m (.slice .none 0 0) []:=⟨hB,⟨_,_,hM,rfl⟩,Owns.nil _ _ _ _ _,hE2,oM,oM,oM,(λ e=>by cases e),(λ e=>by cases e)⟩;clear hB hM;have hE02:=hE0.trans (hE1.trans hE2);refine go trivial ?_;have hmq:=zb2 hgq;refine rc dN (zn4 hE02 hN0 hG.z.rl (hq.ext (hE1.trans hE2))) ?_;rintro sv w3 ⟨hE3,hsb,_,rfl,hsr,hsn⟩;have hI3:=hI2.ext hE3;have hSw:∀i,setB (m+1) m (.slice .none 0 0) i->w1.heap.size<=i/\i<w2.heap.size:=λ i hi=>hI2.lt hi;have hsl:(zbW N q).length<=1000:=by have:=hG.z.rl;unfold zbW zdI;rw[ylm];exact this
 refine rd trivial (zm9 (L:=zbW N q) (p:=[]) hI3 ⟨⟨.none,0,rfl,ynl _,λ j h=>by simp at h⟩,λ h=>absurd rfl h⟩ (by decide) hsr (λ a n c e=>by
  obtain⟨k1,k2⟩:=hsb a n c e;exact⟨k2,λ hj=>by have:=hSw _ hj;omega⟩) (λ s hs=>by
  have:s.name=q:=by obtain⟨r,_,rfl⟩:=yaq.1 hs;rfl
  rw[this];exact RowY.old hq (hE1.trans (hE2.trans hE3)) λ b hb=>by have:=hSw _ hb;have:=hE1.size;omega) (λ s hs=>zh0 hG (zjD hG hgq s hs)) (λ y hy=>by cases hy) (by simp;omega)) ?_
 rintro _ w4 ⟨lv,hI4,hk4,hS4⟩;refine rgo trivial ?_;have hR0:RowG N 1 (zbu [] 0 [] (zbW N q)):=RowG.meet ⟨λ y hy=>(by cases hy),λ y hy=>(by cases hy)⟩ (by simp) (zjD hG hgq);have hl0:(zbu [] 0 [] (zbW N q)).length<=1000:=by have:=zeT (p:=[]) (k:=0) (L:=zbW N q) (row:=[]);simp at this;omega
 obtain⟨F,hF⟩:∃F,zeq N q t=F:=⟨_,rfl⟩;rw[hF];have hA4:w4.heap[w.heap.size]? =some (.cells #[hsv,rv,vi N.rw,vi N.rf] 25 (0,0)):=Ext.at (hI4.e) hA;have hqo:∀{v lv':_} {row:List MetL},SetI w1 v (m+1) m lv' row->zat v (some ⟨w.heap.size,0,.none⟩) 4=some [hsv,rv,vi N.rw,vi N.rf]:=λ h=>zah (Ext.at h.e hA) rfl;refine zaw (Q:=λ e σ' ds' v=>e= .exit 0/\ds'=[]/\(σ' 9= .pointer (some ⟨m+1,0,.none⟩))/\∃lv,SetI w1 v (m+1) m lv F/\RowG N 5000 F/\F.length<=2100000) ?_ ?_
 ·refine zan (λ mm σ ds v=>ds=[]/\∃(i:Nat) (lv:Value) (row:List MetL),i+mm=4098/\(σ 10=vi i/\σ 9= .pointer (some ⟨m+1,0,.none⟩)/\σ 3= .pointer (some ⟨w.heap.size,0,.none⟩)/\σ 2=vi t)/\SetI w1 v (m+1) m lv row/\RowG N (i+1) row/\row.length<=2100000/\zeB N t (4097 - i) i row=F) 4098 ?_ ?_
  ·exact⟨rfl,0,lv,_,oM,⟨vr0,vq0,vq0,vq0⟩,hI4,hR0,oM,hF⟩
  rintro mm σ ds v ⟨rfl,i,lv1,row,him,s,hI,hRG,hrl,hFe⟩;obtain⟨al,cl,rfl,_,hgl⟩:=hI.o.rows.open;have c1:zad v (some ⟨m+1,1,.none⟩)=some (.slice al row.length cl):=zab (i:=1) hI.c rfl;by_cases hi:i<row.length
  rotate_left
  ·have hFr:row=F:=by
    rw[←hFe];cases hf:4097 - i with
    |zero=>rfl
    |succ f=>unfold zeB;rw[ybY oM]
   have hd:decide ((i:Int)<(row.length:Int))=false:=yef oM;refine go trivial ?_;refine rgg [(7,35)] (an3 s c1 hd) ?_;refine go trivial ?_;rw[←hFr];exact⟨rfl,rfl,vq1 s,_,hI,hRG.mono oM,hrl⟩
  have hd:decide ((i:Int)<(row.length:Int))=true:=yet oM;by_cases hm4:row.length<=4096
  rotate_left
  ·have hFr:row=F:=by
    rw[←hFe];cases hf:4097 - i with
    |zero=>rfl
    |succ f=>unfold zeB;rw[yam hi];simp only[];rw[if_neg hm4]
   have hd2:decide ((row.length:Int)<=4096)=false:=yef oM;refine go trivial ?_;refine rgg [(7,35)] (an4 s c1 hd hd2) ?_;refine go trivial ?_;rw[←hFr];exact⟨rfl,rfl,vq1 s,_,hI,hRG.mono oM,hrl⟩
  have hd2:decide ((row.length:Int)<=4096)=true:=yet oM;obtain⟨f,hf⟩:∃f,4097 - i=f+1:=⟨4096 - i,oM⟩;obtain⟨cs7,hcs,hMt⟩:=hgl i hi;have hmem:=yac hi;have hFn:zeB N t f (i+1) (zbu row[i].2 0 row (zcq N row[i].1 t))=F:=by
   rw[←hFe,hf]
   conv=>rhs;unfold zeB
   rw[yam hi];simp only[];rw[if_pos hm4]
  obtain⟨X,hX⟩:∃X,row[i]=X:=⟨_,rfl⟩;rw[hX]at hMt hmem hFn;have gX:=hRG.g X hmem;have pX:=hRG.p X hmem;obtain⟨nv,pv,rfl,hnv,hpv⟩:=id hMt.ex;obtain⟨xa,rfl⟩:=yxs (zak hcs);obtain⟨xi,hxi⟩:∃xi,adr (some xa) (i*7)=some xi:=⟨_,rfl⟩;rw[hxi]at hcs;have hz0:adr (some xi) 0=some xi:=zar _;obtain⟨x6,hx6⟩:∃x,adr (some xi) 6=some x:=⟨_,rfl⟩;have g6:=zaq (j:=6) hcs rfl;rw[hx6]at g6;have gS:=zcB (m:=6) (k:=1) hcs;rw[show (stV nv X.1++ [pv]).take 6=stV nv X.1 from rfl]at gS;have hi0:=cj i;have hi1:(i:Int)<(row.length:Int):=oM;have hi1':=ci i;have dN':=hqo hI;have hnl:=zm5 (t:=t) hG gX;refine go trivial ?_;refine rgg [(7,35)] (an4 s c1 hd hd2) ?_;refine go trivial ?_;refine zaw (Q:=λ e σ' ds' v'=>e= .normal/\ds'=[]/\(σ' 10=vi i/\σ' 9= .pointer (some ⟨m+1,0,.none⟩)/\σ' 3= .pointer (some ⟨w.heap.size,0,.none⟩)/\σ' 2=vi t)/\∃lv',SetI w1 v' (m+1) m lv' (zbu X.2 0 row (zcq N X.1 t))) ?_ ?_
  ·refine zaF (λ i=>i==20) [(0,true),(1,true),(2,true),(3,true),(4,true),(5,true),(6,true),(7,true),(8,true),(9,true),(10,true),(11,true),(12,true),(13,true),(14,true),(15,true),(16,true),(17,true),(18,true),(19,false),(20,false)] NoS mixed kR ?_;intro gd K x hgd hx hxe hK;clear hxe;have c1x:=zaa hx c1;have g6x:=zaa hx g6;have gSx:=zac hx gS;have dNx:=zac hx dN';unfold stV at gSx;refine sgz (az2 (az7 s c1x g6x gSx dNx hxi hz0) (az3 hx6 hi0 hi1)) ?_;have hE0x:=hE0.trans (hE1.trans (hI.e.trans hx));refine yfm (NextF_ok (t:=t) hE0x hN0 hG.z (hnv.1.ext hx) (gX.b hG)) ?_;rintro sv2 y ⟨hy,hsb2,u,hok,hsr2,hsn2⟩;refine⟨.inr hy,?_⟩;refine sg0 ?_;have hIy:=hI.ext (hx.trans hy);have hSx:∀j,setB (m+1) m (.slice (some xa) row.length cl) j->w1.heap.size<=j/\j<x.heap.size:=λ j hj=>(hI.ext hx).lt hj;have kx:Keep (setB (m+1) m (.slice (some xa) row.length cl)) v y:=(hx.trans hy).mono λ _ _ h=>h.elim;refine yfm (zm9 (L:=zcq N X.1 t) (p:=X.2) hIy (hpv.turn kx λ _ h=> .inl h) oM hsr2 (λ a n c e=>by
    obtain⟨k1,k2⟩:=hsb2 a n c e;exact⟨k2,λ hj=>by have:=hSx _ hj;omega⟩) (λ s' hs'=>?_) (λ s' hs'=>zh0 hG (zkB hG gX hs').2.g) (λ y' hy'=>(zh0 hG (hRG.g y' hy')).k) oM) ?_
   ·rcases hok with rfl|hok| ⟨l,hl⟩
    ·exact(hnv.turn kx λ _ h=> .inl h).alike (hsn2 s' hs')
    ·refine⟨hsn2 s' hs',λ _ a n c e=>?_⟩;obtain⟨k1,k2⟩:=hok a n c e;exact⟨k2,λ hj=>by have:=hSx _ hj;omega⟩
    ·exact(RowY.old hl (hE0x.trans hy) λ j hj=>by have:=(hSx j hj).1;have:=(hE0.trans hE1).size;omega).alike (hsn2 s' hs')
   rintro _ z ⟨lv2,hI2',_,_⟩;refine⟨.inl rfl,?_⟩;refine sg0 ?_;apply hK;exact⟨rfl,rfl,sc s,lv2,hI2'⟩
  clear s;rintro _ σ1 _ v1 ⟨rfl,rfl,s,lv2,hI2'⟩;have hml:=zeT (p:=X.2) (k:=0) (L:=zcq N X.1 t) (row:=row);refine go (an2 s hi1') ?_;exact⟨mm - 1,oM,rfl,i+1,lv2,_,oM,sc (an2 s hi1'),hI2',(hRG.mono (j:=i+1+1) oM).meet oM (λ s hs=>(zkB hG gX hs).2.g),oM,by rw[show 4097 - (i+1)=f by omega];exact hFn⟩
 rintro _ σ _ v ⟨rfl,rfl,s9,lv5,hI5,hRF,hFl⟩;obtain⟨al,cl,rfl,_,hgl⟩:=hI5.o.rows.open;have c1:zad v (some ⟨m+1,1,.none⟩)=some (.slice al F.length cl):=zab (i:=1) hI5.c rfl;have hEwv:Ext w v:=hE1.trans hI5.e;refine go trivial ?_;by_cases h4:(F.length:Int)>4096
 ·refine go (an4 s9 c1 (yet h4) yn0) ?_;refine zau (.inr rfl) ntmps25 rfl (zaj (v:= .slice .none 0 0) vr0 (zaj (v:=vi 0) vr0 (zaj (v:=vi 11) vr0 zas))) ?_;exact⟨hEwv,.inl ⟨oM,rfl⟩⟩
 refine go (an4 s9 c1 (yef h4) yn0) ?_;refine zav ?_;intro v1 hEm hsm hMp;obtain⟨mp,hmp⟩:∃mp,v.heap.size=mp:=⟨_,rfl⟩;rw[hmp]at hMp hsm ⊢;have c1m:=zaa hEm c1;refine go (an2 s9 c1m) ?_;have hEI0:EndI v ([]:List MetL) []:=⟨λ e he=>(by cases he),λ x hx=>(by cases hx)⟩;have hG0:GM v1 mp (([]:List (Value×MetL)).map entE):=⟨_,_,hMp,rfl⟩;refine zaw (Q:=λ e σ' ds' x=>e= .exit 2/\ds'=[]/\(σ' 11= .map (some mp)/\σ' 9= .pointer (some ⟨m+1,0,.none⟩))/\∃E,Ext v x/\EndI v F E/\GM x mp (E.map entE)) ?_ ?_
 ·refine zgX F.length (λ i σ x=>(σ 78=vi i/\σ 77=vi F.length/\σ 76= .slice al F.length cl/\σ 11= .map (some mp)/\σ 9= .pointer (some ⟨m+1,0,.none⟩))/\∃E,Ext v x/\EndI v (F.take i) E/\GM x mp (E.map entE)) ?_ ?_ ?_
  ·exact⟨⟨vr0,vq0,vq0,vq0,vq1 s9⟩,[],hEm,hEI0,hG0⟩
  ·rintro i σ X hi q ⟨s,E,hEX,hEI,hGM⟩;obtain⟨cs7,hcs,hMt⟩:=hgl i hi;replace hcs:=zac hEX hcs;obtain⟨nv,pv,rfl,hnv,hpv⟩:=id hMt.ex;have hone:=hMt.ones;have hpX:=hpv.1;obtain⟨xa,rfl⟩:=yxs (zak hcs);obtain⟨xi,hxi⟩:∃xi,adr (some xa) (i*7)=some xi:=⟨_,rfl⟩;rw[hxi]at hcs;have htk:F.take (i+1)=F.take i++ [F[i]]:=zal hi;obtain⟨S,hS⟩:∃S,F[i]=S:=⟨_,rfl⟩;rw[hS]at htk hcs hpX hone;refine go (an3 s q hxi) ?_;refine rq ?_;intro gd K hgd hK;replace hcs:zat X (some xi) 7=some [vi S.1.sv,nv,vi S.1.rw,vi S.1.rf,.bool S.1.ref,vi S.1.fin,pv]:=hcs;refine sgz (az4 s q hxi hcs) ?_;refine zaV (P:=prog) (l:=stV nv S.1++ [pv]) rfl hone.2 rfl rfl ?_;intro X1 hX1 hs1 hC;try simp only[go_sem]
   apply hK;obtain⟨c7,hc7⟩:∃c,X.heap.size=c:=⟨_,rfl⟩;rw[hc7]at hC ⊢;have g5:zad X1 (some ⟨c7,5,.none⟩)=some (vi S.1.fin):=zab (i:=5) hC rfl;have g6:zad X1 (some ⟨c7,6,.none⟩)=some pv:=zab (i:=6) hC rfl;have hEX1:=hEX.trans hX1;replace hGM:=hGM.block (hX1.block _ hGM.lt (λ h=>h));clear hcs hxi hC hMt hnv hpv;have hgk:∀p∈E.map entE,∃n,p.1= .int .i64 n:=λ p hp=>by obtain⟨e,_,rfl⟩:=yaq.1 hp;exact⟨_,rfl⟩
   refine go trivial ?_;refine rq ?_;intro gd K hgd hK;refine sgz g5 ?_;refine zhP (key:=vi S.1.fin) (z:= .agg #[vi 0,.slice .none 0 0]) (MKey.int (kd:= .i64) rfl) rfl rfl rfl ((vq1 s)) vr0 hGM ⟨_,rfl⟩ hgk (λ hno=>?_) (λ u hu=>?_)
   ·have hn:∀e∈E,e.2.1.fin≠S.1.fin:=λ e he h0=>hno _ (yaq.2 ⟨e,he,rfl⟩) (by unfold entE;rw[h0]);try simp only[go_sem]
    refine zaV (P:=prog) (l:=[vi 0,.slice .none 0 0]) rfl (λ q hq=>by simp at hq;rcases hq with rfl|rfl<;>rfl) rfl rfl ?_;intro X2 hX2 hs2 hC2;try simp only[go_sem]
    apply hK;have e5:=zaa hX2 g5;have e6:=zaa hX2 g6;have hEX2:=hEX1.trans hX2;have hGM2:=hGM.block (hX2.block _ hGM.lt (λ h=>h));clear hC2;by_cases hf:S.1.fin=0
    ·refine go trivial ?_;refine rgg [(2,92)] (an2 e5 (yet hf)) ?_;refine go trivial ?_;refine go (an2 s q) ?_;exact⟨rfl,sc (an2 s q),E,hEX2,by rw[htk];exact hEI.keep (.inl hf),hGM2⟩
    ·refine go trivial ?_;refine rgg [(2,92)] (an2 e5 (yef hf)) ?_;refine go trivial ?_;obtain⟨ap,cp,rfl,_⟩:=id hpX;have kbd:∀(n:Int) (l c:Nat),bdV prog 78 [(0,vi n),(1,.slice ap l c)]=some (.agg #[vi n,.slice ap l c]):=λ n l c=>by kernel_rfl
     refine rq ?_;intro gd K hgd hK;refine sgz (az3 s e5 e6) ?_;refine⟨by kernel_rfl,?_⟩;rw[kbd];refine sgz (az3 s e5 e6) ?_;refine zmY (key:=vi S.1.fin) (v:= .agg #[vi S.1.fin,.slice ap (S.2.map vi).length cp]) (MKey.int (kd:= .i64) rfl) rfl ((vq1 s)) vr0 vr0 hGM2 ⟨_,rfl⟩ hgk (λ p hp h0=>by
      obtain⟨e,he,rfl⟩:=yaq.1 hp;injection h0 with _ h0
      exact hn e he h0) ?_
     intro X3 hg3 hk3 hs3;try simp only[go_sem]
     apply hK;refine go (an2 s q) ?_;exact⟨rfl,sc (an2 s q),E++ [(_,S)],ykt hEX2 rfl (λ i hi=>oM) hk3,by rw[htk];exact hEI.add hf hn hpX,by rw[yaC];exact hg3⟩
   ·obtain⟨e,he,hee⟩:=yaq.1 hu;unfold entE at hee;simp only[Prod.mk.injEq]at hee;obtain⟨h1,rfl⟩:=hee;have h1:e.2.1.fin=S.1.fin:=by injection h1
    try simp only[go_sem]
    refine zaV (P:=prog) (l:=[vi e.2.1.fin,e.1]) rfl (λ q hq=>by simp at hq;rcases hq with rfl|rfl;exact rfl;exact(hEI.a e he).2.2.isOne) rfl rfl ?_;intro X2 hX2 hs2 hC2;try simp only[go_sem]
    apply hK;have hEX2:=hEX1.trans hX2;have hGM2:=hGM.block (hX2.block _ hGM.lt (λ h=>h));clear hC2;refine go trivial ?_;refine rgg [(2,92)] trivial ?_;refine go trivial ?_;refine go (an2 s q) ?_;exact⟨rfl,sc (an2 s q),E,hEX2,by rw[htk];exact hEI.keep (.inr ⟨e,he,h1⟩),hGM2⟩
  ·rintro σ x q ⟨s,E,hEX,hEI,hGM⟩;refine go (an2 s q) ?_;rw[yaT]at hEI;exact⟨rfl,rfl,sc s,E,hEX,hEI,hGM⟩
 clear s9;rintro _ σ2 _ v2 ⟨rfl,rfl,s,E,hEX,hEI,hGM⟩;have hEv2:=hEX.size;refine go s ?_;refine zaw (Q:=λ e σ' ds' x=>e= .exit 4/\ds'=[]/\(σ' 9= .pointer (some ⟨m+1,0,.none⟩))/\∃ev,σ' 16=ev/\Ext v2 x/\Owns 2 (EndAt v) v2.heap.size x 78 ev (zi5 F)) ?_ ?_
 ·refine zgX 9 (λ i σ x=>(σ 17=vi ((i+1:Nat):Int)/\σ 11= .map (some mp)/\σ 9= .pointer (some ⟨m+1,0,.none⟩))/\∃ev,σ 16=ev/\Ext v2 x/\Owns 2 (EndAt v) v2.heap.size x 78 ev (zi7 F i)) ?_ ?_ ?_
  ·exact⟨⟨vr0,vq1 s,vq1 s⟩,.slice .none 0 0,vr0,Keep.refl _ _,Owns.nil _ _ _ _ _⟩
  ·rintro i σ x hi _ ⟨s,ev,h16,hEx,ho⟩;have hd:decide (((i+1:Nat):Int)<=9)=true:=yet oM;have hi1:((i+1:Nat):Int)+1=((i+1+1:Nat):Int):=by push_cast;rfl
   have hGMx:=hGM.block (hEx.block _ hGM.lt (λ h=>h));have hgk:∀p∈E.map entE,∃n,p.1= .int .i64 n:=λ p hp=>by obtain⟨e,_,rfl⟩:=yaq.1 hp;exact⟨_,rfl⟩
   refine go (an3 s h16 hd) ?_;refine rq ?_;intro gd K hgd hK;refine sgz s ?_;refine zhP (key:=vi ((i+1:Nat):Int)) (z:= .agg #[vi 0,.slice .none 0 0]) (MKey.int (kd:= .i64) rfl) rfl rfl rfl ((vq1 s)) vr0 hGMx ⟨_,rfl⟩ hgk (λ hno=>?_) (λ u hu=>?_)
   ·have hn:∀e∈E,e.2.1.fin≠((i+1:Nat):Int):=λ e he h0=>hno _ (yaq.2 ⟨e,he,rfl⟩) (by unfold entE;rw[h0]);try simp only[go_sem]
    refine zaV (P:=prog) (l:=[vi 0,.slice .none 0 0]) rfl (λ q hq=>by simp at hq;rcases hq with rfl|rfl<;>rfl) rfl rfl ?_;intro y hy hsy hC;try simp only[go_sem]
    apply hK;refine go trivial ?_;refine go (an3 s h16 hi1) ?_;exact⟨rfl,sc (an2 s hi1),ev,vq1 h16,hEx.trans hy,by rw[zhs,hEI.no oM hn];simpa using ho.ext hy⟩
   ·obtain⟨e,he,hee⟩:=yaq.1 hu;unfold entE at hee;simp only[Prod.mk.injEq]at hee;obtain⟨h1,rfl⟩:=hee;have h1:e.2.1.fin=((i+1:Nat):Int):=by injection h1
    obtain⟨hf,h0,hrw⟩:=hEI.a e he;try simp only[go_sem]
    refine zaV (P:=prog) (l:=[vi e.2.1.fin,e.1]) rfl (λ q hq=>by simp at hq;rcases hq with rfl|rfl;exact rfl;exact hrw.isOne) rfl rfl ?_;intro y hy hsy hC;try simp only[go_sem]
    apply hK;obtain⟨c9,hc9⟩:∃c,x.heap.size=c:=⟨_,rfl⟩;rw[hc9]at hC ⊢;have dE:zat y (some ⟨c9,0,.none⟩) 2=some [vi e.2.1.fin,e.1]:=zah hC rfl;have hEA:EndAt v [vi e.2.1.fin,e.1] (((i+1:Nat):Int),e.2.2):=⟨e.1,by rw[h1],hrw⟩;refine go trivial ?_;refine rq ?_;intro gd K hgd hK;refine sgz (az3 s h16 dE) ?_;refine za4 (ze1 v) rfl rfl rfl rfl hEA (by decide) ?_;intro y2 hE2 hs2 ho2;try simp only[go_sem]
    refine zaR (ze1 v) ((ho.ext hy).ext hE2) ho2.rows rfl rfl rfl rfl rfl rfl (by decide) ((vq1 h16)) vr0 (by have:=zi6 F i;rw[ybw];omega) (by decide) (by have:=hEx.size;have:=hy.size;omega) ?_;intro u y3 ho3 hE3 hk3 hb3;try simp only[go_sem]
    apply hK;refine go (an2 s hi1) ?_;exact⟨rfl,sc (an2 s hi1),u,vr0,hE3 v2 ((hEx.trans hy).trans hE2) (ynl _),by rw[zhs,show zdS F ((i+1:Nat):Int)=some e.2 by rw[←h1];exact hf];exact ho3⟩
  ·rintro σ x _ ⟨s,ev,h16,hEx,ho⟩;have hd:decide (((9+1:Nat):Int)<=9)=false:=by decide
   refine go (an2 s hd) ?_;exact⟨rfl,rfl,sc s,ev,vq1 h16,hEx,ho⟩
 clear s;rintro _ σ3 _ v3 ⟨rfl,rfl,s,ev,h16,hE3,ho⟩;have hEv3:=hEX.trans hE3;have c13:=zaa hEv3 c1;refine go trivial ?_;refine zaF (λ _=>false) [(0,true),(1,true),(2,true),(3,true),(4,true),(5,true),(6,true),(7,true),(8,true)] NoS mixed kR ?_;intro gd K x hgd hx hxe hK;have hx0:=zgH hxe;clear hxe;have c1x:=zaa hx c13;refine sgz (az4 s h16 c1x yn0) ?_;apply hK;refine go trivial ?_
 refine zau (.inr rfl) ntmps25 rfl (zaj (v:=ev) vr0 (zaj (v:=vi F.length) vr0 (zaj (v:=vi 0) vr0 zas))) ?_;exact⟨hEwv.trans (hEv3.trans hx),.inr ⟨oM,ev,rfl,((ho.ext hx).to λ _ _ h=>h.ext (hEv3.trans hx)).rows⟩⟩
def stZ:zay:=⟨0,[],0,0,false,0⟩
def zhd(N:NetL)(t:Int):List Int->List zay->List (zay×Bool)
 | [],_=>[]
 |c::cs,row=>if c<0 then [(stZ,false)] else match row[c.toNat]? with
  |some s=>(s,true)::zhd N t cs (zcq N s t)
  | .none=>[(stZ,false)]
def playL(N:NetL)(q:Nm)(t:Int)(ch:List Int):zay×Bool:=(zhd N t ch (zbW N q)).getLastD (stZ,false)
theorem zmR{t:Int}{cs:List Int}{row:List zay}(h:c<row.length):zhd N t ((c:Int)::cs) row=(row[c],true)::zhd N t cs (zcq N row[c] t):=by
 conv=>lhs;unfold zhd
 rw[if_neg oM,ycQ,yam h]
end Go.Proofs.YtfacfpcopcgbdaaGreat
