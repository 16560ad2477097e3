/-
  Texts of a proof, joined: V8, V9, VA, Y6, VB, VC, W3, W4, K29, W5, W6, W7, W8, K26, W9, X0, X1, O5, X7, OC, O6, O7, O8, OD.
  Conditions: none.
-/
import Derived.Test.YtahbdamijngmmaaGreatJPA07
import Derived.Test.YtahbdamijngmmaaGreatJPA01
import Derived.Test.YtahbdamijngmmaaGreatJPA06
import Derived.Test.YtahbdamijngmmaaGreatJPA02
import Derived.Test.YtahbdamijngmmaaGreatJPA05
set_option linter.unusedVariables false
set_option linter.unusedSimpArgs false
set_option linter.defProp false
set_option linter.unnecessarySimpa false
set_option maxHeartbeats 8000000
namespace Go.Proofs.YtahbdamijngmmaaGreat
open Go
set_option maxRecDepth 10000
def ofR(N:NetL)(r:ResL)(x:Nm):List Int:=zec N x (zcm x r.glue)
def encM(N:NetL)(r:ResL)(n0:Nat)(x:Nm)(U:Nat->Prop)(A:World)(args:Array Value):Prop:=∃v B,args=#[v]/\Row A v ((ofR N r x).map vi)/\BlkB B A v/\(∀b,U b->b<B)/\n0<=B
theorem meant_ok(w:World){a b c d e f g h k:Value}:
  Fn Tryz.prog 151 #[.agg #[a,b,c,d],.agg #[e,f,g,h,k]] w (fun v w'=>v= .func (.func 203) #[] #[.pointer (some ⟨w.heap.size+1,0,.none⟩),.pointer (some ⟨w.heap.size,0,.none⟩)]/\Ext w w'/\w'.heap.size=w.heap.size+2/\
   w'.heap[w.heap.size]? =some (.cells #[a,b,c,d] 25 (0,0))/\w'.heap[w.heap.size+1]? =some (.cells #[e,f,g,h,k] 184 (0,0))):=by
 refine enter Tryz.func151 Tryz.ntmps151 rfl rfl ?_;repeat refine c_r ?_
 refine rg0 ?_;repeat refine c_r ?_
 rw[zai];refine zaF ?_;intro w1 hE1 hs1 hA hC;refine rg0 ?_;repeat refine c_r ?_
 refine rt0 Tryz.ntmps151 ?_;exact⟨rfl,hE1,hs1,hA,hC⟩
theorem meantIt{w0 w1 W0:World}{C:Nat->Prop}{br bn:Nat}{cs cr:List Value}{N:NetL}{r:ResL}(hE01:Ext w0 w1)(hE1:Ext w1 W0)(hb:W0.heap[br]? =some (.cells cr.toArray 184 (0,0)))(hn:W0.heap[bn]? =some (.cells cs.toArray 25 (0,0)))
  (hC:∀b,C b->w1.heap.size<=b/\b<W0.heap.size) (hCb:¬C br) (hCn:¬C bn) (hN:NetAt w0 cs N) (hG:NetZ N) (hr:ResAt w0 w1 cr r) (kr:zkt r) (hgood:∀n∈zaz 2 r.data,NmM n):
  IterU Tryz.prog 203 #[.pointer (some ⟨br,0,.none⟩),.pointer (some ⟨bn,0,.none⟩)] W0 W0.heap.size C 0 (fun pre x=>∃suf,zaz 2 r.data=pre++x::suf) (fun xs=>xs=zaz 2 r.data) (encM N r):=by
 intro lp J Jx W hW hnW hJ hJx hY h0;have hr0:=hr;have hN0:=hN;have hn4:=hN.one;obtain⟨dv,nv,gv,rfl,h1,h2,h3⟩:=hr.ex;have dl:=kr.dl;obtain⟨a1,c1,hdv,_⟩:=h1.open;have hs1:=hE1.size;have hbl:=(Array.getElem?_eq_some_iff.1 hb).1;have hnl:=(Array.getElem?_eq_some_iff.1 hn).1;have hE1W:=hE1.trans hW;have pd:zad W (some ⟨br,1,.none⟩)=some dv:=zab (Ext.at hW hb) rfl;refine enter Tryz.func203 Tryz.ntmps203 rfl rfl ?_;refine rqz ?_;intro gd K hgd hK;refine sgz pd ?_;refine⟨by kernel_rfl,?_⟩;rw[hdv,show bdV Tryz.prog 340 [(1,vi 2),(3,.slice a1 r.data.length c1)]=some (.agg #[.slice .none 0 0,vi 2,v32 0,.slice a1 r.data.length c1]) from by kernel_rfl,←hdv];try simp only[go_sem]
 refine Fn.mono (zgy (t:=2) (ow:= .slice .none 0 0) (tl:=v32 0) (hE01.trans hE1W) rfl rfl (h1.ext hE1W) dl) ?_;rintro tv X ⟨hEX,htv,htb⟩;obtain⟨aT,cT,rfl,hcT,hgT⟩:=htv.open;obtain⟨L,hL⟩:∃L,zaz 2 r.data=L:=⟨_,rfl⟩;rw[hL]at htv htb hcT hgood hY ⊢;simp only[hL]at hgT;try simp only[go_sem]
 apply hK;have hLl:L.length<=1000000000:=by
  rw[←hL];unfold zaz
  split
  ·have:=List.length_filterMap_le (fun d:DatL=>d.names.head?) r.data;omega
  ·simp
 have hsX:=hEX.size;repeat refine c_r ?_
 refine zao (fun m σ ds' v=>ds'=[]/\∃(i:Nat) (U:Nat->Prop),i+m=L.length/\σ 11=vi i/\σ 10=vi L.length/\σ 9= .slice aT L.length cT/\σ 0= .func (.yield lp) #[] #[]/\σ 1= .pointer (some ⟨br,0,.none⟩)/\σ 2= .pointer (some ⟨bn,0,.none⟩)/\
  J (L.take i) U v/\(∀b,U b->X.heap.size<=b/\b<v.heap.size)/\X.heap.size<=v.heap.size/\KeepB W0.heap.size C W v/\Ext w1 v/\Rows 1 (NmC w0) v (.slice aT L.length cT) L) L.length ?_ ?_
 ·exact⟨rfl,0,NoS,by omega,vr0,vq0,vq0,vq0,vq0,vq0,hJ _ _ _ _ h0 (hEX.mono (fun _ _ h=>h.elim)),fun b h=>h.elim,ynl _,zc0 hEX (by omega),hE1W.trans hEX,htv⟩
 rintro m σ ds' v ⟨rfl,i,U,him,s11,s10,s9,s0,s1,s2,hj,hU,hsv,hKB,hEv,hrow⟩;refine gz (az2 s11 s10) ?_;refine wc0 ?_ ?_
 ·intro hlt;simp only[ydT]at hlt;have hi:i<L.length:=by omega
  have hi0:=cj i;have hi1':=ci i;obtain⟨h,hh⟩:∃h,L[i]=h:=⟨_,rfl⟩;have hgh:NmM h:=hh▸hgood _ (List.getElem_mem hi);obtain⟨cs',hcs,hv,rfl,hvr⟩:=hrow.get hi;rw[hh]at hvr;have hcell:zad v (adr aT i)=some hv:=by
   have:=zah hcs (j:=0) rfl
   rwa [Nat.mul_one,zaj]at this
  obtain⟨xT,rfl⟩:=yxs (zag hcell);have hbv:v.heap[br]? =some (.cells #[vi r.kind,dv,nv,.bool r.wild,gv] 184 (0,0)):=(hKB.block _ (by omega) hCb).trans (Ext.at hW hb);have hnv:v.heap[bn]? =some (.cells cs.toArray 25 (0,0)):=(hKB.block _ (by omega) hCn).trans (Ext.at hW hn);have db:=zae (n:=5) (l:=[vi r.kind,dv,nv,.bool r.wild,gv]) hbv rfl;have dn:=zae (n:=4) hnv hn4.1.symm;have hE0v:=hE01.trans hEv;refine gz (az5 s9 s11 hi0 hlt hcell) ?_;refine zaJ (fun i=>i==7) [(0,true),(1,true),(2,true),(3,true),(4,true),(5,false),(6,false),(7,false),(8,true)] NoS mixed (by kernel_rfl) ?_;intro gd K x hgd hx hxe hK;clear hxe;have dbx:=zac hx db;have dnx:=zac hx dn;refine sgz (az5 s0 s1 s2 dbx dnx) ?_;have hE0x:=hE0v.trans hx;refine Fn.mono (Hints_ok hE0x ((hr0.ext hEv).ext hx) kr (hvr.ext hE0x) hgh.s) ?_;rintro gv' y1 ⟨hy1,hg1⟩;refine⟨.inr hy1,?_⟩;have dny:=zac hy1 dnx;have hgl:(zcm h r.glue).length<=1000000000:=by
   rcases zhG (to:=h) (l:=r.glue) with e| ⟨g,hg,e⟩
   ·rw[e];simp
   ·rw[e];exact(kr.g g hg).2.2
  refine sg0 ?_;refine Fn.mono (Meant_ok (hE0x.trans hy1) hN0 hG hvr hgh hg1 hgl) ?_;rintro mv y2 ⟨hy2,hm2,hB2⟩;refine⟨.inr hy2,?_⟩;have hvy:=(hx.trans hy1).trans hy2;have hsy:=hvy.size;have hsy1:=(hx.trans hy1).size;refine sgz s0 ?_;refine Yld.mono (hY (L.take i) U h y2 _ ⟨L.drop (i+1),by rw[←hh,←List.drop_eq_getElem_cons,List.take_append_drop]⟩ (hJ _ _ _ _ hj (hvy.mono (fun _ _ h=>h.elim))) (by omega) (hKB.trans (zc0 hvy (by have:=hKB.size;omega))) ⟨mv,_,rfl,hm2,hB2,fun b hb=>by have:=(hU b hb).2;omega,by omega⟩) ?_;rintro u z (⟨rfl,U',hj',hU',hkr⟩| ⟨rfl,hjx⟩)
  ·refine⟨.inl rfl,?_⟩;refine sg0 ?_;apply hK;have hzs:=hkr.size;have hCb:∀b,W.heap.size<=b->b<X.heap.size->¬(C b\/U b):=fun b h1 h2 h3=>by
    rcases h3 with h3|h3
    ·have:=hC b h3;omega
    ·have:=hU b h3;omega
   have hrowz:Rows 1 (NmC w0) z (.slice (some xT) L.length cT) L:=(hrow.ext hvy).blocks fun a n c hv=>by
    have h1:=htb a n c hv;exact hkr.block _ (by omega) (.inr (by omega)) (hCb _ (by omega) h1.2)
   have hKz:KeepB W0.heap.size C W z:=(hKB.trans (zc0 hvy (by have:=hKB.size;omega))).trans ⟨hkr.os,hkr.tape,hkr.output,hkr.size,fun b hb hc=>hkr.block b (by omega) (.inl hb) (fun h=>by
    rcases h with h|h
    ·exact hc h
    ·have:=hU b h;omega),hkr.drawn⟩
   have htk:L.take (i+1)=L.take i++ [h]:=by rw[zal hi,hh]
   repeat refine c_r ?_
   refine wf trivial ?_;refine gz (az2 s11 hi1') ?_;refine⟨m - 1,by omega,rfl,i+1,U',by omega,vq0,vq1 s10,vq1 s9,vq1 s0,vq1 s1,vq1 s2,by rw[htk];exact hj',fun b hb=>?_,by omega,hKz,zdf hE1W hKz (by omega) (fun b hb=>(hC b hb).1),hrowz⟩;rcases hU' b hb with h|h
   ·have:=hU b h;omega
   ·omega
  ·refine⟨.inl rfl,?_⟩;refine sg0 ?_;refine en hK ?_;refine wt trivial ?_;repeat refine c_r ?_
   refine zaC (by simp) rfl (.inr ⟨_,_,⟨L.drop (i+1),by rw[←hh,←List.drop_eq_getElem_cons,List.take_append_drop,hL]⟩,hjx⟩)
 ·intro hge;simp only[ydF]at hge;repeat refine c_r ?_
  refine zaC (by simp) rfl (.inl ⟨_,U,rfl,?_⟩);rw[List.take_of_length_le (by omega)]at hj;rw[hL];exact hj
def zeR(N:NetL)(s:zav)(to:Nm):List zav:=if s.rw>=N.rw then endS s 7 else if (zbR N s.sv to).2=true then [{s with rw:=s.rw+1,name:=to,ref:=false}] else zd5 N {s with rw:=s.rw+1,name:=to,ref:=false}
def zdQ(N:NetL)(r:ResL)(s:zav)(h:Nm):List zav:=(if ((ofR N r h).length:Int)=0 then endS s 9 else [])++(ofR N r h).map fun k=>{s with sv:=k,ref:=true}
def zfo(N:NetL)(s:zav)(r:ResL):List zav:=if s.rf>=N.rf then endS s 8 else(zaz 2 r.data).flatMap (zdQ N r {s with rf:=s.rf+1})
theorem alias_ok{w0 w:World}(hE0:Ext w0 w){cs:List Value}{N:NetL}(hN:NetAt w0 cs N)(hG:NetZ N){nv tv:Value}{s:zav}{to:Nm}(hr:Row w nv (s.name.map vs))(ht:Row w tv (to.map vs))(mt:NmM to)(b0:0<=s.rw)(b1:s.rw<=1000000):
  Fn Tryz.prog 95 #[.agg (stV nv s).toArray,.agg cs.toArray,tv] w (fun v w'=>Ext w w'/\StF w.heap.size (fun u=>u=nv\/u=tv) w' v (zeR N s to)):=by
 have hN0:=hN;obtain⟨hv,rv,rfl,hh,hro⟩:=hN.ex;obtain⟨ah,ch,hhv,_⟩:=hh.open;obtain⟨ar,cr,hrv,_⟩:=id hro;obtain⟨an,cn,hnv,_⟩:=id hr;have t1:=ht.isOne;obtain⟨at1,ct,htv,_⟩:=id ht;unfold stV;refine enter Tryz.func95 Tryz.ntmps95 rfl rfl ?_;repeat refine c_r ?_
 rw[hhv,hrv,hnv];refine rg0 ?_;rw[←hhv,←hrv,←hnv];repeat refine c_r ?_
 rw[zai];refine zaF ?_;intro w1 hE1 hs1 hA hB;have p2:zad w1 (some ⟨w.heap.size,2,.none⟩)=some (vi s.rw):=zab hA rfl;have q2:zad w1 (some ⟨w.heap.size+1,2,.none⟩)=some (vi N.rw):=zab hB rfl;have dA:zan w1 (some ⟨w.heap.size,0,.none⟩) 6=some (stV nv s):=zae hA rfl;repeat refine c_r ?_
 unfold zeR;by_cases hge:s.rw>=N.rw
 ·rw[if_pos hge];refine gz (az4 p2 q2 yn0 (yet hge)) ?_;refine wt trivial ?_;repeat refine c_r ?_
  refine rc dA (zc1 w1 (hr.ext hE1) s 7) ?_;rintro v w2 ⟨hE2,hv2⟩;refine re trivial ?_;repeat refine c_r ?_
  refine rt0 Tryz.ntmps95 ?_;exact⟨hE1.trans hE2,(zcs hv2 (hr.ext (hE1.trans hE2))).mono hE1.size fun u h=> .inl h⟩
 rw[if_neg hge];refine gz (az4 p2 q2 yn0 (yef hge)) ?_;refine wf trivial ?_;refine rqz ?_;intro gd K hgd hK;refine sgz (az2 p2 yn0) ?_;refine zaU (P:=Tryz.prog) (t:=3) (j:=2) (u:=vi (s.rw+1)) (l:=stV nv s) hA (by show 2<6;decide) rfl rfl rfl ?_;intro w2 hs2 hA2 hk2;try simp only[go_sem]
 apply hK;refine rqz ?_;intro gd K hgd hK;try simp only[go_sem]
 refine zaU (P:=Tryz.prog) (t:=27) (j:=1) (u:=tv) hA2 (by show 1<6;decide) t1 rfl rfl ?_;intro w3 hs3 hA3 hk3;try simp only[go_sem]
 refine zaU (P:=Tryz.prog) (t:=4) (j:=4) (u:= .bool false) hA3 (by show 4<6;decide) rfl rfl rfl ?_;intro w4 hs4 hA4 hk4;try simp only[go_sem]
 apply hK;obtain⟨s2,hs2e⟩:∃s2:zav,{s with rw:=s.rw+1,name:=to,ref:=false}=s2:=⟨_,rfl⟩;have hA4':w4.heap[w.heap.size]? =some (.cells (stV tv s2).toArray 80 (0,0)):=by rw[←hs2e];exact hA4
 have hE4:Ext w w4:=Keep.to_ext (Keep.to_ext (Keep.to_ext hE1 rfl (fun b hb=>by omega) hk2) rfl (fun b hb=>by omega) hk3) rfl (fun b hb=>by omega) hk4;have hB4:=(hk4.block _ (by omega) (by omega)).trans ((hk3.block _ (by omega) (by omega)).trans ((hk2.block _ (by omega) (by omega)).trans hB));have dN:zan w4 (some ⟨w.heap.size+1,0,.none⟩) 4=some [hv,rv,vi N.rw,vi N.rf]:=zae hB4 rfl;have r0:zad w4 (some ⟨w.heap.size,0,.none⟩)=some (vi s.sv):=by rw[←hs2e]at hA4';exact zab hA4' rfl
 have hE04:=hE0.trans hE4;have mn:s2.name=to:=by rw[←hs2e]
 rw[hs2e];repeat refine c_r ?_
 refine rc (an3 dN r0 Nat.add_zero) (zmn (s:=s.sv) hE04 hN0 hG (ht.ext hE4) mt) ?_;rintro _ w5 ⟨rfl,hE5⟩;refine re trivial ?_;have hE45:=hE4.trans hE5;have dS:zan w5 (some ⟨w.heap.size,0,.none⟩) 6=some (stV tv s2):=zac hE5 (zae hA4' rfl);have dN5:=zac hE5 dN;repeat refine c_r ?_
 cases hb:(zbR N s.sv to).2 with
 |true=>
  rw[if_pos rfl];refine wt trivial ?_;refine rqz ?_;intro gd K hgd hK;refine sgz dS ?_;refine zaR (C:=StN tv) (zba tv) (l:=stV tv s2) (a:=s2) (by rfl) (by rfl) (by rfl) (by rfl) ⟨rfl,t1⟩ (by decide) ?_;intro w6 hE6 hs6 ho6;try simp only[go_sem]
  refine en hK ?_;refine rt0 Tryz.ntmps95 ?_;exact⟨hE45.trans hE6,ho6.blk.mono hE45.size,tv,.inr rfl,ho6.rows,fun x hx=>by rw[List.mem_singleton.1 hx,mn];exact ht.ext (hE45.trans hE6)⟩
 |false=>
  rw[if_neg Bool.false_ne_true];refine wf trivial ?_;repeat refine c_r ?_
  refine rc (an2 dS dN5) (zja (hE0.trans hE45) hN0 hG.rl (ht.ext hE45) s2) ?_;rintro v w6 ⟨hE6,hv6⟩;refine re trivial ?_;repeat refine c_r ?_
  refine rt0 Tryz.ntmps95 ?_;exact⟨hE45.trans hE6,hv6.2.mono hE45.size,tv,.inr rfl,hv6.1,fun x hx=>by
   obtain⟨k,_,rfl⟩:=List.mem_map.1 hx;show Row _ _ (s2.name.map vs);rw[mn];exact ht.ext (hE45.trans hE6)⟩
theorem zlt{N:NetL}{r:ResL}{s x:zav}{h:Nm}(hx:x∈zdQ N r s h):x.name=s.name:=by
 unfold zdQ at hx;rcases List.mem_append.1 hx with hx|hx
 ·split at hx
  ·exact zbL hx
  ·cases hx
 ·obtain⟨k,_,rfl⟩:=List.mem_map.1 hx;rfl
theorem zlm{N:NetL}{r:ResL}{h:Nm}:(ofR N r h).length<=N.hosts.length:=zdc
theorem zlJ{N:NetL}{r:ResL}{s:zav}{h:Nm}:(zdQ N r s h).length<=N.hosts.length+1:=by
 have:=zlm (N:=N) (r:=r) (h:=h);unfold zdQ endS
 split<;>simp<;>omega
theorem zjs{α β:Type}{f:α->List β}{k:Nat}(hf:∀a,(f a).length<=k):∀l:List α,(l.flatMap f).length<=l.length*k
 | []=>by simp
 |a::l=>by
  have h1:=hf a;have h2:=zjs hf l;rw[List.flatMap_cons,List.length_append,List.length_cons,Nat.succ_mul];omega
structure SRf(w Y:World)(b7 b3 n0:Nat)(nv iv:Value)(U U':Nat->Prop)(s2:zav)(L:List Int)(ov:Value)(G:List zav)(v:World):Prop where
 h7:v.heap[b7]? =some (.cells #[ov] 92 (0,0))
 own:Owns 6 (StN nv) n0 v 80 ov G
 u1:∀b,some b=ov.ownBlock->U' b
 u2:∀b,U' b->U b\/(Y.heap.size<=b/\b<v.heap.size)
 kb:KeepB Y.heap.size (fun b=>b=b7\/U b) Y v
 e:Ext w v
 h3:v.heap[b3]? =some (.cells (stV nv s2).toArray 80 (0,0))
 riv:Row v iv (L.map vi)
 blk:∃B,BlkB B Y iv/\(∀b,U b->b<B)/\n0<=B
 lo:w.heap.size<=b3/\w.heap.size<=b7/\b3≠b7/\b3<n0/\b7<n0/\n0<=Y.heap.size/\∀b,U b->n0<=b/\b<Y.heap.size
theorem SRf.app{w Y v v1 v2 v3:World}{b7 b3 n0:Nat}{nv iv ov ov':Value}{U U':Nat->Prop}{s2:zav}{L:List Int}{G news:List zav}(h:SRf w Y b7 b3 n0 nv iv U U' s2 L ov G v)(hE:Ext v v1)
  (ho:Owns 6 (StN nv) n0 v2 80 ov' (G++news)) (hk:Keep (fun b=>some b=ov.ownBlock) v1 v2) (hb:∀b,some b=ov'.ownBlock->some b=ov.ownBlock\/v1.heap.size<=b)
  (h7:v3.heap[b7]? =some (.cells #[ov'] 92 (0,0))) (hk3:Keep (fun b=>b=b7) v2 v3):SRf w Y b7 b3 n0 nv iv U (fun b=>U' b\/(v1.heap.size<=b/\b<v3.heap.size)) s2 L ov' (G++news) v3:=by
 obtain⟨B,hB1,hB2,hB3⟩:=h.blk;obtain⟨l1,l2,l3,l4,l5,l6,l7⟩:=h.lo;have z0:=h.kb.size;have z1:=hE.size;have z2:=hk.size;have z3:=hk3.size;have ow:∀b,some b=ov.ownBlock->n0<=b/\b<v.heap.size:=fun b hb=>h.own.ge hb;have low:∀b,some b=ov.ownBlock->b<Y.heap.size->U b:=fun b hb hY=>(h.u2 b (h.u1 b hb)).resolve_right (by omega);have k2:KeepB Y.heap.size (fun b=>b=b7\/U b) v1 v2:=hk.toB (by omega) (fun b hY hb=> .inr (low b hb hY));have k3:KeepB Y.heap.size (fun b=>b=b7\/U b) v2 v3:=hk3.toB (by omega) (fun b hY hb=> .inl hb);have e2:Ext w v2:=Keep.to_ext (h.e.trans hE) rfl (fun b hb=>by have:=ow b hb;omega) hk;refine⟨h7,ho.keep hk3 (fun b hb hb2=>by have:=ho.ge hb;omega),fun b hb'=>?_,fun b hb'=>?_,(h.kb.trans (zc0 hE (by omega))).trans (k2.trans k3),Keep.to_ext e2 rfl (fun b hb=>by omega) hk3,?_,?_,h.blk,h.lo⟩
 ·rcases hb b hb' with e|e
  ·exact .inl (h.u1 b e)
  ·have:=ho.ge hb';exact .inr (by omega)
 ·rcases hb' with e|e
  ·rcases h.u2 b e with e|e
   ·exact .inl e
   ·exact .inr (by omega)
  ·exact .inr (by omega)
 ·exact(hk3.block _ (by have:=(Array.getElem?_eq_some_iff.1 h.h3).1;omega) (by omega)).trans ((hk.block _ (by have:=(Array.getElem?_eq_some_iff.1 h.h3).1;omega) (fun hb=>by have:=ow _ hb;omega)).trans (Ext.at hE h.h3))
 ·have hivb:BlkB B v1 iv:=hB1.ext (by omega);refine(((h.riv.ext hE).blocks fun a n c hv=>hk.block _ (by have:=(hB1 a n c hv).2;omega) (fun hb=>?_))).blocks fun a n c hv=>hk3.block _ (by have:=(hB1 a n c hv).2;omega) (by have:=(hB1 a n c hv).1;omega);have h1:=(hB1 a n c hv);have:=hB2 _ (low _ hb h1.2);omega
theorem refer_ok{w0 w:World}(hE0:Ext w0 w){cs cr:List Value}{N:NetL}{r:ResL}(hN:NetAt w0 cs N)(hG:NetZ N){nv:Value}{s:zav}(hr:Row w nv (s.name.map vs))(hres:ResAt w0 w cr r)(kr:zkt r)(kl:r.data.length<=1000)(hgood:∀n∈zaz 2 r.data,NmM n)(b0:0<=s.rf)(b1:s.rf<=1000000):
  Fn Tryz.prog 96 #[.agg (stV nv s).toArray,.agg cs.toArray,.agg cr.toArray] w (fun v w'=>Ext w w'/\StF w.heap.size (fun u=>u=nv) w' v (zfo N s r)):=by
 have hN0:=hN
 have hres0:=hres
 obtain⟨hv,rv,rfl,hh,hro⟩:=hN.ex
 obtain⟨dv,mv,gv,rfl,g1,g2,g3⟩:=hres.ex
 obtain⟨ah,ch,hhv,_⟩:=hh.open
 obtain⟨ar,cr,hrv,_⟩:=id hro
 obtain⟨an,cn,hnv,_⟩:=id hr
 obtain⟨ad,cd,hdv,_⟩:=g1.open
 obtain⟨am,cm,hmv,_⟩:=id g2
 obtain⟨ag,cg,hgv,_⟩:=g3.open
 have n1:=hr.isOne
 unfold stV
 refine enter Tryz.func96 Tryz.ntmps96 rfl rfl ?_
 repeat refine c_r ?_
 rw[hhv,hrv,hnv,hdv,hmv,hgv]
 refine rg0 ?_
 rw[←hhv,←hrv,←hnv,←hdv,←hmv,←hgv]
 repeat refine c_r ?_
 rw[zai,zai,zai]
 refine zcz ?_
 intro w1 hE1 hs1 hA hB hC
 have p3:zad w1 (some ⟨w.heap.size,3,Option.none⟩)=some (vi s.rf):=zab hA rfl
 have q3:zad w1 (some ⟨w.heap.size+1,3,Option.none⟩)=some (vi N.rf):=zab hB rfl
 have dA:zan w1 (some ⟨w.heap.size,0,Option.none⟩) 6=some (stV nv s):=zae hA rfl
 repeat refine c_r ?_
 unfold zfo
 by_cases hge:s.rf>=N.rf
 ·rw[if_pos hge]
  refine rg4 p3 q3 Nat.zero_add (decide_eq_true hge) ?_
  repeat refine c_r ?_
  refine wt trivial ?_
  repeat refine c_r ?_
  refine rc dA (zc1 w1 (hr.ext hE1) s 8) ?_
  rintro v w2 ⟨hE2,hv2⟩
  refine re trivial ?_
  repeat refine c_r ?_
  refine rt0 Tryz.ntmps96 ?_
  exact⟨hE1.trans hE2,(zcs hv2 (hr.ext (hE1.trans hE2))).mono hE1.size fun u h=>h⟩
 rw[if_neg hge]
 refine rg4 p3 q3 Nat.zero_add (decide_eq_false hge) ?_
 repeat refine c_r ?_
 refine wf trivial ?_
 repeat refine c_r ?_
 refine rq ?_;intro gd K hgd hK
 try simp (disch:=first|omega|assumption|rfl) only[go_sem,p3,Nat.zero_add]
 refine zaU (P:=Tryz.prog) (t:=3) (j:=3) (u:=vi (s.rf+1)) (l:=stV nv s) hA (by show 3<6;decide) rfl rfl rfl ?_
 intro w2 hs2 hA2 hk2
 try simp only[go_sem]
 refine hK _ _ ?_;clear hK hgd;clear K;try clear gd
 obtain⟨s2,hs2e⟩:∃s2:zav,{s with rf:=s.rf+1}=s2:=⟨_,rfl⟩
 have hA2':w2.heap[w.heap.size]? =some (.cells (stV nv s2).toArray 80 (0,0)):=by rw[←hs2e];exact hA2
 have mn:s2.name=s.name:=by rw[←hs2e]
 rw[hs2e]
 have hE2:Ext w w2:=Keep.to_ext hE1 rfl (fun b hb=>by omega) hk2
 have hB2:=(hk2.block _ (by omega) (by omega)).trans hB
 have hC2:=(hk2.block _ (by omega) (by omega)).trans hC
 repeat refine c_r ?_
 refine rg0 ?_
 refine zax ?_
 intro w3 hE3 hs3 hD
 obtain⟨b7,hb7⟩:∃b,w2.heap.size=b:=⟨_,rfl⟩
 rw[hb7]at hD hs3 ⊢
 have hE03:=hE2.trans hE3
 have dN:zan w3 (some ⟨w.heap.size+1,0,Option.none⟩) 4=some [hv,rv,vi N.rw,vi N.rf]:=zae (Ext.at hE3 hB2) rfl
 have dR:zan w3 (some ⟨w.heap.size+1+1,0,Option.none⟩) 5=some [vi r.kind,dv,mv,.bool r.wild,gv]:=zae (Ext.at hE3 hC2) rfl
 repeat refine c_r ?_
 refine rc (an2 dN dR) (meant_ok w3) ?_
 rintro _ w4 ⟨rfl,hE4,hs4,hbn,hbr⟩
 refine re trivial ?_
 have hE04:=hE03.trans hE4
 have hA4:=Ext.at (hE3.trans hE4) hA2'
 have hD4:=Ext.at hE4 hD
 repeat refine c_r ?_
 refine zek (g:=203) (cap:=#[.pointer (some ⟨w3.heap.size+1,0,Option.none⟩),.pointer (some ⟨w3.heap.size,0,Option.none⟩)]) (vq0) rfl (meantIt (C:=fun b=>b=b7) hE0 hE04 hbr hbn (fun b hb=>by omega) (by omega) (by omega) hN0 hG hres0 kr hgood) (Keep.refl _ _) (Nat.le_refl _) (fun b hb=>by omega) (fun x U A args h=>by obtain⟨_,_,e,_⟩:=h;rw[e];rfl)
  (fun pre U A=>Ext w A/\∃ov,A.heap[b7]? =some (.cells #[ov] 92 (0,0))/\Owns 6 (StN nv) (w4.heap.size+2) A 80 ov (pre.flatMap (zdQ N r s2))/\(∀b,some b=ov.ownBlock->U b)/\A.heap[w.heap.size]? =some (.cells (stV nv s2).toArray 80 (0,0)))
  (fun _ _ _=>False) ?_ (fun _ _ _ _ h _=>h.elim) ?_ ?_ ?_ (fun _ _ _ _ _ _ h _=>h.elim)
 ·rintro pre U A B ⟨h1,ov,h2,h3,h4,h5⟩ hU hk
  have f:∀{b:Nat} {O:Obj},A.heap[b]? =some O->b<w4.heap.size->B.heap[b]? =some O:=fun h hb=>(hk.block _ (Array.getElem?_eq_some_iff.1 h).1 (by unfold span;omega)).trans h
  exact⟨Keep.to_ext h1 rfl (fun b hb=>by unfold span at hb;omega) hk,ov,f h2 (by omega),h3.keep hk (fun b hb hb2=>by have:=hU b (h4 b hb);unfold span at hb2;omega),h4,f h5 (by omega)⟩
 ·exact⟨hE04,.slice Option.none 0 0,hD4,Owns.nil _ _ _ _ _,fun b hb=>by simp[Value.ownBlock]at hb,hA4⟩
 ·rintro lp pre U y A args ⟨suf,hxs⟩ hszA ⟨hEA,ov,k7,hown,hU,k3⟩ hUb ⟨iv,B,rfl,hmv,hmb,hmB,hmn⟩
  refine rg0 ?_
  refine zas ?_
  refine⟨rfl,Keep.refl _ _,fun Y hY=>?_⟩
  have hsY:=hY.size
  have f:∀{b:Nat} {O:Obj},A.heap[b]? =some O->¬two w4.heap.size b->Y.heap[b]? =some O:=fun h hb=>(hY.block _ (Array.getElem?_eq_some_iff.1 h).1 hb).trans h
  have hEY:Ext w Y:=Keep.to_ext hEA rfl (fun b hb=>by unfold two at hb;omega) hY
  have hRI:SRf w Y b7 w.heap.size (w4.heap.size+2) nv iv U U s2 (ofR N r y) ov (pre.flatMap (zdQ N r s2)) Y:=⟨f k7 (by unfold two;omega),hown.keep hY (fun b hb hb2=>by have:=(hown.ge hb).1;unfold two at hb2;omega),hU,fun b hb=> .inl hb,KeepB.refl _ _ _,hEY,f k3 (by unfold two;omega),hmv.keepB hY hmb (fun b h1 _ h2=>by unfold two at h2;omega),⟨B,hmb.ext hsY,hmB,hmn⟩,by omega,by omega,by omega,by omega,by omega,by omega,fun b hb=>by have:=hUb b hb;omega⟩
  clear hmv hmb hmB hmn hown hU k7 k3
  obtain⟨L,hL⟩:∃L,ofR N r y=L:=⟨_,rfl⟩
  have hLl:L.length<=1000:=by
   have:=zlm (N:=N) (r:=r) (h:=y)
   have:=hG.hl
   rw[←hL];omega
  have hho:zdQ N r s2 y=(if (L.length:Int)=0 then endS s2 9 else [])++L.map fun k=>{s2 with sv:=k,ref:=true}:=by unfold zdQ;rw[hL]
  have hpl:pre.length<=1000:=by
   have h1:=congrArg List.length hxs
   have h2:(zaz 2 r.data).length<=r.data.length:=by
    unfold zaz
    split
    ·exact List.length_filterMap_le _ _
    ·simp
   simp at h1;omega
  have hGl:(pre.flatMap (zdQ N r s2)).length<=2000000:=by
   have h1:=zjs (fun a=>zlJ (N:=N) (r:=r) (s:=s2) (h:=a)) pre
   have h2:=hG.hl
   have h3:pre.length*(N.hosts.length+1)<=1000*1001:=Nat.mul_le_mul hpl (by omega)
   omega
  rw[hL]at hRI
  obtain⟨ai,ci,rfl,hci,_⟩:=id hRI.riv
  simp only[List.length_map]at hRI hci ⊢
  obtain⟨G,hGe⟩:∃G,pre.flatMap (zdQ N r s2)=G:=⟨_,rfl⟩
  rw[hGe]at hRI hGl
  have hb7n:b7<w4.heap.size+2:=by omega
  have hb3n:w.heap.size<w4.heap.size+2:=by omega
  repeat refine c_r ?_
  refine rg0 ?_
  repeat refine c_r ?_
  refine zaw (Q:=fun e σ' ds' v'=>e= .normal/\ds'=[]/\σ' 8= .slice ai L.length ci/\σ' 3= .pointer (some ⟨w.heap.size,0,Option.none⟩)/\σ' 7= .pointer (some ⟨b7,0,Option.none⟩)/\∃ov' U',SRf w Y b7 w.heap.size (w4.heap.size+2) nv (.slice ai L.length ci) U U' s2 L ov' (G++if (L.length:Int)=0 then endS s2 9 else []) v') ?_ ?_
  ·by_cases h0:(L.length:Int)=0
   ·rw[if_pos h0]
    refine wt (decide_eq_true h0) ?_
    repeat refine c_r ?_
    refine zaJ (fun i=>i==4) [(0,true),(1,true),(2,false),(3,false),(4,false)] (zbE (w4.heap.size+2)) mixed (by kernel_rfl) ?_;intro gd K x hgd hx hxe hK;have hx0:=zez hxe;clear hxe
    have q7:zad x (some ⟨b7,0,Option.none⟩)=some ov:=zab (Ext.at hx0 hRI.h7) rfl
    have q3:zan x (some ⟨w.heap.size,0,Option.none⟩) 6=some (stV nv s2):=zae (Ext.at hx0 hRI.h3) rfl
    simp (disch:=first|omega|assumption|rfl) only[go_sem,q7,q3]
    refine⟨zcw hb7n,zcw hb3n,?_⟩
    refine Fn.mono (zc1 x (hr.ext (hRI.e.trans hx0)) s2 9) ?_
    rintro ev y1 ⟨hy1,hev,_⟩
    refine⟨.inr hy1.keep,?_⟩
    have sx:=hx0.size
    have sy:=hy1.size
    have sY:=hRI.lo.2.2.2.2.2.1
    simp (disch:=first|omega|assumption|rfl) only[go_sem]
    refine zaG (zba nv) (hRI.own.ext (hx0.trans hy1)) hev (by rfl) (by rfl) (by rfl) (by rfl) (by rfl) (by rfl) (by decide) (vr0) (vr0) (by unfold endS;simp;omega) (by decide) (by omega) ?_
    intro ov' y2 ho2 hE2 hk2 hb2
    refine⟨.inr (hk2.mono fun b _ hb=>(hRI.own.ge hb).1),?_⟩
    obtain⟨ao,co,hov,_⟩:=ho2.rows.open
    simp (disch:=first|omega|assumption|rfl) only[go_sem]
    refine zaU (P:=Tryz.prog) (t:=92) (j:=0) (u:=ov') (l:=[ov]) ((hk2.block _ (by omega) (fun hb=>by have:=(hRI.own.ge hb).1;omega)).trans (Ext.at (hx0.trans hy1) hRI.h7)) (by simp) (by rw[hov];rfl) rfl rfl ?_
    intro y3 hs3 h73 hk3
    refine⟨.inl rfl,?_⟩
    simp (disch:=first|omega|assumption|rfl) only[go_sem]
    refine hK _ _ ?_;clear hK hgd;clear K;try clear gd
    exact⟨rfl,rfl,vq0,vq0,vq0,ov',_,hRI.app (hx0.trans hy1) ho2 hk2 hb2 h73 hk3⟩
   ·rw[if_neg h0,List.append_nil]
    refine wf (decide_eq_false h0) ?_
    repeat refine c_r ?_
    exact⟨rfl,rfl,vq0,vq0,vq0,ov,U,hRI⟩
  rintro _ σ1 _ Y1 ⟨rfl,rfl,s8,s3,s7,ov1,U1,hR1⟩
  obtain⟨G1,hG1⟩:∃G1,(G++if (L.length:Int)=0 then endS s2 9 else [])=G1:=⟨_,rfl⟩
  have hG1l:G1.length<=2000001:=by
   rw[←hG1];unfold endS
   split<;>simp<;>omega
  rw[hG1]at hR1
  repeat refine c_r ?_
  refine rg1 s8 ?_
  repeat refine c_r ?_
  refine zao (fun m σ ds v=>ds=[]/\∃(i:Nat) (ov:Value) (U':Nat->Prop),i+m=L.length/\σ 36=vi i/\σ 35=vi L.length/\σ 34= .slice ai L.length ci/\σ 3= .pointer (some ⟨w.heap.size,0,Option.none⟩)/\σ 7= .pointer (some ⟨b7,0,Option.none⟩)/\
   SRf w Y b7 w.heap.size (w4.heap.size+2) nv (.slice ai L.length ci) U U' s2 L ov (G1++(L.take i).map fun k=>{s2 with sv:=k,ref:=true}) v) L.length ?_ ?_
  ·exact⟨rfl,0,ov1,U1,by omega,vr0,vq0,vq0,(vq1 s3),(vq1 s7),by simpa using hR1⟩
  clear s8 s3 s7
  rintro m σ ds v ⟨rfl,i,ov,U',him,s36,s35,s34,s3,s7,hR⟩
  repeat refine c_r ?_
  refine rg2 s36 s35 ?_
  repeat refine c_r ?_
  refine wc0 ?_ ?_
  ·intro hlt
   simp only[decide_eq_true_eq]at hlt
   have hi:i<L.length:=by omega
   have hi0:(0:Int)<=(i:Int):=by omega
   have hi1':(i:Int)+1=((i+1:Nat):Int):=by push_cast;rfl
   have hcell:zad v (adr ai i)=some (vi L[i]):=by
    obtain⟨a',c',e,_,hg⟩:=hR.riv
    injection e with e1 _ _
    subst e1
    have:=hg i (by simpa using hi)
    simpa using this
   obtain⟨xz,rfl⟩:=Option.isSome_iff_exists.1 (zag hcell)
   have sY:=hR.lo.2.2.2.2.2.1
   have sv0:=hR.kb.size
   have d3:zan v (some ⟨w.heap.size,0,Option.none⟩) 6=some (stV nv s2):=zae hR.h3 rfl
   repeat refine c_r ?_
   refine rq ?_;intro gd K hgd hK;simp (disch:=first|omega|assumption|rfl) only[go_sem,s36,s34,hi0,hlt,hcell,Nat.mul_one];refine hK _ _ ?_;clear hK hgd;clear K gd
   repeat refine c_r ?_
   refine rq ?_;intro gd K hgd hK
   try simp (disch:=first|omega|assumption|rfl) only[go_sem,s3,d3]
   refine za3 (P:=Tryz.prog) (l:=stV nv s2) rfl (zbs n1) rfl rfl ?_
   intro v1 hE1 hs1 hB1
   try simp only[go_sem]
   refine hK _ _ ?_;clear hK hgd;clear K;try clear gd
   obtain⟨bx,hbx⟩:∃b,v.heap.size=b:=⟨_,rfl⟩
   rw[hbx]at hB1 hs1 ⊢
   repeat refine c_r ?_
   refine rq ?_;intro gd K hgd hK
   try simp only[go_sem]
   refine zaU (P:=Tryz.prog) (t:=3) (j:=0) (u:=vi L[i]) (l:=stV nv s2) hB1 (by show 0<6;decide) rfl rfl rfl ?_
   intro v2 hs2' hB2' hk2'
   try simp only[go_sem]
   refine zaU (P:=Tryz.prog) (t:=4) (j:=4) (u:= .bool true) hB2' (by show 4<6;decide) rfl rfl rfl ?_
   intro v3 hs3' hB3' hk3'
   try simp only[go_sem]
   refine hK _ _ ?_;clear hK hgd;clear K;try clear gd
   obtain⟨sk,hsk⟩:∃sk:zav,{s2 with sv:=L[i],ref:=true}=sk:=⟨_,rfl⟩
   have hB3:v3.heap[bx]? =some (.cells (stV nv sk).toArray 80 (0,0)):=by rw[←hsk];exact hB3'
   have hEv:Ext v v3:=Keep.to_ext (Keep.to_ext hE1 rfl (fun b hb=>by omega) hk2') rfl (fun b hb=>by omega) hk3'
   have q7:zad v3 (some ⟨b7,0,Option.none⟩)=some ov:=zab (Ext.at hEv hR.h7) rfl
   have dx:zan v3 (some ⟨bx,0,Option.none⟩) 6=some (stV nv sk):=zae hB3 rfl
   repeat refine c_r ?_
   refine rq ?_;intro gd K hgd hK
   try simp (disch:=first|omega|assumption|rfl) only[go_sem,s7,q7,dx]
   refine zaR (C:=StN nv) (zba nv) (l:=stV nv sk) (a:=sk) (by rfl) (by rfl) (by rfl) (by rfl) ⟨rfl,n1⟩ (by decide) ?_
   intro v4 hE4' hs4' ho4
   try simp only[go_sem]
   refine zaG (zba nv) (hR.own.ext (hEv.trans hE4')) ho4.rows (by rfl) (by rfl) (by rfl) (by rfl) (by rfl) (by rfl) (by decide) (vr0) (vr0) (by simp;omega) (by decide) (by omega) ?_
   intro ov' v5 ho5 hE5 hk5 hb5
   obtain⟨ao,co,hov,_⟩:=ho5.rows.open
   try simp (disch:=first|omega|assumption|rfl) only[go_sem,s7]
   refine zaU (P:=Tryz.prog) (t:=92) (j:=0) (u:=ov') (l:=[ov]) ((hk5.block _ (by omega) (fun hb=>by have:=(hR.own.ge hb).1;omega)).trans (Ext.at (hEv.trans hE4') hR.h7)) (by simp) (by rw[hov];rfl) rfl rfl ?_
   intro v6 hs6 h76 hk6
   try simp only[go_sem]
   refine hK _ _ ?_;clear hK hgd;clear K;try clear gd
   have hRn:=hR.app (hEv.trans hE4') ho5 hk5 hb5 h76 hk6
   obtain⟨U2,hU2⟩:∃U2,(fun b=>U' b\/(v4.heap.size<=b/\b<v6.heap.size))=U2:=⟨_,rfl⟩
   rw[hU2]at hRn
   repeat refine c_r ?_
   refine rg2 s36 hi1' ?_
   repeat refine c_r ?_
   refine⟨m - 1,by omega,rfl,i+1,ov',U2,by omega,vq0,(vq1 s35),(vq1 s34),(vq1 s3),(vq1 s7),?_⟩
   rw[zal hi,List.map_append,←List.append_assoc,List.map_cons,List.map_nil,hsk]
   exact hRn
  ·intro hge
   simp only[decide_eq_false_iff_not]at hge
   have hfin:G1++(L.take i).map (fun k=>({s2 with sv:=k,ref:=true}:zav))=(pre++ [y]).flatMap (zdQ N r s2):=by
    rw[List.take_of_length_le (by omega),List.flatMap_append,hGe,List.flatMap_cons,List.flatMap_nil,List.append_nil,hho,←hG1,List.append_assoc]
   rw[hfin]at hR
   repeat refine c_r ?_
   exact⟨U',⟨hR.e,ov,hR.h7,hR.own,hR.u1,hR.h3⟩,hR.u2,hR.kb.keep⟩
 ·rintro xs U A rfl hszA hUb ⟨hEA,ov,k7,hown,hU,k3⟩ hD
  obtain⟨ao,co,rfl,hco,_⟩:=hown.rows.open
  have q7:zad A (some ⟨b7,0,Option.none⟩)=some (.slice ao _ co):=zab k7 rfl
  repeat refine c_r ?_
  refine rc q7 (P_st.Clip_ok hco) ?_
  rintro _ A1 ⟨rfl,rfl⟩
  refine re trivial ?_
  repeat refine c_r ?_
  refine zd6 (.inr rfl) (by rfl) Tryz.ntmps96 (vr0) hD ?_
  intro Z hkZ hsZ
  have hrows:=hown.rows.take (m:=_) (c2:=_) (Nat.le_refl _) (Nat.le_refl _)
  rw[List.take_length]at hrows
  have hEZ:Ext w Z:=Keep.to_ext hEA rfl (fun b hb=>by omega) hkZ
  refine⟨hEZ,(hown.blk.same.ext hkZ.size).mono (by omega),nv,rfl,hrows.keep hkZ hown.blk.same (fun b h1 _ h2=>by omega),fun x hx=>?_⟩
  obtain⟨h,_,hx⟩:=List.mem_flatMap.1 hx
  rw[zlt hx,mn]
  exact hr.ext hEZ
theorem zlV(c:UInt8):zf6 (zf6 c)=zf6 c:=by
 by_cases h:65<=c/\c<=90
 ·rw[zgZ h];refine ze7 (fun h2=>?_);have a:=UInt8.le_iff_toNat_le.1 h.1;have b:=UInt8.le_iff_toNat_le.1 h.2;have d:=UInt8.le_iff_toNat_le.1 h2.2;simp at a b d;have:(c+32).toNat=c.toNat+32:=by rw[UInt8.toNat_add];simp;omega
  omega
 ·rw[ze7 h,ze7 h]
theorem zlU(l:List UInt8):zbf (zbf l)=zbf l:=by
 unfold zbf;rw[List.map_map];exact List.map_congr_left fun c _=>zlV c
theorem zlT(n:Nm):zaq (zaq n)=zaq n:=by
 unfold zaq;rw[List.map_map];exact List.map_congr_left fun c _=>zlU c
section
variable {R : List RecL} {o q n : Nm} {t : Int}
theorem isL_fold(n:Nm)(t:Int):isL (zaq n) t=isL n t:=by
 funext r
 unfold isL;rw[zlT]
theorem ofC_fold:ofC R (zaq n) t=ofC R n t:=by unfold ofC;rw[isL_fold]
theorem zeg:datC R (zaq n) t=datC R n t:=by unfold datC;rw[ofC_fold]
theorem zkg(n:Nm):∀k,zbp (zaq n) k=(zbp n k).map zaq
 |0=>by simp only[zbp,List.map_cons,List.map_nil];rw[zdz]
 |k+1=>by simp only[zbp,List.map_cons];rw[zkg n k,zdz]
end
/-! types -/
section
variable {R : List RecL} {o q n : Nm} {t u : Int}
theorem zeH{r:ResL}(h:zaE R q n=some r):(r.kind=5\/r.kind=6)/\(r.kind=5->∀d∈r.data,d.ty=39):=by
 unfold zaE at h
 split at h
 ·cases h
 ·split at h
  ·cases h;exact⟨.inl rfl,fun _ d hd=>zeA (List.mem_of_mem_take hd)⟩
  ·cases h;exact⟨.inr rfl,fun h=>by cases h⟩
theorem at_kind{b:Bool}:((atL R n t b).kind=1\/(atL R n t b).kind=2\/(atL R n t b).kind=5)/\((atL R n t b).kind=1->∀d∈(atL R n t b).data,d.ty=t)/\((atL R n t b).kind=5->∀d∈(atL R n t b).data,d.ty=5):=by
 unfold atL
 split
 ·exact⟨.inl rfl,(fun _ d hd=>zeA hd),fun h=>by cases h⟩
 ·split
  ·exact⟨.inr (.inr rfl),(fun h=>by cases h),fun _ d hd=>zeA (List.mem_of_mem_take hd)⟩
  ·exact⟨.inr (.inl rfl),(fun h=>by cases h),fun h=>by cases h⟩
end
/-! cuts -/
section
variable {R : List RecL} {o q : Nm} {t u : Int}
theorem zfM{n:Nm}{i:Nat}:∀{K:Nat},i<=K->∃suf,zbp n K=zbp (n.drop i) (K - i)++suf
 |0,h=>by
  have:i=0:=by omega
  subst this;exact⟨[],by simp[zbp]⟩
 |K+1,h=>by
  by_cases hi:i=K+1
  ·subst hi;refine⟨zbp n K,?_⟩;rw[show K+1 - (K+1)=0 from by omega];simp[zbp]
  ·obtain⟨suf,hs⟩:=zfM (n:=n) (i:=i) (K:=K) (by omega);refine⟨suf,?_⟩;rw[show K+1 - i=(K - i)+1 from by omega];simp only[zbp,List.cons_append];rw[hs,List.drop_drop,show i+(K - i+1)=K+1 from by omega]
theorem zgp{n:Nm}:∀{K:Nat},∃pre,zbp n K=pre++ [n]/\∀x∈pre,∃i,0<i/\i<=K/\x=n.drop i
 |0=>⟨[],by simp[zbp],fun x h=>by cases h⟩
 |K+1=>by
  obtain⟨pre,h1,h2⟩:=zgp (n:=n) (K:=K);refine⟨n.drop (K+1)::pre,by simp only[zbp,h1,List.cons_append],fun x hx=>?_⟩;rcases List.mem_cons.1 hx with rfl|hx
  ·exact⟨K+1,by omega,ynl _,rfl⟩
  ·obtain⟨i,a,b,c⟩:=h2 x hx;exact⟨i,a,by omega,c⟩
theorem zgY{x:Nm}:∀{pre:List Nm} {suf:List Nm},(∀n∈pre,cutP o R n=false/\n.length≠x.length)->(∀n∈pre,n.length≠q.length)->
  ((∀n∈pre,datC R n 39=[])/\goL o R q (pre++suf)=goL o R q suf)\/((∃n∈pre,datC R n 39≠ [])/\∃r,goL o R q (pre++suf)=some r/\(r.kind=5\/r.kind=6))
 | [],suf,_,_=> .inl ⟨fun n h=>(by cases h),rfl⟩
 |n::pre,suf,h1,h2=>by
  obtain⟨a,b⟩:=h1 n (List.mem_cons_self ..);have c:=h2 n (List.mem_cons_self ..);simp only[List.cons_append,goL];rw[a,if_neg Bool.false_ne_true,if_neg c];by_cases hd:datC R n 39=[]
  ·have:zaE R q n= .none:=by unfold zaE;rw[if_pos hd]
   rw[this];rcases zgY (suf:=suf) (fun m hm=>h1 m (List.mem_cons_of_mem _ hm)) (fun m hm=>h2 m (List.mem_cons_of_mem _ hm)) with ⟨g1,g2⟩| ⟨⟨m,hm,hm2⟩,g2⟩
   ·refine .inl ⟨fun m hm=>?_,g2⟩;rcases List.mem_cons.1 hm with rfl|hm
    ·exact hd
    ·exact g1 m hm
   ·exact .inr ⟨⟨m,List.mem_cons_of_mem _ hm,hm2⟩,g2⟩
  ·right
   refine⟨⟨n,List.mem_cons_self ..,hd⟩,?_⟩;cases hr:zaE R q n with
   |none=>
    unfold zaE at hr;rw[if_neg hd]at hr
    split at hr<;>cases hr
   |some r=>exact⟨r,rfl,(zeH hr).1⟩
theorem zgn{α:Type}{p:α->Bool}{x:α}:∀{l:List α},l.find? p=some x->∃pre suf,l=pre++x::suf/\p x=true/\∀y∈pre,p y=false
 | [],h=>by cases h
 |a::l,h=>by
  rw[List.find?_cons]at h
  split at h
  ·rename_i ha;cases h;exact⟨[],l,rfl,ha,fun y h=>by cases h⟩
  ·rename_i ha;obtain⟨pre,suf,h1,h2,h3⟩:=zgn h;refine⟨a::pre,suf,by rw[h1];rfl,h2,fun y hy=>?_⟩;rcases List.mem_cons.1 hy with rfl|hy
   ·simpa using ha
   ·exact h3 y hy
theorem zj4(hu:zaV q o=true)(hc:cutL o R q= .none):(za1 o R q t).kind≠4/\(za1 o R q t).kind≠7:=by
 unfold cutL at hc;rw[if_pos hu]at hc;have hno:∀x∈za8 o q,cutP o R x=false:=fun x hx=>by simpa using (List.find?_eq_none.1 hc) x hx
 have h4:∀{l:List Nm} {r:ResL},(∀x∈l,cutP o R x=false)->goL o R q l=some r->r.kind=5\/r.kind=6:=by
  intro l
  induction l with
  |nil=>intro r _ h;cases h
  |cons n l ih=>
   intro r hl h;simp only[goL]at h;rw[hl n (List.mem_cons_self ..),if_neg Bool.false_ne_true]at h
   split at h
   ·cases h
   ·split at h
    ·rename_i r' hr;cases h;exact(zeH hr).1
    ·exact ih (fun x hx=>hl x (List.mem_cons_of_mem _ hx)) h
 unfold za1;rw[if_neg (by rw[hu];simp)];cases hg:goL o R q (za8 o q) with
 |some r=>
  have:=h4 hno hg;show r.kind≠4/\r.kind≠7;omega
 |none=>
  have key:∀{n:Nm} {b:Bool},(atL R n t b).kind≠4/\(atL R n t b).kind≠7:=fun {n b}=>by
   have:=(at_kind (R:=R) (n:=n) (t:=t) (b:=b)).1;omega
  by_cases he:zaK o R q=true
  ·simp only[if_pos he];exact key
  ·simp only[if_neg he];cases zaW o R q with
   |none=>exact⟨(by decide:(3:Int)≠4),(by decide:(3:Int)≠7)⟩
   |some s=>exact key
theorem look_cut(hs:zdX R){c:Nm}(hu:zaV q o=true)(hc:cutL o R q=some c):
    (∃k,k<=q.length/\c=q.drop k)/\
    ((∀t,za1 o R c t=zeI R c)/\(∀t,za1 o R q t=zeI R c)/\datC R c 2≠ []\/
     (∀t,(za1 o R c t).kind=5\/(za1 o R c t).kind=6)/\∀t,(za1 o R q t).kind=5\/(za1 o R q t).kind=6):=by
  unfold cutL at hc;rw[if_pos hu]at hc;have hol:=zb3 hu;have hdn:za8 o q=zbp q (q.length - o.length):=if_pos hol;rw[hdn]at hc;obtain⟨pre,suf,hsp,hcp,hpre⟩:=zgn hc;obtain⟨k,hk,hck⟩:=zbM.1 (show c∈zbp q (q.length - o.length) from by rw[hsp];simp);have hkl:k<=q.length:=by omega
  refine⟨⟨k,hkl,hck⟩,?_⟩;have hcl:c.length=q.length - k:=by rw[hck,List.length_drop]
  have hol2:o.length<c.length:=by
    unfold cutP at hcp;simp only[Bool.and_eq_true,ydT]at hcp;exact hcp.1
  have huc:zaV c o=true:=by rw[hck,zdr hkl,hu,Bool.and_true];exact yet hk
  -- what is ahead of the cut is the same from the cut and from the name
  obtain⟨suf2,hsf⟩:=zfM (n:=q) hk;obtain⟨pre2,hp2,hp3⟩:=zgp (n:=q.drop k) (K:=q.length - o.length - k);have hdc:za8 o c=pre2++ [c]:=by
    unfold za8;rw[if_pos (by omega),hck,List.length_drop,show q.length - k - o.length=q.length - o.length - k from by omega];exact hp2
  have hlen:∀x∈pre2,x.length<c.length:=fun x hx=>by
    obtain⟨i,a,b,rfl⟩:=hp3 x hx;rw[List.length_drop,List.length_drop];omega
  have hall:zbp q (q.length - o.length)=pre2++c::suf2:=by
    rw[hsf,hp2,yla,hck];rfl
  have hpp:pre=pre2:=by
    have h1:pre++c::suf=pre2++c::suf2:=by rw[←hsp,hall]
    -- the first that is a cut
    have hx:∀x∈pre2,cutP o R x=false:=by
      intro x hx
      -- lengths rise along the row
      have hrise:∀(K:Nat),(zbp q K).Pairwise (fun a b=>a.length<=b.length):=fun K=>by
        induction K with
        |zero=>simp[zbp]
        |succ K ih=>
          simp only[zbp];refine List.pairwise_cons.2 ⟨fun y hy=>?_,ih⟩;obtain⟨i,hi,rfl⟩:=zbM.1 hy;rw[List.length_drop,List.length_drop];omega
      have hr:=hrise (q.length - o.length);have hx1:x∈pre++c::suf:=by rw[h1];exact List.mem_append_left _ hx
      rw[hsp]at hr;rcases List.mem_append.1 hx1 with h|h
      · exact hpre x h
      · exfalso
        have hlx:=hlen x hx;rcases List.mem_cons.1 h with rfl|h
        · omega
        · have:=(List.pairwise_append.1 hr).2.1
          have:=(List.pairwise_cons.1 this).1 x h;omega
    have key:∀{a b s1 s2:List Nm},a++c::s1=b++c::s2->(∀x∈a,cutP o R x=false)->(∀x∈b,cutP o R x=false)->a=b:=by
      intro a
      induction a with
      |nil=>
        intro b s1 s2 h _ hb;cases b with
        |nil=>rfl
        |cons y b=>
          simp only[List.nil_append,List.cons_append,List.cons.injEq]at h;have:=hb y (List.mem_cons_self ..);rw[←h.1,hcp]at this;cases this
      |cons x a ih=>
        intro b s1 s2 h ha hb;cases b with
        |nil=>
          simp only[List.nil_append,List.cons_append,List.cons.injEq]at h;have:=ha x (List.mem_cons_self ..);rw[h.1,hcp]at this;cases this
        |cons y b=>
          simp only[List.cons_append,List.cons.injEq]at h;rw[h.1,ih h.2 (fun z hz=>ha z (List.mem_cons_of_mem _ hz)) (fun z hz=>hb z (List.mem_cons_of_mem _ hz))]
    exact key h1 hpre hx
  subst hpp;have g1:=zgY (q:=c) (x:=c) (suf:=[c]) (fun n hn=>⟨hpre n hn,by have:=hlen n hn;omega⟩) (fun n hn=>by have:=hlen n hn;omega);have g2:=zgY (q:=q) (x:=c) (suf:=c::suf2) (fun n hn=>⟨hpre n hn,by have:=hlen n hn;omega⟩) (fun n hn=>by have:=hlen n hn;omega);have hdq:za8 o q=pre++c::suf2:=by rw[hdn,hall]
  have lk:∀{y:Nm} {r:ResL} (t:Int),zaV y o=true->goL o R y (za8 o y)=some r->za1 o R y t=r:=fun {y r} t hy hr=>by
    unfold za1;rw[if_neg (by rw[hy];simp),hr]
  have hcc:∀y l,goL o R y (c::l)=some (zeI R c):=fun y l=>by
    simp only[goL];rw[if_pos hcp]
  rcases g1 with ⟨a1,a2⟩| ⟨⟨m,hm,hm2⟩,r,hr,hk1⟩
  · rcases g2 with ⟨_,b2⟩| ⟨⟨m,hm,hm2⟩,_⟩
    · left
      refine⟨fun t=>lk t huc (by rw[hdc,a2,hcc]),fun t=>lk t hu (by rw[hdq,b2,hcc]),?_⟩;unfold cutP hasL at hcp;simp only[Bool.and_eq_true]at hcp;obtain⟨r,hr,hr2⟩:=List.any_eq_true.1 hcp.2;have:r∈ofC R c 2:=by rw[zeu hs];exact List.mem_filter.2 ⟨hr,hr2⟩
      intro e;unfold datC at e;rw[List.map_eq_nil_iff]at e;rw[e]at this;cases this
    · exact absurd (a1 m hm) hm2
  · right
    rcases g2 with ⟨b1,_⟩| ⟨_,r2,hr2,hk2⟩
    · exact absurd (b1 m hm) hm2
    · refine⟨fun t=>?_,fun t=>?_⟩
      · rw[lk t huc (by rw[hdc];exact hr)];exact hk1
      · rw[lk t hu (by rw[hdq];exact hr2)];exact hk2
end
section
variable {R : List RecL} {o q n : Nm} {t u : Int}
theorem zc8{ds:List DatL}{x:Nm}(h:x∈zaz u ds):∃d∈ds,x∈d.names:=by
 unfold zaz at h
 split at h
 ·obtain⟨d,hd,h2⟩:=List.mem_filterMap.1 h;exact⟨d,hd,List.mem_of_head? h2⟩
 ·cases h
theorem zkj:zaA []=0:=by decide
theorem zkE(hck:∀r∈R,∀n∈r.dat.names,zaA n=0):zaA (toN u ((datC R n t).take 1))=0:=by
 unfold toN;cases hq:(zbo u ((datC R n t).take 1)).getLast? with
 |none=>exact zkj
 |some x=>
  have h1:=List.mem_of_getLast? hq;obtain⟨d,hd,h2⟩:=zc8 (zcg _ _ x h1);obtain⟨r,hr,rfl⟩:=zdB (List.mem_of_mem_take hd);exact hck r hr x h2
theorem zgG{r:ResL}(h:zaE R q n=some r)(h5:r.kind=5):zaA r.name=0:=by
 unfold zaE at h
 split at h
 ·cases h
 ·split at h
  ·rename_i hc;cases h;exact hc
  ·cases h;cases h5
theorem zjq:∀{l:List Nm} {r:ResL},goL o R q l=some r->r.kind=5->zaA r.name=0
 | [],_,h,_=>by cases h
 |n::l,r,h,h5=>by
  simp only[goL]at h
  split at h
  ·cases h;cases h5
  ·split at h
   ·cases h
   ·split at h
    ·rename_i r' hr;cases h;exact zgG hr h5
    ·exact zjq h h5
theorem zjD(hck:∀r∈R,∀n∈r.dat.names,zaA n=0){b:Bool}(h5:(atL R n t b).kind=5):zaA (atL R n t b).name=0:=by
 unfold atL at h5 ⊢
 split at h5
 ·cases h5
 ·rename_i h1;rw[if_neg h1]
  split at h5
  ·rename_i h2;rw[if_pos h2];exact zkE hck
  ·cases h5
theorem zj5(hck:∀r∈R,∀n∈r.dat.names,zaA n=0)(h5:(za1 o R q t).kind=5):zaA (za1 o R q t).name=0:=by
 unfold za1 at h5 ⊢
 split at h5
 ·cases h5
 rename_i h1;rw[if_neg h1]
 split at h5
 ·rename_i r hr;exact zjq hr h5
 ·rename_i hr
  split at h5
  ·rename_i h2;rw[if_pos h2];exact zjD hck h5
  ·rename_i h2;rw[if_neg h2]
   split at h5
   ·rename_i s hs;exact zjD hck h5
   ·cases h5
end
structure AskF(r:ResL):Prop where
 ok:zkt r
 dl:r.data.length<=1000
 nm:r.kind=5->zaA r.name=0
 tg:∀n∈zaz 2 r.data,NmM n
 tc:∀d∈r.data,∀n∈d.names,zaA n=0
 ld:r.kind=4->zaz 2 r.data≠ []
theorem ask_F{N:NetL}(hG:NetZ N){s:Int}{q:Nm}{t:Int}(mq:NmM q):AskF (askN N s q t):=by
 have hno:AskF ⟨7,[],[],false,[]⟩:=⟨⟨zj3,fun d h=>(by cases h),Nat.zero_le _,Nat.zero_le _,fun x h=>(by cases h)⟩,Nat.zero_le _,fun h=>(by cases h),fun n hn=>(by
  obtain⟨d,hd,_⟩:=zc8 hn;cases hd),fun d h=>(by cases h),fun h=>(by cases h)⟩
 unfold askN
 split
 ·cases hz:(N.zones s)[(zbR N s q).1.toNat]? with
  |none=>exact hno
  |some z=>
   have gz:=(zbT hG).1 z (List.mem_of_getElem? hz);have gc:=gz.c;have hf:=look_F (o:=z.o) (P:=fun d=>∀n∈d.names,zaA n=0) gz.gd.names gc.gd (t:=t) mq;have hk:=look_ok (o:=z.o) gc (t:=t) mq;refine⟨hk,?_,zj5 gz.gd.names,fun n hn=>?_,hf.dat,?_⟩
   ·have:=hf.dl;have:=gc.len;show(za1 z.o z.recs q t).data.length<=1000;omega
   ·obtain⟨d,hd,h2⟩:=zc8 hn;exact(zei (hf.dat d hd n h2)).m
   ·intro h4
    dsimp only at h4 ⊢
    have hu:zaV q z.o=true:=by
     cases hu:zaV q z.o with
     |true=>rfl
     |false=>
      unfold za1 at h4;rw[if_pos hu]at h4;cases h4
    cases hcut:cutL z.o z.recs q with
    |none=>exact absurd h4 (zj4 (t:=t) hu hcut).1
    |some c=>
     obtain⟨_,hcase⟩:=look_cut gc.srt hu hcut;rcases hcase with ⟨_,c2,hne⟩| ⟨_,c2⟩
     ·rw[c2 t];show zaz 2 (datC z.recs c 2)≠ [];obtain⟨d,hd⟩:=List.exists_mem_of_ne_nil _ hne;obtain⟨r,hr,rfl⟩:=zdB hd;have hl:=gz.gd.lead r hr (by rw[zeA hd];exact .inl rfl);obtain⟨x,hx⟩:∃x,r.dat.names.head? =some x:=by
       cases hn:r.dat.names with
       |nil=>rw[hn]at hl;cases hl
       |cons x l=>exact⟨x,rfl⟩
      intro he;have:x∈zaz 2 (datC z.recs c 2):=by
       unfold zaz;rw[if_pos (by decide)];exact List.mem_filterMap.2 ⟨_,hd,hx⟩
      rw[he]at this;cases this
     ·have:=c2 t;omega
 ·exact hno
def zfA(N:NetL)(s:zav)(t:Int):List zav:=
 if s.fin=0 then
  (if (askN N s.sv s.name t).kind=1 then endS s 1 else if (askN N s.sv s.name t).kind=2 then endS s 2 else if (askN N s.sv s.name t).kind=3 then endS s 3 else if (askN N s.sv s.name t).kind=6 then endS s 4 else if (askN N s.sv s.name t).kind=5 then zeR N s (askN N s.sv s.name t).name
  else if (askN N s.sv s.name t).kind=4 then zfo N s (askN N s.sv s.name t) else if s.ref=true then endS s 6 else endS s 5)
 else []
structure StB(s:zav):Prop where
 nm:NmM s.name
 rw0:0<=s.rw
 rw1:s.rw<=1000000
 rf0:0<=s.rf
 rf1:s.rf<=1000000
theorem NextF_ok{w0 w:World}(hE0:Ext w0 w){cs:List Value}{N:NetL}{s:zav}{t:Int}{nv:Value}(hN:NetAt w0 cs N)(hG:NetZ N)(hr:Row w nv (s.name.map vs))(bs:StB s):
  Fn Tryz.prog 45 #[.agg cs.toArray,.agg (stV nv s).toArray,vi t] w (fun v w'=>Ext w w'/\StF w.heap.size (fun u=>u=nv\/BlkB w.heap.size w' u\/∃l,Row w0 u l) w' v (zfA N s t)):=by
 have hN0:=hN;obtain⟨hv,rv,rfl,hh,hro⟩:=hN.ex;obtain⟨ah,ch,hhv,_⟩:=hh.open;obtain⟨ar,cr,hrv,_⟩:=id hro;obtain⟨an,cn,hnv,_⟩:=id hr;unfold stV;refine enter Tryz.func45 Tryz.ntmps45 rfl rfl ?_;repeat refine c_r ?_
 rw[hhv,hrv,hnv];refine rg0 ?_;rw[←hhv,←hrv,←hnv];repeat refine c_r ?_
 rw[zai];refine zaF ?_;intro w1 hE1 hs1 hA hB;have p5:zad w1 (some ⟨w.heap.size+1,5,.none⟩)=some (vi s.fin):=zab hB rfl;have p0:zad w1 (some ⟨w.heap.size+1,0,.none⟩)=some (vi s.sv):=zab hB rfl;have p1:zad w1 (some ⟨w.heap.size+1,1,.none⟩)=some nv:=zab hB rfl;have p4:zad w1 (some ⟨w.heap.size+1,4,.none⟩)=some (.bool s.ref):=zab hB rfl;have dN:zan w1 (some ⟨w.heap.size,0,.none⟩) 4=some [hv,rv,vi N.rw,vi N.rf]:=zae hA rfl;have dS:zan w1 (some ⟨w.heap.size+1,0,.none⟩) 6=some (stV nv s):=zae hB rfl;repeat refine c_r ?_
 unfold zfA;by_cases hf:s.fin=0
 rotate_left
 ·rw[if_neg hf];refine rg3 p5 yn0 (yef hf) ?_;repeat refine c_r ?_
  refine wt Bool.not_false ?_;repeat (first|refine c_r ?_|refine rg0 ?_)
  refine rt0 Tryz.ntmps45 ?_;exact⟨hE1,BlkB.nil,nv,.inl rfl,Rows.nil _ _ _,fun x hx=>by cases hx⟩
 rw[if_pos hf];refine rg3 p5 yn0 (yet hf) ?_;repeat refine c_r ?_
 refine wf Bool.not_true ?_;repeat refine c_r ?_
 refine rq ?_;intro gd K hgd hK;try simp (disch:=first|omega|assumption|rfl) only[go_sem,dN,p0,p1,Nat.add_zero,yn0]
 refine Fn.mono (Ask_ok (s:=s.sv) (t:=t) (hE0.trans hE1) hN0 hG (hr.ext hE1) bs.nm) ?_;rintro _ w2 ⟨hE2,cs,rfl,hres⟩;have hra:=hres.at ((hE0.trans hE1).trans hE2);have hmvB:∀u,cs[2]? =some u->BlkB w.heap.size w2 u\/∃l,Row w0 u l:=fun u hu=>by
  obtain⟨dv,mv,gv,e,_,_,h3,_⟩:=hres.ex;rw[e]at hu;obtain rfl:mv=u:=by simpa using hu
  exact h3.imp (fun h=>h.2.mono hE1.size) fun h=>⟨_,h⟩
 have hF:=ask_F (s:=s.sv) (t:=t) hG bs.nm;try simp only[go_sem]
 refine za3 (P:=Tryz.prog) (l:=cs) (by rw[hres.cells.1];rfl) hres.cells.2 (by rw[hres.cells.1];rfl) rfl ?_;intro w3 hE3 hs3 hB3;try simp only[go_sem]
 refine hK _ _ ?_;clear hK hgd;clear K;try clear gd
 obtain⟨r,hre⟩:∃r,askN N s.sv s.name t=r:=⟨_,rfl⟩;rw[hre]at hra hF hres ⊢;have hra3:=hra.ext hE3;have d3:=zae (n:=5) hB3 hres.cells.1.symm;obtain⟨b,hb⟩:∃b,w2.heap.size=b:=⟨_,rfl⟩;rw[hb]at hB3 d3 ⊢;have hE23:=hE2.trans hE3;have hE13:=hE1.trans hE23;have hE03:=hE0.trans hE13;have dN3:=zac hE23 dN;have dS3:=zac hE23 dS;have p43:=zaa hE23 p4;clear hres hra p5 p0 p1 p4 dN dS;have k0:zad w3 (some ⟨b,0,.none⟩)=some (vi r.kind):=by
  obtain⟨dv,mv,gv,e,_⟩:=hra3.ex;rw[e]at hB3;exact zab hB3 rfl
 have hrn:=hr.ext hE13;repeat refine c_r ?_
 refine rg2 k0 Nat.add_zero ?_;repeat refine c_r ?_
 by_cases k1:r.kind=1
 ·rw[if_pos k1];refine rg1 (yet k1) ?_;repeat refine c_r ?_
  refine wt trivial ?_;repeat refine c_r ?_
  refine rc dS3 (zc1 w3 hrn s 1) ?_;rintro v w4 ⟨hE4,hv⟩;refine re trivial ?_;repeat refine c_r ?_
  refine rt0 Tryz.ntmps45 ?_;exact⟨hE13.trans hE4,(zcs hv (hrn.ext hE4)).mono hE13.size fun u h=> .inl h⟩
 rw[if_neg k1];refine rg1 (yef k1) ?_;repeat refine c_r ?_
 refine wf trivial ?_;repeat refine c_r ?_
 by_cases k2:r.kind=2
 ·rw[if_pos k2];refine rg1 (yet k2) ?_;repeat refine c_r ?_
  refine wt trivial ?_;repeat refine c_r ?_
  refine rc dS3 (zc1 w3 hrn s 2) ?_;rintro v w4 ⟨hE4,hv⟩;refine re trivial ?_;repeat refine c_r ?_
  refine rt0 Tryz.ntmps45 ?_;exact⟨hE13.trans hE4,(zcs hv (hrn.ext hE4)).mono hE13.size fun u h=> .inl h⟩
 rw[if_neg k2];refine rg1 (yef k2) ?_;repeat refine c_r ?_
 refine wf trivial ?_;repeat refine c_r ?_
 by_cases k3:r.kind=3
 ·rw[if_pos k3];refine rg1 (yet k3) ?_;repeat refine c_r ?_
  refine wt trivial ?_;repeat refine c_r ?_
  refine rc dS3 (zc1 w3 hrn s 3) ?_;rintro v w4 ⟨hE4,hv⟩;refine re trivial ?_;repeat refine c_r ?_
  refine rt0 Tryz.ntmps45 ?_;exact⟨hE13.trans hE4,(zcs hv (hrn.ext hE4)).mono hE13.size fun u h=> .inl h⟩
 rw[if_neg k3];refine rg1 (yef k3) ?_;repeat refine c_r ?_
 refine wf trivial ?_;repeat refine c_r ?_
 by_cases k6:r.kind=6
 ·rw[if_pos k6];refine rg1 (yet k6) ?_;repeat refine c_r ?_
  refine wt trivial ?_;repeat refine c_r ?_
  refine rc dS3 (zc1 w3 hrn s 4) ?_;rintro v w4 ⟨hE4,hv⟩;refine re trivial ?_;repeat refine c_r ?_
  refine rt0 Tryz.ntmps45 ?_;exact⟨hE13.trans hE4,(zcs hv (hrn.ext hE4)).mono hE13.size fun u h=> .inl h⟩
 rw[if_neg k6];refine rg1 (yef k6) ?_;repeat refine c_r ?_
 refine wf trivial ?_;repeat refine c_r ?_
 by_cases k5:r.kind=5
 ·rw[if_pos k5];refine rg1 (yet k5) ?_;repeat refine c_r ?_
  refine wt trivial ?_;obtain⟨dv,mv,gv,e,_,hnm,_⟩:=hra3.ex;rw[e]at hB3;have k2:zad w3 (some ⟨b,2,.none⟩)=some mv:=zab hB3 rfl;repeat refine c_r ?_
  refine rc (an4 dS3 dN3 k2 yn0) (alias_ok hE03 hN0 hG hrn hnm (zei (hF.nm k5)).m bs.rw0 bs.rw1) ?_;rintro v w4 ⟨hE4,hv⟩;refine re trivial ?_;repeat refine c_r ?_
  refine rt0 Tryz.ntmps45 ?_;exact⟨hE13.trans hE4,hv.mono hE13.size fun u h=>by
   rcases h with h|h
   ·exact .inl h
   ·rw[h];exact .inr ((hmvB mv (by rw[e];rfl)).imp (fun h=>h.ext (by have:=hE3.size;have:=hE4.size;omega)) id)⟩
 rw[if_neg k5];refine rg1 (yef k5) ?_;repeat refine c_r ?_
 refine wf trivial ?_;repeat refine c_r ?_
 by_cases k4:r.kind=4
 ·rw[if_pos k4];refine rg1 (yet k4) ?_;repeat refine c_r ?_
  refine wt trivial ?_;repeat refine c_r ?_
  refine rc (an3 dS3 dN3 d3) (refer_ok hE03 hN0 hG hrn hra3 hF.ok hF.dl hF.tg bs.rf0 bs.rf1) ?_;rintro v w4 ⟨hE4,hv⟩;refine re trivial ?_;repeat refine c_r ?_
  refine rt0 Tryz.ntmps45 ?_;exact⟨hE13.trans hE4,hv.mono hE13.size fun u h=> .inl h⟩
 rw[if_neg k4];refine rg1 (yef k4) ?_;repeat refine c_r ?_
 refine wf trivial ?_;repeat refine c_r ?_
 refine rg2 p43 Nat.add_zero ?_;repeat refine c_r ?_
 cases hrf:s.ref with
 |true=>
  rw[if_pos rfl];refine wt hrf ?_;repeat refine c_r ?_
  refine rc dS3 (zc1 w3 hrn s 6) ?_;rintro v w4 ⟨hE4,hv⟩;refine re trivial ?_;repeat refine c_r ?_
  refine rt0 Tryz.ntmps45 ?_;exact⟨hE13.trans hE4,(zcs hv (hrn.ext hE4)).mono hE13.size fun u h=> .inl h⟩
 |false=>
  rw[if_neg Bool.false_ne_true];refine wf hrf ?_;repeat refine c_r ?_
  refine rc dS3 (zc1 w3 hrn s 5) ?_;rintro v w4 ⟨hE4,hv⟩;refine re trivial ?_;repeat refine c_r ?_
  refine rt0 Tryz.ntmps45 ?_;exact⟨hE13.trans hE4,(zcs hv (hrn.ext hE4)).mono hE13.size fun u h=> .inl h⟩
structure zf3 where
 o:Nm
 path:Lab
structure SrvL where
 host:Nm
 addr:List UInt8
 places:List zf3
structure zhe where
 servers:List SrvL
 roots:List Int
 rw:Int
 rf:Int
structure PlaceC(w:World)(cs:List Value)(p:zf3):Prop where
 ex:∃ov,cs=[ov,vs p.path]/\Row w ov (p.o.map vs)
structure SrvC(w:World)(cs:List Value)(s:SrvL):Prop where
 ex:∃nv a b c d pv,cs=[nv,zaf a,zaf b,zaf c,zaf d,pv]/\s.addr=[a,b,c,d]/\Row w nv (s.host.map vs)/\Rows 2 (PlaceC w) w pv s.places
structure ConfAt(w:World)(cs:List Value)(c:zhe):Prop where
 ex:∃sv rv,cs=[sv,rv,vi c.rw,vi c.rf]/\Rows 6 (SrvC w) w sv c.servers/\Row w rv (c.roots.map vi)
theorem PlaceC.ext{w x:World}{cs:List Value}{p:zf3}(h:PlaceC w cs p)(hE:Ext w x):PlaceC x cs p:=by
 obtain⟨ov,e,h1⟩:=h.ex;exact⟨ov,e,h1.ext hE⟩
theorem SrvC.ext{w x:World}{cs:List Value}{z:SrvL}(h:SrvC w cs z)(hE:Ext w x):SrvC x cs z:=by
 obtain⟨nv,a,b,c,d,zv,e,ha,h1,h2⟩:=h.ex;exact⟨nv,a,b,c,d,zv,e,ha,h1.ext hE,Rows.extC (fun _ _ h=>PlaceC.ext h hE) h2 hE⟩
theorem ConfAt.ext{w x:World}{cs:List Value}{z:zhe}(h:ConfAt w cs z)(hE:Ext w x):ConfAt x cs z:=by
 obtain⟨hv,rv,e,h1,h2⟩:=h.ex;exact⟨hv,rv,e,Rows.extC (fun _ _ h=>SrvC.ext h hE) h1 hE,h2.ext hE⟩
structure Sh(n:Nm):Prop where
 len:n.length<=130
 lb:∀l∈n,l.length<=100
theorem Sh.m{n:Nm}(h:Sh n):NmM n:=⟨fun l hl=>by have:=h.lb l hl;omega,by have:=h.len;omega⟩
structure FewC(c:zhe):Prop where
 sl:c.servers.length<=20
 rl:c.roots.length<=20
 s:∀s∈c.servers,Sh s.host/\s.places.length<=20/\∀p∈s.places,Sh p.o/\p.path.length<=50
theorem zjI(w:World){a:Value}{n:Nm}(ha:Row w a (n.map vs)):
  Fn Tryz.prog 118 #[a] w (fun v w'=>Ext w w'/\∃t,v= .bool t/\(t=true->Sh n)):=by
 obtain⟨a1,c1,rfl,_,h1⟩:=ha;simp only[ylm,List.getElem_map]at h1 ⊢;refine enter Tryz.func118 Tryz.ntmps118 rfl rfl ?_;repeat refine c_r ?_
 refine rg0 ?_;repeat refine c_r ?_
 by_cases hn:(n.length:Int)>130
 ·refine rg1 (yet hn) ?_;repeat refine c_r ?_
  refine wt trivial ?_;repeat (first|refine c_r ?_|refine rg0 ?_)
  refine rt0 Tryz.ntmps118 ?_;exact⟨Keep.refl _ _,_,rfl,fun h=>by cases h⟩
 refine rg1 (yef hn) ?_;repeat refine c_r ?_
 refine wf trivial ?_;repeat refine c_r ?_
 refine rg0 ?_;repeat refine c_r ?_
 refine zao (fun m σ ds A=>ds=[]/\∃(i:Nat),i+m=n.length/\σ 3=vi i/\σ 0= .slice a1 n.length c1/\Ext w A/\∀j (h:j<n.length),j<i->n[j].length<=100) n.length ?_ ?_
 ·exact⟨rfl,0,by omega,vr0,vq0,Keep.refl _ _,fun j h h2=>absurd h2 (by omega)⟩
 rintro m σ ds A ⟨rfl,i,him,s3,s0,hEA,ht⟩;repeat refine c_r ?_
 refine rg2 s3 s0 ?_;repeat refine c_r ?_
 refine wc0 ?_ ?_
 ·intro hlt;simp only[ydT]at hlt;have hi:i<n.length:=by omega
  have hi0:=cj i;have hi1':=ci i;have g1:=zaa hEA (h1 i hi);obtain⟨x1,rfl⟩:=yxs (zag (h1 i hi));repeat refine c_r ?_
  refine rq ?_;intro gd K hgd hK;simp (disch:=first|omega|assumption|rfl) only[go_sem,s3,s0,hi0,hlt,g1,Nat.mul_one];refine hK _ _ ?_;clear hK hgd;clear K gd;repeat refine c_r ?_
  by_cases hl:(n[i].length:Int)>100
  ·refine wt (yet hl) ?_;repeat (first|refine c_r ?_|refine rg0 ?_)
   refine rt0 Tryz.ntmps118 ?_;exact⟨hEA,_,rfl,fun h=>by cases h⟩
  ·refine wf (yef hl) ?_;repeat refine c_r ?_
   refine rg2 s3 hi1' ?_;repeat refine c_r ?_
   refine⟨m - 1,by omega,rfl,i+1,by omega,vq0,vq1 s0,hEA,fun j hj hji=>?_⟩;by_cases hj2:j=i
   ·subst hj2;omega
   ·exact ht j hj (by omega)
 ·intro hge;simp only[ydF]at hge;repeat (first|refine c_r ?_|refine rg0 ?_)
  refine rt0 Tryz.ntmps118 ?_;refine⟨hEA,_,rfl,fun _=>⟨by omega,fun l hl=>?_⟩⟩;obtain⟨j,hj,rfl⟩:=List.mem_iff_getElem.1 hl;exact ht j hj (by omega)
theorem RPath_ok(w:World){l:Lab}(hl:l.length<=1000000):
  Fn Tryz.prog 167 #[vs l] w (fun v w'=>Ext w w'/\∃t,v= .bool t):=by
 refine enter Tryz.func167 Tryz.ntmps167 rfl rfl ?_;refine gz0 ?_;refine zao (fun m σ ds A=>ds=[]/\∃(i:Nat),i+m=l.length/\σ 3=vi i/\σ 0=vs l/\Ext w A) l.length ?_ ?_
 ·exact⟨rfl,0,by omega,vr0,vq0,Keep.refl _ _⟩
 rintro m σ ds A ⟨rfl,i,him,s3,s0,hEA⟩;refine gz (az2 s3 s0) ?_;refine wc0 ?_ ?_
 ·intro hlt;simp only[ydT]at hlt;have hi:i<l.length:=by omega
  have hi0:=cj i;have hi2:((i:Int)).toNat<l.length:=by omega
  have hi1':=ci i;refine gz (az2 s3 s0) ?_;refine wc0 ?_ ?_
  ·intro _;refine gz0 ?_;refine rt0 Tryz.ntmps167 ?_;exact⟨hEA,_,rfl⟩
  ·intro _;refine gz (az2 s3 hi1') ?_;exact⟨m - 1,by omega,rfl,i+1,by omega,vq0,vq1 s0,hEA⟩
 ·intro hge;refine gz s0 ?_;refine rt0 Tryz.ntmps167 ?_;exact⟨hEA,_,rfl⟩
theorem zi7{w:World}{sv:Value}{l:List SrvL}(hs:Rows 6 (SrvC w) w sv l):∃a c,sv= .slice a l.length c/\∀i (h:i<l.length),∃xa xi x5 nv ap cp,a=some xa/\adr (some xa) (i*6)=some xi/\adr (some xi) 5=some x5/\zad w (some xi)=some nv/\Row w nv (l[i].host.map vs)/\
  zad w (some x5)=some (.slice ap l[i].places.length cp)/\(∃b1 b2 b3 b4,l[i].addr=[b1,b2,b3,b4]/\zan w (some xi) 6=some [nv,zaf b1,zaf b2,zaf b3,zaf b4,.slice ap l[i].places.length cp])/\Rows 2 (PlaceC w) w (.slice ap l[i].places.length cp) l[i].places/\
  ∀k (h:k<l[i].places.length),∃xp xk xk1 ov,ap=some xp/\adr (some xp) (k*2)=some xk/\adr (some xk) 1=some xk1/\zad w (some xk)=some ov/\Row w ov (l[i].places[k].o.map vs)/\zad w (some xk1)=some (vs l[i].places[k].path):=by
 obtain⟨a,c,rfl,_,hg⟩:=hs.open;refine⟨a,c,rfl,fun i hi=>?_⟩;obtain⟨cs,hcs,hS⟩:=hg i hi;obtain⟨nv,b1,b2,b3,b4,pv,rfl,ha,hn,hp⟩:=hS.ex;have hp0:=hp;obtain⟨ap,cp,rfl,_,hgp⟩:=hp.open;obtain⟨xa,rfl⟩:=yxs (zak hcs);obtain⟨xi,hxi⟩:∃xi,adr (some xa) (i*6)=some xi:=⟨_,rfl⟩;obtain⟨x5,hx5⟩:∃x,adr (some xi) 5=some x:=⟨_,rfl⟩;rw[hxi]at hcs;have h0:=zah (j:=0) hcs rfl;rw[zaj]at h0;have h5:=zah (j:=5) hcs rfl;rw[hx5]at h5;refine⟨xa,xi,x5,nv,ap,cp,rfl,hxi,hx5,h0,hn,h5,⟨b1,b2,b3,b4,ha,hcs⟩,hp0,fun k hk=>?_⟩;obtain⟨c2,hc2,hP⟩:=hgp k hk;obtain⟨ov,rfl,ho⟩:=hP.ex;obtain⟨xp,rfl⟩:=yxs (zak hc2);obtain⟨xk,hxk⟩:∃xi,adr (some xp) (k*2)=some xi:=⟨_,rfl⟩;obtain⟨xk1,hxk1⟩:∃x,adr (some xk) 1=some x:=⟨_,rfl⟩;rw[hxk]at hc2;have g0:=zah (j:=0) hc2 rfl;rw[zaj]at g0;have g1:=zah (j:=1) hc2 rfl;rw[hxk1]at g1;exact⟨xp,xk,xk1,ov,rfl,hxk,hxk1,g0,ho,g1⟩
theorem Few15_ok(w:World){cs:List Value}{c:zhe}(hc:ConfAt w cs c):
  Fn Tryz.prog 66 #[.agg cs.toArray] w (fun v w'=>Ext w w'/\∃t,v= .bool t/\(t=true->FewC c)):=by
 obtain⟨sv,rv,rfl,hs,hr⟩:=hc.ex;obtain⟨aS,cS,rfl,hat⟩:=zi7 hs;obtain⟨ar,cr,rfl,_⟩:=hr;simp only[ylm];refine enter Tryz.func66 Tryz.ntmps66 rfl rfl ?_;refine gz0 ?_;refine zax ?_;intro w1 hE1 hs1 hA;have p0:zad w1 (some ⟨w.heap.size,0,.none⟩)=some (.slice aS c.servers.length cS):=zab hA rfl;have p1:zad w1 (some ⟨w.heap.size,1,.none⟩)=some (.slice ar c.roots.length cr):=zab hA rfl;repeat refine c_r ?_
 by_cases h1:(c.servers.length:Int)>20
 ·refine rgg [(4,9)] (an3 p0 Nat.add_zero (yet h1)) ?_;repeat refine c_r ?_
  refine wt trivial ?_;refine gz0 ?_;refine rt0 Tryz.ntmps66 ?_;exact⟨hE1,_,rfl,fun h=>by cases h⟩
 by_cases h2:(c.roots.length:Int)>20
 ·refine rgg [(4,9)] (an6 p0 Nat.add_zero (yef h1) p1 yn0 (yet h2)) ?_;repeat refine c_r ?_
  refine wt trivial ?_;refine gz0 ?_;refine rt0 Tryz.ntmps66 ?_;exact⟨hE1,_,rfl,fun h=>by cases h⟩
 refine rgg [(4,9)] (an6 p0 Nat.add_zero (yef h1) p1 yn0 (yef h2)) ?_;repeat refine c_r ?_
 refine wf trivial ?_;refine gz0 ?_;refine zao (fun m σ ds A=>ds=[]/\∃(i:Nat),i+m=c.servers.length/\σ 3=vi i/\σ 1= .pointer (some ⟨w.heap.size,0,.none⟩)/\Ext w1 A/\∀j (h:j<c.servers.length),j<i->Sh c.servers[j].host/\c.servers[j].places.length<=20/\∀p∈c.servers[j].places,Sh p.o/\p.path.length<=50) c.servers.length ?_ ?_
 ·exact⟨rfl,0,by omega,vr0,vq0,Keep.refl _ _,fun j h h2=>absurd h2 (by omega)⟩
 rintro m σ ds A ⟨rfl,i,him,s3,s1,hEA,ht⟩;have p0A:=zaa hEA p0;refine gz (az4 s3 s1 p0A Nat.add_zero) ?_;refine wc0 ?_ ?_
 ·intro hlt;simp only[ydT]at hlt;have hi:i<c.servers.length:=by omega
  have hi0:=cj i;have hi1':=ci i;obtain⟨xa,xi,x5,nv,ap,cp,rfl,hxi,hx5,g0,hn,g5,_,_,hpl⟩:=hat i hi;obtain⟨s,hse⟩:∃s,c.servers[i]=s:=⟨_,rfl⟩;rw[hse]at hn g5;simp only[hse]at hpl;have hz0:adr (some xi) 0=some xi:=zaj _;have g0A:=zaa (hE1.trans hEA) g0;repeat refine c_r ?_
  refine rcg [(8,30)] (an9 s3 s1 p0A Nat.add_zero hi0 hlt hxi hz0 g0A) (zjI A (hn.ext (hE1.trans hEA))) ?_;rintro _ A1 ⟨hE2,t,rfl,hsh⟩;have hEA1:=hEA.trans hE2;have p0B:=zaa hEA1 p0;have g5B:=zaa (hE1.trans hEA1) g5;cases t with
  |false=>
   refine reg [(8,30)] Bool.not_false ?_;repeat refine c_r ?_
   refine wt trivial ?_;refine gz0 ?_;refine rt0 Tryz.ntmps66 ?_;exact⟨hE1.trans hEA1,_,rfl,fun h=>by cases h⟩
  |true=>
  by_cases h3:(s.places.length:Int)>20
  ·refine reg [(8,30)] (an2 (an9 s3 s1 p0B Nat.add_zero hi0 hlt hxi hx5 g5B) (an2 Bool.not_true (yet h3))) ?_;repeat refine c_r ?_
   refine wt trivial ?_;refine gz0 ?_;refine rt0 Tryz.ntmps66 ?_;exact⟨hE1.trans hEA1,_,rfl,fun h=>by cases h⟩
  refine reg [(8,30)] (an2 (an9 s3 s1 p0B Nat.add_zero hi0 hlt hxi hx5 g5B) (an2 Bool.not_true (yef h3))) ?_;repeat refine c_r ?_
  refine wf trivial ?_;refine gz0 ?_;refine zao (fun m σ ds B=>ds=[]/\∃(k:Nat),k+m=s.places.length/\σ 4=vi k/\σ 3=vi i/\σ 1= .pointer (some ⟨w.heap.size,0,.none⟩)/\Ext w1 B/\∀j (h:j<s.places.length),j<k->Sh s.places[j].o/\s.places[j].path.length<=50) s.places.length ?_ ?_
  ·exact⟨rfl,0,by omega,vr0,vq1 s3,vq1 s1,hEA1,fun j h h2=>absurd h2 (by omega)⟩
  clear s3 s1;rintro m2 σ2 ds2 B ⟨rfl,k,hkm,s4,s3,s1,hEB,ht2⟩;have p0C:=zaa hEB p0;have g5C:=zaa (hE1.trans hEB) g5;refine gz (az2 (az7 s4 s3 s1 (an3 p0C Nat.add_zero g5C) hi0 hlt hxi) (az2 hx5 trivial)) ?_;refine wc0 ?_ ?_
  ·intro hlt2;simp only[ydT]at hlt2;have hk:k<s.places.length:=by omega
   have hk0:=cj k;have hk1':=ci k;obtain⟨xp,xk,xk1,ov,rfl,hxk,hxk1,f0,ho,f1⟩:=hpl k hk;have hz1:adr (some xk) 0=some xk:=zaj _;have f0C:=zaa (hE1.trans hEB) f0;repeat refine c_r ?_
   refine rcg [(12,63)] (an2 (an9 s4 s3 s1 p0C Nat.add_zero g5C hi0 hlt hxi) (an7 hx5 hk0 hlt2 hxk hz1 f0C trivial)) (zjI B (ho.ext (hE1.trans hEB))) ?_;rintro _ B1 ⟨hE3,t,rfl,hsh2⟩;have hEB1:=hEB.trans hE3;cases t with
   |false=>
    refine reg [(12,63)] Bool.not_false ?_;repeat refine c_r ?_
    refine wt trivial ?_;refine gz0 ?_;refine rt0 Tryz.ntmps66 ?_;exact⟨hE1.trans hEB1,_,rfl,fun h=>by cases h⟩
   |true=>
   have p0D:=zaa hEB1 p0;have g5D:=zaa (hE1.trans hEB1) g5;have f1D:=zaa (hE1.trans hEB1) f1;by_cases h4:((s.places[k].path).length:Int)>50
   ·refine reg [(12,63)] (an3 (an9 s4 s3 s1 p0D Nat.add_zero g5D hi0 hlt hxi) (an6 hx5 hk0 hlt2 hxk hxk1 f1D) (an2 Bool.not_true (yet h4))) ?_;repeat refine c_r ?_
    refine wt trivial ?_;refine gz0 ?_;refine rt0 Tryz.ntmps66 ?_;exact⟨hE1.trans hEB1,_,rfl,fun h=>by cases h⟩
   refine reg [(12,63)] (an3 (an9 s4 s3 s1 p0D Nat.add_zero g5D hi0 hlt hxi) (an6 hx5 hk0 hlt2 hxk hxk1 f1D) (an2 Bool.not_true (yef h4))) ?_;repeat refine c_r ?_
   refine wf trivial ?_;refine gz (az2 s4 hk1') ?_;refine⟨m2 - 1,by omega,rfl,k+1,by omega,vq0,vq1 s3,vq1 s1,hEB1,fun j hj hjk=>?_⟩;by_cases hj2:j=k
   ·subst hj2;exact⟨hsh2 rfl,by omega⟩
   ·exact ht2 j hj (by omega)
  ·intro hge2;simp only[ydF]at hge2;refine gz (az2 s3 hi1') ?_;refine⟨m - 1,by omega,rfl,i+1,by omega,vq0,vq1 s1,hEB,fun j hj hji=>?_⟩;by_cases hj2:j=i
   ·subst hj2;rw[hse];refine⟨hsh rfl,by omega,fun p hp=>?_⟩;obtain⟨k2,hk2,rfl⟩:=List.mem_iff_getElem.1 hp;exact ht2 k2 hk2 (by omega)
   ·exact ht j hj (by omega)
 ·intro hge;simp only[ydF]at hge;refine gz0 ?_;refine rt0 Tryz.ntmps66 ?_;refine⟨hE1.trans hEA,_,rfl,fun _=>⟨by omega,by omega,fun s hs=>?_⟩⟩;obtain⟨j,hj,rfl⟩:=List.mem_iff_getElem.1 hs;exact ht j hj (by omega)
section
variable {P : Program} {d : Option Tmp} {ty : TypeId} {ps : String} {af : Array Edge} {g : Option (Nat × Bool)} {ρ : Operand -> Value} {w : World} {K : Value -> World -> Prop}
theorem ze2{e:TypeId}{cs:Array Value}{i:Nat}{v:Value}(he:P.underlying e=some (.int .u8))(hv:cs[i]? =some v):(part e cs i).run P w= .ok v w:=by
 have hi:(isAgg e).run P w= .ok false w:=by simp[isAgg,underlying,program,Sem.run,he]
 unfold part;simp only[Sem.run_bind,hi,Result.andThen_ok,Bool.false_eq_true,if_false,hv,Sem.run_pure]
theorem zdg{e:TypeId}(he:P.underlying e=some (.int .u8))(n:Nat)(a b:UInt8):(Op.equalIn (n+1) e (zaf a) (zaf b)).run P w= .ok (decide (a=b)) w:=by
 have:((a.toNat:Int)==(b.toNat:Int))=decide (a=b):=by
  by_cases h:a=b
  ·subst h;simp
  ·rw[yef h];have:a.toNat≠b.toNat:=fun h2=>h (UInt8.toNat_inj.1 h2);simp;omega
 simp[Op.equalIn,underlying,program,Sem.run,he,zaf,this]
theorem eqIn_arr{t e:TypeId}{inf:TypeInfo}(ht:P.underlying t=some (.array 4 e))(he:P.underlying e=some (.int .u8))(hi:P.info? e=some inf)(hs:inf.size=1)(n:Nat)(a b c d a' b' c' d':UInt8):
  (Op.equalIn (n+2) t (.agg #[zaf a,zaf b,zaf c,zaf d]) (.agg #[zaf a',zaf b',zaf c',zaf d'])).run P w= .ok (decide ([a,b,c,d]=[a',b',c',d'])) w:=by
 rw[Op.equalIn];have hsz:(sizeOf e).run P w= .ok 1 w:=by simp[sizeOf,typeInfo,program,Sem.run,hi,hs]
 have hu:(underlying t).run P w= .ok (.array 4 e) w:=by simp[underlying,program,Sem.run,ht]
 simp only[Sem.run_bind,hu,Result.andThen_ok,hsz,Std.Legacy.Range.forIn_eq_forIn_range',Std.Legacy.Range.size,List.range'];have p0:∀x0 x1 x2 x3:Value,(part e #[x0,x1,x2,x3] 0).run P w= .ok x0 w:=fun _ _ _ _=>ze2 he rfl;have p1:∀x0 x1 x2 x3:Value,(part e #[x0,x1,x2,x3] 1).run P w= .ok x1 w:=fun _ _ _ _=>ze2 he rfl;have p2:∀x0 x1 x2 x3:Value,(part e #[x0,x1,x2,x3] 2).run P w= .ok x2 w:=fun _ _ _ _=>ze2 he rfl;have p3:∀x0 x1 x2 x3:Value,(part e #[x0,x1,x2,x3] 3).run P w= .ok x3 w:=fun _ _ _ _=>ze2 he rfl;by_cases h1:a=a'
 ·by_cases h2:b=b'
  ·by_cases h3:c=c'
   ·by_cases h4:d=d'
    ·simp[List.forIn_cons,Sem.run_bind,p0,p1,p2,p3,zdg he,h1,h2,h3,h4]
    ·simp[List.forIn_cons,Sem.run_bind,p0,p1,p2,p3,zdg he,h1,h2,h3,h4]
   ·simp[List.forIn_cons,Sem.run_bind,p0,p1,p2,p3,zdg he,h1,h2,h3]
  ·simp[List.forIn_cons,Sem.run_bind,p0,p1,p2,p3,zdg he,h1,h2]
 ·simp[List.forIn_cons,Sem.run_bind,p0,p1,p2,p3,zdg he,h1]
theorem op_eqA{t e yt:TypeId}{x y:Operand}{inf:TypeInfo}{a b c d1 a' b' c' d':UInt8}(ht:P.underlying t=some (.array 4 e))(he:P.underlying e=some (.int .u8))(hi:P.info? e=some inf)(hs:inf.size=1)(hg:P.eqGuardType P.depth t=false)
  (hx:ρ x= .agg #[zaf a,zaf b,zaf c,zaf d1]) (hy:ρ y= .agg #[zaf a',zaf b',zaf c',zaf d']) (h:K (.bool (decide ([a,b,c,d1]=[a',b',c',d']))) w):
  opW P ⟨d,.binOp .eql t x y yt,ty,ps,af,g⟩ ρ w K:=by
 have h2:(Op.equal t (.agg #[zaf a,zaf b,zaf c,zaf d1]) (.agg #[zaf a',zaf b',zaf c',zaf d'])).run P w= .ok (decide ([a,b,c,d1]=[a',b',c',d'])) w:=eqIn_arr ht he hi hs 9998 a b c d1 a' b' c' d';have hr:(do eqGuard .eql t x y (.agg #[zaf a,zaf b,zaf c,zaf d1]) (.agg #[zaf a',zaf b',zaf c',zaf d']);binOp .eql t (.agg #[zaf a,zaf b,zaf c,zaf d1]) (.agg #[zaf a',zaf b',zaf c',zaf d']):Sem Value).run P w= .ok (.bool (decide ([a,b,c,d1]=[a',b',c',d']))) w:=by
  simp[eqGuard,binOp,h2,program,Sem.run,hg]
 have:=zaO (P:=P) (K:=K) hr h;rw[←hx,←hy]at this;exact this
end
theorem Sh.lb9{n:Nm}(h:Sh n):(∀l∈n,l.length<=1000000000)/\n.length<=1000000000:=⟨fun l hl=>by have:=h.lb l hl;omega,by have:=h.len;omega⟩
theorem zmo(w:World){cs:List Value}{c:zhe}(hc:ConfAt w cs c)(hf:FewC c){i:Nat}(hi:i<c.servers.length):
  Fn Tryz.prog 119 #[.agg cs.toArray,vi i] w (fun v w'=>Ext w w'/\∃e,v=vi e):=by
 obtain⟨sv,rv,rfl,hs,hr⟩:=hc.ex;obtain⟨aS,cS,rfl,hat⟩:=zi7 hs;obtain⟨ar,cr,rfl,_⟩:=hr;simp only[ylm];have hsl:=hf.sl;refine enter Tryz.func119 Tryz.ntmps119 rfl rfl ?_;refine gz0 ?_;refine zax ?_;intro w1 hE1 hs1 hA;have p0:zad w1 (some ⟨w.heap.size,0,.none⟩)=some (.slice aS c.servers.length cS):=zab hA rfl;obtain⟨xa,xi,x5,nv,ap,cp,rfl,hxi,hx5,g0,hn,g5,⟨b1,b2,b3,b4,hadr,hcs⟩,hpr,hpl⟩:=hat i hi;obtain⟨s,hse⟩:∃s,c.servers[i]=s:=⟨_,rfl⟩;obtain⟨fs1,fs2,fs3⟩:=hf.s s (hse▸List.getElem_mem hi);rw[hse]at hn g5 hadr hcs hpr;simp only[hse]at hpl;have n1:=hn.isOne;have i0:=cj i;have i1:(i:Int)<(c.servers.length:Int):=by omega
 have d:=zac hE1 hcs;refine rqz ?_;intro gd K hgd hK;refine sgz (az6 p0 Nat.add_zero i0 i1 hxi d) ?_;refine za3 (P:=Tryz.prog) (l:=[nv,zaf b1,zaf b2,zaf b3,zaf b4,.slice ap s.places.length cp]) rfl (fun v hv=>by simp at hv;rcases hv with rfl|rfl|rfl|rfl|rfl|rfl<;>first|exact n1|rfl) rfl rfl ?_;intro w2 hE2 hs2 hB;try simp only[go_sem]
 apply hK;obtain⟨b5,hb5⟩:∃b,w1.heap.size=b:=⟨_,rfl⟩;rw[hb5]at hB ⊢;have hE12:=hE1.trans hE2;have p02:=zaa hE2 p0;have q0:zad w2 (some ⟨b5,0,.none⟩)=some nv:=zab hB rfl;have q1:zan w2 (some ⟨b5,1,.none⟩) 4=some [zaf b1,zaf b2,zaf b3,zaf b4]:=by
  have h6:=zae (n:=6) (l:=[nv,zaf b1,zaf b2,zaf b3,zaf b4,.slice ap s.places.length cp]) hB rfl;have h5:=za9 (m:=1) (k:=5) h6;rw[za6]at h5;exact zcQ (m:=4) (k:=1) h5
 have q5:zad w2 (some ⟨b5,5,.none⟩)=some (.slice ap s.places.length cp):=zab hB rfl;repeat refine c_r ?_
 refine rc (an2 q0 Nat.add_zero) (zbc w2 nv s.host (hn.ext hE12) fs1.lb9.1 fs1.lb9.2) ?_;rintro _ w3 ⟨rfl,hE3⟩;refine re trivial ?_;have hE23:=hE12.trans hE3;repeat refine c_r ?_
 by_cases hck:zaA s.host=0
 rotate_left
 ·refine rg1 (yef hck) ?_;repeat refine c_r ?_
  refine wt Bool.not_false ?_;refine gz0 ?_;refine rt0 Tryz.ntmps119 ?_;exact⟨hE23,_,rfl⟩
 refine gz (yet hck) ?_;refine wf Bool.not_true ?_;have p03:=zaa hE3 p02;have q03:=zaa hE3 q0;have q13:=zac hE3 q1;have q53:=zaa hE3 q5;refine gz0 ?_;refine zao (fun m σ ds A=>ds=[]/\∃(k:Nat),k+m=i/\σ 7=vi k/\σ 1=vi i/\σ 2= .pointer (some ⟨w.heap.size,0,.none⟩)/\σ 5= .pointer (some ⟨b5,0,.none⟩)/\Ext w3 A) i ?_ ?_
 ·exact⟨rfl,0,by omega,vr0,vq0,vq0,vq0,Keep.refl _ _⟩
 rintro m σ ds A ⟨rfl,k,hkm,s7,s1,s2,s5,hEA⟩;have hEwA:=hE23.trans hEA;refine gz (az2 s7 s1) ?_;refine wc0 ?_ ?_
 ·intro hlt;simp only[ydT]at hlt;have hk:k<c.servers.length:=by omega
  have hk0:=cj k;have hk1:(k:Int)<(c.servers.length:Int):=by omega
  have hk1':=ci k;obtain⟨xa',xk,_,nv',_,_,hae,hxk,_,f0,hn',_,⟨d1,d2,d3,d4,_,fcs⟩,_,_⟩:=hat k hk;injection hae with hae
  subst hae;obtain⟨fsk,_,_⟩:=hf.s _ (List.getElem_mem hk);obtain⟨y1,hy1⟩:∃y,adr (some xk) 1=some y:=⟨_,rfl⟩;have hz0:adr (some xk) 0=some xk:=zaj _;have fby:zan w (some y1) 4=some [zaf d1,zaf d2,zaf d3,zaf d4]:=by
   have h5:=za9 (m:=1) (k:=5) fcs;rw[hy1]at h5;exact zcQ (m:=4) (k:=1) h5
  repeat refine c_r ?_
  refine zaJ (fun _=>false) [(0,true),(1,true),(2,true),(3,true),(4,true),(5,true),(6,true),(7,true),(8,false),(9,true),(10,true),(11,true),(12,true),(13,true),(14,true),(15,true),(16,true),(17,true),(18,false),(19,true)] NoS mixed (by kernel_rfl) ?_;intro gd K x hgd hx hxe hK;clear hxe;have hg9:=gk 9 35 hgd rfl;have hW:=hEwA.trans hx;have p0x:=zaa (hEA.trans hx) p03;have q0x:=zaa (hEA.trans hx) q03;have q1x:=zac (hEA.trans hx) q13;have f0x:=zaa hW f0;have fbx:=zac hW fby;refine sgz (az2 (az7 s7 s2 s5 p0x q0x Nat.add_zero hk0) (az4 hk1 hxk hz0 f0x)) ?_;refine Fn.mono (zb2 x nv' nv _ s.host (hn'.ext hW) (hn.ext hW) fsk.m.LB fs1.m.LB (by have:=fsk.len;omega) (by have:=fs1.len;omega)) ?_;rintro _ y ⟨rfl,hy⟩;refine⟨.inr hy,?_⟩;obtain⟨sm,hsm⟩:∃b,decide (zaq c.servers[k].host=zaq s.host)=b:=⟨_,rfl⟩;rw[hsm];cases sm with
  |true=>
   simp (disch:=first|omega|assumption|rfl) only[go_sem,↓hg9];refine en hK ?_;refine wt trivial ?_;refine gz0 ?_;refine rt0 Tryz.ntmps119 ?_;exact⟨hW.trans hy,_,rfl⟩
  |false=>
  have p0y:=zaa hy p0x;have q1y:=zac hy q1x;have fby':=zac hy fbx;simp (disch:=first|omega|assumption|rfl) only[go_sem,s7,s2,s5,p0y,Nat.add_zero,hk0,hk1,hxk,hy1,fby',q1y,↓hg9];refine op_eqA (a:=d1) (b:=d2) (c:=d3) (d1:=d4) (a':=b1) (b':=b2) (c':=b3) (d':=b4) rfl rfl rfl rfl (by kernel_rfl) vr0 vr0 ?_;refine⟨.inr (Keep.refl _ _),?_⟩;simp (disch:=first|omega|assumption|rfl) only[go_sem,↓hg9];apply hK;have hWy:=hW.trans hy;have hAy:=(hEA.trans hx).trans hy;refine wcz ?_ ?_
  ·intro _;refine gz0 ?_;refine rt0 Tryz.ntmps119 ?_;exact⟨hWy,_,rfl⟩
  ·intro _;refine gz (az2 s7 hk1') ?_;exact⟨m - 1,by omega,rfl,k+1,by omega,vq0,vq1 s1,vq1 s2,vq1 s5,hAy⟩
 intro hge;clear hkm hge s7;have q5A:=zaa hEA q53;repeat refine c_r ?_
 by_cases h16:(s.places.length:Int)>16
 ·refine rg4 s5 q5A yn0 (yet h16) ?_;repeat refine c_r ?_
  refine wt trivial ?_;refine gz0 ?_;refine rt0 Tryz.ntmps119 ?_;exact⟨hEwA,_,rfl⟩
 refine gz (az4 s5 q5A yn0 (yef h16)) ?_;refine wf trivial ?_;refine gz0 ?_;refine zao (fun m σ ds B=>ds=[]/\∃(k:Nat),k+m=s.places.length/\σ 8=vi k/\σ 5= .pointer (some ⟨b5,0,.none⟩)/\Ext w3 B) s.places.length ?_ ?_
 ·exact⟨rfl,0,by omega,vr0,vq1 s5,hEA⟩
 clear s1 s2 s5 q5A hEwA hEA;rintro m2 σ2 ds2 B ⟨rfl,k,hkm,s8,s5,hEB⟩;have hEwB:=hE23.trans hEB;have q5B:=zaa hEB q53;refine gz (az4 s8 s5 q5B yn0) ?_;refine wc0 ?_ ?_
 rotate_left
 ·intro _;refine gz0 ?_;refine rt0 Tryz.ntmps119 ?_;exact⟨hEwB,_,rfl⟩
 intro hlt;simp only[ydT]at hlt;have hk:k<s.places.length:=by omega
 have hk0:=cj k;have hk1':=ci k;obtain⟨xp,xk,xk1,ov,rfl,hxk,hxk1,f0,ho,f1⟩:=hpl k hk;obtain⟨fo,fp⟩:=fs3 _ (List.getElem_mem hk);have hz1:adr (some xk) 0=some xk:=zaj _;have f0B:=zaa hEwB f0;repeat refine c_r ?_
 refine rc (an9 s8 s5 q5B yn0 hk0 hlt hxk hz1 f0B) (zbc B ov _ (ho.ext hEwB) fo.lb9.1 fo.lb9.2) ?_;rintro _ B1 ⟨rfl,hE4⟩;refine re trivial ?_;have hEB1:=hEB.trans hE4;have hEwB1:=hE23.trans hEB1;have q5B1:=zaa hEB1 q53;have f1B1:=zaa hEwB1 f1;repeat refine c_r ?_
 by_cases hck2:zaA s.places[k].o=0
 rotate_left
 ·refine rg1 (yef hck2) ?_;repeat refine c_r ?_
  refine wt Bool.not_false ?_;refine gz0 ?_;refine rt0 Tryz.ntmps119 ?_;exact⟨hEwB1,_,rfl⟩
 refine gz (yet hck2) ?_;refine wf Bool.not_true ?_;repeat refine c_r ?_
 refine rc (an9 s8 s5 q5B1 yn0 hk0 hlt hxk hxk1 f1B1) (RPath_ok B1 (l:=s.places[k].path) (by omega)) ?_;rintro _ B2 ⟨hE5,t,rfl⟩;refine re trivial ?_;have hEB2:=hEB1.trans hE5;repeat refine c_r ?_
 cases t with
 |false=>
  refine wt Bool.not_false ?_;refine gz0 ?_;refine rt0 Tryz.ntmps119 ?_;exact⟨hE23.trans hEB2,_,rfl⟩
 |true=>
 refine wf Bool.not_true ?_;refine gz0 ?_;refine zao (fun m σ ds C=>ds=[]/\∃(j:Nat),j+m=k/\σ 9=vi j/\σ 8=vi k/\σ 5= .pointer (some ⟨b5,0,.none⟩)/\Ext w3 C) k ?_ ?_
 ·exact⟨rfl,0,by omega,vr0,vq1 s8,vq1 s5,hEB2⟩
 clear s8 s5;rintro m3 σ3 ds3 C ⟨rfl,j,hjm,s9,s8,s5,hEC⟩;have hEwC:=hE23.trans hEC;refine gz (az2 s9 s8) ?_;refine wc0 ?_ ?_
 rotate_left
 ·intro _;refine gz (az2 s8 hk1') ?_;exact⟨m2 - 1,by omega,rfl,k+1,by omega,vq0,vq1 s5,hEC⟩
 intro hlt2;simp only[ydT]at hlt2;have hj:j<s.places.length:=by omega
 have hj0:=cj j;have hj1:(j:Int)<(s.places.length:Int):=by omega
 have hj1':=ci j;obtain⟨xp',xj,_,ov',hpe,hxj,_,e0,ho',_⟩:=hpl j hj;injection hpe with hpe
 subst hpe;obtain⟨fo',_⟩:=fs3 _ (List.getElem_mem hj);have hz2:adr (some xj) 0=some xj:=zaj _;repeat refine c_r ?_
 refine zaJ (fun _=>false) [(0,true),(1,true),(2,true),(3,true),(4,true),(5,true),(6,true),(7,true),(8,true),(9,true),(10,true),(11,true),(12,false)] NoS mixed (by kernel_rfl) ?_;intro gd K x hgd hx hxe hK;clear hxe;have hW:=hEwC.trans hx;have q5x:=zaa (hEC.trans hx) q53;have f0x:=zaa hW f0;have e0x:=zaa hW e0;refine sgz (az2 (az7 s9 s8 s5 q5x yn0 hk0 hlt) (az2 (az7 hj0 hj1 hxk hxj hz1 hz2 f0x) e0x)) ?_;refine Fn.mono (zb2 x ov' ov _ _ (ho'.ext hW) (ho.ext hW) fo'.m.LB fo.m.LB (by have:=fo'.len;omega) (by have:=fo.len;omega)) ?_;rintro _ y ⟨rfl,hy⟩;refine⟨.inr hy,?_⟩;refine sg0 ?_;apply hK;refine wcz ?_ ?_
 ·intro _;refine gz0 ?_;refine rt0 Tryz.ntmps119 ?_;exact⟨hW.trans hy,_,rfl⟩
 ·intro _;refine gz (az2 s9 hj1') ?_;exact⟨m3 - 1,by omega,rfl,j+1,by omega,vq0,vq1 s8,vq1 s5,(hEC.trans hx).trans hy⟩
structure zmq(c:zhe):Prop where
 ne:c.roots≠ []
 inn:∀r∈c.roots,0<=r/\r<(c.servers.length:Int)
theorem zim(w:World){cs:List Value}{c:zhe}(hc:ConfAt w cs c)(hf:FewC c):
  Fn Tryz.prog 67 #[.agg cs.toArray] w (fun v w'=>Ext w w'/\∃a e,v= .tuple #[vi a,vi e]/\(e=0->zmq c)):=by
 have hc0:=hc;obtain⟨sv,rv,rfl,hs,hr⟩:=hc.ex;obtain⟨aS,cS,rfl,hat⟩:=zi7 hs;obtain⟨ar,cr,rfl,_,hgr⟩:=hr;simp only[ylm,List.getElem_map]at hgr hc0 ⊢;have hsl:=hf.sl;have hrl:=hf.rl;refine enter Tryz.func67 Tryz.ntmps67 rfl rfl ?_;refine gz0 ?_;refine zax ?_;intro w1 hE1 hs1 hA;have p0:zad w1 (some ⟨w.heap.size,0,.none⟩)=some (.slice aS c.servers.length cS):=zab hA rfl;have p1:zad w1 (some ⟨w.heap.size,1,.none⟩)=some (.slice ar c.roots.length cr):=zab hA rfl;have p2:zad w1 (some ⟨w.heap.size,2,.none⟩)=some (vi c.rw):=zab hA rfl;have p3:zad w1 (some ⟨w.heap.size,3,.none⟩)=some (vi c.rf):=zab hA rfl;have dC:zan w1 (some ⟨w.heap.size,0,.none⟩) 4=some [.slice aS c.servers.length cS,.slice ar c.roots.length cr,vi c.rw,vi c.rf]:=zae hA rfl;repeat refine c_r ?_
 by_cases h1:(c.servers.length:Int)=0
 ·refine rgg [(4,14)] (an3 p0 Nat.add_zero (yet h1)) ?_;repeat refine c_r ?_
  refine wt trivial ?_;refine gz0 ?_;refine zat (by simp) Tryz.ntmps67 rfl (zam vr0 (zam vr0 zap)) ?_;exact⟨hE1,_,_,rfl,fun h=>by cases h⟩
 by_cases h2:(c.roots.length:Int)=0
 ·refine rgg [(4,14)] (an6 p0 Nat.add_zero (yef h1) p1 yn0 (yet h2)) ?_;repeat refine c_r ?_
  refine wt trivial ?_;refine gz0 ?_;refine zat (by simp) Tryz.ntmps67 rfl (zam vr0 (zam vr0 zap)) ?_;exact⟨hE1,_,_,rfl,fun h=>by cases h⟩
 refine rgg [(4,14)] (an6 p0 Nat.add_zero (yef h1) p1 yn0 (yef h2)) ?_;repeat refine c_r ?_
 refine wf trivial ?_;refine gz (az2 p0 Nat.add_zero) ?_;refine wc0 ?_ ?_
 ·intro _;refine gz0 ?_;refine zat (by simp) Tryz.ntmps67 rfl (zam vr0 (zam vr0 zap)) ?_;exact⟨hE1,_,_,rfl,fun h=>by cases h⟩
 intro _;repeat refine c_r ?_
 refine zaw (Q:=fun e σ' ds' v'=>e= .normal/\ds'=[]/\v'=w1/\σ' 1= .pointer (some ⟨w.heap.size,0,.none⟩)/\∃t,σ' 25= .bool t) ?_ ?_
 ·by_cases e0:c.rw<0
  ·refine rgg [(3,29),(8,34),(13,39)] (an3 p2 yn0 (yet e0)) ?_;exact⟨rfl,rfl,rfl,vq0,_,vr0⟩
  by_cases e1:c.rw>8
  ·refine rgg [(3,29),(8,34),(13,39)] (an4 p2 yn0 (yef e0) (yet e1)) ?_;exact⟨rfl,rfl,rfl,vq0,_,vr0⟩
  by_cases e2:c.rf<0
  ·refine rgg [(3,29),(8,34),(13,39)] (an6 p2 yn0 (yef e0) (yef e1) p3 (yet e2)) ?_;exact⟨rfl,rfl,rfl,vq0,_,vr0⟩
  refine rgg [(3,29),(8,34),(13,39)] (an6 p2 yn0 (yef e0) (yef e1) p3 (yef e2)) ?_;exact⟨rfl,rfl,rfl,vq0,_,vr0⟩
 rintro _ σ1 _ w2 ⟨rfl,rfl,rfl,s1,t,s25⟩;repeat refine c_r ?_
 cases t with
 |true=>
  refine wt s25 ?_;refine gz0 ?_;refine zat (by simp) Tryz.ntmps67 rfl (zam vr0 (zam vr0 zap)) ?_;exact⟨hE1,_,_,rfl,fun h=>by cases h⟩
 |false=>
 refine wf s25 ?_;clear s25;refine gz0 ?_;refine zao (fun m σ ds A=>ds=[]/\∃(i:Nat),i+m=c.roots.length/\σ 4=vi i/\σ 1= .pointer (some ⟨w.heap.size,0,.none⟩)/\Ext w2 A/\∀j (h:j<c.roots.length),j<i->0<=c.roots[j]/\c.roots[j]<(c.servers.length:Int)) c.roots.length ?_ ?_
 ·exact⟨rfl,0,by omega,vr0,vq1 s1,Keep.refl _ _,fun j h h2=>absurd h2 (by omega)⟩
 clear s1;rintro m σ ds A ⟨rfl,i,him,s4,s1,hEA,ht⟩;have p1A:=zaa hEA p1;refine gz (az4 s4 s1 p1A yn0) ?_;refine wc0 ?_ ?_
 ·intro hlt;simp only[ydT]at hlt;have hi:i<c.roots.length:=by omega
  have hi0:=cj i;have hi1':=ci i;have g:=hgr i hi;obtain⟨x1,rfl⟩:=yxs (zag g);repeat refine c_r ?_
  refine zaJ (fun _=>false) [(0,true),(1,true),(2,true),(3,true),(4,true),(5,true),(6,true),(7,true),(8,true),(9,true),(10,true),(11,true),(12,true),(13,true),(14,true),(15,true),(16,true)] NoS mixed (by kernel_rfl) ?_;intro gd K x hgd hx hxe hK;clear hxe;have hg6:=gk 6 57 hgd rfl;have p1x:=zaa hx p1A;have p0x:=zaa (hEA.trans hx) p0;have gx:=zaa (hE1.trans (hEA.trans hx)) g;by_cases hneg:c.roots[i]<0
  ·simp (disch:=first|omega|assumption|rfl) only[go_sem,s4,s1,p1x,yn0,Nat.mul_one,hi0,hlt,gx,yet hneg,zaT,↓hg6];refine en hK ?_;refine wt trivial ?_;refine gz0 ?_;refine zat (by simp) Tryz.ntmps67 rfl (zam vr0 (zam vr0 zap)) ?_;exact⟨hE1.trans (hEA.trans hx),_,_,rfl,fun h=>by cases h⟩
  by_cases hbig:c.roots[i]>=(c.servers.length:Int)
  ·simp (disch:=first|omega|assumption|rfl) only[go_sem,s4,s1,p1x,p0x,yn0,Nat.add_zero,Nat.mul_one,hi0,hlt,gx,yef hneg,yet hbig,zaT,↓hg6];refine en hK ?_;refine wt trivial ?_;refine gz0 ?_;refine zat (by simp) Tryz.ntmps67 rfl (zam vr0 (zam vr0 zap)) ?_;exact⟨hE1.trans (hEA.trans hx),_,_,rfl,fun h=>by cases h⟩
  simp (disch:=first|omega|assumption|rfl) only[go_sem,s4,s1,p1x,p0x,yn0,Nat.add_zero,Nat.mul_one,hi0,hlt,gx,yef hneg,yef hbig,zaT,↓hg6];refine en hK ?_;refine wf trivial ?_;refine gz (az2 s4 hi1') ?_;refine⟨m - 1,by omega,rfl,i+1,by omega,vq0,vq1 s1,hEA.trans hx,fun j hj hji=>?_⟩;by_cases hj2:j=i
  ·subst hj2;omega
  ·exact ht j hj (by omega)
 intro hge;simp only[ydF]at hge;have hro:zmq c:=⟨fun h=>by rw[h]at h2;exact h2 rfl,fun r hr=>by
  obtain⟨j,hj,rfl⟩:=List.mem_iff_getElem.1 hr;exact ht j hj (by omega)⟩
 clear him hge s4 ht p1A;refine gz0 ?_;refine zao (fun m σ ds B=>ds=[]/\∃(i:Nat),i+m=c.roots.length/\σ 5=vi i/\σ 1= .pointer (some ⟨w.heap.size,0,.none⟩)/\Ext w2 B) c.roots.length ?_ ?_
 ·exact⟨rfl,0,by omega,vr0,vq1 s1,hEA⟩
 clear s1 hEA;rintro m2 σ2 ds2 B ⟨rfl,i,him,s5,s1,hEB⟩;have p1B:=zaa hEB p1;refine gz (az4 s5 s1 p1B yn0) ?_;refine wc0 ?_ ?_
 ·intro hlt;simp only[ydT]at hlt;have hi:i<c.roots.length:=by omega
  have hi0:=cj i;have hi1':=ci i;have g:=hgr i hi;obtain⟨x1,rfl⟩:=yxs (zag g);refine gz0 ?_;refine zao (fun m σ ds C=>ds=[]/\∃(j:Nat),j+m=i/\σ 6=vi j/\σ 5=vi i/\σ 1= .pointer (some ⟨w.heap.size,0,.none⟩)/\Ext w2 C) i ?_ ?_
  ·exact⟨rfl,0,by omega,vr0,vq1 s5,vq1 s1,hEB⟩
  clear s5 s1;rintro m3 σ3 ds3 C ⟨rfl,j,hjm,s6,s5,s1,hEC⟩;have p1C:=zaa hEC p1;refine gz (az2 s6 s5) ?_;refine wc0 ?_ ?_
  ·intro hlt2;simp only[ydT]at hlt2;have hj:j<c.roots.length:=by omega
   have hj0:=cj j;have hj1:(j:Int)<(c.roots.length:Int):=by omega
   have hj1':=ci j;have gj:=hgr j hj;repeat refine c_r ?_
   refine zaJ (fun _=>false) [(0,true),(1,true),(2,true),(3,true),(4,true),(5,true),(6,true),(7,true),(8,true),(9,true),(10,true)] NoS mixed (by kernel_rfl) ?_;intro gd K x hgd hx hxe hK;clear hxe;have p1x:=zaa hx p1C;have gx:=zaa (hE1.trans (hEC.trans hx)) g;have gjx:=zaa (hE1.trans (hEC.trans hx)) gj;refine sgz (az2 (az7 s6 s5 s1 p1x yn0 Nat.mul_one hi0) (az5 hlt hj0 hj1 gx gjx)) ?_;apply hK;refine wcz ?_ ?_
   ·intro _;refine gz0 ?_;refine zat (by simp) Tryz.ntmps67 rfl (zam vr0 (zam vr0 zap)) ?_;exact⟨hE1.trans (hEC.trans hx),_,_,rfl,fun h=>by cases h⟩
   ·intro _;refine gz (az2 s6 hj1') ?_;exact⟨m3 - 1,by omega,rfl,j+1,by omega,vq0,vq1 s5,vq1 s1,hEC.trans hx⟩
  ·intro _;refine gz (az2 s5 hi1') ?_;exact⟨m2 - 1,by omega,rfl,i+1,by omega,vq0,vq1 s1,hEC⟩
 intro hge;clear him hge s5 p1B;refine gz0 ?_;refine zao (fun m σ ds B=>ds=[]/\∃(i:Nat),i+m=c.servers.length/\σ 7=vi i/\σ 1= .pointer (some ⟨w.heap.size,0,.none⟩)/\Ext w2 B) c.servers.length ?_ ?_
 ·exact⟨rfl,0,by omega,vr0,vq1 s1,hEB⟩
 clear s1 hEB;rintro m3 σ3 ds3 C ⟨rfl,i,him,s7,s1,hEC⟩;have p0C:=zaa hEC p0;have dCC:=zac hEC dC;refine gz (az4 s7 s1 p0C Nat.add_zero) ?_;refine wc0 ?_ ?_
 ·intro hlt;simp only[ydT]at hlt;have hi:i<c.servers.length:=by omega
  have hi1':=ci i;repeat refine c_r ?_
  refine rc (an3 s7 s1 dCC) (zmo C (hc0.ext (hE1.trans hEC)) hf hi) ?_;rintro _ C1 ⟨hE2,e,rfl⟩;refine re trivial ?_;repeat refine c_r ?_
  by_cases he:e=0
  ·refine rg1 (yet he) ?_;repeat refine c_r ?_
   refine wf Bool.not_true ?_;refine gz (az2 s7 hi1') ?_;exact⟨m3 - 1,by omega,rfl,i+1,by omega,vq0,vq1 s1,hEC.trans hE2⟩
  ·refine rg1 (yef he) ?_;repeat refine c_r ?_
   refine wt Bool.not_false ?_;refine gz s7 ?_;refine zat (by simp) Tryz.ntmps67 rfl (zam vr0 (zam vr0 zap)) ?_;exact⟨hE1.trans (hEC.trans hE2),_,_,rfl,fun h=>absurd h he⟩
 ·intro _;refine gz0 ?_;refine zat (by simp) Tryz.ntmps67 rfl (zam vr0 (zam vr0 zap)) ?_;exact⟨hE1.trans hEC,_,_,rfl,fun _=>hro⟩
theorem zcW(w:World):zeD 2 (PlaceC w):=by
 refine⟨fun h=>?_,fun h=>?_⟩
 ·obtain⟨ov,rfl,_⟩:=h.ex;rfl
 ·obtain⟨ov,rfl,h1⟩:=h.ex;intro q hq;simp at hq;rcases hq with rfl|rfl
  ·exact h1.isOne
  ·rfl
def gxC(cs:List Value)(x:SrvL×(Value×List Value)):Prop:=cs=x.2.2/\cs.length=6/\∀q∈cs,one q=true
theorem ze4:zeD 6 gxC:=⟨fun h=>h.2.1,fun h=>h.2.2⟩
structure SrvX(w0 A:World)(pv:Value)(cs:List Value)(s:SrvL):Prop where
 ex:∃nv a b c d,cs=[nv,zaf a,zaf b,zaf c,zaf d,pv]/\s.addr=[a,b,c,d]/\Row w0 nv (s.host.map vs)/\Rows 2 (PlaceC w0) A pv s.places
theorem SrvX.keep{w0 A A':World}{pv:Value}{cs:List Value}{s:SrvL}(h:SrvX w0 A pv cs s){S:Nat->Prop}(hk:Keep S A A')(hS:∀a n c,pv= .slice (some a) n c->a.block<A.heap.size/\¬S a.block):SrvX w0 A' pv cs s:=by
 obtain⟨nv,a,b,c,d,e,ha,h1,h2⟩:=h.ex;exact⟨nv,a,b,c,d,e,ha,h1,h2.blocks fun a n c hv=>hk.block _ (hS a n c hv).1 (hS a n c hv).2⟩
structure GS(w0:World)(e:TypeId)(B:Nat)(A:World)(ov:Value)(G:List (SrvL×(Value×List Value))):Prop where
 own:Owns 6 gxC B A e ov G
 row:∀x∈G,SrvX w0 A x.2.1 x.2.2 x.1/\BlkB B A x.2.1/\∀a n c,x.2.1= .slice (some a) n c->some a.block≠ov.ownBlock
theorem GS.keep{w0 A A':World}{e:TypeId}{B:Nat}{ov:Value}{G:List (SrvL×(Value×List Value))}(h:GS w0 e B A ov G){S:Nat->Prop}(hk:Keep S A A')(hS:∀b,B<=b->b<A.heap.size->¬S b):GS w0 e B A' ov G:=
 ⟨h.own.keep hk (fun b hb=>hS b (h.own.ge hb).1 (h.own.ge hb).2),fun x hx=>by
  obtain⟨h1,h2,h3⟩:=h.row x hx;exact⟨h1.keep hk (fun a n c hv=>⟨(h2 a n c hv).2,hS _ (h2 a n c hv).1 (h2 a n c hv).2⟩),h2.ext hk.size,h3⟩⟩
theorem GS.ext{w0 A A':World}{e:TypeId}{B:Nat}{ov:Value}{G:List (SrvL×(Value×List Value))}(h:GS w0 e B A ov G)(hE:Ext A A'):GS w0 e B A' ov G:=h.keep hE (fun _ _ _ h=>h)
theorem GS.app{w0 A A1 A2:World}{e:TypeId}{B:Nat}{ov ov':Value}{G:List (SrvL×(Value×List Value))}{x:SrvL×(Value×List Value)}(h:GS w0 e B A ov G)(hE:Ext A A1)(hB:B<=A.heap.size)
  (hx:SrvX w0 A1 x.2.1 x.2.2 x.1) (hxb:BlkB A.heap.size A1 x.2.1) (ho:Owns 6 gxC B A2 e ov' (G++ [x])) (hk:Keep (fun b=>some b=ov.ownBlock) A1 A2) (hb:∀b,some b=ov'.ownBlock->some b=ov.ownBlock\/A1.heap.size<=b):GS w0 e B A2 ov' (G++ [x]):=by
 refine⟨ho,fun y hy=>?_⟩;have h1:=h.ext hE;have hge:∀b,some b=ov.ownBlock->b<A.heap.size:=fun b hb=>(h.own.ge hb).2;have hy2:SrvX w0 A1 y.2.1 y.2.2 y.1/\BlkB B A1 y.2.1/\∀a n c,y.2.1= .slice (some a) n c->some a.block≠ov.ownBlock:=by
  rcases List.mem_append.1 hy with hy|hy
  ·exact h1.row y hy
  ·rw[List.mem_singleton.1 hy];exact⟨hx,hxb.mono hB,fun a n c hv hbb=>by have:=hge _ hbb;have:=(hxb a n c hv).1;omega⟩
 obtain⟨g1,g2,g3⟩:=hy2;refine⟨g1.keep hk (fun a n c hv=>⟨(g2 a n c hv).2,g3 a n c hv⟩),g2.ext hk.size,fun a n c hv hbb=>?_⟩;rcases hb _ hbb with e|e
 ·exact g3 a n c hv e
 ·have:=(g2 a n c hv).2;omega
theorem GS.rows{w0 A:World}{e:TypeId}{B:Nat}{ov:Value}{G:List (SrvL×(Value×List Value))}(h:GS w0 e B A ov G)(hE:Ext w0 A):Rows 6 (SrvC A) A ov (G.map Prod.fst):=by
 obtain⟨L,h1,h2,h3⟩:=h.own.rows;refine⟨L,h1,by rw[h2,ylm],fun i hi hi'=>?_⟩;have hi2:i<G.length:=by omega
 obtain⟨e1,_⟩:=h3 i hi hi2;obtain⟨g1,_⟩:=h.row _ (List.getElem_mem hi2);obtain⟨nv,a,b,c,d,e2,ha,g2,g3⟩:=g1.ex;rw[e1,e2,List.getElem_map];exact⟨nv,a,b,c,d,_,rfl,ha,g2.ext hE,g3.to fun _ _ h=>h.ext hE⟩
structure IP(w0:World)(es ep:TypeId)(b5:Nat)(nv:Value)(a b c d:UInt8)(A0 v:World)(pv:Value)(ps:List zf3):Prop where
 h:v.heap[b5]? =some (.cells #[nv,zaf a,zaf b,zaf c,zaf d,pv] es (0,0))
 own:Owns 2 (PlaceC w0) (b5+1) v ep pv ps
 e:Ext A0 v
 lo:A0.heap.size<=b5
theorem IP.app{w0 A0 v v1 v2 v3:World}{es ep:TypeId}{b5:Nat}{nv pv pv':Value}{a b c d:UInt8}{ps:List zf3}{p:zf3}(h:IP w0 es ep b5 nv a b c d A0 v pv ps)(hE:Ext v v1)
  (ho:Owns 2 (PlaceC w0) (b5+1) v2 ep pv' (ps++ [p])) (hk:Keep (fun b=>some b=pv.ownBlock) v1 v2) (h3:v3.heap[b5]? =some (.cells #[nv,zaf a,zaf b,zaf c,zaf d,pv'] es (0,0))) (hk3:Keep (fun b=>b=b5) v2 v3):IP w0 es ep b5 nv a b c d A0 v3 pv' (ps++ [p]):=by
 have lo:=h.lo;have e2:Ext A0 v2:=Keep.to_ext (h.e.trans hE) rfl (fun b hb=>by have:=(h.own.ge hb).1;omega) hk;exact⟨h3,ho.keep hk3 (fun b hb hb2=>by have:=(ho.ge hb).1;omega),Keep.to_ext e2 rfl (fun b hb=>by omega) hk3,lo⟩
theorem Of15_ok(w:World){cs:List Value}{c:zhe}(hc:ConfAt w cs c)(hf:FewC c):
  Fn Tryz.prog 68 #[.agg cs.toArray] w (fun v w'=>Ext w w'/\∃cs',v= .agg cs'.toArray/\ConfAt w' cs' c):=by
 obtain⟨sv,rv,rfl,hs,hr⟩:=hc.ex;obtain⟨aS,cS,rfl,hat⟩:=zi7 hs;have hr0:=hr;have r1:=hr.isOne;obtain⟨ar,cr,hrv,_,hgr⟩:=hr;have hsl:=hf.sl;refine enter Tryz.func68 Tryz.ntmps68 rfl rfl ?_;repeat refine c_r ?_
 rw[hrv];refine rg0 ?_;rw[←hrv];repeat refine c_r ?_
 rw[zai];refine zaF ?_;intro w1 hE1 hs1 hA hC;have p0:zad w1 (some ⟨w.heap.size,0,.none⟩)=some (.slice aS c.servers.length cS):=zab hA rfl;have p1:zad w1 (some ⟨w.heap.size,1,.none⟩)=some rv:=zab hA rfl;have p2:zad w1 (some ⟨w.heap.size,2,.none⟩)=some (vi c.rw):=zab hA rfl;have p3:zad w1 (some ⟨w.heap.size,3,.none⟩)=some (vi c.rf):=zab hA rfl;refine rqz ?_;intro gd K hgd hK;refine sgz (az4 p1 p2 p3 yn0) ?_;refine⟨by kernel_rfl,?_⟩;rw[hrv,show bdV Tryz.prog 137 [(1,.slice ar (c.roots.map vi).length cr),(2,vi c.rw),(3,vi c.rf)]=some (.agg #[.slice .none 0 0,.slice ar (c.roots.map vi).length cr,vi c.rw,vi c.rf]) from by kernel_rfl,←hrv];try simp only[go_sem]
 refine za3 (P:=Tryz.prog) (l:=[.slice .none 0 0,rv,vi c.rw,vi c.rf]) rfl (fun v hv=>by simp at hv;rcases hv with rfl|rfl|rfl|rfl<;>first|exact r1|rfl) rfl rfl ?_;intro w2 hE2 hs2 hD;try simp only[go_sem]
 apply hK;obtain⟨c3,hc3⟩:∃b,w1.heap.size=b:=⟨_,rfl⟩;rw[hc3]at hD hs2 ⊢;have hE12:=hE1.trans hE2;have p0w:=zaa hE2 p0;refine gz0 ?_;refine zao (fun m σ ds A=>ds=[]/\∃(i:Nat) (ov:Value) (G:List (SrvL×(Value×List Value))),i+m=c.servers.length/\σ 4=vi i/\σ 1= .pointer (some ⟨w.heap.size,0,.none⟩)/\σ 2= .pointer (some ⟨w.heap.size+1,0,.none⟩)/\σ 3= .pointer (some ⟨c3,0,.none⟩)/\Ext w1 A/\c3+1<=A.heap.size/\
  A.heap[c3]? =some (.cells #[ov,rv,vi c.rw,vi c.rf] 137 (0,0))/\GS w 217 (c3+1) A ov G/\G.map Prod.fst=c.servers.take i) c.servers.length ?_ ?_
 ·exact⟨rfl,0,.slice .none 0 0,[],by omega,vr0,vq0,vq0,vq0,hE2,by omega,hD,⟨Owns.nil _ _ _ _ _,fun x h=>by cases h⟩,rfl⟩
 rintro m σ ds A ⟨rfl,i,ov,G,him,s4,s1,s2,s3,hEA,hAs,hB3,hGS,hGf⟩;have p0A:=zaa hEA p0;refine gz (az4 s4 s1 p0A Nat.add_zero) ?_;refine wc0 ?_ ?_
 ·intro hlt;simp only[ydT]at hlt;have hi:i<c.servers.length:=by omega
  have hi0:=cj i;have hi1':=ci i;obtain⟨xa,xi,x5,nv,ap,cp,rfl,hxi,hx5,g0,hn,g5,⟨b1,b2,b3,b4,hadr,hcs⟩,hpr,hpl⟩:=hat i hi;obtain⟨s,hse⟩:∃s,c.servers[i]=s:=⟨_,rfl⟩;obtain⟨fs1,fs2,fs3⟩:=hf.s s (hse▸List.getElem_mem hi);rw[hse]at hn g5 hadr hcs hpr;simp only[hse]at hpl;have n1:=hn.isOne;have hz0:adr (some xi) 0=some xi:=zaj _;obtain⟨y1,hy1⟩:∃y,adr (some xi) 1=some y:=⟨_,rfl⟩;have gby:zan w (some y1) 4=some [zaf b1,zaf b2,zaf b3,zaf b4]:=by
   have h5:=za9 (m:=1) (k:=5) hcs;rw[hy1]at h5;exact zcQ (m:=4) (k:=1) h5
  obtain⟨an,cn,hnv,_⟩:=id hn;repeat refine c_r ?_
  refine zaJ (fun i=>i==14) [(0,true),(1,true),(2,true),(3,true),(4,true),(5,true),(6,true),(7,true),(8,true),(9,true),(10,true),(11,true),(12,true),(13,false),(14,false)] NoS mixed (by kernel_rfl) ?_;intro gd K x hgd hx hxe hK;clear hxe;have hwx:=hE1.trans (hEA.trans hx);have p0x:=zaa hx p0A;have g0x:=zaa hwx g0;have gbx:=zac hwx gby;refine sgz (az2 (az7 s4 s1 p0x Nat.add_zero hi0 hlt hxi) (az4 hz0 hy1 g0x gbx)) ?_;refine⟨by kernel_rfl,?_⟩;rw[hnv,show bdV Tryz.prog 217 [(0,.slice an (s.host.map vs).length cn),(1,.agg #[zaf b1,zaf b2,zaf b3,zaf b4])]=some (.agg #[.slice an (s.host.map vs).length cn,zaf b1,zaf b2,zaf b3,zaf b4,.slice .none 0 0]) from by kernel_rfl,←hnv];refine sg0 ?_;refine⟨.inr (Ext.alloc x _),?_⟩;refine za3 (P:=Tryz.prog) (l:=[nv,zaf b1,zaf b2,zaf b3,zaf b4,.slice .none 0 0]) rfl (fun v hv=>by simp at hv;rcases hv with rfl|rfl|rfl|rfl|rfl|rfl<;>first|exact n1|rfl) rfl rfl ?_;intro A1 hE3 hs3 hB5;refine⟨.inl rfl,?_⟩;refine sg0 ?_;apply hK;have hx3:=hx.trans hE3;obtain⟨b5,hb5⟩:∃b,x.heap.size=b:=⟨_,rfl⟩;have hsx:=hx.size;rw[hb5]at hB5 hs3 hsx ⊢;have hIP:IP w 217 219 b5 nv b1 b2 b3 b4 A A1 (.slice .none 0 0) []:=⟨hB5,Owns.nil _ _ _ _ _,hx3,hsx⟩;clear p0x g0x gbx hx hx3 hwx hE3 hB5;refine gz0 ?_
  refine zao (fun m σ ds v=>ds=[]/\∃(k:Nat) (pv:Value),k+m=s.places.length/\σ 6=vi k/\σ 4=vi i/\σ 1= .pointer (some ⟨w.heap.size,0,.none⟩)/\σ 2= .pointer (some ⟨w.heap.size+1,0,.none⟩)/\σ 3= .pointer (some ⟨c3,0,.none⟩)/\σ 5= .pointer (some ⟨b5,0,.none⟩)/\
   IP w 217 219 b5 nv b1 b2 b3 b4 A v pv (s.places.take k)/\b5+1<=v.heap.size) s.places.length ?_ ?_
  ·exact⟨rfl,0,_,by omega,vr0,vq1 s4,vq1 s1,vq1 s2,vq1 s3,vq0,hIP,by omega⟩
  clear s4 s1 s2 s3 hIP;rintro m2 σ2 ds2 v ⟨rfl,k,pv,hkm,s6,s4,s1,s2,s3,s5,hIP,hvs⟩;have hEv:=hEA.trans hIP.e;have hwv:=hE1.trans hEv;have p0v:=zaa hEv p0;have g5v:=zaa hwv g5;refine gz (az2 (az7 s6 s4 s1 (an3 p0v Nat.add_zero g5v) hi0 hlt hxi) (az2 hx5 trivial)) ?_;refine wc0 ?_ ?_
  ·intro hlt2;simp only[ydT]at hlt2;have hk:k<s.places.length:=by omega
   have hk0:=cj k;have hk1':=ci k;obtain⟨xp,xk,xk1,ow,rfl,hxk,hxk1,f0,ho,f1⟩:=hpl k hk;have hz1:adr (some xk) 0=some xk:=zaj _;obtain⟨ao,co,how,_⟩:=id ho;have q5:zad v (some ⟨b5,5,.none⟩)=some pv:=zab hIP.h rfl;have lo:=hIP.lo;repeat refine c_r ?_
   refine zaJ (fun i=>i==26) [(0,true),(1,true),(2,true),(3,true),(4,true),(5,true),(6,true),(7,true),(8,true),(9,true),(10,true),(11,true),(12,true),(13,true),(14,true),(15,true),(16,true),(17,true),(18,true),(19,true),(20,true),(21,true),(22,true),(23,false),(24,false),(25,true),(26,false)] (zbE (b5+1)) mixed (by kernel_rfl) ?_;intro gd K x hgd hx hxe hK;have hx0:=zez hxe;clear hxe;have hwx:=hwv.trans hx0;have p0x:=zaa hx0 p0v;have g5x:=zaa hwx g5;have f0x:=zaa hwx f0;have f1x:=zaa hwx f1;have q5x:=zaa hx0 q5;refine sgz (az2 (az7 s6 s4 s1 s5 p0x Nat.add_zero yn0) (az2 (az7 hi0 hlt hk0 hlt2 hxi hx5 hxk) (az6 hz1 hxk1 g5x f0x f1x q5x))) ?_;have l5:x5.block<b5+1:=by have:=zcB (show w.cell? x5=some _ from g5);have:=hwv.size;have:=hE1.size;have:=hEA.size;omega
   have lk:xk.block<b5+1:=by have:=zcB (show w.cell? xk=some _ from f0);have:=hE1.size;have:=hEA.size;omega
   have lk1:xk1.block<b5+1:=by have:=zcB (show w.cell? xk1=some _ from f1);have:=hE1.size;have:=hEA.size;omega
   have lw:w.heap.size<b5+1:=by have:=hE1.size;have:=hEA.size;omega
   refine⟨zcw (by omega),zcw lw,zde l5,zde lk,zcw lw,zde l5,zde lk1,by kernel_rfl,?_⟩;rw[how,show bdV Tryz.prog 219 [(0,.slice ao (s.places[k].o.map vs).length co),(1,vs s.places[k].path)]=some (.agg #[.slice ao (s.places[k].o.map vs).length co,vs s.places[k].path]) from by kernel_rfl,←how];refine sg0 ?_;refine zaR (zcW w) (l:=[ow,vs s.places[k].path]) (a:=s.places[k]) (by rfl) (by rfl) (by rfl) (by rfl) ⟨ow,rfl,ho⟩ (by decide) ?_;intro v1 hE4 hs4' ho4;refine⟨.inr hE4.keep,?_⟩;refine sg0 ?_;have hx04:=hx0.trans hE4;have hsz4:=hx04.size;refine zaG (zcW w) (hIP.own.ext hx04) ho4.rows (by rfl) (by rfl) (by rfl) (by rfl) (by rfl) (by rfl) (by decide) vr0 vr0 (by simp;omega) (by decide) (by omega) ?_;intro pv' v2 ho5 hE5 hk5 hb5';refine⟨.inr (hk5.mono fun b _ hb=>(hIP.own.ge hb).1),?_⟩;obtain⟨ap',cp',hpv',_⟩:=ho5.rows.open;refine sgz (az2 s5 yn0) ?_;refine zaU (P:=Tryz.prog) (t:=215) (j:=5) (u:=pv') (l:=[nv,zaf b1,zaf b2,zaf b3,zaf b4,pv]) ((hk5.block _ (by omega) (fun hb=>by have:=(hIP.own.ge hb).1;omega)).trans (Ext.at hx04 hIP.h)) (by simp) (by rw[hpv'];rfl) rfl rfl ?_;intro v3 hs3' hB3' hk3';refine⟨.inl rfl,?_⟩;refine sg0 ?_;apply hK;have hIPn:=hIP.app hx04 ho5 hk5 hB3' hk3';have hs5:=hk5.size;refine gz (az2 s6 hk1') ?_;refine⟨m2 - 1,by omega,rfl,k+1,pv',by omega,vq0,vq1 s4,vq1 s1,vq1 s2,vq1 s3,vq1 s5,?_,by omega⟩;rw[zal hk];exact hIPn
  ·intro hge2;simp only[ydF]at hge2;have hfull:s.places.take k=s.places:=List.take_of_length_le (by omega);rw[hfull]at hIP;obtain⟨ap',cp',hpv',_⟩:=hIP.own.rows.open;have lo:=hIP.lo;have dB:zan v (some ⟨b5,0,.none⟩) 6=some [nv,zaf b1,zaf b2,zaf b3,zaf b4,pv]:=zae hIP.h rfl;have q3:zad v (some ⟨c3,0,.none⟩)=some ov:=zab (Ext.at hIP.e hB3) rfl;have ones6:∀q∈ [nv,zaf b1,zaf b2,zaf b3,zaf b4,pv],one q=true:=fun q hq=>by
    simp at hq;rcases hq with rfl|rfl|rfl|rfl|rfl|rfl<;>first|exact n1|rfl| (rw[hpv'];rfl)
   have hGl:G.length=i:=by
    have:=congrArg List.length hGf;simp at this;omega
   refine rqz ?_;intro gd K hgd hK;refine sgz (az5 s3 s5 q3 dB Nat.add_zero) ?_;refine zaR (C:=gxC) ze4 (l:=[nv,zaf b1,zaf b2,zaf b3,zaf b4,pv]) (a:=(s,(pv,[nv,zaf b1,zaf b2,zaf b3,zaf b4,pv]))) (by rfl) (by rfl) (by rfl) (by rfl) ⟨rfl,rfl,ones6⟩ (by decide) ?_;intro v1 hE4 hs4' ho4;try simp only[go_sem]
   have hAv1:=hIP.e.trans hE4;have hsA1:=hAv1.size;refine zaG ze4 ((hGS.ext hAv1).own) ho4.rows (by rfl) (by rfl) (by rfl) (by rfl) (by rfl) (by rfl) (by decide) vr0 vr0 (by simp;omega) (by decide) (by omega) ?_;intro ov' v2 ho5 hE5 hk5 hb5';obtain⟨ao',co',hov',_⟩:=ho5.rows.open;refine sgz (az2 s3 Nat.add_zero) ?_;refine zaU (P:=Tryz.prog) (t:=135) (j:=0) (u:=ov') (l:=[ov,rv,vi c.rw,vi c.rf]) ((hk5.block _ (by omega) (fun hb=>by have:=(hGS.own.ge hb).1;omega)).trans (Ext.at hAv1 hB3)) (by simp) (by rw[hov'];rfl) rfl rfl ?_;intro v3 hs3' hB3' hk3';try simp only[go_sem]
   apply hK;have hGS2:=hGS.app hAv1 hAs (x:=(s,(pv,[nv,zaf b1,zaf b2,zaf b3,zaf b4,pv]))) ⟨nv,b1,b2,b3,b4,rfl,hadr,hn,hIP.own.rows.ext hE4⟩ ((hIP.own.blk.mono (by omega)).ext hE4.size) ho5 hk5 hb5';have hGS3:=hGS2.keep hk3' (fun b h1 _ h2=>by omega);have hs5:=hk5.size;refine gz (az2 s4 hi1') ?_;refine⟨m - 1,by omega,rfl,i+1,ov',_,by omega,vq0,vq1 s1,vq1 s2,vq1 s3,Keep.to_ext (hE5 w1 (hEA.trans hAv1) (by omega)) rfl (fun b hb=>by omega) hk3',by omega,hB3',hGS3,?_⟩;rw[zal hi,List.map_append,hGf,hse];rfl
 ·intro hge;simp only[ydF]at hge;rw[List.take_of_length_le (by omega)]at hGf;have hEw:=hE1.trans hEA;have hrows:=hGS.rows hEw;rw[hGf]at hrows;have o1:=hrows.isOne;have dx:=zae (n:=4) (l:=[ov,rv,vi c.rw,vi c.rf]) hB3 rfl;refine rqz ?_;intro gd K hgd hK;refine sgz (az3 s3 s2 dx) ?_;refine zaD (P:=Tryz.prog) (t:=137) (l:=[ov,rv,vi c.rw,vi c.rf]) (Ext.at hEA hC) rfl (fun v hv=>by simp at hv;rcases hv with rfl|rfl|rfl|rfl<;>first|exact r1|exact o1|rfl) rfl rfl ?_;intro z hsz hBz hkz;try simp only[go_sem]
  refine en hK ?_;refine zat (.inr rfl) Tryz.ntmps68 rfl (zaI (x:=⟨w.heap.size+1,0,.none⟩) (k:=4) ((vq1 s2)) rfl rfl (zae hBz rfl) zap) ?_;have hEz:Ext w z:=Keep.to_ext hEw rfl (fun b hb=>by omega) hkz;have hGz:=(hGS.keep hkz (fun b h1 _ h2=>by omega)).rows hEz;rw[hGf]at hGz;exact⟨hEz,_,rfl,ov,rv,rfl,hGz,hr0.ext hEz⟩
section
variable {P : Program} {d : Option Tmp} {ty : TypeId} {ps : String} {af : Array Edge} {g : Option (Nat × Bool)} {ρ : Operand -> Value} {w : World} {K : Value -> World -> Prop}
theorem op_field{s:TypeId}{x:Operand}{f:Nat}{fs:Array Field}{fd:Field}{cs:Array Value}{v:Value}(hs:P.underlying s=some (.struct fs))(hf:fs[f]? =some fd)(ha:tyA P fd.type=false)(hu:(P.underlying fd.type).isSome=true)
  (hx:ρ x= .agg cs) (hv:cs[fd.offset]? =some v) (h:K v w):opV P ⟨d,.field s x f,ty,ps,af,g⟩ ρ w K:=by
 show opW P _ ρ w K;refine zaO (s:=Instr.field s (ρ x) f) (w':=w) (v:=v) ?_ h;obtain⟨u,hu⟩:=yxs hu;have hi:(isAgg fd.type).run P w= .ok false w:=by
  unfold tyA at ha;rw[hu]at ha;cases u<;>first| (cases ha;done)|simp[isAgg,underlying,program,Sem.run,hu]
 have hp:(part fd.type cs fd.offset).run P w= .ok v w:=by
  unfold part;simp only[Sem.run_bind,hi,Result.andThen_ok,Bool.false_eq_true,if_false,hv,Sem.run_pure]
 unfold Instr.field;simp[underlying,program,Sem.run,hs,hf,hx,asAgg];exact hp
end
theorem zlI{w:World}{hv:Value}{l:List zem}(hs:Rows 6 (HostC w) w hv l):∃a c,hv= .slice a l.length c/\∀i (h:i<l.length),∃xa xi x5 nv az cz,a=some xa/\adr (some xa) (i*6)=some xi/\adr (some xi) 5=some x5/\zad w (some xi)=some nv/\Row w nv (l[i].name.map vs)/\
  zad w (some x5)=some (.slice az l[i].zones.length cz)/\(∃b1 b2 b3 b4,l[i].addr=[b1,b2,b3,b4]/\zan w (some xi) 6=some [nv,zaf b1,zaf b2,zaf b3,zaf b4,.slice az l[i].zones.length cz])/\
  ∀k (h:k<l[i].zones.length),∃xz xk ov lv,az=some xz/\adr (some xz) (k*2)=some xk/\zan w (some xk) 2=some [ov,lv]/\Row w ov (l[i].zones[k].o.map vs)/\Rows 7 (RecAt w) w lv l[i].zones[k].recs:=by
 obtain⟨a,c,rfl,_,hg⟩:=hs.open;refine⟨a,c,rfl,fun i hi=>?_⟩;obtain⟨cs,hcs,hS⟩:=hg i hi;obtain⟨nv,b1,b2,b3,b4,pv,rfl,ha,hn,hp⟩:=hS.ex;obtain⟨ap,cp,rfl,_,hgp⟩:=hp.open;obtain⟨xa,rfl⟩:=yxs (zak hcs);obtain⟨xi,hxi⟩:∃xi,adr (some xa) (i*6)=some xi:=⟨_,rfl⟩;obtain⟨x5,hx5⟩:∃x,adr (some xi) 5=some x:=⟨_,rfl⟩;rw[hxi]at hcs;have h0:=zah (j:=0) hcs rfl;rw[zaj]at h0;have h5:=zah (j:=5) hcs rfl;rw[hx5]at h5;refine⟨xa,xi,x5,nv,ap,cp,rfl,hxi,hx5,h0,hn,h5,⟨b1,b2,b3,b4,ha,hcs⟩,fun k hk=>?_⟩;obtain⟨c2,hc2,hP⟩:=hgp k hk;obtain⟨ov,lv,rfl,ho,hl⟩:=hP.ex;obtain⟨xp,rfl⟩:=yxs (zak hc2);obtain⟨xk,hxk⟩:∃xi,adr (some xp) (k*2)=some xi:=⟨_,rfl⟩;rw[hxk]at hc2;exact⟨xp,xk,ov,lv,rfl,hxk,hc2,ho,hl⟩
def zhv(z:zcp):zf3:=⟨z.o,[120]⟩
def srvH(h:zem):SrvL:=⟨h.name,h.addr,h.zones.map zhv⟩
def confN(N:NetL):zhe:=⟨N.hosts.map srvH,N.roots,N.rw,N.rf⟩
def NumN(N:NetL):Prop:=∀h∈N.hosts,∀z∈h.zones,NumR z.recs
structure zby(N:NetL):Prop where
 z:NetZ N
 h1:1<=N.hosts.length/\N.hosts.length<=6
 r1:1<=N.roots.length/\N.roots.length<=4
 rin:∀r∈N.roots,0<=r/\r<(N.hosts.length:Int)
 w:0<=N.rw/\N.rw<=4
 f:0<=N.rf/\N.rf<=6
 zl:∀h∈N.hosts,h.zones.length<=4
 sh:∀h∈N.hosts,Sh h.name
theorem RecAt.up{w x:World}{v:Value}{R:List RecL}(h:Rows 7 (RecAt w) x v R)(hE:Ext w x):Rows 7 (RecAt x) x v R:=h.to fun _ _ h=>h.ext hE
theorem zmD(w:World){cs:List Value}{N:NetL}(hN:NetAt w cs N)(hv:NumN N):
  Fn Tryz.prog 16 #[.agg cs.toArray] w (fun v w'=>Ext w w'/\∃t,v= .bool t/\(t=true->zby N)):=by
 obtain⟨hsv,rv,rfl,hs,hr⟩:=hN.ex;obtain⟨aS,cS,rfl,hat⟩:=zlI hs;have hr0:=hr;have r1:=hr.isOne;obtain⟨ar,cr,hrv,_,hgr⟩:=hr;rw[ylm]at hrv;refine enter Tryz.func16 Tryz.ntmps16 rfl rfl ?_;repeat refine c_r ?_
 rw[hrv];refine rg0 ?_;rw[←hrv];repeat refine c_r ?_
 refine zax ?_;intro w1 hE1 hs1 hA;have p0:zad w1 (some ⟨w.heap.size,0,.none⟩)=some (.slice aS N.hosts.length cS):=zab hA rfl;have p1:zad w1 (some ⟨w.heap.size,1,.none⟩)=some rv:=zab hA rfl;have p2:zad w1 (some ⟨w.heap.size,2,.none⟩)=some (vi N.rw):=zab hA rfl;have p3:zad w1 (some ⟨w.heap.size,3,.none⟩)=some (vi N.rf):=zab hA rfl;rw[hrv]at p1;repeat refine c_r ?_
 refine zaw (Q:=fun e σ' ds' v'=>e= .normal/\ds'=[]/\v'=w1/\σ' 1= .pointer (some ⟨w.heap.size,0,.none⟩)/\∃t,σ' 51= .bool t/\(t=false->(1<=N.hosts.length/\N.hosts.length<=6)/\(1<=N.roots.length/\N.roots.length<=4)/\(0<=N.rw/\N.rw<=4)/\0<=N.rf/\N.rf<=6)) ?_ ?_
 ·by_cases e0:(N.hosts.length:Int)<1
  ·refine rgg [(4,14),(10,20),(16,26),(22,32),(27,37),(32,42),(37,47)] (an3 p0 Nat.add_zero (yet e0)) ?_;exact⟨rfl,rfl,rfl,vq0,_,vr0,fun h=>by cases h⟩
  by_cases e1:(N.hosts.length:Int)>6
  ·refine rgg [(4,14),(10,20),(16,26),(22,32),(27,37),(32,42),(37,47)] (an4 p0 Nat.add_zero (yef e0) (yet e1)) ?_;exact⟨rfl,rfl,rfl,vq0,_,vr0,fun h=>by cases h⟩
  by_cases e2:(N.roots.length:Int)<1
  ·refine rgg [(4,14),(10,20),(16,26),(22,32),(27,37),(32,42),(37,47)] (an7 p0 Nat.add_zero (yef e0) (yef e1) p1 yn0 (yet e2)) ?_;exact⟨rfl,rfl,rfl,vq0,_,vr0,fun h=>by cases h⟩
  by_cases e3:(N.roots.length:Int)>4
  ·refine rgg [(4,14),(10,20),(16,26),(22,32),(27,37),(32,42),(37,47)] (an8 p0 Nat.add_zero (yef e0) (yef e1) p1 yn0 (yef e2) (yet e3)) ?_;exact⟨rfl,rfl,rfl,vq0,_,vr0,fun h=>by cases h⟩
  by_cases e4:N.rw<0
  ·refine rgg [(4,14),(10,20),(16,26),(22,32),(27,37),(32,42),(37,47)] (an3 (an8 p0 Nat.add_zero (yef e0) (yef e1) p1 yn0 (yef e2) (yef e3)) p2 (yet e4)) ?_;exact⟨rfl,rfl,rfl,vq0,_,vr0,fun h=>by cases h⟩
  by_cases e5:N.rw>4
  ·refine rgg [(4,14),(10,20),(16,26),(22,32),(27,37),(32,42),(37,47)] (an4 (an8 p0 Nat.add_zero (yef e0) (yef e1) p1 yn0 (yef e2) (yef e3)) p2 (yef e4) (yet e5)) ?_;exact⟨rfl,rfl,rfl,vq0,_,vr0,fun h=>by cases h⟩
  by_cases e6:N.rf<0
  ·refine rgg [(4,14),(10,20),(16,26),(22,32),(27,37),(32,42),(37,47)] (an6 (an8 p0 Nat.add_zero (yef e0) (yef e1) p1 yn0 (yef e2) (yef e3)) p2 (yef e4) (yef e5) p3 (yet e6)) ?_;exact⟨rfl,rfl,rfl,vq0,_,vr0,fun h=>by cases h⟩
  refine rgg [(4,14),(10,20),(16,26),(22,32),(27,37),(32,42),(37,47)] (an6 (an8 p0 Nat.add_zero (yef e0) (yef e1) p1 yn0 (yef e2) (yef e3)) p2 (yef e4) (yef e5) p3 (yef e6)) ?_;refine⟨rfl,rfl,rfl,vq0,_,vr0,fun h=>?_⟩;simp only[ydF]at h;omega
 rintro _ σ1 _ w2 ⟨rfl,rfl,rfl,s1,t,s51,ht⟩;repeat refine c_r ?_
 cases t with
 |true=>
  refine wt s51 ?_;refine gz0 ?_;refine rt0 Tryz.ntmps16 ?_;exact⟨hE1,_,rfl,fun h=>by cases h⟩
 |false=>
 refine wf s51 ?_;obtain⟨k1,k2,k3,k4⟩:=ht rfl;clear ht s51;refine rqz ?_;intro gd K hgd hK;refine sgz (az5 s1 p1 p2 p3 yn0) ?_;refine⟨by kernel_rfl,?_⟩;rw[show bdV Tryz.prog 112 [(1,.slice ar N.roots.length cr),(2,vi N.rw),(3,vi N.rf)]=some (.agg #[.slice .none 0 0,.slice ar N.roots.length cr,vi N.rw,vi N.rf]) from by kernel_rfl,←hrv];try simp only[go_sem]
 refine za3 (P:=Tryz.prog) (l:=[.slice .none 0 0,rv,vi N.rw,vi N.rf]) rfl (fun v hv=>by simp at hv;rcases hv with rfl|rfl|rfl|rfl<;>first|exact r1|rfl) rfl rfl ?_;intro w3 hE2 hs2 hD;try simp only[go_sem]
 apply hK;obtain⟨c3,hc3⟩:∃b,w2.heap.size=b:=⟨_,rfl⟩;rw[hc3]at hD hs2 ⊢;refine gz0 ?_;refine zao (fun m σ ds A=>ds=[]/\∃(i:Nat) (ov:Value) (G:List (SrvL×(Value×List Value))),i+m=N.hosts.length/\σ 4=vi i/\σ 1= .pointer (some ⟨w.heap.size,0,.none⟩)/\σ 3= .pointer (some ⟨c3,0,.none⟩)/\Ext w2 A/\c3+1<=A.heap.size/\
  A.heap[c3]? =some (.cells #[ov,rv,vi N.rw,vi N.rf] 112 (0,0))/\GS w 119 (c3+1) A ov G/\G.map Prod.fst=(N.hosts.take i).map srvH/\∀j (h:j<N.hosts.length),j<i->N.hosts[j].zones.length<=4/\∀z∈N.hosts[j].zones,GoodZ z) N.hosts.length ?_ ?_
 ·exact⟨rfl,0,.slice .none 0 0,[],by omega,vr0,vq1 s1,vq0,hE2,by omega,hD,⟨Owns.nil _ _ _ _ _,fun x h=>by cases h⟩,rfl,fun j h h2=>absurd h2 (by omega)⟩
 clear s1;rintro m σ ds A ⟨rfl,i,ov,G,him,s4,s1,s3,hEA,hAs,hB3,hGS,hGf,hgood⟩;have p0A:=zaa hEA p0;refine gz (az4 s4 s1 p0A Nat.add_zero) ?_;refine wc0 ?_ ?_
 ·intro hlt;simp only[ydT]at hlt;have hi:i<N.hosts.length:=by omega
  have hi0:=cj i;have hi1':=ci i;obtain⟨xa,xi,x5,nv,az,cz,rfl,hxi,hx5,g0,hn,g5,⟨b1,b2,b3,b4,hadr,hcs⟩,hpl⟩:=hat i hi;have hvi:=hv _ (List.getElem_mem hi);obtain⟨s,hse⟩:∃s,N.hosts[i]=s:=⟨_,rfl⟩;rw[hse]at hn g5 hadr hcs hvi;simp only[hse]at hpl;have n1:=hn.isOne;have hz0:adr (some xi) 0=some xi:=zaj _;obtain⟨y1,hy1⟩:∃y,adr (some xi) 1=some y:=⟨_,rfl⟩;have gby:zan w (some y1) 4=some [zaf b1,zaf b2,zaf b3,zaf b4]:=by
   have h5:=za9 (m:=1) (k:=5) hcs;rw[hy1]at h5;exact zcQ (m:=4) (k:=1) h5
  obtain⟨an,cn,hnv,_⟩:=id hn;repeat refine c_r ?_
  refine zaJ (fun i=>i==14) [(0,true),(1,true),(2,true),(3,true),(4,true),(5,true),(6,true),(7,true),(8,true),(9,true),(10,true),(11,true),(12,true),(13,false),(14,false)] NoS mixed (by kernel_rfl) ?_;intro gd K x hgd hx hxe hK;clear hxe;have hwx:=hE1.trans (hEA.trans hx);have p0x:=zaa hx p0A;have g0x:=zaa hwx g0;have gbx:=zac hwx gby;refine sgz (az2 (az7 s4 s1 p0x Nat.add_zero hi0 hlt hxi) (az4 hz0 hy1 g0x gbx)) ?_;refine⟨by kernel_rfl,?_⟩;rw[hnv,show bdV Tryz.prog 119 [(0,.slice an (s.name.map vs).length cn),(1,.agg #[zaf b1,zaf b2,zaf b3,zaf b4])]=some (.agg #[.slice an (s.name.map vs).length cn,zaf b1,zaf b2,zaf b3,zaf b4,.slice .none 0 0]) from by kernel_rfl,←hnv];refine sg0 ?_;refine⟨.inr (Ext.alloc x _),?_⟩;refine za3 (P:=Tryz.prog) (l:=[nv,zaf b1,zaf b2,zaf b3,zaf b4,.slice .none 0 0]) rfl (fun v hv=>by simp at hv;rcases hv with rfl|rfl|rfl|rfl|rfl|rfl<;>first|exact n1|rfl) rfl rfl ?_;intro A1 hE3 hs3 hB5;refine⟨.inl rfl,?_⟩;refine sg0 ?_;apply hK;have hx3:=hx.trans hE3;obtain⟨b5,hb5⟩:∃b,x.heap.size=b:=⟨_,rfl⟩;have hsx:=hx.size;rw[hb5]at hB5 hs3 hsx ⊢;have hIP:IP w 119 131 b5 nv b1 b2 b3 b4 A A1 (.slice .none 0 0) []:=⟨hB5,Owns.nil _ _ _ _ _,hx3,hsx⟩;have p01:=zaa hx3 p0A;have g51:=zaa (hE1.trans (hEA.trans hx3)) g5;clear p0x g0x gbx hx hwx hE3 hB5;repeat refine c_r ?_
  by_cases h4:(s.zones.length:Int)>4
  ·refine rg9 s4 s1 p01 Nat.add_zero hi0 hlt hxi hx5 (an2 g51 (yet h4)) ?_;repeat refine c_r ?_
   refine wt trivial ?_;refine gz0 ?_;refine rt0 Tryz.ntmps16 ?_;exact⟨hE1.trans (hEA.trans hx3),_,rfl,fun h=>by cases h⟩
  refine gz (az2 (az7 s4 s1 p01 Nat.add_zero hi0 hlt hxi) (az2 hx5 (an2 g51 (yef h4)))) ?_;refine wf trivial ?_;clear p01 g51 hx3;refine gz0 ?_;refine zao (fun m σ ds v=>ds=[]/\∃(k:Nat) (pv:Value),k+m=s.zones.length/\σ 6=vi k/\σ 4=vi i/\σ 1= .pointer (some ⟨w.heap.size,0,.none⟩)/\σ 3= .pointer (some ⟨c3,0,.none⟩)/\σ 5= .pointer (some ⟨b5,0,.none⟩)/\
   IP w 119 131 b5 nv b1 b2 b3 b4 A v pv ((s.zones.take k).map zhv)/\b5+1<=v.heap.size/\∀j (h:j<s.zones.length),j<k->GoodZ s.zones[j]) s.zones.length ?_ ?_
  ·exact⟨rfl,0,_,by omega,vr0,vq1 s4,vq1 s1,vq1 s3,vq0,hIP,by omega,fun j h h2=>absurd h2 (by omega)⟩
  clear s4 s1 s3 hIP;rintro m2 σ2 ds2 v ⟨rfl,k,pv,hkm,s6,s4,s1,s3,s5,hIP,hvs,hgz⟩;have hEv:=hEA.trans hIP.e;have hwv:=hE1.trans hEv;have p0v:=zaa hEv p0;have g5v:=zaa hwv g5;refine gz (az2 (az7 s6 s4 s1 (an3 p0v Nat.add_zero g5v) hi0 hlt hxi) (az2 hx5 trivial)) ?_;refine wc0 ?_ ?_
  ·intro hlt2;simp only[ydT]at hlt2;have hk:k<s.zones.length:=by omega
   have hk0:=cj k;have hk1':=ci k;obtain⟨xp,xk,ow,lv,rfl,hxk,dz,ho,hl⟩:=hpl k hk;obtain⟨z,hze⟩:∃z,s.zones[k]=z:=⟨_,rfl⟩;have hnz:=hvi _ (List.getElem_mem hk);rw[hze]at ho hl hnz;have o1:=ho.isOne;have l1:=hl.isOne;have dzv:=zac hwv dz;refine rqz ?_;intro gd K hgd hK;refine sgz (az2 (az7 s6 s4 s1 p0v Nat.add_zero g5v hi0) (az7 hlt hxi hx5 hk0 hlt2 hxk dzv)) ?_;refine za3 (P:=Tryz.prog) (l:=[ow,lv]) rfl (zdO o1 l1) rfl rfl ?_;intro v1 hE4 hs4' hB7;try simp only[go_sem]
   apply hK;obtain⟨b7,hb7⟩:∃b,v.heap.size=b:=⟨_,rfl⟩;rw[hb7]at hB7 hs4' ⊢;have hwv1:=hwv.trans hE4;have e0:zad v1 (some ⟨b7,0,.none⟩)=some ow:=zab hB7 rfl;have e1:zad v1 (some ⟨b7,1,.none⟩)=some lv:=zab hB7 rfl;obtain⟨al,cl,hlv,_⟩:=hl.open;repeat refine c_r ?_
   refine zaw (Q:=fun e σ' ds' v'=>e= .normal/\ds'=[]/\σ' 6=vi k/\σ' 4=vi i/\σ' 1= .pointer (some ⟨w.heap.size,0,.none⟩)/\σ' 3= .pointer (some ⟨c3,0,.none⟩)/\σ' 5= .pointer (some ⟨b5,0,.none⟩)/\σ' 7= .pointer (some ⟨b7,0,.none⟩)/\Ext v1 v'/\∃t,σ' 132= .bool t/\(t=false->GoodZ z)) ?_ ?_
   ·refine zaJ (fun _=>false) [(0,true),(1,true),(2,true),(3,true),(4,false),(5,true),(6,true),(7,true),(8,true),(9,true),(10,true),(11,true),(12,true),(13,true),(14,true),(16,true),(17,true),(18,true),(19,true),(15,false),(20,false),(21,false),(22,false),(23,false),(24,true),(25,true)] NoS mixed (by kernel_rfl) ?_;intro gd K x hgd hx hxe hK;clear hxe;have hg6:=gk 6 113 hgd rfl;have hg12:=gk 12 119 hgd rfl;have e0x:=zaa hx e0;have e1x:=zaa hx e1;have hwx:=hwv1.trans hx;refine sgz (az4 e0x e1x Nat.add_zero yn0) ?_;refine Fn.mono (ZGood_ok hwx (ho.ext hwx) (hl.ext hwx)) ?_;rintro _ y1 ⟨hy1,b,rfl,hb⟩;refine⟨.inr hy1,?_⟩;cases b with
    |false=>
     simp (disch:=first|omega|assumption|rfl) only[go_sem,Bool.not_false,zaT,↓hg6,↓hg12];apply hK;exact⟨rfl,rfl,vq1 s6,vq1 s4,vq1 s1,vq1 s3,vq1 s5,vq0,hx.trans hy1,_,vr0,fun h=>by cases h⟩
    |true=>
    obtain⟨go,gR⟩:=hb rfl;have hrok:=zgX gR hnz;have hRl:=gR.len;have e1y:=zaa hy1 e1x;rw[hlv]at e1y;by_cases h20:(z.recs.length:Int)>20
    ·simp (disch:=first|omega|assumption|rfl) only[go_sem,Bool.not_true,zaT,e1y,yn0,yet h20,↓hg6,↓hg12];apply hK;exact⟨rfl,rfl,vq1 s6,vq1 s4,vq1 s1,vq1 s3,vq1 s5,vq0,hx.trans hy1,_,vr0,fun h=>by cases h⟩
    have e0y1:=zaa hy1 e0x;simp (disch:=first|omega|assumption|rfl) only[go_sem,Bool.not_true,zaT,e1y,e0y1,yn0,Nat.add_zero,yef h20,↓hg6,↓hg12];rw[←hlv];have hwy1:=hwx.trans hy1;refine Fn.mono (zjM hwy1 (hl.ext hwy1) (fun r hr=>(gR.few r hr).2.nn) (by omega)) ?_;rintro l1v y2 ⟨hy2,hl2⟩;refine⟨.inr hy2,?_⟩;have hwy2:=hwy1.trans hy2;have e0y:=zaa (hy1.trans hy2) e0x;have e1y2:=zaa (hy1.trans hy2) e1x;simp (disch:=first|omega|assumption|rfl) only[go_sem,e0y,e1y2,Nat.add_zero,yn0,zaT,↓hg6,↓hg12];refine Fn.mono (zjM hwy2 (hl.ext hwy2) (fun r hr=>(gR.few r hr).2.nn) (by omega)) ?_;rintro l2v y3 ⟨hy3,hl3⟩;refine⟨.inr hy3,?_⟩;have hwy3:=hwy2.trans hy3;simp (disch:=first|omega|assumption|rfl) only[go_sem,zaT,↓hg6,↓hg12];refine Fn.mono (RZNew_ok (Keep.refl _ y3) (ho.ext hwy3) hl3 hrok (by omega)) ?_;rintro _ y4 ⟨hy4,cv,rfl,hcv⟩;refine⟨.inr hy4,?_⟩;have hl4:Rows 7 (RecAt y4) y4 l1v z.recs:=Rows.extC (fun _ _ h=>RecAt.ext h (hy3.trans hy4)) hl2 (hy3.trans hy4);have hcv4:=RecAt.up hcv hy4;simp (disch:=first|omega|assumption|rfl) only[go_sem,zaT,↓hg6,↓hg12];refine op_field (P:=Tryz.prog) (v:=cv) rfl rfl rfl rfl vr0 rfl ?_;refine⟨.inr (Keep.refl _ _),?_⟩;refine Fn.mono (Is5_ok y4 hl4 hcv4 (fun r hr=>⟨(hrok r hr).len,(hrok r hr).dat.n⟩) (by omega)) ?_;rintro _ y5 ⟨hy5,t,rfl,ht⟩;refine⟨.inr hy5,?_⟩;simp (disch:=first|omega|assumption|rfl) only[go_sem,zaT,↓hg6,↓hg12];apply hK
    refine⟨rfl,rfl,vq1 s6,vq1 s4,vq1 s1,vq1 s3,vq1 s5,vq0,((((hx.trans hy1).trans hy2).trans hy3).trans hy4).trans hy5,_,vr0,fun h=>⟨go,gR,hnz,(ht ?_).symm⟩⟩;simpa using h
   clear s6 s4 s1 s3 s5;rintro _ σ3 _ v2 ⟨rfl,rfl,s6,s4,s1,s3,s5,s7,hE5,t,s132,hzt⟩;repeat refine c_r ?_
   cases t with
   |true=>
    refine wt s132 ?_;refine gz0 ?_;refine rt0 Tryz.ntmps16 ?_;exact⟨hwv1.trans hE5,_,rfl,fun h=>by cases h⟩
   |false=>
   refine wf s132 ?_;have hgzk:=hzt rfl;clear s132 hzt;have hE45:=hE4.trans hE5;have hIP2:=hIP.h;have hB52:=Ext.at hE45 hIP.h;have q5:zad v2 (some ⟨b5,5,.none⟩)=some pv:=zab hB52 rfl;have e02:=zaa hE5 e0;have lo:=hIP.lo;have hsz2:=hE45.size;obtain⟨ao,co,how,_⟩:=id ho;refine rqz ?_;intro gd K hgd hK;refine sgz (az6 s5 s7 q5 e02 Nat.add_zero yn0) ?_;refine⟨by kernel_rfl,?_⟩;rw[how,show bdV Tryz.prog 131 [(0,.slice ao (z.o.map vs).length co),(1,vs [120])]=some (.agg #[.slice ao (z.o.map vs).length co,vs [120]]) from by kernel_rfl,←how];try simp only[go_sem]
   refine zaR (zcW w) (l:=[ow,vs [120]]) (a:=zhv z) (by rfl) (by rfl) (by rfl) (by rfl) ⟨ow,rfl,ho⟩ (by decide) ?_;intro v3 hE6 hs6' ho6;try simp only[go_sem]
   have hx04:=hE45.trans hE6;have hsz4:=hx04.size;refine zaG (zcW w) (hIP.own.ext hx04) ho6.rows (by rfl) (by rfl) (by rfl) (by rfl) (by rfl) (by rfl) (by decide) vr0 vr0 (by simp;omega) (by decide) (by omega) ?_;intro pv' v4 ho7 hE7 hk7 hb7';obtain⟨ap',cp',hpv',_⟩:=ho7.rows.open;refine sgz (az2 s5 yn0) ?_;refine zaU (P:=Tryz.prog) (t:=117) (j:=5) (u:=pv') (l:=[nv,zaf b1,zaf b2,zaf b3,zaf b4,pv]) ((hk7.block _ (by omega) (fun hb=>by have:=(hIP.own.ge hb).1;omega)).trans (Ext.at hx04 hIP.h)) (by simp) (by rw[hpv'];rfl) rfl rfl ?_;intro v5 hs5' hB5' hk5';try simp only[go_sem]
   apply hK;have hIPn:=hIP.app hx04 ho7 hk7 hB5' hk5';have hs7:=hk7.size;refine gz (az2 s6 hk1') ?_;refine⟨m2 - 1,by omega,rfl,k+1,pv',by omega,vq0,vq1 s4,vq1 s1,vq1 s3,vq1 s5,?_,by omega,fun j hj hjk=>?_⟩
   ·rw[zal hk,List.map_append,hze];exact hIPn
   ·by_cases hj2:j=k
    ·subst hj2;rw[hze];exact hgzk
    ·exact hgz j hj (by omega)
  ·intro hge2;simp only[ydF]at hge2;have hfull:(s.zones.take k).map zhv=s.zones.map zhv:=by rw[List.take_of_length_le (by omega)]
   rw[hfull]at hIP;obtain⟨ap',cp',hpv',_⟩:=hIP.own.rows.open;have lo:=hIP.lo;have dB:zan v (some ⟨b5,0,.none⟩) 6=some [nv,zaf b1,zaf b2,zaf b3,zaf b4,pv]:=zae hIP.h rfl;have q3:zad v (some ⟨c3,0,.none⟩)=some ov:=zab (Ext.at hIP.e hB3) rfl;have ones6:∀q∈ [nv,zaf b1,zaf b2,zaf b3,zaf b4,pv],one q=true:=fun q hq=>by
    simp at hq;rcases hq with rfl|rfl|rfl|rfl|rfl|rfl<;>first|exact n1|rfl| (rw[hpv'];rfl)
   have hGl:G.length=i:=by
    have:=congrArg List.length hGf;simp at this;omega
   refine rqz ?_;intro gd K hgd hK;refine sgz (az5 s3 s5 q3 dB Nat.add_zero) ?_;refine zaR (C:=gxC) ze4 (l:=[nv,zaf b1,zaf b2,zaf b3,zaf b4,pv]) (a:=(srvH s,(pv,[nv,zaf b1,zaf b2,zaf b3,zaf b4,pv]))) (by rfl) (by rfl) (by rfl) (by rfl) ⟨rfl,rfl,ones6⟩ (by decide) ?_;intro v1 hE4 hs4' ho4;try simp only[go_sem]
   have hAv1:=hIP.e.trans hE4;have hsA1:=hAv1.size;refine zaG ze4 ((hGS.ext hAv1).own) ho4.rows (by rfl) (by rfl) (by rfl) (by rfl) (by rfl) (by rfl) (by decide) vr0 vr0 (by simp;omega) (by decide) (by omega) ?_;intro ov' v2 ho5 hE5 hk5 hb5';obtain⟨ao',co',hov',_⟩:=ho5.rows.open;refine sgz (az2 s3 Nat.add_zero) ?_;refine zaU (P:=Tryz.prog) (t:=110) (j:=0) (u:=ov') (l:=[ov,rv,vi N.rw,vi N.rf]) ((hk5.block _ (by omega) (fun hb=>by have:=(hGS.own.ge hb).1;omega)).trans (Ext.at hAv1 hB3)) (by simp) (by rw[hov'];rfl) rfl rfl ?_;intro v3 hs3' hB3' hk3';try simp only[go_sem]
   apply hK;have hGS2:=hGS.app hAv1 hAs (x:=(srvH s,(pv,[nv,zaf b1,zaf b2,zaf b3,zaf b4,pv]))) ⟨nv,b1,b2,b3,b4,rfl,hadr,hn,hIP.own.rows.ext hE4⟩ ((hIP.own.blk.mono (by omega)).ext hE4.size) ho5 hk5 hb5';have hGS3:=hGS2.keep hk3' (fun b h1 _ h2=>by omega);have hs5:=hk5.size;refine gz (az2 s4 hi1') ?_;refine⟨m - 1,by omega,rfl,i+1,ov',_,by omega,vq0,vq1 s1,vq1 s3,Keep.to_ext (hE5 w2 (hEA.trans hAv1) (by omega)) rfl (fun b hb=>by omega) hk3',by omega,hB3',hGS3,?_,fun j hj hji=>?_⟩
   ·rw[zal hi,List.map_append,List.map_append,hGf,hse];rfl
   ·by_cases hj2:j=i
    ·subst hj2;rw[hse];refine⟨by omega,fun z hz=>?_⟩;obtain⟨k2,hk2,rfl⟩:=List.mem_iff_getElem.1 hz;exact hgz k2 hk2 (by omega)
    ·exact hgood j hj (by omega)
 ·intro hge;simp only[ydF]at hge;rw[List.take_of_length_le (by omega)]at hGf;have hEw:=hE1.trans hEA;have hrows:=hGS.rows hEw;rw[hGf]at hrows;have o1:=hrows.isOne;have dx:=zae (n:=4) (l:=[ov,rv,vi N.rw,vi N.rf]) hB3 rfl;have hcf:ConfAt A [ov,rv,vi N.rw,vi N.rf] (confN N):=⟨ov,rv,rfl,hrows,hr0.ext hEw⟩;repeat refine c_r ?_
  refine rc (an2 s3 dx) (Few15_ok A hcf) ?_;rintro _ A1 ⟨hE3,t,rfl,hfew⟩;refine re trivial ?_;repeat refine c_r ?_
  cases t with
  |false=>
   refine wt Bool.not_false ?_;refine gz0 ?_;refine rt0 Tryz.ntmps16 ?_;exact⟨hEw.trans hE3,_,rfl,fun h=>by cases h⟩
  |true=>
  refine wf Bool.not_true ?_;have hf:=hfew rfl;have dx1:=zac hE3 dx;repeat refine c_r ?_
  refine rc (an2 s3 dx1) (Of15_ok A1 (hcf.ext hE3) hf) ?_;rintro _ A2 ⟨hE4,cs',rfl,hcf2⟩;refine rd trivial (zim A2 hcf2 hf) ?_;rintro _ A3 ⟨hE5,a,e,rfl,he⟩;refine re trivial ?_;refine gz0 ?_;refine rt0 Tryz.ntmps16 ?_;refine⟨hEw.trans (hE3.trans (hE4.trans hE5)),_,rfl,fun h=>?_⟩;have hro:=he (by simpa using h);have hgj:∀h∈N.hosts,h.zones.length<=4/\∀z∈h.zones,GoodZ z:=fun h hh=>by
   obtain⟨j,hj,rfl⟩:=List.mem_iff_getElem.1 hh;exact hgood j hj (by omega)
  refine⟨⟨by omega,fun h hh=>(hf.s (srvH h) (List.mem_map_of_mem hh)).1.m,fun h hh=>by have:=(hgj h hh).1;omega,fun h hh=>(hgj h hh).2,by omega⟩,k1,k2,fun r hr=>?_,k3,k4,fun h hh=>(hgj h hh).1,fun h hh=>(hf.s (srvH h) (List.mem_map_of_mem hh)).1⟩;have:=hro.inn r hr;rw[show (confN N).servers.length=N.hosts.length from ylm _]at this;exact this
structure GoodSt(N:NetL)(s:zav):Prop where
 s0:0<=s.sv
 s1:s.sv<(N.hosts.length:Int)
 nm:zbX s.name=true
 w0:0<=s.rw
 w1:s.rw<=N.rw
 f0:0<=s.rf
 f1:s.rf<=N.rf
 e0:0<=s.fin
 e1:s.fin<=9
theorem zkJ:∀{n:Nm},(∀l∈n,l≠ [])->2*n.length<=(n.map fun l=>1+l.length).sum
 | [],_=>by simp
 |l::n,h=>by
  have h1:=List.length_pos_iff.2 (h l (List.mem_cons_self ..));have h2:=zkJ (n:=n) fun m hm=>h m (List.mem_cons_of_mem _ hm);rw[List.map_cons,List.sum_cons,List.length_cons];omega
theorem ziK{n:Nm}(h:zaA n=0):n.length<=127:=by
 have hl:=zbk h;have h2:=zkJ fun l hm=>(hl l hm).1;unfold zaA at h;cases hf:n.find? (fun l=>decide (errL l≠0)) with
 |some x=>
  rw[hf]at h;have h1:=List.find?_some hf;simp at h1;exact absurd h h1
 |none=>
  rw[hf]at h
  dsimp only at h
  split at h
  ·cases h
  ·rename_i h3;unfold lenN at h3;omega
theorem zj8{n:Nm}(h:zaA n=0):zbX n=true:=by
 unfold zbX;rw[Bool.and_eq_true,ydT];refine⟨?_,h⟩;have h1:=zbk h;have h2:=ziK h;unfold few;simp only[Bool.and_eq_true,ydT,List.all_eq_true];refine⟨by omega,fun l hl=>by have:=(h1 l hl).2;omega⟩
theorem GoodSt.b{N:NetL}{s:zav}(h:GoodSt N s)(hN:zby N):StB s:=⟨(zcb h.nm).m,h.w0,by have:=h.w1;have:=hN.w.2;omega,h.f0,by have:=h.f1;have:=hN.f.2;omega⟩
structure zmx(N:NetL)(s x:zav):Prop where
 g:GoodSt N x
 w:s.rw<=x.rw
 f:s.rf<=x.rf
 m1:x.rw - s.rw+x.rf - s.rf<=1
 go:x.fin=0->x.rw - s.rw+x.rf - s.rf=1
theorem zhP{N:NetL}{s s0 x:zav}{k:Int}(hs:GoodSt N s)(hk:1<=k/\k<=9)(hw:s0.rw=s.rw)(hf:s0.rf<=s.rf/\s.rf<=s0.rf+1)(hx:x∈endS s k):zmx N s0 x:=by
 rw[List.mem_singleton.1 hx];exact⟨⟨hs.s0,hs.s1,hs.nm,hs.w0,hs.w1,hs.f0,hs.f1,by dsimp only;omega,hk.2⟩,by dsimp only;omega,by dsimp only;omega,by dsimp only;omega,fun h=>by dsimp only at h;omega⟩
theorem zjf{α:Type}{p:α->Bool}:∀{l:List α} {i:Nat} {k:Int},k∈zcK p i l->(i:Int)<=k/\k<(i:Int)+(l.length:Int)
 | [],i,k,h=>by cases h
 |a::l,i,k,h=>by
  unfold zcK at h;rcases List.mem_append.1 h with h|h
  ·split at h
   ·rw[List.mem_singleton.1 h,List.length_cons];omega
   ·cases h
  ·have:=zjf h;rw[List.length_cons];omega
theorem aliasS_F{N:NetL}{s x:zav}{to:Nm}(hN:zby N)(hs:GoodSt N s)(h0:s.fin=0)(ht:zaA to=0)(hx:x∈zeR N s to):zmx N s x:=by
 unfold zeR at hx
 split at hx
 ·exact zhP hs (by omega) rfl (by omega) hx
 rename_i hw;have hw':s.rw<N.rw:=by omega
 have g:∀k:Int,0<=k->k<(N.hosts.length:Int)->zmx N s {s with rw:=s.rw+1,name:=to,ref:=false,sv:=k}:=fun k h1 h2=>
  ⟨⟨h1,h2,zj8 ht,by have:=hs.w0;dsimp only;omega,by dsimp only;omega,hs.f0,hs.f1,hs.e0,hs.e1⟩,by dsimp only;omega,by dsimp only;omega,by dsimp only;omega,fun _=>by dsimp only;omega⟩
 split at hx
 ·rw[List.mem_singleton.1 hx];exact g s.sv hs.s0 hs.s1
 ·unfold zd5 at hx;obtain⟨k,hk,rfl⟩:=List.mem_map.1 hx;have:=hN.rin k hk;exact g k this.1 this.2
theorem referS_F{N:NetL}{s x:zav}{r:ResL}(hs:GoodSt N s)(h0:s.fin=0)(hx:x∈zfo N s r):zmx N s x:=by
 unfold zfo at hx
 split at hx
 ·exact zhP hs (by omega) rfl (by omega) hx
 rename_i hw;have hf0:=hs.f0;have hs2:GoodSt N {s with rf:=s.rf+1}:=⟨hs.s0,hs.s1,hs.nm,hs.w0,hs.w1,by dsimp only;omega,by dsimp only;omega,hs.e0,hs.e1⟩;obtain⟨h,_,hx⟩:=List.mem_flatMap.1 hx;unfold zdQ at hx;rcases List.mem_append.1 hx with hx|hx
 ·split at hx
  ·exact zhP hs2 (by omega) rfl (by dsimp only;omega) hx
  ·cases hx
 ·obtain⟨k,hk,rfl⟩:=List.mem_map.1 hx;unfold ofR zec at hk;have:=zjf hk;exact⟨⟨by dsimp only;omega,by dsimp only;omega,hs.nm,hs.w0,hs.w1,by dsimp only;omega,by dsimp only;omega,hs.e0,hs.e1⟩,by dsimp only;omega,by dsimp only;omega,by dsimp only;omega,fun _=>by dsimp only;omega⟩
theorem zji{N:NetL}{s x:zav}{t:Int}(hN:zby N)(hs:GoodSt N s)(hx:x∈zfA N s t):s.fin=0/\zmx N s x:=by
 have hF:=ask_F (s:=s.sv) (t:=t) hN.z (zcb hs.nm).m;unfold zfA at hx
 split at hx
 ·rename_i h0;refine⟨h0,?_⟩;repeat first| (split at hx;(first|exact zhP hs (by omega) rfl (by omega) hx|exact aliasS_F hN hs h0 (hF.nm (by assumption)) hx|exact referS_F hs h0 hx))|exact zhP hs (by omega) rfl (by omega) hx
 ·cases hx
def zcd(N:NetL)(q:Nm):List zav:=zd5 N ⟨0,q,0,0,false,0⟩
theorem zi6{k:Nat}:∀{l:List Nat},(∀x∈l,x<=k)->l.sum<=k*l.length
 | [],_=>by simp
 |a::l,h=>by
  have h1:=h a (by simp);have h2:=zi6 (l:=l) fun x hx=>h x (by simp[hx]);rw[List.sum_cons,List.length_cons,Nat.mul_succ];omega
theorem zfk{N:NetL}{q:Nm}(hN:zby N)(hq:zbX q=true):∀s∈zcd N q,GoodSt N s:=fun s hs=>by
 obtain⟨r,hr,rfl⟩:=List.mem_map.1 hs;obtain⟨h1,h2⟩:=hN.rin r hr;exact⟨h1,h2,hq,Int.le_refl _,hN.w.1,Int.le_refl _,hN.f.1,Int.le_refl _,by show(0:Int)<=9;decide⟩
theorem zfy{o:Option Value}{v:Value}{w:World}{K:Value->World->Prop}{F:Prop}{m:Lck K F}(h:o=some v)(hK:K v w):optL o w K F m:=by
 subst h;rw[zhx];exact hK
def stZ:zav:=⟨0,[],0,0,false,0⟩
def zbi(N:NetL)(t:Int):List Int->List zav->List (zav×Bool)
 | [],_=>[]
 |c::cs,row=>if c<0 then [(stZ,false)] else match row[c.toNat]? with
  |some s=>(s,true)::zbi N t cs (zfA N s t)
  | .none=>[(stZ,false)]
def zcJ(N:NetL)(q:Nm)(t:Int)(ch:List Int):zav×Bool:=(zbi N t ch (zcd N q)).getLastD (stZ,false)
def encP(C:Nat->Prop)(n0 ws:Nat)(x:zav×Bool)(U:Nat->Prop)(A:World)(args:Array Value):Prop:=∃nv,args=#[.agg (stV nv x.1).toArray,.bool x.2]/\RowY (fun b=>(C b\/(n0<=b/\b<ws))\/U b) A nv (x.1.name.map vs)
theorem zft{N:NetL}{t c:Int}{cs:List Int}{row:List zav}(h:c<0\/(row.length:Int)<=c):zbi N t (c::cs) row=[(stZ,false)]:=by
 unfold zbi;by_cases h0:c<0
 ·rw[if_pos h0]
 ·rw[if_neg h0,List.getElem?_eq_none (by omega)]
theorem zfu{N:NetL}{t:Int}{cs:List Int}{row:List zav}{c:Nat}(h:c<row.length):zbi N t ((c:Int)::cs) row=(row[c],true)::zbi N t cs (zfA N row[c] t):=by
 conv=>lhs;unfold zbi
 rw[if_neg (by omega),Int.toNat_natCast,List.getElem?_eq_getElem h]
theorem zlc{w0 w1 W0:World}{C:Nat->Prop}{bn bq bc bt:Nat}{cs:List Value}{N:NetL}{qv cv:Value}{q:Nm}{ch:List Int}{t:Int}(hE01:Ext w0 w1)(hE1:Ext w1 W0)
  (hbn:W0.heap[bn]? =some (.cells cs.toArray 25 (0,0))) (hbq:W0.heap[bq]? =some (.cells #[qv] 27 (0,0))) (hbc:W0.heap[bc]? =some (.cells #[cv] 23 (0,0))) (hbt:W0.heap[bt]? =some (.cells #[vi t] 3 (0,0)))
  (hC:∀b,C b->w1.heap.size<=b/\b<W0.heap.size) (hCb:¬C bn/\¬C bq/\¬C bc/\¬C bt) (hN:NetAt w0 cs N) (hG:zby N) (hq:Row w1 qv (q.map vs)) (hgq:zbX q=true) (hcv:Row w1 cv (ch.map vi)) (hchl:ch.length<=1000000000):
  IterU Tryz.prog 146 #[.pointer (some ⟨bn,0,.none⟩),.pointer (some ⟨bq,0,.none⟩),.pointer (some ⟨bc,0,.none⟩),.pointer (some ⟨bt,0,.none⟩)] W0 W0.heap.size C 0 (fun pre x=>∃suf,zbi N t ch (zcd N q)=pre++x::suf) (fun xs=>xs=zbi N t ch (zcd N q)) (encP C W0.heap.size):=by
 intro lp J Jx W hW hnW hJ hJx hY h0;have hn4:=hN.one;have hnl:=(Array.getElem?_eq_some_iff.1 hbn).1;have hql:=(Array.getElem?_eq_some_iff.1 hbq).1;have hcl:=(Array.getElem?_eq_some_iff.1 hbc).1;have htl:=(Array.getElem?_eq_some_iff.1 hbt).1;have hs1:=hE1.size;have hE1W:=hE1.trans hW;obtain⟨F,hF⟩:∃F,zbi N t ch (zcd N q)=F:=⟨_,rfl⟩;rw[hF]at hY ⊢;have dn:=zae (n:=4) (Ext.at hW hbn) hn4.1.symm;have dq:zad W (some ⟨bq,0,.none⟩)=some qv:=zab (i:=0) (Ext.at hW hbq) rfl;have dc:zad W (some ⟨bc,0,.none⟩)=some cv:=zab (i:=0) (Ext.at hW hbc) rfl;obtain⟨ac,cc,hcve,_⟩:=id hcv;rw[ylm]at hcve;refine enter Tryz.func146 Tryz.ntmps146 rfl rfl ?_;refine go trivial ?_;refine rc (an2 dn dq) (zml (hE01.trans hE1W) hN hG.z.rl (hq.ext hE1W)) ?_;rintro sv v1 ⟨hEs,hsb,_,rfl,hsr,hsn⟩;refine rgo trivial ?_;have dc1:=zaa hEs dc;rw[hcve]at dc1;refine go dc1 ?_;obtain⟨S,hS⟩:∃S:Nat->Prop,S=fun b=>C b\/(W0.heap.size<=b/\b<W.heap.size):=⟨_,rfl⟩;have hSw:∀b,S b->w1.heap.size<=b:=fun b hb=>by
  rw[hS]at hb;rcases hb with hb|hb
  ·exact(hC b hb).1
  ·omega
 have hSW:∀b,S b->b<W.heap.size:=fun b hb=>by
  rw[hS]at hb;rcases hb with hb|hb
  ·have:=(hC b hb).2;omega
  ·omega
 have hCS:∀b,C b->S b:=fun b hb=>by rw[hS];exact .inl hb
 have hSn:∀b,b<W0.heap.size->¬C b->¬S b:=fun b h1 h2 h3=>by
  rw[hS]at h3;rcases h3 with h3|h3
  ·exact h2 h3
  ·omega
 have hKR:∀{A B:World} {U:Nat->Prop},KeepR W0.heap.size W.heap.size (fun b=>C b\/U b) A B->Keep (fun b=>S b\/U b) A B:=fun h=>⟨h.os,h.tape,h.output,h.size,fun b hb hs=>h.block b hb (by
  by_cases h1:b<W0.heap.size
  ·exact .inl h1
  ·by_cases h2:b<W.heap.size
   ·exact absurd (by rw[hS];exact .inl (.inr ⟨by omega,h2⟩)) hs
   ·exact .inr (by omega)) (fun hc=>hs (hc.imp (hCS b) id)),h.drawn⟩
 have hcy:RowY S W cv (ch.map vi):=RowY.old hcv hE1W hSw;refine zh4 ch.length (fun i σ v=>(σ 14=vi i/\σ 13=vi ch.length/\σ 12= .slice ac ch.length cc/\σ 0= .func (.yield lp) #[] #[]/\σ 1= .pointer (some ⟨bn,0,.none⟩)/\σ 4= .pointer (some ⟨bt,0,.none⟩))/\
  ∃sv u L pre U,σ 6=sv/\Rows 6 (StN u) v sv L/\BlkB W.heap.size v sv/\(∀a n c,sv= .slice (some a) n c->¬U a.block)/\(∀b,U b->W.heap.size<=b/\b<v.heap.size)/\(∀s∈L,RowY (fun b=>S b\/U b) v u (s.name.map vs))/\(∀s∈L,GoodSt N s)/\J pre U v/\Keep S W v/\pre++zbi N t (ch.drop i) L=F) ?_ ?_ ?_
 ·exact⟨⟨vr0,vr0,vq0,vq0,vq0,vq0⟩,sv,_,zcd N q,[],NoS,vq0,hsr,hsb,fun _ _ _ _ h=>h,fun _ h=>h.elim,fun s hs=>(RowY.old hq (hE1W.trans hEs) fun b h=>h.elim (hSw b) (fun h=>h.elim)).alike (hsn s hs),zfk hG hgq,hJ _ _ _ _ h0 (hEs.mono fun _ _ h=>h.elim),hEs.mono fun _ _ h=>h.elim,hF⟩
 ·rintro i σ v hi q0 ⟨s,sv,u,L,pre,U,h6,hrows,hblk,hbu,hUw,hnm,hgds,hj,hk,hsuf⟩;obtain⟨al,cl,rfl,_⟩:=hrows.open;have hEv:Ext w1 v:=Keep.to_ext hE1W rfl hSw hk;have hkz:=hk.size;have hKB:KeepB W0.heap.size C W v:=⟨hk.os,hk.tape,hk.output,hk.size,fun b hb hc=>hk.block b (by omega) (hSn b hb hc),hk.drawn⟩;have g:=(hcy.turn hk fun _ h=> .inl h).1;rw[hcve]at g;obtain⟨a',c',e',_,g⟩:=g;rw[Value.slice.injEq]at e';obtain⟨rfl,_,rfl⟩:=e';replace g:=g i (by rw[ylm];exact hi);rw[List.getElem_map]at g;obtain⟨c,hce⟩:∃c,ch[i]=c:=⟨_,rfl⟩;have hdr:ch.drop i=c::ch.drop (i+1):=by rw[←hce];exact List.drop_eq_getElem_cons hi
  rw[hdr]at hsuf;rw[hce]at g;obtain⟨xa,rfl⟩:=yxs (zag g);refine go (an3 s q0 g) ?_;by_cases hb:c<0\/(L.length:Int)<=c
  ·rw[zft hb]at hsuf;refine zaw (Q:=fun e σ' ds' v'=>e= .normal/\ds'=[]/\v'=v/\σ' 0= .func (.yield lp) #[] #[]/\σ' 25= .bool true) ?_ ?_
   ·by_cases hc0:c<0
    ·refine rgg [(2,20)] (an2 s (yet hc0)) ?_;exact⟨rfl,rfl,rfl,vq1 s,vr0⟩
    ·have hd:decide (c>=(L.length:Int))=true:=yet (hb.resolve_left hc0);refine rgg [(2,20)] (an4 s h6 (yef hc0) hd) ?_;exact⟨rfl,rfl,rfl,vq1 s,vr0⟩
   rintro _ σ2 _ v2 ⟨rfl,rfl,rfl,s0,h25⟩;refine go h25 ?_;refine rq ?_;intro gd K hgd hK;refine sgz s0 ?_;refine⟨by kernel_rfl,?_⟩;rw[show bdV Tryz.prog 80 []=some (.agg #[vi 0,.slice .none 0 0,vi 0,vi 0,.bool false,vi 0]) from by kernel_rfl];refine sgz s0 ?_;refine Yld.mono (hY pre U (stZ,false) v2 _ ⟨_,hsuf.symm⟩ hj (by omega) hKB ⟨.slice .none 0 0,rfl,⟨.none,0,rfl,ynl _,fun j h=>by simp[stZ]at h⟩,fun h=>absurd rfl h⟩) ?_;rintro y z (⟨rfl,U',hjz,hU',hkr⟩| ⟨rfl,hjx⟩)
   ·try simp only[go_sem]
    apply hK;refine go trivial ?_;exact zaC (by simp) rfl (.inl ⟨_,_,rfl,by rw[←hsuf];exact hjz⟩)
   ·try simp only[go_sem]
    apply hK;refine go trivial ?_;exact zaC (by simp) rfl (.inr ⟨_,_,⟨_,hsuf.symm⟩,hjx⟩)
  ·obtain⟨k,rfl⟩:=Int.eq_ofNat_of_zero_le (show 0<=c by omega);have hkL:k<L.length:=by omega
   rw[zfu hkL]at hsuf;have hc0:decide ((k:Int)<0)=false:=yef (by omega);have hd:decide ((k:Int)>=(L.length:Int))=false:=yef (by omega);refine rgg [(2,20)] (an4 s h6 hc0 hd) ?_;refine go trivial ?_;obtain⟨cs6,hcs,rfl,hone⟩:=hrows.get hkL;obtain⟨X,hX⟩:∃X,L[k]=X:=⟨_,rfl⟩;have hmX:X∈L:=by rw[←hX];exact List.getElem_mem hkL
   rw[hX]at hcs hsuf;unfold stV at hcs;have hk0:=cj k;have hk1:(k:Int)<(L.length:Int):=by omega
   obtain⟨xl,rfl⟩:=yxs (zak hcs);refine rq ?_;intro gd K hgd hK;refine sgz (az5 s h6 hcs hk0 hk1) ?_;refine Yld.mono (hY pre U (X,true) v _ ⟨_,hsuf.symm⟩ hj (by omega) hKB ⟨u,rfl,by have:=hnm X hmX;rw[hS]at this;exact this⟩) ?_;rintro y z (⟨rfl,U',hjz,hU',hkr⟩| ⟨rfl,hjx⟩)
   ·try simp only[go_sem]
    apply hK;have hkz2:=hKR hkr;have hWz:Keep S W z:=⟨hkz2.os.trans hk.os,hkz2.tape.trans hk.tape,hkz2.output.trans hk.output,Nat.le_trans hk.size hkz2.size,fun b hb hs=>(hkz2.block b (by omega) fun h=>h.elim hs fun hu=>by have:=hUw b hu;omega).trans (hk.block b hb hs),Nat.le_trans hk.drawn hkz2.drawn⟩;have hsS:∀b,(S b\/U' b)->(S b\/U b)\/v.heap.size<=b:=fun b h=>by
     rcases h with h|h
     ·exact .inl (.inl h)
     ·exact(hU' b h).imp .inr (fun h=>h.1)
    have hEz:Ext w1 z:=Keep.to_ext hE1W rfl hSw hWz;have hsz:=hWz.size;have hsz2:=hkz2.size;have hrz:=hrows.blocks fun a n c e=>hkz2.block _ (hblk a n c e).2 (fun h=>h.elim (fun h=>by have:=hSW _ h;have:=(hblk a n c e).1;omega) (hbu a n c e));have hblz:=hblk.ext hsz2;obtain⟨cs6,hcz,rfl,_⟩:=hrz.get hkL;rw[hX]at hcz;unfold stV at hcz;have hnz:=(hnm X hmX).turn hkz2 hsS;have dnz:=zae (n:=4) ((hWz.block _ (by omega) (hSn _ hnl hCb.1)).trans (Ext.at hW hbn)) hn4.1.symm;have dtz:zad z (some ⟨bt,0,.none⟩)=some (vi t):=zab (i:=0) ((hWz.block _ (by omega) (hSn _ htl hCb.2.2.2)).trans (Ext.at hW hbt)) rfl;refine go trivial ?_;refine zaJ (fun _=>false) [(0,true),(1,true),(2,true),(3,true),(4,true),(5,true),(6,false),(7,true)] NoS mixed (by kernel_rfl) ?_;intro gd K x hgd hx hxe hK;clear hxe;have dnx:=zac hx dnz;have dtx:=zaa hx dtz;have dcx:=zac hx hcz;refine sgz (az7 s h6 dnx dtx dcx hk0 hk1) ?_;refine Fn.mono (NextF_ok (t:=t) (hE01.trans (hEz.trans hx)) hN hG.z (hnz.1.ext hx) ((hgds X hmX).b hG)) ?_;rintro sv2 y ⟨hy,hsb2,u2,hok,hsr2,hsn2⟩;refine⟨.inr hy,?_⟩;refine sg0 ?_;apply hK;have hxy:=hx.trans hy;have hxs:=hx.size;have hky:Keep (fun b=>S b\/U' b) z y:=hxy.mono fun _ _ h=>h.elim;have hzy:=hxy.size;have hUz:∀b,U' b->W.heap.size<=b/\b<z.heap.size:=fun b hb=>by
     rcases hU' b hb with h|h
     ·have:=hUw b h;omega
     ·omega
    refine go (an2 s q0) ?_;refine⟨rfl,sc (an2 s q0),sv2,u2,zfA N X t,_,U',vr0,hsr2,hsb2.mono (by omega),fun a n c e hu=>by have:=(hsb2 a n c e).1;have:=hUz _ hu;omega,fun b hb=>by have:=hUz b hb;omega,fun s' hs'=>?_,fun s' hs'=>(zji hG (hgds X hmX) hs').2.g,hJ _ _ _ _ hjz (hxy.mono fun _ _ h=>h.elim),hWz.trans (hxy.mono fun _ _ h=>h.elim),by rw[yla];exact hsuf⟩;rcases hok with rfl|hok| ⟨l,hl⟩
    ·exact(hnz.turn hky fun _ h=> .inl h).alike (hsn2 s' hs')
    ·refine⟨hsn2 s' hs',fun _ a n c e=>?_⟩;obtain⟨k1,k2⟩:=hok a n c e;exact⟨k2,fun hj=>hj.elim (fun hj=>by have:=hSW _ hj;omega) (fun hj=>by have:=hUz _ hj;omega)⟩
    ·exact(RowY.old hl ((hE01.trans hEz).trans hxy) fun j hj=>by
      have:=hE01.size;have:=hE1W.size;rcases hj with hj|hj
      ·have:=hSw j hj;omega
      ·have:=hUz j hj;omega).alike (hsn2 s' hs')
   ·try simp only[go_sem]
    apply hK;refine go trivial ?_;exact zaC (by simp) rfl (.inr ⟨_,_,⟨_,hsuf.symm⟩,hjx⟩)
 ·rintro σ v q0 ⟨s,sv,u,L,pre,U,h6,hrows,hblk,hbu,hUw,hnm,hgds,hj,hk,hsuf⟩;refine go (an2 s q0) ?_;rw[List.drop_length]at hsuf;refine zaC (by simp) rfl (.inl ⟨F,U,rfl,?_⟩);rw[←hsuf];simpa [zbi] using hj
def Pl(N:NetL)(t:Int):List Int->List zav->zav->Prop
 | [],_,_=>False
 |c::cs,L,s=>∃k:Nat,c=(k:Int)/\∃x,L[k]? =some x/\((cs=[]/\s=x)\/Pl N t cs (zfA N x t) s)
end Go.Proofs.YtahbdamijngmmaaGreat
