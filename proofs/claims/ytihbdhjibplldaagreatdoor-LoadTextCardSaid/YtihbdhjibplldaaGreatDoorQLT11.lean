/-
  Texts of a proof, joined: LS, LT, QF, NB, QG, QH, QI, QJ, QK, JX, NC.
  Conditions: none.
-/
import Derived.Test.YtihbdhjibplldaaGreatDoorQLT10
import Derived.Test.YtihbdhjibplldaaGreatDoorQLT02
import Derived.Test.YtihbdhjibplldaaGreatDoorQLT09
import Derived.Test.YtihbdhjibplldaaGreatDoorQLT08
import Derived.Test.YtihbdhjibplldaaGreatDoorQLT07
import Derived.Test.YtihbdhjibplldaaGreatDoorQLT06
import Derived.Test.YtihbdhjibplldaaGreatDoorQLT04
set_option linter.unusedVariables false
set_option linter.unusedSimpArgs false
set_option linter.defProp false
set_option linter.unnecessarySimpa false
set_option maxHeartbeats 8000000
namespace Go.Proofs.YtihbdhjibplldaaGreatDoor
open Go
set_option maxRecDepth 10000
inductive EntsIs(fl:List (Lab×Lab))(inc:LdS→Lab→Option FltL→LdS→Prop):LdS→List EntL→Option FltL→LdS→Prop
 |nil (st:LdS):EntsIs fl inc st [] Option.none st
 |flt (st:LdS) (en:EntL) (es:List EntL) (f:FltL) (st1:LdS):st.reads.length≤1000→EntIs fl inc {st with line:=en.line} en (some f) st1→EntsIs fl inc st (en::es) (some f) st1
 |more (st:LdS) (en:EntL) (es:List EntL) (st1:LdS) (out:Option FltL) (st2:LdS):st.reads.length≤1000→EntIs fl inc {st with line:=en.line} en Option.none st1→EntsIs fl inc st1 es out st2→EntsIs fl inc st (en::es) out st2
def zcX(fl:List (Lab×Lab)):Nat→LdS→Lab→Option FltL→LdS→Prop
 |0,_,_,_,_=>False
 |k+1,st,p,out,st'=>∃xs st1,zcr p fl=(zaF (xs.map Prod.fst),true)∧LnsOk xs∧st.reads.length≤1000∧EntsIs fl (zcX fl k) {st with path:=p,reads:=st.reads++ [p]} (entF 1 xs) out st1∧
  (out=Option.none→1≤st1.reads.length∧st1.reads.length≤10000∧st'={st1 with reads:=st1.reads.dropLast})∧(¬out=Option.none→st'=st1)
theorem Own.dropLast{B:Nat}{w:World}{e:TypeId}{a:Option Addr}{n c:Nat}{l:List Value}(h:Own B w e (.slice a n c) l)(hl:1≤l.length):Own B w e (.slice a (n - 1) c) l.dropLast:=by
 obtain⟨h1,h2⟩:=h
 rcases h2 with ⟨_,h0⟩| ⟨g,cap,cur,hv,hg,hb,hn,hm,hc,hx⟩
 ·omega
 ·injection hv with v1 v2 v3
  refine⟨by simp,.inr ⟨g,cap,cur,?_,hg,hb,by rw[List.length_dropLast];omega,hm,hc,?_⟩⟩
  ·rw[v1,v3,List.length_dropLast,v2]
  ·rw[List.length_dropLast,Nat.mul_one,←hx,List.dropLast_eq_take,List.take_take,List.length_take]
   congr 1
   have:cur.toList.length=cap:=by simp[hc]
   rw[this];omega
section
variable {D : Nat → Prop} {B b : Nat} {w x : World} {fs : Value → World → Prop} {st : LdS} {fv ov rv orv owv : Value} {G : List (RecL × List Value)}
theorem LX.reads(h:LX D B w b fs st fv ov rv orv owv G){y1 y2:World}{rv':Value}{l:List Lab}(ho:Own B y2 9 rv' (l.map vs))(hE0:Ext w y1)(hk:Keep (fun i=>some i=rv.ownBlock) y1 y2)(hb2:∀i,some i=rv'.ownBlock→some i=rv.ownBlock∨y1.heap.size≤i)
  (hk3:Keep (fun i=>i=b) y2 x) (hb:x.heap[b]? =some (.cells (zim fv ov rv' orv owv st).toArray 85 (0,0))):LX D B x b fs {st with reads:=l} fv ov rv' orv owv G:=by
 have hl:=h.lt
 have hle:=h.le
 have e1:=hE0.size
 have e2:=hk.size
 have e3:=hk3.size
 have hkk:Keep (fun i=>some i=rv.ownBlock∨i=b) w x:=((hE0.mono fun _ _ h=>h.elim).trans (hk.mono fun _ _ e=> .inl e)).trans (hk3.mono fun _ _ e=> .inr e)
 have hT:∀i,i<w.heap.size→(some i=rv.ownBlock∨i=b)→MutL D b ov rv i:=fun i _ e=>e.elim (fun e=> .inr (.inr (.inl e))) .inl
 have hM:∀i,i<w.heap.size→MutL D b ov rv' i→MutL D b ov rv i:=fun i hi hm=>by
  rcases hm with e|e|e|e
  ·exact .inl e
  ·exact .inr (.inl e)
  ·rcases hb2 i e with e|e
   ·exact .inr (.inr (.inl e))
   ·omega
  ·exact .inr (.inr (.inr e))
 refine⟨hb,hl,by omega,h.oo.keep hkk fun i hi e=>?_,ho.keep hk3 fun i hi e=>by have:=(ho.ge hi).1;omega,fun i hi e=>?_,fun i hi=>?_,h.ol,fun y hy=>Hz.app (h.fr y hy) hkk hT hM,Hz.app h.ff hkk hT hM,Hz.app h.fo hkk hT hM,OwnerZ.app h.fw hkk hT hM,h.ot⟩
 ·rcases e with e|e
  ·exact h.d i hi e
  ·have:=(h.oo.ge hi).1;omega
 ·rcases hb2 i e with e2|e2
  ·exact h.d i hi e2
  ·have:=(h.oo.ge hi).2;omega
 ·obtain⟨a1,a2,a3,a4⟩:=h.dd i hi
  exact⟨a1,by omega,a3,fun e=>(hb2 i e).elim a4 fun e=>by omega⟩
theorem file_ok{W0:World}(hX:WX W0)(hb0:W0.heap.size≤b){fl:List (Lab×Lab)}(hfl:fl.length≤1000000){k:Nat}(hc:FlOk W0 B b fl (zcX fl k)):FlOk W0 B b fl (zcX fl (k+1)):=by
 rintro D w fs st p out st' hF hE0 h ⟨xs,st1,hfind,hxs,hrl,hes,hn1,hn2⟩
 have hX1:∀{X:World},Ext w X→WX X:=fun hE=>hX.ext (hE0.trans hE)
 have hDd:=h.dd
 obtain⟨fv,ov,rv,orv,owv,G,h⟩:=h
 have hbB:=h.lt
 have hBw:=h.le
 have hDb:¬D b:=fun hd=>by have:=hDd b hd;omega
 have k0:zad w (some ⟨b,0,Option.none⟩)=some fv:=zaa h.h rfl
 refine enter Tryz.func33 Tryz.ntmps33 rfl rfl ?_
 refine go trivial ?_
 refine rc k0 (zga (hF fv w h.ff.now) hfl p) ?_
 rintro _ w1 ⟨rfl,hE1⟩
 rw[hfind]
 refine rgo Bool.not_true ?_
 refine rc trivial (zjh (hX1 hE1) hxs) ?_
 rintro _ w2 ⟨hE2,ev,rfl,hevb,hev⟩
 refine rgo (show decide ((0:Int)=0)=true from rfl) ?_
 obtain⟨es,hesE⟩:∃es,entF 1 xs=es:=⟨_,rfl⟩
 rw[hesE]at hes hev
 have hE02:=hE1.trans hE2
 have hs1:=hE1.size
 have hs2:=hE2.size
 obtain⟨D1,hD1⟩:∃D1:Nat→Prop,D1=fun i=>D i∨(w1.heap.size≤i∧i<w2.heap.size):=⟨_,rfl⟩
 have hKL:∀{X Y:World},za4 D1 b X Y→za4 D b X Y:=fun hk=>hk.mono fun i _ h=>⟨h.1,fun hd=>h.2 (by rw[hD1];exact .inl hd)⟩
 have hD1b:¬D1 b:=fun hd=>by rw[hD1]at hd;rcases hd with hd|hd;exact hDb hd;omega
 have h2:LX D1 B w2 b fs st fv ov rv orv owv G:=h.step hE02 (fun i hi=>by rw[hD1]at hi;rcases hi with hi|hi;exact .inl hi;exact .inr (by omega))
 refine rq ?_;intro gd K hgd hK
 try simp (disch:=first|omega|assumption|rfl) only[go_sem,Nat.zero_add]
 refine zaq (P:=Tryz.prog) rfl rfl rfl h2.h (by show(4:Nat)<13;decide) (by simp) ?_
 intro w3 hs3 hb3 hk3
 try simp only[go_sem]
 refine hK _ _ ?_;clear hK hgd;clear K;try clear gd
 have h3:LX D1 B w3 b fs {st with path:=p} fv ov rv orv owv G:=LX.turn h2 (st':={st with path:=p}) hk3 hb3 rfl rfl h2.fo h2.fw h2.ot
 have k2:zad w3 (some ⟨b,2,Option.none⟩)=some rv:=zaa h3.h rfl
 refine go (an2 k2 Nat.zero_add) ?_
 refine rq ?_;intro gd K hgd hK
 try simp (disch:=first|omega|assumption|rfl) only[go_sem,k2,Nat.zero_add]
 refine za5 rfl rfl rfl rfl rfl ?_
 intro w4 hE4 hs4 hown4
 try simp (disch:=first|omega|assumption|rfl) only[go_sem,k2,Nat.zero_add]
 have h4:=h3.ext hE4
 refine zaV (e:=9) h4.ow hown4.row rfl rfl rfl rfl rfl rfl (vq0) (vq0) (fun q hq=>by simp at hq;subst hq;rfl) (by simp;omega) (by decide) h4.le ?_
 intro rv' w5 ho5 hX5 hk5 hb5
 try simp (disch:=first|omega|assumption|rfl) only[go_sem,Nat.zero_add]
 have hby5:=(hk5.block b (by have:=h4.le;omega) fun e=>by have:=(h4.ow.ge e).1;omega).trans h4.h
 refine zaq (P:=Tryz.prog) rfl rfl (by obtain⟨a,c,rfl⟩:=ho5.slice;rfl) hby5 (by show(2:Nat)<13;decide) (by simp) ?_
 intro w6 hs6 hb6 hk6
 try simp only[go_sem]
 refine hK _ _ ?_;clear hK hgd;clear K;try clear gd
 have h6:LX D1 B w6 b fs {st with path:=p,reads:=st.reads++ [p]} fv ov rv' orv owv G:=LX.reads h3 (l:=st.reads++ [p]) (by rw[List.map_append];exact ho5) hE4 hk5 hb5 hk6 hb6
 have hkk:Keep (fun i=>i=b∨some i=rv.ownBlock) w2 w6:=(((hk3.mono fun i _ e=> .inl e).trans (hE4.mono fun _ _ h=>h.elim)).trans (hk5.mono fun i _ e=> .inr e)).trans (hk6.mono fun i _ e=> .inl e)
 have hk26:za4 D1 b w2 w6:=hkk.mono fun i _ e=>by
  rcases e with e|e
  ·exact⟨by omega,by rw[e];exact hD1b⟩
  ·exact⟨by have:=(h2.ow.ge e).1;omega,fun hd=>(h2.dd i hd).2.2.2 e⟩
 obtain⟨ea,ec,rfl,hec,heg⟩:=hev.now.open
 refine go trivial ?_
 have hel:es.length≤1000000000:=by have:=zfW 1 xs;rw[hesE]at this;have:=hxs.few;omega
 have hkE:za4 D b w w2:=hE02.mono fun _ _ h=>h.elim
 have hk02:∀{X:World},za4 D1 b w2 X→Keep (fun i=>i<w1.heap.size) w2 X:=fun hk=>hk.mono fun i hi h=>by
  by_cases hlt:i<w1.heap.size
  ·exact hlt
  ·exact absurd (by rw[hD1];exact .inr ⟨by omega,hi⟩) h.2
 refine za3 es.length (fun i σ v=>(σ 0= .pointer (some ⟨b,0,Option.none⟩)∧σ 55= .slice ea es.length ec∧σ 56=vi es.length∧σ 57=vi i)∧∃sti,LdX D1 B v b fs sti∧EntsIs fl (zcX fl k) sti (es.drop i) out st1∧za4 D1 b w6 v) ?_ ?_ ?_
 ·exact⟨⟨vr0,vr0,vr0,vr0⟩,_,⟨_,_,_,_,_,_,h6⟩,hes,Keep.refl _ _⟩
 ·rintro i σ v hi r ⟨⟨s0,s55,s56,s57⟩,sti,hv,hgr,hkv⟩
  rw[List.drop_eq_getElem_cons hi]at hgr
  obtain⟨en,hen⟩:∃en,es[i]=en:=⟨_,rfl⟩
  rw[hen]at hgr
  have hk2v:=hk26.trans hkv
  obtain⟨cs,g,hcs⟩:=(zcD (hev v (hk02 hk2v))).2.2 i hi
  rw[hen]at hcs
  obtain⟨wv,rfl,hwv⟩:=hcs
  obtain⟨xa,rfl⟩:=Option.isSome_iff_exists.1 (zaA g)
  have hxb:=hevb xa _ _ rfl
  have hcell:∀{X:World},za4 D1 b v X→zar X (adr (some xa) (i*3)) 3=some [vi en.line,.bool en.blank,wv]:=fun hk=>zeW hk (fun a ha hb=>hb.2 (by
   have hbl:a.block=xa.block:=by injection ha with ha;rw[←ha];exact zbW xa _
   obtain⟨cs2,g2,_⟩:=(zcD hev.now).2.2 i hi
   have:=cells_lt g2 (by decide) ha
   rw[hD1,hbl]
   exact .inr ⟨hxb,by omega⟩)) g
  have hwords:∀{X:World},za4 D1 b v X→Rows 2 WdC X wv en.words:=fun {X} hk=>by
   obtain⟨cs',g',hcs'⟩:=(zcD (hev X (hk02 (hk2v.trans hk)))).2.2 i hi
   rw[hcell hk]at g'
   rw[hen]at hcs'
   obtain⟨wv',e',hw'⟩:=hcs'
   rw[←Option.some.inj g']at e'
   injection e' with _ e'
   injection e' with _ e'
   injection e' with e' _
   rw[e'];exact hw'
  obtain⟨xi,hxi⟩:∃xi,adr (some xa) (i*3)=some xi:=⟨_,rfl⟩
  rw[hxi]at g
  have hi0:(0:Int)≤(i:Int):=by omega
  have hi1:(i:Int)<(es.length:Int):=by omega
  have hi2:(i:Int)+1=((i+1:Nat):Int):=by push_cast;rfl
  obtain⟨wa,wc,rfl,_⟩:=id hwv.open
  refine go (an5 s0 s55 s56 s57 r) ?_
  refine rq ?_;intro gd K hgd hK
  try simp (disch:=first|omega|assumption|rfl) only[go_sem,s55,s57,hi0,hi1,hxi,g]
  refine zbu (P:=Tryz.prog) (l:=[vi en.line,.bool en.blank,.slice wa en.words.length wc]) rfl (fun v hv=>by simp at hv;rcases hv with rfl|rfl|rfl<;>rfl) rfl rfl ?_
  intro v1 hE1v hs1v hBv
  try simp only[go_sem]
  refine hK _ _ ?_;clear hK hgd;clear K;try clear gd
  have q0:zad v1 (some ⟨v.heap.size,0,Option.none⟩)=some (vi en.line):=zaa hBv rfl
  have hv1:=hv.ext hE1v
  obtain⟨fvi,ovi,rvi,orvi,owvi,Gi,hv1⟩:=hv1
  refine go (an2 q0 Nat.zero_add) ?_
  refine rq ?_;intro gd K hgd hK
  try simp (disch:=first|omega|assumption|rfl) only[go_sem,s0,q0,Nat.zero_add]
  refine zaq (P:=Tryz.prog) rfl rfl rfl hv1.h (by show(5:Nat)<13;decide) (by simp) ?_
  intro v2 hs2v hb2v hk2vv
  try simp only[go_sem]
  refine hK _ _ ?_;clear hK hgd;clear K;try clear gd
  have hv2:LX D1 B v2 b fs {sti with line:=en.line} fvi ovi rvi orvi owvi Gi:=LX.turn hv1 (st':={sti with line:=en.line}) hk2vv hb2v rfl rfl hv1.fo hv1.fw hv1.ot
  have hvb:b<v.heap.size:=hv.lt
  have hBv2:=(hk2vv.block v.heap.size (by omega) (by omega)).trans hBv
  have q3:zar v2 (some ⟨v.heap.size,0,Option.none⟩) 3=some [vi en.line,.bool en.blank,.slice wa en.words.length wc]:=zal (n:=3) (l:=[vi en.line,.bool en.blank,.slice wa en.words.length wc]) hBv2 rfl
  have hkvv:za4 D1 b v v2:=(hE1v.mono fun _ _ h=>h.elim).trans (hk2vv.mono fun i _ e=>⟨by omega,by rw[e];exact hD1b⟩)
  have hE2v:Ext W0 v2:=Keep.to_ext (hE0.trans hE02) rfl (fun i hi=>by omega) (hk2v.trans hkvv)
  refine go trivial ?_
  cases hgr with
  |flt _ _ _ f _ hr1 hent=>
   refine rc (an2 s0 q3) (zij hX hE2v hb0 (st:={sti with line:=en.line}) ⟨_,_,_,_,_,_,hv2⟩ hF hfl hr1 (fun X hX=>hwords (hkvv.trans hX)) hent hc) ?_
   rintro u v3 ⟨⟨pf,hpf1,rfl,hpf3⟩,hv3,hk3v⟩
   refine rgo trivial ?_
   refine rt0 Tryz.ntmps33 ?_
   rw[hn2 (by simp)]
   exact⟨⟨pf,hpf1,rfl,hpf3⟩,hv3.step (Keep.refl _ _) (fun i hi=> .inl (by rw[hD1];exact .inl hi)),hkE.trans (hKL ((hk2v.trans hkvv).trans hk3v))⟩
  |more _ _ _ sti' _ _ hr1 hent hrest=>
   refine rc (an2 s0 q3) (zij hX hE2v hb0 (st:={sti with line:=en.line}) ⟨_,_,_,_,_,_,hv2⟩ hF hfl hr1 (fun X hX=>hwords (hkvv.trans hX)) hent hc) ?_
   rintro u v3 ⟨rfl,hv3,hk3v⟩
   refine rgo (an6 s0 s55 s56 s57 hi2 r) ?_
   exact⟨rfl,⟨(vq1 s0),(vq1 s55),(vq1 s56),(vq1 hi2)⟩,_,hv3,hrest,hkv.trans (hkvv.trans hk3v)⟩
 ·rintro σ v r ⟨⟨s0,s55,s56,s57⟩,sti,hv,hgr,hkv⟩
  rw[List.drop_length]at hgr
  cases hgr
  obtain⟨hr1,hr2,rfl⟩:=hn1 rfl
  obtain⟨fvi,ovi,rvi,orvi,owvi,Gi,hv⟩:=hv
  obtain⟨ra,rc,rfl,hrc,_⟩:=zfv hv.ow.row
  have k2v:zad v (some ⟨b,2,Option.none⟩)=some (.slice ra st1.reads.length rc):=zaa hv.h rfl
  have wl:IntKind.i64.wrap ((st1.reads.length:Int) - 1)=((st1.reads.length - 1:Nat):Int):=by rw[zcY (by omega) (by omega)];omega
  have m0:(0:Int)≤((st1.reads.length - 1:Nat):Int):=by omega
  have m1:((st1.reads.length - 1:Nat):Int)≤(rc:Int):=by omega
  refine go (an5 s0 s55 s56 s57 r) ?_
  repeat refine c_r ?_
  refine zas (Q:=fun e' σ' ds' v'=>e'= .normal∧ds'=[]∧LdX D1 B v' b fs {st1 with reads:=st1.reads.dropLast}∧za4 D1 b v v') ?_ ?_
  ·refine zaR (fun i=>i==14) [(0,true),(1,true),(2,true),(3,true),(4,true),(5,true),(6,true),(7,true),(8,true),(9,true),(10,true),(11,true),(12,true),(13,true),(14,false)] NoS mixed (by kernel_rfl) ?_;intro gd K x hgd hx hxe hK;have hx0:=zaQ hxe;clear hxe
   have k2x:=zab hx0 k2v
   simp (disch:=first|omega|assumption|rfl) only[go_sem,s0,k2x,wl,m0,m1,Nat.zero_add,Int.toNat_natCast]
   have hvx:=hv.ext hx0
   have hd:Own B x 9 (.slice ra (st1.reads.length - 1) rc) (st1.reads.dropLast.map vs):=by
    rw[List.map_dropLast]
    exact Own.dropLast hvx.ow (by rw[List.length_map];exact hr1)
   rw[show (if rc=0 then ra else adr ra 0)=ra from by split;rfl;exact zan ra,Nat.sub_zero,Nat.sub_zero]
   refine zaq (P:=Tryz.prog) rfl rfl rfl hvx.h (by show(2:Nat)<13;decide) (by simp) ?_
   intro y1 hs1y hb1y hk1y
   refine⟨.inl rfl,?_⟩
   simp (disch:=first|omega|assumption|rfl) only[go_sem]
   refine hK _ _ ?_;clear hK hgd;clear K;try clear gd
   have hfin:=LX.reads hvx (l:=st1.reads.dropLast) hd (Keep.refl _ _) (Keep.refl _ _) (fun i hi=> .inl (by cases ra<;>exact hi)) hk1y hb1y
   exact⟨rfl,rfl,⟨_,_,_,_,_,_,hfin⟩,(hx0.mono fun _ _ h=>h.elim).trans (hk1y.mono fun i _ e=>⟨by omega,by rw[e];exact hD1b⟩)⟩
  rintro _ σ2 _ v2 ⟨rfl,rfl,h2v,hk2v⟩
  refine go trivial ?_
  refine rt0 Tryz.ntmps33 ?_
  exact⟨rfl,h2v.step (Keep.refl _ _) (fun i hi=> .inl (by rw[hD1];exact .inl hi)),hkE.trans (hKL ((hk26.trans hkv).trans hk2v))⟩
theorem zii{W0:World}(hX:WX W0)(hb0:W0.heap.size≤b){fl:List (Lab×Lab)}(hfl:fl.length≤1000000):∀k,FlOk W0 B b fl (zcX fl k)
 |0=>fun _ _ _ _ _ _ _ _ _ _ h=>h.elim
 |k+1=>file_ok hX hb0 hfl (zii hX hb0 hfl k)
end
def ld0(o:Nm):LdS:=⟨[],0,o,Option.none,Option.none,Option.none,[],[],0⟩
def zg0(fl:List (Lab×Lab))(p:Lab)(o:Nm)(out:Option FltL)(st':LdS):Prop:=(∃k,zcX fl k (ld0 o) p out st')∨((zcr p fl).2=false∧out=some ⟨p,0,4⟩∧st'=ld0 o)
def LoadAt(w:World)(v:Value)(out:Option FltL)(R:List RecL):Prop:=match out with
 |Option.none=>∃rv,v= .tuple #[rv,.pointer Option.none]∧RecsAt w rv R
 |some f=>∃p,v= .tuple #[.slice Option.none 0 0,.pointer (some ⟨p,0,Option.none⟩)]∧w.heap[p]? =some (.cells #[vs f.path,vi f.line,vi f.err] 59 (0,0))
section
variable {D : Nat → Prop} {B b : Nat} {w x : World} {fs : Value → World → Prop} {st : LdS}
theorem file_no(h:LdX D B w b fs st){fl:List (Lab×Lab)}{p:Lab}(hF:∀v X,fs v X→Rows 2 zd5 X v fl)(hfl:fl.length≤1000000)(hno:(zcr p fl).2=false):
  Fn Tryz.prog 33 #[.pointer (some ⟨b,0,Option.none⟩),vs p] w (fun v w'=>OutAt b w' v (some ⟨p,0,4⟩)∧LdX D B w' b fs st∧za4 D b w w'):=by
 have hbl:=h.lt
 have hh:=h
 obtain⟨fv,ov,rv,orv,owv,G,h⟩:=h
 have k0:zad w (some ⟨b,0,Option.none⟩)=some fv:=zaa h.h rfl
 refine enter Tryz.func33 Tryz.ntmps33 rfl rfl ?_
 refine go trivial ?_
 refine rc k0 (zga (hF fv w h.ff.now) hfl p) ?_
 rintro _ w1 ⟨rfl,hE1⟩
 rw[hno]
 refine rgo Bool.not_false ?_
 refine rq ?_;intro gd K hgd hK
 try simp only[go_sem]
 refine⟨by kernel_rfl,?_⟩
 rw[show bdV Tryz.prog 59 [(0,vs p),(1,vi 0),(2,vi 4)]=some (.agg #[vs p,vi 0,vi 4]) from by kernel_rfl]
 try simp only[go_sem]
 refine hK _ _ ?_;clear hK hgd;clear K;try clear gd
 refine zam ?_
 intro w2 hE2 hs2 hA
 refine go trivial ?_
 refine rt0 Tryz.ntmps33 ?_
 have hE:=hE1.trans hE2
 have hs1:=hE1.size
 exact⟨⟨_,by omega,rfl,hA⟩,hh.ext hE,hE.mono fun _ _ h=>h.elim⟩
end
theorem zf7{w:World}(hX:WX w){fv ov:Value}{fl:List (Lab×Lab)}{p:Lab}{o:Nm}{out:Option FltL}{st':LdS}(hf:Rows 2 zd5 w fv fl)(hfl:fl.length≤1000000)(ho:Row w ov (o.map vs))(hoT:NmT o)(hq:zg0 fl p o out st'):
  Fn Tryz.prog 14 #[fv,vs p,ov] w (fun v w'=>Ext w w'∧LoadAt w' v out st'.out):=by
 obtain⟨fa,fc,rfl,_⟩:=hf.open
 obtain⟨oa,oc,rfl,_⟩:=id ho
 refine enter Tryz.func14 Tryz.ntmps14 rfl rfl ?_
 refine go trivial ?_
 refine rq ?_;intro gd K hgd hK
 try simp only[go_sem]
 refine⟨by kernel_rfl,?_⟩
 rw[show bdV Tryz.prog 83 [(2,.slice oa (o.map vs).length oc)]=some (.agg #[vs [],vi 0,.slice oa (o.map vs).length oc,.slice Option.none 0 0,.bool false,.int .u32 0,.bool false,.int .u32 0,.bool false]) from by kernel_rfl]
 try simp only[go_sem]
 refine⟨by kernel_rfl,?_⟩
 rw[show bdV Tryz.prog 85 [(0,.slice fa fl.length fc),(4,.agg #[vs [],vi 0,.slice oa (o.map vs).length oc,.slice Option.none 0 0,.bool false,.int .u32 0,.bool false,.int .u32 0,.bool false])]=some (.agg #[.slice fa fl.length fc,.slice Option.none 0 0,.slice Option.none 0 0,vi 0,vs [],vi 0,.slice oa (o.map vs).length oc,.slice Option.none 0 0,.bool false,.int .u32 0,.bool false,.int .u32 0,.bool false]) from by kernel_rfl]
 try simp only[go_sem]
 refine hK _ _ ?_;clear hK hgd;clear K;try clear gd
 repeat refine c_r ?_
 refine zam ?_
 intro w1 hE1 hs1 hA
 obtain⟨b,hb⟩:∃b,w.heap.size=b:=⟨_,rfl⟩
 rw[hb]at hA hs1 ⊢
 have nomut:∀{i:Nat},MutL NoS b (.slice Option.none 0 0) (.slice Option.none 0 0) i→i=b:=fun h=>by
  rcases h with h|h|h|h
  ·exact h
  ·cases h
  ·cases h
  ·exact h.elim
 have h0:LX NoS (b+1) w1 b (fun v X=>Rows 2 zd5 X v fl) (ld0 o) (.slice fa fl.length fc) (.slice Option.none 0 0) (.slice Option.none 0 0) (.slice oa (o.map vs).length oc) (.slice Option.none 0 0) []:=by
  refine⟨hA,by omega,by omega,Owns.nil _ _ _ _ _,Own.nil _ _ _,(fun i h=>by cases h),fun i h=>h.elim,rfl,(fun x hx=>by cases hx),fun X hX=>?_,fun X hX=>?_,rfl,hoT⟩
  ·exact hf.ext (Keep.to_ext hE1 rfl (fun i hi=>by have:=nomut hi;omega) hX)
  ·exact ho.ext (Keep.to_ext hE1 rfl (fun i hi=>by have:=nomut hi;omega) hX)
 have hfile:Fn Tryz.prog 33 #[.pointer (some ⟨b,0,Option.none⟩),vs p] w1 (fun v w'=>OutAt b w' v out∧LdX NoS (b+1) w' b (fun v X=>Rows 2 zd5 X v fl) st'∧za4 NoS b w1 w'):=by
  rcases hq with ⟨k,hk⟩| ⟨hno,rfl,rfl⟩
  ·exact zii hX (by omega) hfl k NoS w1 _ _ p out st' (fun _ _ h=>h) hE1 ⟨_,_,_,_,_,_,h0⟩ hk
  ·exact file_no ⟨_,_,_,_,_,_,h0⟩ (fun _ _ h=>h) hfl hno
 refine go trivial ?_
 refine rc trivial hfile ?_
 rintro u w2 ⟨ho2,h2,hk2⟩
 have hE2:Ext w w2:=Keep.to_ext hE1 rfl (fun i hi=>by have:=hi.1;omega) hk2
 cases out with
 |some f=>
  obtain⟨q,hq1,rfl,hq3⟩:=ho2
  refine rgo trivial ?_
  refine zaf (.inr rfl) Tryz.ntmps14 rfl (zac (vr0) (zac (vr0) zae)) ?_
  exact⟨hE2,q,rfl,hq3⟩
 |none=>
  obtain rfl:u= .pointer Option.none:=ho2
  obtain⟨fv2,ov2,rv2,orv2,owv2,G2,h2⟩:=h2
  have k1:zad w2 (some ⟨b,1,Option.none⟩)=some ov2:=zaa h2.h rfl
  have hrecs:Rows 7 (RecAt w2) w2 ov2 st'.out:=by
   obtain⟨L,g1,g2,g3⟩:=h2.oo.rows
   refine⟨L,g1,by rw[h2.ol,List.length_map];exact g2,fun i hi hi'=>?_⟩
   have hG:i<G2.length:=by omega
   have:=(h2.fr G2[i] (List.getElem_mem hG)).now
   have e:=(g3 i hi hG).1
   have e2:st'.out[i]=G2[i].1:=by simp[h2.ol]
   rw[e2,e];exact this
  obtain⟨L,g1,g2,g3⟩:=hrecs
  refine rgo trivial ?_
  refine rc k1 (S_rec.Clip_ok g1) ?_
  rintro u w3 ⟨hu,hw3⟩
  rw[hw3]at hu ⊢
  clear hw3 w3
  obtain⟨ua,uc,rfl,_⟩:=id hu
  refine rgo trivial ?_
  refine zaf (.inr rfl) Tryz.ntmps14 rfl (zac (vr0) (zac (vr0) zae)) ?_
  exact⟨hE2,_,rfl,L,hu,g2,g3⟩
theorem zeL:∀(k:Int) (T:List (Int×Lab)),(za7 k T).2=true→(k,(za7 k T).1)∈T
 |k,[],h=>by cases h
 |k,x::T,h=>by
  unfold za7 at h ⊢
  by_cases hx:x.1=k
  ·rw[if_pos hx]at h ⊢
   rw[←hx];exact List.mem_cons_self ..
  ·rw[if_neg hx]at h ⊢
   exact List.mem_cons_of_mem _ (zeL k T h)
theorem zih{s:Lab}:∀{T:List (Lab×Int)},(∀x∈T,x.1≠s)→zeh s T=(0,false)
 | [],_=>rfl
 |x::T,h=>by rw[zeh,if_neg (h x (List.mem_cons_self ..)),zih fun y hy=>h y (List.mem_cons_of_mem _ hy)]
theorem zgC{l:Lab}(h:∀c∈l,digB c=true):zaT l=l:=by
 unfold zaT
 have:∀c,digB c=true→zgD c=c:=fun c=>zct (P:=fun c=>digB c=true→zgD c=c) (by decide+kernel) c
 rw[List.map_congr_left (g:=id) fun c hc=>this c (h c hc),List.map_id]
theorem zew{k:Int}(h1:1≤k)(h2:k≤65535):zbL (tyT k)=(k,0)∧dgW (tyT k)=false∧inW (tyT k)=false∧TkB (tyT k)∧(tyT k).length≤40∧[36].isPrefixOf (tyT k)=false:=by
 have hlen:=zhb (k:=k) (by omega) (by omega)
 unfold tyT at*
 cases hf:(za7 k tyTab).2 with
 |true=>
  have hm:=zeL k tyTab hf
  rw[if_pos rfl]
  have key:∀x∈tyTab,zbL x.2=(x.1,0)∧dgW x.2=false∧inW x.2=false∧x.2.all plnB=true∧x.2≠ []∧x.2.length≤40∧[36].isPrefixOf x.2=false:=by decide+kernel
  obtain⟨a,b,c,d,e,f,g⟩:=key _ hm
  exact⟨a,b,c,zcx e fun x hx=>List.all_eq_true.1 d x hx,f,g⟩
 |false=>
  rw[if_neg (by decide)]
  rw[hf,if_neg (by decide)]at hlen
  obtain⟨n,rfl⟩:∃n:Nat,k=(n:Int):=⟨k.toNat,by omega⟩
  rw[zep]at hlen ⊢
  have hdg:=zbG n
  have hfl:zaT ([84,89,80,69]++Lib.decDigits n)=[116,121,112,101]++Lib.decDigits n:=by
   have:zaT ([84,89,80,69]++Lib.decDigits n)=zaT [84,89,80,69]++zaT (Lib.decDigits n):=by unfold zaT;rw[List.map_append]
   rw[this,zgC hdg]
   rfl
  have hno:zeh ([116,121,112,101]++Lib.decDigits n) nyTab=(0,false):=zih fun x hx e=>by
   have h4:x.1.take 4=[116,121,112,101]:=by rw[e];rfl
   have key:∀x∈nyTab,¬x.1.take 4=[116,121,112,101]:=by decide+kernel
   exact key x hx h4
  have hp:([116,121,112,101]:Lab).isPrefixOf ([116,121,112,101]++Lib.decDigits n)=true:=by simp
  have ht:Lib.trimPrefix ([116,121,112,101]++Lib.decDigits n) [116,121,112,101]=Lib.decDigits n:=by
   unfold Lib.trimPrefix
   rw[if_pos (by unfold Lib.hasPrefix;simp)]
   rfl
  refine⟨?_,?_,?_,zcx (by simp) fun c hc=>?_,hlen,rfl⟩
  ·unfold zbL
   rw[hfl,hno,hp,ht,zcs (by omega)]
   rw[if_neg (by decide),if_neg (by simp),if_neg (by simp;omega)]
  ·unfold dgW
   have:¬Lib.trimS ([84,89,80,69]++Lib.decDigits n) digs10=[]:=fun e=>by
    have:=(zdy _).1 e
    have:=List.all_eq_true.1 this 84 (by simp)
    exact absurd this (by decide)
   rw[decide_eq_false this,Bool.and_false]
  ·unfold inW
   rw[hfl]
   exact decide_eq_false fun e=>by cases e
  ·rcases List.mem_append.1 hc with h|h
   ·exact(by decide:∀c∈([84,89,80,69]:Lab),plnB c=true) c h
   ·exact zhv (hdg c h)
def zfy(r:RecL):List (Lab×Bool):=(zaD r.owner,false)::(numT r.ttl,false)::([73,78],false)::(tyT r.dat.ty,false)::wF false (za0 hexU r.dat) [] false
theorem zhS{r:RecL}(h:RecG r):Toks (recT r) (zfy r)∧Prn (recT r):=by
 obtain⟨⟨t1,t2⟩,_,_,_,_,_⟩:=za6 h.chk
 obtain⟨hd,hp⟩:=zgN h.chk
 have hty:=(zew t1 t2).2.2.2.1
 have hin:TkB [73,78]:=zcx (by simp) (by decide)
 have e:recT r=zaD r.owner++([32]++(numT r.ttl++([32]++([73,78]++([32]++(tyT r.dat.ty++([32]++za0 hexU r.dat))))))):=by
  unfold recT
  rw[zaI,zaI,zaI,zaI,zb2]
 have p32:Prn [32]:=by unfold Prn;decide
 rw[e]
 exact⟨zbt (zcZ _) (zbt (zcl _) (zbt hin (zbt hty hd))),(zcZ _).p.app (p32.app ((zcl _).p.app (p32.app (hin.p.app (p32.app (hty.p.app (p32.app hp)))))))⟩
theorem prn_line{s:Lab}(h:Prn s):ze3 s:=by
 have h10:∀c,prnB c=true→c≠10∧c≠13:=fun c=>zct (P:=fun c=>prnB c=true→c≠10∧c≠13) (by decide+kernel) c
 refine⟨fun e=>(h10 _ (h _ e)).1 rfl,fun e=>?_⟩
 exact(h10 13 (h 13 (List.mem_of_getLast? e))).2 rfl
theorem zhZ{o:Nm}{d:DatL}(hc:zbe d=0)(hT:DatT d):zei d.ty (wF false (za0 hexU d) [] false) o d 0:=fun w wv oa on oc hX hr ho hoT=>by
 refine Fn.mono (back_ok hX ho hoT hc hT hr) ?_
 rintro v w' ⟨hE,cs,rfl,hg⟩
 exact⟨hE,cs,rfl,(zfs hg).1,(zfs hg).2,fun _=>hg⟩
theorem zjs{s:Lab}{ws:List (Lab×Bool)}(h:Toks s ws):∀x∈ws,x.1.length≤s.length:=by
 induction h with
 |nil=>intro x hx;cases hx
 |blank c s ws _ _ ih=>intro x hx;have:=ih x hx;simp;omega
 |semi s=>intro x hx;cases hx
 |word p s ws _ _ _ _ ih=>
  intro x hx
  rw[List.length_append]
  rcases List.mem_cons.1 hx with rfl|hx
  ·exact Nat.le_add_right _ _
  ·have:=ih x hx;omega
 |quot q s ws _ _ ih=>
  intro x hx
  rcases List.mem_cons.1 hx with rfl|hx
  ·simp;omega
  ·have:=ih x hx;simp;omega
theorem zfZ{d:DatL}(hc:zbe d=0)(hF:DatF d)(hN:zlh d):(za0 hexU d).length≤90000:=by
 obtain⟨⟨t1,t2⟩,hf,hnm,_,_,_⟩:=za6 hc
 obtain⟨f1,f2,f3,f4,f5⟩:=hF.f4
 have f8:=hF.n8
 by_cases h1:d.ty=1
 ·obtain⟨_,_,_,h4⟩:=zbg hf (a:=0) (c:=0) (r:=4) (by rw[h1];rfl)
  have h4:=h4 (by decide)
  rw[zhI hf h1]
  have a:=zb3 [46] (d.raw.map fun c=>Lib.decDigits c.toNat)
  have b:zau (d.raw.map fun c=>Lib.decDigits c.toNat)≤20*d.raw.length:=za2 fun c _=>by have:=zbb 19 c.toNat (by have:=c.toNat_lt;omega);omega
  rw[List.length_map]at a
  simp only[List.length_cons,List.length_nil]at a
  omega
 by_cases h28:d.ty=28
 ·obtain⟨h16,htx⟩:=tx_28 hf h28
  rw[htx]
  have a:=zb3 [58] ((List.range 8).map (zdl d.raw))
  have b:zau ((List.range 8).map (zdl d.raw))≤4*(List.range 8).length:=za2 fun i _=>by
   have g1:=(d.raw.getD (2*i) 0).toNat_lt
   have g2:=(d.raw.getD (2*i+1) 0).toNat_lt
   exact zc5 3 _ (by omega)
  rw[List.length_map,List.length_range]at a
  rw[List.length_range]at b
  simp only[List.length_cons,List.length_nil]at a
  omega
 by_cases h16:d.ty=16
 ·rw[tx_16 hf h16]
  have a:=zb3 [32] (d.texts.map quoT)
  have b:zau (d.texts.map quoT)≤1300*d.texts.length:=za2 fun t ht=>by
   have h1:=zb0 t
   have h2:=f3 t ht
   unfold quoT
   rw[List.length_cons,List.length_append]
   show _+1+1≤_
   omega
  have c:1300*d.texts.length≤1300*40:=Nat.mul_le_mul_left _ f2
  rw[List.length_map]at a
  simp only[List.length_cons,List.length_nil]at a
  omega
 by_cases h15:d.ty=15
 ·obtain⟨m,n,hm,hn,htx⟩:=tx_15 hf h15
  rw[htx]
  have a:=zcq (hN.1 m (by rw[hm];simp)).2
  have b:=zc0 (hnm n (by rw[hn];simp))
  simp only[List.length_append,List.length_cons,List.length_nil]
  omega
 by_cases hn:d.ty=2∨d.ty=5∨d.ty=12∨d.ty=39∨d.ty=6
 ·rw[zem hf hn]
  have a:=zb3 [32] (d.names.map zaD++d.nums.map numT)
  rw[zdJ,List.length_append,List.length_map,List.length_map]at a
  have b:zau (d.names.map zaD)≤2000*d.names.length:=za2 fun n hn=>zc0 (hnm n hn)
  have c:zau (d.nums.map numT)≤20*d.nums.length:=za2 fun m hm=>zcq (hN.1 m hm).2
  have b2:2000*d.names.length≤2000*8:=Nat.mul_le_mul_left _ f8
  have c2:20*d.nums.length≤20*12:=Nat.mul_le_mul_left _ f1
  simp only[List.length_cons,List.length_nil]at a
  omega
 ·rw[zhJ hf (by omega)]
  have a:=zbb 19 d.raw.length (by omega)
  have b:=zb4 d.raw
  simp only[List.length_append,List.length_cons,List.length_nil]
  split<;>simp only[List.length_cons,List.length_nil]<;>omega
theorem zkg(n:Nm):[36].isPrefixOf (zaD n)=false:=by
 have h36:∀c,∃x r,labB c=x::r∧x≠36:=fun c=>by
  have:∀c,((labB c).headD 36 !=36)=true:=fun c=>zct (P:=fun c=>((labB c).headD 36 !=36)=true) (by decide+kernel) c
  have h:=this c
  cases hl:labB c with
  |nil=>rw[hl]at h;cases h
  |cons x r=>rw[hl]at h;exact⟨x,r,rfl,by simpa using h⟩
 have key:∀x r,x≠36→[36].isPrefixOf (x::r:Lab)=false:=fun x r h=>by
  simp[List.isPrefixOf,Ne.symm h]
 unfold zaD
 split
 ·rfl
 ·cases n with
  |nil=>rename_i h;exact absurd rfl h
  |cons l n=>
   cases l with
   |nil=>exact key 46 _ (by decide)
   |cons c l=>
    obtain⟨x,r,e,hx⟩:=h36 c
    rw[List.flatMap_cons,show zat (c::l)=labB c++zat l from by unfold zat;rw[List.flatMap_cons],e]
    exact key x _ hx
theorem zh5{n:Nat}:dgW (Lib.decDigits n)=true∧inW (Lib.decDigits n)=false:=by
 have h1:Lib.trimS (Lib.decDigits n) digs10=[]:=(zdy _).2 (List.all_eq_true.2 fun c hc=>zbG n c hc)
 refine⟨?_,?_⟩
 ·unfold dgW
  rw[decide_eq_false (zeO n),decide_eq_true h1];rfl
 ·unfold inW
  rw[zgC (zbG n)]
  refine decide_eq_false fun e=>?_
  have:=zbG n 105 (by rw[e];simp)
  exact absurd this (by decide)
theorem rec_ent{fl:List (Lab×Lab)}{inc:LdS→Lab→Option FltL→LdS→Prop}{st:LdS}{r:RecL}(h:RecG r)(ho:st.out.length<4096)(ln:Int):
  EntIs fl inc {st with line:=ln} ⟨ln,false,zfy r⟩ Option.none {st with line:=ln,owner:=some r.owner,last:=some r.ttl,out:=st.out++ [r]}:=by
 obtain⟨⟨t1,t2⟩,_,_,_,_,_⟩:=za6 h.chk
 obtain⟨p1,p2,p3,_,p5,_⟩:=zew t1 t2
 have hdl:=zfZ h.chk h.dat h.num
 have hdt:=(zgN h.chk).1
 have hwl:=zft hdt
 have hwe:=zjs hdt
 have hnt:=zc0 h.own
 obtain⟨τ,hτ⟩:∃τ:Nat,r.ttl=(τ:Int):=⟨r.ttl.toNat,by have:=h.ttl;omega⟩
 have hτm:τ≤2147483647:=by have:=h.ttl;omega
 have hnum:numT r.ttl=Lib.decDigits τ:=by unfold numT;rw[hτ];rfl
 have hnl:=zbb 19 τ (by omega)
 have hnm:=zdH (o:=st.origin) h.own
 obtain⟨W,hW⟩:∃W,wF false (za0 hexU r.dat) [] false=W:=⟨_,rfl⟩
 have hhd:zbX 0 false false ((numT r.ttl,false)::([73,78],false)::(tyT r.dat.ty,false)::W)=[(0,true),(1,false)]:=by
  rw[hnum]
  have i1:dgW [73,78]=false∧inW [73,78]=true:=by decide+kernel
  rw[zbX,show goH (Lib.decDigits τ,false) false false=true from by unfold goH;rw[zh5.1,zh5.2];rfl,if_pos rfl,zh5.1,zh5.2]
  rw[zbX,show goH (([73,78]:Lab),false) (false||true) (false||false)=true from by unfold goH;rw[i1.1,i1.2];rfl,if_pos rfl,i1.1,i1.2]
  rw[zbX,show goH (tyT r.dat.ty,false) ((false||true)||false) ((false||false)||true)=false from by unfold goH;rw[p2,p3];rfl,if_neg (by decide)]
 have hF:=few_D h.dat h.num
 have hT:DatT r.dat:=hF.1
 have e:zfy r=(zaD r.owner,false)::(numT r.ttl,false)::([73,78],false)::(tyT r.dat.ty,false)::W:=by unfold zfy;rw[hW]
 rw[hW]at hwl hwe
 rw[e]
 have hdec:decP 2147483647 (Lib.decDigits τ)=(τ,0):=zcs hτm
 have hrec:RecR {st with line:=ln} false ((zaD r.owner,false)::(numT r.ttl,false)::([73,78],false)::(tyT r.dat.ty,false)::W) 0 {st with line:=ln,owner:=some r.owner,last:=some r.ttl,out:=st.out++ [r]}:=by
  refine RecR.named _ _ _ _ (by omega) (by rw[hnm]) ?_
  refine⟨by simp only[List.length_cons];omega,fun x hx=>?_,fun y hy hd=>?_,?_,rfl⟩
  ·rcases List.mem_cons.1 hx with rfl|hx
   ·show(numT r.ttl).length≤_;rw[hnum];omega
   rcases List.mem_cons.1 hx with rfl|hx
   ·decide
   rcases List.mem_cons.1 hx with rfl|hx
   ·show(tyT r.dat.ty).length≤_;omega
   ·have:=hwe x hx;omega
  ·rw[hhd]at hy
   rcases List.mem_cons.1 hy with rfl|hy
   ·show(decP 2147483647 (numT r.ttl)).2=0
    rw[hnum,hdec]
   ·rw[List.mem_singleton.1 hy]at hd;cases hd
  ·rw[hhd]
   have htm:tmH ((numT r.ttl,false)::([73,78],false)::(tyT r.dat.ty,false)::W) [(0,true),(1,false)]=some r.ttl:=by
    show some (((decP 2147483647 (numT r.ttl)).1:Nat):Int)=_
    rw[hnum,hdec,hτ]
   rw[htm]
   show AddR _ (some r.ttl) ((tyT r.dat.ty,false)::W) 0 _
   refine AddR.data _ _ r.dat 0 _ (by omega) (by rw[p1]) (by rw[p1,←hW];exact zhZ h.chk hT) (.inr ⟨rfl,ho,r.owner,r.ttl,by rw[hnm],rfl,?_⟩)
   rw[hnm]
 have:=EntIs.rcd (fl:=fl) (inc:=inc) ln _ _ 0 _ (by simp only[List.length_cons];omega) (zkg r.owner) hrec
 exact this
theorem hexT_two(l:List UInt8):(hexT l).length=2*l.length:=by
 induction l with
 |nil=>rfl
 |cons c l ih=>
  have:hexT (c::l)=hexB c++hexT l:=rfl
  rw[this,List.length_append,ih,List.length_cons,show(hexB c).length=2 from rfl]
  omega
theorem zlb{w:World}{cs:List Value}{d:DatL}(hd:DatAt w cs d)(hT:DatT d)(hf:zbh d=true)(ht:d.ty=1):Fn Tryz.prog 31 #[.agg cs.toArray] w (fun v w'=>v=vs (za0 hexU d)∧Ext w w'):=by
 have hS:=hT.s
 have hnl:=hT.nn
 have hul:=hS.nu
 have htl:=hS.nt
 have hrl:=hS.nr
 obtain⟨nm,nu,tx,rw',rfl,⟨vals,⟨an,cn,rfl,hcn,hgn⟩,hvl,hvr⟩,hnu,htx,hrw⟩:=hd.ex
 obtain⟨au,cu,hau,hcu,hgu⟩:=id hnu
 obtain⟨at1,ct,hat,hgt⟩:=zbw htx
 obtain⟨ar,cr,har,hcr,hgr⟩:=id hrw
 rw[List.length_map]at hau har hcu hcr
 subst hau
 subst hat
 subst har
 refine enter Tryz.func31 Tryz.ntmps31 rfl rfl ?_
 refine go trivial ?_
 refine zam ?_
 intro w1 hE1 hs1 hA
 have p0:zad w1 (some ⟨w.heap.size,0,Option.none⟩)=some (vi d.ty):=zaa hA rfl
 have p1:zad w1 (some ⟨w.heap.size,1,Option.none⟩)=some (.slice an vals.length cn):=zaa hA rfl
 have p2:zad w1 (some ⟨w.heap.size,2,Option.none⟩)=some (.slice au d.nums.length cu):=zaa hA rfl
 have p3:zad w1 (some ⟨w.heap.size,3,Option.none⟩)=some (.slice at1 d.texts.length ct):=zaa hA rfl
 have p4:zad w1 (some ⟨w.heap.size,4,Option.none⟩)=some (.slice ar d.raw.length cr):=zaa hA rfl
 obtain⟨p,hp⟩:∃p,w.heap.size=p:=⟨_,rfl⟩
 rw[hp]at p0 p1 p2 p3 p4 hA ⊢
 refine go (an9 p0 (Nat.add_zero 0) (decide_eq_true ht) trivial trivial trivial trivial trivial trivial) ?_
 refine za3 d.raw.length (fun i σ v=>(σ 1= .pointer (some ⟨p,0,Option.none⟩)∧σ 4=vi i∧∃sv,σ 3=sv∧Own w1.heap.size v 9 sv (((d.raw.map fun c=>Lib.decDigits c.toNat).take i).map vs))∧Ext w1 v) ?_ ?_ ?_
 ·exact⟨⟨vr0,vr0,_,vr0,Own.nil _ _ _⟩,Keep.refl _ _⟩
 ·rintro i σ v hi ⟨r1,r2,r3,r4⟩ ⟨⟨s1,s4,sv,s3,hown⟩,hE⟩
  have hEv:=hE1.trans hE
  have q:=zab hE p4
  have g0:=hgr i (by rw[List.length_map];exact hi)
  rw[List.getElem_map]at g0
  obtain⟨xT,rfl⟩:=Option.isSome_iff_exists.1 (zaj g0)
  have g:=zab hEv g0
  obtain⟨c,hx⟩:∃c,d.raw[i]=c:=⟨_,rfl⟩
  rw[hx]at g
  have hcl:=c.toNat_lt
  have hbc:zao c= .int .u8 (c.toNat:Int):=rfl
  have hwc:IntKind.i64.wrap (c.toNat:Int)=(c.toNat:Int):=zbo (by omega) (by omega)
  have hsE:=hE.size
  refine go (an6 s1 s4 s3 q (Nat.zero_add 4) r1) ?_
  refine rq ?_;intro gd K hgd hK
  try simp (disch:=first|omega|assumption|rfl) only[go_sem,s1,s3,s4,q,Nat.zero_add,r2,r3,g,hbc,hwc]
  refine Fn.mono (zbF v c.toNat (by omega) (by omega)) ?_
  rintro _ y1 ⟨rfl,hy1⟩
  try simp only[go_sem]
  refine za5 (z:=vs []) rfl rfl rfl rfl rfl ?_
  intro y2 hy2 hys2 hyo
  try simp (disch:=first|omega|assumption|rfl) only[go_sem,s3]
  have hxy:=hy1.trans hy2
  have hsxy:=hxy.size
  refine zaV (B:=w1.heap.size) (hown.ext hxy) hyo.row rfl rfl rfl rfl rfl rfl ((vr1 s3)) (vr0) (fun q hq=>by rw[List.mem_singleton.1 hq];rfl) (by simp;omega) (by decide) (by omega) ?_
  intro sv' y3 hown3 hX3 hK3 hb3
  try simp only[go_sem]
  refine hK _ _ ?_;clear hK hgd;clear K;try clear gd
  refine go (an3 s1 s4 r4) ?_
  refine⟨rfl,⟨(vq1 s1),(vq1 r4),sv',vr0,?_⟩,hX3 w1 (hE.trans hxy) (Nat.le_refl _)⟩
  have hiL:i<(d.raw.map fun c=>Lib.decDigits c.toNat).length:=by simp;omega
  rw[zai hiL,List.map_append]
  simp only[List.getElem_map,hx]
  exact hown3
 rintro σ v r ⟨⟨s1,s4,sv,s3,hown⟩,hE⟩
 have q:=zab hE p4
 rw[List.take_of_length_le (show(d.raw.map fun c=>Lib.decDigits c.toNat).length≤d.raw.length by simp)]at hown
 refine go (an6 s1 s4 s3 q (Nat.zero_add 4) r) ?_
 have hlens:zau (d.raw.map fun c=>Lib.decDigits c.toNat)≤1000000000000:=by
  have:=za2 (m:=20) (l:=d.raw) (f:=fun c=>Lib.decDigits c.toNat) fun c _=>by have:=zbb 19 c.toNat (by have:=c.toNat_lt;omega);omega
  omega
 refine rc s3 (zde hown.row (sep:=[46]) (by decide) (by simp;omega) hlens) ?_
 rintro _ y ⟨rfl,hy⟩
 refine rgo trivial ?_
 refine rt0 Tryz.ntmps31 ?_
 exact⟨by rw[zhI hf ht],(hE1.trans hE).trans hy⟩
theorem zjb{w:World}{cs:List Value}{d:DatL}(hd:DatAt w cs d)(hT:DatT d)(hf:zbh d=true)(ht:d.ty=16):Fn Tryz.prog 31 #[.agg cs.toArray] w (fun v w'=>v=vs (za0 hexU d)∧Ext w w'):=by
 have hS:=hT.s
 have hnl:=hT.nn
 have hul:=hS.nu
 have htl:=hS.nt
 have hrl:=hS.nr
 obtain⟨nm,nu,tx,rw',rfl,⟨vals,⟨an,cn,rfl,hcn,hgn⟩,hvl,hvr⟩,hnu,htx,hrw⟩:=hd.ex
 obtain⟨au,cu,hau,hcu,hgu⟩:=id hnu
 obtain⟨at1,ct,hat,hgt⟩:=zbw htx
 obtain⟨ar,cr,har,hcr,hgr⟩:=id hrw
 rw[List.length_map]at hau har hcu hcr
 subst hau
 subst hat
 subst har
 refine enter Tryz.func31 Tryz.ntmps31 rfl rfl ?_
 refine go trivial ?_
 refine zam ?_
 intro w1 hE1 hs1 hA
 have p0:zad w1 (some ⟨w.heap.size,0,Option.none⟩)=some (vi d.ty):=zaa hA rfl
 have p1:zad w1 (some ⟨w.heap.size,1,Option.none⟩)=some (.slice an vals.length cn):=zaa hA rfl
 have p2:zad w1 (some ⟨w.heap.size,2,Option.none⟩)=some (.slice au d.nums.length cu):=zaa hA rfl
 have p3:zad w1 (some ⟨w.heap.size,3,Option.none⟩)=some (.slice at1 d.texts.length ct):=zaa hA rfl
 have p4:zad w1 (some ⟨w.heap.size,4,Option.none⟩)=some (.slice ar d.raw.length cr):=zaa hA rfl
 obtain⟨p,hp⟩:∃p,w.heap.size=p:=⟨_,rfl⟩
 rw[hp]at p0 p1 p2 p3 p4 hA ⊢
 refine go (an9 p0 (Nat.add_zero 0) (show decide (d.ty=1)=false from decide_eq_false (by omega)) (show decide (d.ty=28)=false from decide_eq_false (by omega)) (decide_eq_true ht) trivial trivial trivial trivial) ?_
 refine za3 d.texts.length (fun i σ v=>(σ 1= .pointer (some ⟨p,0,Option.none⟩)∧σ 6=vi i∧∃sv,σ 3=sv∧Own w1.heap.size v 9 sv (((d.texts.map quoT).take i).map vs))∧Ext w1 v) ?_ ?_ ?_
 ·exact⟨⟨vr0,vr0,_,vr0,Own.nil _ _ _⟩,Keep.refl _ _⟩
 ·rintro i σ v hi ⟨r1,r2,r3,r4⟩ ⟨⟨s1,s4,sv,s3,hown⟩,hE⟩
  have hEv:=hE1.trans hE
  have q:=zab hE p3
  obtain⟨xT,rfl,g0⟩:=hgt i hi
  have g:=zab hEv g0
  obtain⟨t,hx⟩:∃t,d.texts[i]=t:=⟨_,rfl⟩
  rw[hx]at g
  have htt:=hS.tx t (hx▸List.getElem_mem hi)
  have hsE:=hE.size
  refine go (an6 s1 s4 s3 q (Nat.zero_add 3) r1) ?_
  refine rq ?_;intro gd K hgd hK
  try simp (disch:=first|omega|assumption|rfl) only[go_sem,s1,s3,s4,q,Nat.zero_add,r2,r3,g]
  refine Fn.mono (zjd v t (by omega)) ?_
  rintro _ y1 ⟨rfl,hy1⟩
  try simp only[go_sem]
  refine za5 (z:=vs []) rfl rfl rfl rfl rfl ?_
  intro y2 hy2 hys2 hyo
  try simp (disch:=first|omega|assumption|rfl) only[go_sem,s3]
  have hxy:=hy1.trans hy2
  have hsxy:=hxy.size
  refine zaV (B:=w1.heap.size) (hown.ext hxy) hyo.row rfl rfl rfl rfl rfl rfl ((vr1 s3)) (vr0) (fun q hq=>by rw[List.mem_singleton.1 hq];rfl) (by simp;omega) (by decide) (by omega) ?_
  intro sv' y3 hown3 hX3 hK3 hb3
  try simp only[go_sem]
  refine hK _ _ ?_;clear hK hgd;clear K;try clear gd
  refine go (an3 s1 s4 r4) ?_
  refine⟨rfl,⟨(vq1 s1),(vq1 r4),sv',vr0,?_⟩,hX3 w1 (hE.trans hxy) (Nat.le_refl _)⟩
  have hiL:i<(d.texts.map quoT).length:=by simp;omega
  rw[zai hiL,List.map_append]
  simp only[List.getElem_map,hx]
  exact hown3
 rintro σ v r ⟨⟨s1,s4,sv,s3,hown⟩,hE⟩
 have q:=zab hE p3
 rw[List.take_of_length_le (show(d.texts.map quoT).length≤d.texts.length by simp)]at hown
 refine go (an6 s1 s4 s3 q (Nat.zero_add 3) r) ?_
 have hlens:zau (d.texts.map quoT)≤1000000000000:=by
  have:=za2 (m:=5000) (l:=d.texts) (f:=quoT) fun t ht=>by have h1:=zb0 t;have h2:=hS.tx t ht;unfold quoT;simp;omega
  omega
 refine rc s3 (zde hown.row (sep:=[32]) (by decide) (by simp;omega) hlens) ?_
 rintro _ y ⟨rfl,hy⟩
 refine rgo trivial ?_
 refine rt0 Tryz.ntmps31 ?_
 exact⟨by rw[tx_16 hf ht],(hE1.trans hE).trans hy⟩
theorem zk9{w:World}{cs:List Value}{d:DatL}(hd:DatAt w cs d)(hT:DatT d)(hf:zbh d=true)(ht:d.ty=2∨d.ty=5∨d.ty=12∨d.ty=39∨d.ty=6):Fn Tryz.prog 31 #[.agg cs.toArray] w (fun v w'=>v=vs (za0 hexU d)∧Ext w w'):=by
 have hS:=hT.s
 have hnl:=hT.nn
 have hul:=hS.nu
 have htl:=hS.nt
 have hrl:=hS.nr
 obtain⟨nm,nu,tx,rw',rfl,⟨vals,⟨an,cn,rfl,hcn,hgn⟩,hvl,hvr⟩,hnu,htx,hrw⟩:=hd.ex
 obtain⟨au,cu,hau,hcu,hgu⟩:=id hnu
 obtain⟨at1,ct,hat,hgt⟩:=zbw htx
 obtain⟨ar,cr,har,hcr,hgr⟩:=id hrw
 rw[List.length_map]at hau har hcu hcr
 subst hau
 subst hat
 subst har
 refine enter Tryz.func31 Tryz.ntmps31 rfl rfl ?_
 refine go trivial ?_
 refine zam ?_
 intro w1 hE1 hs1 hA
 have p0:zad w1 (some ⟨w.heap.size,0,Option.none⟩)=some (vi d.ty):=zaa hA rfl
 have p1:zad w1 (some ⟨w.heap.size,1,Option.none⟩)=some (.slice an vals.length cn):=zaa hA rfl
 have p2:zad w1 (some ⟨w.heap.size,2,Option.none⟩)=some (.slice au d.nums.length cu):=zaa hA rfl
 have p3:zad w1 (some ⟨w.heap.size,3,Option.none⟩)=some (.slice at1 d.texts.length ct):=zaa hA rfl
 have p4:zad w1 (some ⟨w.heap.size,4,Option.none⟩)=some (.slice ar d.raw.length cr):=zaa hA rfl
 obtain⟨p,hp⟩:∃p,w.heap.size=p:=⟨_,rfl⟩
 rw[hp]at p0 p1 p2 p3 p4 hA ⊢
 have htx2:=zem hf ht
 rcases ht with h|h|h|h|h
 all_goals
  rw[h]at p0
  refine go (an2 p0 (Nat.add_zero 0)) ?_
  refine za3 vals.length (fun i σ v=>(σ 1= .pointer (some ⟨p,0,Option.none⟩)∧σ 7=vi i∧∃sv,σ 3=sv∧Own w1.heap.size v 9 sv (((d.names.map zaD).take i).map vs))∧Ext w1 v) ?_ ?_ ?_
  ·exact⟨⟨vr0,vr0,_,vr0,Own.nil _ _ _⟩,Keep.refl _ _⟩
  ·rintro i σ v hi ⟨r1,r2,r3,r4⟩ ⟨⟨s1,s4,sv,s3,hown⟩,hE⟩
   have hEv:=hE1.trans hE
   have q:=zab hE p1
   have g0:=hgn i hi
   obtain⟨xN,rfl⟩:=Option.isSome_iff_exists.1 (zaj g0)
   have g:=zab hEv g0
   have hin:i<d.names.length:=by omega
   have hrow:=(hvr i hi hin).ext hEv
   obtain⟨nv,hnv⟩:∃nv,vals[i]=nv:=⟨_,rfl⟩
   obtain⟨n,hx⟩:∃n,d.names[i]=n:=⟨_,rfl⟩
   rw[hnv]at g hrow
   rw[hx]at hrow
   have hnS:=hS.names n (hx▸List.getElem_mem hin)
   have hsE:=hE.size
   refine go (an6 s1 s4 s3 q (Nat.zero_add 1) r1) ?_
   refine rq ?_;intro gd K hgd hK
   try simp (disch:=first|omega|assumption|rfl) only[go_sem,s1,s3,s4,q,Nat.zero_add,r2,r3,g]
   refine Fn.mono (zcT v nv n hrow (fun l hl=>by have:=hnS.1 l hl;omega) hnS.2) ?_
   rintro _ y1 ⟨rfl,hy1⟩
   try simp only[go_sem]
   refine za5 (z:=vs []) rfl rfl rfl rfl rfl ?_
   intro y2 hy2 hys2 hyo
   try simp (disch:=first|omega|assumption|rfl) only[go_sem,s3]
   have hxy:=hy1.trans hy2
   have hsxy:=hxy.size
   refine zaV (B:=w1.heap.size) (hown.ext hxy) hyo.row rfl rfl rfl rfl rfl rfl ((vr1 s3)) (vr0) (fun q hq=>by rw[List.mem_singleton.1 hq];rfl) (by simp;omega) (by decide) (by omega) ?_
   intro sv' y3 hown3 hX3 hK3 hb3
   try simp only[go_sem]
   refine hK _ _ ?_;clear hK hgd;clear K;try clear gd
   refine go (an3 s1 s4 r4) ?_
   refine⟨rfl,⟨(vq1 s1),(vq1 r4),sv',vr0,?_⟩,hX3 w1 (hE.trans hxy) (Nat.le_refl _)⟩
   have hiL:i<(d.names.map zaD).length:=by simp;omega
   rw[zai hiL,List.map_append]
   simp only[List.getElem_map,hx]
   exact hown3
  rintro σ v r ⟨⟨s1,s4,sv,s3,hown⟩,hE⟩
  have q:=zab hE p1
  rw[List.take_of_length_le (show(d.names.map zaD).length≤vals.length by simp;omega)]at hown
  refine go (an6 s1 s4 s3 q (Nat.zero_add 1) r) ?_
  refine za3 d.nums.length (fun i σ v=>(σ 1= .pointer (some ⟨p,0,Option.none⟩)∧σ 8=vi i∧∃sv,σ 3=sv∧Own w1.heap.size v 9 sv ((d.names.map zaD).map vs++((d.nums.map numT).take i).map vs))∧Ext w1 v) ?_ ?_ ?_
  ·exact⟨⟨(vr1 s1),vr0,_,(vr1 s3),by rw[List.take_zero,List.map_nil,List.append_nil];exact hown⟩,hE⟩
  clear s1 s3 hown hE
  ·rintro i σ v hi ⟨r1,r2,r3,r4⟩ ⟨⟨s1,s4,sv,s3,hown⟩,hE⟩
   have hEv:=hE1.trans hE
   have q:=zab hE p2
   have g0:=hgu i (by rw[List.length_map];exact hi)
   rw[List.getElem_map]at g0
   obtain⟨xU,rfl⟩:=Option.isSome_iff_exists.1 (zaj g0)
   have g:=zab hEv g0
   obtain⟨m,hx⟩:∃m,d.nums[i]=m:=⟨_,rfl⟩
   rw[hx]at g
   have hmv:=hS.nv m (hx▸List.getElem_mem hi)
   obtain⟨k,rfl⟩:∃k:Nat,m=(k:Int):=⟨m.toNat,by omega⟩
   have hwc:IntKind.i64.wrap (k:Int)=(k:Int):=zbo (by omega) (by omega)
   have hvc:v32 (k:Int)= .int .u32 (k:Int):=rfl
   have hsE:=hE.size
   refine go (an6 s1 s4 s3 q (Nat.zero_add 2) r1) ?_
   refine rq ?_;intro gd K hgd hK
   try simp (disch:=first|omega|assumption|rfl) only[go_sem,s1,s3,s4,q,Nat.zero_add,r2,r3,g,hwc,hvc]
   refine Fn.mono (zbF v k (by omega) (by omega)) ?_
   rintro _ y1 ⟨rfl,hy1⟩
   try simp only[go_sem]
   refine za5 (z:=vs []) rfl rfl rfl rfl rfl ?_
   intro y2 hy2 hys2 hyo
   try simp (disch:=first|omega|assumption|rfl) only[go_sem,s3]
   have hxy:=hy1.trans hy2
   have hsxy:=hxy.size
   refine zaV (B:=w1.heap.size) (hown.ext hxy) hyo.row rfl rfl rfl rfl rfl rfl ((vr1 s3)) (vr0) (fun q hq=>by rw[List.mem_singleton.1 hq];rfl) (by simp;omega) (by decide) (by omega) ?_
   intro sv' y3 hown3 hX3 hK3 hb3
   try simp only[go_sem]
   refine hK _ _ ?_;clear hK hgd;clear K;try clear gd
   refine go (an3 s1 s4 r4) ?_
   refine⟨rfl,⟨(vq1 s1),(vq1 r4),sv',vr0,?_⟩,hX3 w1 (hE.trans hxy) (Nat.le_refl _)⟩
   have hiL:i<(d.nums.map numT).length:=by simp;omega
   rw[zai hiL,List.map_append,←List.append_assoc]
   simp only[List.getElem_map,hx]
   exact hown3
  rintro σ v r ⟨⟨s1,s4,sv,s3,hown⟩,hE⟩
  have q:=zab hE p2
  rw[List.take_of_length_le (show(d.nums.map numT).length≤d.nums.length by simp)]at hown
  refine go (an6 s1 s4 s3 q (Nat.zero_add 2) r) ?_
  rw[←List.map_append]at hown
  have hlens:zau (d.names.map zaD++d.nums.map numT)≤1000000000000:=by
   have g1:zau (d.names.map zaD)≤5000000*d.names.length:=za2 fun n hn=>zcz (hS.names n hn).1 (hS.names n hn).2
   have g2:zau (d.nums.map numT)≤20*d.nums.length:=za2 fun n hn=>zcq (hS.nv n hn).2
   have g3:∀a b:List Lab,zau (a++b)=zau a+zau b:=fun a b=>by unfold zau;rw[List.map_append,List.sum_append]
   rw[g3];omega
  refine rc s3 (zde hown.row (sep:=[32]) (by decide) (by simp;omega) hlens) ?_
  rintro _ y ⟨rfl,hy⟩
  refine rgo trivial ?_
  refine rt0 Tryz.ntmps31 ?_
  exact⟨by rw[htx2],(hE1.trans hE).trans hy⟩
theorem zjc{w:World}{cs:List Value}{d:DatL}(hd:DatAt w cs d)(hT:DatT d)(hf:zbh d=true)(ht:d.ty=15):Fn Tryz.prog 31 #[.agg cs.toArray] w (fun v w'=>v=vs (za0 hexU d)∧Ext w w'):=by
 have hS:=hT.s
 have hnl:=hT.nn
 have hul:=hS.nu
 have htl:=hS.nt
 have hrl:=hS.nr
 obtain⟨nm,nu,tx,rw',rfl,⟨vals,⟨an,cn,rfl,hcn,hgn⟩,hvl,hvr⟩,hnu,htx,hrw⟩:=hd.ex
 obtain⟨au,cu,hau,hcu,hgu⟩:=id hnu
 obtain⟨at1,ct,hat,hgt⟩:=zbw htx
 obtain⟨ar,cr,har,hcr,hgr⟩:=id hrw
 rw[List.length_map]at hau har hcu hcr
 subst hau
 subst hat
 subst har
 refine enter Tryz.func31 Tryz.ntmps31 rfl rfl ?_
 refine go trivial ?_
 refine zam ?_
 intro w1 hE1 hs1 hA
 have p0:zad w1 (some ⟨w.heap.size,0,Option.none⟩)=some (vi d.ty):=zaa hA rfl
 have p1:zad w1 (some ⟨w.heap.size,1,Option.none⟩)=some (.slice an vals.length cn):=zaa hA rfl
 have p2:zad w1 (some ⟨w.heap.size,2,Option.none⟩)=some (.slice au d.nums.length cu):=zaa hA rfl
 have p3:zad w1 (some ⟨w.heap.size,3,Option.none⟩)=some (.slice at1 d.texts.length ct):=zaa hA rfl
 have p4:zad w1 (some ⟨w.heap.size,4,Option.none⟩)=some (.slice ar d.raw.length cr):=zaa hA rfl
 obtain⟨p,hp⟩:∃p,w.heap.size=p:=⟨_,rfl⟩
 rw[hp]at p0 p1 p2 p3 p4 hA ⊢
 refine go (an9 p0 (Nat.add_zero 0) (show decide (d.ty=1)=false from decide_eq_false (by omega)) (show decide (d.ty=28)=false from decide_eq_false (by omega)) (show decide (d.ty=16)=false from decide_eq_false (by omega)) (decide_eq_true ht) trivial trivial trivial) ?_
 obtain⟨m,n,hm,hn,htx2⟩:=tx_15 hf ht
 have hu1:d.nums.length=1:=by rw[hm];rfl
 have hn1:d.names.length=1:=by rw[hn];rfl
 have g0:=hgu 0 (by rw[List.length_map];omega)
 rw[List.getElem_map,show d.nums[0]=m from by simp[hm]]at g0
 obtain⟨xU,rfl⟩:=Option.isSome_iff_exists.1 (zaj g0)
 have g1:=hgn 0 (by omega)
 have hrow:=hvr 0 (by omega) (by omega)
 rw[show d.names[0]=n from by simp[hn]]at hrow
 obtain⟨xN,rfl⟩:=Option.isSome_iff_exists.1 (zaj g1)
 obtain⟨nv,hnv⟩:∃nv,vals[0]'(by omega)=nv:=⟨_,rfl⟩
 rw[hnv]at g1 hrow
 have hmv:=hS.nv m (by rw[hm];simp)
 obtain⟨k,rfl⟩:∃k:Nat,m=(k:Int):=⟨m.toNat,by omega⟩
 have hnS:=hS.names n (by rw[hn];simp)
 have hwc:IntKind.i64.wrap (k:Int)=(k:Int):=zbo (by omega) (by omega)
 have hvc:v32 (k:Int)= .int .u32 (k:Int):=rfl
 have i0:(0:Int)<(d.nums.length:Int):=by omega
 have i1:(0:Int)<(vals.length:Int):=by omega
 rw[zan]at g0 g1
 refine zaR (fun _=>false) [(0,true),(1,true),(2,true),(3,true),(4,true),(7,true),(8,true),(9,true),(10,true),(5,false),(6,true),(11,false),(12,true),(13,true)] NoS mixed (by kernel_rfl) ?_;intro gd K x hgd hx hxe hK;have hx0:=zaQ hxe;clear hxe
 have hEx:=hE1.trans hx0
 have q1:=zab hx0 p1
 have q2:=zab hx0 p2
 have u0:=zab hEx g0
 have u1:=zab hEx g1
 simp (disch:=first|omega|assumption|rfl) only[go_sem,q1,q2,u0,u1,i0,i1,hvc,hwc,Nat.zero_add,Int.toNat_zero,Nat.zero_mul,zan]
 refine Fn.mono (zbF x k (by omega) (by omega)) ?_
 rintro _ y1 ⟨rfl,hy1⟩
 refine⟨.inr hy1.keep,?_⟩
 have hdl:=zbb 19 k (by omega)
 have a1:(Lib.decDigits k).length+([32]:List UInt8).length≤9223372036854775807:=by simp;omega
 simp (disch:=first|omega|assumption|rfl) only[go_sem,a1]
 refine Fn.mono (zcT y1 nv n (hrow.ext (hEx.trans hy1)) (fun l hl=>by have:=hnS.1 l hl;omega) hnS.2) ?_
 rintro _ y2 ⟨rfl,hy2⟩
 refine⟨.inr hy2.keep,?_⟩
 have htl2:=zcz hnS.1 hnS.2
 have a2:(Lib.decDigits k++ [32]).length+(zaD n).length≤9223372036854775807:=by simp;omega
 simp (disch:=first|omega|assumption|rfl) only[go_sem,a2]
 refine hK _ _ ?_;clear hK hgd;clear K;try clear gd
 refine go trivial ?_
 refine rt0 Tryz.ntmps31 ?_
 exact⟨by rw[htx2];rfl,(hEx.trans hy1).trans hy2⟩
theorem zla{w:World}{cs:List Value}{d:DatL}(hd:DatAt w cs d)(hT:DatT d)(hf:zbh d=true)(ht:¬(d.ty=1∨d.ty=28∨d.ty=16∨d.ty=15∨d.ty=2∨d.ty=5∨d.ty=12∨d.ty=39∨d.ty=6)):Fn Tryz.prog 31 #[.agg cs.toArray] w (fun v w'=>v=vs (za0 hexU d)∧Ext w w'):=by
 have hS:=hT.s
 have hnl:=hT.nn
 have hul:=hS.nu
 have htl:=hS.nt
 have hrl:=hS.nr
 obtain⟨nm,nu,tx,rw',rfl,⟨vals,⟨an,cn,rfl,hcn,hgn⟩,hvl,hvr⟩,hnu,htx,hrw⟩:=hd.ex
 obtain⟨au,cu,hau,hcu,hgu⟩:=id hnu
 obtain⟨at1,ct,hat,hgt⟩:=zbw htx
 obtain⟨ar,cr,har,hcr,hgr⟩:=id hrw
 rw[List.length_map]at hau har hcu hcr
 subst hau
 subst hat
 subst har
 refine enter Tryz.func31 Tryz.ntmps31 rfl rfl ?_
 refine go trivial ?_
 refine zam ?_
 intro w1 hE1 hs1 hA
 have p0:zad w1 (some ⟨w.heap.size,0,Option.none⟩)=some (vi d.ty):=zaa hA rfl
 have p1:zad w1 (some ⟨w.heap.size,1,Option.none⟩)=some (.slice an vals.length cn):=zaa hA rfl
 have p2:zad w1 (some ⟨w.heap.size,2,Option.none⟩)=some (.slice au d.nums.length cu):=zaa hA rfl
 have p3:zad w1 (some ⟨w.heap.size,3,Option.none⟩)=some (.slice at1 d.texts.length ct):=zaa hA rfl
 have p4:zad w1 (some ⟨w.heap.size,4,Option.none⟩)=some (.slice ar d.raw.length cr):=zaa hA rfl
 obtain⟨p,hp⟩:∃p,w.heap.size=p:=⟨_,rfl⟩
 rw[hp]at p0 p1 p2 p3 p4 hA ⊢
 refine go (an2 (an2 p0 (Nat.add_zero 0)) (an9 (show decide (d.ty=1)=false from decide_eq_false (by omega)) (show decide (d.ty=28)=false from decide_eq_false (by omega)) (show decide (d.ty=16)=false from decide_eq_false (by omega)) (show decide (d.ty=15)=false from decide_eq_false (by omega)) (show decide (d.ty=2)=false from decide_eq_false (by omega)) (show decide (d.ty=5)=false from decide_eq_false (by omega)) (show decide (d.ty=12)=false from decide_eq_false (by omega)) (show decide (d.ty=39)=false from decide_eq_false (by omega)) (show decide (d.ty=6)=false from decide_eq_false (by omega)))) ?_
 refine rc (an2 p4 (Nat.zero_add 4)) (zbF w1 d.raw.length (by omega) (by omega)) ?_
 rintro _ w2 ⟨rfl,hE2⟩
 have hdl:=zbb 19 d.raw.length (by omega)
 have p4':=zab hE2 p4
 have hE12:=hE1.trans hE2
 have a1:([92,35,32]:List UInt8).length+(Lib.decDigits d.raw.length).length≤9223372036854775807:=by simp;omega
 have a2:(([92,35,32]:List UInt8)++Lib.decDigits d.raw.length).length+([32]:List UInt8).length≤9223372036854775807:=by simp;omega
 have a3:(92::35::32::Lib.decDigits d.raw.length).length+([32]:List UInt8).length≤9223372036854775807:=by simp;omega
 have htx2:=zhJ hf ht
 obtain⟨hd0,hhd⟩:∃l,(([92,35,32]:Lab)++Lib.decDigits d.raw.length++if 0<d.raw.length then [32] else [])=l:=⟨_,rfl⟩
 have hhl:hd0.length≤100:=by rw[←hhd];split<;>simp<;>omega
 rw[hhd]at htx2
 by_cases h0:0<d.raw.length
 all_goals
  first
   |rw[if_pos h0]at hhd
   |rw[if_neg h0,List.append_nil]at hhd
  have hz:decide ((0:Int)<(d.raw.length:Int))=decide (0<d.raw.length):=decide_eq_decide.2 (by omega)
  first
   |rw[decide_eq_true h0]at hz
   |rw[decide_eq_false h0]at hz
  refine rgo (an6 p4' (Nat.zero_add 4) a1 a2 hz a3) ?_
  refine za3 d.raw.length (fun i σ v=>(σ 1= .pointer (some ⟨p,0,Option.none⟩)∧σ 10=vi i∧σ 9=vs (hd0++hexT (d.raw.take i)))∧Ext w2 v) ?_ ?_ ?_
  ·exact⟨⟨vr0,vr0,by rw[List.take_zero,show hexT []=[] from rfl,List.append_nil,←hhd];first| (simp only[go_sem];done)| (simp only[go_sem];rfl)⟩,Keep.refl _ _⟩
  ·rintro i σ v hi ⟨r1,r2,r3,r4⟩ ⟨⟨s1,s10,s9⟩,hE⟩
   have hEv:=hE12.trans hE
   have q:=zab hE p4'
   have g0:=hgr i (by rw[List.length_map];exact hi)
   rw[List.getElem_map]at g0
   obtain⟨xT,rfl⟩:=Option.isSome_iff_exists.1 (zaj g0)
   have g:=zab hEv g0
   obtain⟨c,hx⟩:∃c,d.raw[i]=c:=⟨_,rfl⟩
   rw[hx]at g
   have hcl:=c.toNat_lt
   have hbc:zao c= .int .u8 (c.toNat:Int):=rfl
   have hwc:IntKind.i64.wrap (c.toNat:Int)=(c.toNat:Int):=zbo (by omega) (by omega)
   have htk:hexT (d.raw.take (i+1))=hexT (d.raw.take i)++hexB c:=by
    rw[zai hi,hx]
    unfold hexT
    rw[List.flatMap_append]
    simp
   have hlen:(hexT (d.raw.take i)).length≤4000:=by rw[hexT_two,List.length_take];omega
   have a3:(hd0++hexT (d.raw.take i)).length+(hexB c).length≤9223372036854775807:=by have:(hexB c).length=2:=rfl;rw[List.length_append];omega
   refine go (an6 s1 s10 s9 q (Nat.zero_add 4) r1) ?_
   refine rq ?_;intro gd K hgd hK
   try simp (disch:=first|omega|assumption|rfl) only[go_sem,s1,s10,s9,q,Nat.zero_add,r2,r3,g,hbc,hwc]
   refine Fn.mono (zlc v (n:=c.toNat) (wd:=2) (by omega) (by decide)) ?_
   rintro _ y1 ⟨rfl,hy1⟩
   rw[hexR_two (by omega),show([hexD (c.toNat / 16),hexD (c.toNat % 16)]:Lab)=hexB c from rfl]
   try simp (disch:=first|omega|assumption|rfl) only[go_sem,s9,a3]
   refine hK _ _ ?_;clear hK hgd;clear K;try clear gd
   refine go (an3 s1 s10 r4) ?_
   exact⟨rfl,⟨(vq1 s1),(vq1 r4),by rw[htk,←List.append_assoc];first| (simp only[go_sem];done)| (simp only[go_sem];rfl)⟩,hE.trans hy1⟩
  ·rintro σ v r ⟨⟨s1,s10,s9⟩,hE⟩
   have q:=zab hE p4'
   rw[List.take_length]at s9
   refine go (an6 s1 s10 s9 q (Nat.zero_add 4) r) ?_
   refine rt1 s9 Tryz.ntmps31 ?_
   exact⟨by rw[htx2],hE12.trans hE⟩
theorem zja{w:World}{cs:List Value}{d:DatL}(hd:DatAt w cs d)(hT:DatT d)(hf:zbh d=true)(ht:d.ty=28):Fn Tryz.prog 31 #[.agg cs.toArray] w (fun v w'=>v=vs (za0 hexU d)∧Ext w w'):=by
 have hS:=hT.s
 have hnl:=hT.nn
 have hul:=hS.nu
 have htl:=hS.nt
 have hrl:=hS.nr
 obtain⟨nm,nu,tx,rw',rfl,⟨vals,⟨an,cn,rfl,hcn,hgn⟩,hvl,hvr⟩,hnu,htx,hrw⟩:=hd.ex
 obtain⟨au,cu,hau,hcu,hgu⟩:=id hnu
 obtain⟨at1,ct,hat,hgt⟩:=zbw htx
 obtain⟨ar,cr,har,hcr,hgr⟩:=id hrw
 rw[List.length_map]at hau har hcu hcr
 subst hau
 subst hat
 subst har
 refine enter Tryz.func31 Tryz.ntmps31 rfl rfl ?_
 refine go trivial ?_
 refine zam ?_
 intro w1 hE1 hs1 hA
 have p0:zad w1 (some ⟨w.heap.size,0,Option.none⟩)=some (vi d.ty):=zaa hA rfl
 have p1:zad w1 (some ⟨w.heap.size,1,Option.none⟩)=some (.slice an vals.length cn):=zaa hA rfl
 have p2:zad w1 (some ⟨w.heap.size,2,Option.none⟩)=some (.slice au d.nums.length cu):=zaa hA rfl
 have p3:zad w1 (some ⟨w.heap.size,3,Option.none⟩)=some (.slice at1 d.texts.length ct):=zaa hA rfl
 have p4:zad w1 (some ⟨w.heap.size,4,Option.none⟩)=some (.slice ar d.raw.length cr):=zaa hA rfl
 obtain⟨p,hp⟩:∃p,w.heap.size=p:=⟨_,rfl⟩
 rw[hp]at p0 p1 p2 p3 p4 hA ⊢
 refine go (an9 p0 (Nat.add_zero 0) (show decide (d.ty=1)=false from decide_eq_false (by omega)) (decide_eq_true ht) trivial trivial trivial trivial trivial) ?_
 obtain⟨hr16,htx2⟩:=tx_28 hf ht
 obtain⟨L,hL⟩:∃L,(List.range 8).map (zdl d.raw)=L:=⟨_,rfl⟩
 have hL8:L.length=8:=by rw[←hL];rfl
 have hLi:∀i (h:i<L.length),L[i]=zdl d.raw i:=fun i h=>by
  have h2:L[i]? =some (zdl d.raw i):=by
   rw[←hL,List.getElem?_map,List.getElem?_range (by omega)]
   rfl
  rw[List.getElem?_eq_getElem h]at h2
  exact Option.some.inj h2
 rw[hL]at htx2
 have e16:(d.raw.length:Int)=16:=by omega
 rw[hr16]at p4
 refine za3 8 (fun i σ v=>(σ 1= .pointer (some ⟨p,0,Option.none⟩)∧σ 5=vi (2*i:Nat)∧∃sv,σ 3=sv∧Own w1.heap.size v 9 sv ((L.take i).map vs))∧Ext w1 v) ?_ ?_ ?_
 ·exact⟨⟨vr0,vr0,_,vr0,Own.nil _ _ _⟩,Keep.refl _ _⟩
 ·rintro i σ v hi _ ⟨⟨s1,s4,sv,s3,hown⟩,hE⟩
  have hEv:=hE1.trans hE
  have hsE:=hE.size
  have hsE1:=hE1.size
  have q:=zab hE p4
  have ga:=hgr (2*i) (by rw[List.length_map];omega)
  have gb:=hgr (2*i+1) (by rw[List.length_map];omega)
  rw[List.getElem_map]at ga gb
  obtain⟨xT,rfl⟩:=Option.isSome_iff_exists.1 (zaj ga)
  obtain⟨xa,hxa⟩:∃x,adr (some xT) (2*i)=some x:=⟨_,rfl⟩
  obtain⟨xb,hxb⟩:∃x,adr (some xT) (2*i+1)=some x:=⟨_,rfl⟩
  rw[hxa]at ga
  rw[hxb]at gb
  have la:=zds ga
  have lb:=zds gb
  obtain⟨ca,hca⟩:∃c,d.raw[2*i]'(by omega)=c:=⟨_,rfl⟩
  obtain⟨cb,hcb⟩:∃c,d.raw[2*i+1]'(by omega)=c:=⟨_,rfl⟩
  rw[hca]at ga
  rw[hcb]at gb
  have hpu:zdl d.raw i=hexU (ca.toNat*256+cb.toNat):=by
   unfold zdl
   rw[List.getD_eq_getElem?_getD,List.getElem?_eq_getElem (show 2*i<d.raw.length by omega),List.getD_eq_getElem?_getD,List.getElem?_eq_getElem (show 2*i+1<d.raw.length by omega),hca,hcb]
   rfl
  have hal:=ca.toNat_lt
  have hbl:=cb.toNat_lt
  have hbca:zao ca= .int .u8 (ca.toNat:Int):=rfl
  have hbcb:zao cb= .int .u8 (cb.toNat:Int):=rfl
  have hwa:IntKind.i64.wrap (ca.toNat:Int)=(ca.toNat:Int):=zbo (by omega) (by omega)
  have hwb:IntKind.i64.wrap (cb.toNat:Int)=(cb.toNat:Int):=zbo (by omega) (by omega)
  have hwm:IntKind.i64.wrap ((ca.toNat:Int)*256)=((ca.toNat*256:Nat):Int):=by rw[zbo (by omega) (by omega)];omega
  have hwd:IntKind.i64.wrap (((ca.toNat*256:Nat):Int)+(cb.toNat:Int))=((ca.toNat*256+cb.toNat:Nat):Int):=by rw[zbo (by omega) (by omega)];omega
  have i1:((2*i:Nat):Int)+1=((2*i+1:Nat):Int):=by omega
  have i2:((2*i:Nat):Int)+2=((2*(i+1):Nat):Int):=by omega
  have j0:(0:Int)≤((2*i:Nat):Int):=by omega
  have j1:(0:Int)≤((2*i+1:Nat):Int):=by omega
  have j2:((2*i:Nat):Int)<((16:Nat):Int):=by omega
  have j3:((2*i+1:Nat):Int)<((16:Nat):Int):=by omega
  have t1:((2*i:Nat):Int).toNat=2*i:=rfl
  have t2:((2*i+1:Nat):Int).toNat=2*i+1:=rfl
  refine go (an9 s1 s4 s3 q (Nat.zero_add 4) i1 (decide_eq_true j3) trivial trivial) ?_
  refine zaR (fun _=>false) [(0,true),(1,true),(2,true),(3,true),(4,true),(5,true),(6,true),(7,true),(8,true),(9,true),(10,true),(11,true),(12,true),(13,true),(14,true),(15,true),(16,false),(17,false),(18,false),(19,true)] (zcQ w1.heap.size) mixed (by kernel_rfl) ?_;intro gd K x hgd hx hxe hK;have hx0:=zaQ hxe;clear hxe
  have hxs:=hx0.size
  have qx:=zab hx0 q
  have gax:=zab (hEv.trans hx0) ga
  have gbx:=zab (hEv.trans hx0) gb
  simp (disch:=first|omega|assumption|rfl) only[go_sem,s1,s3,s4,qx,gax,gbx,i1,j0,j1,j2,j3,t1,t2,hxa,hxb,Nat.zero_add,Nat.mul_one,hbca,hbcb,hwa,hwb,hwm,hwd]
  refine⟨zbj (by omega),zj5 (by omega),zbj (by omega),zj5 (by omega),?_⟩
  refine Fn.mono (zlc x (n:=ca.toNat*256+cb.toNat) (wd:=1) (by omega) (by decide)) ?_
  rintro _ y1 ⟨rfl,hy1⟩
  refine⟨.inr hy1.keep,?_⟩
  rw[hexR_one,←hpu]
  simp (disch:=first|omega|assumption|rfl) only[go_sem]
  refine za5 (z:=vs []) rfl rfl rfl rfl rfl ?_
  intro y2 hy2 hys2 hyo
  refine⟨.inr hy2.keep,?_⟩
  simp (disch:=first|omega|assumption|rfl) only[go_sem]
  have hxy:=(hx0.trans hy1).trans hy2
  have hsxy:=hxy.size
  refine zaV (B:=w1.heap.size) (hown.ext hxy) hyo.row rfl rfl rfl rfl rfl rfl ((vr1 s3)) (vr0) (fun q hq=>by rw[List.mem_singleton.1 hq];rfl) (by simp;omega) (by decide) (by omega) ?_
  intro sv' y3 hown3 hX3 hK3 hb3
  refine⟨.inr (hK3.mono fun b _ hb=>by have:=(hown.ge hb).1;show _≤_;omega),?_⟩
  simp (disch:=first|omega|assumption|rfl) only[go_sem]
  refine hK _ _ ?_;clear hK hgd;clear K;try clear gd
  refine go (an3 s1 s4 i2) ?_
  refine⟨rfl,⟨(vq1 s1),(vq1 i2),sv',vr0,?_⟩,hX3 w1 (hE.trans hxy) (Nat.le_refl _)⟩
  have hiL:i<L.length:=by omega
  rw[zai hiL,List.map_append,hLi i hiL]
  exact hown3
 rintro σ v _ ⟨⟨s1,s4,sv,s3,hown⟩,hE⟩
 have q:=zab hE p4
 rw[List.take_of_length_le (show L.length≤8 by omega)]at hown
 have i1:((2*8:Nat):Int)+1=17:=rfl
 have d1:decide ((17:Int)<((16:Nat):Int))=false:=rfl
 refine go (an6 s1 s4 s3 q (Nat.zero_add 4) (an2 i1 d1)) ?_
 have hlens:zau L≤1000000000000:=by
  rw[←hL]
  have:=za2 (m:=10) (l:=List.range 8) (f:=zdl d.raw) fun i _=>by
   unfold zdl
   have h1:=((d.raw.getD (2*i) 0).toNat_lt)
   have h2:=((d.raw.getD (2*i+1) 0).toNat_lt)
   have:=zc5 3 ((d.raw.getD (2*i) 0).toNat*256+(d.raw.getD (2*i+1) 0).toNat) (by omega)
   omega
  rw[List.length_range]at this
  omega
 refine rc s3 (zde hown.row (sep:=[58]) (by decide) (by omega) hlens) ?_
 rintro _ y ⟨rfl,hy⟩
 refine rgo trivial ?_
 refine rt0 Tryz.ntmps31 ?_
 exact⟨by rw[htx2],(hE1.trans hE).trans hy⟩
theorem zgX{w:World}{cs:List Value}{d:DatL}(hd:DatAt w cs d)(hT:DatT d)(hf:zbh d=true):Fn Tryz.prog 31 #[.agg cs.toArray] w (fun v w'=>v=vs (za0 hexU d)∧Ext w w'):=by
 by_cases h1:d.ty=1
 ·exact zlb hd hT hf h1
 by_cases h28:d.ty=28
 ·exact zja hd hT hf h28
 by_cases h16:d.ty=16
 ·exact zjb hd hT hf h16
 by_cases h15:d.ty=15
 ·exact zjc hd hT hf h15
 by_cases hn:d.ty=2∨d.ty=5∨d.ty=12∨d.ty=39∨d.ty=6
 ·exact zk9 hd hT hf hn
 ·exact zla hd hT hf (by omega)
theorem zlv(w:World):Fn Tryz.prog 42 #[vi 2] w (fun v w'=>v=vs [102,111,114,109]∧w'=w):=by
 refine enter Tryz.func42 Tryz.ntmps42 rfl rfl ?_
 refine go (an3 (show decide ((2:Int)=0)=false from rfl) (show decide ((2:Int)=1)=false from rfl) (show decide ((2:Int)=2)=true from rfl)) ?_
 refine rt0 Tryz.ntmps42 ?_
 exact⟨rfl,rfl⟩
theorem zgb{w:World}(hX:WX w){p:Nat}{path:Lab}{line:Int}(hp:w.heap[p]? =some (.cells #[vs path,vi line,vi 2] 59 (0,0)))(hl0:0≤line)(hl:line≤1000000)(hpl:path.length≤1000):
  Fn Tryz.prog 20 #[.pointer (some ⟨p,0,Option.none⟩)] w (fun v w'=>v=vs (path++ [58]++Lib.itoa line++ [58,32]++ [102,111,114,109])∧Ext w w'):=by
 have k0:zad w (some ⟨p,0,Option.none⟩)=some (vs path):=zaa hp rfl
 have k1:zad w (some ⟨p,1,Option.none⟩)=some (vi line):=zaa hp rfl
 have k2:zad w (some ⟨p,2,Option.none⟩)=some (vi 2):=zaa hp rfl
 have hil:=zfQ (n:=line) (by omega) (by omega)
 refine enter Tryz.func20 Tryz.ntmps20 rfl rfl ?_
 refine go trivial ?_
 refine zaR (fun _=>false) [(0,true),(1,true),(2,true),(3,true),(4,true),(5,true),(6,true),(7,true),(8,true),(12,true),(13,true),(14,true),(15,true),(9,false),(10,true),(11,true),(16,false),(17,true),(18,true)] NoS mixed (by kernel_rfl) ?_;intro gd K x hgd hx hxe hK;have hx0:=zaQ hxe;clear hxe
 have k0x:=zab hx0 k0
 have k1x:=zab hx0 k1
 have l1:path.length+([58]:Lab).length≤9223372036854775807:=by simp;omega
 have k2x:=zab hx0 k2
 simp (disch:=first|omega|assumption|rfl) only[go_sem,k0x,k1x,k2x,Nat.zero_add,Nat.add_zero,l1]
 refine Fn.mono (zlo (hX.ext hx0) line (by omega) (by omega)) ?_
 rintro _ y1 ⟨rfl,hy1⟩
 refine⟨.inr hy1.keep,?_⟩
 have l2:(path++ [58]).length+(Lib.itoa line).length≤9223372036854775807:=by simp;omega
 have l3:(path++ [58]++Lib.itoa line).length+([58,32]:Lab).length≤9223372036854775807:=by simp;omega
 have k2y:=zab hy1 k2x
 simp (disch:=first|omega|assumption|rfl) only[go_sem,k2y,l2,l3,Nat.zero_add]
 refine Fn.mono (zlv y1) ?_
 rintro _ v' ⟨rfl,hv'⟩
 rw[hv']
 clear hv' v'
 refine⟨.inr (Keep.refl _ _),?_⟩
 have l4:(path++ [58]++Lib.itoa line++ [58,32]).length+([102,111,114,109]:Lab).length≤9223372036854775807:=by simp;omega
 simp (disch:=first|omega|assumption|rfl) only[go_sem,l4]
 refine hK _ _ ?_;clear hK hgd;clear K;try clear gd
 refine go trivial ?_
 refine rt0 Tryz.ntmps20 ?_
 exact⟨rfl,hx0.trans hy1⟩
def tysL:List Int:=tyTab.map Prod.fst
def tynL:List Lab:=tyTab.map Prod.snd
theorem zi8(w:World):Fn Tryz.prog 80 #[] w (fun v w'=>Row w' v (tysL.map vi)∧Ext w w'):=by
 refine enter Tryz.func80 Tryz.ntmps80 rfl rfl ?_
 refine go trivial ?_
 refine rq ?_;intro gd K hgd hK
 try simp only[go_sem]
 refine zdu (z:=vi 0) (l:=tysL.map vi) rfl rfl rfl rfl rfl rfl (fun v hv=>by obtain⟨l,_,rfl⟩:=List.mem_map.1 hv;rfl) (by decide) ?_
 intro w2 hE2 hs2 ho
 try simp only[go_sem]
 refine hK _ _ ?_;clear hK hgd;clear K;try clear gd
 refine go trivial ?_
 refine rt0 Tryz.ntmps80 ?_
 exact⟨ho.row,hE2⟩
theorem row_atI{w:World}{v:Value}{ps:List Int}(h:Row w v (ps.map vi)):∃a c,v= .slice a ps.length c∧∀i (hi:i<ps.length),∃x,a=some x∧zad w (adr (some x) i)=some (vi ps[i]):=by
 obtain⟨a,c,rfl,_,hg⟩:=h
 refine⟨a,c,by rw[List.length_map],fun i hi=>?_⟩
 have g:=hg i (by rw[List.length_map];exact hi)
 rw[List.getElem_map]at g
 obtain⟨x,rfl⟩:=Option.isSome_iff_exists.1 (zaj g)
 exact⟨x,rfl,g⟩
theorem zed(w:World)(t:Int):Fn Tryz.prog 55 #[vi t] w (fun v w'=>v=vs (za7 t tyTab).1∧Ext w w'):=by
 refine enter Tryz.func55 Tryz.ntmps55 rfl rfl ?_
 refine go trivial ?_
 refine rc trivial (zi8 w) ?_
 rintro tv w1 ⟨htv,hE1⟩
 refine rgo trivial ?_
 obtain⟨a,c,rfl,hg⟩:=row_atI htv
 rw[show tysL.length=9 from rfl]
 refine rq ?_;intro gd K hgd hK
 try simp only[go_sem]
 refine zdu (z:=vs []) (l:=tynL.map vs) rfl rfl rfl rfl rfl rfl (fun v hv=>by obtain⟨l,_,rfl⟩:=List.mem_map.1 hv;rfl) (by decide) ?_
 intro w2 hE2 hs2 ho
 try simp only[go_sem]
 refine hK _ _ ?_;clear hK hgd;clear K;try clear gd
 obtain⟨b,hb⟩:∃b,w1.heap.size=b:=⟨_,rfl⟩
 rw[hb]at ho ⊢
 obtain⟨aw,cw',hw10,_,hgw⟩:=ho.row
 injection hw10 with hw1 hw2 hw3
 have gw:∀i (hi:i<9) (h9:i<tynL.length),zad w2 (some ⟨b,i,Option.none⟩)=some (vs tynL[i]):=fun i hi h9=>by
  have h:=hgw i (by simpa using h9)
  rw[←hw1,List.getElem_map]at h
  have ea:∀n,adr (some ⟨b,0,Option.none⟩) n=some ⟨b,n,Option.none⟩:=fun n=>by rw[zaY,Nat.zero_add]
  rw[ea]at h
  exact h
 refine go trivial ?_
 refine za3 9 (fun i σ v=>(σ 5=vi i∧σ 0=vi t∧σ 3= .slice a 9 c∧σ 4= .slice (some ⟨b,0,Option.none⟩) 9 9)∧v=w2∧za7 t tyTab=za7 t (tyTab.drop i)) ?_ ?_ ?_
 ·exact⟨⟨vr0,vq0,vq0,vr0⟩,rfl,rfl⟩
 ·rintro i σ v hi r ⟨s,rfl,ht⟩
  have hi':i<tysL.length:=hi
  have hi2:i<tynL.length:=hi
  have hi3:i<tyTab.length:=hi
  obtain⟨x1,rfl,g1⟩:=hg i hi'
  have g1:=zab hE2 g1
  rw[List.drop_eq_getElem_cons hi3]at ht
  obtain⟨⟨k,l⟩,hk⟩:∃x,tyTab[i]=x:=⟨_,rfl⟩
  have e1:tysL[i]'hi'=k:=Option.some.inj ((List.getElem?_eq_getElem hi').symm.trans (by unfold tysL;rw[List.getElem?_map,List.getElem?_eq_getElem hi3,hk];rfl))
  have e2:tynL[i]'hi2=l:=Option.some.inj ((List.getElem?_eq_getElem hi2).symm.trans (by unfold tynL;rw[List.getElem?_map,List.getElem?_eq_getElem hi3,hk];rfl))
  have g1:=g1.trans (congrArg (fun z=>some (vi z)) e1)
  have g2:=(gw i hi hi2).trans (congrArg (fun z=>some (vs z)) e2)
  rw[hk,za7]at ht
  refine go (an2 s r) ?_
  by_cases h:k=t
  ·refine go (an7 s r g1 (decide_eq_true h) g2 Nat.zero_add Nat.mul_one) ?_
   refine rt0 Tryz.ntmps55 ?_
   rw[if_pos h]at ht
   exact⟨by rw[ht],hE1.trans hE2⟩
  ·refine go (an4 s r g1 (decide_eq_false h)) ?_
   rw[if_neg h]at ht
   exact⟨rfl,sc (an2 s r),rfl,ht⟩
 ·rintro σ v r ⟨s,rfl,ht⟩
  refine go (an2 s r) ?_
  refine rt0 Tryz.ntmps55 ?_
  have:za7 t (tyTab.drop 9)=([],false):=rfl
  exact⟨by rw[ht,this],hE1.trans hE2⟩
theorem findT_ne(t:Int):decide ((za7 t tyTab).1=[])=!(za7 t tyTab).2:=by
 cases h:(za7 t tyTab).2 with
 |true=>
  have:=zeL t tyTab h
  have key:∀x∈tyTab,x.2≠ []:=by decide
  rw[decide_eq_false (key _ this)];rfl
 |false=>
  have:∀T:List (Int×Lab),(za7 t T).2=false→(za7 t T).1=[]:=fun T=>by
   induction T with
   |nil=>intro _;rfl
   |cons x T ih=>
    intro h
    unfold za7 at h ⊢
    split
    ·rename_i hx;rw[if_pos hx]at h;cases h
    ·rename_i hx;rw[if_neg hx]at h;exact ih h
  rw[this _ h];rfl
theorem zlm(w:World)(t:Int):Fn Tryz.prog 54 #[vi t] w (fun v w'=>v= .bool (za7 t tyTab).2∧Ext w w'):=by
 refine enter Tryz.func54 Tryz.ntmps54 rfl rfl ?_
 refine go trivial ?_
 refine rc trivial (zed w t) ?_
 rintro _ w1 ⟨rfl,hE⟩
 refine rgo trivial ?_
 refine rt0 Tryz.ntmps54 ?_
 exact⟨by rw[findT_ne,Bool.not_not],hE⟩
theorem zgW(w:World)(t:Int)(h1:1≤t)(h2:t≤65535):Fn Tryz.prog 30 #[vi t] w (fun v w'=>v=vs (tyT t)∧Ext w w'):=by
 obtain⟨n,rfl⟩:∃n:Nat,t=(n:Int):=⟨t.toNat,by omega⟩
 refine enter Tryz.func30 Tryz.ntmps30 rfl rfl ?_
 refine go trivial ?_
 refine rc trivial (zlm w n) ?_
 rintro _ w1 ⟨rfl,hE1⟩
 unfold tyT
 cases hf:(za7 (n:Int) tyTab).2 with
 |true=>
  rw[if_pos rfl]
  refine rgo trivial ?_
  refine rc trivial (zed w1 n) ?_
  rintro _ w2 ⟨rfl,hE2⟩
  refine rgo trivial ?_
  refine rt0 Tryz.ntmps30 ?_
  exact⟨rfl,hE1.trans hE2⟩
 |false=>
  rw[if_neg (by decide),zep]
  have hdl:=zbb 19 n (by omega)
  have l1:([84,89,80,69]:Lab).length+(Lib.decDigits n).length≤9223372036854775807:=by simp;omega
  refine rgo trivial ?_
  refine rc trivial (zbF w1 n (by omega) (by omega)) ?_
  rintro _ w2 ⟨rfl,hE2⟩
  refine rgo l1 ?_
  refine rt0 Tryz.ntmps30 ?_
  exact⟨rfl,hE1.trans hE2⟩
theorem recG_T{r:RecL}(h:RecG r):RecT r∧RecOk r:=by
 have hF:=few_D h.dat h.num
 have ow:=few_T h.few
 have hd:=za6 h.chk
 exact⟨⟨ow,⟨h.ttl.1,by have:=h.ttl.2;omega⟩,⟨by have:=hd.1.1;omega,by have:=hd.1.2;omega⟩,hF.1⟩,⟨ow.lb,by have:=ow.2;omega,hF.2.1⟩⟩
theorem zhe(r:RecL):recT r=zaD r.owner++ [32]++numT r.ttl++ [32,73,78,32]++tyT r.dat.ty++ [32]++za0 hexU r.dat:=by
 unfold recT
 rw[zaI,zaI,zaI,zaI,zb2]
 simp
theorem zhz{w:World}{cs:List Value}{r:RecL}(hR:RecAt w cs r)(hG:RecG r):Fn Tryz.prog 12 #[.agg cs.toArray] w (fun u w'=>u=vs (recT r)∧Ext w w'):=by
 have hT:=(recG_T hG).1
 have hck:=za6 hG.chk
 obtain⟨ow,ds,rfl,how,hD⟩:=hR.ex
 obtain⟨nm,nu,tx,rw',rfl,_⟩:=hD.ex
 obtain⟨u,hu⟩:∃u:Nat,r.ttl=u:=⟨r.ttl.toNat,by have:=hG.ttl;omega⟩
 have hu2:=hG.ttl
 have hwu:IntKind.i64.wrap ((u:Nat):Int)=(u:Int):=zcY (by omega) (by omega)
 have a1:=zc0 hG.own
 have a2:=zbb 19 u (by omega)
 have a3:=zhb hT.ty.1 hT.ty.2
 have a4:=zfZ hG.chk hG.dat hG.num
 have hnu:numT r.ttl=Lib.decDigits u:=by unfold numT;rw[hu];rfl
 refine enter Tryz.func12 Tryz.ntmps12 rfl rfl ?_
 refine go trivial ?_
 refine zam ?_
 intro w1 hE1 hz1 hA
 have c0:zad w1 (some ⟨w.heap.size,0,Option.none⟩)=some ow:=zaa hA rfl
 have c1:zad w1 (some ⟨w.heap.size,1,Option.none⟩)=some (.int .u32 (u:Int)):=by rw[←hu];exact zaa hA rfl
 have c2:zad w1 (some ⟨w.heap.size,2,Option.none⟩)=some (vi r.dat.ty):=zaa hA rfl
 have c3:zar w1 (some ⟨w.heap.size,2,Option.none⟩) 5=some [vi r.dat.ty,nm,nu,tx,rw']:=zaw (o:=2) (k:=5) hA (by simp)
 refine zaR (fun _=>false) [(0,true),(1,true),(4,true),(5,true),(6,true),(10,true),(11,true),(12,true),(16,true),(17,true),(2,false),(3,true),(7,false),(8,true),(9,true),(13,false),(14,true),(15,true),(18,false),(19,true),(20,true)] NoS mixed (by kernel_rfl) ?_;intro gd K x hgd hx hxe hK;have hx0:=zaQ hxe;clear hxe
 have d0:=zab hx0 c0
 have d1:=zab hx0 c1
 have d2:=zab hx0 c2
 have d3:=zah hx0 c3
 simp (disch:=first|omega|assumption|rfl) only[go_sem,d0,d1,d2,d3,Nat.zero_add,Nat.add_zero,hwu]
 have hEx:=hE1.trans hx0
 refine Fn.mono (zcT x ow r.owner (how.ext hEx) (fun l hl=>by have:=hT.ow.1 l hl;omega) hT.ow.2) ?_
 rintro _ y1 ⟨rfl,hy1⟩
 refine⟨.inr hy1.keep,?_⟩
 have e1:=zab hy1 d1
 have e2:=zab hy1 d2
 have e3:=zah hy1 d3
 have l1:(zaD r.owner).length+([32]:Lab).length≤9223372036854775807:=by simp;omega
 simp (disch:=first|omega|assumption|rfl) only[go_sem,e1,e2,e3,Nat.zero_add,hwu,l1]
 refine Fn.mono (zbF y1 u (by omega) (by omega)) ?_
 rintro _ y2 ⟨rfl,hy2⟩
 refine⟨.inr hy2.keep,?_⟩
 have f2:=zab hy2 e2
 have f3:=zah hy2 e3
 have l2:(zaD r.owner++ [32]).length+(Lib.decDigits u).length≤9223372036854775807:=by simp;omega
 have l3:(zaD r.owner++ [32]++Lib.decDigits u).length+([32,73,78,32]:Lab).length≤9223372036854775807:=by simp;omega
 simp (disch:=first|omega|assumption|rfl) only[go_sem,f2,f3,Nat.zero_add,l2,l3]
 refine Fn.mono (zgW y2 r.dat.ty hck.1.1 hck.1.2) ?_
 rintro _ y3 ⟨rfl,hy3⟩
 refine⟨.inr hy3.keep,?_⟩
 have g3:=zah hy3 f3
 have l4:(zaD r.owner++ [32]++Lib.decDigits u++ [32,73,78,32]).length+(tyT r.dat.ty).length≤9223372036854775807:=by simp;omega
 have l5:(zaD r.owner++ [32]++Lib.decDigits u++ [32,73,78,32]++tyT r.dat.ty).length+([32]:Lab).length≤9223372036854775807:=by simp;omega
 simp (disch:=first|omega|assumption|rfl) only[go_sem,g3,Nat.zero_add,l4,l5]
 refine Fn.mono (zgX (hD.ext (((hEx.trans hy1).trans hy2).trans hy3)) hT.dat hck.2.1) ?_
 rintro _ y4 ⟨rfl,hy4⟩
 refine⟨.inr hy4.keep,?_⟩
 have l6:(zaD r.owner++ [32]++Lib.decDigits u++ [32,73,78,32]++tyT r.dat.ty++ [32]).length+(za0 hexU r.dat).length≤9223372036854775807:=by simp;omega
 simp (disch:=first|omega|assumption|rfl) only[go_sem,l6]
 refine hK _ _ ?_;clear hK hgd;clear K;try clear gd
 refine go trivial ?_
 refine rt0 Tryz.ntmps12 ?_
 exact⟨by rw[zhe,hnu],(((hEx.trans hy1).trans hy2).trans hy3).trans hy4⟩
theorem prs_name{T:Int}{s:Lab}{o n:Nm}(hT:T=2∨T=5∨T=12∨T=39)(hn:zaX s o=(n,0))(hs:s.length≤1000)(hm:s≠ [92,35]):zei T [(s,false)] o ⟨T,[n],[],[],[]⟩ 0:=fun w wv oa on oc hX hr ho hoT=>by
 have hsh:zay T=(1,0,0,0):=by rcases hT with rfl|rfl|rfl|rfl<;>rfl
 have hmk:zbU [(s,false)]=false:=zfM (.inr hm)
 refine Fn.mono (PkG (d:=⟨T,[n],[],[],[]⟩) (by omega) (by omega) hr fun b w1 h=>?_) ?_
 ·rw[if_neg (by rw[hmk];decide)]
  refine Fn.mono (zjV (tx:=fun _=>s) (ns:=[n]) (us:=[]) hX (by omega) (by rw[hsh];rfl) (by simp) (by simp) h ho hoT (fun m hm=>?_) (fun m hm=>by cases hm)) ?_
  ·rw[List.mem_singleton.1 hm]
   exact⟨hn,by omega,trivial⟩
  rintro _ w' ⟨⟨nmv,nuv,rfl,a1,a2⟩,hR,hk⟩
  exact⟨⟨_,rfl,fun X hX=>⟨_,_,_,_,rfl,a2 X hX,zd6 a1 X hX,zbM X,zbM X⟩⟩,hR,hk⟩
 ·rintro v w' ⟨hE,cs,rfl,hg⟩
  exact⟨hE,cs,rfl,(zfs hg).1,(zfs hg).2,fun _=>hg⟩
theorem prs_badA{s:Lab}{q:Bool}{o:Nm}{ps:List Lab}{e:Int}{d:DatL}(hsp:SplP s ps)(hs:s.length≤1000)(hpl:ps.length≤1000)(hpx:∀p∈ps,p.length≤1000)(hm:zbU [(s,q)]=false)(he:zhq (if ps.length=4 then(if q=true then zbi 0 2 else 0) else zbi (if q=true then zbi 0 2 else 0) 2) ps=e)(he0:¬e=0):zei 1 [(s,q)] o d e:=fun w wv oa on oc hX hr ho hoT=>by
 refine Fn.mono (zfr (e:=e) (G:=fun _ _ _=>True) (by decide) (by decide) hr (fun _ _ _ _ _ _ _ _=>trivial) fun b w1 h=>?_) ?_
 ·rw[if_neg (by rw[hm];decide)]
  refine Fn.mono (zjW hX h (by omega) hsp (by omega) fun p hp=>by have:=hpx p hp;omega) ?_
  rintro _ w' ⟨⟨rv,rfl,hown⟩,hR,hk⟩
  rw[he]at hR
  obtain⟨ra,rc,rfl⟩:=hown.slice
  exact⟨⟨_,rfl,rfl,zdf _ _ _ _ _ rfl rfl rfl rfl,trivial⟩,hR,hk⟩
 ·rintro v w' ⟨hE,_,h2⟩
  exact⟨hE,_,h2 he0,rfl,zdf _ _ _ _ _ rfl rfl rfl rfl,fun h=>absurd h he0⟩
abbrev tA3:Lab:=[49,46,50,46,51]
abbrev tA4:Lab:=[49,46,50,46,51,46,52]
theorem spl3:SplP tA3 [[49],[50],[51]]:=⟨by decide+kernel,by decide+kernel⟩
theorem prs_A3(o:Nm)(d:DatL):zei 1 [(tA3,false)] o d 2:=prs_badA spl3 (by decide) (by decide) (by decide) (by decide) (by decide+kernel) (by decide)
theorem zfG{K:Value→World→Prop}{o:Option Value}{v:Value}{w:World}{F:Prop}{m:Lck K F}(h:o=some v)(hK:K v w):optL o w K F m:=by
 subst h;rw[zgo];exact hK
def tokB:Nat→Lab→Option (List (Lab×Bool))
 |_,[]=>some []
 |0,_::_=>Option.none
 |k+1,c::s=>
  if c=32∨c=9 then tokB k s else
  if c=59 then some [] else
  if c=34 then
   match s.dropWhile (fun x=>x !=34 && x !=92) with
   |d::r=>if d=34 then(tokB k r).map (fun ws=>(s.takeWhile (fun x=>x !=34 && x !=92),true)::ws) else Option.none
   | []=>Option.none
  else if plnB c=true then
   if ((c::s).dropWhile plnB).head?.all (fun d=>stopsL.contains d)=true then(tokB k ((c::s).dropWhile plnB)).map (fun ws=>((c::s).takeWhile plnB,false)::ws) else Option.none
  else Option.none
theorem zf2{α:Type}{p:α→Bool}:∀(l:List α),∀x∈l.takeWhile p,p x=true
 | [],x,h=>by cases h
 |a::l,x,h=>by
  rw[List.takeWhile_cons]at h
  split at h
  ·rename_i ha
   rcases List.mem_cons.1 h with rfl|h
   ·exact ha
   ·exact zf2 l x h
  ·cases h
theorem quot_run{q:Lab}(h:∀c∈q,(c !=34 && c !=92)=true):QuotW q:=by
 induction q with
 |nil=>exact .nil
 |cons c q ih=>
  have:=h c (List.mem_cons_self ..)
  simp only[Bool.and_eq_true,bne_iff_ne]at this
  exact .one c q this.1 this.2 (ih fun x hx=>h x (List.mem_cons_of_mem _ hx))
theorem zfu:∀(k:Nat) (s:Lab) (ws:List (Lab×Bool)),tokB k s=some ws→Toks s ws
 |k,[],ws,h=>by
  have:ws=[]:=by cases k<;>(injection h with h;exact h.symm)
  rw[this];exact .nil
 |0,_::_,ws,h=>by cases h
 |k+1,c::s,ws,h=>by
  unfold tokB at h
  split at h
  ·rename_i hc;exact .blank c s ws hc (zfu k s ws h)
  split at h
  ·rename_i hc;injection h with h;rw[←h,hc];exact .semi s
  split at h
  ·rename_i hc
   subst hc
   cases hd:s.dropWhile (fun x=>x !=34 && x !=92) with
   |nil=>rw[hd]at h;cases h
   |cons d r=>
    rw[hd]at h
    simp only at h
    split at h
    ·rename_i hd34
     subst hd34
     cases ht:tokB k r with
     |none=>rw[ht]at h;cases h
     |some ws1=>
      rw[ht]at h
      injection h with h
      rw[←h]
      have e:s=s.takeWhile (fun x=>x !=34 && x !=92)++34::r:=by rw[←hd];exact List.takeWhile_append_dropWhile.symm
      have:=Toks.quot (s.takeWhile (fun x=>x !=34 && x !=92)) r ws1 (quot_run (zf2 s)) (zfu k r ws1 ht)
      rw[←e]at this
      exact this
    ·cases h
  split at h
  ·rename_i hp
   split at h
   ·rename_i he
    cases ht:tokB k ((c::s).dropWhile plnB) with
    |none=>rw[ht]at h;cases h
    |some ws1=>
     rw[ht]at h
     injection h with h
     rw[←h]
     have hne:(c::s).takeWhile plnB≠ []:=by rw[List.takeWhile_cons,if_pos hp];simp
     have tk:=zcx hne (zf2 (c::s))
     have:=Toks.word _ _ ws1 hne tk.b ?_ (zfu k _ ws1 ht)
     ·rw[List.takeWhile_append_dropWhile]at this;exact this
     ·cases hd:(c::s).dropWhile plnB with
      |nil=>exact .inl rfl
      |cons d r=>
       rw[hd]at he
       exact .inr ⟨d,r,rfl,List.contains_iff_mem.1 (by simpa using he)⟩
   ·cases h
  ·cases h
def lineB(x:Lab×List (Lab×Bool)):Bool:=decide (tokB (x.1.length+1) x.1=some x.2) && !x.1.contains 10 && decide (x.1.getLast?≠some 13) && decide (x.1.length≤10000)
theorem lineB_ok{x:Lab×List (Lab×Bool)}(h:lineB x=true):Toks x.1 x.2∧ze3 x.1∧x.1.length≤10000:=by
 unfold lineB at h
 simp only[Bool.and_eq_true,decide_eq_true_eq,Bool.not_eq_true']at h
 obtain⟨⟨⟨h1,h2⟩,h3⟩,h4⟩:=h
 exact⟨zfu _ _ _ h1,⟨(fun e=>by have:=List.contains_iff_mem.2 e;rw[h2]at this;cases this),h3⟩,h4⟩
theorem zez:∀(ls:List Lab) (m:Nat),(∀l∈ls,l.length≤m)→(zaF ls).length≤ls.length*(m+1)
 | [],m,_=>by simp[zaF]
 |l::ls,m,h=>by
  have ih:=zez ls m fun x hx=>h x (List.mem_cons_of_mem _ hx)
  have:=h l (List.mem_cons_self ..)
  rw[zcm,List.length_append,List.length_cons,List.length_cons,Nat.add_mul]
  omega
theorem lnsOk{xs:List (Lab×List (Lab×Bool))}(h:∀x∈xs,Toks x.1 x.2∧ze3 x.1∧x.1.length≤100000)(hl:xs.length≤1000):LnsOk xs:=by
 refine⟨fun x hx=>⟨(h x hx).1,(h x hx).2.1,by have:=(h x hx).2.2;omega⟩,?_,by omega⟩
 have:=zez (xs.map Prod.fst) 100000 fun l hl=>by
  obtain⟨x,hx,rfl⟩:=List.mem_map.1 hl
  exact(h x hx).2.2
 rw[List.length_map]at this
 have h2:xs.length*(100000+1)≤1000*(100000+1):=Nat.mul_le_mul_right _ hl
 omega
theorem lnsB{xs:List (Lab×List (Lab×Bool))}(h:xs.all lineB=true)(hl:xs.length≤1000):LnsOk xs:=lnsOk (fun x hx=>by
 have:=lineB_ok (List.all_eq_true.1 h x hx)
 exact⟨this.1,this.2.1,by have:=this.2.2;omega⟩) hl
def fewW(ws:List (Lab×Bool)):Bool:=decide (ws.length≤1000) && ws.all fun x=>decide (x.1.length≤10000)
theorem headR{st st':LdS}{ws:List (Lab×Bool)}{hs:List (Nat×Bool)}{e:Int}(hf:fewW ws=true)(hh:zbX 0 false false ws=hs)(hg:hs.all (fun y=>!y.2||decide ((decP 2147483647 (wdAt ws y.1)).2=0))=true)(ha:AddR st (tmH ws hs) (ws.drop hs.length) e st')(ho:st.owner.isSome=true):zlr st ws e st':=by
 unfold fewW at hf
 simp only[Bool.and_eq_true,decide_eq_true_eq]at hf
 subst hh
 refine⟨by omega,fun x hx=>?_,fun y hy h2=>?_,ha,ho⟩
 ·have:=List.all_eq_true.1 hf.2 x hx
  have:=of_decide_eq_true this
  omega
 ·have:=List.all_eq_true.1 hg y hy
  rw[h2]at this
  simpa using this
section
variable {fl : List (Lab × Lab)} {inc : LdS → Lab → Option FltL → LdS → Prop} {st st' : LdS} {t ty : Lab} {q : Bool} {ws dw : List (Lab × Bool)} {hs : List (Nat × Bool)} {n : Nm} {d : DatL} {τ e : Int}
theorem zhr(ln:Int)(h36:[36].isPrefixOf t=false)(ht:t.length≤1000)(hn:zaX t st.origin=(n,0))(hf:fewW ws=true)(hh:zbX 0 false false ws=hs)(hg:hs.all (fun y=>!y.2||decide ((decP 2147483647 (wdAt ws y.1)).2=0))=true)
  (ha:AddR {st with line:=ln,owner:=some n} (tmH ws hs) (ws.drop hs.length) e st'):EntIs fl inc {st with line:=ln} ⟨ln,false,(t,false)::ws⟩ (fltE st' e) st':=by
 refine EntIs.rcd ln t ws e st' ?_ h36 (RecR.named t ws e st' (by omega) (by show(zaX t st.origin).2=0;rw[hn]) ?_)
 ·unfold fewW at hf
  simp only[Bool.and_eq_true,decide_eq_true_eq]at hf
  omega
 ·show zlr {st with line:=ln,owner:=some (zaX t st.origin).1} ws e st'
  rw[hn]
  exact headR hf hh hg ha rfl
theorem zkK(ln:Int)(ho:st.owner=some n)(hf:fewW ((t,q)::ws)=true)(hh:zbX 0 false false ((t,q)::ws)=hs)(hg:hs.all (fun y=>!y.2||decide ((decP 2147483647 (wdAt ((t,q)::ws) y.1)).2=0))=true)
  (ha:AddR {st with line:=ln} (tmH ((t,q)::ws) hs) (((t,q)::ws).drop hs.length) e st'):EntIs fl inc {st with line:=ln} ⟨ln,true,(t,q)::ws⟩ (fltE st' e) st':=by
 refine EntIs.blank ln t q ws e st' ?_ (RecR.blank _ e st' (headR hf hh hg ha (by show st.owner.isSome=true;rw[ho];rfl)))
 ·unfold fewW at hf
  simp only[Bool.and_eq_true,decide_eq_true_eq,List.length_cons]at hf
  omega
theorem zdR{tm:Option Int}(ht:ty.length≤1000)(hp:(zbL ty).2=0)(hP:zei (zbL ty).1 dw st.origin d 0)(hout:st.out.length<4096)(ho:st.owner=some n)(hτ:orT (orT tm st.ttl) st.last=some τ):AddR st tm ((ty,false)::dw) 0 {st with last:=some τ,out:=st.out++ [⟨n,τ,d⟩]}:=
 AddR.data ty dw d 0 _ (by omega) hp hP (.inr ⟨rfl,hout,n,τ,ho,hτ,rfl⟩)
theorem add_bad{tm:Option Int}(ht:ty.length≤1000)(hp:(zbL ty).2=0)(hP:zei (zbL ty).1 dw st.origin d e)(he:¬e=0):AddR st tm ((ty,false)::dw) e st:=
 AddR.data ty dw d e _ (by omega) hp hP (.inl ⟨he,rfl⟩)
end
theorem prs_A{a b c d:UInt8}{s:Lab}{o:Nm}(hs:za0 hexU ⟨1,[],[],[],[a,b,c,d]⟩=s)(hw:wF false s [] false=[(s,false)]):zei 1 [(s,false)] o ⟨1,[],[],[],[a,b,c,d]⟩ 0:=by
 have hc:zbe ⟨1,[],[],[],[a,b,c,d]⟩=0:=by rfl
 have:=zhZ (o:=o) hc ⟨⟨(fun n h=>by cases h),Nat.zero_le _,Nat.zero_le _,(fun n h=>by cases h),Nat.zero_le _,(fun n h=>by cases h),(by show 4≤_;omega)⟩,Nat.zero_le _⟩
 rw[hs,hw]at this
 exact this
abbrev xs9a:List (Lab×List (Lab×Bool)):=[([36,84,84,76,32,54,48],[([36,84,84,76],false),([54,48],false)]),([64,32,73,78,32,65,32,49,46,50,46,51,46,52],[([64],false),([73,78],false),([65],false),([49,46,50,46,51,46,52],false)]),([36,73,78,67,76,85,68,69,32,98,32,115,117,98],[([36,73,78,67,76,85,68,69],false),([98],false),([115,117,98],false)]),([32,65,32,49,46,50,46,51,46,53],[([65],false),([49,46,50,46,51,46,53],false)]),([36,71,69,78,69,82,65,84,69,32,49,45,50,32,104,36,32,65,32,49,48,46,48,46,48,46,36],[([36,71,69,78,69,82,65,84,69],false),([49,45,50],false),([104,36],false),([65],false),([49,48,46,48,46,48,46,36],false)])]
abbrev xs9b:List (Lab×List (Lab×Bool)):=[([120,32,53,32,73,78,32,78,83,32,121],[([120],false),([53],false),([73,78],false),([78,83],false),([121],false)])]
abbrev xs9c:List (Lab×List (Lab×Bool)):=[([],[]),([64,32,65,32,49,46,50,46,51],[([64],false),([65],false),([49,46,50,46,51],false)])]
abbrev tx9a:Lab:=[36,84,84,76,32,54,48,10,64,32,73,78,32,65,32,49,46,50,46,51,46,52,10,36,73,78,67,76,85,68,69,32,98,32,115,117,98,10,32,65,32,49,46,50,46,51,46,53,10,36,71,69,78,69,82,65,84,69,32,49,45,50,32,104,36,32,65,32,49,48,46,48,46,48,46,36,10]
abbrev tx9b:Lab:=[120,32,53,32,73,78,32,78,83,32,121,10]
abbrev tx9c:Lab:=[10,64,32,65,32,49,46,50,46,51,10]
abbrev fl9:List (Lab×Lab):=[([97],tx9a),([98],tx9b)]
abbrev o9:Nm:=[[111]]
abbrev oS:Nm:=[[115,117,98],[111]]
def rc1:RecL:=⟨o9,60,⟨1,[],[],[],[1,2,3,4]⟩⟩
def rc2:RecL:=⟨[120]::oS,5,⟨2,[[121]::oS],[],[],[]⟩⟩
def rc3:RecL:=⟨o9,60,⟨1,[],[],[],[1,2,3,5]⟩⟩
def rc4:RecL:=⟨[[104,49],[111]],60,⟨1,[],[],[],[10,0,0,1]⟩⟩
def rc5:RecL:=⟨[[104,50],[111]],60,⟨1,[],[],[],[10,0,0,2]⟩⟩
theorem pA1(o:Nm):zei 1 [(tA4,false)] o ⟨1,[],[],[],[1,2,3,4]⟩ 0:=prs_A (by decide+kernel) (by decide+kernel)
theorem pA2(o:Nm):zei 1 [([49,46,50,46,51,46,53],false)] o ⟨1,[],[],[],[1,2,3,5]⟩ 0:=prs_A (by decide+kernel) (by decide+kernel)
theorem pA3(o:Nm):zei 1 [([49,48,46,48,46,48,46,49],false)] o ⟨1,[],[],[],[10,0,0,1]⟩ 0:=prs_A (by decide+kernel) (by decide+kernel)
theorem pA4(o:Nm):zei 1 [([49,48,46,48,46,48,46,50],false)] o ⟨1,[],[],[],[10,0,0,2]⟩ 0:=prs_A (by decide+kernel) (by decide+kernel)
theorem pT1:zbL [65]=(1,0):=by decide+kernel
theorem pT2:zbL [78,83]=(2,0):=by decide+kernel
theorem put9{s out nd:Lab}{n:Int}{f0:Nat}(hs:s.length≤10000)(hnd:nd.length≤100)(h0:0≤n)(h1:n≤1000000000)(hi:Lib.itoa n=nd)(hp:putN (fun _=>Option.none) nd f0 s=some (out,0)):zle s n out:=fun w hW=>by
 refine Put_ok hW hs hnd (fun v hv=>?_) (fun i d e h=>(by cases h)) hp (.inl rfl)
 rw[←hi]
 exact zlo hv n (by omega) (by omega)
theorem puts3{a b c a2 b2 c2:Lab}{n:Int}(h1:zle a n a2)(h2:zle b n b2)(h3:zle c n c2):zld [(a,false),(b,false),(c,false)] n [(a2,false),(b2,false),(c2,false)]:=by
 refine⟨rfl,fun i h h'=>?_,fun i h h'=>?_⟩
 ·rcases i with _|_|_|i
  ·exact h1
  ·exact h2
  ·exact h3
  ·simp at h;omega
 ·rcases i with _|_|_|i
  ·rfl
  ·rfl
  ·rfl
  ·simp at h;omega
theorem it1:Lib.itoa 1=[49]:=itoa_1
theorem it2:Lib.itoa 2=[50]:=(zh9 (n:=2) (by decide)).trans rfl
theorem ps9{n:Int}{c:UInt8}(h0:0≤n)(h1:n≤1000000000)(hi:Lib.itoa n=[c])(a1:putN (fun _=>Option.none) [c] 100 [104,36]=some ([104,c],0))(a2:putN (fun _=>Option.none) [c] 100 [65]=some ([65],0))(a3:putN (fun _=>Option.none) [c] 100 [49,48,46,48,46,48,46,36]=some ([49,48,46,48,46,48,46,c],0)):
  zld [([104,36],false),([65],false),([49,48,46,48,46,48,46,36],false)] n [([104,c],false),([65],false),([49,48,46,48,46,48,46,c],false)]:=puts3 (put9 (by decide) (Nat.le_of_ble_eq_true rfl) h0 h1 hi a1) (put9 (by decide) (Nat.le_of_ble_eq_true rfl) h0 h1 hi a2) (put9 (by decide) (Nat.le_of_ble_eq_true rfl) h0 h1 hi a3)
theorem fb9(st:LdS)(hr:st.reads.length≤900)(ho:st.origin=oS)(hx:st.out.length<4096):zcX fl9 1 st [98] Option.none {st with path:=[98],line:=1,owner:=some ([120]::oS),last:=some 5,out:=st.out++ [rc2]}:=by
 refine⟨xs9b,{st with path:=[98],line:=1,owner:=some ([120]::oS),last:=some 5,out:=st.out++ [rc2],reads:=st.reads++ [[98]]},by decide+kernel,lnsB (by decide+kernel) (by decide),by omega,?_,fun _=>⟨by simp,by simp;omega,by simp⟩,fun h=>absurd rfl h⟩
 refine EntsIs.more _ _ [] _ _ _ (by simp;omega) ?_ (.nil _)
 refine zhr (n:=[120]::oS) (hs:=[(0,true),(1,false)]) (e:=0) 1 (by decide) (by decide) (by show zaX [120] st.origin=_;rw[ho];decide+kernel) (by decide) (by decide+kernel) (by decide+kernel) ?_
 refine zdR (d:=⟨2,[[121]::oS],[],[],[]⟩) (n:=[120]::oS) (τ:=5) (by decide) (by rw[pT2]) ?_ hx rfl rfl
 rw[pT2]
 exact prs_name (.inl rfl) (by show zaX [121] st.origin=_;rw[ho];decide+kernel) (by decide) (by decide)
theorem fa9:zg0 fl9 [97] o9 Option.none ⟨[97],5,o9,some [[104,50],[111]],some 60,some 60,[rc1,rc2,rc3,rc4,rc5],[],1⟩:=by
 refine .inl ⟨2,xs9a,⟨[97],5,o9,some [[104,50],[111]],some 60,some 60,[rc1,rc2,rc3,rc4,rc5],[[97]],1⟩,by decide+kernel,lnsB (by decide+kernel) (by decide),by decide,?_,fun _=>⟨by decide,by decide,rfl⟩,fun h=>absurd rfl h⟩
 -- the time
 refine EntsIs.more _ ⟨1,false,[(wTtl,false),([54,48],false)]⟩ _ ⟨[97],1,o9,Option.none,some 60,Option.none,[],[[97]],0⟩ _ _ (by decide) ?_ ?_
 ·have hd:decP 2147483647 [54,48]=(60,0):=by decide+kernel
  have:=DirIs.ttl (fl:=fl9) (inc:=zcX fl9 1) (st:=⟨[97],1,o9,Option.none,Option.none,Option.none,[],[[97]],0⟩) [54,48] (by decide)
  rw[hd,if_pos rfl]at this
  exact EntIs.dir _ _ _ _ _ (by decide) this
 -- an address
 refine EntsIs.more _ ⟨2,false,[([64],false),([73,78],false),([65],false),(tA4,false)]⟩ _ ⟨[97],2,o9,some o9,some 60,some 60,[rc1],[[97]],0⟩ _ _ (by decide) ?_ ?_
 ·refine zhr (st:=⟨[97],1,o9,Option.none,some 60,Option.none,[],[[97]],0⟩) (n:=o9) (hs:=[(0,false)]) (e:=0) 2 (by decide) (by decide) (by decide+kernel) (by decide) (by decide+kernel) (by decide+kernel) ?_
  exact zdR (d:=⟨1,[],[],[],[1,2,3,4]⟩) (n:=o9) (τ:=60) (by decide) (by rw[pT1]) (by rw[pT1];exact pA1 _) (by decide) rfl rfl
 -- another file
 refine EntsIs.more _ ⟨3,false,[(wInc,false),([98],false),([115,117,98],false)]⟩ _ ⟨[97],3,o9,some o9,some 60,some 60,[rc1,rc2],[[97]],1⟩ _ _ (by decide) ?_ ?_
 ·refine EntIs.dir _ _ _ _ _ (by decide) (.incl _ _ _ ?_)
  have hn:zaX [115,117,98] o9=(oS,0):=by decide+kernel
  refine AskIs.two _ _ _ _ _ (by decide) (by show(zaX [115,117,98] o9).2=0;rw[hn]) (by show NmT (zaX [115,117,98] o9).1;rw[hn];exact⟨by decide,by decide⟩) ?_
  show IncIs fl9 (zcX fl9 1) _ _ (zaX [115,117,98] o9).1 _ _
  rw[hn]
  exact IncIs.read (fl:=fl9) (st:=⟨[97],3,o9,some o9,some 60,some 60,[rc1],[[97]],0⟩) (p:=[98]) _ _ (by decide+kernel) (by decide) (by decide) (by decide) (by decide) (fb9 ⟨[97],3,oS,some o9,some 60,some 60,[rc1],[[97]],1⟩ (by decide) rfl (by decide))
 -- an address of the same owner
 refine EntsIs.more _ ⟨4,true,[([65],false),([49,46,50,46,51,46,53],false)]⟩ _ ⟨[97],4,o9,some o9,some 60,some 60,[rc1,rc2,rc3],[[97]],1⟩ _ _ (by decide) ?_ ?_
 ·refine zkK (st:=⟨[97],3,o9,some o9,some 60,some 60,[rc1,rc2],[[97]],1⟩) (n:=o9) (hs:=[]) (e:=0) 4 rfl (by decide) (by decide+kernel) (by decide+kernel) ?_
  exact zdR (d:=⟨1,[],[],[],[1,2,3,5]⟩) (n:=o9) (τ:=60) (by decide) (by rw[pT1]) (by rw[pT1];exact pA2 _) (by decide) rfl rfl
 -- a range
 refine EntsIs.more _ ⟨5,false,[(wGen,false),([49,45,50],false),([104,36],false),([65],false),([49,48,46,48,46,48,46,36],false)]⟩ _ _ _ _ (by decide) ?_ (.nil _)
 refine EntIs.dir _ _ _ _ _ (by decide) (.gen _ _ 1 2 1 [1,2] _ (by decide+kernel) (by decide+kernel) ?_ (by decide) (by decide) (by decide) (by decide) (by decide))
 refine GenRun.more _ _ _ [104,49] false [([65],false),([49,48,46,48,46,48,46,49],false)] ⟨[97],5,o9,some [[104,49],[111]],some 60,some 60,[rc1,rc2,rc3,rc4],[[97]],1⟩ _ (ps9 (by decide) (by decide) it1 (by decide+kernel) (by decide+kernel) (by decide+kernel)) (by decide) (by decide+kernel) ?_ ?_
 ·have hn:zaX [104,49] o9=([[104,49],[111]],0):=by decide+kernel
  show AddR {(⟨[97],5,o9,some o9,some 60,some 60,[rc1,rc2,rc3],[[97]],1⟩:LdS) with owner:=some (zaX [104,49] o9).1} _ _ _ _
  rw[hn]
  exact zdR (d:=⟨1,[],[],[],[10,0,0,1]⟩) (n:=[[104,49],[111]]) (τ:=60) (by decide) (by rw[pT1]) (by rw[pT1];exact pA3 _) (by decide) rfl rfl
 refine GenRun.more _ _ _ [104,50] false [([65],false),([49,48,46,48,46,48,46,50],false)] _ _ (ps9 (by decide) (by decide) it2 (by decide+kernel) (by decide+kernel) (by decide+kernel)) (by decide) (by decide+kernel) ?_ (.done _)
 have hn:zaX [104,50] o9=([[104,50],[111]],0):=by decide+kernel
 show AddR {(⟨[97],5,o9,some [[104,49],[111]],some 60,some 60,[rc1,rc2,rc3,rc4],[[97]],1⟩:LdS) with owner:=some (zaX [104,50] o9).1} _ _ _ _
 rw[hn]
 exact zdR (d:=⟨1,[],[],[],[10,0,0,2]⟩) (n:=[[104,50],[111]]) (τ:=60) (by decide) (by rw[pT1]) (by rw[pT1];exact pA4 _) (by decide) rfl rfl
theorem fc9:zg0 fl9 [99] [] (some ⟨[99],0,4⟩) (ld0 []):= .inr ⟨by decide+kernel,rfl,rfl⟩
abbrev fl9c:List (Lab×Lab):=[([97],tx9c)]
theorem fd9:zg0 fl9c [97] [] (some ⟨[97],2,2⟩) ⟨[97],2,[],some [],Option.none,Option.none,[],[[97]],0⟩:=by
 refine .inl ⟨1,xs9c,⟨[97],2,[],some [],Option.none,Option.none,[],[[97]],0⟩,by decide+kernel,lnsB (by decide+kernel) (by decide),by decide,?_,(fun h=>by cases h),fun _=>rfl⟩
 refine EntsIs.flt _ ⟨2,false,[([64],false),([65],false),(tA3,false)]⟩ [] _ _ (by decide) ?_
 have:=zhr (fl:=fl9c) (inc:=zcX fl9c 0) (st:=⟨[97],0,[],Option.none,Option.none,Option.none,[],[[97]],0⟩) (t:=[64]) (ws:=[([65],false),(tA3,false)]) (st':=⟨[97],2,[],some [],Option.none,Option.none,[],[[97]],0⟩) (n:=[]) (hs:=[]) (e:=2) 2 (by decide) (by decide) (by decide+kernel) (by decide) (by decide+kernel) (by decide+kernel) (add_bad (d:=⟨1,[],[],[],[]⟩) (by decide) (by rw[pT1]) (by rw[pT1];exact prs_A3 _ _) (by decide))
 exact this
set_option maxRecDepth 100000
theorem k9a:recT rc2=[120,46,115,117,98,46,111,46,32,53,32,73,78,32,78,83,32,121,46,115,117,98,46,111,46]:=by decide+kernel
theorem k9b:recT rc3=[111,46,32,54,48,32,73,78,32,65,32,49,46,50,46,51,46,53]:=by decide+kernel
theorem k9c:recT rc5=[104,50,46,111,46,32,54,48,32,73,78,32,65,32,49,48,46,48,46,48,46,50]:=by decide+kernel
theorem rc2_T:RecT rc2:=⟨by decide,by decide,by decide,⟨⟨by decide,by decide,by decide,by decide,by decide,by decide,by decide⟩,by decide⟩⟩
theorem rc3_T:RecT rc3:=⟨by decide,by decide,by decide,⟨⟨by decide,by decide,by decide,by decide,by decide,by decide,by decide⟩,by decide⟩⟩
theorem rc5_T:RecT rc5:=⟨by decide,by decide,by decide,⟨⟨by decide,by decide,by decide,by decide,by decide,by decide,by decide⟩,by decide⟩⟩
theorem zkF{w:World}{b:Nat}{a1 a2 b1 b2:Lab}{T:TypeId}{fr:Nat×Nat}(h:w.heap[b]? =some (.cells #[vs a1,vs a2,vs b1,vs b2] T fr)):Rows 2 zd5 w (.slice (some ⟨b,0,Option.none⟩) [(a1,a2),(b1,b2)].length 2) [(a1,a2),(b1,b2)]:=by
 refine Rows.close (Nat.le_refl _) (fun i hi=>?_)
 have hi2:i=0∨i=1:=by
  have h2:i<2:=hi
  omega
 rcases hi2 with rfl|rfl
 ·exact⟨_,by rw[zaY];exact zaw h (Nat.le_of_ble_eq_true rfl),rfl⟩
 ·exact⟨_,by rw[zaY];exact zaw h (Nat.le_of_ble_eq_true rfl),rfl⟩
theorem zgF{w:World}{b:Nat}{a1 a2:Lab}{T:TypeId}{fr:Nat×Nat}(h:w.heap[b]? =some (.cells #[vs a1,vs a2] T fr)):Rows 2 zd5 w (.slice (some ⟨b,0,Option.none⟩) [(a1,a2)].length 1) [(a1,a2)]:=by
 refine Rows.close (Nat.le_refl _) (fun i hi=>?_)
 have hi2:i=0:=by
  have h2:i<1:=hi
  omega
 subst hi2
 exact⟨_,by rw[zaY];exact zaw h (Nat.le_of_ble_eq_true rfl),rfl⟩
theorem zln{w0:World}(hX:WX w0)(hY:WY w0):Fn Tryz.prog 8 #[] w0 (fun v w'=>v= .bool true∧Ext w0 w'):=by
 refine enter Tryz.func8 Tryz.ntmps8 rfl rfl ?_
 refine go trivial ?_
 refine rq ?_;intro gd K hgd hK
 try simp only[go_sem]
 refine⟨by kernel_rfl,?_⟩
 refine zfG (v:= .agg #[vs [97],vs tx9a]) (by kernel_rfl) ?_
 try simp only[go_sem]
 refine⟨by kernel_rfl,?_⟩
 refine zfG (v:= .agg #[vs [98],vs tx9b]) (by kernel_rfl) ?_
 try simp only[go_sem]
 refine zkZ (e:=48) (arr:=#[vs [97],vs tx9a,vs [98],vs tx9b]) (by kernel_rfl) ?_
 intro w1 e1 s1 b1
 try simp only[go_sem]
 refine hK _ _ ?_;clear hK hgd;clear K;try clear gd
 have hf1:=zkF b1
 obtain⟨c1,hc1⟩:∃c,w0.heap.size=c:=⟨_,rfl⟩
 rw[hc1]at hf1 ⊢
 refine go trivial ?_
 refine rq ?_;intro gd K hgd hK
 try simp only[go_sem]
 refine zdu (z:=vs []) (l:=[vs [111]]) rfl rfl rfl rfl rfl rfl (fun v hv=>by simp at hv;rcases hv with rfl;rfl) (by simp) ?_
 intro w2 e2 s2 o2
 have e02:=e1.trans e2
 try simp only[go_sem]
 refine Fn.mono (zf7 (o:=o9) (hX.ext e02) (hf1.ext e2) (by decide) o2.row ⟨by decide,by decide⟩ fa9) ?_
 rintro _ w3 ⟨e3,rv,rfl,hR⟩
 try simp only[go_sem]
 refine hK _ _ ?_;clear hK hgd;clear K;try clear gd
 have e03:=e02.trans e3
 obtain⟨L,hR1,hR2,hR3⟩:=hR
 refine go trivial ?_
 refine rq ?_;intro gd K hgd hK
 try simp only[go_sem]
 refine Fn.mono (zf7 (o:=[]) (hX.ext e03) (hf1.ext (e2.trans e3)) (by decide) (zke _) ⟨by decide,by decide⟩ fc9) ?_
 rintro _ w4 ⟨e4,p4,rfl,hp4⟩
 try simp only[go_sem]
 refine hK _ _ ?_;clear hK hgd;clear K;try clear gd
 have e04:=e03.trans e4
 refine go trivial ?_
 refine rq ?_;intro gd K hgd hK
 try simp only[go_sem]
 refine⟨by kernel_rfl,?_⟩
 refine zfG (v:= .agg #[vs [97],vs tx9c]) (by kernel_rfl) ?_
 try simp only[go_sem]
 refine zkZ (e:=48) (arr:=#[vs [97],vs tx9c]) (by kernel_rfl) ?_
 intro w5 e5 s5 b5
 have hf5:=zgF b5
 try simp only[go_sem]
 refine Fn.mono (zf7 (o:=[]) (hX.ext (e04.trans e5)) hf5 (by decide) (zke _) ⟨by decide,by decide⟩ fd9) ?_
 rintro _ w6 ⟨e6,p6,rfl,hp6⟩
 try simp only[go_sem]
 refine hK _ _ ?_;clear hK hgd;clear K;try clear gd
 have e06:=(e04.trans e5).trans e6
 obtain⟨ra,rcap,rfl,hrc⟩:∃ra rcap,rv= .slice ra 5 rcap∧True:=by
  obtain⟨a,c,h,_⟩:=hR1
  rw[hR2]at h
  exact⟨a,c,h,trivial⟩
 have e36:=(e4.trans e5).trans e6
 have hrows:Rows 7 (RecAt w6) w6 (.slice ra 5 rcap) [rc1,rc2,rc3,rc4,rc5]:=(Rows.ext ⟨L,hR1,hR2,hR3⟩ e36).to fun cs a h=>h.ext e36
 obtain⟨_,_,hg⟩:=zcD hrows
 obtain⟨cs1,g1,r1⟩:=hg 1 (by decide)
 obtain⟨cs2,g2,r2⟩:=hg 2 (by decide)
 obtain⟨cs4,g4,r4⟩:=hg 4 (by decide)
 obtain⟨xa,rfl⟩:=Option.isSome_iff_exists.1 (zaA g1)
 refine go trivial ?_
 have d5:decide (((5:Nat):Int)=5)=true:=rfl
 refine rgg [(2,32),(7,37),(11,41)] (an2 d5 trivial) ?_
 refine go trivial ?_
 refine rc trivial (zga (hf1.ext (e2.trans (e3.trans e36))) (by decide) [98]) ?_
 rintro _ w7 ⟨rfl,e7⟩
 rw[show zcr [98] fl9=(tx9b,true) from by decide+kernel]
 refine rgo trivial ?_
 have g1:=zah e7 g1
 have g2:=zah e7 g2
 have g4:=zah e7 g4
 obtain⟨x1,hx1⟩:∃x,adr (some xa) (1*7)=some x:=⟨_,rfl⟩
 obtain⟨x2,hx2⟩:∃x,adr (some xa) (2*7)=some x:=⟨_,rfl⟩
 obtain⟨x4,hx4⟩:∃x,adr (some xa) (4*7)=some x:=⟨_,rfl⟩
 rw[hx1]at g1
 rw[hx2]at g2
 rw[hx4]at g4
 have z1:(0:Int)≤1:=by decide
 have z2:(0:Int)≤2:=by decide
 have z4:(0:Int)≤4:=by decide
 have l1:(1:Int)<5:=by decide
 have l2:(2:Int)<5:=by decide
 have l4:(4:Int)<5:=by decide
 have t1:(1:Int).toNat=1:=rfl
 have t2:(2:Int).toNat=2:=rfl
 have t4:(4:Int).toNat=4:=rfl
 have hY7:=hY.ext (e06.trans e7)
 refine rq ?_;intro gd K hgd hK
 have hg5:∀n σ b,zax gd n σ (some (5,b))=zap (ev n σ (.tmp 55)) b:=(fun n σ b=>by rw[zag,show gd 5=some 55 from(by rw[hgd];rfl)];rfl);have hg12:∀n σ b,zax gd n σ (some (12,b))=zap (ev n σ (.tmp 62)) b:=(fun n σ b=>by rw[zag,show gd 12=some 62 from(by rw[hgd];rfl)];rfl);have hg19:∀n σ b,zax gd n σ (some (19,b))=zap (ev n σ (.tmp 69)) b:=(fun n σ b=>by rw[zag,show gd 19=some 69 from(by rw[hgd];rfl)];rfl);have hg26:∀n σ b,zax gd n σ (some (26,b))=zap (ev n σ (.tmp 76)) b:=(fun n σ b=>by rw[zag,show gd 26=some 76 from(by rw[hgd];rfl)];rfl);have hg33:∀n σ b,zax gd n σ (some (33,b))=zap (ev n σ (.tmp 83)) b:=(fun n σ b=>by rw[zag,show gd 33=some 83 from(by rw[hgd];rfl)];rfl);have hg38:∀n σ b,zax gd n σ (some (38,b))=zap (ev n σ (.tmp 88)) b:=(fun n σ b=>by rw[zag,show gd 38=some 88 from(by rw[hgd];rfl)];rfl);have hg41:∀n σ b,zax gd n σ (some (41,b))=zap (ev n σ (.tmp 91)) b:=(fun n σ b=>by rw[zag,show gd 41=some 91 from(by rw[hgd];rfl)];rfl)
 try simp (disch:=first|omega|assumption|rfl) only[go_sem,z1,l1,t1,hx1,g1,↓hg5,↓hg12,↓hg19,↓hg26,↓hg33,↓hg38,↓hg41]
 refine Fn.mono (zc2 (r:=rc2) hY7 (r1.ext e7) rc2_T) ?_
 rintro _ w8 ⟨rfl,e8⟩
 rw[k9a]
 have d1:decide (([120,46,115,117,98,46,111,46,32,53,32,73,78,32,78,83,32,121,46,115,117,98,46,111,46]:Lab)=[120,46,115,117,98,46,111,46,32,53,32,73,78,32,78,83,32,121,46,115,117,98,46,111,46])=true:=decide_eq_true rfl
 have g2:=zah e8 g2
 try simp (disch:=first|omega|assumption|rfl) only[go_sem,d1,z2,l2,t2,hx2,g2,↓hg5,↓hg12,↓hg19,↓hg26,↓hg33,↓hg38,↓hg41]
 refine Fn.mono (zc2 (r:=rc3) (hY7.ext e8) ((r2.ext e7).ext e8) rc3_T) ?_
 rintro _ w9 ⟨rfl,e9⟩
 rw[k9b]
 have d2:decide (([111,46,32,54,48,32,73,78,32,65,32,49,46,50,46,51,46,53]:Lab)=[111,46,32,54,48,32,73,78,32,65,32,49,46,50,46,51,46,53])=true:=decide_eq_true rfl
 have g4:=zah (e8.trans e9) g4
 try simp (disch:=first|omega|assumption|rfl) only[go_sem,d2,z4,l4,t4,hx4,g4,↓hg5,↓hg12,↓hg19,↓hg26,↓hg33,↓hg38,↓hg41]
 refine Fn.mono (zc2 (r:=rc5) (hY7.ext (e8.trans e9)) ((r4.ext e7).ext (e8.trans e9)) rc5_T) ?_
 rintro _ y1 ⟨rfl,f1⟩
 rw[k9c]
 have d3:decide (([104,50,46,111,46,32,54,48,32,73,78,32,65,32,49,48,46,48,46,48,46,50]:Lab)=[104,50,46,111,46,32,54,48,32,73,78,32,65,32,49,48,46,48,46,48,46,50])=true:=decide_eq_true rfl
 have e71:=(e8.trans e9).trans f1
 have k1:zad y1 (some ⟨p4,1,Option.none⟩)=some (vi 0):=zaa (Ext.at (((e5.trans e6).trans e7).trans e71) hp4) rfl
 have k2:zad y1 (some ⟨p4,2,Option.none⟩)=some (vi 4):=zaa (Ext.at (((e5.trans e6).trans e7).trans e71) hp4) rfl
 try simp (disch:=first|omega|assumption|rfl) only[go_sem,d3,k1,k2,Nat.zero_add,↓hg5,↓hg12,↓hg19,↓hg26,↓hg33,↓hg38,↓hg41]
 refine Fn.mono (zgb ((hX.ext (e06.trans e7)).ext e71) (Ext.at (e7.trans e71) hp6) (by decide) (by decide) (by decide)) ?_
 rintro _ y2 ⟨rfl,f2⟩
 rw[show ([97]++ [58]++Lib.itoa 2++ [58,32]++ [102,111,114,109]:Lab)=[97,58,50,58,32,102,111,114,109] from by rw[it2];rfl]
 have d4:decide (([97,58,50,58,32,102,111,114,109]:Lab)=[97,58,50,58,32,102,111,114,109])=true:=decide_eq_true rfl
 try simp (disch:=first|omega|assumption|rfl) only[go_sem,d4,↓hg5,↓hg12,↓hg19,↓hg26,↓hg33,↓hg38,↓hg41]
 refine hK _ _ ?_;clear hK hgd;clear K;try clear gd
 refine go trivial ?_
 refine rt0 Tryz.ntmps8 ?_
 exact⟨rfl,(e06.trans e7).trans (e71.trans f2)⟩
end Go.Proofs.YtihbdhjibplldaaGreatDoor
