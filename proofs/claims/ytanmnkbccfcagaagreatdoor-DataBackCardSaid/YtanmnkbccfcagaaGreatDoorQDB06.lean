/-
  Texts of a proof, joined: JJ, JK, JL, JM, JY, JN, JO, E6, E7, E8, B3, K24, E9, E10, F2, Y4, F3, F4, Y5, F5, E11, E12, E13, F6, F7, F8, F9, G0, G1, JZ, NA, NF, JP, JQ, HQ, HR, HS, HT, HU, HW, HV, KR, KR5, KR6.
  Conditions: none.
-/
import Derived.Test.YtanmnkbccfcagaaGreatDoorQDB05
import Derived.Test.YtanmnkbccfcagaaGreatDoorQDB04
import Derived.Test.YtanmnkbccfcagaaGreatDoorQDB03
import Derived.Test.YtanmnkbccfcagaaGreatDoorQDB02
import Derived.MapFrom
import Derived.Test.YtanmnkbccfcagaaGreatDoorQDB01
import Derived.Lib.SplitLaws
set_option linter.unusedVariables false
set_option linter.unusedSimpArgs false
set_option linter.defProp false
set_option linter.unnecessarySimpa false
set_option maxHeartbeats 8000000
namespace Go.Proofs.YtanmnkbccfcagaaGreatDoor
open Go
set_option maxRecDepth 10000
theorem Keep.own{S T:Nat→Prop}{a b c:World}(h:Keep S a b)(k:Keep T b c)(hT:∀i,i<a.heap.size→T i→S i):Keep S a c:=
 ((h.mono fun _ _ h=>Or.inl h).trans (k.mono fun _ _ h=>Or.inr h):Keep (fun i=>S i∨T i) a c).mono fun i hi h=>h.elim id (hT i hi)
def octP(p:Lab):Value:=zak (UInt8.ofNat (decP 255 p).1)
def zfd(e:Int)(ps:List Lab):Int:=ps.foldl (fun e p=>zaO e (decP 255 p).2) e
theorem zgZ{W0 w:World}{b:Nat}{t:Lab}{q:Bool}{ws:List (Lab×Bool)}{ov:Value}{e:Int}{ps:List Lab}(hW:WX W0)(h:Rdr W0 w b ((t,q)::ws) ov e)(hl:ws.length≤1000000)(ht:t.length≤1000000)(hsp:SplP t ps)(hpl:ps.length≤1000000)(hpx:∀p∈ps,p.length≤1000000):
  Fn Tryz.prog 167 #[.pointer (some ⟨b,0,Option.none⟩)] w (fun v w'=>Own w.heap.size w' 5 v (ps.map octP)∧Rdr W0 w' b ws ov (zfd (if ps.length=4 then(if q=true then zaO e 2 else e) else zaO (if q=true then zaO e 2 else e) 2) ps)∧Keep (fun i=>i=b) w w'):=by
 have hbl:=h.lt
 obtain⟨e1,he1⟩:∃e1,(if q=true then zaO e 2 else e)=e1:=⟨_,rfl⟩
 refine enter Tryz.func167 Tryz.ntmps167 rfl rfl ?_
 refine go trivial ?_
 refine rc trivial (zci h hl) ?_
 rw[he1]
 rintro _ w1 ⟨rfl,hR1,hk1⟩
 refine rd trivial (zil (n:=ps.length) (hW.ext hR1.ext) (by omega) hsp rfl) ?_
 rintro _ w2 ⟨rfl,hB2,hE2⟩
 have hs1:=hk1.size
 have hs2:=hE2.size
 have hP:w1.heap.size<w2.heap.size:=(Array.getElem?_eq_some_iff.1 hB2).1
 obtain⟨P,hPe⟩:∃P,w1.heap.size=P:=⟨_,rfl⟩
 rw[hPe]at hB2 hP ⊢
 have hk2:Keep (fun i=>i=b) w w2:=hk1.trans (hE2.mono fun _ _ h=>h.elim)
 obtain⟨n,hn⟩:∃n,ps.length=n:=⟨_,rfl⟩
 rw[hn]at hpl ⊢
 obtain⟨tt,htt⟩:∃tt,decide ((n:Int)=4)=tt:=⟨_,rfl⟩
 obtain⟨e2,he2⟩:∃e2,(if n=4 then e1 else zaO e1 2)=e2:=⟨_,rfl⟩
 rw[he2]
 refine rgo htt ?_
 refine zav (Q:=fun e' σ' ds' v'=>e'= .normal∧ds'=[]∧(σ' 0= .pointer (some ⟨b,0,Option.none⟩)∧σ' 3= .slice (some ⟨P,0,Option.none⟩) n n)∧Rdr W0 v' b ws ov e2∧Keep (fun i=>i=b) w2 v') ?_ ?_
 ·cases tt with
  |true=>
   rw[if_pos (by have:=of_decide_eq_true htt;omega)]at he2
   refine go trivial ?_
   exact⟨rfl,rfl,⟨vr0,vr0⟩,by rw[←he2];exact hR1.extx hE2,Keep.refl _ _⟩
  |false=>
   rw[if_neg (by have:=of_decide_eq_false htt;omega)]at he2
   refine go trivial ?_
   refine rc trivial (zbW (hR1.extx hE2) 2) ?_
   rw[he2]
   rintro _ w3 ⟨hR3,hk3⟩
   refine rgo trivial ?_
   exact⟨rfl,rfl,⟨vr0,vr0⟩,hR3,hk3⟩
 rintro _ σ0 _ w3 ⟨rfl,rfl,⟨s0,s3⟩,hR3,hk3⟩
 refine go (an2 s0 s3) ?_
 refine zbs n (fun i σ v=>(σ 0= .pointer (some ⟨b,0,Option.none⟩)∧σ 17= .slice (some ⟨P,0,Option.none⟩) n n∧σ 18=vi n∧σ 19=vi i)∧Rdr W0 v b ws ov (zfd e2 (ps.take i))∧Keep (fun i=>i=b) w2 v∧∃sv,σ 4=sv∧Own w2.heap.size v 5 sv ((ps.take i).map octP)) ?_ ?_ ?_
 ·exact⟨⟨(vr1 s0),(vr1 s3),(vr1 s3),vr0⟩,hR3,hk3,_,vr0,Own.nil _ _ _⟩
 ·rintro i σ v hi r ⟨⟨s0,s17,s18,s19⟩,hR,hk,sv,s4,hown⟩
  obtain⟨p,hp⟩:∃p,ps[i]'(by omega)=p:=⟨_,rfl⟩
  have hpm:p∈ps:=hp▸List.getElem_mem _
  have hpl':=hpx p hpm
  have hsv:=hk.size
  have hBv:=(hk.block P hP (by omega)).trans hB2
  have g:zag v (some ⟨P,i,Option.none⟩)=some (vs p):=zaG (j:=i) hBv (by rw[List.getElem?_map,List.getElem?_eq_getElem (by omega),hp];rfl)
  have hi0:(0:Int)≤(i:Int):=by omega
  have hi1:(i:Int)<(n:Int):=by omega
  have hi2:(i:Int)+1=((i+1:Nat):Int):=by push_cast;rfl
  refine go (an9 s0 s17 s18 s19 s4 r g hi0 (an3 hi1 (Nat.mul_one i) (Nat.zero_add i))) ?_
  refine rc (an3 s0 s4 hi0) (zcZ (hW.ext hR.ext) p 255 (by omega) (by omega)) ?_
  rintro _ v1 ⟨rfl,hE1⟩
  refine rgo (an3 s0 s4 hi0) ?_
  refine rc (an3 s0 s4 hi0) (zbW (hR.extx hE1) (decP 255 p).2) ?_
  rintro _ v2 ⟨hR2,hk2'⟩
  have hdl:=zfK 255 p
  obtain⟨x,hx⟩:∃x,(decP 255 p).1=x:=⟨_,rfl⟩
  rw[hx]at hdl
  have hox:octP p= .int .u8 (x:Int):=by unfold octP;rw[hx,zbv (by omega)]
  have hsE:=hE1.size
  have hsk:=hk2'.size
  refine rgo (an3 s0 s4 hx) ?_
  refine rq ?_;intro gd K hgd hK
  try simp (disch:=first|omega|assumption|rfl) only[go_sem,s4,hx]
  refine zbb (z:= .int .u8 0) rfl rfl rfl rfl rfl ?_
  intro y1 hy1 hys1 hyo
  try simp (disch:=first|omega|assumption|rfl) only[go_sem,s4]
  have hb2:b<w2.heap.size:=by omega
  refine zaN (e:=5) (((hown.ext hE1).keep hk2' fun j hj hs=>by have:=(hown.ge hj).1;omega).ext hy1) hyo.row rfl rfl rfl rfl rfl rfl ((vr1 s4)) (vr0) (fun q hq=>by rw[List.mem_singleton.1 hq];rfl) (by simp;omega) (by decide) (by omega) ?_
  intro sv' y2 hown2 hX2 hK2 hb2'
  try simp only[go_sem]
  refine hK _ _ ?_;clear hK hgd;clear K;try clear gd
  refine go (an5 s0 s17 s18 s19 hi2) ?_
  have hkx:Keep (fun i=>i=b) w2 y1:=((hk.trans (hE1.mono fun _ _ h=>h.elim)).trans hk2').trans (hy1.mono fun _ _ h=>h.elim)
  refine⟨rfl,⟨(vq1 s0),(vq1 s17),(vq1 s18),(vq1 hi2)⟩,?_,hkx.own hK2 fun j hj h=>by have:=(hown.ge h).1;omega,sv',vr0,?_⟩
  ·rw[zal (by omega),hp]
   unfold zfd at hR2 ⊢
   rw[List.foldl_append]
   exact(hR2.extx hy1).keep hK2 fun j hj=>by have:=(hown.ge hj).1;have:=h.low;omega
  ·rw[zal (by omega),hp,List.map_append,List.map_cons,List.map_nil,hox]
   exact hown2
 ·rintro σ v r ⟨⟨s0,s17,s18,s19⟩,hR,hk,sv,s4,hown⟩
  rw[←hn,List.take_length]at hR hown
  refine go (an6 s0 s17 s18 s19 s4 r) ?_
  refine zae (.inr rfl) Tryz.ntmps167 rfl (zac ((vr1 s4)) zad) ?_
  exact⟨hown.mono (by omega),hR,hk2.trans hk⟩
def hexV(c:UInt8):Option Nat:=if 48≤c.toNat∧c.toNat≤57 then some (c.toNat - 48) else if 97≤c.toNat∧c.toNat≤102 then some (c.toNat - 87) else if 65≤c.toNat∧c.toNat≤70 then some (c.toNat - 55) else Option.none
theorem zeA{c:UInt8}{x:Nat}(h:hexV c=some x):x<16:=by
 unfold hexV at h
 split at h
 ·simp only[Option.some.injEq]at h;omega
 ·split at h
  ·simp only[Option.some.injEq]at h;omega
  ·split at h
   ·simp only[Option.some.injEq]at h;omega
   ·cases h
theorem or32:∀n:Nat,n<128→(97≤n∧n≤102∨65≤n∧n≤70)→IntKind.u8.wrap ((BitVec.ofInt IntKind.u8.bits (n:Int)|||BitVec.ofInt IntKind.u8.bits 32).toNat:Int)=if 97≤n then(n:Int) else(n:Int)+32:=by decide+kernel
theorem lower_ok(w:World)(c:UInt8)(h:(97≤c.toNat∧c.toNat≤102)∨(65≤c.toNat∧c.toNat≤70)):Fn Tryz.prog 247 #[zak c] w (fun v w'=>v= .int .u8 (if 97≤c.toNat then(c.toNat:Int) else(c.toNat:Int)+32)∧w=w'):=by
 have ho:=or32 c.toNat (by omega) h
 have hbv:zak c= .int .u8 (c.toNat:Int):=rfl
 have hor:binV Tryz.prog .or 5 (.int .u8 (c.toNat:Int)) (.int .u8 32)=some (.int .u8 (if 97≤c.toNat then(c.toNat:Int) else(c.toNat:Int)+32)):=by rw[←ho];rfl
 refine enter Tryz.func247 Tryz.ntmps247 rfl rfl ?_
 refine go (an2 hbv hor) ?_
 refine rt0 Tryz.ntmps247 ?_
 exact⟨rfl,rfl⟩
def zaJ(l:Lab):Nat:=l.foldl (fun n c=>16*n+(hexV c).getD 0) 0
theorem zhV:∀(l:Lab) (n:Nat),n≤l.foldl (fun n c=>16*n+(hexV c).getD 0) n
 | [],n=>Nat.le_refl _
 |c::l,n=>by rw[List.foldl_cons];have:=zhV l (16*n+(hexV c).getD 0);omega
theorem zfD{l:Lab}{i:Nat}(h:i<l.length):zaJ (l.take (i+1))=16*zaJ (l.take i)+(hexV l[i]).getD 0:=by
 unfold zaJ
 rw[zal h,List.foldl_append]
 rfl
theorem zhU(l:Lab)(i:Nat):zaJ (l.take i)≤zaJ l:=by
 unfold zaJ
 have h:=zhV (l.drop i) ((l.take i).foldl (fun n c=>16*n+(hexV c).getD 0) 0)
 rwa [←List.foldl_append,List.take_append_drop]at h
theorem PuHi_ok(w:World){l:Lab}{bt mx:Int}(hb:bt=8∧mx=255∨bt=16∧mx=65535)(h0:l≠ [])(hl2:l.length≤1000)(hv:∀c∈l,(hexV c).isSome=true)(hm:(zaJ l:Int)≤mx):Fn Tryz.prog 206 #[vs l,vi 16,vi bt] w (fun v w'=>v= .tuple #[.int .u64 (zaJ l:Nat),.nilIface]∧Ext w w'):=by
 have d1:decide (l=[])=false:=decide_eq_false h0
 refine enter Tryz.func206 Tryz.ntmps206 rfl rfl ?_
 have l1:decide ((2:Int)≤16)=true:=rfl
 have l2:decide ((16:Int)≤36)=true:=rfl
 have l3:decide (bt=0)=false:=decide_eq_false (by omega)
 have l4:decide (bt<0)=false:=decide_eq_false (by omega)
 have l5:decide ((64:Int)<bt)=false:=decide_eq_false (by omega)
 have l6:decide ((16:Int)=10)=false:=rfl
 have l7:decide ((16:Int)=16)=true:=rfl
 have l8:decide ((16:Int)=0)=false:=rfl
 have hmx:0≤mx∧mx≤65535:=by omega
 refine go (an2 d1 l8) ?_
 refine rgg [(2,28)] (an2 l1 l2) ?_
 refine go l3 ?_
 refine rgg [(2,80)] (an2 l4 l5) ?_
 have hsh:binV Tryz.prog .shl 114 (.int .u64 1) (.int .u64 bt)=some (.int .u64 (mx+1)):=by rcases hb with ⟨rfl,rfl⟩| ⟨rfl,rfl⟩<;>rfl
 have hwb:IntKind.u64.wrap bt=bt:=by rcases hb with ⟨rfl,rfl⟩| ⟨rfl,rfl⟩<;>rfl
 have hsb:mx+1 - 1=mx:=by omega
 have hwm:IntKind.u64.wrap mx=mx:=by rcases hb with ⟨rfl,rfl⟩| ⟨rfl,rfl⟩<;>rfl
 refine go (an6 l6 l7 hsh hsb hwb hwm) ?_
 refine rq ?_;intro gd K hgd hK
 try simp only[go_sem]
 refine zeE rfl rfl rfl (vr0) ?_
 intro cp cur w2 hlc hcs hct hE2 hs2 hb2
 try simp only[go_sem]
 refine hK _ _ ?_;clear hK hgd;clear K;try clear gd
 have hgx:∀i (h:i<l.length),zag w2 (some ⟨w.heap.size,i,Option.none⟩)=some (zak l[i]):=fun i hi=>by
  refine zab hb2 ?_
  have:(cur.toList.take l.length)[i]? =some (zak l[i]):=by rw[hct,List.getElem?_map,List.getElem?_eq_getElem hi];rfl
  rw[List.getElem?_take,if_pos hi]at this
  simpa using this
 refine go trivial ?_
 refine zbs l.length (fun i σ v=>(σ 1=vi 16∧σ 8= .bool false∧σ 10= .int .u64 1152921504606846976∧σ 11= .int .u64 mx∧σ 12= .bool false∧σ 13= .int .u64 (zaJ (l.take i):Nat)∧σ 99= .slice (some ⟨w.heap.size,0,Option.none⟩) l.length cp∧σ 100=vi l.length∧σ 101=vi i)∧v=w2) ?_ ?_ ?_
 ·exact⟨⟨vr0,vr0,vr0,vr0,vr0,vr0,vr0,vr0,vr0⟩,rfl⟩
 ·rintro i σ v hi r ⟨⟨s1,s8,s10,s11,s12,s13,s99,s100,s101⟩,rfl⟩
  obtain⟨k,d,n,hg,hkd,hn,hn15,hn1⟩:∃(k:UInt8) (d n:Nat),zag v (some ⟨w.heap.size,i,Option.none⟩)=some (zak k)∧hexV k=some d∧zaJ (l.take i)=n∧((16*n+d:Nat):Int)≤mx∧zaJ (l.take (i+1))=16*n+d:=by
   obtain⟨x,hx⟩:=Option.isSome_iff_exists.1 (hv l[i] (List.getElem_mem hi))
   have h1:=zfD hi
   have h2:=zhU l (i+1)
   rw[hx,Option.getD_some]at h1
   exact⟨l[i],x,_,hgx i hi,hx,rfl,by omega,h1⟩
  have hd:=zeA hkd
  rw[hn]at s13
  have hbv:zak k= .int .u8 (k.toNat:Int):=rfl
  have hi0:(0:Int)≤(i:Int):=by omega
  have hi1:(i:Int)<(l.length:Int):=by omega
  have hi2:(i:Int)+1=((i+1:Nat):Int):=by push_cast;rfl
  have hk48:48≤k.toNat∧k.toNat≤102∧k.toNat≠95∧((k.toNat≤57∧d=k.toNat - 48)∨(97≤k.toNat∧d=k.toNat - 87)∨(65≤k.toNat∧k.toNat≤70∧d=k.toNat - 55)):=by
   unfold hexV at hkd
   split at hkd
   ·simp only[Option.some.injEq]at hkd;omega
   ·split at hkd
    ·simp only[Option.some.injEq]at hkd;omega
    ·split at hkd
     ·simp only[Option.some.injEq]at hkd;omega
     ·cases hkd
  have k95:decide ((k.toNat:Int)=95)=false:=decide_eq_false (by omega)
  have k48:decide ((48:Int)≤(k.toNat:Int))=true:=decide_eq_true (by omega)
  refine go (an9 s1 s8 s10 s11 s12 s13 s99 s100 (an8 s101 r hg hbv hi0 hi1 (Nat.mul_one i) (Nat.zero_add i))) ?_
  obtain⟨A,hA⟩:∃A,16*n=A:=⟨_,rfl⟩
  obtain⟨B,hB⟩:∃B,16*n+d=B:=⟨_,rfl⟩
  have f1:decide ((16:Int)≤(d:Int))=false:=decide_eq_false (by omega)
  have f2:decide ((1152921504606846976:Int)≤(n:Int))=false:=decide_eq_false (by omega)
  have f3:(n:Int)*16=(A:Int):=by omega
  have f4:(A:Int)+(d:Int)=(B:Int):=by omega
  have f5:decide ((B:Int)<(A:Int))=false:=decide_eq_false (by omega)
  have f6:decide (mx<(B:Int))=false:=decide_eq_false (by omega)
  refine rgg [(2,109)] k95 ?_
  refine go trivial ?_
  by_cases c57:k.toNat≤57
  ·have k57:decide ((k.toNat:Int)≤57)=true:=decide_eq_true (by omega)
   have f0:(k.toNat:Int) - 48=(d:Int):=by omega
   refine rgg [(2,115)] (an2 k48 k57) ?_
   refine go (an9 s1 s8 s10 s11 s12 s13 s99 s100 (an6 s101 f0 f1 f2 f3 f4)) ?_
   refine rgg [(3,155)] (an5 f5 f6 f3 f4 s11) ?_
   refine go (an9 s1 s8 s10 s11 s12 s99 s100 s101 hi2) ?_
   exact⟨rfl,⟨(vq1 s1),(vq1 s8),(vq1 s10),(vq1 s11),(vq1 s12),by rw[hn1,hB];first| (simp only[go_sem];done)| (simp only[go_sem];rfl),(vq1 s99),(vq1 s100),(vq1 hi2)⟩,rfl⟩
  ·have k57:decide ((k.toNat:Int)≤57)=false:=decide_eq_false (by omega)
   have hlc:(97≤k.toNat∧k.toNat≤102)∨(65≤k.toNat∧k.toNat≤70):=by omega
   have hlo:=lower_ok v k hlc
   obtain⟨L,hL⟩:∃L:Int,(if 97≤k.toNat then(k.toNat:Int) else(k.toNat:Int)+32)=L:=⟨_,rfl⟩
   have hLb:97≤L∧L≤102∧L - 97+10=(d:Int):=by rw[←hL];split<;>omega
   rw[hL]at hlo
   have g1:decide ((97:Int)≤L)=true:=decide_eq_true hLb.1
   have g2:decide (L≤122)=true:=decide_eq_true (by omega)
   have f0:=hLb.2.2
   refine rgg [(2,115)] (an2 k48 k57) ?_
   refine go trivial ?_
   refine rcg [(3,125)] trivial hlo ?_
   rintro _ z1 ⟨rfl,hz1⟩
   subst hz1
   refine rdg [(3,125)] g1 hlo ?_
   rintro _ z1 ⟨rfl,hz1⟩
   subst hz1
   refine reg [(3,125)] g2 ?_
   refine go trivial ?_
   refine rc trivial hlo ?_
   rintro _ z1 ⟨rfl,hz1⟩
   subst hz1
   refine rgo (an9 s1 s8 s10 s11 s12 s13 s99 s100 (an6 s101 f0 f1 f2 f3 f4)) ?_
   refine rgg [(3,155)] (an5 f5 f6 f3 f4 s11) ?_
   refine go (an9 s1 s8 s10 s11 s12 s99 s100 s101 hi2) ?_
   exact⟨rfl,⟨(vq1 s1),(vq1 s8),(vq1 s10),(vq1 s11),(vq1 s12),by rw[hn1,hB];first| (simp only[go_sem];done)| (simp only[go_sem];rfl),(vq1 s99),(vq1 s100),(vq1 hi2)⟩,rfl⟩
 ·rintro σ v r ⟨⟨s1,s8,s10,s11,s12,s13,s99,s100,s101⟩,rfl⟩
  refine go (an7 s8 s12 s13 s99 s100 s101 r) ?_
  refine rgg [(1,165)] (an2 s12 s13) ?_
  refine go (an2 s12 s13) ?_
  refine zae (.inr rfl) Tryz.ntmps206 rfl (zac ((vr1 s13)) (zac (vr0) zad)) ?_
  exact⟨by rw[List.take_length];rfl,hE2⟩
theorem PuH_ok(w:World){l:Lab}{bt mx:Int}(hb:bt=8∧mx=255∨bt=16∧mx=65535)(h0:l≠ [])(hl2:l.length≤1000)(hv:∀c∈l,(hexV c).isSome=true)(hm:(zaJ l:Int)≤mx):Fn Tryz.prog 135 #[vs l,vi 16,vi bt] w (fun v w'=>v= .tuple #[.int .u64 (zaJ l:Nat),.nilIface]∧Ext w w'):=by
 refine enter Tryz.func135 Tryz.ntmps135 rfl rfl ?_
 refine go trivial ?_
 refine rc trivial (PuHi_ok w hb h0 hl2 hv hm) ?_
 rintro _ w1 ⟨rfl,hE1⟩
 refine rgo trivial ?_
 refine rq ?_;intro gd K hgd hK
 try simp only[go_sem]
 rw[show binV Tryz.prog .neq 108 .nilIface .nilIface=Option.none from rfl,zcv]
 refine zeq (u:= .nilIface) (b:=false) (by kernel_rfl) (.inl ⟨rfl,rfl⟩) (vr0) rfl ?_
 try simp only[go_sem]
 refine hK _ _ ?_;clear hK hgd;clear K;try clear gd
 refine go trivial ?_
 refine zae (.inr rfl) Tryz.ntmps135 rfl (zac (vr0) (zac (vr0) zad)) ?_
 exact⟨rfl,hE1⟩
theorem Pu16_ok(w:World){a c:UInt8}{x y:Nat}(ha:hexV a=some x)(hc:hexV c=some y):Fn Tryz.prog 135 #[vs [a,c],vi 16,vi 8] w (fun v w'=>v= .tuple #[.int .u64 ((16*x+y:Nat):Int),.nilIface]∧Ext w w'):=by
 have hx:=zeA ha
 have hy:=zeA hc
 have e:zaJ [a,c]=16*x+y:=by unfold zaJ;simp[ha,hc]
 have:=PuH_ok w (l:=[a,c]) (.inl ⟨rfl,rfl⟩) (by simp) (by simp) (fun z hz=>by
  simp only[List.mem_cons,List.not_mem_nil,or_false]at hz
  rcases hz with rfl|rfl
  ·rw[ha];rfl
  ·rw[hc];rfl) (by rw[e];omega)
 rw[e]at this
 exact this
def catW(ws:List (Lab×Bool)):Lab:=ws.flatMap (·.1)
theorem zgp{ws:List (Lab×Bool)}(h:∀x∈ws,x.1.length≤1000000):(catW ws).length≤1000000*ws.length:=by
 induction ws with
 |nil=>exact Nat.zero_le _
 |cons x l ih=>
  have h1:=h x (List.mem_cons_self ..)
  have h2:=ih fun y hy=>h y (List.mem_cons_of_mem _ hy)
  unfold catW at*
  rw[List.flatMap_cons,List.length_append,List.length_cons]
  omega
def Pairs(s:Lab)(bs:List UInt8):Prop:=s.length=2*bs.length∧∀i (h:i<bs.length) (h1:2*i<s.length) (h2:2*i+1<s.length),∃x y,hexV s[2*i]=some x∧hexV s[2*i+1]=some y∧bs[i].toNat=16*x+y
theorem zgD{W0 w:World}{b:Nat}{t:Lab}{ws:List (Lab×Bool)}{ov:Value}{n:Nat}{bs:List UInt8}(hW:WX W0)(h:Rdr W0 w b ((t,false)::ws) ov 0)(hl:ws.length≤1000)(ht:t.length≤1000000)(hn:decP 4294967295 t=(n,0))(hn2:n≤1024)(hwq:∀x∈ws,x.2=false∧x.1.length≤1000000)(htr:Lib.trimS (catW ws) digs16=[])(hlen:(catW ws).length=2*n)(hp:Pairs (catW ws) bs):
  Fn Tryz.prog 165 #[.pointer (some ⟨b,0,Option.none⟩)] w (fun v w'=>Own w.heap.size w' 5 v (bs.map zak)∧Rdr W0 w' b [] ov 0∧Keep (fun i=>i=b) w w'):=by
 have hbl:=h.lt
 have hcl:=zgp fun x hx=>(hwq x hx).2
 have hml:1000000*ws.length≤1000000*1000:=Nat.mul_le_mul_left _ hl
 refine enter Tryz.func165 Tryz.ntmps165 rfl rfl ?_
 refine go trivial ?_
 refine rc trivial (zci h (by omega)) ?_
 rintro _ w1 ⟨rfl,hR1,hk1⟩
 refine rd trivial (zcZ (hW.ext hR1.ext) t 4294967295 (by omega) (by omega)) ?_
 rintro _ w2 ⟨rfl,hE2⟩
 rw[hn]
 simp only[if_neg (show¬false=true by decide)]at hR1
 refine rgo trivial ?_
 refine rc trivial (zbW (hR1.extx hE2) 0) ?_
 rintro _ w3 ⟨hR3,hk3⟩
 rw[show zaO 0 0=0 from rfl]at hR3
 have d1:decide ((1024:Int)<(n:Int))=false:=decide_eq_false (by omega)
 refine rgo d1 ?_
 have hk03:Keep (fun i=>i=b) w w3:=(hk1.trans (hE2.mono fun _ _ h=>h.elim)).trans hk3
 have ez:decide ((0:Int)=0)=true:=rfl
 refine zav (Q:=fun e' σ' ds' v'=>e'= .exit 0∧ds'=[]∧(σ' 0= .pointer (some ⟨b,0,Option.none⟩)∧σ' 3= .int .u64 n∧σ' 5=vs (catW ws))∧Rdr W0 v' b [] ov 0∧Keep (fun i=>i=b) w v') ?_ ?_
 ·refine zaR (fun m σ ds v=>ds=[]∧∃i,i+m=ws.length∧(σ 0= .pointer (some ⟨b,0,Option.none⟩)∧σ 3= .int .u64 n∧σ 5=vs (catW (ws.take i)))∧Rdr W0 v b (ws.drop i) ov 0∧Keep (fun i=>i=b) w v) ws.length ?_ ?_
  ·exact⟨rfl,0,by omega,⟨vr0,vr0,vr0⟩,hR3,hk03⟩
  rintro m σ ds v ⟨rfl,i,him,⟨s0,s3,s5⟩,hR,hk⟩
  obtain⟨wv,hb,hr⟩:=hR.at'
  obtain⟨aw,cw,rfl,_,_⟩:=hr.open
  have c0:zag v (some ⟨b,0,Option.none⟩)=some (.slice aw (ws.drop i).length cw):=zab hb rfl
  have c2:zag v (some ⟨b,2,Option.none⟩)=some (vi 0):=zab hb rfl
  by_cases hi:i<ws.length
  ·have d2:decide ((0:Int)<((ws.drop i).length:Int))=true:=decide_eq_true (by rw[List.length_drop];omega)
   rw[List.drop_eq_getElem_cons hi]at hR
   obtain⟨⟨u,q⟩,hu⟩:∃x,ws[i]=x:=⟨_,rfl⟩
   have hum:(u,q)∈ws:=hu▸List.getElem_mem hi
   obtain⟨hq,hul⟩:=hwq _ hum
   simp only at hq hul
   subst hq
   rw[hu]at hR
   refine go (an3 s0 s3 s5) ?_
   refine rgg [(6,29)] (an8 s0 s3 s5 c0 c2 d2 ez (Nat.zero_add 2)) ?_
   refine go (an3 s0 s3 s5) ?_
   refine rc (an3 s0 s3 s5) (zci hR (by rw[List.length_drop];omega)) ?_
   rintro _ v1 ⟨rfl,hR1',hk1'⟩
   simp only[if_neg (show¬false=true by decide)]at hR1'
   have hct:catW (ws.take (i+1))=catW (ws.take i)++u:=by rw[zal hi,hu];unfold catW;simp
   have hcl1:=zgp (ws:=ws.take i) fun x hx=>(hwq x (List.mem_of_mem_take hx)).2
   rw[List.length_take]at hcl1
   have hml1:1000000*min i ws.length≤1000000*1000:=Nat.mul_le_mul_left _ (by omega)
   have l1:(catW (ws.take i)).length+u.length≤9223372036854775807:=by omega
   refine rgo (an4 s0 s3 s5 l1) ?_
   exact⟨m - 1,by omega,rfl,i+1,by omega,⟨(vq1 s0),(vq1 s3),by rw[hct];first| (simp only[go_sem,s5];done)| (simp only[go_sem,s5];rfl)⟩,hR1',hk.trans hk1'⟩
  ·have d2:decide ((0:Int)<((ws.drop i).length:Int))=false:=decide_eq_false (by rw[List.length_drop];omega)
   refine go (an3 s0 s3 s5) ?_
   refine rgg [(6,29)] (an7 s0 s3 s5 c0 c2 d2 (Nat.zero_add 2)) ?_
   refine go (an3 s0 s3 s5) ?_
   rw[List.drop_of_length_le (by omega)]at hR
   rw[List.take_of_length_le (by omega)]at s5
   exact⟨rfl,rfl,⟨(vq1 s0),(vq1 s3),(vq1 s5)⟩,hR,hk⟩
 rintro _ σ0 _ w4 ⟨rfl,rfl,⟨s0,s3,s5⟩,hR4,hk4⟩
 obtain⟨s,hs⟩:∃s,catW ws=s:=⟨_,rfl⟩
 rw[hs]at htr hlen hp hcl s5
 obtain⟨hpl,hpx⟩:=hp
 refine go (an3 s0 s3 s5) ?_
 refine rcg [(3,43)] (an3 s0 s3 s5) (zdZ w4 s (by omega)) ?_
 rintro _ w5 ⟨rfl,hE5⟩
 rw[decide_eq_true htr]
 have f1:(2:Int)*(n:Int)=((2*n:Nat):Int):=by omega
 have d3:decide (((s.length:Nat):Int)=((2*n:Nat):Int))=true:=decide_eq_true (by omega)
 have hR5:=hR4.extx hE5
 obtain⟨wv5,hb5,_⟩:=hR5.at'
 have c5:zag w5 (some ⟨b,2,Option.none⟩)=some (vi 0):=zab hb5 rfl
 refine reg [(3,43)] (an5 s0 s3 s5 f1 d3) ?_
 refine go (an6 s0 s3 s5 c5 ez (Nat.zero_add 2)) ?_
 have hk5:Keep (fun i=>i=b) w w5:=hk4.trans (hE5.mono fun _ _ h=>h.elim)
 have hsz5:=hk5.size
 refine zaR (fun m σ ds v=>ds=[]∧∃j,j+m=bs.length∧(σ 5=vs s∧σ 7=vi ((2*j:Nat):Int))∧Ext w5 v∧∃sv,σ 6=sv∧Own w5.heap.size v 5 sv ((bs.take j).map zak)) bs.length ?_ ?_
 ·exact⟨rfl,0,by omega,⟨(vr1 s5),vr0⟩,Keep.refl _ _,_,vr0,Own.nil _ _ _⟩
 rintro m σ ds v ⟨rfl,j,hjm,⟨r5,r7⟩,hEv,sv,r6,hown⟩
 obtain⟨I,hI⟩:∃I,2*j=I:=⟨_,rfl⟩
 rw[hI]at r7
 by_cases hj:j<bs.length
 ·have d4:decide ((I:Int)<(s.length:Int))=true:=decide_eq_true (by omega)
  have i1:I<s.length:=by omega
  have i2:I+1<s.length:=by omega
  obtain⟨x,y,hx,hy,hxy⟩:=hpx j hj (by omega) (by omega)
  simp only[hI]at hx hy
  have hI2:(I:Int)+2=((I+2:Nat):Int):=by push_cast;rfl
  have z0:(0:Int)≤(I:Int):=by omega
  have z1:(I:Int)≤((I+2:Nat):Int):=by omega
  have z2:((I+2:Nat):Int)≤(s.length:Int):=by omega
  have hsl:List.take (I+2 - I) (List.drop I s)=[s[I],s[I+1]]:=by
   rw[show I+2 - I=2 by omega,List.drop_eq_getElem_cons i1,List.drop_eq_getElem_cons i2]
   rfl
  refine go (an4 r5 r7 r6 d4) ?_
  refine rc (an8 r5 r7 r6 hI2 z0 z1 z2 hsl) (Pu16_ok v hx hy) ?_
  rintro _ v1 ⟨rfl,hE1⟩
  have hbl2:=bs[j].toNat_lt
  rw[←hxy]
  obtain⟨c,hc⟩:∃c,bs[j]=c:=⟨_,rfl⟩
  rw[hc]at hbl2 ⊢
  have hbv:zak c= .int .u8 (c.toNat:Int):=rfl
  have hsv:=hEv.size
  have hsv1:=hE1.size
  refine rgo (an3 r5 r7 r6) ?_
  refine rq ?_;intro gd K hgd hK
  try simp (disch:=first|omega|assumption|rfl) only[go_sem,r6]
  refine zbb (z:= .int .u8 0) rfl rfl rfl rfl rfl ?_
  intro y1 hy1 hys1 hyo
  try simp (disch:=first|omega|assumption|rfl) only[go_sem,r6]
  refine zaN (e:=5) ((hown.ext hE1).ext hy1) hyo.row rfl rfl rfl rfl rfl rfl ((vr1 r6)) (vr0) (fun q hq=>by rw[List.mem_singleton.1 hq];rfl) (by simp;omega) (by decide) (by omega) ?_
  intro sv' y2 hown2 hX2 hK2 hb2'
  try simp only[go_sem]
  refine hK _ _ ?_;clear hK hgd;clear K;try clear gd
  refine go (an3 r5 r7 hI2) ?_
  refine⟨m - 1,by omega,rfl,j+1,by omega,⟨(vq1 r5),by rw[show 2*(j+1)=I+2 by omega];simp only[go_sem,hI2]⟩,hX2 w5 ((hEv.trans hE1).trans hy1) (Nat.le_refl _),sv',vr0,?_⟩
  rw[zal hj,hc,List.map_append,List.map_cons,List.map_nil,hbv]
  exact hown2
 ·have d4:decide ((I:Int)<(s.length:Int))=false:=decide_eq_false (by omega)
  refine go (an4 r5 r7 r6 d4) ?_
  rw[List.take_of_length_le (by omega)]at hown
  refine zae (.inr rfl) Tryz.ntmps165 rfl (zac ((vr1 r6)) zad) ?_
  exact⟨hown.mono hsz5,hR5.extx hEv,hk5.trans (hEv.mono fun _ _ h=>h.elim)⟩
def zat(t:Int):Int×Int×Int×Int:=if t=1 then(0,0,0,4) else if t=28 then(0,0,0,16) else if t=15 then(1,1,0,0) else if t=6 then(2,5,0,0) else if t=16 then(0,0, -1,0) else if t=2∨t=5∨t=12∨t=39 then(1,0,0,0) else(0,0,0, -1)
def zd0(x:Int×Int×Int×Int):Value:= .agg #[vi x.1,vi x.2.1,vi x.2.2.1,vi x.2.2.2]
theorem zc7(a b c d:Int):∀v∈ [vi a,vi b,vi c,vi d],one v=true:=fun v h=>by
 simp at h
 rcases h with rfl|rfl|rfl|rfl<;>rfl
theorem zhC(w:World)(t:Int):Fn Tryz.prog 146 #[vi t] w (fun v w'=>v=zd0 (zat t)∧Ext w w'):=by
 refine enter Tryz.func146 Tryz.ntmps146 rfl rfl ?_
 refine go trivial ?_
 refine zas ?_
 intro w1 hE1 hs1 hA
 unfold zat
 by_cases h0:t=1
 ·have d0:decide (t=1)=true:=decide_eq_true h0
  rw[if_pos h0]
  refine go d0 ?_
  refine rq ?_;intro gd K hgd hK
  try simp only[go_sem]
  refine⟨by kernel_rfl,?_⟩
  rw[show bdV Tryz.prog 218 [(3,vi 4)]=some (.agg #[vi 0,vi 0,vi 0,vi 4]) from by kernel_rfl]
  try simp only[go_sem]
  refine zaI (P:=Tryz.prog) (t:=218) (l:=[vi 0,vi 0,vi 0,vi 4]) hA rfl (zc7 _ _ _ _) rfl rfl ?_
  intro w2 hs2 hB2 hk2
  try simp only[go_sem]
  refine hK _ _ ?_;clear hK hgd;clear K;try clear gd
  refine go trivial ?_
  refine zae (.inr rfl) Tryz.ntmps146 rfl (zaK (x:=⟨w.heap.size,0,Option.none⟩) (k:=4) (vr0) rfl rfl (zam hB2 rfl) zad) ?_
  exact⟨rfl,Keep.to_ext hE1 rfl (fun b hb=>by omega) hk2⟩
 have d0:decide (t=1)=false:=decide_eq_false h0
 rw[if_neg h0]
 by_cases h1:t=28
 ·have d1:decide (t=28)=true:=decide_eq_true h1
  rw[if_pos h1]
  refine go (an2 d0 d1) ?_
  refine rq ?_;intro gd K hgd hK
  try simp only[go_sem]
  refine⟨by kernel_rfl,?_⟩
  rw[show bdV Tryz.prog 218 [(3,vi 16)]=some (.agg #[vi 0,vi 0,vi 0,vi 16]) from by kernel_rfl]
  try simp only[go_sem]
  refine zaI (P:=Tryz.prog) (t:=218) (l:=[vi 0,vi 0,vi 0,vi 16]) hA rfl (zc7 _ _ _ _) rfl rfl ?_
  intro w2 hs2 hB2 hk2
  try simp only[go_sem]
  refine hK _ _ ?_;clear hK hgd;clear K;try clear gd
  refine go trivial ?_
  refine zae (.inr rfl) Tryz.ntmps146 rfl (zaK (x:=⟨w.heap.size,0,Option.none⟩) (k:=4) (vr0) rfl rfl (zam hB2 rfl) zad) ?_
  exact⟨rfl,Keep.to_ext hE1 rfl (fun b hb=>by omega) hk2⟩
 have d1:decide (t=28)=false:=decide_eq_false h1
 rw[if_neg h1]
 by_cases h2:t=15
 ·have d2:decide (t=15)=true:=decide_eq_true h2
  rw[if_pos h2]
  refine go (an3 d0 d1 d2) ?_
  refine rq ?_;intro gd K hgd hK
  try simp only[go_sem]
  refine⟨by kernel_rfl,?_⟩
  rw[show bdV Tryz.prog 218 [(0,vi 1),(1,vi 1)]=some (.agg #[vi 1,vi 1,vi 0,vi 0]) from by kernel_rfl]
  try simp only[go_sem]
  refine zaI (P:=Tryz.prog) (t:=218) (l:=[vi 1,vi 1,vi 0,vi 0]) hA rfl (zc7 _ _ _ _) rfl rfl ?_
  intro w2 hs2 hB2 hk2
  try simp only[go_sem]
  refine hK _ _ ?_;clear hK hgd;clear K;try clear gd
  refine go trivial ?_
  refine zae (.inr rfl) Tryz.ntmps146 rfl (zaK (x:=⟨w.heap.size,0,Option.none⟩) (k:=4) (vr0) rfl rfl (zam hB2 rfl) zad) ?_
  exact⟨rfl,Keep.to_ext hE1 rfl (fun b hb=>by omega) hk2⟩
 have d2:decide (t=15)=false:=decide_eq_false h2
 rw[if_neg h2]
 by_cases h3:t=6
 ·have d3:decide (t=6)=true:=decide_eq_true h3
  rw[if_pos h3]
  refine go (an4 d0 d1 d2 d3) ?_
  refine rq ?_;intro gd K hgd hK
  try simp only[go_sem]
  refine⟨by kernel_rfl,?_⟩
  rw[show bdV Tryz.prog 218 [(0,vi 2),(1,vi 5)]=some (.agg #[vi 2,vi 5,vi 0,vi 0]) from by kernel_rfl]
  try simp only[go_sem]
  refine zaI (P:=Tryz.prog) (t:=218) (l:=[vi 2,vi 5,vi 0,vi 0]) hA rfl (zc7 _ _ _ _) rfl rfl ?_
  intro w2 hs2 hB2 hk2
  try simp only[go_sem]
  refine hK _ _ ?_;clear hK hgd;clear K;try clear gd
  refine go trivial ?_
  refine zae (.inr rfl) Tryz.ntmps146 rfl (zaK (x:=⟨w.heap.size,0,Option.none⟩) (k:=4) (vr0) rfl rfl (zam hB2 rfl) zad) ?_
  exact⟨rfl,Keep.to_ext hE1 rfl (fun b hb=>by omega) hk2⟩
 have d3:decide (t=6)=false:=decide_eq_false h3
 rw[if_neg h3]
 by_cases h4:t=16
 ·have d4:decide (t=16)=true:=decide_eq_true h4
  rw[if_pos h4]
  refine go (an5 d0 d1 d2 d3 d4) ?_
  refine rq ?_;intro gd K hgd hK
  try simp only[go_sem]
  refine⟨by kernel_rfl,?_⟩
  rw[show bdV Tryz.prog 218 [(2,vi (-1))]=some (.agg #[vi 0,vi 0,vi (-1),vi 0]) from by kernel_rfl]
  try simp only[go_sem]
  refine zaI (P:=Tryz.prog) (t:=218) (l:=[vi 0,vi 0,vi (-1),vi 0]) hA rfl (zc7 _ _ _ _) rfl rfl ?_
  intro w2 hs2 hB2 hk2
  try simp only[go_sem]
  refine hK _ _ ?_;clear hK hgd;clear K;try clear gd
  refine go trivial ?_
  refine zae (.inr rfl) Tryz.ntmps146 rfl (zaK (x:=⟨w.heap.size,0,Option.none⟩) (k:=4) (vr0) rfl rfl (zam hB2 rfl) zad) ?_
  exact⟨rfl,Keep.to_ext hE1 rfl (fun b hb=>by omega) hk2⟩
 have d4:decide (t=16)=false:=decide_eq_false h4
 rw[if_neg h4]
 by_cases h5:t=2
 ·have d5:decide (t=2)=true:=decide_eq_true h5
  rw[if_pos (show t=2∨t=5∨t=12∨t=39 by omega)]
  refine go (an6 d0 d1 d2 d3 d4 d5) ?_
  refine rq ?_;intro gd K hgd hK
  try simp only[go_sem]
  refine⟨by kernel_rfl,?_⟩
  rw[show bdV Tryz.prog 218 [(0,vi 1)]=some (.agg #[vi 1,vi 0,vi 0,vi 0]) from by kernel_rfl]
  try simp only[go_sem]
  refine zaI (P:=Tryz.prog) (t:=218) (l:=[vi 1,vi 0,vi 0,vi 0]) hA rfl (zc7 _ _ _ _) rfl rfl ?_
  intro w2 hs2 hB2 hk2
  try simp only[go_sem]
  refine hK _ _ ?_;clear hK hgd;clear K;try clear gd
  refine go trivial ?_
  refine zae (.inr rfl) Tryz.ntmps146 rfl (zaK (x:=⟨w.heap.size,0,Option.none⟩) (k:=4) (vr0) rfl rfl (zam hB2 rfl) zad) ?_
  exact⟨rfl,Keep.to_ext hE1 rfl (fun b hb=>by omega) hk2⟩
 have d5:decide (t=2)=false:=decide_eq_false h5
 by_cases h6:t=5
 ·have d6:decide (t=5)=true:=decide_eq_true h6
  rw[if_pos (show t=2∨t=5∨t=12∨t=39 by omega)]
  refine go (an7 d0 d1 d2 d3 d4 d5 d6) ?_
  refine rq ?_;intro gd K hgd hK
  try simp only[go_sem]
  refine⟨by kernel_rfl,?_⟩
  rw[show bdV Tryz.prog 218 [(0,vi 1)]=some (.agg #[vi 1,vi 0,vi 0,vi 0]) from by kernel_rfl]
  try simp only[go_sem]
  refine zaI (P:=Tryz.prog) (t:=218) (l:=[vi 1,vi 0,vi 0,vi 0]) hA rfl (zc7 _ _ _ _) rfl rfl ?_
  intro w2 hs2 hB2 hk2
  try simp only[go_sem]
  refine hK _ _ ?_;clear hK hgd;clear K;try clear gd
  refine go trivial ?_
  refine zae (.inr rfl) Tryz.ntmps146 rfl (zaK (x:=⟨w.heap.size,0,Option.none⟩) (k:=4) (vr0) rfl rfl (zam hB2 rfl) zad) ?_
  exact⟨rfl,Keep.to_ext hE1 rfl (fun b hb=>by omega) hk2⟩
 have d6:decide (t=5)=false:=decide_eq_false h6
 by_cases h7:t=12
 ·have d7:decide (t=12)=true:=decide_eq_true h7
  rw[if_pos (show t=2∨t=5∨t=12∨t=39 by omega)]
  refine go (an8 d0 d1 d2 d3 d4 d5 d6 d7) ?_
  refine rq ?_;intro gd K hgd hK
  try simp only[go_sem]
  refine⟨by kernel_rfl,?_⟩
  rw[show bdV Tryz.prog 218 [(0,vi 1)]=some (.agg #[vi 1,vi 0,vi 0,vi 0]) from by kernel_rfl]
  try simp only[go_sem]
  refine zaI (P:=Tryz.prog) (t:=218) (l:=[vi 1,vi 0,vi 0,vi 0]) hA rfl (zc7 _ _ _ _) rfl rfl ?_
  intro w2 hs2 hB2 hk2
  try simp only[go_sem]
  refine hK _ _ ?_;clear hK hgd;clear K;try clear gd
  refine go trivial ?_
  refine zae (.inr rfl) Tryz.ntmps146 rfl (zaK (x:=⟨w.heap.size,0,Option.none⟩) (k:=4) (vr0) rfl rfl (zam hB2 rfl) zad) ?_
  exact⟨rfl,Keep.to_ext hE1 rfl (fun b hb=>by omega) hk2⟩
 have d7:decide (t=12)=false:=decide_eq_false h7
 by_cases h8:t=39
 ·have d8:decide (t=39)=true:=decide_eq_true h8
  rw[if_pos (show t=2∨t=5∨t=12∨t=39 by omega)]
  refine go (an9 d0 d1 d2 d3 d4 d5 d6 d7 d8) ?_
  refine rq ?_;intro gd K hgd hK
  try simp only[go_sem]
  refine⟨by kernel_rfl,?_⟩
  rw[show bdV Tryz.prog 218 [(0,vi 1)]=some (.agg #[vi 1,vi 0,vi 0,vi 0]) from by kernel_rfl]
  try simp only[go_sem]
  refine zaI (P:=Tryz.prog) (t:=218) (l:=[vi 1,vi 0,vi 0,vi 0]) hA rfl (zc7 _ _ _ _) rfl rfl ?_
  intro w2 hs2 hB2 hk2
  try simp only[go_sem]
  refine hK _ _ ?_;clear hK hgd;clear K;try clear gd
  refine go trivial ?_
  refine zae (.inr rfl) Tryz.ntmps146 rfl (zaK (x:=⟨w.heap.size,0,Option.none⟩) (k:=4) (vr0) rfl rfl (zam hB2 rfl) zad) ?_
  exact⟨rfl,Keep.to_ext hE1 rfl (fun b hb=>by omega) hk2⟩
 have d8:decide (t=39)=false:=decide_eq_false h8
 rw[if_neg (show¬(t=2∨t=5∨t=12∨t=39) by omega)]
 refine go (an9 d0 d1 d2 d3 d4 d5 d6 d7 d8) ?_
 refine rq ?_;intro gd K hgd hK
 try simp only[go_sem]
 refine⟨by kernel_rfl,?_⟩
 rw[show bdV Tryz.prog 218 [(3,vi (-1))]=some (.agg #[vi 0,vi 0,vi 0,vi (-1)]) from by kernel_rfl]
 try simp only[go_sem]
 refine zaI (P:=Tryz.prog) (t:=218) (l:=[vi 0,vi 0,vi 0,vi (-1)]) hA rfl (zc7 _ _ _ _) rfl rfl ?_
 intro w2 hs2 hB2 hk2
 try simp only[go_sem]
 refine hK _ _ ?_;clear hK hgd;clear K;try clear gd
 refine go trivial ?_
 refine zae (.inr rfl) Tryz.ntmps146 rfl (zaK (x:=⟨w.heap.size,0,Option.none⟩) (k:=4) (vr0) rfl rfl (zam hB2 rfl) zad) ?_
 exact⟨rfl,Keep.to_ext hE1 rfl (fun b hb=>by omega) hk2⟩
theorem zfU(w:World)(t:Int):Fn Tryz.prog 83 #[vi t] w (fun v w'=>v= .tuple #[vi (zat t).1,vi (zat t).2.1,vi (zat t).2.2.2]∧w'=w):=by
 refine enter Tryz.func83 Tryz.ntmps83 rfl rfl ?_
 by_cases h1:t=1
 ·subst h1
  refine go (an9 (show decide ((1:Int)=1)=true from rfl) trivial trivial trivial trivial trivial trivial trivial trivial) ?_
  refine zae (.inr rfl) Tryz.ntmps83 rfl (zac (vr0) (zac (vr0) (zac (vr0) zad))) ?_
  exact⟨rfl,rfl⟩
 by_cases h28:t=28
 ·subst h28
  refine go (an9 (show decide ((28:Int)=1)=false from rfl) (show decide ((28:Int)=28)=true from rfl) trivial trivial trivial trivial trivial trivial trivial) ?_
  refine zae (.inr rfl) Tryz.ntmps83 rfl (zac (vr0) (zac (vr0) (zac (vr0) zad))) ?_
  exact⟨rfl,rfl⟩
 by_cases h2:t=2
 ·subst h2
  refine go (an9 (show decide ((2:Int)=1)=false from rfl) (show decide ((2:Int)=28)=false from rfl) (show decide ((2:Int)=2)=true from rfl) trivial trivial trivial trivial trivial trivial) ?_
  refine zae (.inr rfl) Tryz.ntmps83 rfl (zac (vr0) (zac (vr0) (zac (vr0) zad))) ?_
  exact⟨rfl,rfl⟩
 by_cases h5:t=5
 ·subst h5
  refine go (an9 (show decide ((5:Int)=1)=false from rfl) (show decide ((5:Int)=28)=false from rfl) (show decide ((5:Int)=2)=false from rfl) (show decide ((5:Int)=5)=true from rfl) trivial trivial trivial trivial trivial) ?_
  refine zae (.inr rfl) Tryz.ntmps83 rfl (zac (vr0) (zac (vr0) (zac (vr0) zad))) ?_
  exact⟨rfl,rfl⟩
 by_cases h12:t=12
 ·subst h12
  refine go (an9 (show decide ((12:Int)=1)=false from rfl) (show decide ((12:Int)=28)=false from rfl) (show decide ((12:Int)=2)=false from rfl) (show decide ((12:Int)=5)=false from rfl) (show decide ((12:Int)=12)=true from rfl) trivial trivial trivial trivial) ?_
  refine zae (.inr rfl) Tryz.ntmps83 rfl (zac (vr0) (zac (vr0) (zac (vr0) zad))) ?_
  exact⟨rfl,rfl⟩
 by_cases h39:t=39
 ·subst h39
  refine go (an9 (show decide ((39:Int)=1)=false from rfl) (show decide ((39:Int)=28)=false from rfl) (show decide ((39:Int)=2)=false from rfl) (show decide ((39:Int)=5)=false from rfl) (show decide ((39:Int)=12)=false from rfl) (show decide ((39:Int)=39)=true from rfl) trivial trivial trivial) ?_
  refine zae (.inr rfl) Tryz.ntmps83 rfl (zac (vr0) (zac (vr0) (zac (vr0) zad))) ?_
  exact⟨rfl,rfl⟩
 by_cases h15:t=15
 ·subst h15
  refine go (an9 (show decide ((15:Int)=1)=false from rfl) (show decide ((15:Int)=28)=false from rfl) (show decide ((15:Int)=2)=false from rfl) (show decide ((15:Int)=5)=false from rfl) (show decide ((15:Int)=12)=false from rfl) (show decide ((15:Int)=39)=false from rfl) (show decide ((15:Int)=15)=true from rfl) trivial trivial) ?_
  refine zae (.inr rfl) Tryz.ntmps83 rfl (zac (vr0) (zac (vr0) (zac (vr0) zad))) ?_
  exact⟨rfl,rfl⟩
 by_cases h6:t=6
 ·subst h6
  refine go (an9 (show decide ((6:Int)=1)=false from rfl) (show decide ((6:Int)=28)=false from rfl) (show decide ((6:Int)=2)=false from rfl) (show decide ((6:Int)=5)=false from rfl) (show decide ((6:Int)=12)=false from rfl) (show decide ((6:Int)=39)=false from rfl) (show decide ((6:Int)=15)=false from rfl) (show decide ((6:Int)=6)=true from rfl) trivial) ?_
  refine zae (.inr rfl) Tryz.ntmps83 rfl (zac (vr0) (zac (vr0) (zac (vr0) zad))) ?_
  exact⟨rfl,rfl⟩
 by_cases h16:t=16
 ·subst h16
  refine go (an9 (show decide ((16:Int)=1)=false from rfl) (show decide ((16:Int)=28)=false from rfl) (show decide ((16:Int)=2)=false from rfl) (show decide ((16:Int)=5)=false from rfl) (show decide ((16:Int)=12)=false from rfl) (show decide ((16:Int)=39)=false from rfl) (show decide ((16:Int)=15)=false from rfl) (show decide ((16:Int)=6)=false from rfl) (show decide ((16:Int)=16)=true from rfl)) ?_
  refine zae (.inr rfl) Tryz.ntmps83 rfl (zac (vr0) (zac (vr0) (zac (vr0) zad))) ?_
  exact⟨rfl,rfl⟩
 have hsh:zat t=(0,0,0, -1):=by
  unfold zat
  rw[if_neg h1,if_neg h28,if_neg h15,if_neg h6,if_neg h16,if_neg (by rintro(h|h|h|h);exact h2 h;exact h5 h;exact h12 h;exact h39 h)]
 rw[hsh]
 refine go (an9 (decide_eq_false h1) (decide_eq_false h28) (decide_eq_false h2) (decide_eq_false h5) (decide_eq_false h12) (decide_eq_false h39) (decide_eq_false h15) (decide_eq_false h6) (decide_eq_false h16)) ?_
 refine zae (.inr rfl) Tryz.ntmps83 rfl (zac (vr0) (zac (vr0) (zac (vr0) zad))) ?_
 exact⟨rfl,rfl⟩
def txD(d:DatL):Int:=if (zat d.ty).2.2.1<0 then min (max (d.texts.length:Int) 1) 32 else(zat d.ty).2.2.1
def rwD(d:DatL):Int:=if (zat d.ty).2.2.2<0 then(d.raw.length:Int) else(zat d.ty).2.2.2
def zbk(d:DatL):Bool:=decide ((d.names.length:Int)=(zat d.ty).1) && decide ((d.nums.length:Int)=(zat d.ty).2.1) && decide ((d.texts.length:Int)=txD d) && decide ((d.raw.length:Int)=rwD d)
theorem form_ok{w:World}{cs:List Value}{d:DatL}(hd:DatAt w cs d):Fn Tryz.prog 84 #[.agg cs.toArray] w (fun v w'=>v= .bool (zbk d)∧Ext w w'):=by
  obtain⟨nm,nu,tx,rw',rfl,⟨vals,⟨an,cn,rfl,hcn,hgn⟩,hvl,hvr⟩,⟨au,cu,rfl,hcu,hgu⟩,⟨at1,ct,rfl,hct,hgt⟩,⟨ar,cr,rfl,hcr,hgr⟩⟩:=hd.ex
  simp only[List.length_map]at hcu hgu hct hgt hcr hgr
  simp only[List.length_map,hvl]
  refine enter Tryz.func84 Tryz.ntmps84 rfl rfl ?_
  refine go trivial ?_
  refine zas ?_
  intro w1 hE1 hs1 hA
  have p0:zag w1 (some ⟨w.heap.size,0,Option.none⟩)=some (vi d.ty):=zab hA rfl
  obtain⟨⟨a,b,c,r⟩,hsh⟩:∃x,zat d.ty=x:=⟨_,rfl⟩
  have htx:txD d=if c<0 then min (max (d.texts.length:Int) 1) 32 else c:=by unfold txD;rw[hsh]
  have hrw:rwD d=if r<0 then(d.raw.length:Int) else r:=by unfold rwD;rw[hsh]
  refine rq ?_;intro gd K hgd hK
  try simp (disch:=first|omega|assumption|rfl) only[go_sem,p0,Nat.add_zero]
  refine Fn.mono (zhC w1 d.ty) ?_
  rintro _ w2 ⟨rfl,hE2⟩
  rw[hsh]
  unfold zd0
  simp only
  try simp only[go_sem]
  refine zbp (P:=Tryz.prog) (l:=[vi a,vi b,vi c,vi r]) rfl (zc7 _ _ _ _) rfl rfl ?_
  intro w3 hE3 hs3 hB3
  try simp only[go_sem]
  refine hK _ _ ?_;clear hK hgd;clear K;try clear gd
  obtain⟨P,hP⟩:∃P,w2.heap.size=P:=⟨_,rfl⟩
  rw[hP]at hB3
  simp only[hP]
  have hE13:=(hE1.trans hE2).trans hE3
  have hA3:=Ext.at (hE2.trans hE3) hA
  have hs2:=hE2.size
  have hs3':=hE3.size
  have vars:∀{z:World},Keep (fun i=>i=P) w3 z→zag z (some ⟨w.heap.size,1,Option.none⟩)=some (.slice an d.names.length cn)∧zag z (some ⟨w.heap.size,2,Option.none⟩)=some (.slice au d.nums.length cu)∧zag z (some ⟨w.heap.size,3,Option.none⟩)=some (.slice at1 d.texts.length ct)∧zag z (some ⟨w.heap.size,4,Option.none⟩)=some (.slice ar d.raw.length cr):=fun {z} hk=>by
    have hz:=(hk.block w.heap.size (by omega) (by omega)).trans hA3
    exact⟨zab hz rfl,zab hz rfl,zab hz rfl,zab hz rfl⟩
  have c2:zag w3 (some ⟨P,2,Option.none⟩)=some (vi c):=zaG (j:=2) hB3 rfl
  obtain⟨t1,ht1⟩:∃t,decide (c<0)=t:=⟨_,rfl⟩
  refine go (an3 c2 ht1 (Nat.zero_add 2)) ?_
  refine zav (Q:=fun e σ' ds' v'=>e= .normal∧ds'=[]∧(σ' 1= .pointer (some ⟨w.heap.size,0,Option.none⟩)∧σ' 3= .pointer (some ⟨P,0,Option.none⟩))∧v'.heap[P]? =some (.cells [vi a,vi b,vi (txD d),vi r].toArray 218 (0,0))∧Keep (fun i=>i=P) w3 v') ?_ ?_
  · cases t1 with
    |true=>
      have hc:=of_decide_eq_true ht1
      rw[if_pos hc]at htx
      obtain⟨_,_,k3,_⟩:=vars (Keep.refl _ w3)
      refine go trivial ?_
      refine rq ?_;intro gd K hgd hK
      try simp (disch:=first|omega|assumption|rfl) only[go_sem,k3,Nat.zero_add]
      refine op_max2 (vr0) (vr0) ?_
      try simp only[go_sem]
      refine zd2 (vr0) (vr0) ?_
      rw[←htx]
      try simp (disch:=first|omega|assumption|rfl) only[go_sem,Nat.zero_add]
      refine zbQ (P:=Tryz.prog) (t:=3) (j:=2) (u:=vi (txD d)) hB3 (by simp) rfl rfl rfl ?_
      intro z hz hbz hkz
      try simp only[go_sem]
      refine hK _ _ ?_;clear hK hgd;clear K;try clear gd
      refine go trivial ?_
      exact⟨rfl,rfl,⟨vr0,vr0⟩,hbz,hkz⟩
    |false=>
      have hc:=of_decide_eq_false ht1
      rw[if_neg hc]at htx
      refine go trivial ?_
      exact⟨rfl,rfl,⟨vr0,vr0⟩,by rw[htx];exact hB3,Keep.refl _ _⟩
  rintro _ σ1 _ v1 ⟨rfl,rfl,⟨s1,s3⟩,hB4,hk4⟩
  have c3:zag v1 (some ⟨P,3,Option.none⟩)=some (vi r):=zaG (j:=3) hB4 rfl
  obtain⟨t2,ht2⟩:∃t,decide (r<0)=t:=⟨_,rfl⟩
  refine go (an5 s1 s3 c3 ht2 (Nat.zero_add 3)) ?_
  refine zav (Q:=fun e σ' ds' v'=>e= .normal∧ds'=[]∧(σ' 1= .pointer (some ⟨w.heap.size,0,Option.none⟩)∧σ' 3= .pointer (some ⟨P,0,Option.none⟩))∧v'.heap[P]? =some (.cells [vi a,vi b,vi (txD d),vi (rwD d)].toArray 218 (0,0))∧Keep (fun i=>i=P) w3 v') ?_ ?_
  · cases t2 with
    |true=>
      rw[if_pos (of_decide_eq_true ht2)]at hrw
      obtain⟨_,_,_,k4⟩:=vars hk4
      refine go (an2 s1 s3) ?_
      refine rq ?_;intro gd K hgd hK
      try simp (disch:=first|omega|assumption|rfl) only[go_sem,s1,s3,k4,Nat.zero_add]
      refine zbQ (P:=Tryz.prog) (t:=3) (j:=3) (u:=vi (d.raw.length:Int)) hB4 (by simp) rfl rfl rfl ?_
      intro z hz hbz hkz
      try simp only[go_sem]
      refine hK _ _ ?_;clear hK hgd;clear K;try clear gd
      refine go (an2 s1 s3) ?_
      exact⟨rfl,rfl,⟨(vq1 s1),(vq1 s3)⟩,by rw[hrw];exact hbz,hk4.trans hkz⟩
    |false=>
      rw[if_neg (of_decide_eq_false ht2)]at hrw
      refine go (an2 s1 s3) ?_
      exact⟨rfl,rfl,⟨(vq1 s1),(vq1 s3)⟩,by rw[hrw];exact hB4,hk4⟩
  clear s1 s3
  rintro _ σ2 _ v2 ⟨rfl,rfl,⟨s1,s3⟩,hB5,hk5⟩
  obtain⟨k1,k2,k3,k4⟩:=vars hk5
  have e0:zag v2 (some ⟨P,0,Option.none⟩)=some (vi a):=zaG (j:=0) hB5 rfl
  have e1:zag v2 (some ⟨P,1,Option.none⟩)=some (vi b):=zaG (j:=1) hB5 rfl
  have e2:zag v2 (some ⟨P,2,Option.none⟩)=some (vi (txD d)):=zaG (j:=2) hB5 rfl
  have e3:zag v2 (some ⟨P,3,Option.none⟩)=some (vi (rwD d)):=zaG (j:=3) hB5 rfl
  have hfm:zbk d=(decide ((d.names.length:Int)=a) && decide ((d.nums.length:Int)=b) && decide ((d.texts.length:Int)=txD d) && decide ((d.raw.length:Int)=rwD d)):=by unfold zbk;rw[hsh]
  have hEf:Ext w v2:=Keep.to_ext hE13 rfl (fun i hi=>by omega) hk5
  obtain⟨b1,hb1⟩:∃t,decide ((d.names.length:Int)=a)=t:=⟨_,rfl⟩
  obtain⟨b2,hb2⟩:∃t,decide ((d.nums.length:Int)=b)=t:=⟨_,rfl⟩
  obtain⟨b3,hb3⟩:∃t,decide ((d.texts.length:Int)=txD d)=t:=⟨_,rfl⟩
  obtain⟨b4,hb4⟩:∃t,decide ((d.raw.length:Int)=rwD d)=t:=⟨_,rfl⟩
  rw[hb1,hb2,hb3,hb4]at hfm
  rw[hfm]
  refine go (an2 s1 s3) ?_
  cases b1<;>cases b2<;>cases b3<;>cases b4<;>
    (refine rgg [(6,29),(14,37),(22,45)] (an9 s1 s3 k1 k2 k3 k4 e0 e1 (an9 e2 e3 hb1 hb2 hb3 hb4 (Nat.zero_add 1) (Nat.zero_add 2) (an2 (Nat.zero_add 3) (Nat.zero_add 4)))) ?_
     refine go trivial ?_
     refine zae (.inr rfl) Tryz.ntmps84 rfl (zac (vr0) zad) ?_
     exact⟨rfl,hEf⟩)
def zcy(ts:List Lab):Bool:=ts.any fun t=>decide (255<t.length)
theorem zhR(w:World)(t:Lab)(hl:t.length≤1000000000):Fn Tryz.prog 86 #[vs t] w (fun v w'=>v= .bool (decide (255<t.length))∧Ext w w'):=by
 have h1:decide ((255:Int)<(t.length:Int))=decide (255<t.length):=decide_eq_decide.2 (by omega)
 refine enter Tryz.func86 Tryz.ntmps86 rfl rfl ?_
 refine go h1 ?_
 refine rt0 Tryz.ntmps86 ?_
 exact⟨rfl,Keep.refl _ _⟩
theorem Idx_ok{w:World}{v:Value}{ts:List Lab}(hr:Row w v (ts.map vs))(hl:ts.length≤1000000000)(hx:∀t∈ts,t.length≤1000000000):Fn Tryz.prog 147 #[v,.func (.func 86) #[] #[]] w (fun u w'=>Ext w w'∧∃k:Int,u=vi k∧decide (0≤k)=zcy ts):=by
 obtain⟨a,c,rfl,hg⟩:=zcj hr
 refine enter Tryz.func147 Tryz.ntmps147 rfl rfl ?_
 refine go trivial ?_
 refine zbs ts.length (fun i σ v=>(σ 0= .slice a ts.length c∧σ 1= .func (.func 86) #[] #[]∧σ 7=vi ts.length∧σ 8=vi i)∧Ext w v∧∀j (h:j<ts.length),j<i→ts[j].length≤255) ?_ ?_ ?_
 ·exact⟨⟨vr0,vr0,vr0,vr0⟩,Keep.refl _ _,fun j _ h=>by omega⟩
 ·rintro i σ v hi r ⟨⟨s0,s1,s7,s8⟩,hE,hlow⟩
  obtain⟨x,rfl,g0⟩:=hg i hi
  have g:=zaa hE g0
  obtain⟨t,ht⟩:∃t,ts[i]=t:=⟨_,rfl⟩
  rw[ht]at g
  have htl:=hx t (ht▸List.getElem_mem hi)
  have hi0:(0:Int)≤(i:Int):=by omega
  have hi1:(i:Int)<(ts.length:Int):=by omega
  have hi2:(i:Int)+1=((i+1:Nat):Int):=by push_cast;rfl
  refine go (an8 s0 s1 s7 s8 r g hi0 hi1) ?_
  refine rc (an6 s0 s1 s8 g hi0 hi1) (zhR v t htl) ?_
  rintro _ v1 ⟨rfl,hE1⟩
  by_cases hlt:255<t.length
  ·rw[decide_eq_true hlt]
   refine rgo (an2 s0 s8) ?_
   refine zae (.inr rfl) Tryz.ntmps147 rfl (zac ((vr1 s8)) zad) ?_
   refine⟨hE.trans hE1,(i:Int),rfl,?_⟩
   have:zcy ts=true:=by
    unfold zcy
    rw[List.any_eq_true]
    exact⟨t,ht▸List.getElem_mem hi,decide_eq_true hlt⟩
   rw[this]
   exact decide_eq_true hi0
  ·rw[decide_eq_false hlt]
   refine rgo (an5 s0 s1 s7 s8 hi2) ?_
   refine⟨rfl,⟨(vq1 s0),(vq1 s1),(vq1 s7),(vq1 hi2)⟩,hE.trans hE1,fun j hj hji=>?_⟩
   by_cases e:j=i
   ·subst e;rw[ht];omega
   ·exact hlow j hj (by omega)
 ·rintro σ v r ⟨⟨s0,s1,s7,s8⟩,hE,hlow⟩
  refine go (an5 s0 s1 s7 s8 r) ?_
  refine zae (.inr rfl) Tryz.ntmps147 rfl (zac (vr0) zad) ?_
  refine⟨hE, -1,rfl,?_⟩
  have:zcy ts=false:=by
   unfold zcy
   rw[List.any_eq_false]
   intro t ht
   obtain⟨j,hj,rfl⟩:=List.mem_iff_getElem.1 ht
   have:=hlow j hj hj
   simp;omega
  rw[this];rfl
theorem zfY{w:World}{v:Value}{ts:List Lab}(hr:Row w v (ts.map vs))(hl:ts.length≤1000000000)(hx:∀t∈ts,t.length≤1000000000):Fn Tryz.prog 85 #[v,.func (.func 86) #[] #[]] w (fun u w'=>u= .bool (zcy ts)∧Ext w w'):=by
 refine enter Tryz.func85 Tryz.ntmps85 rfl rfl ?_
 refine go trivial ?_
 refine rc trivial (Idx_ok hr hl hx) ?_
 rintro _ w1 ⟨hE1,k,rfl,hk⟩
 refine rgo hk ?_
 refine rt0 Tryz.ntmps85 ?_
 exact⟨rfl,hE1⟩
def zaX(d:DatL):Int:=if d.ty<1∨65535<d.ty then 6 else if zbk d=false then 2 else match d.names.find? (fun n=>decide (zaD n≠0)) with
 |some n=>zaD n
 |Option.none=>if d.ty=15∧65535<d.nums.headD 0 then 7 else if 1024<d.raw.length∨zcy d.texts=true then 3 else 0
theorem zfq{w:World}{cs:List Value}{d:DatL}(hd:DatAt w cs d)(hT:DatT d):Fn Tryz.prog 32 #[.agg cs.toArray] w (fun v w'=>v=vi (zaX d)∧Ext w w'):=by
 have hS:=hT.s
 have hd0:=hd
 obtain⟨nm,nu,tx,rw',rfl,⟨vals,⟨an,cn,rfl,hcn,hgn⟩,hvl,hvr⟩,hnu,htx,hrw⟩:=hd.ex
 obtain⟨au,cu,hau,hcu,hgu⟩:=id hnu
 obtain⟨at1,ct,hat,_⟩:=id htx
 obtain⟨ar,cr,har,_⟩:=id hrw
 rw[List.length_map]at hau hat har hcu
 subst hau
 subst hat
 subst har
 unfold zaX
 refine enter Tryz.func32 Tryz.ntmps32 rfl rfl ?_
 refine go trivial ?_
 refine zas ?_
 intro w1 hE1 hs1 hA
 have p0:zag w1 (some ⟨w.heap.size,0,Option.none⟩)=some (vi d.ty):=zab hA rfl
 have p5:zaA w1 (some ⟨w.heap.size,0,Option.none⟩) 5=some [vi d.ty,.slice an vals.length cn,.slice au d.nums.length cu,.slice at1 d.texts.length ct,.slice ar d.raw.length cr]:=zam (n:=5) hA rfl
 by_cases c1:d.ty<1
 ·rw[if_pos (.inl c1)]
  refine go trivial ?_
  refine rgg [(3,10)] (an3 p0 (decide_eq_true c1) (Nat.add_zero 0)) ?_
  refine go trivial ?_
  refine zae (.inr rfl) Tryz.ntmps32 rfl (zac (vr0) zad) ?_
  exact⟨rfl,hE1⟩
 by_cases c2:65535<d.ty
 ·rw[if_pos (.inr c2)]
  refine go trivial ?_
  refine rgg [(3,10)] (an4 p0 (decide_eq_false c1) (decide_eq_true c2) (Nat.add_zero 0)) ?_
  refine go trivial ?_
  refine zae (.inr rfl) Tryz.ntmps32 rfl (zac (vr0) zad) ?_
  exact⟨rfl,hE1⟩
 rw[if_neg (by omega)]
 refine go trivial ?_
 refine rgg [(3,10)] (an4 p0 (decide_eq_false c1) (decide_eq_false c2) (Nat.add_zero 0)) ?_
 refine go trivial ?_
 refine rc p5 (form_ok (hd0.ext hE1)) ?_
 rintro _ w2 ⟨rfl,hE2⟩
 cases hf:zbk d with
 |false=>
  rw[if_pos rfl]
  refine rgo trivial ?_
  refine zae (.inr rfl) Tryz.ntmps32 rfl (zac (vr0) zad) ?_
  exact⟨rfl,hE1.trans hE2⟩
 |true=>
 rw[if_neg (by decide)]
 have hA2:=Ext.at hE2 hA
 have q1:zag w2 (some ⟨w.heap.size,1,Option.none⟩)=some (.slice an vals.length cn):=zab hA2 rfl
 refine rgo (an2 q1 (Nat.zero_add 1)) ?_
 have hE12:=hE1.trans hE2
 have hnames:=hS.names
 have hnn:=hT.nn
 refine zbs vals.length (fun i σ v=>(σ 1= .pointer (some ⟨w.heap.size,0,Option.none⟩)∧σ 20= .slice an vals.length cn∧σ 21=vi vals.length∧σ 22=vi i)∧Ext w2 v∧∀j (h:j<d.names.length),j<i→zaD d.names[j]=0) ?_ ?_ ?_
 ·exact⟨⟨vr0,vr0,vr0,vr0⟩,Keep.refl _ _,fun j _ h=>by omega⟩
 ·rintro i σ v hi r ⟨⟨s1,s20,s21,s22⟩,hE,hlow⟩
  have g0:=hgn i hi
  obtain⟨xN,rfl⟩:=Option.isSome_iff_exists.1 (zaj g0)
  have hEv:=hE12.trans hE
  have g:=zaa hEv g0
  have hin:i<d.names.length:=by omega
  have hrow:=(hvr i hi hin).ext hEv
  obtain⟨nv,hnv⟩:∃nv,vals[i]=nv:=⟨_,rfl⟩
  obtain⟨n,hn⟩:∃n,d.names[i]=n:=⟨_,rfl⟩
  rw[hnv]at g hrow
  rw[hn]at hrow
  have hnS:=hnames n (hn▸List.getElem_mem hin)
  have hi0:(0:Int)≤(i:Int):=by omega
  have hi1:(i:Int)<(vals.length:Int):=by omega
  have hi2:(i:Int)+1=((i+1:Nat):Int):=by push_cast;rfl
  obtain⟨na,nc,hne,_⟩:=id hrow
  refine go (an8 s1 s20 s21 s22 r g hi0 hi1) ?_
  refine rc (an4 s1 s20 s21 s22) (zfl v nv n hrow (fun l hl=>by have:=hnS.1 l hl;omega) (by have:=hnS.2;omega)) ?_
  rintro _ v1 ⟨rfl,hE1'⟩
  by_cases hc:zaD n=0
  ·refine rgo (an6 s1 s20 s21 s22 hi2 (decide_eq_true hc)) ?_
   refine⟨rfl,⟨(vq1 s1),(vq1 s20),(vq1 s21),(vq1 hi2)⟩,hE.trans hE1',fun j hj hji=>?_⟩
   by_cases e:j=i
   ·subst e;rw[hn];exact hc
   ·exact hlow j hj (by omega)
  ·refine rgo (an2 s1 (decide_eq_false hc)) ?_
   refine zae (.inr rfl) Tryz.ntmps32 rfl (zac (vr0) zad) ?_
   have hfind:d.names.find? (fun n=>decide (zaD n≠0))=some n:=by
    rw[List.find?_eq_some_iff_getElem]
    refine⟨decide_eq_true hc,i,hin,hn,fun j hj=>?_⟩
    simp[hlow j (by omega) hj]
   rw[hfind]
   exact⟨rfl,hEv.trans hE1'⟩
 rintro σ v r ⟨⟨s1,s20,s21,s22⟩,hE,hlow⟩
 have hnone:d.names.find? (fun n=>decide (zaD n≠0))=Option.none:=by
  rw[List.find?_eq_none]
  intro n hn
  obtain⟨j,hj,rfl⟩:=List.mem_iff_getElem.1 hn
  simp[hlow j hj (by omega)]
 rw[hnone]
 simp only
 have hEv:=hE12.trans hE
 have hAv:=Ext.at (hE2.trans hE) hA
 have u0:zag v (some ⟨w.heap.size,0,Option.none⟩)=some (vi d.ty):=zab hAv rfl
 have u2:zag v (some ⟨w.heap.size,2,Option.none⟩)=some (.slice au d.nums.length cu):=zab hAv rfl
 have u3:zag v (some ⟨w.heap.size,3,Option.none⟩)=some (.slice at1 d.texts.length ct):=zab hAv rfl
 have u4:zag v (some ⟨w.heap.size,4,Option.none⟩)=some (.slice ar d.raw.length cr):=zab hAv rfl
 refine go (an5 s1 s20 s21 s22 r) ?_
 obtain⟨tt,htt⟩:∃tt,decide (d.ty=15∧65535<d.nums.headD 0)=tt:=⟨_,rfl⟩
 refine zav (Q:=fun e σ' ds' v'=>e= .normal∧ds'=[]∧v=v'∧σ' 1= .pointer (some ⟨w.heap.size,0,Option.none⟩)∧σ' 32= .bool tt) ?_ ?_
 ·by_cases c3:d.ty=15
  ·have hn1:d.nums.length=1:=by
    unfold zbk at hf
    simp only[Bool.and_eq_true,decide_eq_true_eq]at hf
    have h2:=hf.1.1.2
    rw[c3]at h2
    have h3:(zat 15).2.1=1:=rfl
    rw[h3]at h2
    omega
   obtain⟨x,hx⟩:∃x,d.nums[0]'(by omega)=x:=⟨_,rfl⟩
   have hhd:d.nums.headD 0=x:=by
    cases hnn:d.nums with
    |nil=>rw[hnn]at hn1;cases hn1
    |cons a l=>simp[hnn]at hx;simpa using hx
   have gu:=zaa hEv (hgu 0 (by rw[List.length_map];omega))
   rw[List.getElem_map,hx,zaH]at gu
   obtain⟨xU,rfl⟩:∃x,au=some x:=by
    cases au with
    |none=>cases gu
    |some x=>exact⟨x,rfl⟩
   have n0:(0:Int)<(d.nums.length:Int):=by omega
   have d2:decide ((65535:Int)<x)=tt:=by rw[←htt,hhd];exact decide_eq_decide.2 ⟨fun h=>⟨c3,h⟩,fun h=>h.2⟩
   refine rgg [(3,36)] (an9 s1 u0 u2 (decide_eq_true c3) gu n0 d2 (Nat.add_zero 0) (an4 (Nat.zero_add 2) Int.toNat_zero (Nat.zero_mul 1) (zaH (some xU)))) ?_
   exact⟨rfl,rfl,rfl,(vq1 s1),vr0⟩
  ·have d2:tt=false:=by rw[←htt];exact decide_eq_false fun h=>c3 h.1
   subst d2
   refine rgg [(3,36)] (an4 s1 u0 (decide_eq_false c3) (Nat.add_zero 0)) ?_
   exact⟨rfl,rfl,rfl,(vq1 s1),vr0⟩
 rintro _ σ1 _ v1 ⟨rfl,rfl,hv1,g1,g32⟩
 subst hv1
 cases tt with
 |true=>
  rw[if_pos (of_decide_eq_true htt)]
  refine go (an2 g1 g32) ?_
  refine zae (.inr rfl) Tryz.ntmps32 rfl (zac (vr0) zad) ?_
  exact⟨rfl,hEv⟩
 |false=>
 rw[if_neg (of_decide_eq_false htt)]
 have htx':=hS.tx
 by_cases c4:1024<d.raw.length
 ·have d4:decide ((1024:Int)<(d.raw.length:Int))=true:=decide_eq_true (by omega)
  rw[if_pos (.inl c4)]
  refine go (an5 g1 g32 u4 d4 (Nat.zero_add 4)) ?_
  refine zae (.inr rfl) Tryz.ntmps32 rfl (zac (vr0) zad) ?_
  exact⟨rfl,hEv⟩
 have d4:decide ((1024:Int)<(d.raw.length:Int))=false:=decide_eq_false (by omega)
 refine go (an5 g1 g32 u4 d4 (Nat.zero_add 4)) ?_
 refine rc (an3 g1 u3 (Nat.zero_add 3)) (zfY (htx.ext hEv) (by have:=hS.nt;omega) fun t ht=>by have:=htx' t ht;omega) ?_
 rintro _ v2 ⟨rfl,hE3⟩
 cases hlt:zcy d.texts with
 |true=>
  rw[if_pos (.inr rfl)]
  refine rgo trivial ?_
  refine zae (.inr rfl) Tryz.ntmps32 rfl (zac (vr0) zad) ?_
  exact⟨rfl,hEv.trans hE3⟩
 |false=>
  rw[if_neg (fun h=>by rcases h with h|h;exact c4 h;cases h)]
  refine rgo trivial ?_
  refine zae (.inr rfl) Tryz.ntmps32 rfl (zac (vr0) zad) ?_
  exact⟨rfl,hEv.trans hE3⟩
theorem DatAt.cells{w0:World}{cs:List Value}{d:DatL}(h:DatAt w0 cs d):∃nm,cs[0]? =some (vi d.ty)∧cs[1]? =some nm∧NamesAt w0 nm d.names:=by
 obtain⟨nm,nu,tx,rw',rfl,h1,_⟩:=h.ex
 exact⟨nm,rfl,rfl,h1⟩
section
variable {P : Program} {d : Option Tmp} {ty : TypeId} {ps : String} {af : Array Edge} {g : Option (Nat × Bool)} {ρ : Operand → Value} {w : World} {K : Value → World → Prop}
end
theorem Row.low{D:Nat}{w x:World}{v:Value}{l:List Value}{S:Nat→Prop}(h:Row w v l)(hlow:∀a n c,v= .slice (some a) n c→a.block<D)(hk:Keep S w x)(hS:∀b,b<D→¬S b)(hD:D≤w.heap.size):Row x v l:=
 h.blocks fun a n c hv=>hk.block _ (by have:=hlow a n c hv;omega) (hS _ (hlow a n c hv))
theorem off_of{y:Addr}{n:Nat}(h:y.block<n):offS (zb2 n) (some y):=fun a ha hb=>by
 cases ha
 unfold zb2 at hb
 exact absurd (show n≤y.block from hb) (by omega)
def zfE(n:Nm):Bool:=few n && decide (zaD n=0)
theorem zcH{n:Nm}(h:zaD n=0):∀l∈n,l≠ []∧l.length≤63:=by
 intro l hl
 unfold zaD at h
 cases hf:n.find? (fun l=>decide (errL l≠0)) with
 |some x=>
  rw[hf]at h
  have:=List.find?_some hf
  simp only[decide_eq_true_eq]at this
  exact absurd h this
 |none=>
  have:=List.find?_eq_none.1 hf l hl
  simp only[decide_eq_true_eq,Decidable.not_not]at this
  unfold errL at this
  split at this
  ·cases this
  ·rename_i h0
   refine⟨h0,?_⟩
   split at this
   ·cases this
   ·omega
theorem sum_ge:∀n:Nm,n.length≤(n.map fun l=>1+l.length).sum
 | []=>Nat.zero_le _
 |a::n=>by
  have ih:=sum_ge n
  rw[List.map_cons,List.sum_cons]
  have e:(a::n).length=n.length+1:=rfl
  omega
theorem zgT{n:Nm}(h:zaD n=0):n.length≤255:=by
 have hl:=zcH h
 unfold zaD at h
 split at h
 ·rename_i x hf
  have:=List.find?_some hf
  simp only[decide_eq_true_eq]at this
  exact absurd h this
 ·split at h
  ·cases h
  ·rename_i h2
   unfold lenN at h2
   have:=sum_ge n
   omega
theorem NGood_ok(w:World)(a:Value)(xs:Nm)(ha:Row w a (xs.map vs)):
  Fn Tryz.prog 15 #[a] w (fun v w'=>v= .bool (zfE xs)∧Ext w w'):=by
 refine enter Tryz.func15 Tryz.ntmps15 rfl rfl ?_
 repeat refine c_r ?_
 refine rg0 ?_
 repeat refine c_r ?_
 cases hf:few xs with
 |true=>
  refine rq ?_;intro gd K hgd hK
  have hg2:∀n σ b,zaw gd n σ (some (2,b))=zan (ev n σ (.tmp 5)) b:=(fun n σ b=>by rw[zaf,show gd 2=some 5 from(by rw[hgd];rfl)];rfl)
  try simp only[go_sem]
  refine Fn.mono (zit w a xs ha) ?_
  rintro _ w1 ⟨rfl,hE1⟩
  rw[hf]
  try simp (disch:=first|omega|assumption|rfl) only[go_sem,↓hg2]
  refine Fn.mono (zcO w1 a xs (ha.ext hE1) (fun l hl=>by
   have:=few_lb hf l hl
   simp only[few,Bool.and_eq_true,List.all_eq_true,decide_eq_true_eq]at hf
   have:=hf.2 l hl
   omega) (by have:=few_len hf;omega)) ?_
  rintro _ w2 ⟨rfl,hE2⟩
  try simp (disch:=first|omega|assumption|rfl) only[go_sem,↓hg2]
  refine hK _ _ ?_;clear hK hgd;clear K;try clear gd
  repeat refine c_r ?_
  refine rt0 Tryz.ntmps15 ?_
  refine⟨?_,hE1.trans hE2⟩
  unfold zfE
  rw[hf,Bool.true_and]
 |false=>
  refine rq ?_;intro gd K hgd hK
  have hg2:∀n σ b,zaw gd n σ (some (2,b))=zan (ev n σ (.tmp 5)) b:=(fun n σ b=>by rw[zaf,show gd 2=some 5 from(by rw[hgd];rfl)];rfl)
  try simp only[go_sem]
  refine Fn.mono (zit w a xs ha) ?_
  rintro _ w1 ⟨rfl,hE1⟩
  rw[hf]
  try simp (disch:=first|omega|assumption|rfl) only[go_sem,↓hg2]
  refine hK _ _ ?_;clear hK hgd;clear K;try clear gd
  repeat refine c_r ?_
  refine rt0 Tryz.ntmps15 ?_
  refine⟨?_,hE1⟩
  unfold zfE
  rw[hf,Bool.false_and]
theorem zbw(b:Bool):zan undef b=false:=nr rfl
structure DatF(d:DatL):Prop where
 names:∀n∈d.names,(∀l∈n,l.length≤1000000000)∧n.length≤1000000000
 nn:d.names.length≤1000000000
 nu:d.nums.length≤1000000000
 nt:d.texts.length≤1000000000
 tl:∀l∈d.texts,l.length≤1000000000
 nr:d.raw.length≤1000000000
 n8:d.names.length≤8
 f4:d.nums.length≤12∧d.texts.length≤40∧(∀l∈d.texts,l.length≤300)∧d.raw.length≤1100∧∀n∈d.names,few n=true
theorem shape_x(t:Int):(zat t).2.2.1=if t=16 then -1 else 0:=by
 unfold zat
 by_cases h:t=16
 ·subst h;rfl
 ·rw[if_neg h]
  (repeat' split)<;>rfl
theorem zg0{w:World}{cs:List Value}{d:DatL}(hd:DatAt w cs d)(hT:DatT d):Fn Tryz.prog 30 #[.agg cs.toArray] w (fun v w'=>v=vi (zaX d)∧Ext w w'):=by
 have hS:=hT.s
 obtain⟨nm,nu,tx,rw',rfl,⟨vals,⟨an,cn,rfl,hcn,hgn⟩,hvl,hvr⟩,hnu,htx,hrw⟩:=hd.ex
 obtain⟨au,cu,hau,hcu,hgu⟩:=id hnu
 obtain⟨at1,ct,hat,hgt⟩:=zcj htx
 obtain⟨ar,cr,har,_⟩:=id hrw
 rw[List.length_map]at hau har hcu
 subst hau
 subst hat
 subst har
 unfold zaX
 refine enter Tryz.func30 Tryz.ntmps30 rfl rfl ?_
 refine go trivial ?_
 refine zas ?_
 intro w1 hE1 hs1 hA
 have p0:zag w1 (some ⟨w.heap.size,0,Option.none⟩)=some (vi d.ty):=zab hA rfl
 have p1:zag w1 (some ⟨w.heap.size,1,Option.none⟩)=some (.slice an vals.length cn):=zab hA rfl
 have p2:zag w1 (some ⟨w.heap.size,2,Option.none⟩)=some (.slice au d.nums.length cu):=zab hA rfl
 have p3:zag w1 (some ⟨w.heap.size,3,Option.none⟩)=some (.slice at1 d.texts.length ct):=zab hA rfl
 have p4:zag w1 (some ⟨w.heap.size,4,Option.none⟩)=some (.slice ar d.raw.length cr):=zab hA rfl
 obtain⟨p,hp⟩:∃p,w.heap.size=p:=⟨_,rfl⟩
 rw[hp]at p0 p1 p2 p3 p4 hA ⊢
 by_cases c1:d.ty<1
 ·rw[if_pos (.inl c1)]
  refine go trivial ?_
  refine rgg [(3,13)] (an3 p0 (decide_eq_true c1) (Nat.add_zero 0)) ?_
  refine go trivial ?_
  refine zae (.inr rfl) Tryz.ntmps30 rfl (zac (vr0) zad) ?_
  exact⟨rfl,hE1⟩
 by_cases c2:65535<d.ty
 ·rw[if_pos (.inr c2)]
  refine go trivial ?_
  refine rgg [(3,13)] (an4 p0 (decide_eq_false c1) (decide_eq_true c2) (Nat.add_zero 0)) ?_
  refine go trivial ?_
  refine zae (.inr rfl) Tryz.ntmps30 rfl (zac (vr0) zad) ?_
  exact⟨rfl,hE1⟩
 rw[if_neg (by omega)]
 refine go trivial ?_
 refine rgg [(3,13)] (an4 p0 (decide_eq_false c1) (decide_eq_false c2) (Nat.add_zero 0)) ?_
 refine go trivial ?_
 refine rc (an2 p0 (Nat.add_zero 0)) (zfU w1 d.ty) ?_
 rintro _ w2 ⟨rfl,hw2⟩
 subst hw2
 have hx:=shape_x d.ty
 obtain⟨⟨a,c,x,r⟩,hsh⟩:∃x,zat d.ty=x:=⟨_,rfl⟩
 have htxd:txD d=if x<0 then min (max (d.texts.length:Int) 1) 32 else x:=by unfold txD;rw[hsh]
 have hrwd:rwD d=if r<0 then(d.raw.length:Int) else r:=by unfold rwD;rw[hsh]
 have hfb:zbk d=(decide ((d.names.length:Int)=a) && decide ((d.nums.length:Int)=c) && decide ((d.texts.length:Int)=txD d) && decide ((d.raw.length:Int)=rwD d)):=by unfold zbk;rw[hsh]
 rw[hsh]at hx ⊢
 simp only at hx ⊢
 obtain⟨b6,hb6⟩:∃b,decide ((d.texts.length:Int)=txD d)=b:=⟨_,rfl⟩
 rw[hb6]at hfb
 obtain⟨z,hz⟩:∃b,decide ((d.texts.length:Int)=0)=b:=⟨_,rfl⟩
 refine rgo (an3 p3 (Nat.zero_add 3) hz) ?_
 refine rg2 p0 Nat.add_zero ?_
 repeat refine c_r ?_
 refine zav (Q:=fun e σ' ds' v'=>e= .normal∧ds'=[]∧v'=w2∧(σ' 1= .pointer (some ⟨p,0,Option.none⟩)∧σ' 3=vi a∧σ' 4=vi c∧σ' 5=vi r∧σ' 6= .bool b6)) ?_ ?_
 ·refine wc0 ?_ ?_
  ·intro h16
   have h16':=of_decide_eq_true h16
   rw[if_pos h16']at hx
   rw[if_pos (by omega)]at htxd
   repeat refine c_r ?_
   by_cases k1:(1:Int)≤(d.texts.length:Int)
   ·obtain⟨z2,hz2⟩:∃b,decide ((d.texts.length:Int)≤32)=b:=⟨_,rfl⟩
    have e6:z2=b6:=by rw[←hz2,←hb6];exact decide_eq_decide.2 (by rw[htxd];omega)
    refine rgg [(4,36)] (an5 p3 (Nat.zero_add 3) (decide_eq_true k1) hz2 trivial) ?_
    exact⟨rfl,rfl,rfl,vr0,vr0,vr0,vr0,by rw[←e6];first| (simp only[go_sem];done)| (simp only[go_sem];rfl)⟩
   ·have e6:b6=false:=by rw[←hb6];exact decide_eq_false (by rw[htxd];omega)
    subst e6
    refine rgg [(4,36)] (an3 p3 (Nat.zero_add 3) (decide_eq_false k1)) ?_
    exact⟨rfl,rfl,rfl,vr0,vr0,vr0,vr0,vr0⟩
  ·intro h16
   have h16':=of_decide_eq_false h16
   rw[if_neg h16']at hx
   rw[if_neg (by omega),hx]at htxd
   have e6:z=b6:=by rw[←hz,←hb6,htxd]
   repeat refine c_r ?_
   exact⟨rfl,rfl,rfl,vr0,vr0,vr0,vr0,by rw[←e6];first| (simp only[go_sem];done)| (simp only[go_sem];rfl)⟩
 rintro _ σ1 _ w3 ⟨rfl,rfl,rfl,⟨s1,s3,s4,s5,s6⟩⟩
 repeat refine c_r ?_
 rw[←hvl]at hfb
 refine zav (Q:=fun e σ' ds' v'=>e= .normal∧ds'=[]∧v'=w3∧σ' 1= .pointer (some ⟨p,0,Option.none⟩)∧σ' 68= .bool (!zbk d)) ?_ ?_
 ·by_cases kA:(vals.length:Int)=a
  rotate_left
  ·have e7:(!zbk d)=true:=by rw[hfb,decide_eq_false kA];rfl
   rw[e7]
   refine rgg [(5,47),(12,54),(15,57),(23,65)] (an9 s1 s3 s4 s5 s6 p1 (Nat.zero_add 1) (decide_eq_false kA) (an3 Bool.not_true Bool.not_false zbw)) ?_
   exact⟨rfl,rfl,rfl,(vq1 s1),vr0⟩
  by_cases kB:(d.nums.length:Int)=c
  rotate_left
  ·have e7:(!zbk d)=true:=by rw[hfb,decide_eq_false kB];simp
   rw[e7]
   refine rgg [(5,47),(12,54),(15,57),(23,65)] (an9 s1 s3 s4 s5 s6 p1 (Nat.zero_add 1) (decide_eq_true kA) (an6 p2 (Nat.zero_add 2) (decide_eq_false kB) Bool.not_true Bool.not_false zbw)) ?_
   exact⟨rfl,rfl,rfl,(vq1 s1),vr0⟩
  by_cases kC:(0:Int)≤r
  ·rw[if_neg (by omega)]at hrwd
   by_cases kD:(d.raw.length:Int)=r
   ·have e7:(!zbk d)=!b6:=by rw[hfb,decide_eq_true kA,decide_eq_true kB,hrwd,decide_eq_true kD];simp
    rw[e7]
    refine rgg [(5,47),(12,54),(15,57),(23,65)] (an9 s1 s3 s4 s5 s6 p1 (Nat.zero_add 1) (decide_eq_true kA) (an9 p2 (Nat.zero_add 2) (decide_eq_true kB) Bool.not_true Bool.not_false (decide_eq_true kC) p4 (Nat.zero_add 4) (decide_eq_true kD))) ?_
    exact⟨rfl,rfl,rfl,(vq1 s1),vr0⟩
   ·have e7:(!zbk d)=true:=by rw[hfb,hrwd,decide_eq_false kD];simp
    rw[e7]
    refine rgg [(5,47),(12,54),(15,57),(23,65)] (an9 s1 s3 s4 s5 s6 p1 (Nat.zero_add 1) (decide_eq_true kA) (an9 p2 (Nat.zero_add 2) (decide_eq_true kB) Bool.not_true Bool.not_false (decide_eq_true kC) p4 (Nat.zero_add 4) (decide_eq_false kD))) ?_
    exact⟨rfl,rfl,rfl,(vq1 s1),vr0⟩
  ·rw[if_pos (by omega)]at hrwd
   have e7:(!zbk d)=!b6:=by rw[hfb,decide_eq_true kA,decide_eq_true kB,hrwd];simp
   rw[e7]
   refine rgg [(5,47),(12,54),(15,57),(23,65)] (an9 s1 s3 s4 s5 s6 p1 (Nat.zero_add 1) (decide_eq_true kA) (an9 p2 (Nat.zero_add 2) (decide_eq_true kB) Bool.not_true Bool.not_false (decide_eq_false kC) p4 (Nat.zero_add 4) zbw)) ?_
   exact⟨rfl,rfl,rfl,(vq1 s1),vr0⟩
 clear s1 s3 s4 s5 s6
 rintro _ σ2 _ w4 ⟨rfl,rfl,rfl,s1,s68⟩
 cases hf:zbk d with
 |false=>
  rw[hf]at s68
  rw[if_pos rfl]
  refine go (an2 s1 s68) ?_
  refine zae (.inr rfl) Tryz.ntmps30 rfl (zac (vr0) zad) ?_
  exact⟨rfl,hE1⟩
 |true=>
 rw[hf]at s68
 rw[if_neg (by decide)]
 refine go (an2 s1 s68) ?_
 have hnames:=hS.names
 have hnn:=hT.nn
 refine zbs vals.length (fun i σ v=>(σ 1= .pointer (some ⟨p,0,Option.none⟩)∧σ 7=vi i)∧Ext w4 v∧∀j (h:j<d.names.length),j<i→zaD d.names[j]=0) ?_ ?_ ?_
 ·exact⟨⟨(vr1 s1),vr0⟩,Keep.refl _ _,fun j _ h=>by omega⟩
 ·rintro i σ v hi r ⟨⟨s1,s7⟩,hE,hlow⟩
  have g0:=hgn i hi
  obtain⟨xN,rfl⟩:=Option.isSome_iff_exists.1 (zaj g0)
  have hEv:=hE1.trans hE
  have g:=zaa hEv g0
  have hin:i<d.names.length:=by omega
  have hrow:=(hvr i hi hin).ext hEv
  obtain⟨nv,hnv⟩:∃nv,vals[i]=nv:=⟨_,rfl⟩
  obtain⟨n,hn⟩:∃n,d.names[i]=n:=⟨_,rfl⟩
  rw[hnv]at g hrow
  rw[hn]at hrow
  have hnS:=hnames n (hn▸List.getElem_mem hin)
  obtain⟨r1,r2,r3,r4⟩:=r
  have q1:=zaa hE p1
  refine go (an9 s1 s7 q1 (Nat.zero_add 1) r1 r2 r3 g trivial) ?_
  refine rc (an9 s1 s7 q1 (Nat.zero_add 1) r1 r2 r3 g trivial) (zcO v nv n hrow (fun l hl=>by have:=hnS.1 l hl;omega) (by have:=hnS.2;omega)) ?_
  rintro _ v1 ⟨rfl,hE1'⟩
  by_cases hc:zaD n=0
  ·refine rgo (an4 s1 s7 r4 (decide_eq_true hc)) ?_
   refine⟨rfl,⟨(vq1 s1),(vq1 r4)⟩,hE.trans hE1',fun j hj hji=>?_⟩
   by_cases e:j=i
   ·subst e;rw[hn];exact hc
   ·exact hlow j hj (by omega)
  ·refine rgo (an2 s1 (decide_eq_false hc)) ?_
   refine zae (.inr rfl) Tryz.ntmps30 rfl (zac (vr0) zad) ?_
   have hfind:d.names.find? (fun n=>decide (zaD n≠0))=some n:=by
    rw[List.find?_eq_some_iff_getElem]
    refine⟨decide_eq_true hc,i,hin,hn,fun j hj=>?_⟩
    simp[hlow j (by omega) hj]
   rw[hfind]
   exact⟨rfl,hEv.trans hE1'⟩
 clear s1 s68
 rintro σ v r ⟨⟨s1,s7⟩,hE,hlow⟩
 have hnone:d.names.find? (fun n=>decide (zaD n≠0))=Option.none:=by
  rw[List.find?_eq_none]
  intro n hn
  obtain⟨j,hj,rfl⟩:=List.mem_iff_getElem.1 hn
  simp[hlow j hj (by omega)]
 rw[hnone]
 simp only
 have hEv:=hE1.trans hE
 have u0:=zaa hE p0
 have u1:=zaa hE p1
 have u2:=zaa hE p2
 have u3:=zaa hE p3
 have u4:=zaa hE p4
 refine go (an5 s1 s7 u1 r (Nat.zero_add 1)) ?_
 obtain⟨tt,htt⟩:∃tt,decide (d.ty=15∧65535<d.nums.headD 0)=tt:=⟨_,rfl⟩
 refine zav (Q:=fun e σ' ds' v'=>e= .normal∧ds'=[]∧v=v'∧σ' 1= .pointer (some ⟨p,0,Option.none⟩)∧σ' 94= .bool tt) ?_ ?_
 ·by_cases c3:d.ty=15
  ·have hn1:d.nums.length=1:=by
    unfold zbk at hf
    simp only[Bool.and_eq_true,decide_eq_true_eq]at hf
    have h2:=hf.1.1.2
    rw[c3]at h2
    have h3:(zat 15).2.1=1:=rfl
    rw[h3]at h2
    omega
   obtain⟨x,hx⟩:∃x,d.nums[0]'(by omega)=x:=⟨_,rfl⟩
   have hhd:d.nums.headD 0=x:=by
    cases hnn:d.nums with
    |nil=>rw[hnn]at hn1;cases hn1
    |cons a l=>simp[hnn]at hx;simpa using hx
   have gu:=zaa hEv (hgu 0 (by rw[List.length_map];omega))
   rw[List.getElem_map,hx,zaH]at gu
   obtain⟨xU,rfl⟩:∃x,au=some x:=by
    cases au with
    |none=>cases gu
    |some x=>exact⟨x,rfl⟩
   have n0:(0:Int)<(d.nums.length:Int):=by omega
   have d2:decide ((65535:Int)<x)=tt:=by rw[←htt,hhd];exact decide_eq_decide.2 ⟨fun h=>⟨c3,h⟩,fun h=>h.2⟩
   refine rgg [(3,88)] (an9 s1 u0 u2 (decide_eq_true c3) gu n0 d2 (Nat.add_zero 0) (an4 (Nat.zero_add 2) Int.toNat_zero (Nat.zero_mul 1) (zaH (some xU)))) ?_
   exact⟨rfl,rfl,rfl,(vq1 s1),vr0⟩
  ·have d2:tt=false:=by rw[←htt];exact decide_eq_false fun h=>c3 h.1
   subst d2
   refine rgg [(3,88)] (an4 s1 u0 (decide_eq_false c3) (Nat.add_zero 0)) ?_
   exact⟨rfl,rfl,rfl,(vq1 s1),vr0⟩
 clear s1
 rintro _ σ3 _ v1 ⟨rfl,rfl,hv1,s1,s94⟩
 subst hv1
 cases tt with
 |true=>
  rw[if_pos (of_decide_eq_true htt)]
  refine go (an2 s1 s94) ?_
  refine zae (.inr rfl) Tryz.ntmps30 rfl (zac (vr0) zad) ?_
  exact⟨rfl,hEv⟩
 |false=>
 rw[if_neg (of_decide_eq_false htt)]
 have htx':=hS.tx
 have hnt:=hS.nt
 refine go (an2 s1 s94) ?_
 clear hlow
 refine zbs d.texts.length (fun i σ v'=>(σ 1= .pointer (some ⟨p,0,Option.none⟩)∧σ 9=vi i)∧v'=v∧∀j (h:j<d.texts.length),j<i→d.texts[j].length≤255) ?_ ?_ ?_
 ·exact⟨⟨(vr1 s1),vr0⟩,rfl,fun j _ h=>by omega⟩
 ·rintro i σ v' hi ⟨r1,r2,r3,r4⟩ ⟨⟨s1,s9⟩,rfl,hlow⟩
  obtain⟨xT,rfl,g0⟩:=hgt i hi
  have g:=zaa hEv g0
  obtain⟨tx,htxi⟩:∃t,d.texts[i]=t:=⟨_,rfl⟩
  rw[htxi]at g
  have htl:=htx' tx (htxi▸List.getElem_mem hi)
  by_cases hlt:255<tx.length
  ·have d5:decide ((255:Int)<(tx.length:Int))=true:=decide_eq_true (by omega)
   refine go (an9 s1 s9 u3 (Nat.zero_add 3) r1 r2 r3 g d5) ?_
   refine zae (.inr rfl) Tryz.ntmps30 rfl (zac (vr0) zad) ?_
   have hlg:zcy d.texts=true:=by
    unfold zcy
    rw[List.any_eq_true]
    exact⟨tx,htxi▸List.getElem_mem hi,decide_eq_true hlt⟩
   rw[if_pos (.inr hlg)]
   exact⟨rfl,hEv⟩
  ·have d5:decide ((255:Int)<(tx.length:Int))=false:=decide_eq_false (by omega)
   refine go (an9 s1 s9 u3 (Nat.zero_add 3) r1 r2 r3 g (an2 r4 d5)) ?_
   refine⟨rfl,⟨(vq1 s1),(vq1 r4)⟩,rfl,fun j hj hji=>?_⟩
   by_cases e:j=i
   ·subst e;rw[htxi];omega
   ·exact hlow j hj (by omega)
 clear s1
 rintro σ v' r ⟨⟨s1,s9⟩,rfl,hlow⟩
 have hlg:zcy d.texts=false:=by
  unfold zcy
  rw[List.any_eq_false]
  intro t ht
  obtain⟨j,hj,rfl⟩:=List.mem_iff_getElem.1 ht
  have:=hlow j hj hj
  simp;omega
 by_cases c4:1024<d.raw.length
 ·have d4:decide ((1024:Int)<(d.raw.length:Int))=true:=decide_eq_true (by omega)
  rw[if_pos (.inl c4)]
  refine go (an9 s1 s9 u3 (Nat.zero_add 3) r u4 d4 (Nat.zero_add 4) trivial) ?_
  refine zae (.inr rfl) Tryz.ntmps30 rfl (zac (vr0) zad) ?_
  exact⟨rfl,hEv⟩
 ·have d4:decide ((1024:Int)<(d.raw.length:Int))=false:=decide_eq_false (by omega)
  rw[if_neg (fun h=>by rcases h with h|h;exact c4 h;rw[hlg]at h;cases h)]
  refine go (an9 s1 s9 u3 (Nat.zero_add 3) r u4 d4 (Nat.zero_add 4) trivial) ?_
  refine zae (.inr rfl) Tryz.ntmps30 rfl (zac (vr0) zad) ?_
  exact⟨rfl,hEv⟩
theorem zcU{d:DatL}(hf:zbk d=true):(d.names.length:Int)=(zat d.ty).1∧(d.nums.length:Int)=(zat d.ty).2.1∧(d.texts.length:Int)=txD d∧(d.raw.length:Int)=rwD d:=by
 unfold zbk at hf
 simp only[Bool.and_eq_true,decide_eq_true_eq]at hf
 exact⟨hf.1.1.1,hf.1.1.2,hf.1.2,hf.2⟩
theorem zaV{α:Type}{l:List α}(h:(l.length:Int)=0):l=[]:=List.length_eq_zero_iff.1 (by omega)
theorem za9{d:DatL}(hf:zbk d=true){a c r:Int}(h:zat d.ty=(a,c,0,r)):(d.names.length:Int)=a∧(d.nums.length:Int)=c∧d.texts=[]∧(0≤r→(d.raw.length:Int)=r):=by
 obtain⟨h1,h2,h3,h4⟩:=zcU hf
 unfold txD at h3
 unfold rwD at h4
 rw[h]at h1 h2 h3 h4
 exact⟨h1,h2,zaV h3,fun hr=>by rw[if_neg (by simp only;omega)]at h4;exact h4⟩
theorem zdc(sep x:Lab):zaM sep [x]=x:=by simp[zaM]
theorem zgS(l:List UInt8):zaz 1 l=l.map fun c=>[c]:=by
 refine List.ext_getElem (by rw[zbD];simp) fun i h1 h2=>?_
 rw[zcV]
 have hi:i<l.length:=by simpa using h2
 rw[List.getElem_map,Nat.mul_one,List.drop_eq_getElem_cons hi]
 rfl
theorem tx_one{d:DatL}(hf:zbk d=true)(ht:d.ty=1):za1 hexU d=zaM [46] (d.raw.map fun c=>Lib.decDigits c.toNat):=by
 obtain⟨h1,h2,h3,h4⟩:=za9 hf (a:=0) (c:=0) (r:=4) (by rw[ht];rfl)
 have e1:=zaV h1
 have e2:=zaV h2
 unfold za1 zbg zbl zcu zbI
 rw[e1,e2,h3,ht]
 simp only[List.map_nil,ite_self,List.append_nil,List.nil_append,if_true]
 rw[zdc]
 unfold zbV
 rw[zgS,List.map_map]
 congr 1
 refine List.map_congr_left fun c _=>?_
 show Lib.decDigits (0*256+c.toNat)=_
 rw[Nat.zero_mul,Nat.zero_add]
def zhv(raw:List UInt8)(i:Nat):Lab:=hexU ((raw.getD (2*i) 0).toNat*256+(raw.getD (2*i+1) 0).toNat)
theorem tx_28{d:DatL}(hf:zbk d=true)(ht:d.ty=28):d.raw.length=16∧za1 hexU d=zaM [58] ((List.range 8).map (zhv d.raw)):=by
 obtain⟨h1,h2,h3,h4⟩:=za9 hf (a:=0) (c:=0) (r:=16) (by rw[ht];rfl)
 have e1:=zaV h1
 have e2:=zaV h2
 have e4:d.raw.length=16:=by have:=h4 (by decide);omega
 refine⟨e4,?_⟩
 unfold za1 zbg zbl zcu zbI
 rw[e1,e2,h3,ht]
 simp only[List.map_nil,ite_self,List.append_nil,List.nil_append,if_true,if_neg (show¬(28:Int)=1 by decide)]
 rw[zdc]
 unfold zbV
 congr 1
 refine List.ext_getElem (by rw[List.length_map,zbD,e4];simp) fun i h1 h2=>?_
 have hi:i<8:=by simpa using h2
 rw[List.getElem_map,List.getElem_map,zcV,List.getElem_range]
 unfold zhv
 rw[List.getD_eq_getElem?_getD,List.getElem?_eq_getElem (show 2*i<d.raw.length by omega),List.getD_eq_getElem?_getD,List.getElem?_eq_getElem (show 2*i+1<d.raw.length by omega)]
 rw[show i*2=2*i from Nat.mul_comm _ _,List.drop_eq_getElem_cons (show 2*i<d.raw.length by omega),List.drop_eq_getElem_cons (show 2*i+1<d.raw.length by omega)]
 show hexU ((0*256+_)*256+_)=_
 rw[Nat.zero_mul,Nat.zero_add]
 rfl
theorem tx_16{d:DatL}(hf:zbk d=true)(ht:d.ty=16):za1 hexU d=zaM [32] (d.texts.map quoT):=by
 obtain⟨h1,h2,_,_⟩:=zcU hf
 rw[ht]at h1 h2
 have e1:=zaV h1
 have e2:=zaV h2
 unfold za1 zbg zbl zcu zbI
 rw[e1,e2,ht,show(zbN 16 tyTab).2=true from rfl]
 simp
theorem tx_15{d:DatL}(hf:zbk d=true)(ht:d.ty=15):∃m n,d.nums=[m]∧d.names=[n]∧za1 hexU d=(numT m++ [32])++zaT n:=by
 obtain⟨h1,h2,h3,h4⟩:=za9 hf (a:=1) (c:=1) (r:=0) (by rw[ht];rfl)
 obtain⟨n,hn⟩:=List.length_eq_one_iff.1 (show d.names.length=1 by omega)
 obtain⟨m,hm⟩:=List.length_eq_one_iff.1 (show d.nums.length=1 by omega)
 refine⟨m,n,hm,hn,?_⟩
 unfold za1 zbg zbl zcu zbI
 rw[hn,hm,h3,ht,show(zbN 15 tyTab).2=true from rfl]
 simp[zaM]
theorem tx_names{d:DatL}(hf:zbk d=true)(ht:d.ty=2∨d.ty=5∨d.ty=12∨d.ty=39∨d.ty=6):za1 hexU d=zaM [32] (d.names.map zaT++d.nums.map numT):=by
 have h3:d.texts=[]:=by
  rcases ht with h|h|h|h|h
  ·exact(za9 hf (a:=1) (c:=0) (r:=0) (by rw[h];rfl)).2.2.1
  ·exact(za9 hf (a:=1) (c:=0) (r:=0) (by rw[h];rfl)).2.2.1
  ·exact(za9 hf (a:=1) (c:=0) (r:=0) (by rw[h];rfl)).2.2.1
  ·exact(za9 hf (a:=1) (c:=0) (r:=0) (by rw[h];rfl)).2.2.1
  ·exact(za9 hf (a:=2) (c:=5) (r:=0) (by rw[h];rfl)).2.2.1
 unfold za1 zbg zbl zcu zbI
 rw[h3]
 rcases ht with h|h|h|h|h<;>(rw[h];simp[show (zbN 2 tyTab).2=true from rfl,show(zbN 5 tyTab).2=true from rfl,show(zbN 12 tyTab).2=true from rfl,show(zbN 39 tyTab).2=true from rfl,show(zbN 6 tyTab).2=true from rfl])
theorem tx_any{d:DatL}(hf:zbk d=true)(ht:¬(d.ty=1∨d.ty=28∨d.ty=16∨d.ty=15∨d.ty=2∨d.ty=5∨d.ty=12∨d.ty=39∨d.ty=6)):za1 hexU d=([92,35,32]++Lib.decDigits d.raw.length++if 0<d.raw.length then [32] else [])++hexT d.raw:=by
 have hsh:zat d.ty=(0,0,0, -1):=by
  unfold zat
  rw[if_neg (by omega),if_neg (by omega),if_neg (by omega),if_neg (by omega),if_neg (by omega),if_neg (by omega)]
 obtain⟨h1,h2,h3,_⟩:=za9 hf hsh
 have e1:=zaV h1
 have e2:=zaV h2
 have hfd:(zbN d.ty tyTab).2=false:=by
  unfold tyTab
  simp only[zbN]
  rw[if_neg (by omega),if_neg (by omega),if_neg (by omega),if_neg (by omega),if_neg (by omega),if_neg (by omega),if_neg (by omega),if_neg (by omega),if_neg (by omega)]
 unfold za1 zbg zbl zcu zbI
 rw[e1,e2,h3,hfd,if_neg (show¬d.ty=1 by omega),if_neg (show¬d.ty=28 by omega),if_neg (show¬false=true by decide),zgh]
 simp only[List.map_nil,ite_self,List.append_nil,List.nil_append]
 by_cases h0:d.raw.length=0
 ·rw[if_pos h0,if_neg (by omega),zaV (l:=d.raw) (by omega)]
  simp[zaM,hexT]
 ·rw[if_neg h0,if_pos (by omega)]
  simp[zaM]
theorem ix_at(c:UInt8)(r:Lab):∀p:Lab,c∉p→Lib.index (p++c::r) [c]=(p.length:Int)
 | [],_=>by
  show Lib.index (c::r) [c]=0
  rw[Lib.index];simp[List.isPrefixOf]
 |b::p,h=>by
  have hb:¬c=b:=fun e=>h (by rw[e];exact List.mem_cons_self ..)
  have ih:=ix_at c r p fun e=>h (List.mem_cons_of_mem _ e)
  show Lib.index (b::(p++c::r)) [c]=_
  rw[Lib.index,ih]
  have hp:([c]:List UInt8).isPrefixOf (b::(p++c::r))=false:=by simp[List.isPrefixOf,hb]
  have hn:¬((p.length:Int)== -1)=true:=fun e=>by have:=beq_iff_eq.1 e;omega
  rw[hp,if_neg (by decide),if_neg hn,List.length_cons]
  omega
structure SplC(c:UInt8)(s:Lab)(ps:List Lab):Prop where
 sp:Lib.splitB ⟨#[c]⟩ 0 (Lib.countB ⟨s.toArray⟩ ⟨#[c]⟩) ⟨s.toArray⟩=ps.map fun l=>⟨l.toArray⟩
 ct:Lib.countB ⟨s.toArray⟩ ⟨#[c]⟩+1=ps.length
theorem ex_front(p r:Lab):(⟨(p++r).toArray⟩:ByteArray).extract 0 (p.length+0)=⟨p.toArray⟩:=by
 apply ByteArray.ext
 rw[ByteArray.data_extract]
 simp
theorem ex_back(p:Lab)(c:UInt8)(r:Lab):(⟨(p++c::r).toArray⟩:ByteArray).extract (p.length+(⟨#[c]⟩:ByteArray).size) (⟨(p++c::r).toArray⟩:ByteArray).size=⟨r.toArray⟩:=by
 have e1:(⟨#[c]⟩:ByteArray).size=1:=rfl
 have e2:(⟨(p++c::r).toArray⟩:ByteArray).size=p.length+1+r.length:=by
  show(p++c::r).toArray.size=_
  simp;omega
 rw[e1,e2]
 apply ByteArray.ext
 rw[ByteArray.data_extract]
 apply Array.toList_inj.1
 simp
theorem zcl(sep p q:Lab)(r:List Lab):zaM sep (p::q::r)=p++(sep++zaM sep (q::r)):=by
 simp[zaM]
theorem zhQ{sep x:Lab}:zaM sep [x]=x:=by simp[zaM]
theorem zdq(c:UInt8):∀(r:List Lab) (p:Lab),(∀x∈p::r,c∉x)→SplC c (zaM [c] (p::r)) (p::r)
 | [],p,h=>by
  have h0:c∉p:=h p (List.mem_cons_self ..)
  have hc:Lib.countB ⟨p.toArray⟩ ⟨#[c]⟩=0:=by
   show Lib.count p [c]=0
   rw[Lib.count_one]
   exact List.count_eq_zero.2 h0
  rw[zhQ]
  exact⟨by rw[hc];rfl,by rw[hc];rfl⟩
 |q::r,p,h=>by
  have ih:=zdq c r q fun x hx=>h x (List.mem_cons_of_mem _ hx)
  have h0:c∉p:=h p (List.mem_cons_self ..)
  rw[zcl]
  obtain⟨u,hu⟩:∃u,zaM [c] (q::r)=u:=⟨_,rfl⟩
  rw[hu]at ih ⊢
  have hc:Lib.countB ⟨(p++c::u).toArray⟩ ⟨#[c]⟩=Lib.countB ⟨u.toArray⟩ ⟨#[c]⟩+1:=by
   show Lib.count (p++c::u) [c]=Lib.count u [c]+1
   rw[Lib.count_one,Lib.count_one,List.count_append,List.count_eq_zero.2 h0,List.count_cons_self,Nat.zero_add]
  have hi:Lib.indexB ⟨(p++c::u).toArray⟩ ⟨#[c]⟩=(p.length:Int):=ix_at c u p h0
  show SplC c (p++c::u) _
  refine⟨?_,by rw[hc,ih.ct];rfl⟩
  rw[hc,Lib.splitB_hit _ _ _ _ _ hi,ex_back,ih.sp,ex_front]
  rfl
theorem zfe{p:UInt8→Bool}:∀l:Lab,(∀c∈l,p c=true)→l.dropWhile p=[]
 | [],_=>rfl
 |c::l,h=>by rw[List.dropWhile_cons_of_pos (h c (List.mem_cons_self ..))];exact zfe l fun x hx=>h x (List.mem_cons_of_mem _ hx)
theorem zf2{l cs:Lab}(h:∀c∈l,c∈cs):Lib.trimS l cs=[]:=by
 have h1:Lib.trimRightS l cs=[]:=by
  unfold Lib.trimRightS
  rw[zfe _ fun c hc=>List.contains_iff_mem.2 (h c (List.mem_reverse.1 hc))]
  rfl
 unfold Lib.trimS
 rw[h1]
 rfl
theorem zb9:∀k,k<16→hexV (hexD k)=some k∧hexD k∈digs16∧hexD k≠58∧hexD k≠92∧hexD k≠34∧hexD k≠32:=by decide
theorem zgj:∀(k n:Nat),n≤k→∀c∈hexU n,∃j,j<16∧c=hexD j
 |0,n,h,c,hc=>by
  rw[zbU (by omega)]at hc
  exact⟨n,by omega,List.mem_singleton.1 hc⟩
 |k+1,n,h,c,hc=>by
  by_cases h1:n<16
  ·rw[zbU h1]at hc
   exact⟨n,h1,List.mem_singleton.1 hc⟩
  ·rw[zdz h1]at hc
   rcases List.mem_append.1 hc with h2|h2
   ·exact zgj k (n / 16) (by omega) c h2
   ·exact⟨n % 16,Nat.mod_lt _ (by decide),List.mem_singleton.1 h2⟩
theorem zcm(l:Lab){k:Nat}(h:k<16):zaJ (l++ [hexD k])=16*zaJ l+k:=by
 unfold zaJ
 rw[List.foldl_append]
 simp[(zb9 k h).1]
theorem zgi:∀(k n:Nat),n≤k→zaJ (hexU n)=n
 |0,n,h=>by
  rw[zbU (by omega)]
  exact(zcm [] (k:=n) (by omega)).trans (by show 16*0+n=n;omega)
 |k+1,n,h=>by
  by_cases h1:n<16
  ·rw[zbU h1]
   exact(zcm [] (k:=n) (by omega)).trans (by show 16*0+n=n;omega)
  ·rw[zdz h1,zcm _ (Nat.mod_lt _ (by decide)),zgi k (n / 16) (by omega)]
   omega
theorem hexU_ne(n:Nat):hexU n≠ []:=by
 by_cases h1:n<16
 ·rw[zbU h1];simp
 ·rw[zdz h1];simp
def zew(t:Int)(n:Nat):Bool:=if (zat t).2.2.1<0 then decide (1≤(n:Int)) && decide ((n:Int)≤32) else if 0<(zat t).2.2.2 then decide ((n:Int)=1) else if (zat t).2.2.2<0 then false else decide ((n:Int)=(zat t).1+(zat t).2.1)
theorem shape_lt(t:Int):0≤(zat t).1∧(zat t).1≤5∧0≤(zat t).2.1∧(zat t).2.1≤5:=by
 unfold zat
 (repeat' split)<;>decide
theorem zdw{W0 w:World}{b:Nat}{ws:List (Lab×Bool)}{ov:Value}{e:Int}(h:Rdr W0 w b ws ov e)(t:Int):Fn Tryz.prog 166 #[.pointer (some ⟨b,0,Option.none⟩),vi t] w (fun v w'=>v= .bool (zew t ws.length)∧Ext w w'):=by
  obtain⟨wv,hb,hr⟩:=h.at'
  obtain⟨wa,wc,rfl,_,_⟩:=hr.open
  obtain⟨n,hn⟩:∃n,ws.length=n:=⟨_,rfl⟩
  rw[hn]at hb ⊢
  have hsl:=shape_lt t
  obtain⟨⟨a,c,x,r⟩,hsh⟩:∃x,zat t=x:=⟨_,rfl⟩
  unfold zew
  rw[hsh]at hsl ⊢
  simp only at hsl ⊢
  refine enter Tryz.func166 Tryz.ntmps166 rfl rfl ?_
  refine go trivial ?_
  refine rq ?_;intro gd K hgd hK
  try simp only[go_sem]
  refine Fn.mono (zhC w t) ?_
  rintro _ w2 ⟨rfl,hE2⟩
  rw[hsh]
  unfold zd0
  simp only
  try simp only[go_sem]
  refine zbp (P:=Tryz.prog) (l:=[vi a,vi c,vi x,vi r]) rfl (zc7 _ _ _ _) rfl rfl ?_
  intro w3 hE3 hs3 hB3
  try simp only[go_sem]
  refine hK _ _ ?_;clear hK hgd;clear K;try clear gd
  have hE:=hE2.trans hE3
  have c0:zag w3 (some ⟨b,0,Option.none⟩)=some (.slice wa n wc):=zab (Ext.at hE hb) rfl
  have k0:zag w3 (some ⟨w2.heap.size,0,Option.none⟩)=some (vi a):=zaG (j:=0) hB3 rfl
  have k1:zag w3 (some ⟨w2.heap.size,1,Option.none⟩)=some (vi c):=zaG (j:=1) hB3 rfl
  have k2:zag w3 (some ⟨w2.heap.size,2,Option.none⟩)=some (vi x):=zaG (j:=2) hB3 rfl
  have k3:zag w3 (some ⟨w2.heap.size,3,Option.none⟩)=some (vi r):=zaG (j:=3) hB3 rfl
  by_cases hx:x<0
  · rw[if_pos hx]
    refine go (an3 k2 (decide_eq_true hx) (Nat.zero_add 2)) ?_
    obtain⟨b1,hb1⟩:∃t,decide (1≤(n:Int))=t:=⟨_,rfl⟩
    obtain⟨b2,hb2⟩:∃t,decide ((n:Int)≤32)=t:=⟨_,rfl⟩
    rw[hb1,hb2]
    cases b1<;>cases b2<;>
      (refine rgg [(6,18)] (an4 c0 hb1 hb2 (Nat.add_zero 0)) ?_
       refine go trivial ?_
       refine zae (.inr rfl) Tryz.ntmps166 rfl (zac (vr0) zad) ?_
       exact⟨rfl,hE⟩)
  rw[if_neg hx]
  by_cases hr1:0<r
  · rw[if_pos hr1]
    refine go (an9 k2 (decide_eq_false hx) (Nat.zero_add 2) k3 (decide_eq_true hr1) (Nat.zero_add 3) c0 (Nat.add_zero 0) trivial) ?_
    refine zae (.inr rfl) Tryz.ntmps166 rfl (zac (vr0) zad) ?_
    exact⟨rfl,hE⟩
  rw[if_neg hr1]
  by_cases hr2:r<0
  · rw[if_pos hr2]
    refine go (an8 k2 (decide_eq_false hx) (Nat.zero_add 2) k3 (decide_eq_false hr1) (Nat.zero_add 3) (decide_eq_true hr2) trivial) ?_
    refine zae (.inr rfl) Tryz.ntmps166 rfl (zac (vr0) zad) ?_
    exact⟨rfl,hE⟩
  rw[if_neg hr2]
  refine go (an8 k2 (decide_eq_false hx) (Nat.zero_add 2) k3 (decide_eq_false hr1) (Nat.zero_add 3) (decide_eq_false hr2) trivial) ?_
  refine zaY (fun _=>false) [(0,true),(1,true),(2,true),(3,true),(4,true),(5,true),(6,true),(7,true),(8,true),(9,true),(10,true),(11,true)] NoS mixed (by kernel_rfl) ?_;intro gd K x hgd hx hxe hK;have hx0:=zaW hxe;clear hxe
  have c0x:=zaa hx0 c0
  have k0x:=zaa hx0 k0
  have k1x:=zaa hx0 k1
  simp (disch:=first|omega|assumption|rfl) only[go_sem,c0x,k0x,k1x,Nat.add_zero,Nat.zero_add]
  refine hK _ _ ?_;clear hK hgd;clear K;try clear gd
  refine go trivial ?_
  refine zae (.inr rfl) Tryz.ntmps166 rfl (zac (vr0) zad) ?_
  exact⟨rfl,hE.trans hx0⟩
theorem zbS(t:Int)(a b c d:Value)(ha:one a=true)(hb:one b=true)(hc:one c=true)(hd:one d=true):∀v∈ [vi t,a,b,c,d],one v=true:=fun v h=>by
 simp at h
 rcases h with rfl|rfl|rfl|rfl|rfl<;>first|rfl|assumption
theorem zfy{W0 w:World}{b:Nat}{t:Lab}{q:Bool}{ov:Value}{e:Int}{ps:List Lab}(hW:WX W0)(h:Rdr W0 w b [(t,q)] ov e)(ht:t.length≤1000000)(hsp:SplP t ps)(hpl:ps.length≤1000000)(hpx:∀p∈ps,p.length≤1000000):
  Fn Tryz.prog 106 #[.pointer (some ⟨b,0,Option.none⟩),vi 1] w (fun v w'=>(∃rv,v= .agg #[vi 1,.slice Option.none 0 0,.slice Option.none 0 0,.slice Option.none 0 0,rv]∧Own w.heap.size w' 5 rv (ps.map octP))∧Rdr W0 w' b [] ov (zfd (if ps.length=4 then(if q=true then zaO e 2 else e) else zaO (if q=true then zaO e 2 else e) 2) ps)∧Keep (fun i=>i=b) w w'):=by
 have hbl:=h.lt
 have hlow:=h.low
 refine enter Tryz.func106 Tryz.ntmps106 rfl rfl ?_
 refine go trivial ?_
 refine zas ?_
 intro w1 hE1 hs1 hA
 refine rq ?_;intro gd K hgd hK
 try simp only[go_sem]
 refine⟨by kernel_rfl,?_⟩
 rw[show bdV Tryz.prog 33 [(0,vi 1)]=some (.agg #[vi 1,.slice Option.none 0 0,.slice Option.none 0 0,.slice Option.none 0 0,.slice Option.none 0 0]) from by kernel_rfl]
 try simp only[go_sem]
 refine zbp (P:=Tryz.prog) (l:=[vi 1,.slice Option.none 0 0,.slice Option.none 0 0,.slice Option.none 0 0,.slice Option.none 0 0]) rfl (zbS _ _ _ _ _ rfl rfl rfl rfl) rfl rfl ?_
 intro w2 hE2 hs2 hB2
 try simp only[go_sem]
 refine hK _ _ ?_;clear hK hgd;clear K;try clear gd
 rw[hs1]at hB2
 simp only[hs1]
 have hR2:=(h.extx hE1).extx hE2
 refine go trivial ?_
 refine rc trivial (zdw hR2 1) ?_
 rintro _ w3 ⟨rfl,hE3⟩
 rw[show zew 1 ([(t,q)]:List (Lab×Bool)).length=true from rfl]
 have d1:decide ((1:Int)=1)=true:=rfl
 refine rgo d1 ?_
 have hR3:=hR2.extx hE3
 have hs3:=hE3.size
 refine rq ?_;intro gd K hgd hK
 try simp only[go_sem]
 refine Fn.mono (zgZ hW hR3 (by simp) ht hsp hpl hpx) ?_
 rintro rv w4 ⟨hown,hR4,hk4⟩
 obtain⟨ra,rc',hrv⟩:=hown.slice
 have hs4:=hk4.size
 have hB4:=(hk4.block (w.heap.size+1) (by omega) (by omega)).trans (Ext.at hE3 hB2)
 try simp (disch:=first|omega|assumption|rfl) only[go_sem,Nat.zero_add]
 refine zbQ (P:=Tryz.prog) (t:=31) (j:=4) (u:=rv) hB4 (by simp) (by rw[hrv];rfl) rfl rfl ?_
 intro w5 hs5 hB5 hk5
 try simp only[go_sem]
 refine hK _ _ ?_;clear hK hgd;clear K;try clear gd
 simp only[List.set_cons_zero,List.set_cons_succ]at hB5
 have q5:=zam (n:=5) hB5 rfl
 refine go trivial ?_
 refine rq ?_;intro gd K hgd hK
 try simp (disch:=first|omega|assumption|rfl) only[go_sem,q5]
 have hA5:w5.heap[w.heap.size]? =_:=(hk5.block _ (by omega) (by omega)).trans ((hk4.block _ (by omega) (by omega)).trans (Ext.at (hE2.trans hE3) hA))
 refine zaI (P:=Tryz.prog) (t:=33) (l:=[vi 1,.slice Option.none 0 0,.slice Option.none 0 0,.slice Option.none 0 0,rv]) hA5 rfl (zbS _ _ _ _ _ rfl rfl rfl (by rw[hrv];rfl)) rfl rfl ?_
 intro w6 hs6 hB6 hk6
 try simp only[go_sem]
 refine hK _ _ ?_;clear hK hgd;clear K;try clear gd
 refine go trivial ?_
 refine zae (.inr rfl) Tryz.ntmps106 rfl (zaK (x:=⟨w.heap.size,0,Option.none⟩) (k:=5) (vr0) rfl rfl (zam hB6 rfl) zad) ?_
 have hE13:=(hE1.trans hE2).trans hE3
 refine⟨⟨rv,rfl,((hown.keep hk5 fun i hi hs=>by have:=(hown.ge hi).1;omega).keep hk6 fun i hi hs=>by have:=(hown.ge hi).1;omega).mono (by omega)⟩,(hR4.keep hk5 fun i hi=>by omega).keep hk6 fun i hi=>by omega,?_⟩
 exact((((hE13.mono fun _ _ h=>h.elim):Keep (fun i=>i=b) w w3).trans hk4).own hk5 fun i hi h=>by omega).own hk6 fun i hi h=>by omega
def untT(t:Lab):Lab:=(unD [] 0 t []).1
def zeB(e:Int)(ws:List (Lab×Bool)):Int:=ws.foldl (fun e x=>zaO e (errT x.1)) e
theorem zgb{W0 w:World}{b:Nat}{ws:List (Lab×Bool)}{ov:Value}{e:Int}(h:Rdr W0 w b ws ov e)(h1:1≤ws.length)(h32:ws.length≤32)(hx:∀x∈ws,x.1.length≤1000000000):
  Fn Tryz.prog 106 #[.pointer (some ⟨b,0,Option.none⟩),vi 16] w (fun v w'=>(∃tv,v= .agg #[vi 16,.slice Option.none 0 0,.slice Option.none 0 0,tv,.slice Option.none 0 0]∧Own w.heap.size w' 9 tv ((ws.map fun x=>untT x.1).map vs))∧Rdr W0 w' b [] ov (zeB e ws)∧Keep (fun i=>i=b) w w'):=by
 have hbl:=h.lt
 have hlow:=h.low
 refine enter Tryz.func106 Tryz.ntmps106 rfl rfl ?_
 refine go trivial ?_
 refine zas ?_
 intro w1 hE1 hs1 hA
 refine rq ?_;intro gd K hgd hK
 try simp only[go_sem]
 refine⟨by kernel_rfl,?_⟩
 rw[show bdV Tryz.prog 33 [(0,vi 16)]=some (.agg #[vi 16,.slice Option.none 0 0,.slice Option.none 0 0,.slice Option.none 0 0,.slice Option.none 0 0]) from by kernel_rfl]
 try simp only[go_sem]
 refine zbp (P:=Tryz.prog) (l:=[vi 16,.slice Option.none 0 0,.slice Option.none 0 0,.slice Option.none 0 0,.slice Option.none 0 0]) rfl (zbS _ _ _ _ _ rfl rfl rfl rfl) rfl rfl ?_
 intro w2 hE2 hs2 hB2
 try simp only[go_sem]
 refine hK _ _ ?_;clear hK hgd;clear K;try clear gd
 rw[hs1]at hB2
 simp only[hs1]
 have hR2:=(h.extx hE1).extx hE2
 refine go trivial ?_
 refine rc trivial (zdw hR2 16) ?_
 rintro _ w3 ⟨rfl,hE3⟩
 have hmany:zew 16 ws.length=true:=by
  unfold zew
  rw[if_pos (by decide),decide_eq_true (by omega),decide_eq_true (by omega)]
  rfl
 rw[hmany]
 have d1:decide ((16:Int)=1)=false:=rfl
 have d2:decide ((16:Int)=28)=false:=rfl
 have d3:decide ((16:Int)=16)=true:=rfl
 refine rgo (an3 d1 d2 d3) ?_
 have hR3:=hR2.extx hE3
 have hs3:=hE3.size
 have hB3:=Ext.at hE3 hB2
 obtain⟨P,hP⟩:∃P,w.heap.size+1=P:=⟨_,rfl⟩
 rw[hP]at hB3 ⊢
 have hP3:P<w3.heap.size:=(Array.getElem?_eq_some_iff.1 hB3).1
 refine zav (Q:=fun e' σ' ds' v'=>e'= .exit 5∧ds'=[]∧(σ' 4= .pointer (some ⟨w.heap.size,0,Option.none⟩)∧σ' 5= .pointer (some ⟨P,0,Option.none⟩))∧Rdr W0 v' b [] ov (zeB e ws)∧Keep (fun i=>i=b∨i=P) w3 v'∧∃tv,v'.heap[P]? =some (.cells [vi 16,.slice Option.none 0 0,.slice Option.none 0 0,tv,.slice Option.none 0 0].toArray 33 (0,0))∧Own w3.heap.size v' 9 tv ((ws.map fun x=>untT x.1).map vs)) ?_ ?_
 ·refine zaR (fun m σ ds v=>ds=[]∧∃j,j+m=ws.length∧(σ 0= .pointer (some ⟨b,0,Option.none⟩)∧σ 4= .pointer (some ⟨w.heap.size,0,Option.none⟩)∧σ 5= .pointer (some ⟨P,0,Option.none⟩))∧Rdr W0 v b (ws.drop j) ov (zeB e (ws.take j))∧Keep (fun i=>i=b∨i=P) w3 v∧∃tv,v.heap[P]? =some (.cells [vi 16,.slice Option.none 0 0,.slice Option.none 0 0,tv,.slice Option.none 0 0].toArray 33 (0,0))∧Own w3.heap.size v 9 tv (((ws.take j).map fun x=>untT x.1).map vs)) ws.length ?_ ?_
  ·exact⟨rfl,0,by omega,⟨vr0,vr0,vr0⟩,hR3,Keep.refl _ _,_,hB3,Own.nil _ _ _⟩
  rintro m σ ds v ⟨rfl,j,hjm,⟨s0,s4,s5⟩,hR,hk,tv,hBP,hown⟩
  obtain⟨wv,hb,hr⟩:=hR.at'
  obtain⟨aw,cw,rfl,_,_⟩:=hr.open
  have c0:zag v (some ⟨b,0,Option.none⟩)=some (.slice aw (ws.drop j).length cw):=zab hb rfl
  by_cases hj:j<ws.length
  ·have g1:decide ((0:Int)<((ws.drop j).length:Int))=true:=decide_eq_true (by rw[List.length_drop];omega)
   obtain⟨⟨u,q⟩,hu⟩:∃x,ws[j]=x:=⟨_,rfl⟩
   have hul:=hx (u,q) (hu▸List.getElem_mem hj)
   have hR':=hR
   rw[List.drop_eq_getElem_cons hj,hu]at hR'
   have q3:zag v (some ⟨P,3,Option.none⟩)=some tv:=zaG (j:=3) hBP rfl
   have hPv:P<v.heap.size:=(Array.getElem?_eq_some_iff.1 hBP).1
   have hlt:=hR.lt
   have hkv:=hk.size
   refine go (an6 s0 s4 s5 c0 g1 (Nat.add_zero 0)) ?_
   refine zaY (fun i=>i==7) [(0,true),(1,true),(2,true),(3,false),(4,false),(5,false),(6,true),(7,false)] ((fun i=>i=b∨some i=tv.ownBlock)) mixed (by kernel_rfl) ?_;intro gd K x hgd hx hxe hK;have hx0:=zaW hxe;clear hxe
   have q3x:=zaa hx0 q3
   have hsx:=hx0.size
   simp (disch:=first|omega|assumption|rfl) only[go_sem,s0,s5,q3x,Nat.zero_add]
   refine⟨fun a ha hb'=>by cases ha;rcases hb' with hb'|hb';(· dsimp only at hb';omega);(· have:=(hown.ge hb').1;dsimp only at this;omega),?_⟩
   refine Fn.mono (text_ok (hR'.extx hx0) (by rw[List.length_drop];omega) hul) ?_
   rintro _ y1 ⟨rfl,hR1,hk1⟩
   refine⟨.inr (hk1.mono fun i _ h=> .inl h),?_⟩
   simp (disch:=first|omega|assumption|rfl) only[go_sem]
   refine zbb (z:=vs []) rfl rfl rfl rfl rfl ?_
   intro y2 hy2 hys2 hyo
   refine⟨.inr hy2.keep,?_⟩
   simp (disch:=first|omega|assumption|rfl) only[go_sem]
   have hsy1:=hk1.size
   have hsy2:=hy2.size
   have hownx:Own w3.heap.size y2 9 tv (((ws.take j).map fun x=>untT x.1).map vs):=((hown.ext hx0).keep hk1 fun i hi hs=>by have:=(hown.ge hi).1;omega).ext hy2
   refine zaN (e:=9) hownx hyo.row rfl rfl rfl rfl rfl rfl (vr0) (vr0) (fun q hq=>by simp at hq;subst hq;rfl) (by simp;omega) (by decide) (by omega) ?_
   intro sv' y3 hown3 hX3 hK3 hb3'
   refine⟨.inr (hK3.mono fun i _ h=> .inr h),?_⟩
   simp (disch:=first|omega|assumption|rfl) only[go_sem,s5,Nat.zero_add]
   have hsK:=hK3.size
   have hBP3:y3.heap[P]? =_:=(hK3.block P (by omega) (fun h=>by have:=(hown.ge h).1;omega)).trans ((hy2.block P (by omega) (fun h=>h)).trans ((hk1.block P (by omega) (by omega)).trans (Ext.at hx0 hBP)))
   refine zbQ (P:=Tryz.prog) (t:=23) (j:=3) (u:=sv') hBP3 (by simp) (by obtain⟨a,c,rfl⟩:=hown3.slice;rfl) rfl rfl ?_
   intro z hzs hBz hkz
   refine⟨.inl rfl,?_⟩
   simp (disch:=first|omega|assumption|rfl) only[go_sem]
   refine hK _ _ ?_;clear hK hgd;clear K;try clear gd
   simp only[List.set_cons_zero,List.set_cons_succ]at hBz
   refine go (an3 s0 s4 s5) ?_
   have hR2':Rdr W0 y2 b (ws.drop (j+1)) ov (zaO (zeB e (ws.take j)) (errT u)):=hR1.extx hy2
   refine⟨m - 1,by omega,rfl,j+1,by omega,⟨(vq1 s0),(vq1 s4),(vq1 s5)⟩,?_,?_,sv',hBz,?_⟩
   ·rw[zal hj,hu]
    unfold zeB at hR2' ⊢
    rw[List.foldl_append]
    exact(hR2'.keep hK3 fun i hi=>by have:=(hown.ge hi).1;omega).keep hkz fun i hi=>by omega
   ·have ha:Keep (fun i=>i=b∨i=P) w3 y2:=((hk.trans (hx0.mono fun _ _ h=>h.elim)).trans (hk1.mono fun _ _ h=> .inl h)).trans (hy2.mono fun _ _ h=>h.elim)
    exact(ha.own hK3 fun i hi h=>by have:=(hown.ge h).1;omega).trans (hkz.mono fun _ _ h=> .inr h)
   ·rw[zal hj,hu,List.map_append,List.map_append]
    exact hown3.keep hkz fun i hi hs=>by have:=(hown3.ge hi).1;omega
  ·have g1:decide ((0:Int)<((ws.drop j).length:Int))=false:=decide_eq_false (by rw[List.length_drop];omega)
   refine go (an6 s0 s4 s5 c0 g1 (Nat.add_zero 0)) ?_
   rw[List.drop_of_length_le (by omega)]at hR
   rw[List.take_of_length_le (by omega)]at hR hown
   exact⟨rfl,rfl,⟨(vq1 s4),(vq1 s5)⟩,hR,hk,tv,hBP,hown⟩
 rintro _ σ1 _ w4 ⟨rfl,rfl,⟨s4,s5⟩,hR4,hk4,tv,hB4,hown⟩
 obtain⟨ra,rc',htv⟩:=hown.slice
 have hs4:=hk4.size
 have q5:=zam (n:=5) hB4 rfl
 refine go (an2 s4 s5) ?_
 refine rq ?_;intro gd K hgd hK
 try simp (disch:=first|omega|assumption|rfl) only[go_sem,s4,s5,q5]
 have hA4:w4.heap[w.heap.size]? =_:=(hk4.block _ (by omega) (by omega)).trans (Ext.at (hE2.trans hE3) hA)
 refine zaI (P:=Tryz.prog) (t:=33) (l:=[vi 16,.slice Option.none 0 0,.slice Option.none 0 0,tv,.slice Option.none 0 0]) hA4 rfl (zbS _ _ _ _ _ rfl rfl (by rw[htv];rfl) rfl) rfl rfl ?_
 intro w6 hs6 hB6 hk6
 try simp only[go_sem]
 refine hK _ _ ?_;clear hK hgd;clear K;try clear gd
 refine go trivial ?_
 refine zae (.inr rfl) Tryz.ntmps106 rfl (zaK (x:=⟨w.heap.size,0,Option.none⟩) (k:=5) ((vr1 s4)) rfl rfl (zam hB6 rfl) zad) ?_
 have hE13:=(hE1.trans hE2).trans hE3
 refine⟨⟨tv,rfl,(hown.keep hk6 fun i hi hs=>by have:=(hown.ge hi).1;omega).mono (by omega)⟩,hR4.keep hk6 fun i hi=>by omega,?_⟩
 exact(((hE13.mono fun _ _ h=>h.elim):Keep (fun i=>i=b) w w3).own hk4 fun i hi h=>by omega).own hk6 fun i hi h=>by omega
section
variable {P : Program} {d : Option Tmp} {ty : TypeId} {ps : String} {af : Array Edge} {g : Option (Nat × Bool)} {ρ : Operand → Value} {w : World} {K : Value → World → Prop}
end
set_option maxRecDepth 100000
theorem zfh{P:Program}{w:World}{K:Value→World→Prop}{t e:TypeId}{n:Nat}{parts:List (Nat×Value)}{arr:Array Value}(h:bsC P t n parts=some (e,arr))
  (hk:∀w1,Ext w w1→w1.heap.size=w.heap.size+1→w1.heap[w.heap.size]? =some (.cells arr e (0,0))→K (.slice (some ⟨w.heap.size,0,Option.none⟩) n n) w1):bsL P t n parts w K .mk:=by
 unfold bsL bsK
 rw[h]
 exact hk _ (Ext.alloc w _) (zaq w _) (zao w _)
theorem za4(w:World):NamesAt w (.slice Option.none 0 0) []:=⟨[],(Own.nil 0 w 0).row,rfl,fun i h=>absurd h (by simp)⟩
theorem zeZ{w:World}{nv sv:Value}{n:Nm}(h1:Row w sv [nv])(h2:Row w nv (n.map vs)):NamesAt w sv [n]:=⟨[nv],h1,rfl,fun i h h'=>by
 have h0:i=0:=by simp at h;omega
 subst h0
 exact h2⟩
section
variable {α : Type} {cf : α → α → Int} {jn : α → α → α}
end
section
variable {H : Type} {enc : TypeId × Value → H} {P : Program} {w : World} {base : Nat} {sp : Nat → Bool} {held : Bool}
def RdC(enc:TypeId×Value→H)(P:Program)(w:World)(base:Nat)(sp:Nat→Bool)(held:Bool)(t:TypeId)(cs:List Value):Prop:=∃n x,DataW.trod enc P w base sp held n t cs=some x∧∀k∈x.1.weights P t,k≤reachBytes
theorem RdC.one{t:TypeId}{v:Value}(h:RdC enc P w base sp held t [v]):Rd enc P w base sp held t v:=h
theorem Rd.c{t:TypeId}{v:Value}(h:Rd enc P w base sp held t v):RdC enc P w base sp held t [v]:=h
theorem rd_field{e:TypeId}{fs:Array Field}{cs:List Value}(h:RdC enc P w base sp held e cs)(he:P.underlying e=some (.struct fs)):cs.length=P.cellsOf e∧∀(i:Nat) (f:Field),fs[i]? =some f→RdC enc P w base sp held f.type ((cs.drop f.offset).take (P.cellsOf f.type)):=by
 obtain⟨n,x,h,hw⟩:=h
 obtain⟨xs,m,_,rfl,hl,hxl,hf⟩:=DataW.trod_struct he h
 refine⟨hl,fun i f hfi=>?_⟩
 have hi:i<fs.size:=(Array.getElem?_eq_some_iff.1 hfi).1
 have h1:=hf i f hfi
 rw[List.getElem?_eq_getElem (by omega)]at h1
 refine⟨m,_,h1,fun k hk=>hw k ?_⟩
 simp only[DataW.weights,he]
 refine DataW.weights_mem_each (ts:=fs.toList.map (·.type)) (ds:=xs.map (·.1)) (j:=i) (t:=f.type) (d:=xs[i].1) ?_ ?_ k hk
 ·rw[List.getElem?_map]
  rw[show fs.toList[i]? =some f from by simpa using hfi];rfl
 ·rw[List.getElem?_map,List.getElem?_eq_getElem (by omega)];rfl
theorem rd_int{t:TypeId}{k:IntKind}{cs:List Value}(h:RdC enc P w base sp held t cs)(ht:P.underlying t=some (.int k)):∃n,cs=[.int k n]∧(Lit.int k n).wf=true:=by
 obtain⟨n,x,h,_⟩:=h
 obtain⟨m,h1,_,h2⟩:=DataW.trod_int ht h
 exact⟨m,h1,h2⟩
end
theorem rdc_of{H:Type}{enc:TypeId×Value→H}{P:Program}{w:World}{base:Nat}{sp:Nat→Bool}{held:Bool}{t:TypeId}{cs:Array Value}{d:DataW H}{p:List MemPlace}{ts:List TypeId}{ds:List (DataW H)}(h:DataW.Trod enc P w base sp held t (.agg cs) d p)
  (hw:∀x∈DataW.weightsEach P ts ds,x≤reachBytes) {j:Nat} (ht:ts[j]? =some t) (hd:ds[j]? =some d):RdC enc P w base sp held t cs.toList:=by
 obtain⟨n,h⟩:=h
 exact⟨n,_,h,fun k hk=>hw k (DataW.weights_mem_each ht hd k hk)⟩
def NumsD(d:DatL):Prop:=(∀n∈d.nums,0≤n∧n≤4294967295)∧ -9223372036854775808≤d.ty∧d.ty≤9223372036854775807
section
variable {H : Type} {enc : TypeId × Value → H} {P : Program} {w : World} {base : Nat} {sp : Nat → Bool} {held : Bool}
theorem zf8{t e:TypeId}{k:IntKind}{v:Value}(h:Rd enc P w base sp held t v)(ht:P.underlying t=some (.slice e))(hc:P.cellsOf e=1)(he:P.underlying e=some (.int k)):∃l:List Int,Row w v (l.map (.int k))∧∀n∈l,(Lit.int k n).wf=true:=by
 obtain⟨vals,hr,hall,_⟩:=zen h ht hc
 obtain⟨m,rfl,hm⟩:=zfC (f:=fun n=>Value.int k n) (Q:=fun n=>(Lit.int k n).wf=true) (fun u hu=>by
  obtain⟨n,h1,h2⟩:=rd_int (hall u hu).c he
  exact⟨n,by simpa using h1,h2⟩)
 exact⟨m,hr,hm⟩
theorem wf_u326{n:Int}(h:(Lit.int .u32 n).wf=true):0≤n∧n≤4294967295:=by
 simp[Lit.wf,IntKind.min,IntKind.max,IntKind.signed,IntKind.bits]at h
 omega
theorem wf_u86{n:Int}(h:(Lit.int .u8 n).wf=true):0≤n∧n≤255:=by
 simp[Lit.wf,IntKind.min,IntKind.max,IntKind.signed,IntKind.bits]at h
 omega
theorem zig{l:List Int}(h:∀n∈l,(Lit.int .u8 n).wf=true):∃m:List UInt8,l.map (Value.int .u8)=m.map zak:=by
 induction l with
 |nil=>exact⟨[],rfl⟩
 |cons n l ih=>
  obtain⟨m,hm⟩:=ih (fun x hx=>h x (List.mem_cons_of_mem _ hx))
  have hb:=wf_u86 (h n (List.mem_cons_self ..))
  obtain⟨k,rfl⟩:∃k:Nat,n=(k:Int):=⟨n.toNat,by omega⟩
  exact⟨UInt8.ofNat k::m,by rw[List.map_cons,List.map_cons,hm,zbv (by omega)]⟩
end
section
variable {H : Type} {enc : TypeId × Value → H} {w : World} {base : Nat} {sp : Nat → Bool} {held : Bool}
theorem wf_i64{n:Int}(h:(Lit.int .i64 n).wf=true): -9223372036854775808≤n∧n≤9223372036854775807:=by simpa [Lit.wf,IntKind.min,IntKind.max,IntKind.signed,IntKind.bits] using h
theorem rd_dataN{cs:List Value}(h:RdC enc Tryz.prog w base sp held 33 cs):∃d:DatL,DatAt w cs d∧NumsD d:=by
 obtain⟨hl,hf⟩:=rd_field h rfl
 have hl5:cs.length=5:=hl
 match cs,hl5 with
 | [c0,c1,c2,c3,c4],_=>
  obtain⟨ty,e0,et⟩:=rd_int (hf 0 _ rfl) rfl
  obtain⟨names,n1,_⟩:=rd_names (P:=Tryz.prog) (ts:=24) (tb:=9) (RdC.one (hf 1 _ rfl)) rfl rfl rfl rfl rfl rfl
  obtain⟨nums,n2,n3⟩:=zf8 (RdC.one (hf 2 _ rfl)) rfl rfl rfl
  obtain⟨texts,n4,_⟩:=zfu (P:=Tryz.prog) (RdC.one (hf 3 _ rfl)) (e:=9) rfl rfl rfl rfl
  obtain⟨raw,n5,n6⟩:=zf8 (RdC.one (hf 4 _ rfl)) rfl rfl rfl
  obtain⟨rb,hrb⟩:=zig n6
  rw[hrb]at n5
  have e0':c0=vi ty:=List.head_eq_of_cons_eq (show [c0]=[vi ty] from e0)
  exact⟨⟨ty,names,nums,texts,rb⟩,⟨c1,c2,c3,c4,by rw[e0'],n1,n2,n4,n5⟩,fun n hn=>wf_u326 (n3 n hn),wf_i64 et⟩
end
end Go.Proofs.YtanmnkbccfcagaaGreatDoor
