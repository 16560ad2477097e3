/-
  Texts of a proof, joined: JJ, JK, JL, JM, JN, JO, JP, JQ, HQ, HR, HS, HT, HU, HW, HV, KR, KR5, KR6, E6, E7, E8, B3, K24, E9, E10, F2, Y4, F3, F4, Y5, F5, E11, E12, E13, F6, F7, F8, F9, G0, G1, G2, G3.
  Conditions: none.
-/
import Derived.Test.YtihbdhjibplldaaGreatDoorQLT06
import Derived.Test.YtihbdhjibplldaaGreatDoorQLT04
import Derived.Test.YtihbdhjibplldaaGreatDoorQLT02
import Derived.Test.YtihbdhjibplldaaGreatDoorQLT03
import Derived.Test.YtihbdhjibplldaaGreatDoorQLT05
import Derived.MapFrom
import Derived.Test.YtihbdhjibplldaaGreatDoorQLT01
set_option linter.unusedVariables false
set_option linter.unusedSimpArgs false
set_option linter.defProp false
set_option linter.unnecessarySimpa false
set_option maxHeartbeats 8000000
namespace Go.Proofs.YtihbdhjibplldaaGreatDoor
open Go
set_option maxRecDepth 10000
theorem Keep.own{S T:Nat→Prop}{a b c:World}(h:Keep S a b)(k:Keep T b c)(hT:∀i,i<a.heap.size→T i→S i):Keep S a c:=
 ((h.mono fun _ _ h=>Or.inl h).trans (k.mono fun _ _ h=>Or.inr h):Keep (fun i=>S i∨T i) a c).mono fun i hi h=>h.elim id (hT i hi)
def octP(p:Lab):Value:=zao (UInt8.ofNat (decP 255 p).1)
def zhq(e:Int)(ps:List Lab):Int:=ps.foldl (fun e p=>zbi e (decP 255 p).2) e
theorem zi6{W0 w:World}{b:Nat}{t:Lab}{q:Bool}{ws:List (Lab×Bool)}{ov:Value}{e:Int}{ps:List Lab}(hW:WX W0)(h:Rdr W0 w b ((t,q)::ws) ov e)(hl:ws.length≤1000000)(ht:t.length≤1000000)(hsp:SplP t ps)(hpl:ps.length≤1000000)(hpx:∀p∈ps,p.length≤1000000):
  Fn Tryz.prog 188 #[.pointer (some ⟨b,0,Option.none⟩)] w (fun v w'=>Own w.heap.size w' 5 v (ps.map octP)∧Rdr W0 w' b ws ov (zhq (if ps.length=4 then(if q=true then zbi e 2 else e) else zbi (if q=true then zbi e 2 else e) 2) ps)∧Keep (fun i=>i=b) w w'):=by
 have hbl:=h.lt
 obtain⟨e1,he1⟩:∃e1,(if q=true then zbi e 2 else e)=e1:=⟨_,rfl⟩
 refine enter Tryz.func188 Tryz.ntmps188 rfl rfl ?_
 refine go trivial ?_
 refine rc trivial (zdi h hl) ?_
 rw[he1]
 rintro _ w1 ⟨rfl,hR1,hk1⟩
 refine rd trivial (zk7 (n:=ps.length) (hW.ext hR1.ext) (by omega) hsp rfl) ?_
 rintro _ w2 ⟨rfl,hB2,hE2⟩
 have hs1:=hk1.size
 have hs2:=hE2.size
 have hP:w1.heap.size<w2.heap.size:=(Array.getElem?_eq_some_iff.1 hB2).1
 obtain⟨P,hPe⟩:∃P,w1.heap.size=P:=⟨_,rfl⟩
 rw[hPe]at hB2 hP ⊢
 have hk2:Keep (fun i=>i=b) w w2:=hk1.trans (hE2.mono fun _ _ h=>h.elim)
 obtain⟨n,hn⟩:∃n,ps.length=n:=⟨_,rfl⟩
 rw[hn]at hpl ⊢
 obtain⟨tt,htt⟩:∃tt,decide ((n:Int)=4)=tt:=⟨_,rfl⟩
 obtain⟨e2,he2⟩:∃e2,(if n=4 then e1 else zbi e1 2)=e2:=⟨_,rfl⟩
 rw[he2]
 refine rgo htt ?_
 refine zas (Q:=fun e' σ' ds' v'=>e'= .normal∧ds'=[]∧(σ' 0= .pointer (some ⟨b,0,Option.none⟩)∧σ' 3= .slice (some ⟨P,0,Option.none⟩) n n)∧Rdr W0 v' b ws ov e2∧Keep (fun i=>i=b) w2 v') ?_ ?_
 ·cases tt with
  |true=>
   rw[if_pos (by have:=of_decide_eq_true htt;omega)]at he2
   refine go trivial ?_
   exact⟨rfl,rfl,⟨vr0,vr0⟩,by rw[←he2];exact hR1.extx hE2,Keep.refl _ _⟩
  |false=>
   rw[if_neg (by have:=of_decide_eq_false htt;omega)]at he2
   refine go trivial ?_
   refine rc trivial (zcI (hR1.extx hE2) 2) ?_
   rw[he2]
   rintro _ w3 ⟨hR3,hk3⟩
   refine rgo trivial ?_
   exact⟨rfl,rfl,⟨vr0,vr0⟩,hR3,hk3⟩
 rintro _ σ0 _ w3 ⟨rfl,rfl,⟨s0,s3⟩,hR3,hk3⟩
 refine go (an2 s0 s3) ?_
 refine za3 n (fun i σ v=>(σ 0= .pointer (some ⟨b,0,Option.none⟩)∧σ 17= .slice (some ⟨P,0,Option.none⟩) n n∧σ 18=vi n∧σ 19=vi i)∧Rdr W0 v b ws ov (zhq e2 (ps.take i))∧Keep (fun i=>i=b) w2 v∧∃sv,σ 4=sv∧Own w2.heap.size v 5 sv ((ps.take i).map octP)) ?_ ?_ ?_
 ·exact⟨⟨(vr1 s0),(vr1 s3),(vr1 s3),vr0⟩,hR3,hk3,_,vr0,Own.nil _ _ _⟩
 ·rintro i σ v hi r ⟨⟨s0,s17,s18,s19⟩,hR,hk,sv,s4,hown⟩
  obtain⟨p,hp⟩:∃p,ps[i]'(by omega)=p:=⟨_,rfl⟩
  have hpm:p∈ps:=hp▸List.getElem_mem _
  have hpl':=hpx p hpm
  have hsv:=hk.size
  have hBv:=(hk.block P hP (by omega)).trans hB2
  have g:zad v (some ⟨P,i,Option.none⟩)=some (vs p):=za8 (j:=i) hBv (by rw[List.getElem?_map,List.getElem?_eq_getElem (by omega),hp];rfl)
  have hi0:(0:Int)≤(i:Int):=by omega
  have hi1:(i:Int)<(n:Int):=by omega
  have hi2:(i:Int)+1=((i+1:Nat):Int):=by push_cast;rfl
  refine go (an9 s0 s17 s18 s19 s4 r g hi0 (an3 hi1 (Nat.mul_one i) (Nat.zero_add i))) ?_
  refine rc (an3 s0 s4 hi0) (zbQ (hW.ext hR.ext) p 255 (by omega) (by omega)) ?_
  rintro _ v1 ⟨rfl,hE1⟩
  refine rgo (an3 s0 s4 hi0) ?_
  refine rc (an3 s0 s4 hi0) (zcI (hR.extx hE1) (decP 255 p).2) ?_
  rintro _ v2 ⟨hR2,hk2'⟩
  have hdl:=zcJ 255 p
  obtain⟨x,hx⟩:∃x,(decP 255 p).1=x:=⟨_,rfl⟩
  rw[hx]at hdl
  have hox:octP p= .int .u8 (x:Int):=by unfold octP;rw[hx,zby (by omega)]
  have hsE:=hE1.size
  have hsk:=hk2'.size
  refine rgo (an3 s0 s4 hx) ?_
  refine rq ?_;intro gd K hgd hK
  try simp (disch:=first|omega|assumption|rfl) only[go_sem,s4,hx]
  refine za5 (z:= .int .u8 0) rfl rfl rfl rfl rfl ?_
  intro y1 hy1 hys1 hyo
  try simp (disch:=first|omega|assumption|rfl) only[go_sem,s4]
  have hb2:b<w2.heap.size:=by omega
  refine zaV (e:=5) (((hown.ext hE1).keep hk2' fun j hj hs=>by have:=(hown.ge hj).1;omega).ext hy1) hyo.row rfl rfl rfl rfl rfl rfl ((vr1 s4)) (vr0) (fun q hq=>by rw[List.mem_singleton.1 hq];rfl) (by simp;omega) (by decide) (by omega) ?_
  intro sv' y2 hown2 hX2 hK2 hb2'
  try simp only[go_sem]
  refine hK _ _ ?_;clear hK hgd;clear K;try clear gd
  refine go (an5 s0 s17 s18 s19 hi2) ?_
  have hkx:Keep (fun i=>i=b) w2 y1:=((hk.trans (hE1.mono fun _ _ h=>h.elim)).trans hk2').trans (hy1.mono fun _ _ h=>h.elim)
  refine⟨rfl,⟨(vq1 s0),(vq1 s17),(vq1 s18),(vq1 hi2)⟩,?_,hkx.own hK2 fun j hj h=>by have:=(hown.ge h).1;omega,sv',vr0,?_⟩
  ·rw[zai (by omega),hp]
   unfold zhq at hR2 ⊢
   rw[List.foldl_append]
   exact(hR2.extx hy1).keep hK2 fun j hj=>by have:=(hown.ge hj).1;have:=h.low;omega
  ·rw[zai (by omega),hp,List.map_append,List.map_cons,List.map_nil,hox]
   exact hown2
 ·rintro σ v r ⟨⟨s0,s17,s18,s19⟩,hR,hk,sv,s4,hown⟩
  rw[←hn,List.take_length]at hR hown
  refine go (an6 s0 s17 s18 s19 s4 r) ?_
  refine zaf (.inr rfl) Tryz.ntmps188 rfl (zac ((vr1 s4)) zae) ?_
  exact⟨hown.mono (by omega),hR,hk2.trans hk⟩
def hexV(c:UInt8):Option Nat:=if 48≤c.toNat∧c.toNat≤57 then some (c.toNat - 48) else if 97≤c.toNat∧c.toNat≤102 then some (c.toNat - 87) else if 65≤c.toNat∧c.toNat≤70 then some (c.toNat - 55) else Option.none
theorem zfS{c:UInt8}{x:Nat}(h:hexV c=some x):x<16:=by
 unfold hexV at h
 split at h
 ·simp only[Option.some.injEq]at h;omega
 ·split at h
  ·simp only[Option.some.injEq]at h;omega
  ·split at h
   ·simp only[Option.some.injEq]at h;omega
   ·cases h
theorem or32:∀n:Nat,n<128→(97≤n∧n≤102∨65≤n∧n≤70)→IntKind.u8.wrap ((BitVec.ofInt IntKind.u8.bits (n:Int)|||BitVec.ofInt IntKind.u8.bits 32).toNat:Int)=if 97≤n then(n:Int) else(n:Int)+32:=by decide+kernel
theorem lower_ok(w:World)(c:UInt8)(h:(97≤c.toNat∧c.toNat≤102)∨(65≤c.toNat∧c.toNat≤70)):Fn Tryz.prog 204 #[zao c] w (fun v w'=>v= .int .u8 (if 97≤c.toNat then(c.toNat:Int) else(c.toNat:Int)+32)∧w=w'):=by
 have ho:=or32 c.toNat (by omega) h
 have hbv:zao c= .int .u8 (c.toNat:Int):=rfl
 have hor:binV Tryz.prog .or 5 (.int .u8 (c.toNat:Int)) (.int .u8 32)=some (.int .u8 (if 97≤c.toNat then(c.toNat:Int) else(c.toNat:Int)+32)):=by rw[←ho];rfl
 refine enter Tryz.func204 Tryz.ntmps204 rfl rfl ?_
 refine go (an2 hbv hor) ?_
 refine rt0 Tryz.ntmps204 ?_
 exact⟨rfl,rfl⟩
def za9(l:Lab):Nat:=l.foldl (fun n c=>16*n+(hexV c).getD 0) 0
theorem zky:∀(l:Lab) (n:Nat),n≤l.foldl (fun n c=>16*n+(hexV c).getD 0) n
 | [],n=>Nat.le_refl _
 |c::l,n=>by rw[List.foldl_cons];have:=zky l (16*n+(hexV c).getD 0);omega
theorem zhm{l:Lab}{i:Nat}(h:i<l.length):za9 (l.take (i+1))=16*za9 (l.take i)+(hexV l[i]).getD 0:=by
 unfold za9
 rw[zai h,List.foldl_append]
 rfl
theorem zkw(l:Lab)(i:Nat):za9 (l.take i)≤za9 l:=by
 unfold za9
 have h:=zky (l.drop i) ((l.take i).foldl (fun n c=>16*n+(hexV c).getD 0) 0)
 rwa [←List.foldl_append,List.take_append_drop]at h
theorem PuHi_ok(w:World){l:Lab}{bt mx:Int}(hb:bt=8∧mx=255∨bt=16∧mx=65535)(h0:l≠ [])(hl2:l.length≤1000)(hv:∀c∈l,(hexV c).isSome=true)(hm:(za9 l:Int)≤mx):Fn Tryz.prog 180 #[vs l,vi 16,vi bt] w (fun v w'=>v= .tuple #[.int .u64 (za9 l:Nat),.nilIface]∧Ext w w'):=by
 have d1:decide (l=[])=false:=decide_eq_false h0
 refine enter Tryz.func180 Tryz.ntmps180 rfl rfl ?_
 have l1:decide ((2:Int)≤16)=true:=rfl
 have l2:decide ((16:Int)≤36)=true:=rfl
 have l3:decide (bt=0)=false:=decide_eq_false (by omega)
 have l4:decide (bt<0)=false:=decide_eq_false (by omega)
 have l5:decide ((64:Int)<bt)=false:=decide_eq_false (by omega)
 have l6:decide ((16:Int)=10)=false:=rfl
 have l7:decide ((16:Int)=16)=true:=rfl
 have l8:decide ((16:Int)=0)=false:=rfl
 have hmx:0≤mx∧mx≤65535:=by omega
 refine go (an2 d1 l8) ?_
 refine rgg [(2,28)] (an2 l1 l2) ?_
 refine go l3 ?_
 refine rgg [(2,80)] (an2 l4 l5) ?_
 have hsh:binV Tryz.prog .shl 71 (.int .u64 1) (.int .u64 bt)=some (.int .u64 (mx+1)):=by rcases hb with ⟨rfl,rfl⟩| ⟨rfl,rfl⟩<;>rfl
 have hwb:IntKind.u64.wrap bt=bt:=by rcases hb with ⟨rfl,rfl⟩| ⟨rfl,rfl⟩<;>rfl
 have hsb:mx+1 - 1=mx:=by omega
 have hwm:IntKind.u64.wrap mx=mx:=by rcases hb with ⟨rfl,rfl⟩| ⟨rfl,rfl⟩<;>rfl
 refine go (an6 l6 l7 hsh hsb hwb hwm) ?_
 refine rq ?_;intro gd K hgd hK
 try simp only[go_sem]
 refine zf0 rfl rfl rfl (vr0) ?_
 intro cp cur w2 hlc hcs hct hE2 hs2 hb2
 try simp only[go_sem]
 refine hK _ _ ?_;clear hK hgd;clear K;try clear gd
 have hgx:∀i (h:i<l.length),zad w2 (some ⟨w.heap.size,i,Option.none⟩)=some (zao l[i]):=fun i hi=>by
  refine zaa hb2 ?_
  have:(cur.toList.take l.length)[i]? =some (zao l[i]):=by rw[hct,List.getElem?_map,List.getElem?_eq_getElem hi];rfl
  rw[List.getElem?_take,if_pos hi]at this
  simpa using this
 refine go trivial ?_
 refine za3 l.length (fun i σ v=>(σ 1=vi 16∧σ 8= .bool false∧σ 10= .int .u64 1152921504606846976∧σ 11= .int .u64 mx∧σ 12= .bool false∧σ 13= .int .u64 (za9 (l.take i):Nat)∧σ 99= .slice (some ⟨w.heap.size,0,Option.none⟩) l.length cp∧σ 100=vi l.length∧σ 101=vi i)∧v=w2) ?_ ?_ ?_
 ·exact⟨⟨vr0,vr0,vr0,vr0,vr0,vr0,vr0,vr0,vr0⟩,rfl⟩
 ·rintro i σ v hi r ⟨⟨s1,s8,s10,s11,s12,s13,s99,s100,s101⟩,rfl⟩
  obtain⟨k,d,n,hg,hkd,hn,hn15,hn1⟩:∃(k:UInt8) (d n:Nat),zad v (some ⟨w.heap.size,i,Option.none⟩)=some (zao k)∧hexV k=some d∧za9 (l.take i)=n∧((16*n+d:Nat):Int)≤mx∧za9 (l.take (i+1))=16*n+d:=by
   obtain⟨x,hx⟩:=Option.isSome_iff_exists.1 (hv l[i] (List.getElem_mem hi))
   have h1:=zhm hi
   have h2:=zkw l (i+1)
   rw[hx,Option.getD_some]at h1
   exact⟨l[i],x,_,hgx i hi,hx,rfl,by omega,h1⟩
  have hd:=zfS hkd
  rw[hn]at s13
  have hbv:zao k= .int .u8 (k.toNat:Int):=rfl
  have hi0:(0:Int)≤(i:Int):=by omega
  have hi1:(i:Int)<(l.length:Int):=by omega
  have hi2:(i:Int)+1=((i+1:Nat):Int):=by push_cast;rfl
  have hk48:48≤k.toNat∧k.toNat≤102∧k.toNat≠95∧((k.toNat≤57∧d=k.toNat - 48)∨(97≤k.toNat∧d=k.toNat - 87)∨(65≤k.toNat∧k.toNat≤70∧d=k.toNat - 55)):=by
   unfold hexV at hkd
   split at hkd
   ·simp only[Option.some.injEq]at hkd;omega
   ·split at hkd
    ·simp only[Option.some.injEq]at hkd;omega
    ·split at hkd
     ·simp only[Option.some.injEq]at hkd;omega
     ·cases hkd
  have k95:decide ((k.toNat:Int)=95)=false:=decide_eq_false (by omega)
  have k48:decide ((48:Int)≤(k.toNat:Int))=true:=decide_eq_true (by omega)
  refine go (an9 s1 s8 s10 s11 s12 s13 s99 s100 (an8 s101 r hg hbv hi0 hi1 (Nat.mul_one i) (Nat.zero_add i))) ?_
  obtain⟨A,hA⟩:∃A,16*n=A:=⟨_,rfl⟩
  obtain⟨B,hB⟩:∃B,16*n+d=B:=⟨_,rfl⟩
  have f1:decide ((16:Int)≤(d:Int))=false:=decide_eq_false (by omega)
  have f2:decide ((1152921504606846976:Int)≤(n:Int))=false:=decide_eq_false (by omega)
  have f3:(n:Int)*16=(A:Int):=by omega
  have f4:(A:Int)+(d:Int)=(B:Int):=by omega
  have f5:decide ((B:Int)<(A:Int))=false:=decide_eq_false (by omega)
  have f6:decide (mx<(B:Int))=false:=decide_eq_false (by omega)
  refine rgg [(2,109)] k95 ?_
  refine go trivial ?_
  by_cases c57:k.toNat≤57
  ·have k57:decide ((k.toNat:Int)≤57)=true:=decide_eq_true (by omega)
   have f0:(k.toNat:Int) - 48=(d:Int):=by omega
   refine rgg [(2,115)] (an2 k48 k57) ?_
   refine go (an9 s1 s8 s10 s11 s12 s13 s99 s100 (an6 s101 f0 f1 f2 f3 f4)) ?_
   refine rgg [(3,155)] (an5 f5 f6 f3 f4 s11) ?_
   refine go (an9 s1 s8 s10 s11 s12 s99 s100 s101 hi2) ?_
   exact⟨rfl,⟨(vq1 s1),(vq1 s8),(vq1 s10),(vq1 s11),(vq1 s12),by rw[hn1,hB];first| (simp only[go_sem];done)| (simp only[go_sem];rfl),(vq1 s99),(vq1 s100),(vq1 hi2)⟩,rfl⟩
  ·have k57:decide ((k.toNat:Int)≤57)=false:=decide_eq_false (by omega)
   have hlc:(97≤k.toNat∧k.toNat≤102)∨(65≤k.toNat∧k.toNat≤70):=by omega
   have hlo:=lower_ok v k hlc
   obtain⟨L,hL⟩:∃L:Int,(if 97≤k.toNat then(k.toNat:Int) else(k.toNat:Int)+32)=L:=⟨_,rfl⟩
   have hLb:97≤L∧L≤102∧L - 97+10=(d:Int):=by rw[←hL];split<;>omega
   rw[hL]at hlo
   have g1:decide ((97:Int)≤L)=true:=decide_eq_true hLb.1
   have g2:decide (L≤122)=true:=decide_eq_true (by omega)
   have f0:=hLb.2.2
   refine rgg [(2,115)] (an2 k48 k57) ?_
   refine go trivial ?_
   refine rcg [(3,125)] trivial hlo ?_
   rintro _ z1 ⟨rfl,hz1⟩
   subst hz1
   refine rdg [(3,125)] g1 hlo ?_
   rintro _ z1 ⟨rfl,hz1⟩
   subst hz1
   refine reg [(3,125)] g2 ?_
   refine go trivial ?_
   refine rc trivial hlo ?_
   rintro _ z1 ⟨rfl,hz1⟩
   subst hz1
   refine rgo (an9 s1 s8 s10 s11 s12 s13 s99 s100 (an6 s101 f0 f1 f2 f3 f4)) ?_
   refine rgg [(3,155)] (an5 f5 f6 f3 f4 s11) ?_
   refine go (an9 s1 s8 s10 s11 s12 s99 s100 s101 hi2) ?_
   exact⟨rfl,⟨(vq1 s1),(vq1 s8),(vq1 s10),(vq1 s11),(vq1 s12),by rw[hn1,hB];first| (simp only[go_sem];done)| (simp only[go_sem];rfl),(vq1 s99),(vq1 s100),(vq1 hi2)⟩,rfl⟩
 ·rintro σ v r ⟨⟨s1,s8,s10,s11,s12,s13,s99,s100,s101⟩,rfl⟩
  refine go (an7 s8 s12 s13 s99 s100 s101 r) ?_
  refine rgg [(1,165)] (an2 s12 s13) ?_
  refine go (an2 s12 s13) ?_
  refine zaf (.inr rfl) Tryz.ntmps180 rfl (zac ((vr1 s13)) (zac (vr0) zae)) ?_
  exact⟨by rw[List.take_length];rfl,hE2⟩
theorem PuH_ok(w:World){l:Lab}{bt mx:Int}(hb:bt=8∧mx=255∨bt=16∧mx=65535)(h0:l≠ [])(hl2:l.length≤1000)(hv:∀c∈l,(hexV c).isSome=true)(hm:(za9 l:Int)≤mx):Fn Tryz.prog 155 #[vs l,vi 16,vi bt] w (fun v w'=>v= .tuple #[.int .u64 (za9 l:Nat),.nilIface]∧Ext w w'):=by
 refine enter Tryz.func155 Tryz.ntmps155 rfl rfl ?_
 refine go trivial ?_
 refine rc trivial (PuHi_ok w hb h0 hl2 hv hm) ?_
 rintro _ w1 ⟨rfl,hE1⟩
 refine rgo trivial ?_
 refine rq ?_;intro gd K hgd hK
 try simp only[go_sem]
 rw[show binV Tryz.prog .neq 100 .nilIface .nilIface=Option.none from rfl,zdE]
 refine zfH (u:= .nilIface) (b:=false) (by kernel_rfl) (.inl ⟨rfl,rfl⟩) (vr0) rfl ?_
 try simp only[go_sem]
 refine hK _ _ ?_;clear hK hgd;clear K;try clear gd
 refine go trivial ?_
 refine zaf (.inr rfl) Tryz.ntmps155 rfl (zac (vr0) (zac (vr0) zae)) ?_
 exact⟨rfl,hE1⟩
theorem Pu16_ok(w:World){a c:UInt8}{x y:Nat}(ha:hexV a=some x)(hc:hexV c=some y):Fn Tryz.prog 155 #[vs [a,c],vi 16,vi 8] w (fun v w'=>v= .tuple #[.int .u64 ((16*x+y:Nat):Int),.nilIface]∧Ext w w'):=by
 have hx:=zfS ha
 have hy:=zfS hc
 have e:za9 [a,c]=16*x+y:=by unfold za9;simp[ha,hc]
 have:=PuH_ok w (l:=[a,c]) (.inl ⟨rfl,rfl⟩) (by simp) (by simp) (fun z hz=>by
  simp only[List.mem_cons,List.not_mem_nil,or_false]at hz
  rcases hz with rfl|rfl
  ·rw[ha];rfl
  ·rw[hc];rfl) (by rw[e];omega)
 rw[e]at this
 exact this
def catW(ws:List (Lab×Bool)):Lab:=ws.flatMap (·.1)
theorem zin{ws:List (Lab×Bool)}(h:∀x∈ws,x.1.length≤1000000):(catW ws).length≤1000000*ws.length:=by
 induction ws with
 |nil=>exact Nat.zero_le _
 |cons x l ih=>
  have h1:=h x (List.mem_cons_self ..)
  have h2:=ih fun y hy=>h y (List.mem_cons_of_mem _ hy)
  unfold catW at*
  rw[List.flatMap_cons,List.length_append,List.length_cons]
  omega
def Pairs(s:Lab)(bs:List UInt8):Prop:=s.length=2*bs.length∧∀i (h:i<bs.length) (h1:2*i<s.length) (h2:2*i+1<s.length),∃x y,hexV s[2*i]=some x∧hexV s[2*i+1]=some y∧bs[i].toNat=16*x+y
theorem ziH{W0 w:World}{b:Nat}{t:Lab}{ws:List (Lab×Bool)}{ov:Value}{n:Nat}{bs:List UInt8}(hW:WX W0)(h:Rdr W0 w b ((t,false)::ws) ov 0)(hl:ws.length≤1000)(ht:t.length≤1000000)(hn:decP 4294967295 t=(n,0))(hn2:n≤1024)(hwq:∀x∈ws,x.2=false∧x.1.length≤1000000)(htr:Lib.trimS (catW ws) digs16=[])(hlen:(catW ws).length=2*n)(hp:Pairs (catW ws) bs):
  Fn Tryz.prog 185 #[.pointer (some ⟨b,0,Option.none⟩)] w (fun v w'=>Own w.heap.size w' 5 v (bs.map zao)∧Rdr W0 w' b [] ov 0∧Keep (fun i=>i=b) w w'):=by
 have hbl:=h.lt
 have hcl:=zin fun x hx=>(hwq x hx).2
 have hml:1000000*ws.length≤1000000*1000:=Nat.mul_le_mul_left _ hl
 refine enter Tryz.func185 Tryz.ntmps185 rfl rfl ?_
 refine go trivial ?_
 refine rc trivial (zdi h (by omega)) ?_
 rintro _ w1 ⟨rfl,hR1,hk1⟩
 refine rd trivial (zbQ (hW.ext hR1.ext) t 4294967295 (by omega) (by omega)) ?_
 rintro _ w2 ⟨rfl,hE2⟩
 rw[hn]
 simp only[if_neg (show¬false=true by decide)]at hR1
 refine rgo trivial ?_
 refine rc trivial (zcI (hR1.extx hE2) 0) ?_
 rintro _ w3 ⟨hR3,hk3⟩
 rw[show zbi 0 0=0 from rfl]at hR3
 have d1:decide ((1024:Int)<(n:Int))=false:=decide_eq_false (by omega)
 refine rgo d1 ?_
 have hk03:Keep (fun i=>i=b) w w3:=(hk1.trans (hE2.mono fun _ _ h=>h.elim)).trans hk3
 have ez:decide ((0:Int)=0)=true:=rfl
 refine zas (Q:=fun e' σ' ds' v'=>e'= .exit 0∧ds'=[]∧(σ' 0= .pointer (some ⟨b,0,Option.none⟩)∧σ' 3= .int .u64 n∧σ' 5=vs (catW ws))∧Rdr W0 v' b [] ov 0∧Keep (fun i=>i=b) w v') ?_ ?_
 ·refine zaZ (fun m σ ds v=>ds=[]∧∃i,i+m=ws.length∧(σ 0= .pointer (some ⟨b,0,Option.none⟩)∧σ 3= .int .u64 n∧σ 5=vs (catW (ws.take i)))∧Rdr W0 v b (ws.drop i) ov 0∧Keep (fun i=>i=b) w v) ws.length ?_ ?_
  ·exact⟨rfl,0,by omega,⟨vr0,vr0,vr0⟩,hR3,hk03⟩
  rintro m σ ds v ⟨rfl,i,him,⟨s0,s3,s5⟩,hR,hk⟩
  obtain⟨wv,hb,hr⟩:=hR.at'
  obtain⟨aw,cw,rfl,_,_⟩:=hr.open
  have c0:zad v (some ⟨b,0,Option.none⟩)=some (.slice aw (ws.drop i).length cw):=zaa hb rfl
  have c2:zad v (some ⟨b,2,Option.none⟩)=some (vi 0):=zaa hb rfl
  by_cases hi:i<ws.length
  ·have d2:decide ((0:Int)<((ws.drop i).length:Int))=true:=decide_eq_true (by rw[List.length_drop];omega)
   rw[List.drop_eq_getElem_cons hi]at hR
   obtain⟨⟨u,q⟩,hu⟩:∃x,ws[i]=x:=⟨_,rfl⟩
   have hum:(u,q)∈ws:=hu▸List.getElem_mem hi
   obtain⟨hq,hul⟩:=hwq _ hum
   simp only at hq hul
   subst hq
   rw[hu]at hR
   refine go (an3 s0 s3 s5) ?_
   refine rgg [(6,29)] (an8 s0 s3 s5 c0 c2 d2 ez (Nat.zero_add 2)) ?_
   refine go (an3 s0 s3 s5) ?_
   refine rc (an3 s0 s3 s5) (zdi hR (by rw[List.length_drop];omega)) ?_
   rintro _ v1 ⟨rfl,hR1',hk1'⟩
   simp only[if_neg (show¬false=true by decide)]at hR1'
   have hct:catW (ws.take (i+1))=catW (ws.take i)++u:=by rw[zai hi,hu];unfold catW;simp
   have hcl1:=zin (ws:=ws.take i) fun x hx=>(hwq x (List.mem_of_mem_take hx)).2
   rw[List.length_take]at hcl1
   have hml1:1000000*min i ws.length≤1000000*1000:=Nat.mul_le_mul_left _ (by omega)
   have l1:(catW (ws.take i)).length+u.length≤9223372036854775807:=by omega
   refine rgo (an4 s0 s3 s5 l1) ?_
   exact⟨m - 1,by omega,rfl,i+1,by omega,⟨(vq1 s0),(vq1 s3),by rw[hct];first| (simp only[go_sem,s5];done)| (simp only[go_sem,s5];rfl)⟩,hR1',hk.trans hk1'⟩
  ·have d2:decide ((0:Int)<((ws.drop i).length:Int))=false:=decide_eq_false (by rw[List.length_drop];omega)
   refine go (an3 s0 s3 s5) ?_
   refine rgg [(6,29)] (an7 s0 s3 s5 c0 c2 d2 (Nat.zero_add 2)) ?_
   refine go (an3 s0 s3 s5) ?_
   rw[List.drop_of_length_le (by omega)]at hR
   rw[List.take_of_length_le (by omega)]at s5
   exact⟨rfl,rfl,⟨(vq1 s0),(vq1 s3),(vq1 s5)⟩,hR,hk⟩
 rintro _ σ0 _ w4 ⟨rfl,rfl,⟨s0,s3,s5⟩,hR4,hk4⟩
 obtain⟨s,hs⟩:∃s,catW ws=s:=⟨_,rfl⟩
 rw[hs]at htr hlen hp hcl s5
 obtain⟨hpl,hpx⟩:=hp
 refine go (an3 s0 s3 s5) ?_
 refine rcg [(3,43)] (an3 s0 s3 s5) (zfb w4 s (by omega)) ?_
 rintro _ w5 ⟨rfl,hE5⟩
 rw[decide_eq_true htr]
 have f1:(2:Int)*(n:Int)=((2*n:Nat):Int):=by omega
 have d3:decide (((s.length:Nat):Int)=((2*n:Nat):Int))=true:=decide_eq_true (by omega)
 have hR5:=hR4.extx hE5
 obtain⟨wv5,hb5,_⟩:=hR5.at'
 have c5:zad w5 (some ⟨b,2,Option.none⟩)=some (vi 0):=zaa hb5 rfl
 refine reg [(3,43)] (an5 s0 s3 s5 f1 d3) ?_
 refine go (an6 s0 s3 s5 c5 ez (Nat.zero_add 2)) ?_
 have hk5:Keep (fun i=>i=b) w w5:=hk4.trans (hE5.mono fun _ _ h=>h.elim)
 have hsz5:=hk5.size
 refine zaZ (fun m σ ds v=>ds=[]∧∃j,j+m=bs.length∧(σ 5=vs s∧σ 7=vi ((2*j:Nat):Int))∧Ext w5 v∧∃sv,σ 6=sv∧Own w5.heap.size v 5 sv ((bs.take j).map zao)) bs.length ?_ ?_
 ·exact⟨rfl,0,by omega,⟨(vr1 s5),vr0⟩,Keep.refl _ _,_,vr0,Own.nil _ _ _⟩
 rintro m σ ds v ⟨rfl,j,hjm,⟨r5,r7⟩,hEv,sv,r6,hown⟩
 obtain⟨I,hI⟩:∃I,2*j=I:=⟨_,rfl⟩
 rw[hI]at r7
 by_cases hj:j<bs.length
 ·have d4:decide ((I:Int)<(s.length:Int))=true:=decide_eq_true (by omega)
  have i1:I<s.length:=by omega
  have i2:I+1<s.length:=by omega
  obtain⟨x,y,hx,hy,hxy⟩:=hpx j hj (by omega) (by omega)
  simp only[hI]at hx hy
  have hI2:(I:Int)+2=((I+2:Nat):Int):=by push_cast;rfl
  have z0:(0:Int)≤(I:Int):=by omega
  have z1:(I:Int)≤((I+2:Nat):Int):=by omega
  have z2:((I+2:Nat):Int)≤(s.length:Int):=by omega
  have hsl:List.take (I+2 - I) (List.drop I s)=[s[I],s[I+1]]:=by
   rw[show I+2 - I=2 by omega,List.drop_eq_getElem_cons i1,List.drop_eq_getElem_cons i2]
   rfl
  refine go (an4 r5 r7 r6 d4) ?_
  refine rc (an8 r5 r7 r6 hI2 z0 z1 z2 hsl) (Pu16_ok v hx hy) ?_
  rintro _ v1 ⟨rfl,hE1⟩
  have hbl2:=bs[j].toNat_lt
  rw[←hxy]
  obtain⟨c,hc⟩:∃c,bs[j]=c:=⟨_,rfl⟩
  rw[hc]at hbl2 ⊢
  have hbv:zao c= .int .u8 (c.toNat:Int):=rfl
  have hsv:=hEv.size
  have hsv1:=hE1.size
  refine rgo (an3 r5 r7 r6) ?_
  refine rq ?_;intro gd K hgd hK
  try simp (disch:=first|omega|assumption|rfl) only[go_sem,r6]
  refine za5 (z:= .int .u8 0) rfl rfl rfl rfl rfl ?_
  intro y1 hy1 hys1 hyo
  try simp (disch:=first|omega|assumption|rfl) only[go_sem,r6]
  refine zaV (e:=5) ((hown.ext hE1).ext hy1) hyo.row rfl rfl rfl rfl rfl rfl ((vr1 r6)) (vr0) (fun q hq=>by rw[List.mem_singleton.1 hq];rfl) (by simp;omega) (by decide) (by omega) ?_
  intro sv' y2 hown2 hX2 hK2 hb2'
  try simp only[go_sem]
  refine hK _ _ ?_;clear hK hgd;clear K;try clear gd
  refine go (an3 r5 r7 hI2) ?_
  refine⟨m - 1,by omega,rfl,j+1,by omega,⟨(vq1 r5),by rw[show 2*(j+1)=I+2 by omega];simp only[go_sem,hI2]⟩,hX2 w5 ((hEv.trans hE1).trans hy1) (Nat.le_refl _),sv',vr0,?_⟩
  rw[zai hj,hc,List.map_append,List.map_cons,List.map_nil,hbv]
  exact hown2
 ·have d4:decide ((I:Int)<(s.length:Int))=false:=decide_eq_false (by omega)
  refine go (an4 r5 r7 r6 d4) ?_
  rw[List.take_of_length_le (by omega)]at hown
  refine zaf (.inr rfl) Tryz.ntmps185 rfl (zac ((vr1 r6)) zae) ?_
  exact⟨hown.mono hsz5,hR5.extx hEv,hk5.trans (hEv.mono fun _ _ h=>h.elim)⟩
def zay(t:Int):Int×Int×Int×Int:=if t=1 then(0,0,0,4) else if t=28 then(0,0,0,16) else if t=15 then(1,1,0,0) else if t=6 then(2,5,0,0) else if t=16 then(0,0, -1,0) else if t=2∨t=5∨t=12∨t=39 then(1,0,0,0) else(0,0,0, -1)
def zfc(x:Int×Int×Int×Int):Value:= .agg #[vi x.1,vi x.2.1,vi x.2.2.1,vi x.2.2.2]
theorem zeg(a b c d:Int):∀v∈ [vi a,vi b,vi c,vi d],one v=true:=fun v h=>by
 simp at h
 rcases h with rfl|rfl|rfl|rfl<;>rfl
theorem zj6(w:World)(t:Int):Fn Tryz.prog 183 #[vi t] w (fun v w'=>v=zfc (zay t)∧Ext w w'):=by
 refine enter Tryz.func183 Tryz.ntmps183 rfl rfl ?_
 refine go trivial ?_
 refine zam ?_
 intro w1 hE1 hs1 hA
 unfold zay
 by_cases h0:t=1
 ·have d0:decide (t=1)=true:=decide_eq_true h0
  rw[if_pos h0]
  refine go d0 ?_
  refine rq ?_;intro gd K hgd hK
  try simp only[go_sem]
  refine⟨by kernel_rfl,?_⟩
  rw[show bdV Tryz.prog 251 [(3,vi 4)]=some (.agg #[vi 0,vi 0,vi 0,vi 4]) from by kernel_rfl]
  try simp only[go_sem]
  refine zaJ (P:=Tryz.prog) (t:=251) (l:=[vi 0,vi 0,vi 0,vi 4]) hA rfl (zeg _ _ _ _) rfl rfl ?_
  intro w2 hs2 hB2 hk2
  try simp only[go_sem]
  refine hK _ _ ?_;clear hK hgd;clear K;try clear gd
  refine go trivial ?_
  refine zaf (.inr rfl) Tryz.ntmps183 rfl (zaO (x:=⟨w.heap.size,0,Option.none⟩) (k:=4) (vr0) rfl rfl (zal hB2 rfl) zae) ?_
  exact⟨rfl,Keep.to_ext hE1 rfl (fun b hb=>by omega) hk2⟩
 have d0:decide (t=1)=false:=decide_eq_false h0
 rw[if_neg h0]
 by_cases h1:t=28
 ·have d1:decide (t=28)=true:=decide_eq_true h1
  rw[if_pos h1]
  refine go (an2 d0 d1) ?_
  refine rq ?_;intro gd K hgd hK
  try simp only[go_sem]
  refine⟨by kernel_rfl,?_⟩
  rw[show bdV Tryz.prog 251 [(3,vi 16)]=some (.agg #[vi 0,vi 0,vi 0,vi 16]) from by kernel_rfl]
  try simp only[go_sem]
  refine zaJ (P:=Tryz.prog) (t:=251) (l:=[vi 0,vi 0,vi 0,vi 16]) hA rfl (zeg _ _ _ _) rfl rfl ?_
  intro w2 hs2 hB2 hk2
  try simp only[go_sem]
  refine hK _ _ ?_;clear hK hgd;clear K;try clear gd
  refine go trivial ?_
  refine zaf (.inr rfl) Tryz.ntmps183 rfl (zaO (x:=⟨w.heap.size,0,Option.none⟩) (k:=4) (vr0) rfl rfl (zal hB2 rfl) zae) ?_
  exact⟨rfl,Keep.to_ext hE1 rfl (fun b hb=>by omega) hk2⟩
 have d1:decide (t=28)=false:=decide_eq_false h1
 rw[if_neg h1]
 by_cases h2:t=15
 ·have d2:decide (t=15)=true:=decide_eq_true h2
  rw[if_pos h2]
  refine go (an3 d0 d1 d2) ?_
  refine rq ?_;intro gd K hgd hK
  try simp only[go_sem]
  refine⟨by kernel_rfl,?_⟩
  rw[show bdV Tryz.prog 251 [(0,vi 1),(1,vi 1)]=some (.agg #[vi 1,vi 1,vi 0,vi 0]) from by kernel_rfl]
  try simp only[go_sem]
  refine zaJ (P:=Tryz.prog) (t:=251) (l:=[vi 1,vi 1,vi 0,vi 0]) hA rfl (zeg _ _ _ _) rfl rfl ?_
  intro w2 hs2 hB2 hk2
  try simp only[go_sem]
  refine hK _ _ ?_;clear hK hgd;clear K;try clear gd
  refine go trivial ?_
  refine zaf (.inr rfl) Tryz.ntmps183 rfl (zaO (x:=⟨w.heap.size,0,Option.none⟩) (k:=4) (vr0) rfl rfl (zal hB2 rfl) zae) ?_
  exact⟨rfl,Keep.to_ext hE1 rfl (fun b hb=>by omega) hk2⟩
 have d2:decide (t=15)=false:=decide_eq_false h2
 rw[if_neg h2]
 by_cases h3:t=6
 ·have d3:decide (t=6)=true:=decide_eq_true h3
  rw[if_pos h3]
  refine go (an4 d0 d1 d2 d3) ?_
  refine rq ?_;intro gd K hgd hK
  try simp only[go_sem]
  refine⟨by kernel_rfl,?_⟩
  rw[show bdV Tryz.prog 251 [(0,vi 2),(1,vi 5)]=some (.agg #[vi 2,vi 5,vi 0,vi 0]) from by kernel_rfl]
  try simp only[go_sem]
  refine zaJ (P:=Tryz.prog) (t:=251) (l:=[vi 2,vi 5,vi 0,vi 0]) hA rfl (zeg _ _ _ _) rfl rfl ?_
  intro w2 hs2 hB2 hk2
  try simp only[go_sem]
  refine hK _ _ ?_;clear hK hgd;clear K;try clear gd
  refine go trivial ?_
  refine zaf (.inr rfl) Tryz.ntmps183 rfl (zaO (x:=⟨w.heap.size,0,Option.none⟩) (k:=4) (vr0) rfl rfl (zal hB2 rfl) zae) ?_
  exact⟨rfl,Keep.to_ext hE1 rfl (fun b hb=>by omega) hk2⟩
 have d3:decide (t=6)=false:=decide_eq_false h3
 rw[if_neg h3]
 by_cases h4:t=16
 ·have d4:decide (t=16)=true:=decide_eq_true h4
  rw[if_pos h4]
  refine go (an5 d0 d1 d2 d3 d4) ?_
  refine rq ?_;intro gd K hgd hK
  try simp only[go_sem]
  refine⟨by kernel_rfl,?_⟩
  rw[show bdV Tryz.prog 251 [(2,vi (-1))]=some (.agg #[vi 0,vi 0,vi (-1),vi 0]) from by kernel_rfl]
  try simp only[go_sem]
  refine zaJ (P:=Tryz.prog) (t:=251) (l:=[vi 0,vi 0,vi (-1),vi 0]) hA rfl (zeg _ _ _ _) rfl rfl ?_
  intro w2 hs2 hB2 hk2
  try simp only[go_sem]
  refine hK _ _ ?_;clear hK hgd;clear K;try clear gd
  refine go trivial ?_
  refine zaf (.inr rfl) Tryz.ntmps183 rfl (zaO (x:=⟨w.heap.size,0,Option.none⟩) (k:=4) (vr0) rfl rfl (zal hB2 rfl) zae) ?_
  exact⟨rfl,Keep.to_ext hE1 rfl (fun b hb=>by omega) hk2⟩
 have d4:decide (t=16)=false:=decide_eq_false h4
 rw[if_neg h4]
 by_cases h5:t=2
 ·have d5:decide (t=2)=true:=decide_eq_true h5
  rw[if_pos (show t=2∨t=5∨t=12∨t=39 by omega)]
  refine go (an6 d0 d1 d2 d3 d4 d5) ?_
  refine rq ?_;intro gd K hgd hK
  try simp only[go_sem]
  refine⟨by kernel_rfl,?_⟩
  rw[show bdV Tryz.prog 251 [(0,vi 1)]=some (.agg #[vi 1,vi 0,vi 0,vi 0]) from by kernel_rfl]
  try simp only[go_sem]
  refine zaJ (P:=Tryz.prog) (t:=251) (l:=[vi 1,vi 0,vi 0,vi 0]) hA rfl (zeg _ _ _ _) rfl rfl ?_
  intro w2 hs2 hB2 hk2
  try simp only[go_sem]
  refine hK _ _ ?_;clear hK hgd;clear K;try clear gd
  refine go trivial ?_
  refine zaf (.inr rfl) Tryz.ntmps183 rfl (zaO (x:=⟨w.heap.size,0,Option.none⟩) (k:=4) (vr0) rfl rfl (zal hB2 rfl) zae) ?_
  exact⟨rfl,Keep.to_ext hE1 rfl (fun b hb=>by omega) hk2⟩
 have d5:decide (t=2)=false:=decide_eq_false h5
 by_cases h6:t=5
 ·have d6:decide (t=5)=true:=decide_eq_true h6
  rw[if_pos (show t=2∨t=5∨t=12∨t=39 by omega)]
  refine go (an7 d0 d1 d2 d3 d4 d5 d6) ?_
  refine rq ?_;intro gd K hgd hK
  try simp only[go_sem]
  refine⟨by kernel_rfl,?_⟩
  rw[show bdV Tryz.prog 251 [(0,vi 1)]=some (.agg #[vi 1,vi 0,vi 0,vi 0]) from by kernel_rfl]
  try simp only[go_sem]
  refine zaJ (P:=Tryz.prog) (t:=251) (l:=[vi 1,vi 0,vi 0,vi 0]) hA rfl (zeg _ _ _ _) rfl rfl ?_
  intro w2 hs2 hB2 hk2
  try simp only[go_sem]
  refine hK _ _ ?_;clear hK hgd;clear K;try clear gd
  refine go trivial ?_
  refine zaf (.inr rfl) Tryz.ntmps183 rfl (zaO (x:=⟨w.heap.size,0,Option.none⟩) (k:=4) (vr0) rfl rfl (zal hB2 rfl) zae) ?_
  exact⟨rfl,Keep.to_ext hE1 rfl (fun b hb=>by omega) hk2⟩
 have d6:decide (t=5)=false:=decide_eq_false h6
 by_cases h7:t=12
 ·have d7:decide (t=12)=true:=decide_eq_true h7
  rw[if_pos (show t=2∨t=5∨t=12∨t=39 by omega)]
  refine go (an8 d0 d1 d2 d3 d4 d5 d6 d7) ?_
  refine rq ?_;intro gd K hgd hK
  try simp only[go_sem]
  refine⟨by kernel_rfl,?_⟩
  rw[show bdV Tryz.prog 251 [(0,vi 1)]=some (.agg #[vi 1,vi 0,vi 0,vi 0]) from by kernel_rfl]
  try simp only[go_sem]
  refine zaJ (P:=Tryz.prog) (t:=251) (l:=[vi 1,vi 0,vi 0,vi 0]) hA rfl (zeg _ _ _ _) rfl rfl ?_
  intro w2 hs2 hB2 hk2
  try simp only[go_sem]
  refine hK _ _ ?_;clear hK hgd;clear K;try clear gd
  refine go trivial ?_
  refine zaf (.inr rfl) Tryz.ntmps183 rfl (zaO (x:=⟨w.heap.size,0,Option.none⟩) (k:=4) (vr0) rfl rfl (zal hB2 rfl) zae) ?_
  exact⟨rfl,Keep.to_ext hE1 rfl (fun b hb=>by omega) hk2⟩
 have d7:decide (t=12)=false:=decide_eq_false h7
 by_cases h8:t=39
 ·have d8:decide (t=39)=true:=decide_eq_true h8
  rw[if_pos (show t=2∨t=5∨t=12∨t=39 by omega)]
  refine go (an9 d0 d1 d2 d3 d4 d5 d6 d7 d8) ?_
  refine rq ?_;intro gd K hgd hK
  try simp only[go_sem]
  refine⟨by kernel_rfl,?_⟩
  rw[show bdV Tryz.prog 251 [(0,vi 1)]=some (.agg #[vi 1,vi 0,vi 0,vi 0]) from by kernel_rfl]
  try simp only[go_sem]
  refine zaJ (P:=Tryz.prog) (t:=251) (l:=[vi 1,vi 0,vi 0,vi 0]) hA rfl (zeg _ _ _ _) rfl rfl ?_
  intro w2 hs2 hB2 hk2
  try simp only[go_sem]
  refine hK _ _ ?_;clear hK hgd;clear K;try clear gd
  refine go trivial ?_
  refine zaf (.inr rfl) Tryz.ntmps183 rfl (zaO (x:=⟨w.heap.size,0,Option.none⟩) (k:=4) (vr0) rfl rfl (zal hB2 rfl) zae) ?_
  exact⟨rfl,Keep.to_ext hE1 rfl (fun b hb=>by omega) hk2⟩
 have d8:decide (t=39)=false:=decide_eq_false h8
 rw[if_neg (show¬(t=2∨t=5∨t=12∨t=39) by omega)]
 refine go (an9 d0 d1 d2 d3 d4 d5 d6 d7 d8) ?_
 refine rq ?_;intro gd K hgd hK
 try simp only[go_sem]
 refine⟨by kernel_rfl,?_⟩
 rw[show bdV Tryz.prog 251 [(3,vi (-1))]=some (.agg #[vi 0,vi 0,vi 0,vi (-1)]) from by kernel_rfl]
 try simp only[go_sem]
 refine zaJ (P:=Tryz.prog) (t:=251) (l:=[vi 0,vi 0,vi 0,vi (-1)]) hA rfl (zeg _ _ _ _) rfl rfl ?_
 intro w2 hs2 hB2 hk2
 try simp only[go_sem]
 refine hK _ _ ?_;clear hK hgd;clear K;try clear gd
 refine go trivial ?_
 refine zaf (.inr rfl) Tryz.ntmps183 rfl (zaO (x:=⟨w.heap.size,0,Option.none⟩) (k:=4) (vr0) rfl rfl (zal hB2 rfl) zae) ?_
 exact⟨rfl,Keep.to_ext hE1 rfl (fun b hb=>by omega) hk2⟩
def txD(d:DatL):Int:=if (zay d.ty).2.2.1<0 then min (max (d.texts.length:Int) 1) 32 else(zay d.ty).2.2.1
def rwD(d:DatL):Int:=if (zay d.ty).2.2.2<0 then(d.raw.length:Int) else(zay d.ty).2.2.2
def zbh(d:DatL):Bool:=decide ((d.names.length:Int)=(zay d.ty).1) && decide ((d.nums.length:Int)=(zay d.ty).2.1) && decide ((d.texts.length:Int)=txD d) && decide ((d.raw.length:Int)=rwD d)
theorem form_ok{w:World}{cs:List Value}{d:DatL}(hd:DatAt w cs d):Fn Tryz.prog 212 #[.agg cs.toArray] w (fun v w'=>v= .bool (zbh d)∧Ext w w'):=by
  obtain⟨nm,nu,tx,rw',rfl,⟨vals,⟨an,cn,rfl,hcn,hgn⟩,hvl,hvr⟩,⟨au,cu,rfl,hcu,hgu⟩,⟨at1,ct,rfl,hct,hgt⟩,⟨ar,cr,rfl,hcr,hgr⟩⟩:=hd.ex
  simp only[List.length_map]at hcu hgu hct hgt hcr hgr
  simp only[List.length_map,hvl]
  refine enter Tryz.func212 Tryz.ntmps212 rfl rfl ?_
  refine go trivial ?_
  refine zam ?_
  intro w1 hE1 hs1 hA
  have p0:zad w1 (some ⟨w.heap.size,0,Option.none⟩)=some (vi d.ty):=zaa hA rfl
  obtain⟨⟨a,b,c,r⟩,hsh⟩:∃x,zay d.ty=x:=⟨_,rfl⟩
  have htx:txD d=if c<0 then min (max (d.texts.length:Int) 1) 32 else c:=by unfold txD;rw[hsh]
  have hrw:rwD d=if r<0 then(d.raw.length:Int) else r:=by unfold rwD;rw[hsh]
  refine rq ?_;intro gd K hgd hK
  try simp (disch:=first|omega|assumption|rfl) only[go_sem,p0,Nat.add_zero]
  refine Fn.mono (zj6 w1 d.ty) ?_
  rintro _ w2 ⟨rfl,hE2⟩
  rw[hsh]
  unfold zfc
  simp only
  try simp only[go_sem]
  refine zbu (P:=Tryz.prog) (l:=[vi a,vi b,vi c,vi r]) rfl (zeg _ _ _ _) rfl rfl ?_
  intro w3 hE3 hs3 hB3
  try simp only[go_sem]
  refine hK _ _ ?_;clear hK hgd;clear K;try clear gd
  obtain⟨P,hP⟩:∃P,w2.heap.size=P:=⟨_,rfl⟩
  rw[hP]at hB3
  simp only[hP]
  have hE13:=(hE1.trans hE2).trans hE3
  have hA3:=Ext.at (hE2.trans hE3) hA
  have hs2:=hE2.size
  have hs3':=hE3.size
  have vars:∀{z:World},Keep (fun i=>i=P) w3 z→zad z (some ⟨w.heap.size,1,Option.none⟩)=some (.slice an d.names.length cn)∧zad z (some ⟨w.heap.size,2,Option.none⟩)=some (.slice au d.nums.length cu)∧zad z (some ⟨w.heap.size,3,Option.none⟩)=some (.slice at1 d.texts.length ct)∧zad z (some ⟨w.heap.size,4,Option.none⟩)=some (.slice ar d.raw.length cr):=fun {z} hk=>by
    have hz:=(hk.block w.heap.size (by omega) (by omega)).trans hA3
    exact⟨zaa hz rfl,zaa hz rfl,zaa hz rfl,zaa hz rfl⟩
  have c2:zad w3 (some ⟨P,2,Option.none⟩)=some (vi c):=za8 (j:=2) hB3 rfl
  obtain⟨t1,ht1⟩:∃t,decide (c<0)=t:=⟨_,rfl⟩
  refine go (an3 c2 ht1 (Nat.zero_add 2)) ?_
  refine zas (Q:=fun e σ' ds' v'=>e= .normal∧ds'=[]∧(σ' 1= .pointer (some ⟨w.heap.size,0,Option.none⟩)∧σ' 3= .pointer (some ⟨P,0,Option.none⟩))∧v'.heap[P]? =some (.cells [vi a,vi b,vi (txD d),vi r].toArray 251 (0,0))∧Keep (fun i=>i=P) w3 v') ?_ ?_
  · cases t1 with
    |true=>
      have hc:=of_decide_eq_true ht1
      rw[if_pos hc]at htx
      obtain⟨_,_,k3,_⟩:=vars (Keep.refl _ w3)
      refine go trivial ?_
      refine rq ?_;intro gd K hgd hK
      try simp (disch:=first|omega|assumption|rfl) only[go_sem,k3,Nat.zero_add]
      refine zj1 (vr0) (vr0) ?_
      try simp only[go_sem]
      refine zgp (vr0) (vr0) ?_
      rw[←htx]
      try simp (disch:=first|omega|assumption|rfl) only[go_sem,Nat.zero_add]
      refine zcA (P:=Tryz.prog) (t:=3) (j:=2) (u:=vi (txD d)) hB3 (by simp) rfl rfl rfl ?_
      intro z hz hbz hkz
      try simp only[go_sem]
      refine hK _ _ ?_;clear hK hgd;clear K;try clear gd
      refine go trivial ?_
      exact⟨rfl,rfl,⟨vr0,vr0⟩,hbz,hkz⟩
    |false=>
      have hc:=of_decide_eq_false ht1
      rw[if_neg hc]at htx
      refine go trivial ?_
      exact⟨rfl,rfl,⟨vr0,vr0⟩,by rw[htx];exact hB3,Keep.refl _ _⟩
  rintro _ σ1 _ v1 ⟨rfl,rfl,⟨s1,s3⟩,hB4,hk4⟩
  have c3:zad v1 (some ⟨P,3,Option.none⟩)=some (vi r):=za8 (j:=3) hB4 rfl
  obtain⟨t2,ht2⟩:∃t,decide (r<0)=t:=⟨_,rfl⟩
  refine go (an5 s1 s3 c3 ht2 (Nat.zero_add 3)) ?_
  refine zas (Q:=fun e σ' ds' v'=>e= .normal∧ds'=[]∧(σ' 1= .pointer (some ⟨w.heap.size,0,Option.none⟩)∧σ' 3= .pointer (some ⟨P,0,Option.none⟩))∧v'.heap[P]? =some (.cells [vi a,vi b,vi (txD d),vi (rwD d)].toArray 251 (0,0))∧Keep (fun i=>i=P) w3 v') ?_ ?_
  · cases t2 with
    |true=>
      rw[if_pos (of_decide_eq_true ht2)]at hrw
      obtain⟨_,_,_,k4⟩:=vars hk4
      refine go (an2 s1 s3) ?_
      refine rq ?_;intro gd K hgd hK
      try simp (disch:=first|omega|assumption|rfl) only[go_sem,s1,s3,k4,Nat.zero_add]
      refine zcA (P:=Tryz.prog) (t:=3) (j:=3) (u:=vi (d.raw.length:Int)) hB4 (by simp) rfl rfl rfl ?_
      intro z hz hbz hkz
      try simp only[go_sem]
      refine hK _ _ ?_;clear hK hgd;clear K;try clear gd
      refine go (an2 s1 s3) ?_
      exact⟨rfl,rfl,⟨(vq1 s1),(vq1 s3)⟩,by rw[hrw];exact hbz,hk4.trans hkz⟩
    |false=>
      rw[if_neg (of_decide_eq_false ht2)]at hrw
      refine go (an2 s1 s3) ?_
      exact⟨rfl,rfl,⟨(vq1 s1),(vq1 s3)⟩,by rw[hrw];exact hB4,hk4⟩
  clear s1 s3
  rintro _ σ2 _ v2 ⟨rfl,rfl,⟨s1,s3⟩,hB5,hk5⟩
  obtain⟨k1,k2,k3,k4⟩:=vars hk5
  have e0:zad v2 (some ⟨P,0,Option.none⟩)=some (vi a):=za8 (j:=0) hB5 rfl
  have e1:zad v2 (some ⟨P,1,Option.none⟩)=some (vi b):=za8 (j:=1) hB5 rfl
  have e2:zad v2 (some ⟨P,2,Option.none⟩)=some (vi (txD d)):=za8 (j:=2) hB5 rfl
  have e3:zad v2 (some ⟨P,3,Option.none⟩)=some (vi (rwD d)):=za8 (j:=3) hB5 rfl
  have hfm:zbh d=(decide ((d.names.length:Int)=a) && decide ((d.nums.length:Int)=b) && decide ((d.texts.length:Int)=txD d) && decide ((d.raw.length:Int)=rwD d)):=by unfold zbh;rw[hsh]
  have hEf:Ext w v2:=Keep.to_ext hE13 rfl (fun i hi=>by omega) hk5
  obtain⟨b1,hb1⟩:∃t,decide ((d.names.length:Int)=a)=t:=⟨_,rfl⟩
  obtain⟨b2,hb2⟩:∃t,decide ((d.nums.length:Int)=b)=t:=⟨_,rfl⟩
  obtain⟨b3,hb3⟩:∃t,decide ((d.texts.length:Int)=txD d)=t:=⟨_,rfl⟩
  obtain⟨b4,hb4⟩:∃t,decide ((d.raw.length:Int)=rwD d)=t:=⟨_,rfl⟩
  rw[hb1,hb2,hb3,hb4]at hfm
  rw[hfm]
  refine go (an2 s1 s3) ?_
  cases b1<;>cases b2<;>cases b3<;>cases b4<;>
    (refine rgg [(6,29),(14,37),(22,45)] (an9 s1 s3 k1 k2 k3 k4 e0 e1 (an9 e2 e3 hb1 hb2 hb3 hb4 (Nat.zero_add 1) (Nat.zero_add 2) (an2 (Nat.zero_add 3) (Nat.zero_add 4)))) ?_
     refine go trivial ?_
     refine zaf (.inr rfl) Tryz.ntmps212 rfl (zac (vr0) zae) ?_
     exact⟨rfl,hEf⟩)
def zdI(ts:List Lab):Bool:=ts.any fun t=>decide (255<t.length)
theorem zkt(w:World)(t:Lab)(hl:t.length≤1000000000):Fn Tryz.prog 214 #[vs t] w (fun v w'=>v= .bool (decide (255<t.length))∧Ext w w'):=by
 have h1:decide ((255:Int)<(t.length:Int))=decide (255<t.length):=decide_eq_decide.2 (by omega)
 refine enter Tryz.func214 Tryz.ntmps214 rfl rfl ?_
 refine go h1 ?_
 refine rt0 Tryz.ntmps214 ?_
 exact⟨rfl,Keep.refl _ _⟩
theorem Idx_ok{w:World}{v:Value}{ts:List Lab}(hr:Row w v (ts.map vs))(hl:ts.length≤1000000000)(hx:∀t∈ts,t.length≤1000000000):Fn Tryz.prog 229 #[v,.func (.func 214) #[] #[]] w (fun u w'=>Ext w w'∧∃k:Int,u=vi k∧decide (0≤k)=zdI ts):=by
 obtain⟨a,c,rfl,hg⟩:=zbw hr
 refine enter Tryz.func229 Tryz.ntmps229 rfl rfl ?_
 refine go trivial ?_
 refine za3 ts.length (fun i σ v=>(σ 0= .slice a ts.length c∧σ 1= .func (.func 214) #[] #[]∧σ 7=vi ts.length∧σ 8=vi i)∧Ext w v∧∀j (h:j<ts.length),j<i→ts[j].length≤255) ?_ ?_ ?_
 ·exact⟨⟨vr0,vr0,vr0,vr0⟩,Keep.refl _ _,fun j _ h=>by omega⟩
 ·rintro i σ v hi r ⟨⟨s0,s1,s7,s8⟩,hE,hlow⟩
  obtain⟨x,rfl,g0⟩:=hg i hi
  have g:=zab hE g0
  obtain⟨t,ht⟩:∃t,ts[i]=t:=⟨_,rfl⟩
  rw[ht]at g
  have htl:=hx t (ht▸List.getElem_mem hi)
  have hi0:(0:Int)≤(i:Int):=by omega
  have hi1:(i:Int)<(ts.length:Int):=by omega
  have hi2:(i:Int)+1=((i+1:Nat):Int):=by push_cast;rfl
  refine go (an8 s0 s1 s7 s8 r g hi0 hi1) ?_
  refine rc (an6 s0 s1 s8 g hi0 hi1) (zkt v t htl) ?_
  rintro _ v1 ⟨rfl,hE1⟩
  by_cases hlt:255<t.length
  ·rw[decide_eq_true hlt]
   refine rgo (an2 s0 s8) ?_
   refine zaf (.inr rfl) Tryz.ntmps229 rfl (zac ((vr1 s8)) zae) ?_
   refine⟨hE.trans hE1,(i:Int),rfl,?_⟩
   have:zdI ts=true:=by
    unfold zdI
    rw[List.any_eq_true]
    exact⟨t,ht▸List.getElem_mem hi,decide_eq_true hlt⟩
   rw[this]
   exact decide_eq_true hi0
  ·rw[decide_eq_false hlt]
   refine rgo (an5 s0 s1 s7 s8 hi2) ?_
   refine⟨rfl,⟨(vq1 s0),(vq1 s1),(vq1 s7),(vq1 hi2)⟩,hE.trans hE1,fun j hj hji=>?_⟩
   by_cases e:j=i
   ·subst e;rw[ht];omega
   ·exact hlow j hj (by omega)
 ·rintro σ v r ⟨⟨s0,s1,s7,s8⟩,hE,hlow⟩
  refine go (an5 s0 s1 s7 s8 r) ?_
  refine zaf (.inr rfl) Tryz.ntmps229 rfl (zac (vr0) zae) ?_
  refine⟨hE, -1,rfl,?_⟩
  have:zdI ts=false:=by
   unfold zdI
   rw[List.any_eq_false]
   intro t ht
   obtain⟨j,hj,rfl⟩:=List.mem_iff_getElem.1 ht
   have:=hlow j hj hj
   simp;omega
  rw[this];rfl
theorem zhG{w:World}{v:Value}{ts:List Lab}(hr:Row w v (ts.map vs))(hl:ts.length≤1000000000)(hx:∀t∈ts,t.length≤1000000000):Fn Tryz.prog 213 #[v,.func (.func 214) #[] #[]] w (fun u w'=>u= .bool (zdI ts)∧Ext w w'):=by
 refine enter Tryz.func213 Tryz.ntmps213 rfl rfl ?_
 refine go trivial ?_
 refine rc trivial (Idx_ok hr hl hx) ?_
 rintro _ w1 ⟨hE1,k,rfl,hk⟩
 refine rgo hk ?_
 refine rt0 Tryz.ntmps213 ?_
 exact⟨rfl,hE1⟩
def zbe(d:DatL):Int:=if d.ty<1∨65535<d.ty then 6 else if zbh d=false then 2 else match d.names.find? (fun n=>decide (zaS n≠0)) with
 |some n=>zaS n
 |Option.none=>if d.ty=15∧65535<d.nums.headD 0 then 7 else if 1024<d.raw.length∨zdI d.texts=true then 3 else 0
theorem zlx{w:World}{cs:List Value}{d:DatL}(hd:DatAt w cs d)(hT:DatT d):Fn Tryz.prog 186 #[.agg cs.toArray] w (fun v w'=>v=vi (zbe d)∧Ext w w'):=by
 have hS:=hT.s
 have hd0:=hd
 obtain⟨nm,nu,tx,rw',rfl,⟨vals,⟨an,cn,rfl,hcn,hgn⟩,hvl,hvr⟩,hnu,htx,hrw⟩:=hd.ex
 obtain⟨au,cu,hau,hcu,hgu⟩:=id hnu
 obtain⟨at1,ct,hat,_⟩:=id htx
 obtain⟨ar,cr,har,_⟩:=id hrw
 rw[List.length_map]at hau hat har hcu
 subst hau
 subst hat
 subst har
 unfold zbe
 refine enter Tryz.func186 Tryz.ntmps186 rfl rfl ?_
 refine go trivial ?_
 refine zam ?_
 intro w1 hE1 hs1 hA
 have p0:zad w1 (some ⟨w.heap.size,0,Option.none⟩)=some (vi d.ty):=zaa hA rfl
 have p5:zar w1 (some ⟨w.heap.size,0,Option.none⟩) 5=some [vi d.ty,.slice an vals.length cn,.slice au d.nums.length cu,.slice at1 d.texts.length ct,.slice ar d.raw.length cr]:=zal (n:=5) hA rfl
 by_cases c1:d.ty<1
 ·rw[if_pos (.inl c1)]
  refine go trivial ?_
  refine rgg [(3,10)] (an3 p0 (decide_eq_true c1) (Nat.add_zero 0)) ?_
  refine go trivial ?_
  refine zaf (.inr rfl) Tryz.ntmps186 rfl (zac (vr0) zae) ?_
  exact⟨rfl,hE1⟩
 by_cases c2:65535<d.ty
 ·rw[if_pos (.inr c2)]
  refine go trivial ?_
  refine rgg [(3,10)] (an4 p0 (decide_eq_false c1) (decide_eq_true c2) (Nat.add_zero 0)) ?_
  refine go trivial ?_
  refine zaf (.inr rfl) Tryz.ntmps186 rfl (zac (vr0) zae) ?_
  exact⟨rfl,hE1⟩
 rw[if_neg (by omega)]
 refine go trivial ?_
 refine rgg [(3,10)] (an4 p0 (decide_eq_false c1) (decide_eq_false c2) (Nat.add_zero 0)) ?_
 refine go trivial ?_
 refine rc p5 (form_ok (hd0.ext hE1)) ?_
 rintro _ w2 ⟨rfl,hE2⟩
 cases hf:zbh d with
 |false=>
  rw[if_pos rfl]
  refine rgo trivial ?_
  refine zaf (.inr rfl) Tryz.ntmps186 rfl (zac (vr0) zae) ?_
  exact⟨rfl,hE1.trans hE2⟩
 |true=>
 rw[if_neg (by decide)]
 have hA2:=Ext.at hE2 hA
 have q1:zad w2 (some ⟨w.heap.size,1,Option.none⟩)=some (.slice an vals.length cn):=zaa hA2 rfl
 refine rgo (an2 q1 (Nat.zero_add 1)) ?_
 have hE12:=hE1.trans hE2
 have hnames:=hS.names
 have hnn:=hT.nn
 refine za3 vals.length (fun i σ v=>(σ 1= .pointer (some ⟨w.heap.size,0,Option.none⟩)∧σ 20= .slice an vals.length cn∧σ 21=vi vals.length∧σ 22=vi i)∧Ext w2 v∧∀j (h:j<d.names.length),j<i→zaS d.names[j]=0) ?_ ?_ ?_
 ·exact⟨⟨vr0,vr0,vr0,vr0⟩,Keep.refl _ _,fun j _ h=>by omega⟩
 ·rintro i σ v hi r ⟨⟨s1,s20,s21,s22⟩,hE,hlow⟩
  have g0:=hgn i hi
  obtain⟨xN,rfl⟩:=Option.isSome_iff_exists.1 (zaj g0)
  have hEv:=hE12.trans hE
  have g:=zab hEv g0
  have hin:i<d.names.length:=by omega
  have hrow:=(hvr i hi hin).ext hEv
  obtain⟨nv,hnv⟩:∃nv,vals[i]=nv:=⟨_,rfl⟩
  obtain⟨n,hn⟩:∃n,d.names[i]=n:=⟨_,rfl⟩
  rw[hnv]at g hrow
  rw[hn]at hrow
  have hnS:=hnames n (hn▸List.getElem_mem hin)
  have hi0:(0:Int)≤(i:Int):=by omega
  have hi1:(i:Int)<(vals.length:Int):=by omega
  have hi2:(i:Int)+1=((i+1:Nat):Int):=by push_cast;rfl
  obtain⟨na,nc,hne,_⟩:=id hrow
  refine go (an8 s1 s20 s21 s22 r g hi0 hi1) ?_
  refine rc (an4 s1 s20 s21 s22) (zgZ v nv n hrow (fun l hl=>by have:=hnS.1 l hl;omega) (by have:=hnS.2;omega)) ?_
  rintro _ v1 ⟨rfl,hE1'⟩
  by_cases hc:zaS n=0
  ·refine rgo (an6 s1 s20 s21 s22 hi2 (decide_eq_true hc)) ?_
   refine⟨rfl,⟨(vq1 s1),(vq1 s20),(vq1 s21),(vq1 hi2)⟩,hE.trans hE1',fun j hj hji=>?_⟩
   by_cases e:j=i
   ·subst e;rw[hn];exact hc
   ·exact hlow j hj (by omega)
  ·refine rgo (an2 s1 (decide_eq_false hc)) ?_
   refine zaf (.inr rfl) Tryz.ntmps186 rfl (zac (vr0) zae) ?_
   have hfind:d.names.find? (fun n=>decide (zaS n≠0))=some n:=by
    rw[List.find?_eq_some_iff_getElem]
    refine⟨decide_eq_true hc,i,hin,hn,fun j hj=>?_⟩
    simp[hlow j (by omega) hj]
   rw[hfind]
   exact⟨rfl,hEv.trans hE1'⟩
 rintro σ v r ⟨⟨s1,s20,s21,s22⟩,hE,hlow⟩
 have hnone:d.names.find? (fun n=>decide (zaS n≠0))=Option.none:=by
  rw[List.find?_eq_none]
  intro n hn
  obtain⟨j,hj,rfl⟩:=List.mem_iff_getElem.1 hn
  simp[hlow j hj (by omega)]
 rw[hnone]
 simp only
 have hEv:=hE12.trans hE
 have hAv:=Ext.at (hE2.trans hE) hA
 have u0:zad v (some ⟨w.heap.size,0,Option.none⟩)=some (vi d.ty):=zaa hAv rfl
 have u2:zad v (some ⟨w.heap.size,2,Option.none⟩)=some (.slice au d.nums.length cu):=zaa hAv rfl
 have u3:zad v (some ⟨w.heap.size,3,Option.none⟩)=some (.slice at1 d.texts.length ct):=zaa hAv rfl
 have u4:zad v (some ⟨w.heap.size,4,Option.none⟩)=some (.slice ar d.raw.length cr):=zaa hAv rfl
 refine go (an5 s1 s20 s21 s22 r) ?_
 obtain⟨tt,htt⟩:∃tt,decide (d.ty=15∧65535<d.nums.headD 0)=tt:=⟨_,rfl⟩
 refine zas (Q:=fun e σ' ds' v'=>e= .normal∧ds'=[]∧v=v'∧σ' 1= .pointer (some ⟨w.heap.size,0,Option.none⟩)∧σ' 32= .bool tt) ?_ ?_
 ·by_cases c3:d.ty=15
  ·have hn1:d.nums.length=1:=by
    unfold zbh at hf
    simp only[Bool.and_eq_true,decide_eq_true_eq]at hf
    have h2:=hf.1.1.2
    rw[c3]at h2
    have h3:(zay 15).2.1=1:=rfl
    rw[h3]at h2
    omega
   obtain⟨x,hx⟩:∃x,d.nums[0]'(by omega)=x:=⟨_,rfl⟩
   have hhd:d.nums.headD 0=x:=by
    cases hnn:d.nums with
    |nil=>rw[hnn]at hn1;cases hn1
    |cons a l=>simp[hnn]at hx;simpa using hx
   have gu:=zab hEv (hgu 0 (by rw[List.length_map];omega))
   rw[List.getElem_map,hx,zan]at gu
   obtain⟨xU,rfl⟩:∃x,au=some x:=by
    cases au with
    |none=>cases gu
    |some x=>exact⟨x,rfl⟩
   have n0:(0:Int)<(d.nums.length:Int):=by omega
   have d2:decide ((65535:Int)<x)=tt:=by rw[←htt,hhd];exact decide_eq_decide.2 ⟨fun h=>⟨c3,h⟩,fun h=>h.2⟩
   refine rgg [(3,36)] (an9 s1 u0 u2 (decide_eq_true c3) gu n0 d2 (Nat.add_zero 0) (an4 (Nat.zero_add 2) Int.toNat_zero (Nat.zero_mul 1) (zan (some xU)))) ?_
   exact⟨rfl,rfl,rfl,(vq1 s1),vr0⟩
  ·have d2:tt=false:=by rw[←htt];exact decide_eq_false fun h=>c3 h.1
   subst d2
   refine rgg [(3,36)] (an4 s1 u0 (decide_eq_false c3) (Nat.add_zero 0)) ?_
   exact⟨rfl,rfl,rfl,(vq1 s1),vr0⟩
 rintro _ σ1 _ v1 ⟨rfl,rfl,hv1,g1,g32⟩
 subst hv1
 cases tt with
 |true=>
  rw[if_pos (of_decide_eq_true htt)]
  refine go (an2 g1 g32) ?_
  refine zaf (.inr rfl) Tryz.ntmps186 rfl (zac (vr0) zae) ?_
  exact⟨rfl,hEv⟩
 |false=>
 rw[if_neg (of_decide_eq_false htt)]
 have htx':=hS.tx
 by_cases c4:1024<d.raw.length
 ·have d4:decide ((1024:Int)<(d.raw.length:Int))=true:=decide_eq_true (by omega)
  rw[if_pos (.inl c4)]
  refine go (an5 g1 g32 u4 d4 (Nat.zero_add 4)) ?_
  refine zaf (.inr rfl) Tryz.ntmps186 rfl (zac (vr0) zae) ?_
  exact⟨rfl,hEv⟩
 have d4:decide ((1024:Int)<(d.raw.length:Int))=false:=decide_eq_false (by omega)
 refine go (an5 g1 g32 u4 d4 (Nat.zero_add 4)) ?_
 refine rc (an3 g1 u3 (Nat.zero_add 3)) (zhG (htx.ext hEv) (by have:=hS.nt;omega) fun t ht=>by have:=htx' t ht;omega) ?_
 rintro _ v2 ⟨rfl,hE3⟩
 cases hlt:zdI d.texts with
 |true=>
  rw[if_pos (.inr rfl)]
  refine rgo trivial ?_
  refine zaf (.inr rfl) Tryz.ntmps186 rfl (zac (vr0) zae) ?_
  exact⟨rfl,hEv.trans hE3⟩
 |false=>
  rw[if_neg (fun h=>by rcases h with h|h;exact c4 h;cases h)]
  refine rgo trivial ?_
  refine zaf (.inr rfl) Tryz.ntmps186 rfl (zac (vr0) zae) ?_
  exact⟨rfl,hEv.trans hE3⟩
def zfO(t:Int)(n:Nat):Bool:=if (zay t).2.2.1<0 then decide (1≤(n:Int)) && decide ((n:Int)≤32) else if 0<(zay t).2.2.2 then decide ((n:Int)=1) else if (zay t).2.2.2<0 then false else decide ((n:Int)=(zay t).1+(zay t).2.1)
theorem shape_lt(t:Int):0≤(zay t).1∧(zay t).1≤5∧0≤(zay t).2.1∧(zay t).2.1≤5:=by
 unfold zay
 (repeat' split)<;>decide
theorem zeH{W0 w:World}{b:Nat}{ws:List (Lab×Bool)}{ov:Value}{e:Int}(h:Rdr W0 w b ws ov e)(t:Int):Fn Tryz.prog 187 #[.pointer (some ⟨b,0,Option.none⟩),vi t] w (fun v w'=>v= .bool (zfO t ws.length)∧Ext w w'):=by
  obtain⟨wv,hb,hr⟩:=h.at'
  obtain⟨wa,wc,rfl,_,_⟩:=hr.open
  obtain⟨n,hn⟩:∃n,ws.length=n:=⟨_,rfl⟩
  rw[hn]at hb ⊢
  have hsl:=shape_lt t
  obtain⟨⟨a,c,x,r⟩,hsh⟩:∃x,zay t=x:=⟨_,rfl⟩
  unfold zfO
  rw[hsh]at hsl ⊢
  simp only at hsl ⊢
  refine enter Tryz.func187 Tryz.ntmps187 rfl rfl ?_
  refine go trivial ?_
  refine rq ?_;intro gd K hgd hK
  try simp only[go_sem]
  refine Fn.mono (zj6 w t) ?_
  rintro _ w2 ⟨rfl,hE2⟩
  rw[hsh]
  unfold zfc
  simp only
  try simp only[go_sem]
  refine zbu (P:=Tryz.prog) (l:=[vi a,vi c,vi x,vi r]) rfl (zeg _ _ _ _) rfl rfl ?_
  intro w3 hE3 hs3 hB3
  try simp only[go_sem]
  refine hK _ _ ?_;clear hK hgd;clear K;try clear gd
  have hE:=hE2.trans hE3
  have c0:zad w3 (some ⟨b,0,Option.none⟩)=some (.slice wa n wc):=zaa (Ext.at hE hb) rfl
  have k0:zad w3 (some ⟨w2.heap.size,0,Option.none⟩)=some (vi a):=za8 (j:=0) hB3 rfl
  have k1:zad w3 (some ⟨w2.heap.size,1,Option.none⟩)=some (vi c):=za8 (j:=1) hB3 rfl
  have k2:zad w3 (some ⟨w2.heap.size,2,Option.none⟩)=some (vi x):=za8 (j:=2) hB3 rfl
  have k3:zad w3 (some ⟨w2.heap.size,3,Option.none⟩)=some (vi r):=za8 (j:=3) hB3 rfl
  by_cases hx:x<0
  · rw[if_pos hx]
    refine go (an3 k2 (decide_eq_true hx) (Nat.zero_add 2)) ?_
    obtain⟨b1,hb1⟩:∃t,decide (1≤(n:Int))=t:=⟨_,rfl⟩
    obtain⟨b2,hb2⟩:∃t,decide ((n:Int)≤32)=t:=⟨_,rfl⟩
    rw[hb1,hb2]
    cases b1<;>cases b2<;>
      (refine rgg [(6,18)] (an4 c0 hb1 hb2 (Nat.add_zero 0)) ?_
       refine go trivial ?_
       refine zaf (.inr rfl) Tryz.ntmps187 rfl (zac (vr0) zae) ?_
       exact⟨rfl,hE⟩)
  rw[if_neg hx]
  by_cases hr1:0<r
  · rw[if_pos hr1]
    refine go (an9 k2 (decide_eq_false hx) (Nat.zero_add 2) k3 (decide_eq_true hr1) (Nat.zero_add 3) c0 (Nat.add_zero 0) trivial) ?_
    refine zaf (.inr rfl) Tryz.ntmps187 rfl (zac (vr0) zae) ?_
    exact⟨rfl,hE⟩
  rw[if_neg hr1]
  by_cases hr2:r<0
  · rw[if_pos hr2]
    refine go (an8 k2 (decide_eq_false hx) (Nat.zero_add 2) k3 (decide_eq_false hr1) (Nat.zero_add 3) (decide_eq_true hr2) trivial) ?_
    refine zaf (.inr rfl) Tryz.ntmps187 rfl (zac (vr0) zae) ?_
    exact⟨rfl,hE⟩
  rw[if_neg hr2]
  refine go (an8 k2 (decide_eq_false hx) (Nat.zero_add 2) k3 (decide_eq_false hr1) (Nat.zero_add 3) (decide_eq_false hr2) trivial) ?_
  refine zaR (fun _=>false) [(0,true),(1,true),(2,true),(3,true),(4,true),(5,true),(6,true),(7,true),(8,true),(9,true),(10,true),(11,true)] NoS mixed (by kernel_rfl) ?_;intro gd K x hgd hx hxe hK;have hx0:=zaQ hxe;clear hxe
  have c0x:=zab hx0 c0
  have k0x:=zab hx0 k0
  have k1x:=zab hx0 k1
  simp (disch:=first|omega|assumption|rfl) only[go_sem,c0x,k0x,k1x,Nat.add_zero,Nat.zero_add]
  refine hK _ _ ?_;clear hK hgd;clear K;try clear gd
  refine go trivial ?_
  refine zaf (.inr rfl) Tryz.ntmps187 rfl (zac (vr0) zae) ?_
  exact⟨rfl,hE.trans hx0⟩
theorem zdf(t:Int)(a b c d:Value)(ha:one a=true)(hb:one b=true)(hc:one c=true)(hd:one d=true):∀v∈ [vi t,a,b,c,d],one v=true:=fun v h=>by
 simp at h
 rcases h with rfl|rfl|rfl|rfl|rfl<;>first|rfl|assumption
theorem zjW{W0 w:World}{b:Nat}{t:Lab}{q:Bool}{ov:Value}{e:Int}{ps:List Lab}(hW:WX W0)(h:Rdr W0 w b [(t,q)] ov e)(ht:t.length≤1000000)(hsp:SplP t ps)(hpl:ps.length≤1000000)(hpx:∀p∈ps,p.length≤1000000):
  Fn Tryz.prog 160 #[.pointer (some ⟨b,0,Option.none⟩),vi 1] w (fun v w'=>(∃rv,v= .agg #[vi 1,.slice Option.none 0 0,.slice Option.none 0 0,.slice Option.none 0 0,rv]∧Own w.heap.size w' 5 rv (ps.map octP))∧Rdr W0 w' b [] ov (zhq (if ps.length=4 then(if q=true then zbi e 2 else e) else zbi (if q=true then zbi e 2 else e) 2) ps)∧Keep (fun i=>i=b) w w'):=by
 have hbl:=h.lt
 have hlow:=h.low
 refine enter Tryz.func160 Tryz.ntmps160 rfl rfl ?_
 refine go trivial ?_
 refine zam ?_
 intro w1 hE1 hs1 hA
 refine rq ?_;intro gd K hgd hK
 try simp only[go_sem]
 refine⟨by kernel_rfl,?_⟩
 rw[show bdV Tryz.prog 34 [(0,vi 1)]=some (.agg #[vi 1,.slice Option.none 0 0,.slice Option.none 0 0,.slice Option.none 0 0,.slice Option.none 0 0]) from by kernel_rfl]
 try simp only[go_sem]
 refine zbu (P:=Tryz.prog) (l:=[vi 1,.slice Option.none 0 0,.slice Option.none 0 0,.slice Option.none 0 0,.slice Option.none 0 0]) rfl (zdf _ _ _ _ _ rfl rfl rfl rfl) rfl rfl ?_
 intro w2 hE2 hs2 hB2
 try simp only[go_sem]
 refine hK _ _ ?_;clear hK hgd;clear K;try clear gd
 rw[hs1]at hB2
 simp only[hs1]
 have hR2:=(h.extx hE1).extx hE2
 refine go trivial ?_
 refine rc trivial (zeH hR2 1) ?_
 rintro _ w3 ⟨rfl,hE3⟩
 rw[show zfO 1 ([(t,q)]:List (Lab×Bool)).length=true from rfl]
 have d1:decide ((1:Int)=1)=true:=rfl
 refine rgo d1 ?_
 have hR3:=hR2.extx hE3
 have hs3:=hE3.size
 refine rq ?_;intro gd K hgd hK
 try simp only[go_sem]
 refine Fn.mono (zi6 hW hR3 (by simp) ht hsp hpl hpx) ?_
 rintro rv w4 ⟨hown,hR4,hk4⟩
 obtain⟨ra,rc',hrv⟩:=hown.slice
 have hs4:=hk4.size
 have hB4:=(hk4.block (w.heap.size+1) (by omega) (by omega)).trans (Ext.at hE3 hB2)
 try simp (disch:=first|omega|assumption|rfl) only[go_sem,Nat.zero_add]
 refine zcA (P:=Tryz.prog) (t:=32) (j:=4) (u:=rv) hB4 (by simp) (by rw[hrv];rfl) rfl rfl ?_
 intro w5 hs5 hB5 hk5
 try simp only[go_sem]
 refine hK _ _ ?_;clear hK hgd;clear K;try clear gd
 simp only[List.set_cons_zero,List.set_cons_succ]at hB5
 have q5:=zal (n:=5) hB5 rfl
 refine go trivial ?_
 refine rq ?_;intro gd K hgd hK
 try simp (disch:=first|omega|assumption|rfl) only[go_sem,q5]
 have hA5:w5.heap[w.heap.size]? =_:=(hk5.block _ (by omega) (by omega)).trans ((hk4.block _ (by omega) (by omega)).trans (Ext.at (hE2.trans hE3) hA))
 refine zaJ (P:=Tryz.prog) (t:=34) (l:=[vi 1,.slice Option.none 0 0,.slice Option.none 0 0,.slice Option.none 0 0,rv]) hA5 rfl (zdf _ _ _ _ _ rfl rfl rfl (by rw[hrv];rfl)) rfl rfl ?_
 intro w6 hs6 hB6 hk6
 try simp only[go_sem]
 refine hK _ _ ?_;clear hK hgd;clear K;try clear gd
 refine go trivial ?_
 refine zaf (.inr rfl) Tryz.ntmps160 rfl (zaO (x:=⟨w.heap.size,0,Option.none⟩) (k:=5) (vr0) rfl rfl (zal hB6 rfl) zae) ?_
 have hE13:=(hE1.trans hE2).trans hE3
 refine⟨⟨rv,rfl,((hown.keep hk5 fun i hi hs=>by have:=(hown.ge hi).1;omega).keep hk6 fun i hi hs=>by have:=(hown.ge hi).1;omega).mono (by omega)⟩,(hR4.keep hk5 fun i hi=>by omega).keep hk6 fun i hi=>by omega,?_⟩
 exact((((hE13.mono fun _ _ h=>h.elim):Keep (fun i=>i=b) w w3).trans hk4).own hk5 fun i hi h=>by omega).own hk6 fun i hi h=>by omega
def untT(t:Lab):Lab:=(unD [] 0 t []).1
def zgI(e:Int)(ws:List (Lab×Bool)):Int:=ws.foldl (fun e x=>zbi e (errT x.1)) e
theorem own16_ok{W0 w:World}{b:Nat}{ws:List (Lab×Bool)}{ov:Value}{e:Int}(h:Rdr W0 w b ws ov e)(h1:1≤ws.length)(h32:ws.length≤32)(hx:∀x∈ws,x.1.length≤1000000000):
  Fn Tryz.prog 160 #[.pointer (some ⟨b,0,Option.none⟩),vi 16] w (fun v w'=>(∃tv,v= .agg #[vi 16,.slice Option.none 0 0,.slice Option.none 0 0,tv,.slice Option.none 0 0]∧Own w.heap.size w' 9 tv ((ws.map fun x=>untT x.1).map vs))∧Rdr W0 w' b [] ov (zgI e ws)∧Keep (fun i=>i=b) w w'):=by
 have hbl:=h.lt
 have hlow:=h.low
 refine enter Tryz.func160 Tryz.ntmps160 rfl rfl ?_
 refine go trivial ?_
 refine zam ?_
 intro w1 hE1 hs1 hA
 refine rq ?_;intro gd K hgd hK
 try simp only[go_sem]
 refine⟨by kernel_rfl,?_⟩
 rw[show bdV Tryz.prog 34 [(0,vi 16)]=some (.agg #[vi 16,.slice Option.none 0 0,.slice Option.none 0 0,.slice Option.none 0 0,.slice Option.none 0 0]) from by kernel_rfl]
 try simp only[go_sem]
 refine zbu (P:=Tryz.prog) (l:=[vi 16,.slice Option.none 0 0,.slice Option.none 0 0,.slice Option.none 0 0,.slice Option.none 0 0]) rfl (zdf _ _ _ _ _ rfl rfl rfl rfl) rfl rfl ?_
 intro w2 hE2 hs2 hB2
 try simp only[go_sem]
 refine hK _ _ ?_;clear hK hgd;clear K;try clear gd
 rw[hs1]at hB2
 simp only[hs1]
 have hR2:=(h.extx hE1).extx hE2
 refine go trivial ?_
 refine rc trivial (zeH hR2 16) ?_
 rintro _ w3 ⟨rfl,hE3⟩
 have hmany:zfO 16 ws.length=true:=by
  unfold zfO
  rw[if_pos (by decide),decide_eq_true (by omega),decide_eq_true (by omega)]
  rfl
 rw[hmany]
 have d1:decide ((16:Int)=1)=false:=rfl
 have d2:decide ((16:Int)=28)=false:=rfl
 have d3:decide ((16:Int)=16)=true:=rfl
 refine rgo (an3 d1 d2 d3) ?_
 have hR3:=hR2.extx hE3
 have hs3:=hE3.size
 have hB3:=Ext.at hE3 hB2
 obtain⟨P,hP⟩:∃P,w.heap.size+1=P:=⟨_,rfl⟩
 rw[hP]at hB3 ⊢
 have hP3:P<w3.heap.size:=(Array.getElem?_eq_some_iff.1 hB3).1
 refine zas (Q:=fun e' σ' ds' v'=>e'= .exit 5∧ds'=[]∧(σ' 4= .pointer (some ⟨w.heap.size,0,Option.none⟩)∧σ' 5= .pointer (some ⟨P,0,Option.none⟩))∧Rdr W0 v' b [] ov (zgI e ws)∧Keep (fun i=>i=b∨i=P) w3 v'∧∃tv,v'.heap[P]? =some (.cells [vi 16,.slice Option.none 0 0,.slice Option.none 0 0,tv,.slice Option.none 0 0].toArray 34 (0,0))∧Own w3.heap.size v' 9 tv ((ws.map fun x=>untT x.1).map vs)) ?_ ?_
 ·refine zaZ (fun m σ ds v=>ds=[]∧∃j,j+m=ws.length∧(σ 0= .pointer (some ⟨b,0,Option.none⟩)∧σ 4= .pointer (some ⟨w.heap.size,0,Option.none⟩)∧σ 5= .pointer (some ⟨P,0,Option.none⟩))∧Rdr W0 v b (ws.drop j) ov (zgI e (ws.take j))∧Keep (fun i=>i=b∨i=P) w3 v∧∃tv,v.heap[P]? =some (.cells [vi 16,.slice Option.none 0 0,.slice Option.none 0 0,tv,.slice Option.none 0 0].toArray 34 (0,0))∧Own w3.heap.size v 9 tv (((ws.take j).map fun x=>untT x.1).map vs)) ws.length ?_ ?_
  ·exact⟨rfl,0,by omega,⟨vr0,vr0,vr0⟩,hR3,Keep.refl _ _,_,hB3,Own.nil _ _ _⟩
  rintro m σ ds v ⟨rfl,j,hjm,⟨s0,s4,s5⟩,hR,hk,tv,hBP,hown⟩
  obtain⟨wv,hb,hr⟩:=hR.at'
  obtain⟨aw,cw,rfl,_,_⟩:=hr.open
  have c0:zad v (some ⟨b,0,Option.none⟩)=some (.slice aw (ws.drop j).length cw):=zaa hb rfl
  by_cases hj:j<ws.length
  ·have g1:decide ((0:Int)<((ws.drop j).length:Int))=true:=decide_eq_true (by rw[List.length_drop];omega)
   obtain⟨⟨u,q⟩,hu⟩:∃x,ws[j]=x:=⟨_,rfl⟩
   have hul:=hx (u,q) (hu▸List.getElem_mem hj)
   have hR':=hR
   rw[List.drop_eq_getElem_cons hj,hu]at hR'
   have q3:zad v (some ⟨P,3,Option.none⟩)=some tv:=za8 (j:=3) hBP rfl
   have hPv:P<v.heap.size:=(Array.getElem?_eq_some_iff.1 hBP).1
   have hlt:=hR.lt
   have hkv:=hk.size
   refine go (an6 s0 s4 s5 c0 g1 (Nat.add_zero 0)) ?_
   refine zaR (fun i=>i==7) [(0,true),(1,true),(2,true),(3,false),(4,false),(5,false),(6,true),(7,false)] ((fun i=>i=b∨some i=tv.ownBlock)) mixed (by kernel_rfl) ?_;intro gd K x hgd hx hxe hK;have hx0:=zaQ hxe;clear hxe
   have q3x:=zab hx0 q3
   have hsx:=hx0.size
   simp (disch:=first|omega|assumption|rfl) only[go_sem,s0,s5,q3x,Nat.zero_add]
   refine⟨fun a ha hb'=>by cases ha;rcases hb' with hb'|hb';(· dsimp only at hb';omega);(· have:=(hown.ge hb').1;dsimp only at this;omega),?_⟩
   refine Fn.mono (text_ok (hR'.extx hx0) (by rw[List.length_drop];omega) hul) ?_
   rintro _ y1 ⟨rfl,hR1,hk1⟩
   refine⟨.inr (hk1.mono fun i _ h=> .inl h),?_⟩
   simp (disch:=first|omega|assumption|rfl) only[go_sem]
   refine za5 (z:=vs []) rfl rfl rfl rfl rfl ?_
   intro y2 hy2 hys2 hyo
   refine⟨.inr hy2.keep,?_⟩
   simp (disch:=first|omega|assumption|rfl) only[go_sem]
   have hsy1:=hk1.size
   have hsy2:=hy2.size
   have hownx:Own w3.heap.size y2 9 tv (((ws.take j).map fun x=>untT x.1).map vs):=((hown.ext hx0).keep hk1 fun i hi hs=>by have:=(hown.ge hi).1;omega).ext hy2
   refine zaV (e:=9) hownx hyo.row rfl rfl rfl rfl rfl rfl (vr0) (vr0) (fun q hq=>by simp at hq;subst hq;rfl) (by simp;omega) (by decide) (by omega) ?_
   intro sv' y3 hown3 hX3 hK3 hb3'
   refine⟨.inr (hK3.mono fun i _ h=> .inr h),?_⟩
   simp (disch:=first|omega|assumption|rfl) only[go_sem,s5,Nat.zero_add]
   have hsK:=hK3.size
   have hBP3:y3.heap[P]? =_:=(hK3.block P (by omega) (fun h=>by have:=(hown.ge h).1;omega)).trans ((hy2.block P (by omega) (fun h=>h)).trans ((hk1.block P (by omega) (by omega)).trans (Ext.at hx0 hBP)))
   refine zcA (P:=Tryz.prog) (t:=23) (j:=3) (u:=sv') hBP3 (by simp) (by obtain⟨a,c,rfl⟩:=hown3.slice;rfl) rfl rfl ?_
   intro z hzs hBz hkz
   refine⟨.inl rfl,?_⟩
   simp (disch:=first|omega|assumption|rfl) only[go_sem]
   refine hK _ _ ?_;clear hK hgd;clear K;try clear gd
   simp only[List.set_cons_zero,List.set_cons_succ]at hBz
   refine go (an3 s0 s4 s5) ?_
   have hR2':Rdr W0 y2 b (ws.drop (j+1)) ov (zbi (zgI e (ws.take j)) (errT u)):=hR1.extx hy2
   refine⟨m - 1,by omega,rfl,j+1,by omega,⟨(vq1 s0),(vq1 s4),(vq1 s5)⟩,?_,?_,sv',hBz,?_⟩
   ·rw[zai hj,hu]
    unfold zgI at hR2' ⊢
    rw[List.foldl_append]
    exact(hR2'.keep hK3 fun i hi=>by have:=(hown.ge hi).1;omega).keep hkz fun i hi=>by omega
   ·have ha:Keep (fun i=>i=b∨i=P) w3 y2:=((hk.trans (hx0.mono fun _ _ h=>h.elim)).trans (hk1.mono fun _ _ h=> .inl h)).trans (hy2.mono fun _ _ h=>h.elim)
    exact(ha.own hK3 fun i hi h=>by have:=(hown.ge h).1;omega).trans (hkz.mono fun _ _ h=> .inr h)
   ·rw[zai hj,hu,List.map_append,List.map_append]
    exact hown3.keep hkz fun i hi hs=>by have:=(hown3.ge hi).1;omega
  ·have g1:decide ((0:Int)<((ws.drop j).length:Int))=false:=decide_eq_false (by rw[List.length_drop];omega)
   refine go (an6 s0 s4 s5 c0 g1 (Nat.add_zero 0)) ?_
   rw[List.drop_of_length_le (by omega)]at hR
   rw[List.take_of_length_le (by omega)]at hR hown
   exact⟨rfl,rfl,⟨(vq1 s4),(vq1 s5)⟩,hR,hk,tv,hBP,hown⟩
 rintro _ σ1 _ w4 ⟨rfl,rfl,⟨s4,s5⟩,hR4,hk4,tv,hB4,hown⟩
 obtain⟨ra,rc',htv⟩:=hown.slice
 have hs4:=hk4.size
 have q5:=zal (n:=5) hB4 rfl
 refine go (an2 s4 s5) ?_
 refine rq ?_;intro gd K hgd hK
 try simp (disch:=first|omega|assumption|rfl) only[go_sem,s4,s5,q5]
 have hA4:w4.heap[w.heap.size]? =_:=(hk4.block _ (by omega) (by omega)).trans (Ext.at (hE2.trans hE3) hA)
 refine zaJ (P:=Tryz.prog) (t:=34) (l:=[vi 16,.slice Option.none 0 0,.slice Option.none 0 0,tv,.slice Option.none 0 0]) hA4 rfl (zdf _ _ _ _ _ rfl rfl (by rw[htv];rfl) rfl) rfl rfl ?_
 intro w6 hs6 hB6 hk6
 try simp only[go_sem]
 refine hK _ _ ?_;clear hK hgd;clear K;try clear gd
 refine go trivial ?_
 refine zaf (.inr rfl) Tryz.ntmps160 rfl (zaO (x:=⟨w.heap.size,0,Option.none⟩) (k:=5) ((vr1 s4)) rfl rfl (zal hB6 rfl) zae) ?_
 have hE13:=(hE1.trans hE2).trans hE3
 refine⟨⟨tv,rfl,(hown.keep hk6 fun i hi hs=>by have:=(hown.ge hi).1;omega).mono (by omega)⟩,hR4.keep hk6 fun i hi=>by omega,?_⟩
 exact(((hE13.mono fun _ _ h=>h.elim):Keep (fun i=>i=b) w w3).own hk4 fun i hi h=>by omega).own hk6 fun i hi h=>by omega
section
variable {P : Program} {d : Option Tmp} {ty : TypeId} {ps : String} {af : Array Edge} {g : Option (Nat × Bool)} {ρ : Operand → Value} {w : World} {K : Value → World → Prop}
end
set_option maxRecDepth 100000
theorem zkZ{P:Program}{w:World}{K:Value→World→Prop}{t e:TypeId}{n:Nat}{parts:List (Nat×Value)}{arr:Array Value}(h:bsC P t n parts=some (e,arr))
  (hk:∀w1,Ext w w1→w1.heap.size=w.heap.size+1→w1.heap[w.heap.size]? =some (.cells arr e (0,0))→K (.slice (some ⟨w.heap.size,0,Option.none⟩) n n) w1):bsL P t n parts w K .mk:=by
 unfold bsL bsK
 rw[h]
 exact hk _ (Ext.alloc w _) (zaB w _) (zaC w _)
theorem zcb(w:World):NamesAt w (.slice Option.none 0 0) []:=⟨[],(Own.nil 0 w 0).row,rfl,fun i h=>absurd h (by simp)⟩
theorem zj4{w:World}{nv sv:Value}{n:Nm}(h1:Row w sv [nv])(h2:Row w nv (n.map vs)):NamesAt w sv [n]:=⟨[nv],h1,rfl,fun i h h'=>by
 have h0:i=0:=by simp at h;omega
 subst h0
 exact h2⟩
section
variable {α : Type} {cf : α → α → Int} {jn : α → α → α}
end
section
variable {H : Type} {enc : TypeId × Value → H} {P : Program} {w : World} {base : Nat} {sp : Nat → Bool} {held : Bool}
def RdC(enc:TypeId×Value→H)(P:Program)(w:World)(base:Nat)(sp:Nat→Bool)(held:Bool)(t:TypeId)(cs:List Value):Prop:=∃n x,DataW.trod enc P w base sp held n t cs=some x∧∀k∈x.1.weights P t,k≤reachBytes
theorem RdC.one{t:TypeId}{v:Value}(h:RdC enc P w base sp held t [v]):Rd enc P w base sp held t v:=h
theorem Rd.c{t:TypeId}{v:Value}(h:Rd enc P w base sp held t v):RdC enc P w base sp held t [v]:=h
theorem zgQ{a:Addr}:∀(k i:Nat) {l:List Value},l.length=k→(∀j (h:j<l.length),w.cell? (a.add (i+j))=some l[j])→zaG w a i k=some l
 |0,_,l,hl,_=>by
  have:l=[]:=List.length_eq_zero_iff.1 hl
  subst this;rfl
 |k+1,i,l,hl,h=>by
  cases l with
  |nil=>cases hl
  |cons v l=>
   have h0:=h 0 (by simp)
   have ih:=zgQ (l:=l) k (i+1) (by simpa using hl) (fun j hj=>by
    have:=h (j+1) (by simpa using hj)
    rw[show i+(j+1)=i+1+j from by omega]at this
    simpa using this)
   unfold zaG
   rw[Nat.add_zero]at h0
   rw[h0,ih];rfl
theorem zjM{t e:TypeId}{k:Nat}{v:Value}(h:Rd enc P w base sp held t v)(ht:P.underlying t=some (.slice e))(hc:P.cellsOf e=k):
  ∃L,RowK k w v L∧(∀cs∈L,RdC enc P w base sp held e cs)∧L.length*P.bytesOf e≤reachBytes:=by
 obtain⟨n,x,h,hw⟩:=h
 rcases Go.Deep.open_slice ht h with ⟨h1,_⟩| ⟨a,len,cap,m,q,D,Pl,h1,_,hl,hm,hmm,rfl,hx⟩
 ·simp only[List.cons.injEq,and_true]at h1
  subst h1
  exact⟨[],⟨Option.none,0,rfl,Nat.le_refl _,fun j h=>by simp at h⟩,fun u h=>(by cases h),by simp⟩
 ·simp only[List.cons.injEq,and_true]at h1
  subst h1
  have hml:len≤m:=by rw[hmm];split<;>omega
  simp only[DataW.weights,ht]at hw
  rw[hc]at hx
  obtain⟨V,hV⟩:=Go.Deep.choose_lt (α:=List Value) (p:=fun i cs=>w.cells? base (a.add (i*k)) k=some cs∧DataW.trod enc P w base sp held q e cs=some (D i,Pl i)) hx
  refine⟨(List.range len).map V,⟨some a,cap,by simp,by simpa using hl,fun j hj=>?_⟩,fun u hu=>?_,?_⟩
  ·simp at hj
   obtain⟨_,h2,h3⟩:=World.cells?_some (hV j (by omega)).1
   have e1:((List.range len).map V)[j]'(by simpa using hj)=V j:=by simp
   rw[e1]
   show zaG w (a.add (j*k)) 0 k=_
   refine zgQ k 0 h2 (fun i hi=>?_)
   rw[Nat.zero_add,h3 i (by omega)]
   exact List.getElem?_eq_getElem hi
  ·obtain⟨j,hj,rfl⟩:=List.mem_map.1 hu
   simp at hj
   refine⟨_,_,(hV j (by omega)).2,fun q hq=>hw q (List.mem_cons_of_mem _ (List.mem_append_left _ (zcj (d:=D j) ?_ hq)))⟩
   exact List.mem_map.2 ⟨j,by simpa using hj,rfl⟩
  ·have h1:=hw _ (List.mem_cons_self ..)
   have h2:((List.range len).map V).length*P.bytesOf e≤(((List.range len).map D).length+((List.range (m - len)).map fun j=>D (len+j)).length)*P.bytesOf e:=Nat.mul_le_mul (by simp) (Nat.le_refl _)
   omega
theorem zhW{e:TypeId}{fs:Array Field}{cs:List Value}(h:RdC enc P w base sp held e cs)(he:P.underlying e=some (.struct fs)):cs.length=P.cellsOf e∧∀(i:Nat) (f:Field),fs[i]? =some f→RdC enc P w base sp held f.type ((cs.drop f.offset).take (P.cellsOf f.type)):=by
 obtain⟨n,x,h,hw⟩:=h
 obtain⟨xs,m,_,rfl,hl,hxl,hf⟩:=DataW.trod_struct he h
 refine⟨hl,fun i f hfi=>?_⟩
 have hi:i<fs.size:=(Array.getElem?_eq_some_iff.1 hfi).1
 have h1:=hf i f hfi
 rw[List.getElem?_eq_getElem (by omega)]at h1
 refine⟨m,_,h1,fun k hk=>hw k ?_⟩
 simp only[DataW.weights,he]
 refine DataW.weights_mem_each (ts:=fs.toList.map (·.type)) (ds:=xs.map (·.1)) (j:=i) (t:=f.type) (d:=xs[i].1) ?_ ?_ k hk
 ·rw[List.getElem?_map]
  rw[show fs.toList[i]? =some f from by simpa using hfi];rfl
 ·rw[List.getElem?_map,List.getElem?_eq_getElem (by omega)];rfl
theorem zjN{t:TypeId}{k:IntKind}{cs:List Value}(h:RdC enc P w base sp held t cs)(ht:P.underlying t=some (.int k)):∃n,cs=[.int k n]∧(Lit.int k n).wf=true:=by
 obtain⟨n,x,h,_⟩:=h
 obtain⟨m,h1,_,h2⟩:=DataW.trod_int ht h
 exact⟨m,h1,h2⟩
end
def zlh(d:DatL):Prop:=(∀n∈d.nums,0≤n∧n≤4294967295)∧ -9223372036854775808≤d.ty∧d.ty≤9223372036854775807
def zlg(r:RecL):Prop:=zlh r.dat∧0≤r.ttl∧r.ttl≤4294967295
section
variable {H : Type} {enc : TypeId × Value → H} {P : Program} {w : World} {base : Nat} {sp : Nat → Bool} {held : Bool}
theorem zhV{t e:TypeId}{k:IntKind}{v:Value}(h:Rd enc P w base sp held t v)(ht:P.underlying t=some (.slice e))(hc:P.cellsOf e=1)(he:P.underlying e=some (.int k)):∃l:List Int,Row w v (l.map (.int k))∧∀n∈l,(Lit.int k n).wf=true:=by
 obtain⟨vals,hr,hall,_⟩:=zfz h ht hc
 obtain⟨m,rfl,hm⟩:=zhk (f:=fun n=>Value.int k n) (Q:=fun n=>(Lit.int k n).wf=true) (fun u hu=>by
  obtain⟨n,h1,h2⟩:=zjN (hall u hu).c he
  exact⟨n,by simpa using h1,h2⟩)
 exact⟨m,hr,hm⟩
theorem zjj{n:Int}(h:(Lit.int .u32 n).wf=true):0≤n∧n≤4294967295:=by
 simp[Lit.wf,IntKind.min,IntKind.max,IntKind.signed,IntKind.bits]at h
 omega
theorem wf_u86{n:Int}(h:(Lit.int .u8 n).wf=true):0≤n∧n≤255:=by
 simp[Lit.wf,IntKind.min,IntKind.max,IntKind.signed,IntKind.bits]at h
 omega
theorem zkX{l:List Int}(h:∀n∈l,(Lit.int .u8 n).wf=true):∃m:List UInt8,l.map (Value.int .u8)=m.map zao:=by
 induction l with
 |nil=>exact⟨[],rfl⟩
 |cons n l ih=>
  obtain⟨m,hm⟩:=ih (fun x hx=>h x (List.mem_cons_of_mem _ hx))
  have hb:=wf_u86 (h n (List.mem_cons_self ..))
  obtain⟨k,rfl⟩:∃k:Nat,n=(k:Int):=⟨n.toNat,by omega⟩
  exact⟨UInt8.ofNat k::m,by rw[List.map_cons,List.map_cons,hm,zby (by omega)]⟩
end
section
variable {H : Type} {enc : TypeId × Value → H} {w : World} {base : Nat} {sp : Nat → Bool} {held : Bool}
theorem wf_i64{n:Int}(h:(Lit.int .i64 n).wf=true): -9223372036854775808≤n∧n≤9223372036854775807:=by simpa [Lit.wf,IntKind.min,IntKind.max,IntKind.signed,IntKind.bits] using h
theorem rd_dataN{cs:List Value}(h:RdC enc Tryz.prog w base sp held 34 cs):∃d:DatL,DatAt w cs d∧zlh d:=by
 obtain⟨hl,hf⟩:=zhW h rfl
 have hl5:cs.length=5:=hl
 match cs,hl5 with
 | [c0,c1,c2,c3,c4],_=>
  obtain⟨ty,e0,et⟩:=zjN (hf 0 _ rfl) rfl
  obtain⟨names,n1,_⟩:=rd_names (P:=Tryz.prog) (ts:=24) (tb:=9) (RdC.one (hf 1 _ rfl)) rfl rfl rfl rfl rfl rfl
  obtain⟨nums,n2,n3⟩:=zhV (RdC.one (hf 2 _ rfl)) rfl rfl rfl
  obtain⟨texts,n4,_⟩:=zfA (P:=Tryz.prog) (RdC.one (hf 3 _ rfl)) (e:=9) rfl rfl rfl rfl
  obtain⟨raw,n5,n6⟩:=zhV (RdC.one (hf 4 _ rfl)) rfl rfl rfl
  obtain⟨rb,hrb⟩:=zkX n6
  rw[hrb]at n5
  have e0':c0=vi ty:=List.head_eq_of_cons_eq (show [c0]=[vi ty] from e0)
  exact⟨⟨ty,names,nums,texts,rb⟩,⟨c1,c2,c3,c4,by rw[e0'],n1,n2,n4,n5⟩,fun n hn=>zjj (n3 n hn),wf_i64 et⟩
theorem rd_recN{cs:List Value}(h:RdC enc Tryz.prog w base sp held 36 cs):∃r:RecL,RecAt w cs r∧zlg r:=by
 obtain⟨hl,hf⟩:=zhW h rfl
 have hl7:cs.length=7:=hl
 match cs,hl7 with
 | [c0,c1,c2,c3,c4,c5,c6],_=>
  obtain⟨owner,n0,_⟩:=zfA (P:=Tryz.prog) (RdC.one (hf 0 _ rfl)) (e:=9) rfl rfl rfl rfl
  obtain⟨ttl,e1,et⟩:=zjN (hf 1 _ rfl) rfl
  obtain⟨d,hd,hn⟩:=rd_dataN (hf 2 _ rfl)
  have e1':c1=v32 ttl:=List.head_eq_of_cons_eq (show [c1]=[v32 ttl] from e1)
  have hd':DatAt w [c2,c3,c4,c5,c6] d:=hd
  exact⟨⟨owner,ttl,d⟩,⟨c0,[c2,c3,c4,c5,c6],by rw[e1'],n0,hd'⟩,hn,zjj et⟩
theorem rd_recsN{v:Value}(h:Rd enc Tryz.prog w base sp held 22 v):∃R:List RecL,Rows 7 (RecAt w) w v R∧∀r∈R,zlg r:=by
 obtain⟨L,hL,hall,_⟩:=zjM h (e:=36) (k:=7) rfl rfl
 have:∀L:List (List Value),(∀cs∈L,RdC enc Tryz.prog w base sp held 36 cs)→∃R:List RecL,L.length=R.length∧(∀i (h:i<L.length) (h':i<R.length),RecAt w L[i] R[i])∧∀r∈R,zlg r:=fun L=>by
  induction L with
  |nil=>intro _;exact⟨[],rfl,fun i h=>by simp at h,fun r h=>by cases h⟩
  |cons cs L ih=>
   intro h
   obtain⟨r,h1,h2⟩:=rd_recN (h cs (List.mem_cons_self ..))
   obtain⟨R,a1,a2,a3⟩:=ih (fun x hx=>h x (List.mem_cons_of_mem _ hx))
   refine⟨r::R,by simp[a1],fun i a b=>?_,fun x hx=>?_⟩
   ·cases i with
    |zero=>exact h1
    |succ i=>exact a2 i (by simpa using a) (by simpa using b)
   ·rcases List.mem_cons.1 hx with rfl|hx
    ·exact h2
    ·exact a3 x hx
 obtain⟨R,a1,a2,a3⟩:=this L hall
 exact⟨R,⟨L,hL,a1,a2⟩,a3⟩
end
set_option maxRecDepth 10000
theorem DatAt.cells{w0:World}{cs:List Value}{d:DatL}(h:DatAt w0 cs d):∃nm,cs[0]? =some (vi d.ty)∧cs[1]? =some nm∧NamesAt w0 nm d.names:=by
 obtain⟨nm,nu,tx,rw',rfl,h1,_⟩:=h.ex
 exact⟨nm,rfl,rfl,h1⟩
theorem zbx{w:World}{p:Option Addr}{k j:Nat}{cs:List Value}{u:Value}(h:zar w p k=some cs)(hj:cs[j]? =some u):zad w (adr p j)=some u:=by
 obtain⟨hj1,hj2⟩:=List.getElem?_eq_some_iff.1 hj
 have:=za1 h hj1
 rw[hj2]at this;exact this
theorem zcT(w:World)(nv:Value)(n:Nm)(hn:Row w nv (n.map vs))(hl:∀l∈n,l.length≤1000000)(hnl:n.length≤1000):
  Fn Tryz.prog 29 #[nv] w (fun v w'=>v=vs (zaD n)∧Ext w w'):=by
 obtain⟨an,cn,rfl,hcn,hgn⟩:=hn
 simp only[List.length_map]at hcn hgn
 rw[List.length_map]
 refine enter Tryz.func29 Tryz.ntmps29 rfl rfl ?_
 repeat refine c_r ?_
 refine rg0 ?_
 repeat refine c_r ?_
 refine rg0 ?_
 repeat refine c_r ?_
 refine wc0 ?_ ?_
 ·intro h0
  simp only[decide_eq_true_eq]at h0
  have hn0:n=[]:=List.length_eq_zero_iff.1 (by omega)
  repeat (first|refine c_r ?_|refine rg0 ?_)
  refine rt0 Tryz.ntmps29 ?_
  exact⟨by unfold zaD;rw[if_pos hn0],Keep.refl _ _⟩
 intro h0
 simp only[decide_eq_false_iff_not]at h0
 have hn0:n≠ []:=fun h=>h0 (by rw[h];rfl)
 repeat refine c_r ?_
 refine rg0 ?_
 repeat refine c_r ?_
 refine rg0 ?_
 repeat refine c_r ?_
 refine zaZ (fun m σ ds A=>ds=[]∧∃(i:Nat),i+m=n.length∧σ 4=vi i∧σ 0= .slice an n.length cn∧σ 3=vs ((n.take i).flatMap fun l=>zat l++ [46])∧Ext w A) n.length ?_ ?_
 ·exact⟨rfl,0,by omega,vr0,vq0,vr0,Keep.refl _ _⟩
 rintro m σ ds A ⟨rfl,i,him,h4,h0',h3,hEA⟩
 repeat refine c_r ?_
 refine rg2 h4 h0' ?_
 repeat refine c_r ?_
 refine wc0 ?_ ?_
 ·intro hlt
  simp only[decide_eq_true_eq]at hlt
  have hi:i<n.length:=by omega
  have hi0:(0:Int)≤(i:Int):=by omega
  have hi1:(i:Int)<(n.length:Int):=by omega
  have hi1':(i:Int)+1=((i+1:Nat):Int):=by push_cast;rfl
  have hg:=zab hEA (hgn i (by simpa using hi))
  rw[List.getElem_map]at hg
  obtain⟨l,hle⟩:∃l,n[i]=l:=⟨_,rfl⟩
  rw[hle]at hg
  have hmem:l∈n:=hle▸List.getElem_mem hi
  obtain⟨xn,rfl⟩:=Option.isSome_iff_exists.1 (zaj hg)
  have hpl:((n.take i).flatMap fun l=>zat l++ [46]).length≤5000000000:=by
   have h1:=zdA (n.take i)
   have:∀(k:Nm),(∀l∈k,l.length≤1000000)→(k.map List.length).sum≤1000000*k.length:=fun k=>by
    induction k with
    |nil=>intro _;simp
    |cons x k ih=>
     intro h
     have h3:=ih (fun l hl=>h l (List.mem_cons_of_mem _ hl))
     have h4:=h x (List.mem_cons_self ..)
     rw[List.map_cons,List.sum_cons,List.length_cons];omega
   have h3:=this (n.take i) (fun l hl'=>hl l (List.mem_of_mem_take hl'))
   rw[List.length_take]at h1 h3;omega
  have htl:=zbS l
  have hll:=hl l hmem
  have a1:((n.take i).flatMap fun l=>zat l++ [46]).length+(zat l).length≤9223372036854775807:=by omega
  have a2:(((n.take i).flatMap fun l=>zat l++ [46])++zat l).length+([46]:List UInt8).length≤9223372036854775807:=by rw[List.length_append,List.length_singleton];omega
  repeat refine c_r ?_
  refine rq ?_;intro gd K hgd hK
  try simp (disch:=first|omega|assumption|rfl) only[go_sem,h0',h3,h4,hi0,hi1,hg]
  refine Fn.mono (zf5 A l (by omega)) ?_
  rintro _ A1 ⟨rfl,hE2⟩
  simp (disch:=first|assumption|omega) only[go_sem]
  refine hK _ _ ?_;clear hK hgd;clear K;try clear gd
  repeat refine c_r ?_
  refine rg2 h4 hi1' ?_
  repeat refine c_r ?_
  refine⟨m - 1,by omega,rfl,i+1,by omega,vq0,(vq1 h0'),?_,hEA.trans hE2⟩
  rw[zai hi,List.flatMap_append,hle]
  simp only[go_sem]
  simp
 ·intro hge
  simp only[decide_eq_false_iff_not]at hge
  rw[List.take_of_length_le (by omega)]at h3
  repeat refine c_r ?_
  refine rg1 h3 ?_
  repeat refine c_r ?_
  refine rt1 h3 Tryz.ntmps29 ?_
  exact⟨by unfold zaD;rw[if_neg hn0],hEA⟩
section
variable {P : Program} {d : Option Tmp} {ty : TypeId} {ps : String} {af : Array Edge} {g : Option (Nat × Bool)} {ρ : Operand → Value} {w : World} {K : Value → World → Prop}
end
theorem Rows.low{α:Type}{k D:Nat}{C:List Value→α→Prop}{w x:World}{v:Value}{xs:List α}{S:Nat→Prop}(h:Rows k C w v xs)(hlow:∀a n c,v= .slice (some a) n c→a.block<D)(hk:Keep S w x)(hS:∀b,b<D→¬S b)(hD:D≤w.heap.size):Rows k C x v xs:=
 h.blocks fun a n c hv=>hk.block _ (by have:=hlow a n c hv;omega) (hS _ (hlow a n c hv))
theorem Row.low{D:Nat}{w x:World}{v:Value}{l:List Value}{S:Nat→Prop}(h:Row w v l)(hlow:∀a n c,v= .slice (some a) n c→a.block<D)(hk:Keep S w x)(hS:∀b,b<D→¬S b)(hD:D≤w.heap.size):Row x v l:=
 h.blocks fun a n c hv=>hk.block _ (by have:=hlow a n c hv;omega) (hS _ (hlow a n c hv))
theorem zj5{y:Addr}{n:Nat}(h:y.block<n):offS (zcQ n) (some y):=fun a ha hb=>by
 cases ha
 unfold zcQ at hb
 exact absurd (show n≤y.block from hb) (by omega)
theorem Rows.mapM{α β:Type}{k:Nat}{C:List Value→α→Prop}{C':List Value→β→Prop}{w:World}{v:Value}{xs:List α}(h:Rows k C w v xs)(f:α→β)(hC:∀cs x,x∈xs→C cs x→C' cs (f x)):Rows k C' w v (xs.map f):=by
 obtain⟨L,h1,h2,h3⟩:=h
 refine⟨L,h1,by rw[List.length_map];exact h2,fun i h h'=>?_⟩
 rw[List.length_map]at h'
 rw[List.getElem_map]
 exact hC _ _ (List.getElem_mem h') (h3 i h h')
theorem zke(w:World):Row w (.slice Option.none 0 0) (([]:Nm).map vs):=⟨Option.none,0,rfl,Nat.le_refl _,fun j h=>absurd h (by simp)⟩
def ziP(n:Nm):Bool:=few n && decide (zaS n=0)
theorem zdP{n:Nm}(h:zaS n=0):∀l∈n,l≠ []∧l.length≤63:=by
 intro l hl
 unfold zaS at h
 cases hf:n.find? (fun l=>decide (errL l≠0)) with
 |some x=>
  rw[hf]at h
  have:=List.find?_some hf
  simp only[decide_eq_true_eq]at this
  exact absurd h this
 |none=>
  have:=List.find?_eq_none.1 hf l hl
  simp only[decide_eq_true_eq,Decidable.not_not]at this
  unfold errL at this
  split at this
  ·cases this
  ·rename_i h0
   refine⟨h0,?_⟩
   split at this
   ·cases this
   ·omega
theorem sum_ge:∀n:Nm,n.length≤(n.map fun l=>1+l.length).sum
 | []=>Nat.zero_le _
 |a::n=>by
  have ih:=sum_ge n
  rw[List.map_cons,List.sum_cons]
  have e:(a::n).length=n.length+1:=rfl
  omega
theorem ziZ{n:Nm}(h:zaS n=0):n.length≤255:=by
 have hl:=zdP h
 unfold zaS at h
 split at h
 ·rename_i x hf
  have:=List.find?_some hf
  simp only[decide_eq_true_eq]at this
  exact absurd h this
 ·split at h
  ·cases h
  ·rename_i h2
   unfold lenN at h2
   have:=sum_ge n
   omega
theorem NGood_ok(w:World)(a:Value)(xs:Nm)(ha:Row w a (xs.map vs)):
  Fn Tryz.prog 10 #[a] w (fun v w'=>v= .bool (ziP xs)∧Ext w w'):=by
 refine enter Tryz.func10 Tryz.ntmps10 rfl rfl ?_
 repeat refine c_r ?_
 refine rg0 ?_
 repeat refine c_r ?_
 cases hf:few xs with
 |true=>
  refine rq ?_;intro gd K hgd hK
  have hg2:∀n σ b,zax gd n σ (some (2,b))=zap (ev n σ (.tmp 5)) b:=(fun n σ b=>by rw[zag,show gd 2=some 5 from(by rw[hgd];rfl)];rfl)
  try simp only[go_sem]
  refine Fn.mono (zg4 w a xs ha) ?_
  rintro _ w1 ⟨rfl,hE1⟩
  rw[hf]
  try simp (disch:=first|omega|assumption|rfl) only[go_sem,↓hg2]
  refine Fn.mono (zcv w1 a xs (ha.ext hE1) (fun l hl=>by
   have:=few_lb hf l hl
   simp only[few,Bool.and_eq_true,List.all_eq_true,decide_eq_true_eq]at hf
   have:=hf.2 l hl
   omega) (by have:=few_len hf;omega)) ?_
  rintro _ w2 ⟨rfl,hE2⟩
  try simp (disch:=first|omega|assumption|rfl) only[go_sem,↓hg2]
  refine hK _ _ ?_;clear hK hgd;clear K;try clear gd
  repeat refine c_r ?_
  refine rt0 Tryz.ntmps10 ?_
  refine⟨?_,hE1.trans hE2⟩
  unfold ziP
  rw[hf,Bool.true_and]
 |false=>
  refine rq ?_;intro gd K hgd hK
  have hg2:∀n σ b,zax gd n σ (some (2,b))=zap (ev n σ (.tmp 5)) b:=(fun n σ b=>by rw[zag,show gd 2=some 5 from(by rw[hgd];rfl)];rfl)
  try simp only[go_sem]
  refine Fn.mono (zg4 w a xs ha) ?_
  rintro _ w1 ⟨rfl,hE1⟩
  rw[hf]
  try simp (disch:=first|omega|assumption|rfl) only[go_sem,↓hg2]
  refine hK _ _ ?_;clear hK hgd;clear K;try clear gd
  repeat refine c_r ?_
  refine rt0 Tryz.ntmps10 ?_
  refine⟨?_,hE1⟩
  unfold ziP
  rw[hf,Bool.false_and]
theorem zb5(b:Bool):zap undef b=false:=nr rfl
structure DatF(d:DatL):Prop where
 names:∀n∈d.names,(∀l∈n,l.length≤1000000000)∧n.length≤1000000000
 nn:d.names.length≤1000000000
 nu:d.nums.length≤1000000000
 nt:d.texts.length≤1000000000
 tl:∀l∈d.texts,l.length≤1000000000
 nr:d.raw.length≤1000000000
 n8:d.names.length≤8
 f4:d.nums.length≤12∧d.texts.length≤40∧(∀l∈d.texts,l.length≤300)∧d.raw.length≤1100∧∀n∈d.names,few n=true
structure DatX(w0:World)(B:Nat)(A:World)(nm:Value)(cs:List Value)(d:DatL):Prop where
 ex:∃nu tx rw vals,cs=[vi d.ty,nm,nu,tx,rw]∧Row A nm vals∧vals.length=d.names.length∧(∀i (h:i<vals.length) (h':i<d.names.length),Row w0 vals[i] (d.names[i].map vs))∧Row w0 nu (d.nums.map v32)∧Row w0 tx (d.texts.map vs)∧Row w0 rw (d.raw.map zao)
 blk:BlkB B A nm
theorem DatX.at{w0 A:World}{B:Nat}{nm:Value}{cs:List Value}{d:DatL}(h:DatX w0 B A nm cs d)(hE:Ext w0 A):DatAt A cs d:=by
 obtain⟨nu,tx,rw,vals,e,h1,h2,h3,h4,h5,h6⟩:=h.ex
 exact⟨nm,nu,tx,rw,e,⟨vals,h1,h2,fun i a b=>(h3 i a b).ext hE⟩,h4.ext hE,h5.ext hE,h6.ext hE⟩
theorem DatX.keep{w0 A x:World}{B:Nat}{nm:Value}{cs:List Value}{d:DatL}(h:DatX w0 B A nm cs d){S:Nat→Prop}(hk:Keep S A x)(hS:∀a n c,nm= .slice (some a) n c→¬S a.block):DatX w0 B x nm cs d:=by
 obtain⟨nu,tx,rw,vals,e,h1,h2,h3,h4,h5,h6⟩:=h.ex
 exact⟨⟨nu,tx,rw,vals,e,h1.blocks fun a n c hv=>hk.block _ (h.blk a n c hv).2 (hS a n c hv),h2,h3,h4,h5,h6⟩,h.blk.ext hk.size⟩
theorem DatX.mono{w0 A:World}{B B':Nat}{nm:Value}{cs:List Value}{d:DatL}(h:DatX w0 B A nm cs d)(hB:B'≤B):DatX w0 B' A nm cs d:=⟨h.ex,h.blk.mono hB⟩
theorem DOf_ok{w0 w:World}(hE0:Ext w0 w){cs:List Value}{d:DatL}(hd:DatAt w0 cs d)(hnn:d.names.length≤1000000000):
  Fn Tryz.prog 32 #[.agg cs.toArray] w (fun v w'=>Ext w w'∧∃cs' nm,v= .agg cs'.toArray∧DatX w0 w.heap.size w' nm cs' d):=by
 obtain⟨nm,nu,tx,rw',rfl,⟨vals,⟨an,cn,rfl,hcn,hgn⟩,hvl,hvr⟩,hnu,htx,hrw⟩:=hd.ex
 obtain⟨au,cu,rfl,_⟩:=id hnu
 obtain⟨at1,ct,rfl,_⟩:=id htx
 obtain⟨ar,cr,rfl,_⟩:=id hrw
 refine enter Tryz.func32 Tryz.ntmps32 rfl rfl ?_
 repeat refine c_r ?_
 refine rg0 ?_
 repeat refine c_r ?_
 rw[zaB]
 refine zdd ?_
 intro w1 hE1 hs1 hA hC
 have p0:zad w1 (some ⟨w.heap.size,0,Option.none⟩)=some (vi d.ty):=zaa hA rfl
 have p1:zad w1 (some ⟨w.heap.size,1,Option.none⟩)=some (.slice an vals.length cn):=zaa hA rfl
 have p2:zad w1 (some ⟨w.heap.size,2,Option.none⟩)=some (.slice au (d.nums.map v32).length cu):=zaa hA rfl
 have p3:zad w1 (some ⟨w.heap.size,3,Option.none⟩)=some (.slice at1 (d.texts.map vs).length ct):=zaa hA rfl
 have p4:zad w1 (some ⟨w.heap.size,4,Option.none⟩)=some (.slice ar (d.raw.map zao).length cr):=zaa hA rfl
 refine rq ?_;intro gd K hgd hK
 try simp (disch:=first|omega|assumption|rfl) only[go_sem,p0,p2,p3,p4,Nat.add_zero,Nat.zero_add]
 refine⟨by kernel_rfl,?_⟩
 rw[show bdV Tryz.prog 40 [(0,vi d.ty),(2,.slice au (d.nums.map v32).length cu),(3,.slice at1 (d.texts.map vs).length ct),(4,.slice ar (d.raw.map zao).length cr)]=some (.agg #[vi d.ty,.slice Option.none 0 0,.slice au (d.nums.map v32).length cu,.slice at1 (d.texts.map vs).length ct,.slice ar (d.raw.map zao).length cr]) from by kernel_rfl]
 try simp only[go_sem]
 have hB3:=zaC w1 (.cells #[vi 0,.slice Option.none 0 0,.slice Option.none 0 0,.slice Option.none 0 0,.slice Option.none 0 0] 40 (0,0))
 have hE4:=Ext.alloc w1 (.cells #[vi 0,.slice Option.none 0 0,.slice Option.none 0 0,.slice Option.none 0 0,.slice Option.none 0 0] 40 (0,0))
 have hs4:=zaB w1 (.cells #[vi 0,.slice Option.none 0 0,.slice Option.none 0 0,.slice Option.none 0 0,.slice Option.none 0 0] 40 (0,0))
 revert hB3 hE4 hs4
 generalize w1.alloc (.cells #[vi 0,.slice Option.none 0 0,.slice Option.none 0 0,.slice Option.none 0 0,.slice Option.none 0 0] 40 (0,0))=w2
 intro hB3 hE4 hs4
 refine zaJ (P:=Tryz.prog) (t:=40) (l:=[vi d.ty,.slice Option.none 0 0,.slice au (d.nums.map v32).length cu,.slice at1 (d.texts.map vs).length ct,.slice ar (d.raw.map zao).length cr]) hB3 rfl (fun v h=>by simp at h;rcases h with rfl|rfl|rfl|rfl|rfl<;>rfl) rfl rfl ?_
 intro w3 hs5 hB5 hk5
 try simp only[go_sem]
 refine hK _ _ ?_;clear hK hgd;clear K;try clear gd
 have hE13:Ext w1 w3:=Keep.to_ext hE4 rfl (fun b hb=>by omega) hk5
 obtain⟨b3,hb3⟩:∃b3,w1.heap.size=b3:=⟨_,rfl⟩
 rw[hb3]at hB5
 have hs3:w3.heap.size=b3+1:=by omega
 repeat refine c_r ?_
 refine rg0 ?_
 repeat refine c_r ?_
 rw[hb3]
 refine zaZ (fun m σ ds A=>ds=[]∧∃(i:Nat) (nv:Value),i+m=vals.length∧σ 4=vi i∧σ 1= .pointer (some ⟨w.heap.size,0,Option.none⟩)∧σ 2= .pointer (some ⟨w.heap.size+1,0,Option.none⟩)∧σ 3= .pointer (some ⟨b3,0,Option.none⟩)∧A.heap[b3]? =some (.cells [vi d.ty,nv,.slice au (d.nums.map v32).length cu,.slice at1 (d.texts.map vs).length ct,.slice ar (d.raw.map zao).length cr].toArray 40 (0,0))∧Own w3.heap.size A 23 nv (vals.take i)∧Ext w1 A∧w3.heap.size≤A.heap.size) vals.length ?_ ?_
 ·exact⟨rfl,0,.slice Option.none 0 0,by omega,vr0,vq0,vq0,vq0,hB5,Own.nil _ _ _,hE13,Nat.le_refl _⟩
 rintro m σ ds A ⟨rfl,i,nv,him,h4,h1,h2,h3,hb,hown,hEA,hsA⟩
 have q1:=zab hEA p1
 have s1:=hE1.size
 repeat refine c_r ?_
 refine rg4 h4 h1 q1 Nat.zero_add ?_
 repeat refine c_r ?_
 refine wc0 ?_ ?_
 ·intro hlt
  simp only[decide_eq_true_eq]at hlt
  have hi:i<vals.length:=by omega
  have hi0:(0:Int)≤(i:Int):=by omega
  have hi1:(i:Int)<(vals.length:Int):=by omega
  have hi1':(i:Int)+1=((i+1:Nat):Int):=by push_cast;rfl
  have hgi:=hgn i hi
  obtain⟨xN,rfl⟩:=Option.isSome_iff_exists.1 (zaj hgi)
  obtain⟨xi,hxi⟩:∃xi,adr (some xN) i=some xi:=⟨_,rfl⟩
  rw[hxi]at hgi
  have hgA:=zab (hE0.trans (hE1.trans hEA)) hgi
  have hxb:xi.block<w3.heap.size:=by
   have:=zds (show w0.cell? xi=some _ from hgi)
   have:=(hE0.trans (hE1.trans hE13)).size
   omega
  have hrow:=hvr i hi (by omega)
  obtain⟨hv,hhv⟩:∃hv,vals[i]=hv:=⟨_,rfl⟩
  rw[hhv]at hgA hrow
  obtain⟨ha,hc,hve,_⟩:=id hrow
  have hone:one hv=true:=by rw[hve];rfl
  have htk:vals.take (i+1)=vals.take i++ [hv]:=by rw[zai hi,hhv]
  have hnv:zad A (some ⟨b3,1,Option.none⟩)=some nv:=za8 hb rfl
  have hvals:(vals.take i).length≤1000000000:=by rw[List.length_take];omega
  repeat refine c_r ?_
  refine zaR (fun i=>i==10) [(0,true),(1,true),(2,true),(3,true),(4,true),(5,true),(6,true),(7,false),(8,false),(9,true),(10,false)] (zcQ w3.heap.size) mixed (by kernel_rfl) ?_;intro gd K x hgd hx hxe hK;have hx0:=zaQ hxe;clear hxe
  have hgx:=zab hx0 hgA
  have hnx:=zab hx0 hnv
  have q1x:=zab hx0 q1
  have hxs:=hx.size
  simp (disch:=first|omega|assumption|rfl) only[go_sem,h4,h1,h3,q1x,hgx,hnx,hi0,hi1,hxi,Nat.zero_add,Nat.mul_one]
  refine⟨zbj (by omega),zbj (by omega),zj5 hxb,?_⟩
  refine za5 (z:= .slice Option.none 0 0) (v:=hv) (by rfl) (by rfl) (by rfl) (by rfl) (by rw[hve];rfl) ?_
  intro w5 hE5 hs5 ho5
  refine⟨.inr hE5.keep,?_⟩
  simp (disch:=first|omega|assumption|rfl) only[go_sem]
  have hx5:=hx0.trans hE5
  have hx5s:=hx5.size
  refine zaV (hown.ext hx5) ho5.row rfl rfl rfl rfl rfl rfl (vr0) (vr0) (fun q hq=>by rw[List.mem_singleton.1 hq];exact hone) (by rw[List.length_singleton];omega) (by decide) (by omega) ?_
  intro v7 w7 ho7 hE7 hk7 hb7
  refine⟨.inr (hk7.mono fun b _ hb=>by have:=(hown.ge hb).1;show _≤_;omega),?_⟩
  simp (disch:=first|omega|assumption|rfl) only[go_sem,h3]
  have hk7s:=hk7.size
  obtain⟨a7,c7,hv7⟩:=ho7.slice
  have hb3w:w7.heap[b3]? =some (.cells [vi d.ty,nv,.slice au (d.nums.map v32).length cu,.slice at1 (d.texts.map vs).length ct,.slice ar (d.raw.map zao).length cr].toArray 40 (0,0)):=(hk7.block b3 (by omega) (fun h=>by have:=(hown.ge h).1;omega)).trans (Ext.at hx5 hb)
  refine zcA (P:=Tryz.prog) (t:=38) (j:=1) (l:=[vi d.ty,nv,.slice au (d.nums.map v32).length cu,.slice at1 (d.texts.map vs).length ct,.slice ar (d.raw.map zao).length cr]) hb3w (by simp) (by rw[hv7];rfl) rfl rfl ?_
  intro z hz' hbz hkz
  refine⟨.inl rfl,?_⟩
  simp (disch:=first|omega|assumption|rfl) only[go_sem]
  refine hK _ _ ?_;clear hK hgd;clear K;try clear gd
  have hEz:Ext w1 z:=Keep.to_ext (hE7 w1 (hEA.trans hx5) (by omega)) rfl (fun b hb=>by omega) hkz
  repeat refine c_r ?_
  refine rg2 h4 hi1' ?_
  repeat refine c_r ?_
  exact⟨m - 1,by omega,rfl,i+1,v7,by omega,vq0,(vq1 h1),(vq1 h2),(vq1 h3),hbz,by rw[htk];exact ho7.keep hkz (fun b hb h=>by have:=(ho7.ge hb).1;omega),hEz,by omega⟩
 ·intro hge
  simp only[decide_eq_false_iff_not]at hge
  have hi:i=vals.length:=by omega
  rw[hi,List.take_length]at hown
  obtain⟨na,nc,hnv⟩:=hown.slice
  repeat refine c_r ?_
  refine rq ?_;intro gd K hgd hK
  have d5:=zal (n:=5) hb rfl
  try simp (disch:=first|omega|assumption|rfl) only[go_sem,h3,h2,d5]
  refine zaJ (P:=Tryz.prog) (t:=40) (l:=[vi d.ty,nv,.slice au (d.nums.map v32).length cu,.slice at1 (d.texts.map vs).length ct,.slice ar (d.raw.map zao).length cr]) (Ext.at hEA hC) rfl (fun v h=>by
   simp at h
   rcases h with rfl|rfl|rfl|rfl|rfl
   ·rfl
   ·rw[hnv];rfl
   ·rfl
   ·rfl
   ·rfl) rfl rfl ?_
  intro z hz' hbz hkz
  try simp only[go_sem]
  refine hK _ _ ?_;clear hK hgd;clear K;try clear gd
  repeat refine c_r ?_
  refine zaf (.inr rfl) Tryz.ntmps32 rfl (zaO (x:=⟨w.heap.size+1,0,Option.none⟩) (k:=5) ((vq1 h2)) rfl rfl (zal hbz rfl) zae) ?_
  have hEz:Ext w z:=Keep.to_ext (hE1.trans hEA) rfl (fun b hb=>by omega) hkz
  have hownz:=hown.keep hkz (fun b hb h=>by have:=(hown.ge hb).1;omega)
  refine⟨hEz,_,nv,rfl,⟨⟨_,_,_,vals,rfl,hownz.row,hvl,hvr,hnu,htx,hrw⟩,fun a n c hv=>?_⟩⟩
  have:=hownz.ge (b:=a.block) (by rw[hv];rfl)
  omega
theorem DatAt.open{w:World}{cs:List Value}{d:DatL}(h:DatAt w cs d):∃a1 n1 c1 a2 n2 c2 a3 n3 c3 a4 n4 c4,cs=[vi d.ty,.slice a1 n1 c1,.slice a2 n2 c2,.slice a3 n3 c3,.slice a4 n4 c4]:=by
 obtain⟨nm,nu,tx,rw',rfl,⟨vals,⟨an,cn,rfl,_⟩,_⟩,⟨au,cu,rfl,_⟩,⟨at1,ct,rfl,_⟩,⟨ar,cr,rfl,_⟩⟩:=h.ex
 exact⟨_,_,_,_,_,_,_,_,_,_,_,_,rfl⟩
theorem DatX.open{w0 A:World}{B:Nat}{nm:Value}{cs:List Value}{d:DatL}(h:DatX w0 B A nm cs d):∃a1 n1 c1 a2 n2 c2 a3 n3 c3 a4 n4 c4,cs=[vi d.ty,.slice a1 n1 c1,.slice a2 n2 c2,.slice a3 n3 c3,.slice a4 n4 c4]:=by
 obtain⟨nu,tx,rw,vals,e,⟨a1,c1,rfl,_⟩,h2,h3,⟨a4,c4,rfl,_⟩,⟨a5,c5,rfl,_⟩,⟨a6,c6,rfl,_⟩⟩:=h.ex
 exact⟨_,_,_,_,_,_,_,_,_,_,_,_,e⟩
structure RecX(w0:World)(B:Nat)(A:World)(nm:Value)(cs:List Value)(r:RecL):Prop where
 ex:∃ow ds,cs=ow::v32 r.ttl::ds∧Row w0 ow (r.owner.map vs)∧DatX w0 B A nm ds r.dat
theorem RecX.at{w0 A:World}{B:Nat}{nm:Value}{cs:List Value}{r:RecL}(h:RecX w0 B A nm cs r)(hE:Ext w0 A):RecAt A cs r:=by
 obtain⟨ow,ds,e,h1,h2⟩:=h.ex
 exact⟨ow,ds,e,h1.ext hE,h2.at hE⟩
theorem RecX.keep{w0 A x:World}{B:Nat}{nm:Value}{cs:List Value}{r:RecL}(h:RecX w0 B A nm cs r){S:Nat→Prop}(hk:Keep S A x)(hS:∀a n c,nm= .slice (some a) n c→¬S a.block):RecX w0 B x nm cs r:=by
 obtain⟨ow,ds,e,h1,h2⟩:=h.ex
 exact⟨ow,ds,e,h1,h2.keep hk hS⟩
theorem RecX.mono{w0 A:World}{B B':Nat}{nm:Value}{cs:List Value}{r:RecL}(h:RecX w0 B A nm cs r)(hB:B'≤B):RecX w0 B' A nm cs r:=by
 obtain⟨ow,ds,e,h1,h2⟩:=h.ex
 exact⟨ow,ds,e,h1,h2.mono hB⟩
theorem RecX.blk{w0 A:World}{B:Nat}{nm:Value}{cs:List Value}{r:RecL}(h:RecX w0 B A nm cs r):BlkB B A nm:=by
 obtain⟨ow,ds,e,h1,h2⟩:=h.ex
 exact h2.blk
theorem RecX.cells{w0 A:World}{B:Nat}{nm:Value}{cs:List Value}{r:RecL}(h:RecX w0 B A nm cs r):cs.length=7∧∀q∈cs,one q=true:=by
 obtain⟨ow,ds,e,⟨a,c,rfl,_⟩,h2⟩:=h.ex
 obtain⟨b1,m1,e1,b2,m2,e2,b3,m3,e3,b4,m4,e4,hds⟩:=h2.open
 rw[e,hds]
 refine⟨rfl,fun q hq=>?_⟩
 simp at hq
 rcases hq with rfl|rfl|rfl|rfl|rfl|rfl|rfl<;>rfl
theorem zhx{w0 w:World}(hE0:Ext w0 w){cs:List Value}{r:RecL}(hr:RecAt w0 cs r)(hnn:r.dat.names.length≤1000000000):
  Fn Tryz.prog 13 #[.agg cs.toArray] w (fun v w'=>Ext w w'∧∃cs' nm,v= .agg cs'.toArray∧RecX w0 w.heap.size w' nm cs' r):=by
 obtain⟨ow,ds,rfl,h1,h2⟩:=hr.ex
 obtain⟨oa,oc,how,_⟩:=id h1
 obtain⟨on,hon⟩:∃on,(r.owner.map vs).length=on:=⟨_,rfl⟩
 rw[hon]at how
 obtain⟨b1,m1,e1,b2,m2,e2,b3,m3,e3,b4,m4,e4,hds⟩:=h2.open
 rw[hds,how]
 refine enter Tryz.func13 Tryz.ntmps13 rfl rfl ?_
 repeat refine c_r ?_
 refine rg0 ?_
 repeat refine c_r ?_
 rw[zaB]
 refine zdd ?_
 intro w1 hE1 hs1 hA hC
 have p0:zad w1 (some ⟨w.heap.size,0,Option.none⟩)=some (.slice oa on oc):=zaa hA rfl
 have p1:zad w1 (some ⟨w.heap.size,1,Option.none⟩)=some (v32 r.ttl):=zaa hA rfl
 have p2:zar w1 (some ⟨w.heap.size,2,Option.none⟩) 5=some [vi r.dat.ty,.slice b1 m1 e1,.slice b2 m2 e2,.slice b3 m3 e3,.slice b4 m4 e4]:=by
  have h7:=zal (n:=7) (l:=[.slice oa on oc,v32 r.ttl,vi r.dat.ty,.slice b1 m1 e1,.slice b2 m2 e2,.slice b3 m3 e3,.slice b4 m4 e4]) hA rfl
  have:=zbf (m:=2) (k:=5) h7
  rwa [zaY]at this
 refine zaR (fun i=>i==8) [(0,true),(1,true),(2,true),(3,true),(4,true),(5,true),(6,false),(7,true),(8,false)] NoS mixed (by kernel_rfl) ?_;intro gd K x hgd hx hxe hK;clear hxe
 have p0x:=zab hx p0
 have p1x:=zab hx p1
 have p2x:=zah hx p2
 have hxs:=hx.size
 simp (disch:=first|omega|assumption|rfl) only[go_sem,p0x,p1x,p2x,Nat.add_zero,Nat.zero_add]
 rw[←hds]
 refine Fn.mono (DOf_ok (hE0.trans (hE1.trans hx)) h2 hnn) ?_
 rintro _ w2 ⟨hE2,cs',nm',rfl,hd'⟩
 refine⟨.inr hE2,?_⟩
 obtain⟨b1',m1',e1',b2',m2',e2',b3',m3',e3',b4',m4',e4',hds'⟩:=hd'.open
 rw[hds']
 simp (disch:=first|omega|assumption|rfl) only[go_sem,p0x,p1x,p2x,Nat.add_zero,Nat.zero_add]
 refine⟨by kernel_rfl,?_⟩
 rw[show bdV Tryz.prog 42 [(0,.slice oa on oc),(1,v32 r.ttl),(2,.agg [vi r.dat.ty,.slice b1' m1' e1',.slice b2' m2' e2',.slice b3' m3' e3',.slice b4' m4' e4'].toArray)]=some (.agg #[.slice oa on oc,v32 r.ttl,vi r.dat.ty,.slice b1' m1' e1',.slice b2' m2' e2',.slice b3' m3' e3',.slice b4' m4' e4']) from by kernel_rfl]
 simp (disch:=first|omega|assumption|rfl) only[go_sem]
 refine zaJ (P:=Tryz.prog) (t:=42) (l:=[.slice oa on oc,v32 r.ttl,vi r.dat.ty,.slice b1' m1' e1',.slice b2' m2' e2',.slice b3' m3' e3',.slice b4' m4' e4']) (Ext.at (hx.trans hE2) hC) rfl (fun v h=>by simp at h;rcases h with rfl|rfl|rfl|rfl|rfl|rfl|rfl<;>rfl) rfl rfl ?_
 intro z hz' hbz hkz
 refine⟨.inl rfl,?_⟩
 simp (disch:=first|omega|assumption|rfl) only[go_sem]
 refine hK _ _ ?_;clear hK hgd;clear K;try clear gd
 repeat refine c_r ?_
 refine zaf (.inr rfl) Tryz.ntmps13 rfl (zaO (x:=⟨w.heap.size+1,0,Option.none⟩) (k:=7) (vq0) rfl rfl (zal hbz rfl) zae) ?_
 have hEz:Ext w z:=Keep.to_ext (hE1.trans (hx.trans hE2)) rfl (fun b hb=>by omega) hkz
 refine⟨hEz,_,nm',rfl,⟨ow,cs',?_,h1,?_⟩⟩
 ·rw[how,hds']
 ·exact(hd'.keep hkz (fun a n c hv=>by have:=hd'.blk a n c hv;omega)).mono (by omega)
abbrev OX:=RecL×(Value×List Value)
def oxC(cs:List Value)(x:OX):Prop:=cs=x.2.2∧cs.length=7∧∀q∈cs,one q=true
theorem zh2:zgV 7 oxC:=⟨fun h=>h.2.1,fun h=>h.2.2⟩
structure OI(w0:World)(B:Nat)(A:World)(ov:Value)(G:List OX):Prop where
 own:Owns 7 oxC B A 42 ov G
 row:∀x∈G,RecX w0 B A x.2.1 x.2.2 x.1∧∀a n c,x.2.1= .slice (some a) n c→some a.block≠ov.ownBlock
theorem OI.ext{w0 A A':World}{B:Nat}{ov:Value}{G:List OX}(h:OI w0 B A ov G)(hE:Ext A A'):OI w0 B A' ov G:=
 ⟨h.own.ext hE,fun x hx=>by
  obtain⟨h1,h2⟩:=h.row x hx
  exact⟨h1.keep hE (fun a n c hv h=>h),h2⟩⟩
theorem OI.app{w0 A A':World}{B:Nat}{ov v':Value}{G:List OX}{s:OX}(h:OI w0 B A ov G)(hs:RecX w0 B A s.2.1 s.2.2 s.1∧∀a n c,s.2.1= .slice (some a) n c→some a.block≠ov.ownBlock)
  (ho:Owns 7 oxC B A' 42 v' (G++ [s])) (hk:Keep (fun b=>some b=ov.ownBlock) A A') (hb:∀b,some b=v'.ownBlock→some b=ov.ownBlock∨A.heap.size≤b):OI w0 B A' v' (G++ [s]):=by
 refine⟨ho,fun y hy=>?_⟩
 have hy2:RecX w0 B A y.2.1 y.2.2 y.1∧∀a n c,y.2.1= .slice (some a) n c→some a.block≠ov.ownBlock:=by
  rcases List.mem_append.1 hy with hy|hy
  ·exact h.row y hy
  ·rw[List.mem_singleton.1 hy];exact hs
 obtain⟨h1,h2⟩:=hy2
 refine⟨h1.keep hk h2,fun a n c hv e=>?_⟩
 rcases hb _ e with e|e
 ·exact h2 a n c hv e
 ·have:=(h1.blk a n c hv).2;omega
theorem zlf{w0 w:World}(hE0:Ext w0 w){lv:Value}{R:List RecL}(hl:Rows 7 (RecAt w0) w lv R)(hnn:∀r∈R,r.dat.names.length≤1000000000)(hlen:R.length≤1000000000):
  Fn Tryz.prog 16 #[lv] w (fun v w'=>Ext w w'∧∃G:List OX,OI w0 w.heap.size w' v G∧G.map Prod.fst=R):=by
 obtain⟨aR,cR,rfl,hcR,hgR⟩:=hl.open
 refine enter Tryz.func16 Tryz.ntmps16 rfl rfl ?_
 repeat refine c_r ?_
 refine rg0 ?_
 repeat refine c_r ?_
 refine rg0 ?_
 repeat refine c_r ?_
 refine rg0 ?_
 repeat refine c_r ?_
 refine zaZ (fun m σ ds A=>ds=[]∧∃(i:Nat) (ov:Value) (G:List OX),i+m=R.length∧σ 4=vi i∧σ 3=ov∧σ 0= .slice aR R.length cR∧Ext w A∧OI w0 w.heap.size A ov G∧G.map Prod.fst=R.take i) R.length ?_ ?_
 ·exact⟨rfl,0,.slice Option.none 0 0,[],by omega,vr0,vq0,vq0,Keep.refl _ _,⟨Owns.nil _ _ _ _ _,fun x h=>absurd h (by simp)⟩,rfl⟩
 rintro m σ ds A ⟨rfl,i,ov,G,him,h4,h3,h0,hEA,hOI,hG⟩
 repeat refine c_r ?_
 refine rg2 h4 h0 ?_
 repeat refine c_r ?_
 refine wc0 ?_ ?_
 ·intro hlt
  simp only[decide_eq_true_eq]at hlt
  have hi:i<R.length:=by omega
  have hi0:(0:Int)≤(i:Int):=by omega
  have hi1:(i:Int)<(R.length:Int):=by omega
  have hi1':(i:Int)+1=((i+1:Nat):Int):=by push_cast;rfl
  have hGl:G.length=i:=by
   have:=congrArg List.length hG
   simp at this;omega
  obtain⟨cr,hcr,hRr⟩:=hgR i hi
  obtain⟨r,hr⟩:∃r,R[i]=r:=⟨_,rfl⟩
  rw[hr]at hRr
  have hrn:=hnn r (hr▸List.getElem_mem hi)
  obtain⟨xR,rfl⟩:=Option.isSome_iff_exists.1 (zaA hcr)
  obtain⟨xi,hxi⟩:∃xi,adr (some xR) (i*7)=some xi:=⟨_,rfl⟩
  rw[hxi]at hcr
  have hcA:=zah hEA hcr
  repeat refine c_r ?_
  refine rq ?_;intro gd K hgd hK
  try simp (disch:=first|omega|assumption|rfl) only[go_sem,h3,h0,h4,hi0,hi1,hxi,hcA]
  refine Fn.mono (zhx (hE0.trans hEA) hRr hrn) ?_
  rintro _ A2 ⟨hA2,cs',nm',rfl,hx⟩
  have hA2s:=hA2.size
  have hEAs:=hEA.size
  try simp only[go_sem]
  refine zd4 (l:=cs') (a:=((r,(nm',cs')):OX)) zh2 rfl rfl rfl rfl ⟨rfl,hx.cells.1,hx.cells.2⟩ (by decide) ?_
  intro A3 hA3 hs3 ho3
  try simp (disch:=first|omega|assumption|rfl) only[go_sem,h3]
  refine zdX zh2 ((hOI.ext hA2).ext hA3).own ho3.rows rfl rfl rfl rfl rfl rfl (by decide) (vr0) (vr0) (by simp;omega) (by decide) (by omega) ?_
  intro v7 A4 ho7 hE7 hk7 hb7
  try simp only[go_sem]
  refine hK _ _ ?_;clear hK hgd;clear K;try clear gd
  have hnew:=((hOI.ext hA2).ext hA3).app (s:=((r,(nm',cs')):OX)) ⟨(hx.keep hA3 (fun a n c hv h=>h)).mono hEAs,fun a n c hv e=>by
   have h8:=(hx.blk a n c hv).1
   have h9:=(hOI.own.ge e).2
   omega⟩ ho7 hk7 hb7
  repeat refine c_r ?_
  refine rg2 h4 hi1' ?_
  repeat refine c_r ?_
  exact⟨m - 1,by omega,rfl,i+1,v7,_,by omega,vq0,vq0,(vq1 h0),hE7 w ((hEA.trans hA2).trans hA3) (Nat.le_refl _),hnew,by rw[List.map_append,hG,zai hi,hr];rfl⟩
 ·intro hge
  simp only[decide_eq_false_iff_not]at hge
  have hi:i=R.length:=by omega
  rw[hi,List.take_length]at hG
  repeat refine c_r ?_
  refine rg1 h3 ?_
  repeat refine c_r ?_
  refine rt0 Tryz.ntmps16 ?_
  exact⟨hEA,G,hOI,hG⟩
theorem OI.rows{w0 A:World}{B:Nat}{ov:Value}{G:List OX}(h:OI w0 B A ov G)(hE:Ext w0 A):Rows 7 (RecAt A) A ov (G.map Prod.fst):=
 h.own.rows.mapM (C':=RecAt A) Prod.fst fun cs x hx hc=>by
  rw[hc.1]
  exact(h.row x hx).1.at hE
theorem zit{w0 w:World}(hE0:Ext w0 w){lv:Value}{R:List RecL}(hl:Rows 7 (RecAt w0) w lv R)(hnn:∀r∈R,r.dat.names.length≤1000000000)(hlen:R.length≤1000000000):
  Fn Tryz.prog 16 #[lv] w (fun v w'=>Ext w w'∧Rows 7 (RecAt w') w' v R):=by
 refine Fn.mono (zlf hE0 hl hnn hlen) ?_
 rintro v w' ⟨hE,G,hOI,rfl⟩
 exact⟨hE,hOI.rows (hE0.trans hE)⟩
end Go.Proofs.YtihbdhjibplldaaGreatDoor
