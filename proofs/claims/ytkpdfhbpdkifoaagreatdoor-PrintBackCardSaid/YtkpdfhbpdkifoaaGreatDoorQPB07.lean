/-
  Texts of a proof, joined: JJ, JK, JL, JM, JN, JO, JP, JQ, HQ, KM, KMR, HR, HS, HT, HU, HW, HV, KR, KR5.
  Conditions: none.
-/
import Derived.Test.YtkpdfhbpdkifoaaGreatDoorQPB06
import Derived.Test.YtkpdfhbpdkifoaaGreatDoorQPB04
import Derived.MapFrom
import Derived.Test.YtkpdfhbpdkifoaaGreatDoorQPB01
import Derived.Maps.RangeRun
import Derived.Maps.Range
import Derived.Test.YtkpdfhbpdkifoaaGreatDoorQPB03
import Derived.Test.YtkpdfhbpdkifoaaGreatDoorQPB02
set_option linter.unusedVariables false
set_option linter.unusedSimpArgs false
set_option linter.defProp false
set_option linter.unnecessarySimpa false
set_option maxHeartbeats 8000000
namespace Go.Proofs.YtkpdfhbpdkifoaaGreatDoor
open Go
set_option maxRecDepth 10000
theorem Keep.own{S T:Nat→Prop}{a b c:World}(h:Keep S a b)(k:Keep T b c)(hT:∀i,i<a.heap.size→T i→S i):Keep S a c:=
 ((h.mono fun _ _ h=>Or.inl h).trans (k.mono fun _ _ h=>Or.inr h):Keep (fun i=>S i∨T i) a c).mono fun i hi h=>h.elim id (hT i hi)
def octP(p:Lab):Value:=zao (UInt8.ofNat (decP 255 p).1)
def zkW(e:Int)(ps:List Lab):Int:=ps.foldl (fun e p=>zbL e (decP 255 p).2) e
theorem zla{W0 w:World}{b:Nat}{t:Lab}{q:Bool}{ws:List (Lab×Bool)}{ov:Value}{e:Int}{ps:List Lab}(hW:WX W0)(h:Rdr W0 w b ((t,q)::ws) ov e)(hl:ws.length≤1000000)(ht:t.length≤1000000)(hsp:SplP t ps)(hpl:ps.length≤1000000)(hpx:∀p∈ps,p.length≤1000000):
  Fn Tryz.prog 223 #[.pointer (some ⟨b,0,Option.none⟩)] w (fun v w'=>Own w.heap.size w' 5 v (ps.map octP)∧Rdr W0 w' b ws ov (zkW (if ps.length=4 then(if q=true then zbL e 2 else e) else zbL (if q=true then zbL e 2 else e) 2) ps)∧Keep (fun i=>i=b) w w'):=by
 have hbl:=h.lt
 obtain⟨e1,he1⟩:∃e1,(if q=true then zbL e 2 else e)=e1:=⟨_,rfl⟩
 refine enter Tryz.func223 Tryz.ntmps223 rfl rfl ?_
 refine go trivial ?_
 refine rc trivial (zdS h hl) ?_
 rw[he1]
 rintro _ w1 ⟨rfl,hR1,hk1⟩
 refine rd trivial (znh (n:=ps.length) (hW.ext hR1.ext) (by omega) hsp rfl) ?_
 rintro _ w2 ⟨rfl,hB2,hE2⟩
 have hs1:=hk1.size
 have hs2:=hE2.size
 have hP:w1.heap.size<w2.heap.size:=(Array.getElem?_eq_some_iff.1 hB2).1
 obtain⟨P,hPe⟩:∃P,w1.heap.size=P:=⟨_,rfl⟩
 rw[hPe]at hB2 hP ⊢
 have hk2:Keep (fun i=>i=b) w w2:=hk1.trans (hE2.mono fun _ _ h=>h.elim)
 obtain⟨n,hn⟩:∃n,ps.length=n:=⟨_,rfl⟩
 rw[hn]at hpl ⊢
 obtain⟨tt,htt⟩:∃tt,decide ((n:Int)=4)=tt:=⟨_,rfl⟩
 obtain⟨e2,he2⟩:∃e2,(if n=4 then e1 else zbL e1 2)=e2:=⟨_,rfl⟩
 rw[he2]
 refine rgo htt ?_
 refine zas (Q:=fun e' σ' ds' v'=>e'= .normal∧ds'=[]∧(σ' 0= .pointer (some ⟨b,0,Option.none⟩)∧σ' 3= .slice (some ⟨P,0,Option.none⟩) n n)∧Rdr W0 v' b ws ov e2∧Keep (fun i=>i=b) w2 v') ?_ ?_
 ·cases tt with
  |true=>
   rw[if_pos (by have:=of_decide_eq_true htt;omega)]at he2
   refine go trivial ?_
   exact⟨rfl,rfl,⟨vr0,vr0⟩,by rw[←he2];exact hR1.extx hE2,Keep.refl _ _⟩
  |false=>
   rw[if_neg (by have:=of_decide_eq_false htt;omega)]at he2
   refine go trivial ?_
   refine rc trivial (zdn (hR1.extx hE2) 2) ?_
   rw[he2]
   rintro _ w3 ⟨hR3,hk3⟩
   refine rgo trivial ?_
   exact⟨rfl,rfl,⟨vr0,vr0⟩,hR3,hk3⟩
 rintro _ σ0 _ w3 ⟨rfl,rfl,⟨s0,s3⟩,hR3,hk3⟩
 refine go (an2 s0 s3) ?_
 refine zbq n (fun i σ v=>(σ 0= .pointer (some ⟨b,0,Option.none⟩)∧σ 17= .slice (some ⟨P,0,Option.none⟩) n n∧σ 18=vi n∧σ 19=vi i)∧Rdr W0 v b ws ov (zkW e2 (ps.take i))∧Keep (fun i=>i=b) w2 v∧∃sv,σ 4=sv∧Own w2.heap.size v 5 sv ((ps.take i).map octP)) ?_ ?_ ?_
 ·exact⟨⟨(vr1 s0),(vr1 s3),(vr1 s3),vr0⟩,hR3,hk3,_,vr0,Own.nil _ _ _⟩
 ·rintro i σ v hi r ⟨⟨s0,s17,s18,s19⟩,hR,hk,sv,s4,hown⟩
  obtain⟨p,hp⟩:∃p,ps[i]'(by omega)=p:=⟨_,rfl⟩
  have hpm:p∈ps:=hp▸List.getElem_mem _
  have hpl':=hpx p hpm
  have hsv:=hk.size
  have hBv:=(hk.block P hP (by omega)).trans hB2
  have g:zad v (some ⟨P,i,Option.none⟩)=some (vs p):=za2 (j:=i) hBv (by rw[List.getElem?_map,List.getElem?_eq_getElem (by omega),hp];rfl)
  have hi0:(0:Int)≤(i:Int):=by omega
  have hi1:(i:Int)<(n:Int):=by omega
  have hi2:(i:Int)+1=((i+1:Nat):Int):=by push_cast;rfl
  refine go (an9 s0 s17 s18 s19 s4 r g hi0 (an3 hi1 (Nat.mul_one i) (Nat.zero_add i))) ?_
  refine rc (an3 s0 s4 hi0) (zca (hW.ext hR.ext) p 255 (by omega) (by omega)) ?_
  rintro _ v1 ⟨rfl,hE1⟩
  refine rgo (an3 s0 s4 hi0) ?_
  refine rc (an3 s0 s4 hi0) (zdn (hR.extx hE1) (decP 255 p).2) ?_
  rintro _ v2 ⟨hR2,hk2'⟩
  have hdl:=zdo 255 p
  obtain⟨x,hx⟩:∃x,(decP 255 p).1=x:=⟨_,rfl⟩
  rw[hx]at hdl
  have hox:octP p= .int .u8 (x:Int):=by unfold octP;rw[hx,zct (by omega)]
  have hsE:=hE1.size
  have hsk:=hk2'.size
  refine rgo (an3 s0 s4 hx) ?_
  refine rq ?_;intro gd K hgd hK
  try simp (disch:=first|omega|assumption|rfl) only[go_sem,s4,hx]
  refine zbk (z:= .int .u8 0) rfl rfl rfl rfl rfl ?_
  intro y1 hy1 hys1 hyo
  try simp (disch:=first|omega|assumption|rfl) only[go_sem,s4]
  have hb2:b<w2.heap.size:=by omega
  refine za8 (e:=5) (((hown.ext hE1).keep hk2' fun j hj hs=>by have:=(hown.ge hj).1;omega).ext hy1) hyo.row rfl rfl rfl rfl rfl rfl ((vr1 s4)) (vr0) (fun q hq=>by rw[List.mem_singleton.1 hq];rfl) (by simp;omega) (by decide) (by omega) ?_
  intro sv' y2 hown2 hX2 hK2 hb2'
  try simp only[go_sem]
  refine hK _ _ ?_;clear hK hgd;clear K;try clear gd
  refine go (an5 s0 s17 s18 s19 hi2) ?_
  have hkx:Keep (fun i=>i=b) w2 y1:=((hk.trans (hE1.mono fun _ _ h=>h.elim)).trans hk2').trans (hy1.mono fun _ _ h=>h.elim)
  refine⟨rfl,⟨(vq1 s0),(vq1 s17),(vq1 s18),(vq1 hi2)⟩,?_,hkx.own hK2 fun j hj h=>by have:=(hown.ge h).1;omega,sv',vr0,?_⟩
  ·rw[zak (by omega),hp]
   unfold zkW at hR2 ⊢
   rw[List.foldl_append]
   exact(hR2.extx hy1).keep hK2 fun j hj=>by have:=(hown.ge hj).1;have:=h.low;omega
  ·rw[zak (by omega),hp,List.map_append,List.map_cons,List.map_nil,hox]
   exact hown2
 ·rintro σ v r ⟨⟨s0,s17,s18,s19⟩,hR,hk,sv,s4,hown⟩
  rw[←hn,List.take_length]at hR hown
  refine go (an6 s0 s17 s18 s19 s4 r) ?_
  refine zaf (.inr rfl) Tryz.ntmps223 rfl (zac ((vr1 s4)) zae) ?_
  exact⟨hown.mono (by omega),hR,hk2.trans hk⟩
def hexV(c:UInt8):Option Nat:=if 48≤c.toNat∧c.toNat≤57 then some (c.toNat - 48) else if 97≤c.toNat∧c.toNat≤102 then some (c.toNat - 87) else if 65≤c.toNat∧c.toNat≤70 then some (c.toNat - 55) else Option.none
theorem zhk{c:UInt8}{x:Nat}(h:hexV c=some x):x<16:=by
 unfold hexV at h
 split at h
 ·simp only[Option.some.injEq]at h;omega
 ·split at h
  ·simp only[Option.some.injEq]at h;omega
  ·split at h
   ·simp only[Option.some.injEq]at h;omega
   ·cases h
theorem or32:∀n:Nat,n<128→(97≤n∧n≤102∨65≤n∧n≤70)→IntKind.u8.wrap ((BitVec.ofInt IntKind.u8.bits (n:Int)|||BitVec.ofInt IntKind.u8.bits 32).toNat:Int)=if 97≤n then(n:Int) else(n:Int)+32:=by decide+kernel
theorem lower_ok(w:World)(c:UInt8)(h:(97≤c.toNat∧c.toNat≤102)∨(65≤c.toNat∧c.toNat≤70)):Fn Tryz.prog 239 #[zao c] w (fun v w'=>v= .int .u8 (if 97≤c.toNat then(c.toNat:Int) else(c.toNat:Int)+32)∧w=w'):=by
 have ho:=or32 c.toNat (by omega) h
 have hbv:zao c= .int .u8 (c.toNat:Int):=rfl
 have hor:binV Tryz.prog .or 5 (.int .u8 (c.toNat:Int)) (.int .u8 32)=some (.int .u8 (if 97≤c.toNat then(c.toNat:Int) else(c.toNat:Int)+32)):=by rw[←ho];rfl
 refine enter Tryz.func239 Tryz.ntmps239 rfl rfl ?_
 refine go (an2 hbv hor) ?_
 refine rt0 Tryz.ntmps239 ?_
 exact⟨rfl,rfl⟩
def zbg(l:Lab):Nat:=l.foldl (fun n c=>16*n+(hexV c).getD 0) 0
theorem zmE:∀(l:Lab) (n:Nat),n≤l.foldl (fun n c=>16*n+(hexV c).getD 0) n
 | [],n=>Nat.le_refl _
 |c::l,n=>by rw[List.foldl_cons];have:=zmE l (16*n+(hexV c).getD 0);omega
theorem zja{l:Lab}{i:Nat}(h:i<l.length):zbg (l.take (i+1))=16*zbg (l.take i)+(hexV l[i]).getD 0:=by
 unfold zbg
 rw[zak h,List.foldl_append]
 rfl
theorem zmC(l:Lab)(i:Nat):zbg (l.take i)≤zbg l:=by
 unfold zbg
 have h:=zmE (l.drop i) ((l.take i).foldl (fun n c=>16*n+(hexV c).getD 0) 0)
 rwa [←List.foldl_append,List.take_append_drop]at h
theorem PuHi_ok(w:World){l:Lab}{bt mx:Int}(hb:bt=8∧mx=255∨bt=16∧mx=65535)(h0:l≠ [])(hl2:l.length≤1000)(hv:∀c∈l,(hexV c).isSome=true)(hm:(zbg l:Int)≤mx):Fn Tryz.prog 215 #[vs l,vi 16,vi bt] w (fun v w'=>v= .tuple #[.int .u64 (zbg l:Nat),.nilIface]∧Ext w w'):=by
 have d1:decide (l=[])=false:=decide_eq_false h0
 refine enter Tryz.func215 Tryz.ntmps215 rfl rfl ?_
 have l1:decide ((2:Int)≤16)=true:=rfl
 have l2:decide ((16:Int)≤36)=true:=rfl
 have l3:decide (bt=0)=false:=decide_eq_false (by omega)
 have l4:decide (bt<0)=false:=decide_eq_false (by omega)
 have l5:decide ((64:Int)<bt)=false:=decide_eq_false (by omega)
 have l6:decide ((16:Int)=10)=false:=rfl
 have l7:decide ((16:Int)=16)=true:=rfl
 have l8:decide ((16:Int)=0)=false:=rfl
 have hmx:0≤mx∧mx≤65535:=by omega
 refine go (an2 d1 l8) ?_
 refine rgg [(2,28)] (an2 l1 l2) ?_
 refine go l3 ?_
 refine rgg [(2,80)] (an2 l4 l5) ?_
 have hsh:binV Tryz.prog .shl 71 (.int .u64 1) (.int .u64 bt)=some (.int .u64 (mx+1)):=by rcases hb with ⟨rfl,rfl⟩| ⟨rfl,rfl⟩<;>rfl
 have hwb:IntKind.u64.wrap bt=bt:=by rcases hb with ⟨rfl,rfl⟩| ⟨rfl,rfl⟩<;>rfl
 have hsb:mx+1 - 1=mx:=by omega
 have hwm:IntKind.u64.wrap mx=mx:=by rcases hb with ⟨rfl,rfl⟩| ⟨rfl,rfl⟩<;>rfl
 refine go (an6 l6 l7 hsh hsb hwb hwm) ?_
 refine rq ?_;intro gd K hgd hK
 try simp only[go_sem]
 refine zfr rfl rfl rfl (vr0) ?_
 intro cp cur w2 hlc hcs hct hE2 hs2 hb2
 try simp only[go_sem]
 refine hK _ _ ?_;clear hK hgd;clear K;try clear gd
 have hgx:∀i (h:i<l.length),zad w2 (some ⟨w.heap.size,i,Option.none⟩)=some (zao l[i]):=fun i hi=>by
  refine zaa hb2 ?_
  have:(cur.toList.take l.length)[i]? =some (zao l[i]):=by rw[hct,List.getElem?_map,List.getElem?_eq_getElem hi];rfl
  rw[List.getElem?_take,if_pos hi]at this
  simpa using this
 refine go trivial ?_
 refine zbq l.length (fun i σ v=>(σ 1=vi 16∧σ 8= .bool false∧σ 10= .int .u64 1152921504606846976∧σ 11= .int .u64 mx∧σ 12= .bool false∧σ 13= .int .u64 (zbg (l.take i):Nat)∧σ 99= .slice (some ⟨w.heap.size,0,Option.none⟩) l.length cp∧σ 100=vi l.length∧σ 101=vi i)∧v=w2) ?_ ?_ ?_
 ·exact⟨⟨vr0,vr0,vr0,vr0,vr0,vr0,vr0,vr0,vr0⟩,rfl⟩
 ·rintro i σ v hi r ⟨⟨s1,s8,s10,s11,s12,s13,s99,s100,s101⟩,rfl⟩
  obtain⟨k,d,n,hg,hkd,hn,hn15,hn1⟩:∃(k:UInt8) (d n:Nat),zad v (some ⟨w.heap.size,i,Option.none⟩)=some (zao k)∧hexV k=some d∧zbg (l.take i)=n∧((16*n+d:Nat):Int)≤mx∧zbg (l.take (i+1))=16*n+d:=by
   obtain⟨x,hx⟩:=Option.isSome_iff_exists.1 (hv l[i] (List.getElem_mem hi))
   have h1:=zja hi
   have h2:=zmC l (i+1)
   rw[hx,Option.getD_some]at h1
   exact⟨l[i],x,_,hgx i hi,hx,rfl,by omega,h1⟩
  have hd:=zhk hkd
  rw[hn]at s13
  have hbv:zao k= .int .u8 (k.toNat:Int):=rfl
  have hi0:(0:Int)≤(i:Int):=by omega
  have hi1:(i:Int)<(l.length:Int):=by omega
  have hi2:(i:Int)+1=((i+1:Nat):Int):=by push_cast;rfl
  have hk48:48≤k.toNat∧k.toNat≤102∧k.toNat≠95∧((k.toNat≤57∧d=k.toNat - 48)∨(97≤k.toNat∧d=k.toNat - 87)∨(65≤k.toNat∧k.toNat≤70∧d=k.toNat - 55)):=by
   unfold hexV at hkd
   split at hkd
   ·simp only[Option.some.injEq]at hkd;omega
   ·split at hkd
    ·simp only[Option.some.injEq]at hkd;omega
    ·split at hkd
     ·simp only[Option.some.injEq]at hkd;omega
     ·cases hkd
  have k95:decide ((k.toNat:Int)=95)=false:=decide_eq_false (by omega)
  have k48:decide ((48:Int)≤(k.toNat:Int))=true:=decide_eq_true (by omega)
  refine go (an9 s1 s8 s10 s11 s12 s13 s99 s100 (an8 s101 r hg hbv hi0 hi1 (Nat.mul_one i) (Nat.zero_add i))) ?_
  obtain⟨A,hA⟩:∃A,16*n=A:=⟨_,rfl⟩
  obtain⟨B,hB⟩:∃B,16*n+d=B:=⟨_,rfl⟩
  have f1:decide ((16:Int)≤(d:Int))=false:=decide_eq_false (by omega)
  have f2:decide ((1152921504606846976:Int)≤(n:Int))=false:=decide_eq_false (by omega)
  have f3:(n:Int)*16=(A:Int):=by omega
  have f4:(A:Int)+(d:Int)=(B:Int):=by omega
  have f5:decide ((B:Int)<(A:Int))=false:=decide_eq_false (by omega)
  have f6:decide (mx<(B:Int))=false:=decide_eq_false (by omega)
  refine rgg [(2,109)] k95 ?_
  refine go trivial ?_
  by_cases c57:k.toNat≤57
  ·have k57:decide ((k.toNat:Int)≤57)=true:=decide_eq_true (by omega)
   have f0:(k.toNat:Int) - 48=(d:Int):=by omega
   refine rgg [(2,115)] (an2 k48 k57) ?_
   refine go (an9 s1 s8 s10 s11 s12 s13 s99 s100 (an6 s101 f0 f1 f2 f3 f4)) ?_
   refine rgg [(3,155)] (an5 f5 f6 f3 f4 s11) ?_
   refine go (an9 s1 s8 s10 s11 s12 s99 s100 s101 hi2) ?_
   exact⟨rfl,⟨(vq1 s1),(vq1 s8),(vq1 s10),(vq1 s11),(vq1 s12),by rw[hn1,hB];first| (simp only[go_sem];done)| (simp only[go_sem];rfl),(vq1 s99),(vq1 s100),(vq1 hi2)⟩,rfl⟩
  ·have k57:decide ((k.toNat:Int)≤57)=false:=decide_eq_false (by omega)
   have hlc:(97≤k.toNat∧k.toNat≤102)∨(65≤k.toNat∧k.toNat≤70):=by omega
   have hlo:=lower_ok v k hlc
   obtain⟨L,hL⟩:∃L:Int,(if 97≤k.toNat then(k.toNat:Int) else(k.toNat:Int)+32)=L:=⟨_,rfl⟩
   have hLb:97≤L∧L≤102∧L - 97+10=(d:Int):=by rw[←hL];split<;>omega
   rw[hL]at hlo
   have g1:decide ((97:Int)≤L)=true:=decide_eq_true hLb.1
   have g2:decide (L≤122)=true:=decide_eq_true (by omega)
   have f0:=hLb.2.2
   refine rgg [(2,115)] (an2 k48 k57) ?_
   refine go trivial ?_
   refine rcg [(3,125)] trivial hlo ?_
   rintro _ z1 ⟨rfl,hz1⟩
   subst hz1
   refine rdg [(3,125)] g1 hlo ?_
   rintro _ z1 ⟨rfl,hz1⟩
   subst hz1
   refine reg [(3,125)] g2 ?_
   refine go trivial ?_
   refine rc trivial hlo ?_
   rintro _ z1 ⟨rfl,hz1⟩
   subst hz1
   refine rgo (an9 s1 s8 s10 s11 s12 s13 s99 s100 (an6 s101 f0 f1 f2 f3 f4)) ?_
   refine rgg [(3,155)] (an5 f5 f6 f3 f4 s11) ?_
   refine go (an9 s1 s8 s10 s11 s12 s99 s100 s101 hi2) ?_
   exact⟨rfl,⟨(vq1 s1),(vq1 s8),(vq1 s10),(vq1 s11),(vq1 s12),by rw[hn1,hB];first| (simp only[go_sem];done)| (simp only[go_sem];rfl),(vq1 s99),(vq1 s100),(vq1 hi2)⟩,rfl⟩
 ·rintro σ v r ⟨⟨s1,s8,s10,s11,s12,s13,s99,s100,s101⟩,rfl⟩
  refine go (an7 s8 s12 s13 s99 s100 s101 r) ?_
  refine rgg [(1,165)] (an2 s12 s13) ?_
  refine go (an2 s12 s13) ?_
  refine zaf (.inr rfl) Tryz.ntmps215 rfl (zac ((vr1 s13)) (zac (vr0) zae)) ?_
  exact⟨by rw[List.take_length];rfl,hE2⟩
theorem PuH_ok(w:World){l:Lab}{bt mx:Int}(hb:bt=8∧mx=255∨bt=16∧mx=65535)(h0:l≠ [])(hl2:l.length≤1000)(hv:∀c∈l,(hexV c).isSome=true)(hm:(zbg l:Int)≤mx):Fn Tryz.prog 189 #[vs l,vi 16,vi bt] w (fun v w'=>v= .tuple #[.int .u64 (zbg l:Nat),.nilIface]∧Ext w w'):=by
 refine enter Tryz.func189 Tryz.ntmps189 rfl rfl ?_
 refine go trivial ?_
 refine rc trivial (PuHi_ok w hb h0 hl2 hv hm) ?_
 rintro _ w1 ⟨rfl,hE1⟩
 refine rgo trivial ?_
 refine rq ?_;intro gd K hgd hK
 try simp only[go_sem]
 rw[show binV Tryz.prog .neq 65 .nilIface .nilIface=Option.none from rfl,zek]
 refine zg7 (u:= .nilIface) (b:=false) (by kernel_rfl) (.inl ⟨rfl,rfl⟩) (vr0) rfl ?_
 try simp only[go_sem]
 refine hK _ _ ?_;clear hK hgd;clear K;try clear gd
 refine go trivial ?_
 refine zaf (.inr rfl) Tryz.ntmps189 rfl (zac (vr0) (zac (vr0) zae)) ?_
 exact⟨rfl,hE1⟩
theorem Pu16_ok(w:World){a c:UInt8}{x y:Nat}(ha:hexV a=some x)(hc:hexV c=some y):Fn Tryz.prog 189 #[vs [a,c],vi 16,vi 8] w (fun v w'=>v= .tuple #[.int .u64 ((16*x+y:Nat):Int),.nilIface]∧Ext w w'):=by
 have hx:=zhk ha
 have hy:=zhk hc
 have e:zbg [a,c]=16*x+y:=by unfold zbg;simp[ha,hc]
 have:=PuH_ok w (l:=[a,c]) (.inl ⟨rfl,rfl⟩) (by simp) (by simp) (fun z hz=>by
  simp only[List.mem_cons,List.not_mem_nil,or_false]at hz
  rcases hz with rfl|rfl
  ·rw[ha];rfl
  ·rw[hc];rfl) (by rw[e];omega)
 rw[e]at this
 exact this
def catW(ws:List (Lab×Bool)):Lab:=ws.flatMap (·.1)
theorem zke{ws:List (Lab×Bool)}(h:∀x∈ws,x.1.length≤1000000):(catW ws).length≤1000000*ws.length:=by
 induction ws with
 |nil=>exact Nat.zero_le _
 |cons x l ih=>
  have h1:=h x (List.mem_cons_self ..)
  have h2:=ih fun y hy=>h y (List.mem_cons_of_mem _ hy)
  unfold catW at*
  rw[List.flatMap_cons,List.length_append,List.length_cons]
  omega
def Pairs(s:Lab)(bs:List UInt8):Prop:=s.length=2*bs.length∧∀i (h:i<bs.length) (h1:2*i<s.length) (h2:2*i+1<s.length),∃x y,hexV s[2*i]=some x∧hexV s[2*i+1]=some y∧bs[i].toNat=16*x+y
theorem zkH{W0 w:World}{b:Nat}{t:Lab}{ws:List (Lab×Bool)}{ov:Value}{n:Nat}{bs:List UInt8}(hW:WX W0)(h:Rdr W0 w b ((t,false)::ws) ov 0)(hl:ws.length≤1000)(ht:t.length≤1000000)(hn:decP 4294967295 t=(n,0))(hn2:n≤1024)(hwq:∀x∈ws,x.2=false∧x.1.length≤1000000)(htr:Lib.trimS (catW ws) digs16=[])(hlen:(catW ws).length=2*n)(hp:Pairs (catW ws) bs):
  Fn Tryz.prog 220 #[.pointer (some ⟨b,0,Option.none⟩)] w (fun v w'=>Own w.heap.size w' 5 v (bs.map zao)∧Rdr W0 w' b [] ov 0∧Keep (fun i=>i=b) w w'):=by
 have hbl:=h.lt
 have hcl:=zke fun x hx=>(hwq x hx).2
 have hml:1000000*ws.length≤1000000*1000:=Nat.mul_le_mul_left _ hl
 refine enter Tryz.func220 Tryz.ntmps220 rfl rfl ?_
 refine go trivial ?_
 refine rc trivial (zdS h (by omega)) ?_
 rintro _ w1 ⟨rfl,hR1,hk1⟩
 refine rd trivial (zca (hW.ext hR1.ext) t 4294967295 (by omega) (by omega)) ?_
 rintro _ w2 ⟨rfl,hE2⟩
 rw[hn]
 simp only[if_neg (show¬false=true by decide)]at hR1
 refine rgo trivial ?_
 refine rc trivial (zdn (hR1.extx hE2) 0) ?_
 rintro _ w3 ⟨hR3,hk3⟩
 rw[show zbL 0 0=0 from rfl]at hR3
 have d1:decide ((1024:Int)<(n:Int))=false:=decide_eq_false (by omega)
 refine rgo d1 ?_
 have hk03:Keep (fun i=>i=b) w w3:=(hk1.trans (hE2.mono fun _ _ h=>h.elim)).trans hk3
 have ez:decide ((0:Int)=0)=true:=rfl
 refine zas (Q:=fun e' σ' ds' v'=>e'= .exit 0∧ds'=[]∧(σ' 0= .pointer (some ⟨b,0,Option.none⟩)∧σ' 3= .int .u64 n∧σ' 5=vs (catW ws))∧Rdr W0 v' b [] ov 0∧Keep (fun i=>i=b) w v') ?_ ?_
 ·refine zaD (fun m σ ds v=>ds=[]∧∃i,i+m=ws.length∧(σ 0= .pointer (some ⟨b,0,Option.none⟩)∧σ 3= .int .u64 n∧σ 5=vs (catW (ws.take i)))∧Rdr W0 v b (ws.drop i) ov 0∧Keep (fun i=>i=b) w v) ws.length ?_ ?_
  ·exact⟨rfl,0,by omega,⟨vr0,vr0,vr0⟩,hR3,hk03⟩
  rintro m σ ds v ⟨rfl,i,him,⟨s0,s3,s5⟩,hR,hk⟩
  obtain⟨wv,hb,hr⟩:=hR.at'
  obtain⟨aw,cw,rfl,_,_⟩:=hr.open
  have c0:zad v (some ⟨b,0,Option.none⟩)=some (.slice aw (ws.drop i).length cw):=zaa hb rfl
  have c2:zad v (some ⟨b,2,Option.none⟩)=some (vi 0):=zaa hb rfl
  by_cases hi:i<ws.length
  ·have d2:decide ((0:Int)<((ws.drop i).length:Int))=true:=decide_eq_true (by rw[List.length_drop];omega)
   rw[List.drop_eq_getElem_cons hi]at hR
   obtain⟨⟨u,q⟩,hu⟩:∃x,ws[i]=x:=⟨_,rfl⟩
   have hum:(u,q)∈ws:=hu▸List.getElem_mem hi
   obtain⟨hq,hul⟩:=hwq _ hum
   simp only at hq hul
   subst hq
   rw[hu]at hR
   refine go (an3 s0 s3 s5) ?_
   refine rgg [(6,29)] (an8 s0 s3 s5 c0 c2 d2 ez (Nat.zero_add 2)) ?_
   refine go (an3 s0 s3 s5) ?_
   refine rc (an3 s0 s3 s5) (zdS hR (by rw[List.length_drop];omega)) ?_
   rintro _ v1 ⟨rfl,hR1',hk1'⟩
   simp only[if_neg (show¬false=true by decide)]at hR1'
   have hct:catW (ws.take (i+1))=catW (ws.take i)++u:=by rw[zak hi,hu];unfold catW;simp
   have hcl1:=zke (ws:=ws.take i) fun x hx=>(hwq x (List.mem_of_mem_take hx)).2
   rw[List.length_take]at hcl1
   have hml1:1000000*min i ws.length≤1000000*1000:=Nat.mul_le_mul_left _ (by omega)
   have l1:(catW (ws.take i)).length+u.length≤9223372036854775807:=by omega
   refine rgo (an4 s0 s3 s5 l1) ?_
   exact⟨m - 1,by omega,rfl,i+1,by omega,⟨(vq1 s0),(vq1 s3),by rw[hct];first| (simp only[go_sem,s5];done)| (simp only[go_sem,s5];rfl)⟩,hR1',hk.trans hk1'⟩
  ·have d2:decide ((0:Int)<((ws.drop i).length:Int))=false:=decide_eq_false (by rw[List.length_drop];omega)
   refine go (an3 s0 s3 s5) ?_
   refine rgg [(6,29)] (an7 s0 s3 s5 c0 c2 d2 (Nat.zero_add 2)) ?_
   refine go (an3 s0 s3 s5) ?_
   rw[List.drop_of_length_le (by omega)]at hR
   rw[List.take_of_length_le (by omega)]at s5
   exact⟨rfl,rfl,⟨(vq1 s0),(vq1 s3),(vq1 s5)⟩,hR,hk⟩
 rintro _ σ0 _ w4 ⟨rfl,rfl,⟨s0,s3,s5⟩,hR4,hk4⟩
 obtain⟨s,hs⟩:∃s,catW ws=s:=⟨_,rfl⟩
 rw[hs]at htr hlen hp hcl s5
 obtain⟨hpl,hpx⟩:=hp
 refine go (an3 s0 s3 s5) ?_
 refine rcg [(3,43)] (an3 s0 s3 s5) (zgy w4 s (by omega)) ?_
 rintro _ w5 ⟨rfl,hE5⟩
 rw[decide_eq_true htr]
 have f1:(2:Int)*(n:Int)=((2*n:Nat):Int):=by omega
 have d3:decide (((s.length:Nat):Int)=((2*n:Nat):Int))=true:=decide_eq_true (by omega)
 have hR5:=hR4.extx hE5
 obtain⟨wv5,hb5,_⟩:=hR5.at'
 have c5:zad w5 (some ⟨b,2,Option.none⟩)=some (vi 0):=zaa hb5 rfl
 refine reg [(3,43)] (an5 s0 s3 s5 f1 d3) ?_
 refine go (an6 s0 s3 s5 c5 ez (Nat.zero_add 2)) ?_
 have hk5:Keep (fun i=>i=b) w w5:=hk4.trans (hE5.mono fun _ _ h=>h.elim)
 have hsz5:=hk5.size
 refine zaD (fun m σ ds v=>ds=[]∧∃j,j+m=bs.length∧(σ 5=vs s∧σ 7=vi ((2*j:Nat):Int))∧Ext w5 v∧∃sv,σ 6=sv∧Own w5.heap.size v 5 sv ((bs.take j).map zao)) bs.length ?_ ?_
 ·exact⟨rfl,0,by omega,⟨(vr1 s5),vr0⟩,Keep.refl _ _,_,vr0,Own.nil _ _ _⟩
 rintro m σ ds v ⟨rfl,j,hjm,⟨r5,r7⟩,hEv,sv,r6,hown⟩
 obtain⟨I,hI⟩:∃I,2*j=I:=⟨_,rfl⟩
 rw[hI]at r7
 by_cases hj:j<bs.length
 ·have d4:decide ((I:Int)<(s.length:Int))=true:=decide_eq_true (by omega)
  have i1:I<s.length:=by omega
  have i2:I+1<s.length:=by omega
  obtain⟨x,y,hx,hy,hxy⟩:=hpx j hj (by omega) (by omega)
  simp only[hI]at hx hy
  have hI2:(I:Int)+2=((I+2:Nat):Int):=by push_cast;rfl
  have z0:(0:Int)≤(I:Int):=by omega
  have z1:(I:Int)≤((I+2:Nat):Int):=by omega
  have z2:((I+2:Nat):Int)≤(s.length:Int):=by omega
  have hsl:List.take (I+2 - I) (List.drop I s)=[s[I],s[I+1]]:=by
   rw[show I+2 - I=2 by omega,List.drop_eq_getElem_cons i1,List.drop_eq_getElem_cons i2]
   rfl
  refine go (an4 r5 r7 r6 d4) ?_
  refine rc (an8 r5 r7 r6 hI2 z0 z1 z2 hsl) (Pu16_ok v hx hy) ?_
  rintro _ v1 ⟨rfl,hE1⟩
  have hbl2:=bs[j].toNat_lt
  rw[←hxy]
  obtain⟨c,hc⟩:∃c,bs[j]=c:=⟨_,rfl⟩
  rw[hc]at hbl2 ⊢
  have hbv:zao c= .int .u8 (c.toNat:Int):=rfl
  have hsv:=hEv.size
  have hsv1:=hE1.size
  refine rgo (an3 r5 r7 r6) ?_
  refine rq ?_;intro gd K hgd hK
  try simp (disch:=first|omega|assumption|rfl) only[go_sem,r6]
  refine zbk (z:= .int .u8 0) rfl rfl rfl rfl rfl ?_
  intro y1 hy1 hys1 hyo
  try simp (disch:=first|omega|assumption|rfl) only[go_sem,r6]
  refine za8 (e:=5) ((hown.ext hE1).ext hy1) hyo.row rfl rfl rfl rfl rfl rfl ((vr1 r6)) (vr0) (fun q hq=>by rw[List.mem_singleton.1 hq];rfl) (by simp;omega) (by decide) (by omega) ?_
  intro sv' y2 hown2 hX2 hK2 hb2'
  try simp only[go_sem]
  refine hK _ _ ?_;clear hK hgd;clear K;try clear gd
  refine go (an3 r5 r7 hI2) ?_
  refine⟨m - 1,by omega,rfl,j+1,by omega,⟨(vq1 r5),by rw[show 2*(j+1)=I+2 by omega];simp only[go_sem,hI2]⟩,hX2 w5 ((hEv.trans hE1).trans hy1) (Nat.le_refl _),sv',vr0,?_⟩
  rw[zak hj,hc,List.map_append,List.map_cons,List.map_nil,hbv]
  exact hown2
 ·have d4:decide ((I:Int)<(s.length:Int))=false:=decide_eq_false (by omega)
  refine go (an4 r5 r7 r6 d4) ?_
  rw[List.take_of_length_le (by omega)]at hown
  refine zaf (.inr rfl) Tryz.ntmps220 rfl (zac ((vr1 r6)) zae) ?_
  exact⟨hown.mono hsz5,hR5.extx hEv,hk5.trans (hEv.mono fun _ _ h=>h.elim)⟩
def zaJ(t:Int):Int×Int×Int×Int:=if t=1 then(0,0,0,4) else if t=28 then(0,0,0,16) else if t=15 then(1,1,0,0) else if t=6 then(2,5,0,0) else if t=16 then(0,0, -1,0) else if t=2∨t=5∨t=12∨t=39 then(1,0,0,0) else(0,0,0, -1)
def zgz(x:Int×Int×Int×Int):Value:= .agg #[vi x.1,vi x.2.1,vi x.2.2.1,vi x.2.2.2]
theorem ze9(a b c d:Int):∀v∈ [vi a,vi b,vi c,vi d],one v=true:=fun v h=>by
 simp at h
 rcases h with rfl|rfl|rfl|rfl<;>rfl
theorem zl9(w:World)(t:Int):Fn Tryz.prog 218 #[vi t] w (fun v w'=>v=zgz (zaJ t)∧Ext w w'):=by
 refine enter Tryz.func218 Tryz.ntmps218 rfl rfl ?_
 refine go trivial ?_
 refine zan ?_
 intro w1 hE1 hs1 hA
 unfold zaJ
 by_cases h0:t=1
 ·have d0:decide (t=1)=true:=decide_eq_true h0
  rw[if_pos h0]
  refine go d0 ?_
  refine rq ?_;intro gd K hgd hK
  try simp only[go_sem]
  refine⟨by kernel_rfl,?_⟩
  rw[show bdV Tryz.prog 276 [(3,vi 4)]=some (.agg #[vi 0,vi 0,vi 0,vi 4]) from by kernel_rfl]
  try simp only[go_sem]
  refine zaR (P:=Tryz.prog) (t:=276) (l:=[vi 0,vi 0,vi 0,vi 4]) hA rfl (ze9 _ _ _ _) rfl rfl ?_
  intro w2 hs2 hB2 hk2
  try simp only[go_sem]
  refine hK _ _ ?_;clear hK hgd;clear K;try clear gd
  refine go trivial ?_
  refine zaf (.inr rfl) Tryz.ntmps218 rfl (zaW (x:=⟨w.heap.size,0,Option.none⟩) (k:=4) (vr0) rfl rfl (zal hB2 rfl) zae) ?_
  exact⟨rfl,Keep.to_ext hE1 rfl (fun b hb=>by omega) hk2⟩
 have d0:decide (t=1)=false:=decide_eq_false h0
 rw[if_neg h0]
 by_cases h1:t=28
 ·have d1:decide (t=28)=true:=decide_eq_true h1
  rw[if_pos h1]
  refine go (an2 d0 d1) ?_
  refine rq ?_;intro gd K hgd hK
  try simp only[go_sem]
  refine⟨by kernel_rfl,?_⟩
  rw[show bdV Tryz.prog 276 [(3,vi 16)]=some (.agg #[vi 0,vi 0,vi 0,vi 16]) from by kernel_rfl]
  try simp only[go_sem]
  refine zaR (P:=Tryz.prog) (t:=276) (l:=[vi 0,vi 0,vi 0,vi 16]) hA rfl (ze9 _ _ _ _) rfl rfl ?_
  intro w2 hs2 hB2 hk2
  try simp only[go_sem]
  refine hK _ _ ?_;clear hK hgd;clear K;try clear gd
  refine go trivial ?_
  refine zaf (.inr rfl) Tryz.ntmps218 rfl (zaW (x:=⟨w.heap.size,0,Option.none⟩) (k:=4) (vr0) rfl rfl (zal hB2 rfl) zae) ?_
  exact⟨rfl,Keep.to_ext hE1 rfl (fun b hb=>by omega) hk2⟩
 have d1:decide (t=28)=false:=decide_eq_false h1
 rw[if_neg h1]
 by_cases h2:t=15
 ·have d2:decide (t=15)=true:=decide_eq_true h2
  rw[if_pos h2]
  refine go (an3 d0 d1 d2) ?_
  refine rq ?_;intro gd K hgd hK
  try simp only[go_sem]
  refine⟨by kernel_rfl,?_⟩
  rw[show bdV Tryz.prog 276 [(0,vi 1),(1,vi 1)]=some (.agg #[vi 1,vi 1,vi 0,vi 0]) from by kernel_rfl]
  try simp only[go_sem]
  refine zaR (P:=Tryz.prog) (t:=276) (l:=[vi 1,vi 1,vi 0,vi 0]) hA rfl (ze9 _ _ _ _) rfl rfl ?_
  intro w2 hs2 hB2 hk2
  try simp only[go_sem]
  refine hK _ _ ?_;clear hK hgd;clear K;try clear gd
  refine go trivial ?_
  refine zaf (.inr rfl) Tryz.ntmps218 rfl (zaW (x:=⟨w.heap.size,0,Option.none⟩) (k:=4) (vr0) rfl rfl (zal hB2 rfl) zae) ?_
  exact⟨rfl,Keep.to_ext hE1 rfl (fun b hb=>by omega) hk2⟩
 have d2:decide (t=15)=false:=decide_eq_false h2
 rw[if_neg h2]
 by_cases h3:t=6
 ·have d3:decide (t=6)=true:=decide_eq_true h3
  rw[if_pos h3]
  refine go (an4 d0 d1 d2 d3) ?_
  refine rq ?_;intro gd K hgd hK
  try simp only[go_sem]
  refine⟨by kernel_rfl,?_⟩
  rw[show bdV Tryz.prog 276 [(0,vi 2),(1,vi 5)]=some (.agg #[vi 2,vi 5,vi 0,vi 0]) from by kernel_rfl]
  try simp only[go_sem]
  refine zaR (P:=Tryz.prog) (t:=276) (l:=[vi 2,vi 5,vi 0,vi 0]) hA rfl (ze9 _ _ _ _) rfl rfl ?_
  intro w2 hs2 hB2 hk2
  try simp only[go_sem]
  refine hK _ _ ?_;clear hK hgd;clear K;try clear gd
  refine go trivial ?_
  refine zaf (.inr rfl) Tryz.ntmps218 rfl (zaW (x:=⟨w.heap.size,0,Option.none⟩) (k:=4) (vr0) rfl rfl (zal hB2 rfl) zae) ?_
  exact⟨rfl,Keep.to_ext hE1 rfl (fun b hb=>by omega) hk2⟩
 have d3:decide (t=6)=false:=decide_eq_false h3
 rw[if_neg h3]
 by_cases h4:t=16
 ·have d4:decide (t=16)=true:=decide_eq_true h4
  rw[if_pos h4]
  refine go (an5 d0 d1 d2 d3 d4) ?_
  refine rq ?_;intro gd K hgd hK
  try simp only[go_sem]
  refine⟨by kernel_rfl,?_⟩
  rw[show bdV Tryz.prog 276 [(2,vi (-1))]=some (.agg #[vi 0,vi 0,vi (-1),vi 0]) from by kernel_rfl]
  try simp only[go_sem]
  refine zaR (P:=Tryz.prog) (t:=276) (l:=[vi 0,vi 0,vi (-1),vi 0]) hA rfl (ze9 _ _ _ _) rfl rfl ?_
  intro w2 hs2 hB2 hk2
  try simp only[go_sem]
  refine hK _ _ ?_;clear hK hgd;clear K;try clear gd
  refine go trivial ?_
  refine zaf (.inr rfl) Tryz.ntmps218 rfl (zaW (x:=⟨w.heap.size,0,Option.none⟩) (k:=4) (vr0) rfl rfl (zal hB2 rfl) zae) ?_
  exact⟨rfl,Keep.to_ext hE1 rfl (fun b hb=>by omega) hk2⟩
 have d4:decide (t=16)=false:=decide_eq_false h4
 rw[if_neg h4]
 by_cases h5:t=2
 ·have d5:decide (t=2)=true:=decide_eq_true h5
  rw[if_pos (show t=2∨t=5∨t=12∨t=39 by omega)]
  refine go (an6 d0 d1 d2 d3 d4 d5) ?_
  refine rq ?_;intro gd K hgd hK
  try simp only[go_sem]
  refine⟨by kernel_rfl,?_⟩
  rw[show bdV Tryz.prog 276 [(0,vi 1)]=some (.agg #[vi 1,vi 0,vi 0,vi 0]) from by kernel_rfl]
  try simp only[go_sem]
  refine zaR (P:=Tryz.prog) (t:=276) (l:=[vi 1,vi 0,vi 0,vi 0]) hA rfl (ze9 _ _ _ _) rfl rfl ?_
  intro w2 hs2 hB2 hk2
  try simp only[go_sem]
  refine hK _ _ ?_;clear hK hgd;clear K;try clear gd
  refine go trivial ?_
  refine zaf (.inr rfl) Tryz.ntmps218 rfl (zaW (x:=⟨w.heap.size,0,Option.none⟩) (k:=4) (vr0) rfl rfl (zal hB2 rfl) zae) ?_
  exact⟨rfl,Keep.to_ext hE1 rfl (fun b hb=>by omega) hk2⟩
 have d5:decide (t=2)=false:=decide_eq_false h5
 by_cases h6:t=5
 ·have d6:decide (t=5)=true:=decide_eq_true h6
  rw[if_pos (show t=2∨t=5∨t=12∨t=39 by omega)]
  refine go (an7 d0 d1 d2 d3 d4 d5 d6) ?_
  refine rq ?_;intro gd K hgd hK
  try simp only[go_sem]
  refine⟨by kernel_rfl,?_⟩
  rw[show bdV Tryz.prog 276 [(0,vi 1)]=some (.agg #[vi 1,vi 0,vi 0,vi 0]) from by kernel_rfl]
  try simp only[go_sem]
  refine zaR (P:=Tryz.prog) (t:=276) (l:=[vi 1,vi 0,vi 0,vi 0]) hA rfl (ze9 _ _ _ _) rfl rfl ?_
  intro w2 hs2 hB2 hk2
  try simp only[go_sem]
  refine hK _ _ ?_;clear hK hgd;clear K;try clear gd
  refine go trivial ?_
  refine zaf (.inr rfl) Tryz.ntmps218 rfl (zaW (x:=⟨w.heap.size,0,Option.none⟩) (k:=4) (vr0) rfl rfl (zal hB2 rfl) zae) ?_
  exact⟨rfl,Keep.to_ext hE1 rfl (fun b hb=>by omega) hk2⟩
 have d6:decide (t=5)=false:=decide_eq_false h6
 by_cases h7:t=12
 ·have d7:decide (t=12)=true:=decide_eq_true h7
  rw[if_pos (show t=2∨t=5∨t=12∨t=39 by omega)]
  refine go (an8 d0 d1 d2 d3 d4 d5 d6 d7) ?_
  refine rq ?_;intro gd K hgd hK
  try simp only[go_sem]
  refine⟨by kernel_rfl,?_⟩
  rw[show bdV Tryz.prog 276 [(0,vi 1)]=some (.agg #[vi 1,vi 0,vi 0,vi 0]) from by kernel_rfl]
  try simp only[go_sem]
  refine zaR (P:=Tryz.prog) (t:=276) (l:=[vi 1,vi 0,vi 0,vi 0]) hA rfl (ze9 _ _ _ _) rfl rfl ?_
  intro w2 hs2 hB2 hk2
  try simp only[go_sem]
  refine hK _ _ ?_;clear hK hgd;clear K;try clear gd
  refine go trivial ?_
  refine zaf (.inr rfl) Tryz.ntmps218 rfl (zaW (x:=⟨w.heap.size,0,Option.none⟩) (k:=4) (vr0) rfl rfl (zal hB2 rfl) zae) ?_
  exact⟨rfl,Keep.to_ext hE1 rfl (fun b hb=>by omega) hk2⟩
 have d7:decide (t=12)=false:=decide_eq_false h7
 by_cases h8:t=39
 ·have d8:decide (t=39)=true:=decide_eq_true h8
  rw[if_pos (show t=2∨t=5∨t=12∨t=39 by omega)]
  refine go (an9 d0 d1 d2 d3 d4 d5 d6 d7 d8) ?_
  refine rq ?_;intro gd K hgd hK
  try simp only[go_sem]
  refine⟨by kernel_rfl,?_⟩
  rw[show bdV Tryz.prog 276 [(0,vi 1)]=some (.agg #[vi 1,vi 0,vi 0,vi 0]) from by kernel_rfl]
  try simp only[go_sem]
  refine zaR (P:=Tryz.prog) (t:=276) (l:=[vi 1,vi 0,vi 0,vi 0]) hA rfl (ze9 _ _ _ _) rfl rfl ?_
  intro w2 hs2 hB2 hk2
  try simp only[go_sem]
  refine hK _ _ ?_;clear hK hgd;clear K;try clear gd
  refine go trivial ?_
  refine zaf (.inr rfl) Tryz.ntmps218 rfl (zaW (x:=⟨w.heap.size,0,Option.none⟩) (k:=4) (vr0) rfl rfl (zal hB2 rfl) zae) ?_
  exact⟨rfl,Keep.to_ext hE1 rfl (fun b hb=>by omega) hk2⟩
 have d8:decide (t=39)=false:=decide_eq_false h8
 rw[if_neg (show¬(t=2∨t=5∨t=12∨t=39) by omega)]
 refine go (an9 d0 d1 d2 d3 d4 d5 d6 d7 d8) ?_
 refine rq ?_;intro gd K hgd hK
 try simp only[go_sem]
 refine⟨by kernel_rfl,?_⟩
 rw[show bdV Tryz.prog 276 [(3,vi (-1))]=some (.agg #[vi 0,vi 0,vi 0,vi (-1)]) from by kernel_rfl]
 try simp only[go_sem]
 refine zaR (P:=Tryz.prog) (t:=276) (l:=[vi 0,vi 0,vi 0,vi (-1)]) hA rfl (ze9 _ _ _ _) rfl rfl ?_
 intro w2 hs2 hB2 hk2
 try simp only[go_sem]
 refine hK _ _ ?_;clear hK hgd;clear K;try clear gd
 refine go trivial ?_
 refine zaf (.inr rfl) Tryz.ntmps218 rfl (zaW (x:=⟨w.heap.size,0,Option.none⟩) (k:=4) (vr0) rfl rfl (zal hB2 rfl) zae) ?_
 exact⟨rfl,Keep.to_ext hE1 rfl (fun b hb=>by omega) hk2⟩
def txD(d:DatL):Int:=if (zaJ d.ty).2.2.1<0 then min (max (d.texts.length:Int) 1) 32 else(zaJ d.ty).2.2.1
def rwD(d:DatL):Int:=if (zaJ d.ty).2.2.2<0 then(d.raw.length:Int) else(zaJ d.ty).2.2.2
def zb2(d:DatL):Bool:=decide ((d.names.length:Int)=(zaJ d.ty).1) && decide ((d.nums.length:Int)=(zaJ d.ty).2.1) && decide ((d.texts.length:Int)=txD d) && decide ((d.raw.length:Int)=rwD d)
theorem form_ok{w:World}{cs:List Value}{d:DatL}(hd:DatAt w cs d):Fn Tryz.prog 247 #[.agg cs.toArray] w (fun v w'=>v= .bool (zb2 d)∧Ext w w'):=by
  obtain⟨nm,nu,tx,rw',rfl,⟨vals,⟨an,cn,rfl,hcn,hgn⟩,hvl,hvr⟩,⟨au,cu,rfl,hcu,hgu⟩,⟨at1,ct,rfl,hct,hgt⟩,⟨ar,cr,rfl,hcr,hgr⟩⟩:=hd.ex
  simp only[List.length_map]at hcu hgu hct hgt hcr hgr
  simp only[List.length_map,hvl]
  refine enter Tryz.func247 Tryz.ntmps247 rfl rfl ?_
  refine go trivial ?_
  refine zan ?_
  intro w1 hE1 hs1 hA
  have p0:zad w1 (some ⟨w.heap.size,0,Option.none⟩)=some (vi d.ty):=zaa hA rfl
  obtain⟨⟨a,b,c,r⟩,hsh⟩:∃x,zaJ d.ty=x:=⟨_,rfl⟩
  have htx:txD d=if c<0 then min (max (d.texts.length:Int) 1) 32 else c:=by unfold txD;rw[hsh]
  have hrw:rwD d=if r<0 then(d.raw.length:Int) else r:=by unfold rwD;rw[hsh]
  refine rq ?_;intro gd K hgd hK
  try simp (disch:=first|omega|assumption|rfl) only[go_sem,p0,Nat.add_zero]
  refine Fn.mono (zl9 w1 d.ty) ?_
  rintro _ w2 ⟨rfl,hE2⟩
  rw[hsh]
  unfold zgz
  simp only
  try simp only[go_sem]
  refine zbm (P:=Tryz.prog) (l:=[vi a,vi b,vi c,vi r]) rfl (ze9 _ _ _ _) rfl rfl ?_
  intro w3 hE3 hs3 hB3
  try simp only[go_sem]
  refine hK _ _ ?_;clear hK hgd;clear K;try clear gd
  obtain⟨P,hP⟩:∃P,w2.heap.size=P:=⟨_,rfl⟩
  rw[hP]at hB3
  simp only[hP]
  have hE13:=(hE1.trans hE2).trans hE3
  have hA3:=Ext.at (hE2.trans hE3) hA
  have hs2:=hE2.size
  have hs3':=hE3.size
  have vars:∀{z:World},Keep (fun i=>i=P) w3 z→zad z (some ⟨w.heap.size,1,Option.none⟩)=some (.slice an d.names.length cn)∧zad z (some ⟨w.heap.size,2,Option.none⟩)=some (.slice au d.nums.length cu)∧zad z (some ⟨w.heap.size,3,Option.none⟩)=some (.slice at1 d.texts.length ct)∧zad z (some ⟨w.heap.size,4,Option.none⟩)=some (.slice ar d.raw.length cr):=fun {z} hk=>by
    have hz:=(hk.block w.heap.size (by omega) (by omega)).trans hA3
    exact⟨zaa hz rfl,zaa hz rfl,zaa hz rfl,zaa hz rfl⟩
  have c2:zad w3 (some ⟨P,2,Option.none⟩)=some (vi c):=za2 (j:=2) hB3 rfl
  obtain⟨t1,ht1⟩:∃t,decide (c<0)=t:=⟨_,rfl⟩
  refine go (an3 c2 ht1 (Nat.zero_add 2)) ?_
  refine zas (Q:=fun e σ' ds' v'=>e= .normal∧ds'=[]∧(σ' 1= .pointer (some ⟨w.heap.size,0,Option.none⟩)∧σ' 3= .pointer (some ⟨P,0,Option.none⟩))∧v'.heap[P]? =some (.cells [vi a,vi b,vi (txD d),vi r].toArray 276 (0,0))∧Keep (fun i=>i=P) w3 v') ?_ ?_
  · cases t1 with
    |true=>
      have hc:=of_decide_eq_true ht1
      rw[if_pos hc]at htx
      obtain⟨_,_,k3,_⟩:=vars (Keep.refl _ w3)
      refine go trivial ?_
      refine rq ?_;intro gd K hgd hK
      try simp (disch:=first|omega|assumption|rfl) only[go_sem,k3,Nat.zero_add]
      refine zl6 (vr0) (vr0) ?_
      try simp only[go_sem]
      refine zfN (vr0) (vr0) ?_
      rw[←htx]
      try simp (disch:=first|omega|assumption|rfl) only[go_sem,Nat.zero_add]
      refine zdc (P:=Tryz.prog) (t:=3) (j:=2) (u:=vi (txD d)) hB3 (by simp) rfl rfl rfl ?_
      intro z hz hbz hkz
      try simp only[go_sem]
      refine hK _ _ ?_;clear hK hgd;clear K;try clear gd
      refine go trivial ?_
      exact⟨rfl,rfl,⟨vr0,vr0⟩,hbz,hkz⟩
    |false=>
      have hc:=of_decide_eq_false ht1
      rw[if_neg hc]at htx
      refine go trivial ?_
      exact⟨rfl,rfl,⟨vr0,vr0⟩,by rw[htx];exact hB3,Keep.refl _ _⟩
  rintro _ σ1 _ v1 ⟨rfl,rfl,⟨s1,s3⟩,hB4,hk4⟩
  have c3:zad v1 (some ⟨P,3,Option.none⟩)=some (vi r):=za2 (j:=3) hB4 rfl
  obtain⟨t2,ht2⟩:∃t,decide (r<0)=t:=⟨_,rfl⟩
  refine go (an5 s1 s3 c3 ht2 (Nat.zero_add 3)) ?_
  refine zas (Q:=fun e σ' ds' v'=>e= .normal∧ds'=[]∧(σ' 1= .pointer (some ⟨w.heap.size,0,Option.none⟩)∧σ' 3= .pointer (some ⟨P,0,Option.none⟩))∧v'.heap[P]? =some (.cells [vi a,vi b,vi (txD d),vi (rwD d)].toArray 276 (0,0))∧Keep (fun i=>i=P) w3 v') ?_ ?_
  · cases t2 with
    |true=>
      rw[if_pos (of_decide_eq_true ht2)]at hrw
      obtain⟨_,_,_,k4⟩:=vars hk4
      refine go (an2 s1 s3) ?_
      refine rq ?_;intro gd K hgd hK
      try simp (disch:=first|omega|assumption|rfl) only[go_sem,s1,s3,k4,Nat.zero_add]
      refine zdc (P:=Tryz.prog) (t:=3) (j:=3) (u:=vi (d.raw.length:Int)) hB4 (by simp) rfl rfl rfl ?_
      intro z hz hbz hkz
      try simp only[go_sem]
      refine hK _ _ ?_;clear hK hgd;clear K;try clear gd
      refine go (an2 s1 s3) ?_
      exact⟨rfl,rfl,⟨(vq1 s1),(vq1 s3)⟩,by rw[hrw];exact hbz,hk4.trans hkz⟩
    |false=>
      rw[if_neg (of_decide_eq_false ht2)]at hrw
      refine go (an2 s1 s3) ?_
      exact⟨rfl,rfl,⟨(vq1 s1),(vq1 s3)⟩,by rw[hrw];exact hB4,hk4⟩
  clear s1 s3
  rintro _ σ2 _ v2 ⟨rfl,rfl,⟨s1,s3⟩,hB5,hk5⟩
  obtain⟨k1,k2,k3,k4⟩:=vars hk5
  have e0:zad v2 (some ⟨P,0,Option.none⟩)=some (vi a):=za2 (j:=0) hB5 rfl
  have e1:zad v2 (some ⟨P,1,Option.none⟩)=some (vi b):=za2 (j:=1) hB5 rfl
  have e2:zad v2 (some ⟨P,2,Option.none⟩)=some (vi (txD d)):=za2 (j:=2) hB5 rfl
  have e3:zad v2 (some ⟨P,3,Option.none⟩)=some (vi (rwD d)):=za2 (j:=3) hB5 rfl
  have hfm:zb2 d=(decide ((d.names.length:Int)=a) && decide ((d.nums.length:Int)=b) && decide ((d.texts.length:Int)=txD d) && decide ((d.raw.length:Int)=rwD d)):=by unfold zb2;rw[hsh]
  have hEf:Ext w v2:=Keep.to_ext hE13 rfl (fun i hi=>by omega) hk5
  obtain⟨b1,hb1⟩:∃t,decide ((d.names.length:Int)=a)=t:=⟨_,rfl⟩
  obtain⟨b2,hb2⟩:∃t,decide ((d.nums.length:Int)=b)=t:=⟨_,rfl⟩
  obtain⟨b3,hb3⟩:∃t,decide ((d.texts.length:Int)=txD d)=t:=⟨_,rfl⟩
  obtain⟨b4,hb4⟩:∃t,decide ((d.raw.length:Int)=rwD d)=t:=⟨_,rfl⟩
  rw[hb1,hb2,hb3,hb4]at hfm
  rw[hfm]
  refine go (an2 s1 s3) ?_
  cases b1<;>cases b2<;>cases b3<;>cases b4<;>
    (refine rgg [(6,29),(14,37),(22,45)] (an9 s1 s3 k1 k2 k3 k4 e0 e1 (an9 e2 e3 hb1 hb2 hb3 hb4 (Nat.zero_add 1) (Nat.zero_add 2) (an2 (Nat.zero_add 3) (Nat.zero_add 4)))) ?_
     refine go trivial ?_
     refine zaf (.inr rfl) Tryz.ntmps247 rfl (zac (vr0) zae) ?_
     exact⟨rfl,hEf⟩)
def zep(ts:List Lab):Bool:=ts.any fun t=>decide (255<t.length)
theorem zmz(w:World)(t:Lab)(hl:t.length≤1000000000):Fn Tryz.prog 249 #[vs t] w (fun v w'=>v= .bool (decide (255<t.length))∧Ext w w'):=by
 have h1:decide ((255:Int)<(t.length:Int))=decide (255<t.length):=decide_eq_decide.2 (by omega)
 refine enter Tryz.func249 Tryz.ntmps249 rfl rfl ?_
 refine go h1 ?_
 refine rt0 Tryz.ntmps249 ?_
 exact⟨rfl,Keep.refl _ _⟩
theorem Idx_ok{w:World}{v:Value}{ts:List Lab}(hr:Row w v (ts.map vs))(hl:ts.length≤1000000000)(hx:∀t∈ts,t.length≤1000000000):Fn Tryz.prog 264 #[v,.func (.func 249) #[] #[]] w (fun u w'=>Ext w w'∧∃k:Int,u=vi k∧decide (0≤k)=zep ts):=by
 obtain⟨a,c,rfl,hg⟩:=zfH hr
 refine enter Tryz.func264 Tryz.ntmps264 rfl rfl ?_
 refine go trivial ?_
 refine zbq ts.length (fun i σ v=>(σ 0= .slice a ts.length c∧σ 1= .func (.func 249) #[] #[]∧σ 7=vi ts.length∧σ 8=vi i)∧Ext w v∧∀j (h:j<ts.length),j<i→ts[j].length≤255) ?_ ?_ ?_
 ·exact⟨⟨vr0,vr0,vr0,vr0⟩,Keep.refl _ _,fun j _ h=>by omega⟩
 ·rintro i σ v hi r ⟨⟨s0,s1,s7,s8⟩,hE,hlow⟩
  obtain⟨x,rfl,g0⟩:=hg i hi
  have g:=zab hE g0
  obtain⟨t,ht⟩:∃t,ts[i]=t:=⟨_,rfl⟩
  rw[ht]at g
  have htl:=hx t (ht▸List.getElem_mem hi)
  have hi0:(0:Int)≤(i:Int):=by omega
  have hi1:(i:Int)<(ts.length:Int):=by omega
  have hi2:(i:Int)+1=((i+1:Nat):Int):=by push_cast;rfl
  refine go (an8 s0 s1 s7 s8 r g hi0 hi1) ?_
  refine rc (an6 s0 s1 s8 g hi0 hi1) (zmz v t htl) ?_
  rintro _ v1 ⟨rfl,hE1⟩
  by_cases hlt:255<t.length
  ·rw[decide_eq_true hlt]
   refine rgo (an2 s0 s8) ?_
   refine zaf (.inr rfl) Tryz.ntmps264 rfl (zac ((vr1 s8)) zae) ?_
   refine⟨hE.trans hE1,(i:Int),rfl,?_⟩
   have:zep ts=true:=by
    unfold zep
    rw[List.any_eq_true]
    exact⟨t,ht▸List.getElem_mem hi,decide_eq_true hlt⟩
   rw[this]
   exact decide_eq_true hi0
  ·rw[decide_eq_false hlt]
   refine rgo (an5 s0 s1 s7 s8 hi2) ?_
   refine⟨rfl,⟨(vq1 s0),(vq1 s1),(vq1 s7),(vq1 hi2)⟩,hE.trans hE1,fun j hj hji=>?_⟩
   by_cases e:j=i
   ·subst e;rw[ht];omega
   ·exact hlow j hj (by omega)
 ·rintro σ v r ⟨⟨s0,s1,s7,s8⟩,hE,hlow⟩
  refine go (an5 s0 s1 s7 s8 r) ?_
  refine zaf (.inr rfl) Tryz.ntmps264 rfl (zac (vr0) zae) ?_
  refine⟨hE, -1,rfl,?_⟩
  have:zep ts=false:=by
   unfold zep
   rw[List.any_eq_false]
   intro t ht
   obtain⟨j,hj,rfl⟩:=List.mem_iff_getElem.1 ht
   have:=hlow j hj hj
   simp;omega
  rw[this];rfl
theorem zju{w:World}{v:Value}{ts:List Lab}(hr:Row w v (ts.map vs))(hl:ts.length≤1000000000)(hx:∀t∈ts,t.length≤1000000000):Fn Tryz.prog 248 #[v,.func (.func 249) #[] #[]] w (fun u w'=>u= .bool (zep ts)∧Ext w w'):=by
 refine enter Tryz.func248 Tryz.ntmps248 rfl rfl ?_
 refine go trivial ?_
 refine rc trivial (Idx_ok hr hl hx) ?_
 rintro _ w1 ⟨hE1,k,rfl,hk⟩
 refine rgo hk ?_
 refine rt0 Tryz.ntmps248 ?_
 exact⟨rfl,hE1⟩
def zbv(d:DatL):Int:=if d.ty<1∨65535<d.ty then 6 else if zb2 d=false then 2 else match d.names.find? (fun n=>decide (zaL n≠0)) with
 |some n=>zaL n
 |Option.none=>if d.ty=15∧65535<d.nums.headD 0 then 7 else if 1024<d.raw.length∨zep d.texts=true then 3 else 0
theorem znz{w:World}{cs:List Value}{d:DatL}(hd:DatAt w cs d)(hT:DatT d):Fn Tryz.prog 221 #[.agg cs.toArray] w (fun v w'=>v=vi (zbv d)∧Ext w w'):=by
 have hS:=hT.s
 have hd0:=hd
 obtain⟨nm,nu,tx,rw',rfl,⟨vals,⟨an,cn,rfl,hcn,hgn⟩,hvl,hvr⟩,hnu,htx,hrw⟩:=hd.ex
 obtain⟨au,cu,hau,hcu,hgu⟩:=id hnu
 obtain⟨at1,ct,hat,_⟩:=id htx
 obtain⟨ar,cr,har,_⟩:=id hrw
 rw[List.length_map]at hau hat har hcu
 subst hau
 subst hat
 subst har
 unfold zbv
 refine enter Tryz.func221 Tryz.ntmps221 rfl rfl ?_
 refine go trivial ?_
 refine zan ?_
 intro w1 hE1 hs1 hA
 have p0:zad w1 (some ⟨w.heap.size,0,Option.none⟩)=some (vi d.ty):=zaa hA rfl
 have p5:zar w1 (some ⟨w.heap.size,0,Option.none⟩) 5=some [vi d.ty,.slice an vals.length cn,.slice au d.nums.length cu,.slice at1 d.texts.length ct,.slice ar d.raw.length cr]:=zal (n:=5) hA rfl
 by_cases c1:d.ty<1
 ·rw[if_pos (.inl c1)]
  refine go trivial ?_
  refine rgg [(3,10)] (an3 p0 (decide_eq_true c1) (Nat.add_zero 0)) ?_
  refine go trivial ?_
  refine zaf (.inr rfl) Tryz.ntmps221 rfl (zac (vr0) zae) ?_
  exact⟨rfl,hE1⟩
 by_cases c2:65535<d.ty
 ·rw[if_pos (.inr c2)]
  refine go trivial ?_
  refine rgg [(3,10)] (an4 p0 (decide_eq_false c1) (decide_eq_true c2) (Nat.add_zero 0)) ?_
  refine go trivial ?_
  refine zaf (.inr rfl) Tryz.ntmps221 rfl (zac (vr0) zae) ?_
  exact⟨rfl,hE1⟩
 rw[if_neg (by omega)]
 refine go trivial ?_
 refine rgg [(3,10)] (an4 p0 (decide_eq_false c1) (decide_eq_false c2) (Nat.add_zero 0)) ?_
 refine go trivial ?_
 refine rc p5 (form_ok (hd0.ext hE1)) ?_
 rintro _ w2 ⟨rfl,hE2⟩
 cases hf:zb2 d with
 |false=>
  rw[if_pos rfl]
  refine rgo trivial ?_
  refine zaf (.inr rfl) Tryz.ntmps221 rfl (zac (vr0) zae) ?_
  exact⟨rfl,hE1.trans hE2⟩
 |true=>
 rw[if_neg (by decide)]
 have hA2:=Ext.at hE2 hA
 have q1:zad w2 (some ⟨w.heap.size,1,Option.none⟩)=some (.slice an vals.length cn):=zaa hA2 rfl
 refine rgo (an2 q1 (Nat.zero_add 1)) ?_
 have hE12:=hE1.trans hE2
 have hnames:=hS.names
 have hnn:=hT.nn
 refine zbq vals.length (fun i σ v=>(σ 1= .pointer (some ⟨w.heap.size,0,Option.none⟩)∧σ 20= .slice an vals.length cn∧σ 21=vi vals.length∧σ 22=vi i)∧Ext w2 v∧∀j (h:j<d.names.length),j<i→zaL d.names[j]=0) ?_ ?_ ?_
 ·exact⟨⟨vr0,vr0,vr0,vr0⟩,Keep.refl _ _,fun j _ h=>by omega⟩
 ·rintro i σ v hi r ⟨⟨s1,s20,s21,s22⟩,hE,hlow⟩
  have g0:=hgn i hi
  obtain⟨xN,rfl⟩:=Option.isSome_iff_exists.1 (zai g0)
  have hEv:=hE12.trans hE
  have g:=zab hEv g0
  have hin:i<d.names.length:=by omega
  have hrow:=(hvr i hi hin).ext hEv
  obtain⟨nv,hnv⟩:∃nv,vals[i]=nv:=⟨_,rfl⟩
  obtain⟨n,hn⟩:∃n,d.names[i]=n:=⟨_,rfl⟩
  rw[hnv]at g hrow
  rw[hn]at hrow
  have hnS:=hnames n (hn▸List.getElem_mem hin)
  have hi0:(0:Int)≤(i:Int):=by omega
  have hi1:(i:Int)<(vals.length:Int):=by omega
  have hi2:(i:Int)+1=((i+1:Nat):Int):=by push_cast;rfl
  obtain⟨na,nc,hne,_⟩:=id hrow
  refine go (an8 s1 s20 s21 s22 r g hi0 hi1) ?_
  refine rc (an4 s1 s20 s21 s22) (ziM v nv n hrow (fun l hl=>by have:=hnS.1 l hl;omega) (by have:=hnS.2;omega)) ?_
  rintro _ v1 ⟨rfl,hE1'⟩
  by_cases hc:zaL n=0
  ·refine rgo (an6 s1 s20 s21 s22 hi2 (decide_eq_true hc)) ?_
   refine⟨rfl,⟨(vq1 s1),(vq1 s20),(vq1 s21),(vq1 hi2)⟩,hE.trans hE1',fun j hj hji=>?_⟩
   by_cases e:j=i
   ·subst e;rw[hn];exact hc
   ·exact hlow j hj (by omega)
  ·refine rgo (an2 s1 (decide_eq_false hc)) ?_
   refine zaf (.inr rfl) Tryz.ntmps221 rfl (zac (vr0) zae) ?_
   have hfind:d.names.find? (fun n=>decide (zaL n≠0))=some n:=by
    rw[List.find?_eq_some_iff_getElem]
    refine⟨decide_eq_true hc,i,hin,hn,fun j hj=>?_⟩
    simp[hlow j (by omega) hj]
   rw[hfind]
   exact⟨rfl,hEv.trans hE1'⟩
 rintro σ v r ⟨⟨s1,s20,s21,s22⟩,hE,hlow⟩
 have hnone:d.names.find? (fun n=>decide (zaL n≠0))=Option.none:=by
  rw[List.find?_eq_none]
  intro n hn
  obtain⟨j,hj,rfl⟩:=List.mem_iff_getElem.1 hn
  simp[hlow j hj (by omega)]
 rw[hnone]
 simp only
 have hEv:=hE12.trans hE
 have hAv:=Ext.at (hE2.trans hE) hA
 have u0:zad v (some ⟨w.heap.size,0,Option.none⟩)=some (vi d.ty):=zaa hAv rfl
 have u2:zad v (some ⟨w.heap.size,2,Option.none⟩)=some (.slice au d.nums.length cu):=zaa hAv rfl
 have u3:zad v (some ⟨w.heap.size,3,Option.none⟩)=some (.slice at1 d.texts.length ct):=zaa hAv rfl
 have u4:zad v (some ⟨w.heap.size,4,Option.none⟩)=some (.slice ar d.raw.length cr):=zaa hAv rfl
 refine go (an5 s1 s20 s21 s22 r) ?_
 obtain⟨tt,htt⟩:∃tt,decide (d.ty=15∧65535<d.nums.headD 0)=tt:=⟨_,rfl⟩
 refine zas (Q:=fun e σ' ds' v'=>e= .normal∧ds'=[]∧v=v'∧σ' 1= .pointer (some ⟨w.heap.size,0,Option.none⟩)∧σ' 32= .bool tt) ?_ ?_
 ·by_cases c3:d.ty=15
  ·have hn1:d.nums.length=1:=by
    unfold zb2 at hf
    simp only[Bool.and_eq_true,decide_eq_true_eq]at hf
    have h2:=hf.1.1.2
    rw[c3]at h2
    have h3:(zaJ 15).2.1=1:=rfl
    rw[h3]at h2
    omega
   obtain⟨x,hx⟩:∃x,d.nums[0]'(by omega)=x:=⟨_,rfl⟩
   have hhd:d.nums.headD 0=x:=by
    cases hnn:d.nums with
    |nil=>rw[hnn]at hn1;cases hn1
    |cons a l=>simp[hnn]at hx;simpa using hx
   have gu:=zab hEv (hgu 0 (by rw[List.length_map];omega))
   rw[List.getElem_map,hx,zam]at gu
   obtain⟨xU,rfl⟩:∃x,au=some x:=by
    cases au with
    |none=>cases gu
    |some x=>exact⟨x,rfl⟩
   have n0:(0:Int)<(d.nums.length:Int):=by omega
   have d2:decide ((65535:Int)<x)=tt:=by rw[←htt,hhd];exact decide_eq_decide.2 ⟨fun h=>⟨c3,h⟩,fun h=>h.2⟩
   refine rgg [(3,36)] (an9 s1 u0 u2 (decide_eq_true c3) gu n0 d2 (Nat.add_zero 0) (an4 (Nat.zero_add 2) Int.toNat_zero (Nat.zero_mul 1) (zam (some xU)))) ?_
   exact⟨rfl,rfl,rfl,(vq1 s1),vr0⟩
  ·have d2:tt=false:=by rw[←htt];exact decide_eq_false fun h=>c3 h.1
   subst d2
   refine rgg [(3,36)] (an4 s1 u0 (decide_eq_false c3) (Nat.add_zero 0)) ?_
   exact⟨rfl,rfl,rfl,(vq1 s1),vr0⟩
 rintro _ σ1 _ v1 ⟨rfl,rfl,hv1,g1,g32⟩
 subst hv1
 cases tt with
 |true=>
  rw[if_pos (of_decide_eq_true htt)]
  refine go (an2 g1 g32) ?_
  refine zaf (.inr rfl) Tryz.ntmps221 rfl (zac (vr0) zae) ?_
  exact⟨rfl,hEv⟩
 |false=>
 rw[if_neg (of_decide_eq_false htt)]
 have htx':=hS.tx
 by_cases c4:1024<d.raw.length
 ·have d4:decide ((1024:Int)<(d.raw.length:Int))=true:=decide_eq_true (by omega)
  rw[if_pos (.inl c4)]
  refine go (an5 g1 g32 u4 d4 (Nat.zero_add 4)) ?_
  refine zaf (.inr rfl) Tryz.ntmps221 rfl (zac (vr0) zae) ?_
  exact⟨rfl,hEv⟩
 have d4:decide ((1024:Int)<(d.raw.length:Int))=false:=decide_eq_false (by omega)
 refine go (an5 g1 g32 u4 d4 (Nat.zero_add 4)) ?_
 refine rc (an3 g1 u3 (Nat.zero_add 3)) (zju (htx.ext hEv) (by have:=hS.nt;omega) fun t ht=>by have:=htx' t ht;omega) ?_
 rintro _ v2 ⟨rfl,hE3⟩
 cases hlt:zep d.texts with
 |true=>
  rw[if_pos (.inr rfl)]
  refine rgo trivial ?_
  refine zaf (.inr rfl) Tryz.ntmps221 rfl (zac (vr0) zae) ?_
  exact⟨rfl,hEv.trans hE3⟩
 |false=>
  rw[if_neg (fun h=>by rcases h with h|h;exact c4 h;cases h)]
  refine rgo trivial ?_
  refine zaf (.inr rfl) Tryz.ntmps221 rfl (zac (vr0) zae) ?_
  exact⟨rfl,hEv.trans hE3⟩
def zhe(t:Int)(n:Nat):Bool:=if (zaJ t).2.2.1<0 then decide (1≤(n:Int)) && decide ((n:Int)≤32) else if 0<(zaJ t).2.2.2 then decide ((n:Int)=1) else if (zaJ t).2.2.2<0 then false else decide ((n:Int)=(zaJ t).1+(zaJ t).2.1)
theorem shape_lt(t:Int):0≤(zaJ t).1∧(zaJ t).1≤5∧0≤(zaJ t).2.1∧(zaJ t).2.1≤5:=by
 unfold zaJ
 (repeat' split)<;>decide
theorem zfQ{W0 w:World}{b:Nat}{ws:List (Lab×Bool)}{ov:Value}{e:Int}(h:Rdr W0 w b ws ov e)(t:Int):Fn Tryz.prog 222 #[.pointer (some ⟨b,0,Option.none⟩),vi t] w (fun v w'=>v= .bool (zhe t ws.length)∧Ext w w'):=by
  obtain⟨wv,hb,hr⟩:=h.at'
  obtain⟨wa,wc,rfl,_,_⟩:=hr.open
  obtain⟨n,hn⟩:∃n,ws.length=n:=⟨_,rfl⟩
  rw[hn]at hb ⊢
  have hsl:=shape_lt t
  obtain⟨⟨a,c,x,r⟩,hsh⟩:∃x,zaJ t=x:=⟨_,rfl⟩
  unfold zhe
  rw[hsh]at hsl ⊢
  simp only at hsl ⊢
  refine enter Tryz.func222 Tryz.ntmps222 rfl rfl ?_
  refine go trivial ?_
  refine rq ?_;intro gd K hgd hK
  try simp only[go_sem]
  refine Fn.mono (zl9 w t) ?_
  rintro _ w2 ⟨rfl,hE2⟩
  rw[hsh]
  unfold zgz
  simp only
  try simp only[go_sem]
  refine zbm (P:=Tryz.prog) (l:=[vi a,vi c,vi x,vi r]) rfl (ze9 _ _ _ _) rfl rfl ?_
  intro w3 hE3 hs3 hB3
  try simp only[go_sem]
  refine hK _ _ ?_;clear hK hgd;clear K;try clear gd
  have hE:=hE2.trans hE3
  have c0:zad w3 (some ⟨b,0,Option.none⟩)=some (.slice wa n wc):=zaa (Ext.at hE hb) rfl
  have k0:zad w3 (some ⟨w2.heap.size,0,Option.none⟩)=some (vi a):=za2 (j:=0) hB3 rfl
  have k1:zad w3 (some ⟨w2.heap.size,1,Option.none⟩)=some (vi c):=za2 (j:=1) hB3 rfl
  have k2:zad w3 (some ⟨w2.heap.size,2,Option.none⟩)=some (vi x):=za2 (j:=2) hB3 rfl
  have k3:zad w3 (some ⟨w2.heap.size,3,Option.none⟩)=some (vi r):=za2 (j:=3) hB3 rfl
  by_cases hx:x<0
  · rw[if_pos hx]
    refine go (an3 k2 (decide_eq_true hx) (Nat.zero_add 2)) ?_
    obtain⟨b1,hb1⟩:∃t,decide (1≤(n:Int))=t:=⟨_,rfl⟩
    obtain⟨b2,hb2⟩:∃t,decide ((n:Int)≤32)=t:=⟨_,rfl⟩
    rw[hb1,hb2]
    cases b1<;>cases b2<;>
      (refine rgg [(6,18)] (an4 c0 hb1 hb2 (Nat.add_zero 0)) ?_
       refine go trivial ?_
       refine zaf (.inr rfl) Tryz.ntmps222 rfl (zac (vr0) zae) ?_
       exact⟨rfl,hE⟩)
  rw[if_neg hx]
  by_cases hr1:0<r
  · rw[if_pos hr1]
    refine go (an9 k2 (decide_eq_false hx) (Nat.zero_add 2) k3 (decide_eq_true hr1) (Nat.zero_add 3) c0 (Nat.add_zero 0) trivial) ?_
    refine zaf (.inr rfl) Tryz.ntmps222 rfl (zac (vr0) zae) ?_
    exact⟨rfl,hE⟩
  rw[if_neg hr1]
  by_cases hr2:r<0
  · rw[if_pos hr2]
    refine go (an8 k2 (decide_eq_false hx) (Nat.zero_add 2) k3 (decide_eq_false hr1) (Nat.zero_add 3) (decide_eq_true hr2) trivial) ?_
    refine zaf (.inr rfl) Tryz.ntmps222 rfl (zac (vr0) zae) ?_
    exact⟨rfl,hE⟩
  rw[if_neg hr2]
  refine go (an8 k2 (decide_eq_false hx) (Nat.zero_add 2) k3 (decide_eq_false hr1) (Nat.zero_add 3) (decide_eq_false hr2) trivial) ?_
  refine zaF (fun _=>false) [(0,true),(1,true),(2,true),(3,true),(4,true),(5,true),(6,true),(7,true),(8,true),(9,true),(10,true),(11,true)] NoS mixed (by kernel_rfl) ?_;intro gd K x hgd hx hxe hK;have hx0:=zaT hxe;clear hxe
  have c0x:=zab hx0 c0
  have k0x:=zab hx0 k0
  have k1x:=zab hx0 k1
  simp (disch:=first|omega|assumption|rfl) only[go_sem,c0x,k0x,k1x,Nat.add_zero,Nat.zero_add]
  refine hK _ _ ?_;clear hK hgd;clear K;try clear gd
  refine go trivial ?_
  refine zaf (.inr rfl) Tryz.ntmps222 rfl (zac (vr0) zae) ?_
  exact⟨rfl,hE.trans hx0⟩
theorem zem(t:Int)(a b c d:Value)(ha:one a=true)(hb:one b=true)(hc:one c=true)(hd:one d=true):∀v∈ [vi t,a,b,c,d],one v=true:=fun v h=>by
 simp at h
 rcases h with rfl|rfl|rfl|rfl|rfl<;>first|rfl|assumption
theorem own1_ok{W0 w:World}{b:Nat}{t:Lab}{q:Bool}{ov:Value}{e:Int}{ps:List Lab}(hW:WX W0)(h:Rdr W0 w b [(t,q)] ov e)(ht:t.length≤1000000)(hsp:SplP t ps)(hpl:ps.length≤1000000)(hpx:∀p∈ps,p.length≤1000000):
  Fn Tryz.prog 194 #[.pointer (some ⟨b,0,Option.none⟩),vi 1] w (fun v w'=>(∃rv,v= .agg #[vi 1,.slice Option.none 0 0,.slice Option.none 0 0,.slice Option.none 0 0,rv]∧Own w.heap.size w' 5 rv (ps.map octP))∧Rdr W0 w' b [] ov (zkW (if ps.length=4 then(if q=true then zbL e 2 else e) else zbL (if q=true then zbL e 2 else e) 2) ps)∧Keep (fun i=>i=b) w w'):=by
 have hbl:=h.lt
 have hlow:=h.low
 refine enter Tryz.func194 Tryz.ntmps194 rfl rfl ?_
 refine go trivial ?_
 refine zan ?_
 intro w1 hE1 hs1 hA
 refine rq ?_;intro gd K hgd hK
 try simp only[go_sem]
 refine⟨by kernel_rfl,?_⟩
 rw[show bdV Tryz.prog 47 [(0,vi 1)]=some (.agg #[vi 1,.slice Option.none 0 0,.slice Option.none 0 0,.slice Option.none 0 0,.slice Option.none 0 0]) from by kernel_rfl]
 try simp only[go_sem]
 refine zbm (P:=Tryz.prog) (l:=[vi 1,.slice Option.none 0 0,.slice Option.none 0 0,.slice Option.none 0 0,.slice Option.none 0 0]) rfl (zem _ _ _ _ _ rfl rfl rfl rfl) rfl rfl ?_
 intro w2 hE2 hs2 hB2
 try simp only[go_sem]
 refine hK _ _ ?_;clear hK hgd;clear K;try clear gd
 rw[hs1]at hB2
 simp only[hs1]
 have hR2:=(h.extx hE1).extx hE2
 refine go trivial ?_
 refine rc trivial (zfQ hR2 1) ?_
 rintro _ w3 ⟨rfl,hE3⟩
 rw[show zhe 1 ([(t,q)]:List (Lab×Bool)).length=true from rfl]
 have d1:decide ((1:Int)=1)=true:=rfl
 refine rgo d1 ?_
 have hR3:=hR2.extx hE3
 have hs3:=hE3.size
 refine rq ?_;intro gd K hgd hK
 try simp only[go_sem]
 refine Fn.mono (zla hW hR3 (by simp) ht hsp hpl hpx) ?_
 rintro rv w4 ⟨hown,hR4,hk4⟩
 obtain⟨ra,rc',hrv⟩:=hown.slice
 have hs4:=hk4.size
 have hB4:=(hk4.block (w.heap.size+1) (by omega) (by omega)).trans (Ext.at hE3 hB2)
 try simp (disch:=first|omega|assumption|rfl) only[go_sem,Nat.zero_add]
 refine zdc (P:=Tryz.prog) (t:=43) (j:=4) (u:=rv) hB4 (by simp) (by rw[hrv];rfl) rfl rfl ?_
 intro w5 hs5 hB5 hk5
 try simp only[go_sem]
 refine hK _ _ ?_;clear hK hgd;clear K;try clear gd
 simp only[List.set_cons_zero,List.set_cons_succ]at hB5
 have q5:=zal (n:=5) hB5 rfl
 refine go trivial ?_
 refine rq ?_;intro gd K hgd hK
 try simp (disch:=first|omega|assumption|rfl) only[go_sem,q5]
 have hA5:w5.heap[w.heap.size]? =_:=(hk5.block _ (by omega) (by omega)).trans ((hk4.block _ (by omega) (by omega)).trans (Ext.at (hE2.trans hE3) hA))
 refine zaR (P:=Tryz.prog) (t:=47) (l:=[vi 1,.slice Option.none 0 0,.slice Option.none 0 0,.slice Option.none 0 0,rv]) hA5 rfl (zem _ _ _ _ _ rfl rfl rfl (by rw[hrv];rfl)) rfl rfl ?_
 intro w6 hs6 hB6 hk6
 try simp only[go_sem]
 refine hK _ _ ?_;clear hK hgd;clear K;try clear gd
 refine go trivial ?_
 refine zaf (.inr rfl) Tryz.ntmps194 rfl (zaW (x:=⟨w.heap.size,0,Option.none⟩) (k:=5) (vr0) rfl rfl (zal hB6 rfl) zae) ?_
 have hE13:=(hE1.trans hE2).trans hE3
 refine⟨⟨rv,rfl,((hown.keep hk5 fun i hi hs=>by have:=(hown.ge hi).1;omega).keep hk6 fun i hi hs=>by have:=(hown.ge hi).1;omega).mono (by omega)⟩,(hR4.keep hk5 fun i hi=>by omega).keep hk6 fun i hi=>by omega,?_⟩
 exact((((hE13.mono fun _ _ h=>h.elim):Keep (fun i=>i=b) w w3).trans hk4).own hk5 fun i hi h=>by omega).own hk6 fun i hi h=>by omega
def untT(t:Lab):Lab:=(unD [] 0 t []).1
def zis(e:Int)(ws:List (Lab×Bool)):Int:=ws.foldl (fun e x=>zbL e (errT x.1)) e
theorem own16_ok{W0 w:World}{b:Nat}{ws:List (Lab×Bool)}{ov:Value}{e:Int}(h:Rdr W0 w b ws ov e)(h1:1≤ws.length)(h32:ws.length≤32)(hx:∀x∈ws,x.1.length≤1000000000):
  Fn Tryz.prog 194 #[.pointer (some ⟨b,0,Option.none⟩),vi 16] w (fun v w'=>(∃tv,v= .agg #[vi 16,.slice Option.none 0 0,.slice Option.none 0 0,tv,.slice Option.none 0 0]∧Own w.heap.size w' 9 tv ((ws.map fun x=>untT x.1).map vs))∧Rdr W0 w' b [] ov (zis e ws)∧Keep (fun i=>i=b) w w'):=by
 have hbl:=h.lt
 have hlow:=h.low
 refine enter Tryz.func194 Tryz.ntmps194 rfl rfl ?_
 refine go trivial ?_
 refine zan ?_
 intro w1 hE1 hs1 hA
 refine rq ?_;intro gd K hgd hK
 try simp only[go_sem]
 refine⟨by kernel_rfl,?_⟩
 rw[show bdV Tryz.prog 47 [(0,vi 16)]=some (.agg #[vi 16,.slice Option.none 0 0,.slice Option.none 0 0,.slice Option.none 0 0,.slice Option.none 0 0]) from by kernel_rfl]
 try simp only[go_sem]
 refine zbm (P:=Tryz.prog) (l:=[vi 16,.slice Option.none 0 0,.slice Option.none 0 0,.slice Option.none 0 0,.slice Option.none 0 0]) rfl (zem _ _ _ _ _ rfl rfl rfl rfl) rfl rfl ?_
 intro w2 hE2 hs2 hB2
 try simp only[go_sem]
 refine hK _ _ ?_;clear hK hgd;clear K;try clear gd
 rw[hs1]at hB2
 simp only[hs1]
 have hR2:=(h.extx hE1).extx hE2
 refine go trivial ?_
 refine rc trivial (zfQ hR2 16) ?_
 rintro _ w3 ⟨rfl,hE3⟩
 have hmany:zhe 16 ws.length=true:=by
  unfold zhe
  rw[if_pos (by decide),decide_eq_true (by omega),decide_eq_true (by omega)]
  rfl
 rw[hmany]
 have d1:decide ((16:Int)=1)=false:=rfl
 have d2:decide ((16:Int)=28)=false:=rfl
 have d3:decide ((16:Int)=16)=true:=rfl
 refine rgo (an3 d1 d2 d3) ?_
 have hR3:=hR2.extx hE3
 have hs3:=hE3.size
 have hB3:=Ext.at hE3 hB2
 obtain⟨P,hP⟩:∃P,w.heap.size+1=P:=⟨_,rfl⟩
 rw[hP]at hB3 ⊢
 have hP3:P<w3.heap.size:=(Array.getElem?_eq_some_iff.1 hB3).1
 refine zas (Q:=fun e' σ' ds' v'=>e'= .exit 5∧ds'=[]∧(σ' 4= .pointer (some ⟨w.heap.size,0,Option.none⟩)∧σ' 5= .pointer (some ⟨P,0,Option.none⟩))∧Rdr W0 v' b [] ov (zis e ws)∧Keep (fun i=>i=b∨i=P) w3 v'∧∃tv,v'.heap[P]? =some (.cells [vi 16,.slice Option.none 0 0,.slice Option.none 0 0,tv,.slice Option.none 0 0].toArray 47 (0,0))∧Own w3.heap.size v' 9 tv ((ws.map fun x=>untT x.1).map vs)) ?_ ?_
 ·refine zaD (fun m σ ds v=>ds=[]∧∃j,j+m=ws.length∧(σ 0= .pointer (some ⟨b,0,Option.none⟩)∧σ 4= .pointer (some ⟨w.heap.size,0,Option.none⟩)∧σ 5= .pointer (some ⟨P,0,Option.none⟩))∧Rdr W0 v b (ws.drop j) ov (zis e (ws.take j))∧Keep (fun i=>i=b∨i=P) w3 v∧∃tv,v.heap[P]? =some (.cells [vi 16,.slice Option.none 0 0,.slice Option.none 0 0,tv,.slice Option.none 0 0].toArray 47 (0,0))∧Own w3.heap.size v 9 tv (((ws.take j).map fun x=>untT x.1).map vs)) ws.length ?_ ?_
  ·exact⟨rfl,0,by omega,⟨vr0,vr0,vr0⟩,hR3,Keep.refl _ _,_,hB3,Own.nil _ _ _⟩
  rintro m σ ds v ⟨rfl,j,hjm,⟨s0,s4,s5⟩,hR,hk,tv,hBP,hown⟩
  obtain⟨wv,hb,hr⟩:=hR.at'
  obtain⟨aw,cw,rfl,_,_⟩:=hr.open
  have c0:zad v (some ⟨b,0,Option.none⟩)=some (.slice aw (ws.drop j).length cw):=zaa hb rfl
  by_cases hj:j<ws.length
  ·have g1:decide ((0:Int)<((ws.drop j).length:Int))=true:=decide_eq_true (by rw[List.length_drop];omega)
   obtain⟨⟨u,q⟩,hu⟩:∃x,ws[j]=x:=⟨_,rfl⟩
   have hul:=hx (u,q) (hu▸List.getElem_mem hj)
   have hR':=hR
   rw[List.drop_eq_getElem_cons hj,hu]at hR'
   have q3:zad v (some ⟨P,3,Option.none⟩)=some tv:=za2 (j:=3) hBP rfl
   have hPv:P<v.heap.size:=(Array.getElem?_eq_some_iff.1 hBP).1
   have hlt:=hR.lt
   have hkv:=hk.size
   refine go (an6 s0 s4 s5 c0 g1 (Nat.add_zero 0)) ?_
   refine zaF (fun i=>i==7) [(0,true),(1,true),(2,true),(3,false),(4,false),(5,false),(6,true),(7,false)] ((fun i=>i=b∨some i=tv.ownBlock)) mixed (by kernel_rfl) ?_;intro gd K x hgd hx hxe hK;have hx0:=zaT hxe;clear hxe
   have q3x:=zab hx0 q3
   have hsx:=hx0.size
   simp (disch:=first|omega|assumption|rfl) only[go_sem,s0,s5,q3x,Nat.zero_add]
   refine⟨fun a ha hb'=>by cases ha;rcases hb' with hb'|hb';(· dsimp only at hb';omega);(· have:=(hown.ge hb').1;dsimp only at this;omega),?_⟩
   refine Fn.mono (text_ok (hR'.extx hx0) (by rw[List.length_drop];omega) hul) ?_
   rintro _ y1 ⟨rfl,hR1,hk1⟩
   refine⟨.inr (hk1.mono fun i _ h=> .inl h),?_⟩
   simp (disch:=first|omega|assumption|rfl) only[go_sem]
   refine zbk (z:=vs []) rfl rfl rfl rfl rfl ?_
   intro y2 hy2 hys2 hyo
   refine⟨.inr hy2.keep,?_⟩
   simp (disch:=first|omega|assumption|rfl) only[go_sem]
   have hsy1:=hk1.size
   have hsy2:=hy2.size
   have hownx:Own w3.heap.size y2 9 tv (((ws.take j).map fun x=>untT x.1).map vs):=((hown.ext hx0).keep hk1 fun i hi hs=>by have:=(hown.ge hi).1;omega).ext hy2
   refine za8 (e:=9) hownx hyo.row rfl rfl rfl rfl rfl rfl (vr0) (vr0) (fun q hq=>by simp at hq;subst hq;rfl) (by simp;omega) (by decide) (by omega) ?_
   intro sv' y3 hown3 hX3 hK3 hb3'
   refine⟨.inr (hK3.mono fun i _ h=> .inr h),?_⟩
   simp (disch:=first|omega|assumption|rfl) only[go_sem,s5,Nat.zero_add]
   have hsK:=hK3.size
   have hBP3:y3.heap[P]? =_:=(hK3.block P (by omega) (fun h=>by have:=(hown.ge h).1;omega)).trans ((hy2.block P (by omega) (fun h=>h)).trans ((hk1.block P (by omega) (by omega)).trans (Ext.at hx0 hBP)))
   refine zdc (P:=Tryz.prog) (t:=23) (j:=3) (u:=sv') hBP3 (by simp) (by obtain⟨a,c,rfl⟩:=hown3.slice;rfl) rfl rfl ?_
   intro z hzs hBz hkz
   refine⟨.inl rfl,?_⟩
   simp (disch:=first|omega|assumption|rfl) only[go_sem]
   refine hK _ _ ?_;clear hK hgd;clear K;try clear gd
   simp only[List.set_cons_zero,List.set_cons_succ]at hBz
   refine go (an3 s0 s4 s5) ?_
   have hR2':Rdr W0 y2 b (ws.drop (j+1)) ov (zbL (zis e (ws.take j)) (errT u)):=hR1.extx hy2
   refine⟨m - 1,by omega,rfl,j+1,by omega,⟨(vq1 s0),(vq1 s4),(vq1 s5)⟩,?_,?_,sv',hBz,?_⟩
   ·rw[zak hj,hu]
    unfold zis at hR2' ⊢
    rw[List.foldl_append]
    exact(hR2'.keep hK3 fun i hi=>by have:=(hown.ge hi).1;omega).keep hkz fun i hi=>by omega
   ·have ha:Keep (fun i=>i=b∨i=P) w3 y2:=((hk.trans (hx0.mono fun _ _ h=>h.elim)).trans (hk1.mono fun _ _ h=> .inl h)).trans (hy2.mono fun _ _ h=>h.elim)
    exact(ha.own hK3 fun i hi h=>by have:=(hown.ge h).1;omega).trans (hkz.mono fun _ _ h=> .inr h)
   ·rw[zak hj,hu,List.map_append,List.map_append]
    exact hown3.keep hkz fun i hi hs=>by have:=(hown3.ge hi).1;omega
  ·have g1:decide ((0:Int)<((ws.drop j).length:Int))=false:=decide_eq_false (by rw[List.length_drop];omega)
   refine go (an6 s0 s4 s5 c0 g1 (Nat.add_zero 0)) ?_
   rw[List.drop_of_length_le (by omega)]at hR
   rw[List.take_of_length_le (by omega)]at hR hown
   exact⟨rfl,rfl,⟨(vq1 s4),(vq1 s5)⟩,hR,hk,tv,hBP,hown⟩
 rintro _ σ1 _ w4 ⟨rfl,rfl,⟨s4,s5⟩,hR4,hk4,tv,hB4,hown⟩
 obtain⟨ra,rc',htv⟩:=hown.slice
 have hs4:=hk4.size
 have q5:=zal (n:=5) hB4 rfl
 refine go (an2 s4 s5) ?_
 refine rq ?_;intro gd K hgd hK
 try simp (disch:=first|omega|assumption|rfl) only[go_sem,s4,s5,q5]
 have hA4:w4.heap[w.heap.size]? =_:=(hk4.block _ (by omega) (by omega)).trans (Ext.at (hE2.trans hE3) hA)
 refine zaR (P:=Tryz.prog) (t:=47) (l:=[vi 16,.slice Option.none 0 0,.slice Option.none 0 0,tv,.slice Option.none 0 0]) hA4 rfl (zem _ _ _ _ _ rfl rfl (by rw[htv];rfl) rfl) rfl rfl ?_
 intro w6 hs6 hB6 hk6
 try simp only[go_sem]
 refine hK _ _ ?_;clear hK hgd;clear K;try clear gd
 refine go trivial ?_
 refine zaf (.inr rfl) Tryz.ntmps194 rfl (zaW (x:=⟨w.heap.size,0,Option.none⟩) (k:=5) ((vr1 s4)) rfl rfl (zal hB6 rfl) zae) ?_
 have hE13:=(hE1.trans hE2).trans hE3
 refine⟨⟨tv,rfl,(hown.keep hk6 fun i hi hs=>by have:=(hown.ge hi).1;omega).mono (by omega)⟩,hR4.keep hk6 fun i hi=>by omega,?_⟩
 exact(((hE13.mono fun _ _ h=>h.elim):Keep (fun i=>i=b) w w3).own hk4 fun i hi h=>by omega).own hk6 fun i hi h=>by omega
theorem zkp{w:World}(hW:WY w)(u:Nat)(hu:u<4294967296):Fn Tryz.prog 25 #[.int .u32 (u:Nat)] w (fun v w'=>v=vs (Lib.decDigits u)∧Ext w w'):=by
 refine enter Tryz.func25 Tryz.ntmps25 rfl rfl ?_
 refine go trivial ?_
 refine rc trivial (zcw hW u (by omega)) ?_
 rintro _ w1 ⟨rfl,hE1⟩
 refine rgo trivial ?_
 refine rt0 Tryz.ntmps25 ?_
 exact⟨rfl,hE1⟩
theorem zkq{w:World}{v:Value}{xs:List Lab}{B b:Nat}{acc:Lab}(hR:Row w v (xs.map vs))(hx:xs.length≤1000000)(hl:zaG xs≤1000000000)(hB:Bld B w b acc)(hBw:B≤w.heap.size)(hacc:acc.length≤50000000000):
  Fn Tryz.prog 22 #[v,.pointer (some ⟨b,0,Option.none⟩)] w (fun _ w'=>Bld B w' b (acc++(zaM [32] xs++ [10]))∧Keep (fun i=>i=b∨B≤i) w w'):=by
 have hj:=za4 [32] xs
 rw[show ([32]:Lab).length=1 from rfl]at hj
 refine enter Tryz.func22 Tryz.ntmps22 rfl rfl ?_
 refine rc trivial (zeZ (sep:=[32]) hR hx (by decide) (by decide) hl) ?_
 rintro _ w1 ⟨rfl,hE1⟩
 have l1:(zaM [32] xs).length+([10]:Lab).length≤9223372036854775807:=by simp;omega
 have hs1:=hE1.size
 refine rd l1 (zaU (s:=zaM [32] xs++ [10]) (hB.ext' hE1) (by omega) (by rw[List.length_append,show([10]:Lab).length=1 from rfl];omega)) ?_
 rintro _ w2 ⟨hB2,hk2⟩
 refine rgo trivial ?_
 exact zaw (by simp) rfl ⟨hB2,(hE1.mono fun _ _ h=>h.elim).trans hk2⟩
end Go.Proofs.YtkpdfhbpdkifoaaGreatDoor
namespace Go.Proofs.YtkpdfhbpdkifoaaGreatDoor.M32
open Go Go.Proofs.YtkpdfhbpdkifoaaGreatDoor
abbrev v32(n:Int):Value:= .int .u32 n
def MapAt(w:World)(r:Nat)(l:List (Int×Value)):Prop:=
 ∃es clk,w.heap[r]? =some (.map es clk)∧es.toList.map (fun e=>(e.key,e.val))=l.map (fun p=>(v32 p.1,p.2))∧(es.toList.map (·.born)).Pairwise (·≠·)∧(∀e∈es.toList,e.born<clk)
theorem MapAt.block{w x:World}{r:Nat}{l:List (Int×Value)}(h:MapAt w r l)(hb:x.heap[r]? =w.heap[r]?):MapAt x r l:=by
 obtain⟨es,clk,h1,h2⟩:=h
 exact⟨es,clk,hb.trans h1,h2⟩
theorem zdh(a b:Int):Instr.sameNow (.int .u32) (v32 a) (v32 b)=some (a==b):=by
 simp[Instr.sameNow]
theorem zcE{key:Int}:∀(es:List MapEntry) (l:List (Int×Value)) (i:Nat),es.map (fun e=>(e.key,e.val))=l.map (fun p=>(v32 p.1,p.2))→l.lookup key=Option.none→Instr.findNow (.int .u32) (v32 key) es i=some Option.none
 | [],[],_,_,_=>rfl
 | [],_::_,_,h,_=>by simp at h
 |_::_,[],_,h,_=>by simp at h
 |e::es,(k,v)::l,i,h,hl=>by
  simp only[List.map_cons,List.cons.injEq,Prod.mk.injEq]at h
  obtain⟨⟨h1,h2⟩,h3⟩:=h
  simp only[List.lookup_cons]at hl
  split at hl
  ·cases hl
  ·rename_i hne
   simp only[Instr.findNow,h1,zdh,hne]
   exact zcE es l (i+1) h3 hl
theorem zex{key:Int}{v:Value}:∀(es:List MapEntry) (l:List (Int×Value)) (i:Nat),es.map (fun e=>(e.key,e.val))=l.map (fun p=>(v32 p.1,p.2))→l.lookup key=some v→∃j,Instr.findNow (.int .u32) (v32 key) es i=some (some (j,v))
 | [],[],_,_,h=>by simp at h
 | [],_::_,_,h,_=>by simp at h
 |_::_,[],_,h,_=>by simp at h
 |e::es,(k,u)::l,i,h,hl=>by
  simp only[List.map_cons,List.cons.injEq,Prod.mk.injEq]at h
  obtain⟨⟨h1,h2⟩,h3⟩:=h
  simp only[List.lookup_cons]at hl
  split at hl
  ·rename_i heq
   cases hl
   exact⟨i,by simp only[Instr.findNow,h1,zdh,heq,h2]⟩
  ·rename_i hne
   simp only[Instr.findNow,h1,zdh,hne]
   exact zex es l (i+1) h3 hl
def setK(key:Int)(v:Value):List (Int×Value)→List (Int×Value)
 | []=>[]
 |p::l=>if key==p.1 then(p.1,v)::l else p::setK key v l
theorem zj3{key:Int}{u v:Value}:∀(es:List MapEntry) (l:List (Int×Value)) (i:Nat),es.map (fun e=>(e.key,e.val))=l.map (fun p=>(v32 p.1,p.2))→l.lookup key=some u→
  ∃j e,Instr.findNow (.int .u32) (v32 key) es i=some (some (i+j,u))∧es[j]? =some e∧e.key=v32 key∧(es.set j {e with key:=v32 key,val:=v}).map (fun e=>(e.key,e.val))=(setK key v l).map (fun p=>(v32 p.1,p.2))
 | [],[],_,_,h=>by simp at h
 | [],_::_,_,h,_=>by simp at h
 |_::_,[],_,h,_=>by simp at h
 |e::es,(k,x)::l,i,h,hl=>by
  simp only[List.map_cons,List.cons.injEq,Prod.mk.injEq]at h
  obtain⟨⟨h1,h2⟩,h3⟩:=h
  simp only[List.lookup_cons]at hl
  split at hl
  ·rename_i heq
   cases hl
   have hk:key=k:=by simpa using heq
   subst hk
   refine⟨0,e,by simp only[Instr.findNow,h1,zdh,heq,h2];rfl,rfl,h1,?_⟩
   simp[setK,h3]
  ·rename_i hne
   obtain⟨j,e',g1,g2,g3,g4⟩:=zj3 (v:=v) es l (i+1) h3 hl
   refine⟨j+1,e',?_,g2,g3,?_⟩
   ·simp only[Instr.findNow,h1,zdh,hne,g1]
    rw[show i+1+j=i+(j+1) by omega]
   ·simp only[List.set_cons_succ,List.map_cons,g4,setK,hne]
    simp[h1,h2]
section
variable {P : Program} {d : Option Tmp} {ty : TypeId} {ps : String} {af : Array Edge} {g : Option (Nat × Bool)} {ρ : Operand → Value} {w : World} {K : Value → World → Prop}
theorem zdq{kt:TypeId}(hk:tyU P kt=some (.int .u32))(n:Nat)(e:Bool)(key:Int):(Instr.checkKey e (n+1) kt (v32 key)).run P w= .ok () w:=by
 simp[Instr.checkKey,run_underlying (show P.underlying kt=_ from hk)]
theorem lk_run{r:Nat}{l:List (Int×Value)}(h:MapAt w r l){t kt et:TypeId}{z:Value}{inf:TypeInfo}(ht:tyU P t=some (.map kt et))(hk:tyU P kt=some (.int .u32))(hi:P.info? et=some inf)(hz:inf.zero=some z)(key:Int):
  (Instr.lookup t (.map (some r)) (v32 key) false).run P w= .ok ((l.lookup key).getD z) w:=by
 obtain⟨es,clk,h1,h2,_⟩:=h
 have hck:∀e,(Instr.checkKey e 10000 kt (v32 key)).run P w= .ok () w:=fun e=>zdq hk 9999 e key
 cases hl:l.lookup key with
 |none=>
  have hf:=zcE _ _ 0 h2 hl
  simp[Instr.lookup,run_underlying (show P.underlying t=_ from ht),MapKept.run_getObj_map h1,hck,Instr.findKey,run_underlying (show P.underlying kt=_ from hk),hf,zeroValue,typeInfo,hi,hz,Result.andThen]
 |some v=>
  obtain⟨j,hj⟩:=zex _ _ 0 h2 hl
  simp[Instr.lookup,run_underlying (show P.underlying t=_ from ht),MapKept.run_getObj_map h1,hck,Instr.findKey,run_underlying (show P.underlying kt=_ from hk),hj,zeroValue,typeInfo,hi,hz,Result.andThen]
theorem op_mapUpdate{t kt et:TypeId}{m k x:Operand}{r:Nat}{l:List (Int×Value)}{key:Int}{v:Value}(ht:tyU P t=some (.map kt et))(hk:tyU P kt=some (.int .u32))
  (hm:ρ m= .map (some r)) (hkey:ρ k=v32 key) (hx:ρ x=v) (hat:MapAt w r l) (hno:l.lookup key=Option.none)
  (h:∀w',MapAt w' r (l++ [(key,v)])→Keep (fun i=>i=r) w w'→w'.heap.size=w.heap.size→K undef w'):
  opW P ⟨d,.mapUpdate t m k x,ty,ps,af,g⟩ ρ w K:=by
 obtain⟨es,clk,h1,h2,h3,h4⟩:=hat
 have hf:=zcE es.toList l 0 h2 hno
 have hrun:(Instr.mapUpdate t (.map (some r)) (v32 key) v).run P w= .ok () (w.putObj r (.map (es.push {key:=v32 key,val:=v,born:=clk}) (clk+1))):=by
  have hck:∀e,(Instr.checkKey e 10000 kt (v32 key)).run P w= .ok () w:=fun e=>zdq hk 9999 e key
  simp[Instr.mapUpdate,run_underlying (show P.underlying t=_ from ht),MapKept.run_getObj_map h1,hck,Instr.findKey,run_underlying (show P.underlying kt=_ from hk),hf,MapKept.run_setObj_map _ h1,Result.andThen]
  rfl
 have hlt:r<w.heap.size:=(Array.getElem?_eq_some_iff.1 h1).1
 have hat':MapAt (w.putObj r (.map (es.push {key:=v32 key,val:=v,born:=clk}) (clk+1))) r (l++ [(key,v)]):=by
  refine⟨_,_,World.putObj_heap_same hlt,by simp[h2],?_,?_⟩
  ·simp only[Array.toList_push,List.map_append,List.map_cons,List.map_nil,List.pairwise_append]
   refine⟨h3,by simp,fun a ha b hb=>?_⟩
   simp at hb;subst hb
   obtain⟨e,he,rfl⟩:=List.mem_map.1 ha
   exact Nat.ne_of_lt (h4 e he)
  ·intro e he
   simp only[Array.toList_push,List.mem_append,List.mem_singleton]at he
   rcases he with he|rfl
   ·exact Nat.lt_succ_of_lt (h4 e he)
   ·exact Nat.lt_succ_self _
 have hfin:=h _ hat' (zaK rfl) (by simp)
 show opR P K ((do Instr.mapUpdate t (ρ m) (ρ k) (ρ x);pure .skip:Sem Next).run P w)
 rw[hm,hkey,hx]
 simp only[Sem.run_bind,hrun,Result.andThen_ok,Sem.run_pure]
 exact hfin
theorem op_mapTurn{t kt et:TypeId}{m k x:Operand}{r:Nat}{l:List (Int×Value)}{key:Int}{u v:Value}(ht:tyU P t=some (.map kt et))(hk:tyU P kt=some (.int .u32))
  (hm:ρ m= .map (some r)) (hkey:ρ k=v32 key) (hx:ρ x=v) (hat:MapAt w r l) (hin:l.lookup key=some u)
  (h:∀w',MapAt w' r (setK key v l)→Keep (fun i=>i=r) w w'→w'.heap.size=w.heap.size→K undef w'):
  opW P ⟨d,.mapUpdate t m k x,ty,ps,af,g⟩ ρ w K:=by
 obtain⟨es,clk,h1,h2,h3,h4⟩:=hat
 obtain⟨j,e,hf,hj,hek,hset⟩:=zj3 (v:=v) es.toList l 0 h2 hin
 rw[Nat.zero_add]at hf
 have hj':es[j]? =some e:=by simpa using hj
 have hrun:(Instr.mapUpdate t (.map (some r)) (v32 key) v).run P w= .ok () (w.putObj r (.map (es.modify j fun e=>{e with key:=v32 key,val:=v}) clk)):=by
  have hck:∀e,(Instr.checkKey e 10000 kt (v32 key)).run P w= .ok () w:=fun e=>zdq hk 9999 e key
  have hst:(Instr.keyThatStays (v32 key) (v32 key)).run P w= .ok (v32 key) w:=MapKept.run_keyThatStays (d:= .int .u32) (by unfold MapKept.IsKey;first|exact⟨_,rfl⟩|rfl|simp[v32])
  simp[Instr.mapUpdate,run_underlying (show P.underlying t=_ from ht),MapKept.run_getObj_map h1,hck,Instr.findKey,run_underlying (show P.underlying kt=_ from hk),hf,hj',hek,hst,MapKept.run_setObj_map _ h1,Result.andThen]
  rfl
 have hlt:r<w.heap.size:=(Array.getElem?_eq_some_iff.1 h1).1
 have hmod:(es.modify j fun e=>{e with key:=v32 key,val:=v}).toList=es.toList.set j {e with key:=v32 key,val:=v}:=by
  apply List.ext_getElem?
  intro i
  rw[Array.getElem?_toList,Array.getElem?_modify,List.getElem?_set]
  by_cases hi:j=i
  ·subst hi
   rw[if_pos rfl,if_pos rfl,hj',if_pos (by have:=(List.getElem?_eq_some_iff.1 hj).1;exact this)]
   rfl
  ·rw[if_neg hi,if_neg hi,Array.getElem?_toList]
 have hborn:(es.toList.set j {e with key:=v32 key,val:=v}).map (·.born)=es.toList.map (·.born):=by
  rw[List.map_set]
  apply List.ext_getElem?
  intro i
  rw[List.getElem?_set]
  by_cases hi:j=i
  ·subst hi
   rw[if_pos rfl,List.getElem?_map,hj]
   have hjl:=(List.getElem?_eq_some_iff.1 hj).1
   rw[List.length_map,if_pos hjl];rfl
  ·rw[if_neg hi]
 have hat':MapAt (w.putObj r (.map (es.modify j fun e=>{e with key:=v32 key,val:=v}) clk)) r (setK key v l):=by
  refine⟨_,_,World.putObj_heap_same hlt,by rw[hmod];exact hset,by rw[hmod,hborn];exact h3,fun q hq=>?_⟩
  rw[hmod]at hq
  have:q.born∈es.toList.map (·.born):=by rw[←hborn];exact List.mem_map.2 ⟨q,hq,rfl⟩
  obtain⟨q',hq',e'⟩:=List.mem_map.1 this
  rw[←e'];exact h4 q' hq'
 have hfin:=h _ hat' (zaK rfl) (by simp)
 show opR P K ((do Instr.mapUpdate t (ρ m) (ρ k) (ρ x);pure .skip:Sem Next).run P w)
 rw[hm,hkey,hx]
 simp only[Sem.run_bind,hrun,Result.andThen_ok,Sem.run_pure]
 exact hfin
theorem op_lk32{t kt et:TypeId}{m k:Operand}{r:Nat}{l:List (Int×Value)}{key:Int}{z:Value}{inf:TypeInfo}(ht:tyU P t=some (.map kt et))(hk:tyU P kt=some (.int .u32))(hi:P.info? et=some inf)(hz:inf.zero=some z)
  (hm:ρ m= .map (some r)) (hkey:ρ k=v32 key) (hat:MapAt w r l) (h:K ((l.lookup key).getD z) w):opW P ⟨d,.lookup t m k false,ty,ps,af,g⟩ ρ w K:=by
 have:=zaC (P:=P) (K:=K) (lk_run hat ht hk hi hz key) h
 rw[←hm,←hkey]at this
 exact this
theorem new_map(w:World):MapAt (w.alloc (.map #[] 0)) w.heap.size []:=⟨_,_,zat w _,rfl,by simp,by simp⟩
end
def MapIt(w:World)(r m:Nat)(l:List (Int×Value))(pre:List Int):Prop:=
 ∃es clk,∃ds:List MapEntry,w.heap[m]? =some (.map es clk)∧es.toList.map (fun e=>(e.key,e.val))=l.map (fun p=>(v32 p.1,p.2))∧(es.toList.map (·.born)).Pairwise (·≠·)∧(∀e∈es.toList,e.born<clk)∧
  w.heap[r]? =some (.mapIter (some m) clk (ds.map (·.born)).toArray clk)∧(∀d∈ds,d∈es.toList)∧ds.map (·.key)=pre.map v32
theorem MapIt.map{w:World}{r m:Nat}{l:List (Int×Value)}{pre:List Int}(h:MapIt w r m l pre):MapAt w m l:=by
 obtain⟨es,clk,ds,h1,h2,h3,h4,_⟩:=h
 exact⟨es,clk,h1,h2,h3,h4⟩
theorem zlu{a b:Int}(h:v32 a=v32 b):a=b:=by
 simpa [v32] using h
theorem zeQ{es:List MapEntry}{l:List (Int×Value)}(h:es.map (fun e=>(e.key,e.val))=l.map (fun p=>(v32 p.1,p.2)))(hn:(l.map (·.1)).Nodup):es.Pairwise (fun x y=>x.key≠y.key):=by
 have h1:es.map (·.key)=l.map (fun p=>v32 p.1):=by
  have:=congrArg (List.map Prod.fst) h
  simpa [List.map_map,Function.comp_def] using this
 have h2:(l.map (fun p=>v32 p.1)).Pairwise (·≠·):=by
  rw[List.pairwise_map]
  have:=List.pairwise_map.1 hn
  exact this.imp (fun hne e=>hne (zlu e))
 rw[←h1,List.pairwise_map]at h2
 exact h2
section
variable {P : Program} {d : Option Tmp} {ty : TypeId} {ps : String} {af : Array Edge} {g : Option (Nat × Bool)} {ρ : Operand → Value} {w : World} {K : Value → World → Prop}
theorem op_range{t kt et:TypeId}{x:Operand}{m:Nat}{l:List (Int×Value)}(ht:tyU P t=some (.map kt et))(hx:ρ x= .map (some m))(hm:MapAt w m l)
  (h:∀w',MapIt w' w.heap.size m l []→Ext w w'→w'.heap.size=w.heap.size+1→K (.pointer (some ⟨w.heap.size,0,Option.none⟩)) w'):
  opW P ⟨d,.range t x,ty,ps,af,g⟩ ρ w K:=by
 obtain⟨es,clk,h1,h2,h3,h4⟩:=hm
 have hrun:(Instr.range t (.map (some m))).run P w= .ok (.pointer (some ⟨w.heap.size,0,Option.none⟩)) (w.alloc (.mapIter (some m) clk #[] clk)):=by
  simp[Instr.range,run_underlying (show P.underlying t=_ from ht),MapKept.run_getObj_map h1,newObj,Sem.run,Result.andThen]
 have hlt:=(Array.getElem?_eq_some_iff.1 h1).1
 show opR P K _
 refine zaC (s:=Instr.range t (ρ x)) (by rw[hx];exact hrun) (h _ ⟨es,clk,[],?_,h2,h3,h4,?_,by simp,rfl⟩ (Ext.alloc w _) (by simp))
 ·exact(RowKit.Below.heap_alloc _ _ _ hlt).trans h1
 ·exact zat w _
theorem op_next{x:Operand}{r m:Nat}{l:List (Int×Value)}{pre:List Int}(hx:ρ x= .pointer (some ⟨r,0,Option.none⟩))(hit:MapIt w r m l pre)(hn:(l.map (·.1)).Nodup)
  (h1:(∀k∈l.map (·.1),k∈pre)→K (.tuple #[.bool false]) w)
  (h2:∀k v w',(k,v)∈l→k∉pre→MapIt w' r m l (pre++ [k])→Keep (fun b=>b=r) w w'→w'.heap.size=w.heap.size→K (.tuple #[.bool true,v32 k,v]) w'):
  opW P ⟨d,.next x false,ty,ps,af,g⟩ ρ w K:=by
 obtain⟨es,clk,ds,e1,e2,e3,e4,e5,e6,e7⟩:=hit
 have hap:=zeQ e2 hn
 have hmem:∀e:MapEntry,e∈es.toList→∃k v,(k,v)∈l∧e.key=v32 k∧e.val=v:=fun e he=>by
  have:(e.key,e.val)∈l.map (fun p=>(v32 p.1,p.2)):=by rw[←e2];exact List.mem_map.2 ⟨e,he,rfl⟩
  obtain⟨⟨k,v⟩,hp,heq⟩:=List.mem_map.1 this
  simp only[Prod.mk.injEq]at heq
  exact⟨k,v,hp,heq.1.symm,heq.2.symm⟩
 rcases run_next_at (P:=P) w ty r m clk clk (ds.map (·.born)).toArray es clk e5 e1 e4 (Nat.le_refl _) with ⟨h0,hrun⟩| ⟨e,he,w1,hw1,hrun⟩
 ·show opR P K _
  refine zaC (s:=Instr.next (ρ x) false ty) (by rw[hx];exact hrun) (h1 fun k hk=>?_)
  obtain⟨⟨k,v⟩,hp,rfl⟩:=List.mem_map.1 hk
  have:(v32 k,v)∈es.toList.map (fun e=>(e.key,e.val)):=by rw[e2];exact List.mem_map.2 ⟨_,hp,rfl⟩
  obtain⟨e,he,heq⟩:=List.mem_map.1 this
  simp only[Prod.mk.injEq]at heq
  have hin:(ds.map (·.born)).toArray.contains e.born=true:=by
   cases hc:(ds.map (·.born)).toArray.contains e.born with
   |true=>rfl
   |false=>
    have:e∈(leftOf es (ds.map (·.born)).toArray).toList:=by
     unfold leftOf;simp only[Array.toList_filter,List.mem_filter];exact⟨he,by rw[hc];rfl⟩
    rw[Array.size_eq_length_toList,List.length_eq_zero_iff]at h0
    rw[h0]at this;cases this
  simp only[List.contains_toArray,List.contains_iff_mem,List.mem_map]at hin
  obtain⟨d',hd,hb⟩:=hin
  have hde:d'=e:=by
   exact born_inj e3 (e6 _ hd) he hb
  subst hde
  have:d'.key∈pre.map v32:=by rw[←e7];exact List.mem_map.2 ⟨_,hd,rfl⟩
  rw[heq.1]at this
  obtain⟨k',hk',hkk⟩:=List.mem_map.1 this
  rw[zlu hkk]at hk';exact hk'
 ·have hel:e∈es.toList∧(ds.map (·.born)).toArray.contains e.born=false:=by
   unfold leftOf at he
   simp only[Array.toList_filter,List.mem_filter]at he
   exact⟨he.1,by simpa using he.2⟩
  obtain⟨k,v,hkv,hk,hv⟩:=hmem e hel.1
  have hlt:r<w1.heap.size:=by
   have:=(Array.getElem?_eq_some_iff.1 e5).1
   rcases hw1 with rfl|rfl<;>exact this
  have hrm:r≠m:=fun e=>by rw[e,e1]at e5;cases e5
  have hk1:Keep (fun b=>b=r) w w1:=by rcases hw1 with rfl|rfl<;>first|exact Keep.refl _ _|exact Keep.drew _ _
  have hput:ChangeMaps.setBlock w1 r (.mapIter (some m) clk ((ds.map (·.born)).toArray.push e.born) clk)=w1.putObj r (.mapIter (some m) clk ((ds.map (·.born)).toArray.push e.born) clk):=rfl
  rw[hput]at hrun
  show opR P K _
  rw[hk,hv]at hrun
  refine zaC (s:=Instr.next (ρ x) false ty) (by rw[hx];exact hrun) (h2 k v _ hkv ?_ ⟨es,clk,ds++ [e],?_,e2,e3,e4,?_,?_,?_⟩ (hk1.trans (zaK rfl)) ?_)
  ·intro hkp
   have:v32 k∈ds.map (·.key):=by rw[e7];exact List.mem_map.2 ⟨_,hkp,rfl⟩
   obtain⟨d',hd,hdk⟩:=List.mem_map.1 this
   have hde:d'=e:=entry_eq_of_key hap (e6 _ hd) hel.1 (by rw[hdk,hk])
   subst hde
   have:=hel.2
   simp only[List.contains_toArray]at this
   have h3:(ds.map (·.born)).contains d'.born=true:=by rw[List.contains_iff_mem];exact List.mem_map.2 ⟨_,hd,rfl⟩
   rw[h3]at this;cases this
  ·refine(World.putObj_heap_other (fun e=>hrm e.symm)).trans ?_
   rcases hw1 with rfl|rfl<;>exact e1
  ·rw[World.putObj_heap_same hlt];simp
  ·intro d' hd
   rcases List.mem_append.1 hd with hd|hd
   ·exact e6 _ hd
   ·rw[List.mem_singleton.1 hd];exact hel.1
  ·rw[List.map_append,e7,List.map_append];simp[hk]
  ·rcases hw1 with rfl|rfl<;>simp
theorem op_entryV{x:Operand}{r m:Nat}{l:List (Int×Value)}{pre:List Int}{k:Int}(hx:ρ x= .pointer (some ⟨r,0,Option.none⟩))(hit:MapIt w r m l (pre++ [k]))
  (h:∀v,(k,v)∈l→K (.tuple #[v32 k,v]) w):
  opW P ⟨d,.entry x,ty,ps,af,g⟩ ρ w K:=by
 obtain⟨es,clk,ds,e1,e2,e3,e4,e5,e6,e7⟩:=hit
 rcases List.eq_nil_or_concat ds with rfl| ⟨ds',e,rfl⟩
 ·simp at e7
 ·rw[List.concat_eq_append,List.map_append,List.map_append]at e7
  have e7':=List.append_inj' e7 rfl
  have hk:e.key=v32 k:=by simpa using e7'.2
  have hmem:e∈es.toList:=e6 _ (by simp)
  have hl:(k,e.val)∈l:=by
   have h1:(e.key,e.val)∈es.toList.map (fun e=>(e.key,e.val)):=List.mem_map.2 ⟨e,hmem,rfl⟩
   rw[e2]at h1
   obtain⟨q,hq,hqe⟩:=List.mem_map.1 h1
   rw[hk]at hqe
   have h2:v32 q.1=v32 k:=congrArg Prod.fst hqe
   have h3:q.2=e.val:=congrArg Prod.snd hqe
   have h4:q.1=k:=by simpa [v32] using h2
   rw[←h4,←h3];exact hq
  have hrun:=run_entry_at (P:=P) w r m clk (ds'.map (·.born)).toArray es clk e (by rw[e5];simp) e1 hmem e3
  rw[hk]at hrun
  show opR P K _
  exact zaC (s:=Instr.entry (ρ x)) (by rw[hx];exact hrun) (h _ hl)
end
end Go.Proofs.YtkpdfhbpdkifoaaGreatDoor.M32
namespace Go.Proofs.YtkpdfhbpdkifoaaGreatDoor
open Go
def cnt(t:Int)(ts:List Int):Nat:=ts.count t
def zck(ts:List Int)(b u:Int):Bool:=decide (cnt b ts<cnt u ts)|| (decide (cnt u ts=cnt b ts) && decide (u<b))
def zdf:List Int→Int
 | []=>0
 |t::r=>r.foldl (fun b u=>if zck (t::r) b u then u else b) t
def CntAt(ts:List Int)(l:List (Int×Value)):Prop:=(l.map (·.1)).Nodup∧∀t,l.lookup t=if t∈ts then some (vi (cnt t ts)) else Option.none
theorem zfs(t u:Int)(ts:List Int):cnt t (ts++ [u])=cnt t ts+if u=t then 1 else 0:=by
 unfold cnt
 rw[List.count_append,List.count_singleton]
 simp
theorem zcV{t:Int}{v:Value}:∀{l:List (Int×Value)},(l.map (·.1)).Nodup→(l.lookup t=some v↔(t,v)∈l)
 | [],_=>by simp
 | (k,u)::l,h=>by
  rw[List.map_cons,List.nodup_cons]at h
  have ih:=zcV (t:=t) (v:=v) h.2
  rw[List.lookup_cons]
  by_cases e:t=k
  ·subst e
   have:¬(t,v)∈l:=fun hm=>h.1 (List.mem_map.2 ⟨_,hm,rfl⟩)
   simp[this,eq_comm]
  ·have e1:(t==k)=false:=by simpa using e
   rw[e1]
   simp[ih,e]
theorem zhP(key:Int)(v:Value):∀l:List (Int×Value),(M32.setK key v l).map (·.1)=l.map (·.1)
 | []=>rfl
 |p::l=>by
  unfold M32.setK
  split
  ·rfl
  ·simp[zhP key v l]
theorem zfG{key:Int}{v:Value}(t:Int):∀{l:List (Int×Value)},key∈l.map (·.1)→(M32.setK key v l).lookup t=if t=key then some v else l.lookup t
 | [],h=>by simp at h
 | (k,u)::l,h=>by
  unfold M32.setK
  by_cases e:key=k
  ·subst e
   rw[if_pos (by simp)]
   simp only[List.lookup_cons]
   by_cases e2:t=key
   ·subst e2;simp
   ·have e3:(t==key)=false:=by simpa using e2
    rw[e3,if_neg e2]
  ·rw[if_neg (by simpa using e)]
   simp only[List.lookup_cons]
   have hk:key∈l.map (·.1):=by simpa [e] using h
   by_cases e2:t=k
   ·subst e2
    have:¬t=key:=fun h=>e h.symm
    simp[this]
   ·have e3:(t==k)=false:=by simpa using e2
    rw[e3]
    exact zfG t hk
theorem zcU{t:Int}{v:Value}:∀{l:List (Int×Value)},l.lookup t=some v→t∈l.map (·.1)
 | [],h=>by simp at h
 | (k,u)::l,h=>by
  rw[List.lookup_cons]at h
  by_cases e:t=k
  ·subst e;simp
  ·have e1:(t==k)=false:=by simpa using e
   rw[e1]at h
   exact List.mem_cons_of_mem _ (zcU h)
theorem CntAt.new{ts:List Int}{l:List (Int×Value)}(h:CntAt ts l){t:Int}(ht:t∉ts):CntAt (ts++ [t]) (l++ [(t,vi 1)]):=by
 obtain⟨hn,hl⟩:=h
 have hno:l.lookup t=Option.none:=by rw[hl,if_neg ht]
 have htl:t∉l.map (·.1):=fun hm=>by
  obtain⟨p,hp,rfl⟩:=List.mem_map.1 hm
  have:=(zcV (t:=p.1) (v:=p.2) hn).2 hp
  rw[hno]at this;cases this
 refine⟨?_,fun u=>?_⟩
 ·rw[List.map_append,List.nodup_append]
  exact⟨hn,by simp,fun a ha b hb=>by simp at hb;subst hb;rintro rfl;exact htl ha⟩
 ·rw[List.lookup_append,hl,List.lookup_cons]
  by_cases hu:u∈ts
  ·have e:¬t=u:=fun h=>ht (h▸hu)
   simp[hu,zfs,e]
  ·by_cases e:u=t
   ·subst e
    have:cnt u ts=0:=by unfold cnt;exact List.count_eq_zero.2 hu
    simp[hu,zfs,this]
   ·have e1:(u==t)=false:=by simpa using e
    simp[hu,e1,e]
theorem CntAt.more{ts:List Int}{l:List (Int×Value)}(h:CntAt ts l){t:Int}(ht:t∈ts):CntAt (ts++ [t]) (M32.setK t (vi (cnt t ts+1)) l):=by
 obtain⟨hn,hl⟩:=h
 have htl:t∈l.map (·.1):=zcU (v:=vi (cnt t ts)) (by rw[hl,if_pos ht])
 refine⟨by rw[zhP];exact hn,fun u=>?_⟩
 rw[zfG u htl,hl]
 by_cases e:u=t
 ·subst e;simp[zfs]
 ·have e2:¬t=u:=fun h=>e h.symm
  simp[e,zfs,e2]
theorem CntAt.keys{ts:List Int}{l:List (Int×Value)}(h:CntAt ts l)(t:Int):t∈l.map (·.1)↔t∈ts:=by
 constructor
 ·intro hm
  obtain⟨p,hp,rfl⟩:=List.mem_map.1 hm
  have h2:=(zcV (t:=p.1) (v:=p.2) h.1).2 hp
  rw[h.2]at h2
  by_cases e:p.1∈ts
  ·exact e
  ·rw[if_neg e]at h2;cases h2
 ·intro hm
  exact zcU (v:=vi (cnt t ts)) (by rw[h.2,if_pos hm])
theorem CntAt.val{ts:List Int}{l:List (Int×Value)}(h:CntAt ts l){t:Int}{v:Value}(hm:(t,v)∈l):t∈ts∧v=vi (cnt t ts):=by
 have h2:=(zcV h.1).2 hm
 rw[h.2]at h2
 by_cases e:t∈ts
 ·rw[if_pos e]at h2;cases h2;exact⟨e,rfl⟩
 ·rw[if_neg e]at h2;cases h2
def BestOf(ts pre:List Int)(b:Int)(n:Nat):Prop:=(pre=[]∧b=0∧n=0)∨(b∈pre∧n=cnt b ts∧0<n∧∀t∈pre,zck ts b t=false)
theorem zgS{ts:List Int}{b u:Int}:zck ts b u=true↔cnt b ts<cnt u ts∨(cnt u ts=cnt b ts∧u<b):=by
 unfold zck;simp
theorem zba{ts:List Int}{b u:Int}:zck ts b u=false↔¬(cnt b ts<cnt u ts∨(cnt u ts=cnt b ts∧u<b)):=by
 rw[←zgS];simp
theorem BestOf.take{ts pre:List Int}{b t:Int}{n:Nat}(h:BestOf ts pre b n)(ht:t∈ts)(hb:n<cnt t ts∨(cnt t ts=n∧t<b)):BestOf ts (pre++ [t]) t (cnt t ts):=by
 have h0:0<cnt t ts:=List.count_pos_iff.2 ht
 refine .inr ⟨by simp,rfl,h0,fun u hu=>?_⟩
 rw[zba]
 rcases List.mem_append.1 hu with hu|hu
 ·rcases h with ⟨rfl,_⟩| ⟨_,hn,_,hal⟩
  ·cases hu
  ·have:=zba.1 (hal u hu)
   omega
 ·rw[List.mem_singleton.1 hu];omega
theorem BestOf.skip{ts pre:List Int}{b t:Int}{n:Nat}(h:BestOf ts pre b n)(ht:t∈ts)(hb:¬(n<cnt t ts∨(cnt t ts=n∧t<b))):BestOf ts (pre++ [t]) b n:=by
 have h0:0<cnt t ts:=List.count_pos_iff.2 ht
 rcases h with ⟨_,_,rfl⟩| ⟨hbp,hn,hp,hal⟩
 ·omega
 ·refine .inr ⟨List.mem_append_left _ hbp,hn,hp,fun u hu=>?_⟩
  rcases List.mem_append.1 hu with hu|hu
  ·exact hal u hu
  ·rw[List.mem_singleton.1 hu,zba];omega
theorem zdB(ts:List Int):∀(r pre:List Int) (b:Int),b∈pre→(∀t∈pre,zck ts b t=false)→
  r.foldl (fun b u=>if zck ts b u then u else b) b∈pre++r∧∀t∈pre++r,zck ts (r.foldl (fun b u=>if zck ts b u then u else b) b) t=false
 | [],pre,b,h1,h2=>by simpa using ⟨h1,h2⟩
 |u::r,pre,b,h1,h2=>by
  rw[List.foldl_cons]
  by_cases hb:zck ts b u=true
  ·rw[if_pos hb]
   have:=zdB ts r (pre++ [u]) u (by simp) (fun t ht=>by
    rw[zba]
    rw[zgS]at hb
    rcases List.mem_append.1 ht with ht|ht
    ·have:=zba.1 (h2 t ht);omega
    ·rw[List.mem_singleton.1 ht];omega)
   simpa using this
  ·rw[if_neg hb]
   have:=zdB ts r (pre++ [u]) b (by simp[h1]) (fun t ht=>by
    rcases List.mem_append.1 ht with ht|ht
    ·exact h2 t ht
    ·rw[List.mem_singleton.1 ht];simpa using hb)
   simpa using this
theorem BestOf.usual{ts pre:List Int}{b:Int}{n:Nat}(h:BestOf ts pre b n)(hp:∀t,t∈ts→t∈pre)(hp2:∀t∈pre,t∈ts):b=zdf ts:=by
 cases ts with
 |nil=>
  rcases h with ⟨_,rfl,_⟩| ⟨hb,_⟩
  ·rfl
  ·have:=hp2 b hb;cases this
 |cons a r=>
  have:=zdB (a::r) r [a] a (by simp) (fun t ht=>by rw[List.mem_singleton.1 ht,zba];omega)
  obtain⟨g1,g2⟩:=this
  have e:zdf (a::r)=r.foldl (fun b u=>if zck (a::r) b u then u else b) a:=rfl
  rw[←e]at g1 g2
  rcases h with ⟨rfl,_⟩| ⟨hb,hn,_,hal⟩
  ·have:=hp a (by simp);cases this
  ·have h1:=zba.1 (hal _ (hp _ g1))
   have h2:=zba.1 (g2 b (hp2 b hb))
   omega
theorem zhF{ts:List Int}(h:ts≠ []):zdf ts∈ts:=by
 cases ts with
 |nil=>exact absurd rfl h
 |cons a r=>exact(zdB (a::r) r [a] a (by simp) (fun t ht=>by rw[List.mem_singleton.1 ht,zba];omega)).1
set_option maxRecDepth 10000
theorem zlx{α:Type}[DecidableEq α]:∀{l m:List α},l.Nodup→(∀a∈l,a∈m)→l.length≤m.length
 | [],_,_,_=>Nat.zero_le _
 |a::l,m,h,hs=>by
  have h1:=List.nodup_cons.1 h
  have ha:=hs a (List.mem_cons_self ..)
  have:=zlx (l:=l) (m:=m.erase a) h1.2 (fun b hb=>(List.mem_erase_of_ne (fun (e:b=a)=>h1.1 (e▸hb))).2 (hs b (List.mem_cons_of_mem _ hb)))
  rw[List.length_erase_of_mem ha]at this
  have:=List.length_pos_of_mem ha
  simp;omega
theorem usual_ok{w:World}{v:Value}{R:List RecL}(hR:Rows 7 (RecAt w) w v R)(hl:R.length≤100000)(ht:∀r∈R,0≤r.ttl∧r.ttl≤4294967295):Fn Tryz.prog 21 #[v] w (fun u w'=>u=v32 (zdf (R.map RecL.ttl))∧Ext w w'):=by
 obtain⟨a,c,rfl,hc,hg⟩:=hR.open
 refine enter Tryz.func21 Tryz.ntmps21 rfl rfl ?_
 refine go trivial ?_
 have hm0:=M32.new_map w
 have hE0:Ext w (w.alloc (.map #[] 0)):=Ext.alloc _ _
 have hs0:(w.alloc (.map #[] 0)).heap.size=w.heap.size+1:=zax _ _
 refine zbq R.length (fun i σ v=>(σ 3= .map (some w.heap.size)∧σ 11= .slice a R.length c∧σ 12=vi R.length∧σ 13=vi i)∧(∃l,M32.MapAt v w.heap.size l∧CntAt ((R.take i).map RecL.ttl) l)∧Ext w v∧w.heap.size+1≤v.heap.size) ?_ ?_ ?_
 ·exact⟨⟨vr0,vr0,vr0,vr0⟩,⟨[],hm0,by simp,by simp⟩,hE0,by omega⟩
 ·rintro i σ v hi p ⟨⟨s3,s11,s12,s13⟩,⟨l,hM,hC⟩,hE,hsv⟩
  obtain⟨cs,g0,hcs⟩:=hg i hi
  have g:=zah hE g0
  obtain⟨r,hr⟩:∃r,R[i]=r:=⟨_,rfl⟩
  rw[hr]at hcs
  have hrt:=ht r (hr▸List.getElem_mem hi)
  obtain⟨xa,rfl⟩:=Option.isSome_iff_exists.1 (zav g)
  obtain⟨xi,hxi⟩:∃xi,adr (some xa) (i*7)=some xi:=⟨_,rfl⟩
  rw[hxi]at g
  have hi0:(0:Int)≤(i:Int):=by omega
  have hi1:(i:Int)<(R.length:Int):=by omega
  have hi2:(i:Int)+1=((i+1:Nat):Int):=by push_cast;rfl
  have hc7:=hcs.len
  refine go (an5 s3 s11 s12 s13 p) ?_
  refine rq ?_;intro gd K hgd hK
  try simp (disch:=first|omega|assumption|rfl) only[go_sem,s11,s13,hi0,hi1,hxi,g]
  refine zbm (P:=Tryz.prog) (l:=cs) (by rw[hc7];rfl) hcs.ones (by rw[hc7];rfl) rfl ?_
  intro v1 hEv1 hsv1 hBv
  try simp only[go_sem]
  refine hK _ _ ?_;clear hK hgd;clear K;try clear gd
  obtain⟨ow,ds,hce,how,_⟩:=hcs.ex
  have o1:zad v1 (some ⟨v.heap.size,1,Option.none⟩)=some (v32 r.ttl):=za2 (l:=cs) (j:=1) hBv (by rw[hce];rfl)
  have hM1:M32.MapAt v1 w.heap.size l:=hM.block (hEv1.block _ (by omega) (fun h=>h))
  have htk:(R.take (i+1)).map RecL.ttl=(R.take i).map RecL.ttl++ [r.ttl]:=by rw[zak hi,hr,List.map_append];rfl
  have hcl:cnt r.ttl ((R.take i).map RecL.ttl)≤100000:=by
   refine Nat.le_trans List.count_le_length ?_
   rw[List.length_map,List.length_take];omega
  obtain⟨k,hk⟩:∃k,cnt r.ttl ((R.take i).map RecL.ttl)=k:=⟨_,rfl⟩
  rw[hk]at hcl
  have hk2:(k:Int)+1=((k+1:Nat):Int):=by push_cast;rfl
  have hE1:=hE.trans hEv1
  refine go trivial ?_
  by_cases hin:r.ttl∈(R.take i).map RecL.ttl
  ·have hlk:l.lookup r.ttl=some (vi k):=by rw[hC.2,if_pos hin,hk]
   refine rq ?_;intro gd K hgd hK
   try simp (disch:=first|omega|assumption|rfl) only[go_sem,s3,o1]
   refine M32.op_lk32 (z:=vi 0) rfl rfl rfl rfl ((vr1 s3)) (vr0) hM1 ?_
   rw[hlk,Option.getD_some]
   try simp (disch:=first|omega|assumption|rfl) only[go_sem,hk2]
   refine M32.op_mapTurn rfl rfl ((vr1 s3)) (vr0) (vr0) hM1 hlk ?_
   intro z hMz hkz hsz
   try simp only[go_sem]
   refine hK _ _ ?_;clear hK hgd;clear K;try clear gd
   refine go (an5 s3 s11 s12 s13 hi2) ?_
   refine⟨rfl,⟨(vq1 s3),(vq1 s11),(vq1 s12),(vq1 hi2)⟩,⟨_,hMz,?_⟩,Keep.to_ext hE1 rfl (fun b hb=>by omega) hkz,by omega⟩
   rw[htk,←hk2,←hk]
   exact hC.more hin
  ·have hlk:l.lookup r.ttl=Option.none:=by rw[hC.2,if_neg hin]
   refine rq ?_;intro gd K hgd hK
   try simp (disch:=first|omega|assumption|rfl) only[go_sem,s3,o1]
   refine M32.op_lk32 (z:=vi 0) rfl rfl rfl rfl ((vr1 s3)) (vr0) hM1 ?_
   rw[hlk,Option.getD_none]
   try simp only[go_sem]
   refine M32.op_mapUpdate (v:=vi 1) rfl rfl ((vr1 s3)) (vr0) (vr0) hM1 hlk ?_
   intro z hMz hkz hsz
   try simp only[go_sem]
   refine hK _ _ ?_;clear hK hgd;clear K;try clear gd
   refine go (an5 s3 s11 s12 s13 hi2) ?_
   refine⟨rfl,⟨(vq1 s3),(vq1 s11),(vq1 s12),(vq1 hi2)⟩,⟨_,hMz,?_⟩,Keep.to_ext hE1 rfl (fun b hb=>by omega) hkz,by omega⟩
   rw[htk]
   exact hC.new hin
 ·rintro σ v p ⟨⟨s3,s11,s12,s13⟩,⟨l,hM,hC⟩,hE,hsv⟩
  rw[List.take_length]at hC
  obtain⟨ts,hts⟩:∃ts,R.map RecL.ttl=ts:=⟨_,rfl⟩
  rw[hts]at hC ⊢
  have htl:ts.length≤100000:=by rw[←hts,List.length_map];exact hl
  have htb:∀t∈ts,0≤t∧t≤4294967295:=fun t hm=>by
   rw[←hts]at hm
   obtain⟨r,hr,rfl⟩:=List.mem_map.1 hm
   exact ht r hr
  refine go (an5 s3 s11 s12 s13 p) ?_
  refine rq ?_;intro gd K hgd hK
  try simp (disch:=first|omega|assumption|rfl) only[go_sem,s3]
  refine M32.op_range rfl ((vr1 s3)) hM ?_
  intro W1 hit1 hE1 hs1
  try simp only[go_sem]
  refine hK _ _ ?_;clear hK hgd;clear K;try clear gd
  refine go trivial ?_
  refine zaD (fun k σ ds x=>ds=[]∧(∃(best:Int) (n:Nat),σ 24= .pointer (some ⟨v.heap.size,0,Option.none⟩)∧σ 6=v32 best∧σ 7=vi n∧∃pre,M32.MapIt x v.heap.size w.heap.size l pre∧BestOf ts pre best n∧Ext w x∧v.heap.size+1≤x.heap.size∧
   pre.Nodup∧(∀j∈pre,j∈l.map (·.1))∧k+pre.length=(l.map (·.1)).length)) (l.map (·.1)).length ?_ ?_
  ·exact⟨rfl,0,0,vr0,vr0,vr0,[],hit1,.inl ⟨rfl,rfl,rfl⟩,hE.trans hE1,by omega,by simp,by simp,by simp⟩
  rintro k σ ds x ⟨rfl,best,n,s24,s6,s7,pre,hit,hB,hEx,hsx,hnd,hsub,hlen⟩
  refine go (an3 s24 s6 s7) ?_
  refine rq ?_;intro gd K hgd hK
  try simp (disch:=first|omega|assumption|rfl) only[go_sem,s24]
  refine M32.op_next ((vr1 s24)) hit hC.1 ?_ ?_
  ·intro hall
   try simp only[go_sem]
   refine hK _ _ ?_;clear hK hgd;clear K;try clear gd
   refine go trivial ?_
   refine rt0 Tryz.ntmps21 ?_
   refine⟨?_,hEx⟩
   rw[s6,hB.usual (fun t ht=>hall t ((hC.keys t).2 ht)) (fun t ht=>(hC.keys t).1 (hsub t ht))]
  ·intro key u w2 hkv hnk hit2 hk2 hs2
   have hkm:key∈l.map (·.1):=List.mem_map.2 ⟨_,hkv,rfl⟩
   obtain⟨hkt,rfl⟩:=hC.val hkv
   obtain⟨m,hm⟩:∃m,cnt key ts=m:=⟨_,rfl⟩
   have hml:m≤100000:=by rw[←hm];exact Nat.le_trans List.count_le_length htl
   have hkb:=htb key hkt
   have hE2:Ext w w2:=Keep.to_ext hEx rfl (fun b hb=>by omega) hk2
   try simp only[go_sem]
   refine hK _ _ ?_;clear hK hgd;clear K;try clear gd
   refine go trivial ?_
   refine rq ?_;intro gd K hgd hK
   try simp (disch:=first|omega|assumption|rfl) only[go_sem,s24]
   refine M32.op_entryV ((vr1 s24)) hit2 (fun u' hu'=>?_)
   obtain⟨_,rfl⟩:=hC.val hu'
   rw[hm]
   try simp only[go_sem]
   refine hK _ _ ?_;clear hK hgd;clear K;try clear gd
   have hnd':(pre++ [key]).Nodup:=by
    rw[List.nodup_append]
    exact⟨hnd,by simp,fun a ha b hb=>by simp at hb;subst hb;rintro rfl;exact hnk ha⟩
   have hsub':∀j∈pre++ [key],j∈l.map (·.1):=fun j hj=>by
    rcases List.mem_append.1 hj with h|h
    ·exact hsub j h
    ·rw[List.mem_singleton.1 h];exact hkm
   have hlt:(pre++ [key]).length≤(l.map (·.1)).length:=zlx hnd' hsub'
   refine go trivial ?_
   refine zas (Q:=fun e σ' ds' v'=>e= .normal∧ds'=[]∧v'=w2∧σ' 24= .pointer (some ⟨v.heap.size,0,Option.none⟩)∧σ' 6=v32 best∧σ' 7=vi n∧σ' 8=v32 key∧σ' 9=vi m∧σ' 42= .bool (decide (n<m∨(m=n∧key<best)))) ?_ ?_
   ·by_cases c1:(n:Int)<(m:Int)
    ·refine rgg [(3,33),(7,37)] (an4 s24 s6 s7 (decide_eq_true c1)) ?_
     refine⟨rfl,rfl,rfl,(vq1 s24),(vq1 s6),(vq1 s7),vr0,vr0,?_⟩
     rw[show decide (n<m∨(m=n∧key<best))=true from decide_eq_true (.inl (by omega))]
     first| (simp only[go_sem];done)| (simp only[go_sem];rfl)
    ·by_cases c2:(m:Int)=(n:Int)
     ·obtain⟨t,ht3⟩:∃t,decide (key<best)=t:=⟨_,rfl⟩
      refine rgg [(3,33),(7,37)] (an6 s24 s6 s7 (decide_eq_false c1) (decide_eq_true c2) ht3) ?_
      refine⟨rfl,rfl,rfl,(vq1 s24),(vq1 s6),(vq1 s7),vr0,vr0,?_⟩
      rw[show decide (n<m∨(m=n∧key<best))=t from by rw[←ht3];exact decide_eq_decide.2 ⟨fun h=>by omega,fun h=> .inr ⟨by omega,h⟩⟩]
      first| (simp only[go_sem];done)| (simp only[go_sem];rfl)
     ·refine rgg [(3,33),(7,37)] (an5 s24 s6 s7 (decide_eq_false c1) (decide_eq_false c2)) ?_
      refine⟨rfl,rfl,rfl,(vq1 s24),(vq1 s6),(vq1 s7),vr0,vr0,?_⟩
      rw[show decide (n<m∨(m=n∧key<best))=false from decide_eq_false (by omega)]
      first| (simp only[go_sem];done)| (simp only[go_sem];rfl)
   rintro _ σ1 _ z ⟨rfl,rfl,hz,g24,g6,g7,g8,g9,g42⟩
   subst hz
   by_cases hb:n<m∨(m=n∧key<best)
   ·rw[decide_eq_true hb]at g42
    refine go (an6 g24 g6 g7 g8 g9 g42) ?_
    refine⟨k - 1,by simp at hlt hlen;omega,rfl,key,m,(vq1 g24),(vq1 g8),(vq1 g9),pre++ [key],hit2,?_,hE2,by omega,hnd',hsub',by simp at hlt hlen ⊢;omega⟩
    have:=hB.take hkt (by rw[hm];exact hb)
    rwa [hm]at this
   ·rw[decide_eq_false hb]at g42
    refine go (an6 g24 g6 g7 g8 g9 g42) ?_
    refine⟨k - 1,by simp at hlt hlen;omega,rfl,best,n,(vq1 g24),(vq1 g6),(vq1 g7),pre++ [key],hit2,hB.skip hkt (by rw[hm];exact hb),hE2,by omega,hnd',hsub',by simp at hlt hlen ⊢;omega⟩
section
variable {P : Program} {d : Option Tmp} {ty : TypeId} {ps : String} {af : Array Edge} {g : Option (Nat × Bool)} {ρ : Operand → Value} {w : World} {K : Value → World → Prop}
theorem op_appS2{B:Nat}{s x:Operand}{t tu e:TypeId}{inf:TypeInfo}{v:Value}{l:List Value}{bs:List UInt8}(hown:Own B w e v l)(ht:tyU P t=some (.slice e))(hu:tyU P tu=some .string)(hi:P.info? e=some inf)(hz:inf.zero=some (.int .u8 0))
  (hsize:inf.size=1) (hby:inf.bytes=1) (hv:ρ s=v) (hx:ρ x=vs bs) (hlen:l.length+bs.length≤100000000000) (hB:B≤w.heap.size)
  (h:∀v' w',Own B w' e v' (l++bs.map zao)→Keep (fun b=>some b=v.ownBlock) w w'→(∀b,some b=v'.ownBlock→some b=v.ownBlock∨w.heap.size≤b)→K v' w'):
  opW P ⟨d,.call ⟨.builtin .append,#[s,x],#[t,tu]⟩,ty,ps,af,g⟩ ρ w K:=by
 have hs:(⟨bs.toArray⟩:ByteArray).size=bs.length:=by simp[ByteArray.size]
 obtain⟨v',w',hr,h2,h3,h4⟩:=Lib.run_append_own_string (P:=P) w B t tu ty e inf (show P.underlying t=_ from ht) (show P.underlying tu=_ from hu) hi hz hsize hby v l.length l hown ⟨bs.toArray⟩ (by rw[hs];simp[maxLen];omega) (by rw[hs];omega) hB
 have hnew:∀b,some b=v'.ownBlock→some b=v.ownBlock∨w.heap.size≤b:=fun b hb=>by
  rcases hown.2 with ⟨rfl,hl0⟩| ⟨g,cap,cur,rfl,hbg,hg,hnc,hcm,hcs,htake⟩
  ·obtain⟨v2,w2,k1,k2,_⟩:=Lib.run_append_own_string (P:=P) w w.heap.size t tu ty e inf (show P.underlying t=_ from ht) (show P.underlying tu=_ from hu) hi hz hsize hby (.slice Option.none 0 0) l.length l ⟨hown.1,.inl ⟨rfl,hl0⟩⟩ ⟨bs.toArray⟩ (by rw[hs];simp[maxLen];omega) (by rw[hs];omega) (Nat.le_refl _)
   rw[k1]at hr
   cases hr
   rcases k2.2 with ⟨rfl,_⟩| ⟨g,cap,cur,rfl,hg,_⟩
   ·cases hb
   ·cases hb;exact .inr hg
  ·by_cases hroom:l.length+(⟨bs.toArray⟩:ByteArray).size≤cap
   ·have k1:=Lib.run_append_room_string (P:=P) w t tu ty e inf (show P.underlying t=_ from ht) (show P.underlying tu=_ from hu) hi hsize g l.length cap cur hg ⟨bs.toArray⟩ hroom (by rw[hs];omega)
    rw[k1]at hr
    cases hr
    exact .inl hb
   ·have holds:∀j u,l[j]? =some u→w.cell? ((⟨g,0,Option.none⟩:Addr).add j)=some u:=hown.cells (g:=g) rfl
    have k1:=Lib.run_append_grow_string (P:=P) w t tu ty e inf (.int .u8 0) (show P.underlying t=_ from ht) (show P.underlying tu=_ from hu) hi hz ⟨g,0,Option.none⟩ l.length cap l (by rw[hsize];simp) holds ⟨bs.toArray⟩ (by omega) (by rw[hs];omega) (by rw[hby];exact growslice_fits (by omega) (by rw[hs];omega))
    rw[k1]at hr
    cases hr
    cases hb
    exact .inr (Nat.le_refl _)
 have hc:Lib.strCells ⟨bs.toArray⟩=bs.map zao:=by simp[Lib.strCells,zao]
 rw[hs,hc]at h2
 refine zce (b:= .append) (r:= .ok v' w') (fun v2 w2 h'=>?_) ⟨v',w',by rw[hv,hx];exact hr⟩
 rw[hv,hx]at h'
 have e1:(Builtin.append_ #[t,tu] ty #[v,.string ⟨bs.toArray⟩]).run P w= .ok v2 w2:=h'
 rw[hr]at e1
 cases e1
 have hl:l.length+bs.length=(l++bs.map zao).length:=by simp
 rw[hl]at h2
 exact h v' w' h2 (zeS h3 (zaS _ _ _ _ hr)) hnew
end
def BldU(U:Nat→Prop)(w:World)(b:Nat)(bs:Lab):Prop:=∃p v,(p= .pointer Option.none∨p= .pointer (some ⟨b,0,Option.none⟩))∧w.heap[b]? =some (.cells #[p,v] 63 (0,0))∧Own 0 w 5 v (bs.map zao)∧∀i,some i=v.ownBlock→U i
theorem Bld.toU{U:Nat→Prop}{B:Nat}{w:World}{b:Nat}{bs:Lab}(h:Bld B w b bs)(hU:∀i,B≤i→i<w.heap.size→U i):BldU U w b bs:=by
 obtain⟨p,v,h1,h2,h3⟩:=h.ex
 exact⟨p,v,h1,h2,h3.mono (Nat.zero_le _),fun i hi=>hU i (h3.ge hi).1 (h3.ge hi).2⟩
theorem BldU.keep{U S:Nat→Prop}{w x:World}{b:Nat}{bs:Lab}(h:BldU U w b bs)(hk:Keep S w x)(hb:¬S b)(hS:∀i,U i→i<w.heap.size→¬S i):BldU U x b bs:=by
 obtain⟨p,v,h1,h2,h3,h4⟩:=h
 exact⟨p,v,h1,(hk.block _ (Array.getElem?_eq_some_iff.1 h2).1 hb).trans h2,h3.keep hk (fun i hi=>hS i (h4 i hi) (h3.ge hi).2),h4⟩
theorem BldU.ext{U:Nat→Prop}{w x:World}{b:Nat}{bs:Lab}(h:BldU U w b bs)(hE:Ext w x):BldU U x b bs:=h.keep hE (fun h=>h) (fun _ _ _ h=>h)
theorem ziG{U:Nat→Prop}{w:World}{b:Nat}{bs s:List UInt8}(h:BldU U w b bs)(hU:∀i,w.heap.size≤i→U i)(hlen:bs.length+s.length≤100000000000):
  Fn Tryz.prog 23 #[.pointer (some ⟨b,0,Option.none⟩),vs s] w (fun _ w'=>BldU U w' b (bs++s)∧Keep (fun i=>i=b∨U i) w w'):=by
 obtain⟨p,v,hp,hb,hown,hUv⟩:=h
 have hne:=zm8 hown hb
 obtain⟨inf,hi,hz,hsz,hby⟩:=info_parts (P:=Tryz.prog) (e:=5) (z:= .int .u8 0) (size:=1) (bytes:=1) (by kernel_rfl)
 refine enter Tryz.func23 Tryz.ntmps23 rfl rfl ?_
 repeat refine c_r ?_
 refine rg0 ?_
 repeat refine c_r ?_
 refine rq ?_;intro gd K hgd hK
 try simp only[go_sem]
 refine Fn.mono (zcr hp hb) ?_
 rintro _ w1 ⟨hb1,hk1,hs1⟩
 try simp only[go_sem]
 refine hK _ _ ?_;clear hK hgd;clear K;try clear gd
 have hown1:=hown.keep hk1 (fun i hi he=>hne (he▸hi))
 have c1:zad w1 (some ⟨b,1,Option.none⟩)=some v:=zaa hb1 rfl
 repeat refine c_r ?_
 refine rq ?_;intro gd K hgd hK
 try simp (disch:=first|omega|assumption|rfl) only[go_sem,c1,Nat.zero_add]
 refine op_appS2 hown1 (by rfl) (by rfl) hi hz hsz hby (by rfl) (by rfl) (by simpa using hlen) (by omega) ?_
 intro v2 w2 hown2 hk2 hnew
 try simp only[go_sem]
 have hb2:=(hk2.block b (Array.getElem?_eq_some_iff.1 hb1).1 hne).trans hb1
 have hne2:some b≠v2.ownBlock:=fun he=>by
  obtain⟨cur,fr,h1⟩:=zfn hown2 he
  rw[hb2]at h1
  injection h1 with h1
  injection h1 with _ h2
  revert h2;decide
 obtain⟨a2,c2,hv2⟩:=hown2.slice
 refine zdc (P:=Tryz.prog) (t:=43) (j:=1) (l:=[.pointer (some ⟨b,0,Option.none⟩),v]) hb2 (by simp) (by rw[hv2];rfl) rfl rfl ?_
 intro w3 hs3 hb3 hk3
 try simp only[go_sem]
 refine hK _ _ ?_;clear hK hgd;clear K;try clear gd
 have hown3:=hown2.keep hk3 (fun i hi he=>hne2 (he▸hi))
 repeat refine c_r ?_
 refine rg0 ?_
 repeat refine c_r ?_
 refine zaf (.inr rfl) Tryz.ntmps23 rfl (zac rfl (zac rfl zae)) ?_
 refine⟨⟨_,v2,.inr rfl,by simpa using hb3,by rw[List.map_append];exact hown3,fun i hi=>?_⟩,?_⟩
 ·rcases hnew i hi with h|h
  ·exact hUv i h
  ·exact hU i (by omega)
 exact((hk1.mono (fun i _ h=> .inl h)).trans (hk2.mono (fun i _ h=> .inr (hUv i h)))).trans (hk3.mono (fun i _ h=> .inl h))
theorem File1_U{U:Nat→Prop}{w:World}{v:Value}{xs:List Lab}{b:Nat}{acc:Lab}(hR:Row w v (xs.map vs))(hx:xs.length≤1000000)(hl:zaG xs≤1000000000)(hB:BldU U w b acc)(hU:∀i,w.heap.size≤i→U i)(hacc:acc.length≤50000000000):
  Fn Tryz.prog 22 #[v,.pointer (some ⟨b,0,Option.none⟩)] w (fun _ w'=>BldU U w' b (acc++(zaM [32] xs++ [10]))∧Keep (fun i=>i=b∨U i) w w'):=by
 have hj:=za4 [32] xs
 rw[show ([32]:Lab).length=1 from rfl]at hj
 refine enter Tryz.func22 Tryz.ntmps22 rfl rfl ?_
 refine rc trivial (zeZ (sep:=[32]) hR hx (by decide) (by decide) hl) ?_
 rintro _ w1 ⟨rfl,hE1⟩
 have l1:(zaM [32] xs).length+([10]:Lab).length≤9223372036854775807:=by simp;omega
 have hs1:=hE1.size
 refine rd l1 (ziG (s:=zaM [32] xs++ [10]) (hB.ext hE1) (fun i hi=>hU i (by omega)) (by rw[List.length_append,show([10]:Lab).length=1 from rfl];omega)) ?_
 rintro _ w2 ⟨hB2,hk2⟩
 refine rgo trivial ?_
 exact zaw (by simp) rfl ⟨hB2,(hE1.mono fun _ _ h=>h.elim).trans hk2⟩
theorem String_U{U:Nat→Prop}{w:World}{b:Nat}{bs:List UInt8}(h:BldU U w b bs)(hlen:bs.length≤100000000000):
  Fn Tryz.prog 31 #[.pointer (some ⟨b,0,Option.none⟩)] w (fun v w'=>v=vs bs∧Keep U w w'):=by
 obtain⟨p,v,hp,hb,hown,hU⟩:=h
 rcases hown.2 with ⟨rfl,hl⟩| ⟨g,cap,cur,rfl,_,hg,hn,hcap,hcs,hx⟩
 ·have h0:bs=[]:=by simpa using hl
  subst h0
  refine enter Tryz.func31 Tryz.ntmps31 rfl rfl ?_
  repeat refine c_r ?_
  refine rg0 ?_
  repeat refine c_r ?_
  refine zaF (fun _=>false) [(0,true),(1,true),(2,true),(3,true),(5,true),(6,true),(7,true),(8,true),(9,true),(4,false),(10,false),(11,true)] NoS mixed (by kernel_rfl) ?_;intro gd K x hgd hx hxe hK;have hx0:=zaT hxe;clear hxe
  have c1:zad x (some ⟨b,1,Option.none⟩)=some (.slice Option.none 0 0):=zaa (Ext.at hx0 hb) rfl
  simp (disch:=first|omega|assumption|rfl) only[go_sem,c1,Nat.zero_add]
  refine zbf (u:= .slice Option.none 0 0) (vq0) (Lib.run_unsafeSliceData_nil _ _ _ _ _) ?_
  refine⟨.inr (Keep.refl _ _),?_⟩
  refine zaO (u:= .pointer Option.none) (z:=vi 0) (vq0) (vr0) (Lib.run_unsafeString_none (P:=Tryz.prog) _ _ _ _ _) ?_
  refine⟨.inr (Keep.refl _ _),?_⟩
  refine hK _ _ ?_;clear hK hgd;clear K;try clear gd
  repeat refine c_r ?_
  refine zaf (.inr rfl) Tryz.ntmps31 rfl (zac (vr0) zae) ?_
  exact⟨rfl,hx0.mono (fun i _ h=>h.elim)⟩
 by_cases h0:bs=[]
 ·subst h0
  refine enter Tryz.func31 Tryz.ntmps31 rfl rfl ?_
  repeat refine c_r ?_
  refine rg0 ?_
  repeat refine c_r ?_
  refine zaF (fun _=>false) [(0,true),(1,true),(2,true),(3,true),(5,true),(6,true),(7,true),(8,true),(9,true),(4,false),(10,false),(11,true)] NoS mixed (by kernel_rfl) ?_;intro gd K x hgd hx hxe hK;have hx0:=zaT hxe;clear hxe
  have c1:zad x (some ⟨b,1,Option.none⟩)=some (.slice (some ⟨g,0,Option.none⟩) 0 cap):=zaa (Ext.at hx0 hb) rfl
  have hgx:=Ext.at hx0 hg
  simp (disch:=first|omega|assumption|rfl) only[go_sem,c1,Nat.zero_add]
  by_cases hc0:cap=0
  ·subst hc0
   refine zbf (u:= .slice (some ⟨g,0,Option.none⟩) 0 0) (vq0) (Lib.run_unsafeSliceData_zero (P:=Tryz.prog) _ _ _ 5 (by rfl) _ _ _ (by simp only[World.shape?,hgx];rfl)) ?_
   refine⟨.inr (Ext.alloc x _),?_⟩
   refine zaO (u:= .pointer (some ⟨x.heap.size,0,Option.none⟩)) (z:=vi 0) (vq0) (vr0) (Lib.run_unsafeString_none (P:=Tryz.prog) _ _ _ _ _) ?_
   refine⟨.inr (Keep.refl _ _),?_⟩
   refine hK _ _ ?_;clear hK hgd;clear K;try clear gd
   repeat refine c_r ?_
   refine zaf (.inr rfl) Tryz.ntmps31 rfl (zac (vr0) zae) ?_
   exact⟨rfl,(hx0.trans (Ext.alloc x _)).mono (fun i _ h=>h.elim)⟩
  ·refine zbf (u:= .slice (some ⟨g,0,Option.none⟩) 0 cap) (vq0) (Lib.run_unsafeSliceData_row _ _ _ _ _ _ hc0) ?_
   refine⟨.inr (Keep.refl _ _),?_⟩
   refine zaO (u:= .pointer (some ⟨g,0,Option.none⟩)) (z:=vi 0) (vq0) (vr0) (Lib.run_unsafeString_none (P:=Tryz.prog) _ _ _ _ _) ?_
   refine⟨.inr (Keep.refl _ _),?_⟩
   refine hK _ _ ?_;clear hK hgd;clear K;try clear gd
   repeat refine c_r ?_
   refine zaf (.inr rfl) Tryz.ntmps31 rfl (zac (vr0) zae) ?_
   exact⟨rfl,hx0.mono (fun i _ h=>h.elim)⟩
 simp only[List.length_map,Nat.mul_one]at hn hx hb hcs
 have hlen0:0<bs.length:=List.length_pos_iff.2 h0
 refine enter Tryz.func31 Tryz.ntmps31 rfl rfl ?_
 repeat refine c_r ?_
 refine rg0 ?_
 repeat refine c_r ?_
 have hbg:b≠g:=fun he=>by
  subst he
  rw[hb]at hg
  injection hg with hg
  injection hg with _ h2
  revert h2;decide
 have hc0:cap≠0:=by omega
 refine zaF (fun _=>false) [(0,true),(1,true),(2,true),(3,true),(5,true),(6,true),(7,true),(8,true),(9,true),(4,false),(10,false),(11,true)] ((fun i=>i=g)) mixed (by kernel_rfl) ?_;intro gd K x hgd hx hxe hK;have hx0:=zaT hxe;clear hxe
 have c1:zad x (some ⟨b,1,Option.none⟩)=some (.slice (some ⟨g,0,Option.none⟩) bs.length cap):=zaa (Ext.at hx0 hb) rfl
 have hgx:=Ext.at hx0 hg
 simp (disch:=first|omega|assumption|rfl) only[go_sem,c1,Nat.zero_add]
 refine⟨fun a ha hb=>(by cases ha;exact hbg hb),fun a ha hb=>(by cases ha;exact hbg hb),?_⟩
 refine zbf (u:= .slice (some ⟨g,0,Option.none⟩) bs.length cap) (vq0) (Lib.run_unsafeSliceData_row _ _ _ _ _ _ hc0) ?_
 refine⟨.inr (Keep.refl _ _),?_⟩
 refine zaO (u:= .pointer (some ⟨g,0,Option.none⟩)) (z:=vi bs.length) (vq0) (vq0) (Lib.run_unsafeString_row (P:=Tryz.prog) _ _ _ _ 5 (by rfl) (by rfl) g (cap*1) (by simp[World.shape?,hgx,hcs]) bs h0 (by omega) (by omega) ?_) ?_
 ·intro j y hj
  obtain⟨hj1,hj2⟩:=List.getElem?_eq_some_iff.1 hj
  have hcell:=hown.row
  obtain⟨a,c,e,hc,hgt⟩:=hcell.ext hx0
  injection e with e1 e2 e3
  have h2:=hgt j (by simpa using hj1)
  rw[←e1,List.getElem_map,hj2]at h2
  exact h2
 have hfk:Keep (fun i=>i=g) x (x.freeze ⟨g,0,Option.none⟩ bs.length):=zdX x ⟨g,0,Option.none⟩ bs.length
 refine⟨.inr hfk,?_⟩
 refine hK _ _ ?_;clear hK hgd;clear K;try clear gd
 repeat refine c_r ?_
 refine zaf (.inr rfl) Tryz.ntmps31 rfl (zac (vr0) zae) ?_
 exact⟨rfl,(hx0.mono (fun i _ h=>h.elim)).trans (hfk.mono (fun i _ h=>h▸hU g rfl))⟩
theorem own_one{B g:Nat}{w:World}{e:TypeId}{x:Value}(h:Own B w e (.slice (some ⟨g,0,Option.none⟩) 1 1) [x]):w.heap[g]? =some (.cells #[x] e (0,0)):=by
 rcases h.2 with ⟨h1,_⟩| ⟨g',cap,cur,h1,_,hg,_,_,hcs,htake⟩
 ·cases h1
 ·cases h1
  rw[hg]
  have h2:cur.toList.length=1:=by simpa using hcs
  have h3:cur.toList=[x]:=by
   rw[←htake,List.take_of_length_le (by simp[h2])]
  rw[show cur=#[x] from Array.toList_inj.1 (by simpa using h3)]
theorem zl8{B g:Nat}{w:World}{e:TypeId}{x:Value}(hg:w.heap[g]? =some (.cells #[x] e (0,0)))(hB:B≤g):Own B w e (.slice (some ⟨g,0,Option.none⟩) 1 1) [x]:=⟨rfl,.inr ⟨g,1,#[x],rfl,hB,hg,Nat.le_refl _,by decide,rfl,rfl⟩⟩
def zhf(C:List RecL)(m:Int)(o:Nm)(x:Nat×Bool):List Lab:=match C[x.1]? with
 |some r=>((if x.2=true then zbe r.owner o else [])::(if r.ttl=m then [] else [numT r.ttl]))++ [[73,78],tyT r.dat.ty,za5 hexU r.dat]
 |Option.none=>[]
def zfR(C:List RecL)(m:Int)(o:Nm)(x:Nat×Bool):Lab:=zaM [32] (zhf C m o x)++ [10]
def zgr(m:Int)(o:Nm):Lab:=(zaM [32] [[36,79,82,73,71,73,78],zaV o]++ [10])++(zaM [32] [[36,84,84,76],numT m]++ [10])
def zkU(R:List RecL)(o:Nm):Lab:=zgr (zdf ((zbw R).map RecL.ttl)) o++(zbF (zbw R)).flatMap (zfR (zbw R) (zdf ((zbw R).map RecL.ttl)) o)
theorem zkz{n o:Nm}(hn:NmT n):(zbe n o).length≤5000000:=by
 have h1:=zcd hn.1 hn.2
 unfold zbe
 split
 ·simp
 ·split
  ·have h2:=za4 [46] ((n.take (n.length - o.length)).map zau)
   have h3:zaG ((n.take (n.length - o.length)).map zau)≤4000*(n.take (n.length - o.length)).length:=zbj fun l hl=>by
    have h1:=zb0 l
    have h2:=hn.1 l (List.mem_of_mem_take hl)
    omega
   have h4:(n.take (n.length - o.length)).length≤1000:=by rw[List.length_take];have:=hn.2;omega
   have h5:4000*(n.take (n.length - o.length)).length≤4000*1000:=Nat.mul_le_mul_left _ h4
   rw[show ([46]:Lab).length=1 from rfl,List.length_map]at h2
   omega
  ·exact h1
theorem zlB{d:DatL}(h:DatT d):(za5 hexU d).length≤300000000:=by
 obtain⟨g1,g2⟩:=zd7 (fx:=hexU) (fun u hu=>by have:=zcX 3 u (by simpa using hu);omega) h
 have:=za4 [32] (zbN hexU d)
 unfold za5
 rw[show ([32]:Lab).length=1 from rfl]at this
 omega
theorem zjR{n:Int}(h:n≤4294967295):(numT n).length≤20:=zcT h
theorem zid{C:List RecL}{m:Int}{o:Nm}{x:Nat×Bool}(hT:∀r∈C,RecT r):(zhf C m o x).length≤5∧zaG (zhf C m o x)≤310000000:=by
 unfold zhf
 split
 ·rename_i r hr
  have hrT:=hT r (List.mem_of_getElem? hr)
  have a1:=zkz (o:=o) (n:=r.owner) ⟨hrT.ow.1,hrT.ow.2⟩
  have a2:=zjR hrT.tl.2
  have a3:=zgW hrT.ty.1 hrT.ty.2
  have a4:=zlB hrT.dat
  have a5:(if x.2=true then zbe r.owner o else([]:Lab)).length≤5000000:=by
   split
   ·exact a1
   ·simp
  by_cases hm:r.ttl=m
  ·rw[if_pos hm]
   refine⟨by simp,?_⟩
   simp only[zaG,List.map_cons,List.map_nil,List.sum_cons,List.sum_nil,List.length_cons,List.length_nil,List.cons_append,List.nil_append]
   omega
  ·rw[if_neg hm]
   refine⟨by simp,?_⟩
   simp only[zaG,List.map_cons,List.map_nil,List.sum_cons,List.sum_nil,List.length_cons,List.length_nil,List.cons_append,List.nil_append]
   omega
 ·exact⟨by simp,by simp[zaG]⟩
theorem zml{C:List RecL}{m:Int}{o:Nm}{x:Nat×Bool}(hT:∀r∈C,RecT r):(zfR C m o x).length≤400000000:=by
 obtain⟨h1,h2⟩:=zid (m:=m) (o:=o) (x:=x) hT
 have h3:=za4 [32] (zhf C m o x)
 unfold zfR
 rw[show ([32]:Lab).length=1 from rfl]at h3
 rw[List.length_append,show([10]:Lab).length=1 from rfl]
 omega
theorem zeP{C:List RecL}{m:Int}{o:Nm}(hT:∀r∈C,RecT r):∀l:List (Nat×Bool),(l.flatMap (zfR C m o)).length≤400000000*l.length
 | []=>Nat.zero_le _
 |x::l=>by
  have h1:=zeP (m:=m) (o:=o) hT l
  have h2:=zml (m:=m) (o:=o) (x:=x) hT
  rw[List.flatMap_cons,List.length_append,List.length_cons]
  omega
theorem zmF{m:Int}{o:Nm}(hm:m≤4294967295)(ho:NmT o):(zgr m o).length≤6000000:=by
 have a1:=zcd ho.1 ho.2
 have a2:=zjR hm
 have a3:=za4 [32] [[36,79,82,73,71,73,78],zaV o]
 have a4:=za4 [32] [[36,84,84,76],numT m]
 simp only[zaG,List.map_cons,List.map_nil,List.sum_cons,List.sum_nil,List.length_cons,List.length_nil]at a3 a4
 unfold zgr
 simp only[List.length_append,List.length_cons,List.length_nil]
 omega
theorem canonT{R:List RecL}(hT:∀r∈R,RecT r):∀r∈zbw R,RecT r:=
 zew (Q:=RecT) (cf:=zaA) (jn:=minT) (p:=fun r=>r) (fun a b ha hb _=>⟨ha.ow,by have h1:=ha.tl;have h2:=hb.tl;unfold minT;simp only;omega,ha.ty,ha.dat⟩) R [] hT (fun x h=>by cases h)
theorem zny{w:World}(hW:WY w){v ov:Value}{R:List RecL}{o:Nm}(hR:Rows 7 (RecAt w) w v R)(hT:∀r∈R,RecT r)(hok:∀r∈R,zby r)(hl:R.length≤100)(ho:Row w ov (o.map vs))(hoT:NmT o):
  Fn Tryz.prog 7 #[v,ov] w (fun u w'=>u=vs (zkU R o)∧Ext w w'):=by
 unfold zkU
 have hCT:=canonT hT
 have hCl:=zgR R
 obtain⟨oa,oc,hov,_⟩:=id ho
 obtain⟨on,hon⟩:∃on,(o.map vs).length=on:=⟨_,rfl⟩
 rw[hon]at hov
 subst hov
 refine enter Tryz.func7 Tryz.ntmps7 rfl rfl ?_
 refine go trivial ?_
 refine zan ?_
 intro w1 hE1 hs1 hA1
 refine go trivial ?_
 refine rc trivial (zks w w1 hE1 (hR.ext hE1) hok (by omega)) ?_
 rintro cv w2 ⟨hC,hE2,_⟩
 obtain⟨C,hCC⟩:∃C,zbw R=C:=⟨_,rfl⟩
 rw[hCC]at hC hCT hCl ⊢
 have hE12:=hE1.trans hE2
 have hC2:Rows 7 (RecAt w2) w2 cv C:=hC.to fun cs a h=>h.ext hE12
 refine rgo trivial ?_
 refine rq ?_;intro gd K hgd hK
 try simp only[go_sem]
 refine Fn.mono (usual_ok hC2 (by omega) fun r hr=>(hCT r hr).tl) ?_
 rintro _ w3 ⟨rfl,hE3⟩
 have hm0:0≤zdf (C.map RecL.ttl)∧zdf (C.map RecL.ttl)≤4294967295:=by
  cases hcc:C with
  |nil=>exact⟨Int.le_refl _,by decide⟩
  |cons r l=>
   have:=zhF (ts:=C.map RecL.ttl) (by rw[hcc];simp)
   obtain⟨q,hq,hqe⟩:=List.mem_map.1 this
   rw[←hcc,←hqe]
   exact(hCT q hq).tl
 obtain⟨u,hu⟩:∃u:Nat,zdf (C.map RecL.ttl)=(u:Int):=⟨(zdf (C.map RecL.ttl)).toNat,by omega⟩
 rw[hu]at hm0 ⊢
 have hul:u≤4294967295:=by omega
 have hE13:=hE12.trans hE3
 have hR3:Rows 7 (RecAt w3) w3 cv C:=(hC2.ext hE3).to fun cs a h=>h.ext hE3
 obtain⟨ca,cc,rfl,_,_⟩:=hR3.open
 try simp only[go_sem]
 refine zaq (P:=Tryz.prog) rfl rfl rfl (zat w3 _) (by simp) (by simp) ?_
 intro wA hsA hbA hkA
 rw[zax]at hsA
 have hEA:Ext w3 wA:=Keep.to_ext (Ext.alloc w3 _) rfl (fun b hb=>by omega) hkA
 try simp only[go_sem]
 refine hK _ _ ?_;clear hK hgd;clear K;try clear gd
 refine go trivial ?_
 refine zan ?_
 intro wB hEB hsB hbB
 refine rq ?_;intro gd K hgd hK
 try simp only[go_sem]
 refine zaq (P:=Tryz.prog) rfl rfl rfl (zat wB _) (by simp) (by simp) ?_
 intro wC hsC hbC hkC
 rw[zax]at hsC
 have hEC:Ext wB wC:=Keep.to_ext (Ext.alloc wB _) rfl (fun b hb=>by omega) hkC
 try simp only[go_sem]
 refine hK _ _ ?_;clear hK hgd;clear K;try clear gd
 refine go trivial ?_
 refine rq ?_;intro gd K hgd hK
 try simp only[go_sem]
 refine zaq (P:=Tryz.prog) rfl rfl rfl (zat wC _) (by simp) (by simp) ?_
 intro w4 hs4 hbD hkD
 rw[zax]at hs4
 have hED:Ext wC w4:=Keep.to_ext (Ext.alloc wC _) rfl (fun b hb=>by omega) hkD
 try simp only[go_sem]
 refine hK _ _ ?_;clear hK hgd;clear K;try clear gd
 refine go trivial ?_
 rw[hsA]at hsB hbB hbC
 rw[hsB]at hsC hbC
 rw[hsC]at hs4 hbD
 have hE34:Ext w3 w4:=((hEA.trans hEB).trans hEC).trans hED
 have hB5:=Ext.at ((hEB.trans hEC).trans hED) hbA
 have hB6:=Ext.at (hEC.trans hED) hbB
 have hB7:=Ext.at hED hbC
 obtain⟨S,hS⟩:∃S,w3.heap.size=S:=⟨_,rfl⟩
 obtain⟨B,hB⟩:∃B,w4.heap.size=B:=⟨_,rfl⟩
 obtain⟨D0,hD0⟩:∃D0,w.heap.size=D0:=⟨_,rfl⟩
 have hz1:=hE1.size
 have hz2:=hE2.size
 have hz3:=hE3.size
 have hA4:w4.heap[D0]? =_:=Ext.at hE34 (Ext.at hE3 (Ext.at hE2 (hD0▸hA1)))
 have cc4:∀{z:World},Keep (fun i=>i=S+1∨B≤i) w4 z→zad z (some ⟨D0,0,Option.none⟩)=some (.slice oa on oc)∧zad z (some ⟨S,0,Option.none⟩)=some (v32 u)∧zad z (some ⟨S+2,0,Option.none⟩)=some (.func (.func 22) #[] #[.pointer (some ⟨S+1,0,Option.none⟩)])∧zad z (some ⟨S+3,0,Option.none⟩)=some (.func (.func 25) #[] #[]):=fun {z} hk=>
  ⟨zaa ((hk.block _ (by omega) (by omega)).trans hA4) rfl,zaa ((hk.block _ (by omega) (by omega)).trans (hS▸hB5)) rfl,zaa ((hk.block _ (by omega) (by omega)).trans (hS▸hB7)) rfl,zaa ((hk.block _ (by omega) (by omega)).trans (hS▸hbD)) rfl⟩
 have hbld4:Bld B w4 (S+1) []:=⟨⟨_,_,.inl rfl,hS▸hB6,Own.nil _ _ _⟩⟩
 have hE4':Ext w w4:=hE13.trans hE34
 have hW4:=hW.ext hE4'
 have ho4:=ho.ext hE4'
 have a1:=zcd hoT.1 hoT.2
 have a2:=zbo 19 u (by omega)
 have g1:wA.heap.size=S+1:=by omega
 have g2:wB.heap.size=S+2:=by omega
 have g3:wC.heap.size=S+3:=by omega
 simp only[g1,g2,g3,hS,hD0]
 -- the first two rows
 obtain⟨c3,c5,c7,c8⟩:=cc4 (Keep.refl _ w4)
 refine zaF (fun i=>i==4) [(0,true),(1,true),(2,false),(3,false),(4,false)] NoS mixed (by kernel_rfl) ?_;intro gd K x hgd hx hxe hK;have hx0:=zaT hxe;clear hxe
 have d3:=zab hx0 c3
 have d7:=zab hx0 c7
 simp (disch:=first|omega|assumption|rfl) only[go_sem,d3,d7]
 refine Fn.mono (zfw _ _ o (ho4.ext hx0) (fun l hl=>by have:=hoT.1 l hl;omega) hoT.2) ?_
 rintro _ y1 ⟨rfl,hy1⟩
 refine⟨.inr hy1.keep,?_⟩
 simp (disch:=first|omega|assumption|rfl) only[go_sem]
 refine zbQ (z:=vs []) (l:=([[36,79,82,73,71,73,78],zaV o]:List Lab).map vs) rfl rfl rfl rfl rfl rfl (fun v hv=>by obtain⟨q,_,rfl⟩:=List.mem_map.1 hv;rfl) (by simp) ?_
 intro y2 hy2 hys2 hyo
 refine⟨.inr hy2.keep,?_⟩
 simp (disch:=first|omega|assumption|rfl) only[go_sem]
 have hxy:=(hx0.trans hy1).trans hy2
 have hsxy:=hxy.size
 refine Fn.mono (zkq (B:=B) hyo.row (by simp) (by simp only[zaG,List.map_cons,List.map_nil,List.sum_cons,List.sum_nil,List.length_cons,List.length_nil];omega) (hbld4.ext' hxy) (by omega) (by simp)) ?_
 rintro _ y3 ⟨hB3,hk3⟩
 refine⟨.inl rfl,?_⟩
 simp (disch:=first|omega|assumption|rfl) only[go_sem]
 refine hK _ _ ?_;clear hK hgd;clear K;try clear gd
 have hk34:Keep (fun i=>i=S+1∨B≤i) w4 y3:=(hxy.mono fun _ _ h=>h.elim).trans hk3
 have hs3:=hk34.size
 clear hk3 d3 d7 c3 c5 c7 c8 hyo
 obtain⟨c3,c5,c7,c8⟩:=cc4 hk34
 have hW3:WY y3:=hW.ext (Keep.to_ext hE4' rfl (fun b hb=>by omega) hk34)
 repeat refine c_r ?_
 refine zaF (fun i=>i==5) [(0,true),(1,true),(2,true),(3,false),(4,false),(5,false)] NoS mixed (by kernel_rfl) ?_;intro gd K x hgd hx hxe hK;have hx0:=zaT hxe;clear hxe
 have d5:=zab hx0 c5
 have d7:=zab hx0 c7
 have d8:=zab hx0 c8
 simp (disch:=first|omega|assumption|rfl) only[go_sem,d5,d7,d8]
 refine Fn.mono (zkp (hW3.ext hx0) u (by omega)) ?_
 rintro _ x1 ⟨rfl,hx1⟩
 refine⟨.inr hx1.keep,?_⟩
 simp (disch:=first|omega|assumption|rfl) only[go_sem]
 refine zbQ (z:=vs []) (l:=([[36,84,84,76],Lib.decDigits u]:List Lab).map vs) rfl rfl rfl rfl rfl rfl (fun v hv=>by obtain⟨q,_,rfl⟩:=List.mem_map.1 hv;rfl) (by simp) ?_
 intro x2 hx2 hxs2 hxo
 refine⟨.inr hx2.keep,?_⟩
 simp (disch:=first|omega|assumption|rfl) only[go_sem]
 have hxx:=(hx0.trans hx1).trans hx2
 have hsxx:=hxx.size
 have b1:=za4 [32] [[36,79,82,73,71,73,78],zaV o]
 simp only[zaG,List.map_cons,List.map_nil,List.sum_cons,List.sum_nil,List.length_cons,List.length_nil]at b1
 refine Fn.mono (zkq (B:=B) hxo.row (by simp) (by simp only[zaG,List.map_cons,List.map_nil,List.sum_cons,List.sum_nil,List.length_cons,List.length_nil];omega) (hB3.ext' hxx) (by omega) (by simp only[List.nil_append,List.length_append,List.length_cons,List.length_nil];omega)) ?_
 rintro _ z ⟨hBz,hkz⟩
 refine⟨.inl rfl,?_⟩
 simp (disch:=first|omega|assumption|rfl) only[go_sem]
 refine hK _ _ ?_;clear hK hgd;clear K;try clear gd
 have hk4z:Keep (fun i=>i=S+1∨B≤i) w4 z:=(hk34.trans (hxx.mono fun _ _ h=>h.elim)).trans hkz
 have hsz:=hk4z.size
 clear hkz d5 d7 d8 c3 c5 c7 c8 hxo
 rw[List.nil_append,show zaM [32] [[36,79,82,73,71,73,78],zaV o]++ [10]++(zaM [32] [[36,84,84,76],Lib.decDigits u]++ [10])=zgr (u:Int) o by unfold zgr numT;rw[Int.toNat_natCast]]at hBz
 have hhl:=zmF (m:=(u:Int)) (o:=o) (by omega) hoT
 refine go trivial ?_
 refine rc trivial (Fresh_ok z ca C.length cc) ?_
 rintro _ z1 ⟨rfl,hEz1,hsz1,hbz1⟩
 refine rgo trivial ?_
 obtain⟨f,hf⟩:∃f,z.heap.size=f:=⟨_,rfl⟩
 have hz1s:z1.heap.size=f+1:=by omega
 have hk4z1:=hk4z.trans (hEz1.mono fun _ _ h=>h.elim)
 have hE3z1:Ext w3 z1:=Keep.to_ext hE34 rfl (fun b hb=>by omega) hk4z1
 have hU0:BldU (fun i=>B≤i∧(i<f∨f+3≤i)) z1 (S+1) (zgr (u:Int) o):=(hBz.toU fun i h1 h2=>⟨h1,.inl (by omega)⟩).ext hEz1
 refine zc5 (g:=54) (cap:=#[.pointer (some ⟨z.heap.size,0,Option.none⟩)]) (vq0) rfl (freshIt (n0:=z1.heap.size) (C:=fun i=>i=S+1∨(B≤i∧i<f)) hE3z1 hR3 hbz1 (by omega) (by omega) (fun b hb=>by omega) (by omega) (by omega) (fun r hr=>by have:=(hCT r hr).ow.2;omega)) (Keep.refl _ _) (Nat.le_refl _) (fun b hb=>by omega)
  (fun x A args h=>by obtain⟨cs,r,_,_,rfl⟩:=h;rfl)
  (fun pre A=>Keep (fun i=>i=S+1∨B≤i) w4 A∧BldU (fun i=>B≤i∧(i<f∨f+3≤i)) A (S+1) (zgr (u:Int) o++pre.flatMap (zfR C (u:Int) o)))
  (fun _ _ _=>False) ?_ (fun _ _ _ _ h _=>h.elim) ?_ ?_ ?_ (fun _ _ _ _ _ _ _ h _=>h.elim)
 ·rintro pre A A' ⟨h1,h2⟩ hk
  exact⟨h1.trans (hk.mono fun i _ hi=>by unfold two at hi;omega),h2.keep hk (by unfold two;omega) fun i hi _ ht=>by unfold two at ht;omega⟩
 ·exact⟨hk4z1,by simpa using hU0⟩
 ·rintro lp pre x suf A args hxs hszA ⟨hkA,hBA⟩ ⟨cs,r,hxr,hcs,rfl⟩
  obtain⟨xi,xb⟩:=x
  simp only at hxr
  have hrT:=hCT r (List.mem_of_getElem? hxr)
  have hc7:=hcs.len
  obtain⟨ow,ds',hce,how,hdat⟩:=hcs.ex
  obtain⟨nm,nu,tx,rw',hde,_⟩:=hdat.ex
  have hE3A:Ext w3 A:=Keep.to_ext hE34 rfl (fun b hb=>by omega) hkA
  repeat refine c_r ?_
  refine rq ?_;intro gd K hgd hK
  try simp only[go_sem]
  refine zbm (P:=Tryz.prog) (l:=cs) (by rw[hc7];rfl) hcs.ones (by rw[hc7];rfl) rfl ?_
  intro A1 hEA1 hsA1 hBv
  try simp only[go_sem]
  refine hK _ _ ?_;clear hK hgd;clear K;try clear gd
  repeat refine c_r ?_
  refine rq ?_;intro gd K hgd hK
  try simp only[go_sem]
  refine hK _ _ ?_;clear hK hgd;clear K;try clear gd
  refine zaz ?_
  refine⟨rfl,hEA1.toB (by omega) (fun _ _ h=>h.elim),fun A2 hA2=>?_⟩
  have hs2A:=hA2.size
  have hk42:Keep (fun i=>i=S+1∨B≤i) w4 A2:=(hkA.trans (hEA1.mono fun _ _ h=>h.elim)).trans (hA2.mono fun i _ hi=>by unfold two at hi;omega)
  have hBU2:=(hBA.ext hEA1).keep hA2 (by unfold two;omega) (fun i hi _ ht=>by unfold two at ht;omega)
  have hp2:=(hA2.block _ (by omega) (by unfold two;omega)).trans hBv
  obtain⟨e3,e5,e7,e8⟩:=cc4 hk42
  obtain⟨p,hp⟩:∃p,A.heap.size=p:=⟨_,rfl⟩
  rw[hp]at hp2
  have o0:zad A2 (some ⟨p,0,Option.none⟩)=some ow:=za2 (l:=cs) (j:=0) hp2 (by rw[hce];rfl)
  have o1:zad A2 (some ⟨p,1,Option.none⟩)=some (v32 r.ttl):=za2 (l:=cs) (j:=1) hp2 (by rw[hce];rfl)
  have o2:zad A2 (some ⟨p,2,Option.none⟩)=some (vi r.dat.ty):=za2 (l:=cs) (j:=2) hp2 (by rw[hce,hde];rfl)
  have o5:zar A2 (some ⟨p,2,Option.none⟩) 5=some ds':=by
   have h7:=zal (n:=7) hp2 hc7.symm
   have:=zbI (m:=2) (k:=5) h7
   rw[zaZ]at this
   rw[hce,hde]at this
   rw[hde]
   exact this
  have hE3A2:Ext w3 A2:=Keep.to_ext hE34 rfl (fun b hb=>by omega) hk42
  have hWA2:WY A2:=hW.ext (hE13.trans hE3A2)
  have howA:=how.ext hE3A2
  have hoA:=ho.ext (hE13.trans hE3A2)
  obtain⟨k,hk⟩:∃k:Nat,r.ttl=k:=⟨r.ttl.toNat,by have:=hrT.tl;omega⟩
  have hkl:=hrT.tl
  obtain⟨N2,hN2⟩:∃N2,A2.heap.size=N2:=⟨_,rfl⟩
  simp only[hp]
  refine go trivial ?_
  refine rq ?_;intro gd K hgd hK
  try simp only[go_sem]
  refine zbk (z:=vs []) rfl rfl rfl rfl rfl ?_
  intro y1 hy1 hys1 hyo
  try simp only[go_sem]
  refine hK _ _ ?_;clear hK hgd;clear K;try clear gd
  rw[hN2]at hyo hys1 ⊢
  have hyb:=own_one hyo
  refine go trivial ?_
  refine zas (Q:=fun e σ' ds' v'=>e= .normal∧ds'=[]∧Ext A2 v'∧v'.heap[N2]? =some (.cells #[vs (if xb=true then zbe r.owner o else [])] 9 (0,0))∧
   (σ' 5= .pointer (some ⟨S,0,Option.none⟩)∧σ' 7= .pointer (some ⟨S+2,0,Option.none⟩)∧σ' 8= .pointer (some ⟨S+3,0,Option.none⟩)∧σ' 9= .pointer (some ⟨p,0,Option.none⟩)∧σ' 11= .slice (some ⟨N2,0,Option.none⟩) 1 1)) ?_ ?_
  ·cases xb with
   |false=>
    refine go trivial ?_
    exact⟨rfl,rfl,hy1,by simpa using hyb,vr0,vr0,vr0,vr0,vr0⟩
   |true=>
    refine go trivial ?_
    have q0:=zab hy1 o0
    have q3:=zab hy1 e3
    refine rq ?_;intro gd K hgd hK
    try simp (disch:=first|omega|assumption|rfl) only[go_sem,q0,q3,Nat.zero_add]
    refine Fn.mono (zhA (howA.ext hy1) (hoA.ext hy1) ⟨hrT.ow.1,hrT.ow.2⟩ hoT) ?_
    rintro _ y2 ⟨rfl,hy2⟩
    try simp (disch:=first|omega|assumption|rfl) only[go_sem,zam,Nat.zero_mul]
    refine zaq (P:=Tryz.prog) rfl rfl rfl (Ext.at hy2 hyb) (by simp) (by simp) ?_
    intro y3 hs3' hb3 hk3
    try simp only[go_sem]
    refine hK _ _ ?_;clear hK hgd;clear K;try clear gd
    refine go trivial ?_
    exact⟨rfl,rfl,Keep.to_ext (hy1.trans hy2) rfl (fun b hb=>by omega) hk3,by simpa using hb3,vr0,vr0,vr0,vr0,vr0⟩
  rintro _ σ1 _ v1 ⟨rfl,rfl,hEv1,hrow1,s5,s7,s8,s9,s11⟩
  have hlv1:=(Array.getElem?_eq_some_iff.1 hrow1).1
  obtain⟨sh,hsh⟩:∃sh,(if xb=true then zbe r.owner o else([]:Lab))=sh:=⟨_,rfl⟩
  rw[hsh]at hrow1
  obtain⟨t,ht⟩:∃t,decide (r.ttl=(u:Int))=t:=⟨_,rfl⟩
  have r1:=zab hEv1 o1
  have r5:=zab hEv1 e5
  refine go (an8 s5 s7 s8 s9 s11 r1 r5 ht) ?_
  refine zas (Q:=fun e σ' ds' v'=>e= .normal∧ds'=[]∧Ext A2 v'∧(∃sv,σ' 11=sv∧Own N2 v' 9 sv ((sh::if t=true then [] else [numT r.ttl]).map vs))∧
   (σ' 7= .pointer (some ⟨S+2,0,Option.none⟩)∧σ' 9= .pointer (some ⟨p,0,Option.none⟩))) ?_ ?_
  ·cases t with
   |true=>
    refine go trivial ?_
    exact⟨rfl,rfl,hEv1,⟨_,(vq1 s11),zl8 hrow1 (Nat.le_refl _)⟩,(vq1 s7),(vq1 s9)⟩
   |false=>
    refine go trivial ?_
    have r8:=zab hEv1 e8
    have r1':zad v1 (some ⟨p,1,Option.none⟩)=some (.int .u32 (k:Nat)):=by rw[r1,hk]
    refine rq ?_;intro gd K hgd hK
    try simp (disch:=first|omega|assumption|rfl) only[go_sem,s11,s8,s9,r8,r1',Nat.zero_add]
    refine Fn.mono (zkp (hWA2.ext hEv1) k (by omega)) ?_
    rintro _ q1 ⟨rfl,hq1⟩
    try simp only[go_sem]
    refine zbk (z:=vs []) rfl rfl rfl rfl rfl ?_
    intro q2 hq2 hqs2 hqo
    try simp (disch:=first|omega|assumption|rfl) only[go_sem,s11]
    have hq12:=hq1.trans hq2
    have hsq:=hq12.size
    refine za8 (e:=9) ((zl8 hrow1 (Nat.le_refl _)).ext hq12) hqo.row rfl rfl rfl rfl rfl rfl ((vr1 s11)) (vr0) (fun q hq=>by simp at hq;subst hq;rfl) (by simp) (by decide) (by omega) ?_
    intro sv' q3 hown3 hX3 hK3 hb3
    try simp only[go_sem]
    refine hK _ _ ?_;clear hK hgd;clear K;try clear gd
    refine go trivial ?_
    refine⟨rfl,rfl,hX3 A2 (hEv1.trans hq12) (by omega),⟨sv',vr0,?_⟩,(vq1 s7),(vq1 s9)⟩
    rw[if_neg (by decide),hk]
    have:numT (k:Int)=Lib.decDigits k:=by unfold numT;rw[Int.toNat_natCast]
    rw[this]
    exact hown3
  clear s5 s7 s8 s9 s11 r1 r5
  rintro _ σ2 _ v2 ⟨rfl,rfl,hEv2,⟨sv,s11,hown⟩,s7,s9⟩
  have hsv2:=hEv2.size
  have r7:=zab hEv2 e7
  have r2:=zab hEv2 o2
  have r5:=zah hEv2 o5
  refine go (an2 s7 s9) ?_
  refine zaF (fun i=>i==11) [(0,true),(1,true),(2,true),(3,true),(4,true),(6,true),(7,true),(5,false),(8,false),(9,false),(10,false),(11,false)] (zcK N2) mixed (by kernel_rfl) ?_;intro gd K x hgd hx hxe hK;have hx0:=zaT hxe;clear hxe
  have q7:=zab hx0 r7
  have q2:=zab hx0 r2
  have q5:=zah hx0 r5
  simp (disch:=first|omega|assumption|rfl) only[go_sem,s7,s9,s11,q7,q2,q5,Nat.zero_add]
  refine⟨zbu (by omega),zbu (by omega),zbu (by omega),?_⟩
  refine Fn.mono (zki ((hWA2.ext hEv2).ext hx0) r.dat.ty hrT.ty.1 hrT.ty.2) ?_
  rintro _ y1 ⟨rfl,hy1'⟩
  refine⟨.inr hy1'.keep,?_⟩
  simp (disch:=first|omega|assumption|rfl) only[go_sem]
  refine Fn.mono (zgo (((hWA2.ext hEv2).ext hx0).ext hy1') (hdat.ext (((hE3A2.trans hEv2).trans hx0).trans hy1')) hrT.dat) ?_
  rintro _ y2 ⟨rfl,hy2⟩
  refine⟨.inr hy2.keep,?_⟩
  simp (disch:=first|omega|assumption|rfl) only[go_sem]
  refine zbQ (z:=vs []) (l:=([[73,78],tyT r.dat.ty,za5 hexU r.dat]:List Lab).map vs) rfl rfl rfl rfl rfl rfl (fun v hv=>by obtain⟨q,_,rfl⟩:=List.mem_map.1 hv;rfl) (by simp) ?_
  intro y3 hy3 hys3 hyo3
  refine⟨.inr hy3.keep,?_⟩
  simp (disch:=first|omega|assumption|rfl) only[go_sem,s11]
  have hxy:=((hx0.trans hy1').trans hy2).trans hy3
  have hsxy:=hxy.size
  have hll:(sh::if t=true then([]:List Lab) else [numT r.ttl]).length≤2:=by split<;>simp
  refine za8 (e:=9) (hown.ext hxy) hyo3.row rfl rfl rfl rfl rfl rfl ((vr1 s11)) (vr0) (fun q hq=>by obtain⟨_,_,rfl⟩:=List.mem_map.1 hq;rfl) (by rw[List.length_map,List.length_map];simp only[List.length_cons,List.length_nil];simp only[List.length_cons]at hll;omega) (by decide) (by omega) ?_
  intro sv4 y4 hown4 hX4 hK4 hb4
  refine⟨.inr (hK4.mono fun b _ hb=>by have:=(hown.ge hb).1;show _≤_;omega),?_⟩
  simp (disch:=first|omega|assumption|rfl) only[go_sem,s7,q7]
  have hsy4:=hK4.size
  have hE24:Ext A2 y4:=hX4 A2 (hEv2.trans hxy) (by omega)
  have hline:zhf C (u:Int) o (xi,xb)=(sh::if t=true then [] else [numT r.ttl])++ [[73,78],tyT r.dat.ty,za5 hexU r.dat]:=by
   unfold zhf
   simp only[hxr,hsh,←ht,decide_eq_true_eq]
  have hrow4:Row y4 sv4 ((zhf C (u:Int) o (xi,xb)).map vs):=by
   rw[hline,List.map_append];exact hown4.row
  obtain⟨k1,k2⟩:=zid (C:=C) (m:=(u:Int)) (o:=o) (x:=(xi,xb)) hCT
  have hpl:pre.length<C.length:=by
   have:=congrArg List.length hxs
   rw[zdF,List.length_append,List.length_cons]at this
   omega
  have hfl:=zeP (m:=(u:Int)) (o:=o) hCT pre
  have hm4:400000000*pre.length≤400000000*100:=Nat.mul_le_mul_left _ (by omega)
  refine Fn.mono (File1_U hrow4 (by omega) (by omega) (hBU2.ext hE24) (fun i hi=>by constructor<;>omega) (by rw[List.length_append];omega)) ?_
  rintro _ y5 ⟨hB5',hk5⟩
  refine⟨.inl rfl,?_⟩
  simp (disch:=first|omega|assumption|rfl) only[go_sem]
  refine hK _ _ ?_;clear hK hgd;clear K;try clear gd
  refine go trivial ?_
  refine⟨⟨(hk42.trans (hE24.mono fun _ _ h=>h.elim)).trans (hk5.mono fun i _ hi=>by omega),?_⟩,(hE24.toB (by omega) (fun _ _ h=>h.elim)).trans (hk5.toB (by omega) (fun j hj h=>by omega))⟩
  rw[List.flatMap_append,List.flatMap_singleton,←List.append_assoc]
  exact hB5'
 ·intro A hszA ⟨hkA,hBA⟩ hD
  have hfl:=zeP (m:=(u:Int)) (o:=o) hCT (zbF C)
  rw[zdF]at hfl
  have hm4:400000000*C.length≤400000000*100:=Nat.mul_le_mul_left _ (by omega)
  refine go trivial ?_
  refine rq ?_;intro gd K hgd hK
  try simp only[go_sem]
  refine Fn.mono (String_U hBA (by rw[List.length_append];omega)) ?_
  rintro _ z2 ⟨rfl,hkz⟩
  try simp only[go_sem]
  refine hK _ _ ?_;clear hK hgd;clear K;try clear gd
  refine go trivial ?_
  refine zfl (v:=vs (zgr (u:Int) o++(zbF C).flatMap (zfR C (u:Int) o))) (.inr rfl) (by rfl) Tryz.ntmps7 (vr0) ((hkz.block _ (by omega) (by omega)).trans hD) ?_
  intro Z hkZ hsZ
  exact⟨by rw[hu],Keep.to_ext (Keep.to_ext (Keep.to_ext hE4' rfl (fun b hb=>by omega) hkA) rfl (fun b hb=>by omega) hkz) rfl (fun b hb=>by omega) hkZ⟩
set_option maxRecDepth 100000
theorem bsL_at{P:Program}{w:World}{K:Value→World→Prop}{t e:TypeId}{n:Nat}{parts:List (Nat×Value)}{arr:Array Value}(h:bsC P t n parts=some (e,arr))
  (hk:∀w1,Ext w w1→w1.heap.size=w.heap.size+1→w1.heap[w.heap.size]? =some (.cells arr e (0,0))→K (.slice (some ⟨w.heap.size,0,Option.none⟩) n n) w1):bsL P t n parts w K .mk:=by
 unfold bsL bsK
 rw[h]
 exact hk _ (Ext.alloc w _) (zax w _) (zat w _)
theorem zb9(w:World):NamesAt w (.slice Option.none 0 0) []:=⟨[],(Own.nil 0 w 0).row,rfl,fun i h=>absurd h (by simp)⟩
theorem zh6{w:World}{nv sv:Value}{n:Nm}(h1:Row w sv [nv])(h2:Row w nv (n.map vs)):NamesAt w sv [n]:=⟨[nv],h1,rfl,fun i h h'=>by
 have h0:i=0:=by simp at h;omega
 subst h0
 exact h2⟩
def kNm:Nm:=[[97],[111]]
def kRa:RecL:=⟨kNm,60,⟨1,[],[],[],[1,2,3,4]⟩⟩
def kRb:RecL:=⟨kNm,60,⟨2,[[[120]]],[],[],[]⟩⟩
theorem kRa_T:RecT kRa:=⟨by decide,by decide,by decide,⟨⟨by decide,by decide,by decide,by decide,by decide,by decide,by decide⟩,by decide⟩⟩
theorem kRb_T:RecT kRb:=⟨by decide,by decide,by decide,⟨⟨by decide,by decide,by decide,by decide,by decide,by decide,by decide⟩,by decide⟩⟩
theorem kRa_ok:zby kRa:=⟨by unfold LB;decide,by decide,⟨by unfold LB;decide,by decide,by decide,by decide,by decide,by decide⟩⟩
theorem kRb_ok:zby kRb:=⟨by unfold LB;decide,by decide,⟨by unfold LB;decide,by decide,by decide,by decide,by decide,by decide⟩⟩
theorem k_all{Q:RecL→Prop}(h1:Q kRa)(h2:Q kRb):∀r∈ [kRa,kRb],Q r:=fun r hr=>by
 simp only[List.mem_cons,List.not_mem_nil,or_false]at hr
 rcases hr with rfl|rfl
 ·exact h1
 ·exact h2
theorem k_file:zkU [kRa,kRb] [[111]]=[36,79,82,73,71,73,78,32,111,46,10,36,84,84,76,32,54,48,10,97,32,73,78,32,65,32,49,46,50,46,51,46,52,10,32,73,78,32,78,83,32,120,46,10]:=by decide+kernel
theorem k_sh1:zbe kNm kNm=[64]:=by decide+kernel
theorem k_sh2:zbe kNm [[113]]=[97,46,111,46]:=by decide+kernel
theorem k_lin:zgC [kRa]=[97,46,111,46,32,54,48,32,73,78,32,65,32,49,46,50,46,51,46,52,10]:=by decide+kernel
theorem zlf{w0:World}(hW:WY w0):Fn Tryz.prog 4 #[] w0 (fun v w'=>v= .bool true∧Ext w0 w'):=by
 refine enter Tryz.func4 Tryz.ntmps4 rfl rfl ?_
 refine go trivial ?_
 refine rq ?_;intro gd K hgd hK
 try simp only[go_sem]
 refine zbQ (z:=vs []) (l:=[vs [97],vs [111]]) rfl rfl rfl rfl rfl rfl (fun v hv=>by simp at hv;rcases hv with rfl|rfl<;>rfl) (by simp) ?_
 intro x1 e1 s1 o1
 obtain⟨c1,hc1⟩:∃c,w0.heap.size=c:=⟨_,rfl⟩
 rw[hc1]at o1 ⊢
 have r1:Row x1 (.slice (some ⟨c1,0,Option.none⟩) 2 2) (kNm.map vs):=o1.row
 try simp only[go_sem]
 refine hK _ _ ?_;clear hK hgd;clear K;try clear gd
 refine go trivial ?_
 refine rq ?_;intro gd K hgd hK
 try simp only[go_sem]
 refine zbQ (z:= .int .u8 0) (l:=[.int .u8 1,.int .u8 2,.int .u8 3,.int .u8 4]) rfl rfl rfl rfl rfl rfl (fun v hv=>by simp at hv;rcases hv with rfl|rfl|rfl|rfl<;>rfl) (by simp) ?_
 intro x2 e2 s2 o2
 obtain⟨c2,hc2⟩:∃c,x1.heap.size=c:=⟨_,rfl⟩
 rw[hc2]at o2 ⊢
 have r2:Row x2 (.slice (some ⟨c2,0,Option.none⟩) 4 4) (([1,2,3,4]:List UInt8).map zao):=o2.row
 try simp only[go_sem]
 refine⟨by kernel_rfl,?_⟩
 rw[show bdV Tryz.prog 47 [(0,vi 1),(4,.slice (some ⟨c2,0,Option.none⟩) 4 4)]=some (.agg #[vi 1,.slice Option.none 0 0,.slice Option.none 0 0,.slice Option.none 0 0,.slice (some ⟨c2,0,Option.none⟩) 4 4]) from by kernel_rfl]
 try simp only[go_sem]
 refine⟨by kernel_rfl,?_⟩
 rw[show bdV Tryz.prog 49 [(0,.slice (some ⟨c1,0,Option.none⟩) 2 2),(1,v32 60),(2,.agg #[vi 1,.slice Option.none 0 0,.slice Option.none 0 0,.slice Option.none 0 0,.slice (some ⟨c2,0,Option.none⟩) 4 4])]=some (.agg #[.slice (some ⟨c1,0,Option.none⟩) 2 2,v32 60,vi 1,.slice Option.none 0 0,.slice Option.none 0 0,.slice Option.none 0 0,.slice (some ⟨c2,0,Option.none⟩) 4 4]) from by kernel_rfl]
 try simp only[go_sem]
 refine zbQ (z:=vs []) (l:=[vs [120]]) rfl rfl rfl rfl rfl rfl (fun v hv=>by simp at hv;rcases hv with rfl;rfl) (by simp) ?_
 intro x3 e3 s3 o3
 obtain⟨c3,hc3⟩:∃c,x2.heap.size=c:=⟨_,rfl⟩
 rw[hc3]at o3 ⊢
 have r3:Row x3 (.slice (some ⟨c3,0,Option.none⟩) 1 1) (([[120]]:Nm).map vs):=o3.row
 try simp only[go_sem]
 refine zbQ (z:= .slice Option.none 0 0) (l:=[.slice (some ⟨c3,0,Option.none⟩) 1 1]) rfl rfl rfl rfl rfl rfl (fun v hv=>by simp at hv;subst hv;rfl) (by simp) ?_
 intro x4 e4 s4 o4
 obtain⟨c4,hc4⟩:∃c,x3.heap.size=c:=⟨_,rfl⟩
 rw[hc4]at o4 ⊢
 have r4:=o4.row
 try simp only[go_sem]
 refine⟨by kernel_rfl,?_⟩
 rw[show bdV Tryz.prog 47 [(0,vi 2),(1,.slice (some ⟨c4,0,Option.none⟩) 1 1)]=some (.agg #[vi 2,.slice (some ⟨c4,0,Option.none⟩) 1 1,.slice Option.none 0 0,.slice Option.none 0 0,.slice Option.none 0 0]) from by kernel_rfl]
 try simp only[go_sem]
 refine⟨by kernel_rfl,?_⟩
 rw[show bdV Tryz.prog 49 [(0,.slice (some ⟨c1,0,Option.none⟩) 2 2),(1,v32 60),(2,.agg #[vi 2,.slice (some ⟨c4,0,Option.none⟩) 1 1,.slice Option.none 0 0,.slice Option.none 0 0,.slice Option.none 0 0])]=some (.agg #[.slice (some ⟨c1,0,Option.none⟩) 2 2,v32 60,vi 2,.slice (some ⟨c4,0,Option.none⟩) 1 1,.slice Option.none 0 0,.slice Option.none 0 0,.slice Option.none 0 0]) from by kernel_rfl]
 try simp only[go_sem]
 refine bsL_at (e:=49) (arr:=#[.slice (some ⟨c1,0,Option.none⟩) 2 2,v32 60,vi 1,.slice Option.none 0 0,.slice Option.none 0 0,.slice Option.none 0 0,.slice (some ⟨c2,0,Option.none⟩) 4 4,.slice (some ⟨c1,0,Option.none⟩) 2 2,v32 60,vi 2,.slice (some ⟨c4,0,Option.none⟩) 1 1,.slice Option.none 0 0,.slice Option.none 0 0,.slice Option.none 0 0]) (by kernel_rfl) ?_
 intro x5 e5 s5 b5
 obtain⟨c5,hc5⟩:∃c,x4.heap.size=c:=⟨_,rfl⟩
 rw[hc5]at b5 ⊢
 try simp only[go_sem]
 refine hK _ _ ?_;clear hK hgd;clear K;try clear gd
 have hE5:=(((e1.trans e2).trans e3).trans e4).trans e5
 have hn5:=r1.ext (((e2.trans e3).trans e4).trans e5)
 have hrows:Rows 7 (RecAt x5) x5 (.slice (some ⟨c5,0,Option.none⟩) [kRa,kRb].length 2) [kRa,kRb]:=by
  refine Rows.close (by decide) (fun i hi=>?_)
  have hi2:i=0∨i=1:=by
   have h2:i<2:=hi
   omega
  rcases hi2 with rfl|rfl
  ·refine⟨_,by rw[zaZ];exact zay b5 (Nat.le_of_ble_eq_true rfl),⟨_,_,rfl,hn5,⟨_,_,_,_,rfl,zb9 _,(Own.nil 0 _ 0).row,(Own.nil 0 _ 0).row,r2.ext ((e3.trans e4).trans e5)⟩⟩⟩
  ·refine⟨_,by rw[zaZ];exact zay b5 (Nat.le_of_ble_eq_true rfl),⟨_,_,rfl,hn5,⟨_,_,_,_,rfl,zh6 (r4.ext e5) (r3.ext (e4.trans e5)),(Own.nil 0 _ 0).row,(Own.nil 0 _ 0).row,(Own.nil 0 _ 0).row⟩⟩⟩
 refine go trivial ?_
 refine rq ?_;intro gd K hgd hK
 have hg4:∀n σ b,zaE gd n σ (some (4,b))=zap (ev n σ (.tmp 18)) b:=(fun n σ b=>by rw[zag,show gd 4=some 18 from(by rw[hgd];rfl)];rfl);have hg10:∀n σ b,zaE gd n σ (some (10,b))=zap (ev n σ (.tmp 24)) b:=(fun n σ b=>by rw[zag,show gd 10=some 24 from(by rw[hgd];rfl)];rfl);have hg16:∀n σ b,zaE gd n σ (some (16,b))=zap (ev n σ (.tmp 30)) b:=(fun n σ b=>by rw[zag,show gd 16=some 30 from(by rw[hgd];rfl)];rfl)
 try simp (disch:=first|omega|assumption|rfl) only[go_sem,↓hg4,↓hg10,↓hg16]
 refine zbQ (z:=vs []) (l:=[vs [111]]) rfl rfl rfl rfl rfl rfl (fun v hv=>by simp at hv;rcases hv with rfl;rfl) (by simp) ?_
 intro x6 e6 s6 o6
 try simp (disch:=first|omega|assumption|rfl) only[go_sem,↓hg4,↓hg10,↓hg16]
 have hW6:=(hW.ext hE5).ext e6
 refine Fn.mono (zny (o:=[[111]]) hW6 ((hrows.ext e6).to fun cs a h=>h.ext e6) (k_all kRa_T kRb_T) (k_all kRa_ok kRb_ok) (by decide) o6.row ⟨by decide,by decide⟩) ?_
 rintro _ x7 ⟨rfl,e7⟩
 rw[k_file]
 have d1:decide (([36,79,82,73,71,73,78,32,111,46,10,36,84,84,76,32,54,48,10,97,32,73,78,32,65,32,49,46,50,46,51,46,52,10,32,73,78,32,78,83,32,120,46,10]:Lab)=[36,79,82,73,71,73,78,32,111,46,10,36,84,84,76,32,54,48,10,97,32,73,78,32,65,32,49,46,50,46,51,46,52,10,32,73,78,32,78,83,32,120,46,10])=true:=decide_eq_true rfl
 try simp (disch:=first|omega|assumption|rfl) only[go_sem,d1,↓hg4,↓hg10,↓hg16]
 have hn7:=(hn5.ext e6).ext e7
 refine Fn.mono (zhA (n:=kNm) (o:=kNm) hn7 hn7 ⟨by decide,by decide⟩ ⟨by decide,by decide⟩) ?_
 rintro _ x8 ⟨rfl,e8⟩
 rw[k_sh1]
 have d2:decide (([64]:Lab)=[64])=true:=decide_eq_true rfl
 try simp (disch:=first|omega|assumption|rfl) only[go_sem,d2,↓hg4,↓hg10,↓hg16]
 refine zbQ (z:=vs []) (l:=[vs [113]]) rfl rfl rfl rfl rfl rfl (fun v hv=>by simp at hv;rcases hv with rfl;rfl) (by simp) ?_
 intro x9 e9 s9 o9
 try simp (disch:=first|omega|assumption|rfl) only[go_sem,↓hg4,↓hg10,↓hg16]
 refine Fn.mono (zhA (n:=kNm) (o:=[[113]]) ((hn7.ext e8).ext e9) o9.row ⟨by decide,by decide⟩ ⟨by decide,by decide⟩) ?_
 rintro _ y1 ⟨rfl,f1⟩
 rw[k_sh2]
 have d3:decide (([97,46,111,46]:Lab)=[97,46,111,46])=true:=decide_eq_true rfl
 have hE57:=(((e6.trans e7).trans e8).trans e9).trans f1
 try simp (disch:=first|omega|assumption|rfl) only[go_sem,d3,zam,↓hg4,↓hg10,↓hg16]
 refine Fn.mono (Lines_ok (R:=[kRa]) (hW.ext (hE5.trans hE57)) (((hrows.take (m:=1) (c2:=2) (by decide) (by decide)).ext hE57).to fun cs a h=>h.ext hE57) (fun r hr=>by rw[List.mem_singleton.1 hr];exact kRa_T) (by decide)) ?_
 rintro _ y2 ⟨rfl,f2⟩
 rw[k_lin]
 have d4:decide (([97,46,111,46,32,54,48,32,73,78,32,65,32,49,46,50,46,51,46,52,10]:Lab)=[97,46,111,46,32,54,48,32,73,78,32,65,32,49,46,50,46,51,46,52,10])=true:=decide_eq_true rfl
 try simp (disch:=first|omega|assumption|rfl) only[go_sem,d4,↓hg4,↓hg10,↓hg16]
 refine hK _ _ ?_;clear hK hgd;clear K;try clear gd
 refine go trivial ?_
 refine rt0 Tryz.ntmps4 ?_
 exact⟨rfl,(hE5.trans hE57).trans f2⟩
section
variable {α : Type} {cf : α → α → Int} {jn : α → α → α}
end
section
variable {H : Type} {enc : TypeId × Value → H} {P : Program} {w : World} {base : Nat} {sp : Nat → Bool} {held : Bool}
def RdC(enc:TypeId×Value→H)(P:Program)(w:World)(base:Nat)(sp:Nat→Bool)(held:Bool)(t:TypeId)(cs:List Value):Prop:=∃n x,DataW.trod enc P w base sp held n t cs=some x∧∀k∈x.1.weights P t,k≤reachBytes
theorem RdC.one{t:TypeId}{v:Value}(h:RdC enc P w base sp held t [v]):Rd enc P w base sp held t v:=h
theorem Rd.c{t:TypeId}{v:Value}(h:Rd enc P w base sp held t v):RdC enc P w base sp held t [v]:=h
theorem ziD{a:Addr}:∀(k i:Nat) {l:List Value},l.length=k→(∀j (h:j<l.length),w.cell? (a.add (i+j))=some l[j])→zaQ w a i k=some l
 |0,_,l,hl,_=>by
  have:l=[]:=List.length_eq_zero_iff.1 hl
  subst this;rfl
 |k+1,i,l,hl,h=>by
  cases l with
  |nil=>cases hl
  |cons v l=>
   have h0:=h 0 (by simp)
   have ih:=ziD (l:=l) k (i+1) (by simpa using hl) (fun j hj=>by
    have:=h (j+1) (by simpa using hj)
    rw[show i+(j+1)=i+1+j from by omega]at this
    simpa using this)
   unfold zaQ
   rw[Nat.add_zero]at h0
   rw[h0,ih];rfl
theorem zlT{t e:TypeId}{k:Nat}{v:Value}(h:Rd enc P w base sp held t v)(ht:P.underlying t=some (.slice e))(hc:P.cellsOf e=k):
  ∃L,RowK k w v L∧(∀cs∈L,RdC enc P w base sp held e cs)∧L.length*P.bytesOf e≤reachBytes:=by
 obtain⟨n,x,h,hw⟩:=h
 rcases Go.Deep.open_slice ht h with ⟨h1,_⟩| ⟨a,len,cap,m,q,D,Pl,h1,_,hl,hm,hmm,rfl,hx⟩
 ·simp only[List.cons.injEq,and_true]at h1
  subst h1
  exact⟨[],⟨Option.none,0,rfl,Nat.le_refl _,fun j h=>by simp at h⟩,fun u h=>(by cases h),by simp⟩
 ·simp only[List.cons.injEq,and_true]at h1
  subst h1
  have hml:len≤m:=by rw[hmm];split<;>omega
  simp only[DataW.weights,ht]at hw
  rw[hc]at hx
  obtain⟨V,hV⟩:=Go.Deep.choose_lt (α:=List Value) (p:=fun i cs=>w.cells? base (a.add (i*k)) k=some cs∧DataW.trod enc P w base sp held q e cs=some (D i,Pl i)) hx
  refine⟨(List.range len).map V,⟨some a,cap,by simp,by simpa using hl,fun j hj=>?_⟩,fun u hu=>?_,?_⟩
  ·simp at hj
   obtain⟨_,h2,h3⟩:=World.cells?_some (hV j (by omega)).1
   have e1:((List.range len).map V)[j]'(by simpa using hj)=V j:=by simp
   rw[e1]
   show zaQ w (a.add (j*k)) 0 k=_
   refine ziD k 0 h2 (fun i hi=>?_)
   rw[Nat.zero_add,h3 i (by omega)]
   exact List.getElem?_eq_getElem hi
  ·obtain⟨j,hj,rfl⟩:=List.mem_map.1 hu
   simp at hj
   refine⟨_,_,(hV j (by omega)).2,fun q hq=>hw q (List.mem_cons_of_mem _ (List.mem_append_left _ (zcN (d:=D j) ?_ hq)))⟩
   exact List.mem_map.2 ⟨j,by simpa using hj,rfl⟩
  ·have h1:=hw _ (List.mem_cons_self ..)
   have h2:((List.range len).map V).length*P.bytesOf e≤(((List.range len).map D).length+((List.range (m - len)).map fun j=>D (len+j)).length)*P.bytesOf e:=Nat.mul_le_mul (by simp) (Nat.le_refl _)
   omega
theorem zjF{e:TypeId}{fs:Array Field}{cs:List Value}(h:RdC enc P w base sp held e cs)(he:P.underlying e=some (.struct fs)):cs.length=P.cellsOf e∧∀(i:Nat) (f:Field),fs[i]? =some f→RdC enc P w base sp held f.type ((cs.drop f.offset).take (P.cellsOf f.type)):=by
 obtain⟨n,x,h,hw⟩:=h
 obtain⟨xs,m,_,rfl,hl,hxl,hf⟩:=DataW.trod_struct he h
 refine⟨hl,fun i f hfi=>?_⟩
 have hi:i<fs.size:=(Array.getElem?_eq_some_iff.1 hfi).1
 have h1:=hf i f hfi
 rw[List.getElem?_eq_getElem (by omega)]at h1
 refine⟨m,_,h1,fun k hk=>hw k ?_⟩
 simp only[DataW.weights,he]
 refine DataW.weights_mem_each (ts:=fs.toList.map (·.type)) (ds:=xs.map (·.1)) (j:=i) (t:=f.type) (d:=xs[i].1) ?_ ?_ k hk
 ·rw[List.getElem?_map]
  rw[show fs.toList[i]? =some f from by simpa using hfi];rfl
 ·rw[List.getElem?_map,List.getElem?_eq_getElem (by omega)];rfl
theorem zlU{t:TypeId}{k:IntKind}{cs:List Value}(h:RdC enc P w base sp held t cs)(ht:P.underlying t=some (.int k)):∃n,cs=[.int k n]∧(Lit.int k n).wf=true:=by
 obtain⟨n,x,h,_⟩:=h
 obtain⟨m,h1,_,h2⟩:=DataW.trod_int ht h
 exact⟨m,h1,h2⟩
end
end Go.Proofs.YtkpdfhbpdkifoaaGreatDoor
